/-
  The statements on lengths and octaves, as walks. Conditions: in each statement.
-/
import Derived.Test.YtemfebbakfhknaaDoorScaG
set_option linter.unusedSimpArgs false
set_option linter.unusedVariables false
namespace Go.Proofs.YtemfebbakfhknaaDoor
open Go Go.Am Go.Vm Go.Sca
attribute [local irreducible] VVal VOps VOpsD VWp VCalls VFun VFunV QSeq QBlk QLoop Vm.Done DoneV DoneI
attribute [local irreducible] hvl mea me rnd rk lo fstN
theorem long_key {k den B:Nat} {n:Int} (hk:k<10000001):(cmpI (((2*k+1)*den) ^ 12*2 ^ n.toNat) B≤0)↔k<rnd (sl den 12 n) B 12:=by
 rw [cmpI_le]
 have e:=rnd_iff (A:=sl den 12 n) (B:=B) (h:=12) hk
 unfold gt sl at e
 rw [Nat.mul_pow,Nat.mul_comm ((2*k+1) ^ 12),Nat.mul_right_comm]
 unfold sl
 rw [e];omega
set_option maxRecDepth 100000 in
set_option maxHeartbeats 1000000 in
theorem llong_spec (x:Frac) (u n r:Int) (hx:1≤x.num∧x.num≤1000) (hd:1≤x.den∧x.den≤1000) (hu:1≤u∧u≤10000) (hn:wOk n) (hr:1≤r∧r≤10000001) :
 VFun env 21 [.agg (Enc.enc x),.int .i64 u,.int .i64 n,.int .i64 r] (.p (.bool (decide (r-1<((lenM x u n:Nat):Int))))):=by
 have hn':wOk (-n):=⟨by have:=hn.2;omega,by have:=hn.1;omega⟩
 obtain ⟨k,hk⟩:∃ k:Nat,r=(k:Int)+1:=⟨(r-1).toNat,by omega⟩
 obtain ⟨d,hde⟩:∃ d:Nat,x.den=d:=⟨x.den.toNat,by omega⟩
 obtain ⟨p,hpe⟩:∃ p:Nat,x.num=p:=⟨x.num.toNat,by omega⟩
 obtain ⟨w,hwe⟩:∃ w:Nat,u=w:=⟨u.toNat,by omega⟩
 have b1:(2*k+1)*d≤20000001*1000:=Nat.mul_le_mul (by omega) (by omega)
 have b2:w*p≤10000*1000:=Nat.mul_le_mul (by omega) (by omega)
 have c1:(((2*k+1)*d:Nat):Int)=(2*r-1)*x.den:=by
  rw [hde,Int.natCast_mul,show ((2*k+1:Nat):Int)=2*r-1 by omega]
 have c2:((2*(w*p):Nat):Int)=2*u*x.num:=by
  rw [hpe,hwe,Int.natCast_mul,Int.natCast_mul,Int.mul_assoc];rfl
 have hm:(2*k+1)*d<1000000000000000000:=by omega
 have hm2:2*(w*p)<1000000000000000000:=by omega
 have q1:=lpower_spec ((2*k+1)*d) 12 n hm (by decide) hn
 have q2:=lpower_spec (2*(w*p)) 12 (-n) hm2 (by decide) hn'
 rw [c1] at q1
 rw [c2] at q2
 have c:=compare_spec (((2*k+1)*d) ^ 12*2 ^ n.toNat) ((2*(w*p)) ^ 12*2 ^ (-n).toNat) (nd_side hm (by decide) hn) (nd_side hm2 (by decide) hn')
 have key:=long_key (k:=k) (den:=d) (B:=(2*(w*p)) ^ 12*2 ^ (-n).toNat) (n:=n) (by omega)
 have e:lenM x u n=rnd (sl d 12 n) ((2*(w*p)) ^ 12*2 ^ (-n).toNat) 12:=by
  unfold lenM
  rw [hde,hpe,hwe];unfold me;rfl
 rw [← e] at key
 have z1:-9223372036854775808≤(2*r-1)*x.den∧(2*r-1)*x.den<9223372036854775808:=by rw [← c1];omega
 have z2:-9223372036854775808≤2*u*x.num∧2*u*x.num<9223372036854775808:=by rw [← c2];omega
 obtain ⟨hn1,hn2⟩:=hn
 refine VFun.enter (env_none (by decide)) Tryd.func21 rfl (by kernel_rfl) (by simp [Tryd.ntmps21]) ?_
 repeat' (first
  |apply VWp.rseq
  |apply VWp.rseqD
  |apply VWp.ret
  |apply VOps.nil
  |apply VOpsD.nil
  |apply VOps.one
  |(apply VOpsD.bar;decide +kernel)
  |apply VOpsD.quiet
  |(apply VVal.fn;rfl;rfl;exact q1;intro _;rfl)
  |(apply VVal.fn;rfl;rfl;exact q2;intro _;rfl)
  |(apply VVal.fn;rfl;rfl;exact c;intro _;rfl)
  |(apply VVal.assign;rfl)
  |(apply VVal.move;rfl)
  |(apply VVal.sub64;rfl;rfl;omega)
  |(apply VVal.mul64;rfl;rfl;omega)
  |(apply VVal.int;rfl;rfl;rfl)
  |(apply VVal.load;rfl;rfl)
  |(apply VVal.fieldB;rfl;rfl;rfl)
  |(apply VVal.box;rfl;trivial)
  |(apply VVal.neg;rfl;omega))
 all_goals (refine Done.ret rfl (.refl _) (by first|exact trivial|exact ⟨trivial,trivial,trivial⟩|exact ⟨trivial,trivial,trivial,trivial⟩) HCov.nil (Nat.zero_le _) (Nat.le_refl _) ⟨?_,rfl,rfl⟩;exact PV.bool_eq (decide_eq_decide.2 (key.trans (by omega))))
set_option maxRecDepth 100000 in
set_option maxHeartbeats 1000000 in
theorem lengths_spec (x:Frac) (u n:Int):VFun env 5 [.agg (Enc.enc x),.int .i64 u,.int .i64 n] (.p (.bool true)):=by
 have hk:=known_spec
 have hl:=sLength_spec x u n
 have hc:=fcheck_spec x
 have hw:=lwithin_spec n
 by_cases h1:fOk x
 ·rw [show fchk x=0 from if_pos h1] at hc
  have h1':=h1
  obtain ⟨h2,h3,h4,h5,-⟩:=h1'
  by_cases h6:x.num≤0∨x.num>64*x.den∨u<1∨u>10000∨¬ wOk n
  ·have hE:lenE x u n=3:=by unfold lenE;rw [if_neg (Classical.not_not.2 h1),if_pos h6]
   rw [show lenR x u n=(0,3) by unfold lenR;rw [hE,if_neg (by decide)]] at hl
   by_cases h7:wOk n
   ·rw [decide_eq_true h7] at hw
    have h6':x.num≤0∨x.num>64*x.den∨u<1∨u>10000:=by
     rcases h6 with h|h|h|h|h
     ·exact .inl h
     ·exact .inr (.inl h)
     ·exact .inr (.inr (.inl h))
     ·exact .inr (.inr (.inr h))
     ·exact absurd h7 h
    refine VFun.enter (env_none (by decide)) Tryd.func5 rfl (by kernel_rfl) (by simp [Tryd.ntmps5]) ?_
    repeat' (first
     |apply VWp.assoc
     |apply VWp.rseq
     |apply VWp.skipSeq
     |apply VWp.retSeq
     |apply VOps.nil
     |apply VOps.one
     |(apply VOps.take;rfl;rfl)
     |(apply VOps.drop;rfl;rfl;rfl)
     |(apply VOps.guard;rfl;rfl)
     |(apply VOps.dropU;rfl;rfl)
     |(apply VVal.fn;rfl;rfl;exact hk;intro _;rfl)
     |(apply VVal.fn;rfl;rfl;exact hl;intro _;rfl)
     |(apply VVal.fn;rfl;rfl;exact hc;intro _;rfl)
     |(apply VVal.assign;rfl)
     |(apply VVal.move;rfl)
     |(apply VVal.mul64;rfl;rfl;omega)
     |(apply VVal.int;rfl;rfl;rfl)
     |(apply VVal.load;rfl;rfl)
     |(apply VVal.pick_true;rfl;rfl)
     |(apply VVal.pick_false;rfl;rfl)
     |(apply VVal.fieldB;rfl;rfl;rfl)
     |(apply VVal.box;rfl;trivial)
     |(apply VVal.not;rfl)
     |(apply VVal.extract;rfl;rfl)
     |(apply VWp.condSeq_true;rfl)
     |(apply VWp.condSeq_false;rfl)
     |(intro _;try (exfalso;omega)))
    all_goals first|(exfalso;omega)|(refine Done.ret rfl (.refl _) (by first|exact trivial|exact ⟨trivial,trivial,trivial⟩|exact ⟨trivial,trivial,trivial,trivial⟩) HCov.nil (Nat.zero_le _) (Nat.le_refl _) ⟨?_,rfl,rfl⟩;try rfl)
   ·rw [decide_eq_false h7] at hw
    refine VFun.enter (env_none (by decide)) Tryd.func5 rfl (by kernel_rfl) (by simp [Tryd.ntmps5]) ?_
    repeat' (first
     |apply VWp.assoc
     |apply VWp.rseq
     |apply VWp.skipSeq
     |apply VWp.retSeq
     |apply VOps.nil
     |apply VOps.one
     |(apply VOps.take;rfl;rfl)
     |(apply VOps.drop;rfl;rfl;rfl)
     |(apply VOps.guard;rfl;rfl)
     |(apply VOps.dropU;rfl;rfl)
     |(apply VVal.fn;rfl;rfl;exact hk;intro _;rfl)
     |(apply VVal.fn;rfl;rfl;exact hl;intro _;rfl)
     |(apply VVal.fn;rfl;rfl;exact hc;intro _;rfl)
     |(apply VVal.fn;rfl;rfl;exact hw;intro _;rfl)
     |(apply VVal.assign;rfl)
     |(apply VVal.move;rfl)
     |(apply VVal.mul64;rfl;rfl;omega)
     |(apply VVal.int;rfl;rfl;rfl)
     |(apply VVal.load;rfl;rfl)
     |(apply VVal.pick_true;rfl;rfl)
     |(apply VVal.pick_false;rfl;rfl)
     |(apply VVal.fieldB;rfl;rfl;rfl)
     |(apply VVal.box;rfl;trivial)
     |(apply VVal.not;rfl)
     |(apply VVal.extract;rfl;rfl)
     |(apply VWp.condSeq_true;rfl)
     |(apply VWp.condSeq_false;rfl)
     |(intro _;try (exfalso;omega)))
    all_goals first|(exfalso;omega)|(refine Done.ret rfl (.refl _) (by first|exact trivial|exact ⟨trivial,trivial,trivial⟩|exact ⟨trivial,trivial,trivial,trivial⟩) HCov.nil (Nat.zero_le _) (Nat.le_refl _) ⟨?_,rfl,rfl⟩;try rfl)
  ·have h8:0<x.num∧x.num≤64*x.den∧1≤u∧u≤10000∧wOk n:=by
    refine ⟨?_,?_,?_,?_,?_⟩
    ·exact Int.not_le.1 fun h=>h6 (.inl h)
    ·exact Int.not_lt.1 fun h=>h6 (.inr (.inl h))
    ·exact Int.not_lt.1 fun h=>h6 (.inr (.inr (.inl h)))
    ·exact Int.not_lt.1 fun h=>h6 (.inr (.inr (.inr (.inl h))))
    ·exact Classical.not_not.1 fun h=>h6 (.inr (.inr (.inr (.inr h))))
   obtain ⟨a1,a2,a3,a4,a5⟩:=h8
   rw [decide_eq_true a5] at hw
   by_cases h9:x.num>1000∨x.den>1000
   ·have hE:lenE x u n=4:=by unfold lenE;rw [if_neg (Classical.not_not.2 h1),if_neg h6,if_pos h9]
    rw [show lenR x u n=(0,4) by unfold lenR;rw [hE,if_neg (by decide)]] at hl
    refine VFun.enter (env_none (by decide)) Tryd.func5 rfl (by kernel_rfl) (by simp [Tryd.ntmps5]) ?_
    repeat' (first
     |apply VWp.assoc
     |apply VWp.rseq
     |apply VWp.skipSeq
     |apply VWp.retSeq
     |apply VOps.nil
     |apply VOps.one
     |(apply VOps.take;rfl;rfl)
     |(apply VOps.drop;rfl;rfl;rfl)
     |(apply VOps.guard;rfl;rfl)
     |(apply VVal.fn;rfl;rfl;exact hk;intro _;rfl)
     |(apply VVal.fn;rfl;rfl;exact hl;intro _;rfl)
     |(apply VVal.fn;rfl;rfl;exact hc;intro _;rfl)
     |(apply VVal.fn;rfl;rfl;exact hw;intro _;rfl)
     |(apply VVal.assign;rfl)
     |(apply VVal.move;rfl)
     |(apply VVal.mul64;rfl;rfl;omega)
     |(apply VVal.int;rfl;rfl;rfl)
     |(apply VVal.load;rfl;rfl)
     |(apply VVal.pick_true;rfl;rfl)
     |(apply VVal.pick_false;rfl;rfl)
     |(apply VVal.fieldB;rfl;rfl;rfl)
     |(apply VVal.box;rfl;trivial)
     |(apply VVal.not;rfl)
     |(apply VVal.extract;rfl;rfl)
     |(apply VWp.condSeq_true;rfl)
     |(apply VWp.condSeq_false;rfl)
     |(apply VWp.condSeq_dec;rfl)
     |(intro _;try (exfalso;omega)))
    all_goals first|(exfalso;omega)|(refine Done.ret rfl (.refl _) (by first|exact trivial|exact ⟨trivial,trivial,trivial⟩|exact ⟨trivial,trivial,trivial,trivial⟩) HCov.nil (Nat.zero_le _) (Nat.le_refl _) ⟨?_,rfl,rfl⟩;try rfl)
   ·have hE:lenE x u n=0:=by unfold lenE;rw [if_neg (Classical.not_not.2 h1),if_neg h6,if_neg h9]
    have b1:x.num≤1000:=Int.not_lt.1 fun h=>h9 (.inl h)
    have b2:x.den≤1000:=Int.not_lt.1 fun h=>h9 (.inr h)
    have hlg:=fun r hr=>llong_spec x u n r ⟨by omega,b1⟩ ⟨by omega,b2⟩ ⟨a3,a4⟩ a5 hr
    have hR:lenR x u n=if lenM x u n≤10000000 then ((lenM x u n:Int),0) else (0,4):=by unfold lenR;rw [if_pos hE]
    have g0:=hlg 10000001 (by omega)
    generalize lenM x u n=M at *
    by_cases hM:M≤10000000
    ·rw [if_pos hM] at hR
     rw [hR] at hl
     rw [decide_eq_false (show ¬ (10000001:Int)-1<(M:Int) by omega)] at g0
     have g1:=hlg ((M:Int)+1) (by omega)
     rw [decide_eq_false (show ¬ (M:Int)+1-1<(M:Int) by omega)] at g1
     have g2:0<M→VFun env 21 [.agg (Enc.enc x),.int .i64 u,.int .i64 n,.int .i64 (M:Int)] (.p (.bool true)):=fun h=>by
      have:=hlg (M:Int) (by omega)
      rwa [decide_eq_true (show (M:Int)-1<(M:Int) by omega)] at this
     refine VFun.enter (env_none (by decide)) Tryd.func5 rfl (by kernel_rfl) (by simp [Tryd.ntmps5]) ?_
     repeat' (first
      |apply VWp.assoc
      |apply VWp.rseq
      |apply VWp.skipSeq
      |apply VWp.ret
      |apply VOps.nil
      |apply VOps.one
      |(apply VOps.take;rfl;rfl)
      |(apply VOps.drop;rfl;rfl;rfl)
      |(apply VOps.guard;rfl;rfl)
      |(apply VVal.fn;rfl;rfl;exact hk;intro _;rfl)
      |(apply VVal.fn;rfl;rfl;exact hl;intro _;rfl)
      |(apply VVal.fn;rfl;rfl;exact hc;intro _;rfl)
      |(apply VVal.fn;rfl;rfl;exact hw;intro _;rfl)
      |(apply VVal.fn;rfl;rfl;exact g0;intro _;rfl)
      |(apply VVal.fn;rfl;rfl;exact g1;intro _;rfl)
      |(apply VVal.fn;rfl;rfl;exact g2 (by omega);intro _;rfl)
      |(apply VVal.assign;rfl)
      |(apply VVal.move;rfl)
      |(apply VVal.add64;rfl;rfl;omega)
      |(apply VVal.mul64;rfl;rfl;omega)
      |(apply VVal.int;rfl;rfl;rfl)
      |(apply VVal.load;rfl;rfl)
      |(apply VVal.pick_true;rfl;rfl)
      |(apply VVal.pick_false;rfl;rfl)
      |(apply VVal.fieldB;rfl;rfl;rfl)
      |(apply VVal.box;rfl;trivial)
      |(apply VVal.not;rfl)
      |(apply VVal.extract;rfl;rfl)
      |(apply VWp.condSeq_false;rfl)
      |(apply VWp.condSeq_dec;rfl)
      |(intro _;try (exfalso;omega)))
     all_goals first|(exfalso;omega)|(refine Done.ret rfl (.refl _) (by first|exact trivial|exact ⟨trivial,trivial,trivial⟩|exact ⟨trivial,trivial,trivial,trivial⟩) HCov.nil (Nat.zero_le _) (Nat.le_refl _) ⟨?_,rfl,rfl⟩;try rfl)
    ·rw [if_neg hM] at hR
     rw [hR] at hl
     rw [decide_eq_true (show (10000001:Int)-1<(M:Int) by omega)] at g0
     refine VFun.enter (env_none (by decide)) Tryd.func5 rfl (by kernel_rfl) (by simp [Tryd.ntmps5]) ?_
     repeat' (first
      |apply VWp.assoc
      |apply VWp.rseq
      |apply VWp.skipSeq
      |apply VWp.retSeq
      |apply VOps.nil
      |apply VOps.one
      |(apply VOps.take;rfl;rfl)
      |(apply VOps.guard;rfl;rfl)
      |(apply VVal.fn;rfl;rfl;exact hk;intro _;rfl)
      |(apply VVal.fn;rfl;rfl;exact hl;intro _;rfl)
      |(apply VVal.fn;rfl;rfl;exact hc;intro _;rfl)
      |(apply VVal.fn;rfl;rfl;exact hw;intro _;rfl)
      |(apply VVal.fn;rfl;rfl;exact g0;intro _;rfl)
      |(apply VVal.assign;rfl)
      |(apply VVal.move;rfl)
      |(apply VVal.mul64;rfl;rfl;omega)
      |(apply VVal.int;rfl;rfl;rfl)
      |(apply VVal.load;rfl;rfl)
      |(apply VVal.pick_true;rfl;rfl)
      |(apply VVal.pick_false;rfl;rfl)
      |(apply VVal.fieldB;rfl;rfl;rfl)
      |(apply VVal.box;rfl;trivial)
      |(apply VVal.not;rfl)
      |(apply VVal.extract;rfl;rfl)
      |(apply VWp.condSeq_true;rfl)
      |(apply VWp.condSeq_false;rfl)
      |(apply VWp.condSeq_dec;rfl)
      |(intro _;try (exfalso;omega)))
     all_goals first|(exfalso;omega)|(refine Done.ret rfl (.refl _) (by first|exact trivial|exact ⟨trivial,trivial,trivial⟩|exact ⟨trivial,trivial,trivial,trivial⟩) HCov.nil (Nat.zero_le _) (Nat.le_refl _) ⟨?_,rfl,rfl⟩;try rfl)
 ·rw [show fchk x=2 from if_neg h1] at hc
  have hE:lenE x u n=2:=by unfold lenE;rw [if_pos h1]
  rw [show lenR x u n=(0,2) by unfold lenR;rw [hE,if_neg (by decide)]] at hl
  refine VFun.enter (env_none (by decide)) Tryd.func5 rfl (by kernel_rfl) (by simp [Tryd.ntmps5]) ?_
  repeat' (first
   |apply VWp.assoc
   |apply VWp.rseq
   |apply VWp.skipSeq
   |apply VWp.retSeq
   |apply VOps.nil
   |apply VOps.one
   |(apply VOps.take;rfl;rfl)
   |(apply VOps.drop;rfl;rfl;rfl)
   |(apply VOps.dropU;rfl;rfl)
   |(apply VVal.fn;rfl;rfl;exact hk;intro _;rfl)
   |(apply VVal.fn;rfl;rfl;exact hl;intro _;rfl)
   |(apply VVal.fn;rfl;rfl;exact hc;intro _;rfl)
   |(apply VVal.assign;rfl)
   |(apply VVal.move;rfl)
   |(apply VVal.int;rfl;rfl;rfl)
   |(apply VVal.load;rfl;rfl)
   |(apply VVal.pick_true;rfl;rfl)
   |(apply VVal.pick_false;rfl;rfl)
   |(apply VVal.box;rfl;trivial)
   |(apply VVal.not;rfl)
   |(apply VVal.extract;rfl;rfl)
   |(apply VWp.condSeq_true;rfl)
   |(apply VWp.condSeq_false;rfl))
  all_goals first|(exfalso;omega)|(refine Done.ret rfl (.refl _) (by first|exact trivial|exact ⟨trivial,trivial,trivial⟩|exact ⟨trivial,trivial,trivial,trivial⟩) HCov.nil (Nat.zero_le _) (Nat.le_refl _) ⟨?_,rfl,rfl⟩;try rfl)
end Go.Proofs.YtemfebbakfhknaaDoor
