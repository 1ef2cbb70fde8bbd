/-
  The layer of pitches, as ranks use it: Check, both, shift, Shift. Conditions: in each statement.
-/
import Derived.Test.YtcnlhgmkelkikaaGreatDoorIntB
import Derived.Test.YtcnlhgmkelkikaaGreatDoorFraA
import Derived.Test.YtcnlhgmkelkikaaGreatDoorVmE
set_option linter.unusedSimpArgs false
set_option linter.unusedVariables false
namespace Go.Proofs.YtcnlhgmkelkikaaGreatDoor
open Go Go.Am Go.Vm
attribute [local irreducible] VVal VOps VOpsD VWp VCalls VFun VFunV QSeq QBlk QLoop Vm.Done DoneV DoneI
def pOk (x:Frac):Prop:=fOk x∧0<x.num∧x.num≤128*x.den∧x.den≤128
instance (x:Frac):Decidable (pOk x):=by unfold pOk;infer_instance
def pchk (x:Frac):Int:=if ¬ fOk x then 2 else if x.num≤0∨x.num>128*x.den then 3 else if x.den>128 then 4 else 0
theorem pchk_ok {x:Frac}:pchk x=0↔pOk x:=by
 unfold pchk pOk
 by_cases h1:fOk x
 ·rw [if_neg (Classical.not_not.2 h1)]
  split
  ·constructor
   ·intro h;cases h
   ·rintro ⟨_,_,_,_⟩;omega
  ·split
   ·constructor
    ·intro h;cases h
    ·rintro ⟨_,_,_,_⟩;omega
   ·exact ⟨fun _=>⟨h1,by omega,by omega,by omega⟩,fun _=>rfl⟩
 ·rw [if_pos h1]
  exact ⟨fun h=>(by cases h),fun h=>absurd h.1 h1⟩
set_option maxRecDepth 100000 in
theorem pcheck_spec (x:Frac):VFun env 94 [.agg (Enc.enc x)] (.p (.int .i64 (pchk x))):=by
 have hc:=fcheck_spec x
 refine VFun.enter (env_none (by decide)) Tryz.func94 rfl (by kernel_rfl) (by simp [Tryz.ntmps94]) ?_
 by_cases h1:fOk x
 ·rw [show fchk x=0 from if_pos h1] at hc
  have h1':=h1
  obtain ⟨h2,h3,h4,h5,-⟩:=h1'
  have e:pchk x=if x.num≤0∨x.num>128*x.den then 3 else if x.den>128 then 4 else 0:=by unfold pchk;rw [if_neg (Classical.not_not.2 h1)]
  rw [e]
  repeat' (first
   |apply VWp.rseq
   |apply VWp.blockSeq
   |apply QSeq.normal
   |apply QSeq.ret
   |apply QBlk.normal
   |apply QBlk.ret
   |apply VWp.ret
   |apply VWp.skip
   |apply VOps.nil
   |apply VOps.one
   |(apply VOps.take;rfl;rfl)
   |(apply VOps.drop;rfl;rfl;rfl)
   |(apply VOps.guard;rfl;rfl)
   |(apply VVal.fn;rfl;rfl;exact hc;intro _;rfl)
   |(apply VVal.assign;rfl)
   |(apply VVal.move;rfl)
   |(apply VVal.mul64;rfl;rfl;omega)
   |(apply VVal.int;rfl;rfl;rfl)
   |(apply VVal.load;rfl;rfl)
   |(apply VVal.pick_true;rfl;rfl)
   |(apply VVal.pick_false;rfl;rfl)
   |(apply VVal.fieldB;rfl;rfl;rfl)
   |(apply VVal.box;rfl;trivial)
   |(apply VWp.cond_true;rfl)
   |(apply VWp.cond_false;rfl)
   |(apply VWp.cond_dec;rfl)
   |(intro _;try (exfalso;omega)))
  all_goals first|(exfalso;omega)|(rw [if_pos (by omega)];(refine Done.ret rfl (.refl _) (by first|exact trivial|exact ⟨trivial,trivial,trivial⟩|exact ⟨trivial,trivial,trivial,trivial⟩) HCov.nil (Nat.zero_le _) (Nat.le_refl _) ⟨?_,rfl,rfl⟩;try rfl);done)|(rw [if_neg (by omega),if_pos (by omega)];(refine Done.ret rfl (.refl _) (by first|exact trivial|exact ⟨trivial,trivial,trivial⟩|exact ⟨trivial,trivial,trivial,trivial⟩) HCov.nil (Nat.zero_le _) (Nat.le_refl _) ⟨?_,rfl,rfl⟩;try rfl);done)|(rw [if_neg (by omega),if_neg (by omega)];(refine Done.ret rfl (.refl _) (by first|exact trivial|exact ⟨trivial,trivial,trivial⟩|exact ⟨trivial,trivial,trivial,trivial⟩) HCov.nil (Nat.zero_le _) (Nat.le_refl _) ⟨?_,rfl,rfl⟩;try rfl);done)
 ·rw [show fchk x=2 from if_neg h1] at hc
  rw [show pchk x=2 from if_pos h1]
  repeat' (first
   |apply VWp.rseq
   |apply VWp.blockSeq
   |apply QSeq.ret
   |apply QBlk.ret
   |apply VWp.ret
   |apply VOps.nil
   |apply VOps.one
   |(apply VVal.fn;rfl;rfl;exact hc;intro _;rfl)
   |(apply VVal.assign;rfl)
   |(apply VVal.int;rfl;rfl;rfl)
   |(apply VVal.load;rfl;rfl)
   |(apply VVal.box;rfl;trivial)
   |(apply VWp.cond_true;rfl))
  all_goals (refine Done.ret rfl (.refl _) (by first|exact trivial|exact ⟨trivial,trivial,trivial⟩|exact ⟨trivial,trivial,trivial,trivial⟩) HCov.nil (Nat.zero_le _) (Nat.le_refl _) ⟨?_,rfl,rfl⟩;try rfl)
def bothR (x y:Frac):Int:=if pchk x≠0 then pchk x else pchk y
set_option maxRecDepth 100000 in
theorem pboth_spec (x y:Frac):VFun env 101 [.agg (Enc.enc x),.agg (Enc.enc y)] (.p (.int .i64 (bothR x y))):=by
 have h1:=pcheck_spec x
 have h2:=pcheck_spec y
 unfold bothR
 refine VFun.enter (env_none (by decide)) Tryz.func101 rfl (by kernel_rfl) (by simp [Tryz.ntmps101]) ?_
 repeat' (first
  |apply VWp.assoc
  |apply VWp.rseq
  |apply VWp.skipSeq
  |apply VWp.retSeq
  |apply VWp.ret
  |apply VOps.nil
  |apply VOps.one
  |(apply VVal.fn;rfl;rfl;exact h1;intro _;rfl)
  |(apply VVal.fn;rfl;rfl;exact h2;intro _;rfl)
  |(apply VVal.assign;rfl)
  |(apply VVal.move;rfl)
  |(apply VVal.int;rfl;rfl;rfl)
  |(apply VVal.load;rfl;rfl)
  |(apply VVal.box;rfl;trivial)
  |(apply VWp.condSeq_dec;rfl)
  |(intro _;try (exfalso;omega)))
 all_goals first|(rw [if_pos (by assumption)];(refine Done.ret rfl (.refl _) (by first|exact trivial|exact ⟨trivial,trivial,trivial⟩|exact ⟨trivial,trivial,trivial,trivial⟩) HCov.nil (Nat.zero_le _) (Nat.le_refl _) ⟨?_,rfl,rfl⟩;try rfl);done)|(rw [if_neg (by assumption)];(refine Done.ret rfl (.refl _) (by first|exact trivial|exact ⟨trivial,trivial,trivial⟩|exact ⟨trivial,trivial,trivial,trivial⟩) HCov.nil (Nat.zero_le _) (Nat.le_refl _) ⟨?_,rfl,rfl⟩;try rfl);done)
def sh1 (den:Nat):Nat→Nat→Int→Nat×Int
 |0,num,n=>(num,n)
 |f+1,num,n=>if num<den then sh1 den f (num*2) (n-12) else (num,n)
def sh2 (num:Nat):Nat→Nat→Int→Nat×Int
 |0,den,n=>(den,n)
 |f+1,den,n=>if 2*den≤num then sh2 num f (den*2) (n+12) else (den,n)
def sh3 (p:Nat):Nat→Nat→Int→Int
 |0,l,n=>n
 |f+1,l,n=>if l<p then sh3 p f (l*4) (n+1) else n
def shN (num den:Nat):Int :=
 let a:=sh1 den 30 num 0
 let b:=sh2 a.1 30 den a.2
 sh3 (a.1 ^ 24) 30 (b.1 ^ 24*2) b.2
def shz (x y:Frac):Int:=shN (y.num*x.den).toNat (y.den*x.num).toNat
theorem cmpI_pos (a b:Nat):cmpI a b>0↔b<a:=by
 unfold cmpI
 split
 ·omega
 ·split<;>omega
theorem nd_le {n k:Nat} (hk:0<k) (h:n<10 ^ k):Lib.nDigits n≤k:=by
 rcases Nat.eq_zero_or_pos n with h0|h0
 ·subst h0;rw [Lib.nDigits_small (by decide)];exact hk
 ·have h1:=Num.pow_le_of_nDigits n (by omega)
  have h2:10 ^ (Lib.nDigits n-1)<10 ^ k:=Nat.lt_of_le_of_lt h1 h
  have h3:=(Nat.pow_lt_pow_iff_right (a:=10) (by decide)).1 h2
  omega
theorem nd_pow {n k e:Nat} (hk:0<k) (h:n<10 ^ k) (he:e≤100):Lib.nDigits (n ^ e)≤k*100:=by
 rcases Nat.eq_zero_or_pos e with h0|h0
 ·subst h0;rw [Nat.pow_zero,Lib.nDigits_small (by decide)];omega
 ·refine nd_le (by omega) ?_
  have h1:n ^ e<(10 ^ k) ^ e:=Nat.pow_lt_pow_left h (by omega)
  rw [← Nat.pow_mul] at h1
  exact Nat.lt_of_lt_of_le h1 (Nat.pow_le_pow_right (by decide) (Nat.mul_le_mul_left _ he))
theorem nd_mul {a b j k:Nat} (ha:Lib.nDigits a≤j) (hb:Lib.nDigits b≤k):Lib.nDigits (a*b)≤j+k:=by
 have h1:=Lib.lt_pow_nDigits a
 have h2:=Lib.lt_pow_nDigits b
 have hp:=Lib.nDigits_pos a
 refine nd_le (by omega) ?_
 rw [Nat.pow_add]
 have h3:a<10 ^ j:=Nat.lt_of_lt_of_le h1 (Nat.pow_le_pow_right (by decide) ha)
 have h4:b<10 ^ k:=Nat.lt_of_lt_of_le h2 (Nat.pow_le_pow_right (by decide) hb)
 exact Nat.mul_lt_mul_of_lt_of_le h3 (Nat.le_of_lt h4) (Nat.pow_pos (by decide))
set_option maxRecDepth 100000 in
set_option maxHeartbeats 2000000 in
theorem shift_spec (x y:Frac) (hx:pOk x) (hy:pOk y):VFun env 102 [.agg (Enc.enc x),.agg (Enc.enc y)] (.p (.int .i64 (shz x y))):=by
 obtain ⟨⟨f1,-⟩,f2,f3,f4⟩:=hx
 obtain ⟨⟨g1,-⟩,g2,g3,g4⟩:=hy
 obtain ⟨xn,hxn⟩:∃ k:Nat,x.num=k:=⟨x.num.toNat,by omega⟩
 obtain ⟨xd,hxd⟩:∃ k:Nat,x.den=k:=⟨x.den.toNat,by omega⟩
 obtain ⟨yn,hyn⟩:∃ k:Nat,y.num=k:=⟨y.num.toNat,by omega⟩
 obtain ⟨yd,hyd⟩:∃ k:Nat,y.den=k:=⟨y.den.toNat,by omega⟩
 have b1:yn*xd≤16384*128:=Nat.mul_le_mul (by omega) (by omega)
 have b2:yd*xn≤128*16384:=Nat.mul_le_mul (by omega) (by omega)
 have p1:0<yn*xd:=Nat.mul_pos (by omega) (by omega)
 have p2:0<yd*xn:=Nat.mul_pos (by omega) (by omega)
 have c1:y.num*x.den=((yn*xd:Nat):Int):=by rw [hyn,hxd,Int.natCast_mul]
 have c2:y.den*x.num=((yd*xn:Nat):Int):=by rw [hyd,hxn,Int.natCast_mul]
 have e:shz x y=shN (yn*xd) (yd*xn):=by unfold shz;rw [c1,c2];rfl
 rw [e]
 generalize yn*xd=num at *
 generalize yd*xn=den at *
 have z1:-9223372036854775808≤y.num*x.den∧y.num*x.den<9223372036854775808:=by omega
 have z2:-9223372036854775808≤y.den*x.num∧y.den*x.num<9223372036854775808:=by omega
 refine VFun.enter (env_none (by decide)) Tryz.func102 rfl (by kernel_rfl) (by simp [Tryz.ntmps102]) ?_
 repeat' (first
  |apply VWp.rseq
  |apply VWp.rseqD
  |apply VWp.blockSeq
  |apply VOps.nil
  |apply VOpsD.nil
  |apply VOps.one
  |(apply VOpsD.bar;decide +kernel)
  |apply VOpsD.quiet
  |(apply VVal.assign;rfl)
  |(apply VVal.mul64;rfl;rfl;omega)
  |(apply VVal.load;rfl;rfl)
  |(apply VVal.fieldB;rfl;rfl;rfl)
  |(apply VVal.box;rfl;trivial))
 refine VWp.loopQ (fun s:Nat×Nat=>[(5,.p (.int .i64 (s.2:Int))),(6,.p (.int .i64 (den:Int))),(7,.p (.int .i64 (-(12*(s.1:Int)))))]) (fun _=>[]) 0 (fun s=>s.1≤22∧s.2=num*2 ^ s.1∧s.2≤4194304∧sh1 den (30-s.1) s.2 (-(12*(s.1:Int)))=sh1 den 30 num 0) (fun s=>30-s.1) (0,num) (by omega) ⟨by omega,by simp,by simp only;omega,by simp⟩ ⟨by omega,?_,?_⟩ ?_
 ·simp only [c1,c2];repeat (first|exact LCov.nil|refine LCov.same trivial rfl ?_|refine LCov.same (lt_dec rfl) rfl ?_|refine LCov.same ⟨trivial,lt_dec rfl,lt_dec rfl,lt_dec rfl,trivial⟩ rfl ?_|refine LCov.same ⟨trivial,lt_dec rfl,lt_dec rfl,trivial⟩ rfl ?_|refine LCov.same ⟨trivial,trivial⟩ rfl ?_|refine LCov.cons trivial rfl (.of_eq (lst_len (by simp<;>omega))) ?_)
 ·exact HCov.nil
 rintro ⟨i,m⟩ ⟨hi,hm,hm2,hs⟩
 simp only at hi hm hm2 hs
 have hpow:∀ a b c:Nat,0<a→a*2 ^ b≤c→2 ^ b≤c:=fun a b c ha h=>Nat.le_trans (Nat.le_mul_of_pos_left _ ha) h
 have h21:∀ b:Nat,2 ^ b≤2 ^ 21→b≤21:=fun b h=>(Nat.pow_le_pow_iff_right (by decide)).1 h
 have hmpos:0<m:=by rw [hm];exact Nat.mul_pos p1 (Nat.pow_pos (by decide))
 repeat' (first
  |apply VWp.assoc
  |apply VWp.rseq
  |apply VWp.region
  |apply VWp.skipSeq
  |apply VWp.exitSeq
  |apply VWp.blockSeq
  |apply QSeq.normal
  |apply QBlk.normal
  |apply QBlk.exit
  |apply QLoop.exit
  |apply VOps.nil
  |apply VOps.one
  |(apply VVal.assign;rfl)
  |(apply VVal.move;rfl)
  |(apply VVal.sub64;rfl;rfl;omega)
  |(apply VVal.mul64;rfl;rfl;omega)
  |(apply VVal.int;rfl;rfl;rfl)
  |(apply VWp.condSeq_dec;rfl)
  |(intro _;try (exfalso;omega)))
 ·rename_i a1
  simp only at a1
  have hi2:i≤20:=by
   have h1:num*2 ^ i<den:=by rw [← hm];omega
   have h2:2 ^ i<2 ^ 21:=Nat.lt_of_le_of_lt (hpow _ _ _ p1 (Nat.le_refl _)) (by omega)
   have:=(Nat.pow_lt_pow_iff_right (a:=2) (by decide)).1 h2
   omega
  have e7:-(12*((i+1:Nat):Int))=-(12*(i:Int))-12:=by omega
  refine QLoop.normal ⟨(i+1,m*2),⟨by simp only;omega,by simp only;rw [hm,Nat.pow_succ,Nat.mul_assoc],by simp only;omega,?_⟩,by simp only;omega,⟨by omega,?_,?_⟩⟩
  ·simp only
   rw [← hs,show 30-i=(30-(i+1))+1 by omega,e7]
   conv=>rhs;rw [sh1]
   rw [if_pos (by omega)]
  ·simp only [e7];repeat (first|exact LCov.nil|refine LCov.same trivial rfl ?_|refine LCov.same (lt_dec rfl) rfl ?_|refine LCov.same ⟨trivial,lt_dec rfl,lt_dec rfl,lt_dec rfl,trivial⟩ rfl ?_|refine LCov.same ⟨trivial,lt_dec rfl,lt_dec rfl,trivial⟩ rfl ?_|refine LCov.same ⟨trivial,trivial⟩ rfl ?_|refine LCov.cons trivial rfl (.of_eq (lst_len (by simp<;>omega))) ?_)
  ·exact HCov.nil
 ·rename_i a1
  simp only at a1
  have hs1:sh1 den 30 num 0=(m,-(12*(i:Int))):=by
   rw [← hs]
   cases 30-i with
   |zero=>rfl
   |succ f=>rw [sh1,if_neg (by omega)]
  refine VWp.loopQ (fun s:Nat×Nat=>[(5,.p (.int .i64 (m:Int))),(6,.p (.int .i64 (s.2:Int))),(7,.p (.int .i64 (-(12*(i:Int))+12*(s.1:Int))))]) (fun _=>[]) 0 (fun s=>s.1≤22∧s.2=den*2 ^ s.1∧s.2≤4194304∧sh2 m (30-s.1) s.2 (-(12*(i:Int))+12*(s.1:Int))=sh2 m 30 den (-(12*(i:Int)))) (fun s=>30-s.1) (0,den) (by omega) ⟨by omega,by simp,by simp only;omega,by simp⟩ ⟨by omega,?_,?_⟩ ?_
  ·have e7:-(12*(i:Int))+12*((0:Nat):Int)=-(12*(i:Int)):=by omega
   simp only [e7];repeat (first|exact LCov.nil|refine LCov.same trivial rfl ?_|refine LCov.same (lt_dec rfl) rfl ?_|refine LCov.same ⟨trivial,lt_dec rfl,lt_dec rfl,lt_dec rfl,trivial⟩ rfl ?_|refine LCov.same ⟨trivial,lt_dec rfl,lt_dec rfl,trivial⟩ rfl ?_|refine LCov.same ⟨trivial,trivial⟩ rfl ?_|refine LCov.cons trivial rfl (.of_eq (lst_len (by simp<;>omega))) ?_)
  ·exact HCov.nil
  rintro ⟨j,d⟩ ⟨hj,hd,hd2,ht⟩
  simp only at hj hd hd2 ht
  have hdpos:0<d:=by rw [hd];exact Nat.mul_pos p2 (Nat.pow_pos (by decide))
  by_cases hdm:2*d≤m
  ·repeat' (first
    |apply VWp.assoc
    |apply VWp.rseq
    |apply VWp.region
    |apply VWp.skipSeq
    |apply VWp.blockSeq
    |apply QSeq.normal
    |apply QBlk.normal
    |apply VOps.nil
    |apply VOps.one
    |(apply VVal.assign;rfl)
    |(apply VVal.move;rfl)
    |(apply VVal.add64;rfl;rfl;omega)
    |(apply VVal.mul64;rfl;rfl;omega)
    |(apply VVal.int;rfl;rfl;rfl)
    |(apply VWp.condSeq_dec;rfl)
    |(intro _;try (exfalso;omega)))
   all_goals try (exfalso;omega)
   have hj2:j≤21:=by
    have h1:den*2 ^ j≤2 ^ 21:=by rw [← hd];omega
    exact h21 _ (hpow _ _ _ p2 h1)
   have e7:-(12*(i:Int))+12*((j+1:Nat):Int)=-(12*(i:Int))+12*(j:Int)+12:=by omega
   refine QLoop.normal ⟨(j+1,d*2),⟨by simp only;omega,by simp only;rw [hd,Nat.pow_succ,Nat.mul_assoc],by simp only;omega,?_⟩,by simp only;omega,⟨by omega,?_,?_⟩⟩
   ·simp only
    rw [← ht,show 30-j=(30-(j+1))+1 by omega,e7]
    conv=>rhs;rw [sh2]
    rw [if_pos hdm]
   ·simp only [e7];repeat (first|exact LCov.nil|refine LCov.same trivial rfl ?_|refine LCov.same (lt_dec rfl) rfl ?_|refine LCov.same ⟨trivial,lt_dec rfl,lt_dec rfl,lt_dec rfl,trivial⟩ rfl ?_|refine LCov.same ⟨trivial,lt_dec rfl,lt_dec rfl,trivial⟩ rfl ?_|refine LCov.same ⟨trivial,trivial⟩ rfl ?_|refine LCov.cons trivial rfl (.of_eq (lst_len (by simp<;>omega))) ?_)
   ·exact HCov.nil
  ·have hs2:sh2 m 30 den (-(12*(i:Int)))=(d,-(12*(i:Int))+12*(j:Int)):=by
    rw [← ht]
    cases 30-j with
    |zero=>rfl
    |succ f=>rw [sh2,if_neg hdm]
   have hR:shN num den=sh3 (m ^ 24) 30 (d ^ 24*2) (-(12*(i:Int))+12*(j:Int)):=by
    unfold shN;rw [hs1];simp only;rw [hs2]
   rw [hR]
   have om:=of_spec (m:Int) (by omega)
   have od:=of_spec (d:Int) (by omega)
   rw [itoa_nat] at om od
   have nm:Lib.nDigits m≤7:=nd_le (by decide) (by omega)
   have nd:Lib.nDigits d≤7:=nd_le (by decide) (by omega)
   have pm:=power_spec m 24 (by decide) (by omega) (by omega)
   have pd:=power_spec d 24 (by decide) (by omega) (by omega)
   have np:Lib.nDigits (m ^ 24)≤700:=nd_pow (k:=7) (by decide) (by omega) (by decide)
   have nq:Lib.nDigits (d ^ 24)≤700:=nd_pow (k:=7) (by decide) (by omega) (by decide)
   have n2:Lib.nDigits 2=1:=Lib.nDigits_small (by decide)
   have n4:Lib.nDigits 4=1:=Lib.nDigits_small (by decide)
   have q2:=mul_spec (d ^ 24) 2 (by omega) (by omega)
   rw [show Lib.decDigits 2=[50] by decide +kernel] at q2
   have hpq:m ^ 24<2 ^ 24*d ^ 24:=by
    rw [← Nat.mul_pow]
    exact Nat.pow_lt_pow_left (by omega) (by decide)
   have hqpos:0<d ^ 24:=Nat.pow_pos hdpos
   generalize m ^ 24=p at *
   generalize d ^ 24=q at *
   repeat' (first
    |apply VWp.assoc
    |apply VWp.rseq
    |apply VWp.exitSeq
    |apply VWp.blockSeq
    |apply QSeq.normal
    |apply QBlk.exit
    |apply QLoop.exit
    |apply VOps.nil
    |apply VOps.one
    |(apply VVal.fn;rfl;rfl;exact om;intro _;rfl)
    |(apply VVal.fn;rfl;rfl;exact od;intro _;rfl)
    |(apply VVal.fn;rfl;rfl;exact pm;intro _;rfl)
    |(apply VVal.fn;rfl;rfl;exact pd;intro _;rfl)
    |(apply VVal.fn;rfl;rfl;exact q2;intro _;rfl)
    |(apply VVal.assign;rfl)
    |(apply VVal.move;rfl)
    |(apply VVal.mul64;rfl;rfl;omega)
    |(apply VVal.int;rfl;rfl;rfl)
    |(apply VVal.extract;rfl;rfl)
    |(apply VWp.condSeq_dec;rfl)
    |(intro _;try (exfalso;omega)))
   all_goals try (exfalso;omega)
   generalize hn0:-(12*(i:Int))+12*(j:Int)=n0 at *
   have hn0b:-1000≤n0∧n0≤1000:=by omega
   refine VWp.loopQ (fun k:Nat=>[(8,st (Lib.decDigits p)),(12,st (Lib.decDigits (q*2*4 ^ k))),(7,.p (.int .i64 (n0+(k:Int))))]) (fun _=>[]) 0 (fun k=>k≤20∧sh3 p (30-k) (q*2*4 ^ k) (n0+(k:Int))=sh3 p 30 (q*2) n0) (fun k=>30-k) 0 (by omega) ⟨by omega,by simp⟩ ⟨by omega,?_,?_⟩ ?_
   ·have e7:n0+((0:Nat):Int)=n0:=by omega
    rw [e7,Nat.pow_zero,Nat.mul_one];repeat (first|exact LCov.nil|refine LCov.same trivial rfl ?_|refine LCov.same (lt_dec rfl) rfl ?_|refine LCov.same ⟨trivial,lt_dec rfl,lt_dec rfl,lt_dec rfl,trivial⟩ rfl ?_|refine LCov.same ⟨trivial,lt_dec rfl,lt_dec rfl,trivial⟩ rfl ?_|refine LCov.same ⟨trivial,trivial⟩ rfl ?_|refine LCov.cons trivial rfl (.of_eq (lst_len (by simp<;>omega))) ?_)
   ·exact HCov.nil
   rintro k ⟨hk,hs⟩
   have nl:Lib.nDigits (q*2*4 ^ k)≤1000:=by
    have h1:=nd_mul (a:=q) (b:=2) (j:=700) (k:=1) (by omega) (by omega)
    have h2:Lib.nDigits (4 ^ k)≤100:=nd_pow (n:=4) (k:=1) (by decide) (by decide) (by omega)
    have h3:=nd_mul h1 h2
    omega
   have cc:=compare_spec p (q*2*4 ^ k) (by omega) (by omega)
   have q4:=mul_spec (q*2*4 ^ k) 4 (by omega) (by omega)
   rw [show Lib.decDigits 4=[52] by decide +kernel] at q4
   have hcp:=cmpI_pos p (q*2*4 ^ k)
   by_cases hlt:q*2*4 ^ k<p
   ·have hc:=hcp.2 hlt
    have hk2:k≤12:=by
     have h1:q*(2*4 ^ k)<q*2 ^ 24:=by rw [← Nat.mul_assoc,Nat.mul_comm q (2 ^ 24)];omega
     have h2:=Nat.lt_of_mul_lt_mul_left h1
     have h3:2*4 ^ k=2 ^ (1+2*k):=by rw [Nat.pow_add,Nat.pow_mul,Nat.pow_one]
     rw [h3] at h2
     have:=(Nat.pow_lt_pow_iff_right (a:=2) (by decide)).1 h2
     omega
    have e7:n0+((k+1:Nat):Int)=n0+(k:Int)+1:=by omega
    repeat' (first
     |apply VWp.assoc
     |apply VWp.rseq
     |apply VWp.region
     |apply VWp.skipSeq
     |apply VWp.blockSeq
     |apply QSeq.normal
     |apply QBlk.normal
     |apply VOps.nil
     |apply VOps.one
     |(apply VVal.fn;rfl;rfl;exact cc;intro _;rfl)
     |(apply VVal.fn;rfl;rfl;exact q4;intro _;rfl)
     |(apply VVal.assign;rfl)
     |(apply VVal.move;rfl)
     |(apply VVal.add64;rfl;rfl;omega)
     |(apply VVal.int;rfl;rfl;rfl)
     |(apply VWp.condSeq_dec;rfl)
     |(intro _;try (exfalso;omega)))
    all_goals try (exfalso;omega)
    refine QLoop.normal ⟨k+1,⟨by omega,?_⟩,by omega,⟨by omega,?_,?_⟩⟩
    ·rw [← hs,show 30-k=(30-(k+1))+1 by omega,e7]
     conv=>rhs;rw [sh3]
     rw [if_pos hlt,Nat.pow_succ,Nat.mul_assoc (q*2)]
    ·rw [e7,Nat.pow_succ,← Nat.mul_assoc];repeat (first|exact LCov.nil|refine LCov.same trivial rfl ?_|refine LCov.same (lt_dec rfl) rfl ?_|refine LCov.same ⟨trivial,lt_dec rfl,lt_dec rfl,lt_dec rfl,trivial⟩ rfl ?_|refine LCov.same ⟨trivial,lt_dec rfl,lt_dec rfl,trivial⟩ rfl ?_|refine LCov.same ⟨trivial,trivial⟩ rfl ?_|refine LCov.cons trivial rfl (.of_eq (lst_len (by simp<;>omega))) ?_)
    ·exact HCov.nil
   ·have hc:¬ cmpI p (q*2*4 ^ k)>0:=fun h=>hlt (hcp.1 h)
    have hR3:sh3 p 30 (q*2) n0=n0+(k:Int):=by
     rw [← hs]
     cases 30-k with
     |zero=>rfl
     |succ f=>rw [sh3,if_neg hlt]
    rw [hR3]
    repeat' (first
     |apply VWp.assoc
     |apply VWp.rseq
     |apply VWp.exitSeq
     |apply QSeq.normal
     |apply QBlk.exit
     |apply QLoop.exit
     |apply VWp.ret
     |apply VOps.nil
     |apply VOps.one
     |(apply VVal.fn;rfl;rfl;exact cc;intro _;rfl)
     |(apply VVal.assign;rfl)
     |(apply VVal.move;rfl)
     |(apply VVal.int;rfl;rfl;rfl)
     |(apply VWp.condSeq_dec;rfl)
     |(intro _;try (exfalso;omega)))
    all_goals first|(exfalso;omega)|(refine Done.ret rfl (.refl _) (by first|exact trivial|exact ⟨trivial,trivial,trivial⟩|exact ⟨trivial,trivial,trivial,trivial⟩) HCov.nil (Nat.zero_le _) (Nat.le_refl _) ⟨?_,rfl,rfl⟩;try rfl)
def shiftR (x y:Frac):Int×Int:=if bothR x y≠0 then (0,bothR x y) else (shz x y,0)
theorem bothR_ok {x y:Frac}:bothR x y=0↔pOk x∧pOk y:=by
 unfold bothR
 rw [← pchk_ok,← pchk_ok]
 split
 ·rename_i h;exact ⟨fun h'=>absurd h' h,fun h'=>absurd h'.1 h⟩
 ·rename_i h;exact ⟨fun h'=>⟨Classical.not_not.1 h,h'⟩,fun h'=>h'.2⟩
set_option maxRecDepth 100000 in
theorem pShift_spec (x y:Frac):VFun env 87 [.agg (Enc.enc x),.agg (Enc.enc y)] (.tup [.p (.int .i64 (shiftR x y).1),.p (.int .i64 (shiftR x y).2)]):=by
 have hb:=pboth_spec x y
 by_cases h:bothR x y=0
 ·rw [h] at hb
  have ok:=bothR_ok.1 h
  have hs:=shift_spec x y ok.1 ok.2
  rw [show shiftR x y=(shz x y,0) from if_neg (fun h'=>h' h)]
  refine VFun.enter (env_none (by decide)) Tryz.func87 rfl (by kernel_rfl) (by simp [Tryz.ntmps87]) ?_
  repeat' (first
   |apply VWp.assoc
   |apply VWp.rseq
   |apply VWp.skipSeq
   |apply VWp.ret
   |apply VOps.nil
   |apply VOps.one
   |(apply VVal.fn;rfl;rfl;exact hb;intro _;rfl)
   |(apply VVal.fn;rfl;rfl;exact hs;intro _;rfl)
   |(apply VVal.assign;rfl)
   |(apply VVal.move;rfl)
   |(apply VVal.int;rfl;rfl;rfl)
   |(apply VVal.load;rfl;rfl)
   |(apply VVal.box;rfl;trivial)
   |(apply VWp.condSeq_false;rfl))
  all_goals first|(exfalso;omega)|(refine Done.ret rfl (.refl _) (by first|exact trivial|exact ⟨trivial,trivial,trivial⟩|exact ⟨trivial,trivial,trivial,trivial⟩) HCov.nil (Nat.zero_le _) (Nat.le_refl _) ⟨?_,rfl,rfl⟩;try rfl)
 ·rw [show shiftR x y=(0,bothR x y) from if_pos h]
  refine VFun.enter (env_none (by decide)) Tryz.func87 rfl (by kernel_rfl) (by simp [Tryz.ntmps87]) ?_
  repeat' (first
   |apply VWp.assoc
   |apply VWp.rseq
   |apply VWp.retSeq
   |apply VOps.nil
   |apply VOps.one
   |(apply VVal.fn;rfl;rfl;exact hb;intro _;rfl)
   |(apply VVal.assign;rfl)
   |(apply VVal.move;rfl)
   |(apply VVal.int;rfl;rfl;rfl)
   |(apply VVal.load;rfl;rfl)
   |(apply VVal.box;rfl;trivial)
   |(apply VWp.condSeq_dec;rfl)
   |(intro _;try (exfalso;omega)))
  all_goals first|(exfalso;omega)|(refine Done.ret rfl (.refl _) (by first|exact trivial|exact ⟨trivial,trivial,trivial⟩|exact ⟨trivial,trivial,trivial,trivial⟩) HCov.nil (Nat.zero_le _) (Nat.le_refl _) ⟨?_,rfl,rfl⟩;try rfl)
end Go.Proofs.YtcnlhgmkelkikaaGreatDoor
