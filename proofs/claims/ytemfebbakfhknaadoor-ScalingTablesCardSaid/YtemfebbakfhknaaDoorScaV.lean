/-
  The statement on tables of measures, as a walk. Conditions: in each statement.
-/
import Derived.Test.YtemfebbakfhknaaDoorScaU
import Derived.Test.YtemfebbakfhknaaDoorScaF
set_option linter.unusedSimpArgs false
set_option linter.unusedVariables false
namespace Go.Proofs.YtemfebbakfhknaaDoor
open Go Go.Am Go.Vm Go.Sca
attribute [local irreducible] VVal VOps VOpsD VWp VCalls VFun VFunV QSeq QBlk QLoop Vm.Done DoneV DoneI
attribute [local irreducible] hvl mea me rnd rk lo fstN lenR wdN valR widR
set_option maxRecDepth 100000 in
theorem has_range {j:Nat} {fs:List FV} (h:HasT Tryd.prog (j+2) 55 fs):∃ a b:Int,fs=[.int .i64 a,.int .i64 b]:=by
 simp only [HasT,Tryd.underlying55,Tryd.underlying3] at h
 obtain ⟨parts,rfl,hp⟩:=h
 obtain ⟨a,b,rfl,⟨x,rfl,_⟩,⟨y,rfl,_⟩⟩:=all2_two hp
 exact ⟨x,y,rfl⟩
theorem meaL_gi (s:Scl) (a:Int) {k i:Nat} (h:i<k):gi (meaL s a k) i=mea s (a+i):=by simp [meaL,gi,h]
set_option maxRecDepth 100000 in
set_option maxHeartbeats 2000000 in
theorem tables_spec (a x y:Nat) (r1 r2:Int) (ha:a<65536) (hx:x<256) (hy:y<256) :
 VFun env1 10 [.int .u16 (a:Int),.agg [.int .u8 (x:Int),.int .u8 (y:Int)],.agg [.int .i64 r1,.int .i64 r2]] (.p (.bool true)):=by
 have hk:=lift1 known_spec
 have m1:=lift1 (made_spec a x y ha hx hy)
 have hs:sOk (mk a x y):=mk_ok hy
 change VFun env1 _ _ (.p (.agg (Enc.enc (mk a x y)))) at m1
 generalize mk a x y=s at *
 have hc:=scheck_spec s
 rw [show chk s=0 from if_pos hs] at hc
 have w1:=lift1 (lwithin_spec r1)
 have w2:=lift1 (lwithin_spec r2)
 refine VFun.enter (E:=env1) (env1_none (by decide)) Tryd.func10 rfl (by kernel_rfl) (by simp [Tryd.ntmps10]) ?_
 by_cases hw:wOk r1∧wOk r2
 case neg =>
  have ht:=tableOut_spec hw hc swithin_spec
  by_cases h1:wOk r1
  ·rw [decide_eq_true h1] at w1
   rw [decide_eq_false (fun h2=>hw ⟨h1,h2⟩)] at w2
   repeat' (first
    |apply VWp.assoc
    |apply VWp.rseq
    |apply VWp.skipSeq
    |apply VWp.retSeq
    |apply VOps.nil
    |apply VOps.one
    |(apply VOps.take;rfl;rfl)
    |(apply VOps.drop;rfl;rfl;rfl)
    |(apply VVal.fn;rfl;rfl;exact hk;intro _;rfl)
    |(apply VVal.fn;rfl;rfl;exact m1;intro _;rfl)
    |(apply VVal.fn;rfl;rfl;exact w1;intro _;rfl)
    |(apply VVal.fn;rfl;rfl;exact w2;intro _;rfl)
    |(apply VVal.fn;rfl;rfl;exact ht;intro _;rfl)
    |(apply VVal.indexB;rfl;rfl;rfl;rfl;rfl;decide)
    |(apply VVal.assign;rfl)
    |(apply VVal.move;rfl)
    |(apply VVal.int;rfl;rfl;rfl)
    |(apply VVal.load;rfl;rfl)
    |(apply VVal.pick_true;rfl;rfl)
    |(apply VVal.pick_false;rfl;rfl)
    |(apply VVal.lenNil;rfl;rfl)
    |(apply VVal.fieldB;rfl;rfl;rfl)
    |(apply VVal.box;rfl;trivial)
    |(apply VVal.alloc;rfl)
    |(apply VVal.storeB;rfl;rfl;rfl;trivial;rfl;rfl;exact lt_dec rfl;exact le_dec rfl)
    |(apply VVal.not;rfl)
    |(apply VVal.extract;rfl;rfl)
    |(apply VWp.condSeq_true;rfl)
    |(apply VWp.condSeq_false;rfl))
   all_goals first|(exfalso;omega)|contradiction|((refine Done.ret rfl (.refl _) (by first|exact trivial|exact ⟨trivial,trivial,trivial⟩|exact ⟨trivial,trivial,trivial,trivial⟩) HCov.nil (Nat.zero_le _) (Nat.le_refl _) ⟨?_,rfl,rfl⟩;try rfl);try simp)
  ·rw [decide_eq_false h1] at w1
   repeat' (first
    |apply VWp.assoc
    |apply VWp.rseq
    |apply VWp.skipSeq
    |apply VWp.retSeq
    |apply VOps.nil
    |apply VOps.one
    |(apply VOps.take;rfl;rfl)
    |(apply VOps.drop;rfl;rfl;rfl)
    |(apply VVal.fn;rfl;rfl;exact hk;intro _;rfl)
    |(apply VVal.fn;rfl;rfl;exact m1;intro _;rfl)
    |(apply VVal.fn;rfl;rfl;exact w1;intro _;rfl)
    |(apply VVal.fn;rfl;rfl;exact ht;intro _;rfl)
    |(apply VVal.indexB;rfl;rfl;rfl;rfl;rfl;decide)
    |(apply VVal.assign;rfl)
    |(apply VVal.move;rfl)
    |(apply VVal.int;rfl;rfl;rfl)
    |(apply VVal.load;rfl;rfl)
    |(apply VVal.pick_true;rfl;rfl)
    |(apply VVal.pick_false;rfl;rfl)
    |(apply VVal.lenNil;rfl;rfl)
    |(apply VVal.fieldB;rfl;rfl;rfl)
    |(apply VVal.box;rfl;trivial)
    |(apply VVal.alloc;rfl)
    |(apply VVal.storeB;rfl;rfl;rfl;trivial;rfl;rfl;exact lt_dec rfl;exact le_dec rfl)
    |(apply VVal.not;rfl)
    |(apply VVal.extract;rfl;rfl)
    |(apply VWp.condSeq_true;rfl)
    |(apply VWp.condSeq_false;rfl))
   all_goals first|(exfalso;omega)|contradiction|((refine Done.ret rfl (.refl _) (by first|exact trivial|exact ⟨trivial,trivial,trivial⟩|exact ⟨trivial,trivial,trivial,trivial⟩) HCov.nil (Nat.zero_le _) (Nat.le_refl _) ⟨?_,rfl,rfl⟩;try rfl);try simp)
 obtain ⟨h1,h2⟩:=hw
 rw [decide_eq_true h1] at w1
 rw [decide_eq_true h2] at w2
 have b1:=h1
 have b2:=h2
 unfold wOk at b1 b2
 by_cases hab:r2<r1
 ·have ht:=tableOrd_spec h1 h2 hab hc swithin_spec
  repeat' (first
   |apply VWp.assoc
   |apply VWp.rseq
   |apply VWp.skipSeq
   |apply VWp.retSeq
   |apply VOps.nil
   |apply VOps.one
   |(apply VOps.take;rfl;rfl)
   |(apply VVal.fn;rfl;rfl;exact hk;intro _;rfl)
   |(apply VVal.fn;rfl;rfl;exact m1;intro _;rfl)
   |(apply VVal.fn;rfl;rfl;exact w1;intro _;rfl)
   |(apply VVal.fn;rfl;rfl;exact w2;intro _;rfl)
   |(apply VVal.fn;rfl;rfl;exact ht;intro _;rfl)
   |(apply VVal.indexB;rfl;rfl;rfl;rfl;rfl;decide)
   |(apply VVal.assign;rfl)
   |(apply VVal.move;rfl)
   |(apply VVal.sub64;rfl;rfl;omega)
   |(apply VVal.int;rfl;rfl;rfl)
   |(apply VVal.load;rfl;rfl)
   |(apply VVal.pick_true;rfl;rfl)
   |(apply VVal.lenNil;rfl;rfl)
   |(apply VVal.fieldB;rfl;rfl;rfl)
   |(apply VVal.box;rfl;trivial)
   |(apply VVal.alloc;rfl)
   |(apply VVal.storeB;rfl;rfl;rfl;trivial;rfl;rfl;exact lt_dec rfl;exact le_dec rfl)
   |(apply VVal.not;rfl)
   |(apply VVal.extract;rfl;rfl)
   |(apply VWp.condSeq_false;rfl)
   |(apply VWp.condSeq_dec;rfl)
   |(intro _;try (exfalso;omega)))
  all_goals first|(exfalso;omega)|contradiction|((refine Done.ret rfl (.refl _) (by first|exact trivial|exact ⟨trivial,trivial,trivial⟩|exact ⟨trivial,trivial,trivial,trivial⟩) HCov.nil (Nat.zero_le _) (Nat.le_refl _) ⟨?_,rfl,rfl⟩;try rfl);try simp)
 have hmo:=lift1 (most_spec s r1 10000000 hs h1)
 have hw0:∀ n,wOk n→VFun env 27 [.int .i64 n] (.p (.int .i64 0)):=fun n hn=>by
  have:=swithin_spec n
  rwa [show win n=0 from if_pos hn] at this
 by_cases hm:mea s r1≤10000000
 case neg =>
  have ht:=tableLim_spec hs h1 h2 (by omega) hm hc hw0
  rw [decide_eq_false (show ¬ mea s r1≤min 10000000 10000000 by omega)] at hmo
  repeat' (first
   |apply VWp.assoc
   |apply VWp.rseq
   |apply VWp.skipSeq
   |apply VWp.retSeq
   |apply VOps.nil
   |apply VOps.one
   |(apply VOps.take;rfl;rfl)
   |(apply VVal.fn;rfl;rfl;exact hk;intro _;rfl)
   |(apply VVal.fn;rfl;rfl;exact m1;intro _;rfl)
   |(apply VVal.fn;rfl;rfl;exact w1;intro _;rfl)
   |(apply VVal.fn;rfl;rfl;exact w2;intro _;rfl)
   |(apply VVal.fn;rfl;rfl;exact ht;intro _;rfl)
   |(apply VVal.fn;rfl;rfl;exact hmo;intro _;rfl)
   |(apply VVal.indexB;rfl;rfl;rfl;rfl;rfl;decide)
   |(apply VVal.assign;rfl)
   |(apply VVal.move;rfl)
   |(apply VVal.sub64;rfl;rfl;omega)
   |(apply VVal.int;rfl;rfl;rfl)
   |(apply VVal.load;rfl;rfl)
   |(apply VVal.pick_true;rfl;rfl)
   |(apply VVal.lenNil;rfl;rfl)
   |(apply VVal.fieldB;rfl;rfl;rfl)
   |(apply VVal.box;rfl;trivial)
   |(apply VVal.alloc;rfl)
   |(apply VVal.storeB;rfl;rfl;rfl;trivial;rfl;rfl;exact lt_dec rfl;exact le_dec rfl)
   |(apply VVal.not;rfl)
   |(apply VVal.extract;rfl;rfl)
   |(apply VWp.condSeq_true;rfl)
   |(apply VWp.condSeq_false;rfl)
   |(apply VWp.condSeq_dec;rfl)
   |(intro _;try (exfalso;omega)))
  all_goals first|(exfalso;omega)|contradiction|((refine Done.ret rfl (.refl _) (by first|exact trivial|exact ⟨trivial,trivial,trivial⟩|exact ⟨trivial,trivial,trivial,trivial⟩) HCov.nil (Nat.zero_le _) (Nat.le_refl _) ⟨?_,rfl,rfl⟩;try rfl);try simp)
 have ht:=table_spec hs h1 h2 (by omega) hm hc hw0
 rw [decide_eq_true (show mea s r1≤min 10000000 10000000 by omega)] at hmo
 obtain ⟨n,hn⟩:∃ n,(r2+1-r1).toNat=n:=⟨_,rfl⟩
 have hlen:=meaL_len s r1 n
 have hgi:=fun i (h:i<n)=>meaL_gi s r1 h
 have hle:∀ i:Nat,mea s (r1+i)≤10000000:=fun i=>Int.le_trans (mea_le (by omega)) hm
 have hbd:=fun k=>mea_bd hs k
 rw [hn] at ht
 by_cases h5:r2-r1>5
 ·repeat' (first
   |apply VWp.assoc
   |apply VWp.rseq
   |apply VWp.skipSeq
   |apply VWp.retSeq
   |apply VOps.nil
   |apply VOps.one
   |(apply VOps.take;rfl;rfl)
   |(apply VVal.fn;rfl;rfl;exact hk;intro _;rfl)
   |(apply VVal.fn;rfl;rfl;exact m1;intro _;rfl)
   |(apply VVal.fn;rfl;rfl;exact w1;intro _;rfl)
   |(apply VVal.fn;rfl;rfl;exact w2;intro _;rfl)
   |(apply VVal.indexB;rfl;rfl;rfl;rfl;rfl;decide)
   |(apply VVal.assign;rfl)
   |(apply VVal.move;rfl)
   |(apply VVal.sub64;rfl;rfl;omega)
   |(apply VVal.int;rfl;rfl;rfl)
   |(apply VVal.load;rfl;rfl)
   |(apply VVal.pick_true;rfl;rfl)
   |(apply VVal.fieldB;rfl;rfl;rfl)
   |(apply VVal.box;rfl;trivial)
   |(apply VVal.alloc;rfl)
   |(apply VVal.storeB;rfl;rfl;rfl;trivial;rfl;rfl;exact lt_dec rfl;exact le_dec rfl)
   |(apply VVal.not;rfl)
   |(apply VWp.condSeq_false;rfl)
   |(apply VWp.condSeq_dec;rfl)
   |(intro _;try (exfalso;omega)))
  all_goals first|(exfalso;omega)|contradiction|((refine Done.ret rfl (.refl _) (by first|exact trivial|exact ⟨trivial,trivial,trivial⟩|exact ⟨trivial,trivial,trivial,trivial⟩) HCov.nil (Nat.zero_le _) (Nat.le_refl _) ⟨?_,rfl,rfl⟩;try rfl);try simp)
 have his:=fun i (hi:i<n)=>lift1 (is_spec s (r1+(i:Int)) (gi (meaL s r1 n) i) hs (by unfold wOk;omega))
 generalize meaL s r1 n=l at *
 repeat' (first
  |apply VWp.assoc
  |apply VWp.rseq
  |apply VWp.skipSeq
  |apply VWp.blockSeq
  |apply VOps.nil
  |apply VOps.one
  |(apply VOps.take;rfl;rfl)
  |(apply VVal.fn;rfl;rfl;exact hk;intro _;rfl)
  |(apply VVal.fn;rfl;rfl;exact m1;intro _;rfl)
  |(apply VVal.fn;rfl;rfl;exact w1;intro _;rfl)
  |(apply VVal.fn;rfl;rfl;exact w2;intro _;rfl)
  |(apply VVal.fn;rfl;rfl;exact ht;intro _;rfl)
  |(apply VVal.fn;rfl;rfl;exact hmo;intro _;rfl)
  |(apply VVal.indexB;rfl;rfl;rfl;rfl;rfl;decide)
  |(apply VVal.assign;rfl)
  |(apply VVal.move;rfl)
  |(apply VVal.add64;rfl;rfl;omega)
  |(apply VVal.sub64;rfl;rfl;omega)
  |(apply VVal.int;rfl;rfl;rfl)
  |(apply VVal.load;rfl;rfl)
  |(apply VVal.pick_true;rfl;rfl)
  |(apply VVal.pick_false;rfl;rfl)
  |(apply VVal.lenF;rfl;rfl)
  |(apply VVal.fieldB;rfl;rfl;rfl)
  |(apply VVal.box;rfl;trivial)
  |(apply VVal.alloc;rfl)
  |(apply VVal.storeB;rfl;rfl;rfl;trivial;rfl;rfl;exact lt_dec rfl;exact le_dec rfl)
  |(apply VVal.not;rfl)
  |(apply VVal.extract;rfl;rfl)
  |(apply VWp.condSeq_false;rfl)
  |(apply VWp.condSeq_dec;rfl)
  |(intro _;try (exfalso;omega)))
 all_goals try (exfalso;omega)
 all_goals try contradiction
 refine VWp.loopQ (fun k:Nat=>[(5,.ref 1 0),(7,.ref 2 0),(9,.p (.lst 3 (cells l) l.length)),(11,.p (.int .i64 (k:Int)))]) (fun _=>[(1,.box 55 [.p (.int .i64 r1),.p (.int .i64 r2)]),(2,.box 23 ((Enc.enc s).map .p))]) 3 (fun k=>k≤n) (fun k=>n-k) 0 (by omega) (by omega) ⟨by omega,?_,?_⟩ ?_
 ·repeat (first|exact LCov.nil|refine LCov.same trivial rfl ?_|refine LCov.same (lt_dec rfl) rfl ?_|refine LCov.same ⟨trivial,lt_dec rfl,lt_dec rfl,lt_dec rfl,trivial⟩ rfl ?_|refine LCov.same ⟨trivial,lt_dec rfl,lt_dec rfl,trivial⟩ rfl ?_|refine LCov.same ⟨trivial,trivial⟩ rfl ?_|refine LCov.cons trivial rfl (.of_eq (lst_len (by simp<;>omega))) ?_)
 ·repeat (first|exact HCov.nil|(refine HCov.cons (lt_dec rfl) ?_ rfl ?_ ?_;(first|exact trivial|exact PVs.under_pure _ _|(simp [HB.under,PVs.under,PV.under]));(first|exact HLe.refl _|exact HLe.vec (FLes.refl _) (by simp))))
 intro k hk
 by_cases hkn:k<n
 ·have hv:=hgi k hkn
  have hl:=hle k
  have hb:=hbd (r1+k)
  have hi:=his k hkn
  rw [hv] at hi
  rw [decide_eq_true ⟨rfl,hl⟩] at hi
  rw [← hv] at hi hb
  repeat' (first
   |apply VWp.assoc
   |apply VWp.rseq
   |apply VWp.rseqD
   |apply VWp.region
   |apply VWp.skipSeq
   |apply VWp.blockSeq
   |apply QSeq.normal
   |apply QBlk.normal
   |apply VWp.skip
   |apply VOps.nil
   |apply VOpsD.nil
   |apply VOps.one
   |(apply VOpsD.bar;decide +kernel)
   |apply VOpsD.quiet
   |(apply VOpsD.quietTake;rfl;rfl)
   |(apply VOpsD.guard;rfl;rfl)
   |(apply VVal.fn;rfl;rfl;exact hi;intro _;rfl)
   |(apply VVal.assign;rfl)
   |(apply VVal.move;rfl)
   |(apply VVal.add64;rfl;rfl;omega)
   |(apply VVal.int;rfl;rfl;rfl)
   |(apply VVal.indexN;rfl;rfl;rfl;omega;rfl)
   |(apply VVal.load;rfl;rfl)
   |(apply VVal.pick_false;rfl;rfl)
   |(apply VVal.lenF;rfl;rfl)
   |(apply VVal.fieldB;rfl;rfl;rfl)
   |(apply VVal.not;rfl)
   |(apply VWp.condSeq_dec;rfl)
   |(apply VWp.cond_false;rfl)
   |(intro _;try (exfalso;omega)))
  all_goals try (exfalso;omega)
  all_goals try contradiction
  refine QLoop.normal ⟨k+1,by omega,by omega,⟨by omega,?_,?_⟩⟩
  ·repeat (first|exact LCov.nil|refine LCov.same trivial rfl ?_|refine LCov.same (lt_dec rfl) rfl ?_|refine LCov.same ⟨trivial,lt_dec rfl,lt_dec rfl,lt_dec rfl,trivial⟩ rfl ?_|refine LCov.same ⟨trivial,lt_dec rfl,lt_dec rfl,trivial⟩ rfl ?_|refine LCov.same ⟨trivial,trivial⟩ rfl ?_|refine LCov.cons trivial rfl (.of_eq (lst_len (by simp<;>omega))) ?_)
  ·repeat (first|exact HCov.nil|(refine HCov.cons (lt_dec rfl) ?_ rfl ?_ ?_;(first|exact trivial|exact PVs.under_pure _ _|(simp [HB.under,PVs.under,PV.under]));(first|exact HLe.refl _|exact HLe.vec (FLes.refl _) (by simp))))
 ·repeat' (first
   |apply VWp.assoc
   |apply VWp.rseq
   |apply VWp.exitSeq
   |apply QSeq.normal
   |apply QBlk.exit
   |apply QLoop.exit
   |apply VWp.ret
   |apply VOps.nil
   |apply VOps.one
   |(apply VVal.assign;rfl)
   |(apply VVal.move;rfl)
   |(apply VVal.int;rfl;rfl;rfl)
   |(apply VVal.lenF;rfl;rfl)
   |(apply VWp.condSeq_dec;rfl)
   |(intro _;try (exfalso;omega)))
  all_goals first|(exfalso;omega)|contradiction|((refine Done.ret rfl (.refl _) (by first|exact trivial|exact ⟨trivial,trivial,trivial⟩|exact ⟨trivial,trivial,trivial,trivial⟩) HCov.nil (Nat.zero_le _) (Nat.le_refl _) ⟨?_,rfl,rfl⟩;try rfl);try simp)
end Go.Proofs.YtemfebbakfhknaaDoor
