/-
  The statements on Wider, on falling measures and on Check, as walks. Conditions: in each statement.
-/
import Derived.Test.YtemfebbakfhknaaDoorScaJ
set_option linter.unusedSimpArgs false
set_option linter.unusedVariables false
namespace Go.Proofs.YtemfebbakfhknaaDoor
open Go Go.Am Go.Vm Go.Sca
attribute [local irreducible] VVal VOps VOpsD VWp VCalls VFun VFunV QSeq QBlk QLoop Vm.Done DoneV DoneI
theorem valR_in {s:Scl} {n:Int} (h1:sOk s) (h2:wOk n) (h3:mea s n≤10000000):valR s n=(mea s n,0):=by unfold valR;rw [if_pos ⟨h1,h2⟩,if_pos h3]
theorem valR_lim {s:Scl} {n:Int} (h1:sOk s) (h2:wOk n) (h3:¬ mea s n≤10000000):valR s n=(0,4):=by unfold valR;rw [if_pos ⟨h1,h2⟩,if_neg h3]
theorem valR_out {s:Scl} {n:Int} (h:¬ (sOk s∧wOk n)):valR s n=(0,3):=by unfold valR;rw [if_neg h]
theorem widR_bad {s t:Scl} {n:Int} (h:¬ sOk s∨¬ sOk t∨¬ wOk n):widR s t n=(0,false,3):=by
 unfold widR
 by_cases h1:sOk s
 ·rw [if_neg (Classical.not_not.2 h1)]
  by_cases h2:sOk t
  ·rw [if_neg (Classical.not_not.2 h2)]
   have h3:¬ wOk n:=by
    rcases h with h|h|h
    ·exact absurd h1 h
    ·exact absurd h2 h
    ·exact h
   rw [valR_out (fun h=>h3 h.2),if_pos (by decide)]
  ·rw [if_pos h2]
 ·rw [if_pos h1]
theorem widR_lim {s t:Scl} {n:Int} (h1:sOk s) (h2:sOk t) (h3:wOk n) (h4:¬ mea s n≤10000000):widR s t n=(0,false,4):=by
 unfold widR
 rw [if_neg (Classical.not_not.2 h1),if_neg (Classical.not_not.2 h2),valR_lim h1 h3 h4,if_pos (by decide)]
theorem widR_in {s t:Scl} {n:Int} (h1:sOk s) (h2:sOk t) (h3:wOk n) (h4:mea s n≤10000000):widR s t n=if wdN t n (mea s n)<121 then (60-(wdN t n (mea s n):Int),true,0) else (0,false,0):=by
 unfold widR
 rw [if_neg (Classical.not_not.2 h1),if_neg (Classical.not_not.2 h2),valR_in h1 h3 h4,if_neg (fun h=>h rfl)]
attribute [local irreducible] hvl mea me rnd rk lo fstN lenR wdN valR widR
set_option maxRecDepth 100000 in
set_option maxHeartbeats 2000000 in
theorem wider_spec (a b x y z u:Nat) (n0:Int) (ha:a<65536) (hb:b<65536) (hx:x<256) (hy:y<256) (hz:z<256) (hu:u<256) (hn0:-128≤n0∧n0≤127) :
 VFun env 8 [.agg [.int .u16 (a:Int),.int .u16 (b:Int)],.agg [.int .u8 (x:Int),.int .u8 (y:Int),.int .u8 (z:Int),.int .u8 (u:Int)],.int .i8 n0] (.p (.bool true)):=by
 have hk:=known_spec
 have m1:=made_spec a x y ha hx hy
 have m2:=made_spec b z u hb hz hu
 have hs:sOk (mk a x y):=mk_ok hy
 have ht:sOk (mk b z u):=mk_ok hu
 change VFun env _ _ (.p (.agg (Enc.enc (mk a x y)))) at m1
 change VFun env _ _ (.p (.agg (Enc.enc (mk b z u)))) at m2
 have hN:=tmod_bd (n:=n0) (m:=80) (by decide)
 have hw:=lwithin_spec (n0.tmod 80)
 generalize mk a x y=s at *
 generalize mk b z u=t at *
 generalize hn:n0.tmod 80=n at *
 have hW:=sWider_spec s t n (by omega)
 have hv:=sValue_spec s n
 by_cases h1:wOk n
 ·rw [decide_eq_true h1] at hw
  by_cases h2:mea s n≤10000000
  ·rw [valR_in hs h1 h2] at hv
   rw [widR_in hs ht h1 h2] at hW
   have hlow:wOk (n-max (-60) (n-72)):=by unfold wOk at h1 ⊢;omega
   have q0:=most_spec t (n-max (-60) (n-72)) (mea s n) ht hlow
   have hle:=wdN_le t n (mea s n)
   have hmin:=fun i=>wdN_min (t:=t) (n:=n) (own:=mea s n) (i:=i)
   have hat:=wdN_at (t:=t) (n:=n) (own:=mea s n)
   have qm:=fun k h=>most_spec t k (mea s n) ht h
   generalize mea s n=own at *
   generalize wdN t n own=W at *
   by_cases h3:mea t (n-max (-60) (n-72))≤own
   ·rw [decide_eq_true (show mea t (n-max (-60) (n-72))≤min own 10000000 by omega)] at q0
    have hW2:W≤(60-max (-60) (n-72)).toNat:=by
     rcases Nat.lt_or_ge (60-max (-60) (n-72)).toNat W with h|h
     ·refine absurd ?_ (hmin _ h)
      have e:n-(60-(((60-max (-60) (n-72)).toNat:Nat):Int))=n-max (-60) (n-72):=by omega
      unfold wdP
      rw [e]
      exact ⟨hlow,h3⟩
     ·exact h
    have hW3:W<121:=by omega
    rw [if_pos hW3] at hW
    obtain ⟨p1,p2⟩:=hat hW3
    have q1:=qm _ p1
    rw [decide_eq_true (show mea t (n-(60-(W:Int)))≤min own 10000000 by omega)] at q1
    have hhi:60-(W:Int)≤min 60 (n+72):=by unfold wOk at p1;omega
    have q2:¬ 60-(W:Int)=min 60 (n+72)→VFun env 16 [.agg (Enc.enc t),.int .i64 (n-(60-(W:Int))-1),.int .i64 own] (.p (.bool false)):=fun h=>by
     have w1:wOk (n-(60-(W:Int))-1):=by unfold wOk at p1 h1 ⊢;omega
     have q:=qm _ w1
     have hnot:¬ mea t (n-(60-(W:Int))-1)≤own:=fun hh=>by
      refine hmin (W-1) (by omega) ?_
      unfold wdP
      rw [show n-(60-((W-1:Nat):Int))=n-(60-(W:Int))-1 by omega]
      exact ⟨w1,hh⟩
     rwa [decide_eq_false (show ¬ mea t (n-(60-(W:Int))-1)≤min own 10000000 by omega)] at q
    obtain ⟨h11,h12⟩:=h1
    refine VFun.enter (env_none (by decide)) Tryd.func8 rfl (by kernel_rfl) (by simp [Tryd.ntmps8]) ?_
    repeat' (first
     |apply VWp.assoc
     |apply VWp.rseq
     |apply VWp.rseqD
     |apply VWp.skipSeq
     |apply VWp.ret
     |apply VOps.nil
     |apply VOpsD.nil
     |apply VOps.one
     |(apply VOpsD.bar;decide +kernel)
     |apply VOpsD.quiet
     |(apply VOps.take;rfl;rfl)
     |(apply VOps.drop;rfl;rfl;rfl)
     |(apply VOps.guard;rfl;rfl)
     |(apply VVal.fn;rfl;rfl;exact hk;intro _;rfl)
     |(apply VVal.fn;rfl;rfl;exact m1;intro _;rfl)
     |(apply VVal.fn;rfl;rfl;exact m2;intro _;rfl)
     |(apply VVal.fn;rfl;rfl;exact hW;intro _;rfl)
     |(apply VVal.fn;rfl;rfl;exact hv;intro _;rfl)
     |(apply VVal.fn;rfl;rfl;exact hw;intro _;rfl)
     |(apply VVal.fn;rfl;rfl;exact q0;intro _;rfl)
     |(apply VVal.fn;rfl;rfl;exact q1;intro _;rfl)
     |(apply VVal.fn;rfl;rfl;exact q2 (by omega);intro _;rfl)
     |(subst hn)
     |(apply VVal.indexB;rfl;rfl;rfl;rfl;rfl;decide)
     |(apply VVal.assign;rfl)
     |(apply VVal.move;rfl)
     |(apply VVal.add64;rfl;rfl;omega)
     |(apply VVal.sub64;rfl;rfl;omega)
     |(apply VVal.int;rfl;rfl;rfl)
     |(apply VVal.load;rfl;rfl)
     |(apply VVal.pick_true;rfl;rfl)
     |(apply VVal.pick_false;rfl;rfl)
     |(apply VVal.box;rfl;trivial)
     |(apply VVal.alloc;rfl)
     |(apply VVal.storeB;rfl;rfl;rfl;trivial;rfl;rfl;exact lt_dec rfl;exact le_dec rfl)
     |(apply VVal.maxI;rfl;rfl)
     |(apply VVal.minI;rfl;rfl)
     |(apply VVal.not;rfl)
     |(apply VVal.extract;rfl;rfl)
     |(apply VVal.convI;rfl;rfl;rfl;rfl;omega)
     |(apply VWp.condSeq_false;rfl)
     |(intro _;try (exfalso;omega)))
    all_goals first|(exfalso;omega)|(refine Done.ret rfl (.refl _) (by first|exact trivial|exact ⟨trivial,trivial,trivial⟩|exact ⟨trivial,trivial,trivial,trivial⟩) HCov.nil (Nat.zero_le _) (Nat.le_refl _) ⟨?_,rfl,rfl⟩;first|rfl|(refine PV.bool_eq (decide_eq_true ?_);omega))
   ·rw [decide_eq_false (show ¬ mea t (n-max (-60) (n-72))≤min own 10000000 by omega)] at q0
    have hW3:¬ W<121:=fun h=>by
     obtain ⟨p1,p2⟩:=hat h
     have:=mea_le (s:=t) (m:=n-(60-(W:Int))) (n:=n-max (-60) (n-72)) (by unfold wOk at p1;omega)
     omega
    rw [if_neg hW3] at hW
    obtain ⟨h11,h12⟩:=h1
    refine VFun.enter (env_none (by decide)) Tryd.func8 rfl (by kernel_rfl) (by simp [Tryd.ntmps8]) ?_
    repeat' (first
     |apply VWp.assoc
     |apply VWp.rseq
     |apply VWp.rseqD
     |apply VWp.skipSeq
     |apply VWp.retSeq
     |apply VOps.nil
     |apply VOpsD.nil
     |apply VOps.one
     |(apply VOpsD.bar;decide +kernel)
     |apply VOpsD.quiet
     |(apply VOps.take;rfl;rfl)
     |(apply VVal.fn;rfl;rfl;exact hk;intro _;rfl)
     |(apply VVal.fn;rfl;rfl;exact m1;intro _;rfl)
     |(apply VVal.fn;rfl;rfl;exact m2;intro _;rfl)
     |(apply VVal.fn;rfl;rfl;exact hW;intro _;rfl)
     |(apply VVal.fn;rfl;rfl;exact hv;intro _;rfl)
     |(apply VVal.fn;rfl;rfl;exact hw;intro _;rfl)
     |(apply VVal.fn;rfl;rfl;exact q0;intro _;rfl)
     |(subst hn)
     |(apply VVal.indexB;rfl;rfl;rfl;rfl;rfl;decide)
     |(apply VVal.assign;rfl)
     |(apply VVal.move;rfl)
     |(apply VVal.add64;rfl;rfl;omega)
     |(apply VVal.sub64;rfl;rfl;omega)
     |(apply VVal.int;rfl;rfl;rfl)
     |(apply VVal.load;rfl;rfl)
     |(apply VVal.pick_true;rfl;rfl)
     |(apply VVal.box;rfl;trivial)
     |(apply VVal.alloc;rfl)
     |(apply VVal.storeB;rfl;rfl;rfl;trivial;rfl;rfl;exact lt_dec rfl;exact le_dec rfl)
     |(apply VVal.maxI;rfl;rfl)
     |(apply VVal.minI;rfl;rfl)
     |(apply VVal.not;rfl)
     |(apply VVal.extract;rfl;rfl)
     |(apply VVal.convI;rfl;rfl;rfl;rfl;omega)
     |(apply VWp.condSeq_true;rfl)
     |(apply VWp.condSeq_false;rfl))
    all_goals first|(exfalso;omega)|(refine Done.ret rfl (.refl _) (by first|exact trivial|exact ⟨trivial,trivial,trivial⟩|exact ⟨trivial,trivial,trivial,trivial⟩) HCov.nil (Nat.zero_le _) (Nat.le_refl _) ⟨?_,rfl,rfl⟩;first|rfl|(refine PV.bool_eq (decide_eq_true ?_);omega))
  ·rw [valR_lim hs h1 h2] at hv
   rw [widR_lim hs ht h1 h2] at hW
   refine VFun.enter (env_none (by decide)) Tryd.func8 rfl (by kernel_rfl) (by simp [Tryd.ntmps8]) ?_
   repeat' (first
    |apply VWp.assoc
    |apply VWp.rseq
    |apply VWp.rseqD
    |apply VWp.skipSeq
    |apply VWp.retSeq
    |apply VOps.nil
    |apply VOpsD.nil
    |apply VOps.one
    |(apply VOpsD.bar;decide +kernel)
    |apply VOpsD.quiet
    |(apply VOps.take;rfl;rfl)
    |(apply VVal.fn;rfl;rfl;exact hk;intro _;rfl)
    |(apply VVal.fn;rfl;rfl;exact m1;intro _;rfl)
    |(apply VVal.fn;rfl;rfl;exact m2;intro _;rfl)
    |(apply VVal.fn;rfl;rfl;exact hW;intro _;rfl)
    |(apply VVal.fn;rfl;rfl;exact hv;intro _;rfl)
    |(apply VVal.fn;rfl;rfl;exact hw;intro _;rfl)
    |(subst hn)
    |(apply VVal.indexB;rfl;rfl;rfl;rfl;rfl;decide)
    |(apply VVal.assign;rfl)
    |(apply VVal.move;rfl)
    |(apply VVal.int;rfl;rfl;rfl)
    |(apply VVal.load;rfl;rfl)
    |(apply VVal.pick_true;rfl;rfl)
    |(apply VVal.box;rfl;trivial)
    |(apply VVal.alloc;rfl)
    |(apply VVal.storeB;rfl;rfl;rfl;trivial;rfl;rfl;exact lt_dec rfl;exact le_dec rfl)
    |(apply VVal.not;rfl)
    |(apply VVal.extract;rfl;rfl)
    |(apply VVal.convI;rfl;rfl;rfl;rfl;omega)
    |(apply VWp.condSeq_true;rfl)
    |(apply VWp.condSeq_false;rfl))
   all_goals first|(exfalso;omega)|(refine Done.ret rfl (.refl _) (by first|exact trivial|exact ⟨trivial,trivial,trivial⟩|exact ⟨trivial,trivial,trivial,trivial⟩) HCov.nil (Nat.zero_le _) (Nat.le_refl _) ⟨?_,rfl,rfl⟩;first|rfl|(refine PV.bool_eq (decide_eq_true ?_);omega))
 ·rw [decide_eq_false h1] at hw
  rw [widR_bad (.inr (.inr h1))] at hW
  refine VFun.enter (env_none (by decide)) Tryd.func8 rfl (by kernel_rfl) (by simp [Tryd.ntmps8]) ?_
  repeat' (first
   |apply VWp.assoc
   |apply VWp.rseq
   |apply VWp.rseqD
   |apply VWp.skipSeq
   |apply VWp.retSeq
   |apply VOps.nil
   |apply VOpsD.nil
   |apply VOps.one
   |(apply VOpsD.bar;decide +kernel)
   |apply VOpsD.quiet
   |(apply VOps.take;rfl;rfl)
   |(apply VVal.fn;rfl;rfl;exact hk;intro _;rfl)
   |(apply VVal.fn;rfl;rfl;exact m1;intro _;rfl)
   |(apply VVal.fn;rfl;rfl;exact m2;intro _;rfl)
   |(apply VVal.fn;rfl;rfl;exact hW;intro _;rfl)
   |(apply VVal.fn;rfl;rfl;exact hw;intro _;rfl)
   |(subst hn)
   |(apply VVal.indexB;rfl;rfl;rfl;rfl;rfl;decide)
   |(apply VVal.assign;rfl)
   |(apply VVal.move;rfl)
   |(apply VVal.int;rfl;rfl;rfl)
   |(apply VVal.load;rfl;rfl)
   |(apply VVal.pick_true;rfl;rfl)
   |(apply VVal.box;rfl;trivial)
   |(apply VVal.alloc;rfl)
   |(apply VVal.storeB;rfl;rfl;rfl;trivial;rfl;rfl;exact lt_dec rfl;exact le_dec rfl)
   |(apply VVal.not;rfl)
   |(apply VVal.extract;rfl;rfl)
   |(apply VVal.convI;rfl;rfl;rfl;rfl;omega)
   |(apply VWp.condSeq_true;rfl)
   |(apply VWp.condSeq_false;rfl))
  all_goals first|(exfalso;omega)|(refine Done.ret rfl (.refl _) (by first|exact trivial|exact ⟨trivial,trivial,trivial⟩|exact ⟨trivial,trivial,trivial,trivial⟩) HCov.nil (Nat.zero_le _) (Nat.le_refl _) ⟨?_,rfl,rfl⟩;first|rfl|(refine PV.bool_eq (decide_eq_true ?_);omega))
set_option maxRecDepth 100000 in
set_option maxHeartbeats 2000000 in
theorem falls_spec (b x y:Nat) (n0:Int) (hb:b<65536) (hx:x<256) (hy:y<256) (hn0:-128≤n0∧n0≤127) :
 VFun env 9 [.int .u16 (b:Int),.agg [.int .u8 (x:Int),.int .u8 (y:Int)],.int .i8 n0] (.p (.bool true)):=by
 have hk:=known_spec
 have hm:=made_spec b x y hb hx hy
 have hs:sOk (mk b x y):=mk_ok hy
 change VFun env _ _ (.p (.agg (Enc.enc (mk b x y)))) at hm
 have hbase:(mk b x y).base≤4096:=by unfold mk;simp only;omega
 have hadd:(mk b x y).add≤255:=by unfold mk;simp only;omega
 have hN:=tmod_bd (n:=n0) (m:=41) (by decide)
 generalize mk b x y=s at *
 generalize hn:n0.tmod 41=n at *
 have w1:wOk n:=by unfold wOk;omega
 have w2:wOk (n+1):=by unfold wOk;omega
 have w0:wOk 0:=by decide
 have hz:=mea_zero hs
 have h0:=hs.1
 have h6:=hs.2.2.2.2.1
 have v1:=sValue_spec s n
 have v2:=sValue_spec s (n+1)
 have v3:=sValue_spec s 0
 rw [valR_in hs w0 (by omega),hz] at v3
 have hle:=mea_le (s:=s) (m:=n) (n:=n+1) (by omega)
 by_cases h1:mea s n≤10000000
 ·rw [valR_in hs w1 h1] at v1
  rw [valR_in hs w2 (by omega)] at v2
  have hW:=sWider_spec s s n (by omega)
  rw [widR_in hs hs w1 h1] at hW
  have hW2:wdN s n (mea s n)≤60:=by
   rcases Nat.lt_or_ge 60 (wdN s n (mea s n)) with h|h
   ·refine absurd ?_ (wdN_min h)
    unfold wdP
    rw [show n-(60-((60:Nat):Int))=n by omega]
    exact ⟨w1,Int.le_refl _⟩
   ·exact h
  rw [if_pos (show wdN s n (mea s n)<121 by omega)] at hW
  have v4:=sValue_spec ⟨s.base+1,s.halv,s.add⟩ n
  have hs4:sOk ⟨s.base+1,s.halv,s.add⟩:=by unfold sOk at hs ⊢;simp only;omega
  have hge:=mea_base (s:=s) (n:=n)
  by_cases h2:mea ⟨s.base+1,s.halv,s.add⟩ n≤10000000
  ·rw [valR_in hs4 w1 h2] at v4
   generalize wdN s n (mea s n)=W at *
   refine VFun.enter (env_none (by decide)) Tryd.func9 rfl (by kernel_rfl) (by simp [Tryd.ntmps9]) ?_
   repeat' (first
    |apply VWp.assoc
    |apply VWp.rseq
    |apply VWp.skipSeq
    |apply VWp.ret
    |apply VOps.nil
    |apply VOps.one
    |(apply VOps.take;rfl;rfl)
    |(apply VOps.guard;rfl;rfl)
    |(apply VVal.fn;rfl;rfl;exact hk;intro _;rfl)
    |(apply VVal.fn;rfl;rfl;exact hm;intro _;rfl)
    |(apply VVal.fn;rfl;rfl;exact v1;intro _;rfl)
    |(apply VVal.fn;rfl;rfl;exact v2;intro _;rfl)
    |(apply VVal.fn;rfl;rfl;exact v3;intro _;rfl)
    |(apply VVal.fn;rfl;rfl;exact hW;intro _;rfl)
    |(apply VVal.fn;rfl;rfl;exact v4;intro _;rfl)
    |(subst hn)
    |(apply VVal.indexB;rfl;rfl;rfl;rfl;rfl;decide)
    |(apply VVal.assign;rfl)
    |(apply VVal.move;rfl)
    |(apply VVal.add64;rfl;rfl;omega)
    |(apply VVal.int;rfl;rfl;rfl)
    |(apply VVal.load;rfl;rfl)
    |(apply VVal.pick_true;rfl;rfl)
    |(apply VVal.pick_false;rfl;rfl)
    |(apply VVal.fieldB;rfl;rfl;rfl)
    |(apply VVal.box;rfl;trivial)
    |(apply VVal.alloc;rfl)
    |(apply VVal.storeB;rfl;rfl;rfl;trivial;rfl;rfl;exact lt_dec rfl;exact le_dec rfl)
    |(apply VVal.not;rfl)
    |(apply VVal.extract;rfl;rfl)
    |(apply VVal.convI;rfl;rfl;rfl;rfl;omega)
    |(apply VWp.condSeq_false;rfl)
    |(apply VWp.condSeq_dec;rfl)
    |(intro _;try (exfalso;omega)))
   all_goals first|(exfalso;omega)|(refine Done.ret rfl (.refl _) (by first|exact trivial|exact ⟨trivial,trivial,trivial⟩|exact ⟨trivial,trivial,trivial,trivial⟩) HCov.nil (Nat.zero_le _) (Nat.le_refl _) ⟨?_,rfl,rfl⟩;first|rfl|(refine PV.bool_eq (decide_eq_true ?_);simp only;omega)|(refine PV.bool_eq (decide_eq_true ?_);omega))
  ·rw [valR_lim hs4 w1 h2] at v4
   generalize wdN s n (mea s n)=W at *
   refine VFun.enter (env_none (by decide)) Tryd.func9 rfl (by kernel_rfl) (by simp [Tryd.ntmps9]) ?_
   repeat' (first
    |apply VWp.assoc
    |apply VWp.rseq
    |apply VWp.skipSeq
    |apply VWp.ret
    |apply VOps.nil
    |apply VOps.one
    |(apply VOps.take;rfl;rfl)
    |(apply VOps.drop;rfl;rfl;rfl)
    |(apply VOps.guard;rfl;rfl)
    |(apply VOps.dropU;rfl;rfl)
    |(apply VVal.fn;rfl;rfl;exact hk;intro _;rfl)
    |(apply VVal.fn;rfl;rfl;exact hm;intro _;rfl)
    |(apply VVal.fn;rfl;rfl;exact v1;intro _;rfl)
    |(apply VVal.fn;rfl;rfl;exact v2;intro _;rfl)
    |(apply VVal.fn;rfl;rfl;exact v3;intro _;rfl)
    |(apply VVal.fn;rfl;rfl;exact hW;intro _;rfl)
    |(apply VVal.fn;rfl;rfl;exact v4;intro _;rfl)
    |(subst hn)
    |(apply VVal.indexB;rfl;rfl;rfl;rfl;rfl;decide)
    |(apply VVal.assign;rfl)
    |(apply VVal.move;rfl)
    |(apply VVal.add64;rfl;rfl;omega)
    |(apply VVal.int;rfl;rfl;rfl)
    |(apply VVal.load;rfl;rfl)
    |(apply VVal.pick_true;rfl;rfl)
    |(apply VVal.pick_false;rfl;rfl)
    |(apply VVal.fieldB;rfl;rfl;rfl)
    |(apply VVal.box;rfl;trivial)
    |(apply VVal.alloc;rfl)
    |(apply VVal.storeB;rfl;rfl;rfl;trivial;rfl;rfl;exact lt_dec rfl;exact le_dec rfl)
    |(apply VVal.not;rfl)
    |(apply VVal.extract;rfl;rfl)
    |(apply VVal.convI;rfl;rfl;rfl;rfl;omega)
    |(apply VWp.condSeq_false;rfl)
    |(apply VWp.condSeq_dec;rfl)
    |(intro _;try (exfalso;omega)))
   all_goals first|(exfalso;omega)|(refine Done.ret rfl (.refl _) (by first|exact trivial|exact ⟨trivial,trivial,trivial⟩|exact ⟨trivial,trivial,trivial,trivial⟩) HCov.nil (Nat.zero_le _) (Nat.le_refl _) ⟨?_,rfl,rfl⟩;first|rfl|(refine PV.bool_eq (decide_eq_true ?_);simp only;omega)|(refine PV.bool_eq (decide_eq_true ?_);omega))
 ·rw [valR_lim hs w1 h1] at v1
  have r2:(valR s (n+1)).2=0∨(valR s (n+1)).2=4:=by
   by_cases h2:mea s (n+1)≤10000000
   ·rw [valR_in hs w2 h2];exact .inl rfl
   ·rw [valR_lim hs w2 h2];exact .inr rfl
  generalize valR s (n+1)=R at *
  refine VFun.enter (env_none (by decide)) Tryd.func9 rfl (by kernel_rfl) (by simp [Tryd.ntmps9]) ?_
  repeat' (first
   |apply VWp.assoc
   |apply VWp.rseq
   |apply VWp.skipSeq
   |apply VWp.retSeq
   |apply VOps.nil
   |apply VOps.one
   |(apply VOps.take;rfl;rfl)
   |(apply VOps.drop;rfl;rfl;rfl)
   |(apply VOps.guard;rfl;rfl)
   |(apply VVal.fn;rfl;rfl;exact hk;intro _;rfl)
   |(apply VVal.fn;rfl;rfl;exact hm;intro _;rfl)
   |(apply VVal.fn;rfl;rfl;exact v1;intro _;rfl)
   |(apply VVal.fn;rfl;rfl;exact v2;intro _;rfl)
   |(apply VVal.fn;rfl;rfl;exact v3;intro _;rfl)
   |(subst hn)
   |(apply VVal.indexB;rfl;rfl;rfl;rfl;rfl;decide)
   |(apply VVal.assign;rfl)
   |(apply VVal.move;rfl)
   |(apply VVal.add64;rfl;rfl;omega)
   |(apply VVal.int;rfl;rfl;rfl)
   |(apply VVal.load;rfl;rfl)
   |(apply VVal.pick_true;rfl;rfl)
   |(apply VVal.pick_false;rfl;rfl)
   |(apply VVal.fieldB;rfl;rfl;rfl)
   |(apply VVal.box;rfl;trivial)
   |(apply VVal.alloc;rfl)
   |(apply VVal.storeB;rfl;rfl;rfl;trivial;rfl;rfl;exact lt_dec rfl;exact le_dec rfl)
   |(apply VVal.not;rfl)
   |(apply VVal.extract;rfl;rfl)
   |(apply VVal.convI;rfl;rfl;rfl;rfl;omega)
   |(apply VWp.condSeq_true;rfl)
   |(apply VWp.condSeq_false;rfl)
   |(intro _;try (exfalso;omega)))
  all_goals first|(exfalso;omega)|(refine Done.ret rfl (.refl _) (by first|exact trivial|exact ⟨trivial,trivial,trivial⟩|exact ⟨trivial,trivial,trivial,trivial⟩) HCov.nil (Nat.zero_le _) (Nat.le_refl _) ⟨?_,rfl,rfl⟩;first|rfl|(refine PV.bool_eq (decide_eq_true ?_);simp only;omega)|(refine PV.bool_eq (decide_eq_true ?_);omega))
set_option maxRecDepth 100000 in
theorem sTable_bad (s:Scl) (r:List FV) (hr:r.length=2) (hs:¬ sOk s):VFun env 25 [.agg (Enc.enc s),.agg r] (.tup [.p (.val (.slice none 0 0)),.p (.int .i64 3)]):=by
 have hc:=scheck_spec s
 rw [show chk s=3 from if_neg hs] at hc
 refine VFun.enter (env_none (by decide)) Tryd.func25 rfl (by kernel_rfl) (by simp [Tryd.ntmps25]) ?_
 repeat' (first
  |apply VWp.assoc
  |apply VWp.rseq
  |apply VWp.retSeq
  |apply VOps.nil
  |apply VOps.one
  |(apply VVal.fn;rfl;rfl;exact hc;intro _;rfl)
  |(apply VVal.assign;rfl)
  |(apply VVal.move;rfl)
  |(apply VVal.int;rfl;rfl;rfl)
  |(apply VVal.load;rfl;rfl)
  |(apply VVal.box;rfl;trivial)
  |(apply VVal.alloc;rfl)
  |(apply VVal.storeB;rfl;rfl;rfl;trivial;rfl;rfl;exact lt_dec rfl;exact le_dec rfl)
  |(apply VWp.condSeq_true;rfl))
 all_goals (refine Done.ret rfl (.refl _) (by first|exact trivial|exact ⟨trivial,trivial,trivial⟩|exact ⟨trivial,trivial,trivial,trivial⟩) HCov.nil (Nat.zero_le _) (Nat.le_refl _) ⟨?_,rfl,rfl⟩;try rfl)
set_option maxRecDepth 100000 in
set_option maxHeartbeats 1000000 in
theorem schecks_spec (s t:Scl):VFun env 11 [.agg (Enc.enc s),.agg (Enc.enc t)] (.p (.bool true)):=by
 have hk:=known_spec
 have hl:=lcheck_spec s
 have hc:=scheck_spec s
 have hW:=sWider_spec s t 100 (by omega)
 rw [widR_bad (.inr (.inr (by decide)))] at hW
 by_cases h1:sOk s
 ·rw [show chk s=0 from if_pos h1] at hl hc
  refine VFun.enter (env_none (by decide)) Tryd.func11 rfl (by kernel_rfl) (by simp [Tryd.ntmps11]) ?_
  repeat' (first
   |apply VWp.assoc
   |apply VWp.rseq
   |apply VWp.skipSeq
   |apply VWp.retSeq
   |apply VOps.nil
   |apply VOps.one
   |(apply VOps.take;rfl;rfl)
   |(apply VVal.fn;rfl;rfl;exact hk;intro _;rfl)
   |(apply VVal.fn;rfl;rfl;exact hl;intro _;rfl)
   |(apply VVal.fn;rfl;rfl;exact hc;intro _;rfl)
   |(apply VVal.fn;rfl;rfl;exact hW;intro _;rfl)
   |(apply VVal.assign;rfl)
   |(apply VVal.move;rfl)
   |(apply VVal.int;rfl;rfl;rfl)
   |(apply VVal.load;rfl;rfl)
   |(apply VVal.pick_false;rfl;rfl)
   |(apply VVal.box;rfl;trivial)
   |(apply VVal.not;rfl)
   |(apply VVal.extract;rfl;rfl)
   |(apply VWp.condSeq_true;rfl)
   |(apply VWp.condSeq_false;rfl))
  all_goals first|(exfalso;omega)|(refine Done.ret rfl (.refl _) (by first|exact trivial|exact ⟨trivial,trivial,trivial⟩|exact ⟨trivial,trivial,trivial,trivial⟩) HCov.nil (Nat.zero_le _) (Nat.le_refl _) ⟨?_,rfl,rfl⟩;try rfl)
 ·rw [show chk s=3 from if_neg h1] at hl hc
  have hv:=sValue_spec s 0
  rw [valR_out (fun h=>h1 h.1)] at hv
  have hT:=sTable_bad s [.int .i64 0,.int .i64 0] rfl h1
  have hf:=sFirst_bad s 10 h1
  have hW2:=sWider_spec t s 0 (by omega)
  rw [widR_bad (.inr (.inl h1))] at hW2
  refine VFun.enter (env_none (by decide)) Tryd.func11 rfl (by kernel_rfl) (by simp [Tryd.ntmps11]) ?_
  repeat' (first
   |apply VWp.assoc
   |apply VWp.rseq
   |apply VWp.skipSeq
   |apply VWp.ret
   |apply VOps.nil
   |apply VOps.one
   |(apply VOps.take;rfl;rfl)
   |(apply VVal.fn;rfl;rfl;exact hk;intro _;rfl)
   |(apply VVal.fn;rfl;rfl;exact hl;intro _;rfl)
   |(apply VVal.fn;rfl;rfl;exact hc;intro _;rfl)
   |(apply VVal.fn;rfl;rfl;exact hW;intro _;rfl)
   |(apply VVal.fn;rfl;rfl;exact hv;intro _;rfl)
   |(apply VVal.fn;rfl;rfl;exact hT;intro _;rfl)
   |(apply VVal.fn;rfl;rfl;exact hf;intro _;rfl)
   |(apply VVal.fn;rfl;rfl;exact hW2;intro _;rfl)
   |(apply VVal.assign;rfl)
   |(apply VVal.move;rfl)
   |(apply VVal.int;rfl;rfl;rfl)
   |(apply VVal.load;rfl;rfl)
   |(apply VVal.pick_true;rfl;rfl)
   |(apply VVal.pick_false;rfl;rfl)
   |(apply VVal.lenNil;rfl;rfl)
   |(apply VVal.box;rfl;trivial)
   |(apply VVal.build;rfl;rfl;rfl;rfl;rfl)
   |(apply VVal.not;rfl)
   |(apply VVal.extract;rfl;rfl)
   |(apply VWp.condSeq_false;rfl))
  all_goals first|(exfalso;omega)|(refine Done.ret rfl (.refl _) (by first|exact trivial|exact ⟨trivial,trivial,trivial⟩|exact ⟨trivial,trivial,trivial,trivial⟩) HCov.nil (Nat.zero_le _) (Nat.le_refl _) ⟨?_,rfl,rfl⟩;try rfl)
end Go.Proofs.YtemfebbakfhknaaDoor
