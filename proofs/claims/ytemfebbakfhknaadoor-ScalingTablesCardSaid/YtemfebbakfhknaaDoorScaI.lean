/-
  The statement on octaves, as a walk. Conditions: in each statement.
-/
import Derived.Test.YtemfebbakfhknaaDoorScaH
set_option linter.unusedSimpArgs false
set_option linter.unusedVariables false
namespace Go.Proofs.YtemfebbakfhknaaDoor
open Go Go.Am Go.Vm Go.Sca
attribute [local irreducible] VVal VOps VOpsD VWp VCalls VFun VFunV QSeq QBlk QLoop Vm.Done DoneV DoneI
theorem mea_half {b x y:Nat}:mea (mk b x y) (mk b x y).halv=((mk b x y).base+1) / 2+(mk b x y).add:=by
 unfold mea
 have h1:(mk b x y).halv=(((mk b x y).halv.toNat:Nat):Int):=(Int.toNat_of_nonneg (by unfold mk;simp only;omega)).symm
 have h2:=me_half (b:=(mk b x y).base.toNat) (h:=(mk b x y).halv.toNat) (by unfold mk;simp only;omega) (by unfold mk;simp only;omega)
 rw [← h1] at h2
 rw [h2]
 have h3:0≤(mk b x y).base:=by unfold mk;simp only;omega
 omega
theorem mea_zero {s:Scl} (h:sOk s):mea s 0=s.base+s.add:=by
 obtain ⟨h1,h2,h3,h4,h5,h6⟩:=h
 unfold mea
 rw [me_zero (by omega) (by omega)]
 omega
theorem mea_base {s:Scl} {n:Int}:mea s n≤mea ⟨s.base+1,s.halv,s.add⟩ n:=by
 have:=me_base (a:=s.base.toNat) (b:=(s.base+1).toNat) (den:=1) (h:=s.halv.toNat) (s:=n) (by omega)
 unfold mea
 simp only
 omega
theorem tmod_bd {n m:Int} (hm:0<m):-m<n.tmod m∧n.tmod m<m:=by
 have h1:=Int.natAbs_tmod n m
 have h2:n.natAbs % m.natAbs<m.natAbs:=Nat.mod_lt _ (by omega)
 omega
theorem lenR_octave {u n:Int} (hu:1≤u∧u≤10000) (h1:wOk n) (h2:wOk (n+12)):lenR ⟨8,1⟩ u (n+12)=lenR ⟨4,1⟩ u n∧((lenR ⟨4,1⟩ u n).2=0∨(lenR ⟨4,1⟩ u n).2=4):=by
 have e1:lenE ⟨8,1⟩ u (n+12)=0:=by
  unfold lenE
  rw [if_neg (Classical.not_not.2 (by decide)),if_neg ?_,if_neg (by decide)]
  rintro (h|h|h|h|h)
  ·simp at h
  ·simp at h
  ·omega
  ·omega
  ·exact h h2
 have e2:lenE ⟨4,1⟩ u n=0:=by
  unfold lenE
  rw [if_neg (Classical.not_not.2 (by decide)),if_neg ?_,if_neg (by decide)]
  rintro (h|h|h|h|h)
  ·simp at h
  ·simp at h
  ·omega
  ·omega
  ·exact h h1
 have e3:lenM ⟨8,1⟩ u (n+12)=lenM ⟨4,1⟩ u n:=by
  unfold lenM
  exact me_octave u.toNat n
 unfold lenR
 rw [e1,e2,e3]
 refine ⟨rfl,?_⟩
 simp only [if_true]
 split
 ·exact .inl rfl
 ·exact .inr rfl
attribute [local irreducible] hvl mea me rnd rk lo fstN lenR
set_option maxRecDepth 100000 in
set_option maxHeartbeats 1000000 in
theorem octaves_spec (b x y:Nat) (n0:Int) (hb:b<65536) (hx:x<256) (hy:y<256) (hn0:-128≤n0∧n0≤127):VFun env 6 [.int .u16 (b:Int),.agg [.int .u8 (x:Int),.int .u8 (y:Int)],.int .i8 n0] (.p (.bool true)):=by
 have hk:=known_spec
 have hm:=made_spec b x y hb hx hy
 have hs:sOk (mk b x y):=mk_ok hy
 change VFun env _ _ (.p (.agg (Enc.enc (mk b x y)))) at hm
 have hh:=mea_half (b:=b) (x:=x) (y:=y)
 have hv:=sValue_spec (mk b x y) (mk b x y).halv
 have hs':=hs
 obtain ⟨s1,s2,s3,s4,s5,s6⟩:=hs'
 have hbase:(mk b x y).base≤4096:=by unfold mk;simp only;omega
 have hadd:(mk b x y).add≤255:=by unfold mk;simp only;omega
 have wk:wOk (mk b x y).halv:=by unfold wOk;omega
 rw [show valR (mk b x y) (mk b x y).halv=(mea (mk b x y) (mk b x y).halv,0) by unfold valR;rw [if_pos ⟨hs,wk⟩,if_pos (by omega)],hh] at hv
 have hN:=tmod_bd (n:=n0) (m:=41) (by decide)
 have w1:wOk (n0.tmod 41):=by unfold wOk;omega
 have w2:wOk (n0.tmod 41+12):=by unfold wOk;omega
 obtain ⟨o1,o2⟩:=lenR_octave (u:=1+(b:Int) % 4096) (by omega) w1 w2
 have l1:=sLength_spec ⟨8,1⟩ (1+(b:Int) % 4096) (n0.tmod 41+12)
 have l2:=sLength_spec ⟨4,1⟩ (1+(b:Int) % 4096) (n0.tmod 41)
 rw [o1] at l1
 generalize lenR ⟨4,1⟩ (1+(b:Int) % 4096) (n0.tmod 41)=R at *
 generalize mk b x y=s at *
 refine VFun.enter (env_none (by decide)) Tryd.func6 rfl (by kernel_rfl) (by simp [Tryd.ntmps6]) ?_
 repeat' (first
  |apply VWp.assoc
  |apply VWp.rseq
  |apply VWp.skipSeq
  |apply VWp.ret
  |apply VOps.nil
  |apply VOps.one
  |(apply VOps.take;rfl;rfl)
  |(apply VOps.drop;rfl;rfl;rfl)
  |(apply VOps.guard;rfl;rfl)
  |(apply VVal.fn;rfl;rfl;exact hk;intro _;rfl)
  |(apply VVal.fn;rfl;rfl;exact hm;intro _;rfl)
  |(apply VVal.fn;rfl;rfl;exact hv;intro _;rfl)
  |(apply VVal.fn;rfl;rfl;exact l1;intro _;rfl)
  |(apply VVal.fn;rfl;rfl;exact l2;intro _;rfl)
  |(apply VVal.indexB;rfl;rfl;rfl;rfl;rfl;decide)
  |(apply VVal.assign;rfl)
  |(apply VVal.move;rfl)
  |(apply VVal.add64;rfl;rfl;omega)
  |(apply VVal.remI;rfl;rfl;omega;omega)
  |(apply VVal.quoI;rfl;rfl;omega;omega)
  |(apply VVal.int;rfl;rfl;rfl)
  |(apply VVal.load;rfl;rfl)
  |(apply VVal.pick_true;rfl;rfl)
  |(apply VVal.pick_false;rfl;rfl)
  |(apply VVal.fieldB;rfl;rfl;rfl)
  |(apply VVal.box;rfl;trivial)
  |(apply VVal.alloc;rfl)
  |(apply VVal.storeB;rfl;rfl;rfl;trivial;rfl;rfl;exact lt_dec rfl;exact le_dec rfl)
  |(apply VVal.build;rfl;rfl;rfl;rfl;rfl)
  |(apply VVal.not;rfl)
  |(apply VVal.extract;rfl;rfl)
  |(apply VVal.convI;rfl;rfl;rfl;rfl;omega)
  |(apply VWp.condSeq_false;rfl)
  |(intro _;try (exfalso;omega)))
 all_goals first|(exfalso;omega)|(refine Done.ret rfl (.refl _) (by first|exact trivial|exact ⟨trivial,trivial,trivial⟩|exact ⟨trivial,trivial,trivial,trivial⟩) HCov.nil (Nat.zero_le _) (Nat.le_refl _) ⟨?_,rfl,rfl⟩;first|rfl|(refine PV.bool_eq (decide_eq_true ?_);omega))
end Go.Proofs.YtemfebbakfhknaaDoor
