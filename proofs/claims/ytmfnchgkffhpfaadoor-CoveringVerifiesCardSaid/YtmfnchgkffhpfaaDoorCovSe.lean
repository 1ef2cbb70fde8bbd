/-
  The layer's check of a bound. Conditions: in each statement.
-/
import Derived.Test.YtmfnchgkffhpfaaDoorCovSab
import Derived.Test.YtmfnchgkffhpfaaDoorCovU
set_option linter.unusedSimpArgs false
set_option linter.unusedVariables false
set_option linter.unusedSectionVars false
namespace Go.Vm
open Go.Am
section
variable {E:Env} {L:Frame} {H:Heap} {nx:Nat} {Q:PV→Heap→Nat→Prop} {w:Bool}
variable {dst:Option Tmp} {ty:TypeId} {pos:String} {af:Array Edge} {gd:Option (Nat×Bool)}
theorem cells_dropF {α:Type} [Enc α] (l:List α) (i f:Nat) (hi:i<l.length) (hf:f≤Enc.size α):(cells l).drop (i*Enc.size α+f)=(Enc.enc (gi l i)).drop f++cells (l.drop (i+1)):=by
 rw [← List.drop_drop,cells_drop l i hi,List.drop_append_of_le_length (by rw [Enc.len];exact hf)]
theorem VVal.loadVF {α:Type} {_:Enc α} {t:TypeId} {a:Operand} {b n i f:Nat} {e:TypeId} {l:List α} {z:Bool} {r:FV} (ha:vev E.Γ L a=some (.eref b n (i*Enc.size α+f))) (hb:hget H b=some (.vec e (cells l) n z)) (hi:i<l.length) (hf:f≤Enc.size α)
 (h:loadF E.P t ((Enc.enc (gi l i)).drop f++cells (l.drop (i+1)))=some r) (q:Q (.p r) H nx):VVal E w ⟨dst,.load t a,ty,pos,af,gd⟩ L H nx Q :=
 VVal.loadV ha hb (by rw [cells_dropF l i f hi hf];exact h) q
end
end Go.Vm
namespace Go.Proofs.YtmfnchgkffhpfaaDoor
open Go Go.Am Go.Vm
attribute [local irreducible] VVal VOps VOpsD VWp VCalls VFun VFunV QSeq QBlk QLoop Vm.Done DoneV DoneI VRead VReadV
theorem bit_mod (w i:Nat):w.testBit i=true↔w / 2 ^ i % 2=1:=by rw [Nat.testBit_eq_decide_div_mod_eq,decide_eq_true_eq]
theorem bit_mod0 (w i:Nat):w.testBit i=false↔w / 2 ^ i % 2=0:=by
 rw [Nat.testBit_eq_decide_div_mod_eq,decide_eq_false_iff_not]
 have:=Nat.mod_lt (w / 2 ^ i) (show 2>0 by omega)
 omega
open Classical in
set_option maxRecDepth 100000 in
set_option maxHeartbeats 8000000 in
theorem bounds_spec (p:CProb) (n:Nat) (hp:p.n=n) (hn:n≤7) (hL:p.sets.length≤7) (h:ElsOk p.sets) (hE:∀ i,i<p.sets.length→∀ j,j<(gi p.sets i).els.length→0≤gi (gi p.sets i).els j∧gi (gi p.sets i).els j<n) (least:Int) (x:CSt) (hx:x.ok) (y:CNode) (hy:y.ws.length<1000) :
 VFun env 63 [.cptr (srchC p++[.int .i64 least]),.agg (Enc.enc x),.agg (Enc.enc y)] (.p (.bool (decide (bndB p.sets n least x y)))):=by
 obtain ⟨o1,o2,o3,o4,o5⟩:=hx
 by_cases hlen:y.ws.length=n
 case neg =>
  rw [decide_eq_false (fun hb:bndB _ _ _ _ _=>hlen hb.1)]
  refine VFun.enter (env_none (by decide)) Tryd.func63 rfl (by kernel_rfl) (by simp [Tryd.ntmps63]) ?_
  repeat' (first
   |apply VWp.assoc
   |apply VWp.rseq
   |apply VWp.rseqD
   |apply VWp.retSeq
   |apply VOps.nil
   |apply VOpsD.nil
   |apply VOps.one
   |(apply VOpsD.bar;decide +kernel)
   |apply VOpsD.quiet
   |(apply VVal.nilChkC;rfl)
   |(apply VVal.assign;rfl)
   |(apply VVal.move;rfl)
   |(apply VVal.int;rfl;rfl;rfl)
   |(apply VVal.load;rfl;rfl)
   |(apply VVal.lenF;rfl;rfl)
   |(apply VVal.fieldB;rfl;rfl;rfl)
   |(apply VVal.fieldF;rfl;rfl)
   |(apply VVal.box;rfl;trivial)
   |(apply VWp.condSeq_dec;rfl)
   |(intro _;try (exfalso;omega)))
  all_goals first|(exfalso;omega)|(refine Done.ret rfl (.refl _) (by first|exact trivial|exact ⟨trivial,trivial,trivial⟩|exact ⟨trivial,trivial,trivial,trivial⟩) HCov.nil (Nat.zero_le _) (Nat.le_refl _) ⟨?_,rfl,rfl⟩;try rfl)
 subst hlen
 refine VFun.enter (env_none (by decide)) Tryd.func63 rfl (by kernel_rfl) (by simp [Tryd.ntmps63]) ?_
 repeat' (first
  |apply VWp.assoc
  |apply VWp.rseq
  |apply VWp.rseqD
  |apply VWp.skipSeq
  |apply VWp.blockSeq
  |apply VOps.nil
  |apply VOpsD.nil
  |apply VOps.one
  |(apply VOpsD.bar;decide +kernel)
  |apply VOpsD.quiet
  |(apply VVal.nilChkC;rfl)
  |(apply VVal.assign;rfl)
  |(apply VVal.move;rfl)
  |(apply VVal.int;rfl;rfl;rfl)
  |(apply VVal.load;rfl;rfl)
  |(apply VVal.lenF;rfl;rfl)
  |(apply VVal.fieldB;rfl;rfl;rfl)
  |(apply VVal.fieldF;rfl;rfl)
  |(apply VVal.box;rfl;trivial)
  |(apply VWp.condSeq_dec;rfl)
  |(intro _;try (exfalso;omega)))
 all_goals try (exfalso;omega)
 have hsum:∀ k,k≤y.ws.length→(∀ i,i<k→0≤gi y.ws i∧gi y.ws i≤1000000)→0≤sumK y.ws k∧sumK y.ws k≤k*1000000:=fun k hk hb=>by
  induction k with
  |zero=>simp [sumK]
  |succ k ih =>
   have h1:=ih (by omega) (fun i hi=>hb i (by omega))
   have h2:=hb k (by omega)
   simp only [sumK]
   omega
 refine VWp.ghost (Ghost.le 7 rfl (v0:=.p (.int .i64 (x.cost+sumK y.ws 0))) (.of_eq (by simp [sumK]))) ?_
 apply VWp.loopRI (y.ws.length) (fun k=>∀ i,i<k→(0≤gi y.ws i∧gi y.ws i≤1000000)∧¬ (0<gi y.ws i∧x.cov.testBit i=true)) [(0,_),(4,_),(5,_),(24,_),(25,_)] [(0,_),(1,_)] (fun k r=>(26,.p (.int .i64 (k:Int)))::(7,.p (.int .i64 (x.cost+sumK y.ws k)))::r) (fun k r=>r) 2
 ·omega
 ·omega
 ·repeat (first|exact LCov.nil|(refine LCov.eq rfl ?_ ?_;(first|exact PV.under_of rfl|(simp [PV.under,PVs.under];done)))|refine LCov.cons trivial rfl (.of_eq (lst_len (by simp<;>omega))) ?_)
 ·repeat (first|exact HCov.nil|(refine HCov.eq rfl (lt_dec rfl) ?_ ?_;(first|exact HB.under_of rfl|exact PVs.under_pure _ _|(simp [HB.under,PVs.under,PV.under];done)))|(refine HCov.cons (lt_dec rfl) ?_ rfl ?_ ?_;(first|exact trivial|exact PVs.under_pure _ _|(simp [HB.under,PVs.under,PV.under]));(first|exact HLe.refl _|exact HLe.vec (FLes.refl _) (by simp))))
 ·first|(intro _ _;omega)|omega|trivial
 ·intro k hk hiv
  have hs:=hsum k (by omega) (fun i hi=>(hiv i hi).1)
  have hbm:=bit_mod x.cov k
  have hdl:x.cov / 2 ^ k≤x.cov:=Nat.div_le_self _ _
  by_cases hok:(0≤gi y.ws k∧gi y.ws k≤1000000)∧¬ (0<gi y.ws k∧x.cov.testBit k=true)
  case neg =>
   rw [decide_eq_false (fun hb:bndB _ _ _ _ _=>hok (hb.2.1 k hk))]
   have hok2:¬ ((0≤gi y.ws k∧gi y.ws k≤1000000)∧¬ (0<gi y.ws k∧x.cov / 2 ^ k % 2=1)):=fun hh=>hok ⟨hh.1,fun h2=>hh.2 ⟨h2.1,hbm.1 h2.2⟩⟩
   repeat' (first
    |apply VWp.assoc
    |apply VWp.rseq
    |apply VWp.skipSeq
    |apply VWp.retSeq
    |apply VWp.blockSeq
    |apply QSeq.ret
    |apply QBlk.ret
    |apply QLoop.ret
    |apply VOps.nil
    |apply VOps.one
    |(apply VOps.take;rfl;rfl)
    |(apply VOps.drop;rfl;rfl;rfl)
    |(apply VOps.guard;rfl;rfl)
    |(apply VOps.dropU;rfl;rfl)
    |(apply VVal.and1U;rfl;rfl;omega)
    |(apply VVal.assign;rfl)
    |(apply VVal.move;rfl)
    |(apply VVal.int;rfl;rfl;rfl)
    |(apply VVal.indexN;rfl;rfl;rfl;omega;rfl)
    |(apply VVal.load;rfl;rfl)
    |(apply VVal.pick_true;rfl;rfl)
    |(apply VVal.pick_false;rfl;rfl)
    |(apply VVal.fieldB;rfl;rfl;rfl)
    |(apply VVal.shrN;rfl;rfl;(simp only [IntKind.bits];omega))
    |(apply VWp.condSeq_true;rfl)
    |(apply VWp.condSeq_dec;rfl)
    |(intro _;try (exfalso;omega)))
   all_goals first|(exfalso;omega)|(refine Done.ret rfl (.refl _) (by first|exact trivial|exact ⟨trivial,trivial,trivial⟩|exact ⟨trivial,trivial,trivial,trivial⟩) HCov.nil (Nat.zero_le _) (Nat.le_refl _) ⟨?_,rfl,rfl⟩;try rfl)
  have hiv2:∀ i,i<k+1→(0≤gi y.ws i∧gi y.ws i≤1000000)∧¬ (0<gi y.ws i∧x.cov.testBit i=true):=fun i hi=>by
   by_cases e:i=k
   ·subst e;exact hok
   ·exact hiv i (by omega)
  have hok2:¬ (0<gi y.ws k∧x.cov / 2 ^ k % 2=1):=fun hh=>hok.2 ⟨hh.1,hbm.2 hh.2⟩
  have e1:x.cost+sumK y.ws k+gi y.ws k=x.cost+sumK y.ws (k+1):=by simp only [sumK];omega
  obtain ⟨⟨hk1,hk2⟩,_⟩:=hok
  by_cases hw0:0<gi y.ws k
  ·repeat' (first
    |apply VWp.assoc
    |apply VWp.rseq
    |apply VWp.region
    |apply VWp.skipSeq
    |apply VWp.blockSeq
    |apply QSeq.normal
    |apply QBlk.normal
    |apply VOps.nil
    |apply VOps.one
    |(apply VOps.take;rfl;rfl)
    |(apply VOps.guard;rfl;rfl)
    |(apply VVal.and1U;rfl;rfl;omega)
    |(apply VVal.assign;rfl)
    |(apply VVal.move;rfl)
    |(apply VVal.add64;rfl;rfl;omega)
    |(apply VVal.int;rfl;rfl;rfl)
    |(apply VVal.indexN;rfl;rfl;rfl;omega;rfl)
    |(apply VVal.load;rfl;rfl)
    |(apply VVal.pick_true;rfl;rfl)
    |(apply VVal.pick_false;rfl;rfl)
    |(apply VVal.fieldB;rfl;rfl;rfl)
    |(apply VVal.shrN;rfl;rfl;(simp only [IntKind.bits];omega))
    |(apply VWp.condSeq_dec;rfl)
    |(intro _;try (exfalso;omega)))
   all_goals try (exfalso;omega)
   refine QLoop.normal ⟨hiv2,by omega,?_,?_⟩
   ·try (try rw [← e1])
    repeat (first|exact LCov.nil|refine LCov.same trivial rfl ?_|refine LCov.same (lt_dec rfl) rfl ?_|refine LCov.same ⟨trivial,lt_dec rfl,trivial⟩ rfl ?_|refine LCov.same ⟨trivial,lt_dec rfl,lt_dec rfl,trivial⟩ rfl ?_|refine LCov.same ⟨trivial,lt_dec rfl,lt_dec rfl,lt_dec rfl,trivial⟩ rfl ?_|refine LCov.same ⟨trivial,trivial⟩ rfl ?_|refine LCov.cons trivial rfl (.of_eq (lst_len (by simp<;>omega))) ?_)
   ·try rw [← e1]
    repeat (first|exact HCov.nil|(refine HCov.cons (lt_dec rfl) ?_ rfl ?_ ?_;(first|exact HB.under_of rfl|exact PVs.under_pure _ _|(simp [HB.under,PVs.under,PV.under]));(first|exact HLe.refl _|exact HLe.vec (FLes.refl _) (by simp))))
  ·repeat' (first
    |apply VWp.assoc
    |apply VWp.rseq
    |apply VWp.region
    |apply VWp.skipSeq
    |apply VWp.blockSeq
    |apply QSeq.normal
    |apply QBlk.normal
    |apply VOps.nil
    |apply VOps.one
    |(apply VOps.take;rfl;rfl)
    |(apply VOps.drop;rfl;rfl;rfl)
    |(apply VOps.guard;rfl;rfl)
    |(apply VVal.assign;rfl)
    |(apply VVal.move;rfl)
    |(apply VVal.add64;rfl;rfl;omega)
    |(apply VVal.int;rfl;rfl;rfl)
    |(apply VVal.indexN;rfl;rfl;rfl;omega;rfl)
    |(apply VVal.load;rfl;rfl)
    |(apply VVal.pick_false;rfl;rfl)
    |(apply VWp.condSeq_false;rfl)
    |(apply VWp.condSeq_dec;rfl)
    |(intro _;try (exfalso;omega)))
   all_goals try (exfalso;omega)
   refine QLoop.normal ⟨hiv2,by omega,?_,?_⟩
   ·try (try rw [← e1])
    repeat (first|exact LCov.nil|refine LCov.same trivial rfl ?_|refine LCov.same (lt_dec rfl) rfl ?_|refine LCov.same ⟨trivial,lt_dec rfl,trivial⟩ rfl ?_|refine LCov.same ⟨trivial,lt_dec rfl,lt_dec rfl,trivial⟩ rfl ?_|refine LCov.same ⟨trivial,lt_dec rfl,lt_dec rfl,lt_dec rfl,trivial⟩ rfl ?_|refine LCov.same ⟨trivial,trivial⟩ rfl ?_|refine LCov.cons trivial rfl (.of_eq (lst_len (by simp<;>omega))) ?_)
   ·try rw [← e1]
    repeat (first|exact HCov.nil|(refine HCov.cons (lt_dec rfl) ?_ rfl ?_ ?_;(first|exact HB.under_of rfl|exact PVs.under_pure _ _|(simp [HB.under,PVs.under,PV.under]));(first|exact HLe.refl _|exact HLe.vec (FLes.refl _) (by simp))))
 ·intro hiv
  have hs:=hsum y.ws.length (Nat.le_refl _) (fun i hi=>(hiv i hi).1)
  generalize hS:x.cost+sumK y.ws y.ws.length=S at *
  repeat' (first
   |apply VWp.assoc
   |apply VWp.rseq
   |apply VWp.exitSeq
   |apply VWp.blockSeq
   |apply QSeq.normal
   |apply QBlk.exit
   |apply QLoop.exit
   |apply VOps.nil
   |apply VOps.one
   |(apply VVal.nilChkC;rfl)
   |(apply VVal.move;rfl)
   |(apply VVal.int;rfl;rfl;rfl)
   |(apply VVal.load;rfl;rfl)
   |(apply VVal.lenF;rfl;rfl)
   |(apply VVal.fieldF;rfl;rfl)
   |(apply VWp.condSeq_dec;rfl)
   |(intro _;try (exfalso;omega)))
  all_goals try (exfalso;omega)
  apply VWp.loopRI (p.sets.length) (fun k=>∀ i,i<k→(x.taken ||| x.out).testBit i=false→weighK (gi p.sets i) y.ws (gi p.sets i).els.length≤(gi p.sets i).cost) [(0,_),(4,_),(5,_),(7,_),(57,_),(58,_)] [(0,_),(1,_)] (fun k r=>(59,.p (.int .i64 (k:Int)))::r) (fun k r=>r) 2
  ·omega
  ·omega
  ·repeat (first|exact LCov.nil|(refine LCov.eq rfl ?_ ?_;(first|exact PV.under_of rfl|(simp [PV.under,PVs.under];done)))|refine LCov.cons trivial rfl (.of_eq (lst_len (by simp<;>omega))) ?_)
  ·repeat (first|exact HCov.nil|(refine HCov.eq rfl (lt_dec rfl) ?_ ?_;(first|exact HB.under_of rfl|exact PVs.under_pure _ _|(simp [HB.under,PVs.under,PV.under];done)))|(refine HCov.cons (lt_dec rfl) ?_ rfl ?_ ?_;(first|exact trivial|exact PVs.under_pure _ _|(simp [HB.under,PVs.under,PV.under]));(first|exact HLe.refl _|exact HLe.vec (FLes.refl _) (by simp))))
  ·first|(intro _ _;omega)|omega|trivial
  ·intro k hk hiv2
   have hbm:=bit_mod0 (x.taken ||| x.out) k
   have hor:x.taken ||| x.out<2 ^ 7:=Nat.or_lt_two_pow o1 o2
   have hdl:(x.taken ||| x.out) / 2 ^ k≤x.taken ||| x.out:=Nat.div_le_self _ _
   have hwg:=weigh_spec 3 (gi p.sets k) y.ws (by have:=(h k hk).1;omega) (fun i hi=>(hiv i hi).1) (hE k hk)
   have hmod:=Nat.mod_lt ((x.taken ||| x.out) / 2 ^ k) (show 2>0 by omega)
   by_cases hfree:(x.taken ||| x.out).testBit k=false
   ·have hf:=hbm.1 hfree
    by_cases hok:weighK (gi p.sets k) y.ws (gi p.sets k).els.length≤(gi p.sets k).cost
    ·have hiv3:∀ i,i<k+1→(x.taken ||| x.out).testBit i=false→weighK (gi p.sets i) y.ws (gi p.sets i).els.length≤(gi p.sets i).cost:=fun i hi h0=>by
      by_cases e:i=k
      ·subst e;exact hok
      ·exact hiv2 i (by omega) h0
     repeat' (first
      |apply VWp.rseq
      |apply VWp.rseqD
      |apply VWp.region
      |apply VWp.skipSeq
      |apply VWp.blockSeq
      |apply QSeq.normal
      |apply QBlk.normal
      |apply VWp.skip
      |apply VOps.nil
      |apply VOpsD.nil
      |apply VOps.one
      |(apply VOpsD.bar;decide +kernel)
      |apply VOpsD.quiet
      |(apply VOpsD.quietTake;rfl;rfl)
      |(apply VOpsD.guard;rfl;rfl)
      |(apply VVal.and1U;rfl;rfl;omega)
      |(apply VVal.fn;rfl;rfl;exact hwg;intro _;rfl)
      |(apply VVal.assign;rfl)
      |(apply VVal.move;rfl)
      |(apply VVal.add64;rfl;rfl;omega)
      |(apply VVal.orU;rfl;rfl;omega;omega)
      |(apply VVal.int;rfl;rfl;rfl)
      |(apply VVal.indexN;rfl;rfl;rfl;omega;rfl)
      |(apply VVal.load;rfl;rfl)
      |(apply VVal.pick_true;rfl;rfl)
      |(apply VVal.fieldB;rfl;rfl;rfl)
      |(apply VVal.alloc;rfl)
      |(apply VVal.storeB;rfl;rfl;rfl;trivial;rfl;rfl;exact lt_dec rfl;exact le_dec rfl)
      |(apply VVal.shrN;rfl;rfl;(simp only [IntKind.bits];omega))
      |(apply VWp.condSeq_dec;rfl)
      |(apply VWp.cond_dec;rfl)
      |(intro _;try (exfalso;omega)))
     all_goals try (exfalso;omega)
     refine QLoop.normal ⟨hiv3,by omega,?_,?_⟩
     ·repeat (first|exact LCov.nil|refine LCov.same trivial rfl ?_|refine LCov.same (lt_dec rfl) rfl ?_|refine LCov.same ⟨trivial,lt_dec rfl,trivial⟩ rfl ?_|refine LCov.same ⟨trivial,lt_dec rfl,lt_dec rfl,trivial⟩ rfl ?_|refine LCov.same ⟨trivial,lt_dec rfl,lt_dec rfl,lt_dec rfl,trivial⟩ rfl ?_|refine LCov.same ⟨trivial,trivial⟩ rfl ?_|refine LCov.cons trivial rfl (.of_eq (lst_len (by simp<;>omega))) ?_)
     ·repeat (first|exact HCov.nil|(refine HCov.cons (lt_dec rfl) ?_ rfl ?_ ?_;(first|exact HB.under_of rfl|exact PVs.under_pure _ _|(simp [HB.under,PVs.under,PV.under]));(first|exact HLe.refl _|exact HLe.vec (FLes.refl _) (by simp))))
    ·rw [decide_eq_false (fun hb:bndB _ _ _ _ _=>hok (hb.2.2.1 k hk hfree))]
     repeat' (first
      |apply VWp.rseq
      |apply VWp.rseqD
      |apply VWp.skipSeq
      |apply VWp.blockSeq
      |apply QSeq.ret
      |apply QBlk.ret
      |apply QLoop.ret
      |apply VWp.ret
      |apply VOps.nil
      |apply VOpsD.nil
      |apply VOps.one
      |(apply VOpsD.bar;decide +kernel)
      |apply VOpsD.quiet
      |(apply VOpsD.quietTake;rfl;rfl)
      |(apply VOpsD.guard;rfl;rfl)
      |(apply VVal.and1U;rfl;rfl;omega)
      |(apply VVal.fn;rfl;rfl;exact hwg;intro _;rfl)
      |(apply VVal.assign;rfl)
      |(apply VVal.move;rfl)
      |(apply VVal.orU;rfl;rfl;omega;omega)
      |(apply VVal.int;rfl;rfl;rfl)
      |(apply VVal.indexN;rfl;rfl;rfl;omega;rfl)
      |(apply VVal.load;rfl;rfl)
      |(apply VVal.pick_true;rfl;rfl)
      |(apply VVal.fieldB;rfl;rfl;rfl)
      |(apply VVal.alloc;rfl)
      |(apply VVal.storeB;rfl;rfl;rfl;trivial;rfl;rfl;exact lt_dec rfl;exact le_dec rfl)
      |(apply VVal.shrN;rfl;rfl;(simp only [IntKind.bits];omega))
      |(apply VWp.condSeq_dec;rfl)
      |(apply VWp.cond_dec;rfl)
      |(intro _;try (exfalso;omega)))
     all_goals first|(exfalso;omega)|(refine Done.ret rfl (.refl _) (by first|exact trivial|exact ⟨trivial,trivial,trivial⟩|exact ⟨trivial,trivial,trivial,trivial⟩) HCov.nil (Nat.zero_le _) (Nat.le_refl _) ⟨?_,rfl,rfl⟩;try rfl)
   ·have hf:¬ (x.taken ||| x.out) / 2 ^ k % 2=0:=fun e=>hfree (hbm.2 e)
    have hiv3:∀ i,i<k+1→(x.taken ||| x.out).testBit i=false→weighK (gi p.sets i) y.ws (gi p.sets i).els.length≤(gi p.sets i).cost:=fun i hi h0=>by
     by_cases e:i=k
     ·subst e;exact absurd h0 hfree
     ·exact hiv2 i (by omega) h0
    repeat' (first
     |apply VWp.rseq
     |apply VWp.rseqD
     |apply VWp.region
     |apply VWp.skipSeq
     |apply VWp.blockSeq
     |apply QSeq.normal
     |apply QBlk.normal
     |apply VWp.skip
     |apply VOps.nil
     |apply VOpsD.nil
     |apply VOps.one
     |(apply VOpsD.bar;decide +kernel)
     |apply VOpsD.quiet
     |(apply VOpsD.drop;rfl;rfl;rfl)
     |(apply VOpsD.guard;rfl;rfl)
     |(apply VVal.and1U;rfl;rfl;omega)
     |(apply VVal.assign;rfl)
     |(apply VVal.move;rfl)
     |(apply VVal.add64;rfl;rfl;omega)
     |(apply VVal.orU;rfl;rfl;omega;omega)
     |(apply VVal.int;rfl;rfl;rfl)
     |(apply VVal.indexN;rfl;rfl;rfl;omega;rfl)
     |(apply VVal.load;rfl;rfl)
     |(apply VVal.pick_false;rfl;rfl)
     |(apply VVal.fieldB;rfl;rfl;rfl)
     |(apply VVal.alloc;rfl)
     |(apply VVal.storeB;rfl;rfl;rfl;trivial;rfl;rfl;exact lt_dec rfl;exact le_dec rfl)
     |(apply VVal.shrN;rfl;rfl;(simp only [IntKind.bits];omega))
     |(apply VWp.condSeq_dec;rfl)
     |(apply VWp.cond_false;rfl)
     |(intro _;try (exfalso;omega)))
    all_goals try (exfalso;omega)
    refine QLoop.normal ⟨hiv3,by omega,?_,?_⟩
    ·repeat (first|exact LCov.nil|refine LCov.same trivial rfl ?_|refine LCov.same (lt_dec rfl) rfl ?_|refine LCov.same ⟨trivial,lt_dec rfl,trivial⟩ rfl ?_|refine LCov.same ⟨trivial,lt_dec rfl,lt_dec rfl,trivial⟩ rfl ?_|refine LCov.same ⟨trivial,lt_dec rfl,lt_dec rfl,lt_dec rfl,trivial⟩ rfl ?_|refine LCov.same ⟨trivial,trivial⟩ rfl ?_|refine LCov.cons trivial rfl (.of_eq (lst_len (by simp<;>omega))) ?_)
    ·repeat (first|exact HCov.nil|(refine HCov.cons (lt_dec rfl) ?_ rfl ?_ ?_;(first|exact HB.under_of rfl|exact PVs.under_pure _ _|(simp [HB.under,PVs.under,PV.under]));(first|exact HLe.refl _|exact HLe.vec (FLes.refl _) (by simp))))
  ·intro hiv2
   by_cases hb1:y.bound=S
   ·by_cases hb2:S≥least
    ·rw [decide_eq_true (show bndB p.sets y.ws.length least x y from ⟨rfl,hiv,hiv2,by omega,by omega⟩)]
     repeat' (first
      |apply VWp.rseq
      |apply VWp.exitSeq
      |apply QSeq.normal
      |apply QBlk.exit
      |apply QLoop.exit
      |apply VWp.ret
      |apply VOps.nil
      |apply VOps.one
      |(apply VOps.take;rfl;rfl)
      |(apply VOps.guard;rfl;rfl)
      |(apply VVal.nilChkC;rfl)
      |(apply VVal.assign;rfl)
      |(apply VVal.move;rfl)
      |(apply VVal.int;rfl;rfl;rfl)
      |(apply VVal.load;rfl;rfl)
      |(apply VVal.pick_true;rfl;rfl)
      |(apply VVal.fieldB;rfl;rfl;rfl)
      |(apply VVal.fieldF;rfl;rfl)
      |(apply VWp.condSeq_dec;rfl)
      |(intro _;try (exfalso;omega)))
     all_goals first|(exfalso;omega)|((refine Done.ret rfl (.refl _) (by first|exact trivial|exact ⟨trivial,trivial,trivial⟩|exact ⟨trivial,trivial,trivial,trivial⟩) HCov.nil (Nat.zero_le _) (Nat.le_refl _) ⟨?_,rfl,rfl⟩;try rfl);try simp [hb2])
    ·rw [decide_eq_false (fun hb:bndB _ _ _ _ _=>hb2 (by have:=hb.2.2.2.2;omega))]
     repeat' (first
      |apply VWp.rseq
      |apply VWp.exitSeq
      |apply QSeq.normal
      |apply QBlk.exit
      |apply QLoop.exit
      |apply VWp.ret
      |apply VOps.nil
      |apply VOps.one
      |(apply VOps.take;rfl;rfl)
      |(apply VOps.guard;rfl;rfl)
      |(apply VVal.nilChkC;rfl)
      |(apply VVal.assign;rfl)
      |(apply VVal.move;rfl)
      |(apply VVal.int;rfl;rfl;rfl)
      |(apply VVal.load;rfl;rfl)
      |(apply VVal.pick_true;rfl;rfl)
      |(apply VVal.fieldB;rfl;rfl;rfl)
      |(apply VVal.fieldF;rfl;rfl)
      |(apply VWp.condSeq_dec;rfl)
      |(intro _;try (exfalso;omega)))
     all_goals first|(exfalso;omega)|((refine Done.ret rfl (.refl _) (by first|exact trivial|exact ⟨trivial,trivial,trivial⟩|exact ⟨trivial,trivial,trivial,trivial⟩) HCov.nil (Nat.zero_le _) (Nat.le_refl _) ⟨?_,rfl,rfl⟩;try rfl);try simp [hb2])
   ·rw [decide_eq_false (fun hb:bndB _ _ _ _ _=>hb1 (by have:=hb.2.2.2.1;omega))]
    repeat' (first
     |apply VWp.rseq
     |apply VWp.exitSeq
     |apply QSeq.normal
     |apply QBlk.exit
     |apply QLoop.exit
     |apply VWp.ret
     |apply VOps.nil
     |apply VOps.one
     |(apply VOps.drop;rfl;rfl;rfl)
     |(apply VOps.guard;rfl;rfl)
     |(apply VVal.assign;rfl)
     |(apply VVal.move;rfl)
     |(apply VVal.int;rfl;rfl;rfl)
     |(apply VVal.load;rfl;rfl)
     |(apply VVal.pick_false;rfl;rfl)
     |(apply VVal.fieldB;rfl;rfl;rfl)
     |(apply VWp.condSeq_dec;rfl)
     |(intro _;try (exfalso;omega)))
    all_goals first|(exfalso;omega)|(refine Done.ret rfl (.refl _) (by first|exact trivial|exact ⟨trivial,trivial,trivial⟩|exact ⟨trivial,trivial,trivial,trivial⟩) HCov.nil (Nat.zero_le _) (Nat.le_refl _) ⟨?_,rfl,rfl⟩;try rfl)
end Go.Proofs.YtmfnchgkffhpfaaDoor
