/-
  The law of coverings: CoveringMissing. Conditions: in each statement.
-/
import Derived.Test.YtmfnchgkffhpfaaDoorCovL
set_option linter.unusedSimpArgs false
set_option linter.unusedVariables false
set_option linter.unusedSectionVars false
namespace Go.Proofs.YtmfnchgkffhpfaaDoor
open Go Go.Am Go.Vm
attribute [local irreducible] VVal VOps VOpsD VWp VCalls VFun VFunV QSeq QBlk QLoop Vm.Done DoneV DoneI
section
variable {p:CProb} {s:List Int} {er:Int} (hc:VFun env 34 [.agg (Enc.enc p)] (.p (.int .i64 0))) (hl:s.length<1000) (he:rsg s p.sets.length 0=er) (h0:er≠0)
include hc hl he h0
set_option maxRecDepth 100000 in
theorem lmissing_spec (e:TypeId):VFun env 16 [.agg (Enc.enc p),.lst e (cells s) s.length] (.tup [.p (.val (.slice none 0 0)),.p (.int .i64 er)]):=by
 have hk:=pcheck_spec e p s hc (by omega)
 rw [he] at hk
 refine VFun.enter (env_none (by decide)) Tryd.func16 rfl (by kernel_rfl) (by simp [Tryd.ntmps16]) ?_
 repeat' (first
  |apply VWp.assoc
  |apply VWp.rseq
  |apply VWp.retSeq
  |apply VOps.nil
  |apply VOps.one
  |(apply VVal.fn;rfl;rfl;exact hk;intro _;rfl)
  |(apply VVal.assign;rfl)
  |(apply VVal.move;rfl)
  |(apply VVal.int;rfl;rfl;rfl)
  |(apply VVal.load;rfl;rfl)
  |(apply VVal.box;rfl;trivial)
  |(apply VWp.condSeq_dec;rfl)
  |(intro _;try (exfalso;omega)))
 all_goals first|(exfalso;omega)|contradiction|(refine Done.ret rfl (.refl _) (by first|exact trivial|exact ⟨trivial,trivial,trivial⟩|exact ⟨trivial,trivial,trivial,trivial⟩) HCov.nil (Nat.zero_le _) (Nat.le_refl _) ⟨?_,rfl,rfl⟩;try rfl)
set_option maxRecDepth 100000 in
theorem lcost_spec (e:TypeId):VFun env 17 [.agg (Enc.enc p),.lst e (cells s) s.length] (.tup [.p (.int .i64 0),.p (.int .i64 er)]):=by
 have hk:=pcheck_spec e p s hc (by omega)
 rw [he] at hk
 refine VFun.enter (env_none (by decide)) Tryd.func17 rfl (by kernel_rfl) (by simp [Tryd.ntmps17]) ?_
 repeat' (first
  |apply VWp.assoc
  |apply VWp.rseq
  |apply VWp.retSeq
  |apply VOps.nil
  |apply VOps.one
  |(apply VVal.fn;rfl;rfl;exact hk;intro _;rfl)
  |(apply VVal.assign;rfl)
  |(apply VVal.move;rfl)
  |(apply VVal.int;rfl;rfl;rfl)
  |(apply VVal.load;rfl;rfl)
  |(apply VVal.box;rfl;trivial)
  |(apply VWp.condSeq_dec;rfl)
  |(intro _;try (exfalso;omega)))
 all_goals first|(exfalso;omega)|contradiction|(refine Done.ret rfl (.refl _) (by first|exact trivial|exact ⟨trivial,trivial,trivial⟩|exact ⟨trivial,trivial,trivial,trivial⟩) HCov.nil (Nat.zero_le _) (Nat.le_refl _) ⟨?_,rfl,rfl⟩;try rfl)
set_option maxRecDepth 100000 in
theorem lirr_spec (e:TypeId):VFun env 18 [.agg (Enc.enc p),.lst e (cells s) s.length] (.tup [.p (.val (.slice none 0 0)),.p (.int .i64 er)]):=by
 have hk:=pcheck_spec e p s hc (by omega)
 rw [he] at hk
 refine VFun.enter (env_none (by decide)) Tryd.func18 rfl (by kernel_rfl) (by simp [Tryd.ntmps18]) ?_
 repeat' (first
  |apply VWp.assoc
  |apply VWp.rseq
  |apply VWp.retSeq
  |apply VOps.nil
  |apply VOps.one
  |(apply VVal.fn;rfl;rfl;exact hk;intro _;rfl)
  |(apply VVal.assign;rfl)
  |(apply VVal.move;rfl)
  |(apply VVal.int;rfl;rfl;rfl)
  |(apply VVal.load;rfl;rfl)
  |(apply VVal.box;rfl;trivial)
  |(apply VWp.condSeq_dec;rfl)
  |(intro _;try (exfalso;omega)))
 all_goals first|(exfalso;omega)|contradiction|(refine Done.ret rfl (.refl _) (by first|exact trivial|exact ⟨trivial,trivial,trivial⟩|exact ⟨trivial,trivial,trivial,trivial⟩) HCov.nil (Nat.zero_le _) (Nat.le_refl _) ⟨?_,rfl,rfl⟩;try rfl)
end
set_option maxRecDepth 100000 in
theorem cloneZ_spec (e:TypeId):VFun env 43 [.lst e (cells ([]:List Int)) ([]:List Int).length] (.p (.lst 3 (cells ([]:List Int)) 0)):=by
 refine VFun.enter (env_none (by decide)) Tryd.func43 rfl (by kernel_rfl) (by simp [Tryd.ntmps43]) ?_
 repeat' (first
  |(refine VOps.atOp 2 ?_;refine VOps.ghost (Ghost.freeze 7 rfl rfl) ?_)
  |apply VWp.assoc
  |apply VWp.rseq
  |apply VWp.skipSeq
  |apply VWp.retSeq
  |apply VWp.ret
  |apply VOps.nil
  |apply VOps.one
  |(apply VVal.eqNil;rfl;rfl;rfl)
  |(apply VVal.assign;rfl)
  |(apply VVal.move;rfl)
  |(apply VVal.buildSlice;rfl;rfl;rfl;decide;rfl;rfl;rfl)
  |(apply VVal.appendL0;rfl;rfl;rfl;(first|rfl|omega|(simp only [List.length_take,List.length_drop,List.length_append,List.length_singleton,List.length_cons,List.length_nil]<;>omega));rfl;rfl;(intro _ h;cases h);rfl;rfl;rfl;decide;decide;(first|omega|(simp only [List.length_take,List.length_drop,List.length_append,List.length_singleton,List.length_cons,List.length_nil]<;>omega)))
  |(apply VWp.condSeq;rfl)
  |(intro _;try (exfalso;omega)))
 all_goals first|(exfalso;omega)|(refine Done.ret rfl (.p (.nil _)) trivial HCov.nil (Nat.zero_le _) (Nat.le_refl _) ⟨rfl,rfl,rfl⟩;done)|(refine Done.ret rfl (.refl _) (by first|exact trivial|exact ⟨trivial,trivial,trivial⟩|exact ⟨trivial,trivial,trivial,trivial⟩) HCov.nil (Nat.zero_le _) (Nat.le_refl _) ⟨?_,rfl,rfl⟩;try rfl)
set_option maxRecDepth 100000 in
theorem irrNil_spec {p:CProb} {n:Nat} (hc:VFun env 34 [.agg (Enc.enc p)] (.p (.int .i64 0))) (hp:p.n=n) (hn:n≤7) (hL:p.sets.length<1000) (h:ElsOk p.sets) (e:TypeId) (heq:covK p.sets [] ([]:List Int).length=2 ^ n-1) :
 VFun env 18 [.agg (Enc.enc p),.lst e (cells ([]:List Int)) ([]:List Int).length] (.tup [.p (.lst 3 (cells ([]:List Int)) ([]:List Int).length),.p (.int .i64 0)]):=by
 have hk:=pcheck_spec e p [] hc (by simp)
 rw [rsg,if_neg (by simp)] at hk
 have hcv:=covered_spec e p [] hL (by simp) h (fun i hi=>by simp at hi)
 have ha:=all_spec p n hp hn
 rw [heq] at hcv
 have hcl:=cloneZ_spec e
 refine VFun.enter (env_none (by decide)) Tryd.func18 rfl (by kernel_rfl) (by simp [Tryd.ntmps18]) ?_
 repeat' (first
  |apply VWp.assoc
  |apply VWp.rseq
  |apply VWp.skipSeq
  |apply VWp.blockSeq
  |apply VOps.nil
  |apply VOps.one
  |(apply VVal.fn;rfl;rfl;exact hk;intro _;rfl)
  |(apply VVal.fn;rfl;rfl;exact hcv;intro _;rfl)
  |(apply VVal.fn;rfl;rfl;exact ha;intro _;rfl)
  |(apply VVal.fn;rfl;rfl;exact hcl;intro _;rfl)
  |(apply VVal.assign;rfl)
  |(apply VVal.move;rfl)
  |(apply VVal.sub64;rfl;rfl;omega)
  |(apply VVal.int;rfl;rfl;rfl)
  |(apply VVal.load;rfl;rfl)
  |(apply VVal.lenF;rfl;rfl)
  |(apply VVal.box;rfl;trivial)
  |(apply VVal.extract;rfl;rfl)
  |(apply VWp.condSeq_false;rfl)
  |(apply VWp.condSeq_dec;rfl)
  |(intro _;try (exfalso;omega)))
 all_goals try (exfalso;omega)
 all_goals try contradiction
 apply VWp.loopN 0
 apply VUn.zero
 repeat' (first
  |apply VWp.assoc
  |apply VWp.rseq
  |apply VWp.exitSeq
  |apply QSeq.normal
  |apply QBlk.exit
  |apply QLoop.exit
  |apply VWp.ret
  |apply VOps.nil
  |apply VOps.one
  |(apply VVal.assign;rfl)
  |(apply VVal.move;rfl)
  |(apply VVal.int;rfl;rfl;rfl)
  |(apply VWp.condSeq_false;rfl))
 all_goals first|(exfalso;omega)|contradiction|(refine Done.ret rfl (.refl _) (by first|exact trivial|exact ⟨trivial,trivial,trivial⟩|exact ⟨trivial,trivial,trivial,trivial⟩) HCov.nil (Nat.zero_le _) (Nat.le_refl _) ⟨?_,rfl,rfl⟩;try rfl)
set_option maxRecDepth 100000 in
theorem llist_spec (e:TypeId) (p:CProb) (l:List Int) (hl:l.length<1000) (hL:p.sets.length<1000):VFun env 19 [.agg (Enc.enc p),.lst e (cells l) l.length] (.p (.int .i64 (rsg l p.sets.length 0))):=by
 refine VFun.enter (env_none (by decide)) Tryd.func19 rfl (by kernel_rfl) (by simp [Tryd.ntmps19]) ?_
 repeat' (first
  |apply VWp.assoc
  |apply VWp.rseq
  |apply VWp.blockSeq
  |apply VOps.nil
  |apply VOps.one
  |(apply VVal.assign;rfl)
  |(apply VVal.box;rfl;trivial))
 refine VWp.loopQ (fun k:Nat=>[(1,lst e l),(2,.ref 0 0),(5,.p (.int .i64 k))]) (fun k=>[(0,.box 29 ((Enc.enc p).map .p))]) 1 (fun k=>k≤l.length∧rsg l p.sets.length k=rsg l p.sets.length 0) (fun k=>l.length-k) 0 (by omega) ⟨by omega,rfl⟩ ⟨by omega,?_,?_⟩ ?_
 ·repeat (first|exact LCov.nil|refine LCov.same trivial rfl ?_|refine LCov.same (lt_dec rfl) rfl ?_|refine LCov.same ⟨trivial,lt_dec rfl,lt_dec rfl,lt_dec rfl,trivial⟩ rfl ?_|refine LCov.same ⟨trivial,lt_dec rfl,lt_dec rfl,trivial⟩ rfl ?_|refine LCov.same ⟨trivial,trivial⟩ rfl ?_|refine LCov.cons trivial rfl (.of_eq (lst_len (by simp<;>omega))) ?_)
 ·repeat (first|exact HCov.nil|(refine HCov.cons (lt_dec rfl) ?_ rfl ?_ ?_;(first|exact trivial|exact PVs.under_pure _ _|(simp [HB.under,PVs.under,PV.under]));(first|exact HLe.refl _|exact HLe.vec (FLes.refl _) (by simp))))
 rintro k ⟨hk,hr⟩
 repeat' (first
  |apply VWp.assoc
  |apply VWp.rseq
  |apply VWp.rseqD
  |apply VWp.region
  |apply VWp.skipSeq
  |apply VWp.retSeq
  |apply VWp.exitSeq
  |apply VWp.blockSeq
  |apply QSeq.normal
  |apply QSeq.ret
  |apply QBlk.normal
  |apply QBlk.ret
  |apply QBlk.exit
  |apply QLoop.ret
  |apply QLoop.exit
  |apply VWp.ret
  |apply VWp.skip
  |apply VOps.nil
  |apply VOpsD.nil
  |apply VOps.one
  |(apply VOpsD.bar;decide +kernel)
  |(apply VOpsD.quietTake;rfl;rfl)
  |(apply VOpsD.drop;rfl;rfl;rfl)
  |(apply VOpsD.guard;rfl;rfl)
  |(apply VVal.assign;rfl)
  |(apply VVal.move;rfl)
  |(apply VVal.add64;rfl;rfl;omega)
  |(apply VVal.sub64;rfl;rfl;omega)
  |(apply VVal.int;rfl;rfl;rfl)
  |(apply VVal.indexN;rfl;rfl;rfl;omega;rfl)
  |(apply VVal.indexP;rfl;rfl;rfl;omega;omega;rfl)
  |(apply VVal.load;rfl;rfl)
  |(apply VVal.pick_true;rfl;rfl)
  |(apply VVal.pick_false;rfl;rfl)
  |(apply VVal.lenF;rfl;rfl)
  |(apply VVal.fieldB;rfl;rfl;rfl)
  |(apply VWp.condSeq_true;rfl)
  |(apply VWp.condSeq_dec;rfl)
  |(apply VWp.cond_false;rfl)
  |(apply VWp.cond_dec;rfl)
  |(intro _;try (exfalso;omega)))
 all_goals try (refine Done.ret rfl (.refl _) (by first|exact trivial|exact ⟨trivial,trivial,trivial⟩|exact ⟨trivial,trivial,trivial,trivial⟩) HCov.nil (Nat.zero_le _) (Nat.le_refl _) ⟨?_,rfl,rfl⟩;rw [← hr,rsg];simp_all;done)
 all_goals try (
  refine QLoop.normal ⟨k+1,⟨by omega,?_⟩,by omega,⟨by omega,?_,?_⟩⟩
  ·rw [← hr];conv=>rhs;rw [rsg]
   rw [if_pos (by omega),if_neg (by omega),if_neg (by omega)]
  ·repeat (first|exact LCov.nil|refine LCov.same trivial rfl ?_|refine LCov.same (lt_dec rfl) rfl ?_|refine LCov.same ⟨trivial,lt_dec rfl,lt_dec rfl,lt_dec rfl,trivial⟩ rfl ?_|refine LCov.same ⟨trivial,lt_dec rfl,lt_dec rfl,trivial⟩ rfl ?_|refine LCov.same ⟨trivial,trivial⟩ rfl ?_|refine LCov.cons trivial rfl (.of_eq (lst_len (by simp<;>omega))) ?_)
  ·repeat (first|exact HCov.nil|(refine HCov.cons (lt_dec rfl) ?_ rfl ?_ ?_;(first|exact trivial|exact PVs.under_pure _ _|(simp [HB.under,PVs.under,PV.under]));(first|exact HLe.refl _|exact HLe.vec (FLes.refl _) (by simp)))))
 ·refine Done.ret rfl (.refl _) (by first|exact trivial|exact ⟨trivial,trivial,trivial⟩|exact ⟨trivial,trivial,trivial,trivial⟩) HCov.nil (Nat.zero_le _) (Nat.le_refl _) ⟨?_,rfl,rfl⟩
  rw [← hr,rsg,if_neg (by omega)]
set_option maxRecDepth 100000 in
theorem same_refl (e e':TypeId) (l:List Int) (hl:l.length<1000000):VFun env 21 [.lst e (cells l) l.length,.lst e' (cells l) l.length] (.p (.bool true)):=by
 refine VFun.enter (env_none (by decide)) Tryd.func21 rfl (by kernel_rfl) (by simp [Tryd.ntmps21]) ?_
 repeat' (first
  |apply VWp.assoc
  |apply VWp.rseq
  |apply VWp.skipSeq
  |apply VWp.blockSeq
  |apply VOps.nil
  |apply VOps.one
  |(apply VVal.assign;rfl)
  |(apply VVal.move;rfl)
  |(apply VVal.int;rfl;rfl;rfl)
  |(apply VVal.lenF;rfl;rfl)
  |(apply VWp.condSeq_dec;rfl)
  |(intro _;try (exfalso;omega)))
 all_goals try (exfalso;omega)
 apply VWp.loopR (l.length) [(0,_),(1,_)] [] (fun k r=>(5,.p (.int .i64 (k:Int)))::r) (fun k r=>r) 0
 ·omega
 ·omega
 ·repeat (first|exact LCov.nil|(refine LCov.eq rfl ?_ ?_;(first|exact PV.under_of rfl|(simp [PV.under,PVs.under];done)))|refine LCov.cons trivial rfl (.of_eq (lst_len (by simp<;>omega))) ?_)
 ·repeat (first|exact HCov.nil|(refine HCov.eq rfl (lt_dec rfl) ?_ ?_;(first|exact HB.under_of rfl|exact PVs.under_pure _ _|(simp [HB.under,PVs.under,PV.under];done)))|(refine HCov.cons (lt_dec rfl) ?_ rfl ?_ ?_;(first|exact trivial|exact PVs.under_pure _ _|(simp [HB.under,PVs.under,PV.under]));(first|exact HLe.refl _|exact HLe.vec (FLes.refl _) (by simp))))
 ·intro k hk
  repeat' (first
   |apply VWp.assoc
   |apply VWp.rseq
   |apply VWp.rseqD
   |apply VWp.region
   |apply VWp.skipSeq
   |apply VWp.blockSeq
   |apply QSeq.normal
   |apply QBlk.normal
   |apply VWp.skip
   |apply VOps.nil
   |apply VOpsD.nil
   |apply VOps.one
   |(apply VOpsD.bar;decide +kernel)
   |apply VOpsD.quiet
   |(apply VVal.assign;rfl)
   |(apply VVal.move;rfl)
   |(apply VVal.add64;rfl;rfl;omega)
   |(apply VVal.int;rfl;rfl;rfl)
   |(apply VVal.indexN;rfl;rfl;rfl;omega;rfl)
   |(apply VVal.load;rfl;rfl)
   |(apply VVal.lenF;rfl;rfl)
   |(apply VWp.condSeq_dec;rfl)
   |(apply VWp.cond_dec;rfl)
   |(intro _;try (exfalso;omega)))
  all_goals try (exfalso;omega)
  refine QLoop.normal ⟨by omega,?_,?_⟩
  ·repeat (first|exact LCov.nil|refine LCov.same trivial rfl ?_|refine LCov.same (lt_dec rfl) rfl ?_|refine LCov.same ⟨trivial,lt_dec rfl,trivial⟩ rfl ?_|refine LCov.same ⟨trivial,lt_dec rfl,lt_dec rfl,trivial⟩ rfl ?_|refine LCov.same ⟨trivial,lt_dec rfl,lt_dec rfl,lt_dec rfl,trivial⟩ rfl ?_|refine LCov.same ⟨trivial,trivial⟩ rfl ?_|refine LCov.cons trivial rfl (.of_eq (lst_len (by simp<;>omega))) ?_)
  ·repeat (first|exact HCov.nil|(refine HCov.cons (lt_dec rfl) ?_ rfl ?_ ?_;(first|exact HB.under_of rfl|exact PVs.under_pure _ _|(simp [HB.under,PVs.under,PV.under]));(first|exact HLe.refl _|exact HLe.vec (FLes.refl _) (by simp))))
 ·repeat' (first
   |apply VWp.assoc
   |apply VWp.rseq
   |apply VWp.exitSeq
   |apply QSeq.normal
   |apply QBlk.exit
   |apply QLoop.exit
   |apply VWp.ret
   |apply VOps.nil
   |apply VOps.one
   |(apply VVal.assign;rfl)
   |(apply VVal.move;rfl)
   |(apply VVal.int;rfl;rfl;rfl)
   |(apply VVal.lenF;rfl;rfl)
   |(apply VWp.condSeq_dec;rfl)
   |(intro _;try (exfalso;omega)))
  all_goals first|(exfalso;omega)|(refine Done.ret rfl (.refl _) (by first|exact trivial|exact ⟨trivial,trivial,trivial⟩|exact ⟨trivial,trivial,trivial,trivial⟩) HCov.nil (Nat.zero_le _) (Nat.le_refl _) ⟨?_,rfl,rfl⟩;try rfl)
theorem filter_take_succ {l:List Int} {c:Int} {j:Nat} (hj:j<l.length):(l.take (j+1)).filter (fun x=>decide (x≠c))=if gi l j=c then (l.take j).filter (fun x=>decide (x≠c)) else (l.take j).filter (fun x=>decide (x≠c))++[gi l j]:=by
 rw [take_succ_gi hj,List.filter_append]
 by_cases h:gi l j=c
 ·rw [if_pos h];simp [h]
 ·rw [if_neg h];simp [h]
set_option maxRecDepth 100000 in
set_option maxHeartbeats 2000000 in
theorem rirr_spec (e:TypeId) (n:Nat) (L:List CSet) (s:List Int) (hn:n<1000) (hL:L.length<1000) (hl:s.length<1000) (h:∀ i,i<L.length→(gi L i).els.length<1000) (hs:∀ i,i<s.length→0≤gi s i∧gi s i<L.length) (hlt:∀ j i,i<j→j<s.length→gi s i<gi s j) :
 VFun env 22 [.int .i64 n,.lst e (cells L) L.length,.lst 3 (cells s) s.length] (.p (.lst 3 (cells (irrO L n s s.length)) (irrO L n s s.length).length)):=by
 have e0:s=irrO L n s 0:=by unfold irrO;simp [irrT]
 refine VFun.enter (env_none (by decide)) Tryd.func22 rfl (by kernel_rfl) (by simp [Tryd.ntmps22]) ?_
 repeat' (first
  |apply VWp.assoc
  |apply VWp.rseq
  |apply VWp.blockSeq
  |apply VOps.nil
  |apply VOps.one
  |(apply VVal.assign;rfl)
  |(apply VVal.move;rfl)
  |(apply VVal.sub64;rfl;rfl;omega)
  |(apply VVal.lenF;rfl;rfl))
 all_goals try (exfalso;omega)
 refine VWp.ghost (Ghost.le 8 rfl (v0:=.p (.int .i64 ((s.length:Int)-1-((0:Nat):Int)))) (.of_eq (by simp))) ?_
 refine VWp.ghost (Ghost.le 7 rfl (v0:=lst 3 (irrO L n s 0)) (.of_eq (by rw [← e0]))) ?_
 apply VWp.loopR (s.length) [(0,_),(1,_),(2,_)] [] (fun k r=>(8,.p (.int .i64 ((s.length:Int)-1-(k:Int))))::(7,lst 3 (irrO L n s k))::r) (fun k r=>r) 0
 ·omega
 ·omega
 ·repeat (first|exact LCov.nil|(refine LCov.eq rfl ?_ ?_;(first|exact PV.under_of rfl|(simp [PV.under,PVs.under];done)))|refine LCov.cons trivial rfl (.of_eq (lst_len (by simp<;>omega))) ?_)
 ·repeat (first|exact HCov.nil|(refine HCov.eq rfl (lt_dec rfl) ?_ ?_;(first|exact HB.under_of rfl|exact PVs.under_pure _ _|(simp [HB.under,PVs.under,PV.under];done)))|(refine HCov.cons (lt_dec rfl) ?_ rfl ?_ ?_;(first|exact trivial|exact PVs.under_pure _ _|(simp [HB.under,PVs.under,PV.under]));(first|exact HLe.refl _|exact HLe.vec (FLes.refl _) (by simp))))
 ·intro k hk2
  have hle:=irrO_le L n s (k:=k) (by omega)
  have hin:=irrR_in (L:=L) (n:=n) hs hk2
  have hlen:=irrO_len L n s hk2
  have hst:=irrO_step L n s hk2
  have hf:=irr_filter (L:=L) (n:=n) hlt hk2
  have e3:(s.length:Int)-1-((k+1:Nat):Int)=(s.length:Int)-1-(k:Int)-1:=by omega
  have hq:((s.length:Int)-1-(k:Int)).toNat=s.length-1-k:=by omega
  have hmi:=rmissing_spec e 3 n L (irrR L n s k) hn hL (by omega) h hin
  generalize irrO L n s k=out at *
  repeat' (first
   |apply VWp.assoc
   |apply VWp.rseq
   |apply VWp.skipSeq
   |apply VWp.blockSeq
   |apply VOps.nil
   |apply VOps.one
   |(apply VVal.assign;rfl)
   |(apply VVal.move;rfl)
   |(apply VVal.int;rfl;rfl;rfl)
   |(apply VWp.condSeq_dec;rfl)
   |(intro _;try (exfalso;omega)))
  all_goals try (exfalso;omega)
  refine VWp.ghost (Ghost.adopt 9 3 rfl) ?_
  apply VWp.loopR (out.length) [(0,_),(1,_),(2,_),(7,_),(8,_)] [] (fun k_ r=>(10,.p (.int .i64 (k_:Int)))::(9,.vec 0 ((out.take k_).filter (fun x=>decide (x≠gi s (s.length-1-k)))).length 0 ((out.take k_).filter (fun x=>decide (x≠gi s (s.length-1-k)))).length)::r) (fun k_ r=>(0,.vec 3 (cells ((out.take k_).filter (fun x=>decide (x≠gi s (s.length-1-k))))) ((out.take k_).filter (fun x=>decide (x≠gi s (s.length-1-k)))).length true)::r) 1
  ·omega
  ·omega
  ·repeat (first|exact LCov.nil|(refine LCov.eq rfl ?_ ?_;(first|exact PV.under_of rfl|(simp [PV.under,PVs.under];done)))|refine LCov.cons trivial rfl (.of_eq (lst_len (by simp<;>omega))) ?_)
  ·repeat (first|exact HCov.nil|(refine HCov.eq rfl (lt_dec rfl) ?_ ?_;(first|exact HB.under_of rfl|exact PVs.under_pure _ _|(simp [HB.under,PVs.under,PV.under];done)))|(refine HCov.cons (lt_dec rfl) ?_ rfl ?_ ?_;(first|exact trivial|exact PVs.under_pure _ _|(simp [HB.under,PVs.under,PV.under]));(first|exact HLe.refl _|exact HLe.vec (FLes.refl _) (by simp))))
  ·intro j hj
   have g1:=filter_take_succ (c:=gi s (s.length-1-k)) hj
   have g3:((out.take j).filter (fun x=>decide (x≠gi s (s.length-1-k)))).length<1000:=Nat.lt_of_le_of_lt (List.length_filter_le _ _) (by rw [List.length_take];omega)
   by_cases hne:gi out j=gi s (s.length-1-k)
   ·rw [if_pos hne] at g1
    repeat' (first
     |apply VWp.assoc
     |apply VWp.rseq
     |apply VWp.rseqD
     |apply VWp.region
     |apply VWp.skipSeq
     |apply VWp.blockSeq
     |apply QSeq.normal
     |apply QBlk.normal
     |apply VWp.skip
     |apply VOps.nil
     |apply VOpsD.nil
     |apply VOps.one
     |(apply VOpsD.bar;decide +kernel)
     |apply VOpsD.quiet
     |((refine VVal.indexE rfl rfl rfl (by omega) (by omega) rfl ?_;rw [hq]))
     |(apply VVal.assign;rfl)
     |(apply VVal.move;rfl)
     |(apply VVal.add64;rfl;rfl;omega)
     |(apply VVal.int;rfl;rfl;rfl)
     |(apply VVal.indexN;rfl;rfl;rfl;omega;rfl)
     |(apply VVal.load;rfl;rfl)
     |(apply VVal.lenF;rfl;rfl)
     |(apply VWp.condSeq_dec;rfl)
     |(apply VWp.cond_dec;rfl)
     |(intro _;try (exfalso;omega)))
    all_goals try (exfalso;omega)
    all_goals try contradiction
    refine QLoop.normal ⟨by omega,?_,?_⟩
    ·try ((try rw [g1]))
     repeat (first|exact LCov.nil|refine LCov.same trivial rfl ?_|refine LCov.same (lt_dec rfl) rfl ?_|refine LCov.same ⟨trivial,lt_dec rfl,trivial⟩ rfl ?_|refine LCov.same ⟨trivial,lt_dec rfl,lt_dec rfl,trivial⟩ rfl ?_|refine LCov.same ⟨trivial,lt_dec rfl,lt_dec rfl,lt_dec rfl,trivial⟩ rfl ?_|refine LCov.same ⟨trivial,trivial⟩ rfl ?_|refine LCov.cons trivial rfl (.of_eq (lst_len (by simp<;>omega))) ?_)
    ·(try rw [g1])
     repeat (first|exact HCov.nil|(refine HCov.cons (lt_dec rfl) ?_ rfl ?_ ?_;(first|exact HB.under_of rfl|exact PVs.under_pure _ _|(simp [HB.under,PVs.under,PV.under]));(first|exact HLe.refl _|exact HLe.vec (FLes.refl _) (by simp))))
   ·rw [if_neg hne] at g1
    have g2:((out.take (j+1)).filter (fun x=>decide (x≠gi s (s.length-1-k)))).length=((out.take j).filter (fun x=>decide (x≠gi s (s.length-1-k)))).length+1:=by rw [g1];simp
    repeat' (first
     |apply VWp.assoc
     |apply VWp.rseq
     |apply VWp.rseqD
     |apply VWp.region
     |apply VWp.skipSeq
     |apply VWp.blockSeq
     |apply QSeq.normal
     |apply QBlk.normal
     |apply VOps.nil
     |apply VOpsD.nil
     |apply VOps.one
     |(apply VOpsD.bar;decide +kernel)
     |apply VOpsD.quiet
     |((refine VVal.indexE rfl rfl rfl (by omega) (by omega) rfl ?_;rw [hq]))
     |(apply VVal.append1 (a:=gi out j);rfl;rfl;rfl;rfl;rfl;rfl;rfl;rfl;(intro _ h;cases h);rfl;rfl;rfl;decide;decide;(first|omega|(simp only [List.length_take,List.length_drop,List.length_append,List.length_singleton,List.length_cons,List.length_nil]<;>omega)))
     |(apply VVal.assign;rfl)
     |(apply VVal.move;rfl)
     |(apply VVal.add64;rfl;rfl;omega)
     |(apply VVal.int;rfl;rfl;rfl)
     |(apply VVal.indexN;rfl;rfl;rfl;omega;rfl)
     |(apply VVal.load;rfl;rfl)
     |(apply VVal.lenF;rfl;rfl)
     |(apply VVal.buildSlice;rfl;rfl;rfl;decide;rfl;rfl;rfl)
     |(apply VWp.condSeq_dec;rfl)
     |(apply VWp.cond_dec;rfl)
     |(intro _;try (exfalso;omega)))
    all_goals try (exfalso;omega)
    all_goals try contradiction
    refine QLoop.normal ⟨by omega,?_,?_⟩
    ·try ((try rw [g2])<;>(try rw [g1]))
     repeat (first|exact LCov.nil|refine LCov.same trivial rfl ?_|refine LCov.same (lt_dec rfl) rfl ?_|refine LCov.same ⟨trivial,lt_dec rfl,trivial⟩ rfl ?_|refine LCov.same ⟨trivial,lt_dec rfl,lt_dec rfl,trivial⟩ rfl ?_|refine LCov.same ⟨trivial,lt_dec rfl,lt_dec rfl,lt_dec rfl,trivial⟩ rfl ?_|refine LCov.same ⟨trivial,trivial⟩ rfl ?_|refine LCov.cons trivial rfl (.of_eq (lst_len (by simp<;>omega))) ?_)
    ·(try rw [g2])<;>(try rw [g1])
     repeat (first|exact HCov.nil|(refine HCov.cons (lt_dec rfl) ?_ rfl ?_ ?_;(first|exact HB.under_of rfl|exact PVs.under_pure _ _|(simp [HB.under,PVs.under,PV.under]));(first|exact HLe.refl _|exact HLe.vec (FLes.refl _) (by simp))))
  ·rw [List.take_length,hf]
   repeat' (first
    |(refine VWp.at 11 ?_;refine VWp.ghost (Ghost.freeze 9 rfl rfl) ?_;first|apply VWp.rseq|apply VWp.rseqD)
    |apply VWp.assoc
    |apply VWp.rseq
    |apply VWp.region
    |apply VWp.exitSeq
    |apply QSeq.normal
    |apply QBlk.normal
    |apply QBlk.exit
    |apply QLoop.exit
    |apply VWp.skip
    |apply VOps.nil
    |apply VOps.one
    |(apply VVal.fv;rfl;rfl;exact hmi)
    |(apply VVal.assign;rfl)
    |(apply VVal.move;rfl)
    |(apply VVal.sub64;rfl;rfl;omega)
    |(apply VVal.int;rfl;rfl;rfl)
    |(apply VVal.lenF;rfl;rfl)
    |(apply VVal.lenV;rfl;rfl;rfl)
    |(apply VWp.condSeq_dec;rfl)
    |(apply VWp.cond_dec;rfl)
    |(intro _;try (exfalso;omega)))
   all_goals try (exfalso;omega)
   ·rename_i hz
    have e1:irrO L n s (k+1)=irrR L n s k:=by rw [hst,if_pos (List.eq_nil_of_length_eq_zero (by omega))]
    refine QLoop.normal ⟨by omega,?_,?_⟩
    ·try ((try rw [e3])<;>(try rw [e1]))
     repeat (first|exact LCov.nil|refine LCov.same trivial rfl ?_|refine LCov.same (lt_dec rfl) rfl ?_|refine LCov.same ⟨trivial,lt_dec rfl,trivial⟩ rfl ?_|refine LCov.same ⟨trivial,lt_dec rfl,lt_dec rfl,trivial⟩ rfl ?_|refine LCov.same ⟨trivial,lt_dec rfl,lt_dec rfl,lt_dec rfl,trivial⟩ rfl ?_|refine LCov.same ⟨trivial,trivial⟩ rfl ?_|refine LCov.cons trivial rfl (.of_eq (lst_len (by simp<;>omega))) ?_)
    ·(try rw [e3])<;>(try rw [e1])
     repeat (first|exact HCov.nil|(refine HCov.cons (lt_dec rfl) ?_ rfl ?_ ?_;(first|exact HB.under_of rfl|exact PVs.under_pure _ _|(simp [HB.under,PVs.under,PV.under]));(first|exact HLe.refl _|exact HLe.vec (FLes.refl _) (by simp))))
   ·rename_i hz
    have e1:irrO L n s (k+1)=out:=by rw [hst,if_neg (fun h'=>hz (by rw [h'];rfl))]
    refine QLoop.normal ⟨by omega,?_,?_⟩
    ·try ((try rw [e3])<;>(try rw [e1]))
     repeat (first|exact LCov.nil|refine LCov.same trivial rfl ?_|refine LCov.same (lt_dec rfl) rfl ?_|refine LCov.same ⟨trivial,lt_dec rfl,trivial⟩ rfl ?_|refine LCov.same ⟨trivial,lt_dec rfl,lt_dec rfl,trivial⟩ rfl ?_|refine LCov.same ⟨trivial,lt_dec rfl,lt_dec rfl,lt_dec rfl,trivial⟩ rfl ?_|refine LCov.same ⟨trivial,trivial⟩ rfl ?_|refine LCov.cons trivial rfl (.of_eq (lst_len (by simp<;>omega))) ?_)
    ·(try rw [e3])<;>(try rw [e1])
     repeat (first|exact HCov.nil|(refine HCov.cons (lt_dec rfl) ?_ rfl ?_ ?_;(first|exact HB.under_of rfl|exact PVs.under_pure _ _|(simp [HB.under,PVs.under,PV.under]));(first|exact HLe.refl _|exact HLe.vec (FLes.refl _) (by simp))))
 ·repeat' (first
   |apply VWp.assoc
   |apply VWp.rseq
   |apply VWp.exitSeq
   |apply QSeq.normal
   |apply QBlk.exit
   |apply QLoop.exit
   |apply VWp.ret
   |apply VOps.nil
   |apply VOps.one
   |(apply VVal.assign;rfl)
   |(apply VVal.move;rfl)
   |(apply VVal.int;rfl;rfl;rfl)
   |(apply VWp.condSeq_dec;rfl)
   |(intro _;try (exfalso;omega)))
  all_goals first|(exfalso;omega)|contradiction|(refine Done.ret rfl (.refl _) (by first|exact trivial|exact ⟨trivial,trivial,trivial⟩|exact ⟨trivial,trivial,trivial,trivial⟩) HCov.nil (Nat.zero_le _) (Nat.le_refl _) ⟨?_,rfl,rfl⟩;try rfl)
theorem makeM_els (x:CPlan):ElsOk (makeM x).sets:=fun i hi=>by
 obtain ⟨h1,h2,h3⟩:=makeM_set x hi
 have hn:(makeM x).n=(x.n:Int) % 8:=rfl
 exact ⟨h1,fun j hj=>by have:=h2 j hj;omega,by omega,by omega⟩
set_option maxRecDepth 100000 in
set_option maxHeartbeats 4000000 in
theorem covMissing_spec (x:CPlan) (l:List Int) (hn:x.n<256) (h:∀ i,i<x.sets.length→(gi x.sets i).els<256∧(gi x.sets i).cost<256) :
 VFun env 4 [.agg (Enc.enc x),.lst 3 (cells l) l.length] (.p (.bool true)):=by
 refine VFun.enter (env_none (by decide)) Tryd.func4 rfl (by kernel_rfl) (by simp [Tryd.ntmps4]) ?_
 by_cases hbig:x.sets.length>7∨l.length>8
 ·repeat' (first
   |apply VWp.assoc
   |apply VWp.rseq
   |apply VWp.retSeq
   |apply VOps.nil
   |apply VOps.one
   |(apply VOps.take;rfl;rfl)
   |(apply VOps.drop;rfl;rfl;rfl)
   |(apply VOps.guard;rfl;rfl)
   |(apply VVal.fn;rfl;rfl;exact known_spec;intro _;rfl)
   |(apply VVal.assign;rfl)
   |(apply VVal.move;rfl)
   |(apply VVal.int;rfl;rfl;rfl)
   |(apply VVal.load;rfl;rfl)
   |(apply VVal.pick_true;rfl;rfl)
   |(apply VVal.pick_false;rfl;rfl)
   |(apply VVal.lenF;rfl;rfl)
   |(apply VVal.fieldB;rfl;rfl;rfl)
   |(apply VVal.box;rfl;trivial)
   |(apply VVal.not;rfl)
   |(apply VWp.condSeq_true;rfl)
   |(apply VWp.condSeq_dec;rfl)
   |(intro _;try (exfalso;omega)))
  all_goals first|(exfalso;omega)|contradiction|((refine Done.ret rfl (.refl _) (by first|exact trivial|exact ⟨trivial,trivial,trivial⟩|exact ⟨trivial,trivial,trivial,trivial⟩) HCov.nil (Nat.zero_le _) (Nat.le_refl _) ⟨?_,rfl,rfl⟩;try rfl);try simp)
 have hset:=@makeM_set x
 have hsl:=setsM_le x
 have hps:(makeM x).sets=setsM x 7:=rfl
 have hpn:(makeM x).n=(x.n:Int) % 8:=rfl
 have hok:=makeM_ok x
 have hmk:=make_spec x (by omega) hn h
 have hels:=makeM_els x
 generalize hp:makeM x=p at *
 have hL:p.sets.length≤7:=by rw [hps];exact hsl
 have hck:=check_spec p (by omega) (fun i hi=>by have:=(hset hi).1;omega)
 rw [hok] at hck
 have hll:=llist_spec 3 p l (by omega) (by omega)
 by_cases he:rsg l p.sets.length 0=0
 case neg =>
  have h1:=lmissing_spec hck (by omega) rfl he 3
  have h2:=lcost_spec hck (by omega) rfl he 3
  have h3:=lirr_spec hck (by omega) rfl he 3
  generalize rsg l p.sets.length 0=er at *
  repeat' (first
   |apply VWp.assoc
   |apply VWp.rseq
   |apply VWp.skipSeq
   |apply VWp.retSeq
   |apply VOps.nil
   |apply VOps.one
   |(apply VOps.take;rfl;rfl)
   |(apply VOps.guard;rfl;rfl)
   |(apply VVal.fn;rfl;rfl;exact known_spec;intro _;rfl)
   |(apply VVal.fn;rfl;rfl;exact hmk;intro _;rfl)
   |(apply VVal.fn;rfl;rfl;exact h1;intro _;rfl)
   |(apply VVal.fn;rfl;rfl;exact h2;intro _;rfl)
   |(apply VVal.fn;rfl;rfl;exact h3;intro _;rfl)
   |(apply VVal.fn;rfl;rfl;exact hll;intro _;rfl)
   |(apply VVal.assign;rfl)
   |(apply VVal.move;rfl)
   |(apply VVal.int;rfl;rfl;rfl)
   |(apply VVal.load;rfl;rfl)
   |(apply VVal.pick_true;rfl;rfl)
   |(apply VVal.pick_false;rfl;rfl)
   |(apply VVal.lenF;rfl;rfl)
   |(apply VVal.lenNil;rfl;rfl)
   |(apply VVal.fieldB;rfl;rfl;rfl)
   |(apply VVal.box;rfl;trivial)
   |(apply VVal.alloc;rfl)
   |(apply VVal.storeB;rfl;rfl;rfl;trivial;rfl;rfl;exact lt_dec rfl;exact le_dec rfl)
   |(apply VVal.not;rfl)
   |(apply VVal.extract;rfl;rfl)
   |(apply VWp.condSeq_dec;rfl)
   |(intro _;try (exfalso;omega)))
  all_goals first|(exfalso;omega)|contradiction|((refine Done.ret rfl (.refl _) (by first|exact trivial|exact ⟨trivial,trivial,trivial⟩|exact ⟨trivial,trivial,trivial,trivial⟩) HCov.nil (Nat.zero_le _) (Nat.le_refl _) ⟨?_,rfl,rfl⟩;try rfl);try simp)
 rw [he] at hll
 obtain ⟨n,hn8,hnn⟩:∃ n:Nat,n≤7∧p.n=n:=⟨x.n % 8,by omega,by omega⟩
 have hs:=rsg_in he
 have hx:∀ i,i<p.sets.length→∀ j,j<(gi p.sets i).els.length→0≤gi (gi p.sets i).els j∧gi (gi p.sets i).els j<n:=fun i hi j hj=>by have:=(hset hi).2.1 j hj;omega
 have hcv:=covK_spec hels hs _ (Nat.le_refl _)
 have hmb:=miss_bits (L:=p.sets) (s:=l) hn8 hcv.2
 have hfull:=full_iff (L:=p.sets) (s:=l) hn8 hcv.2 (fun y hy=>hasK_lt hx hs y _ (Nat.le_refl _) (by rw [← hcv.2];exact hy))
 have h1:=missing_spec hck hnn hn8 (by omega) hels (by omega) 3 he hmb
 have h2:=cost_spec hck hnn hn8 (by omega) hels (by omega) 3 he
 have hst:=sets_spec p (by omega)
 have hmi:=rmissing_spec 72 3 n p.sets l (by omega) (by omega) (by omega) (fun i hi=>by have:=(hset hi).1;omega) hs
 have hco:=rcost_spec 72 3 p.sets l (by omega) (by omega) (fun i hi=>by have:=(hset hi).2.2;omega) hs
 have hsm:=same_refl 3 3 (missK p.sets l n) (by have:=missK_len p.sets l n;omega)
 rw [← hnn] at hmi
 have hml:=missK_len p.sets l n
 by_cases hm:missK p.sets l n=[]
 case neg =>
  have h3:=irrForm_spec hck hnn hn8 (by omega) hels (by omega) 3 he (fun h=>hm (hfull.1 h))
  have hpos:0<(missK p.sets l n).length:=List.length_pos_iff.2 hm
  repeat' (first
   |(refine VWp.at 11 ?_;refine VWp.ghost (Ghost.freeze 13 rfl rfl) ?_;first|apply VWp.rseq|apply VWp.rseqD)
   |(refine VOpsD.atOp 84 ?_;refine VOpsD.ghost (Ghost.freeze 83 rfl rfl) ?_)
   |(refine VOps.atOp 98 ?_;refine VOps.ghost (Ghost.freeze 97 rfl rfl) ?_)
   |apply VWp.assoc
   |apply VWp.rseq
   |apply VWp.rseqD
   |apply VWp.skipSeq
   |apply VWp.retSeq
   |apply VOps.nil
   |apply VOpsD.nil
   |apply VOps.one
   |(apply VOpsD.bar;decide +kernel)
   |apply VOpsD.quiet
   |(apply VOps.take;rfl;rfl)
   |(apply VOps.guard;rfl;rfl)
   |(apply VVal.fn;rfl;rfl;exact known_spec;intro _;rfl)
   |(apply VVal.fn;rfl;rfl;exact hmk;intro _;rfl)
   |(apply VVal.fn;rfl;rfl;exact h1;intro _;rfl)
   |(apply VVal.fn;rfl;rfl;exact h2;intro _;rfl)
   |(apply VVal.fn;rfl;rfl;exact h3;intro _;rfl)
   |(apply VVal.fn;rfl;rfl;exact hll;intro _;rfl)
   |(apply VVal.fv;rfl;rfl;exact hst)
   |(apply VVal.fv;rfl;rfl;exact hmi)
   |(apply VVal.fn;rfl;rfl;exact hco;intro _;rfl)
   |(apply VVal.fn;rfl;rfl;exact hsm;intro _;rfl)
   |(apply VVal.assign;rfl)
   |(apply VVal.move;rfl)
   |(apply VVal.int;rfl;rfl;rfl)
   |(apply VVal.load;rfl;rfl)
   |(apply VVal.pick_true;rfl;rfl)
   |(apply VVal.pick_false;rfl;rfl)
   |(apply VVal.lenF;rfl;rfl)
   |(apply VVal.lenNil;rfl;rfl)
   |(apply VVal.fieldB;rfl;rfl;rfl)
   |(apply VVal.box;rfl;trivial)
   |(apply VVal.alloc;rfl)
   |(apply VVal.storeB;rfl;rfl;rfl;trivial;rfl;rfl;exact lt_dec rfl;exact le_dec rfl)
   |(apply VVal.not;rfl)
   |(apply VVal.extract;rfl;rfl)
   |(apply VWp.condSeq_false;rfl)
   |(apply VWp.condSeq_dec;rfl)
   |(intro _;try (exfalso;omega)))
  all_goals first|(exfalso;omega)|contradiction|((refine Done.ret rfl (.refl _) (by first|exact trivial|exact ⟨trivial,trivial,trivial⟩|exact ⟨trivial,trivial,trivial,trivial⟩) HCov.nil (Nat.zero_le _) (Nat.le_refl _) ⟨?_,rfl,rfl⟩;try rfl);try simp)
 have hrr:=rirr_spec 72 n p.sets l (by omega) (by omega) (by omega) (fun i hi=>by have:=(hset hi).1;omega) hs (rsg_lt he)
 rw [← hnn] at hrr
 have hsm2:=same_refl 3 3 (irrO p.sets n l l.length) (by have:=irrO_le p.sets n l (Nat.le_refl _);omega)
 by_cases hl0:0<l.length
 ·have h3:=irr_spec hck hnn hn8 (by omega) hels (by omega) 3 he (hfull.2 hm) hx hl0
  rw [hm] at hml h1 hmi hsm
  repeat' (first
   |(refine VWp.at 11 ?_;refine VWp.ghost (Ghost.freeze 13 rfl rfl) ?_;first|apply VWp.rseq|apply VWp.rseqD)
   |(refine VOpsD.atOp 84 ?_;refine VOpsD.ghost (Ghost.freeze 83 rfl rfl) ?_)
   |(refine VOps.atOp 98 ?_;refine VOps.ghost (Ghost.freeze 97 rfl rfl) ?_)
   |(refine VOpsD.atOp 124 ?_;refine VOpsD.ghost (Ghost.freeze 123 rfl rfl) ?_)
   |apply VWp.assoc
   |apply VWp.rseq
   |apply VWp.rseqD
   |apply VWp.skipSeq
   |apply VWp.ret
   |apply VOps.nil
   |apply VOpsD.nil
   |apply VOps.one
   |(apply VOpsD.bar;decide +kernel)
   |apply VOpsD.quiet
   |(apply VOps.take;rfl;rfl)
   |(apply VOpsD.quietTake;rfl;rfl)
   |(apply VOps.guard;rfl;rfl)
   |(apply VVal.fn;rfl;rfl;exact known_spec;intro _;rfl)
   |(apply VVal.fn;rfl;rfl;exact hmk;intro _;rfl)
   |(apply VVal.fn;rfl;rfl;exact h1;intro _;rfl)
   |(apply VVal.fn;rfl;rfl;exact h2;intro _;rfl)
   |(apply VVal.fn;rfl;rfl;exact h3;intro _;rfl)
   |(apply VVal.fn;rfl;rfl;exact hll;intro _;rfl)
   |(apply VVal.fv;rfl;rfl;exact hst)
   |(apply VVal.fv;rfl;rfl;exact hmi)
   |(apply VVal.fn;rfl;rfl;exact hco;intro _;rfl)
   |(apply VVal.fn;rfl;rfl;exact hsm;intro _;rfl)
   |(apply VVal.fn;rfl;rfl;exact hrr;intro _;rfl)
   |(apply VVal.fn;rfl;rfl;exact hsm2;intro _;rfl)
   |(apply VVal.assign;rfl)
   |(apply VVal.move;rfl)
   |(apply VVal.int;rfl;rfl;rfl)
   |(apply VVal.load;rfl;rfl)
   |(apply VVal.pick_true;rfl;rfl)
   |(apply VVal.pick_false;rfl;rfl)
   |(apply VVal.lenF;rfl;rfl)
   |(apply VVal.fieldB;rfl;rfl;rfl)
   |(apply VVal.box;rfl;trivial)
   |(apply VVal.alloc;rfl)
   |(apply VVal.storeB;rfl;rfl;rfl;trivial;rfl;rfl;exact lt_dec rfl;exact le_dec rfl)
   |(apply VVal.not;rfl)
   |(apply VVal.extract;rfl;rfl)
   |(apply VWp.condSeq_false;rfl)
   |(apply VWp.condSeq_dec;rfl)
   |(intro _;try (exfalso;omega)))
  all_goals first|(exfalso;omega)|contradiction|((refine Done.ret rfl (.refl _) (by first|exact trivial|exact ⟨trivial,trivial,trivial⟩|exact ⟨trivial,trivial,trivial,trivial⟩) HCov.nil (Nat.zero_le _) (Nat.le_refl _) ⟨?_,rfl,rfl⟩;try rfl);try simp)
 ·have e0:l=[]:=List.eq_nil_of_length_eq_zero (by omega)
  subst e0
  have h3:=irrNil_spec hck hnn hn8 (by omega) hels 3 (hfull.2 hm)
  have e1:irrO p.sets n ([]:List Int) ([]:List Int).length=[]:=by unfold irrO;simp [irrT]
  rw [e1] at hrr hsm2
  rw [hm] at hml h1 hmi hsm
  repeat' (first
   |(refine VWp.at 11 ?_;refine VWp.ghost (Ghost.freeze 13 rfl rfl) ?_;first|apply VWp.rseq|apply VWp.rseqD)
   |(refine VOpsD.atOp 84 ?_;refine VOpsD.ghost (Ghost.freeze 83 rfl rfl) ?_)
   |(refine VOps.atOp 98 ?_;refine VOps.ghost (Ghost.freeze 97 rfl rfl) ?_)
   |(refine VOpsD.atOp 124 ?_;refine VOpsD.ghost (Ghost.freeze 123 rfl rfl) ?_)
   |apply VWp.assoc
   |apply VWp.rseq
   |apply VWp.rseqD
   |apply VWp.skipSeq
   |apply VWp.ret
   |apply VOps.nil
   |apply VOpsD.nil
   |apply VOps.one
   |(apply VOpsD.bar;decide +kernel)
   |apply VOpsD.quiet
   |(apply VOps.take;rfl;rfl)
   |(apply VOpsD.quietTake;rfl;rfl)
   |(apply VOps.guard;rfl;rfl)
   |(apply VVal.fn;rfl;rfl;exact known_spec;intro _;rfl)
   |(apply VVal.fn;rfl;rfl;exact hmk;intro _;rfl)
   |(apply VVal.fn;rfl;rfl;exact h1;intro _;rfl)
   |(apply VVal.fn;rfl;rfl;exact h2;intro _;rfl)
   |(apply VVal.fn;rfl;rfl;exact h3;intro _;rfl)
   |(apply VVal.fn;rfl;rfl;exact hll;intro _;rfl)
   |(apply VVal.fv;rfl;rfl;exact hst)
   |(apply VVal.fv;rfl;rfl;exact hmi)
   |(apply VVal.fn;rfl;rfl;exact hco;intro _;rfl)
   |(apply VVal.fn;rfl;rfl;exact hsm;intro _;rfl)
   |(apply VVal.fn;rfl;rfl;exact hrr;intro _;rfl)
   |(apply VVal.assign;rfl)
   |(apply VVal.move;rfl)
   |(apply VVal.int;rfl;rfl;rfl)
   |(apply VVal.load;rfl;rfl)
   |(apply VVal.pick_true;rfl;rfl)
   |(apply VVal.pick_false;rfl;rfl)
   |(apply VVal.lenF;rfl;rfl)
   |(apply VVal.fieldB;rfl;rfl;rfl)
   |(apply VVal.box;rfl;trivial)
   |(apply VVal.alloc;rfl)
   |(apply VVal.storeB;rfl;rfl;rfl;trivial;rfl;rfl;exact lt_dec rfl;exact le_dec rfl)
   |(apply VVal.not;rfl)
   |(apply VVal.extract;rfl;rfl)
   |(apply VWp.condSeq_false;rfl)
   |(intro _;try (exfalso;omega)))
  all_goals first|(exfalso;omega)|contradiction|((refine Done.ret rfl (.refl _) (by first|exact trivial|exact ⟨trivial,trivial,trivial⟩|exact ⟨trivial,trivial,trivial,trivial⟩) HCov.nil (Nat.zero_le _) (Nat.le_refl _) ⟨?_,rfl,rfl⟩;try rfl);try simp)
end Go.Proofs.YtmfnchgkffhpfaaDoor
