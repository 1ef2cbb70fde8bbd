/-
  Solve and All. Conditions: in each statement.
-/
import Derived.Test.YtmfnchgkffhpfaaDoorCovSc
set_option linter.unusedSimpArgs false
set_option linter.unusedVariables false
set_option linter.unusedSectionVars false
namespace Go.Proofs.YtmfnchgkffhpfaaDoor
open Go Go.Am Go.Vm
attribute [local irreducible] VVal VOps VOpsD VWp VCalls VFun VFunV QSeq QBlk QLoop Vm.Done DoneV DoneI VRead VReadV
structure CCover where
 sets:List Int
 cost:Int
 proof:List CNode
instance:Enc CCover:={ default:=⟨[],0,[]⟩,enc:=fun c=>[.lst 3 (cells c.sets) c.sets.length,.int .i64 c.cost,.lst 91 (cells c.proof) c.proof.length],size:=3,len:=fun _=>rfl }
theorem bits7_sorted (w:Nat):(bits7 w).Pairwise (·<·):=by
 unfold bits7
 rw [List.pairwise_map]
 exact (List.Pairwise.filter _ (List.pairwise_lt_range (n:=7))).imp fun h=>by omega
theorem bits7_word {m:Nat} (hm:m≤7) {B:List Int} (h:Ris m B):bits7 (wordK B B.length)=B:=by
 have hs:=wordK_spec (l:=B) (fun i hi=>by have:=ris_gi h i hi;omega) _ (Nat.le_refl _)
 rw [List.take_length] at hs
 refine eq_of_sorted (bits7_sorted _) h.1 fun x=>?_
 unfold bits7
 rw [List.mem_map]
 constructor
 ·rintro ⟨i,hi,rfl⟩
  have:=(List.mem_filter.1 hi).2
  rw [hs.2] at this
  exact of_decide_eq_true this
 ·intro hx
  have:=h.2 _ hx
  exact ⟨x.toNat,List.mem_filter.2 ⟨List.mem_range.2 (by omega),by rw [hs.2];exact decide_eq_true (by rwa [Int.toNat_of_nonneg this.1])⟩,by omega⟩
def solvQ (p:CProb) (n:Nat) (least:Int) (A0:List Int) (r:PV) (H':Vm.Heap) (nx':Nat):Prop :=
 (∃ T:PTree,T.Ok p.sets n least (List.replicate p.sets.length 0)∧T.size≤255∧r=.tup [.p (.agg (Enc.enc (⟨A0,least,T.flat 0⟩:CCover))),.p (.int .i64 0)])∧H'=[]∧nx'=0
set_option maxRecDepth 100000 in
theorem solvNone_spec {p:CProb} (hs:VFun env 45 [.agg (Enc.enc p)] (.tup [.p (.val (.pointer none)),.p (.int .i64 18)])):VFun env 23 [.agg (Enc.enc p)] (.tup [.p (.agg [.val (.slice none 0 0),.int .i64 0,.val (.slice none 0 0)]),.p (.int .i64 18)]):=by
 refine VFun.enter (env_none (by decide)) Tryd.func23 rfl (by kernel_rfl) (by simp [Tryd.ntmps23]) ?_
 repeat' (first
  |apply VWp.assoc
  |apply VWp.rseq
  |apply VWp.retSeq
  |apply VOps.nil
  |apply VOps.one
  |(apply VVal.fn;rfl;rfl;exact hs;intro _;rfl)
  |(apply VVal.assign;rfl)
  |(apply VVal.move;rfl)
  |(apply VVal.int;rfl;rfl;rfl)
  |(apply VVal.load;rfl;rfl)
  |(apply VVal.box;rfl;trivial)
  |(apply VVal.alloc;rfl)
  |(apply VVal.storeB;rfl;rfl;rfl;trivial;rfl;rfl;exact lt_dec rfl;exact le_dec rfl)
  |(apply VVal.build;rfl;rfl;rfl;rfl;rfl)
  |(apply VVal.extract;rfl;rfl)
  |(apply VWp.condSeq_true;rfl))
 all_goals first|(exfalso;omega)|contradiction|(refine Done.ret rfl (.refl _) (by first|exact trivial|exact ⟨trivial,trivial,trivial⟩|exact ⟨trivial,trivial,trivial,trivial⟩) HCov.nil (Nat.zero_le _) (Nat.le_refl _) ⟨?_,rfl,rfl⟩;try rfl)
set_option maxRecDepth 100000 in
theorem allNone_spec {p:CProb} (hs:VFun env 45 [.agg (Enc.enc p)] (.tup [.p (.val (.pointer none)),.p (.int .i64 18)])):VFun env 27 [.agg (Enc.enc p)] (.tup [.p (.val (.slice none 0 0)),.p (.int .i64 18)]):=by
 refine VFun.enter (env_none (by decide)) Tryd.func27 rfl (by kernel_rfl) (by simp [Tryd.ntmps27]) ?_
 repeat' (first
  |apply VWp.rseq
  |apply VWp.blockSeq
  |apply QSeq.ret
  |apply QBlk.ret
  |apply VWp.ret
  |apply VOps.nil
  |apply VOps.one
  |(apply VVal.fn;rfl;rfl;exact hs;intro _;rfl)
  |(apply VVal.assign;rfl)
  |(apply VVal.move;rfl)
  |(apply VVal.int;rfl;rfl;rfl)
  |(apply VVal.load;rfl;rfl)
  |(apply VVal.box;rfl;trivial)
  |(apply VVal.extract;rfl;rfl)
  |(apply VWp.cond_true;rfl))
 all_goals first|(exfalso;omega)|contradiction|(refine Done.ret rfl (.refl _) (by first|exact trivial|exact ⟨trivial,trivial,trivial⟩|exact ⟨trivial,trivial,trivial,trivial⟩) HCov.nil (Nat.zero_le _) (Nat.le_refl _) ⟨?_,rfl,rfl⟩;try rfl)
section
variable (p:CProb) (n:Nat) (hp:p.n=n) (hn:n≤7) (hL:p.sets.length≤7) (h:ElsOk p.sets) (hS:ElsS p.sets) (hE:Elsn p.sets n)
include hp hn hL h hS hE
set_option maxRecDepth 100000 in
set_option maxHeartbeats 8000000 in
theorem solv_spec (least:Int) (A0:List Int) (AA:List (List Int)) (hsv:VCalls env 45 ([FV.agg (Enc.enc p)].map .p) [] 0 (solveQ p (least,A0::AA))) (hmin:∀ B,Cvr p.sets n B→least≤cst p.sets B) (hr:Ris p.sets.length A0) :
 VCalls env 23 ([FV.agg (Enc.enc p)].map .p) [] 0 (solvQ p n least A0):=by
 have hwA:=(ris_word hL hr).1
 have h7:2 ^ p.sets.length≤2 ^ 7:=Nat.pow_le_pow_right (by omega) hL
 have hcl:=clist_spec (wordK A0 A0.length) (by omega)
 rw [bits7_word hL hr,show wordK A0 A0.length=gi (msk (A0::AA)) 0 from rfl] at hcl
 have hml:(msk (A0::AA)).length=AA.length+1:=by simp [msk]
 have hml2:(msk ((least,A0::AA):Int×List (List Int)).2).length=AA.length+1:=hml
 have hz:=zK_le (List.replicate p.sets.length 0) p.sets.length
 have h8:2 ^ (zK (List.replicate p.sets.length 0) p.sets.length+1)≤2 ^ 8:=Nat.pow_le_pow_right (by omega) (by omega)
 refine VCalls.enter (env_none (by decide)) Tryd.func23 rfl (by kernel_rfl) (by simp [Tryd.ntmps23]) ?_
 repeat' (first
  |apply VWp.rseq
  |apply VOps.nil
  |apply VOps.one
  |(apply VVal.assign;rfl)
  |(apply VVal.load;rfl;rfl)
  |(apply VVal.box;rfl;trivial)
  |(apply VVal.alloc;rfl))
 (apply VVal.call0 (hc:=hsv);rfl;rfl;exact .of_eq rfl)
 rintro r H' nx' ⟨rfl,st,rfl,rfl⟩
 have hpv:=prove_spec p n hp hn hL h hS hE least hmin (.lst 74 (cells (msk (A0::AA))) (msk (A0::AA)).length) st _ (List.replicate p.sets.length 0) ⟨0,0,0,0⟩ 0 [] rfl (SR.start _) rfl (by omega)
 unfold proveH at hpv
 repeat' (first
  |(refine VWp.at 4 ?_;refine VWp.ghost (Ghost.adoptCell 4 7 91 rfl rfl) ?_;first|apply VWp.rseq|apply VWp.rseqD)
  |apply VWp.assoc
  |apply VWp.rseq
  |apply VWp.skipSeq
  |apply VOps.nil
  |apply VOps.one
  |(apply VVal.assign;rfl)
  |(apply VVal.move;rfl)
  |(apply VVal.int;rfl;rfl;rfl)
  |(apply VVal.build;rfl;rfl;rfl;rfl;rfl)
  |(apply VVal.extract;rfl;rfl)
  |(apply VWp.condSeq_false;rfl))
 all_goals try (exfalso;omega)
 all_goals try contradiction
 (apply VVal.callK [4,5] (hpv);rfl;rfl;exact .of_eq rfl;exact PVs.under_of rfl;exact HUnder_of rfl;(refine ⟨⟨_,rfl,.of_eq rfl⟩,?_⟩;repeat (first|exact trivial|refine ⟨⟨_,rfl,.of_eq rfl⟩,?_⟩));decide;(intro _ hb;simp at hb ⊢<;>omega))
 rintro r H' nx' ⟨rfl,⟨T,t1,t2,rfl⟩,rfl⟩
 have hTl:=T.flat_len 0
 have e1:PV.p (.lst 91 (cells ([]++T.flat 0)) (0+T.size))=PV.p (.lst 91 (cells (T.flat 0)) (T.flat 0).length):=by rw [hTl,Nat.zero_add];rfl
 repeat' (first
  |(refine VWp.at 7 ?_;refine VWp.ghost (Ghost.freezeCell 4 7 rfl rfl rfl) ?_;first|apply VWp.rseq|apply VWp.rseqD)
  |(refine VOpsD.atOp 40 ?_;refine VOpsD.ghost ((Ghost.freeze 31 rfl rfl).trans (Ghost.le 39 (v0:=.p (.lst 91 (cells (T.flat 0)) (T.flat 0).length)) rfl (.of_eq e1))) ?_)
  |apply VWp.assoc
  |apply VWp.rseq
  |apply VWp.skipSeq
  |apply VWp.ret
  |apply VOps.nil
  |apply VOpsD.nil
  |apply VOps.one
  |(apply VOpsD.bar;decide +kernel)
  |apply VOpsD.quiet
  |(apply VVal.nilChk;rfl;rfl)
  |(apply VVal.fv;rfl;rfl;exact hcl)
  |(apply VVal.assign;rfl)
  |(apply VVal.move;rfl)
  |(apply VVal.int;rfl;rfl;rfl)
  |(apply VVal.indexE;rfl;rfl;rfl;omega;omega;rfl)
  |(apply VVal.load;rfl;rfl)
  |(apply VVal.lenV;rfl;rfl;rfl)
  |(apply VVal.fieldB;rfl;rfl;rfl)
  |(apply VVal.storeB;rfl;rfl;rfl;trivial;rfl;rfl;exact lt_dec rfl;exact le_dec rfl)
  |(apply VVal.build;rfl;rfl;rfl;rfl;rfl)
  |(apply VWp.condSeq_dec;rfl)
  |(intro _;try (exfalso;omega)))
 all_goals try (exfalso;omega)
 all_goals try contradiction
 refine Done.ret (H0:=[]) (nx0:=0) rfl (.refl _) ⟨trivial,trivial,trivial⟩ trivial (by omega) (Nat.le_refl _) ⟨⟨T,t1,by omega,rfl⟩,rfl,rfl⟩
set_option maxRecDepth 100000 in
set_option maxHeartbeats 8000000 in
theorem allc_spec (least:Int) (AA:List (List Int)) (hsv:VCalls env 45 ([FV.agg (Enc.enc p)].map .p) [] 0 (solveQ p (least,AA))) (hr:∀ i,i<AA.length→Ris p.sets.length (gi AA i)) (hlen:AA.length≤1000) :
 VFun env 27 [.agg (Enc.enc p)] (.tup [.p (.lst 25 (cells AA) AA.length),.p (.int .i64 0)]):=by
 have hml:(msk AA).length=AA.length:=by simp [msk]
 have hml2:(msk ((least,AA):Int×List (List Int)).2).length=AA.length:=hml
 have hmg:∀ i,i<AA.length→gi (msk AA) i=wordK (gi AA i) (gi AA i).length:=fun i hi=>gi_map _ hi
 refine VFun.enter (env_none (by decide)) Tryd.func27 rfl (by kernel_rfl) (by simp [Tryd.ntmps27]) ?_
 repeat' (first
  |apply VWp.rseq
  |apply VOps.nil
  |apply VOps.one
  |(apply VVal.assign;rfl)
  |(apply VVal.load;rfl;rfl)
  |(apply VVal.box;rfl;trivial))
 (apply VVal.call0 (hc:=hsv);rfl;rfl;exact .of_eq rfl)
 rintro r H' nx' ⟨rfl,st,rfl,rfl⟩
 repeat' (first
  |apply VWp.assoc
  |apply VWp.rseq
  |apply VWp.blockSeq
  |apply QSeq.normal
  |apply QBlk.normal
  |apply VWp.skip
  |apply VOps.nil
  |apply VOps.one
  |(apply VVal.nilChk;rfl;rfl)
  |(apply VVal.assign;rfl)
  |(apply VVal.move;rfl)
  |(apply VVal.int;rfl;rfl;rfl)
  |(apply VVal.load;rfl;rfl)
  |(apply VVal.lenF;rfl;rfl)
  |(apply VVal.fieldB;rfl;rfl;rfl)
  |(apply VVal.extract;rfl;rfl)
  |(apply VWp.cond_false;rfl))
 all_goals try (exfalso;omega)
 all_goals try contradiction
 refine VWp.ghost (Ghost.adopt 6 25 rfl) ?_
 apply VWp.loopR (AA.length) [(26,_),(27,_)] [] (fun k r=>(28,.p (.int .i64 (k:Int)))::(6,.vec 4 (AA.take k).length 0 (AA.take k).length)::r) (fun k r=>(4,.vec 25 (cells (AA.take k)) (AA.take k).length true)::r) 5
 ·omega
 ·omega
 ·repeat (first|exact LCov.nil|(refine LCov.eq rfl ?_ ?_;(first|exact PV.under_of rfl|(simp [PV.under,PVs.under];done)))|refine LCov.cons trivial rfl (.of_eq (lst_len (by simp<;>omega))) ?_)
 ·repeat (first|exact HCov.nil|(refine HCov.eq rfl (lt_dec rfl) ?_ ?_;(first|exact HB.under_of rfl|exact PVs.under_pure _ _|(simp [HB.under,PVs.under,PV.under];done)))|(refine HCov.cons (lt_dec rfl) ?_ rfl ?_ ?_;(first|exact trivial|exact PVs.under_pure _ _|(simp [HB.under,PVs.under,PV.under]));(first|exact HLe.refl _|exact HLe.vec (FLes.refl _) (by simp))))
 ·intro k hk
  have hrk:=hr k hk
  have hcl:=clist_spec (wordK (gi AA k) (gi AA k).length) (by have:=(ris_word hL hrk).1;have:=Nat.pow_le_pow_right (show 0<2 by omega) hL;omega)
  rw [bits7_word hL hrk,← hmg k hk] at hcl
  have e1:AA.take (k+1)=AA.take k++[gi AA k]:=take_succ_gi hk
  have e2:(AA.take (k+1)).length=(AA.take k).length+1:=by rw [e1];simp
  have e3:(AA.take k).length=k:=by rw [List.length_take];omega
  have hgl:=ris_len hrk
  repeat' (first
   |(refine VOps.atOp 35 ?_;refine VOps.ghost (Ghost.freeze 34 rfl rfl) ?_)
   |apply VWp.rseq
   |apply VWp.region
   |apply VWp.skipSeq
   |apply VWp.blockSeq
   |apply QSeq.normal
   |apply QBlk.normal
   |apply VOps.nil
   |apply VOps.one
   |(apply VVal.fv;rfl;rfl;exact hcl)
   |(apply VVal.append1 (a:=gi AA k);rfl;rfl;rfl;rfl;rfl;rfl;rfl;rfl;(intro _ h;cases h);rfl;rfl;rfl;decide;decide;(first|omega|(simp only [List.length_take,List.length_drop,List.length_append,List.length_singleton,List.length_cons,List.length_nil]<;>omega)))
   |(apply VVal.assign;rfl)
   |(apply VVal.move;rfl)
   |(apply VVal.add64;rfl;rfl;omega)
   |(apply VVal.int;rfl;rfl;rfl)
   |(apply VVal.indexN;rfl;rfl;rfl;omega;rfl)
   |(apply VVal.load;rfl;rfl)
   |(apply VVal.buildSlice;rfl;rfl;rfl;decide;rfl;rfl;rfl)
   |(apply VWp.condSeq_dec;rfl)
   |(intro _;try (exfalso;omega)))
  all_goals try (exfalso;omega)
  refine QLoop.normal ⟨by omega,?_,?_⟩
  ·try ((try rw [e2])<;>(try rw [e1]))
   repeat (first|exact LCov.nil|refine LCov.same trivial rfl ?_|refine LCov.same (lt_dec rfl) rfl ?_|refine LCov.same ⟨trivial,lt_dec rfl,trivial⟩ rfl ?_|refine LCov.same ⟨trivial,lt_dec rfl,lt_dec rfl,trivial⟩ rfl ?_|refine LCov.same ⟨trivial,lt_dec rfl,lt_dec rfl,lt_dec rfl,trivial⟩ rfl ?_|refine LCov.same ⟨trivial,trivial⟩ rfl ?_|refine LCov.cons trivial rfl (.of_eq (lst_len (by simp<;>omega))) ?_)
  ·(try rw [e2])<;>(try rw [e1])
   repeat (first|exact HCov.nil|(refine HCov.cons (lt_dec rfl) ?_ rfl ?_ ?_;(first|exact HB.under_of rfl|exact PVs.under_pure _ _|(simp [HB.under,PVs.under,PV.under]));(first|exact HLe.refl _|exact HLe.vec (FLes.refl _) (by simp))))
 ·rw [List.take_length]
  repeat' (first
   |(refine VWp.at 12 ?_;refine VWp.ghost (Ghost.freeze 6 rfl rfl) ?_;first|apply VWp.rseq|apply VWp.rseqD)
   |apply VWp.rseq
   |apply VWp.exitSeq
   |apply QSeq.normal
   |apply QBlk.exit
   |apply QLoop.exit
   |apply VWp.ret
   |apply VOps.nil
   |apply VOps.one
   |(apply VVal.assign;rfl)
   |(apply VVal.move;rfl)
   |(apply VVal.int;rfl;rfl;rfl)
   |(apply VWp.condSeq_dec;rfl)
   |(intro _;try (exfalso;omega)))
  all_goals first|(exfalso;omega)|(refine Done.ret rfl (.refl _) (by first|exact trivial|exact ⟨trivial,trivial,trivial⟩|exact ⟨trivial,trivial,trivial,trivial⟩) HCov.nil (Nat.zero_le _) (Nat.le_refl _) ⟨?_,rfl,rfl⟩;try rfl)
end
end Go.Proofs.YtmfnchgkffhpfaaDoor
