/-
  The greedy cover: what the layer's Greedy and the reference's compute. Conditions: in each statement.
-/
import Derived.Test.YtmfnchgkffhpfaaDoorCovO
set_option linter.unusedSimpArgs false
set_option linter.unusedVariables false
set_option linter.unusedSectionVars false
namespace Go.Proofs.YtmfnchgkffhpfaaDoor
open Go Go.Am Go.Vm
attribute [local irreducible] VVal VOps VOpsD VWp VCalls VFun VFunV QSeq QBlk QLoop Vm.Done DoneV
set_option maxRecDepth 100000 in
theorem rmissingR_spec (e:TypeId) (n:Nat) (L:List CSet) (s:List Int) (hn:n<1000) (hL:L.length<1000) (hl:s.length<1000) (h:∀ i,i<L.length→(gi L i).els.length<1000) (hs:∀ i,i<s.length→0≤gi s i∧gi s i<L.length) :
 VReadV env 20 [.p (.int .i64 n),.p (.lst e (cells L) L.length),.vec 0 s.length 0 s.length] [(0,.vec 3 (cells s) s.length true)] 1 3 (cells (missK L s n)) (missK L s n).length true:=by
 refine VReadV.enter (env_none (by decide)) Tryd.func20 rfl (by kernel_rfl) (by simp [Tryd.ntmps20]) ?_
 repeat' (first
  |apply VWp.assoc
  |apply VWp.rseq
  |apply VWp.blockSeq
  |apply VOps.nil
  |apply VOps.one
  |(apply VVal.assign;rfl))
 refine VWp.ghost (Ghost.adopt 7 3 rfl) ?_
 apply VWp.loopR (n) [(0,_),(1,_),(2,_)] [(0,_)] (fun k r=>(8,.p (.int .i64 (k:Int)))::(7,.vec 1 (missK L s k).length 0 (missK L s k).length)::r) (fun k r=>(1,.vec 3 (cells (missK L s k)) (missK L s k).length true)::r) 2
 ·omega
 ·omega
 ·repeat (first|exact LCov.nil|(refine LCov.eq rfl ?_ ?_;(first|exact PV.under_of rfl|(simp [PV.under,PVs.under];done)))|refine LCov.cons trivial rfl (.of_eq (lst_len (by simp<;>omega))) ?_)
 ·repeat (first|exact HCov.nil|(refine HCov.eq rfl (lt_dec rfl) ?_ ?_;(first|exact HB.under_of rfl|exact PVs.under_pure _ _|(simp [HB.under,PVs.under,PV.under];done)))|(refine HCov.cons (lt_dec rfl) ?_ rfl ?_ ?_;(first|exact trivial|exact PVs.under_pure _ _|(simp [HB.under,PVs.under,PV.under]));(first|exact HLe.refl _|exact HLe.vec (FLes.refl _) (by simp))))
 ·intro k hk
  have hlen:=missK_len L s k
  repeat' (first
   |apply VWp.assoc
   |apply VWp.rseq
   |apply VWp.skipSeq
   |apply VWp.blockSeq
   |apply VOps.nil
   |apply VOps.one
   |(apply VVal.assign;rfl)
   |(apply VVal.move;rfl)
   |(apply VVal.int;rfl;rfl;rfl)
   |(apply VWp.condSeq_dec;rfl)
   |(intro _;try (exfalso;omega)))
  all_goals try (exfalso;omega)
  apply VWp.loopR (s.length) [(0,_),(1,_),(2,_),(7,_),(8,_)] [(0,_),(1,_)] (fun k_ r=>(10,.p (.int .i64 (k_:Int)))::(9,.p (.bool (hasK L s k k_)))::r) (fun k_ r=>r) 2
  ·omega
  ·omega
  ·repeat (first|exact LCov.nil|(refine LCov.eq rfl ?_ ?_;(first|exact PV.under_of rfl|(simp [PV.under,PVs.under];done)))|refine LCov.cons trivial rfl (.of_eq (lst_len (by simp<;>omega))) ?_)
  ·repeat (first|exact HCov.nil|(refine HCov.eq rfl (lt_dec rfl) ?_ ?_;(first|exact HB.under_of rfl|exact PVs.under_pure _ _|(simp [HB.under,PVs.under,PV.under];done)))|(refine HCov.cons (lt_dec rfl) ?_ rfl ?_ ?_;(first|exact trivial|exact PVs.under_pure _ _|(simp [HB.under,PVs.under,PV.under]));(first|exact HLe.refl _|exact HLe.vec (FLes.refl _) (by simp))))
  ·intro j hj
   have h1:=hs j hj
   have h2:=h (gi s j).toNat (by omega)
   cases hb:hasK L s k j with
   |true =>
    have e1:hasK L s k (j+1)=true:=by simp only [hasK,hb,Bool.true_or]
    repeat' (first
     |apply VWp.assoc
     |apply VWp.rseq
     |apply VWp.region
     |apply VWp.skipSeq
     |apply VWp.blockSeq
     |apply QSeq.normal
     |apply QBlk.normal
     |apply VOps.nil
     |apply VOps.one
     |(apply VOps.drop;rfl;rfl;rfl)
     |(apply VVal.assign;rfl)
     |(apply VVal.move;rfl)
     |(apply VVal.add64;rfl;rfl;omega)
     |(apply VVal.int;rfl;rfl;rfl)
     |(apply VVal.pick_true;rfl;rfl)
     |(apply VVal.lenV;rfl;rfl;rfl)
     |(apply VWp.condSeq_dec;rfl)
     |(intro _;try (exfalso;omega)))
    all_goals try (exfalso;omega)
    all_goals try contradiction
    refine QLoop.normal ⟨by omega,?_,?_⟩
    ·try ((try rw [e1]))
     repeat (first|exact LCov.nil|refine LCov.same trivial rfl ?_|refine LCov.same (lt_dec rfl) rfl ?_|refine LCov.same ⟨trivial,lt_dec rfl,trivial⟩ rfl ?_|refine LCov.same ⟨trivial,lt_dec rfl,lt_dec rfl,trivial⟩ rfl ?_|refine LCov.same ⟨trivial,lt_dec rfl,lt_dec rfl,lt_dec rfl,trivial⟩ rfl ?_|refine LCov.same ⟨trivial,trivial⟩ rfl ?_|refine LCov.cons trivial rfl (.of_eq (lst_len (by simp<;>omega))) ?_)
    ·(try rw [e1])
     repeat (first|exact HCov.nil|(refine HCov.cons (lt_dec rfl) ?_ rfl ?_ ?_;(first|exact HB.under_of rfl|exact PVs.under_pure _ _|(simp [HB.under,PVs.under,PV.under]));(first|exact HLe.refl _|exact HLe.vec (FLes.refl _) (by simp))))
   |false =>
    have e1:hasK L s k (j+1)=decide ((k:Int)∈(gi L (gi s j).toNat).els):=by simp only [hasK,hb,Bool.false_or]
    repeat' (first
     |apply VWp.assoc
     |apply VWp.rseq
     |apply VWp.region
     |apply VWp.skipSeq
     |apply VWp.blockSeq
     |apply QSeq.normal
     |apply QBlk.normal
     |apply VOps.nil
     |apply VOps.one
     |(apply VOps.take;rfl;rfl)
     |(apply VVal.fn;rfl;rfl;exact has_spec _ _ _ (by omega);intro _;rfl)
     |(apply VVal.assign;rfl)
     |(apply VVal.move;rfl)
     |(apply VVal.add64;rfl;rfl;omega)
     |(apply VVal.int;rfl;rfl;rfl)
     |(apply VVal.indexE;rfl;rfl;rfl;omega;omega;rfl)
     |(apply VVal.loadVL;rfl;rfl;omega;rfl)
     |(apply VVal.load;rfl;rfl)
     |(apply VVal.pick_false;rfl;rfl)
     |(apply VVal.lenV;rfl;rfl;rfl)
     |(apply VVal.fieldF;rfl;rfl)
     |(apply VVal.indexVN;rfl;rfl;rfl;rfl;omega)
     |(apply VWp.condSeq_dec;rfl)
     |(intro _;try (exfalso;omega)))
    all_goals try (exfalso;omega)
    all_goals try contradiction
    refine QLoop.normal ⟨by omega,?_,?_⟩
    ·try ((try rw [e1]))
     repeat (first|exact LCov.nil|refine LCov.same trivial rfl ?_|refine LCov.same (lt_dec rfl) rfl ?_|refine LCov.same ⟨trivial,lt_dec rfl,trivial⟩ rfl ?_|refine LCov.same ⟨trivial,lt_dec rfl,lt_dec rfl,trivial⟩ rfl ?_|refine LCov.same ⟨trivial,lt_dec rfl,lt_dec rfl,lt_dec rfl,trivial⟩ rfl ?_|refine LCov.same ⟨trivial,trivial⟩ rfl ?_|refine LCov.cons trivial rfl (.of_eq (lst_len (by simp<;>omega))) ?_)
    ·(try rw [e1])
     repeat (first|exact HCov.nil|(refine HCov.cons (lt_dec rfl) ?_ rfl ?_ ?_;(first|exact HB.under_of rfl|exact PVs.under_pure _ _|(simp [HB.under,PVs.under,PV.under]));(first|exact HLe.refl _|exact HLe.vec (FLes.refl _) (by simp))))
  ·cases hb:hasK L s k s.length with
   |true =>
    have e1:missK L s (k+1)=missK L s k:=by simp only [missK];rw [if_pos hb]
    repeat' (first
     |apply VWp.assoc
     |apply VWp.rseq
     |apply VWp.region
     |apply VWp.exitSeq
     |apply QSeq.normal
     |apply QBlk.normal
     |apply QBlk.exit
     |apply QLoop.exit
     |apply VWp.skip
     |apply VOps.nil
     |apply VOps.one
     |(apply VVal.assign;rfl)
     |(apply VVal.move;rfl)
     |(apply VVal.add64;rfl;rfl;omega)
     |(apply VVal.int;rfl;rfl;rfl)
     |(apply VVal.lenV;rfl;rfl;rfl)
     |(apply VVal.not;rfl)
     |(apply VWp.condSeq_dec;rfl)
     |(apply VWp.cond_false;rfl)
     |(intro _;try (exfalso;omega)))
    all_goals try (exfalso;omega)
    all_goals try contradiction
    refine QLoop.normal ⟨by omega,?_,?_⟩
    ·try ((try rw [e1]))
     repeat (first|exact LCov.nil|refine LCov.same trivial rfl ?_|refine LCov.same (lt_dec rfl) rfl ?_|refine LCov.same ⟨trivial,lt_dec rfl,trivial⟩ rfl ?_|refine LCov.same ⟨trivial,lt_dec rfl,lt_dec rfl,trivial⟩ rfl ?_|refine LCov.same ⟨trivial,lt_dec rfl,lt_dec rfl,lt_dec rfl,trivial⟩ rfl ?_|refine LCov.same ⟨trivial,trivial⟩ rfl ?_|refine LCov.cons trivial rfl (.of_eq (lst_len (by simp<;>omega))) ?_)
    ·(try rw [e1])
     repeat (first|exact HCov.nil|(refine HCov.cons (lt_dec rfl) ?_ rfl ?_ ?_;(first|exact HB.under_of rfl|exact PVs.under_pure _ _|(simp [HB.under,PVs.under,PV.under]));(first|exact HLe.refl _|exact HLe.vec (FLes.refl _) (by simp))))
   |false =>
    have e1:missK L s (k+1)=missK L s k++[(k:Int)]:=by simp only [missK];rw [if_neg (by simp [hb])]
    have e2:(missK L s (k+1)).length=(missK L s k).length+1:=by rw [e1];simp
    repeat' (first
     |apply VWp.assoc
     |apply VWp.rseq
     |apply VWp.region
     |apply VWp.exitSeq
     |apply QSeq.normal
     |apply QBlk.normal
     |apply QBlk.exit
     |apply QLoop.exit
     |apply VOps.nil
     |apply VOps.one
     |(apply VVal.append1 (a:=(k:Int));rfl;rfl;rfl;rfl;rfl;rfl;rfl;rfl;(intro _ h;cases h);rfl;rfl;rfl;decide;decide;(first|omega|(simp only [List.length_take,List.length_drop,List.length_append,List.length_singleton,List.length_cons,List.length_nil]<;>omega)))
     |(apply VVal.assign;rfl)
     |(apply VVal.move;rfl)
     |(apply VVal.add64;rfl;rfl;omega)
     |(apply VVal.int;rfl;rfl;rfl)
     |(apply VVal.lenV;rfl;rfl;rfl)
     |(apply VVal.buildSlice;rfl;rfl;rfl;decide;rfl;rfl;rfl)
     |(apply VVal.not;rfl)
     |(apply VWp.condSeq_dec;rfl)
     |(apply VWp.cond_true;rfl)
     |(intro _;try (exfalso;omega)))
    all_goals try (exfalso;omega)
    all_goals try contradiction
    refine QLoop.normal ⟨by omega,?_,?_⟩
    ·try ((try rw [e2])<;>(try rw [e1]))
     repeat (first|exact LCov.nil|refine LCov.same trivial rfl ?_|refine LCov.same (lt_dec rfl) rfl ?_|refine LCov.same ⟨trivial,lt_dec rfl,trivial⟩ rfl ?_|refine LCov.same ⟨trivial,lt_dec rfl,lt_dec rfl,trivial⟩ rfl ?_|refine LCov.same ⟨trivial,lt_dec rfl,lt_dec rfl,lt_dec rfl,trivial⟩ rfl ?_|refine LCov.same ⟨trivial,trivial⟩ rfl ?_|refine LCov.cons trivial rfl (.of_eq (lst_len (by simp<;>omega))) ?_)
    ·(try rw [e2])<;>(try rw [e1])
     repeat (first|exact HCov.nil|(refine HCov.cons (lt_dec rfl) ?_ rfl ?_ ?_;(first|exact HB.under_of rfl|exact PVs.under_pure _ _|(simp [HB.under,PVs.under,PV.under]));(first|exact HLe.refl _|exact HLe.vec (FLes.refl _) (by simp))))
 ·repeat' (first
   |apply VWp.assoc
   |apply VWp.rseq
   |apply VWp.exitSeq
   |apply QSeq.normal
   |apply QBlk.exit
   |apply QLoop.exit
   |apply VWp.ret
   |apply VOps.nil
   |apply VOps.one
   |(apply VVal.assign;rfl)
   |(apply VVal.move;rfl)
   |(apply VVal.int;rfl;rfl;rfl)
   |(apply VWp.condSeq_dec;rfl)
   |(intro _;try (exfalso;omega)))
  all_goals first|(exfalso;omega)|(refine Done.ret (nx0:=2) rfl (.refl _) (lt_dec rfl) ?_ (by omega) (by omega) ⟨rfl,rfl,rfl⟩;repeat (first|exact HCov.nil|(refine HCov.cons (lt_dec rfl) ?_ rfl ?_ ?_;(first|exact HB.under_of rfl|exact PVs.under_pure _ _|(simp [HB.under,PVs.under,PV.under]));(first|exact HLe.refl _|exact HLe.vec (FLes.refl _) (by simp)))))
theorem rfs0:∀ m F us,RFs m F ([]:List FV) us→us=[]:=fun m F us h=>by cases h;rfl
theorem sortF_nil:sortF [] []=some ([],none):=by simp [sortF]
theorem pickK_t {L:List CSet} {c:Nat→Nat} {i:Nat} (h:0<c i∧((pickK L c i).1<0∨(gi L i).cost*(pickK L c i).2<(gi L (pickK L c i).1.toNat).cost*c i)):pickK L c (i+1)=((i:Int),(c i:Int)):=by rw [pickK,if_pos h]
theorem pickK_f {L:List CSet} {c:Nat→Nat} {i:Nat} (h:¬ (0<c i∧((pickK L c i).1<0∨(gi L i).cost*(pickK L c i).2<(gi L (pickK L c i).1.toNat).cost*c i))):pickK L c (i+1)=pickK L c i:=by rw [pickK,if_neg h]
theorem mul_bd {a b:Int} (h1:0≤a) (h2:a≤1000000) (h3:0≤b) (h4:b≤7):0≤a*b∧a*b≤7000000:=⟨Int.mul_nonneg h1 h3,by
 have:=Int.mul_le_mul h2 h4 h3 (by omega);omega⟩
section
variable {p:CProb} (hc:VFun env 34 [.agg (Enc.enc p)] (.p (.int .i64 0))) {n:Nat} (hp:p.n=n) (hn:n≤7) (hL:p.sets.length<1000) (h:ElsOk p.sets) (hall:missK p.sets (allL p.sets.length) n=[]) (hq:VFun env 49 [.agg (Enc.enc p)] (.p (.bool true)))
 {J:Nat} (hJn:J≤n) (hJ:missK p.sets (takeK p.sets n J) n=[]) (hJl:∀ j,j<J→missK p.sets (takeK p.sets n j) n≠[])
include hc hp hn hL h hall hq hJn hJ hJl
set_option maxRecDepth 100000 in
set_option maxHeartbeats 4000000 in
theorem greedy_spec (G:List Int) (hG:(takeK p.sets n J).mergeSort (fun x y=>decide (x≤y))=G) :
 VFun env 28 [.agg (Enc.enc p)] (.tup [.p (.lst 3 (cells G) G.length),.p (.int .i64 0)]):=by
 have hw:=words_spec p hL h
 have ha:=all_spec p n hp hn
 have e0:(wordsL p.sets).length=p.sets.length:=by unfold wordsL;rw [List.length_map]
 have hl0:leftK p.sets n 0=2 ^ n-1:=by simp [leftK,takeK,covK]
 have hGl:G.length=J:=by rw [← hG,List.length_mergeSort,takeK_len]
 refine VFun.enter (env_none (by decide)) Tryd.func28 rfl (by kernel_rfl) (by simp [Tryd.ntmps28]) ?_
 repeat' (first
  |(refine VWp.at 8 ?_;refine VWp.ghost (Ghost.freeze 6 rfl rfl) ?_;first|apply VWp.rseq|apply VWp.rseqD)
  |apply VWp.assoc
  |apply VWp.rseq
  |apply VWp.skipSeq
  |apply VWp.blockSeq
  |apply VOps.nil
  |apply VOps.one
  |(apply VVal.fn;rfl;rfl;exact hc;intro _;rfl)
  |(apply VVal.fn;rfl;rfl;exact hq;intro _;rfl)
  |(apply VVal.fv;rfl;rfl;exact hw)
  |(apply VVal.fn;rfl;rfl;exact ha;intro _;rfl)
  |(apply VVal.assign;rfl)
  |(apply VVal.move;rfl)
  |(apply VVal.int;rfl;rfl;rfl)
  |(apply VVal.load;rfl;rfl)
  |(apply VVal.box;rfl;trivial)
  |(apply VVal.not;rfl)
  |(apply VWp.condSeq_false;rfl))
 all_goals try (exfalso;omega)
 all_goals try contradiction
 refine VWp.ghost (Ghost.adopt 5 3 rfl) ?_
 refine VWp.ghost (Ghost.le 7 rfl (v0:=.p (.int .u64 ((leftK p.sets n 0:Nat):Int))) (.of_eq (by rw [hl0]))) ?_
 apply VWp.loopR (J) [(1,_),(6,_)] [(0,_)] (fun k r=>(7,.p (.int .u64 (leftK p.sets n k:Int)))::(5,.vec 2 (takeK p.sets n k).length 0 (takeK p.sets n k).length)::r) (fun k r=>(2,.vec 3 (cells (takeK p.sets n k)) (takeK p.sets n k).length true)::r) 3
 ·omega
 ·omega
 ·repeat (first|exact LCov.nil|(refine LCov.eq rfl ?_ ?_;(first|exact PV.under_of rfl|(simp [PV.under,PVs.under];done)))|refine LCov.cons trivial rfl (.of_eq (lst_len (by simp<;>omega))) ?_)
 ·repeat (first|exact HCov.nil|(refine HCov.eq rfl (lt_dec rfl) ?_ ?_;(first|exact HB.under_of rfl|exact PVs.under_pure _ _|(simp [HB.under,PVs.under,PV.under];done)))|(refine HCov.cons (lt_dec rfl) ?_ rfl ?_ ?_;(first|exact trivial|exact PVs.under_pure _ _|(simp [HB.under,PVs.under,PV.under]));(first|exact HLe.refl _|exact HLe.vec (FLes.refl _) (by simp))))
 ·intro j hj
  have hjl:∀ i,i<j+1→missK p.sets (takeK p.sets n i) n≠[]:=fun i hi=>hJl i (by omega)
  obtain ⟨l1,l2⟩:=left_bits h hn hall (fun i hi=>hJl i (by omega)) (j:=j)
  have hst:=left_step h hn hall hjl
  have htl:=takeK_len p.sets n j
  have hpos:leftK p.sets n j≠0:=fun h0=>hJl j hj (by rw [← l2,h0,bits7_zero])
  obtain ⟨g1,g2,g3⟩:=pick_some hn hall (hJl j hj)
  have hts:takeK p.sets n (j+1)=takeK p.sets n j++[(pickK p.sets (cntK p.sets (missK p.sets (takeK p.sets n j) n)) p.sets.length).1]:=rfl
  have hoc:∀ i,i<p.sets.length→oc7 (gi (wordsL p.sets) i &&& leftK p.sets n j)=cntK p.sets (missK p.sets (takeK p.sets n j) n) i:=fun i hi=>by rw [wordsL_gi hi,oc_cnt h hi,l2]
  have hcl:=cntK_le p.sets (takeK p.sets n j) hn
  generalize cntK p.sets (missK p.sets (takeK p.sets n j) n)=c at *
  repeat' (first
   |apply VWp.assoc
   |apply VWp.rseq
   |apply VWp.skipSeq
   |apply VWp.blockSeq
   |apply VWp.blockQ
   |apply VOps.nil
   |apply VOps.one
   |(apply VVal.assign;rfl)
   |(apply VVal.move;rfl)
   |(apply VVal.int;rfl;rfl;rfl)
   |(apply VVal.lenF;rfl;rfl)
   |(apply VWp.condSeq_dec;rfl)
   |(intro _;try (exfalso;omega)))
  all_goals try (exfalso;omega)
  apply VWp.loopR (p.sets.length) [(1,_),(5,_),(6,_),(7,_),(27,_),(28,_)] [(0,_),(2,_)] (fun k_ r=>(29,.p (.int .i64 (k_:Int)))::(8,.p (.int .i64 (pickK p.sets c k_).1))::(9,.p (.int .i64 (pickK p.sets c k_).2))::r) (fun k_ r=>r) 3
  ·omega
  ·omega
  ·repeat (first|exact LCov.nil|(refine LCov.eq rfl ?_ ?_;(first|exact PV.under_of rfl|(simp [PV.under,PVs.under];done)))|refine LCov.cons trivial rfl (.of_eq (lst_len (by simp<;>omega))) ?_)
  ·repeat (first|exact HCov.nil|(refine HCov.eq rfl (lt_dec rfl) ?_ ?_;(first|exact HB.under_of rfl|exact PVs.under_pure _ _|(simp [HB.under,PVs.under,PV.under];done)))|(refine HCov.cons (lt_dec rfl) ?_ rfl ?_ ?_;(first|exact trivial|exact PVs.under_pure _ _|(simp [HB.under,PVs.under,PV.under]));(first|exact HLe.refl _|exact HLe.vec (FLes.refl _) (by simp))))
  ·intro i hi
   have h2:=(wordC_spec h hi).1
   rw [← wordsL_gi hi] at h2
   have hand:gi (wordsL p.sets) i &&& leftK p.sets n j<128:=Nat.and_lt_two_pow (n:=7) _ l1
   have hf:=oc_fun _ hand
   rw [hoc i hi] at hf
   have hci:=hcl i
   have hpk:-1≤(pickK p.sets c i).1∧(pickK p.sets c i).1<i∧0≤(pickK p.sets c i).2∧(pickK p.sets c i).2≤7:=by
    have:=pickK_bd p.sets c hcl i
    exact ⟨this.1,this.2.1,this.2.2.1,this.2.2.2.1⟩
   by_cases h0:0<c i
   case neg =>
    have e1:=pickK_f (L:=p.sets) (c:=c) (i:=i) (fun hh=>h0 hh.1)
    repeat' (first
     |apply VWp.rseq
     |apply VWp.rseqD
     |apply VWp.region
     |apply VWp.skipSeq
     |apply VWp.blockSeq
     |apply QSeq.normal
     |apply QBlk.normal
     |apply VWp.skip
     |apply VOps.nil
     |apply VOpsD.nil
     |apply VOps.one
     |(apply VOpsD.bar;decide +kernel)
     |(apply VOpsD.drop;rfl;rfl;rfl)
     |(apply VOpsD.guard;rfl;rfl)
     |(apply VOpsD.dropU;rfl;rfl)
     |(apply VVal.fn;rfl;rfl;exact hf;intro _;rfl)
     |(apply VVal.assign;rfl)
     |(apply VVal.move;rfl)
     |(apply VVal.add64;rfl;rfl;omega)
     |(apply VVal.andU;rfl;rfl;omega;omega)
     |(apply VVal.int;rfl;rfl;rfl)
     |(apply VVal.indexN;rfl;rfl;rfl;omega;rfl)
     |(apply VVal.load;rfl;rfl)
     |(apply VVal.pick_false;rfl;rfl)
     |(apply VWp.condSeq_dec;rfl)
     |(apply VWp.cond_false;rfl)
     |(intro _;try (exfalso;omega)))
    all_goals try (exfalso;omega)
    all_goals try contradiction
    refine QLoop.normal ⟨by omega,?_,?_⟩
    ·try ((try rw [e1]))
     repeat (first|exact LCov.nil|refine LCov.same trivial rfl ?_|refine LCov.same (lt_dec rfl) rfl ?_|refine LCov.same ⟨trivial,lt_dec rfl,trivial⟩ rfl ?_|refine LCov.same ⟨trivial,lt_dec rfl,lt_dec rfl,trivial⟩ rfl ?_|refine LCov.same ⟨trivial,lt_dec rfl,lt_dec rfl,lt_dec rfl,trivial⟩ rfl ?_|refine LCov.same ⟨trivial,trivial⟩ rfl ?_|refine LCov.cons trivial rfl (.of_eq (lst_len (by simp<;>omega))) ?_)
    ·(try rw [e1])
     repeat (first|exact HCov.nil|(refine HCov.cons (lt_dec rfl) ?_ rfl ?_ ?_;(first|exact HB.under_of rfl|exact PVs.under_pure _ _|(simp [HB.under,PVs.under,PV.under]));(first|exact HLe.refl _|exact HLe.vec (FLes.refl _) (by simp))))
   by_cases hneg:(pickK p.sets c i).1<0
   case pos =>
    have e1:=pickK_t (L:=p.sets) (c:=c) (i:=i) ⟨h0,.inl hneg⟩
    repeat' (first
     |apply VWp.rseq
     |apply VWp.rseqD
     |apply VWp.region
     |apply VWp.skipSeq
     |apply VWp.blockSeq
     |apply QSeq.normal
     |apply QBlk.normal
     |apply VOps.nil
     |apply VOpsD.nil
     |apply VOps.one
     |(apply VOpsD.bar;decide +kernel)
     |(apply VOpsD.quietTake;rfl;rfl)
     |(apply VOpsD.drop;rfl;rfl;rfl)
     |(apply VOpsD.guard;rfl;rfl)
     |(apply VVal.fn;rfl;rfl;exact hf;intro _;rfl)
     |(apply VVal.assign;rfl)
     |(apply VVal.move;rfl)
     |(apply VVal.add64;rfl;rfl;omega)
     |(apply VVal.andU;rfl;rfl;omega;omega)
     |(apply VVal.int;rfl;rfl;rfl)
     |(apply VVal.indexN;rfl;rfl;rfl;omega;rfl)
     |(apply VVal.load;rfl;rfl)
     |(apply VVal.pick_true;rfl;rfl)
     |(apply VWp.condSeq_dec;rfl)
     |(apply VWp.cond_true;rfl)
     |(intro _;try (exfalso;omega)))
    all_goals try (exfalso;omega)
    all_goals try contradiction
    refine QLoop.normal ⟨by omega,?_,?_⟩
    ·try ((try rw [e1]))
     repeat (first|exact LCov.nil|refine LCov.same trivial rfl ?_|refine LCov.same (lt_dec rfl) rfl ?_|refine LCov.same ⟨trivial,lt_dec rfl,trivial⟩ rfl ?_|refine LCov.same ⟨trivial,lt_dec rfl,lt_dec rfl,trivial⟩ rfl ?_|refine LCov.same ⟨trivial,lt_dec rfl,lt_dec rfl,lt_dec rfl,trivial⟩ rfl ?_|refine LCov.same ⟨trivial,trivial⟩ rfl ?_|refine LCov.cons trivial rfl (.of_eq (lst_len (by simp<;>omega))) ?_)
    ·(try rw [e1])
     repeat (first|exact HCov.nil|(refine HCov.cons (lt_dec rfl) ?_ rfl ?_ ?_;(first|exact HB.under_of rfl|exact PVs.under_pure _ _|(simp [HB.under,PVs.under,PV.under]));(first|exact HLe.refl _|exact HLe.vec (FLes.refl _) (by simp))))
   obtain ⟨q1,q2,q3,q4⟩:=hpk
   obtain ⟨b,hb⟩:∃ b:Nat,(pickK p.sets c i).1=b:=⟨(pickK p.sets c i).1.toNat,by omega⟩
   have hbl:b<p.sets.length:=by omega
   have c1:=h i hi
   have c2:=h b hbl
   have m1:=mul_bd c1.2.2.1 c1.2.2.2 q3 q4
   have m2:=mul_bd (b:=(c i:Int)) c2.2.2.1 c2.2.2.2 (by omega) (by omega)
   have hcond:((pickK p.sets c i).1<0∨(gi p.sets i).cost*(pickK p.sets c i).2<(gi p.sets (pickK p.sets c i).1.toNat).cost*c i)↔(gi p.sets i).cost*(pickK p.sets c i).2<(gi p.sets b).cost*c i:=by
    rw [hb,Int.toNat_natCast]
    exact ⟨fun hh=>hh.elim (fun h1=>absurd h1 (by omega)) id,.inr⟩
   by_cases hlt:(gi p.sets i).cost*(pickK p.sets c i).2<(gi p.sets b).cost*c i
   ·have e1:=pickK_t (L:=p.sets) (c:=c) (i:=i) ⟨h0,hcond.2 hlt⟩
    generalize pickK p.sets c i=pk at *
    obtain ⟨pb,pm⟩:=pk
    simp only at *
    subst hb
    repeat' (first
     |apply VWp.rseq
     |apply VWp.rseqD
     |apply VWp.region
     |apply VWp.skipSeq
     |apply VWp.blockSeq
     |apply QSeq.normal
     |apply QBlk.normal
     |apply VOps.nil
     |apply VOpsD.nil
     |apply VOps.one
     |(apply VOpsD.bar;decide +kernel)
     |(apply VOpsD.quietTake;rfl;rfl)
     |(apply VOpsD.guard;rfl;rfl)
     |(apply VVal.fn;rfl;rfl;exact hf;intro _;rfl)
     |(apply VVal.assign;rfl)
     |(apply VVal.move;rfl)
     |(apply VVal.add64;rfl;rfl;omega)
     |(apply VVal.mul64;rfl;rfl;omega)
     |(apply VVal.andU;rfl;rfl;omega;omega)
     |(apply VVal.int;rfl;rfl;rfl)
     |(apply VVal.indexN;rfl;rfl;rfl;omega;rfl)
     |(apply VVal.load;rfl;rfl)
     |(apply VVal.pick_true;rfl;rfl)
     |(apply VVal.pick_false;rfl;rfl)
     |(apply VVal.fieldB;rfl;rfl;rfl)
     |(apply VVal.fieldF;rfl;rfl)
     |(apply VWp.condSeq_dec;rfl)
     |(apply VWp.cond_dec;rfl)
     |(intro _;try (exfalso;omega)))
    all_goals try (exfalso;omega)
    all_goals try contradiction
    refine QLoop.normal ⟨by omega,?_,?_⟩
    ·try ((try rw [e1]))
     repeat (first|exact LCov.nil|refine LCov.same trivial rfl ?_|refine LCov.same (lt_dec rfl) rfl ?_|refine LCov.same ⟨trivial,lt_dec rfl,trivial⟩ rfl ?_|refine LCov.same ⟨trivial,lt_dec rfl,lt_dec rfl,trivial⟩ rfl ?_|refine LCov.same ⟨trivial,lt_dec rfl,lt_dec rfl,lt_dec rfl,trivial⟩ rfl ?_|refine LCov.same ⟨trivial,trivial⟩ rfl ?_|refine LCov.cons trivial rfl (.of_eq (lst_len (by simp<;>omega))) ?_)
    ·(try rw [e1])
     repeat (first|exact HCov.nil|(refine HCov.cons (lt_dec rfl) ?_ rfl ?_ ?_;(first|exact HB.under_of rfl|exact PVs.under_pure _ _|(simp [HB.under,PVs.under,PV.under]));(first|exact HLe.refl _|exact HLe.vec (FLes.refl _) (by simp))))
   ·have e1:=pickK_f (L:=p.sets) (c:=c) (i:=i) (fun hh=>hlt (hcond.1 hh.2))
    generalize hpk2:pickK p.sets c i=pk at *
    obtain ⟨pb,pm⟩:=pk
    simp only at *
    subst hb
    repeat' (first
     |apply VWp.rseq
     |apply VWp.rseqD
     |apply VWp.region
     |apply VWp.skipSeq
     |apply VWp.blockSeq
     |apply QSeq.normal
     |apply QBlk.normal
     |apply VWp.skip
     |apply VOps.nil
     |apply VOpsD.nil
     |apply VOps.one
     |(apply VOpsD.bar;decide +kernel)
     |(apply VOpsD.quietTake;rfl;rfl)
     |(apply VOpsD.guard;rfl;rfl)
     |(apply VVal.fn;rfl;rfl;exact hf;intro _;rfl)
     |(apply VVal.assign;rfl)
     |(apply VVal.move;rfl)
     |(apply VVal.add64;rfl;rfl;omega)
     |(apply VVal.mul64;rfl;rfl;omega)
     |(apply VVal.andU;rfl;rfl;omega;omega)
     |(apply VVal.int;rfl;rfl;rfl)
     |(apply VVal.indexN;rfl;rfl;rfl;omega;rfl)
     |(apply VVal.load;rfl;rfl)
     |(apply VVal.pick_true;rfl;rfl)
     |(apply VVal.pick_false;rfl;rfl)
     |(apply VVal.fieldB;rfl;rfl;rfl)
     |(apply VVal.fieldF;rfl;rfl)
     |(apply VWp.condSeq_dec;rfl)
     |(apply VWp.cond_dec;rfl)
     |(intro _;try (exfalso;omega)))
    all_goals try (exfalso;omega)
    all_goals try contradiction
    refine QLoop.normal ⟨by omega,?_,?_⟩
    ·try ((try rw [e1]))
     repeat (first|exact LCov.nil|refine LCov.same trivial rfl ?_|refine LCov.same (lt_dec rfl) rfl ?_|refine LCov.same ⟨trivial,lt_dec rfl,trivial⟩ rfl ?_|refine LCov.same ⟨trivial,lt_dec rfl,lt_dec rfl,trivial⟩ rfl ?_|refine LCov.same ⟨trivial,lt_dec rfl,lt_dec rfl,lt_dec rfl,trivial⟩ rfl ?_|refine LCov.same ⟨trivial,trivial⟩ rfl ?_|refine LCov.cons trivial rfl (.of_eq (lst_len (by simp<;>omega))) ?_)
    ·(try rw [e1])
     repeat (first|exact HCov.nil|(refine HCov.cons (lt_dec rfl) ?_ rfl ?_ ?_;(first|exact HB.under_of rfl|exact PVs.under_pure _ _|(simp [HB.under,PVs.under,PV.under]));(first|exact HLe.refl _|exact HLe.vec (FLes.refl _) (by simp))))
  ·obtain ⟨b,hb⟩:∃ b:Nat,(pickK p.sets c p.sets.length).1=b:=⟨(pickK p.sets c p.sets.length).1.toNat,by omega⟩
   rw [hb] at hst hts g1 g2 ⊢
   have hbl:b<p.sets.length:=by omega
   have h2:=(wordC_spec h hbl).1
   have e3:((b:Int)).toNat=b:=by omega
   rw [e3,← wordsL_gi hbl] at hst
   rw [← wordsL_gi hbl] at h2
   have e2:(takeK p.sets n (j+1)).length=(takeK p.sets n j).length+1:=by rw [hts];simp
   repeat' (first
    |apply VWp.rseq
    |apply VWp.region
    |apply VWp.exitSeq
    |apply QSeq.normal
    |apply QBlk.normal
    |apply QBlk.exit
    |apply QLoop.exit
    |apply VOps.nil
    |apply VOps.one
    |(apply VVal.append1 (a:=(b:Int));rfl;rfl;rfl;rfl;rfl;rfl;rfl;rfl;(intro _ h;cases h);rfl;rfl;rfl;decide;decide;(first|omega|(simp only [List.length_take,List.length_drop,List.length_append,List.length_singleton,List.length_cons,List.length_nil]<;>omega)))
    |(apply VVal.assign;rfl)
    |(apply VVal.move;rfl)
    |(apply VVal.andNotU;rfl;rfl;omega;omega)
    |(apply VVal.int;rfl;rfl;rfl)
    |(apply VVal.indexN;rfl;rfl;rfl;omega;rfl)
    |(apply VVal.load;rfl;rfl)
    |(apply VVal.buildSlice;rfl;rfl;rfl;decide;rfl;rfl;rfl)
    |(apply VWp.condSeq_dec;rfl)
    |(intro _;try (exfalso;omega)))
   all_goals try (exfalso;omega)
   refine QLoop.normal ⟨by omega,?_,?_⟩
   ·try ((try rw [e2])<;>(try rw [hst])<;>(try rw [hts]))
    repeat (first|exact LCov.nil|refine LCov.same trivial rfl ?_|refine LCov.same (lt_dec rfl) rfl ?_|refine LCov.same ⟨trivial,lt_dec rfl,trivial⟩ rfl ?_|refine LCov.same ⟨trivial,lt_dec rfl,lt_dec rfl,trivial⟩ rfl ?_|refine LCov.same ⟨trivial,lt_dec rfl,lt_dec rfl,lt_dec rfl,trivial⟩ rfl ?_|refine LCov.same ⟨trivial,trivial⟩ rfl ?_|refine LCov.cons trivial rfl (.of_eq (lst_len (by simp<;>omega))) ?_)
   ·(try rw [e2])<;>(try rw [hst])<;>(try rw [hts])
    repeat (first|exact HCov.nil|(refine HCov.cons (lt_dec rfl) ?_ rfl ?_ ?_;(first|exact HB.under_of rfl|exact PVs.under_pure _ _|(simp [HB.under,PVs.under,PV.under]));(first|exact HLe.refl _|exact HLe.vec (FLes.refl _) (by simp))))
 ·have htl:=takeK_len p.sets n J
  obtain ⟨l1,l2⟩:=left_bits h hn hall hJl
  have hz:leftK p.sets n J=0:=Classical.byContradiction fun h0=>by
   have:=(bits7_step l1 h0).1
   rw [l2,hJ] at this;cases this
  rw [hz]
  by_cases hJ0:0<J
  ·repeat' (first
    |(refine VWp.at 21 ?_;refine VWp.ghost (Ghost.freeze 5 rfl rfl) ?_;first|apply VWp.rseq|apply VWp.rseqD)
    |apply VWp.assoc
    |apply VWp.rseq
    |apply VWp.exitSeq
    |apply QSeq.normal
    |apply QBlk.exit
    |apply QLoop.exit
    |apply VWp.ret
    |apply VOps.nil
    |apply VOps.one
    |((refine VVal.inPut (Fn:=sortF) (zs':=G) sort_at rfl rfl rfl (rest:=[]) (rv:=[]) rfs0 rfl rfl (by omega) ?_ (by omega) ?_;(simp only [sortF];rw [if_pos (by omega),hG])))
    |(apply VVal.assign;rfl)
    |(apply VVal.move;rfl)
    |(apply VVal.int;rfl;rfl;rfl)
    |(apply VWp.condSeq_false;rfl))
   all_goals first|(exfalso;omega)|contradiction|((refine Done.ret rfl (.refl _) (by first|exact trivial|exact ⟨trivial,trivial,trivial⟩|exact ⟨trivial,trivial,trivial,trivial⟩) HCov.nil (Nat.zero_le _) (Nat.le_refl _) ⟨?_,rfl,rfl⟩;try rfl);try (simp<;>omega))
  ·obtain rfl:J=0:=by omega
   obtain rfl:G=[]:=List.eq_nil_of_length_eq_zero hGl
   simp only [takeK]
   repeat' (first
    |(refine VWp.at 21 ?_;refine VWp.ghost (Ghost.freeze 5 rfl rfl) ?_;first|apply VWp.rseq|apply VWp.rseqD)
    |apply VWp.assoc
    |apply VWp.rseq
    |apply VWp.exitSeq
    |apply QSeq.normal
    |apply QBlk.exit
    |apply QLoop.exit
    |apply VWp.ret
    |apply VOps.nil
    |apply VOps.one
    |((refine VVal.inNil (Fn:=sortF) sort_at rfl rfl rfl (rest:=[]) (rv:=[]) rfs0 sortF_nil ?_))
    |(apply VVal.assign;rfl)
    |(apply VVal.move;rfl)
    |(apply VVal.int;rfl;rfl;rfl)
    |(apply VWp.condSeq_false;rfl))
   all_goals first|(exfalso;omega)|contradiction|((refine Done.ret rfl (.refl _) (by first|exact trivial|exact ⟨trivial,trivial,trivial⟩|exact ⟨trivial,trivial,trivial,trivial⟩) HCov.nil (Nat.zero_le _) (Nat.le_refl _) ⟨?_,rfl,rfl⟩;try rfl);try (simp<;>omega))
end
theorem cnt_succ (L:List CSet) (M:List Int) (i k:Nat) (hk:k<M.length):cntK L (M.take (k+1)) i=if gi M k∈(gi L i).els then cntK L (M.take k) i+1 else cntK L (M.take k) i:=by
 unfold cntK
 rw [take_succ_gi hk,List.filter_append]
 by_cases h:gi M k∈(gi L i).els
 ·rw [if_pos h];simp [h]
 ·rw [if_neg h];simp [h]
theorem has_len (L:List CSet) (M:List Int) (i k:Nat):cntK L (M.take k) i≤k:=by
 unfold cntK
 have:=List.length_filter_le (fun x=>decide (x∈(gi L i).els)) (M.take k)
 rw [List.length_take] at this;omega
def outK (T:List Int) (k:Nat):List Int:=(allL k).filter fun x=>decide (x∈T)
theorem outK_succ (T:List Int) (k:Nat):outK T (k+1)=if (k:Int)∈T then outK T k++[(k:Int)] else outK T k:=by
 unfold outK
 rw [allL_succ,List.filter_append]
 by_cases h:(k:Int)∈T
 ·rw [if_pos h];simp [h]
 ·rw [if_neg h];simp [h]
theorem outK_len (T:List Int) (k:Nat):(outK T k).length≤k:=by
 have:=List.length_filter_le (fun x:Int=>decide (x∈T)) (allL k)
 rw [allL_len] at this
 exact this
section
variable (e:TypeId) {L:List CSet} {n:Nat} (hn:n≤7) (hL:L.length<1000) (h:ElsOk L) (hall:missK L (allL L.length) n=[]) {J:Nat} (hJn:J≤n) (hJ:missK L (takeK L n J) n=[]) (hJl:∀ j,j<J→missK L (takeK L n j) n≠[])
include hn hL h hall hJn hJ hJl
set_option maxRecDepth 100000 in
set_option maxHeartbeats 4000000 in
theorem rgreedy_spec:VFunV env 31 [.int .i64 n,.lst e (cells L) L.length] 3 (cells (outK (takeK L n J) L.length)) (outK (takeK L n J) L.length).length true:=by
 have hels:∀ i,i<L.length→(gi L i).els.length<1000:=fun i hi=>by have:=(h i hi).1;omega
 have hin:=fun j (hj:j≤J)=>take_in hn hall j (fun i hi=>hJl i (by omega))
 have hlen:=takeK_len L n
 have hm0:=rmissingR_spec e n L (takeK L n 0) (by omega) hL (by rw [hlen];omega) hels (hin 0 (by omega))
 refine VFunV.enter (env_none (by decide)) Tryd.func31 rfl (by kernel_rfl) (by simp [Tryd.ntmps31]) ?_
 repeat' (first
  |(refine VWp.at 2 ?_;refine VWp.ghost (Ghost.adopt 5 3 rfl) ?_;first|apply VWp.rseq|apply VWp.rseqD)
  |apply VWp.assoc
  |apply VWp.rseq
  |apply VWp.blockSeq
  |apply VOps.nil
  |apply VOps.one
  |(apply VVal.readV [0] hm0;rfl;rfl;exact .of_eq rfl;exact PVs.under_of rfl;exact HUnder_of rfl;(repeat (first|exact trivial|refine ⟨⟨_,rfl,.of_eq rfl⟩,?_⟩));decide;(intro _ hb;simp at hb<;>omega);rfl;rfl)
  |(apply VVal.assign;rfl)
  |(apply VVal.move;rfl))
 all_goals try (exfalso;omega)
 refine VWp.ghost (Ghost.freeze 6 rfl rfl) ?_
 apply VWp.loopR (J) [(0,_),(1,_)] [] (fun k r=>(5,.vec 0 (takeK L n k).length 0 (takeK L n k).length)::(6,lst 3 (missK L (takeK L n k) n))::r) (fun k r=>(0,.vec 3 (cells (takeK L n k)) (takeK L n k).length true)::r) 2
 ·omega
 ·omega
 ·repeat (first|exact LCov.nil|(refine LCov.eq rfl ?_ ?_;(first|exact PV.under_of rfl|(simp [PV.under,PVs.under];done)))|refine LCov.cons trivial rfl (.of_eq (lst_len (by simp<;>omega))) ?_)
 ·repeat (first|exact HCov.nil|(refine HCov.eq rfl (lt_dec rfl) ?_ ?_;(first|exact HB.under_of rfl|exact PVs.under_pure _ _|(simp [HB.under,PVs.under,PV.under];done)))|(refine HCov.cons (lt_dec rfl) ?_ rfl ?_ ?_;(first|exact trivial|exact PVs.under_pure _ _|(simp [HB.under,PVs.under,PV.under]));(first|exact HLe.refl _|exact HLe.vec (FLes.refl _) (by simp))))
 ·intro j hj
  have hmj:=missK_len L (takeK L n j) n
  have hm:=rmissingR_spec e n L (takeK L n (j+1)) (by omega) hL (by rw [hlen];omega) hels (hin (j+1) (by omega))
  have htl:=hlen j
  have hpos:0<(missK L (takeK L n j) n).length:=List.length_pos_iff.2 (hJl j hj)
  obtain ⟨g1,g2,g3⟩:=pick_some hn hall (hJl j hj)
  have hts:takeK L n (j+1)=takeK L n j++[(pickK L (cntK L (missK L (takeK L n j) n)) L.length).1]:=rfl
  have hcl:=cntK_le L (takeK L n j) hn
  have hcM:∀ i,cntK L ((missK L (takeK L n j) n).take (missK L (takeK L n j) n).length) i=cntK L (missK L (takeK L n j) n) i:=fun i=>by rw [List.take_length]
  have hcs:=fun i k=>cnt_succ L (missK L (takeK L n j) n) i k
  have hcn:=has_len L (missK L (takeK L n j) n)
  generalize hc:cntK L (missK L (takeK L n j) n)=c at *
  generalize missK L (takeK L n j) n=M at *
  repeat' (first
   |apply VWp.assoc
   |apply VWp.rseq
   |apply VWp.skipSeq
   |apply VWp.blockSeq
   |apply VOps.nil
   |apply VOps.one
   |(apply VVal.assign;rfl)
   |(apply VVal.move;rfl)
   |(apply VVal.int;rfl;rfl;rfl)
   |(apply VVal.lenF;rfl;rfl)
   |(apply VWp.condSeq_dec;rfl)
   |(intro _;try (exfalso;omega)))
  all_goals try (exfalso;omega)
  apply VWp.loopR (L.length) [(0,_),(1,_),(5,_),(6,_)] [(0,_)] (fun k_ r=>(9,.p (.int .i64 (k_:Int)))::(7,.p (.int .i64 (pickK L c k_).1))::(8,.p (.int .i64 (pickK L c k_).2))::r) (fun k_ r=>r) 2
  ·omega
  ·omega
  ·repeat (first|exact LCov.nil|(refine LCov.eq rfl ?_ ?_;(first|exact PV.under_of rfl|(simp [PV.under,PVs.under];done)))|refine LCov.cons trivial rfl (.of_eq (lst_len (by simp<;>omega))) ?_)
  ·repeat (first|exact HCov.nil|(refine HCov.eq rfl (lt_dec rfl) ?_ ?_;(first|exact HB.under_of rfl|exact PVs.under_pure _ _|(simp [HB.under,PVs.under,PV.under];done)))|(refine HCov.cons (lt_dec rfl) ?_ rfl ?_ ?_;(first|exact trivial|exact PVs.under_pure _ _|(simp [HB.under,PVs.under,PV.under]));(first|exact HLe.refl _|exact HLe.vec (FLes.refl _) (by simp))))
  ·intro i hi
   have hci:=hcl i
   have hpk:-1≤(pickK L c i).1∧(pickK L c i).1<i∧0≤(pickK L c i).2∧(pickK L c i).2≤7:=by
    have:=pickK_bd L c hcl i
    exact ⟨this.1,this.2.1,this.2.2.1,this.2.2.2.1⟩
   repeat' (first
    |apply VWp.assoc
    |apply VWp.rseq
    |apply VWp.skipSeq
    |apply VWp.blockSeq
    |apply VOps.nil
    |apply VOps.one
    |(apply VVal.assign;rfl)
    |(apply VVal.move;rfl)
    |(apply VVal.int;rfl;rfl;rfl)
    |(apply VVal.lenF;rfl;rfl)
    |(apply VWp.condSeq_dec;rfl)
    |(intro _;try (exfalso;omega)))
   all_goals try (exfalso;omega)
   apply VWp.loopR (M.length) [(0,_),(1,_),(5,_),(6,_),(7,_),(8,_),(9,_)] [(0,_)] (fun k_ r=>(11,.p (.int .i64 (k_:Int)))::(10,.p (.int .i64 (cntK L (M.take k_) i:Int)))::r) (fun k_ r=>r) 2
   ·omega
   ·omega
   ·repeat (first|exact LCov.nil|(refine LCov.eq rfl ?_ ?_;(first|exact PV.under_of rfl|(simp [PV.under,PVs.under];done)))|refine LCov.cons trivial rfl (.of_eq (lst_len (by simp<;>omega))) ?_)
   ·repeat (first|exact HCov.nil|(refine HCov.eq rfl (lt_dec rfl) ?_ ?_;(first|exact HB.under_of rfl|exact PVs.under_pure _ _|(simp [HB.under,PVs.under,PV.under];done)))|(refine HCov.cons (lt_dec rfl) ?_ rfl ?_ ?_;(first|exact trivial|exact PVs.under_pure _ _|(simp [HB.under,PVs.under,PV.under]));(first|exact HLe.refl _|exact HLe.vec (FLes.refl _) (by simp))))
   ·intro k hk
    have e1:=hcs i k hk
    have e2:=hcn i k
    have hh:=has_spec 3 (gi L i).els (gi M k) (by have:=hels i hi;omega)
    by_cases hmem:gi M k∈(gi L i).els
    ·rw [if_pos hmem] at e1
     rw [decide_eq_true hmem] at hh
     repeat' (first
      |apply VWp.assoc
      |apply VWp.rseq
      |apply VWp.rseqD
      |apply VWp.region
      |apply VWp.skipSeq
      |apply VWp.blockSeq
      |apply QSeq.normal
      |apply QBlk.normal
      |apply VOps.nil
      |apply VOpsD.nil
      |apply VOps.one
      |(apply VOpsD.bar;decide +kernel)
      |apply VOpsD.quiet
      |(apply VVal.fn;rfl;rfl;exact hh;intro _;rfl)
      |(apply VVal.assign;rfl)
      |(apply VVal.move;rfl)
      |(apply VVal.add64;rfl;rfl;omega)
      |(apply VVal.int;rfl;rfl;rfl)
      |(apply VVal.indexN;rfl;rfl;rfl;omega;rfl)
      |(apply VVal.load;rfl;rfl)
      |(apply VVal.lenF;rfl;rfl)
      |(apply VVal.fieldF;rfl;rfl)
      |(apply VWp.condSeq_dec;rfl)
      |(apply VWp.cond_true;rfl)
      |(intro _;try (exfalso;omega)))
     all_goals try (exfalso;omega)
     all_goals try contradiction
     refine QLoop.normal ⟨by omega,?_,?_⟩
     ·try ((try rw [e1]))
      repeat (first|exact LCov.nil|refine LCov.same trivial rfl ?_|refine LCov.same (lt_dec rfl) rfl ?_|refine LCov.same ⟨trivial,lt_dec rfl,trivial⟩ rfl ?_|refine LCov.same ⟨trivial,lt_dec rfl,lt_dec rfl,trivial⟩ rfl ?_|refine LCov.same ⟨trivial,lt_dec rfl,lt_dec rfl,lt_dec rfl,trivial⟩ rfl ?_|refine LCov.same ⟨trivial,trivial⟩ rfl ?_|refine LCov.cons trivial rfl (.of_eq (lst_len (by simp<;>omega))) ?_)
     ·(try rw [e1])
      repeat (first|exact HCov.nil|(refine HCov.cons (lt_dec rfl) ?_ rfl ?_ ?_;(first|exact HB.under_of rfl|exact PVs.under_pure _ _|(simp [HB.under,PVs.under,PV.under]));(first|exact HLe.refl _|exact HLe.vec (FLes.refl _) (by simp))))
    ·rw [if_neg hmem] at e1
     rw [decide_eq_false hmem] at hh
     repeat' (first
      |apply VWp.assoc
      |apply VWp.rseq
      |apply VWp.rseqD
      |apply VWp.region
      |apply VWp.skipSeq
      |apply VWp.blockSeq
      |apply QSeq.normal
      |apply QBlk.normal
      |apply VWp.skip
      |apply VOps.nil
      |apply VOpsD.nil
      |apply VOps.one
      |(apply VOpsD.bar;decide +kernel)
      |apply VOpsD.quiet
      |(apply VVal.fn;rfl;rfl;exact hh;intro _;rfl)
      |(apply VVal.assign;rfl)
      |(apply VVal.move;rfl)
      |(apply VVal.add64;rfl;rfl;omega)
      |(apply VVal.int;rfl;rfl;rfl)
      |(apply VVal.indexN;rfl;rfl;rfl;omega;rfl)
      |(apply VVal.load;rfl;rfl)
      |(apply VVal.lenF;rfl;rfl)
      |(apply VVal.fieldF;rfl;rfl)
      |(apply VWp.condSeq_dec;rfl)
      |(apply VWp.cond_false;rfl)
      |(intro _;try (exfalso;omega)))
     all_goals try (exfalso;omega)
     all_goals try contradiction
     refine QLoop.normal ⟨by omega,?_,?_⟩
     ·try ((try rw [e1]))
      repeat (first|exact LCov.nil|refine LCov.same trivial rfl ?_|refine LCov.same (lt_dec rfl) rfl ?_|refine LCov.same ⟨trivial,lt_dec rfl,trivial⟩ rfl ?_|refine LCov.same ⟨trivial,lt_dec rfl,lt_dec rfl,trivial⟩ rfl ?_|refine LCov.same ⟨trivial,lt_dec rfl,lt_dec rfl,lt_dec rfl,trivial⟩ rfl ?_|refine LCov.same ⟨trivial,trivial⟩ rfl ?_|refine LCov.cons trivial rfl (.of_eq (lst_len (by simp<;>omega))) ?_)
     ·(try rw [e1])
      repeat (first|exact HCov.nil|(refine HCov.cons (lt_dec rfl) ?_ rfl ?_ ?_;(first|exact HB.under_of rfl|exact PVs.under_pure _ _|(simp [HB.under,PVs.under,PV.under]));(first|exact HLe.refl _|exact HLe.vec (FLes.refl _) (by simp))))
   ·rw [hcM i]
    by_cases h0:0<c i
    case neg =>
     have e1:=pickK_f (L:=L) (c:=c) (i:=i) (fun hh=>h0 hh.1)
     repeat' (first
      |apply VWp.assoc
      |apply VWp.rseq
      |apply VWp.rseqD
      |apply VWp.region
      |apply VWp.exitSeq
      |apply QSeq.normal
      |apply QBlk.normal
      |apply QBlk.exit
      |apply QLoop.exit
      |apply VWp.skip
      |apply VOps.nil
      |apply VOpsD.nil
      |apply VOps.one
      |(apply VOpsD.bar;decide +kernel)
      |(apply VOpsD.drop;rfl;rfl;rfl)
      |(apply VOpsD.guard;rfl;rfl)
      |(apply VOpsD.dropU;rfl;rfl)
      |(apply VVal.assign;rfl)
      |(apply VVal.move;rfl)
      |(apply VVal.add64;rfl;rfl;omega)
      |(apply VVal.int;rfl;rfl;rfl)
      |(apply VVal.pick_false;rfl;rfl)
      |(apply VVal.lenF;rfl;rfl)
      |(apply VWp.condSeq_dec;rfl)
      |(apply VWp.cond_false;rfl)
      |(intro _;try (exfalso;omega)))
     all_goals try (exfalso;omega)
     all_goals try contradiction
     refine QLoop.normal ⟨by omega,?_,?_⟩
     ·try ((try rw [e1]))
      repeat (first|exact LCov.nil|refine LCov.same trivial rfl ?_|refine LCov.same (lt_dec rfl) rfl ?_|refine LCov.same ⟨trivial,lt_dec rfl,trivial⟩ rfl ?_|refine LCov.same ⟨trivial,lt_dec rfl,lt_dec rfl,trivial⟩ rfl ?_|refine LCov.same ⟨trivial,lt_dec rfl,lt_dec rfl,lt_dec rfl,trivial⟩ rfl ?_|refine LCov.same ⟨trivial,trivial⟩ rfl ?_|refine LCov.cons trivial rfl (.of_eq (lst_len (by simp<;>omega))) ?_)
     ·(try rw [e1])
      repeat (first|exact HCov.nil|(refine HCov.cons (lt_dec rfl) ?_ rfl ?_ ?_;(first|exact HB.under_of rfl|exact PVs.under_pure _ _|(simp [HB.under,PVs.under,PV.under]));(first|exact HLe.refl _|exact HLe.vec (FLes.refl _) (by simp))))
    by_cases hneg:(pickK L c i).1<0
    case pos =>
     have e1:=pickK_t (L:=L) (c:=c) (i:=i) ⟨h0,.inl hneg⟩
     repeat' (first
      |apply VWp.assoc
      |apply VWp.rseq
      |apply VWp.rseqD
      |apply VWp.region
      |apply VWp.exitSeq
      |apply QSeq.normal
      |apply QBlk.normal
      |apply QBlk.exit
      |apply QLoop.exit
      |apply VOps.nil
      |apply VOpsD.nil
      |apply VOps.one
      |(apply VOpsD.bar;decide +kernel)
      |(apply VOpsD.quietTake;rfl;rfl)
      |(apply VOpsD.drop;rfl;rfl;rfl)
      |(apply VOpsD.guard;rfl;rfl)
      |(apply VVal.assign;rfl)
      |(apply VVal.move;rfl)
      |(apply VVal.add64;rfl;rfl;omega)
      |(apply VVal.int;rfl;rfl;rfl)
      |(apply VVal.pick_true;rfl;rfl)
      |(apply VVal.lenF;rfl;rfl)
      |(apply VWp.condSeq_dec;rfl)
      |(apply VWp.cond_true;rfl)
      |(intro _;try (exfalso;omega)))
     all_goals try (exfalso;omega)
     all_goals try contradiction
     refine QLoop.normal ⟨by omega,?_,?_⟩
     ·try ((try rw [e1]))
      repeat (first|exact LCov.nil|refine LCov.same trivial rfl ?_|refine LCov.same (lt_dec rfl) rfl ?_|refine LCov.same ⟨trivial,lt_dec rfl,trivial⟩ rfl ?_|refine LCov.same ⟨trivial,lt_dec rfl,lt_dec rfl,trivial⟩ rfl ?_|refine LCov.same ⟨trivial,lt_dec rfl,lt_dec rfl,lt_dec rfl,trivial⟩ rfl ?_|refine LCov.same ⟨trivial,trivial⟩ rfl ?_|refine LCov.cons trivial rfl (.of_eq (lst_len (by simp<;>omega))) ?_)
     ·(try rw [e1])
      repeat (first|exact HCov.nil|(refine HCov.cons (lt_dec rfl) ?_ rfl ?_ ?_;(first|exact HB.under_of rfl|exact PVs.under_pure _ _|(simp [HB.under,PVs.under,PV.under]));(first|exact HLe.refl _|exact HLe.vec (FLes.refl _) (by simp))))
    obtain ⟨q1,q2,q3,q4⟩:=hpk
    obtain ⟨b,hb⟩:∃ b:Nat,(pickK L c i).1=b:=⟨(pickK L c i).1.toNat,by omega⟩
    have hbl:b<L.length:=by omega
    have c1:=h i hi
    have c2:=h b hbl
    have m1:=mul_bd c1.2.2.1 c1.2.2.2 q3 q4
    have m2:=mul_bd (b:=(c i:Int)) c2.2.2.1 c2.2.2.2 (by omega) (by omega)
    have hcond:((pickK L c i).1<0∨(gi L i).cost*(pickK L c i).2<(gi L (pickK L c i).1.toNat).cost*c i)↔(gi L i).cost*(pickK L c i).2<(gi L b).cost*c i:=by
     rw [hb,Int.toNat_natCast]
     exact ⟨fun hh=>hh.elim (fun h1=>absurd h1 (by omega)) id,.inr⟩
    by_cases hlt:(gi L i).cost*(pickK L c i).2<(gi L b).cost*c i
    ·have e1:=pickK_t (L:=L) (c:=c) (i:=i) ⟨h0,hcond.2 hlt⟩
     generalize pickK L c i=pk at *
     obtain ⟨pb,pm⟩:=pk
     simp only at *
     subst hb
     repeat' (first
      |apply VWp.assoc
      |apply VWp.rseq
      |apply VWp.rseqD
      |apply VWp.region
      |apply VWp.exitSeq
      |apply QSeq.normal
      |apply QBlk.normal
      |apply QBlk.exit
      |apply QLoop.exit
      |apply VOps.nil
      |apply VOpsD.nil
      |apply VOps.one
      |(apply VOpsD.bar;decide +kernel)
      |(apply VOpsD.quietTake;rfl;rfl)
      |(apply VOpsD.guard;rfl;rfl)
      |(apply VVal.assign;rfl)
      |(apply VVal.move;rfl)
      |(apply VVal.add64;rfl;rfl;omega)
      |(apply VVal.mul64;rfl;rfl;omega)
      |(apply VVal.int;rfl;rfl;rfl)
      |(apply VVal.indexN;rfl;rfl;rfl;omega;rfl)
      |(apply VVal.load;rfl;rfl)
      |(apply VVal.pick_true;rfl;rfl)
      |(apply VVal.pick_false;rfl;rfl)
      |(apply VVal.lenF;rfl;rfl)
      |(apply VVal.fieldF;rfl;rfl)
      |(apply VWp.condSeq_dec;rfl)
      |(apply VWp.cond_dec;rfl)
      |(intro _;try (exfalso;omega)))
     all_goals try (exfalso;omega)
     all_goals try contradiction
     refine QLoop.normal ⟨by omega,?_,?_⟩
     ·try ((try rw [e1]))
      repeat (first|exact LCov.nil|refine LCov.same trivial rfl ?_|refine LCov.same (lt_dec rfl) rfl ?_|refine LCov.same ⟨trivial,lt_dec rfl,trivial⟩ rfl ?_|refine LCov.same ⟨trivial,lt_dec rfl,lt_dec rfl,trivial⟩ rfl ?_|refine LCov.same ⟨trivial,lt_dec rfl,lt_dec rfl,lt_dec rfl,trivial⟩ rfl ?_|refine LCov.same ⟨trivial,trivial⟩ rfl ?_|refine LCov.cons trivial rfl (.of_eq (lst_len (by simp<;>omega))) ?_)
     ·(try rw [e1])
      repeat (first|exact HCov.nil|(refine HCov.cons (lt_dec rfl) ?_ rfl ?_ ?_;(first|exact HB.under_of rfl|exact PVs.under_pure _ _|(simp [HB.under,PVs.under,PV.under]));(first|exact HLe.refl _|exact HLe.vec (FLes.refl _) (by simp))))
    ·have e1:=pickK_f (L:=L) (c:=c) (i:=i) (fun hh=>hlt (hcond.1 hh.2))
     generalize hpk2:pickK L c i=pk at *
     obtain ⟨pb,pm⟩:=pk
     simp only at *
     subst hb
     repeat' (first
      |apply VWp.assoc
      |apply VWp.rseq
      |apply VWp.rseqD
      |apply VWp.region
      |apply VWp.exitSeq
      |apply QSeq.normal
      |apply QBlk.normal
      |apply QBlk.exit
      |apply QLoop.exit
      |apply VWp.skip
      |apply VOps.nil
      |apply VOpsD.nil
      |apply VOps.one
      |(apply VOpsD.bar;decide +kernel)
      |(apply VOpsD.quietTake;rfl;rfl)
      |(apply VOpsD.guard;rfl;rfl)
      |(apply VVal.assign;rfl)
      |(apply VVal.move;rfl)
      |(apply VVal.add64;rfl;rfl;omega)
      |(apply VVal.mul64;rfl;rfl;omega)
      |(apply VVal.int;rfl;rfl;rfl)
      |(apply VVal.indexN;rfl;rfl;rfl;omega;rfl)
      |(apply VVal.load;rfl;rfl)
      |(apply VVal.pick_true;rfl;rfl)
      |(apply VVal.pick_false;rfl;rfl)
      |(apply VVal.lenF;rfl;rfl)
      |(apply VVal.fieldF;rfl;rfl)
      |(apply VWp.condSeq_dec;rfl)
      |(apply VWp.cond_dec;rfl)
      |(intro _;try (exfalso;omega)))
     all_goals try (exfalso;omega)
     all_goals try contradiction
     refine QLoop.normal ⟨by omega,?_,?_⟩
     ·try ((try rw [e1]))
      repeat (first|exact LCov.nil|refine LCov.same trivial rfl ?_|refine LCov.same (lt_dec rfl) rfl ?_|refine LCov.same ⟨trivial,lt_dec rfl,trivial⟩ rfl ?_|refine LCov.same ⟨trivial,lt_dec rfl,lt_dec rfl,trivial⟩ rfl ?_|refine LCov.same ⟨trivial,lt_dec rfl,lt_dec rfl,lt_dec rfl,trivial⟩ rfl ?_|refine LCov.same ⟨trivial,trivial⟩ rfl ?_|refine LCov.cons trivial rfl (.of_eq (lst_len (by simp<;>omega))) ?_)
     ·(try rw [e1])
      repeat (first|exact HCov.nil|(refine HCov.cons (lt_dec rfl) ?_ rfl ?_ ?_;(first|exact HB.under_of rfl|exact PVs.under_pure _ _|(simp [HB.under,PVs.under,PV.under]));(first|exact HLe.refl _|exact HLe.vec (FLes.refl _) (by simp))))
  ·have e2:(takeK L n (j+1)).length=(takeK L n j).length+1:=by rw [hts];simp
   generalize pickK L c L.length=pk at *
   obtain ⟨pb,pm⟩:=pk
   simp only at *
   rw [hts,List.length_append,List.length_singleton] at hm
   repeat' (first
    |(refine VOps.atOp 6 ?_;refine VOps.ghost (Ghost.freeze 24 rfl rfl) ?_)
    |apply VWp.assoc
    |apply VWp.rseq
    |apply VWp.region
    |apply VWp.exitSeq
    |apply QSeq.normal
    |apply QBlk.normal
    |apply QBlk.exit
    |apply QLoop.exit
    |apply VOps.nil
    |apply VOps.one
    |(apply VVal.append1 (a:=pb);rfl;rfl;rfl;rfl;rfl;rfl;rfl;rfl;(intro _ h;cases h);rfl;rfl;rfl;decide;decide;(first|omega|(simp only [List.length_take,List.length_drop,List.length_append,List.length_singleton,List.length_cons,List.length_nil]<;>omega)))
    |(apply VVal.readV [0] hm;rfl;rfl;exact .of_eq rfl;exact PVs.under_of rfl;exact HUnder_of rfl;(repeat (first|exact trivial|refine ⟨⟨_,rfl,.of_eq rfl⟩,?_⟩));decide;(intro _ hb;simp at hb<;>omega);rfl;rfl)
    |(apply VVal.assign;rfl)
    |(apply VVal.move;rfl)
    |(apply VVal.int;rfl;rfl;rfl)
    |(apply VVal.lenF;rfl;rfl)
    |(apply VVal.buildSlice;rfl;rfl;rfl;decide;rfl;rfl;rfl)
    |(apply VWp.condSeq_dec;rfl)
    |(intro _;try (exfalso;omega)))
   all_goals try (exfalso;omega)
   refine QLoop.normal ⟨by omega,?_,?_⟩
   ·try ((try rw [e2])<;>(try rw [hts]))
    repeat (first|exact LCov.nil|refine LCov.same trivial rfl ?_|refine LCov.same (lt_dec rfl) rfl ?_|refine LCov.same ⟨trivial,lt_dec rfl,trivial⟩ rfl ?_|refine LCov.same ⟨trivial,lt_dec rfl,lt_dec rfl,trivial⟩ rfl ?_|refine LCov.same ⟨trivial,lt_dec rfl,lt_dec rfl,lt_dec rfl,trivial⟩ rfl ?_|refine LCov.same ⟨trivial,trivial⟩ rfl ?_|refine LCov.cons trivial rfl (.of_eq (lst_len (by simp<;>omega))) ?_)
   ·(try rw [e2])<;>(try rw [hts])
    repeat (first|exact HCov.nil|(refine HCov.cons (lt_dec rfl) ?_ rfl ?_ ?_;(first|exact HB.under_of rfl|exact PVs.under_pure _ _|(simp [HB.under,PVs.under,PV.under]));(first|exact HLe.refl _|exact HLe.vec (FLes.refl _) (by simp))))
 ·rw [hJ]
  have htl:=hlen J
  have hin2:=hin J (Nat.le_refl _)
  generalize takeK L n J=T at *
  repeat' (first
   |(refine VWp.at 18 ?_;refine VWp.ghost (Ghost.freeze 5 rfl rfl) ?_;first|apply VWp.rseq|apply VWp.rseqD)
   |apply VWp.assoc
   |apply VWp.rseq
   |apply VWp.exitSeq
   |apply VWp.blockSeq
   |apply QSeq.normal
   |apply QBlk.exit
   |apply QLoop.exit
   |apply VOps.nil
   |apply VOps.one
   |(apply VVal.assign;rfl)
   |(apply VVal.move;rfl)
   |(apply VVal.int;rfl;rfl;rfl)
   |(apply VVal.lenF;rfl;rfl)
   |(apply VWp.condSeq_false;rfl))
  all_goals try (exfalso;omega)
  all_goals try contradiction
  refine VWp.ghost (Ghost.adopt 12 3 rfl) ?_
  apply VWp.loopR (L.length) [(1,_),(5,_)] [] (fun k r=>(13,.p (.int .i64 (k:Int)))::(12,.vec 2 (outK T k).length 0 (outK T k).length)::r) (fun k r=>(2,.vec 3 (cells (outK T k)) (outK T k).length true)::r) 3
  ·omega
  ·omega
  ·repeat (first|exact LCov.nil|(refine LCov.eq rfl ?_ ?_;(first|exact PV.under_of rfl|(simp [PV.under,PVs.under];done)))|refine LCov.cons trivial rfl (.of_eq (lst_len (by simp<;>omega))) ?_)
  ·repeat (first|exact HCov.nil|(refine HCov.eq rfl (lt_dec rfl) ?_ ?_;(first|exact HB.under_of rfl|exact PVs.under_pure _ _|(simp [HB.under,PVs.under,PV.under];done)))|(refine HCov.cons (lt_dec rfl) ?_ rfl ?_ ?_;(first|exact trivial|exact PVs.under_pure _ _|(simp [HB.under,PVs.under,PV.under]));(first|exact HLe.refl _|exact HLe.vec (FLes.refl _) (by simp))))
  ·intro k hk
   have e1:=outK_succ T k
   have e3:=outK_len T k
   have hh:=has_spec 3 T k (by omega)
   by_cases hmem:(k:Int)∈T
   ·rw [if_pos hmem] at e1
    rw [decide_eq_true hmem] at hh
    have e2:(outK T (k+1)).length=(outK T k).length+1:=by rw [e1];simp
    repeat' (first
     |apply VWp.assoc
     |apply VWp.rseq
     |apply VWp.region
     |apply VWp.skipSeq
     |apply VWp.blockSeq
     |apply QSeq.normal
     |apply QBlk.normal
     |apply VOps.nil
     |apply VOps.one
     |(apply VVal.fn;rfl;rfl;exact hh;intro _;rfl)
     |(apply VVal.append1 (a:=(k:Int));rfl;rfl;rfl;rfl;rfl;rfl;rfl;rfl;(intro _ h;cases h);rfl;rfl;rfl;decide;decide;(first|omega|(simp only [List.length_take,List.length_drop,List.length_append,List.length_singleton,List.length_cons,List.length_nil]<;>omega)))
     |(apply VVal.assign;rfl)
     |(apply VVal.move;rfl)
     |(apply VVal.add64;rfl;rfl;omega)
     |(apply VVal.int;rfl;rfl;rfl)
     |(apply VVal.lenF;rfl;rfl)
     |(apply VVal.buildSlice;rfl;rfl;rfl;decide;rfl;rfl;rfl)
     |(apply VWp.condSeq_dec;rfl)
     |(apply VWp.cond_true;rfl)
     |(intro _;try (exfalso;omega)))
    all_goals try (exfalso;omega)
    all_goals try contradiction
    refine QLoop.normal ⟨by omega,?_,?_⟩
    ·try ((try rw [e2])<;>(try rw [e1]))
     repeat (first|exact LCov.nil|refine LCov.same trivial rfl ?_|refine LCov.same (lt_dec rfl) rfl ?_|refine LCov.same ⟨trivial,lt_dec rfl,trivial⟩ rfl ?_|refine LCov.same ⟨trivial,lt_dec rfl,lt_dec rfl,trivial⟩ rfl ?_|refine LCov.same ⟨trivial,lt_dec rfl,lt_dec rfl,lt_dec rfl,trivial⟩ rfl ?_|refine LCov.same ⟨trivial,trivial⟩ rfl ?_|refine LCov.cons trivial rfl (.of_eq (lst_len (by simp<;>omega))) ?_)
    ·(try rw [e2])<;>(try rw [e1])
     repeat (first|exact HCov.nil|(refine HCov.cons (lt_dec rfl) ?_ rfl ?_ ?_;(first|exact HB.under_of rfl|exact PVs.under_pure _ _|(simp [HB.under,PVs.under,PV.under]));(first|exact HLe.refl _|exact HLe.vec (FLes.refl _) (by simp))))
   ·rw [if_neg hmem] at e1
    rw [decide_eq_false hmem] at hh
    repeat' (first
     |apply VWp.assoc
     |apply VWp.rseq
     |apply VWp.region
     |apply VWp.skipSeq
     |apply VWp.blockSeq
     |apply QSeq.normal
     |apply QBlk.normal
     |apply VWp.skip
     |apply VOps.nil
     |apply VOps.one
     |(apply VVal.fn;rfl;rfl;exact hh;intro _;rfl)
     |(apply VVal.assign;rfl)
     |(apply VVal.move;rfl)
     |(apply VVal.add64;rfl;rfl;omega)
     |(apply VVal.int;rfl;rfl;rfl)
     |(apply VVal.lenF;rfl;rfl)
     |(apply VWp.condSeq_dec;rfl)
     |(apply VWp.cond_false;rfl)
     |(intro _;try (exfalso;omega)))
    all_goals try (exfalso;omega)
    all_goals try contradiction
    refine QLoop.normal ⟨by omega,?_,?_⟩
    ·try ((try rw [e1]))
     repeat (first|exact LCov.nil|refine LCov.same trivial rfl ?_|refine LCov.same (lt_dec rfl) rfl ?_|refine LCov.same ⟨trivial,lt_dec rfl,trivial⟩ rfl ?_|refine LCov.same ⟨trivial,lt_dec rfl,lt_dec rfl,trivial⟩ rfl ?_|refine LCov.same ⟨trivial,lt_dec rfl,lt_dec rfl,lt_dec rfl,trivial⟩ rfl ?_|refine LCov.same ⟨trivial,trivial⟩ rfl ?_|refine LCov.cons trivial rfl (.of_eq (lst_len (by simp<;>omega))) ?_)
    ·(try rw [e1])
     repeat (first|exact HCov.nil|(refine HCov.cons (lt_dec rfl) ?_ rfl ?_ ?_;(first|exact HB.under_of rfl|exact PVs.under_pure _ _|(simp [HB.under,PVs.under,PV.under]));(first|exact HLe.refl _|exact HLe.vec (FLes.refl _) (by simp))))
  ·repeat' (first
    |apply VWp.assoc
    |apply VWp.rseq
    |apply VWp.exitSeq
    |apply QSeq.normal
    |apply QBlk.exit
    |apply QLoop.exit
    |apply VWp.ret
    |apply VOps.nil
    |apply VOps.one
    |(apply VVal.assign;rfl)
    |(apply VVal.move;rfl)
    |(apply VVal.int;rfl;rfl;rfl)
    |(apply VVal.lenF;rfl;rfl)
    |(apply VWp.condSeq_dec;rfl)
    |(intro _;try (exfalso;omega)))
   all_goals first|(exfalso;omega)|exact DoneV.ret rfl rfl rfl rfl
end
end Go.Proofs.YtmfnchgkffhpfaaDoor
