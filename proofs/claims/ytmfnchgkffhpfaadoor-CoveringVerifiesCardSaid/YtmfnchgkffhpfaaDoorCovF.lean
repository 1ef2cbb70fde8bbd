/-
  What the reference's All computes. Conditions: in each statement.
-/
import Derived.Test.YtmfnchgkffhpfaaDoorCovE
set_option linter.unusedSimpArgs false
set_option linter.unusedVariables false
set_option linter.unusedSectionVars false
namespace Go.Proofs.YtmfnchgkffhpfaaDoor
open Go Go.Am Go.Vm
attribute [local irreducible] VVal VOps VOpsD VWp VCalls VFun VFunV QSeq QBlk QLoop Vm.Done DoneV
instance:Enc (List Int):={ default:=[],enc:=fun l=>[.lst 3 (cells l) l.length],size:=1,len:=fun _=>rfl }
theorem chosenK_mem (m:Nat):∀ k x,x∈chosenK m k→∃ j:Nat,j<k∧x=j
 |0,x,h=>by simp [chosenK] at h
 |k+1,x,h=>by
  simp only [chosenK] at h
  split at h
  ·rcases List.mem_append.1 h with h|h
   ·obtain ⟨j,h1,h2⟩:=chosenK_mem m k x h;exact ⟨j,by omega,h2⟩
   ·exact ⟨k,by omega,by simpa using h⟩
  ·obtain ⟨j,h1,h2⟩:=chosenK_mem m k x h;exact ⟨j,by omega,h2⟩
theorem gi_mem {α:Type} [Inhabited α] {l:List α} {i:Nat} (h:i<l.length):gi l i∈l:=by
 simp only [gi,List.getElem?_eq_getElem h,Option.getD_some];exact List.getElem_mem h
theorem chosenK_gi (m k i:Nat) (h:i<(chosenK m k).length):0≤gi (chosenK m k) i∧gi (chosenK m k) i<k:=by
 obtain ⟨j,h1,h2⟩:=chosenK_mem m k _ (gi_mem h)
 omega
def posK (out:List (List Int)) (c:List Int):Nat→Nat
 |0=>0
 |k+1=>if lessF c (gi out k) 0 then posK out c k else k+1
theorem posK_le (out:List (List Int)) (c:List Int):∀ k,posK out c k≤k
 |0=>Nat.le_refl _
 |k+1=>by
  have:=posK_le out c k
  simp only [posK]
  split<;>omega
def allStep (n:Nat) (L:List CSet) (s:List (List Int)×Int) (m:Nat):List (List Int)×Int :=
 let c:=chosenK m L.length
 let cost:=costK L c c.length
 if (missK L c n).length>0∨s.1.length>0∧cost>s.2 then s
 else
  let out:=if s.1.length>0∧cost<s.2 then [] else s.1
  let at':=posK out c out.length
  (out.take at'++[c]++out.drop at',cost)
def allK (n:Nat) (L:List CSet):Nat→List (List Int)×Int
 |0=>([],0)
 |k+1=>allStep n L (allK n L k) k
theorem allK_len (n:Nat) (L:List CSet):∀ k,(allK n L k).1.length≤k
 |0=>by simp [allK]
 |k+1=>by
  have:=allK_len n L k
  simp only [allK,allStep]
  split
  ·omega
  ·simp only [List.length_append,List.length_take,List.length_drop,List.length_singleton]
   split<;>simp<;>omega
theorem allK_els (n:Nat) (L:List CSet):∀ k l,l∈(allK n L k).1→l.length≤L.length
 |0,l,h=>by simp [allK] at h
 |k+1,l,h=>by
  simp only [allK,allStep] at h
  split at h
  ·exact allK_els n L k l h
  ·have hsub:∀ (x:List Int),x∈(if (allK n L k).1.length>0∧costK L (chosenK k L.length) (chosenK k L.length).length<(allK n L k).2 then [] else (allK n L k).1)→x.length≤L.length:=by
    intro x hx
    split at hx
    ·simp at hx
    ·exact allK_els n L k x hx
   simp only [List.append_assoc,List.mem_append,List.mem_singleton] at h
   rcases h with h|h|h
   ·exact hsub l (List.mem_of_mem_take h)
   ·rw [h];exact chosenK_len _ _
   ·exact hsub l (List.mem_of_mem_drop h)
set_option maxRecDepth 100000 in
set_option maxHeartbeats 1000000 in
theorem rall_spec (e:TypeId) (n:Nat) (L:List CSet) (hn:n<1000) (hL:L.length≤12) (hc:∀ i,i<L.length→0≤(gi L i).cost∧(gi L i).cost≤1000000) (h:∀ i,i<L.length→(gi L i).els.length<1000) :
 VFun env 13 [.int .i64 n,.lst e (cells L) L.length] (.p (.lst 25 (cells (allK n L (2 ^ L.length)).1) (allK n L (2 ^ L.length)).1.length)):=by
 have hpow:2 ^ L.length≤4096:=Nat.le_trans (Nat.pow_le_pow_right (by omega) hL) (by decide)
 refine VFun.enter (env_none (by decide)) Tryd.func13 rfl (by kernel_rfl) (by simp [Tryd.ntmps13]) ?_
 repeat' (first
  |apply VWp.assoc
  |apply VWp.rseq
  |apply VWp.blockSeq
  |apply VOps.nil
  |apply VOps.one
  |(apply VVal.assign;rfl))
 refine VWp.ghost (Ghost.le 5 rfl (.p (.nil 25))) ?_
 refine VWp.loopQ (fun k:Nat=>[(0,.p (.int .i64 n)),(1,lst e L),(5,lst 25 (allK n L k).1),(6,.p (.int .i64 (allK n L k).2)),(7,.p (.int .i64 k))]) (fun _=>[]) 0 (fun k=>k≤2 ^ L.length) (fun k=>2 ^ L.length-k) 0 (by omega) (Nat.zero_le _) ⟨by omega,?_,?_⟩ ?_
 ·repeat (first|exact LCov.nil|refine LCov.same trivial rfl ?_|refine LCov.same (lt_dec rfl) rfl ?_|refine LCov.same ⟨trivial,lt_dec rfl,lt_dec rfl,lt_dec rfl,trivial⟩ rfl ?_|refine LCov.same ⟨trivial,lt_dec rfl,lt_dec rfl,trivial⟩ rfl ?_|refine LCov.same ⟨trivial,trivial⟩ rfl ?_|refine LCov.cons trivial rfl (.of_eq (lst_len (by simp<;>omega))) ?_)
 ·repeat (first|exact HCov.nil|(refine HCov.cons (lt_dec rfl) ?_ rfl ?_ ?_;(first|exact trivial|exact PVs.under_pure _ _|(simp [HB.under,PVs.under,PV.under]));(first|exact HLe.refl _|exact HLe.vec (FLes.refl _) (by simp))))
 intro k hk
 have hlen:=allK_len n L k
 have hels:=allK_els n L k
 generalize hs:allK n L k=s at *
 obtain ⟨out,best⟩:=s
 simp only at hlen hels
 rcases Nat.lt_or_ge k (2 ^ L.length) with hlt|hge
 ·have hcl:=chosenK_len k L.length
  have hcg:=chosenK_gi k L.length
  repeat' (first
   |(refine VWp.at 7 ?_;refine VWp.ghost (Ghost.freeze 8 rfl rfl) ?_;first|apply VWp.rseq|apply VWp.rseqD)
   |(refine VWp.at 12 ?_;refine VWp.ghost (Ghost.le 5 rfl (.p (.nil 25))) ?_;first|apply VWp.rseq|apply VWp.rseqD)
   |apply VWp.assoc
   |apply VWp.rseq
   |apply VWp.region
   |apply VWp.skipSeq
   |apply VWp.exitSeq
   |apply VWp.blockSeq
   |apply QSeq.normal
   |apply QBlk.exit
   |apply VOps.nil
   |apply VOps.one
   |(apply VOps.take;rfl;rfl)
   |(apply VOps.drop;rfl;rfl;rfl)
   |(apply VOps.guard;rfl;rfl)
   |(apply VOps.dropU;rfl;rfl)
   |(apply VVal.fv;rfl;rfl;exact chosen_spec k L.length hlt (by omega))
   |(apply VVal.fn;rfl;rfl;exact rcost_spec _ _ _ _ (by omega) (by omega) hc hcg;intro _;rfl)
   |(apply VVal.fv;rfl;rfl;exact rmissing_spec _ _ _ _ _ (by omega) (by omega) (by omega) h hcg)
   |(apply VVal.assign;rfl)
   |(apply VVal.move;rfl)
   |(apply VVal.add64;rfl;rfl;omega)
   |(apply VVal.int;rfl;rfl;rfl)
   |(apply VVal.pick_true;rfl;rfl)
   |(apply VVal.pick_false;rfl;rfl)
   |(apply VVal.lenF;rfl;rfl)
   |(apply VVal.lenV;rfl;rfl;rfl)
   |(apply VVal.shlOne;rfl;rfl;omega)
   |(apply VWp.condSeq_true;rfl)
   |(apply VWp.condSeq_false;rfl)
   |(apply VWp.condSeq_dec;rfl)
   |(intro _;try (exfalso;omega)))
  ·rename_i h1 h2
   have e1:allK n L (k+1)=(out,best):=by simp only [allK,hs,allStep];rw [if_pos (.inl (by omega))]
   refine QLoop.normal ⟨k+1,by omega,by omega,⟨by omega,?_,?_⟩⟩
   ·rw [e1];repeat (first|exact LCov.nil|refine LCov.same trivial rfl ?_|refine LCov.same (lt_dec rfl) rfl ?_|refine LCov.same ⟨trivial,lt_dec rfl,lt_dec rfl,lt_dec rfl,trivial⟩ rfl ?_|refine LCov.same ⟨trivial,lt_dec rfl,lt_dec rfl,trivial⟩ rfl ?_|refine LCov.same ⟨trivial,trivial⟩ rfl ?_|refine LCov.cons trivial rfl (.of_eq (lst_len (by simp<;>omega))) ?_)
   ·repeat (first|exact HCov.nil|(refine HCov.cons (lt_dec rfl) ?_ rfl ?_ ?_;(first|exact trivial|exact PVs.under_pure _ _|(simp [HB.under,PVs.under,PV.under]));(first|exact HLe.refl _|exact HLe.vec (FLes.refl _) (by simp))))
  ·rename_i h1 h2 h3 h4
   have e1:allK n L (k+1)=(out,best):=by simp only [allK,hs,allStep];rw [if_pos (.inr ⟨by first|omega|(simp only at *;omega),by first|omega|(simp only at *;omega)⟩)]
   refine QLoop.normal ⟨k+1,by omega,by omega,⟨by omega,?_,?_⟩⟩
   ·rw [e1];repeat (first|exact LCov.nil|refine LCov.same trivial rfl ?_|refine LCov.same (lt_dec rfl) rfl ?_|refine LCov.same ⟨trivial,lt_dec rfl,lt_dec rfl,lt_dec rfl,trivial⟩ rfl ?_|refine LCov.same ⟨trivial,lt_dec rfl,lt_dec rfl,trivial⟩ rfl ?_|refine LCov.same ⟨trivial,trivial⟩ rfl ?_|refine LCov.cons trivial rfl (.of_eq (lst_len (by simp<;>omega))) ?_)
   ·repeat (first|exact HCov.nil|(refine HCov.cons (lt_dec rfl) ?_ rfl ?_ ?_;(first|exact trivial|exact PVs.under_pure _ _|(simp [HB.under,PVs.under,PV.under]));(first|exact HLe.refl _|exact HLe.vec (FLes.refl _) (by simp))))
  ·
   have hol:([]:List (List Int)).length≤k:=by first|omega|(simp;done)
   have hpl:=posK_le [] (chosenK k L.length)
   have e0:allK n L (k+1)=(([]:List (List Int)).take (posK [] (chosenK k L.length) ([]:List (List Int)).length)++[chosenK k L.length]++([]:List (List Int)).drop (posK [] (chosenK k L.length) ([]:List (List Int)).length),costK L (chosenK k L.length) (chosenK k L.length).length):=by
    simp only [allK,hs,allStep]
    rw [if_neg (by first|omega|(simp only at *;omega)),if_pos (by first|omega|(simp only at *;omega))]
   refine VWp.loopQ (fun j:Nat=>[(0,.p (.int .i64 n)),(1,lst e L),(5,lst 25 ([]:List (List Int))),(6,.p (.int .i64 (costK L (chosenK k L.length) (chosenK k L.length).length))),(7,.p (.int .i64 k)),(8,lst 3 (chosenK k L.length)),(10,.p (.int .i64 j))]) (fun _=>[]) 0
    (fun j=>j≤([]:List (List Int)).length∧posK [] (chosenK k L.length) j=posK [] (chosenK k L.length) ([]:List (List Int)).length) (fun j=>j) ([]:List (List Int)).length (by omega) ⟨by omega,rfl⟩ ⟨by omega,?_,?_⟩ ?_
   ·repeat (first|exact LCov.nil|refine LCov.same trivial rfl ?_|refine LCov.same (lt_dec rfl) rfl ?_|refine LCov.same ⟨trivial,lt_dec rfl,lt_dec rfl,lt_dec rfl,trivial⟩ rfl ?_|refine LCov.same ⟨trivial,lt_dec rfl,lt_dec rfl,trivial⟩ rfl ?_|refine LCov.same ⟨trivial,trivial⟩ rfl ?_|refine LCov.cons trivial rfl (.of_eq (lst_len (by simp<;>omega))) ?_)
   ·repeat (first|exact HCov.nil|(refine HCov.cons (lt_dec rfl) ?_ rfl ?_ ?_;(first|exact trivial|exact PVs.under_pure _ _|(simp [HB.under,PVs.under,PV.under]));(first|exact HLe.refl _|exact HLe.vec (FLes.refl _) (by simp))))
   rintro j ⟨hj,hr⟩
   have hgl:0<j→(gi ([]:List (List Int)) (j-1)).length≤L.length:=fun h0=>by
    first|exact hels _ (gi_mem (by omega))|exact absurd hj (by simp;omega)
   have hps:0<j→posK ([]:List (List Int)) (chosenK k L.length) j=if lessF (chosenK k L.length) (gi [] (j-1)) 0 then posK [] (chosenK k L.length) (j-1) else j:=fun h0=>by
    obtain ⟨i,rfl⟩:∃ i,j=i+1:=⟨j-1,by omega⟩
    simp only [posK,Nat.add_sub_cancel]
   have hp0:j=0→posK ([]:List (List Int)) (chosenK k L.length) j=0:=fun h0=>by rw [h0];rfl
   obtain rfl:j=0:=by simpa using hj
   repeat' (first
    |(refine VWp.at 16 ?_;refine VWp.ghost (Ghost.adopt 11 25 rfl) ?_;first|apply VWp.rseq|apply VWp.rseqD)
    |(refine VWp.atEnd 5 ?_;refine VWp.ghost (Ghost.freeze 5 rfl rfl) ?_;first|apply VWp.region|apply VWp.regionD)
    |apply VWp.assoc
    |apply VWp.rseq
    |apply VWp.region
    |apply VWp.exitSeq
    |apply QSeq.normal
    |apply QBlk.normal
    |apply QBlk.exit
    |apply QLoop.exit
    |apply VOps.nil
    |apply VOps.one
    |(apply VOps.drop;rfl;rfl;rfl)
    |(apply VVal.append1 (a:=(chosenK k L.length));rfl;rfl;rfl;rfl;rfl;rfl;rfl;rfl;(intro _ h;cases h);rfl;rfl;rfl;decide;decide;(first|omega|(simp only [List.length_take,List.length_drop,List.length_append,List.length_singleton,List.length_cons,List.length_nil]<;>omega)))
    |(apply VVal.assign;rfl)
    |(apply VVal.move;rfl)
    |(apply VVal.add64;rfl;rfl;omega)
    |(apply VVal.int;rfl;rfl;rfl)
    |(apply VVal.pick_false;rfl;rfl)
    |(apply VVal.buildSlice;rfl;rfl;rfl;decide;rfl;rfl;rfl)
    |(apply VVal.appendL0;rfl;rfl;rfl;(first|rfl|omega|(simp only [List.length_take,List.length_drop,List.length_append,List.length_singleton,List.length_cons,List.length_nil]<;>omega));rfl;rfl;(intro _ h;cases h);rfl;rfl;rfl;decide;decide;(first|omega|(simp only [List.length_take,List.length_drop,List.length_append,List.length_singleton,List.length_cons,List.length_nil]<;>omega)))
    |(apply VVal.appendL;rfl;rfl;rfl;(first|rfl|omega|(simp only [List.length_take,List.length_drop,List.length_append,List.length_singleton,List.length_cons,List.length_nil]));(first|rfl|omega|(simp only [List.length_take,List.length_drop,List.length_append,List.length_singleton,List.length_cons,List.length_nil]<;>omega));rfl;rfl;(intro _ h;cases h);rfl;rfl;rfl;decide;decide;(first|omega|(simp only [List.length_take,List.length_drop,List.length_append,List.length_singleton,List.length_cons,List.length_nil]<;>omega)))
    |(apply VVal.sliceTo;rfl;rfl;rfl;rfl;rfl;rfl;omega)
    |(apply VVal.sliceFrom;rfl;rfl;rfl;rfl;rfl;rfl;omega)
    |(apply VWp.condSeq_false;rfl))
   ·have hp:posK ([]:List (List Int)) (chosenK k L.length) ([]:List (List Int)).length=0:=rfl
    refine QLoop.normal ⟨k+1,by omega,by omega,⟨by omega,?_,?_⟩⟩
    ·rw [e0,hp];repeat (first|exact LCov.nil|refine LCov.same trivial rfl ?_|refine LCov.same (lt_dec rfl) rfl ?_|refine LCov.same ⟨trivial,lt_dec rfl,lt_dec rfl,lt_dec rfl,trivial⟩ rfl ?_|refine LCov.same ⟨trivial,lt_dec rfl,lt_dec rfl,trivial⟩ rfl ?_|refine LCov.same ⟨trivial,trivial⟩ rfl ?_|refine LCov.cons trivial rfl (.of_eq (lst_len (by simp<;>omega))) ?_)
    ·repeat (first|exact HCov.nil|(refine HCov.cons (lt_dec rfl) ?_ rfl ?_ ?_;(first|exact trivial|exact PVs.under_pure _ _|(simp [HB.under,PVs.under,PV.under]));(first|exact HLe.refl _|exact HLe.vec (FLes.refl _) (by simp))))
  ·
   have hol:(out:List (List Int)).length≤k:=by first|omega|(simp;done)
   have hpl:=posK_le out (chosenK k L.length)
   have e0:allK n L (k+1)=((out:List (List Int)).take (posK out (chosenK k L.length) (out:List (List Int)).length)++[chosenK k L.length]++(out:List (List Int)).drop (posK out (chosenK k L.length) (out:List (List Int)).length),costK L (chosenK k L.length) (chosenK k L.length).length):=by
    simp only [allK,hs,allStep]
    rw [if_neg (by first|omega|(simp only at *;omega)),if_neg (by first|omega|(simp only at *;omega))]
   refine VWp.loopQ (fun j:Nat=>[(0,.p (.int .i64 n)),(1,lst e L),(5,lst 25 (out:List (List Int))),(6,.p (.int .i64 (costK L (chosenK k L.length) (chosenK k L.length).length))),(7,.p (.int .i64 k)),(8,lst 3 (chosenK k L.length)),(10,.p (.int .i64 j))]) (fun _=>[]) 0
    (fun j=>j≤(out:List (List Int)).length∧posK out (chosenK k L.length) j=posK out (chosenK k L.length) (out:List (List Int)).length) (fun j=>j) (out:List (List Int)).length (by omega) ⟨by omega,rfl⟩ ⟨by omega,?_,?_⟩ ?_
   ·repeat (first|exact LCov.nil|refine LCov.same trivial rfl ?_|refine LCov.same (lt_dec rfl) rfl ?_|refine LCov.same ⟨trivial,lt_dec rfl,lt_dec rfl,lt_dec rfl,trivial⟩ rfl ?_|refine LCov.same ⟨trivial,lt_dec rfl,lt_dec rfl,trivial⟩ rfl ?_|refine LCov.same ⟨trivial,trivial⟩ rfl ?_|refine LCov.cons trivial rfl (.of_eq (lst_len (by simp<;>omega))) ?_)
   ·repeat (first|exact HCov.nil|(refine HCov.cons (lt_dec rfl) ?_ rfl ?_ ?_;(first|exact trivial|exact PVs.under_pure _ _|(simp [HB.under,PVs.under,PV.under]));(first|exact HLe.refl _|exact HLe.vec (FLes.refl _) (by simp))))
   rintro j ⟨hj,hr⟩
   have hgl:0<j→(gi (out:List (List Int)) (j-1)).length≤L.length:=fun h0=>by
    first|exact hels _ (gi_mem (by omega))|exact absurd hj (by simp;omega)
   have hps:0<j→posK (out:List (List Int)) (chosenK k L.length) j=if lessF (chosenK k L.length) (gi out (j-1)) 0 then posK out (chosenK k L.length) (j-1) else j:=fun h0=>by
    obtain ⟨i,rfl⟩:∃ i,j=i+1:=⟨j-1,by omega⟩
    simp only [posK,Nat.add_sub_cancel]
   have hp0:j=0→posK (out:List (List Int)) (chosenK k L.length) j=0:=fun h0=>by rw [h0];rfl
   repeat' (first
    |(refine VWp.at 16 ?_;refine VWp.ghost (Ghost.adopt 11 25 rfl) ?_;first|apply VWp.rseq|apply VWp.rseqD)
    |(refine VWp.atEnd 5 ?_;refine VWp.ghost (Ghost.freeze 5 rfl rfl) ?_;first|apply VWp.region|apply VWp.regionD)
    |apply VWp.assoc
    |apply VWp.rseq
    |apply VWp.region
    |apply VWp.skipSeq
    |apply VWp.exitSeq
    |apply QSeq.normal
    |apply QBlk.normal
    |apply QBlk.exit
    |apply QLoop.exit
    |apply VWp.blockQ
    |apply VOps.nil
    |apply VOps.one
    |(apply VOps.take;rfl;rfl)
    |(apply VOps.drop;rfl;rfl;rfl)
    |(apply VOps.guard;rfl;rfl)
    |(apply VVal.fn;rfl;rfl;exact less_spec _ _ _ _ (by omega) (Nat.lt_of_le_of_lt (hgl (by omega)) (by omega));intro _;rfl)
    |(apply VVal.append1 (a:=(chosenK k L.length));rfl;rfl;rfl;rfl;rfl;rfl;rfl;rfl;(intro _ h;cases h);rfl;rfl;rfl;decide;decide;(first|omega|(simp only [List.length_take,List.length_drop,List.length_append,List.length_singleton,List.length_cons,List.length_nil]<;>omega)))
    |(apply VVal.assign;rfl)
    |(apply VVal.move;rfl)
    |(apply VVal.add64;rfl;rfl;omega)
    |(apply VVal.sub64;rfl;rfl;omega)
    |(apply VVal.int;rfl;rfl;rfl)
    |(apply VVal.indexP;rfl;rfl;rfl;omega;omega;rfl)
    |(apply VVal.load;rfl;rfl)
    |(apply VVal.pick_true;rfl;rfl)
    |(apply VVal.pick_false;rfl;rfl)
    |(apply VVal.buildSlice;rfl;rfl;rfl;decide;rfl;rfl;rfl)
    |(apply VVal.appendL0;rfl;rfl;rfl;(first|rfl|omega|(simp only [List.length_take,List.length_drop,List.length_append,List.length_singleton,List.length_cons,List.length_nil]<;>omega));rfl;rfl;(intro _ h;cases h);rfl;rfl;rfl;decide;decide;(first|omega|(simp only [List.length_take,List.length_drop,List.length_append,List.length_singleton,List.length_cons,List.length_nil]<;>omega)))
    |(apply VVal.appendL;rfl;rfl;rfl;(first|rfl|omega|(simp only [List.length_take,List.length_drop,List.length_append,List.length_singleton,List.length_cons,List.length_nil]));(first|rfl|omega|(simp only [List.length_take,List.length_drop,List.length_append,List.length_singleton,List.length_cons,List.length_nil]<;>omega));rfl;rfl;(intro _ h;cases h);rfl;rfl;rfl;decide;decide;(first|omega|(simp only [List.length_take,List.length_drop,List.length_append,List.length_singleton,List.length_cons,List.length_nil]<;>omega)))
    |(apply VVal.sliceTo;rfl;rfl;rfl;rfl;rfl;rfl;omega)
    |(apply VVal.sliceFrom;rfl;rfl;rfl;rfl;rfl;rfl;omega)
    |(apply VWp.condSeq_false;rfl)
    |(apply VWp.condSeq;rfl)
    |(intro _;try (exfalso;omega)))
   ·rename_i hx1 hx2
    refine QLoop.normal ⟨j-1,⟨by omega,?_⟩,by omega,⟨by omega,?_,?_⟩⟩
    ·rw [← hr,hps (by omega),if_pos hx2]
    ·rw [show ((j-1:Nat):Int)=(j:Int)-1 by omega];repeat (first|exact LCov.nil|refine LCov.same trivial rfl ?_|refine LCov.same (lt_dec rfl) rfl ?_|refine LCov.same ⟨trivial,lt_dec rfl,lt_dec rfl,lt_dec rfl,trivial⟩ rfl ?_|refine LCov.same ⟨trivial,lt_dec rfl,lt_dec rfl,trivial⟩ rfl ?_|refine LCov.same ⟨trivial,trivial⟩ rfl ?_|refine LCov.cons trivial rfl (.of_eq (lst_len (by simp<;>omega))) ?_)
    ·repeat (first|exact HCov.nil|(refine HCov.cons (lt_dec rfl) ?_ rfl ?_ ?_;(first|exact trivial|exact PVs.under_pure _ _|(simp [HB.under,PVs.under,PV.under]));(first|exact HLe.refl _|exact HLe.vec (FLes.refl _) (by simp))))
   ·have hp:posK out (chosenK k L.length) out.length=j:=by rw [← hr,hps (by omega),if_neg (by simp_all)]
    refine QLoop.normal ⟨k+1,by omega,by omega,⟨by omega,?_,?_⟩⟩
    ·rw [e0,hp];repeat (first|exact LCov.nil|refine LCov.same trivial rfl ?_|refine LCov.same (lt_dec rfl) rfl ?_|refine LCov.same ⟨trivial,lt_dec rfl,lt_dec rfl,lt_dec rfl,trivial⟩ rfl ?_|refine LCov.same ⟨trivial,lt_dec rfl,lt_dec rfl,trivial⟩ rfl ?_|refine LCov.same ⟨trivial,trivial⟩ rfl ?_|refine LCov.cons trivial rfl (.of_eq (lst_len (by simp<;>omega))) ?_)
    ·repeat (first|exact HCov.nil|(refine HCov.cons (lt_dec rfl) ?_ rfl ?_ ?_;(first|exact trivial|exact PVs.under_pure _ _|(simp [HB.under,PVs.under,PV.under]));(first|exact HLe.refl _|exact HLe.vec (FLes.refl _) (by simp))))
   ·have hp:posK out (chosenK k L.length) out.length=j:=by rw [← hr,hp0 (by omega)];omega
    refine QLoop.normal ⟨k+1,by omega,by omega,⟨by omega,?_,?_⟩⟩
    ·rw [e0,hp];repeat (first|exact LCov.nil|refine LCov.same trivial rfl ?_|refine LCov.same (lt_dec rfl) rfl ?_|refine LCov.same ⟨trivial,lt_dec rfl,lt_dec rfl,lt_dec rfl,trivial⟩ rfl ?_|refine LCov.same ⟨trivial,lt_dec rfl,lt_dec rfl,trivial⟩ rfl ?_|refine LCov.same ⟨trivial,trivial⟩ rfl ?_|refine LCov.cons trivial rfl (.of_eq (lst_len (by simp<;>omega))) ?_)
    ·repeat (first|exact HCov.nil|(refine HCov.cons (lt_dec rfl) ?_ rfl ?_ ?_;(first|exact trivial|exact PVs.under_pure _ _|(simp [HB.under,PVs.under,PV.under]));(first|exact HLe.refl _|exact HLe.vec (FLes.refl _) (by simp))))
  ·
   have hol:(out:List (List Int)).length≤k:=by first|omega|(simp;done)
   have hpl:=posK_le out (chosenK k L.length)
   have e0:allK n L (k+1)=((out:List (List Int)).take (posK out (chosenK k L.length) (out:List (List Int)).length)++[chosenK k L.length]++(out:List (List Int)).drop (posK out (chosenK k L.length) (out:List (List Int)).length),costK L (chosenK k L.length) (chosenK k L.length).length):=by
    simp only [allK,hs,allStep]
    rw [if_neg (by first|omega|(simp only at *;omega)),if_neg (by first|omega|(simp only at *;omega))]
   refine VWp.loopQ (fun j:Nat=>[(0,.p (.int .i64 n)),(1,lst e L),(5,lst 25 (out:List (List Int))),(6,.p (.int .i64 (costK L (chosenK k L.length) (chosenK k L.length).length))),(7,.p (.int .i64 k)),(8,lst 3 (chosenK k L.length)),(10,.p (.int .i64 j))]) (fun _=>[]) 0
    (fun j=>j≤(out:List (List Int)).length∧posK out (chosenK k L.length) j=posK out (chosenK k L.length) (out:List (List Int)).length) (fun j=>j) (out:List (List Int)).length (by omega) ⟨by omega,rfl⟩ ⟨by omega,?_,?_⟩ ?_
   ·repeat (first|exact LCov.nil|refine LCov.same trivial rfl ?_|refine LCov.same (lt_dec rfl) rfl ?_|refine LCov.same ⟨trivial,lt_dec rfl,lt_dec rfl,lt_dec rfl,trivial⟩ rfl ?_|refine LCov.same ⟨trivial,lt_dec rfl,lt_dec rfl,trivial⟩ rfl ?_|refine LCov.same ⟨trivial,trivial⟩ rfl ?_|refine LCov.cons trivial rfl (.of_eq (lst_len (by simp<;>omega))) ?_)
   ·repeat (first|exact HCov.nil|(refine HCov.cons (lt_dec rfl) ?_ rfl ?_ ?_;(first|exact trivial|exact PVs.under_pure _ _|(simp [HB.under,PVs.under,PV.under]));(first|exact HLe.refl _|exact HLe.vec (FLes.refl _) (by simp))))
   rintro j ⟨hj,hr⟩
   have hgl:0<j→(gi (out:List (List Int)) (j-1)).length≤L.length:=fun h0=>by
    first|exact hels _ (gi_mem (by omega))|exact absurd hj (by simp;omega)
   have hps:0<j→posK (out:List (List Int)) (chosenK k L.length) j=if lessF (chosenK k L.length) (gi out (j-1)) 0 then posK out (chosenK k L.length) (j-1) else j:=fun h0=>by
    obtain ⟨i,rfl⟩:∃ i,j=i+1:=⟨j-1,by omega⟩
    simp only [posK,Nat.add_sub_cancel]
   have hp0:j=0→posK (out:List (List Int)) (chosenK k L.length) j=0:=fun h0=>by rw [h0];rfl
   repeat' (first
    |(refine VWp.at 16 ?_;refine VWp.ghost (Ghost.adopt 11 25 rfl) ?_;first|apply VWp.rseq|apply VWp.rseqD)
    |(refine VWp.atEnd 5 ?_;refine VWp.ghost (Ghost.freeze 5 rfl rfl) ?_;first|apply VWp.region|apply VWp.regionD)
    |apply VWp.assoc
    |apply VWp.rseq
    |apply VWp.region
    |apply VWp.skipSeq
    |apply VWp.exitSeq
    |apply QSeq.normal
    |apply QBlk.normal
    |apply QBlk.exit
    |apply QLoop.exit
    |apply VWp.blockQ
    |apply VOps.nil
    |apply VOps.one
    |(apply VOps.take;rfl;rfl)
    |(apply VOps.drop;rfl;rfl;rfl)
    |(apply VOps.guard;rfl;rfl)
    |(apply VVal.fn;rfl;rfl;exact less_spec _ _ _ _ (by omega) (Nat.lt_of_le_of_lt (hgl (by omega)) (by omega));intro _;rfl)
    |(apply VVal.append1 (a:=(chosenK k L.length));rfl;rfl;rfl;rfl;rfl;rfl;rfl;rfl;(intro _ h;cases h);rfl;rfl;rfl;decide;decide;(first|omega|(simp only [List.length_take,List.length_drop,List.length_append,List.length_singleton,List.length_cons,List.length_nil]<;>omega)))
    |(apply VVal.assign;rfl)
    |(apply VVal.move;rfl)
    |(apply VVal.add64;rfl;rfl;omega)
    |(apply VVal.sub64;rfl;rfl;omega)
    |(apply VVal.int;rfl;rfl;rfl)
    |(apply VVal.indexP;rfl;rfl;rfl;omega;omega;rfl)
    |(apply VVal.load;rfl;rfl)
    |(apply VVal.pick_true;rfl;rfl)
    |(apply VVal.pick_false;rfl;rfl)
    |(apply VVal.buildSlice;rfl;rfl;rfl;decide;rfl;rfl;rfl)
    |(apply VVal.appendL0;rfl;rfl;rfl;(first|rfl|omega|(simp only [List.length_take,List.length_drop,List.length_append,List.length_singleton,List.length_cons,List.length_nil]<;>omega));rfl;rfl;(intro _ h;cases h);rfl;rfl;rfl;decide;decide;(first|omega|(simp only [List.length_take,List.length_drop,List.length_append,List.length_singleton,List.length_cons,List.length_nil]<;>omega)))
    |(apply VVal.appendL;rfl;rfl;rfl;(first|rfl|omega|(simp only [List.length_take,List.length_drop,List.length_append,List.length_singleton,List.length_cons,List.length_nil]));(first|rfl|omega|(simp only [List.length_take,List.length_drop,List.length_append,List.length_singleton,List.length_cons,List.length_nil]<;>omega));rfl;rfl;(intro _ h;cases h);rfl;rfl;rfl;decide;decide;(first|omega|(simp only [List.length_take,List.length_drop,List.length_append,List.length_singleton,List.length_cons,List.length_nil]<;>omega)))
    |(apply VVal.sliceTo;rfl;rfl;rfl;rfl;rfl;rfl;omega)
    |(apply VVal.sliceFrom;rfl;rfl;rfl;rfl;rfl;rfl;omega)
    |(apply VWp.condSeq_false;rfl)
    |(apply VWp.condSeq;rfl)
    |(intro _;try (exfalso;omega)))
   ·rename_i hx1 hx2
    refine QLoop.normal ⟨j-1,⟨by omega,?_⟩,by omega,⟨by omega,?_,?_⟩⟩
    ·rw [← hr,hps (by omega),if_pos hx2]
    ·rw [show ((j-1:Nat):Int)=(j:Int)-1 by omega];repeat (first|exact LCov.nil|refine LCov.same trivial rfl ?_|refine LCov.same (lt_dec rfl) rfl ?_|refine LCov.same ⟨trivial,lt_dec rfl,lt_dec rfl,lt_dec rfl,trivial⟩ rfl ?_|refine LCov.same ⟨trivial,lt_dec rfl,lt_dec rfl,trivial⟩ rfl ?_|refine LCov.same ⟨trivial,trivial⟩ rfl ?_|refine LCov.cons trivial rfl (.of_eq (lst_len (by simp<;>omega))) ?_)
    ·repeat (first|exact HCov.nil|(refine HCov.cons (lt_dec rfl) ?_ rfl ?_ ?_;(first|exact trivial|exact PVs.under_pure _ _|(simp [HB.under,PVs.under,PV.under]));(first|exact HLe.refl _|exact HLe.vec (FLes.refl _) (by simp))))
   ·have hp:posK out (chosenK k L.length) out.length=j:=by rw [← hr,hps (by omega),if_neg (by simp_all)]
    refine QLoop.normal ⟨k+1,by omega,by omega,⟨by omega,?_,?_⟩⟩
    ·rw [e0,hp];repeat (first|exact LCov.nil|refine LCov.same trivial rfl ?_|refine LCov.same (lt_dec rfl) rfl ?_|refine LCov.same ⟨trivial,lt_dec rfl,lt_dec rfl,lt_dec rfl,trivial⟩ rfl ?_|refine LCov.same ⟨trivial,lt_dec rfl,lt_dec rfl,trivial⟩ rfl ?_|refine LCov.same ⟨trivial,trivial⟩ rfl ?_|refine LCov.cons trivial rfl (.of_eq (lst_len (by simp<;>omega))) ?_)
    ·repeat (first|exact HCov.nil|(refine HCov.cons (lt_dec rfl) ?_ rfl ?_ ?_;(first|exact trivial|exact PVs.under_pure _ _|(simp [HB.under,PVs.under,PV.under]));(first|exact HLe.refl _|exact HLe.vec (FLes.refl _) (by simp))))
   ·have hp:posK out (chosenK k L.length) out.length=j:=by rw [← hr,hp0 (by omega)];omega
    refine QLoop.normal ⟨k+1,by omega,by omega,⟨by omega,?_,?_⟩⟩
    ·rw [e0,hp];repeat (first|exact LCov.nil|refine LCov.same trivial rfl ?_|refine LCov.same (lt_dec rfl) rfl ?_|refine LCov.same ⟨trivial,lt_dec rfl,lt_dec rfl,lt_dec rfl,trivial⟩ rfl ?_|refine LCov.same ⟨trivial,lt_dec rfl,lt_dec rfl,trivial⟩ rfl ?_|refine LCov.same ⟨trivial,trivial⟩ rfl ?_|refine LCov.cons trivial rfl (.of_eq (lst_len (by simp<;>omega))) ?_)
    ·repeat (first|exact HCov.nil|(refine HCov.cons (lt_dec rfl) ?_ rfl ?_ ?_;(first|exact trivial|exact PVs.under_pure _ _|(simp [HB.under,PVs.under,PV.under]));(first|exact HLe.refl _|exact HLe.vec (FLes.refl _) (by simp))))
 ·repeat' (first
   |apply VWp.assoc
   |apply VWp.rseq
   |apply VWp.exitSeq
   |apply QSeq.normal
   |apply QBlk.exit
   |apply QLoop.exit
   |apply VWp.ret
   |apply VOps.nil
   |apply VOps.one
   |(apply VVal.assign;rfl)
   |(apply VVal.move;rfl)
   |(apply VVal.int;rfl;rfl;rfl)
   |(apply VVal.lenF;rfl;rfl)
   |(apply VVal.shlOne;rfl;rfl;omega)
   |(apply VWp.condSeq_dec;rfl)
   |(intro _;try (exfalso;omega)))
  ·refine Done.ret rfl (.refl _) (by first|exact trivial|exact ⟨trivial,trivial,trivial⟩|exact ⟨trivial,trivial,trivial,trivial⟩) HCov.nil (Nat.zero_le _) (Nat.le_refl _) ⟨?_,rfl,rfl⟩
   have e1:2 ^ L.length=k:=by omega
   rw [e1,hs]
end Go.Proofs.YtmfnchgkffhpfaaDoor
