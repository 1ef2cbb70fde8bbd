/-
  The layer's check of a proof. Conditions: in each statement.
-/
import Derived.Test.YtmfnchgkffhpfaaDoorCovSe
import Derived.Test.YtmfnchgkffhpfaaDoorCovSc
set_option linter.unusedSimpArgs false
set_option linter.unusedVariables false
set_option linter.unusedSectionVars false
namespace Go.Vm
open Go.Am
instance:Enc Bool:={ default:=false,enc:=fun b=>[.bool b],size:=1,len:=fun _=>rfl }
section
variable {E:Env} {L:Frame} {H:Heap} {nx:Nat} {Q:PV→Heap→Nat→Prop} {w:Bool}
variable {dst:Option Tmp} {ty:TypeId} {pos:String} {af:Array Edge} {gd:Option (Nat×Bool)}
theorem VVal.shrE {t t2:TypeId} {x y:Operand} {k k':IntKind} {m:Nat} {b:Int} (n:Nat) (hx:vev E.Γ L x=some (.p (.int k (m:Int)))) (hy:vev E.Γ L y=some (.p (.int k' b))) (hb:b=n) (hn:n≤k.bits) (q:Q (.p (.int k ((m / 2 ^ n:Nat):Int))) H nx) :
 VVal E w ⟨dst,.binOp .shr t x y t2,ty,pos,af,gd⟩ L H nx Q:=by
 subst hb
 exact VVal.shrN hx hy hn q
end
end Go.Vm
namespace Go.Proofs.YtmfnchgkffhpfaaDoor
open Go Go.Am Go.Vm
attribute [local irreducible] VVal VOps VOpsD VWp VCalls VFun VFunV QSeq QBlk QLoop Vm.Done DoneV DoneI VRead VReadV
def provP (L:List CSet) (n:Nat) (cost:Int) (N:List CNode):Prop:=N.length≠0∧runP L n cost N N.length 0 ((List.replicate N.length false).set 0 true) (List.replicate N.length (List.replicate L.length 0))
def searchC (p:CProb) (cost:Int):List FV:=srchC p++[.int .i64 cost,.val (.slice none 0 0),.bool false,.int .i64 0,.val (.slice none 0 0)]
def sk (seen:List Bool) (a b:Int):Nat→List Bool
 |0=>seen
 |1=>seen.set a.toNat true
 |_=>(seen.set a.toNat true).set b.toNat true
theorem sk_len (seen:List Bool) (a b:Int) (k:Nat):(sk seen a b k).length=seen.length:=by
 match k with
 |0=>rfl
 |1=>simp [sk]
 |k+2=>simp [sk]
open Classical in
set_option maxRecDepth 100000 in
set_option maxHeartbeats 32000000 in
theorem proves_spec (p:CProb) (n:Nat) (hp:p.n=n) (hn:n≤7) (hL:p.sets.length≤7) (h:ElsOk p.sets) (hE:Elsn p.sets n) (cost:Int) (N:List CNode) (hN:N.length<1000) (hws:∀ i,i<N.length→(gi N i).ws.length<1000) :
 VFun env 48 [.agg (Enc.enc p),.lst 91 (cells N) N.length,.int .i64 cost] (.p (.bool (decide (provP p.sets n cost N)))):=by
 have hw:=words_spec p (by omega) h
 have hwl:(wordsL p.sets).length=p.sets.length:=by unfold wordsL;rw [List.length_map]
 by_cases h0:N.length=0
 ·rw [decide_eq_false (fun hb:provP _ _ _ _=>hb.1 h0)]
  refine VFun.enter (env_none (by decide)) Tryd.func48 rfl (by kernel_rfl) (by simp [Tryd.ntmps48]) ?_
  repeat' (first
   |apply VWp.assoc
   |apply VWp.rseq
   |apply VWp.retSeq
   |apply VOps.nil
   |apply VOps.one
   |(apply VVal.assign;rfl)
   |(apply VVal.move;rfl)
   |(apply VVal.int;rfl;rfl;rfl)
   |(apply VVal.lenF;rfl;rfl)
   |(apply VVal.box;rfl;trivial)
   |(apply VWp.condSeq_dec;rfl)
   |(intro _;try (exfalso;omega)))
  all_goals first|(exfalso;omega)|(refine Done.ret rfl (.refl _) (by first|exact trivial|exact ⟨trivial,trivial,trivial⟩|exact ⟨trivial,trivial,trivial,trivial⟩) HCov.nil (Nat.zero_le _) (Nat.le_refl _) ⟨?_,rfl,rfl⟩;try rfl)
 obtain ⟨P,hPd⟩:∃ P,P=provP p.sets n cost N:=⟨_,rfl⟩
 have hP0:P↔runP p.sets n cost N N.length 0 ((List.replicate N.length false).set 0 true) (List.replicate N.length (List.replicate p.sets.length 0)):=by
  rw [hPd]
  exact ⟨fun hh=>hh.2,fun hh=>⟨h0,hh⟩⟩
 rw [← hPd]
 clear hPd
 have hrl:(List.replicate N.length false).length=N.length:=List.length_replicate
 refine VFun.enter (env_none (by decide)) Tryd.func48 rfl (by kernel_rfl) (by simp [Tryd.ntmps48]) ?_
 repeat' (first
  |(refine VOpsD.atOp 21 ?_;refine VOpsD.ghost (Ghost.freeze 19 rfl rfl) ?_)
  |apply VWp.assoc
  |apply VWp.rseq
  |apply VWp.rseqD
  |apply VWp.skipSeq
  |apply VWp.blockSeq
  |apply VOps.nil
  |apply VOpsD.nil
  |apply VOps.one
  |(apply VOpsD.bar;decide +kernel)
  |apply VOpsD.quiet
  |(apply VVal.fv;rfl;rfl;exact hw)
  |(apply VVal.makeSliceL N.length (⟨0,0,0,0⟩:CSt);rfl;rfl;rfl;rfl;rfl;rfl;rfl;omega;decide;decide;rfl)
  |(apply VVal.makeSliceL N.length false;rfl;rfl;rfl;rfl;rfl;rfl;rfl;omega;decide;decide;rfl)
  |(apply VVal.storeVL (y:=true);rfl;rfl;rfl;trivial;(first|rfl|(refine congrArg (fun t=>[PV.p (FV.int _ t)]) ?_;first|omega|(simp only [Int.natCast_add,Int.natCast_mul,Int.natCast_ediv,Int.natCast_emod]<;>omega)));rfl;rfl;decide;(first|omega|(simp only [List.length_set]<;>omega)))
  |(apply VVal.assign;rfl)
  |(apply VVal.move;rfl)
  |(apply VVal.int;rfl;rfl;rfl)
  |(apply VVal.load;rfl;rfl)
  |(apply VVal.lenF;rfl;rfl)
  |(apply VVal.box;rfl;trivial)
  |(apply VVal.build;rfl;rfl;rfl;rfl;rfl)
  |(apply VVal.indexVE;rfl;rfl;rfl;rfl;omega;omega)
  |(apply VWp.condSeq_dec;rfl)
  |(intro _;try (exfalso;omega)))
 all_goals try (exfalso;omega)
 refine VWp.loopQ (fun s:Nat×List Bool×List CSt=>[(1,.p (.lst 91 (cells N) N.length)),(3,.ref 0 0),(7,.ref 2 0),(8,.vec 3 N.length 0 N.length),(9,.vec 4 N.length 0 N.length),(31,.p (.lst 91 (cells N) N.length)),(32,.p (.int .i64 (N.length:Int))),(33,.p (.int .i64 (s.1:Int)))])
  (fun s=>[(0,.box 29 ((Enc.enc p).map .p)),(2,.box 89 ((searchC p cost).map .p)),(3,.vec 86 (cells s.2.2) N.length false),(4,.vec 4 (cells s.2.1) N.length false)]) 5
  (fun s=>s.1≤N.length∧s.2.1.length=N.length∧s.2.2.length=N.length∧∃ sts:List (List Int),sts.length=N.length∧(∀ j,j<N.length→SR p.sets (gi sts j) (gi s.2.2 j))∧(P↔runP p.sets n cost N (N.length-s.1) s.1 s.2.1 sts))
  (fun s=>N.length-s.1) (0,(List.replicate N.length false).set 0 true,List.replicate N.length ⟨0,0,0,0⟩) (by omega) ⟨by simp only;omega,by simp,by simp,List.replicate N.length (List.replicate p.sets.length 0),by simp,fun j hj=>by simp only;rw [gi_rep hj,gi_rep hj];exact SR.start _,hP0⟩ ⟨by omega,?_,?_⟩ ?_
 ·repeat (first|exact LCov.nil|refine LCov.same trivial rfl ?_|refine LCov.same (lt_dec rfl) rfl ?_|refine LCov.same ⟨trivial,lt_dec rfl,trivial⟩ rfl ?_|refine LCov.same ⟨trivial,lt_dec rfl,lt_dec rfl,trivial⟩ rfl ?_|refine LCov.same ⟨trivial,lt_dec rfl,lt_dec rfl,lt_dec rfl,trivial⟩ rfl ?_|refine LCov.same ⟨trivial,trivial⟩ rfl ?_|refine LCov.cons trivial rfl (.of_eq (lst_len (by simp<;>omega))) ?_)
 ·repeat (first|exact HCov.nil|(refine HCov.cons (lt_dec rfl) ?_ rfl ?_ ?_;(first|exact HB.under_of rfl|exact PVs.under_pure _ _|(simp [HB.under,PVs.under,PV.under]));(first|exact HLe.refl _|exact HLe.vec (FLes.refl _) (by simp))))
 rintro ⟨i,seen,xs⟩ ⟨hi,hl1,hl2,sts,hl3,hsr,hP⟩
 simp only at hi hl1 hl2 hsr hP
 dsimp only
 by_cases hlt:i<N.length
 case neg =>
  obtain rfl:i=N.length:=by omega
  rw [Nat.sub_self] at hP
  rw [decide_eq_true (hP.2 trivial)]
  repeat' (first
   |apply VWp.rseq
   |apply VWp.exitSeq
   |apply QSeq.normal
   |apply QBlk.exit
   |apply QLoop.exit
   |apply VWp.ret
   |apply VOps.nil
   |apply VOps.one
   |(apply VVal.assign;rfl)
   |(apply VVal.int;rfl;rfl;rfl)
   |(apply VWp.condSeq_dec;rfl)
   |(intro _;try (exfalso;omega)))
  all_goals first|(exfalso;omega)|(refine Done.ret rfl (.refl _) (by first|exact trivial|exact ⟨trivial,trivial,trivial⟩|exact ⟨trivial,trivial,trivial,trivial⟩) HCov.nil (Nat.zero_le _) (Nat.le_refl _) ⟨?_,rfl,rfl⟩;try rfl)
 obtain ⟨d,hd⟩:∃ d,N.length-i=d+1:=⟨N.length-i-1,by omega⟩
 rw [hd] at hP
 simp only [runP] at hP
 have hsx:=hsr i hlt
 have hxo:=hsx.ok
 have hxok:=hsx.xok h hL
 have hwi:=hws i hlt
 by_cases hseen:gi seen i=true
 case neg =>
  rw [decide_eq_false (fun hb=>hseen (hP.1 hb).1)]
  have hseen:gi seen i=false:=by simpa using hseen
  repeat' (first
   |apply VWp.assoc
   |apply VWp.rseq
   |apply VWp.skipSeq
   |apply VWp.retSeq
   |apply VWp.blockSeq
   |apply QSeq.ret
   |apply QBlk.ret
   |apply QLoop.ret
   |apply VOps.nil
   |apply VOps.one
   |(apply VVal.loadVL;rfl;rfl;(first|omega|(simp only [sk_len]<;>omega));exact congrArg (fun b=>some (FV.bool b)) (hseen))
   |(apply VVal.assign;rfl)
   |(apply VVal.move;rfl)
   |(apply VVal.int;rfl;rfl;rfl)
   |(apply VVal.indexN;rfl;rfl;rfl;omega;rfl)
   |(apply VVal.load;rfl;rfl)
   |(apply VVal.alloc;rfl)
   |(apply VVal.storeB;rfl;rfl;rfl;trivial;rfl;rfl;exact lt_dec rfl;exact le_dec rfl)
   |(apply VVal.indexVN;rfl;rfl;rfl;rfl;omega)
   |(apply VVal.not;rfl)
   |(apply VWp.condSeq_true;rfl)
   |(apply VWp.condSeq_dec;rfl)
   |(intro _;try (exfalso;omega)))
  all_goals first|(exfalso;omega)|(refine Done.ret rfl (.refl _) (by first|exact trivial|exact ⟨trivial,trivial,trivial⟩|exact ⟨trivial,trivial,trivial,trivial⟩) HCov.nil (Nat.zero_le _) (Nat.le_refl _) ⟨?_,rfl,rfl⟩;try rfl)
 have hP1:P↔_:=hP.trans ⟨fun hh=>hh.2,fun hh=>⟨hseen,hh⟩⟩
 by_cases hpk:0≤(gi N i).pick
 ·rw [if_pos hpk] at hP1
  obtain ⟨pk,hpe⟩:∃ pk:Nat,(gi N i).pick=pk:=⟨(gi N i).pick.toNat,by omega⟩
  have hor:(gi xs i).taken ||| (gi xs i).out<2 ^ 7:=Nat.or_lt_two_pow hxo.1 hxo.2.1
  have hdl:((gi xs i).taken ||| (gi xs i).out) / 2 ^ pk≤(gi xs i).taken ||| (gi xs i).out:=Nat.div_le_self _ _
  by_cases hm:pk<p.sets.length
  case neg =>
   have hno:¬ P:=fun hh=>by have:=(hP1.1 hh).1.1;omega
   rw [decide_eq_false hno]
   repeat' (first
    |apply VWp.assoc
    |apply VWp.rseq
    |apply VWp.rseqD
    |apply VWp.skipSeq
    |apply VWp.retSeq
    |apply VWp.blockSeq
    |apply QSeq.ret
    |apply QBlk.ret
    |apply QLoop.ret
    |apply VWp.blockQ
    |apply VOps.nil
    |apply VOpsD.nil
    |apply VOps.one
    |(apply VOpsD.bar;decide +kernel)
    |apply VOpsD.quiet
    |(apply VOpsD.drop;rfl;rfl;rfl)
    |(apply VOpsD.guard;rfl;rfl)
    |(apply VVal.loadVL;rfl;rfl;(first|omega|(simp only [sk_len]<;>omega));exact congrArg (fun b=>some (FV.bool b)) (hseen))
    |(apply VVal.assign;rfl)
    |(apply VVal.move;rfl)
    |(apply VVal.int;rfl;rfl;rfl)
    |(apply VVal.indexN;rfl;rfl;rfl;omega;rfl)
    |(apply VVal.load;rfl;rfl)
    |(apply VVal.pick_true;rfl;rfl)
    |(apply VVal.lenF;rfl;rfl)
    |(apply VVal.fieldB;rfl;rfl;rfl)
    |(apply VVal.alloc;rfl)
    |(apply VVal.storeB;rfl;rfl;rfl;trivial;rfl;rfl;exact lt_dec rfl;exact le_dec rfl)
    |(apply VVal.indexVN;rfl;rfl;rfl;rfl;omega)
    |(apply VVal.not;rfl)
    |(apply VWp.condSeq_true;rfl)
    |(apply VWp.condSeq_false;rfl)
    |(apply VWp.condSeq_dec;rfl)
    |(apply VWp.cond_dec;rfl)
    |(intro _;try (exfalso;omega)))
   all_goals first|(exfalso;omega)|(refine Done.ret rfl (.refl _) (by first|exact trivial|exact ⟨trivial,trivial,trivial⟩|exact ⟨trivial,trivial,trivial,trivial⟩) HCov.nil (Nat.zero_le _) (Nat.le_refl _) ⟨?_,rfl,rfl⟩;try rfl)
  have hfr:=hsx.free hm
  by_cases hfree:((gi xs i).taken ||| (gi xs i).out).testBit pk=false
  case neg =>
   have hno:¬ P:=fun hh=>by
    have:=(hP1.1 hh).1.2
    rw [hpe,Int.toNat_natCast] at this
    exact hfree (hfr.2 this)
   have hbit:=(bit_mod _ _).1 (show ((gi xs i).taken ||| (gi xs i).out).testBit pk=true by cases hb:((gi xs i).taken ||| (gi xs i).out).testBit pk with|true=>rfl|false=>exact absurd hb hfree)
   rw [decide_eq_false hno]
   repeat' (first
    |apply VWp.assoc
    |apply VWp.rseq
    |apply VWp.rseqD
    |apply VWp.skipSeq
    |apply VWp.retSeq
    |apply VWp.blockSeq
    |apply QSeq.ret
    |apply QBlk.ret
    |apply QLoop.ret
    |apply VWp.blockQ
    |apply VOps.nil
    |apply VOpsD.nil
    |apply VOps.one
    |(apply VOpsD.bar;decide +kernel)
    |apply VOpsD.quiet
    |(apply VOpsD.quietTake;rfl;rfl)
    |(apply VOpsD.guard;rfl;rfl)
    |(apply VVal.loadVL;rfl;rfl;(first|omega|(simp only [sk_len]<;>omega));exact congrArg (fun b=>some (FV.bool b)) (hseen))
    |(apply VVal.fieldV;rfl;rfl;rfl)
    |(apply VVal.loadVF;rfl;rfl;omega;decide;rfl)
    |(apply VVal.shrE pk;rfl;rfl;exact hpe;(simp only [IntKind.bits];omega))
    |(apply VVal.and1U;rfl;rfl;omega)
    |(apply VVal.assign;rfl)
    |(apply VVal.move;rfl)
    |(apply VVal.orU;rfl;rfl;omega;omega)
    |(apply VVal.int;rfl;rfl;rfl)
    |(apply VVal.indexN;rfl;rfl;rfl;omega;rfl)
    |(apply VVal.load;rfl;rfl)
    |(apply VVal.pick_false;rfl;rfl)
    |(apply VVal.lenF;rfl;rfl)
    |(apply VVal.fieldB;rfl;rfl;rfl)
    |(apply VVal.alloc;rfl)
    |(apply VVal.storeB;rfl;rfl;rfl;trivial;rfl;rfl;exact lt_dec rfl;exact le_dec rfl)
    |(apply VVal.indexVN;rfl;rfl;rfl;rfl;omega)
    |(apply VVal.not;rfl)
    |(apply VWp.condSeq_false;rfl)
    |(apply VWp.condSeq_dec;rfl)
    |(apply VWp.cond_dec;rfl)
    |(intro _;try (exfalso;omega)))
   all_goals first|(exfalso;omega)|(refine Done.ret rfl (.refl _) (by first|exact trivial|exact ⟨trivial,trivial,trivial⟩|exact ⟨trivial,trivial,trivial,trivial⟩) HCov.nil (Nat.zero_le _) (Nat.le_refl _) ⟨?_,rfl,rfl⟩;try rfl)
  have hbit:=(bit_mod0 _ _).1 hfree
  have h00:=hfr.1 hfree
  rw [hpe,Int.toNat_natCast] at hP1
  have hP2:=hP1.trans ⟨fun hh=>hh.2,fun hh=>⟨⟨by omega,h00⟩,hh⟩⟩
  clear hP1
  have hg0:gi [(gi N i).yes,(gi N i).no] 0=(gi N i).yes:=rfl
  have hg1:gi [(gi N i).yes,(gi N i).no] 1=(gi N i).no:=rfl
  have h2l:[(gi N i).yes,(gi N i).no].length=2:=rfl
  repeat' (first
   |(refine VOps.atOp 76 ?_;refine VOps.ghost ((Ghost.freeze 75 rfl rfl).trans (Ghost.le 75 (v0:=.p (.lst 3 (cells [(gi N i).yes,(gi N i).no]) 2)) rfl (.of_eq rfl))) ?_)
   |apply VWp.assoc
   |apply VWp.rseq
   |apply VWp.rseqD
   |apply VWp.skipSeq
   |apply VWp.blockSeq
   |apply VWp.blockQ
   |apply VOps.nil
   |apply VOpsD.nil
   |apply VOps.one
   |(apply VOpsD.bar;decide +kernel)
   |apply VOpsD.quiet
   |(apply VOpsD.quietTake;rfl;rfl)
   |(apply VOpsD.guard;rfl;rfl)
   |(apply VVal.loadVL;rfl;rfl;(first|omega|(simp only [sk_len]<;>omega));exact congrArg (fun b=>some (FV.bool b)) (hseen))
   |(apply VVal.fieldV;rfl;rfl;rfl)
   |(apply VVal.loadVF;rfl;rfl;omega;decide;rfl)
   |(apply VVal.shrE pk;rfl;rfl;exact hpe;(simp only [IntKind.bits];omega))
   |(apply VVal.and1U;rfl;rfl;omega)
   |(apply VVal.assign;rfl)
   |(apply VVal.move;rfl)
   |(apply VVal.orU;rfl;rfl;omega;omega)
   |(apply VVal.int;rfl;rfl;rfl)
   |(apply VVal.indexN;rfl;rfl;rfl;omega;rfl)
   |(apply VVal.load;rfl;rfl)
   |(apply VVal.pick_false;rfl;rfl)
   |(apply VVal.lenF;rfl;rfl)
   |(apply VVal.fieldB;rfl;rfl;rfl)
   |(apply VVal.alloc;rfl)
   |(apply VVal.storeB;rfl;rfl;rfl;trivial;rfl;rfl;exact lt_dec rfl;exact le_dec rfl)
   |(apply VVal.buildSlice;rfl;rfl;rfl;decide;rfl;rfl;rfl)
   |(apply VVal.indexVN;rfl;rfl;rfl;rfl;omega)
   |(apply VVal.not;rfl)
   |(apply VWp.condSeq_false;rfl)
   |(apply VWp.condSeq_dec;rfl)
   |(apply VWp.cond_dec;rfl)
   |(intro _;try (exfalso;omega)))
  all_goals try (exfalso;omega)
  have hs0:(sk seen (gi N i).yes (gi N i).no 0).length=N.length:=(sk_len _ _ _ _).trans hl1
  have hs1:(sk seen (gi N i).yes (gi N i).no 1).length=N.length:=(sk_len _ _ _ _).trans hl1
  by_cases c2:(i:Int)<(gi N i).yes∧(gi N i).yes<N.length∧gi seen (gi N i).yes.toNat=false
  case neg =>
   have hno:¬ P:=fun hh=>c2 (hP2.1 hh).1
   rw [decide_eq_false hno]
   refine VWp.loopQ (fun k:Nat=>[(1,.p (.lst 91 (cells N) N.length)),(3,.ref 0 0),(7,.ref 2 0),(8,.vec 3 N.length 0 N.length),(9,.vec 4 N.length 0 N.length),(10,.p (.int .i64 (i:Int))),(11,.ref 5 0),(31,.p (.lst 91 (cells N) N.length)),(32,.p (.int .i64 (N.length:Int))),(33,.p (.int .i64 (i:Int))),(75,.p (.lst 3 (cells [(gi N i).yes,(gi N i).no]) 2)),(76,.p (.int .i64 2)),(77,.p (.int .i64 (k:Int)))])
    (fun k=>[(0,.box 29 ((Enc.enc p).map .p)),(2,.box 89 ((searchC p cost).map .p)),(3,.vec 86 (cells xs) N.length false),(4,.vec 4 (cells (sk seen (gi N i).yes (gi N i).no k)) N.length false),(5,.box 91 ((Enc.enc (gi N i)).map .p))]) 6 (fun k=>k≤0) (fun k=>2-k) 0 (by omega) (by omega) ⟨by omega,?_,?_⟩ ?_
   ·repeat (first|exact LCov.nil|refine LCov.same trivial rfl ?_|refine LCov.same (lt_dec rfl) rfl ?_|refine LCov.same ⟨trivial,lt_dec rfl,trivial⟩ rfl ?_|refine LCov.same ⟨trivial,lt_dec rfl,lt_dec rfl,trivial⟩ rfl ?_|refine LCov.same ⟨trivial,lt_dec rfl,lt_dec rfl,lt_dec rfl,trivial⟩ rfl ?_|refine LCov.same ⟨trivial,trivial⟩ rfl ?_|refine LCov.cons trivial rfl (.of_eq (lst_len (by simp<;>omega))) ?_)
   ·repeat (first|exact HCov.nil|(refine HCov.cons (lt_dec rfl) ?_ rfl ?_ ?_;(first|exact HB.under_of rfl|exact PVs.under_pure _ _|(simp [HB.under,PVs.under,PV.under]));(first|exact HLe.refl _|exact HLe.vec (FLes.refl _) (by simp))))
   intro k hk
   obtain rfl:k=0:=by omega
   by_cases b1:(i:Int)<(gi N i).yes∧(gi N i).yes<N.length
   ·have hsy:gi seen (gi N i).yes.toNat=true:=by
     cases hb:gi seen (gi N i).yes.toNat with
     |true=>rfl
     |false=>exact absurd ⟨b1.1,b1.2,hb⟩ c2
    repeat' (first
     |apply VWp.assoc
     |apply VWp.rseq
     |apply VWp.skipSeq
     |apply VWp.retSeq
     |apply VWp.blockSeq
     |apply QSeq.ret
     |apply QBlk.ret
     |apply QLoop.ret
     |apply VOps.nil
     |apply VOps.one
     |(apply VOps.take;rfl;rfl)
     |(apply VOps.guard;rfl;rfl)
     |(apply VVal.loadVL;rfl;rfl;(first|omega|(simp only [sk_len]<;>omega));exact congrArg (fun b=>some (FV.bool b)) (hsy))
     |(apply VVal.assign;rfl)
     |(apply VVal.move;rfl)
     |(apply VVal.int;rfl;rfl;rfl)
     |(apply VVal.indexN;rfl;rfl;rfl;omega;rfl)
     |(apply VVal.load;rfl;rfl)
     |(apply VVal.pick_false;rfl;rfl)
     |(apply VVal.lenF;rfl;rfl)
     |(apply VVal.indexVE;rfl;rfl;rfl;rfl;omega;omega)
     |(apply VWp.condSeq_true;rfl)
     |(intro _;try (exfalso;omega)))
    all_goals first|(exfalso;omega)|(refine Done.ret rfl (.refl _) (by first|exact trivial|exact ⟨trivial,trivial,trivial⟩|exact ⟨trivial,trivial,trivial,trivial⟩) HCov.nil (Nat.zero_le _) (Nat.le_refl _) ⟨?_,rfl,rfl⟩;try rfl)
   ·skip
    repeat' (first
     |apply VWp.assoc
     |apply VWp.rseq
     |apply VWp.skipSeq
     |apply VWp.retSeq
     |apply VWp.blockSeq
     |apply QSeq.ret
     |apply QBlk.ret
     |apply QLoop.ret
     |apply VOps.nil
     |apply VOps.one
     |(apply VOps.take;rfl;rfl)
     |(apply VOps.drop;rfl;rfl;rfl)
     |(apply VOps.guard;rfl;rfl)
     |(apply VVal.assign;rfl)
     |(apply VVal.move;rfl)
     |(apply VVal.int;rfl;rfl;rfl)
     |(apply VVal.indexN;rfl;rfl;rfl;omega;rfl)
     |(apply VVal.load;rfl;rfl)
     |(apply VVal.pick_true;rfl;rfl)
     |(apply VVal.pick_false;rfl;rfl)
     |(apply VVal.lenF;rfl;rfl)
     |(apply VWp.condSeq_true;rfl)
     |(intro _;try (exfalso;omega)))
    all_goals first|(exfalso;omega)|(refine Done.ret rfl (.refl _) (by first|exact trivial|exact ⟨trivial,trivial,trivial⟩|exact ⟨trivial,trivial,trivial,trivial⟩) HCov.nil (Nat.zero_le _) (Nat.le_refl _) ⟨?_,rfl,rfl⟩;try rfl)
  have hP3:=hP2.trans ⟨fun hh=>hh.2,fun hh=>⟨c2,hh⟩⟩
  obtain ⟨y1,y2,y3⟩:=c2
  by_cases c3:(i:Int)<(gi N i).no∧(gi N i).no<N.length∧gi (seen.set (gi N i).yes.toNat true) (gi N i).no.toNat=false
  case neg =>
   have hno:¬ P:=fun hh=>c3 (hP3.1 hh).1
   rw [decide_eq_false hno]
   refine VWp.loopQ (fun k:Nat=>[(1,.p (.lst 91 (cells N) N.length)),(3,.ref 0 0),(7,.ref 2 0),(8,.vec 3 N.length 0 N.length),(9,.vec 4 N.length 0 N.length),(10,.p (.int .i64 (i:Int))),(11,.ref 5 0),(31,.p (.lst 91 (cells N) N.length)),(32,.p (.int .i64 (N.length:Int))),(33,.p (.int .i64 (i:Int))),(75,.p (.lst 3 (cells [(gi N i).yes,(gi N i).no]) 2)),(76,.p (.int .i64 2)),(77,.p (.int .i64 (k:Int)))])
    (fun k=>[(0,.box 29 ((Enc.enc p).map .p)),(2,.box 89 ((searchC p cost).map .p)),(3,.vec 86 (cells xs) N.length false),(4,.vec 4 (cells (sk seen (gi N i).yes (gi N i).no k)) N.length false),(5,.box 91 ((Enc.enc (gi N i)).map .p))]) 6 (fun k=>k≤1) (fun k=>2-k) 0 (by omega) (by omega) ⟨by omega,?_,?_⟩ ?_
   ·repeat (first|exact LCov.nil|refine LCov.same trivial rfl ?_|refine LCov.same (lt_dec rfl) rfl ?_|refine LCov.same ⟨trivial,lt_dec rfl,trivial⟩ rfl ?_|refine LCov.same ⟨trivial,lt_dec rfl,lt_dec rfl,trivial⟩ rfl ?_|refine LCov.same ⟨trivial,lt_dec rfl,lt_dec rfl,lt_dec rfl,trivial⟩ rfl ?_|refine LCov.same ⟨trivial,trivial⟩ rfl ?_|refine LCov.cons trivial rfl (.of_eq (lst_len (by simp<;>omega))) ?_)
   ·repeat (first|exact HCov.nil|(refine HCov.cons (lt_dec rfl) ?_ rfl ?_ ?_;(first|exact HB.under_of rfl|exact PVs.under_pure _ _|(simp [HB.under,PVs.under,PV.under]));(first|exact HLe.refl _|exact HLe.vec (FLes.refl _) (by simp))))
   intro k hk
   match k with
   |0 =>
    repeat' (first
     |apply VWp.assoc
     |apply VWp.rseq
     |apply VWp.region
     |apply VWp.skipSeq
     |apply VWp.blockSeq
     |apply QSeq.normal
     |apply QBlk.normal
     |apply VOps.nil
     |apply VOps.one
     |(apply VOps.take;rfl;rfl)
     |(apply VOps.guard;rfl;rfl)
     |(apply VVal.loadVL;rfl;rfl;(first|omega|(simp only [sk_len]<;>omega));exact congrArg (fun b=>some (FV.bool b)) (y3))
     |(apply VVal.storeVL (y:=true);rfl;rfl;rfl;trivial;(first|rfl|(refine congrArg (fun t=>[PV.p (FV.int _ t)]) ?_;first|omega|(simp only [Int.natCast_add,Int.natCast_mul,Int.natCast_ediv,Int.natCast_emod]<;>omega)));rfl;rfl;decide;(first|omega|(simp only [List.length_set]<;>omega)))
     |(apply VVal.assign;rfl)
     |(apply VVal.move;rfl)
     |(apply VVal.add64;rfl;rfl;omega)
     |(apply VVal.int;rfl;rfl;rfl)
     |(apply VVal.indexN;rfl;rfl;rfl;omega;rfl)
     |(apply VVal.load;rfl;rfl)
     |(apply VVal.pick_false;rfl;rfl)
     |(apply VVal.lenF;rfl;rfl)
     |(apply VVal.indexVE;rfl;rfl;rfl;rfl;omega;omega)
     |(apply VWp.condSeq_true;rfl)
     |(apply VWp.condSeq_false;rfl)
     |(intro _;try (exfalso;omega)))
    all_goals try (exfalso;omega)
    refine QLoop.normal ⟨1,by omega,by omega,⟨by omega,?_,?_⟩⟩
    ·repeat (first|exact LCov.nil|refine LCov.same trivial rfl ?_|refine LCov.same (lt_dec rfl) rfl ?_|refine LCov.same ⟨trivial,lt_dec rfl,trivial⟩ rfl ?_|refine LCov.same ⟨trivial,lt_dec rfl,lt_dec rfl,trivial⟩ rfl ?_|refine LCov.same ⟨trivial,lt_dec rfl,lt_dec rfl,lt_dec rfl,trivial⟩ rfl ?_|refine LCov.same ⟨trivial,trivial⟩ rfl ?_|refine LCov.cons trivial rfl (.of_eq (lst_len (by simp<;>omega))) ?_)
    ·repeat (first|exact HCov.nil|(refine HCov.cons (lt_dec rfl) ?_ rfl ?_ ?_;(first|exact HB.under_of rfl|exact PVs.under_pure _ _|(simp [HB.under,PVs.under,PV.under]));(first|exact HLe.refl _|exact HLe.vec (FLes.refl _) (by simp))))
   |k+2=>exact absurd hk (by omega)
   |1 =>
    by_cases b1:(i:Int)<(gi N i).no∧(gi N i).no<N.length
    ·have hsy:gi (seen.set (gi N i).yes.toNat true) (gi N i).no.toNat=true:=by
      cases hb:gi (seen.set (gi N i).yes.toNat true) (gi N i).no.toNat with
      |true=>rfl
      |false=>exact absurd ⟨b1.1,b1.2,hb⟩ c3
     repeat' (first
      |apply VWp.assoc
      |apply VWp.rseq
      |apply VWp.skipSeq
      |apply VWp.retSeq
      |apply VWp.blockSeq
      |apply QSeq.ret
      |apply QBlk.ret
      |apply QLoop.ret
      |apply VOps.nil
      |apply VOps.one
      |(apply VOps.take;rfl;rfl)
      |(apply VOps.guard;rfl;rfl)
      |(apply VVal.loadVL;rfl;rfl;(first|omega|(simp only [sk_len]<;>omega));exact congrArg (fun b=>some (FV.bool b)) (hsy))
      |(apply VVal.assign;rfl)
      |(apply VVal.move;rfl)
      |(apply VVal.int;rfl;rfl;rfl)
      |(apply VVal.indexN;rfl;rfl;rfl;omega;rfl)
      |(apply VVal.load;rfl;rfl)
      |(apply VVal.pick_false;rfl;rfl)
      |(apply VVal.lenF;rfl;rfl)
      |(apply VVal.indexVE;rfl;rfl;rfl;rfl;omega;omega)
      |(apply VWp.condSeq_true;rfl)
      |(intro _;try (exfalso;omega)))
     all_goals first|(exfalso;omega)|(refine Done.ret rfl (.refl _) (by first|exact trivial|exact ⟨trivial,trivial,trivial⟩|exact ⟨trivial,trivial,trivial,trivial⟩) HCov.nil (Nat.zero_le _) (Nat.le_refl _) ⟨?_,rfl,rfl⟩;try rfl)
    ·skip
     repeat' (first
      |apply VWp.assoc
      |apply VWp.rseq
      |apply VWp.skipSeq
      |apply VWp.retSeq
      |apply VWp.blockSeq
      |apply QSeq.ret
      |apply QBlk.ret
      |apply QLoop.ret
      |apply VOps.nil
      |apply VOps.one
      |(apply VOps.take;rfl;rfl)
      |(apply VOps.drop;rfl;rfl;rfl)
      |(apply VOps.guard;rfl;rfl)
      |(apply VVal.assign;rfl)
      |(apply VVal.move;rfl)
      |(apply VVal.int;rfl;rfl;rfl)
      |(apply VVal.indexN;rfl;rfl;rfl;omega;rfl)
      |(apply VVal.load;rfl;rfl)
      |(apply VVal.pick_true;rfl;rfl)
      |(apply VVal.pick_false;rfl;rfl)
      |(apply VVal.lenF;rfl;rfl)
      |(apply VWp.condSeq_true;rfl)
      |(intro _;try (exfalso;omega)))
     all_goals first|(exfalso;omega)|(refine Done.ret rfl (.refl _) (by first|exact trivial|exact ⟨trivial,trivial,trivial⟩|exact ⟨trivial,trivial,trivial,trivial⟩) HCov.nil (Nat.zero_le _) (Nat.le_refl _) ⟨?_,rfl,rfl⟩;try rfl)
  have hP4:=hP3.trans ⟨fun hh=>hh.2,fun hh=>⟨c3,hh⟩⟩
  obtain ⟨z1,z2,z3⟩:=c3
  have htk:=take_int p (gi xs i) (gi N i).pick (by omega) (by omega) hL h hxok
  have hlv:=leave_int (srchC p) (gi xs i) (gi N i).pick (by omega) (by omega) hxok
  refine VWp.loopQ (fun k:Nat=>[(1,.p (.lst 91 (cells N) N.length)),(3,.ref 0 0),(7,.ref 2 0),(8,.vec 3 N.length 0 N.length),(9,.vec 4 N.length 0 N.length),(10,.p (.int .i64 (i:Int))),(11,.ref 5 0),(31,.p (.lst 91 (cells N) N.length)),(32,.p (.int .i64 (N.length:Int))),(33,.p (.int .i64 (i:Int))),(75,.p (.lst 3 (cells [(gi N i).yes,(gi N i).no]) 2)),(76,.p (.int .i64 2)),(77,.p (.int .i64 (k:Int)))])
   (fun k=>[(0,.box 29 ((Enc.enc p).map .p)),(2,.box 89 ((searchC p cost).map .p)),(3,.vec 86 (cells xs) N.length false),(4,.vec 4 (cells (sk seen (gi N i).yes (gi N i).no k)) N.length false),(5,.box 91 ((Enc.enc (gi N i)).map .p))]) 6 (fun k=>k≤2) (fun k=>2-k) 0 (by omega) (by omega) ⟨by omega,?_,?_⟩ ?_
  ·repeat (first|exact LCov.nil|refine LCov.same trivial rfl ?_|refine LCov.same (lt_dec rfl) rfl ?_|refine LCov.same ⟨trivial,lt_dec rfl,trivial⟩ rfl ?_|refine LCov.same ⟨trivial,lt_dec rfl,lt_dec rfl,trivial⟩ rfl ?_|refine LCov.same ⟨trivial,lt_dec rfl,lt_dec rfl,lt_dec rfl,trivial⟩ rfl ?_|refine LCov.same ⟨trivial,trivial⟩ rfl ?_|refine LCov.cons trivial rfl (.of_eq (lst_len (by simp<;>omega))) ?_)
  ·repeat (first|exact HCov.nil|(refine HCov.cons (lt_dec rfl) ?_ rfl ?_ ?_;(first|exact HB.under_of rfl|exact PVs.under_pure _ _|(simp [HB.under,PVs.under,PV.under]));(first|exact HLe.refl _|exact HLe.vec (FLes.refl _) (by simp))))
  intro k hk
  match k with
  |0 =>
   repeat' (first
    |apply VWp.assoc
    |apply VWp.rseq
    |apply VWp.region
    |apply VWp.skipSeq
    |apply VWp.blockSeq
    |apply QSeq.normal
    |apply QBlk.normal
    |apply VOps.nil
    |apply VOps.one
    |(apply VOps.take;rfl;rfl)
    |(apply VOps.guard;rfl;rfl)
    |(apply VVal.loadVL;rfl;rfl;(first|omega|(simp only [sk_len]<;>omega));exact congrArg (fun b=>some (FV.bool b)) (y3))
    |(apply VVal.storeVL (y:=true);rfl;rfl;rfl;trivial;(first|rfl|(refine congrArg (fun t=>[PV.p (FV.int _ t)]) ?_;first|omega|(simp only [Int.natCast_add,Int.natCast_mul,Int.natCast_ediv,Int.natCast_emod]<;>omega)));rfl;rfl;decide;(first|omega|(simp only [List.length_set]<;>omega)))
    |(apply VVal.assign;rfl)
    |(apply VVal.move;rfl)
    |(apply VVal.add64;rfl;rfl;omega)
    |(apply VVal.int;rfl;rfl;rfl)
    |(apply VVal.indexN;rfl;rfl;rfl;omega;rfl)
    |(apply VVal.load;rfl;rfl)
    |(apply VVal.pick_false;rfl;rfl)
    |(apply VVal.lenF;rfl;rfl)
    |(apply VVal.indexVE;rfl;rfl;rfl;rfl;omega;omega)
    |(apply VWp.condSeq_true;rfl)
    |(apply VWp.condSeq_false;rfl)
    |(intro _;try (exfalso;omega)))
   all_goals try (exfalso;omega)
   refine QLoop.normal ⟨1,by omega,by omega,⟨by omega,?_,?_⟩⟩
   ·repeat (first|exact LCov.nil|refine LCov.same trivial rfl ?_|refine LCov.same (lt_dec rfl) rfl ?_|refine LCov.same ⟨trivial,lt_dec rfl,trivial⟩ rfl ?_|refine LCov.same ⟨trivial,lt_dec rfl,lt_dec rfl,trivial⟩ rfl ?_|refine LCov.same ⟨trivial,lt_dec rfl,lt_dec rfl,lt_dec rfl,trivial⟩ rfl ?_|refine LCov.same ⟨trivial,trivial⟩ rfl ?_|refine LCov.cons trivial rfl (.of_eq (lst_len (by simp<;>omega))) ?_)
   ·repeat (first|exact HCov.nil|(refine HCov.cons (lt_dec rfl) ?_ rfl ?_ ?_;(first|exact HB.under_of rfl|exact PVs.under_pure _ _|(simp [HB.under,PVs.under,PV.under]));(first|exact HLe.refl _|exact HLe.vec (FLes.refl _) (by simp))))
  |1 =>
   repeat' (first
    |apply VWp.assoc
    |apply VWp.rseq
    |apply VWp.region
    |apply VWp.skipSeq
    |apply VWp.blockSeq
    |apply QSeq.normal
    |apply QBlk.normal
    |apply VOps.nil
    |apply VOps.one
    |(apply VOps.take;rfl;rfl)
    |(apply VOps.guard;rfl;rfl)
    |(apply VVal.loadVL;rfl;rfl;(first|omega|(simp only [sk_len]<;>omega));exact congrArg (fun b=>some (FV.bool b)) (z3))
    |(apply VVal.storeVL (y:=true);rfl;rfl;rfl;trivial;(first|rfl|(refine congrArg (fun t=>[PV.p (FV.int _ t)]) ?_;first|omega|(simp only [Int.natCast_add,Int.natCast_mul,Int.natCast_ediv,Int.natCast_emod]<;>omega)));rfl;rfl;decide;(first|omega|(simp only [List.length_set]<;>omega)))
    |(apply VVal.assign;rfl)
    |(apply VVal.move;rfl)
    |(apply VVal.add64;rfl;rfl;omega)
    |(apply VVal.int;rfl;rfl;rfl)
    |(apply VVal.indexN;rfl;rfl;rfl;omega;rfl)
    |(apply VVal.load;rfl;rfl)
    |(apply VVal.pick_false;rfl;rfl)
    |(apply VVal.lenF;rfl;rfl)
    |(apply VVal.indexVE;rfl;rfl;rfl;rfl;omega;omega)
    |(apply VWp.condSeq_true;rfl)
    |(apply VWp.condSeq_false;rfl)
    |(intro _;try (exfalso;omega)))
   all_goals try (exfalso;omega)
   refine QLoop.normal ⟨2,by omega,by omega,⟨by omega,?_,?_⟩⟩
   ·repeat (first|exact LCov.nil|refine LCov.same trivial rfl ?_|refine LCov.same (lt_dec rfl) rfl ?_|refine LCov.same ⟨trivial,lt_dec rfl,trivial⟩ rfl ?_|refine LCov.same ⟨trivial,lt_dec rfl,lt_dec rfl,trivial⟩ rfl ?_|refine LCov.same ⟨trivial,lt_dec rfl,lt_dec rfl,lt_dec rfl,trivial⟩ rfl ?_|refine LCov.same ⟨trivial,trivial⟩ rfl ?_|refine LCov.cons trivial rfl (.of_eq (lst_len (by simp<;>omega))) ?_)
   ·repeat (first|exact HCov.nil|(refine HCov.cons (lt_dec rfl) ?_ rfl ?_ ?_;(first|exact HB.under_of rfl|exact PVs.under_pure _ _|(simp [HB.under,PVs.under,PV.under]));(first|exact HLe.refl _|exact HLe.vec (FLes.refl _) (by simp))))
  |k+2 =>
   obtain rfl:k=0:=by omega
   repeat' (first
    |(refine VOpsD.atIdx 23 ?_;apply VOpsD.weak [.tmp 104];decide +kernel;rfl;rfl;(first|exact VOwn.ref rfl|exact VOwn.vec rfl|exact VOwn.eref rfl);decide +kernel;rfl)
    |apply VWp.rseq
    |apply VWp.region
    |apply VWp.regionD
    |apply VWp.exitSeq
    |apply QSeq.normal
    |apply QBlk.normal
    |apply QBlk.exit
    |apply QLoop.exit
    |apply VOps.nil
    |apply VOpsD.nil
    |apply VOps.one
    |(apply VOpsD.bar;decide +kernel)
    |apply VOpsD.quiet
    |(apply VVal.lendF (htk);rfl;rfl;rfl;exact .of_eq rfl;rfl)
    |(apply VVal.lendF (hlv);rfl;rfl;rfl;exact .of_eq rfl;rfl)
    |(apply VVal.storeVL (y:=takeS p.sets (gi xs i) (gi N i).pick.toNat);rfl;rfl;rfl;trivial;(first|rfl|(refine congrArg (fun t=>[PV.p (FV.int _ t)]) ?_;first|omega|(simp only [Int.natCast_add,Int.natCast_mul,Int.natCast_ediv,Int.natCast_emod]<;>omega)));rfl;rfl;decide;(first|omega|(simp only [List.length_set]<;>omega)))
    |(apply VVal.storeVL (y:=leaveS (gi xs i) (gi N i).pick.toNat);rfl;rfl;rfl;trivial;(first|rfl|(refine congrArg (fun t=>[PV.p (FV.int _ t)]) ?_;first|omega|(simp only [Int.natCast_add,Int.natCast_mul,Int.natCast_ediv,Int.natCast_emod]<;>omega)));rfl;rfl;decide;(first|omega|(simp only [List.length_set]<;>omega)))
    |(apply VVal.move;rfl)
    |(apply VVal.add64;rfl;rfl;omega)
    |(apply VVal.int;rfl;rfl;rfl)
    |(apply VVal.loadVL;rfl;rfl;omega;rfl)
    |(apply VVal.load;rfl;rfl)
    |(apply VVal.fieldB;rfl;rfl;rfl)
    |(apply VVal.indexVN;rfl;rfl;rfl;rfl;omega)
    |(apply VVal.indexVE;rfl;rfl;rfl;rfl;omega;omega)
    |(apply VWp.condSeq_false;rfl))
   all_goals try (exfalso;omega)
   rw [hpe,Int.toNat_natCast]
   refine QLoop.normal ⟨(i+1,(seen.set (gi N i).yes.toNat true).set (gi N i).no.toNat true,(xs.set (gi N i).yes.toNat (takeS p.sets (gi xs i) pk)).set (gi N i).no.toNat (leaveS (gi xs i) pk)),⟨by simp only;omega,by simp only [List.length_set];exact hl1,by simp only [List.length_set];exact hl2,(sts.set (gi N i).yes.toNat ((gi sts i).set pk 1)).set (gi N i).no.toNat ((gi sts i).set pk 2),by simp only [List.length_set];exact hl3,?_,by simp only;rw [show N.length-(i+1)=d by omega];exact hP4⟩,by simp only;omega,⟨by omega,?_,?_⟩⟩
   ·intro j hj
    simp only
    rw [gis (by simp only [List.length_set];omega),gis (by omega),gis (by simp only [List.length_set];omega),gis (by omega)]
    by_cases e1:j=(gi N i).no.toNat
    ·rw [if_pos e1,if_pos e1];exact hsx.leave h hL hm h00
    ·rw [if_neg e1,if_neg e1]
     by_cases e2:j=(gi N i).yes.toNat
     ·rw [if_pos e2,if_pos e2];exact hsx.take h hL hm h00
     ·rw [if_neg e2,if_neg e2];exact hsr j hj
   ·repeat (first|exact LCov.nil|refine LCov.same trivial rfl ?_|refine LCov.same (lt_dec rfl) rfl ?_|refine LCov.same ⟨trivial,lt_dec rfl,trivial⟩ rfl ?_|refine LCov.same ⟨trivial,lt_dec rfl,lt_dec rfl,trivial⟩ rfl ?_|refine LCov.same ⟨trivial,lt_dec rfl,lt_dec rfl,lt_dec rfl,trivial⟩ rfl ?_|refine LCov.same ⟨trivial,trivial⟩ rfl ?_|refine LCov.cons trivial rfl (.of_eq (lst_len (by simp<;>omega))) ?_)
   ·repeat (first|exact HCov.nil|(refine HCov.cons (lt_dec rfl) ?_ rfl ?_ ?_;(first|exact HB.under_of rfl|exact PVs.under_pure _ _|(simp [HB.under,PVs.under,PV.under]));(first|exact HLe.refl _|exact HLe.vec (FLes.refl _) (by simp))))
 ·rw [if_neg hpk] at hP1
  by_cases hp1:(gi N i).pick=-1
  ·have hbs:=bounds_spec p n hp hn hL h hE cost (gi xs i) hxok (gi N i) hwi
   have hbi:=bnd_iff (cost:=cost) (y:=gi N i) hE hsx
   by_cases hb:bndB p.sets n cost (gi xs i) (gi N i)
   ·rw [decide_eq_true hb] at hbs
    have hP2:=hP1.trans ⟨fun hh=>hh.2,fun hh=>⟨.inr ⟨hp1,hbi.2 hb⟩,hh⟩⟩
    repeat' (first
     |apply VWp.assoc
     |apply VWp.rseq
     |apply VWp.rseqD
     |apply VWp.region
     |apply VWp.skipSeq
     |apply VWp.blockSeq
     |apply QSeq.normal
     |apply QBlk.normal
     |apply VWp.skip
     |apply VWp.blockQ
     |apply VOps.nil
     |apply VOpsD.nil
     |apply VOps.one
     |(apply VOpsD.bar;decide +kernel)
     |apply VOpsD.quiet
     |(apply VVal.loadVL;rfl;rfl;(first|omega|(simp only [sk_len]<;>omega));exact congrArg (fun b=>some (FV.bool b)) (hseen))
     |(apply VVal.lendF (hbs);rfl;rfl;rfl;exact .of_eq rfl;rfl)
     |(apply VVal.assign;rfl)
     |(apply VVal.move;rfl)
     |(apply VVal.add64;rfl;rfl;omega)
     |(apply VVal.int;rfl;rfl;rfl)
     |(apply VVal.indexN;rfl;rfl;rfl;omega;rfl)
     |(apply VVal.loadVL;rfl;rfl;omega;rfl)
     |(apply VVal.load;rfl;rfl)
     |(apply VVal.fieldB;rfl;rfl;rfl)
     |(apply VVal.alloc;rfl)
     |(apply VVal.storeB;rfl;rfl;rfl;trivial;rfl;rfl;exact lt_dec rfl;exact le_dec rfl)
     |(apply VVal.indexVN;rfl;rfl;rfl;rfl;omega)
     |(apply VVal.not;rfl)
     |(apply VWp.condSeq_false;rfl)
     |(apply VWp.condSeq_dec;rfl)
     |(apply VWp.cond_false;rfl)
     |(apply VWp.cond_dec;rfl)
     |(intro _;try (exfalso;omega)))
    all_goals try (exfalso;omega)
    refine QLoop.normal ⟨(i+1,seen,xs),⟨by simp only;omega,hl1,hl2,sts,hl3,hsr,by simp only;rw [show N.length-(i+1)=d by omega];exact hP2⟩,by simp only;omega,⟨by omega,?_,?_⟩⟩
    ·repeat (first|exact LCov.nil|refine LCov.same trivial rfl ?_|refine LCov.same (lt_dec rfl) rfl ?_|refine LCov.same ⟨trivial,lt_dec rfl,trivial⟩ rfl ?_|refine LCov.same ⟨trivial,lt_dec rfl,lt_dec rfl,trivial⟩ rfl ?_|refine LCov.same ⟨trivial,lt_dec rfl,lt_dec rfl,lt_dec rfl,trivial⟩ rfl ?_|refine LCov.same ⟨trivial,trivial⟩ rfl ?_|refine LCov.cons trivial rfl (.of_eq (lst_len (by simp<;>omega))) ?_)
    ·repeat (first|exact HCov.nil|(refine HCov.cons (lt_dec rfl) ?_ rfl ?_ ?_;(first|exact HB.under_of rfl|exact PVs.under_pure _ _|(simp [HB.under,PVs.under,PV.under]));(first|exact HLe.refl _|exact HLe.vec (FLes.refl _) (by simp))))
   ·rw [decide_eq_false hb] at hbs
    have hno:¬ P:=fun hh=>by
     rcases (hP1.1 hh).1 with h1|h1
     ·omega
     ·exact hb (hbi.1 h1.2)
    rw [decide_eq_false hno]
    repeat' (first
     |apply VWp.assoc
     |apply VWp.rseq
     |apply VWp.rseqD
     |apply VWp.skipSeq
     |apply VWp.blockSeq
     |apply QSeq.ret
     |apply QBlk.ret
     |apply QLoop.ret
     |apply VWp.ret
     |apply VWp.blockQ
     |apply VOps.nil
     |apply VOpsD.nil
     |apply VOps.one
     |(apply VOpsD.bar;decide +kernel)
     |apply VOpsD.quiet
     |(apply VVal.loadVL;rfl;rfl;(first|omega|(simp only [sk_len]<;>omega));exact congrArg (fun b=>some (FV.bool b)) (hseen))
     |(apply VVal.lendF (hbs);rfl;rfl;rfl;exact .of_eq rfl;rfl)
     |(apply VVal.assign;rfl)
     |(apply VVal.move;rfl)
     |(apply VVal.int;rfl;rfl;rfl)
     |(apply VVal.indexN;rfl;rfl;rfl;omega;rfl)
     |(apply VVal.loadVL;rfl;rfl;omega;rfl)
     |(apply VVal.load;rfl;rfl)
     |(apply VVal.fieldB;rfl;rfl;rfl)
     |(apply VVal.alloc;rfl)
     |(apply VVal.storeB;rfl;rfl;rfl;trivial;rfl;rfl;exact lt_dec rfl;exact le_dec rfl)
     |(apply VVal.indexVN;rfl;rfl;rfl;rfl;omega)
     |(apply VVal.not;rfl)
     |(apply VWp.condSeq_false;rfl)
     |(apply VWp.condSeq_dec;rfl)
     |(apply VWp.cond_true;rfl)
     |(apply VWp.cond_dec;rfl)
     |(intro _;try (exfalso;omega)))
    all_goals first|(exfalso;omega)|(refine Done.ret rfl (.refl _) (by first|exact trivial|exact ⟨trivial,trivial,trivial⟩|exact ⟨trivial,trivial,trivial,trivial⟩) HCov.nil (Nat.zero_le _) (Nat.le_refl _) ⟨?_,rfl,rfl⟩;try rfl)
  ·by_cases hp2:(gi N i).pick=-2
   case neg =>
    have hno:¬ P:=fun hh=>by
     rcases (hP1.1 hh).1 with h1|h1
     ·exact hp2 h1.1
     ·exact hp1 h1.1
    rw [decide_eq_false hno]
    repeat' (first
     |apply VWp.assoc
     |apply VWp.rseq
     |apply VWp.rseqD
     |apply VWp.skipSeq
     |apply VWp.blockSeq
     |apply QSeq.ret
     |apply QBlk.ret
     |apply QLoop.ret
     |apply VWp.ret
     |apply VWp.blockQ
     |apply VOps.nil
     |apply VOpsD.nil
     |apply VOps.one
     |(apply VOpsD.bar;decide +kernel)
     |(apply VOpsD.drop;rfl;rfl;rfl)
     |(apply VOpsD.guard;rfl;rfl)
     |(apply VVal.loadVL;rfl;rfl;(first|omega|(simp only [sk_len]<;>omega));exact congrArg (fun b=>some (FV.bool b)) (hseen))
     |(apply VVal.assign;rfl)
     |(apply VVal.move;rfl)
     |(apply VVal.int;rfl;rfl;rfl)
     |(apply VVal.indexN;rfl;rfl;rfl;omega;rfl)
     |(apply VVal.load;rfl;rfl)
     |(apply VVal.pick_true;rfl;rfl)
     |(apply VVal.fieldB;rfl;rfl;rfl)
     |(apply VVal.alloc;rfl)
     |(apply VVal.storeB;rfl;rfl;rfl;trivial;rfl;rfl;exact lt_dec rfl;exact le_dec rfl)
     |(apply VVal.indexVN;rfl;rfl;rfl;rfl;omega)
     |(apply VVal.not;rfl)
     |(apply VWp.condSeq_false;rfl)
     |(apply VWp.condSeq_dec;rfl)
     |(apply VWp.cond_true;rfl)
     |(apply VWp.cond_dec;rfl)
     |(intro _;try (exfalso;omega)))
    all_goals first|(exfalso;omega)|(refine Done.ret rfl (.refl _) (by first|exact trivial|exact ⟨trivial,trivial,trivial⟩|exact ⟨trivial,trivial,trivial,trivial⟩) HCov.nil (Nat.zero_le _) (Nat.le_refl _) ⟨?_,rfl,rfl⟩;try rfl)
   have hg:=gap_iff (n:=n) (e:=(gi N i).bound) h hsx
   have hmod:=fun g=>Nat.mod_lt ((gi xs i).cov / 2 ^ g) (show 2>0 by omega)
   have hdl:=fun g=>Nat.div_le_self (gi xs i).cov (2 ^ g)
   by_cases hgap:gapP p.sets n (gi N i).bound (gi sts i)
   ·have hP2:=hP1.trans ⟨fun hh=>hh.2,fun hh=>⟨.inl ⟨hp2,hgap⟩,hh⟩⟩
    obtain ⟨⟨b1,b2⟩,b3,b4⟩:=hg.1 hgap
    obtain ⟨g,hge⟩:∃ g:Nat,(gi N i).bound=g:=⟨(gi N i).bound.toNat,by omega⟩
    have hf:=free_spec p (gi xs i) (gi N i).bound (by omega) hL h hxok
    have hf0:(freeK p.sets (gi xs i) (gi N i).bound.toNat p.sets.length).length=0:=by rw [b4];rfl
    rw [hge,Int.toNat_natCast] at b3
    have b5:=(bit_mod0 _ _).1 b3
    have b6:=hdl g
    repeat' (first
     |apply VWp.assoc
     |apply VWp.rseq
     |apply VWp.rseqD
     |apply VWp.region
     |apply VWp.skipSeq
     |apply VWp.blockSeq
     |apply QSeq.normal
     |apply QBlk.normal
     |apply VWp.skip
     |apply VWp.blockQ
     |apply VOps.nil
     |apply VOpsD.nil
     |apply VOps.one
     |(apply VOpsD.bar;decide +kernel)
     |(apply VOpsD.quietTake;rfl;rfl)
     |(apply VOpsD.guard;rfl;rfl)
     |(apply VVal.loadVL;rfl;rfl;(first|omega|(simp only [sk_len]<;>omega));exact congrArg (fun b=>some (FV.bool b)) (hseen))
     |(apply VVal.lendV (hf) (flat_ints _);rfl;rfl;exact .of_eq rfl;rfl)
     |(apply VVal.fieldV;rfl;rfl;rfl)
     |(apply VVal.loadVF;rfl;rfl;omega;decide;rfl)
     |(apply VVal.shrE g;rfl;rfl;exact hge;(simp only [IntKind.bits];omega))
     |(apply VVal.and1U;rfl;rfl;omega)
     |(apply VVal.assign;rfl)
     |(apply VVal.move;rfl)
     |(apply VVal.add64;rfl;rfl;omega)
     |(apply VVal.int;rfl;rfl;rfl)
     |(apply VVal.indexN;rfl;rfl;rfl;omega;rfl)
     |(apply VVal.loadVL;rfl;rfl;omega;rfl)
     |(apply VVal.load;rfl;rfl)
     |(apply VVal.pick_false;rfl;rfl)
     |(apply VVal.lenV;rfl;rfl;rfl)
     |(apply VVal.fieldB;rfl;rfl;rfl)
     |(apply VVal.alloc;rfl)
     |(apply VVal.storeB;rfl;rfl;rfl;trivial;rfl;rfl;exact lt_dec rfl;exact le_dec rfl)
     |(apply VVal.indexVN;rfl;rfl;rfl;rfl;omega)
     |(apply VVal.not;rfl)
     |(apply VWp.condSeq_false;rfl)
     |(apply VWp.condSeq_dec;rfl)
     |(apply VWp.cond_dec;rfl)
     |(intro _;try (exfalso;omega)))
    all_goals try (exfalso;omega)
    refine QLoop.normal ⟨(i+1,seen,xs),⟨by simp only;omega,hl1,hl2,sts,hl3,hsr,by simp only;rw [show N.length-(i+1)=d by omega];exact hP2⟩,by simp only;omega,⟨by omega,?_,?_⟩⟩
    ·repeat (first|exact LCov.nil|refine LCov.same trivial rfl ?_|refine LCov.same (lt_dec rfl) rfl ?_|refine LCov.same ⟨trivial,lt_dec rfl,trivial⟩ rfl ?_|refine LCov.same ⟨trivial,lt_dec rfl,lt_dec rfl,trivial⟩ rfl ?_|refine LCov.same ⟨trivial,lt_dec rfl,lt_dec rfl,lt_dec rfl,trivial⟩ rfl ?_|refine LCov.same ⟨trivial,trivial⟩ rfl ?_|refine LCov.cons trivial rfl (.of_eq (lst_len (by simp<;>omega))) ?_)
    ·repeat (first|exact HCov.nil|(refine HCov.cons (lt_dec rfl) ?_ rfl ?_ ?_;(first|exact HB.under_of rfl|exact PVs.under_pure _ _|(simp [HB.under,PVs.under,PV.under]));(first|exact HLe.refl _|exact HLe.vec (FLes.refl _) (by simp))))
   ·have hno:¬ P:=fun hh=>by
     rcases (hP1.1 hh).1 with h1|h1
     ·exact hgap h1.2
     ·exact hp1 h1.1
    rw [decide_eq_false hno]
    have hgn:=fun a b c=>hgap (hg.2 ⟨a,b,c⟩)
    by_cases b1:0≤(gi N i).bound∧(gi N i).bound<n
    case neg =>
     repeat' (first
      |apply VWp.assoc
      |apply VWp.rseq
      |apply VWp.rseqD
      |apply VWp.skipSeq
      |apply VWp.blockSeq
      |apply QSeq.ret
      |apply QBlk.ret
      |apply QLoop.ret
      |apply VWp.ret
      |apply VWp.blockQ
      |apply VOps.nil
      |apply VOpsD.nil
      |apply VOps.one
      |(apply VOpsD.bar;decide +kernel)
      |(apply VOpsD.quietTake;rfl;rfl)
      |(apply VOpsD.drop;rfl;rfl;rfl)
      |(apply VOpsD.guard;rfl;rfl)
      |(apply VVal.loadVL;rfl;rfl;(first|omega|(simp only [sk_len]<;>omega));exact congrArg (fun b=>some (FV.bool b)) (hseen))
      |(apply VVal.assign;rfl)
      |(apply VVal.move;rfl)
      |(apply VVal.int;rfl;rfl;rfl)
      |(apply VVal.indexN;rfl;rfl;rfl;omega;rfl)
      |(apply VVal.load;rfl;rfl)
      |(apply VVal.pick_true;rfl;rfl)
      |(apply VVal.pick_false;rfl;rfl)
      |(apply VVal.fieldB;rfl;rfl;rfl)
      |(apply VVal.alloc;rfl)
      |(apply VVal.storeB;rfl;rfl;rfl;trivial;rfl;rfl;exact lt_dec rfl;exact le_dec rfl)
      |(apply VVal.indexVN;rfl;rfl;rfl;rfl;omega)
      |(apply VVal.not;rfl)
      |(apply VWp.condSeq_false;rfl)
      |(apply VWp.condSeq_dec;rfl)
      |(apply VWp.cond_true;rfl)
      |(apply VWp.cond_dec;rfl)
      |(intro _;try (exfalso;omega)))
     all_goals first|(exfalso;omega)|(refine Done.ret rfl (.refl _) (by first|exact trivial|exact ⟨trivial,trivial,trivial⟩|exact ⟨trivial,trivial,trivial,trivial⟩) HCov.nil (Nat.zero_le _) (Nat.le_refl _) ⟨?_,rfl,rfl⟩;try rfl)
    obtain ⟨g,hge⟩:∃ g:Nat,(gi N i).bound=g:=⟨(gi N i).bound.toNat,by omega⟩
    have hf:=free_spec p (gi xs i) (gi N i).bound (by omega) hL h hxok
    have b6:=hdl g
    by_cases b3:(gi xs i).cov.testBit g=true
    ·have b5:=(bit_mod _ _).1 b3
     repeat' (first
      |apply VWp.assoc
      |apply VWp.rseq
      |apply VWp.rseqD
      |apply VWp.skipSeq
      |apply VWp.blockSeq
      |apply QSeq.ret
      |apply QBlk.ret
      |apply QLoop.ret
      |apply VWp.ret
      |apply VWp.blockQ
      |apply VOps.nil
      |apply VOpsD.nil
      |apply VOps.one
      |(apply VOpsD.bar;decide +kernel)
      |(apply VOpsD.quietTake;rfl;rfl)
      |(apply VOpsD.drop;rfl;rfl;rfl)
      |(apply VOpsD.guard;rfl;rfl)
      |(apply VVal.loadVL;rfl;rfl;(first|omega|(simp only [sk_len]<;>omega));exact congrArg (fun b=>some (FV.bool b)) (hseen))
      |(apply VVal.fieldV;rfl;rfl;rfl)
      |(apply VVal.loadVF;rfl;rfl;omega;decide;rfl)
      |(apply VVal.shrE g;rfl;rfl;exact hge;(simp only [IntKind.bits];omega))
      |(apply VVal.and1U;rfl;rfl;omega)
      |(apply VVal.assign;rfl)
      |(apply VVal.move;rfl)
      |(apply VVal.int;rfl;rfl;rfl)
      |(apply VVal.indexN;rfl;rfl;rfl;omega;rfl)
      |(apply VVal.load;rfl;rfl)
      |(apply VVal.pick_true;rfl;rfl)
      |(apply VVal.pick_false;rfl;rfl)
      |(apply VVal.fieldB;rfl;rfl;rfl)
      |(apply VVal.alloc;rfl)
      |(apply VVal.storeB;rfl;rfl;rfl;trivial;rfl;rfl;exact lt_dec rfl;exact le_dec rfl)
      |(apply VVal.indexVN;rfl;rfl;rfl;rfl;omega)
      |(apply VVal.not;rfl)
      |(apply VWp.condSeq_false;rfl)
      |(apply VWp.condSeq_dec;rfl)
      |(apply VWp.cond_true;rfl)
      |(apply VWp.cond_dec;rfl)
      |(intro _;try (exfalso;omega)))
     all_goals first|(exfalso;omega)|(refine Done.ret rfl (.refl _) (by first|exact trivial|exact ⟨trivial,trivial,trivial⟩|exact ⟨trivial,trivial,trivial,trivial⟩) HCov.nil (Nat.zero_le _) (Nat.le_refl _) ⟨?_,rfl,rfl⟩;try rfl)
    ·have b3:(gi xs i).cov.testBit g=false:=by simpa using b3
     have b5:=(bit_mod0 _ _).1 b3
     have hf0:0<(freeK p.sets (gi xs i) (gi N i).bound.toNat p.sets.length).length:=List.length_pos_iff.2 fun e=>hgn b1 (by rw [hge,Int.toNat_natCast];exact b3) e
     repeat' (first
      |apply VWp.assoc
      |apply VWp.rseq
      |apply VWp.rseqD
      |apply VWp.skipSeq
      |apply VWp.blockSeq
      |apply QSeq.ret
      |apply QBlk.ret
      |apply QLoop.ret
      |apply VWp.ret
      |apply VWp.blockQ
      |apply VOps.nil
      |apply VOpsD.nil
      |apply VOps.one
      |(apply VOpsD.bar;decide +kernel)
      |(apply VOpsD.quietTake;rfl;rfl)
      |(apply VOpsD.guard;rfl;rfl)
      |(apply VVal.loadVL;rfl;rfl;(first|omega|(simp only [sk_len]<;>omega));exact congrArg (fun b=>some (FV.bool b)) (hseen))
      |(apply VVal.lendV (hf) (flat_ints _);rfl;rfl;exact .of_eq rfl;rfl)
      |(apply VVal.fieldV;rfl;rfl;rfl)
      |(apply VVal.loadVF;rfl;rfl;omega;decide;rfl)
      |(apply VVal.shrE g;rfl;rfl;exact hge;(simp only [IntKind.bits];omega))
      |(apply VVal.and1U;rfl;rfl;omega)
      |(apply VVal.assign;rfl)
      |(apply VVal.move;rfl)
      |(apply VVal.int;rfl;rfl;rfl)
      |(apply VVal.indexN;rfl;rfl;rfl;omega;rfl)
      |(apply VVal.loadVL;rfl;rfl;omega;rfl)
      |(apply VVal.load;rfl;rfl)
      |(apply VVal.pick_false;rfl;rfl)
      |(apply VVal.lenV;rfl;rfl;rfl)
      |(apply VVal.fieldB;rfl;rfl;rfl)
      |(apply VVal.alloc;rfl)
      |(apply VVal.storeB;rfl;rfl;rfl;trivial;rfl;rfl;exact lt_dec rfl;exact le_dec rfl)
      |(apply VVal.indexVN;rfl;rfl;rfl;rfl;omega)
      |(apply VVal.not;rfl)
      |(apply VWp.condSeq_false;rfl)
      |(apply VWp.condSeq_dec;rfl)
      |(apply VWp.cond_dec;rfl)
      |(intro _;try (exfalso;omega)))
     all_goals first|(exfalso;omega)|(refine Done.ret rfl (.refl _) (by first|exact trivial|exact ⟨trivial,trivial,trivial⟩|exact ⟨trivial,trivial,trivial,trivial⟩) HCov.nil (Nat.zero_le _) (Nat.le_refl _) ⟨?_,rfl,rfl⟩;try rfl)
end Go.Proofs.YtmfnchgkffhpfaaDoor
