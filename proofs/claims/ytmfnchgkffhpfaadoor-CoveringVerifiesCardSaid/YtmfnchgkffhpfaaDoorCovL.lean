/-
  What Missing, Cost and Irredundant return; the reference's Irredundant. Conditions: in each statement.
-/
import Derived.Test.YtmfnchgkffhpfaaDoorCovK
set_option linter.unusedSimpArgs false
set_option linter.unusedVariables false
namespace Go.Proofs.YtmfnchgkffhpfaaDoor
open Go Go.Am Go.Vm
attribute [local irreducible] VVal VOps VOpsD VWp VCalls VFun VFunV QSeq QBlk QLoop Vm.Done DoneV
theorem rsg_inv {l:List Int} {limit:Int}:∀ d k,l.length-k=d→rsg l limit k=0→(∀ i,k≤i→i<l.length→0≤gi l i∧gi l i<limit)∧(∀ i,k≤i→0<i→i<l.length→gi l (i-1)<gi l i)
 |0,k,hd,_=>⟨fun i h1 h2=>by omega,fun i h1 h2 h3=>by omega⟩
 |d+1,k,hd,h=>by
  rw [rsg,if_pos (by omega)] at h
  split at h
  ·cases h
  ·rename_i h1
   split at h
   ·cases h
   ·rename_i h2
    obtain ⟨h3,h4⟩:=rsg_inv d (k+1) (by omega) h
    refine ⟨fun i hi hl=>?_,fun i hi h0 hl=>?_⟩
    ·by_cases e:i=k
     ·subst e;omega
     ·exact h3 i (by omega) hl
    ·by_cases e:i=k
     ·subst e;omega
     ·exact h4 i (by omega) h0 hl
theorem rsg_in {l:List Int} {limit:Int} (h:rsg l limit 0=0):∀ i,i<l.length→0≤gi l i∧gi l i<limit:=fun i hi=>(rsg_inv _ 0 rfl h).1 i (by omega) hi
theorem rsg_lt {l:List Int} {limit:Int} (h:rsg l limit 0=0):∀ j i,i<j→j<l.length→gi l i<gi l j
 |0,i,hi,_=>by omega
 |j+1,i,hi,hj=>by
  have h1:=(rsg_inv _ 0 rfl h).2 (j+1) (by omega) (by omega) hj
  rw [Nat.add_sub_cancel] at h1
  by_cases e:i=j
  ·subst e;exact h1
  ·have:=rsg_lt h j i (by omega) (by omega);omega
noncomputable def irrT (L:List CSet) (n:Nat) (s:List Int):Nat→List Int
 |0=>[]
 |k+1=>open Classical in if missK L (s.take (s.length-1-k)++irrT L n s k) n=[] then irrT L n s k else gi s (s.length-1-k)::irrT L n s k
noncomputable def irrO (L:List CSet) (n:Nat) (s:List Int) (k:Nat):List Int:=s.take (s.length-k)++irrT L n s k
theorem irrT_mem (L:List CSet) (n:Nat) (s:List Int):∀ k,k≤s.length→∀ x,x∈irrT L n s k→∃ j,s.length-k≤j∧j<s.length∧x=gi s j
 |0,_,x,h=>by simp [irrT] at h
 |k+1,hk,x,h=>by
  simp only [irrT] at h
  split at h
  ·obtain ⟨j,h1,h2⟩:=irrT_mem L n s k (by omega) x h;exact ⟨j,by omega,h2⟩
  ·rcases List.mem_cons.1 h with h|h
   ·exact ⟨s.length-1-k,by omega,by omega,h⟩
   ·obtain ⟨j,h1,h2⟩:=irrT_mem L n s k (by omega) x h;exact ⟨j,by omega,h2⟩
theorem irrT_len (L:List CSet) (n:Nat) (s:List Int):∀ k,(irrT L n s k).length≤k
 |0=>by simp [irrT]
 |k+1=>by
  have:=irrT_len L n s k
  simp only [irrT]
  split
  ·omega
  ·simp;omega
noncomputable def irrR (L:List CSet) (n:Nat) (s:List Int) (k:Nat):List Int:=s.take (s.length-1-k)++irrT L n s k
theorem irrO_eq (L:List CSet) (n:Nat) (s:List Int) {k:Nat} (hk:k<s.length):irrO L n s k=s.take (s.length-1-k)++gi s (s.length-1-k)::irrT L n s k:=by
 unfold irrO
 have e:s.length-k=(s.length-1-k)+1:=by omega
 rw [e,take_succ_gi (by omega),List.append_assoc];rfl
theorem irrO_len (L:List CSet) (n:Nat) (s:List Int) {k:Nat} (hk:k<s.length):(irrO L n s k).length=(irrR L n s k).length+1:=by
 rw [irrO_eq L n s hk]
 unfold irrR
 simp only [List.length_append,List.length_cons];omega
theorem irrO_le (L:List CSet) (n:Nat) (s:List Int) {k:Nat} (hk:k≤s.length):(irrO L n s k).length≤s.length:=by
 unfold irrO
 have:=irrT_len L n s k
 rw [List.length_append,List.length_take];omega
theorem irrO_step (L:List CSet) (n:Nat) (s:List Int) {k:Nat} (hk:k<s.length):irrO L n s (k+1)=if missK L (irrR L n s k) n=[] then irrR L n s k else irrO L n s k:=by
 have e:s.length-(k+1)=s.length-1-k:=by omega
 by_cases h:missK L (irrR L n s k) n=[]
 ·rw [if_pos h]
  unfold irrO irrR at *
  simp only [irrT]
  rw [if_pos h,e]
 ·rw [if_neg h,irrO_eq L n s hk]
  unfold irrO irrR at *
  simp only [irrT]
  rw [if_neg h,e]
theorem irrO_del (L:List CSet) (n:Nat) (s:List Int) {k:Nat} (hk:k<s.length) :
 ((irrO L n s k).take (s.length-1-k)++(irrO L n s k).drop (s.length-1-k+1)++[0]).take ((irrO L n s k).length-1)=irrR L n s k:=by
 have h1:(irrO L n s k).take (s.length-1-k)++(irrO L n s k).drop (s.length-1-k+1)=irrR L n s k:=by
  rw [irrO_eq L n s hk]
  have hl:(s.take (s.length-1-k)).length=s.length-1-k:=by rw [List.length_take];omega
  unfold irrR
  rw [List.take_append_of_le_length (by omega),List.take_of_length_le (by omega)]
  congr 1
  rw [List.drop_append,List.drop_of_length_le (by omega),hl,List.nil_append]
  rw [show s.length-1-k+1-(s.length-1-k)=1 by omega];rfl
 rw [h1,irrO_len L n s hk,Nat.add_sub_cancel,List.take_append_of_le_length (Nat.le_refl _),List.take_length]
theorem gi_append_mem {l:List Int} {i:Nat} (h:i<l.length):gi l i∈l:=gi_mem h
theorem irrR_in {L:List CSet} {n:Nat} {s:List Int} {m:Int} (hs:∀ i,i<s.length→0≤gi s i∧gi s i<m) {k:Nat} (hk:k<s.length):∀ i,i<(irrR L n s k).length→0≤gi (irrR L n s k) i∧gi (irrR L n s k) i<m:=fun i hi=>by
 have hm:=gi_mem hi
 unfold irrR at hm ⊢
 rcases List.mem_append.1 hm with h|h
 ·obtain ⟨j,hj,e⟩:=List.getElem_of_mem (List.mem_of_mem_take h)
  have:=hs j hj
  rw [gi_eq hj,e] at this
  exact this
 ·obtain ⟨j,h1,h2,h3⟩:=irrT_mem L n s k (by omega) _ h
  rw [h3];exact hs j h2
theorem irr_filter {L:List CSet} {n:Nat} {s:List Int} (hs:∀ j i,i<j→j<s.length→gi s i<gi s j) {k:Nat} (hk:k<s.length):(irrO L n s k).filter (fun x=>decide (x≠gi s (s.length-1-k)))=irrR L n s k:=by
 rw [irrO_eq L n s hk,List.filter_append,List.filter_cons]
 rw [if_neg (by simp)]
 unfold irrR
 congr 1
 ·rw [List.filter_eq_self]
  intro x hx
  obtain ⟨j,hj,e⟩:=List.getElem_of_mem hx
  rw [List.length_take] at hj
  have h1:=hs (s.length-1-k) j (by omega) (by omega)
  rw [gi_eq (show j<s.length by omega),← List.getElem_take (h:=by rw [List.length_take];omega) (j:=s.length-1-k),e] at h1
  simp;omega
 ·rw [List.filter_eq_self]
  intro x hx
  obtain ⟨j,h1,h2,h3⟩:=irrT_mem L n s k (by omega) x hx
  have:=hs j (s.length-1-k) (by omega) h2
  simp;omega
theorem rfs2 {a b:Int}:∀ m F us,RFs m F [.int .i64 a,.int .i64 b] us→us=[.int .i64 a,.int .i64 b]:=fun m F us h=>by
 cases h with
 |cons h1 t=>cases t with|cons h2 t=>cases t;cases h1;cases h2;rfl
set_option maxRecDepth 100000 in
theorem cloneI_spec (e:TypeId) (l:List Int) (h0:0<l.length) (h1:l.length<1000):VFunV env 43 [.lst e (cells l) l.length] 3 (cells l) l.length false:=by
 refine VFunV.enter (env_none (by decide)) Tryd.func43 rfl (by kernel_rfl) (by simp [Tryd.ntmps43]) ?_
 repeat' (first
  |apply VWp.assoc
  |apply VWp.rseq
  |apply VWp.skipSeq
  |apply VWp.ret
  |apply VOps.nil
  |apply VOps.one
  |(apply VVal.eqNilF;rfl;rfl;rfl;exact h0)
  |(apply VVal.assign;rfl)
  |(apply VVal.move;rfl)
  |(apply VVal.buildSlice;rfl;rfl;rfl;decide;rfl;rfl;rfl)
  |(apply VVal.appendL0;rfl;rfl;rfl;(first|rfl|omega|(simp only [List.length_take,List.length_drop,List.length_append,List.length_singleton,List.length_cons,List.length_nil]<;>omega));rfl;rfl;(intro _ h;cases h);rfl;rfl;rfl;decide;decide;(first|omega|(simp only [List.length_take,List.length_drop,List.length_append,List.length_singleton,List.length_cons,List.length_nil]<;>omega)))
  |(apply VWp.condSeq_false;rfl))
 exact DoneV.ret rfl rfl rfl rfl
section
variable {p:CProb} {s:List Int} {n:Nat} (hc:VFun env 34 [.agg (Enc.enc p)] (.p (.int .i64 0))) (hp:p.n=n) (hn:n≤7) (hL:p.sets.length<1000) (h:ElsOk p.sets) (hl:s.length<1000)
include hc hp hn hL h hl
set_option linter.unusedSectionVars false
set_option maxRecDepth 100000 in
theorem missing_spec (e:TypeId) (hr:rsg s p.sets.length 0=0) (hm:bits7 ((2 ^ n-1) ^^^ ((2 ^ n-1) &&& covK p.sets s s.length))=missK p.sets s n) :
 VFun env 16 [.agg (Enc.enc p),.lst e (cells s) s.length] (.tup [.p (.lst 3 (cells (missK p.sets s n)) (missK p.sets s n).length),.p (.int .i64 0)]):=by
 have hk:=pcheck_spec e p s hc (by omega)
 rw [hr] at hk
 have hs:=rsg_in hr
 have hcv:=covered_spec e p s hL hl h hs
 have hw:=(covK_spec h hs _ (Nat.le_refl _)).1
 have ha:=all_spec p n hp hn
 have p1:2 ^ n≤2 ^ 7:=Nat.pow_le_pow_right (by omega) hn
 have hlt:(2 ^ n-1) ^^^ ((2 ^ n-1) &&& covK p.sets s s.length)<128:=Nat.xor_lt_two_pow (n:=7) (by omega) (Nat.lt_of_le_of_lt Nat.and_le_left (by omega))
 have hli:=clist_spec _ hlt
 rw [hm] at hli
 refine VFun.enter (env_none (by decide)) Tryd.func16 rfl (by kernel_rfl) (by simp [Tryd.ntmps16]) ?_
 repeat' (first
  |(refine VOps.atOp 4 ?_;refine VOps.ghost (Ghost.freeze 25 rfl rfl) ?_)
  |apply VWp.assoc
  |apply VWp.rseq
  |apply VWp.skipSeq
  |apply VWp.ret
  |apply VOps.nil
  |apply VOps.one
  |(apply VVal.fn;rfl;rfl;exact hk;intro _;rfl)
  |(apply VVal.fn;rfl;rfl;exact hcv;intro _;rfl)
  |(apply VVal.fn;rfl;rfl;exact ha;intro _;rfl)
  |(apply VVal.fv;rfl;rfl;exact hli)
  |(apply VVal.assign;rfl)
  |(apply VVal.move;rfl)
  |(apply VVal.andNotU;rfl;rfl;omega;omega)
  |(apply VVal.int;rfl;rfl;rfl)
  |(apply VVal.load;rfl;rfl)
  |(apply VVal.box;rfl;trivial)
  |(apply VVal.extract;rfl;rfl)
  |(apply VWp.condSeq_false;rfl))
 all_goals first|(exfalso;omega)|contradiction|(refine Done.ret rfl (.refl _) (by first|exact trivial|exact ⟨trivial,trivial,trivial⟩|exact ⟨trivial,trivial,trivial,trivial⟩) HCov.nil (Nat.zero_le _) (Nat.le_refl _) ⟨?_,rfl,rfl⟩;try rfl)
set_option maxRecDepth 100000 in
theorem cost_spec (e:TypeId) (hr:rsg s p.sets.length 0=0):VFun env 17 [.agg (Enc.enc p),.lst e (cells s) s.length] (.tup [.p (.int .i64 (costK p.sets s s.length)),.p (.int .i64 0)]):=by
 have hk:=pcheck_spec e p s hc (by omega)
 rw [hr] at hk
 have hs:=rsg_in hr
 have hcv:=covered_spec e p s hL hl h hs
 refine VFun.enter (env_none (by decide)) Tryd.func17 rfl (by kernel_rfl) (by simp [Tryd.ntmps17]) ?_
 repeat' (first
  |apply VWp.assoc
  |apply VWp.rseq
  |apply VWp.skipSeq
  |apply VWp.ret
  |apply VOps.nil
  |apply VOps.one
  |(apply VVal.fn;rfl;rfl;exact hk;intro _;rfl)
  |(apply VVal.fn;rfl;rfl;exact hcv;intro _;rfl)
  |(apply VVal.assign;rfl)
  |(apply VVal.move;rfl)
  |(apply VVal.int;rfl;rfl;rfl)
  |(apply VVal.load;rfl;rfl)
  |(apply VVal.box;rfl;trivial)
  |(apply VVal.extract;rfl;rfl)
  |(apply VWp.condSeq_false;rfl))
 all_goals first|(exfalso;omega)|contradiction|(refine Done.ret rfl (.refl _) (by first|exact trivial|exact ⟨trivial,trivial,trivial⟩|exact ⟨trivial,trivial,trivial,trivial⟩) HCov.nil (Nat.zero_le _) (Nat.le_refl _) ⟨?_,rfl,rfl⟩;try rfl)
set_option maxRecDepth 100000 in
theorem irrForm_spec (e:TypeId) (hr:rsg s p.sets.length 0=0) (hne:covK p.sets s s.length≠2 ^ n-1):VFun env 18 [.agg (Enc.enc p),.lst e (cells s) s.length] (.tup [.p (.val (.slice none 0 0)),.p (.int .i64 7)]):=by
 have hk:=pcheck_spec e p s hc (by omega)
 rw [hr] at hk
 have hs:=rsg_in hr
 have hcv:=covered_spec e p s hL hl h hs
 have ha:=all_spec p n hp hn
 generalize 2 ^ n-1=A at *
 refine VFun.enter (env_none (by decide)) Tryd.func18 rfl (by kernel_rfl) (by simp [Tryd.ntmps18]) ?_
 repeat' (first
  |apply VWp.assoc
  |apply VWp.rseq
  |apply VWp.skipSeq
  |apply VWp.retSeq
  |apply VOps.nil
  |apply VOps.one
  |(apply VVal.fn;rfl;rfl;exact hk;intro _;rfl)
  |(apply VVal.fn;rfl;rfl;exact hcv;intro _;rfl)
  |(apply VVal.fn;rfl;rfl;exact ha;intro _;rfl)
  |(apply VVal.assign;rfl)
  |(apply VVal.move;rfl)
  |(apply VVal.int;rfl;rfl;rfl)
  |(apply VVal.load;rfl;rfl)
  |(apply VVal.box;rfl;trivial)
  |(apply VVal.extract;rfl;rfl)
  |(apply VWp.condSeq_false;rfl)
  |(apply VWp.condSeq_dec;rfl)
  |(intro _;try (exfalso;omega)))
 all_goals first|(exfalso;omega)|contradiction|(refine Done.ret rfl (.refl _) (by first|exact trivial|exact ⟨trivial,trivial,trivial⟩|exact ⟨trivial,trivial,trivial,trivial⟩) HCov.nil (Nat.zero_le _) (Nat.le_refl _) ⟨?_,rfl,rfl⟩;try rfl)
set_option maxRecDepth 100000 in
set_option maxHeartbeats 1000000 in
theorem irr_spec (e:TypeId) (hr:rsg s p.sets.length 0=0) (heq:covK p.sets s s.length=2 ^ n-1) (hx:∀ i,i<p.sets.length→∀ j,j<(gi p.sets i).els.length→0≤gi (gi p.sets i).els j∧gi (gi p.sets i).els j<n) (h0:0<s.length) :
 VFun env 18 [.agg (Enc.enc p),.lst e (cells s) s.length] (.tup [.p (.lst 3 (cells (irrO p.sets n s s.length)) (irrO p.sets n s s.length).length),.p (.int .i64 0)]):=by
 have hk:=pcheck_spec e p s hc (by omega)
 rw [hr] at hk
 have hs:=rsg_in hr
 have hcv:=covered_spec e p s hL hl h hs
 have ha:=all_spec p n hp hn
 have hcl:=cloneI_spec e s h0 hl
 have e0:s=irrO p.sets n s 0:=by unfold irrO;simp [irrT]
 have hfull:∀ k,k<s.length→(covK p.sets (irrR p.sets n s k) (irrR p.sets n s k).length=2 ^ n-1↔missK p.sets (irrR p.sets n s k) n=[]):=fun k hk=>by
  have hin:=irrR_in (L:=p.sets) (n:=n) hs hk
  exact full_iff hn (covK_spec h hin _ (Nat.le_refl _)).2 (fun x hx'=>hasK_lt hx hin x _ (Nat.le_refl _) (by rw [← (covK_spec h hin _ (Nat.le_refl _)).2];exact hx'))
 generalize 2 ^ n-1=A at *
 refine VFun.enter (env_none (by decide)) Tryd.func18 rfl (by kernel_rfl) (by simp [Tryd.ntmps18]) ?_
 repeat' (first
  |(refine VWp.at 8 ?_;refine VWp.ghost (Ghost.freeze 9 rfl rfl) ?_;first|apply VWp.rseq|apply VWp.rseqD)
  |apply VWp.assoc
  |apply VWp.rseq
  |apply VWp.skipSeq
  |apply VWp.blockSeq
  |apply VOps.nil
  |apply VOps.one
  |(apply VVal.fn;rfl;rfl;exact hk;intro _;rfl)
  |(apply VVal.fn;rfl;rfl;exact hcv;intro _;rfl)
  |(apply VVal.fn;rfl;rfl;exact ha;intro _;rfl)
  |(apply VVal.fv;rfl;rfl;exact hcl)
  |(apply VVal.assign;rfl)
  |(apply VVal.move;rfl)
  |(apply VVal.sub64;rfl;rfl;omega)
  |(apply VVal.int;rfl;rfl;rfl)
  |(apply VVal.load;rfl;rfl)
  |(apply VVal.lenF;rfl;rfl)
  |(apply VVal.box;rfl;trivial)
  |(apply VVal.extract;rfl;rfl)
  |(apply VWp.condSeq_false;rfl)
  |(apply VWp.condSeq_dec;rfl)
  |(intro _;try (exfalso;omega)))
 all_goals try (exfalso;omega)
 all_goals try contradiction
 refine VWp.ghost (Ghost.le 10 rfl (v0:=.p (.int .i64 ((s.length:Int)-1-((0:Nat):Int)))) (.of_eq (by simp))) ?_
 refine VWp.ghost (Ghost.le 9 rfl (v0:=lst 3 (irrO p.sets n s 0)) (.of_eq (by rw [← e0]))) ?_
 apply VWp.loopR (s.length) [(2,_)] [(0,_)] (fun k r=>(10,.p (.int .i64 ((s.length:Int)-1-(k:Int))))::(9,lst 3 (irrO p.sets n s k))::r) (fun k r=>r) 1
 ·omega
 ·omega
 ·repeat (first|exact LCov.nil|(refine LCov.eq rfl ?_ ?_;(first|exact PV.under_of rfl|(simp [PV.under,PVs.under];done)))|refine LCov.cons trivial rfl (.of_eq (lst_len (by simp<;>omega))) ?_)
 ·repeat (first|exact HCov.nil|(refine HCov.eq rfl (lt_dec rfl) ?_ ?_;(first|exact HB.under_of rfl|exact PVs.under_pure _ _|(simp [HB.under,PVs.under,PV.under];done)))|(refine HCov.cons (lt_dec rfl) ?_ rfl ?_ ?_;(first|exact trivial|exact PVs.under_pure _ _|(simp [HB.under,PVs.under,PV.under]));(first|exact HLe.refl _|exact HLe.vec (FLes.refl _) (by simp))))
 ·intro k hk2
  have hlen:=irrO_len p.sets n s hk2
  have hle:=irrO_le p.sets n s (k:=k) (by omega)
  have hcl2:=cloneI_spec 3 (irrO p.sets n s k) (by omega) (by omega)
  have hin:=irrR_in (L:=p.sets) (n:=n) hs hk2
  have hcv2:=covered_spec 3 p (irrR p.sets n s k) hL (by omega) h hin
  have hf:=hfull k hk2
  have e3:(s.length:Int)-1-((k+1:Nat):Int)=(s.length:Int)-1-(k:Int)-1:=by omega
  have hst:=irrO_step p.sets n s hk2
  have hdel:=irrO_del p.sets n s hk2
  have hF:delF (irrO p.sets n s k) [.int .i64 ((s.length:Int)-1-(k:Int)),.int .i64 ((s.length:Int)-1-(k:Int)+1)]=some ((irrO p.sets n s k).take (s.length-1-k)++(irrO p.sets n s k).drop (s.length-1-k+1)++[0],some ((irrO p.sets n s k).length-1)):=by
   have q1:((s.length:Int)-1-(k:Int)).toNat=s.length-1-k:=by omega
   have q2:((s.length:Int)-1-(k:Int)+1).toNat=s.length-1-k+1:=by omega
   have q4:s.length-1-k<(irrO p.sets n s k).length:=by rw [irrO_eq _ _ _ hk2];simp;omega
   simp only [delF]
   rw [if_pos ⟨by omega,by omega,by omega⟩,q1,q2,show s.length-1-k+1-(s.length-1-k)=1 by omega];rfl
  have hrl:(irrO p.sets n s k).length-1=(irrR p.sets n s k).length:=by omega
  have hl2:((irrO p.sets n s k).take (s.length-1-k)++(irrO p.sets n s k).drop (s.length-1-k+1)++[0]).length=(irrO p.sets n s k).length:=by
   have q4:s.length-1-k<(irrO p.sets n s k).length:=by rw [irrO_eq _ _ _ hk2];simp;omega
   simp only [List.length_append,List.length_take,List.length_drop,List.length_singleton];omega
  repeat' (first
   |(refine VWp.at 12 ?_;refine VWp.ghost (Ghost.freeze 11 rfl rfl) ?_;first|apply VWp.rseq|apply VWp.rseqD)
   |apply VWp.assoc
   |apply VWp.rseq
   |apply VWp.region
   |apply VWp.skipSeq
   |apply VWp.blockSeq
   |apply QSeq.normal
   |apply QBlk.normal
   |apply VWp.skip
   |apply VOps.nil
   |apply VOps.one
   |(apply VVal.fv;rfl;rfl;exact hcl2)
   |(apply VVal.fn;rfl;rfl;exact hcv2;intro _;rfl)
   |(apply VVal.fn;rfl;rfl;exact ha;intro _;rfl)
   |((refine VVal.inCut del_at rfl rfl rfl rfs2 rfl rfl (by omega) hF hl2 (by omega) ?_;rw [hdel,hrl]))
   |(apply VVal.assign;rfl)
   |(apply VVal.move;rfl)
   |(apply VVal.add64;rfl;rfl;omega)
   |(apply VVal.sub64;rfl;rfl;omega)
   |(apply VVal.int;rfl;rfl;rfl)
   |(apply VVal.load;rfl;rfl)
   |(apply VVal.extract;rfl;rfl)
   |(apply VWp.condSeq_dec;rfl)
   |(apply VWp.cond_dec;rfl)
   |(intro _;try (exfalso;omega)))
  all_goals try (exfalso;omega)
  all_goals try contradiction
  ·rename_i hce
   have e1:irrO p.sets n s (k+1)=irrR p.sets n s k:=by rw [hst,if_pos (hf.1 (by omega))]
   refine QLoop.normal ⟨by omega,?_,?_⟩
   ·try ((try rw [e3])<;>(try rw [e1]))
    repeat (first|exact LCov.nil|refine LCov.same trivial rfl ?_|refine LCov.same (lt_dec rfl) rfl ?_|refine LCov.same ⟨trivial,lt_dec rfl,trivial⟩ rfl ?_|refine LCov.same ⟨trivial,lt_dec rfl,lt_dec rfl,trivial⟩ rfl ?_|refine LCov.same ⟨trivial,lt_dec rfl,lt_dec rfl,lt_dec rfl,trivial⟩ rfl ?_|refine LCov.same ⟨trivial,trivial⟩ rfl ?_|refine LCov.cons trivial rfl (.of_eq (lst_len (by simp<;>omega))) ?_)
   ·(try rw [e3])<;>(try rw [e1])
    repeat (first|exact HCov.nil|(refine HCov.cons (lt_dec rfl) ?_ rfl ?_ ?_;(first|exact HB.under_of rfl|exact PVs.under_pure _ _|(simp [HB.under,PVs.under,PV.under]));(first|exact HLe.refl _|exact HLe.vec (FLes.refl _) (by simp))))
  ·rename_i hce
   have e1:irrO p.sets n s (k+1)=irrO p.sets n s k:=by rw [hst,if_neg (fun h=>hce (by have:=hf.2 h;omega))]
   refine QLoop.normal ⟨by omega,?_,?_⟩
   ·try ((try rw [e3])<;>(try rw [e1]))
    repeat (first|exact LCov.nil|refine LCov.same trivial rfl ?_|refine LCov.same (lt_dec rfl) rfl ?_|refine LCov.same ⟨trivial,lt_dec rfl,trivial⟩ rfl ?_|refine LCov.same ⟨trivial,lt_dec rfl,lt_dec rfl,trivial⟩ rfl ?_|refine LCov.same ⟨trivial,lt_dec rfl,lt_dec rfl,lt_dec rfl,trivial⟩ rfl ?_|refine LCov.same ⟨trivial,trivial⟩ rfl ?_|refine LCov.cons trivial rfl (.of_eq (lst_len (by simp<;>omega))) ?_)
   ·(try rw [e3])<;>(try rw [e1])
    repeat (first|exact HCov.nil|(refine HCov.cons (lt_dec rfl) ?_ rfl ?_ ?_;(first|exact HB.under_of rfl|exact PVs.under_pure _ _|(simp [HB.under,PVs.under,PV.under]));(first|exact HLe.refl _|exact HLe.vec (FLes.refl _) (by simp))))
 ·repeat' (first
   |apply VWp.assoc
   |apply VWp.rseq
   |apply VWp.exitSeq
   |apply QSeq.normal
   |apply QBlk.exit
   |apply QLoop.exit
   |apply VWp.ret
   |apply VOps.nil
   |apply VOps.one
   |(apply VVal.assign;rfl)
   |(apply VVal.move;rfl)
   |(apply VVal.int;rfl;rfl;rfl)
   |(apply VWp.condSeq_dec;rfl)
   |(intro _;try (exfalso;omega)))
  all_goals first|(exfalso;omega)|contradiction|(refine Done.ret rfl (.refl _) (by first|exact trivial|exact ⟨trivial,trivial,trivial⟩|exact ⟨trivial,trivial,trivial,trivial⟩) HCov.nil (Nat.zero_le _) (Nat.le_refl _) ⟨?_,rfl,rfl⟩;try rfl)
end
end Go.Proofs.YtmfnchgkffhpfaaDoor
