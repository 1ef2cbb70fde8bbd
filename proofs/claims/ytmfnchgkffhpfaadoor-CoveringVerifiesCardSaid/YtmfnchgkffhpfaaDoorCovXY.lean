/-
  The search: look and solve. Conditions: in each statement.
-/
import Derived.Test.YtmfnchgkffhpfaaDoorCovW
set_option linter.unusedSimpArgs false
set_option linter.unusedVariables false
set_option linter.unusedSectionVars false
namespace Go.Proofs.YtmfnchgkffhpfaaDoor
open Go Go.Am Go.Vm
attribute [local irreducible] VVal VOps VOpsD VWp VCalls VFun VFunV QSeq QBlk QLoop Vm.Done DoneV DoneI VRead VReadV
theorem gi_app {A:List Int} {c:Int} {j:Nat} (h:j<A.length):gi (A++[c]) j=gi A j:=by simp only [gi];rw [List.getElem?_append_left h]
theorem gi_snoc (A:List Int) (c:Int):gi (A++[c]) A.length=c:=by simp [gi]
theorem word_app (A:List Int) (c:Int):wordK (A++[c]) (A++[c]).length=wordK A A.length ||| 2 ^ c.toNat:=by
 have:∀ j,j≤A.length→wordK (A++[c]) j=wordK A j:=fun j hj=>by
  induction j with
  |zero=>rfl
  |succ j ih=>simp only [wordK];rw [ih (by omega),gi_app (by omega)]
 rw [List.length_append,List.length_singleton]
 simp only [wordK]
 rw [this _ (Nat.le_refl _),gi_snoc]
theorem has_app (L:List CSet) (A:List Int) (c:Int) (e:Int):hasK L (A++[c]) e (A++[c]).length=(hasK L A e A.length||decide (e∈(gi L c.toNat).els)):=by
 rw [Bool.eq_iff_iff,hasA_iff,Bool.or_eq_true,hasA_iff,decide_eq_true_eq]
 simp only [List.mem_append,List.mem_singleton]
 constructor
 ·rintro ⟨y,y1|y1,y2⟩
  ·exact .inl ⟨y,y1,y2⟩
  ·subst y1;exact .inr y2
 ·rintro (⟨y,y1,y2⟩|y2)
  ·exact ⟨y,.inl y1,y2⟩
  ·exact ⟨c,.inr rfl,y2⟩
theorem cst_one (L:List CSet) (c:Int):cst L [c]=(gi L c.toNat).cost:=by simp [cst,costK,gi]
theorem cst_bd {L:List CSet} (h:ElsOk L) {A:List Int} {i:Nat} (hi:i≤L.length) (hA:Ris i A) (hl:A.length≤1000):0≤cst L A∧cst L A≤1000000000:=by
 have:=costK_bd (L:=L) (s:=A) (fun i hi=>(h i hi).2.2) (fun j hj=>by have:=ris_gi hA j hj;omega) A.length (Nat.le_refl _)
 unfold cst
 omega
theorem ris_len:∀ {m:Nat} {A:List Int},Ris m A→A.length≤m:=by
 intro m A h
 have:∀ i,i<A.length→(i:Int)≤gi A i:=fun i hi=>by
  induction i with
  |zero=>exact (ris_gi h 0 hi).1
  |succ i ih=>have:=ih (by omega);have:=sorted_gi h.1 (i:=i) (j:=i+1) (by omega) hi;omega
 rcases Nat.eq_zero_or_pos A.length with h0|h0
 ·omega
 ·have h1:=this (A.length-1) (by omega)
  have h2:=ris_gi h (A.length-1) (by omega)
  omega
section
variable {L:List CSet} (h:ElsOk L) (hL:L.length≤7) {i:Nat} (hi:i<L.length) {A:List Int} {x:CSt} (hx:SSt L i A x)
include h hL hi hx
theorem ris_snoc:Ris (i+1) (A++[(i:Int)]):=by
 obtain ⟨h1,h2⟩:=hx.ris
 refine ⟨List.pairwise_append.2 ⟨h1,List.pairwise_singleton _ _,fun a ha b hb=>?_⟩,fun y hy=>?_⟩
 ·rw [List.mem_singleton.1 hb];exact (h2 a ha).2
 ·rcases List.mem_append.1 hy with hy|hy
  ·have:=h2 y hy;omega
  ·rw [List.mem_singleton.1 hy];omega
theorem sst_take:SSt L (i+1) (A++[(i:Int)]) (takeS L x i):=by
 have hr:=ris_snoc h hL hi hx
 obtain ⟨o1,o2,o3,o4,o5⟩:=hx.ok
 have hp:2 ^ i<2 ^ 7:=Nat.pow_lt_pow_right (by omega) (by omega)
 obtain ⟨w1,w2⟩:=wordC_spec h hi
 have hc:(takeS L x i).cost=cst L (A++[(i:Int)]):=by rw [cst_append,cst_one,Int.toNat_natCast,← hx.cost];rfl
 have hb:=cst_bd h (by omega) hr (by have:=ris_len hr;omega)
 refine ⟨hr,⟨Nat.or_lt_two_pow (n:=7) o1 hp,o2,Nat.or_lt_two_pow (n:=7) o3 w1,by rw [hc];exact hb.1,by rw [hc];exact hb.2⟩,?_,fun j=>?_,fun e=>?_,hc⟩
 ·rw [word_app,← hx.taken];rfl
 ·have:=hx.used j
  simp only [takeS]
  rw [Nat.testBit_or] at this
  rw [Nat.testBit_or,Nat.testBit_or,Nat.testBit_two_pow,Bool.or_right_comm,this]
  by_cases e:i=j
  ·subst e;simp
  ·by_cases h1:j<i
   ·simp [h1,e];omega
   ·simp [h1,e];omega
 ·simp only [takeS]
  rw [Nat.testBit_or,hx.cov,w2,has_app,Int.toNat_natCast]
theorem sst_leave:SSt L (i+1) A (leaveS x i):=by
 obtain ⟨o1,o2,o3,o4,o5⟩:=hx.ok
 have hp:2 ^ i<2 ^ 7:=Nat.pow_lt_pow_right (by omega) (by omega)
 refine ⟨⟨hx.ris.1,fun y hy=>by have:=hx.ris.2 y hy;omega⟩,⟨o1,Nat.or_lt_two_pow (n:=7) o2 hp,o3,o4,o5⟩,hx.taken,fun j=>?_,hx.cov,hx.cost⟩
 have:=hx.used j
 simp only [leaveS]
 rw [← Nat.or_assoc,Nat.testBit_or,this,Nat.testBit_two_pow]
 by_cases e:i=j
 ·subst e;simp
 ·by_cases h1:j<i
  ·simp [h1,e];omega
  ·simp [h1,e];omega
end
theorem sst_start (L:List CSet):SSt L 0 [] ⟨0,0,0,0⟩:=⟨⟨.nil,by simp⟩,⟨by decide,by decide,by decide,by decide,by decide⟩,rfl,fun j=>by simp,fun e=>by simp [hasK],rfl⟩
theorem dfs_len (L:List CSet) (n:Nat):∀ (k i:Nat) (A:List Int),(dfsA L n k i A).length≤2 ^ k
 |0,i,A=>by simp only [dfsA];split<;>simp
 |k+1,i,A=>by
  have h1:=dfs_len L n k (i+1) (A++[(i:Int)])
  have h2:=dfs_len L n k (i+1) A
  have h3:=Nat.two_pow_pos k
  simp only [dfsA]
  rw [Nat.pow_succ]
  split
  ·simp;omega
  ·rw [List.length_append];omega
theorem upd_len (L:List CSet):∀ (D:List (List Int)) (s:Int×List (List Int)),(D.foldl (updC L) s).2.length≤s.2.length+D.length
 |[],s=>by simp
 |B::D,s=>by
  have:=upd_len L D (updC L s B)
  rw [List.foldl_cons,List.length_cons]
  have h2:(updC L s B).2.length≤s.2.length+1:=by
   unfold updC
   split
   ·simp
   ·split<;>simp
  omega
def msk (AA:List (List Int)):List Nat:=AA.map fun A=>wordK A A.length
def lookH (p:CProb) (c:Nat) (least:Int) (AA:List (List Int)) (steps:Int):Vm.Heap :=
 [(0,.box 89 ((srchC p).map .p++[.p (.int .i64 least),.vec c (msk AA).length 0 (msk AA).length,.p (.bool false),.p (.int .i64 steps),.p (.val (.slice none 0 0))])),(c,.vec 74 (cells (msk AA)) (msk AA).length true)]
def lookQ (p:CProb) (k:Nat) (S:Int×List (List Int)) (steps:Int) (r:PV) (H':Vm.Heap) (nx':Nat):Prop :=
 r=.tup []∧∃ c steps',(c=1∨c=2)∧steps≤steps'∧steps'+1≤steps+((2 ^ (k+1):Nat):Int)∧H'=lookH p c S.1 S.2 steps'∧nx'=3
def lookQ0 (p:CProb) (k:Nat) (S:Int×List (List Int)) (steps:Int) (r:PV) (H':Vm.Heap) (nx':Nat):Prop :=
 r=.tup []∧∃ c steps',(c=1∨2≤c)∧c<nx'∧steps≤steps'∧steps'+1≤steps+((2 ^ (k+1):Nat):Int)∧H'=lookH p c S.1 S.2 steps'∧3≤nx'
theorem look_names {p:CProb} {k:Nat} {S:Int×List (List Int)} {steps:Int} {f:FuncId} {args:List PV} {H:Vm.Heap} (h:VCalls env f args H 2 (lookQ0 p k S steps)):VCalls env f args H 2 (lookQ p k S steps):=by
 refine h.ren fun r H' nx' ⟨h1,c,steps',hc,h2,h3,h4,h5,h6⟩=>?_
 subst h1;subst h5
 rcases hc with rfl|hc
 ·refine ⟨2,2,Nat.le_refl _,Nat.le_refl _,by omega,by omega,.tup [],lookH p 1 S.1 S.2 steps',3,.refl _,trivial,?_,h6,by omega,rfl,1,steps',.inl rfl,h3,h4,rfl,rfl⟩
  have e:Hrn (swp 2 2) (lookH p 1 S.1 S.2 steps')=lookH p 1 S.1 S.2 steps':=rfl
  rw [e]
  refine ⟨⟨by omega,?_,_,rfl,.refl _⟩,⟨by omega,trivial,_,rfl,.refl _⟩,trivial⟩
  simp [HB.under,PVs.under,PV.under,srchC]
 ·refine ⟨c,2,hc,Nat.le_refl _,h2,by omega,.tup [],lookH p 2 S.1 S.2 steps',3,.refl _,trivial,?_,h6,by omega,rfl,2,steps',.inr rfl,h3,h4,rfl,rfl⟩
  have e0:swp c 2 0=0:=by unfold swp;rw [if_neg (by omega),if_neg (by omega)]
  have e1:swp c 2 c=2:=by unfold swp;rw [if_pos rfl]
  have e:Hrn (swp c 2) (lookH p c S.1 S.2 steps')=lookH p 2 S.1 S.2 steps':=by
   simp only [lookH,Hrn,HB.rn,e0,e1,srchC,List.map_cons,List.map_nil,List.cons_append,List.nil_append,PVs.rn,PV.rn]
  rw [e]
  refine ⟨⟨by omega,?_,_,rfl,.refl _⟩,⟨by omega,trivial,_,rfl,.refl _⟩,trivial⟩
  simp [HB.under,PVs.under,PV.under,srchC]
theorem VVal.lendW {p:CProb} {n:Nat} {x:CSt} {L:Vm.Frame} {H:Vm.Heap} {nx:Nat} {Q:PV→Vm.Heap→Nat→Prop} {w:Bool} {dst:Option Tmp} {ty:TypeId} {pos:String} {af:Array Edge} {gd:Option (Nat×Bool)} {fo:Operand} {args:Array Operand} {aT:Array TypeId} {aa more:List PV} {b:Nat} {e:TypeId}
 (hc:VCalls env 57 ([FV.cptr (srchC p),.agg (Enc.enc x)].map .p) [] 0 (weiQ p n x)) (hf:vev env.Γ L fo=some (.clo 57 [] [])) (ha:evs env.Γ L args.toList=some (.ref b 0::aa)) (hle:PLes aa ([FV.agg (Enc.enc x)].map .p)) (hb:hget H b=some (.box e ((srchC p).map .p++more)))
 (q1:∀ g:Nat,g<n→x.cov.testBit g=false→freeK p.sets x g p.sets.length=[]→Q (.tup [.p (.val (.slice none 0 0)),.p (.int .i64 0),.p (.int .i64 (g:Int))]) H nx)
 (q2:∀ l sum,WOk p.sets n x l sum→0≤sum→sum≤7000000→(∀ g,g<n→x.cov.testBit g=false→freeK p.sets x g p.sets.length≠[])→Q (.tup [.vec (nx+1) n 0 n,.p (.int .i64 sum),.p (.int .i64 (-1))]) ((nx+1,.vec 3 (cells l) n false)::H) (nx+2)) :
 VVal env w ⟨dst,.call { callee:=.value fo,args:=args,argTypes:=aT },ty,pos,af,gd⟩ L H nx Q:=by
 refine VVal.lend (pre:=srchC p) (rest:=[.agg (Enc.enc x)]) hf ha hle hb hc ?_ ?_
 ·rintro r H' nx' (⟨g,_,_,_,rfl,rfl,rfl⟩|⟨l,sum,_,_,_,_,rfl,rfl,rfl⟩)
  ·exact ⟨rfl,rfl⟩
  ·exact ⟨rfl,by simp [Hflat,HB.flat,flat_ints]⟩
 ·rintro r H' nx' (⟨g,h1,h2,h3,rfl,rfl,rfl⟩|⟨l,sum,h1,h2,h3,h4,rfl,rfl,rfl⟩)
  ·exact q1 g h1 h2 h3
  ·exact q2 l sum h1 h2 h3 h4
end Go.Proofs.YtmfnchgkffhpfaaDoor
set_option linter.unusedSimpArgs false
set_option linter.unusedVariables false
namespace Go.Proofs.YtmfnchgkffhpfaaDoor
open Go Go.Am Go.Vm
attribute [local irreducible] VVal VOps VOpsD VWp VCalls VFun VFunV QSeq QBlk QLoop Vm.Done DoneV DoneI VRead VReadV
theorem msk_snoc (AA:List (List Int)) (A:List Int):msk (AA++[A])=msk AA++[wordK A A.length]:=by simp [msk]
theorem msk_len (AA:List (List Int)):(msk AA).length=AA.length:=by simp [msk]
section
variable (p:CProb) (n:Nat) (hp:p.n=n) (hn:n≤7) (hL:p.sets.length≤7) (h:ElsOk p.sets) (hS:ElsS p.sets)
include hp hn hL h hS
set_option maxRecDepth 100000 in
set_option maxHeartbeats 8000000 in
theorem look_full (k i:Nat) (A:List Int) (x:CSt) (S:Int×List (List Int)) (steps:Int) (hx:SSt p.sets i A x) (hf:x.cov=2 ^ n-1) (hlen:S.2.length≤189) (hs0:0≤steps) (hs1:steps≤100000) :
 VCalls env 56 [.ref 0 0,.p (.agg (Enc.enc x)),.p (.int .i64 (i:Int))] (lookH p 1 S.1 S.2 steps) 2 (lookQ p k (updC p.sets S A) steps):=by
 have ha:=all_spec p n hp hn
 have hwl:(wordsL p.sets).length=p.sets.length:=by unfold wordsL;rw [List.length_map]
 obtain ⟨least,AA⟩:=S
 have hcost:=hx.cost
 have htk:=hx.taken
 simp only at hlen ⊢
 rw [← hf] at ha
 match AA,hlen with
 |[],hlen =>
  have hU:updC p.sets (least,[]) A=(x.cost,[A]):=by unfold updC;rw [if_pos (.inl rfl),hcost]
  rw [hU]
  refine look_names ?_
  refine VCalls.enter (env_none (by decide)) Tryd.func56 rfl (by kernel_rfl) (by simp [Tryd.ntmps56]) ?_
  unfold lookH
  have e0:msk [A]=[x.taken]:=by rw [htk];rfl
  have hpw:2≤2 ^ (k+1):=by have:=Nat.two_pow_pos k;rw [Nat.pow_succ];omega
  repeat' (first
   |(refine VWp.at 8 ?_;refine VWp.ghost (Ghost.adoptCell 0 4 74 rfl rfl) ?_;first|apply VWp.rseq|apply VWp.rseqD)
   |apply VWp.assoc
   |apply VWp.rseq
   |apply VWp.rseqD
   |apply VWp.skipSeq
   |apply VWp.retSeq
   |apply VOps.nil
   |apply VOpsD.nil
   |apply VOps.one
   |(apply VOpsD.bar;decide +kernel)
   |apply VOpsD.quiet
   |(apply VOps.drop;rfl;rfl;rfl)
   |(apply VOpsD.drop;rfl;rfl;rfl)
   |(apply VOps.guard;rfl;rfl)
   |(apply VVal.fn;rfl;rfl;exact ha;intro _;rfl)
   |(apply VVal.nilChk;rfl;rfl)
   |(apply VVal.eqNilV;rfl;rfl;rfl;rfl)
   |(apply VVal.append1 (l:=[]) (a:=x.taken);rfl;rfl;rfl;rfl;rfl;rfl;rfl;rfl;(intro _ h;cases h);rfl;rfl;rfl;decide;decide;(first|omega|(simp only [List.length_take,List.length_drop,List.length_append,List.length_singleton,List.length_cons,List.length_nil]<;>omega)))
   |(apply VVal.move;rfl)
   |(apply VVal.add64;rfl;rfl;omega)
   |(apply VVal.int;rfl;rfl;rfl)
   |(apply VVal.load;rfl;rfl)
   |(apply VVal.pick_true;rfl;rfl)
   |(apply VVal.pick_false;rfl;rfl)
   |(apply VVal.lenF;rfl;rfl)
   |(apply VVal.lenNil;rfl;rfl)
   |(apply VVal.fieldB;rfl;rfl;rfl)
   |(apply VVal.box;rfl;trivial)
   |(apply VVal.storeB;rfl;rfl;rfl;trivial;rfl;rfl;exact lt_dec rfl;exact le_dec rfl)
   |(apply VVal.buildSlice;rfl;rfl;rfl;decide;rfl;rfl;rfl)
   |(apply VWp.condSeq_true;rfl)
   |(apply VWp.condSeq_false;rfl)
   |(apply VWp.condSeq_dec;rfl)
   |(intro _;try (exfalso;omega)))
  all_goals try (exfalso;omega)
  refine Done.ret (H0:=lookH p 3 x.cost [A] (steps+1)) (nx0:=4) rfl (.refl _) trivial ?_ (by omega) (by omega) ⟨rfl,3,steps+1,by omega,by omega,by omega,by omega,rfl,by omega⟩
  unfold lookH
  rw [e0]
  repeat (first|exact HCov.nil|(refine HCov.cons (lt_dec rfl) ?_ rfl ?_ ?_;(first|exact HB.under_of rfl|exact PVs.under_pure _ _|(simp [HB.under,PVs.under,PV.under]));(first|exact HLe.refl _|exact HLe.vec (FLes.refl _) (by simp))))
 |B::AA,hlen =>
  have hml:(msk (B::AA)).length≤189:=by rw [msk_len];exact hlen
  have hpw:2≤2 ^ (k+1):=by have:=Nat.two_pow_pos k;rw [Nat.pow_succ];omega
  have hne:¬ (B::AA=[]):=by simp
  rcases Int.lt_trichotomy x.cost least with hlt|heq|hgt
  ·have hU:updC p.sets (least,B::AA) A=(x.cost,[A]):=by unfold updC;rw [if_pos (.inr (by rw [← hcost];exact hlt)),hcost]
   rw [hU]
   refine look_names ?_
   refine VCalls.enter (env_none (by decide)) Tryd.func56 rfl (by kernel_rfl) (by simp [Tryd.ntmps56]) ?_
   unfold lookH
   have e0:msk [A]=[x.taken]:=by rw [htk];rfl
   repeat' (first
    |(refine VWp.at 8 ?_;refine VWp.ghost (Ghost.adoptCell 0 4 74 rfl rfl) ?_;first|apply VWp.rseq|apply VWp.rseqD)
    |apply VWp.assoc
    |apply VWp.rseq
    |apply VWp.rseqD
    |apply VWp.skipSeq
    |apply VWp.retSeq
    |apply VOps.nil
    |apply VOpsD.nil
    |apply VOps.one
    |(apply VOpsD.bar;decide +kernel)
    |apply VOpsD.quiet
    |(apply VOpsD.quietTake;rfl;rfl)
    |(apply VOps.drop;rfl;rfl;rfl)
    |(apply VOps.guard;rfl;rfl)
    |(apply VVal.fn;rfl;rfl;exact ha;intro _;rfl)
    |(apply VVal.nilChk;rfl;rfl)
    |(apply VVal.eqNilV;rfl;rfl;rfl;rfl)
    |(apply VVal.append1 (l:=[]) (a:=x.taken);rfl;rfl;rfl;rfl;rfl;rfl;rfl;rfl;(intro _ h;cases h);rfl;rfl;rfl;decide;decide;(first|omega|(simp only [List.length_take,List.length_drop,List.length_append,List.length_singleton,List.length_cons,List.length_nil]<;>omega)))
    |(apply VVal.move;rfl)
    |(apply VVal.add64;rfl;rfl;omega)
    |(apply VVal.int;rfl;rfl;rfl)
    |(apply VVal.load;rfl;rfl)
    |(apply VVal.pick_false;rfl;rfl)
    |(apply VVal.lenF;rfl;rfl)
    |(apply VVal.lenNil;rfl;rfl)
    |(apply VVal.fieldB;rfl;rfl;rfl)
    |(apply VVal.box;rfl;trivial)
    |(apply VVal.storeB;rfl;rfl;rfl;trivial;rfl;rfl;exact lt_dec rfl;exact le_dec rfl)
    |(apply VVal.buildSlice;rfl;rfl;rfl;decide;rfl;rfl;rfl)
    |(apply VWp.condSeq_true;rfl)
    |(apply VWp.condSeq_false;rfl)
    |(apply VWp.condSeq_dec;rfl)
    |(intro _;try (exfalso;omega)))
   all_goals try (exfalso;omega)
   refine Done.ret (H0:=lookH p 3 x.cost [A] (steps+1)) (nx0:=4) rfl (.refl _) trivial ?_ (by omega) (by omega) ⟨rfl,3,steps+1,by omega,by omega,by omega,by omega,rfl,by omega⟩
   unfold lookH
   rw [e0]
   repeat (first|exact HCov.nil|(refine HCov.cons (lt_dec rfl) ?_ rfl ?_ ?_;(first|exact HB.under_of rfl|exact PVs.under_pure _ _|(simp [HB.under,PVs.under,PV.under]));(first|exact HLe.refl _|exact HLe.vec (FLes.refl _) (by simp))))
  ·have hU:updC p.sets (least,B::AA) A=(least,(B::AA)++[A]):=by
    unfold updC
    rw [if_neg (by rintro (e|e);exact hne e;rw [← hcost] at e;simp only at e;omega),if_pos (by rw [← hcost];exact heq)]
   rw [hU]
   refine look_names ?_
   refine VCalls.enter (env_none (by decide)) Tryd.func56 rfl (by kernel_rfl) (by simp [Tryd.ntmps56]) ?_
   unfold lookH
   have e0:msk ((B::AA)++[A])=msk (B::AA)++[x.taken]:=by rw [msk_snoc,htk]
   have e1:(msk (B::AA)++[x.taken]).length=(msk (B::AA)).length+1:=by simp
   repeat' (first
    |apply VWp.assoc
    |apply VWp.rseq
    |apply VWp.rseqD
    |apply VWp.skipSeq
    |apply VWp.retSeq
    |apply VOps.nil
    |apply VOpsD.nil
    |apply VOps.one
    |(apply VOpsD.bar;decide +kernel)
    |apply VOpsD.quiet
    |(apply VOpsD.quietTake;rfl;rfl)
    |(apply VOps.drop;rfl;rfl;rfl)
    |(apply VOps.guard;rfl;rfl)
    |(apply VVal.fn;rfl;rfl;exact ha;intro _;rfl)
    |(apply VVal.nilChk;rfl;rfl)
    |(apply VVal.eqNilV;rfl;rfl;rfl;rfl)
    |(apply VVal.append1 (a:=x.taken);rfl;rfl;rfl;rfl;rfl;rfl;rfl;rfl;(intro _ h;cases h);rfl;rfl;rfl;decide;decide;(first|omega|(simp only [List.length_take,List.length_drop,List.length_append,List.length_singleton,List.length_cons,List.length_nil]<;>omega)))
    |(apply VVal.move;rfl)
    |(apply VVal.add64;rfl;rfl;omega)
    |(apply VVal.int;rfl;rfl;rfl)
    |(apply VVal.load;rfl;rfl)
    |(apply VVal.pick_false;rfl;rfl)
    |(apply VVal.lenF;rfl;rfl)
    |(apply VVal.lenV;rfl;rfl;rfl)
    |(apply VVal.fieldB;rfl;rfl;rfl)
    |(apply VVal.box;rfl;trivial)
    |(apply VVal.storeB;rfl;rfl;rfl;trivial;rfl;rfl;exact lt_dec rfl;exact le_dec rfl)
    |(apply VVal.buildSlice;rfl;rfl;rfl;decide;rfl;rfl;rfl)
    |(apply VWp.condSeq_false;rfl)
    |(apply VWp.condSeq_dec;rfl)
    |(intro _;try (exfalso;omega)))
   all_goals try (exfalso;omega)
   refine Done.ret (H0:=lookH p 1 least ((B::AA)++[A]) (steps+1)) (nx0:=3) rfl (.refl _) trivial ?_ (by omega) (by omega) ⟨rfl,1,steps+1,by omega,by omega,by omega,by omega,rfl,by omega⟩
   unfold lookH
   rw [e0,e1]
   repeat (first|exact HCov.nil|(refine HCov.cons (lt_dec rfl) ?_ rfl ?_ ?_;(first|exact HB.under_of rfl|exact PVs.under_pure _ _|(simp [HB.under,PVs.under,PV.under]));(first|exact HLe.refl _|exact HLe.vec (FLes.refl _) (by simp))))
  ·have hU:updC p.sets (least,B::AA) A=(least,B::AA):=by
    unfold updC
    rw [if_neg (by rintro (e|e);exact hne e;rw [← hcost] at e;simp only at e;omega),if_neg (by rw [← hcost];simp only;omega)]
   rw [hU]
   refine look_names ?_
   refine VCalls.enter (env_none (by decide)) Tryd.func56 rfl (by kernel_rfl) (by simp [Tryd.ntmps56]) ?_
   unfold lookH
   repeat' (first
    |apply VWp.assoc
    |apply VWp.rseq
    |apply VWp.rseqD
    |apply VWp.skipSeq
    |apply VWp.retSeq
    |apply VOps.nil
    |apply VOpsD.nil
    |apply VOps.one
    |(apply VOpsD.bar;decide +kernel)
    |apply VOpsD.quiet
    |(apply VOpsD.quietTake;rfl;rfl)
    |(apply VOps.drop;rfl;rfl;rfl)
    |(apply VOps.guard;rfl;rfl)
    |(apply VVal.fn;rfl;rfl;exact ha;intro _;rfl)
    |(apply VVal.nilChk;rfl;rfl)
    |(apply VVal.eqNilV;rfl;rfl;rfl;rfl)
    |(apply VVal.move;rfl)
    |(apply VVal.add64;rfl;rfl;omega)
    |(apply VVal.int;rfl;rfl;rfl)
    |(apply VVal.load;rfl;rfl)
    |(apply VVal.pick_false;rfl;rfl)
    |(apply VVal.lenF;rfl;rfl)
    |(apply VVal.fieldB;rfl;rfl;rfl)
    |(apply VVal.box;rfl;trivial)
    |(apply VVal.storeB;rfl;rfl;rfl;trivial;rfl;rfl;exact lt_dec rfl;exact le_dec rfl)
    |(apply VWp.condSeq_false;rfl)
    |(apply VWp.condSeq_dec;rfl)
    |(intro _;try (exfalso;omega)))
   all_goals try (exfalso;omega)
   refine Done.ret (H0:=lookH p 1 least (B::AA) (steps+1)) (nx0:=3) rfl (.refl _) trivial ?_ (by omega) (by omega) ⟨rfl,1,steps+1,by omega,by omega,by omega,by omega,rfl,by omega⟩
   unfold lookH
   repeat (first|exact HCov.nil|(refine HCov.cons (lt_dec rfl) ?_ rfl ?_ ?_;(first|exact HB.under_of rfl|exact PVs.under_pure _ _|(simp [HB.under,PVs.under,PV.under]));(first|exact HLe.refl _|exact HLe.vec (FLes.refl _) (by simp))))
end
end Go.Proofs.YtmfnchgkffhpfaaDoor
