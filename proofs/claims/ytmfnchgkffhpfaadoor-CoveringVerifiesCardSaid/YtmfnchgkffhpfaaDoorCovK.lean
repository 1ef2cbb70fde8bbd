/-
  Sets of elements as bits; what Missing, Cost and Irredundant compute. Conditions: in each statement.
-/
import Derived.Test.YtmfnchgkffhpfaaDoorCovG
import Derived.Test.YtmfnchgkffhpfaaDoorVmG
set_option linter.unusedSimpArgs false
set_option linter.unusedVariables false
set_option linter.unusedSectionVars false
namespace Go.Proofs.YtmfnchgkffhpfaaDoor
open Go Go.Am Go.Vm
attribute [local irreducible] VVal VOps VOpsD VWp VCalls VFun VFunV QSeq QBlk QLoop Vm.Done DoneV
def bits7 (p:Nat):List Int:=((List.range 7).filter p.testBit).map fun n:Nat=>(n:Int)
theorem bits7_zero:bits7 0=[]:=by decide
theorem bits7_all:((List.range 128).all fun p=>p==0||(bits7 p==(tz7 p:Int)::bits7 (p &&& (p-1))&&decide ((p &&& (p-1))<p)&&decide (tz7 p<7)))=true:=by decide +kernel
theorem bits7_step {p:Nat} (hp:p<128) (h0:p≠0):bits7 p=(tz7 p:Int)::bits7 (p &&& (p-1))∧(p &&& (p-1))<p∧tz7 p<7:=by
 have h:=List.all_eq_true.1 bits7_all p (List.mem_range.2 hp)
 simp only [Bool.or_eq_true,beq_iff_eq,h0,false_or,Bool.and_eq_true,decide_eq_true_eq] at h
 exact ⟨h.1.1,h.1.2,h.2⟩
theorem bits7_len (p:Nat):(bits7 p).length≤7:=by
 have:=List.length_filter_le p.testBit (List.range 7)
 rw [List.length_range] at this
 simpa [bits7] using this
def wordK (l:List Int):Nat→Nat
 |0=>0
 |k+1=>wordK l k ||| 2 ^ (gi l k).toNat
theorem wordK_spec {l:List Int} (h:∀ i,i<l.length→0≤gi l i∧gi l i<7):∀ k,k≤l.length→wordK l k<128∧∀ x:Nat,(wordK l k).testBit x=decide ((x:Int)∈l.take k)
 |0,_=>by simp [wordK]
 |k+1,hk=>by
  obtain ⟨h1,h2⟩:=wordK_spec h k (by omega)
  have h3:=h k (by omega)
  have p1:2 ^ (gi l k).toNat<2 ^ 7:=Nat.pow_lt_pow_right (by omega) (by omega)
  refine ⟨Nat.or_lt_two_pow (n:=7) h1 p1,fun x=>?_⟩
  simp only [wordK]
  rw [Nat.testBit_or,h2,Nat.testBit_two_pow]
  have h4:=mem_take_succ (l:=l) (x:=(x:Int)) (k:=k) (by omega)
  by_cases e:(x:Int)=gi l k
  ·have e2:(gi l k).toNat=x:=by omega
   rw [decide_eq_true e2,Bool.or_true,decide_eq_true (h4.2 (.inr e))]
  ·have e2:¬ (gi l k).toNat=x:=by omega
   rw [decide_eq_false e2,Bool.or_false]
   by_cases hm:(x:Int)∈l.take k
   ·rw [decide_eq_true hm,decide_eq_true (h4.2 (.inl hm))]
   ·rw [decide_eq_false hm,decide_eq_false (fun h=>(h4.1 h).elim hm e)]
def wordC (c:CSet):Nat:=wordK c.els c.els.length
def ElsOk (L:List CSet):Prop:=∀ i,i<L.length→(gi L i).els.length≤7∧(∀ j,j<(gi L i).els.length→0≤gi (gi L i).els j∧gi (gi L i).els j<7)∧0≤(gi L i).cost∧(gi L i).cost≤1000000
theorem wordC_spec {L:List CSet} (h:ElsOk L) {i:Nat} (hi:i<L.length):wordC (gi L i)<128∧∀ x:Nat,(wordC (gi L i)).testBit x=decide ((x:Int)∈(gi L i).els):=by
 have:=wordK_spec (h i hi).2.1 _ (Nat.le_refl _)
 rwa [List.take_length] at this
def covK (L:List CSet) (s:List Int):Nat→Nat
 |0=>0
 |k+1=>covK L s k ||| wordC (gi L (gi s k).toNat)
theorem covK_spec {L:List CSet} (h:ElsOk L) {s:List Int} (hs:∀ i,i<s.length→0≤gi s i∧gi s i<L.length):∀ k,k≤s.length→covK L s k<128∧∀ x:Nat,(covK L s k).testBit x=hasK L s x k
 |0,_=>by simp [covK,hasK]
 |k+1,hk=>by
  obtain ⟨h1,h2⟩:=covK_spec h hs k (by omega)
  have h3:=hs k (by omega)
  obtain ⟨h4,h5⟩:=wordC_spec h (i:=(gi s k).toNat) (by omega)
  refine ⟨Nat.or_lt_two_pow (n:=7) h1 h4,fun x=>?_⟩
  simp only [covK,hasK]
  rw [Nat.testBit_or,h2,h5]
theorem missK_filter (L:List CSet) (s:List Int):∀ n,missK L s n=((List.range n).filter fun x:Nat=>!hasK L s x s.length).map fun x:Nat=>(x:Int)
 |0=>rfl
 |n+1=>by
  simp only [missK]
  rw [List.range_succ,List.filter_append,List.map_append,← missK_filter L s n]
  by_cases h:hasK L s n s.length=true
  ·rw [if_pos h];simp [h]
  ·rw [if_neg h];simp [h]
theorem miss_bits {L:List CSet} {s:List Int} {n w:Nat} (hn:n≤7) (hw:∀ x:Nat,w.testBit x=hasK L s x s.length):bits7 ((2 ^ n-1) ^^^ ((2 ^ n-1) &&& w))=missK L s n:=by
 have hb:∀ x,((2 ^ n-1) ^^^ ((2 ^ n-1) &&& w)).testBit x=(decide (x<n)&&!hasK L s x s.length):=fun x=>by
  rw [Nat.testBit_xor,Nat.testBit_and,Nat.testBit_two_pow_sub_one,hw]
  cases decide (x<n)<;>cases hasK L s x s.length<;>rfl
 rw [missK_filter]
 unfold bits7
 congr 1
 have e:∀ m:Nat,n≤m→(List.range m).filter ((2 ^ n-1) ^^^ ((2 ^ n-1) &&& w)).testBit=(List.range n).filter fun x:Nat=>!hasK L s x s.length:=by
  intro m hm
  induction m with
  |zero=>obtain rfl:n=0:=by omega
         rfl
  |succ m ih =>
   by_cases hnm:n=m+1
   ·subst hnm
    refine List.filter_congr fun x hx=>?_
    rw [hb,decide_eq_true (List.mem_range.1 hx),Bool.true_and]
   ·rw [List.range_succ,List.filter_append,ih (by omega)]
    have:[m].filter ((2 ^ n-1) ^^^ ((2 ^ n-1) &&& w)).testBit=[]:=by
     rw [List.filter_eq_nil_iff]
     intro a ha
     rw [List.mem_singleton.1 ha,hb,decide_eq_false (by omega)];simp
    rw [this,List.append_nil]
 exact e 7 hn
theorem full_iff {L:List CSet} {s:List Int} {n w:Nat} (hn:n≤7) (hw:∀ x:Nat,w.testBit x=hasK L s x s.length) (hx:∀ x:Nat,w.testBit x=true→x<n):w=2 ^ n-1↔missK L s n=[]:=by
 rw [missK_filter,List.map_eq_nil_iff,List.filter_eq_nil_iff]
 constructor
 ·intro h x hxn
  rw [← hw,h,Nat.testBit_two_pow_sub_one,decide_eq_true (List.mem_range.1 hxn)];simp
 ·intro h
  refine Nat.eq_of_testBit_eq fun x=>?_
  rw [Nat.testBit_two_pow_sub_one]
  by_cases hxn:x<n
  ·have:=h x (List.mem_range.2 hxn)
   rw [hw,decide_eq_true hxn];simpa using this
  ·rw [decide_eq_false hxn]
   cases hb:w.testBit x
   ·rfl
   ·exact absurd (hx x hb) hxn
theorem hasK_lt {L:List CSet} {n:Nat} (h:∀ i,i<L.length→∀ j,j<(gi L i).els.length→0≤gi (gi L i).els j∧gi (gi L i).els j<n) {s:List Int} (hs:∀ i,i<s.length→0≤gi s i∧gi s i<L.length) (x:Nat):∀ k,k≤s.length→hasK L s x k=true→x<n
 |0,_,hx=>by simp [hasK] at hx
 |k+1,hk,hx=>by
  simp only [hasK,Bool.or_eq_true,decide_eq_true_eq] at hx
  rcases hx with hx|hx
  ·exact hasK_lt h hs x k (by omega) hx
  ·have h1:=hs k (by omega)
   obtain ⟨j,hj,e⟩:=List.getElem_of_mem hx
   have:=h _ (show (gi s k).toNat<L.length by omega) j hj
   rw [gi_eq hj,e] at this
   omega
section
variable {E:Env} {L:Vm.Frame} {H:Vm.Heap} {nx:Nat} {Q:PV→Heap→Nat→Prop} {w:Bool} {dst:Option Tmp} {ty:TypeId} {pos:String} {af:Array Edge} {gd:Option (Nat×Bool)}
theorem shl1 {t t2:TypeId} {x y:Operand} {k':IntKind} {n:Int} (m:Nat) (hx:vev E.Γ L x=some (.p (.int .u64 1))) (hy:vev E.Γ L y=some (.p (.int k' n))) (hn:n=m∧m<64) (q:Q (.p (.int .u64 ((2 ^ m:Nat):Int))) H nx) :
 VVal E w ⟨dst,.binOp .shl t x y t2,ty,pos,af,gd⟩ L H nx Q:=by
 obtain ⟨rfl,hn⟩:=hn
 exact VVal.shlOneU hx hy hn q
end
set_option maxRecDepth 100000 in
theorem word_spec (e:TypeId) (l:List Int) (hl:l.length<1000) (h:∀ i,i<l.length→0≤gi l i∧gi l i<7):VFun env 54 [.lst e (cells l) l.length] (.p (.int .u64 (wordK l l.length:Int))):=by
 refine VFun.enter (env_none (by decide)) Tryd.func54 rfl (by kernel_rfl) (by simp [Tryd.ntmps54]) ?_
 repeat' (first
  |apply VWp.assoc
  |apply VWp.rseq
  |apply VWp.blockSeq
  |apply VOps.nil
  |apply VOps.one
  |(apply VVal.assign;rfl)
  |(apply VVal.move;rfl)
  |(apply VVal.lenF;rfl;rfl))
 apply VWp.loopR (l.length) [(6,_),(7,_)] [] (fun k r=>(8,.p (.int .i64 (k:Int)))::(3,.p (.int .u64 (wordK l k:Int)))::r) (fun k r=>r) 0
 ·omega
 ·omega
 ·repeat (first|exact LCov.nil|(refine LCov.eq rfl ?_ ?_;(first|exact PV.under_of rfl|(simp [PV.under,PVs.under];done)))|refine LCov.cons trivial rfl (.of_eq (lst_len (by simp<;>omega))) ?_)
 ·repeat (first|exact HCov.nil|(refine HCov.eq rfl (lt_dec rfl) ?_ ?_;(first|exact HB.under_of rfl|exact PVs.under_pure _ _|(simp [HB.under,PVs.under,PV.under];done)))|(refine HCov.cons (lt_dec rfl) ?_ rfl ?_ ?_;(first|exact trivial|exact PVs.under_pure _ _|(simp [HB.under,PVs.under,PV.under]));(first|exact HLe.refl _|exact HLe.vec (FLes.refl _) (by simp))))
 ·intro k hk
  have h1:=h k hk
  have h2:=(wordK_spec h k (by omega)).1
  have p1:2 ^ (gi l k).toNat<2 ^ 7:=Nat.pow_lt_pow_right (by omega) (by omega)
  repeat' (first
   |apply VWp.rseq
   |apply VWp.region
   |apply VWp.skipSeq
   |apply VWp.blockSeq
   |apply QSeq.normal
   |apply QBlk.normal
   |apply VOps.nil
   |apply VOps.one
   |(apply shl1 (gi l k).toNat;rfl;rfl;omega)
   |(apply VVal.assign;rfl)
   |(apply VVal.move;rfl)
   |(apply VVal.add64;rfl;rfl;omega)
   |(apply VVal.orU;rfl;rfl;omega;omega)
   |(apply VVal.int;rfl;rfl;rfl)
   |(apply VVal.indexN;rfl;rfl;rfl;omega;rfl)
   |(apply VVal.load;rfl;rfl)
   |(apply VWp.condSeq_dec;rfl)
   |(intro _;try (exfalso;omega)))
  all_goals try (exfalso;omega)
  refine QLoop.normal ⟨by omega,?_,?_⟩
  ·repeat (first|exact LCov.nil|refine LCov.same trivial rfl ?_|refine LCov.same (lt_dec rfl) rfl ?_|refine LCov.same ⟨trivial,lt_dec rfl,trivial⟩ rfl ?_|refine LCov.same ⟨trivial,lt_dec rfl,lt_dec rfl,trivial⟩ rfl ?_|refine LCov.same ⟨trivial,lt_dec rfl,lt_dec rfl,lt_dec rfl,trivial⟩ rfl ?_|refine LCov.same ⟨trivial,trivial⟩ rfl ?_|refine LCov.cons trivial rfl (.of_eq (lst_len (by simp<;>omega))) ?_)
  ·repeat (first|exact HCov.nil|(refine HCov.cons (lt_dec rfl) ?_ rfl ?_ ?_;(first|exact HB.under_of rfl|exact PVs.under_pure _ _|(simp [HB.under,PVs.under,PV.under]));(first|exact HLe.refl _|exact HLe.vec (FLes.refl _) (by simp))))
 ·repeat' (first
   |apply VWp.rseq
   |apply VWp.exitSeq
   |apply QSeq.normal
   |apply QBlk.exit
   |apply QLoop.exit
   |apply VWp.ret
   |apply VOps.nil
   |apply VOps.one
   |(apply VVal.assign;rfl)
   |(apply VVal.move;rfl)
   |(apply VVal.int;rfl;rfl;rfl)
   |(apply VWp.condSeq_dec;rfl)
   |(intro _;try (exfalso;omega)))
  all_goals first|(exfalso;omega)|(refine Done.ret rfl (.refl _) (by first|exact trivial|exact ⟨trivial,trivial,trivial⟩|exact ⟨trivial,trivial,trivial,trivial⟩) HCov.nil (Nat.zero_le _) (Nat.le_refl _) ⟨?_,rfl,rfl⟩;try rfl)
set_option maxRecDepth 100000 in
theorem covered_spec (e:TypeId) (p:CProb) (s:List Int) (hL:p.sets.length<1000) (hl:s.length<1000) (h:ElsOk p.sets) (hs:∀ i,i<s.length→0≤gi s i∧gi s i<p.sets.length) :
 VFun env 40 [.agg (Enc.enc p),.lst e (cells s) s.length] (.tup [.p (.int .u64 (covK p.sets s s.length:Int)),.p (.int .i64 (costK p.sets s s.length))]):=by
 refine VFun.enter (env_none (by decide)) Tryd.func40 rfl (by kernel_rfl) (by simp [Tryd.ntmps40]) ?_
 repeat' (first
  |apply VWp.assoc
  |apply VWp.rseq
  |apply VWp.blockSeq
  |apply VOps.nil
  |apply VOps.one
  |(apply VVal.assign;rfl)
  |(apply VVal.move;rfl)
  |(apply VVal.lenF;rfl;rfl)
  |(apply VVal.box;rfl;trivial))
 apply VWp.loopR (s.length) [(2,_),(8,_),(9,_)] [(0,_)] (fun k r=>(10,.p (.int .i64 (k:Int)))::(4,.p (.int .u64 (covK p.sets s k:Int)))::(5,.p (.int .i64 (costK p.sets s k)))::r) (fun k r=>r) 1
 ·omega
 ·omega
 ·repeat (first|exact LCov.nil|(refine LCov.eq rfl ?_ ?_;(first|exact PV.under_of rfl|(simp [PV.under,PVs.under];done)))|refine LCov.cons trivial rfl (.of_eq (lst_len (by simp<;>omega))) ?_)
 ·repeat (first|exact HCov.nil|(refine HCov.eq rfl (lt_dec rfl) ?_ ?_;(first|exact HB.under_of rfl|exact PVs.under_pure _ _|(simp [HB.under,PVs.under,PV.under];done)))|(refine HCov.cons (lt_dec rfl) ?_ rfl ?_ ?_;(first|exact trivial|exact PVs.under_pure _ _|(simp [HB.under,PVs.under,PV.under]));(first|exact HLe.refl _|exact HLe.vec (FLes.refl _) (by simp))))
 ·intro k hk
  have h1:=hs k hk
  obtain ⟨g1,g2,g3,g4⟩:=h (gi s k).toNat (by omega)
  have h2:=(covK_spec h hs k (by omega)).1
  have h3:=costK_bd (fun i hi=>⟨(h i hi).2.2.1,(h i hi).2.2.2⟩) hs k (by omega)
  have h4:=(wordC_spec h (i:=(gi s k).toNat) (by omega)).1
  have hw:=word_spec 3 (gi p.sets (gi s k).toNat).els (by omega) g2
  have h4:wordK (gi p.sets (gi s k).toNat).els (gi p.sets (gi s k).toNat).els.length<128:=h4
  repeat' (first
   |apply VWp.rseq
   |apply VWp.region
   |apply VWp.skipSeq
   |apply VWp.blockSeq
   |apply QSeq.normal
   |apply QBlk.normal
   |apply VOps.nil
   |apply VOps.one
   |(apply VVal.fn;rfl;rfl;exact hw;intro _;rfl)
   |(apply VVal.assign;rfl)
   |(apply VVal.move;rfl)
   |(apply VVal.add64;rfl;rfl;omega)
   |(apply VVal.orU;rfl;rfl;omega;omega)
   |(apply VVal.int;rfl;rfl;rfl)
   |(apply VVal.indexN;rfl;rfl;rfl;omega;rfl)
   |(apply VVal.indexE;rfl;rfl;rfl;omega;omega;rfl)
   |(apply VVal.load;rfl;rfl)
   |(apply VVal.fieldB;rfl;rfl;rfl)
   |(apply VVal.fieldF;rfl;rfl)
   |(apply VWp.condSeq_dec;rfl)
   |(intro _;try (exfalso;omega)))
  all_goals try (exfalso;omega)
  refine QLoop.normal ⟨by omega,?_,?_⟩
  ·repeat (first|exact LCov.nil|refine LCov.same trivial rfl ?_|refine LCov.same (lt_dec rfl) rfl ?_|refine LCov.same ⟨trivial,lt_dec rfl,trivial⟩ rfl ?_|refine LCov.same ⟨trivial,lt_dec rfl,lt_dec rfl,trivial⟩ rfl ?_|refine LCov.same ⟨trivial,lt_dec rfl,lt_dec rfl,lt_dec rfl,trivial⟩ rfl ?_|refine LCov.same ⟨trivial,trivial⟩ rfl ?_|refine LCov.cons trivial rfl (.of_eq (lst_len (by simp<;>omega))) ?_)
  ·repeat (first|exact HCov.nil|(refine HCov.cons (lt_dec rfl) ?_ rfl ?_ ?_;(first|exact HB.under_of rfl|exact PVs.under_pure _ _|(simp [HB.under,PVs.under,PV.under]));(first|exact HLe.refl _|exact HLe.vec (FLes.refl _) (by simp))))
 ·repeat' (first
   |apply VWp.rseq
   |apply VWp.exitSeq
   |apply QSeq.normal
   |apply QBlk.exit
   |apply QLoop.exit
   |apply VWp.ret
   |apply VOps.nil
   |apply VOps.one
   |(apply VVal.assign;rfl)
   |(apply VVal.move;rfl)
   |(apply VVal.int;rfl;rfl;rfl)
   |(apply VWp.condSeq_dec;rfl)
   |(intro _;try (exfalso;omega)))
  all_goals first|(exfalso;omega)|(refine Done.ret rfl (.refl _) (by first|exact trivial|exact ⟨trivial,trivial,trivial⟩|exact ⟨trivial,trivial,trivial,trivial⟩) HCov.nil (Nat.zero_le _) (Nat.le_refl _) ⟨?_,rfl,rfl⟩;try rfl)
set_option maxRecDepth 100000 in
theorem all_spec (p:CProb) (n:Nat) (hp:p.n=n) (hn:n≤7):VFun env 42 [.agg (Enc.enc p)] (.p (.int .u64 ((2 ^ n-1:Nat):Int))):=by
 have e:Enc.enc p=[.int .i64 (n:Int),.lst 35 (cells p.sets) p.sets.length]:=by
  show [FV.int .i64 p.n,_]=_
  rw [hp]
 rw [e]
 refine VFun.enter (env_none (by decide)) Tryd.func42 rfl (by kernel_rfl) (by simp [Tryd.ntmps42]) ?_
 repeat' (first
  |apply VWp.rseq
  |apply VWp.ret
  |apply VOps.nil
  |apply VOps.one
  |(apply VVal.maskU;rfl;rfl;omega)
  |(apply VVal.assign;rfl)
  |(apply VVal.load;rfl;rfl)
  |(apply VVal.fieldB;rfl;rfl;rfl)
  |(apply VVal.box;rfl;trivial)
  |(apply VVal.shlOneU;rfl;rfl;omega))
 all_goals first|(exfalso;omega)|(refine Done.ret rfl (.refl _) (by first|exact trivial|exact ⟨trivial,trivial,trivial⟩|exact ⟨trivial,trivial,trivial,trivial⟩) HCov.nil (Nat.zero_le _) (Nat.le_refl _) ⟨?_,rfl,rfl⟩;try rfl)
set_option maxRecDepth 100000 in
theorem pcheck_spec (e:TypeId) (p:CProb) (s:List Int) (hc:VFun env 34 [.agg (Enc.enc p)] (.p (.int .i64 0))) (hl:s.length<2^62):VFun env 39 [.agg (Enc.enc p),.lst e (cells s) s.length] (.p (.int .i64 (rsg s p.sets.length 0))):=by
 have hr:=rising_spec e s p.sets.length hl
 refine VFun.enter (env_none (by decide)) Tryd.func39 rfl (by kernel_rfl) (by simp [Tryd.ntmps39]) ?_
 repeat' (first
  |apply VWp.assoc
  |apply VWp.rseq
  |apply VWp.skipSeq
  |apply VWp.ret
  |apply VOps.nil
  |apply VOps.one
  |(apply VVal.fn;rfl;rfl;exact hc;intro _;rfl)
  |(apply VVal.fn;rfl;rfl;exact hr;intro _;rfl)
  |(apply VVal.assign;rfl)
  |(apply VVal.move;rfl)
  |(apply VVal.int;rfl;rfl;rfl)
  |(apply VVal.load;rfl;rfl)
  |(apply VVal.lenF;rfl;rfl)
  |(apply VVal.fieldB;rfl;rfl;rfl)
  |(apply VVal.box;rfl;trivial)
  |(apply VWp.condSeq_false;rfl))
 all_goals first|(exfalso;omega)|contradiction|(refine Done.ret rfl (.refl _) (by first|exact trivial|exact ⟨trivial,trivial,trivial⟩|exact ⟨trivial,trivial,trivial,trivial⟩) HCov.nil (Nat.zero_le _) (Nat.le_refl _) ⟨?_,rfl,rfl⟩;try rfl)
def listK (w:Nat):Nat→Nat
 |0=>w
 |k+1=>listK w k &&& (listK w k-1)
theorem listK_spec {w:Nat} (hw:w<128):∀ k,k≤(bits7 w).length→listK w k<128∧bits7 w=(bits7 w).take k++bits7 (listK w k)
 |0,_=>⟨hw,by simp [listK]⟩
 |k+1,hk=>by
  obtain ⟨h1,h2⟩:=listK_spec hw k (by omega)
  have h0:listK w k≠0:=fun e=>by
   rw [e,bits7_zero,List.append_nil] at h2
   have:=congrArg List.length h2
   rw [List.length_take] at this;omega
  obtain ⟨s1,s2,s3⟩:=bits7_step h1 h0
  refine ⟨by simp only [listK];omega,?_⟩
  simp only [listK]
  have e:gi (bits7 w) k=(tz7 (listK w k):Int):=by
   have:(bits7 w)[k]?=some (tz7 (listK w k):Int):=by
    rw [h2,List.getElem?_append_right (by rw [List.length_take];omega),List.length_take,s1]
    simp [Nat.min_eq_left (show k≤(bits7 w).length by omega)]
   simp [gi,this]
  rw [take_succ_gi (by omega),e,List.append_assoc,List.singleton_append,← s1]
  exact h2
theorem listK_gi {w:Nat} (hw:w<128) {k:Nat} (hk:k<(bits7 w).length):listK w k≠0∧gi (bits7 w) k=(tz7 (listK w k):Int):=by
 obtain ⟨h1,h2⟩:=listK_spec hw k (by omega)
 have h0:listK w k≠0:=fun e=>by
  rw [e,bits7_zero,List.append_nil] at h2
  have:=congrArg List.length h2
  rw [List.length_take] at this;omega
 obtain ⟨s1,s2,s3⟩:=bits7_step h1 h0
 refine ⟨h0,?_⟩
 have:(bits7 w)[k]?=some (tz7 (listK w k):Int):=by
  rw [h2,List.getElem?_append_right (by rw [List.length_take];omega),List.length_take,s1]
  simp [Nat.min_eq_left (show k≤(bits7 w).length by omega)]
 simp [gi,this]
theorem listK_end {w:Nat} (hw:w<128):listK w (bits7 w).length=0:=by
 obtain ⟨h1,h2⟩:=listK_spec hw _ (Nat.le_refl _)
 rw [List.take_length] at h2
 have h3:bits7 (listK w (bits7 w).length)=[]:=by
  have:=congrArg List.length h2
  rw [List.length_append] at this
  exact List.eq_nil_of_length_eq_zero (by omega)
 refine Classical.byContradiction fun h0=>?_
 rw [(bits7_step h1 h0).1] at h3;cases h3
set_option maxRecDepth 100000 in
set_option maxHeartbeats 1000000 in
theorem clist_spec (w:Nat) (hw:w<128):VFunV env 41 [.int .u64 (w:Int)] 3 (cells (bits7 w)) (bits7 w).length true:=by
 have h7:=bits7_len w
 refine VFunV.enter (env_none (by decide)) Tryd.func41 rfl (by kernel_rfl) (by simp [Tryd.ntmps41]) ?_
 repeat' (first
  |apply VWp.rseq
  |apply VWp.blockSeq
  |apply VOps.nil
  |apply VOps.one
  |(apply VVal.assign;rfl))
 refine VWp.ghost (Ghost.adopt 3 3 rfl) ?_
 apply VWp.loopR ((bits7 w).length) [] [] (fun k r=>(0,.p (.int .u64 (listK w k:Int)))::(3,.vec 0 ((bits7 w).take k).length 0 ((bits7 w).take k).length)::r) (fun k r=>(0,.vec 3 (cells ((bits7 w).take k)) ((bits7 w).take k).length true)::r) 1
 ·omega
 ·omega
 ·repeat (first|exact LCov.nil|(refine LCov.eq rfl ?_ ?_;(first|exact PV.under_of rfl|(simp [PV.under,PVs.under];done)))|refine LCov.cons trivial rfl (.of_eq (lst_len (by simp<;>omega))) ?_)
 ·repeat (first|exact HCov.nil|(refine HCov.eq rfl (lt_dec rfl) ?_ ?_;(first|exact HB.under_of rfl|exact PVs.under_pure _ _|(simp [HB.under,PVs.under,PV.under];done)))|(refine HCov.cons (lt_dec rfl) ?_ rfl ?_ ?_;(first|exact trivial|exact PVs.under_pure _ _|(simp [HB.under,PVs.under,PV.under]));(first|exact HLe.refl _|exact HLe.vec (FLes.refl _) (by simp))))
 ·intro k hk
  obtain ⟨h1,h2⟩:=listK_spec hw k (by omega)
  obtain ⟨h3,h4⟩:=listK_gi hw hk
  have e1:(bits7 w).take (k+1)=(bits7 w).take k++[(tz7 (listK w k):Int)]:=by rw [take_succ_gi hk,h4]
  have e2:((bits7 w).take (k+1)).length=((bits7 w).take k).length+1:=by rw [e1];simp
  have hz:=tz_fun (listK w k) h1
  have hlen:((bits7 w).take k).length≤7:=by rw [List.length_take];omega
  repeat' (first
   |apply VWp.assoc
   |apply VWp.rseq
   |apply VWp.region
   |apply VWp.skipSeq
   |apply VWp.blockSeq
   |apply QSeq.normal
   |apply QBlk.normal
   |apply VOps.nil
   |apply VOps.one
   |(apply VVal.fn;rfl;rfl;exact hz;intro _;rfl)
   |(apply VVal.append1 (a:=(tz7 (listK w k):Int));rfl;rfl;rfl;rfl;rfl;rfl;rfl;rfl;(intro _ h;cases h);rfl;rfl;rfl;decide;decide;(first|omega|(simp only [List.length_take,List.length_drop,List.length_append,List.length_singleton,List.length_cons,List.length_nil]<;>omega)))
   |(apply VVal.subUN (b:=1);rfl;rfl;omega)
   |(apply VVal.assign;rfl)
   |(apply VVal.move;rfl)
   |(apply VVal.andU;rfl;rfl;omega;omega)
   |(apply VVal.int;rfl;rfl;rfl)
   |(apply VVal.buildSlice;rfl;rfl;rfl;decide;rfl;rfl;rfl)
   |(apply VWp.condSeq_dec;rfl)
   |(intro _;try (exfalso;omega)))
  all_goals try (exfalso;omega)
  refine QLoop.normal ⟨by omega,?_,?_⟩
  ·try ((try rw [e2])<;>(try rw [e1]))
   repeat (first|exact LCov.nil|refine LCov.same trivial rfl ?_|refine LCov.same (lt_dec rfl) rfl ?_|refine LCov.same ⟨trivial,lt_dec rfl,trivial⟩ rfl ?_|refine LCov.same ⟨trivial,lt_dec rfl,lt_dec rfl,trivial⟩ rfl ?_|refine LCov.same ⟨trivial,lt_dec rfl,lt_dec rfl,lt_dec rfl,trivial⟩ rfl ?_|refine LCov.same ⟨trivial,trivial⟩ rfl ?_|refine LCov.cons trivial rfl (.of_eq (lst_len (by simp<;>omega))) ?_)
  ·(try rw [e2])<;>(try rw [e1])
   repeat (first|exact HCov.nil|(refine HCov.cons (lt_dec rfl) ?_ rfl ?_ ?_;(first|exact HB.under_of rfl|exact PVs.under_pure _ _|(simp [HB.under,PVs.under,PV.under]));(first|exact HLe.refl _|exact HLe.vec (FLes.refl _) (by simp))))
 ·have h1:=listK_end hw
  rw [h1,List.take_length]
  repeat' (first
   |apply VWp.assoc
   |apply VWp.rseq
   |apply VWp.exitSeq
   |apply QSeq.normal
   |apply QBlk.exit
   |apply QLoop.exit
   |apply VWp.ret
   |apply VOps.nil
   |apply VOps.one
   |(apply VVal.assign;rfl)
   |(apply VVal.move;rfl)
   |(apply VVal.int;rfl;rfl;rfl)
   |(apply VWp.condSeq_false;rfl))
  all_goals first|(exfalso;omega)|exact DoneV.ret rfl rfl rfl rfl
end Go.Proofs.YtmfnchgkffhpfaaDoor
