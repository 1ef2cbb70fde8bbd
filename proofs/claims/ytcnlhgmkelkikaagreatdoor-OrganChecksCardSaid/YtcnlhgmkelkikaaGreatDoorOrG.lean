/-
  The law of organs: Fits, Make. Conditions: in each statement.
-/
import Derived.Test.YtcnlhgmkelkikaaGreatDoorOrF
import Derived.Test.YtcnlhgmkelkikaaGreatDoorRkL
set_option linter.unusedSimpArgs false
set_option linter.unusedVariables false
namespace Go.Proofs.YtcnlhgmkelkikaaGreatDoor
open Go Go.Am Go.Vm
attribute [local irreducible] VVal VOps VOpsD VWp VCalls VFun VFunV QSeq QBlk QLoop Vm.Done DoneV DoneI
def fitsP (x:OPl):Prop:=(1≤x.ranks.length∧x.ranks.length≤3)∧(1≤x.divs.length∧x.divs.length≤3)∧x.links.length≤3∧∀ i,i<x.divs.length→(gi x.divs i).stops.length≤3
noncomputable instance (x:OPl):Decidable (fitsP x):=Classical.propDecidable _
set_option maxRecDepth 100000 in
set_option maxHeartbeats 1000000 in
theorem fits_spec (x:OPl) (hx:x.Ok):VFun env 12 [.agg x.enc] (.p (.bool (decide (fitsP x)))):=by
 have b1:=hx.nr
 have b2:=hx.nd
 have b3:=hx.nl
 refine VFun.enter (env_none (by decide)) Tryz.func12 rfl (by kernel_rfl) (by simp [Tryz.ntmps12]) ?_
 by_cases h0:(1≤x.ranks.length∧x.ranks.length≤3)∧(1≤x.divs.length∧x.divs.length≤3)∧x.links.length≤3
 case neg =>
  rw [decide_eq_false (fun h=>h0 ⟨h.1,h.2.1,h.2.2.1⟩)]
  repeat' (first
   |apply VWp.assoc
   |apply VWp.rseq
   |apply VWp.retSeq
   |apply VOps.nil
   |apply VOps.one
   |(apply VOps.take;rfl;rfl)
   |(apply VOps.drop;rfl;rfl;rfl)
   |(apply VOps.guard;rfl;rfl)
   |(apply VVal.assign;rfl)
   |(apply VVal.move;rfl)
   |(apply VVal.int;rfl;rfl;rfl)
   |(apply VVal.load;rfl;rfl)
   |(apply VVal.pick_true;rfl;rfl)
   |(apply VVal.pick_false;rfl;rfl)
   |(apply VVal.lenF;rfl;rfl)
   |(apply VVal.fieldB;rfl;rfl;rfl)
   |(apply VVal.box;rfl;trivial)
   |(apply VWp.condSeq_true;rfl)
   |(apply VWp.condSeq_dec;rfl)
   |(intro _;try (exfalso;omega)))
  all_goals first|(exfalso;omega)|(refine Done.ret rfl (.refl _) (by first|exact trivial|exact ⟨trivial,trivial,trivial⟩|exact ⟨trivial,trivial,trivial,trivial⟩) HCov.nil (Nat.zero_le _) (Nat.le_refl _) ⟨?_,rfl,rfl⟩;try rfl)
 repeat' (first
  |apply VWp.assoc
  |apply VWp.rseq
  |apply VWp.skipSeq
  |apply VWp.blockSeq
  |apply VOps.nil
  |apply VOps.one
  |(apply VOps.take;rfl;rfl)
  |(apply VOps.guard;rfl;rfl)
  |(apply VVal.assign;rfl)
  |(apply VVal.move;rfl)
  |(apply VVal.int;rfl;rfl;rfl)
  |(apply VVal.load;rfl;rfl)
  |(apply VVal.pick_false;rfl;rfl)
  |(apply VVal.lenF;rfl;rfl)
  |(apply VVal.fieldB;rfl;rfl;rfl)
  |(apply VVal.box;rfl;trivial)
  |(apply VWp.condSeq_dec;rfl)
  |(intro _;try (exfalso;omega)))
 all_goals try (exfalso;omega)
 refine VWp.loopQ (fun k:Nat=>[(1,.ref 0 0),(3,.p (.int .i64 (k:Int)))]) (fun _=>[(0,.box 26 (x.enc.map .p))]) 1 (fun k=>k≤x.divs.length∧∀ i,i<k→(gi x.divs i).stops.length≤3) (fun k=>x.divs.length-k) 0 (by omega) ⟨by omega,fun i hi=>by omega⟩ ⟨by omega,?_,?_⟩ ?_
 ·repeat (first|exact LCov.nil|refine LCov.same trivial rfl ?_|refine LCov.same (lt_dec rfl) rfl ?_|refine LCov.same ⟨trivial,lt_dec rfl,lt_dec rfl,lt_dec rfl,trivial⟩ rfl ?_|refine LCov.same ⟨trivial,lt_dec rfl,lt_dec rfl,trivial⟩ rfl ?_|refine LCov.same ⟨trivial,trivial⟩ rfl ?_|refine LCov.cons trivial rfl (.of_eq (lst_len (by simp<;>omega))) ?_)
 ·repeat (first|exact HCov.nil|(refine HCov.cons (lt_dec rfl) ?_ rfl ?_ ?_;(first|exact trivial|exact PVs.under_pure _ _|(simp [HB.under,PVs.under,PV.under]));(first|exact HLe.refl _|exact HLe.vec (FLes.refl _) (by simp))))
 rintro k ⟨hk,hok⟩
 by_cases hkl:k<x.divs.length
 ·have hst:=(hx.divs k hkl).stops
  by_cases h1:(gi x.divs k).stops.length≤3
  ·repeat' (first
    |apply VWp.assoc
    |apply VWp.rseq
    |apply VWp.region
    |apply VWp.skipSeq
    |apply VWp.blockSeq
    |apply QSeq.normal
    |apply QBlk.normal
    |apply VWp.skip
    |apply VOps.nil
    |apply VOps.one
    |(apply VVal.assign;rfl)
    |(apply VVal.move;rfl)
    |(apply VVal.add64;rfl;rfl;omega)
    |(apply VVal.int;rfl;rfl;rfl)
    |(apply VVal.indexN;rfl;rfl;rfl;omega;rfl)
    |(apply VVal.load;rfl;rfl)
    |(apply VVal.lenF;rfl;rfl)
    |(apply VVal.fieldB;rfl;rfl;rfl)
    |(apply VVal.fieldF;rfl;rfl)
    |(apply VWp.condSeq_dec;rfl)
    |(apply VWp.cond_dec;rfl)
    |(intro _;try (exfalso;omega)))
   all_goals try (exfalso;omega)
   refine QLoop.normal ⟨k+1,⟨by omega,fun i hi=>?_⟩,by omega,⟨by omega,?_,?_⟩⟩
   ·rcases Nat.lt_or_ge i k with h|h
    ·exact hok i h
    ·obtain rfl:i=k:=by omega
     exact h1
   ·repeat (first|exact LCov.nil|refine LCov.same trivial rfl ?_|refine LCov.same (lt_dec rfl) rfl ?_|refine LCov.same ⟨trivial,lt_dec rfl,lt_dec rfl,lt_dec rfl,trivial⟩ rfl ?_|refine LCov.same ⟨trivial,lt_dec rfl,lt_dec rfl,trivial⟩ rfl ?_|refine LCov.same ⟨trivial,trivial⟩ rfl ?_|refine LCov.cons trivial rfl (.of_eq (lst_len (by simp<;>omega))) ?_)
   ·repeat (first|exact HCov.nil|(refine HCov.cons (lt_dec rfl) ?_ rfl ?_ ?_;(first|exact trivial|exact PVs.under_pure _ _|(simp [HB.under,PVs.under,PV.under]));(first|exact HLe.refl _|exact HLe.vec (FLes.refl _) (by simp))))
  ·rw [decide_eq_false (fun h=>h1 (h.2.2.2 k hkl))]
   repeat' (first
    |apply VWp.assoc
    |apply VWp.rseq
    |apply VWp.skipSeq
    |apply VWp.blockSeq
    |apply QSeq.ret
    |apply QBlk.ret
    |apply QLoop.ret
    |apply VWp.ret
    |apply VOps.nil
    |apply VOps.one
    |(apply VVal.assign;rfl)
    |(apply VVal.move;rfl)
    |(apply VVal.int;rfl;rfl;rfl)
    |(apply VVal.indexN;rfl;rfl;rfl;omega;rfl)
    |(apply VVal.load;rfl;rfl)
    |(apply VVal.lenF;rfl;rfl)
    |(apply VVal.fieldB;rfl;rfl;rfl)
    |(apply VVal.fieldF;rfl;rfl)
    |(apply VWp.condSeq_dec;rfl)
    |(apply VWp.cond_dec;rfl)
    |(intro _;try (exfalso;omega)))
   all_goals first|(exfalso;omega)|(refine Done.ret rfl (.refl _) (by first|exact trivial|exact ⟨trivial,trivial,trivial⟩|exact ⟨trivial,trivial,trivial,trivial⟩) HCov.nil (Nat.zero_le _) (Nat.le_refl _) ⟨?_,rfl,rfl⟩;try rfl)
 ·rw [decide_eq_true (show fitsP x from ⟨h0.1,h0.2.1,h0.2.2,fun i hi=>hok i (by omega)⟩)]
  repeat' (first
   |apply VWp.assoc
   |apply VWp.rseq
   |apply VWp.exitSeq
   |apply QSeq.normal
   |apply QBlk.exit
   |apply QLoop.exit
   |apply VWp.ret
   |apply VOps.nil
   |apply VOps.one
   |(apply VVal.assign;rfl)
   |(apply VVal.move;rfl)
   |(apply VVal.int;rfl;rfl;rfl)
   |(apply VVal.load;rfl;rfl)
   |(apply VVal.lenF;rfl;rfl)
   |(apply VVal.fieldB;rfl;rfl;rfl)
   |(apply VWp.condSeq_dec;rfl)
   |(intro _;try (exfalso;omega)))
  all_goals first|(exfalso;omega)|(refine Done.ret rfl (.refl _) (by first|exact trivial|exact ⟨trivial,trivial,trivial⟩|exact ⟨trivial,trivial,trivial,trivial⟩) HCov.nil (Nat.zero_le _) (Nat.le_refl _) ⟨?_,rfl,rfl⟩;try rfl)
def pullP (rk:List Rnk) (lo hi:Int) (x:Pul) (i:Nat) (s:Stp):Prop :=
 VFun env 42 [.lst 44 (cells rk) rk.length,.agg [.int .i64 lo,.int .i64 hi],.agg (Enc.enc x),.int .i64 (i:Int)] (.p (.agg (Enc.enc s)))∧s.name=nmI 83 i∧stoE rk lo hi s=0∧StpSm s
noncomputable def pullS (rk:List Rnk) (lo hi:Int) (x:Pul) (i:Nat):Stp:=Classical.epsilon (h:=⟨default⟩) (pullP rk lo hi x i)
theorem pullS_spec (rk:List Rnk) (lo hi:Int) (x:Pul) (i:Nat) (hrk:RksOk rk) (hc:0≤lo∧lo≤hi∧hi≤127) (hx:x.Ok) (hi9:i≤9):pullP rk lo hi x i (pullS rk lo hi x i) :=
 Classical.epsilon_spec (pull_ex rk lo hi x i hrk hc hx hi9)
def ranksK (l:List RPlan):Nat→List Rnk
 |0=>[]
 |k+1=>ranksK l k++[mkR (gi l k) (k:Int)]
noncomputable def stopsK (rk:List Rnk) (lo hi:Int) (l:List Pul):Nat→List Stp
 |0=>[]
 |k+1=>stopsK rk lo hi l k++[pullS rk lo hi (gi l k) k]
def brdLo (b:Brd):Int:=36+(b.low:Int) % 12
def brdHi (b:Brd):Int:=brdLo b+(b.keys:Int) % 9
noncomputable def divK (rk:List Rnk) (b:Brd) (k:Nat):Dvs:=⟨nmI 68 (k:Int),b.pedal,brdLo b,brdHi b,stopsK rk (brdLo b) (brdHi b) b.stops b.stops.length⟩
noncomputable def divsK (rk:List Rnk) (l:List Brd):Nat→List Dvs
 |0=>[]
 |k+1=>divsK rk l k++[divK rk (gi l k) k]
def lnkC (n:Nat) (c:Lnk) (k:Nat):Cpl:=⟨nmI 67 (k:Int),(c.frm:Int) % n,(c.tgt:Int) % n,if (c.frm:Int) % n=(c.tgt:Int) % n∧c.shift.tmod 25=0 then 12 else c.shift.tmod 25,c.through⟩
def cplsK (n:Nat) (l:List Lnk):Nat→List Cpl
 |0=>[]
 |k+1=>cplsK n l k++[lnkC n (gi l k) k]
theorem ranksK_len (l:List RPlan):∀ k,(ranksK l k).length=k
 |0=>rfl
 |k+1=>by simp [ranksK,ranksK_len l k]
theorem stopsK_len (rk:List Rnk) (lo hi:Int) (l:List Pul):∀ k,(stopsK rk lo hi l k).length=k
 |0=>rfl
 |k+1=>by simp [stopsK,stopsK_len rk lo hi l k]
theorem divsK_len (rk:List Rnk) (l:List Brd):∀ k,(divsK rk l k).length=k
 |0=>rfl
 |k+1=>by simp [divsK,divsK_len rk l k]
theorem cplsK_len (n:Nat) (l:List Lnk):∀ k,(cplsK n l k).length=k
 |0=>rfl
 |k+1=>by simp [cplsK,cplsK_len n l k]
noncomputable def mkO (x:OPl):Org:=⟨[79,114,103,97,110],ranksK x.ranks x.ranks.length,divsK (ranksK x.ranks x.ranks.length) x.divs x.divs.length,cplsK x.divs.length x.links x.links.length⟩
theorem gi_snoc {α:Type} [Inhabited α] {l:List α} {a:α} {i:Nat}:gi (l++[a]) i=if i<l.length then gi l i else if i=l.length then a else default:=by
 by_cases h:i<l.length
 ·rw [if_pos h];simp [gi,List.getElem?_append_left h]
 ·rw [if_neg h]
  by_cases h2:i=l.length
  ·rw [if_pos h2,h2];simp [gi]
  ·rw [if_neg h2];simp [gi,List.getElem?_append_right (show l.length≤i by omega),show ¬ i-l.length=0 by omega]
theorem ranksK_gi (l:List RPlan):∀ k i,i<k→gi (ranksK l k) i=mkR (gi l i) (i:Int)
 |k+1,i,h=>by
  simp only [ranksK,gi_snoc,ranksK_len]
  by_cases h1:i<k
  ·rw [if_pos h1];exact ranksK_gi l k i h1
  ·obtain rfl:i=k:=by omega
   simp
theorem ranksK_ok {l:List RPlan} (h:∀ i,i<l.length→(gi l i).Ok) (hl:0<l.length∧l.length≤3):RksOk (ranksK l l.length):=by
 refine ⟨by rw [ranksK_len];exact hl,fun i hi=>?_⟩
 rw [ranksK_len] at hi
 rw [ranksK_gi l _ i hi]
 exact ⟨mkR_ok _ (h i hi) _ (by omega),(gi l i).feet % 16,Nat.mod_lt _ (by decide),rfl⟩
end Go.Proofs.YtcnlhgmkelkikaaGreatDoor
