/-
  The layer of ranks: what winds, letter, IsName and Check compute. Conditions: in each statement.
-/
import Derived.Test.YtcnlhgmkelkikaaGreatDoorRkB
set_option linter.unusedSimpArgs false
set_option linter.unusedVariables false
namespace Go.Proofs.YtcnlhgmkelkikaaGreatDoor
open Go Go.Am Go.Vm
attribute [local irreducible] VVal VOps VOpsD VWp VCalls VFun VFunV QSeq QBlk QLoop Vm.Done DoneV DoneI
structure Rnk where
 name:List UInt8
 tone:List UInt8
 feet:Frac
 first:Int
 wind:List Int
instance:Enc Rnk:={ default:=⟨[],[],⟨0,0⟩,0,[]⟩,enc:=fun r=>[.str (bs r.name),.str (bs r.tone),.int .i64 r.feet.num,.int .i64 r.feet.den,.int .i64 r.first,.lst 3 (cells r.wind) r.wind.length],size:=6,len:=fun _=>rfl }
theorem PV.bool_eq {a b:Bool} (h:a=b):PV.p (.bool a)=PV.p (.bool b):=by rw [h]
def badW (x:Int):Prop:=x<0∨x>1000000
instance (x:Int):Decidable (badW x):=by unfold badW;infer_instance
theorem w1_spec (x:Int):VFun env 108 [.int .i64 x] (.p (.bool (decide (badW x)))):=by
 refine VFun.enter (env_none (by decide)) Tryz.func108 rfl (by kernel_rfl) (by simp [Tryz.ntmps108]) ?_
 repeat' (first
  |apply VWp.rseq
  |apply VWp.ret
  |apply VOps.nil
  |apply VOps.one
  |(apply VOps.take;rfl;rfl)
  |(apply VOps.drop;rfl;rfl;rfl)
  |(apply VOps.guard;rfl;rfl)
  |(apply VVal.assign;rfl)
  |(apply VVal.move;rfl)
  |(apply VVal.int;rfl;rfl;rfl)
  |(apply VVal.pick_true;rfl;rfl)
  |(apply VVal.pick_false;rfl;rfl)
  |(intro _;try (exfalso;omega)))
 all_goals (refine Done.ret rfl (.refl _) (by first|exact trivial|exact ⟨trivial,trivial,trivial⟩|exact ⟨trivial,trivial,trivial,trivial⟩) HCov.nil (Nat.zero_le _) (Nat.le_refl _) ⟨?_,rfl,rfl⟩;refine PV.bool_eq ?_;first|(refine decide_eq_decide.2 ⟨fun h=>by unfold badW;omega,fun h=>by unfold badW at h;omega⟩)|(symm;apply decide_eq_true;unfold badW;omega))
def okW (l:List Int):Prop:=∀ i,i<l.length→¬ badW (gi l i)
noncomputable instance (l:List Int):Decidable (okW l):=Classical.propDecidable _
noncomputable def windsE (l:List Int):Int:=if okW l then 0 else 3
theorem inl_CF {L:Vm.Frame} {H:Vm.Heap} {nx:Nat} {Q:PV→Vm.Heap→Nat→Prop} {dst:Option Tmp} {ty:TypeId} {pos:String} {af:Array Edge} {gd:Option (Nat×Bool)} {fo:Operand} {args:Array Operand} {aT:Array TypeId} {fs cs xs:List PV} {c:Code}
 (hf:vev env.Γ L fo=some (.clo 107 fs cs)) (ha:evs env.Γ L args.toList=some xs) (hb:Tryz.f107.body=some c) (hn:(fs++xs++cs).length≤Tryz.f107.ntmps)
 (h:VWp env nx c (argFrame 0 (fs++xs++cs)) H nx (DoneI env.P Tryz.f107.results.toList Q)):VVal env true ⟨dst,.call { callee:=.value fo,args:=args,argTypes:=aT },ty,pos,af,gd⟩ L H nx Q:=by
 have h0:(match Tryz.f107.body with|some c=>fnOk env.G Tryz.f107 c|none=>false)=true:=by kernel_rfl
 rw [hb] at h0
 exact VVal.inline rfl hf ha (env_none (by decide)) Tryz.func107 hb h0 hn h
theorem inl_IF {L:Vm.Frame} {H:Vm.Heap} {nx:Nat} {Q:PV→Vm.Heap→Nat→Prop} {dst:Option Tmp} {ty:TypeId} {pos:String} {af:Array Edge} {gd:Option (Nat×Bool)} {fo:Operand} {args:Array Operand} {aT:Array TypeId} {fs cs xs:List PV} {c:Code}
 (hf:vev env.Γ L fo=some (.clo 117 fs cs)) (ha:evs env.Γ L args.toList=some xs) (hb:Tryz.f117.body=some c) (hn:(fs++xs++cs).length≤Tryz.f117.ntmps)
 (h:VWp env nx c (argFrame 0 (fs++xs++cs)) H nx (DoneI env.P Tryz.f117.results.toList Q)):VVal env true ⟨dst,.call { callee:=.value fo,args:=args,argTypes:=aT },ty,pos,af,gd⟩ L H nx Q:=by
 have h0:(match Tryz.f117.body with|some c=>fnOk env.G Tryz.f117 c|none=>false)=true:=by kernel_rfl
 rw [hb] at h0
 exact VVal.inline rfl hf ha (env_none (by decide)) Tryz.func117 hb h0 hn h
set_option maxRecDepth 100000 in
set_option maxHeartbeats 1000000 in
theorem winds_spec (l:List Int) (hl:l.length<9223372036854775808):VFun env 96 [.lst 3 (cells l) l.length] (.p (.int .i64 (windsE l))):=by
 refine VFun.enter (env_none (by decide)) Tryz.func96 rfl (by kernel_rfl) (by simp [Tryz.ntmps96]) ?_
 repeat' (first
  |apply VWp.assoc
  |apply VWp.rseq
  |apply VWp.blockSeq
  |apply VOps.nil
  |apply VOps.one
  |(apply inl_CF;rfl;rfl;rfl;exact le_dec rfl)
  |(apply inl_IF;rfl;rfl;rfl;exact le_dec rfl)
  |(apply VVal.assign;rfl)
  |(apply VVal.move;rfl)
  |(apply VVal.lenF;rfl;rfl))
 refine VWp.loopQ (fun k:Nat=>[(0,lst 3 l),(1,.clo 108 [] []),(7,.p (.int .i64 (l.length:Int))),(8,.p (.int .i64 (k:Int)))]) (fun _=>[]) 0 (fun k=>k≤l.length∧∀ i,i<k→¬ badW (gi l i)) (fun k=>l.length-k) 0 (by omega) ⟨by omega,fun i hi=>by omega⟩ ⟨by omega,?_,?_⟩ ?_
 ·repeat (first|exact LCov.nil|refine LCov.same trivial rfl ?_|refine LCov.same (lt_dec rfl) rfl ?_|refine LCov.same ⟨trivial,lt_dec rfl,lt_dec rfl,lt_dec rfl,trivial⟩ rfl ?_|refine LCov.same ⟨trivial,lt_dec rfl,lt_dec rfl,trivial⟩ rfl ?_|refine LCov.same ⟨trivial,trivial⟩ rfl ?_|refine LCov.cons trivial rfl (.of_eq (lst_len (by simp<;>omega))) ?_)
 ·exact HCov.nil
 rintro k ⟨hk,hok⟩
 have hw:=w1_spec (gi l k)
 repeat' (first
  |apply VWp.assoc
  |apply VWp.rseq
  |apply VWp.region
  |apply VWp.skipSeq
  |apply VWp.retSeq
  |apply VWp.exitSeq
  |apply VWp.blockSeq
  |apply QSeq.normal
  |apply QSeq.ret
  |(apply DoneI.ret;rfl)
  |apply QBlk.normal
  |apply QBlk.ret
  |apply QBlk.exit
  |apply QLoop.ret
  |apply QLoop.exit
  |apply VWp.ret
  |apply VWp.skip
  |apply VOps.nil
  |apply VOps.one
  |(apply VVal.fn;rfl;rfl;exact hw;intro _;rfl)
  |(apply VVal.assign;rfl)
  |(apply VVal.move;rfl)
  |(apply VVal.add64;rfl;rfl;omega)
  |(apply VVal.int;rfl;rfl;rfl)
  |(apply VVal.indexN;rfl;rfl;rfl;omega;rfl)
  |(apply VVal.load;rfl;rfl)
  |(apply VWp.condSeq_true;rfl)
  |(apply VWp.condSeq_false;rfl)
  |(apply VWp.condSeq_dec;rfl)
  |(apply VWp.cond_dec;rfl)
  |(intro _;try (exfalso;omega)))
 ·rename_i a1 a2
  rw [show windsE l=3 from if_neg (fun h=>h k (by omega) a2)]
  (refine Done.ret rfl (.refl _) (by first|exact trivial|exact ⟨trivial,trivial,trivial⟩|exact ⟨trivial,trivial,trivial,trivial⟩) HCov.nil (Nat.zero_le _) (Nat.le_refl _) ⟨?_,rfl,rfl⟩;try rfl)
 ·rename_i a1 a2
  refine QLoop.normal ⟨k+1,⟨by omega,fun i hi=>?_⟩,by omega,⟨by omega,?_,?_⟩⟩
  ·rcases Nat.lt_or_ge i k with h|h
   ·exact hok i h
   ·obtain rfl:i=k:=by omega
    exact a2
  ·repeat (first|exact LCov.nil|refine LCov.same trivial rfl ?_|refine LCov.same (lt_dec rfl) rfl ?_|refine LCov.same ⟨trivial,lt_dec rfl,lt_dec rfl,lt_dec rfl,trivial⟩ rfl ?_|refine LCov.same ⟨trivial,lt_dec rfl,lt_dec rfl,trivial⟩ rfl ?_|refine LCov.same ⟨trivial,trivial⟩ rfl ?_|refine LCov.cons trivial rfl (.of_eq (lst_len (by simp<;>omega))) ?_)
  ·exact HCov.nil
 ·rename_i a1
  rw [show windsE l=0 from if_pos (fun i hi=>hok i (by omega))]
  (refine Done.ret rfl (.refl _) (by first|exact trivial|exact ⟨trivial,trivial,trivial⟩|exact ⟨trivial,trivial,trivial,trivial⟩) HCov.nil (Nat.zero_le _) (Nat.le_refl _) ⟨?_,rfl,rfl⟩;try rfl)
def isL (c:Nat):Prop:=(65≤c∧c≤90)∨(97≤c∧c≤122)
instance (c:Nat):Decidable (isL c):=by unfold isL;infer_instance
def nmC (c:Nat):Prop:=isL c∨(48≤c∧c≤57)∨c=95
theorem letter_spec (c:Nat) (hc:c<256):VFun env 100 [.int .u8 (c:Int)] (.p (.bool (decide (isL c)))):=by
 refine VFun.enter (env_none (by decide)) Tryz.func100 rfl (by kernel_rfl) (by simp [Tryz.ntmps100]) ?_
 repeat' (first
  |apply VWp.rseq
  |apply VWp.ret
  |apply VOps.nil
  |apply VOps.one
  |(apply VOps.take;rfl;rfl)
  |(apply VOps.drop;rfl;rfl;rfl)
  |(apply VOps.guard;rfl;rfl)
  |(apply VOps.dropU;rfl;rfl)
  |(apply VVal.assign;rfl)
  |(apply VVal.move;rfl)
  |(apply VVal.int;rfl;rfl;rfl)
  |(apply VVal.pick_true;rfl;rfl)
  |(apply VVal.pick_false;rfl;rfl)
  |(intro _;try (exfalso;omega)))
 all_goals (refine Done.ret rfl (.refl _) (by first|exact trivial|exact ⟨trivial,trivial,trivial⟩|exact ⟨trivial,trivial,trivial,trivial⟩) HCov.nil (Nat.zero_le _) (Nat.le_refl _) ⟨?_,rfl,rfl⟩;refine PV.bool_eq ?_;first|(refine decide_eq_decide.2 ⟨fun h=>by unfold isL;omega,fun h=>by unfold isL at h;omega⟩)|(symm;apply decide_eq_true;unfold isL;omega)|(symm;apply decide_eq_false;unfold isL;omega))
def nameOk (s:List UInt8):Prop:=0<s.length∧s.length≤32∧isL (gi s 0).toNat∧∀ i,1≤i→i<s.length→nmC (gi s i).toNat
noncomputable instance (s:List UInt8):Decidable (nameOk s):=Classical.propDecidable _
set_option maxRecDepth 100000 in
set_option maxHeartbeats 1000000 in
theorem isName_spec (s:List UInt8) (hs:s.length<9223372036854775808):VFun env 80 [.str (bs s)] (.p (.bool (decide (nameOk s)))):=by
 have hl0:=letter_spec (gi s 0).toNat (gi s 0).toNat_lt
 by_cases hz:s=[]
 ·subst hz
  rw [decide_eq_false (show ¬ nameOk [] from fun h=>absurd h.1 (by decide))]
  refine VFun.enter (env_none (by decide)) Tryz.func80 rfl (by kernel_rfl) (by simp [Tryz.ntmps80]) ?_
  repeat' (first
   |apply VWp.assoc
   |apply VWp.rseq
   |apply VWp.retSeq
   |apply VOps.nil
   |apply VOps.one
   |(apply VOps.drop;rfl;rfl;rfl)
   |(apply VVal.assign;rfl)
   |(apply VVal.move;rfl)
   |(apply VVal.pick_true;rfl;rfl)
   |(apply VVal.eqS;rfl;rfl)
   |(apply VWp.condSeq_true;rfl))
  all_goals first|(refine Done.ret rfl (.refl _) (by first|exact trivial|exact ⟨trivial,trivial,trivial⟩|exact ⟨trivial,trivial,trivial,trivial⟩) HCov.nil (Nat.zero_le _) (Nat.le_refl _) ⟨?_,rfl,rfl⟩;try rfl)|contradiction
 ·have hpos:0<s.length:=List.length_pos_iff.2 hz
  refine VFun.enter (env_none (by decide)) Tryz.func80 rfl (by kernel_rfl) (by simp [Tryz.ntmps80]) ?_
  by_cases h32:s.length≤32
  ·by_cases hL:isL (gi s 0).toNat
   ·rw [decide_eq_true hL] at hl0
    repeat' (first
     |apply VWp.assoc
     |apply VWp.rseq
     |apply VWp.skipSeq
     |apply VWp.retSeq
     |apply VWp.blockSeq
     |apply VOps.nil
     |apply VOps.one
     |(apply VOps.take;rfl;rfl)
     |(apply VOps.drop;rfl;rfl;rfl)
     |(apply VOps.guard;rfl;rfl)
     |(apply VVal.fn;rfl;rfl;exact hl0;intro _;rfl)
     |(apply VVal.indexStN (i:=0);rfl;rfl;rfl;omega)
     |(apply VVal.assign;rfl)
     |(apply VVal.move;rfl)
     |(apply VVal.int;rfl;rfl;rfl)
     |(apply VVal.pick_true;rfl;rfl)
     |(apply VVal.pick_false;rfl;rfl)
     |(apply VVal.lenSt;rfl;rfl)
     |(apply VVal.eqS;rfl;rfl)
     |(apply VVal.not;rfl)
     |(apply VWp.condSeq_true;rfl)
     |(apply VWp.condSeq_false;rfl)
     |(intro _;try (exfalso;omega)))
    all_goals try (exfalso;omega)
    all_goals try contradiction
    refine VWp.loopQ (fun k:Nat=>[(0,st s),(3,.p (.int .i64 (k:Int)))]) (fun _=>[]) 0 (fun k=>1≤k∧k≤s.length∧∀ i,1≤i→i<k→nmC (gi s i).toNat) (fun k=>s.length-k) 1 (by omega) ⟨by omega,by omega,fun i h1 h2=>by omega⟩ ⟨by omega,?_,?_⟩ ?_
    ·repeat (first|exact LCov.nil|refine LCov.same trivial rfl ?_|refine LCov.same (lt_dec rfl) rfl ?_|refine LCov.same ⟨trivial,lt_dec rfl,lt_dec rfl,lt_dec rfl,trivial⟩ rfl ?_|refine LCov.same ⟨trivial,lt_dec rfl,lt_dec rfl,trivial⟩ rfl ?_|refine LCov.same ⟨trivial,trivial⟩ rfl ?_|refine LCov.cons trivial rfl (.of_eq (lst_len (by simp<;>omega))) ?_)
    ·exact HCov.nil
    rintro k ⟨hk1,hk2,hok⟩
    have hlk:=letter_spec (gi s k).toNat (gi s k).toNat_lt
    have hc256:=(gi s k).toNat_lt
    have hnext:nmC (gi s k).toNat→∀ i,1≤i→i<k+1→nmC (gi s i).toNat:=fun h i h1 h2=>by
     rcases Nat.lt_or_ge i k with h3|h3
     ·exact hok i h1 h3
     ·obtain rfl:i=k:=by omega
      exact h
    have hbad:k<s.length→¬ nmC (gi s k).toNat→decide (nameOk s)=false:=fun h1 h2=>decide_eq_false fun h=>h2 (h.2.2.2 k hk1 h1)
    by_cases hkl:k<s.length
    ·by_cases hLk:isL (gi s k).toNat
     ·rw [decide_eq_true hLk] at hlk
      repeat' (first
       |apply VWp.assoc
       |apply VWp.rseq
       |apply VWp.region
       |apply VWp.skipSeq
       |apply VWp.blockSeq
       |apply QSeq.normal
       |apply QBlk.normal
       |apply VWp.skip
       |apply VOps.nil
       |apply VOps.one
       |(apply VOps.drop;rfl;rfl;rfl)
       |(apply VOps.dropU;rfl;rfl)
       |(apply VVal.fn;rfl;rfl;exact hlk;intro _;rfl)
       |(apply VVal.assign;rfl)
       |(apply VVal.move;rfl)
       |(apply VVal.add64;rfl;rfl;omega)
       |(apply VVal.int;rfl;rfl;rfl)
       |(apply VVal.pick_false;rfl;rfl)
       |(apply VVal.lenSt;rfl;rfl)
       |(apply VVal.indexStN;rfl;rfl;rfl;omega)
       |(apply VVal.not;rfl)
       |(apply VWp.condSeq_dec;rfl)
       |(apply VWp.cond_false;rfl)
       |(intro _;try (exfalso;omega)))
      all_goals try (exfalso;omega)
      refine QLoop.normal ⟨k+1,⟨by omega,by omega,hnext (.inl hLk)⟩,by omega,⟨by omega,?_,?_⟩⟩
      ·repeat (first|exact LCov.nil|refine LCov.same trivial rfl ?_|refine LCov.same (lt_dec rfl) rfl ?_|refine LCov.same ⟨trivial,lt_dec rfl,lt_dec rfl,lt_dec rfl,trivial⟩ rfl ?_|refine LCov.same ⟨trivial,lt_dec rfl,lt_dec rfl,trivial⟩ rfl ?_|refine LCov.same ⟨trivial,trivial⟩ rfl ?_|refine LCov.cons trivial rfl (.of_eq (lst_len (by simp<;>omega))) ?_)
      ·exact HCov.nil
     ·rw [decide_eq_false hLk] at hlk
      have hn1:nmC (gi s k).toNat↔(48≤(gi s k).toNat∧(gi s k).toNat≤57)∨(gi s k).toNat=95:=⟨fun h=>h.resolve_left hLk,fun h=>.inr h⟩
      repeat' (first
       |apply VWp.assoc
       |apply VWp.rseq
       |apply VWp.region
       |apply VWp.skipSeq
       |apply VWp.blockSeq
       |apply QSeq.normal
       |apply QSeq.ret
       |apply QBlk.normal
       |apply QBlk.ret
       |apply QLoop.ret
       |apply VWp.ret
       |apply VWp.skip
       |apply VOps.nil
       |apply VOps.one
       |(apply VOps.take;rfl;rfl)
       |(apply VOps.drop;rfl;rfl;rfl)
       |(apply VOps.guard;rfl;rfl)
       |(apply VVal.fn;rfl;rfl;exact hlk;intro _;rfl)
       |(apply VVal.assign;rfl)
       |(apply VVal.move;rfl)
       |(apply VVal.add64;rfl;rfl;omega)
       |(apply VVal.int;rfl;rfl;rfl)
       |(apply VVal.pick_true;rfl;rfl)
       |(apply VVal.pick_false;rfl;rfl)
       |(apply VVal.lenSt;rfl;rfl)
       |(apply VVal.indexStN;rfl;rfl;rfl;omega)
       |(apply VVal.not;rfl)
       |(apply VWp.condSeq_dec;rfl)
       |(apply VWp.cond_false;rfl)
       |(apply VWp.cond_dec;rfl)
       |(intro _;try (exfalso;omega)))
      all_goals try (exfalso;omega)
      all_goals first
       |(rw [hbad hkl (fun h=>by have:=hn1.1 h;omega)];(refine Done.ret rfl (.refl _) (by first|exact trivial|exact ⟨trivial,trivial,trivial⟩|exact ⟨trivial,trivial,trivial,trivial⟩) HCov.nil (Nat.zero_le _) (Nat.le_refl _) ⟨?_,rfl,rfl⟩;try rfl);done)
       |(refine QLoop.normal ⟨k+1,⟨by omega,by omega,hnext (hn1.2 (by omega))⟩,by omega,⟨by omega,?_,HCov.nil⟩⟩;repeat (first|exact LCov.nil|refine LCov.same trivial rfl ?_|refine LCov.same (lt_dec rfl) rfl ?_|refine LCov.same ⟨trivial,lt_dec rfl,lt_dec rfl,lt_dec rfl,trivial⟩ rfl ?_|refine LCov.same ⟨trivial,lt_dec rfl,lt_dec rfl,trivial⟩ rfl ?_|refine LCov.same ⟨trivial,trivial⟩ rfl ?_|refine LCov.cons trivial rfl (.of_eq (lst_len (by simp<;>omega))) ?_))
    ·obtain rfl:k=s.length:=by omega
     rw [decide_eq_true (show nameOk s from ⟨hpos,h32,hL,fun i h1 h2=>hok i h1 h2⟩)]
     repeat' (first
      |apply VWp.assoc
      |apply VWp.rseq
      |apply VWp.exitSeq
      |apply QSeq.normal
      |apply QBlk.exit
      |apply QLoop.exit
      |apply VWp.ret
      |apply VOps.nil
      |apply VOps.one
      |(apply VVal.assign;rfl)
      |(apply VVal.move;rfl)
      |(apply VVal.int;rfl;rfl;rfl)
      |(apply VVal.lenSt;rfl;rfl)
      |(apply VWp.condSeq_dec;rfl)
      |(intro _;try (exfalso;omega)))
     all_goals first|(exfalso;omega)|(refine Done.ret rfl (.refl _) (by first|exact trivial|exact ⟨trivial,trivial,trivial⟩|exact ⟨trivial,trivial,trivial,trivial⟩) HCov.nil (Nat.zero_le _) (Nat.le_refl _) ⟨?_,rfl,rfl⟩;try rfl)
   ·rw [decide_eq_false (show ¬ nameOk s from fun h=>hL h.2.2.1)]
    rw [decide_eq_false hL] at hl0
    repeat' (first
     |apply VWp.assoc
     |apply VWp.rseq
     |apply VWp.retSeq
     |apply VOps.nil
     |apply VOps.one
     |(apply VOps.take;rfl;rfl)
     |(apply VOps.drop;rfl;rfl;rfl)
     |(apply VOps.guard;rfl;rfl)
     |(apply VVal.fn;rfl;rfl;exact hl0;intro _;rfl)
     |(apply VVal.indexStN (i:=0);rfl;rfl;rfl;omega)
     |(apply VVal.assign;rfl)
     |(apply VVal.move;rfl)
     |(apply VVal.int;rfl;rfl;rfl)
     |(apply VVal.pick_true;rfl;rfl)
     |(apply VVal.pick_false;rfl;rfl)
     |(apply VVal.lenSt;rfl;rfl)
     |(apply VVal.eqS;rfl;rfl)
     |(apply VVal.not;rfl)
     |(apply VWp.condSeq_true;rfl)
     |(intro _;try (exfalso;omega)))
    all_goals first|(exfalso;omega)|contradiction|(refine Done.ret rfl (.refl _) (by first|exact trivial|exact ⟨trivial,trivial,trivial⟩|exact ⟨trivial,trivial,trivial,trivial⟩) HCov.nil (Nat.zero_le _) (Nat.le_refl _) ⟨?_,rfl,rfl⟩;try rfl)
  ·rw [decide_eq_false (show ¬ nameOk s from fun h=>h32 h.2.1)]
   repeat' (first
    |apply VWp.assoc
    |apply VWp.rseq
    |apply VWp.retSeq
    |apply VOps.nil
    |apply VOps.one
    |(apply VOps.take;rfl;rfl)
    |(apply VOps.drop;rfl;rfl;rfl)
    |(apply VOps.guard;rfl;rfl)
    |(apply VVal.assign;rfl)
    |(apply VVal.move;rfl)
    |(apply VVal.int;rfl;rfl;rfl)
    |(apply VVal.pick_true;rfl;rfl)
    |(apply VVal.pick_false;rfl;rfl)
    |(apply VVal.lenSt;rfl;rfl)
    |(apply VVal.eqS;rfl;rfl)
    |(apply VWp.condSeq_true;rfl)
    |(intro _;try (exfalso;omega)))
   all_goals first|(exfalso;omega)|contradiction|(refine Done.ret rfl (.refl _) (by first|exact trivial|exact ⟨trivial,trivial,trivial⟩|exact ⟨trivial,trivial,trivial,trivial⟩) HCov.nil (Nat.zero_le _) (Nat.le_refl _) ⟨?_,rfl,rfl⟩;try rfl)
noncomputable def rchk (r:Rnk):Int:=if ¬ nameOk r.name∨¬ nameOk r.tone then 8 else if pchk r.feet≠0 then pchk r.feet else if r.first< -256∨r.first>256 then 3 else if r.wind.length=0 then 13 else if r.wind.length>128 then 4 else windsE r.wind
def firOk (n:Int):Prop:=-256≤n∧n≤256
instance (n:Int):Decidable (firOk n):=by unfold firOk;infer_instance
theorem first_spec (n:Int):VFun env 95 [.int .i64 n] (.p (.bool (decide (firOk n)))):=by
 refine VFun.enter (env_none (by decide)) Tryz.func95 rfl (by kernel_rfl) (by simp [Tryz.ntmps95]) ?_
 repeat' (first
  |apply VWp.rseq
  |apply VWp.ret
  |apply VOps.nil
  |apply VOps.one
  |(apply VOps.take;rfl;rfl)
  |(apply VOps.drop;rfl;rfl;rfl)
  |(apply VOps.guard;rfl;rfl)
  |(apply VVal.assign;rfl)
  |(apply VVal.move;rfl)
  |(apply VVal.int;rfl;rfl;rfl)
  |(apply VVal.pick_true;rfl;rfl)
  |(apply VVal.pick_false;rfl;rfl)
  |(intro _;try (exfalso;omega)))
 all_goals (refine Done.ret rfl (.refl _) (by first|exact trivial|exact ⟨trivial,trivial,trivial⟩|exact ⟨trivial,trivial,trivial,trivial⟩) HCov.nil (Nat.zero_le _) (Nat.le_refl _) ⟨?_,rfl,rfl⟩;refine PV.bool_eq ?_;first|(refine decide_eq_decide.2 ⟨fun h=>by unfold firOk;omega,fun h=>by unfold firOk at h;omega⟩)|(symm;apply decide_eq_false;unfold firOk;omega))
set_option maxRecDepth 100000 in
set_option maxHeartbeats 1000000 in
theorem rcheck_spec (r:Rnk) (h1:r.name.length<9223372036854775808) (h2:r.tone.length<9223372036854775808) (h3:r.wind.length<9223372036854775808):VFun env 77 [.agg (Enc.enc r)] (.p (.int .i64 (rchk r))):=by
 have n1:=isName_spec r.name h1
 have n2:=isName_spec r.tone h2
 have p1:=pcheck_spec r.feet
 have f1:=first_spec r.first
 have w1:=winds_spec r.wind h3
 unfold rchk
 refine VFun.enter (env_none (by decide)) Tryz.func77 rfl (by kernel_rfl) (by simp [Tryz.ntmps77]) ?_
 by_cases a1:nameOk r.name
 ·rw [decide_eq_true a1] at n1
  by_cases a2:nameOk r.tone
  ·rw [decide_eq_true a2] at n2
   rw [if_neg (fun h=>h.elim (fun h=>h a1) (fun h=>h a2))]
   by_cases a3:firOk r.first
   ·rw [decide_eq_true a3] at f1
    unfold firOk at a3
    repeat' (first
     |apply VWp.assoc
     |apply VWp.rseq
     |apply VWp.skipSeq
     |apply VWp.retSeq
     |apply VWp.blockSeq
     |apply QSeq.normal
     |apply QSeq.ret
     |apply QBlk.normal
     |apply QBlk.ret
     |apply VWp.ret
     |apply VWp.skip
     |apply VOps.nil
     |apply VOps.one
     |(apply VOps.take;rfl;rfl)
     |(apply VVal.fn;rfl;rfl;exact n1;intro _;rfl)
     |(apply VVal.fn;rfl;rfl;exact n2;intro _;rfl)
     |(apply VVal.fn;rfl;rfl;exact p1;intro _;rfl)
     |(apply VVal.fn;rfl;rfl;exact f1;intro _;rfl)
     |(apply VVal.fn;rfl;rfl;exact w1;intro _;rfl)
     |(apply VVal.assign;rfl)
     |(apply VVal.move;rfl)
     |(apply VVal.int;rfl;rfl;rfl)
     |(apply VVal.load;rfl;rfl)
     |(apply VVal.pick_false;rfl;rfl)
     |(apply VVal.lenF;rfl;rfl)
     |(apply VVal.fieldB;rfl;rfl;rfl)
     |(apply VVal.box;rfl;trivial)
     |(apply VVal.not;rfl)
     |(apply VWp.condSeq_false;rfl)
     |(apply VWp.condSeq_dec;rfl)
     |(apply VWp.cond_false;rfl)
     |(apply VWp.cond_dec;rfl)
     |(intro _;try (exfalso;omega)))
    all_goals first
     |(rw [if_pos (by assumption)];(refine Done.ret rfl (.refl _) (by first|exact trivial|exact ⟨trivial,trivial,trivial⟩|exact ⟨trivial,trivial,trivial,trivial⟩) HCov.nil (Nat.zero_le _) (Nat.le_refl _) ⟨?_,rfl,rfl⟩;try rfl);done)
     |(rw [if_neg (by assumption),if_neg (by omega),if_pos (by omega)];(refine Done.ret rfl (.refl _) (by first|exact trivial|exact ⟨trivial,trivial,trivial⟩|exact ⟨trivial,trivial,trivial,trivial⟩) HCov.nil (Nat.zero_le _) (Nat.le_refl _) ⟨?_,rfl,rfl⟩;try rfl);done)
     |(rw [if_neg (by assumption),if_neg (by omega),if_neg (by omega),if_pos (by omega)];(refine Done.ret rfl (.refl _) (by first|exact trivial|exact ⟨trivial,trivial,trivial⟩|exact ⟨trivial,trivial,trivial,trivial⟩) HCov.nil (Nat.zero_le _) (Nat.le_refl _) ⟨?_,rfl,rfl⟩;try rfl);done)
     |(rw [if_neg (by assumption),if_neg (by omega),if_neg (by omega),if_neg (by omega)];(refine Done.ret rfl (.refl _) (by first|exact trivial|exact ⟨trivial,trivial,trivial⟩|exact ⟨trivial,trivial,trivial,trivial⟩) HCov.nil (Nat.zero_le _) (Nat.le_refl _) ⟨?_,rfl,rfl⟩;try rfl);done)
   ·rw [decide_eq_false a3] at f1
    unfold firOk at a3
    repeat' (first
     |apply VWp.assoc
     |apply VWp.rseq
     |apply VWp.skipSeq
     |apply VWp.retSeq
     |apply VWp.blockSeq
     |apply QSeq.ret
     |apply QBlk.ret
     |apply VWp.ret
     |apply VOps.nil
     |apply VOps.one
     |(apply VOps.take;rfl;rfl)
     |(apply VVal.fn;rfl;rfl;exact n1;intro _;rfl)
     |(apply VVal.fn;rfl;rfl;exact n2;intro _;rfl)
     |(apply VVal.fn;rfl;rfl;exact p1;intro _;rfl)
     |(apply VVal.fn;rfl;rfl;exact f1;intro _;rfl)
     |(apply VVal.assign;rfl)
     |(apply VVal.move;rfl)
     |(apply VVal.int;rfl;rfl;rfl)
     |(apply VVal.load;rfl;rfl)
     |(apply VVal.pick_false;rfl;rfl)
     |(apply VVal.fieldB;rfl;rfl;rfl)
     |(apply VVal.box;rfl;trivial)
     |(apply VVal.not;rfl)
     |(apply VWp.condSeq_false;rfl)
     |(apply VWp.condSeq_dec;rfl)
     |(apply VWp.cond_true;rfl)
     |(intro _;try (exfalso;omega)))
    all_goals first
     |(rw [if_pos (by assumption)];(refine Done.ret rfl (.refl _) (by first|exact trivial|exact ⟨trivial,trivial,trivial⟩|exact ⟨trivial,trivial,trivial,trivial⟩) HCov.nil (Nat.zero_le _) (Nat.le_refl _) ⟨?_,rfl,rfl⟩;try rfl);done)
     |(rw [if_neg (by assumption),if_pos (by omega)];(refine Done.ret rfl (.refl _) (by first|exact trivial|exact ⟨trivial,trivial,trivial⟩|exact ⟨trivial,trivial,trivial,trivial⟩) HCov.nil (Nat.zero_le _) (Nat.le_refl _) ⟨?_,rfl,rfl⟩;try rfl);done)
  ·rw [decide_eq_false a2] at n2
   rw [if_pos (.inr a2)]
   repeat' (first
    |apply VWp.assoc
    |apply VWp.rseq
    |apply VWp.retSeq
    |apply VOps.nil
    |apply VOps.one
    |(apply VOps.take;rfl;rfl)
    |(apply VVal.fn;rfl;rfl;exact n1;intro _;rfl)
    |(apply VVal.fn;rfl;rfl;exact n2;intro _;rfl)
    |(apply VVal.assign;rfl)
    |(apply VVal.move;rfl)
    |(apply VVal.load;rfl;rfl)
    |(apply VVal.pick_false;rfl;rfl)
    |(apply VVal.fieldB;rfl;rfl;rfl)
    |(apply VVal.box;rfl;trivial)
    |(apply VVal.not;rfl)
    |(apply VWp.condSeq_true;rfl))
   all_goals (refine Done.ret rfl (.refl _) (by first|exact trivial|exact ⟨trivial,trivial,trivial⟩|exact ⟨trivial,trivial,trivial,trivial⟩) HCov.nil (Nat.zero_le _) (Nat.le_refl _) ⟨?_,rfl,rfl⟩;try rfl)
 ·rw [decide_eq_false a1] at n1
  rw [if_pos (.inl a1)]
  repeat' (first
   |apply VWp.assoc
   |apply VWp.rseq
   |apply VWp.retSeq
   |apply VOps.nil
   |apply VOps.one
   |(apply VOps.drop;rfl;rfl;rfl)
   |(apply VVal.fn;rfl;rfl;exact n1;intro _;rfl)
   |(apply VVal.assign;rfl)
   |(apply VVal.move;rfl)
   |(apply VVal.load;rfl;rfl)
   |(apply VVal.pick_true;rfl;rfl)
   |(apply VVal.fieldB;rfl;rfl;rfl)
   |(apply VVal.box;rfl;trivial)
   |(apply VVal.not;rfl)
   |(apply VWp.condSeq_true;rfl))
  all_goals (refine Done.ret rfl (.refl _) (by first|exact trivial|exact ⟨trivial,trivial,trivial⟩|exact ⟨trivial,trivial,trivial,trivial⟩) HCov.nil (Nat.zero_le _) (Nat.le_refl _) ⟨?_,rfl,rfl⟩;try rfl)
end Go.Proofs.YtcnlhgmkelkikaaGreatDoor
