/-
  The law of organs: Changed. Conditions: in each statement. (Written by mkch.py.)
-/
import Derived.Test.YtcnlhgmkelkikaaGreatDoorOrR
set_option linter.unusedSimpArgs false
set_option linter.unusedVariables false
namespace Go.Proofs.YtcnlhgmkelkikaaGreatDoor
open Go Go.Am Go.Vm
attribute [local irreducible] VVal VOps VOpsD VWp VCalls VFun VFunV QSeq QBlk QLoop Vm.Done DoneV DoneI
set_option maxRecDepth 100000 in
set_option maxHeartbeats 4000000 in
theorem chg9 (o:Org) (n:Nat) (hn:n≤1000) (hl:OrgL n o) (hr0:0<o.ranks.length) (hd0:0<o.divs.length) (K A:Nat) (hK:K<256) (hA:A<256) (hc:K % 16=9) (h0:0<(gi o.divs (A % o.divs.length)).stops.length) :
 VFun env 29 [.agg (Enc.enc o),.agg [.int .u8 (K:Int),.int .u8 (A:Int)]] (.p (.agg (Enc.enc (⟨o.name,o.ranks,o.divs.set (A % o.divs.length) (⟨(gi o.divs (A % o.divs.length)).name,(gi o.divs (A % o.divs.length)).pedal,(gi o.divs (A % o.divs.length)).lo,(gi o.divs (A % o.divs.length)).hi,((gi o.divs (A % o.divs.length)).stops.set 0 (⟨gi chD (A % 4),(gi (gi o.divs (A % o.divs.length)).stops 0).feet,(gi (gi o.divs (A % o.divs.length)).stops 0).segs⟩:Stp))⟩:Dvs),o.cpls⟩:Org)))):=by
 have hr:=hl.ranks
 have hd:=hl.divs
 have hcp:=hl.cpls
 have kd:A % o.divs.length<o.divs.length:=Nat.mod_lt _ hd0
 have kr:A % o.ranks.length<o.ranks.length:=Nat.mod_lt _ hr0
 have hst:=hl.stops _ kd
 have a4:A % 4<chD.length:=Nat.mod_lt _ (by decide)
 have ed:(Enc.enc (⟨(gi o.divs (A % o.divs.length)).name,(gi o.divs (A % o.divs.length)).pedal,(gi o.divs (A % o.divs.length)).lo,(gi o.divs (A % o.divs.length)).hi,((gi o.divs (A % o.divs.length)).stops.set 0 (⟨gi chD (A % 4),(gi (gi o.divs (A % o.divs.length)).stops 0).feet,(gi (gi o.divs (A % o.divs.length)).stops 0).segs⟩:Stp))⟩:Dvs)).map PV.p=[.p (.str (bs (gi o.divs (A % o.divs.length)).name)),.p (.bool (gi o.divs (A % o.divs.length)).pedal),.p (.int .i64 (gi o.divs (A % o.divs.length)).lo),.p (.int .i64 (gi o.divs (A % o.divs.length)).hi),.p (.lst 52 (cells ((gi o.divs (A % o.divs.length)).stops.set 0 (⟨gi chD (A % 4),(gi (gi o.divs (A % o.divs.length)).stops 0).feet,(gi (gi o.divs (A % o.divs.length)).stops 0).segs⟩:Stp))) (gi o.divs (A % o.divs.length)).stops.length)]:=by
  show [PV.p (.str (bs (gi o.divs (A % o.divs.length)).name)),.p (.bool (gi o.divs (A % o.divs.length)).pedal),.p (.int .i64 (gi o.divs (A % o.divs.length)).lo),.p (.int .i64 (gi o.divs (A % o.divs.length)).hi),.p (.lst 52 (cells ((gi o.divs (A % o.divs.length)).stops.set 0 (⟨gi chD (A % 4),(gi (gi o.divs (A % o.divs.length)).stops 0).feet,(gi (gi o.divs (A % o.divs.length)).stops 0).segs⟩:Stp))) ((gi o.divs (A % o.divs.length)).stops.set 0 (⟨gi chD (A % 4),(gi (gi o.divs (A % o.divs.length)).stops 0).feet,(gi (gi o.divs (A % o.divs.length)).stops 0).segs⟩:Stp)).length)]=_
  rw [List.length_set]
 rw [orgEnc_eq (nr:=o.ranks.length) (nd:=o.divs.length) (nc:=o.cpls.length) rfl List.length_set rfl]
 refine VFun.enter (env_none (by decide)) Tryz.func29 rfl (by kernel_rfl) (by simp [Tryz.ntmps29]) ?_
 repeat' (first
  |(refine VWp.at 47 ?_;refine VWp.ghost (Ghost.freezeCell 9 4 rfl rfl rfl) ?_;first|apply VWp.rseq|apply VWp.rseqD)
  |(refine VWp.at 49 ?_;refine VWp.ghost (Ghost.trans (Ghost.freezeCell 0 1 rfl rfl rfl) (Ghost.trans (Ghost.freezeCell 0 2 rfl rfl rfl) (Ghost.freezeCell 0 3 rfl rfl rfl))) ?_;first|apply VWp.rseq|apply VWp.rseqD)
  |(refine VOps.atOp 184 ?_;refine VOps.ghost (Ghost.freeze 180 rfl rfl) ?_)
  |apply VWp.assoc
  |apply VWp.rseq
  |apply VWp.rseqD
  |apply VWp.region
  |apply VWp.blockSeq
  |apply QSeq.normal
  |apply QBlk.normal
  |apply VWp.ret
  |apply VOps.nil
  |apply VOpsD.nil
  |apply VOps.one
  |(apply VOpsD.bar;decide +kernel)
  |apply VOpsD.quiet
  |(apply VVal.indexVN (i:=0);rfl;rfl;rfl;rfl;exact h0)
  |(apply VVal.loadVL (i:=0);rfl;rfl;exact h0;rfl)
  |(apply VVal.indexN (l:=chD) (i:=A % 4);rfl;rfl;rfl;exact a4;rfl)
  |(apply VVal.storeVL (i:=0) (⟨gi chD (A % 4),(gi (gi o.divs (A % o.divs.length)).stops 0).feet,(gi (gi o.divs (A % o.divs.length)).stops 0).segs⟩:Stp);rfl;rfl;rfl;trivial;rfl;rfl;rfl;decide;exact h0)
  |(apply VVal.storeVL (i:=A % o.divs.length) (⟨(gi o.divs (A % o.divs.length)).name,(gi o.divs (A % o.divs.length)).pedal,(gi o.divs (A % o.divs.length)).lo,(gi o.divs (A % o.divs.length)).hi,((gi o.divs (A % o.divs.length)).stops.set 0 (⟨gi chD (A % 4),(gi (gi o.divs (A % o.divs.length)).stops 0).feet,(gi (gi o.divs (A % o.divs.length)).stops 0).segs⟩:Stp))⟩:Dvs);rfl;rfl;rfl;trivial;exact ed.symm;rfl;rfl;decide;exact kd)
  |(apply VVal.remN;rfl;rfl;omega)
  |(apply VVal.indexVN (i:=A % o.divs.length);rfl;rfl;rfl;rfl;exact kd)
  |(apply VVal.loadVL (i:=A % o.divs.length);rfl;rfl;exact kd;rfl)
  |(apply VVal.assign;rfl)
  |(apply VVal.move;rfl)
  |(apply VVal.remI;rfl;rfl;omega;omega)
  |(apply VVal.int;rfl;rfl;rfl)
  |(apply VVal.load;rfl;rfl)
  |(apply VVal.lenV;rfl;rfl;rfl)
  |(apply VVal.fieldB;rfl;rfl;rfl)
  |(apply VVal.box;rfl;trivial)
  |(apply VVal.alloc;rfl)
  |(apply VVal.storeB;rfl;rfl;rfl;trivial;rfl;rfl;exact lt_dec rfl;exact le_dec rfl)
  |(apply VVal.buildSlice;rfl;rfl;rfl;decide;rfl;rfl;rfl)
  |(apply VVal.convI;rfl;rfl;rfl;rfl;omega)
  |(apply VVal.appendL0;rfl;rfl;rfl;(first|rfl|omega|(simp only [List.length_take,List.length_drop,List.length_append,List.length_singleton,List.length_cons,List.length_nil]<;>omega));rfl;rfl;(intro _ h;cases h);rfl;rfl;rfl;decide;decide;(first|omega|(simp only [List.length_take,List.length_drop,List.length_append,List.length_singleton,List.length_cons,List.length_nil]<;>omega)))
  |(apply VWp.condSeq_dec;rfl)
  |(apply VWp.cond_dec;rfl)
  |(intro _;try (exfalso;omega)))
 all_goals first|(exfalso;omega)|contradiction|(refine Done.ret rfl (.refl _) (by first|exact trivial|exact ⟨trivial,trivial,trivial⟩|exact ⟨trivial,trivial,trivial,trivial⟩) HCov.nil (Nat.zero_le _) (Nat.le_refl _) ⟨?_,rfl,rfl⟩;try rfl)
set_option maxRecDepth 100000 in
set_option maxHeartbeats 4000000 in
theorem chg11 (o:Org) (n:Nat) (hn:n≤1000) (hl:OrgL n o) (hr0:0<o.ranks.length) (hd0:0<o.divs.length) (K A:Nat) (hK:K<256) (hA:A<256) (hc:K % 16=11) :
 VFun env 29 [.agg (Enc.enc o),.agg [.int .u8 (K:Int),.int .u8 (A:Int)]] (.p (.agg (Enc.enc (⟨o.name,o.ranks.take (A % o.ranks.length),o.divs.set (A % o.divs.length) (gi o.divs (A % o.divs.length)),o.cpls⟩:Org)))):=by
 have hr:=hl.ranks
 have hd:=hl.divs
 have hcp:=hl.cpls
 have kd:A % o.divs.length<o.divs.length:=Nat.mod_lt _ hd0
 have kr:A % o.ranks.length<o.ranks.length:=Nat.mod_lt _ hr0
 have hst:=hl.stops _ kd
 rw [orgEnc_eq (nr:=(A % o.ranks.length)) (nd:=o.divs.length) (nc:=o.cpls.length) (by rw [List.length_take];omega) List.length_set rfl]
 refine VFun.enter (env_none (by decide)) Tryz.func29 rfl (by kernel_rfl) (by simp [Tryz.ntmps29]) ?_
 repeat' (first
  |(refine VWp.atEnd 42 ?_;refine VWp.ghost (Ghost.freezeCell 0 1 rfl rfl rfl) ?_;first|apply VWp.region|apply VWp.regionD)
  |(refine VWp.at 47 ?_;refine VWp.ghost (Ghost.freezeCell 9 4 rfl rfl rfl) ?_;first|apply VWp.rseq|apply VWp.rseqD)
  |(refine VWp.at 49 ?_;refine VWp.ghost (Ghost.trans (Ghost.freezeCell 0 2 rfl rfl rfl) (Ghost.freezeCell 0 3 rfl rfl rfl)) ?_;first|apply VWp.rseq|apply VWp.rseqD)
  |apply VWp.assoc
  |apply VWp.rseq
  |apply VWp.rseqD
  |apply VWp.blockSeq
  |apply QSeq.normal
  |apply QBlk.normal
  |apply VWp.ret
  |apply VOps.nil
  |apply VOpsD.nil
  |apply VOps.one
  |(apply VOpsD.bar;decide +kernel)
  |apply VOpsD.quiet
  |(apply VVal.storeVL (y:=(gi o.divs (A % o.divs.length)));rfl;rfl;rfl;trivial;(first|rfl|(refine congrArg (fun t=>[PV.p (FV.int _ t)]) ?_;first|omega|(simp only [Int.natCast_add,Int.natCast_mul,Int.natCast_ediv,Int.natCast_emod]<;>omega)));rfl;rfl;decide;(first|omega|(simp only [List.length_set]<;>omega)))
  |(apply VVal.remN;rfl;rfl;omega)
  |(apply VVal.indexVN (i:=A % o.divs.length);rfl;rfl;rfl;rfl;exact kd)
  |(apply VVal.loadVL (i:=A % o.divs.length);rfl;rfl;exact kd;rfl)
  |(apply VVal.assign;rfl)
  |(apply VVal.move;rfl)
  |(apply VVal.remI;rfl;rfl;omega;omega)
  |(apply VVal.int;rfl;rfl;rfl)
  |(apply VVal.load;rfl;rfl)
  |(apply VVal.lenV;rfl;rfl;rfl)
  |(apply VVal.fieldB;rfl;rfl;rfl)
  |(apply VVal.box;rfl;trivial)
  |(apply VVal.alloc;rfl)
  |(apply VVal.storeB;rfl;rfl;rfl;trivial;rfl;rfl;exact lt_dec rfl;exact le_dec rfl)
  |(apply VVal.buildSlice;rfl;rfl;rfl;decide;rfl;rfl;rfl)
  |(apply VVal.convI;rfl;rfl;rfl;rfl;omega)
  |(apply VVal.appendL0;rfl;rfl;rfl;(first|rfl|omega|(simp only [List.length_take,List.length_drop,List.length_append,List.length_singleton,List.length_cons,List.length_nil]<;>omega));rfl;rfl;(intro _ h;cases h);rfl;rfl;rfl;decide;decide;(first|omega|(simp only [List.length_take,List.length_drop,List.length_append,List.length_singleton,List.length_cons,List.length_nil]<;>omega)))
  |(apply VVal.sliceTo;rfl;rfl;rfl;rfl;rfl;rfl;omega)
  |(apply VWp.condSeq_dec;rfl)
  |(apply VWp.cond_dec;rfl)
  |(intro _;try (exfalso;omega)))
 all_goals first|(exfalso;omega)|contradiction|(refine Done.ret rfl (.refl _) (by first|exact trivial|exact ⟨trivial,trivial,trivial⟩|exact ⟨trivial,trivial,trivial,trivial⟩) HCov.nil (Nat.zero_le _) (Nat.le_refl _) ⟨?_,rfl,rfl⟩;try rfl)
set_option maxRecDepth 100000 in
set_option maxHeartbeats 4000000 in
theorem chg12 (o:Org) (n:Nat) (hn:n≤1000) (hl:OrgL n o) (hr0:0<o.ranks.length) (hd0:0<o.divs.length) (K A:Nat) (hK:K<256) (hA:A<256) (hc:K % 16=12) :
 VFun env 29 [.agg (Enc.enc o),.agg [.int .u8 (K:Int),.int .u8 (A:Int)]] (.p (.agg (Enc.enc (⟨o.name,o.ranks,o.divs.set (A % o.divs.length) (gi o.divs (A % o.divs.length)),o.cpls++[(⟨[67,57],((A % 5:Nat):Int),0,1,false⟩:Cpl)]⟩:Org)))):=by
 have hr:=hl.ranks
 have hd:=hl.divs
 have hcp:=hl.cpls
 have kd:A % o.divs.length<o.divs.length:=Nat.mod_lt _ hd0
 have kr:A % o.ranks.length<o.ranks.length:=Nat.mod_lt _ hr0
 have hst:=hl.stops _ kd
 rw [orgEnc_eq (nr:=o.ranks.length) (nd:=o.divs.length) (nc:=(o.cpls.length+1)) rfl List.length_set (by simp)]
 refine VFun.enter (env_none (by decide)) Tryz.func29 rfl (by kernel_rfl) (by simp [Tryz.ntmps29]) ?_
 repeat' (first
  |(refine VWp.at 47 ?_;refine VWp.ghost (Ghost.freezeCell 9 4 rfl rfl rfl) ?_;first|apply VWp.rseq|apply VWp.rseqD)
  |(refine VWp.at 49 ?_;refine VWp.ghost (Ghost.trans (Ghost.freezeCell 0 1 rfl rfl rfl) (Ghost.trans (Ghost.freezeCell 0 2 rfl rfl rfl) (Ghost.freezeCell 0 3 rfl rfl rfl))) ?_;first|apply VWp.rseq|apply VWp.rseqD)
  |apply VWp.assoc
  |apply VWp.rseq
  |apply VWp.rseqD
  |apply VWp.region
  |apply VWp.blockSeq
  |apply QSeq.normal
  |apply QBlk.normal
  |apply VWp.ret
  |apply VOps.nil
  |apply VOpsD.nil
  |apply VOps.one
  |(apply VOpsD.bar;decide +kernel)
  |apply VOpsD.quiet
  |(apply VVal.storeVL (y:=(gi o.divs (A % o.divs.length)));rfl;rfl;rfl;trivial;(first|rfl|(refine congrArg (fun t=>[PV.p (FV.int _ t)]) ?_;first|omega|(simp only [Int.natCast_add,Int.natCast_mul,Int.natCast_ediv,Int.natCast_emod]<;>omega)));rfl;rfl;decide;(first|omega|(simp only [List.length_set]<;>omega)))
  |(apply VVal.append1 (a:=(⟨[67,57],((A % 5:Nat):Int),0,1,false⟩:Cpl));rfl;rfl;rfl;rfl;rfl;rfl;rfl;rfl;(intro _ h;cases h);rfl;rfl;rfl;decide;decide;(first|omega|(simp only [List.length_take,List.length_drop,List.length_append,List.length_singleton,List.length_cons,List.length_nil]<;>omega)))
  |(apply VVal.remN;rfl;rfl;omega)
  |(apply VVal.indexVN (i:=A % o.divs.length);rfl;rfl;rfl;rfl;exact kd)
  |(apply VVal.loadVL (i:=A % o.divs.length);rfl;rfl;exact kd;rfl)
  |(apply VVal.assign;rfl)
  |(apply VVal.move;rfl)
  |(apply VVal.remI;rfl;rfl;omega;omega)
  |(apply VVal.int;rfl;rfl;rfl)
  |(apply VVal.load;rfl;rfl)
  |(apply VVal.lenV;rfl;rfl;rfl)
  |(apply VVal.fieldB;rfl;rfl;rfl)
  |(apply VVal.box;rfl;trivial)
  |(apply VVal.alloc;rfl)
  |(apply VVal.storeB;rfl;rfl;rfl;trivial;rfl;rfl;exact lt_dec rfl;exact le_dec rfl)
  |(apply VVal.build;rfl;rfl;rfl;rfl;rfl)
  |(apply VVal.buildSlice;rfl;rfl;rfl;decide;rfl;rfl;rfl)
  |(apply VVal.convI;rfl;rfl;rfl;rfl;omega)
  |(apply VVal.appendL0;rfl;rfl;rfl;(first|rfl|omega|(simp only [List.length_take,List.length_drop,List.length_append,List.length_singleton,List.length_cons,List.length_nil]<;>omega));rfl;rfl;(intro _ h;cases h);rfl;rfl;rfl;decide;decide;(first|omega|(simp only [List.length_take,List.length_drop,List.length_append,List.length_singleton,List.length_cons,List.length_nil]<;>omega)))
  |(apply VWp.condSeq_dec;rfl)
  |(apply VWp.cond_dec;rfl)
  |(intro _;try (exfalso;omega)))
 all_goals first|(exfalso;omega)|contradiction|(refine Done.ret rfl (.refl _) (by first|exact trivial|exact ⟨trivial,trivial,trivial⟩|exact ⟨trivial,trivial,trivial,trivial⟩) HCov.nil (Nat.zero_le _) (Nat.le_refl _) ⟨?_,rfl,rfl⟩;try rfl)
set_option maxRecDepth 100000 in
set_option maxHeartbeats 4000000 in
theorem chg13 (o:Org) (n:Nat) (hn:n≤1000) (hl:OrgL n o) (hr0:0<o.ranks.length) (hd0:0<o.divs.length) (K A:Nat) (hK:K<256) (hA:A<256) (hc:K % 16=13) :
 VFun env 29 [.agg (Enc.enc o),.agg [.int .u8 (K:Int),.int .u8 (A:Int)]] (.p (.agg (Enc.enc (⟨o.name,o.ranks,o.divs.set (A % o.divs.length) (gi o.divs (A % o.divs.length)),o.cpls++[(⟨gi chE (A % 3),0,0,1,false⟩:Cpl)]⟩:Org)))):=by
 have hr:=hl.ranks
 have hd:=hl.divs
 have hcp:=hl.cpls
 have kd:A % o.divs.length<o.divs.length:=Nat.mod_lt _ hd0
 have kr:A % o.ranks.length<o.ranks.length:=Nat.mod_lt _ hr0
 have hst:=hl.stops _ kd
 have a4:A % 3<chE.length:=Nat.mod_lt _ (by decide)
 rw [orgEnc_eq (nr:=o.ranks.length) (nd:=o.divs.length) (nc:=(o.cpls.length+1)) rfl List.length_set (by simp)]
 refine VFun.enter (env_none (by decide)) Tryz.func29 rfl (by kernel_rfl) (by simp [Tryz.ntmps29]) ?_
 repeat' (first
  |(refine VWp.at 47 ?_;refine VWp.ghost (Ghost.freezeCell 9 4 rfl rfl rfl) ?_;first|apply VWp.rseq|apply VWp.rseqD)
  |(refine VWp.at 49 ?_;refine VWp.ghost (Ghost.trans (Ghost.freezeCell 0 1 rfl rfl rfl) (Ghost.trans (Ghost.freezeCell 0 2 rfl rfl rfl) (Ghost.freezeCell 0 3 rfl rfl rfl))) ?_;first|apply VWp.rseq|apply VWp.rseqD)
  |(refine VOpsD.atOp 258 ?_;refine VOpsD.ghost (Ghost.freeze 254 rfl rfl) ?_)
  |apply VWp.assoc
  |apply VWp.rseq
  |apply VWp.rseqD
  |apply VWp.regionD
  |apply VWp.blockSeq
  |apply QSeq.normal
  |apply QBlk.normal
  |apply VWp.ret
  |apply VOps.nil
  |apply VOpsD.nil
  |apply VOps.one
  |(apply VOpsD.bar;decide +kernel)
  |apply VOpsD.quiet
  |(apply VVal.indexN (l:=chE) (i:=A % 3);rfl;rfl;rfl;exact a4;rfl)
  |(apply VVal.storeVL (y:=(gi o.divs (A % o.divs.length)));rfl;rfl;rfl;trivial;(first|rfl|(refine congrArg (fun t=>[PV.p (FV.int _ t)]) ?_;first|omega|(simp only [Int.natCast_add,Int.natCast_mul,Int.natCast_ediv,Int.natCast_emod]<;>omega)));rfl;rfl;decide;(first|omega|(simp only [List.length_set]<;>omega)))
  |(apply VVal.append1 (a:=(⟨gi chE (A % 3),0,0,1,false⟩:Cpl));rfl;rfl;rfl;rfl;rfl;rfl;rfl;rfl;(intro _ h;cases h);rfl;rfl;rfl;decide;decide;(first|omega|(simp only [List.length_take,List.length_drop,List.length_append,List.length_singleton,List.length_cons,List.length_nil]<;>omega)))
  |(apply VVal.remN;rfl;rfl;omega)
  |(apply VVal.indexVN (i:=A % o.divs.length);rfl;rfl;rfl;rfl;exact kd)
  |(apply VVal.loadVL (i:=A % o.divs.length);rfl;rfl;exact kd;rfl)
  |(apply VVal.assign;rfl)
  |(apply VVal.move;rfl)
  |(apply VVal.remI;rfl;rfl;omega;omega)
  |(apply VVal.int;rfl;rfl;rfl)
  |(apply VVal.load;rfl;rfl)
  |(apply VVal.lenV;rfl;rfl;rfl)
  |(apply VVal.fieldB;rfl;rfl;rfl)
  |(apply VVal.box;rfl;trivial)
  |(apply VVal.alloc;rfl)
  |(apply VVal.storeB;rfl;rfl;rfl;trivial;rfl;rfl;exact lt_dec rfl;exact le_dec rfl)
  |(apply VVal.build;rfl;rfl;rfl;rfl;rfl)
  |(apply VVal.buildSlice;rfl;rfl;rfl;decide;rfl;rfl;rfl)
  |(apply VVal.convI;rfl;rfl;rfl;rfl;omega)
  |(apply VVal.appendL0;rfl;rfl;rfl;(first|rfl|omega|(simp only [List.length_take,List.length_drop,List.length_append,List.length_singleton,List.length_cons,List.length_nil]<;>omega));rfl;rfl;(intro _ h;cases h);rfl;rfl;rfl;decide;decide;(first|omega|(simp only [List.length_take,List.length_drop,List.length_append,List.length_singleton,List.length_cons,List.length_nil]<;>omega)))
  |(apply VWp.condSeq_dec;rfl)
  |(apply VWp.cond_dec;rfl)
  |(intro _;try (exfalso;omega)))
 all_goals first|(exfalso;omega)|contradiction|(refine Done.ret rfl (.refl _) (by first|exact trivial|exact ⟨trivial,trivial,trivial⟩|exact ⟨trivial,trivial,trivial,trivial⟩) HCov.nil (Nat.zero_le _) (Nat.le_refl _) ⟨?_,rfl,rfl⟩;try rfl)
end Go.Proofs.YtcnlhgmkelkikaaGreatDoor
set_option linter.unusedSimpArgs false
set_option linter.unusedVariables false
namespace Go.Proofs.YtcnlhgmkelkikaaGreatDoor
open Go Go.Am Go.Vm
attribute [local irreducible] VVal VOps VOpsD VWp VCalls VFun VFunV QSeq QBlk QLoop Vm.Done DoneV DoneI
def f4 (l:List Rnk):Rnk:=⟨[88,UInt8.ofNat (48+(l.length:Int) / 10).toNat,UInt8.ofNat (48+(l.length:Int) % 10).toNat],(gi l 0).tone,(gi l 0).feet,(gi l 0).first,(gi l 0).wind⟩
def f6 (l:List Dvs):Dvs:=⟨[69,UInt8.ofNat (48+(l.length:Int)).toNat],false,0,0,[]⟩
def f10 (l:List Stp):Stp:=⟨[89,UInt8.ofNat (48+(l.length:Int) / 10).toNat,UInt8.ofNat (48+(l.length:Int) % 10).toNat],(gi l 0).feet,(gi l 0).segs⟩
set_option maxRecDepth 100000 in
set_option maxHeartbeats 4000000 in
theorem chg4 (o:Org) (n:Nat) (hn:n≤1000) (hl:OrgL n o) (hr0:0<o.ranks.length) (hd0:0<o.divs.length) (K A:Nat) (hK:K<256) (hA:A<256) (hc:K % 16=4) :
 VFun env 29 [.agg (Enc.enc o),.agg [.int .u8 (K:Int),.int .u8 (A:Int)]] (.p (.agg (Enc.enc (⟨o.name,appK f4 o.ranks (60+A % 2-o.ranks.length),o.divs.set (A % o.divs.length) (gi o.divs (A % o.divs.length)),o.cpls⟩:Org)))):=by
 have hr:=hl.ranks
 have hd:=hl.divs
 have hcp:=hl.cpls
 have kd:A % o.divs.length<o.divs.length:=Nat.mod_lt _ hd0
 have kr:A % o.ranks.length<o.ranks.length:=Nat.mod_lt _ hr0
 have hst:=hl.stops _ kd
 rw [orgEnc_eq (nr:=(appK f4 o.ranks (60+A % 2-o.ranks.length)).length) (nd:=o.divs.length) (nc:=o.cpls.length) rfl List.length_set rfl]
 refine VFun.enter (env_none (by decide)) Tryz.func29 rfl (by kernel_rfl) (by simp [Tryz.ntmps29]) ?_
 repeat' (first
  |apply VWp.assoc
  |apply VWp.rseq
  |apply VWp.rseqD
  |apply VWp.blockSeq
  |apply VWp.blockQ
  |apply VOps.nil
  |apply VOpsD.nil
  |apply VOps.one
  |(apply VOpsD.bar;decide +kernel)
  |apply VOpsD.quiet
  |(apply VVal.remN;rfl;rfl;omega)
  |(apply VVal.indexVN (i:=A % o.divs.length);rfl;rfl;rfl;rfl;exact kd)
  |(apply VVal.loadVL (i:=A % o.divs.length);rfl;rfl;exact kd;rfl)
  |(apply VVal.assign;rfl)
  |(apply VVal.move;rfl)
  |(apply VVal.remI;rfl;rfl;omega;omega)
  |(apply VVal.int;rfl;rfl;rfl)
  |(apply VVal.load;rfl;rfl)
  |(apply VVal.lenV;rfl;rfl;rfl)
  |(apply VVal.fieldB;rfl;rfl;rfl)
  |(apply VVal.box;rfl;trivial)
  |(apply VVal.alloc;rfl)
  |(apply VVal.storeB;rfl;rfl;rfl;trivial;rfl;rfl;exact lt_dec rfl;exact le_dec rfl)
  |(apply VVal.buildSlice;rfl;rfl;rfl;decide;rfl;rfl;rfl)
  |(apply VVal.convI;rfl;rfl;rfl;rfl;omega)
  |(apply VVal.appendL0;rfl;rfl;rfl;(first|rfl|omega|(simp only [List.length_take,List.length_drop,List.length_append,List.length_singleton,List.length_cons,List.length_nil]<;>omega));rfl;rfl;(intro _ h;cases h);rfl;rfl;rfl;decide;decide;(first|omega|(simp only [List.length_take,List.length_drop,List.length_append,List.length_singleton,List.length_cons,List.length_nil]<;>omega)))
  |(apply VWp.cond_dec;rfl)
  |(intro _;try (exfalso;omega)))
 all_goals try (exfalso;omega)
 apply VWp.loopR (60+A % 2-o.ranks.length) [(2,_),(3,_),(4,_),(6,_),(7,_)] [(1,_),(2,_),(6,_),(8,_),(9,_),(11,_)] (fun k r=>r) (fun k r=>(0,.box 33 [.p (.str (bs o.name)),.vec 4 (appK f4 o.ranks k).length 0 (appK f4 o.ranks k).length,.vec 6 o.divs.length 0 o.divs.length,.vec 8 o.cpls.length 0 o.cpls.length])::(4,.vec 44 (cells (appK f4 o.ranks k)) (appK f4 o.ranks k).length false)::r) 12
 ·omega
 ·omega
 ·repeat (first|exact LCov.nil|(refine LCov.eq rfl ?_ ?_;(first|exact PV.under_of rfl|(simp [PV.under,PVs.under];done)))|refine LCov.cons trivial rfl (.of_eq (lst_len (by simp<;>omega))) ?_)
 ·repeat (first|exact HCov.nil|(refine HCov.eq rfl (lt_dec rfl) ?_ ?_;(first|exact HB.under_of rfl|exact PVs.under_pure _ _|(simp [HB.under,PVs.under,PV.under];done)))|(refine HCov.cons (lt_dec rfl) ?_ rfl ?_ ?_;(first|exact trivial|exact PVs.under_pure _ _|(simp [HB.under,PVs.under,PV.under]));(first|exact HLe.refl _|exact HLe.vec (FLes.refl _) (by simp))))
 ·intro k hk
  have hk2:=appK_len f4 o.ranks k
  have e1:appK f4 o.ranks (k+1)=appK f4 o.ranks k++[f4 (appK f4 o.ranks k)]:=rfl
  have e2:(appK f4 o.ranks (k+1)).length=(appK f4 o.ranks k).length+1:=by rw [e1];simp
  repeat' (first
   |apply VWp.assoc
   |apply VWp.rseq
   |apply VWp.region
   |apply VWp.skipSeq
   |apply QBlk.normal
   |apply VWp.blockQ
   |apply VOps.nil
   |apply VOps.one
   |(apply VVal.indexVN (i:=0);rfl;rfl;rfl;rfl;omega)
   |(apply VVal.loadVL (i:=0);rfl;rfl;omega;rfl)
   |(apply VVal.ofByte2;rfl;rfl;rfl;rfl;rfl;omega;omega)
   |(apply VVal.append1 (a:=f4 (appK f4 o.ranks k));rfl;rfl;rfl;rfl;rfl;rfl;rfl;rfl;(intro _ h;cases h);rfl;rfl;rfl;decide;decide;(first|omega|(simp only [List.length_take,List.length_drop,List.length_append,List.length_singleton,List.length_cons,List.length_nil]<;>omega)))
   |(apply VVal.assign;rfl)
   |(apply VVal.move;rfl)
   |(apply VVal.add64;rfl;rfl;omega)
   |(apply VVal.remI;rfl;rfl;omega;omega)
   |(apply VVal.quoI;rfl;rfl;omega;omega)
   |(apply VVal.int;rfl;rfl;rfl)
   |(apply VVal.load;rfl;rfl)
   |(apply VVal.lenV;rfl;rfl;rfl)
   |(apply VVal.fieldB;rfl;rfl;rfl)
   |(apply VVal.alloc;rfl)
   |(apply VVal.storeB;rfl;rfl;rfl;trivial;rfl;rfl;exact lt_dec rfl;exact le_dec rfl)
   |(apply VVal.buildSlice;rfl;rfl;rfl;decide;rfl;rfl;rfl)
   |(apply VVal.addS;rfl;rfl;(first|omega|(simp only [List.length_take,List.length_drop,List.length_append,List.length_singleton,List.length_cons,List.length_nil]<;>omega)))
   |(apply VVal.convI;rfl;rfl;rfl;rfl;omega)
   |(apply VVal.convB;rfl;rfl;rfl;rfl;omega)
   |(apply VWp.condSeq_dec;rfl)
   |(intro _;try (exfalso;omega)))
  all_goals try (exfalso;omega)
  refine QLoop.normal ⟨by omega,?_,?_⟩
  ·try (rw [e2,e1])
   repeat (first|exact LCov.nil|refine LCov.same trivial rfl ?_|refine LCov.same (lt_dec rfl) rfl ?_|refine LCov.same ⟨trivial,lt_dec rfl,trivial⟩ rfl ?_|refine LCov.same ⟨trivial,lt_dec rfl,lt_dec rfl,trivial⟩ rfl ?_|refine LCov.same ⟨trivial,lt_dec rfl,lt_dec rfl,lt_dec rfl,trivial⟩ rfl ?_|refine LCov.same ⟨trivial,trivial⟩ rfl ?_|refine LCov.cons trivial rfl (.of_eq (lst_len (by simp<;>omega))) ?_)
  ·rw [e2,e1]
   repeat (first|exact HCov.nil|(refine HCov.cons (lt_dec rfl) ?_ rfl ?_ ?_;(first|exact HB.under_of rfl|exact PVs.under_pure _ _|(simp [HB.under,PVs.under,PV.under]));(first|exact HLe.refl _|exact HLe.vec (FLes.refl _) (by simp))))
 ·have hk2:=appK_len f4 o.ranks (60+A % 2-o.ranks.length)
  repeat' (first
   |(refine VWp.at 47 ?_;refine VWp.ghost (Ghost.freezeCell 9 4 rfl rfl rfl) ?_;first|apply VWp.rseq|apply VWp.rseqD)
   |(refine VWp.at 49 ?_;refine VWp.ghost (Ghost.trans (Ghost.freezeCell 0 1 rfl rfl rfl) (Ghost.trans (Ghost.freezeCell 0 2 rfl rfl rfl) (Ghost.freezeCell 0 3 rfl rfl rfl))) ?_;first|apply VWp.rseq|apply VWp.rseqD)
   |apply VWp.assoc
   |apply VWp.rseq
   |apply VWp.exitSeq
   |apply QSeq.normal
   |apply QBlk.normal
   |apply QBlk.exit
   |apply QLoop.exit
   |apply VWp.ret
   |apply VOps.nil
   |apply VOps.one
   |(apply VVal.storeVL (y:=(gi o.divs (A % o.divs.length)));rfl;rfl;rfl;trivial;(first|rfl|(refine congrArg (fun t=>[PV.p (FV.int _ t)]) ?_;first|omega|(simp only [Int.natCast_add,Int.natCast_mul,Int.natCast_ediv,Int.natCast_emod]<;>omega)));rfl;rfl;decide;(first|omega|(simp only [List.length_set]<;>omega)))
   |(apply VVal.indexVN (i:=A % o.divs.length);rfl;rfl;rfl;rfl;exact kd)
   |(apply VVal.move;rfl)
   |(apply VVal.add64;rfl;rfl;omega)
   |(apply VVal.remI;rfl;rfl;omega;omega)
   |(apply VVal.int;rfl;rfl;rfl)
   |(apply VVal.load;rfl;rfl)
   |(apply VVal.lenV;rfl;rfl;rfl)
   |(apply VVal.fieldB;rfl;rfl;rfl)
   |(apply VVal.storeB;rfl;rfl;rfl;trivial;rfl;rfl;exact lt_dec rfl;exact le_dec rfl)
   |(apply VVal.convI;rfl;rfl;rfl;rfl;omega)
   |(apply VWp.condSeq_dec;rfl)
   |(intro _;try (exfalso;omega)))
  all_goals first|(exfalso;omega)|contradiction|(refine Done.ret rfl (.refl _) (by first|exact trivial|exact ⟨trivial,trivial,trivial⟩|exact ⟨trivial,trivial,trivial,trivial⟩) HCov.nil (Nat.zero_le _) (Nat.le_refl _) ⟨?_,rfl,rfl⟩;try rfl)
set_option maxRecDepth 100000 in
set_option maxHeartbeats 4000000 in
theorem chg6 (o:Org) (n:Nat) (hn:n≤1000) (hl:OrgL n o) (hr0:0<o.ranks.length) (hd0:0<o.divs.length) (K A:Nat) (hK:K<256) (hA:A<256) (hc:K % 16=6) :
 VFun env 29 [.agg (Enc.enc o),.agg [.int .u8 (K:Int),.int .u8 (A:Int)]] (.p (.agg (Enc.enc (⟨o.name,o.ranks,(appK f6 o.divs (8+A % 2-o.divs.length)).set (A % o.divs.length) (gi o.divs (A % o.divs.length)),o.cpls⟩:Org)))):=by
 have hr:=hl.ranks
 have hd:=hl.divs
 have hcp:=hl.cpls
 have kd:A % o.divs.length<o.divs.length:=Nat.mod_lt _ hd0
 have kr:A % o.ranks.length<o.ranks.length:=Nat.mod_lt _ hr0
 have hst:=hl.stops _ kd
 rw [orgEnc_eq (nr:=o.ranks.length) (nd:=(appK f6 o.divs (8+A % 2-o.divs.length)).length) (nc:=o.cpls.length) rfl List.length_set rfl]
 refine VFun.enter (env_none (by decide)) Tryz.func29 rfl (by kernel_rfl) (by simp [Tryz.ntmps29]) ?_
 repeat' (first
  |apply VWp.assoc
  |apply VWp.rseq
  |apply VWp.rseqD
  |apply VWp.blockSeq
  |apply VWp.blockQ
  |apply VOps.nil
  |apply VOpsD.nil
  |apply VOps.one
  |(apply VOpsD.bar;decide +kernel)
  |apply VOpsD.quiet
  |(apply VVal.remN;rfl;rfl;omega)
  |(apply VVal.indexVN (i:=A % o.divs.length);rfl;rfl;rfl;rfl;exact kd)
  |(apply VVal.loadVL (i:=A % o.divs.length);rfl;rfl;exact kd;rfl)
  |(apply VVal.assign;rfl)
  |(apply VVal.move;rfl)
  |(apply VVal.remI;rfl;rfl;omega;omega)
  |(apply VVal.int;rfl;rfl;rfl)
  |(apply VVal.load;rfl;rfl)
  |(apply VVal.lenV;rfl;rfl;rfl)
  |(apply VVal.fieldB;rfl;rfl;rfl)
  |(apply VVal.box;rfl;trivial)
  |(apply VVal.alloc;rfl)
  |(apply VVal.storeB;rfl;rfl;rfl;trivial;rfl;rfl;exact lt_dec rfl;exact le_dec rfl)
  |(apply VVal.buildSlice;rfl;rfl;rfl;decide;rfl;rfl;rfl)
  |(apply VVal.convI;rfl;rfl;rfl;rfl;omega)
  |(apply VVal.appendL0;rfl;rfl;rfl;(first|rfl|omega|(simp only [List.length_take,List.length_drop,List.length_append,List.length_singleton,List.length_cons,List.length_nil]<;>omega));rfl;rfl;(intro _ h;cases h);rfl;rfl;rfl;decide;decide;(first|omega|(simp only [List.length_take,List.length_drop,List.length_append,List.length_singleton,List.length_cons,List.length_nil]<;>omega)))
  |(apply VWp.cond_dec;rfl)
  |(intro _;try (exfalso;omega)))
 all_goals try (exfalso;omega)
 apply VWp.loopR (8+A % 2-o.divs.length) [(2,_),(3,_),(4,_),(6,_),(7,_)] [(1,_),(2,_),(4,_),(8,_),(9,_),(11,_)] (fun k r=>r) (fun k r=>(0,.box 33 [.p (.str (bs o.name)),.vec 4 o.ranks.length 0 o.ranks.length,.vec 6 (appK f6 o.divs k).length 0 (appK f6 o.divs k).length,.vec 8 o.cpls.length 0 o.cpls.length])::(6,.vec 49 (cells (appK f6 o.divs k)) (appK f6 o.divs k).length false)::r) 12
 ·omega
 ·omega
 ·repeat (first|exact LCov.nil|(refine LCov.eq rfl ?_ ?_;(first|exact PV.under_of rfl|(simp [PV.under,PVs.under];done)))|refine LCov.cons trivial rfl (.of_eq (lst_len (by simp<;>omega))) ?_)
 ·repeat (first|exact HCov.nil|(refine HCov.eq rfl (lt_dec rfl) ?_ ?_;(first|exact HB.under_of rfl|exact PVs.under_pure _ _|(simp [HB.under,PVs.under,PV.under];done)))|(refine HCov.cons (lt_dec rfl) ?_ rfl ?_ ?_;(first|exact trivial|exact PVs.under_pure _ _|(simp [HB.under,PVs.under,PV.under]));(first|exact HLe.refl _|exact HLe.vec (FLes.refl _) (by simp))))
 ·intro k hk
  have hk2:=appK_len f6 o.divs k
  have e1:appK f6 o.divs (k+1)=appK f6 o.divs k++[f6 (appK f6 o.divs k)]:=rfl
  have e2:(appK f6 o.divs (k+1)).length=(appK f6 o.divs k).length+1:=by rw [e1];simp
  repeat' (first
   |(refine VOps.atOp 145 ?_;refine VOps.ghost (Ghost.le 144 rfl (.p (.agg (.cons (.refl _) (.cons (.refl _) (.cons (.refl _) (.cons (.refl _) (.cons (.nil 52) (.refl _))))))))) ?_)
   |apply VWp.assoc
   |apply VWp.rseq
   |apply VWp.region
   |apply VWp.skipSeq
   |apply QBlk.normal
   |apply VWp.blockQ
   |apply VOps.nil
   |apply VOps.one
   |(apply VVal.ofByte1;rfl;rfl;rfl;rfl;rfl;omega)
   |(apply VVal.append1 (a:=f6 (appK f6 o.divs k));rfl;rfl;rfl;rfl;rfl;rfl;rfl;rfl;(intro _ h;cases h);rfl;rfl;rfl;decide;decide;(first|omega|(simp only [List.length_take,List.length_drop,List.length_append,List.length_singleton,List.length_cons,List.length_nil]<;>omega)))
   |(apply VVal.add64;rfl;rfl;omega)
   |(apply VVal.remI;rfl;rfl;omega;omega)
   |(apply VVal.int;rfl;rfl;rfl)
   |(apply VVal.load;rfl;rfl)
   |(apply VVal.lenV;rfl;rfl;rfl)
   |(apply VVal.fieldB;rfl;rfl;rfl)
   |(apply VVal.storeB;rfl;rfl;rfl;trivial;rfl;rfl;exact lt_dec rfl;exact le_dec rfl)
   |(apply VVal.build;rfl;rfl;rfl;rfl;rfl)
   |(apply VVal.buildSlice;rfl;rfl;rfl;decide;rfl;rfl;rfl)
   |(apply VVal.addS;rfl;rfl;(first|omega|(simp only [List.length_take,List.length_drop,List.length_append,List.length_singleton,List.length_cons,List.length_nil]<;>omega)))
   |(apply VVal.convI;rfl;rfl;rfl;rfl;omega)
   |(apply VVal.convB;rfl;rfl;rfl;rfl;omega)
   |(apply VWp.condSeq_dec;rfl)
   |(intro _;try (exfalso;omega)))
  all_goals try (exfalso;omega)
  refine QLoop.normal ⟨by omega,?_,?_⟩
  ·try (rw [e2,e1])
   repeat (first|exact LCov.nil|refine LCov.same trivial rfl ?_|refine LCov.same (lt_dec rfl) rfl ?_|refine LCov.same ⟨trivial,lt_dec rfl,trivial⟩ rfl ?_|refine LCov.same ⟨trivial,lt_dec rfl,lt_dec rfl,trivial⟩ rfl ?_|refine LCov.same ⟨trivial,lt_dec rfl,lt_dec rfl,lt_dec rfl,trivial⟩ rfl ?_|refine LCov.same ⟨trivial,trivial⟩ rfl ?_|refine LCov.cons trivial rfl (.of_eq (lst_len (by simp<;>omega))) ?_)
  ·rw [e2,e1]
   repeat (first|exact HCov.nil|(refine HCov.cons (lt_dec rfl) ?_ rfl ?_ ?_;(first|exact HB.under_of rfl|exact PVs.under_pure _ _|(simp [HB.under,PVs.under,PV.under]));(first|exact HLe.refl _|exact HLe.vec (FLes.refl _) (by simp))))
 ·have hk2:=appK_len f6 o.divs (8+A % 2-o.divs.length)
  have kd6:A % o.divs.length<(appK f6 o.divs (8+A % 2-o.divs.length)).length:=by omega
  repeat' (first
   |(refine VWp.at 47 ?_;refine VWp.ghost (Ghost.freezeCell 9 4 rfl rfl rfl) ?_;first|apply VWp.rseq|apply VWp.rseqD)
   |(refine VWp.at 49 ?_;refine VWp.ghost (Ghost.trans (Ghost.freezeCell 0 1 rfl rfl rfl) (Ghost.trans (Ghost.freezeCell 0 2 rfl rfl rfl) (Ghost.freezeCell 0 3 rfl rfl rfl))) ?_;first|apply VWp.rseq|apply VWp.rseqD)
   |apply VWp.assoc
   |apply VWp.rseq
   |apply VWp.exitSeq
   |apply QSeq.normal
   |apply QBlk.normal
   |apply QBlk.exit
   |apply QLoop.exit
   |apply VWp.ret
   |apply VOps.nil
   |apply VOps.one
   |(apply VVal.indexVN (i:=A % o.divs.length);rfl;rfl;rfl;rfl;exact kd6)
   |(apply VVal.storeVL (y:=(gi o.divs (A % o.divs.length)));rfl;rfl;rfl;trivial;(first|rfl|(refine congrArg (fun t=>[PV.p (FV.int _ t)]) ?_;first|omega|(simp only [Int.natCast_add,Int.natCast_mul,Int.natCast_ediv,Int.natCast_emod]<;>omega)));rfl;rfl;decide;(first|omega|(simp only [List.length_set]<;>omega)))
   |(apply VVal.move;rfl)
   |(apply VVal.add64;rfl;rfl;omega)
   |(apply VVal.remI;rfl;rfl;omega;omega)
   |(apply VVal.int;rfl;rfl;rfl)
   |(apply VVal.load;rfl;rfl)
   |(apply VVal.lenV;rfl;rfl;rfl)
   |(apply VVal.fieldB;rfl;rfl;rfl)
   |(apply VVal.storeB;rfl;rfl;rfl;trivial;rfl;rfl;exact lt_dec rfl;exact le_dec rfl)
   |(apply VVal.convI;rfl;rfl;rfl;rfl;omega)
   |(apply VWp.condSeq_dec;rfl)
   |(intro _;try (exfalso;omega)))
  all_goals first|(exfalso;omega)|contradiction|(refine Done.ret rfl (.refl _) (by first|exact trivial|exact ⟨trivial,trivial,trivial⟩|exact ⟨trivial,trivial,trivial,trivial⟩) HCov.nil (Nat.zero_le _) (Nat.le_refl _) ⟨?_,rfl,rfl⟩;try rfl)
set_option maxRecDepth 100000 in
set_option maxHeartbeats 4000000 in
theorem chg10 (o:Org) (n:Nat) (hn:n≤1000) (hl:OrgL n o) (hr0:0<o.ranks.length) (hd0:0<o.divs.length) (K A:Nat) (hK:K<256) (hA:A<256) (hc:K % 16=10) (h0:0<(gi o.divs (A % o.divs.length)).stops.length) :
 VFun env 29 [.agg (Enc.enc o),.agg [.int .u8 (K:Int),.int .u8 (A:Int)]] (.p (.agg (Enc.enc (⟨o.name,o.ranks,o.divs.set (A % o.divs.length) (⟨(gi o.divs (A % o.divs.length)).name,(gi o.divs (A % o.divs.length)).pedal,(gi o.divs (A % o.divs.length)).lo,(gi o.divs (A % o.divs.length)).hi,appK f10 (gi o.divs (A % o.divs.length)).stops (60+A % 2-(gi o.divs (A % o.divs.length)).stops.length)⟩:Dvs),o.cpls⟩:Org)))):=by
 have hr:=hl.ranks
 have hd:=hl.divs
 have hcp:=hl.cpls
 have kd:A % o.divs.length<o.divs.length:=Nat.mod_lt _ hd0
 have kr:A % o.ranks.length<o.ranks.length:=Nat.mod_lt _ hr0
 have hst:=hl.stops _ kd
 rw [orgEnc_eq (nr:=o.ranks.length) (nd:=o.divs.length) (nc:=o.cpls.length) rfl List.length_set rfl]
 refine VFun.enter (env_none (by decide)) Tryz.func29 rfl (by kernel_rfl) (by simp [Tryz.ntmps29]) ?_
 repeat' (first
  |apply VWp.assoc
  |apply VWp.rseq
  |apply VWp.rseqD
  |apply VWp.blockSeq
  |apply VWp.blockQ
  |apply VOps.nil
  |apply VOpsD.nil
  |apply VOps.one
  |(apply VOpsD.bar;decide +kernel)
  |apply VOpsD.quiet
  |(apply VVal.remN;rfl;rfl;omega)
  |(apply VVal.indexVN (i:=A % o.divs.length);rfl;rfl;rfl;rfl;exact kd)
  |(apply VVal.loadVL (i:=A % o.divs.length);rfl;rfl;exact kd;rfl)
  |(apply VVal.assign;rfl)
  |(apply VVal.move;rfl)
  |(apply VVal.remI;rfl;rfl;omega;omega)
  |(apply VVal.int;rfl;rfl;rfl)
  |(apply VVal.load;rfl;rfl)
  |(apply VVal.lenV;rfl;rfl;rfl)
  |(apply VVal.fieldB;rfl;rfl;rfl)
  |(apply VVal.box;rfl;trivial)
  |(apply VVal.alloc;rfl)
  |(apply VVal.storeB;rfl;rfl;rfl;trivial;rfl;rfl;exact lt_dec rfl;exact le_dec rfl)
  |(apply VVal.buildSlice;rfl;rfl;rfl;decide;rfl;rfl;rfl)
  |(apply VVal.convI;rfl;rfl;rfl;rfl;omega)
  |(apply VVal.appendL0;rfl;rfl;rfl;(first|rfl|omega|(simp only [List.length_take,List.length_drop,List.length_append,List.length_singleton,List.length_cons,List.length_nil]<;>omega));rfl;rfl;(intro _ h;cases h);rfl;rfl;rfl;decide;decide;(first|omega|(simp only [List.length_take,List.length_drop,List.length_append,List.length_singleton,List.length_cons,List.length_nil]<;>omega)))
  |(apply VWp.cond_dec;rfl)
  |(intro _;try (exfalso;omega)))
 all_goals try (exfalso;omega)
 apply VWp.loopR (60+A % 2-(gi o.divs (A % o.divs.length)).stops.length) [(2,_),(3,_),(4,_),(6,_),(7,_)] [(0,_),(1,_),(2,_),(4,_),(6,_),(8,_)] (fun k r=>r) (fun k r=>(9,.box 49 [.p (.str (bs (gi o.divs (A % o.divs.length)).name)),.p (.bool (gi o.divs (A % o.divs.length)).pedal),.p (.int .i64 (gi o.divs (A % o.divs.length)).lo),.p (.int .i64 (gi o.divs (A % o.divs.length)).hi),.vec 11 (appK f10 (gi o.divs (A % o.divs.length)).stops k).length 0 (appK f10 (gi o.divs (A % o.divs.length)).stops k).length])::(11,.vec 52 (cells (appK f10 (gi o.divs (A % o.divs.length)).stops k)) (appK f10 (gi o.divs (A % o.divs.length)).stops k).length false)::r) 12
 ·omega
 ·omega
 ·repeat (first|exact LCov.nil|(refine LCov.eq rfl ?_ ?_;(first|exact PV.under_of rfl|(simp [PV.under,PVs.under];done)))|refine LCov.cons trivial rfl (.of_eq (lst_len (by simp<;>omega))) ?_)
 ·repeat (first|exact HCov.nil|(refine HCov.eq rfl (lt_dec rfl) ?_ ?_;(first|exact HB.under_of rfl|exact PVs.under_pure _ _|(simp [HB.under,PVs.under,PV.under];done)))|(refine HCov.cons (lt_dec rfl) ?_ rfl ?_ ?_;(first|exact trivial|exact PVs.under_pure _ _|(simp [HB.under,PVs.under,PV.under]));(first|exact HLe.refl _|exact HLe.vec (FLes.refl _) (by simp))))
 ·intro k hk
  have hk2:=appK_len f10 (gi o.divs (A % o.divs.length)).stops k
  have e1:appK f10 (gi o.divs (A % o.divs.length)).stops (k+1)=appK f10 (gi o.divs (A % o.divs.length)).stops k++[f10 (appK f10 (gi o.divs (A % o.divs.length)).stops k)]:=rfl
  have e2:(appK f10 (gi o.divs (A % o.divs.length)).stops (k+1)).length=(appK f10 (gi o.divs (A % o.divs.length)).stops k).length+1:=by rw [e1];simp
  repeat' (first
   |apply VWp.assoc
   |apply VWp.rseq
   |apply VWp.region
   |apply VWp.skipSeq
   |apply QBlk.normal
   |apply VWp.blockQ
   |apply VOps.nil
   |apply VOps.one
   |(apply VVal.indexVN (i:=0);rfl;rfl;rfl;rfl;omega)
   |(apply VVal.loadVL (i:=0);rfl;rfl;omega;rfl)
   |(apply VVal.ofByte2;rfl;rfl;rfl;rfl;rfl;omega;omega)
   |(apply VVal.append1 (a:=f10 (appK f10 (gi o.divs (A % o.divs.length)).stops k));rfl;rfl;rfl;rfl;rfl;rfl;rfl;rfl;(intro _ h;cases h);rfl;rfl;rfl;decide;decide;(first|omega|(simp only [List.length_take,List.length_drop,List.length_append,List.length_singleton,List.length_cons,List.length_nil]<;>omega)))
   |(apply VVal.assign;rfl)
   |(apply VVal.move;rfl)
   |(apply VVal.add64;rfl;rfl;omega)
   |(apply VVal.remI;rfl;rfl;omega;omega)
   |(apply VVal.quoI;rfl;rfl;omega;omega)
   |(apply VVal.int;rfl;rfl;rfl)
   |(apply VVal.load;rfl;rfl)
   |(apply VVal.lenV;rfl;rfl;rfl)
   |(apply VVal.fieldB;rfl;rfl;rfl)
   |(apply VVal.alloc;rfl)
   |(apply VVal.storeB;rfl;rfl;rfl;trivial;rfl;rfl;exact lt_dec rfl;exact le_dec rfl)
   |(apply VVal.buildSlice;rfl;rfl;rfl;decide;rfl;rfl;rfl)
   |(apply VVal.addS;rfl;rfl;(first|omega|(simp only [List.length_take,List.length_drop,List.length_append,List.length_singleton,List.length_cons,List.length_nil]<;>omega)))
   |(apply VVal.convI;rfl;rfl;rfl;rfl;omega)
   |(apply VVal.convB;rfl;rfl;rfl;rfl;omega)
   |(apply VWp.condSeq_dec;rfl)
   |(intro _;try (exfalso;omega)))
  all_goals try (exfalso;omega)
  refine QLoop.normal ⟨by omega,?_,?_⟩
  ·try (rw [e2,e1])
   repeat (first|exact LCov.nil|refine LCov.same trivial rfl ?_|refine LCov.same (lt_dec rfl) rfl ?_|refine LCov.same ⟨trivial,lt_dec rfl,trivial⟩ rfl ?_|refine LCov.same ⟨trivial,lt_dec rfl,lt_dec rfl,trivial⟩ rfl ?_|refine LCov.same ⟨trivial,lt_dec rfl,lt_dec rfl,lt_dec rfl,trivial⟩ rfl ?_|refine LCov.same ⟨trivial,trivial⟩ rfl ?_|refine LCov.cons trivial rfl (.of_eq (lst_len (by simp<;>omega))) ?_)
  ·rw [e2,e1]
   repeat (first|exact HCov.nil|(refine HCov.cons (lt_dec rfl) ?_ rfl ?_ ?_;(first|exact HB.under_of rfl|exact PVs.under_pure _ _|(simp [HB.under,PVs.under,PV.under]));(first|exact HLe.refl _|exact HLe.vec (FLes.refl _) (by simp))))
 ·have hk2:=appK_len f10 (gi o.divs (A % o.divs.length)).stops (60+A % 2-(gi o.divs (A % o.divs.length)).stops.length)
  repeat' (first
   |(refine VWp.at 47 ?_;refine VWp.ghost (Ghost.freezeCell 9 4 rfl rfl rfl) ?_;first|apply VWp.rseq|apply VWp.rseqD)
   |(refine VWp.at 49 ?_;refine VWp.ghost (Ghost.trans (Ghost.freezeCell 0 1 rfl rfl rfl) (Ghost.trans (Ghost.freezeCell 0 2 rfl rfl rfl) (Ghost.freezeCell 0 3 rfl rfl rfl))) ?_;first|apply VWp.rseq|apply VWp.rseqD)
   |apply VWp.assoc
   |apply VWp.rseq
   |apply VWp.exitSeq
   |apply QSeq.normal
   |apply QBlk.normal
   |apply QBlk.exit
   |apply QLoop.exit
   |apply VWp.ret
   |apply VOps.nil
   |apply VOps.one
   |(apply VVal.storeVL (y:=(⟨(gi o.divs (A % o.divs.length)).name,(gi o.divs (A % o.divs.length)).pedal,(gi o.divs (A % o.divs.length)).lo,(gi o.divs (A % o.divs.length)).hi,appK f10 (gi o.divs (A % o.divs.length)).stops (60+A % 2-(gi o.divs (A % o.divs.length)).stops.length)⟩:Dvs));rfl;rfl;rfl;trivial;(first|rfl|(refine congrArg (fun t=>[PV.p (FV.int _ t)]) ?_;first|omega|(simp only [Int.natCast_add,Int.natCast_mul,Int.natCast_ediv,Int.natCast_emod]<;>omega)));rfl;rfl;decide;(first|omega|(simp only [List.length_set]<;>omega)))
   |(apply VVal.indexVN (i:=A % o.divs.length);rfl;rfl;rfl;rfl;exact kd)
   |(apply VVal.move;rfl)
   |(apply VVal.add64;rfl;rfl;omega)
   |(apply VVal.remI;rfl;rfl;omega;omega)
   |(apply VVal.int;rfl;rfl;rfl)
   |(apply VVal.load;rfl;rfl)
   |(apply VVal.lenV;rfl;rfl;rfl)
   |(apply VVal.fieldB;rfl;rfl;rfl)
   |(apply VVal.storeB;rfl;rfl;rfl;trivial;rfl;rfl;exact lt_dec rfl;exact le_dec rfl)
   |(apply VVal.convI;rfl;rfl;rfl;rfl;omega)
   |(apply VWp.condSeq_dec;rfl)
   |(intro _;try (exfalso;omega)))
  all_goals first|(exfalso;omega)|contradiction|(refine Done.ret rfl (.refl _) (by first|exact trivial|exact ⟨trivial,trivial,trivial⟩|exact ⟨trivial,trivial,trivial,trivial⟩) HCov.nil (Nat.zero_le _) (Nat.le_refl _) ⟨?_,rfl,rfl⟩;try rfl)
end Go.Proofs.YtcnlhgmkelkikaaGreatDoor
