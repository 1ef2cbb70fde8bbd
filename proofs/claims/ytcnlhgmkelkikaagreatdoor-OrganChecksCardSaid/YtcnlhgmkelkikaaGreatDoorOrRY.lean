/-
  The law of organs: Changed. Conditions: in each statement. (Written by mkch.py.)
-/
import Derived.Test.YtcnlhgmkelkikaaGreatDoorOrR
set_option linter.unusedSimpArgs false
set_option linter.unusedVariables false
namespace Go.Proofs.YtcnlhgmkelkikaaGreatDoor
open Go Go.Am Go.Vm
attribute [local irreducible] VVal VOps VOpsD VWp VCalls VFun VFunV QSeq QBlk QLoop Vm.Done DoneV DoneI
set_option maxRecDepth 100000 in
set_option maxHeartbeats 4000000 in
theorem chg1 (o:Org) (n:Nat) (hn:n≤1000) (hl:OrgL n o) (hr0:0<o.ranks.length) (hd0:0<o.divs.length) (K A:Nat) (hK:K<256) (hA:A<256) (hc:K % 16=1) :
 VFun env 29 [.agg (Enc.enc o),.agg [.int .u8 (K:Int),.int .u8 (A:Int)]] (.p (.agg (Enc.enc (⟨gi chA (A % 4),o.ranks,o.divs.set (A % o.divs.length) (gi o.divs (A % o.divs.length)),o.cpls⟩:Org)))):=by
 have hr:=hl.ranks
 have hd:=hl.divs
 have hcp:=hl.cpls
 have kd:A % o.divs.length<o.divs.length:=Nat.mod_lt _ hd0
 have kr:A % o.ranks.length<o.ranks.length:=Nat.mod_lt _ hr0
 have hst:=hl.stops _ kd
 have a4:A % 4<chA.length:=Nat.mod_lt _ (by decide)
 rw [orgEnc_eq (nr:=o.ranks.length) (nd:=o.divs.length) (nc:=o.cpls.length) rfl List.length_set rfl]
 refine VFun.enter (env_none (by decide)) Tryz.func29 rfl (by kernel_rfl) (by simp [Tryz.ntmps29]) ?_
 repeat' (first
  |(refine VWp.at 47 ?_;refine VWp.ghost (Ghost.freezeCell 9 4 rfl rfl rfl) ?_;first|apply VWp.rseq|apply VWp.rseqD)
  |(refine VWp.at 49 ?_;refine VWp.ghost (Ghost.trans (Ghost.freezeCell 0 1 rfl rfl rfl) (Ghost.trans (Ghost.freezeCell 0 2 rfl rfl rfl) (Ghost.freezeCell 0 3 rfl rfl rfl))) ?_;first|apply VWp.rseq|apply VWp.rseqD)
  |(refine VOps.atOp 61 ?_;refine VOps.ghost (Ghost.freeze 57 rfl rfl) ?_)
  |apply VWp.assoc
  |apply VWp.rseq
  |apply VWp.rseqD
  |apply VWp.region
  |apply VWp.blockSeq
  |apply QSeq.normal
  |apply QBlk.normal
  |apply VWp.ret
  |apply VOps.nil
  |apply VOpsD.nil
  |apply VOps.one
  |(apply VOpsD.bar;decide +kernel)
  |apply VOpsD.quiet
  |(apply VVal.indexN (l:=chA) (i:=A % 4);rfl;rfl;rfl;exact a4;rfl)
  |(apply VVal.storeVL (y:=(gi o.divs (A % o.divs.length)));rfl;rfl;rfl;trivial;(first|rfl|(refine congrArg (fun t=>[PV.p (FV.int _ t)]) ?_;first|omega|(simp only [Int.natCast_add,Int.natCast_mul,Int.natCast_ediv,Int.natCast_emod]<;>omega)));rfl;rfl;decide;(first|omega|(simp only [List.length_set]<;>omega)))
  |(apply VVal.remN;rfl;rfl;omega)
  |(apply VVal.indexVN (i:=A % o.divs.length);rfl;rfl;rfl;rfl;exact kd)
  |(apply VVal.loadVL (i:=A % o.divs.length);rfl;rfl;exact kd;rfl)
  |(apply VVal.assign;rfl)
  |(apply VVal.move;rfl)
  |(apply VVal.remI;rfl;rfl;omega;omega)
  |(apply VVal.int;rfl;rfl;rfl)
  |(apply VVal.load;rfl;rfl)
  |(apply VVal.lenV;rfl;rfl;rfl)
  |(apply VVal.fieldB;rfl;rfl;rfl)
  |(apply VVal.box;rfl;trivial)
  |(apply VVal.alloc;rfl)
  |(apply VVal.storeB;rfl;rfl;rfl;trivial;rfl;rfl;exact lt_dec rfl;exact le_dec rfl)
  |(apply VVal.buildSlice;rfl;rfl;rfl;decide;rfl;rfl;rfl)
  |(apply VVal.convI;rfl;rfl;rfl;rfl;omega)
  |(apply VVal.appendL0;rfl;rfl;rfl;(first|rfl|omega|(simp only [List.length_take,List.length_drop,List.length_append,List.length_singleton,List.length_cons,List.length_nil]<;>omega));rfl;rfl;(intro _ h;cases h);rfl;rfl;rfl;decide;decide;(first|omega|(simp only [List.length_take,List.length_drop,List.length_append,List.length_singleton,List.length_cons,List.length_nil]<;>omega)))
  |(apply VWp.condSeq_dec;rfl)
  |(apply VWp.cond_dec;rfl)
  |(intro _;try (exfalso;omega)))
 all_goals first|(exfalso;omega)|contradiction|(refine Done.ret rfl (.refl _) (by first|exact trivial|exact ⟨trivial,trivial,trivial⟩|exact ⟨trivial,trivial,trivial,trivial⟩) HCov.nil (Nat.zero_le _) (Nat.le_refl _) ⟨?_,rfl,rfl⟩;try rfl)
set_option maxRecDepth 100000 in
set_option maxHeartbeats 4000000 in
theorem chg2 (o:Org) (n:Nat) (hn:n≤1000) (hl:OrgL n o) (hr0:0<o.ranks.length) (hd0:0<o.divs.length) (K A:Nat) (hK:K<256) (hA:A<256) (hc:K % 16=2) :
 VFun env 29 [.agg (Enc.enc o),.agg [.int .u8 (K:Int),.int .u8 (A:Int)]] (.p (.agg (Enc.enc (⟨o.name,o.ranks.set (A % o.ranks.length) (⟨(gi o.ranks (A % o.ranks.length)).name,(gi o.ranks (A % o.ranks.length)).tone,(gi o.ranks (A % o.ranks.length)).feet,(gi o.ranks (A % o.ranks.length)).first,[]⟩:Rnk),o.divs.set (A % o.divs.length) (gi o.divs (A % o.divs.length)),o.cpls⟩:Org)))):=by
 have hr:=hl.ranks
 have hd:=hl.divs
 have hcp:=hl.cpls
 have kd:A % o.divs.length<o.divs.length:=Nat.mod_lt _ hd0
 have kr:A % o.ranks.length<o.ranks.length:=Nat.mod_lt _ hr0
 have hst:=hl.stops _ kd
 rw [orgEnc_eq (nr:=o.ranks.length) (nd:=o.divs.length) (nc:=o.cpls.length) List.length_set List.length_set rfl]
 refine VFun.enter (env_none (by decide)) Tryz.func29 rfl (by kernel_rfl) (by simp [Tryz.ntmps29]) ?_
 repeat' (first
  |(refine VWp.at 47 ?_;refine VWp.ghost (Ghost.freezeCell 9 4 rfl rfl rfl) ?_;first|apply VWp.rseq|apply VWp.rseqD)
  |(refine VWp.at 49 ?_;refine VWp.ghost (Ghost.trans (Ghost.freezeCell 0 1 rfl rfl rfl) (Ghost.trans (Ghost.freezeCell 0 2 rfl rfl rfl) (Ghost.freezeCell 0 3 rfl rfl rfl))) ?_;first|apply VWp.rseq|apply VWp.rseqD)
  |apply VWp.assoc
  |apply VWp.rseq
  |apply VWp.rseqD
  |apply VWp.region
  |apply VWp.blockSeq
  |apply QSeq.normal
  |apply QBlk.normal
  |apply VWp.ret
  |apply VOps.nil
  |apply VOpsD.nil
  |apply VOps.one
  |(apply VOpsD.bar;decide +kernel)
  |apply VOpsD.quiet
  |(apply VVal.indexVN (i:=A % o.ranks.length);rfl;rfl;rfl;rfl;exact kr)
  |(apply VVal.fieldV;rfl;rfl;rfl)
  |(apply VVal.storeVF (i:=A % o.ranks.length) (f:=5) (fs:=[.val (.slice none 0 0)]) (⟨(gi o.ranks (A % o.ranks.length)).name,(gi o.ranks (A % o.ranks.length)).tone,(gi o.ranks (A % o.ranks.length)).feet,(gi o.ranks (A % o.ranks.length)).first,[]⟩:Rnk);rfl;rfl;rfl;trivial;rfl;rfl;rfl;decide;exact kr;decide;exact .cons (.refl _) (.cons (.refl _) (.cons (.refl _) (.cons (.refl _) (.cons (.refl _) (.cons (.nil _) (.refl _)))))))
  |(apply VVal.storeVL (y:=(gi o.divs (A % o.divs.length)));rfl;rfl;rfl;trivial;(first|rfl|(refine congrArg (fun t=>[PV.p (FV.int _ t)]) ?_;first|omega|(simp only [Int.natCast_add,Int.natCast_mul,Int.natCast_ediv,Int.natCast_emod]<;>omega)));rfl;rfl;decide;(first|omega|(simp only [List.length_set]<;>omega)))
  |(apply VVal.remN;rfl;rfl;omega)
  |(apply VVal.indexVN (i:=A % o.divs.length);rfl;rfl;rfl;rfl;exact kd)
  |(apply VVal.loadVL (i:=A % o.divs.length);rfl;rfl;exact kd;rfl)
  |(apply VVal.assign;rfl)
  |(apply VVal.move;rfl)
  |(apply VVal.remI;rfl;rfl;omega;omega)
  |(apply VVal.int;rfl;rfl;rfl)
  |(apply VVal.load;rfl;rfl)
  |(apply VVal.lenV;rfl;rfl;rfl)
  |(apply VVal.fieldB;rfl;rfl;rfl)
  |(apply VVal.box;rfl;trivial)
  |(apply VVal.alloc;rfl)
  |(apply VVal.storeB;rfl;rfl;rfl;trivial;rfl;rfl;exact lt_dec rfl;exact le_dec rfl)
  |(apply VVal.buildSlice;rfl;rfl;rfl;decide;rfl;rfl;rfl)
  |(apply VVal.convI;rfl;rfl;rfl;rfl;omega)
  |(apply VVal.appendL0;rfl;rfl;rfl;(first|rfl|omega|(simp only [List.length_take,List.length_drop,List.length_append,List.length_singleton,List.length_cons,List.length_nil]<;>omega));rfl;rfl;(intro _ h;cases h);rfl;rfl;rfl;decide;decide;(first|omega|(simp only [List.length_take,List.length_drop,List.length_append,List.length_singleton,List.length_cons,List.length_nil]<;>omega)))
  |(apply VWp.condSeq_dec;rfl)
  |(apply VWp.cond_dec;rfl)
  |(intro _;try (exfalso;omega)))
 all_goals first|(exfalso;omega)|contradiction|(refine Done.ret rfl (.refl _) (by first|exact trivial|exact ⟨trivial,trivial,trivial⟩|exact ⟨trivial,trivial,trivial,trivial⟩) HCov.nil (Nat.zero_le _) (Nat.le_refl _) ⟨?_,rfl,rfl⟩;try rfl)
set_option maxRecDepth 100000 in
set_option maxHeartbeats 4000000 in
theorem chg3 (o:Org) (n:Nat) (hn:n≤1000) (hl:OrgL n o) (hr0:0<o.ranks.length) (hd0:0<o.divs.length) (K A:Nat) (hK:K<256) (hA:A<256) (hc:K % 16=3) :
 VFun env 29 [.agg (Enc.enc o),.agg [.int .u8 (K:Int),.int .u8 (A:Int)]] (.p (.agg (Enc.enc (⟨o.name,o.ranks.set (A % o.ranks.length) (⟨gi chB (A % 3),(gi o.ranks (A % o.ranks.length)).tone,(gi o.ranks (A % o.ranks.length)).feet,(gi o.ranks (A % o.ranks.length)).first,(gi o.ranks (A % o.ranks.length)).wind⟩:Rnk),o.divs.set (A % o.divs.length) (gi o.divs (A % o.divs.length)),o.cpls⟩:Org)))):=by
 have hr:=hl.ranks
 have hd:=hl.divs
 have hcp:=hl.cpls
 have kd:A % o.divs.length<o.divs.length:=Nat.mod_lt _ hd0
 have kr:A % o.ranks.length<o.ranks.length:=Nat.mod_lt _ hr0
 have hst:=hl.stops _ kd
 have a4:A % 3<chB.length:=Nat.mod_lt _ (by decide)
 rw [orgEnc_eq (nr:=o.ranks.length) (nd:=o.divs.length) (nc:=o.cpls.length) List.length_set List.length_set rfl]
 refine VFun.enter (env_none (by decide)) Tryz.func29 rfl (by kernel_rfl) (by simp [Tryz.ntmps29]) ?_
 repeat' (first
  |(refine VWp.at 47 ?_;refine VWp.ghost (Ghost.freezeCell 9 4 rfl rfl rfl) ?_;first|apply VWp.rseq|apply VWp.rseqD)
  |(refine VWp.at 49 ?_;refine VWp.ghost (Ghost.trans (Ghost.freezeCell 0 1 rfl rfl rfl) (Ghost.trans (Ghost.freezeCell 0 2 rfl rfl rfl) (Ghost.freezeCell 0 3 rfl rfl rfl))) ?_;first|apply VWp.rseq|apply VWp.rseqD)
  |(refine VOpsD.atOp 80 ?_;refine VOpsD.ghost (Ghost.freeze 76 rfl rfl) ?_)
  |apply VWp.assoc
  |apply VWp.rseq
  |apply VWp.rseqD
  |apply VWp.regionD
  |apply VWp.blockSeq
  |apply QSeq.normal
  |apply QBlk.normal
  |apply VWp.ret
  |apply VOps.nil
  |apply VOpsD.nil
  |apply VOps.one
  |(apply VOpsD.bar;decide +kernel)
  |apply VOpsD.quiet
  |(apply VVal.indexN (l:=chB) (i:=A % 3);rfl;rfl;rfl;exact a4;rfl)
  |(apply VVal.indexVN (i:=A % o.ranks.length);rfl;rfl;rfl;rfl;exact kr)
  |(apply VVal.fieldV;rfl;rfl;rfl)
  |(apply VVal.storeVF (i:=A % o.ranks.length) (f:=0) (fs:=[.str (bs (gi chB (A % 3)))]) (⟨gi chB (A % 3),(gi o.ranks (A % o.ranks.length)).tone,(gi o.ranks (A % o.ranks.length)).feet,(gi o.ranks (A % o.ranks.length)).first,(gi o.ranks (A % o.ranks.length)).wind⟩:Rnk);rfl;rfl;rfl;trivial;rfl;rfl;rfl;decide;exact kr;decide;exact .refl _)
  |(apply VVal.storeVL (y:=(gi o.divs (A % o.divs.length)));rfl;rfl;rfl;trivial;(first|rfl|(refine congrArg (fun t=>[PV.p (FV.int _ t)]) ?_;first|omega|(simp only [Int.natCast_add,Int.natCast_mul,Int.natCast_ediv,Int.natCast_emod]<;>omega)));rfl;rfl;decide;(first|omega|(simp only [List.length_set]<;>omega)))
  |(apply VVal.remN;rfl;rfl;omega)
  |(apply VVal.indexVN (i:=A % o.divs.length);rfl;rfl;rfl;rfl;exact kd)
  |(apply VVal.loadVL (i:=A % o.divs.length);rfl;rfl;exact kd;rfl)
  |(apply VVal.assign;rfl)
  |(apply VVal.move;rfl)
  |(apply VVal.remI;rfl;rfl;omega;omega)
  |(apply VVal.int;rfl;rfl;rfl)
  |(apply VVal.load;rfl;rfl)
  |(apply VVal.lenV;rfl;rfl;rfl)
  |(apply VVal.fieldB;rfl;rfl;rfl)
  |(apply VVal.box;rfl;trivial)
  |(apply VVal.alloc;rfl)
  |(apply VVal.storeB;rfl;rfl;rfl;trivial;rfl;rfl;exact lt_dec rfl;exact le_dec rfl)
  |(apply VVal.buildSlice;rfl;rfl;rfl;decide;rfl;rfl;rfl)
  |(apply VVal.convI;rfl;rfl;rfl;rfl;omega)
  |(apply VVal.appendL0;rfl;rfl;rfl;(first|rfl|omega|(simp only [List.length_take,List.length_drop,List.length_append,List.length_singleton,List.length_cons,List.length_nil]<;>omega));rfl;rfl;(intro _ h;cases h);rfl;rfl;rfl;decide;decide;(first|omega|(simp only [List.length_take,List.length_drop,List.length_append,List.length_singleton,List.length_cons,List.length_nil]<;>omega)))
  |(apply VWp.condSeq_dec;rfl)
  |(apply VWp.cond_dec;rfl)
  |(intro _;try (exfalso;omega)))
 all_goals first|(exfalso;omega)|contradiction|(refine Done.ret rfl (.refl _) (by first|exact trivial|exact ⟨trivial,trivial,trivial⟩|exact ⟨trivial,trivial,trivial,trivial⟩) HCov.nil (Nat.zero_le _) (Nat.le_refl _) ⟨?_,rfl,rfl⟩;try rfl)
end Go.Proofs.YtcnlhgmkelkikaaGreatDoor
set_option linter.unusedSimpArgs false
set_option linter.unusedVariables false
namespace Go.Proofs.YtcnlhgmkelkikaaGreatDoor
open Go Go.Am Go.Vm
attribute [local irreducible] VVal VOps VOpsD VWp VCalls VFun VFunV QSeq QBlk QLoop Vm.Done DoneV DoneI
set_option maxRecDepth 100000 in
set_option maxHeartbeats 4000000 in
theorem chg5 (o:Org) (n:Nat) (hn:n≤1000) (hl:OrgL n o) (hr0:0<o.ranks.length) (hd0:0<o.divs.length) (K A:Nat) (hK:K<256) (hA:A<256) (hc:K % 16=5) :
 VFun env 29 [.agg (Enc.enc o),.agg [.int .u8 (K:Int),.int .u8 (A:Int)]] (.p (.agg (Enc.enc (⟨o.name,o.ranks,[],o.cpls⟩:Org)))):=by
 have hr:=hl.ranks
 have hd:=hl.divs
 have hcp:=hl.cpls
 have kd:A % o.divs.length<o.divs.length:=Nat.mod_lt _ hd0
 have kr:A % o.ranks.length<o.ranks.length:=Nat.mod_lt _ hr0
 have hst:=hl.stops _ kd
 rw [orgEnc_eq (nr:=o.ranks.length) (nd:=0) (D:=[]) (nc:=o.cpls.length) rfl rfl rfl]
 refine VFun.enter (env_none (by decide)) Tryz.func29 rfl (by kernel_rfl) (by simp [Tryz.ntmps29]) ?_
 repeat' (first
  |(refine VWp.at 49 ?_;refine VWp.ghost (Ghost.trans (Ghost.freezeCell 0 1 rfl rfl rfl) (Ghost.trans (Ghost.freezeCell 0 3 rfl rfl rfl) (Ghost.trans (Ghost.adoptCell 0 2 49 rfl rfl) (Ghost.freezeCell 0 2 rfl rfl rfl)))) ?_;first|apply VWp.rseq|apply VWp.rseqD)
  |apply VWp.assoc
  |apply VWp.rseq
  |apply VWp.rseqD
  |apply VWp.region
  |apply VWp.skipSeq
  |apply VWp.blockSeq
  |apply QSeq.normal
  |apply QBlk.normal
  |apply VWp.ret
  |apply VOps.nil
  |apply VOpsD.nil
  |apply VOps.one
  |(apply VOpsD.bar;decide +kernel)
  |apply VOpsD.quiet
  |(apply VVal.remN;rfl;rfl;omega)
  |(apply VVal.indexVN (i:=A % o.divs.length);rfl;rfl;rfl;rfl;exact kd)
  |(apply VVal.loadVL (i:=A % o.divs.length);rfl;rfl;exact kd;rfl)
  |(apply VVal.assign;rfl)
  |(apply VVal.move;rfl)
  |(apply VVal.remI;rfl;rfl;omega;omega)
  |(apply VVal.int;rfl;rfl;rfl)
  |(apply VVal.load;rfl;rfl)
  |(apply VVal.lenNil;rfl;rfl)
  |(apply VVal.lenV;rfl;rfl;rfl)
  |(apply VVal.fieldB;rfl;rfl;rfl)
  |(apply VVal.box;rfl;trivial)
  |(apply VVal.alloc;rfl)
  |(apply VVal.storeB;rfl;rfl;rfl;trivial;rfl;rfl;exact lt_dec rfl;exact le_dec rfl)
  |(apply VVal.buildSlice;rfl;rfl;rfl;decide;rfl;rfl;rfl)
  |(apply VVal.convI;rfl;rfl;rfl;rfl;omega)
  |(apply VVal.appendL0;rfl;rfl;rfl;(first|rfl|omega|(simp only [List.length_take,List.length_drop,List.length_append,List.length_singleton,List.length_cons,List.length_nil]<;>omega));rfl;rfl;(intro _ h;cases h);rfl;rfl;rfl;decide;decide;(first|omega|(simp only [List.length_take,List.length_drop,List.length_append,List.length_singleton,List.length_cons,List.length_nil]<;>omega)))
  |(apply VWp.condSeq_false;rfl)
  |(apply VWp.cond_dec;rfl)
  |(intro _;try (exfalso;omega)))
 all_goals first|(exfalso;omega)|contradiction|(refine Done.ret rfl (.refl _) (by first|exact trivial|exact ⟨trivial,trivial,trivial⟩|exact ⟨trivial,trivial,trivial,trivial⟩) HCov.nil (Nat.zero_le _) (Nat.le_refl _) ⟨?_,rfl,rfl⟩;try rfl)
set_option maxRecDepth 100000 in
set_option maxHeartbeats 4000000 in
theorem chg7 (o:Org) (n:Nat) (hn:n≤1000) (hl:OrgL n o) (hr0:0<o.ranks.length) (hd0:0<o.divs.length) (K A:Nat) (hK:K<256) (hA:A<256) (hc:K % 16=7) :
 VFun env 29 [.agg (Enc.enc o),.agg [.int .u8 (K:Int),.int .u8 (A:Int)]] (.p (.agg (Enc.enc (⟨o.name,o.ranks,o.divs.set (A % o.divs.length) (⟨gi chC (A % 4),(gi o.divs (A % o.divs.length)).pedal,(gi o.divs (A % o.divs.length)).lo,(gi o.divs (A % o.divs.length)).hi,(gi o.divs (A % o.divs.length)).stops⟩:Dvs),o.cpls⟩:Org)))):=by
 have hr:=hl.ranks
 have hd:=hl.divs
 have hcp:=hl.cpls
 have kd:A % o.divs.length<o.divs.length:=Nat.mod_lt _ hd0
 have kr:A % o.ranks.length<o.ranks.length:=Nat.mod_lt _ hr0
 have hst:=hl.stops _ kd
 have a4:A % 4<chC.length:=Nat.mod_lt _ (by decide)
 rw [orgEnc_eq (nr:=o.ranks.length) (nd:=o.divs.length) (nc:=o.cpls.length) rfl List.length_set rfl]
 refine VFun.enter (env_none (by decide)) Tryz.func29 rfl (by kernel_rfl) (by simp [Tryz.ntmps29]) ?_
 repeat' (first
  |(refine VWp.at 47 ?_;refine VWp.ghost (Ghost.freezeCell 9 4 rfl rfl rfl) ?_;first|apply VWp.rseq|apply VWp.rseqD)
  |(refine VWp.at 49 ?_;refine VWp.ghost (Ghost.trans (Ghost.freezeCell 0 1 rfl rfl rfl) (Ghost.trans (Ghost.freezeCell 0 2 rfl rfl rfl) (Ghost.freezeCell 0 3 rfl rfl rfl))) ?_;first|apply VWp.rseq|apply VWp.rseqD)
  |(refine VOps.atOp 154 ?_;refine VOps.ghost (Ghost.freeze 150 rfl rfl) ?_)
  |apply VWp.assoc
  |apply VWp.rseq
  |apply VWp.rseqD
  |apply VWp.region
  |apply VWp.blockSeq
  |apply QSeq.normal
  |apply QBlk.normal
  |apply VWp.ret
  |apply VOps.nil
  |apply VOpsD.nil
  |apply VOps.one
  |(apply VOpsD.bar;decide +kernel)
  |apply VOpsD.quiet
  |(apply VVal.indexN (l:=chC) (i:=A % 4);rfl;rfl;rfl;exact a4;rfl)
  |(apply VVal.storeVL (y:=(⟨gi chC (A % 4),(gi o.divs (A % o.divs.length)).pedal,(gi o.divs (A % o.divs.length)).lo,(gi o.divs (A % o.divs.length)).hi,(gi o.divs (A % o.divs.length)).stops⟩:Dvs));rfl;rfl;rfl;trivial;(first|rfl|(refine congrArg (fun t=>[PV.p (FV.int _ t)]) ?_;first|omega|(simp only [Int.natCast_add,Int.natCast_mul,Int.natCast_ediv,Int.natCast_emod]<;>omega)));rfl;rfl;decide;(first|omega|(simp only [List.length_set]<;>omega)))
  |(apply VVal.remN;rfl;rfl;omega)
  |(apply VVal.indexVN (i:=A % o.divs.length);rfl;rfl;rfl;rfl;exact kd)
  |(apply VVal.loadVL (i:=A % o.divs.length);rfl;rfl;exact kd;rfl)
  |(apply VVal.assign;rfl)
  |(apply VVal.move;rfl)
  |(apply VVal.remI;rfl;rfl;omega;omega)
  |(apply VVal.int;rfl;rfl;rfl)
  |(apply VVal.load;rfl;rfl)
  |(apply VVal.lenV;rfl;rfl;rfl)
  |(apply VVal.fieldB;rfl;rfl;rfl)
  |(apply VVal.box;rfl;trivial)
  |(apply VVal.alloc;rfl)
  |(apply VVal.storeB;rfl;rfl;rfl;trivial;rfl;rfl;exact lt_dec rfl;exact le_dec rfl)
  |(apply VVal.buildSlice;rfl;rfl;rfl;decide;rfl;rfl;rfl)
  |(apply VVal.convI;rfl;rfl;rfl;rfl;omega)
  |(apply VVal.appendL0;rfl;rfl;rfl;(first|rfl|omega|(simp only [List.length_take,List.length_drop,List.length_append,List.length_singleton,List.length_cons,List.length_nil]<;>omega));rfl;rfl;(intro _ h;cases h);rfl;rfl;rfl;decide;decide;(first|omega|(simp only [List.length_take,List.length_drop,List.length_append,List.length_singleton,List.length_cons,List.length_nil]<;>omega)))
  |(apply VWp.condSeq_dec;rfl)
  |(apply VWp.cond_dec;rfl)
  |(intro _;try (exfalso;omega)))
 all_goals first|(exfalso;omega)|contradiction|(refine Done.ret rfl (.refl _) (by first|exact trivial|exact ⟨trivial,trivial,trivial⟩|exact ⟨trivial,trivial,trivial,trivial⟩) HCov.nil (Nat.zero_le _) (Nat.le_refl _) ⟨?_,rfl,rfl⟩;try rfl)
set_option maxRecDepth 100000 in
set_option maxHeartbeats 4000000 in
theorem chg8 (o:Org) (n:Nat) (hn:n≤1000) (hl:OrgL n o) (hr0:0<o.ranks.length) (hd0:0<o.divs.length) (K A:Nat) (hK:K<256) (hA:A<256) (hc:K % 16=8) :
 VFun env 29 [.agg (Enc.enc o),.agg [.int .u8 (K:Int),.int .u8 (A:Int)]] (.p (.agg (Enc.enc (⟨o.name,o.ranks,o.divs.set (A % o.divs.length) (⟨(gi o.divs (A % o.divs.length)).name,(gi o.divs (A % o.divs.length)).pedal,(gi cpA (A % 4)).lo,(gi cpA (A % 4)).hi,(gi o.divs (A % o.divs.length)).stops⟩:Dvs),o.cpls⟩:Org)))):=by
 have hr:=hl.ranks
 have hd:=hl.divs
 have hcp:=hl.cpls
 have kd:A % o.divs.length<o.divs.length:=Nat.mod_lt _ hd0
 have kr:A % o.ranks.length<o.ranks.length:=Nat.mod_lt _ hr0
 have hst:=hl.stops _ kd
 have a4:A % 4<cpA.length:=Nat.mod_lt _ (by decide)
 rw [orgEnc_eq (nr:=o.ranks.length) (nd:=o.divs.length) (nc:=o.cpls.length) rfl List.length_set rfl]
 refine VFun.enter (env_none (by decide)) Tryz.func29 rfl (by kernel_rfl) (by simp [Tryz.ntmps29]) ?_
 repeat' (first
  |(refine VWp.at 47 ?_;refine VWp.ghost (Ghost.freezeCell 9 4 rfl rfl rfl) ?_;first|apply VWp.rseq|apply VWp.rseqD)
  |(refine VWp.at 49 ?_;refine VWp.ghost (Ghost.trans (Ghost.freezeCell 0 1 rfl rfl rfl) (Ghost.trans (Ghost.freezeCell 0 2 rfl rfl rfl) (Ghost.freezeCell 0 3 rfl rfl rfl))) ?_;first|apply VWp.rseq|apply VWp.rseqD)
  |(refine VOps.atOp 167 ?_;refine VOps.ghost (Ghost.freeze 163 rfl rfl) ?_)
  |apply VWp.assoc
  |apply VWp.rseq
  |apply VWp.rseqD
  |apply VWp.region
  |apply VWp.blockSeq
  |apply QSeq.normal
  |apply QBlk.normal
  |apply VWp.ret
  |apply VOps.nil
  |apply VOpsD.nil
  |apply VOps.one
  |(apply VOpsD.bar;decide +kernel)
  |apply VOpsD.quiet
  |(apply VVal.indexN (l:=cpA) (i:=A % 4);rfl;rfl;rfl;exact a4;rfl)
  |(apply VVal.storeVL (y:=(⟨(gi o.divs (A % o.divs.length)).name,(gi o.divs (A % o.divs.length)).pedal,(gi cpA (A % 4)).lo,(gi cpA (A % 4)).hi,(gi o.divs (A % o.divs.length)).stops⟩:Dvs));rfl;rfl;rfl;trivial;(first|rfl|(refine congrArg (fun t=>[PV.p (FV.int _ t)]) ?_;first|omega|(simp only [Int.natCast_add,Int.natCast_mul,Int.natCast_ediv,Int.natCast_emod]<;>omega)));rfl;rfl;decide;(first|omega|(simp only [List.length_set]<;>omega)))
  |(apply VVal.remN;rfl;rfl;omega)
  |(apply VVal.indexVN (i:=A % o.divs.length);rfl;rfl;rfl;rfl;exact kd)
  |(apply VVal.loadVL (i:=A % o.divs.length);rfl;rfl;exact kd;rfl)
  |(apply VVal.assign;rfl)
  |(apply VVal.move;rfl)
  |(apply VVal.remI;rfl;rfl;omega;omega)
  |(apply VVal.int;rfl;rfl;rfl)
  |(apply VVal.load;rfl;rfl)
  |(apply VVal.lenV;rfl;rfl;rfl)
  |(apply VVal.fieldB;rfl;rfl;rfl)
  |(apply VVal.box;rfl;trivial)
  |(apply VVal.alloc;rfl)
  |(apply VVal.storeB;rfl;rfl;rfl;trivial;rfl;rfl;exact lt_dec rfl;exact le_dec rfl)
  |(apply VVal.build;rfl;rfl;rfl;rfl;rfl)
  |(apply VVal.buildSlice;rfl;rfl;rfl;decide;rfl;rfl;rfl)
  |(apply VVal.convI;rfl;rfl;rfl;rfl;omega)
  |(apply VVal.appendL0;rfl;rfl;rfl;(first|rfl|omega|(simp only [List.length_take,List.length_drop,List.length_append,List.length_singleton,List.length_cons,List.length_nil]<;>omega));rfl;rfl;(intro _ h;cases h);rfl;rfl;rfl;decide;decide;(first|omega|(simp only [List.length_take,List.length_drop,List.length_append,List.length_singleton,List.length_cons,List.length_nil]<;>omega)))
  |(apply VWp.condSeq_dec;rfl)
  |(apply VWp.cond_dec;rfl)
  |(intro _;try (exfalso;omega)))
 all_goals first|(exfalso;omega)|contradiction|(refine Done.ret rfl (.refl _) (by first|exact trivial|exact ⟨trivial,trivial,trivial⟩|exact ⟨trivial,trivial,trivial,trivial⟩) HCov.nil (Nat.zero_le _) (Nat.le_refl _) ⟨?_,rfl,rfl⟩;try rfl)
set_option maxRecDepth 100000 in
set_option maxHeartbeats 4000000 in
theorem chg9n (o:Org) (n:Nat) (hn:n≤1000) (hl:OrgL n o) (hr0:0<o.ranks.length) (hd0:0<o.divs.length) (K A:Nat) (hK:K<256) (hA:A<256) (hc:K % 16=9∨K % 16=10) (h0:(gi o.divs (A % o.divs.length)).stops.length=0) :
 VFun env 29 [.agg (Enc.enc o),.agg [.int .u8 (K:Int),.int .u8 (A:Int)]] (.p (.agg (Enc.enc (⟨o.name,o.ranks,o.divs.set (A % o.divs.length) (gi o.divs (A % o.divs.length)),o.cpls⟩:Org)))):=by
 have hr:=hl.ranks
 have hd:=hl.divs
 have hcp:=hl.cpls
 have kd:A % o.divs.length<o.divs.length:=Nat.mod_lt _ hd0
 have kr:A % o.ranks.length<o.ranks.length:=Nat.mod_lt _ hr0
 have hst:=hl.stops _ kd
 rw [orgEnc_eq (nr:=o.ranks.length) (nd:=o.divs.length) (nc:=o.cpls.length) rfl List.length_set rfl]
 refine VFun.enter (env_none (by decide)) Tryz.func29 rfl (by kernel_rfl) (by simp [Tryz.ntmps29]) ?_
 repeat' (first
  |(refine VWp.at 47 ?_;refine VWp.ghost (Ghost.freezeCell 9 4 rfl rfl rfl) ?_;first|apply VWp.rseq|apply VWp.rseqD)
  |(refine VWp.at 49 ?_;refine VWp.ghost (Ghost.trans (Ghost.freezeCell 0 1 rfl rfl rfl) (Ghost.trans (Ghost.freezeCell 0 2 rfl rfl rfl) (Ghost.freezeCell 0 3 rfl rfl rfl))) ?_;first|apply VWp.rseq|apply VWp.rseqD)
  |apply VWp.assoc
  |apply VWp.rseq
  |apply VWp.rseqD
  |apply VWp.blockSeq
  |apply QSeq.normal
  |apply QBlk.normal
  |apply VWp.ret
  |apply VWp.skip
  |apply VOps.nil
  |apply VOpsD.nil
  |apply VOps.one
  |(apply VOpsD.bar;decide +kernel)
  |apply VOpsD.quiet
  |(apply VVal.storeVL (y:=(gi o.divs (A % o.divs.length)));rfl;rfl;rfl;trivial;(first|rfl|(refine congrArg (fun t=>[PV.p (FV.int _ t)]) ?_;first|omega|(simp only [Int.natCast_add,Int.natCast_mul,Int.natCast_ediv,Int.natCast_emod]<;>omega)));rfl;rfl;decide;(first|omega|(simp only [List.length_set]<;>omega)))
  |(apply VVal.remN;rfl;rfl;omega)
  |(apply VVal.indexVN (i:=A % o.divs.length);rfl;rfl;rfl;rfl;exact kd)
  |(apply VVal.loadVL (i:=A % o.divs.length);rfl;rfl;exact kd;rfl)
  |(apply VVal.assign;rfl)
  |(apply VVal.move;rfl)
  |(apply VVal.remI;rfl;rfl;omega;omega)
  |(apply VVal.int;rfl;rfl;rfl)
  |(apply VVal.load;rfl;rfl)
  |(apply VVal.lenV;rfl;rfl;rfl)
  |(apply VVal.fieldB;rfl;rfl;rfl)
  |(apply VVal.box;rfl;trivial)
  |(apply VVal.alloc;rfl)
  |(apply VVal.storeB;rfl;rfl;rfl;trivial;rfl;rfl;exact lt_dec rfl;exact le_dec rfl)
  |(apply VVal.buildSlice;rfl;rfl;rfl;decide;rfl;rfl;rfl)
  |(apply VVal.convI;rfl;rfl;rfl;rfl;omega)
  |(apply VVal.appendL0;rfl;rfl;rfl;(first|rfl|omega|(simp only [List.length_take,List.length_drop,List.length_append,List.length_singleton,List.length_cons,List.length_nil]<;>omega));rfl;rfl;(intro _ h;cases h);rfl;rfl;rfl;decide;decide;(first|omega|(simp only [List.length_take,List.length_drop,List.length_append,List.length_singleton,List.length_cons,List.length_nil]<;>omega)))
  |(apply VWp.condSeq_dec;rfl)
  |(apply VWp.cond_dec;rfl)
  |(intro _;try (exfalso;omega)))
 all_goals first|(exfalso;omega)|contradiction|(refine Done.ret rfl (.refl _) (by first|exact trivial|exact ⟨trivial,trivial,trivial⟩|exact ⟨trivial,trivial,trivial,trivial⟩) HCov.nil (Nat.zero_le _) (Nat.le_refl _) ⟨?_,rfl,rfl⟩;try rfl)
end Go.Proofs.YtcnlhgmkelkikaaGreatDoor
