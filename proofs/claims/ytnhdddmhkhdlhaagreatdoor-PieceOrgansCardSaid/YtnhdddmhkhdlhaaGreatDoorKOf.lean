/-
  Texts of a proof, merged (PieI, PieK, Vm44, Vm39, PieU, PieS, Vm35, TraA, PieN, PieO, RkQ, OrK, OrP, PieV, OrR, OrRa, OrRb, OrRc, OrS, OrVa, PieCo). Conditions: in each statement.
-/
import Derived.Test.YtnhdddmhkhdlhaaGreatDoorKOe
set_option linter.unusedSimpArgs false
set_option linter.unusedVariables false
set_option linter.unusedSectionVars false
set_option maxRecDepth 100000
set_option maxHeartbeats 8000000
namespace Go.Proofs.YtnhdddmhkhdlhaaGreatDoor
open Go Go.Am Go.Vm Go.Pie
attribute [local irreducible] VVal VOps VOpsD VWp VCalls VFun VFunV QSeq QBlk QLoop Vm.Done DoneV DoneI
attribute [local irreducible] rchk windsE stoE dvsE cplE shiftR tailH
instance:Enc Slc:={ default:=⟨0,0,[]⟩,enc:=fun x=>[.int .i64 x.s,.int .i64 x.e,.lst 3 (cells x.notes) x.notes.length],size:=3,len:=fun _=>rfl }
def zsK (p:Pce):Nat→List Int
 |0=>[fstB p,endB p]
 |k+1=>zsK p k++[(gi p.notes k).s,(gi p.notes k).e]
theorem zsK_len (p:Pce):∀ k,(zsK p k).length=2*k+2
 |0=>rfl
 |k+1=>by
  have:=zsK_len p k
  unfold zsK
  simp only [List.length_append,List.length_cons,List.length_nil]
  omega
def tksP (p:Pce):List Int:=Lib.compact ((zsK p p.notes.length).mergeSort fun x y=>decide (x≤y))
theorem compact_len (zs:List Int):(Lib.compact zs).length≤zs.length:=by
 unfold Lib.compact Lib.compactUpTo
 rw [List.length_map]
 exact Nat.le_trans (List.length_filter_le _ _) (by simp)
theorem tks_pos (p:Pce):0<(tksP p).length:=by
 have h0:fstB p∈tksP p:=by
  unfold tksP
  rw [compact_mem,List.mem_mergeSort]
  have:∀ k,fstB p∈zsK p k:=by
   intro k
   induction k with
   |zero=>simp [zsK]
   |succ k ih=>exact List.mem_append_left _ ih
  exact this _
 exact List.length_pos_of_mem h0
theorem rfs0:∀ (m:Mem) (F:Nat→Prop) (us:List Value),RFs m F [] us→us=[]:=fun m F us h=>by cases h;rfl
def sndL (p:Pce):List Slc:=strT (snd p) (tksP p)
theorem Slices_spec {o:Org} {p:Pce} (ho:OrgSm o) (hE:pceE o p=0) (h:PceK o p):VFun env 17 [.agg (Enc.enc o),.agg (Enc.enc p)] (.tup [.p (.lst 59 (cells (sndL p)) (sndL p).length),.p (.int .i64 0)]):=by
 have ha:=pieCheck_spec o p ho h.sm
 rw [hE] at ha
 have hen:=ends_spec p (by have:=h.bars;omega) h.sm.bars
 have n1:=h.notes
 have hsn:=pieSnd_spec p h.sm
 refine VFun.enter (env_none (by decide)) Tryz.func17 rfl (by kernel_rfl) (by simp [Tryz.ntmps17]) ?_
 repeat' (first|apply VWp.assoc|apply VWp.rseq|apply VWp.skipSeq|apply VWp.blockSeq|apply VOps.nil|apply VOps.one|(apply VVal.fn;rfl;rfl;exact ha;intro _;rfl)|(apply VVal.fn;rfl;rfl;exact hen;intro _;rfl)|(apply VVal.assign;rfl)|(apply VVal.move;rfl)|(apply VVal.int;rfl;rfl;rfl)|(apply VVal.load;rfl;rfl)|(apply VVal.lenF;rfl;rfl)|(apply VVal.fieldB;rfl;rfl;rfl)|(apply VVal.box;rfl;trivial)|(apply VVal.buildSlice;rfl;rfl;rfl;decide;rfl;rfl;rfl)|(apply VVal.extract;rfl;rfl)|(apply VWp.condSeq_false;rfl))
 all_goals try (exfalso;omega)
 all_goals try contradiction
 apply VWp.loopR (p.notes.length) [(3,_),(30,_),(31,_)] [(1,_)] (fun k r=>(32,.p (.int .i64 (k:Int)))::(9,.vec 2 (zsK p k).length 0 (zsK p k).length)::r) (fun k r=>(2,.vec 3 (cells (zsK p k)) (zsK p k).length false)::r) 3
 ·first|omega|decide
 ·first|omega|decide
 ·repeat (first|exact LCov.nil|(refine LCov.eq rfl ?_ ?_;(first|exact PV.under_of rfl|(simp [PV.under,PVs.under];done)))|refine LCov.cons trivial rfl (.of_eq (lst_len (by simp<;>omega))) ?_)
 ·repeat (first|exact HCov.nil|(refine HCov.eq rfl (lt_dec rfl) ?_ ?_;(first|exact HB.under_of rfl|exact PVs.under_pure _ _|(simp [HB.under,PVs.under,PV.under];done)))|(refine HCov.cons (lt_dec rfl) ?_ rfl ?_ ?_;(first|exact trivial|exact PVs.under_pure _ _|(simp [HB.under,PVs.under,PV.under]));(first|exact HLe.refl _|exact HLe.vec (FLes.refl _) (by simp))))
 ·intro k hk
  have hl:=zsK_len p k
  have e1:zsK p (k+1)=zsK p k++[(gi p.notes k).s,(gi p.notes k).e]:=rfl
  have e2:(zsK p (k+1)).length=(zsK p k).length+2:=by rw [e1];simp
  repeat' (first|apply VWp.rseq|apply VWp.region|apply VWp.skipSeq|apply VWp.blockSeq|apply QSeq.normal|apply QBlk.normal|apply VOps.nil|apply VOps.one|(apply VVal.append2 (l:=zsK p k) (gi p.notes k).s (gi p.notes k).e;rfl;rfl;rfl;rfl;rfl;rfl;rfl;rfl;(intro _ h;cases h);rfl;rfl;rfl;decide;decide;omega)|(apply VVal.assign;rfl)|(apply VVal.move;rfl)|(apply VVal.add64;rfl;rfl;omega)|(apply VVal.int;rfl;rfl;rfl)|(apply VVal.indexN;rfl;rfl;rfl;omega;rfl)|(apply VVal.load;rfl;rfl)|(apply VVal.fieldB;rfl;rfl;rfl)|(apply VVal.alloc;rfl)|(apply VVal.storeB;rfl;rfl;rfl;trivial;rfl;rfl;exact lt_dec rfl;exact le_dec rfl)|(apply VVal.buildSlice;rfl;rfl;rfl;decide;rfl;rfl;rfl)|(apply VWp.condSeq_dec;rfl)|(intro _;try (exfalso;omega)))
  all_goals try (exfalso;omega)
  refine QLoop.normal ⟨by first|omega|decide,?_,?_⟩
  ·try (first|rw [e2,e1]|rw [e2])
   repeat (first|exact LCov.nil|refine LCov.same trivial rfl ?_|refine LCov.same (lt_dec rfl) rfl ?_|refine LCov.same ⟨trivial,lt_dec rfl,trivial⟩ rfl ?_|refine LCov.same ⟨trivial,lt_dec rfl,lt_dec rfl,trivial⟩ rfl ?_|refine LCov.same ⟨trivial,lt_dec rfl,lt_dec rfl,lt_dec rfl,trivial⟩ rfl ?_|refine LCov.same ⟨trivial,lt_dec rfl,lt_dec rfl,lt_dec rfl,lt_dec rfl,trivial⟩ rfl ?_|refine LCov.same ⟨trivial,trivial⟩ rfl ?_|refine LCov.cons trivial rfl (.of_eq (lst_len (by simp<;>omega))) ?_)
  ·first|rw [e2,e1]|rw [e2]
   repeat (first|exact HCov.nil|(refine HCov.cons (lt_dec rfl) ?_ rfl ?_ ?_;(first|exact HB.under_of rfl|exact PVs.under_pure _ _|(simp [HB.under,PVs.under,PV.under]));(first|exact HLe.refl _|exact HLe.vec (FLes.refl _) (by simp))))
 ·have hl:=zsK_len p p.notes.length
  obtain ⟨zs,hzs⟩:∃ zs,zs=zsK p p.notes.length:=⟨_,rfl⟩
  have hcl:=compact_len ((zsK p p.notes.length).mergeSort fun x y=>decide (x≤y))
  have hml:((zsK p p.notes.length).mergeSort fun x y=>decide (x≤y)).length=(zsK p p.notes.length).length:=List.length_mergeSort _
  have htp:=tks_pos p
  have htc:((tksP p).length:Int)-1=(((tksP p).length-1:Nat):Int):=by omega
  rw [show Lib.compact ((zsK p p.notes.length).mergeSort fun x y=>decide (x≤y))=tksP p from rfl] at hcl
  repeat' (first|(refine VWp.at 14 ?_;refine VWp.ghost (Ghost.freeze 9 rfl rfl) ?_;first|apply VWp.rseq|apply VWp.rseqD)|apply VWp.assoc|apply VWp.rseq|apply VWp.exitSeq|apply VWp.blockSeq|apply QSeq.normal|apply QBlk.exit|apply QLoop.exit|apply VOps.nil|apply VOps.one|((refine VVal.inPut (Fn:=sortF) (zs':=(zsK p p.notes.length).mergeSort fun x y=>decide (x≤y)) sort_at rfl rfl rfl (rest:=[]) (rv:=[]) rfs0 rfl rfl (by omega) ?_ (by omega) ?_;(simp only [sortF];rw [if_pos (by omega)])))|((refine VVal.inCut (Fn:=compF) (zs:=(zsK p p.notes.length).mergeSort fun x y=>decide (x≤y)) (zs':=tksP p++List.replicate ((zsK p p.notes.length).length-(tksP p).length) 0) (k:=(tksP p).length) comp_at rfl rfl rfl (rest:=[]) (rv:=[]) rfs0 rfl hml (by omega) ?_ (by simp;omega) (by omega) ?_;(simp only [compF];rw [if_pos (by omega),hml];rfl);rw [List.take_left]))|(apply VVal.sliceTo (b:=(tksP p).length-1);rfl;exact congrArg (fun b=>some (PV.p (.int .i64 b))) htc;rfl;rfl;rfl;rfl;omega)|(apply VVal.assign;rfl)|(apply VVal.move;rfl)|(apply VVal.sub64;rfl;rfl;omega)|(apply VVal.int;rfl;rfl;rfl)|(apply VVal.lenF;rfl;rfl)|(apply VWp.condSeq_dec;rfl)|(intro _;try (exfalso;omega)))
  all_goals try (exfalso;omega)
  refine VWp.ghost (Ghost.adopt 12 59 rfl) ?_
  obtain ⟨F,hF⟩:∃ F:Nat→Slc,F=fun i=>⟨gi (tksP p) i,gi (tksP p) (i+1),snd p (gi (tksP p) i)⟩:=⟨_,rfl⟩
  have hR:sndL p=snocK F ((tksP p).length-1):=by rw [hF];rfl
  rw [hR]
  apply VWp.loopR ((tksP p).length-1) [(3,_),(9,_),(52,_),(53,_)] [(1,_)] (fun k r=>(54,.p (.int .i64 (k:Int)))::(12,.vec 4 (snocK F k).length 0 (snocK F k).length)::r) (fun k r=>(4,.vec 59 (cells (snocK F k)) (snocK F k).length true)::r) 5
  ·first|omega|decide
  ·first|omega|decide
  ·repeat (first|exact LCov.nil|(refine LCov.eq rfl ?_ ?_;(first|exact PV.under_of rfl|(simp [PV.under,PVs.under];done)))|refine LCov.cons trivial rfl (.of_eq (lst_len (by simp<;>omega))) ?_)
  ·repeat (first|exact HCov.nil|(refine HCov.eq rfl (lt_dec rfl) ?_ ?_;(first|exact HB.under_of rfl|exact PVs.under_pure _ _|(simp [HB.under,PVs.under,PV.under];done)))|(refine HCov.cons (lt_dec rfl) ?_ rfl ?_ ?_;(first|exact trivial|exact PVs.under_pure _ _|(simp [HB.under,PVs.under,PV.under]));(first|exact HLe.refl _|exact HLe.vec (FLes.refl _) (by simp))))
  ·intro k hk
   have hlF:=snocK_len F k
   have hFk:F k=⟨gi (tksP p) k,gi (tksP p) (k+1),snd p (gi (tksP p) k)⟩:=by rw [hF]
   have e1:snocK F (k+1)=snocK F k++[⟨gi (tksP p) k,gi (tksP p) (k+1),snd p (gi (tksP p) k)⟩]:=by rw [← hFk];rfl
   have e2:(snocK F (k+1)).length=(snocK F k).length+1:=by rw [e1];simp
   have hg:gi ((tksP p).take ((tksP p).length-1)) k=gi (tksP p) k:=gi_take hk
   have hk1:(k:Int)+1=((k+1:Nat):Int):=by omega
   have hs:=hsn (gi (tksP p) k)
   repeat' (first|(refine VOpsD.atIdx 10 ?_;refine VOpsD.ghost (Ghost.freeze 68 rfl rfl) ?_)|(refine VOpsD.atIdx 9 ?_;apply VOpsD.weakF [.tmp 64];decide +kernel;decide +kernel;rfl)|apply VWp.rseq|apply VWp.region|apply VWp.regionD|apply VWp.skipSeq|apply VWp.blockSeq|apply QSeq.normal|apply QBlk.normal|apply VOps.nil|apply VOpsD.nil|apply VOps.one|(apply VOpsD.bar;decide +kernel)|apply VOpsD.quiet|(apply VVal.fv;rfl;rfl;exact hs)|(apply VVal.indexN (l:=(tksP p).take ((tksP p).length-1)) (i:=k);rfl;rfl;rfl;(rw [List.length_take];omega);(rw [List.length_take];omega))|(apply VVal.load (r:=.p (.int .i64 (gi (tksP p) k)));rfl;exact (congrArg (fun b=>some (PV.p (FV.int .i64 b))) hg))|(apply VVal.indexN (l:=tksP p) (i:=k+1);rfl;exact congrArg (fun b=>some (PV.p (.int .i64 b))) hk1;rfl;omega;rfl)|(apply VVal.append1 (a:=(⟨gi (tksP p) k,gi (tksP p) (k+1),snd p (gi (tksP p) k)⟩:Slc));rfl;rfl;rfl;rfl;rfl;rfl;rfl;rfl;(intro _ h;cases h);rfl;rfl;rfl;decide;decide;(first|omega|(simp only [List.length_take,List.length_drop,List.length_append,List.length_singleton,List.length_cons,List.length_nil]<;>omega)))|(apply VVal.assign;rfl)|(apply VVal.move;rfl)|(apply VVal.add64;rfl;rfl;omega)|(apply VVal.int;rfl;rfl;rfl)|(apply VVal.load;rfl;rfl)|(apply VVal.build;rfl;rfl;rfl;rfl;rfl)|(apply VVal.buildSlice;rfl;rfl;rfl;decide;rfl;rfl;rfl)|(apply VWp.condSeq_dec;rfl)|(intro _;try (exfalso;omega)))
   all_goals try (exfalso;omega)
   refine QLoop.normal ⟨by first|omega|decide,?_,?_⟩
   ·try (first|rw [e2,e1]|rw [e2])
    repeat (first|exact LCov.nil|refine LCov.same trivial rfl ?_|refine LCov.same (lt_dec rfl) rfl ?_|refine LCov.same ⟨trivial,lt_dec rfl,trivial⟩ rfl ?_|refine LCov.same ⟨trivial,lt_dec rfl,lt_dec rfl,trivial⟩ rfl ?_|refine LCov.same ⟨trivial,lt_dec rfl,lt_dec rfl,lt_dec rfl,trivial⟩ rfl ?_|refine LCov.same ⟨trivial,lt_dec rfl,lt_dec rfl,lt_dec rfl,lt_dec rfl,trivial⟩ rfl ?_|refine LCov.same ⟨trivial,trivial⟩ rfl ?_|refine LCov.cons trivial rfl (.of_eq (lst_len (by simp<;>omega))) ?_)
   ·first|rw [e2,e1]|rw [e2]
    repeat (first|exact HCov.nil|(refine HCov.cons (lt_dec rfl) ?_ rfl ?_ ?_;(first|exact HB.under_of rfl|exact PVs.under_pure _ _|(simp [HB.under,PVs.under,PV.under]));(first|exact HLe.refl _|exact HLe.vec (FLes.refl _) (by simp))))
  ·repeat' (first|(refine VOps.atOp 4 ?_;refine VOps.ghost (Ghost.freeze 73 rfl rfl) ?_)|apply VWp.rseq|apply VWp.exitSeq|apply QSeq.normal|apply QBlk.exit|apply QLoop.exit|apply VWp.ret|apply VOps.nil|apply VOps.one|(apply VVal.assign;rfl)|(apply VVal.move;rfl)|(apply VVal.int;rfl;rfl;rfl)|(apply VWp.condSeq_dec;rfl)|(intro _;try (exfalso;omega)))
   all_goals first|(exfalso;omega)|(refine Done.ret rfl (.refl _) (by first|exact trivial|exact ⟨trivial,trivial,trivial⟩|exact ⟨trivial,trivial,trivial,trivial⟩) HCov.nil (Nat.zero_le _) (Nat.le_refl _) ⟨?_,rfl,rfl⟩;try rfl)
end Go.Proofs.YtnhdddmhkhdlhaaGreatDoor
namespace Go.Proofs.YtnhdddmhkhdlhaaGreatDoor
open Go Go.Am Go.Vm Go.Pie
attribute [local irreducible] VVal VOps VOpsD VWp VCalls VFun VFunV QSeq QBlk QLoop Vm.Done DoneV DoneI
attribute [local irreducible] rchk windsE stoE dvsE cplE shiftR tailH
theorem cloneB_spec (l:List Int) (h0:0<l.length) (h1:l.length<1000000):VFunV env 57 [.lst 3 (cells l) l.length] 3 (cells l) l.length false:=by
 refine VFunV.enter (env_none (by decide)) Tryz.func57 rfl (by kernel_rfl) (by simp [Tryz.ntmps57]) ?_
 repeat' (first|apply VWp.assoc|apply VWp.rseq|apply VWp.skipSeq|apply VWp.ret|apply VOps.nil|apply VOps.one|(apply VVal.eqNilF;rfl;rfl;rfl;exact h0)|(apply VVal.assign;rfl)|(apply VVal.move;rfl)|(apply VVal.buildSlice;rfl;rfl;rfl;decide;rfl;rfl;rfl)|(apply VVal.appendL0;rfl;rfl;rfl;(first|rfl|omega|(simp only [List.length_take,List.length_drop,List.length_append,List.length_singleton,List.length_cons,List.length_nil]<;>omega));rfl;rfl;(intro _ h;cases h);rfl;rfl;rfl;decide;decide;(first|omega|(simp only [List.length_take,List.length_drop,List.length_append,List.length_singleton,List.length_cons,List.length_nil]<;>omega)))|(apply VWp.condSeq_false;rfl))
 exact DoneV.ret rfl rfl rfl rfl
def ctN (p:Pce) (a z:Int):Nat→List Nte
 |0=>[]
 |k+1=>if (gi p.notes k).s<z∧(gi p.notes k).e>a then ctN p a z k++[⟨max (gi p.notes k).s a,min (gi p.notes k).e z,(gi p.notes k).d,(gi p.notes k).k⟩] else ctN p a z k
theorem ctN_len (p:Pce) (a z:Int):∀ k,(ctN p a z k).length≤k
 |0=>Nat.le_refl _
 |k+1=>by
  have:=ctN_len p a z k
  unfold ctN
  split
  ·simp;omega
  ·omega
def ctS0 (p:Pce) (f:Nat):List Stg:=if 0≤wan p (gi p.bars f)∧(gi p.sets (wan p (gi p.bars f)).toNat).bar<f then [⟨0,(gi p.sets (wan p (gi p.bars f)).toNat).reg⟩] else []
def ctS (p:Pce) (f t:Nat) (s0:List Stg):Nat→List Stg
 |0=>s0
 |k+1=>if (gi p.sets k).bar≥f∧(gi p.sets k).bar<t then ctS p f t s0 k++[⟨(gi p.sets k).bar-f,(gi p.sets k).reg⟩] else ctS p f t s0 k
theorem ctS0_len (p:Pce) (f:Nat):(ctS0 p f).length≤1:=by
 unfold ctS0
 split<;>simp
theorem ctS_len (p:Pce) (f t:Nat) (s0:List Stg):∀ k,(ctS p f t s0 k).length≤s0.length+k
 |0=>Nat.le_refl _
 |k+1=>by
  have:=ctS_len p f t s0 k
  unfold ctS
  split
  ·simp;omega
  ·omega
def ctB (p:Pce) (f t:Nat):List Int:=(p.bars.drop f).take (t+1-f)
def cutP (p:Pce) (f t:Nat):Pce:=⟨ctB p f t,ctN p (gi p.bars f) (gi p.bars t) p.notes.length,ctS p f t (ctS0 p f) p.sets.length⟩
theorem ctB_len {p:Pce} {f t:Nat} (h1:f<t) (h2:t<p.bars.length):(ctB p f t).length=t+1-f:=by
 unfold ctB;rw [List.length_take,List.length_drop];omega
theorem ctB_gi {p:Pce} {f t i:Nat} (h:i<t+1-f):gi (ctB p f t) i=gi p.bars (f+i):=by
 unfold ctB gi
 rw [List.getElem?_take_of_lt h,List.getElem?_drop]
def pceZ:List FV:=[.val (.slice none 0 0),.val (.slice none 0 0),.val (.slice none 0 0)]
theorem Cut_spec {o:Org} {p:Pce} (ho:OrgK o) (hE:pceE o p=0) (h:PceK o p) (f t:Nat) (h1:f<t) (h2:t<p.bars.length):VFun env 22 [.agg (Enc.enc o),.agg (Enc.enc p),.int .i64 (f:Int),.int .i64 (t:Int)] (.tup [.p (.agg (Enc.enc (cutP p f t))),.p (.int .i64 0)]):=by
 have ha:=pieCheck_spec o p ho.sm h.sm
 rw [hE] at ha
 have d1:=ho.divs
 have n1:=h.notes
 have n2:=h.bars
 have n3:=h.sets
 have hBl:=ctB_len h1 h2
 have hBf:gi (ctB p f t) 0=gi p.bars f:=ctB_gi (by omega)
 have hBt:gi (ctB p f t) (t+1-f-1)=gi p.bars t:=by rw [ctB_gi (by omega)];congr 1;omega
 have hcb:=cloneB_spec (ctB p f t) (by omega) (by omega)
 have hen:=ends_spec ⟨ctB p f t,[],[]⟩ (by show 0<(ctB p f t).length;omega) (by show (ctB p f t).length<_;omega)
 rw [show fstB ⟨ctB p f t,[],[]⟩=gi p.bars f from hBf,show endB ⟨ctB p f t,[],[]⟩=gi p.bars t by show gi (ctB p f t) ((ctB p f t).length-1)=_;rw [hBl,hBt]] at hen
 have hen:VFun env 53 [.agg [.lst 3 (cells (ctB p f t)) (t+1-f),.val (.slice none 0 0),.val (.slice none 0 0)]] (.tup [.p (.int .i64 (gi p.bars f)),.p (.int .i64 (gi p.bars t))]):=by
  refine VFun.le ?_ hen
  rw [show Enc.enc (⟨ctB p f t,[],[]⟩:Pce)=[.lst 3 (cells (ctB p f t)) (t+1-f),.lst 66 [] 0,.lst 74 [] 0] by show [FV.lst 3 (cells (ctB p f t)) (ctB p f t).length,_,_]=_;rw [hBl];rfl]
  exact .cons (.agg (.cons (.refl _) (.cons (.nil _) (.cons (.nil _) (.refl _))))) (.refl _)
 have hw:=pieWan_spec h (gi p.bars f)
 have hwr:=wanK_rng p (gi p.bars f) p.sets.length
 rw [show wanK p (gi p.bars f) p.sets.length=wan p (gi p.bars f) from rfl] at hwr
 have hcop:∀ i,i<p.sets.length→VFun env 59 [.agg (Enc.enc (gi p.sets i).reg)] (.p (.agg (Enc.enc (gi p.sets i).reg))):=fun i hi=>by
  have hl:=regE_len0 (h.set i hi).2.2
  exact pieCopied_spec _ (by omega) (by omega)
 have hBe:Enc.enc (cutP p f t)=[.lst 3 (cells (ctB p f t)) (t+1-f),.lst 66 (cells (ctN p (gi p.bars f) (gi p.bars t) p.notes.length)) (ctN p (gi p.bars f) (gi p.bars t) p.notes.length).length,.lst 74 (cells (ctS p f t (ctS0 p f) p.sets.length)) (ctS p f t (ctS0 p f) p.sets.length).length]:=by
  show [FV.lst 3 (cells (ctB p f t)) (ctB p f t).length,_,_]=_
  rw [hBl]
  rfl
 rw [hBl] at hcb
 rw [hBe]
 have hS0:=ctS0_len p f
 refine VFun.enter (env_none (by decide)) Tryz.func22 rfl (by kernel_rfl) (by simp [Tryz.ntmps22]) ?_
 repeat' (first|(refine VOps.atOp 49 ?_;refine VOps.ghost (Ghost.freeze 48 rfl rfl) ?_)|apply VWp.assoc|apply VWp.rseq|apply VWp.skipSeq|apply VWp.blockSeq|apply VOps.nil|apply VOps.one|(apply VOps.take;rfl;rfl)|(apply VOps.guard;rfl;rfl)|(apply VVal.fn;rfl;rfl;exact ha;intro _;rfl)|(apply VVal.fn;rfl;rfl;exact hen;intro _;rfl)|(apply VVal.fv;rfl;rfl;exact hcb)|(apply VVal.sliceFT;rfl;rfl;rfl;rfl;rfl;rfl;rfl;omega)|(apply VVal.assign;rfl)|(apply VVal.move;rfl)|(apply VVal.add64;rfl;rfl;omega)|(apply VVal.sub64;rfl;rfl;omega)|(apply VVal.int;rfl;rfl;rfl)|(apply VVal.load;rfl;rfl)|(apply VVal.pick_false;rfl;rfl)|(apply VVal.lenF;rfl;rfl)|(apply VVal.fieldB;rfl;rfl;rfl)|(apply VVal.box;rfl;trivial)|(apply VVal.alloc;rfl)|(apply VVal.storeB;rfl;rfl;rfl;trivial;rfl;rfl;exact lt_dec rfl;exact le_dec rfl)|(apply VVal.build;rfl;rfl;rfl;rfl;rfl)|(apply VVal.extract;rfl;rfl)|(apply VWp.condSeq_false;rfl)|(apply VWp.condSeq_dec;rfl)|(intro _;try (exfalso;omega)))
 all_goals try (exfalso;omega)
 all_goals try contradiction
 refine VWp.ghost (Ghost.adoptCell 4 1 66 rfl rfl) ?_
 refine VWp.ghost (Ghost.adoptCell 4 2 74 rfl rfl) ?_
 have hNl:=ctN_len p (gi p.bars f) (gi p.bars t)
 apply VWp.loopR (p.notes.length) [(2,_),(3,_),(5,_),(8,_),(12,_),(13,_),(11,_),(56,_),(57,_)] [(1,_),(2,_),(6,_)] (fun k r=>(58,.p (.int .i64 (k:Int)))::r) (fun k r=>(5,.vec 66 (cells (ctN p (gi p.bars f) (gi p.bars t) k)) (ctN p (gi p.bars f) (gi p.bars t) k).length true)::(4,.box 45 [.p (.lst 3 (cells (ctB p f t)) (t+1-f)),.vec 5 (ctN p (gi p.bars f) (gi p.bars t) k).length 0 (ctN p (gi p.bars f) (gi p.bars t) k).length,.vec 6 0 0 0])::r) 7
 ·first|omega|decide
 ·first|omega|decide
 ·repeat (first|exact LCov.nil|(refine LCov.eq rfl ?_ ?_;(first|exact PV.under_of rfl|(simp [PV.under,PVs.under];done)))|refine LCov.cons trivial rfl (.of_eq (lst_len (by simp<;>omega))) ?_)
 ·repeat (first|exact HCov.nil|(refine HCov.eq rfl (lt_dec rfl) ?_ ?_;(first|exact HB.under_of rfl|exact PVs.under_pure _ _|(simp [HB.under,PVs.under,PV.under];done)))|(refine HCov.cons (lt_dec rfl) ?_ rfl ?_ ?_;(first|exact trivial|exact PVs.under_pure _ _|(simp [HB.under,PVs.under,PV.under]));(first|exact HLe.refl _|exact HLe.vec (FLes.refl _) (by simp))))
 ·intro k hk
  have hl:=hNl k
  have e1:ctN p (gi p.bars f) (gi p.bars t) (k+1)=if (gi p.notes k).s<gi p.bars t∧(gi p.notes k).e>gi p.bars f then ctN p (gi p.bars f) (gi p.bars t) k++[⟨max (gi p.notes k).s (gi p.bars f),min (gi p.notes k).e (gi p.bars t),(gi p.notes k).d,(gi p.notes k).k⟩] else ctN p (gi p.bars f) (gi p.bars t) k:=rfl
  by_cases c:(gi p.notes k).s<gi p.bars t∧(gi p.notes k).e>gi p.bars f
  ·rw [if_pos c] at e1
   have e2:(ctN p (gi p.bars f) (gi p.bars t) (k+1)).length=(ctN p (gi p.bars f) (gi p.bars t) k).length+1:=by rw [e1];simp
   repeat' (first|apply VWp.rseq|apply VWp.region|apply VWp.skipSeq|apply VWp.blockSeq|apply QSeq.normal|apply QBlk.normal|apply VOps.nil|apply VOps.one|(apply VOps.take;rfl;rfl)|(apply VOps.guard;rfl;rfl)|(apply VVal.append1 (a:=(⟨max (gi p.notes k).s (gi p.bars f),min (gi p.notes k).e (gi p.bars t),(gi p.notes k).d,(gi p.notes k).k⟩:Nte));rfl;rfl;rfl;rfl;rfl;rfl;rfl;rfl;(intro _ h;cases h);rfl;rfl;rfl;decide;decide;(first|omega|(simp only [List.length_take,List.length_drop,List.length_append,List.length_singleton,List.length_cons,List.length_nil]<;>omega)))|(apply VVal.move;rfl)|(apply VVal.add64;rfl;rfl;omega)|(apply VVal.int;rfl;rfl;rfl)|(apply VVal.indexN;rfl;rfl;rfl;omega;rfl)|(apply VVal.load;rfl;rfl)|(apply VVal.pick_true;rfl;rfl)|(apply VVal.fieldB;rfl;rfl;rfl)|(apply VVal.alloc;rfl)|(apply VVal.storeB;rfl;rfl;rfl;trivial;rfl;rfl;exact lt_dec rfl;exact le_dec rfl)|(apply VVal.buildSlice;rfl;rfl;rfl;decide;rfl;rfl;rfl)|(apply VVal.maxI;rfl;rfl)|(apply VVal.minI;rfl;rfl)|(apply VWp.condSeq_dec;rfl)|(apply VWp.cond_dec;rfl)|(intro _;try (exfalso;omega)))
   all_goals try (exfalso;omega)
   refine QLoop.normal ⟨by first|omega|decide,?_,?_⟩
   ·try (rw [e2,e1])
    repeat (first|exact LCov.nil|refine LCov.same trivial rfl ?_|refine LCov.same (lt_dec rfl) rfl ?_|refine LCov.same ⟨trivial,lt_dec rfl,trivial⟩ rfl ?_|refine LCov.same ⟨trivial,lt_dec rfl,lt_dec rfl,trivial⟩ rfl ?_|refine LCov.same ⟨trivial,lt_dec rfl,lt_dec rfl,lt_dec rfl,trivial⟩ rfl ?_|refine LCov.same ⟨trivial,lt_dec rfl,lt_dec rfl,lt_dec rfl,lt_dec rfl,trivial⟩ rfl ?_|refine LCov.same ⟨trivial,trivial⟩ rfl ?_|refine LCov.cons trivial rfl (.of_eq (lst_len (by simp<;>omega))) ?_)
   ·rw [e2,e1]
    repeat (first|exact HCov.nil|(refine HCov.cons (lt_dec rfl) ?_ rfl ?_ ?_;(first|exact HB.under_of rfl|exact PVs.under_pure _ _|(simp [HB.under,PVs.under,PV.under]));(first|exact HLe.refl _|exact HLe.vec (FLes.refl _) (by simp))))
  ·rw [if_neg c] at e1
   repeat' (first|apply VWp.rseq|apply VWp.region|apply VWp.skipSeq|apply VWp.blockSeq|apply QSeq.normal|apply QBlk.normal|apply VWp.skip|apply VOps.nil|apply VOps.one|(apply VOps.take;rfl;rfl)|(apply VOps.drop;rfl;rfl;rfl)|(apply VOps.guard;rfl;rfl)|(apply VVal.move;rfl)|(apply VVal.add64;rfl;rfl;omega)|(apply VVal.int;rfl;rfl;rfl)|(apply VVal.indexN;rfl;rfl;rfl;omega;rfl)|(apply VVal.load;rfl;rfl)|(apply VVal.pick_true;rfl;rfl)|(apply VVal.pick_false;rfl;rfl)|(apply VVal.fieldB;rfl;rfl;rfl)|(apply VVal.alloc;rfl)|(apply VVal.storeB;rfl;rfl;rfl;trivial;rfl;rfl;exact lt_dec rfl;exact le_dec rfl)|(apply VWp.condSeq_dec;rfl)|(apply VWp.cond_false;rfl)|(apply VWp.cond_dec;rfl)|(intro _;try (exfalso;omega)))
   all_goals try (exfalso;omega)
   all_goals
    refine QLoop.normal ⟨by first|omega|decide,?_,?_⟩
    ·try (rw [e1])
     repeat (first|exact LCov.nil|refine LCov.same trivial rfl ?_|refine LCov.same (lt_dec rfl) rfl ?_|refine LCov.same ⟨trivial,lt_dec rfl,trivial⟩ rfl ?_|refine LCov.same ⟨trivial,lt_dec rfl,lt_dec rfl,trivial⟩ rfl ?_|refine LCov.same ⟨trivial,lt_dec rfl,lt_dec rfl,lt_dec rfl,trivial⟩ rfl ?_|refine LCov.same ⟨trivial,lt_dec rfl,lt_dec rfl,lt_dec rfl,lt_dec rfl,trivial⟩ rfl ?_|refine LCov.same ⟨trivial,trivial⟩ rfl ?_|refine LCov.cons trivial rfl (.of_eq (lst_len (by simp<;>omega))) ?_)
    ·rw [e1]
     repeat (first|exact HCov.nil|(refine HCov.cons (lt_dec rfl) ?_ rfl ?_ ?_;(first|exact HB.under_of rfl|exact PVs.under_pure _ _|(simp [HB.under,PVs.under,PV.under]));(first|exact HLe.refl _|exact HLe.vec (FLes.refl _) (by simp))))
 ·have hl:=hNl p.notes.length
  by_cases c:0≤wan p (gi p.bars f)∧(gi p.sets (wan p (gi p.bars f)).toNat).bar<f
  ·have hS:ctS0 p f=[⟨0,(gi p.sets (wan p (gi p.bars f)).toNat).reg⟩]:=by unfold ctS0;rw [if_pos c]
   rw [hS]
   have hb:wan p (gi p.bars f)=((wan p (gi p.bars f)).toNat:Int):=by omega
   have hc0:=hcop (wan p (gi p.bars f)).toNat (by omega)
   repeat' (first|apply VWp.assoc|apply VWp.rseq|apply VWp.rseqD|apply VWp.exitSeq|apply VWp.blockSeq|apply QSeq.normal|apply QBlk.exit|apply QLoop.exit|apply VOps.nil|apply VOpsD.nil|apply VOps.one|(apply VOpsD.bar;decide +kernel)|apply VOpsD.quiet|(apply VOps.take;rfl;rfl)|(apply VOps.guard;rfl;rfl)|(apply VVal.fn;rfl;rfl;exact hw;intro _;rfl)|(apply VVal.fn;rfl;rfl;exact hc0;intro _;rfl)|(apply VVal.indexN (l:=p.sets) (i:=(wan p (gi p.bars f)).toNat);rfl;exact congrArg (fun b=>some (PV.p (.int .i64 b))) hb;rfl;omega;rfl)|(apply VVal.append1 (l:=[]) (a:=(⟨0,(gi p.sets (wan p (gi p.bars f)).toNat).reg⟩:Stg));rfl;rfl;rfl;rfl;rfl;rfl;rfl;rfl;(intro _ h;cases h);rfl;rfl;rfl;decide;decide;(first|omega|(simp only [List.length_take,List.length_drop,List.length_append,List.length_singleton,List.length_cons,List.length_nil]<;>omega)))|(apply VVal.assign;rfl)|(apply VVal.move;rfl)|(apply VVal.int;rfl;rfl;rfl)|(apply VVal.load;rfl;rfl)|(apply VVal.pick_true;rfl;rfl)|(apply VVal.lenF;rfl;rfl)|(apply VVal.fieldB;rfl;rfl;rfl)|(apply VVal.fieldF;rfl;rfl)|(apply VVal.storeB;rfl;rfl;rfl;trivial;rfl;rfl;exact lt_dec rfl;exact le_dec rfl)|(apply VVal.build;rfl;rfl;rfl;rfl;rfl)|(apply VVal.buildSlice;rfl;rfl;rfl;decide;rfl;rfl;rfl)|(apply VWp.condSeq_dec;rfl)|(intro _;try (exfalso;omega)))
   all_goals try (exfalso;omega)
   apply VWp.loopR (p.sets.length) [(2,_),(3,_),(5,_),(8,_),(11,_),(118,_),(119,_)] [(1,_),(2,_),(5,_)] (fun k r=>(120,.p (.int .i64 (k:Int)))::r) (fun k r=>(6,.vec 74 (cells (ctS p f t [⟨0,(gi p.sets (wan p (gi p.bars f)).toNat).reg⟩] k)) (ctS p f t [⟨0,(gi p.sets (wan p (gi p.bars f)).toNat).reg⟩] k).length true)::(4,.box 45 [.p (.lst 3 (cells (ctB p f t)) (t+1-f)),.vec 5 (ctN p (gi p.bars f) (gi p.bars t) p.notes.length).length 0 (ctN p (gi p.bars f) (gi p.bars t) p.notes.length).length,.vec 6 (ctS p f t [⟨0,(gi p.sets (wan p (gi p.bars f)).toNat).reg⟩] k).length 0 (ctS p f t [⟨0,(gi p.sets (wan p (gi p.bars f)).toNat).reg⟩] k).length])::r) 7
   ·first|omega|decide
   ·first|omega|decide
   ·repeat (first|exact LCov.nil|(refine LCov.eq rfl ?_ ?_;(first|exact PV.under_of rfl|(simp [PV.under,PVs.under];done)))|refine LCov.cons trivial rfl (.of_eq (lst_len (by simp<;>omega))) ?_)
   ·repeat (first|exact HCov.nil|(refine HCov.eq rfl (lt_dec rfl) ?_ ?_;(first|exact HB.under_of rfl|exact PVs.under_pure _ _|(simp [HB.under,PVs.under,PV.under];done)))|(refine HCov.cons (lt_dec rfl) ?_ rfl ?_ ?_;(first|exact trivial|exact PVs.under_pure _ _|(simp [HB.under,PVs.under,PV.under]));(first|exact HLe.refl _|exact HLe.vec (FLes.refl _) (by simp))))
   ·intro k hk
    have hl2:=ctS_len p f t [⟨0,(gi p.sets (wan p (gi p.bars f)).toNat).reg⟩] k
    have hl3:([⟨0,(gi p.sets (wan p (gi p.bars f)).toNat).reg⟩]:List Stg).length≤1:=by simp
    have e1:ctS p f t [⟨0,(gi p.sets (wan p (gi p.bars f)).toNat).reg⟩] (k+1)=if (gi p.sets k).bar≥f∧(gi p.sets k).bar<t then ctS p f t [⟨0,(gi p.sets (wan p (gi p.bars f)).toNat).reg⟩] k++[⟨(gi p.sets k).bar-f,(gi p.sets k).reg⟩] else ctS p f t [⟨0,(gi p.sets (wan p (gi p.bars f)).toNat).reg⟩] k:=rfl
    have hck:=hcop k hk
    have hsk:=(h.set k hk).1
    by_cases d:(gi p.sets k).bar≥f∧(gi p.sets k).bar<t
    ·rw [if_pos d] at e1
     have e2:(ctS p f t [⟨0,(gi p.sets (wan p (gi p.bars f)).toNat).reg⟩] (k+1)).length=(ctS p f t [⟨0,(gi p.sets (wan p (gi p.bars f)).toNat).reg⟩] k).length+1:=by rw [e1];simp
     repeat' (first|apply VWp.rseq|apply VWp.region|apply VWp.regionD|apply VWp.skipSeq|apply VWp.blockSeq|apply QSeq.normal|apply QBlk.normal|apply VOps.nil|apply VOpsD.nil|apply VOps.one|(apply VOpsD.bar;decide +kernel)|apply VOpsD.quiet|(apply VOps.take;rfl;rfl)|(apply VOps.guard;rfl;rfl)|(apply VVal.fn;rfl;rfl;exact hck;intro _;rfl)|(apply VVal.append1 (a:=(⟨(gi p.sets k).bar-f,(gi p.sets k).reg⟩:Stg));rfl;rfl;rfl;rfl;rfl;rfl;rfl;rfl;(intro _ h;cases h);rfl;rfl;rfl;decide;decide;(first|omega|(simp only [List.length_take,List.length_drop,List.length_append,List.length_singleton,List.length_cons,List.length_nil]<;>omega)))|(apply VVal.move;rfl)|(apply VVal.add64;rfl;rfl;omega)|(apply VVal.sub64;rfl;rfl;omega)|(apply VVal.int;rfl;rfl;rfl)|(apply VVal.indexN;rfl;rfl;rfl;omega;rfl)|(apply VVal.load;rfl;rfl)|(apply VVal.pick_true;rfl;rfl)|(apply VVal.fieldB;rfl;rfl;rfl)|(apply VVal.alloc;rfl)|(apply VVal.storeB;rfl;rfl;rfl;trivial;rfl;rfl;exact lt_dec rfl;exact le_dec rfl)|(apply VVal.build;rfl;rfl;rfl;rfl;rfl)|(apply VVal.buildSlice;rfl;rfl;rfl;decide;rfl;rfl;rfl)|(apply VWp.condSeq_dec;rfl)|(apply VWp.cond_dec;rfl)|(intro _;try (exfalso;omega)))
     all_goals try (exfalso;omega)
     refine QLoop.normal ⟨by first|omega|decide,?_,?_⟩
     ·try (rw [e2,e1])
      repeat (first|exact LCov.nil|refine LCov.same trivial rfl ?_|refine LCov.same (lt_dec rfl) rfl ?_|refine LCov.same ⟨trivial,lt_dec rfl,trivial⟩ rfl ?_|refine LCov.same ⟨trivial,lt_dec rfl,lt_dec rfl,trivial⟩ rfl ?_|refine LCov.same ⟨trivial,lt_dec rfl,lt_dec rfl,lt_dec rfl,trivial⟩ rfl ?_|refine LCov.same ⟨trivial,lt_dec rfl,lt_dec rfl,lt_dec rfl,lt_dec rfl,trivial⟩ rfl ?_|refine LCov.same ⟨trivial,trivial⟩ rfl ?_|refine LCov.cons trivial rfl (.of_eq (lst_len (by simp<;>omega))) ?_)
     ·rw [e2,e1]
      repeat (first|exact HCov.nil|(refine HCov.cons (lt_dec rfl) ?_ rfl ?_ ?_;(first|exact HB.under_of rfl|exact PVs.under_pure _ _|(simp [HB.under,PVs.under,PV.under]));(first|exact HLe.refl _|exact HLe.vec (FLes.refl _) (by simp))))
    ·rw [if_neg d] at e1
     repeat' (first|apply VWp.rseq|apply VWp.region|apply VWp.skipSeq|apply VWp.blockSeq|apply QSeq.normal|apply QBlk.normal|apply VWp.skip|apply VOps.nil|apply VOps.one|(apply VOps.take;rfl;rfl)|(apply VOps.drop;rfl;rfl;rfl)|(apply VOps.guard;rfl;rfl)|(apply VVal.move;rfl)|(apply VVal.add64;rfl;rfl;omega)|(apply VVal.int;rfl;rfl;rfl)|(apply VVal.indexN;rfl;rfl;rfl;omega;rfl)|(apply VVal.load;rfl;rfl)|(apply VVal.pick_true;rfl;rfl)|(apply VVal.pick_false;rfl;rfl)|(apply VVal.fieldB;rfl;rfl;rfl)|(apply VVal.alloc;rfl)|(apply VVal.storeB;rfl;rfl;rfl;trivial;rfl;rfl;exact lt_dec rfl;exact le_dec rfl)|(apply VWp.condSeq_dec;rfl)|(apply VWp.cond_false;rfl)|(apply VWp.cond_dec;rfl)|(intro _;try (exfalso;omega)))
     all_goals try (exfalso;omega)
     all_goals
      refine QLoop.normal ⟨by first|omega|decide,?_,?_⟩
      ·try (rw [e1])
       repeat (first|exact LCov.nil|refine LCov.same trivial rfl ?_|refine LCov.same (lt_dec rfl) rfl ?_|refine LCov.same ⟨trivial,lt_dec rfl,trivial⟩ rfl ?_|refine LCov.same ⟨trivial,lt_dec rfl,lt_dec rfl,trivial⟩ rfl ?_|refine LCov.same ⟨trivial,lt_dec rfl,lt_dec rfl,lt_dec rfl,trivial⟩ rfl ?_|refine LCov.same ⟨trivial,lt_dec rfl,lt_dec rfl,lt_dec rfl,lt_dec rfl,trivial⟩ rfl ?_|refine LCov.same ⟨trivial,trivial⟩ rfl ?_|refine LCov.cons trivial rfl (.of_eq (lst_len (by simp<;>omega))) ?_)
      ·rw [e1]
       repeat (first|exact HCov.nil|(refine HCov.cons (lt_dec rfl) ?_ rfl ?_ ?_;(first|exact HB.under_of rfl|exact PVs.under_pure _ _|(simp [HB.under,PVs.under,PV.under]));(first|exact HLe.refl _|exact HLe.vec (FLes.refl _) (by simp))))
   ·repeat' (first|(refine VWp.at 24 ?_;refine VWp.ghost (Ghost.trans (Ghost.freezeCell 4 1 rfl rfl rfl) (Ghost.freezeCell 4 2 rfl rfl rfl)) ?_;first|apply VWp.rseq|apply VWp.rseqD)|apply VWp.rseq|apply VWp.exitSeq|apply QSeq.normal|apply QBlk.exit|apply QLoop.exit|apply VWp.ret|apply VOps.nil|apply VOps.one|(apply VVal.assign;rfl)|(apply VVal.int;rfl;rfl;rfl)|(apply VVal.load;rfl;rfl)|(apply VVal.storeB;rfl;rfl;rfl;trivial;rfl;rfl;exact lt_dec rfl;exact le_dec rfl)|(apply VWp.condSeq_dec;rfl)|(intro _;try (exfalso;omega)))
    all_goals first|(exfalso;omega)|(refine Done.ret rfl (.refl _) (by first|exact trivial|exact ⟨trivial,trivial,trivial⟩|exact ⟨trivial,trivial,trivial,trivial⟩) HCov.nil (Nat.zero_le _) (Nat.le_refl _) ⟨?_,rfl,rfl⟩;try rfl)
  ·have hS:ctS0 p f=[]:=by unfold ctS0;rw [if_neg c]
   rw [hS]
   by_cases c2:0≤wan p (gi p.bars f)
   ·have hb:wan p (gi p.bars f)=((wan p (gi p.bars f)).toNat:Int):=by omega
    repeat' (first|apply VWp.assoc|apply VWp.rseq|apply VWp.skipSeq|apply VWp.exitSeq|apply VWp.blockSeq|apply QSeq.normal|apply QBlk.exit|apply QLoop.exit|apply VOps.nil|apply VOps.one|(apply VOps.take;rfl;rfl)|(apply VOps.guard;rfl;rfl)|(apply VVal.fn;rfl;rfl;exact hw;intro _;rfl)|(apply VVal.indexN (l:=p.sets) (i:=(wan p (gi p.bars f)).toNat);rfl;exact congrArg (fun b=>some (PV.p (.int .i64 b))) hb;rfl;omega;rfl)|(apply VVal.assign;rfl)|(apply VVal.move;rfl)|(apply VVal.int;rfl;rfl;rfl)|(apply VVal.load;rfl;rfl)|(apply VVal.pick_true;rfl;rfl)|(apply VVal.lenF;rfl;rfl)|(apply VVal.fieldB;rfl;rfl;rfl)|(apply VVal.fieldF;rfl;rfl)|(apply VWp.condSeq_dec;rfl)|(intro _;try (exfalso;omega)))
    all_goals try (exfalso;omega)
    apply VWp.loopR (p.sets.length) [(2,_),(3,_),(5,_),(8,_),(11,_),(118,_),(119,_)] [(1,_),(2,_),(5,_)] (fun k r=>(120,.p (.int .i64 (k:Int)))::r) (fun k r=>(6,.vec 74 (cells (ctS p f t [] k)) (ctS p f t [] k).length true)::(4,.box 45 [.p (.lst 3 (cells (ctB p f t)) (t+1-f)),.vec 5 (ctN p (gi p.bars f) (gi p.bars t) p.notes.length).length 0 (ctN p (gi p.bars f) (gi p.bars t) p.notes.length).length,.vec 6 (ctS p f t [] k).length 0 (ctS p f t [] k).length])::r) 7
    ·first|omega|decide
    ·first|omega|decide
    ·repeat (first|exact LCov.nil|(refine LCov.eq rfl ?_ ?_;(first|exact PV.under_of rfl|(simp [PV.under,PVs.under];done)))|refine LCov.cons trivial rfl (.of_eq (lst_len (by simp<;>omega))) ?_)
    ·repeat (first|exact HCov.nil|(refine HCov.eq rfl (lt_dec rfl) ?_ ?_;(first|exact HB.under_of rfl|exact PVs.under_pure _ _|(simp [HB.under,PVs.under,PV.under];done)))|(refine HCov.cons (lt_dec rfl) ?_ rfl ?_ ?_;(first|exact trivial|exact PVs.under_pure _ _|(simp [HB.under,PVs.under,PV.under]));(first|exact HLe.refl _|exact HLe.vec (FLes.refl _) (by simp))))
    ·intro k hk
     have hl2:=ctS_len p f t [] k
     have hl3:([]:List Stg).length≤1:=by simp
     have e1:ctS p f t [] (k+1)=if (gi p.sets k).bar≥f∧(gi p.sets k).bar<t then ctS p f t [] k++[⟨(gi p.sets k).bar-f,(gi p.sets k).reg⟩] else ctS p f t [] k:=rfl
     have hck:=hcop k hk
     have hsk:=(h.set k hk).1
     by_cases d:(gi p.sets k).bar≥f∧(gi p.sets k).bar<t
     ·rw [if_pos d] at e1
      have e2:(ctS p f t [] (k+1)).length=(ctS p f t [] k).length+1:=by rw [e1];simp
      repeat' (first|apply VWp.rseq|apply VWp.region|apply VWp.regionD|apply VWp.skipSeq|apply VWp.blockSeq|apply QSeq.normal|apply QBlk.normal|apply VOps.nil|apply VOpsD.nil|apply VOps.one|(apply VOpsD.bar;decide +kernel)|apply VOpsD.quiet|(apply VOps.take;rfl;rfl)|(apply VOps.guard;rfl;rfl)|(apply VVal.fn;rfl;rfl;exact hck;intro _;rfl)|(apply VVal.append1 (a:=(⟨(gi p.sets k).bar-f,(gi p.sets k).reg⟩:Stg));rfl;rfl;rfl;rfl;rfl;rfl;rfl;rfl;(intro _ h;cases h);rfl;rfl;rfl;decide;decide;(first|omega|(simp only [List.length_take,List.length_drop,List.length_append,List.length_singleton,List.length_cons,List.length_nil]<;>omega)))|(apply VVal.move;rfl)|(apply VVal.add64;rfl;rfl;omega)|(apply VVal.sub64;rfl;rfl;omega)|(apply VVal.int;rfl;rfl;rfl)|(apply VVal.indexN;rfl;rfl;rfl;omega;rfl)|(apply VVal.load;rfl;rfl)|(apply VVal.pick_true;rfl;rfl)|(apply VVal.fieldB;rfl;rfl;rfl)|(apply VVal.alloc;rfl)|(apply VVal.storeB;rfl;rfl;rfl;trivial;rfl;rfl;exact lt_dec rfl;exact le_dec rfl)|(apply VVal.build;rfl;rfl;rfl;rfl;rfl)|(apply VVal.buildSlice;rfl;rfl;rfl;decide;rfl;rfl;rfl)|(apply VWp.condSeq_dec;rfl)|(apply VWp.cond_dec;rfl)|(intro _;try (exfalso;omega)))
      all_goals try (exfalso;omega)
      refine QLoop.normal ⟨by first|omega|decide,?_,?_⟩
      ·try (rw [e2,e1])
       repeat (first|exact LCov.nil|refine LCov.same trivial rfl ?_|refine LCov.same (lt_dec rfl) rfl ?_|refine LCov.same ⟨trivial,lt_dec rfl,trivial⟩ rfl ?_|refine LCov.same ⟨trivial,lt_dec rfl,lt_dec rfl,trivial⟩ rfl ?_|refine LCov.same ⟨trivial,lt_dec rfl,lt_dec rfl,lt_dec rfl,trivial⟩ rfl ?_|refine LCov.same ⟨trivial,lt_dec rfl,lt_dec rfl,lt_dec rfl,lt_dec rfl,trivial⟩ rfl ?_|refine LCov.same ⟨trivial,trivial⟩ rfl ?_|refine LCov.cons trivial rfl (.of_eq (lst_len (by simp<;>omega))) ?_)
      ·rw [e2,e1]
       repeat (first|exact HCov.nil|(refine HCov.cons (lt_dec rfl) ?_ rfl ?_ ?_;(first|exact HB.under_of rfl|exact PVs.under_pure _ _|(simp [HB.under,PVs.under,PV.under]));(first|exact HLe.refl _|exact HLe.vec (FLes.refl _) (by simp))))
     ·rw [if_neg d] at e1
      repeat' (first|apply VWp.rseq|apply VWp.region|apply VWp.skipSeq|apply VWp.blockSeq|apply QSeq.normal|apply QBlk.normal|apply VWp.skip|apply VOps.nil|apply VOps.one|(apply VOps.take;rfl;rfl)|(apply VOps.drop;rfl;rfl;rfl)|(apply VOps.guard;rfl;rfl)|(apply VVal.move;rfl)|(apply VVal.add64;rfl;rfl;omega)|(apply VVal.int;rfl;rfl;rfl)|(apply VVal.indexN;rfl;rfl;rfl;omega;rfl)|(apply VVal.load;rfl;rfl)|(apply VVal.pick_true;rfl;rfl)|(apply VVal.pick_false;rfl;rfl)|(apply VVal.fieldB;rfl;rfl;rfl)|(apply VVal.alloc;rfl)|(apply VVal.storeB;rfl;rfl;rfl;trivial;rfl;rfl;exact lt_dec rfl;exact le_dec rfl)|(apply VWp.condSeq_dec;rfl)|(apply VWp.cond_false;rfl)|(apply VWp.cond_dec;rfl)|(intro _;try (exfalso;omega)))
      all_goals try (exfalso;omega)
      all_goals
       refine QLoop.normal ⟨by first|omega|decide,?_,?_⟩
       ·try (rw [e1])
        repeat (first|exact LCov.nil|refine LCov.same trivial rfl ?_|refine LCov.same (lt_dec rfl) rfl ?_|refine LCov.same ⟨trivial,lt_dec rfl,trivial⟩ rfl ?_|refine LCov.same ⟨trivial,lt_dec rfl,lt_dec rfl,trivial⟩ rfl ?_|refine LCov.same ⟨trivial,lt_dec rfl,lt_dec rfl,lt_dec rfl,trivial⟩ rfl ?_|refine LCov.same ⟨trivial,lt_dec rfl,lt_dec rfl,lt_dec rfl,lt_dec rfl,trivial⟩ rfl ?_|refine LCov.same ⟨trivial,trivial⟩ rfl ?_|refine LCov.cons trivial rfl (.of_eq (lst_len (by simp<;>omega))) ?_)
       ·rw [e1]
        repeat (first|exact HCov.nil|(refine HCov.cons (lt_dec rfl) ?_ rfl ?_ ?_;(first|exact HB.under_of rfl|exact PVs.under_pure _ _|(simp [HB.under,PVs.under,PV.under]));(first|exact HLe.refl _|exact HLe.vec (FLes.refl _) (by simp))))
    ·repeat' (first|(refine VWp.at 24 ?_;refine VWp.ghost (Ghost.trans (Ghost.freezeCell 4 1 rfl rfl rfl) (Ghost.freezeCell 4 2 rfl rfl rfl)) ?_;first|apply VWp.rseq|apply VWp.rseqD)|apply VWp.rseq|apply VWp.exitSeq|apply QSeq.normal|apply QBlk.exit|apply QLoop.exit|apply VWp.ret|apply VOps.nil|apply VOps.one|(apply VVal.assign;rfl)|(apply VVal.int;rfl;rfl;rfl)|(apply VVal.load;rfl;rfl)|(apply VVal.storeB;rfl;rfl;rfl;trivial;rfl;rfl;exact lt_dec rfl;exact le_dec rfl)|(apply VWp.condSeq_dec;rfl)|(intro _;try (exfalso;omega)))
     all_goals first|(exfalso;omega)|(refine Done.ret rfl (.refl _) (by first|exact trivial|exact ⟨trivial,trivial,trivial⟩|exact ⟨trivial,trivial,trivial,trivial⟩) HCov.nil (Nat.zero_le _) (Nat.le_refl _) ⟨?_,rfl,rfl⟩;try rfl)
   ·repeat' (first|apply VWp.assoc|apply VWp.rseq|apply VWp.skipSeq|apply VWp.exitSeq|apply VWp.blockSeq|apply QSeq.normal|apply QBlk.exit|apply QLoop.exit|apply VOps.nil|apply VOps.one|(apply VOps.drop;rfl;rfl;rfl)|(apply VOps.guard;rfl;rfl)|(apply VVal.fn;rfl;rfl;exact hw;intro _;rfl)|(apply VVal.assign;rfl)|(apply VVal.move;rfl)|(apply VVal.int;rfl;rfl;rfl)|(apply VVal.load;rfl;rfl)|(apply VVal.pick_false;rfl;rfl)|(apply VVal.lenF;rfl;rfl)|(apply VVal.fieldB;rfl;rfl;rfl)|(apply VWp.condSeq_false;rfl)|(apply VWp.condSeq_dec;rfl)|(intro _;try (exfalso;omega)))
    all_goals try (exfalso;omega)
    apply VWp.loopR (p.sets.length) [(2,_),(3,_),(5,_),(8,_),(11,_),(118,_),(119,_)] [(1,_),(2,_),(5,_)] (fun k r=>(120,.p (.int .i64 (k:Int)))::r) (fun k r=>(6,.vec 74 (cells (ctS p f t [] k)) (ctS p f t [] k).length true)::(4,.box 45 [.p (.lst 3 (cells (ctB p f t)) (t+1-f)),.vec 5 (ctN p (gi p.bars f) (gi p.bars t) p.notes.length).length 0 (ctN p (gi p.bars f) (gi p.bars t) p.notes.length).length,.vec 6 (ctS p f t [] k).length 0 (ctS p f t [] k).length])::r) 7
    ·first|omega|decide
    ·first|omega|decide
    ·repeat (first|exact LCov.nil|(refine LCov.eq rfl ?_ ?_;(first|exact PV.under_of rfl|(simp [PV.under,PVs.under];done)))|refine LCov.cons trivial rfl (.of_eq (lst_len (by simp<;>omega))) ?_)
    ·repeat (first|exact HCov.nil|(refine HCov.eq rfl (lt_dec rfl) ?_ ?_;(first|exact HB.under_of rfl|exact PVs.under_pure _ _|(simp [HB.under,PVs.under,PV.under];done)))|(refine HCov.cons (lt_dec rfl) ?_ rfl ?_ ?_;(first|exact trivial|exact PVs.under_pure _ _|(simp [HB.under,PVs.under,PV.under]));(first|exact HLe.refl _|exact HLe.vec (FLes.refl _) (by simp))))
    ·intro k hk
     have hl2:=ctS_len p f t [] k
     have hl3:([]:List Stg).length≤1:=by simp
     have e1:ctS p f t [] (k+1)=if (gi p.sets k).bar≥f∧(gi p.sets k).bar<t then ctS p f t [] k++[⟨(gi p.sets k).bar-f,(gi p.sets k).reg⟩] else ctS p f t [] k:=rfl
     have hck:=hcop k hk
     have hsk:=(h.set k hk).1
     by_cases d:(gi p.sets k).bar≥f∧(gi p.sets k).bar<t
     ·rw [if_pos d] at e1
      have e2:(ctS p f t [] (k+1)).length=(ctS p f t [] k).length+1:=by rw [e1];simp
      repeat' (first|apply VWp.rseq|apply VWp.region|apply VWp.regionD|apply VWp.skipSeq|apply VWp.blockSeq|apply QSeq.normal|apply QBlk.normal|apply VOps.nil|apply VOpsD.nil|apply VOps.one|(apply VOpsD.bar;decide +kernel)|apply VOpsD.quiet|(apply VOps.take;rfl;rfl)|(apply VOps.guard;rfl;rfl)|(apply VVal.fn;rfl;rfl;exact hck;intro _;rfl)|(apply VVal.append1 (a:=(⟨(gi p.sets k).bar-f,(gi p.sets k).reg⟩:Stg));rfl;rfl;rfl;rfl;rfl;rfl;rfl;rfl;(intro _ h;cases h);rfl;rfl;rfl;decide;decide;(first|omega|(simp only [List.length_take,List.length_drop,List.length_append,List.length_singleton,List.length_cons,List.length_nil]<;>omega)))|(apply VVal.move;rfl)|(apply VVal.add64;rfl;rfl;omega)|(apply VVal.sub64;rfl;rfl;omega)|(apply VVal.int;rfl;rfl;rfl)|(apply VVal.indexN;rfl;rfl;rfl;omega;rfl)|(apply VVal.load;rfl;rfl)|(apply VVal.pick_true;rfl;rfl)|(apply VVal.fieldB;rfl;rfl;rfl)|(apply VVal.alloc;rfl)|(apply VVal.storeB;rfl;rfl;rfl;trivial;rfl;rfl;exact lt_dec rfl;exact le_dec rfl)|(apply VVal.build;rfl;rfl;rfl;rfl;rfl)|(apply VVal.buildSlice;rfl;rfl;rfl;decide;rfl;rfl;rfl)|(apply VWp.condSeq_dec;rfl)|(apply VWp.cond_dec;rfl)|(intro _;try (exfalso;omega)))
      all_goals try (exfalso;omega)
      refine QLoop.normal ⟨by first|omega|decide,?_,?_⟩
      ·try (rw [e2,e1])
       repeat (first|exact LCov.nil|refine LCov.same trivial rfl ?_|refine LCov.same (lt_dec rfl) rfl ?_|refine LCov.same ⟨trivial,lt_dec rfl,trivial⟩ rfl ?_|refine LCov.same ⟨trivial,lt_dec rfl,lt_dec rfl,trivial⟩ rfl ?_|refine LCov.same ⟨trivial,lt_dec rfl,lt_dec rfl,lt_dec rfl,trivial⟩ rfl ?_|refine LCov.same ⟨trivial,lt_dec rfl,lt_dec rfl,lt_dec rfl,lt_dec rfl,trivial⟩ rfl ?_|refine LCov.same ⟨trivial,trivial⟩ rfl ?_|refine LCov.cons trivial rfl (.of_eq (lst_len (by simp<;>omega))) ?_)
      ·rw [e2,e1]
       repeat (first|exact HCov.nil|(refine HCov.cons (lt_dec rfl) ?_ rfl ?_ ?_;(first|exact HB.under_of rfl|exact PVs.under_pure _ _|(simp [HB.under,PVs.under,PV.under]));(first|exact HLe.refl _|exact HLe.vec (FLes.refl _) (by simp))))
     ·rw [if_neg d] at e1
      repeat' (first|apply VWp.rseq|apply VWp.region|apply VWp.skipSeq|apply VWp.blockSeq|apply QSeq.normal|apply QBlk.normal|apply VWp.skip|apply VOps.nil|apply VOps.one|(apply VOps.take;rfl;rfl)|(apply VOps.drop;rfl;rfl;rfl)|(apply VOps.guard;rfl;rfl)|(apply VVal.move;rfl)|(apply VVal.add64;rfl;rfl;omega)|(apply VVal.int;rfl;rfl;rfl)|(apply VVal.indexN;rfl;rfl;rfl;omega;rfl)|(apply VVal.load;rfl;rfl)|(apply VVal.pick_true;rfl;rfl)|(apply VVal.pick_false;rfl;rfl)|(apply VVal.fieldB;rfl;rfl;rfl)|(apply VVal.alloc;rfl)|(apply VVal.storeB;rfl;rfl;rfl;trivial;rfl;rfl;exact lt_dec rfl;exact le_dec rfl)|(apply VWp.condSeq_dec;rfl)|(apply VWp.cond_false;rfl)|(apply VWp.cond_dec;rfl)|(intro _;try (exfalso;omega)))
      all_goals try (exfalso;omega)
      all_goals
       refine QLoop.normal ⟨by first|omega|decide,?_,?_⟩
       ·try (rw [e1])
        repeat (first|exact LCov.nil|refine LCov.same trivial rfl ?_|refine LCov.same (lt_dec rfl) rfl ?_|refine LCov.same ⟨trivial,lt_dec rfl,trivial⟩ rfl ?_|refine LCov.same ⟨trivial,lt_dec rfl,lt_dec rfl,trivial⟩ rfl ?_|refine LCov.same ⟨trivial,lt_dec rfl,lt_dec rfl,lt_dec rfl,trivial⟩ rfl ?_|refine LCov.same ⟨trivial,lt_dec rfl,lt_dec rfl,lt_dec rfl,lt_dec rfl,trivial⟩ rfl ?_|refine LCov.same ⟨trivial,trivial⟩ rfl ?_|refine LCov.cons trivial rfl (.of_eq (lst_len (by simp<;>omega))) ?_)
       ·rw [e1]
        repeat (first|exact HCov.nil|(refine HCov.cons (lt_dec rfl) ?_ rfl ?_ ?_;(first|exact HB.under_of rfl|exact PVs.under_pure _ _|(simp [HB.under,PVs.under,PV.under]));(first|exact HLe.refl _|exact HLe.vec (FLes.refl _) (by simp))))
    ·repeat' (first|(refine VWp.at 24 ?_;refine VWp.ghost (Ghost.trans (Ghost.freezeCell 4 1 rfl rfl rfl) (Ghost.freezeCell 4 2 rfl rfl rfl)) ?_;first|apply VWp.rseq|apply VWp.rseqD)|apply VWp.rseq|apply VWp.exitSeq|apply QSeq.normal|apply QBlk.exit|apply QLoop.exit|apply VWp.ret|apply VOps.nil|apply VOps.one|(apply VVal.assign;rfl)|(apply VVal.int;rfl;rfl;rfl)|(apply VVal.load;rfl;rfl)|(apply VVal.storeB;rfl;rfl;rfl;trivial;rfl;rfl;exact lt_dec rfl;exact le_dec rfl)|(apply VWp.condSeq_dec;rfl)|(intro _;try (exfalso;omega)))
     all_goals first|(exfalso;omega)|(refine Done.ret rfl (.refl _) (by first|exact trivial|exact ⟨trivial,trivial,trivial⟩|exact ⟨trivial,trivial,trivial,trivial⟩) HCov.nil (Nat.zero_le _) (Nat.le_refl _) ⟨?_,rfl,rfl⟩;try rfl)
end Go.Proofs.YtnhdddmhkhdlhaaGreatDoor
namespace Go.Vm
open Go.Am
variable {E:Env} {L:Frame} {H:Heap} {nx:Nat}
section
variable {Q:PV→Heap→Nat→Prop} {w:Bool} {dst:Option Tmp} {ty:TypeId} {pos:String} {af:Array Edge} {gd:Option (Nat×Bool)}
end
end Go.Vm
namespace Go.Vm
open Go.Am
section
variable {E:Env} {L:Frame} {H:Heap} {nx:Nat} {Q:PV→Heap→Nat→Prop} {w:Bool}
variable {dst:Option Tmp} {ty:TypeId} {pos:String} {af:Array Edge} {gd:Option (Nat×Bool)}
variable {bn:Nat} {ops:Array Oper} {op:Op} {l:List Oper} {i:Nat} {R:Frame→Heap→Nat→Prop}
def VOpsDt (E:Env) (bn d:Nat) (ops:Array Oper) (i:Nat) (l:List Oper) (L:Frame) (H:Heap) (nx:Nat) (Q:Frame→Heap→Nat→Prop):Prop :=
 ∀ (B:Base),B.nx=bn→∀ m F σ t,Ctx E.Γ m F σ H nx→RL m F (htag H) σ nx L t→tget t d=.slice emptyAt 0 0→B.to m F σ H nx →
  AOpsD E.P E.O E.G ops i l ⟨t,m⟩ fun s'=>∃ L' H' nx' F' σ',Q L' H' nx'∧Ctx E.Γ s'.m F' σ' H' nx'∧RL s'.m F' (htag H') σ' nx' L' s'.t∧B.to s'.m F' σ' H' nx'
end
end Go.Vm
namespace Go.Proofs.YtnhdddmhkhdlhaaGreatDoor
open Go Go.Am Go.Vm Go.Pie
attribute [local irreducible] VVal VOps VOpsD VWp VCalls VFun VFunV QSeq QBlk QLoop Vm.Done DoneV DoneI
attribute [local irreducible] rchk windsE stoE dvsE cplE shiftR tailH
def lkF (p:Pce) (L:List Int) (k d:Nat):Nts:=ofK (kdK p L d k) (kdK p L d k).length
end Go.Proofs.YtnhdddmhkhdlhaaGreatDoor
namespace Go.Proofs.YtnhdddmhkhdlhaaGreatDoor
open Go Go.Am Go.Vm Go.Pie
attribute [local irreducible] VVal VOps VOpsD VWp VCalls VFun VFunV QSeq QBlk QLoop Vm.Done DoneV DoneI
attribute [local irreducible] rchk windsE stoE dvsE cplE shiftR tailH
noncomputable instance (a b:Rgs):Decidable (a=b):=Classical.propDecidable _
noncomputable instance (a b:Stg):Decidable (a=b):=Classical.propDecidable _
noncomputable instance (a b:Pce):Decidable (a=b):=Classical.propDecidable _
end Go.Proofs.YtnhdddmhkhdlhaaGreatDoor
namespace Go.Vm
open Go.Am
variable {E:Env} {L:Frame} {H:Heap} {nx:Nat} {Q:PV→Heap→Nat→Prop} {w:Bool}
variable {dst:Option Tmp} {ty:TypeId} {pos:String} {af:Array Edge} {gd:Option (Nat×Bool)}
theorem VVal.sliceV {t:TypeId} {x:Operand} {lo hi:Option Operand} {e:TypeId} {cs:List FV} {b n off len a c sz:Nat} {z:Bool} {inf:TypeInfo} (hx:vev E.Γ L x=some (.vec b n off len)) (hb:hget H b=some (.vec e cs n z)) (hn:0<n) (ht:E.P.underlying t=some (.slice e)) (hi':E.P.info? e=some inf) (hsz:inf.size=sz)
 (hlo:match lo with|none=>a=0|some o=>∃ k,vev E.Γ L o=some (.p (.int k (a:Int)))) (hhi:match hi with|none=>c=len|some o=>∃ k,vev E.Γ L o=some (.p (.int k (c:Int)))) (hac:a≤c) (hcl:c≤len)
 (q:Q (.vec b n (off+a*sz) (c-a)) H nx):VVal E w ⟨dst,.slice t x lo hi none,ty,pos,af,gd⟩ L H nx Q :=
 VVal.quiet q fun m F σ tt h1 h2=>by
  have hblo:bnd 0 (lo.map (ev tt))=some a:=by
   cases lo with
   |none=>simp only at hlo;rw [hlo];rfl
   |some o =>
    obtain ⟨k,hk⟩:=hlo
    simp only [Option.map_some,vev_int h1 h2 hk,bnd]
    rw [if_pos (by omega)];simp
  have hbhi:bnd len (hi.map (ev tt))=some c:=by
   cases hi with
   |none=>simp only at hhi;rw [hhi];rfl
   |some o =>
    obtain ⟨k,hk⟩:=hhi
    simp only [Option.map_some,vev_int h1 h2 hk,bnd]
    rw [if_pos (by omega)];simp
  have hsub:=vev_vec h1 h2 hx hb
  obtain ⟨hlt,hr⟩:=h1.hp b _ hb
  rcases hr with ⟨r1,r2,r3⟩|⟨d,g,vs,r1,r2,r3,r4,r5,r6,r7⟩
  ·omega
  rw [r1] at hsub
  simp only [SubOf] at hsub
  refine ⟨.slice (some ⟨d,off+a*sz,none⟩) (c-a) g,fun _=>?_,.vec hlt rfl fun j hj=>?_⟩
  ·simp only [aval,aop,hsub,aslice,Option.isSome_none,Option.map_none,Bool.false_and,Bool.false_eq_true,if_false,ht,hi',hblo,hbhi,r4,hac,hcl,r2,and_self,if_true,Option.map_some,hsz]
  ·simp only [htag,hb,HB.tag,Option.map_some,Option.some.injEq,Tg.vec.injEq] at hj
   refine ⟨by omega,fun _=>?_⟩
   rw [r1];rfl
theorem put_cells {m:Mem} {F:Nat→Prop} {σ:Nat→Value} {b n off c g:Nat} {e:TypeId} {cs fs:List FV} {vs l:List Value} {z:Bool} (h1:Ctx E.Γ m F σ H nx) (hb:hget H b=some (.vec e cs n z)) (hn:0<n) (h4:σ b=.slice (some ⟨c,0,none⟩) n g) (r2:c<m.size) (r3:¬ F c) (r4:m.get c=.cells vs e g false) (r5:RFs m F cs vs) (r6:vs.all isCell=true)
 (hl:RFs m F fs l) (hc:l.all isCell=true) :
 Ctx E.Γ (m.put c (.cells (splice vs off l) e g false)) F (upd σ b (σ b)) (hput H b (.vec e (psplice cs off fs) n z)) nx∧Step m F σ H nx (m.put c (.cells (splice vs off l) e g false)) F (upd σ b (σ b)) (hput H b (.vec e (psplice cs off fs) n z)) nx:=by
 have hput':∀ d,c≠d→(m.put c (.cells (splice vs off l) e g false)).get d=m.get d:=fun d hd=>by rw [Mem.get_put,if_neg hd]
 exact h1.change (m':=m.put c (.cells (splice vs off l) e g false)) (x':=.vec e (psplice cs off fs) n z) (s':=σ b) hb (Nat.le_refl _) (fun _=>rfl) (Nat.le_refl _)
  (fun d _ hd=>hput' d fun e=>hd (by rw [h4,e];rfl)) (fun k k1 k2 k3=>by
   have:=k3 c (by rw [h4];rfl)
   simp only [Mem.put];omega) (fun d hd=>.inl hd) (by
   refine .inr ⟨c,g,splice vs off l,h4,r2,r3,by rw [Mem.get_put,if_pos rfl],?_,all_splice _ r6 hc,fun h=>by omega⟩
   exact (RFs.splice off r5 hl).mono (fun d hd=>⟨hd,hput' d fun e=>r3 (e▸hd)⟩))
def SlT (Γ:Nat→Option (List Value×TypeId)) (L:Frame) (H:Heap) (nx:Nat) (x:Operand) (sz n:Nat) (xs:List FV) (k:Nat):Prop :=
 ∀ m F σ t,Ctx Γ m F σ H nx→RL m F (htag H) σ nx L t→lenOf (ev t x)=some n∧∃ l,sliceCells m sz k (ev t x)=some l∧RFs m F xs l∧l.all isCell=true
theorem SlT.lst {Γ:Nat→Option (List Value×TypeId)} {x:Operand} {e:TypeId} {sz n k:Nat} {xs ys:List FV} (h:vev Γ L x=some (.p (.lst e xs n))) (hl:xs.length=n*sz) (hk:k≤n) (hy:ys=xs.take (k*sz)):SlT Γ L H nx x sz n ys k:=fun m F σ t h1 h2=>by
 subst hy
 have:=vev_rel h1 h2 h
 generalize ev t x=v at this
 cases this with
 |p h =>
  cases h with
  |nil=>obtain rfl:k=0:=by omega
        exact ⟨rfl,[],rfl,by rw [Nat.zero_mul,List.take_zero];exact .nil,rfl⟩
  |room=>obtain rfl:k=0:=by omega
         exact ⟨rfl,[],rfl,by rw [Nat.zero_mul,List.take_zero];exact .nil,rfl⟩
  |lst hF hm hw hr hc =>
   rename_i b o g vs ws ro
   refine ⟨rfl,ws.take (k*sz),?_,RFs.take _ hr,all_take hc _⟩
   have h3:=takeN_take (k:=k*sz) hw
   rw [hl,Nat.min_eq_left (Nat.mul_le_mul_right sz hk)] at h3
   simp only [sliceCells,if_pos hk,Mem.cellsAt,hm]
   simp only [agen,Option.getD_some,if_true]
   exact h3
theorem SlT.vec {Γ:Nat→Option (List Value×TypeId)} {x:Operand} {b n off len sz k:Nat} {e:TypeId} {cs ys:List FV} {z:Bool} (h:vev Γ L x=some (.vec b n off len)) (hb:hget H b=some (.vec e cs n z)) (hn:0<n) (hl:off+len*sz≤cs.length) (hk:k≤len) (hy:ys=(cs.drop off).take (k*sz)) :
 SlT Γ L H nx x sz len ys k:=fun m F σ t h1 h2=>by
 subst hy
 have hsub:=vev_vec h1 h2 h hb
 obtain ⟨_,hr⟩:=h1.hp b _ hb
 rcases hr with ⟨r1,r2,r3⟩|⟨c,g,vs,r1,r2,r3,r4,r5,r6,r7⟩
 ·omega
 ·rw [r1] at hsub
  simp only [SubOf] at hsub
  rw [hsub]
  have hlen:=r5.length
  have h0:=Nat.mul_le_mul_right sz hk
  have hle:k*sz≤(vs.drop off).length:=by rw [List.length_drop];omega
  refine ⟨rfl,(vs.drop off).take (k*sz),?_,RFs.take _ (RFs.drop off r5),all_take (all_drop r6 _) _⟩
  simp only [sliceCells,if_pos hk,Mem.cellsAt,r4]
  simp only [agen,Option.getD_some,if_true,takeN,if_pos hle]
theorem VVal.copy {d x:Operand} {dT xT e:TypeId} {i:TypeInfo} {b n off len k N:Nat} {cs xs:List FV} {z:Bool} (hd:vev E.Γ L d=some (.vec b n off len)) (hb:hget H b=some (.vec e cs n z)) (hn:0<n)
 (hdT:E.P.underlying dT=some (.slice e)) (hi:E.P.info? e=some i) (hsz:0<i.size) (hx:SlT E.Γ L H nx x i.size N xs k) (hk:k=min N len) (h0:0<k) (hxs:xs.length=k*i.size) (hl:off+k*i.size≤cs.length) (q:Q (.p (.int .i64 (k:Int))) (hput H b (.vec e (psplice cs off xs) n z)) nx) :
 VVal E true ⟨dst,.call { callee:=.builtin .copy,args:=#[d,x],argTypes:=#[dT,xT] },ty,pos,af,gd⟩ L H nx Q:=by
 intro m F σ t h1 h2
 have hsub:=vev_vec h1 h2 hd hb
 obtain ⟨hx1,l,hx2,hx3,hx4⟩:=hx m F σ t h1 h2
 obtain ⟨hlt,hr⟩:=h1.hp b _ hb
 rcases hr with ⟨r1,r2,r3⟩|⟨c,g,vs,r1,r2,r3,r4,r5,r6,r7⟩
 ·omega
 rw [r1] at hsub
 simp only [SubOf] at hsub
 have hlen:=hx3.length
 have hlen2:=r5.length
 obtain ⟨d1,d2⟩:=put_cells (E:=E) (off:=off) h1 hb hn r1 r2 r3 r4 r5 r6 hx3 hx4
 refine AVal.op (v:=.int .i64 (k:Int)) (m':=m.put c (.cells (splice vs off l) e g false)) (fun _=>?_) ⟨_,_,_,F,_,q,d1,.p (.int _ _),d2,fun h=>by cases h⟩
 have hk2:(k:Nat)=Nat.min N len:=hk
 have hp:=Nat.mul_pos h0 hsz
 simp only [aval,aop,acopy,List.map_toArray,List.map_cons,List.map_nil,List.getElem?_toArray,List.getElem?_cons_zero,List.getElem?_cons_succ,hsub,hdT,hx1,hi]
 rw [← hk2,if_neg (by omega),hx2]
 simp only [storeRow,r4,agen,Option.getD_some,beq_self_eq_true,Bool.true_and]
 rw [if_pos (by simp only [Bool.and_eq_true,decide_eq_true_eq];exact ⟨⟨by rw [← hlen,hxs,← hlen2];exact ⟨trivial,hl⟩,by rw [← hlen,hxs];exact hp⟩,hx4⟩)]
 rfl
def leftReg:Code→Option Nat
 | .region n _ _=>some n
 | .seq a b=>match leftReg a with
  |some n=>some n
  |none=>leftReg b
 | .block _ b=>leftReg b
 | .loop b=>leftReg b
 | .scope b=>leftReg b
 |_=>none
def loopAt (r:Nat):Code→Option Code
 | .loop b=>match leftReg b with
  |some n=>match Nat.beq n r with
   |true=>some (.loop b)
   |false=>loopAt r b
  |none=>loopAt r b
 | .seq a b=>match loopAt r a with
  |some c=>some c
  |none=>loopAt r b
 | .cond _ a b=>match loopAt r a with
  |some c=>some c
  |none=>loopAt r b
 | .block _ b=>loopAt r b
 | .scope b=>loopAt r b
 | .rangeFunc _ _ _ b=>loopAt r b
 |_=>none
def loopOf (fn:Func) (r:Nat):Code:=match fn.body with
 |some c=>match loopAt r c with
  |some c=>c
  |none=>.skip
 |none=>.skip
theorem psplice_eq {α:Type}:∀ (r cs:List α) (o:Nat),o+r.length≤cs.length→psplice cs o r=cs.take o++r++cs.drop (o+r.length)
 |[],cs,o,h=>by simp [psplice]
 |a::r,cs,o,h=>by
  simp only [List.length_cons] at h
  have ih:=psplice_eq r (cs.set o a) (o+1) (by simp;omega)
  simp only [psplice]
  rw [ih]
  have e1:(cs.set o a).take (o+1)=cs.take o++[a]:=by
   rw [List.take_succ_eq_append_getElem (by simp;omega)]
   rw [List.take_set_of_le (by omega)]
   simp
  have e2:(cs.set o a).drop (o+1+r.length)=cs.drop (o+(r.length+1)):=by
   rw [List.drop_set_of_lt (by omega)]
   congr 1
   omega
  rw [e1,e2]
  simp [Nat.add_assoc]
theorem psplice_many {α:Type} [Enc α] (l r:List α) (i:Nat) (h:i+r.length≤l.length):psplice (cells l) (i*Enc.size α) (cells r)=cells (l.take i++r++l.drop (i+r.length)):=by
 rw [psplice_eq _ _ _ (by rw [cells_length,cells_length,← Nat.add_mul];exact Nat.mul_le_mul_right _ h),cells_length,← Nat.add_mul,cells_take,cells_drop',← cells_append,← cells_append]
end Go.Vm
namespace Go.Proofs.YtnhdddmhkhdlhaaGreatDoor
open Go Go.Am Go.Vm
instance encLI:Enc (List Int):={ default:=[],enc:=fun l=>[.lst 3 (cells l) l.length],size:=1,len:=fun _=>rfl }
attribute [local irreducible] VVal VOps VOpsD VWp VCalls VFun VFunV QSeq QBlk QLoop Vm.Done DoneV DoneI
theorem bmul64_spec (n:Nat) (hn:n<4294967296):VFun env 136 [.int .u64 1,.int .u64 (n:Int)] (.tup [.p (.int .u64 0),.p (.int .u64 (n:Int))]):=by
 have e1:n &&& 4294967295=n:=by
  have:=Nat.and_two_pow_sub_one_eq_mod n 32
  rw [show (2 ^ 32-1:Nat)=4294967295 from rfl] at this
  rw [this]
  exact Nat.mod_eq_of_lt (by simpa using hn)
 have hA1:vint .and .u64 (n:Int) 4294967295=some (.int .u64 (n:Int)):=by
  have h0:=bits_and_u64_nat n 4294967295 (by omega) (by omega)
  rw [e1] at h0
  exact congrArg (fun x=>some (FV.int .u64 x)) h0
 have hA2:vint .mul .u64 1 (n:Int)=some (.int .u64 (n:Int)):=by
  simp only [vint,Int.one_mul];rw [wrap_u64 (by omega) (by omega)]
 have hZ:vint .mul .u64 0 (n:Int)=some (.int .u64 0):=by
  simp only [vint,Int.zero_mul];rfl
 have hS:∀ a:Int,0≤a→a<4294967296→(FV.int .u64 0)=if BinOp.shr=.shl then FV.int .u64 (IntKind.u64.wrap (a*2 ^ (min (32:Int).toNat IntKind.u64.bits))) else .int .u64 (a.fdiv (2 ^ (min (32:Int).toNat IntKind.u64.bits))):=fun a h0 h1=>by
  rw [if_neg (by decide)]
  have e3:(min (32:Int).toNat IntKind.u64.bits)=32:=rfl
  rw [e3,Int.fdiv_eq_ediv_of_nonneg _ (by decide)]
  have:a / 2 ^ 32=0:=by omega
  rw [this]
 have k1:vint .and .u64 1 4294967295=some (.int .u64 1):=rfl
 have k2:vint .and .u64 0 4294967295=some (.int .u64 0):=rfl
 have k3:vint .mul .u64 1 0=some (.int .u64 0):=rfl
 have k4:vint .mul .u64 0 0=some (.int .u64 0):=rfl
 have k5:vint .add .u64 0 0=some (.int .u64 0):=rfl
 refine VFun.enter (env_none (by decide)) Tryz.func136 rfl (by kernel_rfl) (by simp [Tryz.ntmps136]) ?_
 repeat' (first|apply VWp.rseq|apply VWp.ret|apply VOps.nil|apply VOps.one|(apply VVal.shift (r:=.int .u64 0);exact .inr rfl;rfl;rfl;decide;exact hS _ (by omega) (by omega))|(apply VVal.int;rfl;rfl;exact hA1)|(apply VVal.int;rfl;rfl;exact hA2)|(apply VVal.int;rfl;rfl;exact hZ)|(apply VVal.int;rfl;rfl;exact k1)|(apply VVal.int;rfl;rfl;exact k2)|(apply VVal.assign;rfl)|(apply VVal.move;rfl))
 (refine Done.ret rfl (.refl _) (by first|exact trivial|exact ⟨trivial,trivial,trivial⟩|exact ⟨trivial,trivial,trivial,trivial⟩) HCov.nil (Nat.zero_le _) (Nat.le_refl _) ⟨?_,rfl,rfl⟩;try rfl)
theorem bmul_spec (n:Nat) (hn:n<4294967296):VFun env 128 [.int .u64 1,.int .u64 (n:Int)] (.tup [.p (.int .u64 0),.p (.int .u64 (n:Int))]):=by
 have h:=bmul64_spec n hn
 refine VFun.enter (env_none (by decide)) Tryz.func128 rfl (by kernel_rfl) (by simp [Tryz.ntmps128]) ?_
 repeat' (first|apply VWp.rseq|apply VWp.skipSeq|apply VWp.ret|apply VOps.nil|apply VOps.one|(apply VVal.fn;rfl;rfl;exact h;intro _;rfl)|(apply VVal.assign;rfl)|(apply VVal.move;rfl)|(apply VVal.extract;rfl;rfl)|(apply VWp.condSeq_false;rfl))
 (refine Done.ret rfl (.refl _) (by first|exact trivial|exact ⟨trivial,trivial,trivial⟩|exact ⟨trivial,trivial,trivial,trivial⟩) HCov.nil (Nat.zero_le _) (Nat.le_refl _) ⟨?_,rfl,rfl⟩;try rfl)
def repS (n k:Nat) (v:Int):List Int:=List.replicate k v++List.replicate (n-k) 0
theorem repS_len (n k:Nat) (v:Int) (h:k≤n):(repS n k v).length=n:=by simp [repS];omega
theorem repS_all (n:Nat) (v:Int):repS n n v=List.replicate n v:=by simp [repS]
theorem repS_one (n:Nat) (v:Int) (h:0<n):psplice (cells (List.replicate n (0:Int))) 0 [FV.int .i64 v]=cells (repS n 1 v):=by
 have:=psplice_many (List.replicate n (0:Int)) [v] 0 (by simp;omega)
 rw [Nat.zero_mul] at this
 show psplice (cells (List.replicate n (0:Int))) 0 (cells [v])=_
 rw [this]
 congr 1
 simp [repS]
theorem repS_ok (n k:Nat) (v:Int) (h:k≤n):0+k*1≤(cells (repS n k v)).length:=by
 rw [cells_length,repS_len n k v h]
 show 0+k*1≤n*1
 omega
theorem repS_cut (n k:Nat) (v:Int) (h:k≤n):cells (List.replicate (min k (n-k)) v)=((cells (repS n k v)).drop 0).take (min k (n-k)*1):=by
 have:=cells_take (repS n k v) (min k (n-k))
 rw [List.drop_zero]
 refine Eq.trans ?_ this.symm
 congr 1
 unfold repS
 rw [List.take_append_of_le_length (by simp;omega),List.take_replicate]
 congr 1
 omega
theorem repS_xs (n k:Nat) (v:Int):(cells (List.replicate (min k (n-k)) v)).length=min k (n-k)*1:=by
 rw [cells_length,List.length_replicate];rfl
theorem repS_room (n k:Nat) (v:Int) (h:k≤n):0+k*1+min k (n-k)*1≤(cells (repS n k v)).length:=by
 rw [cells_length,repS_len n k v h]
 show _≤n*1
 omega
theorem repS_put (n k:Nat) (v:Int) (h:k≤n):psplice (cells (repS n k v)) (0+k*1) (cells (List.replicate (min k (n-k)) v))=cells (repS n (k+min k (n-k)) v):=by
 have:=psplice_many (repS n k v) (List.replicate (min k (n-k)) v) k (by rw [repS_len n k v h];simp;omega)
 rw [Nat.zero_add]
 refine Eq.trans this ?_
 congr 1
 unfold repS
 rw [List.take_append_of_le_length (by simp),List.take_replicate,Nat.min_self,List.length_replicate,List.drop_append,List.drop_of_length_le (by simp),List.length_replicate,List.nil_append,List.drop_replicate,List.replicate_append_replicate]
 congr 2
 omega
theorem repeat_spec (e:TypeId) (v:Int) (n:Nat) (h0:0<n) (hn:n<1000000):VFunV env 115 [.lst e [.int .i64 v] 1,.int .i64 (n:Int)] 3 (cells (List.replicate n v)) n false:=by
 have hm:=bmul_spec n (by omega)
 refine VFunV.enter (env_none (by decide)) Tryz.func115 rfl (by kernel_rfl) (by simp [Tryz.ntmps115]) ?_
 repeat' (first|apply VWp.assoc|apply VWp.rseq|apply VWp.skipSeq|apply VWp.blockSeq|apply VOps.nil|apply VOps.one|(apply VOps.take;rfl;rfl)|(apply VVal.fn;rfl;rfl;exact hm;intro _;rfl)|(apply VVal.makeSliceL n (0:Int);rfl;rfl;rfl;rfl;rfl;rfl;rfl;omega;decide;decide;rfl)|(apply VVal.copy (k:=1) (N:=1) (xs:=[.int .i64 v]);rfl;rfl;exact h0;rfl;rfl;decide;exact SlT.lst rfl rfl (Nat.le_refl 1) rfl;omega;decide;rfl;(rw [cells_length,List.length_replicate];show 0+1*1≤n*1;omega))|(apply VVal.assign;rfl)|(apply VVal.move;rfl)|(apply VVal.int;rfl;rfl;rfl)|(apply VVal.pick_false;rfl;rfl)|(apply VVal.lenF;rfl;rfl)|(apply VVal.extract;rfl;rfl)|(apply VVal.convI;rfl;rfl;rfl;rfl;omega)|(apply VVal.convU;rfl;rfl;rfl;rfl;omega)|(apply VWp.condSeq_false;rfl)|(apply VWp.condSeq_dec;rfl)|(intro _;try (exfalso;omega)))
 all_goals try (exfalso;omega)
 refine VWp.loopQ (fun k:Nat=>[(7,.vec 0 n 0 n),(8,.p (.int .i64 (k:Int)))]) (fun k=>[(0,.vec 3 (cells (repS n k v)) n false)]) 1 (fun k=>1≤k∧k≤n) (fun k=>n-k) 1 (by omega) ⟨by omega,by omega⟩ ⟨by omega,?_,?_⟩ ?_
 ·repeat (first|exact LCov.nil|refine LCov.same trivial rfl ?_|refine LCov.same (lt_dec rfl) rfl ?_|refine LCov.same ⟨trivial,lt_dec rfl,lt_dec rfl,lt_dec rfl,trivial⟩ rfl ?_|refine LCov.same ⟨trivial,lt_dec rfl,lt_dec rfl,trivial⟩ rfl ?_|refine LCov.same ⟨trivial,trivial⟩ rfl ?_|refine LCov.cons trivial rfl (.of_eq (lst_len (by simp<;>omega))) ?_)
 ·have:=repS_one n v h0
  rw [this]
  repeat (first|exact HCov.nil|(refine HCov.cons (lt_dec rfl) ?_ rfl ?_ ?_;(first|exact HB.under_of rfl|exact PVs.under_pure _ _|(simp [HB.under,PVs.under,PV.under]));(first|exact HLe.refl _|exact HLe.vec (FLes.refl _) (by simp))))
 ·rintro k ⟨k1,k2⟩
  have hl:=repS_len n k v k2
  by_cases hk:k<n
  ·repeat' (first|apply VWp.assoc|apply VWp.rseq|apply VWp.regionD|apply VWp.skipSeq|apply QBlk.normal|apply VWp.blockQ|apply VOps.nil|apply VOpsD.nil|apply VOps.one|(apply VOpsD.bar;decide +kernel)|apply VOpsD.quiet|(apply VVal.sliceV (sz:=1) (a:=k) (c:=n);rfl;rfl;exact h0;rfl;rfl;rfl;exact ⟨_,rfl⟩;rfl;omega;exact Nat.le_refl _)|(apply VVal.sliceV (sz:=1) (a:=0) (c:=k);rfl;rfl;exact h0;rfl;rfl;rfl;rfl;exact ⟨_,rfl⟩;omega;exact k2)|(apply VVal.copy (k:=min k (n-k)) (N:=k) (xs:=cells (List.replicate (min k (n-k)) v));rfl;rfl;exact h0;rfl;rfl;decide;exact SlT.vec rfl rfl h0 (repS_ok n k v k2) (by omega) (repS_cut n k v k2);rfl;omega;exact repS_xs n k v;exact repS_room n k v k2)|(apply VVal.assign;rfl)|(apply VVal.move;rfl)|(apply VVal.add64;rfl;rfl;omega)|(apply VVal.int;rfl;rfl;rfl)|(apply VVal.lenV;rfl;rfl;rfl)|(apply VWp.condSeq_dec;rfl)|(intro _;try (exfalso;omega)))
   refine QLoop.normal ⟨k+min k (n-k),⟨by omega,by omega⟩,by omega,⟨by omega,?_,?_⟩⟩
   ·repeat (first|exact LCov.nil|refine LCov.same trivial rfl ?_|refine LCov.same (lt_dec rfl) rfl ?_|refine LCov.same ⟨trivial,lt_dec rfl,lt_dec rfl,lt_dec rfl,trivial⟩ rfl ?_|refine LCov.same ⟨trivial,lt_dec rfl,lt_dec rfl,trivial⟩ rfl ?_|refine LCov.same ⟨trivial,trivial⟩ rfl ?_|refine LCov.cons trivial rfl (.of_eq (lst_len (by simp<;>omega))) ?_)
   ·rw [repS_put n k v k2]
    repeat (first|exact HCov.nil|(refine HCov.cons (lt_dec rfl) ?_ rfl ?_ ?_;(first|exact HB.under_of rfl|exact PVs.under_pure _ _|(simp [HB.under,PVs.under,PV.under]));(first|exact HLe.refl _|exact HLe.vec (FLes.refl _) (by simp))))
  ·obtain rfl:k=n:=by omega
   repeat' (first|apply VWp.assoc|apply VWp.rseq|apply VWp.exitSeq|apply QSeq.normal|apply QBlk.exit|apply QLoop.exit|apply VWp.ret|apply VOps.nil|apply VOps.one|(apply VVal.assign;rfl)|(apply VVal.move;rfl)|(apply VVal.int;rfl;rfl;rfl)|(apply VVal.lenV;rfl;rfl;rfl)|(apply VWp.condSeq_dec;rfl)|(intro _;try (exfalso;omega)))
   rw [repS_all]
   exact DoneV.ret rfl rfl rfl rfl
end Go.Proofs.YtnhdddmhkhdlhaaGreatDoor
namespace Go.Proofs.YtnhdddmhkhdlhaaGreatDoor
open Go Go.Am Go.Vm Go.Pie
attribute [local irreducible] VVal VOps VOpsD VWp VCalls VFun VFunV QSeq QBlk QLoop Vm.Done DoneV DoneI
attribute [local irreducible] rchk windsE stoE dvsE cplE shiftR tailH
def exR (c:UInt8):Rnk:=⟨[c],[102,108,117,116,101],⟨8,1⟩,36,List.replicate 25 1⟩
def exS (n feet sh:Int):Stp:=⟨[97],⟨feet,1⟩,[⟨36,48,[⟨n,sh⟩]⟩]⟩
def exD1:Dvs:=⟨[111,110,101],false,36,48,[exS 0 8 0]⟩
def exD2:Dvs:=⟨[116,119,111],false,36,48,[exS 1 4 12]⟩
def exO:Org:=⟨[101],[exR 114,exR 115],[exD1,exD2],[⟨[99],0,1,0,false⟩]⟩
def exG:Rgs:=⟨[1,0],0,0⟩
def exP:Pce:=⟨[0,4,8],[⟨0,6,0,40⟩,⟨4,8,0,43⟩],[⟨1,exG⟩]⟩
theorem exR_spec (c:UInt8):VFun env 93 [.str (bs [c])] (.p (.agg (Enc.enc (exR c)))):=by
 have hr:=repeat_spec 3 1 25 (by decide) (by decide)
 refine VFun.enter (env_none (by decide)) Tryz.func93 rfl (by kernel_rfl) (by simp [Tryz.ntmps93]) ?_
 repeat' (first|(refine VOps.atOp 6 ?_;refine VOps.ghost (Ghost.freeze 5 rfl rfl) ?_)|(refine VOps.atOp 7 ?_;refine VOps.ghost (Ghost.freeze 6 rfl rfl) ?_)|apply VWp.rseq|apply VWp.ret|apply VOps.nil|apply VOps.one|(apply VVal.fv;rfl;rfl;exact hr)|(apply VVal.move;rfl)|(apply VVal.alloc;rfl)|(apply VVal.storeB;rfl;rfl;rfl;trivial;rfl;rfl;exact lt_dec rfl;exact le_dec rfl)|(apply VVal.build;rfl;rfl;rfl;rfl;rfl)|(apply VVal.buildSlice;rfl;rfl;rfl;decide;rfl;rfl;rfl))
 all_goals first|(exfalso;omega)|(refine Done.ret rfl (.refl _) (by first|exact trivial|exact ⟨trivial,trivial,trivial⟩|exact ⟨trivial,trivial,trivial,trivial⟩) HCov.nil (Nat.zero_le _) (Nat.le_refl _) ⟨?_,rfl,rfl⟩;try rfl)
theorem exS_spec (n feet sh:Int):VFun env 92 [.int .i64 n,.int .i64 feet,.int .i64 sh] (.p (.lst 127 (cells [exS n feet sh]) 1)):=by
 refine VFun.enter (env_none (by decide)) Tryz.func92 rfl (by kernel_rfl) (by simp [Tryz.ntmps92]) ?_
 repeat' (first|(refine VOps.atOp 13 ?_;refine VOps.ghost (Ghost.freeze 12 rfl rfl) ?_)|(refine VOps.atOp 15 ?_;refine VOps.ghost (Ghost.freeze 14 rfl rfl) ?_)|(refine VOps.atOp 6 ?_;refine VOps.ghost (Ghost.freeze 16 rfl rfl) ?_)|apply VWp.rseq|apply VWp.ret|apply VOps.nil|apply VOps.one|(apply VVal.assign;rfl)|(apply VVal.move;rfl)|(apply VVal.build;rfl;rfl;rfl;rfl;rfl)|(apply VVal.buildSlice;rfl;rfl;rfl;decide;rfl;rfl;rfl))
 all_goals first|(exfalso;omega)|(refine Done.ret rfl (.refl _) (by first|exact trivial|exact ⟨trivial,trivial,trivial⟩|exact ⟨trivial,trivial,trivial,trivial⟩) HCov.nil (Nat.zero_le _) (Nat.le_refl _) ⟨?_,rfl,rfl⟩;try rfl)
theorem exO_spec:VFun env 72 [] (.p (.agg (Enc.enc exO))):=by
 have h1:=exR_spec 114
 have h2:=exR_spec 115
 have h3:=exS_spec 0 8 0
 have h4:=exS_spec 1 4 12
 refine VFun.enter (env_none (by decide)) Tryz.func72 rfl (by kernel_rfl) (by simp [Tryz.ntmps72]) ?_
 repeat' (first|(refine VOpsD.atIdx 14 ?_;refine VOpsD.ghost (Ghost.trans (Ghost.freeze 6 rfl rfl) (Ghost.trans (Ghost.freeze 15 rfl rfl) (Ghost.freeze 17 rfl rfl))) ?_)|apply VWp.rseq|apply VWp.rseqD|apply VWp.ret|apply VOps.nil|apply VOpsD.nil|apply VOps.one|(apply VOpsD.bar;decide +kernel)|apply VOpsD.quiet|(apply VVal.fn;rfl;rfl;exact h1;intro _;rfl)|(apply VVal.fn;rfl;rfl;exact h2;intro _;rfl)|(apply VVal.fn;rfl;rfl;exact h3;intro _;rfl)|(apply VVal.fn;rfl;rfl;exact h4;intro _;rfl)|(apply VVal.assign;rfl)|(apply VVal.move;rfl)|(apply VVal.load;rfl;rfl)|(apply VVal.alloc;rfl)|(apply VVal.storeB;rfl;rfl;rfl;trivial;rfl;rfl;exact lt_dec rfl;exact le_dec rfl)|(apply VVal.build;rfl;rfl;rfl;rfl;rfl)|(apply VVal.buildSlice;rfl;rfl;rfl;decide;rfl;rfl;rfl))
 all_goals first|(exfalso;omega)|(refine Done.ret rfl (.refl _) (by first|exact trivial|exact ⟨trivial,trivial,trivial⟩|exact ⟨trivial,trivial,trivial,trivial⟩) HCov.nil (Nat.zero_le _) (Nat.le_refl _) ⟨?_,rfl,rfl⟩;try rfl)
theorem exP_spec:VFun env 38 [] (.tup [.p (.agg (Enc.enc exO)),.p (.agg (Enc.enc exP))]):=by
 have h1:=exO_spec
 refine VFun.enter (env_none (by decide)) Tryz.func38 rfl (by kernel_rfl) (by simp [Tryz.ntmps38]) ?_
 repeat' (first|(refine VOps.atOp 4 ?_;refine VOps.ghost (Ghost.freeze 3 rfl rfl) ?_)|(refine VOpsD.atIdx 8 ?_;refine VOpsD.ghost (Ghost.trans (Ghost.freeze 6 rfl rfl) (Ghost.trans (Ghost.freeze 9 rfl rfl) (Ghost.freeze 12 rfl rfl))) ?_)|(refine VOpsD.atIdx 9 ?_;apply VOpsD.weak [.tmp 2];decide +kernel;rfl;rfl;(first|exact VOwn.ref rfl|exact VOwn.vec rfl|exact VOwn.eref rfl);decide +kernel;rfl)|apply VWp.rseq|apply VWp.rseqD|apply VWp.ret|apply VOps.nil|apply VOpsD.nil|apply VOps.one|(apply VOpsD.bar;decide +kernel)|apply VOpsD.quiet|(apply VVal.fn;rfl;rfl;exact h1;intro _;rfl)|(apply VVal.load;rfl;rfl)|(apply VVal.alloc;rfl)|(apply VVal.storeB;rfl;rfl;rfl;trivial;rfl;rfl;exact lt_dec rfl;exact le_dec rfl)|(apply VVal.build;rfl;rfl;rfl;rfl;rfl)|(apply VVal.buildSlice;rfl;rfl;rfl;decide;rfl;rfl;rfl))
 all_goals first|(exfalso;omega)|(refine Done.ret rfl (.refl _) (by first|exact trivial|exact ⟨trivial,trivial,trivial⟩|exact ⟨trivial,trivial,trivial,trivial⟩) HCov.nil (Nat.zero_le _) (Nat.le_refl _) ⟨?_,rfl,rfl⟩;try rfl)
end Go.Proofs.YtnhdddmhkhdlhaaGreatDoor
namespace Go.Proofs.YtnhdddmhkhdlhaaGreatDoor
open Go Go.Am Go.Vm Go.Pie
attribute [local irreducible] VVal VOps VOpsD VWp VCalls VFun VFunV QSeq QBlk QLoop Vm.Done DoneV DoneI
attribute [local irreducible] rchk windsE stoE dvsE cplE shiftR tailH
instance (c:Nat):Decidable (isL c):=by unfold isL;infer_instance
theorem nm_al (s:List UInt8) (h0:0<s.length) (h1:s.length≤32) (h:∀ i,i<s.length→isL (gi s i).toNat):nameOk s:=⟨h0,h1,h 0 h0,fun i _ hi=>.inl (h i hi)⟩
theorem lt2 {i:Nat} (h:i<2):i=0∨i=1:=by omega
theorem pk1 (n:Int) (h:n=8∨n=4):pchk ⟨n,1⟩=0:=pchk_ok.2 (by rcases h with rfl|rfl<;>decide +kernel)
theorem exR_ok {c:UInt8} (hc:isL c.toNat):rchk (exR c)=0:=by
 unfold rchk
 have h1:nameOk (exR c).name:=⟨by show 0<1;decide,by show 1≤32;decide,hc,fun i h1 h2=>by
  have:i<1:=h2
  omega⟩
 have h2:nameOk (exR c).tone:=nm_al [102,108,117,116,101] (by decide) (by decide) (by decide)
 have h3:pchk (exR c).feet=0:=pk1 8 (.inl rfl)
 have hw:(exR c).wind=List.replicate 25 1:=rfl
 rw [if_neg (by rintro (h|h);exact h h1;exact h h2),if_neg (fun h=>h h3),if_neg (by show ¬ ((36:Int)< -256∨(36:Int)>256);omega),hw,List.length_replicate,if_neg (by omega),if_neg (by omega)]
 unfold windsE
 rw [if_pos]
 intro j hj
 rw [List.length_replicate] at hj
 have:gi (List.replicate 25 (1:Int)) j=1:=by unfold gi;rw [List.getElem?_replicate,if_pos hj];rfl
 rw [this]
 decide
theorem exRk:∀ i,i<[exR 114,exR 115].length→rchk (gi [exR 114,exR 115] i)=0:=fun i hi=>by
 rcases lt2 hi with rfl|rfl
 ·exact exR_ok (c:=114) (by decide)
 ·exact exR_ok (c:=115) (by decide)
theorem exS_ok {n feet sh:Int} (h1:0≤n∧n<2) (h2:feet=8∨feet=4) (h3:-127≤sh∧sh≤127):stoE [exR 114,exR 115] 36 48 (exS n feet sh)=0:=by
 unfold stoE
 rw [plcE_zero exRk (by decide) (by decide),if_neg (fun h=>h rfl)]
 unfold stpE
 have e1:nameOk (exS n feet sh).name:=nm_al [97] (by decide) (by decide) (by decide)
 have e2:pchk (exS n feet sh).feet=0:=pk1 feet h2
 have es:(exS n feet sh).segs=[⟨36,48,[⟨n,sh⟩]⟩]:=rfl
 rw [if_neg (fun h=>h e1),if_neg (fun h=>h e2),es,if_neg (by simp),if_neg (by simp)]
 exact segsE_one (by simp) (drwE_one ⟨h1,h3⟩)
theorem exDv {nm:List UInt8} {s:Stp} (h:stoE [exR 114,exR 115] 36 48 s=0):dvsE [exR 114,exR 115] ⟨nm,false,36,48,[s]⟩=0:=by
 unfold dvsE
 rw [show cmpE 36 48=0 from cmpE_zero (by decide),if_neg (fun h=>h rfl),if_neg (by show ¬ ([s].length>60);simp)]
 exact stosE_zero (fun i hi=>by
  obtain rfl:i=0:=by
   have:i<1:=hi
   omega
  exact ⟨h,by simp⟩) _ 0 rfl
theorem exO_err:orgE exO=0:=by
 have eR:exO.ranks=[exR 114,exR 115]:=rfl
 have eD:exO.divs=[exD1,exD2]:=rfl
 have eC:exO.cpls=[⟨[99],0,1,0,false⟩]:=rfl
 have eN:exO.name=[101]:=rfl
 unfold orgE
 rw [eR,eD,eC,eN]
 have hr:rnkE [exR 114,exR 115] 0=0:=rnkE_zero (fun i hi=>⟨exRk i hi,by
  rcases lt2 hi with rfl|rfl
  ·simp
  ·show [115]∉[[114]];simp⟩) _ 0 rfl
 have hd:divsE [exR 114,exR 115] [exD1,exD2] 0=0:=divsE_zero (fun i hi=>by
  rcases lt2 hi with rfl|rfl
  ·exact ⟨nm_al [111,110,101] (by decide) (by decide) (by decide),by simp,exDv (exS_ok (by decide) (.inl rfl) (by decide))⟩
  ·exact ⟨nm_al [116,119,111] (by decide) (by decide) (by decide),by show [116,119,111]∉[[111,110,101]];simp,exDv (exS_ok (by decide) (.inr rfl) (by decide))⟩) _ 0 rfl
 rw [if_neg (fun h=>h (nm_al [101] (by decide) (by decide) (by decide))),if_neg (by simp),if_neg (fun h=>h hr),if_neg (by simp),if_neg (by simp),if_neg (fun h=>h hd)]
 unfold cplE
 rw [if_neg (by simp)]
 have hc:cpsE ([exD1,exD2].map fun d=>(⟨d.lo,d.hi⟩:Cps)) 0=0:=cpsE_zero (fun i hi=>by
  rcases lt2 hi with rfl|rfl
  ·exact cmpE_zero (by decide)
  ·exact cmpE_zero (by decide)) _ 0 rfl
 rw [if_neg (fun h=>h hc)]
 exact cplsE_zero (fun i hi=>by
  obtain rfl:i=0:=by
   have:i<1:=hi
   omega
  exact ⟨⟨nm_al [99] (by decide) (by decide) (by decide),by decide,by decide,by decide,by decide⟩,by simp⟩) _ 0 rfl
theorem exS_sm (n feet sh:Int):StpSm (exS n feet sh):=⟨by show 1<1000000;decide,by show 1<1000000;decide,fun i hi=>by
 obtain rfl:i=0:=by
  have:i<1:=hi
  omega
 exact ⟨by show 1<1000000;decide⟩⟩
theorem exR_sm (c:UInt8):RnkSm (exR c):=⟨by show 1<1000000;decide,by show 5<1000000;decide,by show (List.replicate 25 1).length<1000000;decide⟩
theorem exO_sm:OrgSm exO:=by
 refine ⟨by show 1<1000000;decide,by show 2<1000000;decide,by show 2<1000000;decide,by show 1<1000000;decide,fun i hi=>?_,fun i hi=>?_,fun i hi=>?_⟩
 ·rcases lt2 hi with rfl|rfl
  ·exact exR_sm 114
  ·exact exR_sm 115
 ·rcases lt2 hi with rfl|rfl
  ·refine ⟨by show 3<1000000;decide,by show 1<1000000;decide,fun j hj=>?_⟩
   obtain rfl:j=0:=by
    have:j<1:=hj
    omega
   exact exS_sm 0 8 0
  ·refine ⟨by show 3<1000000;decide,by show 1<1000000;decide,fun j hj=>?_⟩
   obtain rfl:j=0:=by
    have:j<1:=hj
    omega
   exact exS_sm 1 4 12
 ·obtain rfl:i=0:=by
   have:i<1:=hi
   omega
  show 1<1000000
  decide
theorem exO_k:OrgK exO:=orgK exO_sm exO_err
theorem exG_reg:regE exO exG=0:=by
 rw [regE_rest rfl (fun i hi=>by
  rcases lt2 hi with rfl|rfl
  ·rfl
  ·rfl)]
 rfl
theorem exP_sm:PceSm exP:=⟨by show 3<1000000;decide,by show 2<1000000;decide,by show 1<1000000;decide,fun i hi=>by
 obtain rfl:i=0:=by
  have:i<1:=hi
  omega
 exact ⟨fun j hj=>by
  rcases lt2 hj with rfl|rfl
  ·show 1<18446744073709551616;decide
  ·show 0<18446744073709551616;decide,by show 0<18446744073709551616;decide,by show 0<18446744073709551616;decide,by show 2<9223372036854775808;decide⟩⟩
theorem exP_k:PceK exO exP:=by
 refine pceK_of exP_sm ⟨by show 2≤3;decide,by show 3≤201;decide⟩ (fun i hi=>?_) (by show 2≤1000;decide) (fun i hi=>?_) (by show 1≤100;decide) fun i hi=>?_
 ·have:i=0∨i=1∨i=2:=by
   have:i<3:=hi
   omega
  rcases this with rfl|rfl|rfl
  ·exact ⟨by decide,fun h=>by omega⟩
  ·exact ⟨by decide,fun _=>by decide⟩
  ·exact ⟨by decide,fun _=>by decide⟩
 ·rcases lt2 hi with rfl|rfl
  ·exact ⟨by decide,by decide,by decide,fun j hj=>by omega⟩
  ·refine ⟨by decide,by decide,by decide,fun j hj=>?_⟩
   obtain rfl:j=0:=by omega
   decide
 ·obtain rfl:i=0:=by
   have:i<1:=hi
   omega
  exact ⟨by decide,fun h=>by omega,exG_reg⟩
theorem exP_err:pceE exO exP=0:=by unfold pceE;rw [if_neg (fun h=>h exO_err)];exact exP_k.err
theorem exP_at {t:Int} (h:0≤t∧t<8):atE exO exP t=0:=by
 unfold atE
 rw [if_neg (fun h=>h exP_err),if_neg]
 show ¬ (t<0∨t≥8)
 omega
theorem exP_tks:tksP exP=[0,4,6,8]:=by
 refine inc_ext (compact_inc (sort_pair _)) (by unfold Inc;simp) fun x=>?_
 unfold tksP
 rw [compact_mem,List.mem_mergeSort]
 have:zsK exP exP.notes.length=[0,8,0,6,4,8]:=rfl
 rw [this]
 simp only [List.mem_cons,List.not_mem_nil,or_false]
 omega
theorem exP_snd:sndL exP=[⟨0,4,[0]⟩,⟨4,6,[0,1]⟩,⟨6,8,[1]⟩]:=by
 unfold sndL
 rw [exP_tks]
 decide +kernel
theorem exP_cut:(cutP exP 1 2).notes=[⟨4,6,0,40⟩,⟨4,8,0,43⟩]:=by decide +kernel
theorem known_spec:VFun env 11 [] (.p (.bool true)):=by
 have h0:=exP_spec
 have hs:=Slices_spec exO_sm exP_err exP_k
 rw [exP_snd] at hs
 have h3:=Wanted_spec exO_k exP_k 3 (exP_at (by decide))
 rw [show wan exP 3=-1 from rfl] at h3
 have h4:=Wanted_spec exO_k exP_k 4 (exP_at (by decide))
 rw [show wan exP 4=0 from rfl,show wanR exO exP 4=exG from rfl] at h4
 have hc:=Cut_spec exO_k exP_err exP_k 1 2 (by decide) (by decide)
 have ec:=exP_cut
 generalize cutP exP 1 2=C at *
 obtain ⟨cb,cn,cs⟩:=C
 simp only at ec
 subst ec
 generalize wanR exO exP 3=W at *
 refine VFun.enter (env_none (by decide)) Tryz.func11 rfl (by kernel_rfl) (by simp [Tryz.ntmps11]) ?_
 repeat' (first|apply VWp.rseq|apply VWp.ret|apply VOps.nil|apply VOps.one|(apply VOps.take;rfl;rfl)|(apply VVal.fn;rfl;rfl;exact h0;intro _;rfl)|(apply VVal.fn;rfl;rfl;exact hs;intro _;rfl)|(apply VVal.fn;rfl;rfl;exact h3;intro _;rfl)|(apply VVal.fn;rfl;rfl;exact h4;intro _;rfl)|(apply VVal.fn;rfl;rfl;exact hc;intro _;rfl)|(apply VVal.indexF;rfl;rfl;rfl;decide;(first|decide|simp))|(apply VVal.assign;rfl)|(apply VVal.move;rfl)|(apply VVal.int;rfl;rfl;rfl)|(apply VVal.load;rfl;rfl)|(apply VVal.pick_true;rfl;rfl)|(apply VVal.lenF;rfl;rfl)|(apply VVal.fieldB;rfl;rfl;rfl)|(apply VVal.fieldF;rfl;rfl)|(apply VVal.alloc;rfl)|(apply VVal.storeB;rfl;rfl;rfl;trivial;rfl;rfl;exact lt_dec rfl;exact le_dec rfl)|(apply VVal.extract;rfl;rfl))
 all_goals try (exfalso;omega)
 all_goals (refine Done.ret rfl (.refl _) (by first|exact trivial|exact ⟨trivial,trivial,trivial⟩|exact ⟨trivial,trivial,trivial,trivial⟩) HCov.nil (Nat.zero_le _) (Nat.le_refl _) ⟨?_,rfl,rfl⟩;try rfl)
end Go.Proofs.YtnhdddmhkhdlhaaGreatDoor
namespace Go.Proofs.YtnhdddmhkhdlhaaGreatDoor
open Go Go.Am Go.Vm
theorem nat_u8 {n:Int} (h:(Lit.int .u8 n).wf=true):∃ m:Nat,m<256∧n=m:=by
 simp [Lit.wf,IntKind.min,IntKind.max,IntKind.signed,IntKind.bits] at h
 exact ⟨n.toNat,by omega,by omega⟩
theorem int_i8 {n:Int} (h:(Lit.int .i8 n).wf=true):-128≤n∧n≤127:=by
 simp [Lit.wf,IntKind.min,IntKind.max,IntKind.signed,IntKind.bits] at h
 omega
theorem map_choose {α β:Type} {R:β→α→Prop}:∀ {l:List α},(∀ x∈l,∃ y,R y x)→∃ r:List β,All2 R r l
 |[],_=>⟨[],.nil⟩
 |a::l,h=>by
  obtain ⟨y,hy⟩:=h a (by simp)
  obtain ⟨r,hr⟩:=map_choose (l:=l) (fun x hx=>h x (by simp [hx]))
  exact ⟨y::r,.cons hy hr⟩
theorem flat_cells {α:Type} [Enc α] {p:α→Prop}:∀ {r:List α} {L:List (List FV)},All2 (fun a fs=>fs=Enc.enc a∧p a) r L→L.flatten=cells r∧L.length=r.length∧∀ i,i<r.length→p (gi r i)
 |_,_,.nil=>⟨rfl,rfl,fun i hi=>by simp at hi⟩
 |a::r,fs::L,.cons ⟨h1,h2⟩ t=>by
  obtain ⟨e1,e2,e3⟩:=flat_cells t
  refine ⟨by rw [List.flatten_cons,e1,h1];rfl,by simp [e2],fun i hi=>?_⟩
  cases i with
  |zero=>exact h2
  |succ i=>exact e3 i (by simpa using hi)
section
variable {α β:Type} {R:α→β→Prop} {a b c d e:α} {r:List β}
theorem all2_one (h:All2 R [a] r):∃ x,r=[x]∧R a x:=by
 cases h with|cons h1 t=>cases t;exact ⟨_,rfl,h1⟩
theorem all2_two (h:All2 R [a,b] r):∃ x y,r=[x,y]∧R a x∧R b y:=by
 cases h with|cons h1 t=>obtain ⟨x,rfl,h2⟩:=all2_one t;exact ⟨_,_,rfl,h1,h2⟩
theorem all2_three (h:All2 R [a,b,c] r):∃ x y z,r=[x,y,z]∧R a x∧R b y∧R c z:=by
 cases h with|cons h1 t=>obtain ⟨x,y,rfl,h2,h3⟩:=all2_two t;exact ⟨_,_,_,rfl,h1,h2,h3⟩
theorem all2_four (h:All2 R [a,b,c,d] r):∃ x y z w,r=[x,y,z,w]∧R a x∧R b y∧R c z∧R d w:=by
 cases h with|cons h1 t=>obtain ⟨x,y,z,rfl,h2,h3,h4⟩:=all2_three t;exact ⟨_,_,_,_,rfl,h1,h2,h3,h4⟩
theorem all2_five (h:All2 R [a,b,c,d,e] r):∃ x y z w v,r=[x,y,z,w,v]∧R a x∧R b y∧R c z∧R d w∧R e v:=by
 cases h with|cons h1 t=>obtain ⟨x,y,z,w,rfl,h2,h3,h4,h5⟩:=all2_four t;exact ⟨_,_,_,_,_,rfl,h1,h2,h3,h4,h5⟩
end
theorem has_bool {j:Nat} {fs:List FV} (h:HasT Tryz.prog (j+1) 4 fs):∃ b:Bool,fs=[.bool b]:=by
 simp only [HasT,Tryz.underlying4] at h
 exact h
theorem len5 {α:Type} {l:List α} (h:l.length=5):∃ a b c d e,l=[a,b,c,d,e]:=by
 match l,h with|[a,b,c,d,e],_=>exact ⟨a,b,c,d,e,rfl⟩
theorem has_rplan {j:Nat} {fs:List FV} (h:HasT Tryz.prog (j+3) 166 fs):∃ x:RPlan,fs=x.enc∧x.Ok:=by
 simp only [HasT,Tryz.underlying166,Tryz.underlying5,Tryz.underlying76,Tryz.underlying115] at h
 obtain ⟨parts,rfl,hp⟩:=h
 obtain ⟨a,b,c,d,e,rfl,⟨n1,rfl,h1⟩,⟨n2,rfl,h2⟩,⟨n3,rfl,h3⟩,⟨n4,rfl,h4⟩,L,rfl,hl,hL⟩:=all2_five hp
 obtain ⟨m1,q1,rfl⟩:=nat_u8 h1
 obtain ⟨m2,q2,rfl⟩:=nat_u8 h2
 obtain ⟨m4,q4,rfl⟩:=nat_u8 h4
 obtain ⟨a,b,c,d,e,rfl⟩:=len5 hl
 obtain ⟨w0,rfl,g0⟩:=hL a (by simp)
 obtain ⟨w1,rfl,g1⟩:=hL b (by simp)
 obtain ⟨w2,rfl,g2⟩:=hL c (by simp)
 obtain ⟨w3,rfl,g3⟩:=hL d (by simp)
 obtain ⟨w4,rfl,g4⟩:=hL e (by simp)
 obtain ⟨v0,k0,rfl⟩:=nat_u8 g0
 obtain ⟨v1,k1,rfl⟩:=nat_u8 g1
 obtain ⟨v2,k2,rfl⟩:=nat_u8 g2
 obtain ⟨v3,k3,rfl⟩:=nat_u8 g3
 obtain ⟨v4,k4,rfl⟩:=nat_u8 g4
 refine ⟨⟨m1,m2,n3,m4,[v0,v1,v2,v3,v4]⟩,rfl,q1,q2,int_i8 h3,q4,fun i=>?_⟩
 match i with
 |0=>exact k0
 |1=>exact k1
 |2=>exact k2
 |3=>exact k3
 |4=>exact k4
 |n+5=>simp [gi]
end Go.Proofs.YtnhdddmhkhdlhaaGreatDoor
namespace Go.Proofs.YtnhdddmhkhdlhaaGreatDoor
open Go Go.Am Go.Vm
theorem hasT_struct {P:Program} {n:Nat} {t:TypeId} {fs:List FV} {sf:Array Field} (h:HasT P (n+1) t fs) (hu:P.underlying t=some (.struct sf)):∃ parts:List (List FV),fs=parts.flatten∧All2 (fun (fd:Field) x=>HasT P n fd.type x) sf.toList parts:=by
 unfold HasT at h;rw [hu] at h;exact h
theorem hasT_slice {P:Program} {n:Nat} {t e:TypeId} {fs:List FV} {α:Type} [Enc α] {p:α→Prop} (h:HasT P (n+1) t fs) (hu:P.underlying t=some (.slice e)) (he:∀ x,HasT P n e x→∃ a:α,x=Enc.enc a∧p a):∃ l:List α,fs=[.lst e (cells l) l.length]∧l.length≤maxLen∧∀ i,i<l.length→p (gi l i):=by
 unfold HasT at h;rw [hu] at h
 obtain ⟨L,rfl,hl,hL⟩:=h
 obtain ⟨r,hr⟩:=map_choose (R:=fun (a:α) fs=>fs=Enc.enc a∧p a) (l:=L) (fun x hx=>he x (hL x hx))
 obtain ⟨e1,e2,e3⟩:=flat_cells hr
 exact ⟨r,by rw [e1,e2],by omega,e3⟩
theorem has_u8 {j:Nat} {fs:List FV} (h:HasT Tryz.prog (j+1) 5 fs):∃ n:Nat,fs=[.int .u8 (n:Int)]∧n<256:=by
 simp only [HasT,Tryz.underlying5] at h
 obtain ⟨n,rfl,hn⟩:=h
 obtain ⟨m,q,rfl⟩:=nat_u8 hn
 exact ⟨m,rfl,q⟩
theorem has_i8 {j:Nat} {fs:List FV} (h:HasT Tryz.prog (j+1) 76 fs):∃ n:Int,fs=[.int .i8 n]∧-128≤n∧n≤127:=by
 simp only [HasT,Tryz.underlying76] at h
 obtain ⟨n,rfl,hn⟩:=h
 exact ⟨n,rfl,int_i8 hn⟩
theorem has_pull {j:Nat} {fs:List FV} (h:HasT Tryz.prog (j+2) 169 fs):∃ x:Pul,fs=Enc.enc x∧x.Ok:=by
 obtain ⟨parts,rfl,hp⟩:=hasT_struct h Tryz.underlying169
 obtain ⟨a,b,c,d,rfl,h1,h2,h3,h4⟩:=all2_four hp
 obtain ⟨m1,rfl,q1⟩:=has_u8 (j:=j) h1
 obtain ⟨m2,rfl,q2⟩:=has_u8 (j:=j) h2
 obtain ⟨m3,rfl,q3⟩:=has_u8 (j:=j) h3
 obtain ⟨m4,rfl,q4⟩:=has_u8 (j:=j) h4
 exact ⟨⟨m1,m2,m3,m4⟩,rfl,q1,q2,q3,q4⟩
theorem has_board {j:Nat} {fs:List FV} (h:HasT Tryz.prog (j+4) 163 fs):∃ x:Brd,fs=Enc.enc x∧x.Ok:=by
 obtain ⟨parts,rfl,hp⟩:=hasT_struct h Tryz.underlying163
 obtain ⟨a,b,c,d,rfl,h1,h2,h3,h4⟩:=all2_four hp
 obtain ⟨m1,rfl,q1⟩:=has_u8 (j:=j+2) h1
 obtain ⟨m2,rfl,q2⟩:=has_u8 (j:=j+2) h2
 obtain ⟨m3,rfl⟩:=has_bool (j:=j+2) h3
 obtain ⟨l,rfl,hl,hL⟩:=hasT_slice (n:=j+2) (p:=Pul.Ok) h4 Tryz.underlying161 (fun x hx=>has_pull hx)
 exact ⟨⟨m1,m2,m3,l⟩,rfl,q1,q2,by simp only [maxLen] at hl;simp only;omega,hL⟩
theorem has_link {j:Nat} {fs:List FV} (h:HasT Tryz.prog (j+2) 171 fs):∃ x:Lnk,fs=Enc.enc x∧x.Ok:=by
 obtain ⟨parts,rfl,hp⟩:=hasT_struct h Tryz.underlying171
 obtain ⟨a,b,c,d,rfl,h1,h2,h3,h4⟩:=all2_four hp
 obtain ⟨m1,rfl,q1⟩:=has_u8 (j:=j) h1
 obtain ⟨m2,rfl,q2⟩:=has_u8 (j:=j) h2
 obtain ⟨m3,rfl,q3⟩:=has_i8 (j:=j) h3
 obtain ⟨m4,rfl⟩:=has_bool (j:=j) h4
 exact ⟨⟨m1,m2,m3,m4⟩,rfl,q1,q2,q3⟩
theorem has_oplan {j:Nat} {fs:List FV} (h:HasT Tryz.prog (j+6) 26 fs):∃ x:OPl,fs=x.enc∧x.Ok:=by
 obtain ⟨parts,rfl,hp⟩:=hasT_struct h Tryz.underlying26
 obtain ⟨a,b,c,rfl,h1,h2,h3⟩:=all2_three hp
 obtain ⟨l1,rfl,n1,g1⟩:=hasT_slice (n:=j+4) (p:=RPlan.Ok) h1 Tryz.underlying22 (fun x hx=>has_rplan (j:=j+1) hx)
 obtain ⟨l2,rfl,n2,g2⟩:=hasT_slice (n:=j+4) (p:=Brd.Ok) h2 Tryz.underlying23 (fun x hx=>has_board hx)
 obtain ⟨l3,rfl,n3,g3⟩:=hasT_slice (n:=j+4) (p:=Lnk.Ok) h3 Tryz.underlying24 (fun x hx=>has_link (j:=j+2) hx)
 simp only [maxLen] at n1 n2 n3
 exact ⟨⟨l1,l2,l3⟩,rfl,g1,g2,g3,by simp only;omega,by simp only;omega,by simp only;omega⟩
end Go.Proofs.YtnhdddmhkhdlhaaGreatDoor
namespace Go.Proofs.YtnhdddmhkhdlhaaGreatDoor
open Go Go.Am Go.Vm
theorem list5 {α:Type} {L:List α} (h:L.length=5):∃ a b c d e,L=[a,b,c,d,e]:=by
 match L,h with
 |[a,b,c,d,e],_=>exact ⟨a,b,c,d,e,rfl⟩
theorem has_bits5 {j:Nat} {fs:List FV} (h:HasT Tryz.prog (j+2) 115 fs):∃ b:Nat→Nat,fs=bitsE b∧∀ i,b i<256:=by
 obtain ⟨L,rfl,hl,hL⟩:=HasT.array h Tryz.underlying115
 obtain ⟨a,b,c,d,e,rfl⟩:=list5 hl
 obtain ⟨m1,rfl,q1⟩:=has_u8 (j:=j) (hL a (by simp))
 obtain ⟨m2,rfl,q2⟩:=has_u8 (j:=j) (hL b (by simp))
 obtain ⟨m3,rfl,q3⟩:=has_u8 (j:=j) (hL c (by simp))
 obtain ⟨m4,rfl,q4⟩:=has_u8 (j:=j) (hL d (by simp))
 obtain ⟨m5,rfl,q5⟩:=has_u8 (j:=j) (hL e (by simp))
 exact ⟨fun i=>if i=0 then m1 else if i=1 then m2 else if i=2 then m3 else if i=3 then m4 else m5,rfl,fun i=>by simp only;split<;>(try split)<;>(try split)<;>(try split)<;>omega⟩
end Go.Proofs.YtnhdddmhkhdlhaaGreatDoor
namespace Go.Proofs.YtnhdddmhkhdlhaaGreatDoor
open Go Go.Am Go.Vm Go.Pie
attribute [local irreducible] VVal VOps VOpsD VWp VCalls VFun VFunV QSeq QBlk QLoop Vm.Done DoneV DoneI
attribute [local irreducible] rchk windsE stoE dvsE cplE shiftR tailH
theorem has_byte {j:Nat} {fs:List FV} (h:HasT Tryz.prog (j+1) 5 fs):∃ x:UInt8,fs=Enc.enc x∧True:=by
 obtain ⟨n,rfl,hn⟩:=has_u8 h
 refine ⟨UInt8.ofNat n,?_,trivial⟩
 show _=[FV.int .u8 (((UInt8.ofNat n).toNat:Nat):Int)]
 rw [UInt8.toNat_ofNat',Nat.mod_eq_of_lt hn]
def Sd8.Ok (y:Sd8):Prop:=y.st<256∧y.lg<256∧y.dv<256∧y.ky<256
def Mrk.Ok (y:Mrk):Prop:=y.bar<256∧∀ j,y.b j<256
theorem has_sound {j:Nat} {fs:List FV} (h:HasT Tryz.prog (j+2) 106 fs):∃ x:Sd8,fs=Enc.enc x∧x.Ok:=by
 obtain ⟨parts,rfl,hp⟩:=hasT_struct h Tryz.underlying106
 obtain ⟨a,b,c,d,rfl,h1,h2,h3,h4⟩:=all2_four hp
 obtain ⟨m1,rfl,q1⟩:=has_u8 (j:=j) h1
 obtain ⟨m2,rfl,q2⟩:=has_u8 (j:=j) h2
 obtain ⟨m3,rfl,q3⟩:=has_u8 (j:=j) h3
 obtain ⟨m4,rfl,q4⟩:=has_u8 (j:=j) h4
 exact ⟨⟨m1,m2,m3,m4⟩,rfl,q1,q2,q3,q4⟩
theorem has_mark {j:Nat} {fs:List FV} (h:HasT Tryz.prog (j+3) 117 fs):∃ x:Mrk,fs=Enc.enc x∧x.Ok:=by
 obtain ⟨parts,rfl,hp⟩:=hasT_struct h Tryz.underlying117
 obtain ⟨a,b,rfl,h1,h2⟩:=all2_two hp
 obtain ⟨m1,rfl,q1⟩:=has_u8 (j:=j+1) h1
 obtain ⟨b5,rfl,k3⟩:=has_bits5 (j:=j) h2
 exact ⟨⟨m1,b5⟩,rfl,q1,k3⟩
theorem has_pplan {j:Nat} {fs:List FV} (h:HasT Tryz.prog (j+7) 31 fs):∃ x:PPl,fs=x.enc∧x.Ok:=by
 obtain ⟨parts,rfl,hp⟩:=hasT_struct h Tryz.underlying31
 obtain ⟨a,b,c,d,rfl,h1,h2,h3,h4⟩:=all2_four hp
 obtain ⟨x1,rfl,k1⟩:=has_oplan (j:=j) h1
 obtain ⟨l2,rfl,n2,g2⟩:=hasT_slice (n:=j+5) (p:=fun _:UInt8=>True) h2 Tryz.underlying27 (fun x hx=>has_byte (j:=j+4) hx)
 obtain ⟨l3,rfl,n3,g3⟩:=hasT_slice (n:=j+5) (p:=Sd8.Ok) h3 Tryz.underlying28 (fun x hx=>has_sound (j:=j+3) hx)
 obtain ⟨l4,rfl,n4,g4⟩:=hasT_slice (n:=j+5) (p:=Mrk.Ok) h4 Tryz.underlying29 (fun x hx=>has_mark (j:=j+2) hx)
 simp only [maxLen] at n2 n3 n4
 exact ⟨⟨x1,l2,l3,l4⟩,rfl,k1,by simp only;omega,by simp only;omega,by simp only;omega,g3,g4⟩
noncomputable instance (a b:Nts):Decidable (a=b):=Classical.propDecidable _
end Go.Proofs.YtnhdddmhkhdlhaaGreatDoor
namespace Go.Proofs.YtnhdddmhkhdlhaaGreatDoor
open Go Go.Am Go.Vm
attribute [local irreducible] VVal VOps VOpsD VWp VCalls VFun VFunV QSeq QBlk QLoop Vm.Done DoneV DoneI
structure Slp where
 kind:Nat
 at_:Nat
instance:Enc Slp:={ default:=⟨0,0⟩,enc:=fun x=>[.int .u8 (x.kind:Int),.int .u8 (x.at_:Int)],size:=2,len:=fun _=>rfl }
structure Slp.Ok (x:Slp):Prop where
 kind:x.kind<256
 at_:x.at_<256
structure OrgL (n:Nat) (o:Org):Prop where
 sm:OrgSm o
 ranks:o.ranks.length≤n
 divs:o.divs.length≤n
 cpls:o.cpls.length≤n
 stops:∀ i,i<o.divs.length→(gi o.divs i).stops.length≤n
def chA:List (List UInt8):=[[],[55],[97,32,98],[70,105,110,101]]
def chB:List (List UInt8):=[[],[82,48],[82,57]]
def chC:List (List UInt8):=[[],[68,48],[68,49],[83,111,108,111]]
def chD:List (List UInt8):=[[],[83,49],[84],[83,50]]
def chE:List (List UInt8):=[[],[67,48],[68,48]]
def cpA:List Cps:=[⟨-1,40⟩,⟨50,40⟩,⟨0,128⟩,⟨0,127⟩]
def appK {α:Type} (f:List α→α) (l:List α):Nat→List α
 |0=>l
 |k+1=>appK f l k++[f (appK f l k)]
theorem appK_len {α:Type} (f:List α→α) (l:List α):∀ k,(appK f l k).length=l.length+k
 |0=>rfl
 |k+1=>by simp [appK,appK_len f l k];omega
def orgEnc (nm:List UInt8) (R:List Rnk) (nr:Nat) (D:List Dvs) (nd:Nat) (C:List Cpl) (nc:Nat):List FV:=[.str (bs nm),.lst 123 (cells R) nr,.lst 111 (cells D) nd,.lst 129 (cells C) nc]
theorem orgEnc_eq {nm:List UInt8} {R:List Rnk} {nr:Nat} {D:List Dvs} {nd:Nat} {C:List Cpl} {nc:Nat} (h1:R.length=nr) (h2:D.length=nd) (h3:C.length=nc):Enc.enc (⟨nm,R,D,C⟩:Org)=orgEnc nm R nr D nd C nc:=by subst h1;subst h2;subst h3;rfl
theorem chg0 (o:Org) (n:Nat) (hn:n≤1000) (hl:OrgL n o) (hr0:0<o.ranks.length) (hd0:0<o.divs.length) (K A:Nat) (hK:K<256) (hA:A<256) (hc:K % 16=0∨K % 16=14∨K % 16=15) :
 VFun env 14 [.agg (Enc.enc o),.agg [.int .u8 (K:Int),.int .u8 (A:Int)]] (.p (.agg (Enc.enc (⟨o.name,o.ranks,o.divs.set (A % o.divs.length) (gi o.divs (A % o.divs.length)),o.cpls⟩:Org)))):=by
 have hr:=hl.ranks
 have hd:=hl.divs
 have hcp:=hl.cpls
 have kd:A % o.divs.length<o.divs.length:=Nat.mod_lt _ hd0
 have kr:A % o.ranks.length<o.ranks.length:=Nat.mod_lt _ hr0
 have hst:=hl.stops _ kd
 rw [orgEnc_eq (nr:=o.ranks.length) (nd:=o.divs.length) (nc:=o.cpls.length) rfl List.length_set rfl]
 refine VFun.enter (env_none (by decide)) Tryz.func14 rfl (by kernel_rfl) (by simp [Tryz.ntmps14]) ?_
 repeat' (first|(refine VWp.at 47 ?_;refine VWp.ghost (Ghost.freezeCell 9 4 rfl rfl rfl) ?_;first|apply VWp.rseq|apply VWp.rseqD)|(refine VWp.at 49 ?_;refine VWp.ghost (Ghost.trans (Ghost.freezeCell 0 1 rfl rfl rfl) (Ghost.trans (Ghost.freezeCell 0 2 rfl rfl rfl) (Ghost.freezeCell 0 3 rfl rfl rfl))) ?_;first|apply VWp.rseq|apply VWp.rseqD)|apply VWp.assoc|apply VWp.rseq|apply VWp.rseqD|apply VWp.blockSeq|apply QSeq.normal|apply QBlk.normal|apply VWp.ret|apply VWp.skip|apply VOps.nil|apply VOpsD.nil|apply VOps.one|(apply VOpsD.bar;decide +kernel)|apply VOpsD.quiet|(apply VVal.storeVL (y:=(gi o.divs (A % o.divs.length)));rfl;rfl;rfl;trivial;(first|rfl|(refine congrArg (fun t=>[PV.p (FV.int _ t)]) ?_;first|omega|(simp only [Int.natCast_add,Int.natCast_mul,Int.natCast_ediv,Int.natCast_emod]<;>omega)));rfl;rfl;decide;(first|omega|(simp only [List.length_set]<;>omega)))|(apply VVal.remN;rfl;rfl;omega)|(apply VVal.indexVN (i:=A % o.divs.length);rfl;rfl;rfl;rfl;exact kd)|(apply VVal.loadVL (i:=A % o.divs.length);rfl;rfl;exact kd;rfl)|(apply VVal.assign;rfl)|(apply VVal.move;rfl)|(apply VVal.remI;rfl;rfl;omega;omega)|(apply VVal.int;rfl;rfl;rfl)|(apply VVal.load;rfl;rfl)|(apply VVal.lenV;rfl;rfl;rfl)|(apply VVal.fieldB;rfl;rfl;rfl)|(apply VVal.box;rfl;trivial)|(apply VVal.alloc;rfl)|(apply VVal.storeB;rfl;rfl;rfl;trivial;rfl;rfl;exact lt_dec rfl;exact le_dec rfl)|(apply VVal.buildSlice;rfl;rfl;rfl;decide;rfl;rfl;rfl)|(apply VVal.convI;rfl;rfl;rfl;rfl;omega)|(apply VVal.appendL0;rfl;rfl;rfl;(first|rfl|omega|(simp only [List.length_take,List.length_drop,List.length_append,List.length_singleton,List.length_cons,List.length_nil]<;>omega));rfl;rfl;(intro _ h;cases h);rfl;rfl;rfl;decide;decide;(first|omega|(simp only [List.length_take,List.length_drop,List.length_append,List.length_singleton,List.length_cons,List.length_nil]<;>omega)))|(apply VWp.condSeq_dec;rfl)|(apply VWp.cond_dec;rfl)|(intro _;try (exfalso;omega)))
 all_goals first|(exfalso;omega)|contradiction|(refine Done.ret rfl (.refl _) (by first|exact trivial|exact ⟨trivial,trivial,trivial⟩|exact ⟨trivial,trivial,trivial,trivial⟩) HCov.nil (Nat.zero_le _) (Nat.le_refl _) ⟨?_,rfl,rfl⟩;try rfl)
end Go.Proofs.YtnhdddmhkhdlhaaGreatDoor
namespace Go.Proofs.YtnhdddmhkhdlhaaGreatDoor
open Go Go.Am Go.Vm
attribute [local irreducible] VVal VOps VOpsD VWp VCalls VFun VFunV QSeq QBlk QLoop Vm.Done DoneV DoneI
theorem chg1 (o:Org) (n:Nat) (hn:n≤1000) (hl:OrgL n o) (hr0:0<o.ranks.length) (hd0:0<o.divs.length) (K A:Nat) (hK:K<256) (hA:A<256) (hc:K % 16=1) :
 VFun env 14 [.agg (Enc.enc o),.agg [.int .u8 (K:Int),.int .u8 (A:Int)]] (.p (.agg (Enc.enc (⟨gi chA (A % 4),o.ranks,o.divs.set (A % o.divs.length) (gi o.divs (A % o.divs.length)),o.cpls⟩:Org)))):=by
 have hr:=hl.ranks
 have hd:=hl.divs
 have hcp:=hl.cpls
 have kd:A % o.divs.length<o.divs.length:=Nat.mod_lt _ hd0
 have kr:A % o.ranks.length<o.ranks.length:=Nat.mod_lt _ hr0
 have hst:=hl.stops _ kd
 have a4:A % 4<chA.length:=Nat.mod_lt _ (by decide)
 rw [orgEnc_eq (nr:=o.ranks.length) (nd:=o.divs.length) (nc:=o.cpls.length) rfl List.length_set rfl]
 refine VFun.enter (env_none (by decide)) Tryz.func14 rfl (by kernel_rfl) (by simp [Tryz.ntmps14]) ?_
 repeat' (first|(refine VWp.at 47 ?_;refine VWp.ghost (Ghost.freezeCell 9 4 rfl rfl rfl) ?_;first|apply VWp.rseq|apply VWp.rseqD)|(refine VWp.at 49 ?_;refine VWp.ghost (Ghost.trans (Ghost.freezeCell 0 1 rfl rfl rfl) (Ghost.trans (Ghost.freezeCell 0 2 rfl rfl rfl) (Ghost.freezeCell 0 3 rfl rfl rfl))) ?_;first|apply VWp.rseq|apply VWp.rseqD)|(refine VOps.atOp 61 ?_;refine VOps.ghost (Ghost.freeze 57 rfl rfl) ?_)|apply VWp.assoc|apply VWp.rseq|apply VWp.rseqD|apply VWp.region|apply VWp.blockSeq|apply QSeq.normal|apply QBlk.normal|apply VWp.ret|apply VOps.nil|apply VOpsD.nil|apply VOps.one|(apply VOpsD.bar;decide +kernel)|apply VOpsD.quiet|(apply VVal.indexN (l:=chA) (i:=A % 4);rfl;rfl;rfl;exact a4;rfl)|(apply VVal.storeVL (y:=(gi o.divs (A % o.divs.length)));rfl;rfl;rfl;trivial;(first|rfl|(refine congrArg (fun t=>[PV.p (FV.int _ t)]) ?_;first|omega|(simp only [Int.natCast_add,Int.natCast_mul,Int.natCast_ediv,Int.natCast_emod]<;>omega)));rfl;rfl;decide;(first|omega|(simp only [List.length_set]<;>omega)))|(apply VVal.remN;rfl;rfl;omega)|(apply VVal.indexVN (i:=A % o.divs.length);rfl;rfl;rfl;rfl;exact kd)|(apply VVal.loadVL (i:=A % o.divs.length);rfl;rfl;exact kd;rfl)|(apply VVal.assign;rfl)|(apply VVal.move;rfl)|(apply VVal.remI;rfl;rfl;omega;omega)|(apply VVal.int;rfl;rfl;rfl)|(apply VVal.load;rfl;rfl)|(apply VVal.lenV;rfl;rfl;rfl)|(apply VVal.fieldB;rfl;rfl;rfl)|(apply VVal.box;rfl;trivial)|(apply VVal.alloc;rfl)|(apply VVal.storeB;rfl;rfl;rfl;trivial;rfl;rfl;exact lt_dec rfl;exact le_dec rfl)|(apply VVal.buildSlice;rfl;rfl;rfl;decide;rfl;rfl;rfl)|(apply VVal.convI;rfl;rfl;rfl;rfl;omega)|(apply VVal.appendL0;rfl;rfl;rfl;(first|rfl|omega|(simp only [List.length_take,List.length_drop,List.length_append,List.length_singleton,List.length_cons,List.length_nil]<;>omega));rfl;rfl;(intro _ h;cases h);rfl;rfl;rfl;decide;decide;(first|omega|(simp only [List.length_take,List.length_drop,List.length_append,List.length_singleton,List.length_cons,List.length_nil]<;>omega)))|(apply VWp.condSeq_dec;rfl)|(apply VWp.cond_dec;rfl)|(intro _;try (exfalso;omega)))
 all_goals first|(exfalso;omega)|contradiction|(refine Done.ret rfl (.refl _) (by first|exact trivial|exact ⟨trivial,trivial,trivial⟩|exact ⟨trivial,trivial,trivial,trivial⟩) HCov.nil (Nat.zero_le _) (Nat.le_refl _) ⟨?_,rfl,rfl⟩;try rfl)
theorem chg2 (o:Org) (n:Nat) (hn:n≤1000) (hl:OrgL n o) (hr0:0<o.ranks.length) (hd0:0<o.divs.length) (K A:Nat) (hK:K<256) (hA:A<256) (hc:K % 16=2) :
 VFun env 14 [.agg (Enc.enc o),.agg [.int .u8 (K:Int),.int .u8 (A:Int)]] (.p (.agg (Enc.enc (⟨o.name,o.ranks.set (A % o.ranks.length) (⟨(gi o.ranks (A % o.ranks.length)).name,(gi o.ranks (A % o.ranks.length)).tone,(gi o.ranks (A % o.ranks.length)).feet,(gi o.ranks (A % o.ranks.length)).first,[]⟩:Rnk),o.divs.set (A % o.divs.length) (gi o.divs (A % o.divs.length)),o.cpls⟩:Org)))):=by
 have hr:=hl.ranks
 have hd:=hl.divs
 have hcp:=hl.cpls
 have kd:A % o.divs.length<o.divs.length:=Nat.mod_lt _ hd0
 have kr:A % o.ranks.length<o.ranks.length:=Nat.mod_lt _ hr0
 have hst:=hl.stops _ kd
 rw [orgEnc_eq (nr:=o.ranks.length) (nd:=o.divs.length) (nc:=o.cpls.length) List.length_set List.length_set rfl]
 refine VFun.enter (env_none (by decide)) Tryz.func14 rfl (by kernel_rfl) (by simp [Tryz.ntmps14]) ?_
 repeat' (first|(refine VWp.at 47 ?_;refine VWp.ghost (Ghost.freezeCell 9 4 rfl rfl rfl) ?_;first|apply VWp.rseq|apply VWp.rseqD)|(refine VWp.at 49 ?_;refine VWp.ghost (Ghost.trans (Ghost.freezeCell 0 1 rfl rfl rfl) (Ghost.trans (Ghost.freezeCell 0 2 rfl rfl rfl) (Ghost.freezeCell 0 3 rfl rfl rfl))) ?_;first|apply VWp.rseq|apply VWp.rseqD)|apply VWp.assoc|apply VWp.rseq|apply VWp.rseqD|apply VWp.region|apply VWp.blockSeq|apply QSeq.normal|apply QBlk.normal|apply VWp.ret|apply VOps.nil|apply VOpsD.nil|apply VOps.one|(apply VOpsD.bar;decide +kernel)|apply VOpsD.quiet|(apply VVal.indexVN (i:=A % o.ranks.length);rfl;rfl;rfl;rfl;exact kr)|(apply VVal.fieldV;rfl;rfl;rfl)|(apply VVal.storeVF (i:=A % o.ranks.length) (f:=5) (fs:=[.val (.slice none 0 0)]) (⟨(gi o.ranks (A % o.ranks.length)).name,(gi o.ranks (A % o.ranks.length)).tone,(gi o.ranks (A % o.ranks.length)).feet,(gi o.ranks (A % o.ranks.length)).first,[]⟩:Rnk);rfl;rfl;rfl;trivial;rfl;rfl;rfl;decide;exact kr;decide;exact .cons (.refl _) (.cons (.refl _) (.cons (.refl _) (.cons (.refl _) (.cons (.refl _) (.cons (.nil _) (.refl _)))))))|(apply VVal.storeVL (y:=(gi o.divs (A % o.divs.length)));rfl;rfl;rfl;trivial;(first|rfl|(refine congrArg (fun t=>[PV.p (FV.int _ t)]) ?_;first|omega|(simp only [Int.natCast_add,Int.natCast_mul,Int.natCast_ediv,Int.natCast_emod]<;>omega)));rfl;rfl;decide;(first|omega|(simp only [List.length_set]<;>omega)))|(apply VVal.remN;rfl;rfl;omega)|(apply VVal.indexVN (i:=A % o.divs.length);rfl;rfl;rfl;rfl;exact kd)|(apply VVal.loadVL (i:=A % o.divs.length);rfl;rfl;exact kd;rfl)|(apply VVal.assign;rfl)|(apply VVal.move;rfl)|(apply VVal.remI;rfl;rfl;omega;omega)|(apply VVal.int;rfl;rfl;rfl)|(apply VVal.load;rfl;rfl)|(apply VVal.lenV;rfl;rfl;rfl)|(apply VVal.fieldB;rfl;rfl;rfl)|(apply VVal.box;rfl;trivial)|(apply VVal.alloc;rfl)|(apply VVal.storeB;rfl;rfl;rfl;trivial;rfl;rfl;exact lt_dec rfl;exact le_dec rfl)|(apply VVal.buildSlice;rfl;rfl;rfl;decide;rfl;rfl;rfl)|(apply VVal.convI;rfl;rfl;rfl;rfl;omega)|(apply VVal.appendL0;rfl;rfl;rfl;(first|rfl|omega|(simp only [List.length_take,List.length_drop,List.length_append,List.length_singleton,List.length_cons,List.length_nil]<;>omega));rfl;rfl;(intro _ h;cases h);rfl;rfl;rfl;decide;decide;(first|omega|(simp only [List.length_take,List.length_drop,List.length_append,List.length_singleton,List.length_cons,List.length_nil]<;>omega)))|(apply VWp.condSeq_dec;rfl)|(apply VWp.cond_dec;rfl)|(intro _;try (exfalso;omega)))
 all_goals first|(exfalso;omega)|contradiction|(refine Done.ret rfl (.refl _) (by first|exact trivial|exact ⟨trivial,trivial,trivial⟩|exact ⟨trivial,trivial,trivial,trivial⟩) HCov.nil (Nat.zero_le _) (Nat.le_refl _) ⟨?_,rfl,rfl⟩;try rfl)
theorem chg3 (o:Org) (n:Nat) (hn:n≤1000) (hl:OrgL n o) (hr0:0<o.ranks.length) (hd0:0<o.divs.length) (K A:Nat) (hK:K<256) (hA:A<256) (hc:K % 16=3) :
 VFun env 14 [.agg (Enc.enc o),.agg [.int .u8 (K:Int),.int .u8 (A:Int)]] (.p (.agg (Enc.enc (⟨o.name,o.ranks.set (A % o.ranks.length) (⟨gi chB (A % 3),(gi o.ranks (A % o.ranks.length)).tone,(gi o.ranks (A % o.ranks.length)).feet,(gi o.ranks (A % o.ranks.length)).first,(gi o.ranks (A % o.ranks.length)).wind⟩:Rnk),o.divs.set (A % o.divs.length) (gi o.divs (A % o.divs.length)),o.cpls⟩:Org)))):=by
 have hr:=hl.ranks
 have hd:=hl.divs
 have hcp:=hl.cpls
 have kd:A % o.divs.length<o.divs.length:=Nat.mod_lt _ hd0
 have kr:A % o.ranks.length<o.ranks.length:=Nat.mod_lt _ hr0
 have hst:=hl.stops _ kd
 have a4:A % 3<chB.length:=Nat.mod_lt _ (by decide)
 rw [orgEnc_eq (nr:=o.ranks.length) (nd:=o.divs.length) (nc:=o.cpls.length) List.length_set List.length_set rfl]
 refine VFun.enter (env_none (by decide)) Tryz.func14 rfl (by kernel_rfl) (by simp [Tryz.ntmps14]) ?_
 repeat' (first|(refine VWp.at 47 ?_;refine VWp.ghost (Ghost.freezeCell 9 4 rfl rfl rfl) ?_;first|apply VWp.rseq|apply VWp.rseqD)|(refine VWp.at 49 ?_;refine VWp.ghost (Ghost.trans (Ghost.freezeCell 0 1 rfl rfl rfl) (Ghost.trans (Ghost.freezeCell 0 2 rfl rfl rfl) (Ghost.freezeCell 0 3 rfl rfl rfl))) ?_;first|apply VWp.rseq|apply VWp.rseqD)|(refine VOpsD.atOp 80 ?_;refine VOpsD.ghost (Ghost.freeze 76 rfl rfl) ?_)|apply VWp.assoc|apply VWp.rseq|apply VWp.rseqD|apply VWp.regionD|apply VWp.blockSeq|apply QSeq.normal|apply QBlk.normal|apply VWp.ret|apply VOps.nil|apply VOpsD.nil|apply VOps.one|(apply VOpsD.bar;decide +kernel)|apply VOpsD.quiet|(apply VVal.indexN (l:=chB) (i:=A % 3);rfl;rfl;rfl;exact a4;rfl)|(apply VVal.indexVN (i:=A % o.ranks.length);rfl;rfl;rfl;rfl;exact kr)|(apply VVal.fieldV;rfl;rfl;rfl)|(apply VVal.storeVF (i:=A % o.ranks.length) (f:=0) (fs:=[.str (bs (gi chB (A % 3)))]) (⟨gi chB (A % 3),(gi o.ranks (A % o.ranks.length)).tone,(gi o.ranks (A % o.ranks.length)).feet,(gi o.ranks (A % o.ranks.length)).first,(gi o.ranks (A % o.ranks.length)).wind⟩:Rnk);rfl;rfl;rfl;trivial;rfl;rfl;rfl;decide;exact kr;decide;exact .refl _)|(apply VVal.storeVL (y:=(gi o.divs (A % o.divs.length)));rfl;rfl;rfl;trivial;(first|rfl|(refine congrArg (fun t=>[PV.p (FV.int _ t)]) ?_;first|omega|(simp only [Int.natCast_add,Int.natCast_mul,Int.natCast_ediv,Int.natCast_emod]<;>omega)));rfl;rfl;decide;(first|omega|(simp only [List.length_set]<;>omega)))|(apply VVal.remN;rfl;rfl;omega)|(apply VVal.indexVN (i:=A % o.divs.length);rfl;rfl;rfl;rfl;exact kd)|(apply VVal.loadVL (i:=A % o.divs.length);rfl;rfl;exact kd;rfl)|(apply VVal.assign;rfl)|(apply VVal.move;rfl)|(apply VVal.remI;rfl;rfl;omega;omega)|(apply VVal.int;rfl;rfl;rfl)|(apply VVal.load;rfl;rfl)|(apply VVal.lenV;rfl;rfl;rfl)|(apply VVal.fieldB;rfl;rfl;rfl)|(apply VVal.box;rfl;trivial)|(apply VVal.alloc;rfl)|(apply VVal.storeB;rfl;rfl;rfl;trivial;rfl;rfl;exact lt_dec rfl;exact le_dec rfl)|(apply VVal.buildSlice;rfl;rfl;rfl;decide;rfl;rfl;rfl)|(apply VVal.convI;rfl;rfl;rfl;rfl;omega)|(apply VVal.appendL0;rfl;rfl;rfl;(first|rfl|omega|(simp only [List.length_take,List.length_drop,List.length_append,List.length_singleton,List.length_cons,List.length_nil]<;>omega));rfl;rfl;(intro _ h;cases h);rfl;rfl;rfl;decide;decide;(first|omega|(simp only [List.length_take,List.length_drop,List.length_append,List.length_singleton,List.length_cons,List.length_nil]<;>omega)))|(apply VWp.condSeq_dec;rfl)|(apply VWp.cond_dec;rfl)|(intro _;try (exfalso;omega)))
 all_goals first|(exfalso;omega)|contradiction|(refine Done.ret rfl (.refl _) (by first|exact trivial|exact ⟨trivial,trivial,trivial⟩|exact ⟨trivial,trivial,trivial,trivial⟩) HCov.nil (Nat.zero_le _) (Nat.le_refl _) ⟨?_,rfl,rfl⟩;try rfl)
end Go.Proofs.YtnhdddmhkhdlhaaGreatDoor
namespace Go.Proofs.YtnhdddmhkhdlhaaGreatDoor
open Go Go.Am Go.Vm
attribute [local irreducible] VVal VOps VOpsD VWp VCalls VFun VFunV QSeq QBlk QLoop Vm.Done DoneV DoneI
theorem chg5 (o:Org) (n:Nat) (hn:n≤1000) (hl:OrgL n o) (hr0:0<o.ranks.length) (hd0:0<o.divs.length) (K A:Nat) (hK:K<256) (hA:A<256) (hc:K % 16=5) :
 VFun env 14 [.agg (Enc.enc o),.agg [.int .u8 (K:Int),.int .u8 (A:Int)]] (.p (.agg (Enc.enc (⟨o.name,o.ranks,[],o.cpls⟩:Org)))):=by
 have hr:=hl.ranks
 have hd:=hl.divs
 have hcp:=hl.cpls
 have kd:A % o.divs.length<o.divs.length:=Nat.mod_lt _ hd0
 have kr:A % o.ranks.length<o.ranks.length:=Nat.mod_lt _ hr0
 have hst:=hl.stops _ kd
 rw [orgEnc_eq (nr:=o.ranks.length) (nd:=0) (D:=[]) (nc:=o.cpls.length) rfl rfl rfl]
 refine VFun.enter (env_none (by decide)) Tryz.func14 rfl (by kernel_rfl) (by simp [Tryz.ntmps14]) ?_
 repeat' (first|(refine VWp.at 49 ?_;refine VWp.ghost (Ghost.trans (Ghost.freezeCell 0 1 rfl rfl rfl) (Ghost.trans (Ghost.freezeCell 0 3 rfl rfl rfl) (Ghost.trans (Ghost.adoptCell 0 2 111 rfl rfl) (Ghost.freezeCell 0 2 rfl rfl rfl)))) ?_;first|apply VWp.rseq|apply VWp.rseqD)|apply VWp.assoc|apply VWp.rseq|apply VWp.rseqD|apply VWp.region|apply VWp.skipSeq|apply VWp.blockSeq|apply QSeq.normal|apply QBlk.normal|apply VWp.ret|apply VOps.nil|apply VOpsD.nil|apply VOps.one|(apply VOpsD.bar;decide +kernel)|apply VOpsD.quiet|(apply VVal.remN;rfl;rfl;omega)|(apply VVal.indexVN (i:=A % o.divs.length);rfl;rfl;rfl;rfl;exact kd)|(apply VVal.loadVL (i:=A % o.divs.length);rfl;rfl;exact kd;rfl)|(apply VVal.assign;rfl)|(apply VVal.move;rfl)|(apply VVal.remI;rfl;rfl;omega;omega)|(apply VVal.int;rfl;rfl;rfl)|(apply VVal.load;rfl;rfl)|(apply VVal.lenNil;rfl;rfl)|(apply VVal.lenV;rfl;rfl;rfl)|(apply VVal.fieldB;rfl;rfl;rfl)|(apply VVal.box;rfl;trivial)|(apply VVal.alloc;rfl)|(apply VVal.storeB;rfl;rfl;rfl;trivial;rfl;rfl;exact lt_dec rfl;exact le_dec rfl)|(apply VVal.buildSlice;rfl;rfl;rfl;decide;rfl;rfl;rfl)|(apply VVal.convI;rfl;rfl;rfl;rfl;omega)|(apply VVal.appendL0;rfl;rfl;rfl;(first|rfl|omega|(simp only [List.length_take,List.length_drop,List.length_append,List.length_singleton,List.length_cons,List.length_nil]<;>omega));rfl;rfl;(intro _ h;cases h);rfl;rfl;rfl;decide;decide;(first|omega|(simp only [List.length_take,List.length_drop,List.length_append,List.length_singleton,List.length_cons,List.length_nil]<;>omega)))|(apply VWp.condSeq_false;rfl)|(apply VWp.cond_dec;rfl)|(intro _;try (exfalso;omega)))
 all_goals first|(exfalso;omega)|contradiction|(refine Done.ret rfl (.refl _) (by first|exact trivial|exact ⟨trivial,trivial,trivial⟩|exact ⟨trivial,trivial,trivial,trivial⟩) HCov.nil (Nat.zero_le _) (Nat.le_refl _) ⟨?_,rfl,rfl⟩;try rfl)
theorem chg7 (o:Org) (n:Nat) (hn:n≤1000) (hl:OrgL n o) (hr0:0<o.ranks.length) (hd0:0<o.divs.length) (K A:Nat) (hK:K<256) (hA:A<256) (hc:K % 16=7) :
 VFun env 14 [.agg (Enc.enc o),.agg [.int .u8 (K:Int),.int .u8 (A:Int)]] (.p (.agg (Enc.enc (⟨o.name,o.ranks,o.divs.set (A % o.divs.length) (⟨gi chC (A % 4),(gi o.divs (A % o.divs.length)).pedal,(gi o.divs (A % o.divs.length)).lo,(gi o.divs (A % o.divs.length)).hi,(gi o.divs (A % o.divs.length)).stops⟩:Dvs),o.cpls⟩:Org)))):=by
 have hr:=hl.ranks
 have hd:=hl.divs
 have hcp:=hl.cpls
 have kd:A % o.divs.length<o.divs.length:=Nat.mod_lt _ hd0
 have kr:A % o.ranks.length<o.ranks.length:=Nat.mod_lt _ hr0
 have hst:=hl.stops _ kd
 have a4:A % 4<chC.length:=Nat.mod_lt _ (by decide)
 rw [orgEnc_eq (nr:=o.ranks.length) (nd:=o.divs.length) (nc:=o.cpls.length) rfl List.length_set rfl]
 refine VFun.enter (env_none (by decide)) Tryz.func14 rfl (by kernel_rfl) (by simp [Tryz.ntmps14]) ?_
 repeat' (first|(refine VWp.at 47 ?_;refine VWp.ghost (Ghost.freezeCell 9 4 rfl rfl rfl) ?_;first|apply VWp.rseq|apply VWp.rseqD)|(refine VWp.at 49 ?_;refine VWp.ghost (Ghost.trans (Ghost.freezeCell 0 1 rfl rfl rfl) (Ghost.trans (Ghost.freezeCell 0 2 rfl rfl rfl) (Ghost.freezeCell 0 3 rfl rfl rfl))) ?_;first|apply VWp.rseq|apply VWp.rseqD)|(refine VOps.atOp 154 ?_;refine VOps.ghost (Ghost.freeze 150 rfl rfl) ?_)|apply VWp.assoc|apply VWp.rseq|apply VWp.rseqD|apply VWp.region|apply VWp.blockSeq|apply QSeq.normal|apply QBlk.normal|apply VWp.ret|apply VOps.nil|apply VOpsD.nil|apply VOps.one|(apply VOpsD.bar;decide +kernel)|apply VOpsD.quiet|(apply VVal.indexN (l:=chC) (i:=A % 4);rfl;rfl;rfl;exact a4;rfl)|(apply VVal.storeVL (y:=(⟨gi chC (A % 4),(gi o.divs (A % o.divs.length)).pedal,(gi o.divs (A % o.divs.length)).lo,(gi o.divs (A % o.divs.length)).hi,(gi o.divs (A % o.divs.length)).stops⟩:Dvs));rfl;rfl;rfl;trivial;(first|rfl|(refine congrArg (fun t=>[PV.p (FV.int _ t)]) ?_;first|omega|(simp only [Int.natCast_add,Int.natCast_mul,Int.natCast_ediv,Int.natCast_emod]<;>omega)));rfl;rfl;decide;(first|omega|(simp only [List.length_set]<;>omega)))|(apply VVal.remN;rfl;rfl;omega)|(apply VVal.indexVN (i:=A % o.divs.length);rfl;rfl;rfl;rfl;exact kd)|(apply VVal.loadVL (i:=A % o.divs.length);rfl;rfl;exact kd;rfl)|(apply VVal.assign;rfl)|(apply VVal.move;rfl)|(apply VVal.remI;rfl;rfl;omega;omega)|(apply VVal.int;rfl;rfl;rfl)|(apply VVal.load;rfl;rfl)|(apply VVal.lenV;rfl;rfl;rfl)|(apply VVal.fieldB;rfl;rfl;rfl)|(apply VVal.box;rfl;trivial)|(apply VVal.alloc;rfl)|(apply VVal.storeB;rfl;rfl;rfl;trivial;rfl;rfl;exact lt_dec rfl;exact le_dec rfl)|(apply VVal.buildSlice;rfl;rfl;rfl;decide;rfl;rfl;rfl)|(apply VVal.convI;rfl;rfl;rfl;rfl;omega)|(apply VVal.appendL0;rfl;rfl;rfl;(first|rfl|omega|(simp only [List.length_take,List.length_drop,List.length_append,List.length_singleton,List.length_cons,List.length_nil]<;>omega));rfl;rfl;(intro _ h;cases h);rfl;rfl;rfl;decide;decide;(first|omega|(simp only [List.length_take,List.length_drop,List.length_append,List.length_singleton,List.length_cons,List.length_nil]<;>omega)))|(apply VWp.condSeq_dec;rfl)|(apply VWp.cond_dec;rfl)|(intro _;try (exfalso;omega)))
 all_goals first|(exfalso;omega)|contradiction|(refine Done.ret rfl (.refl _) (by first|exact trivial|exact ⟨trivial,trivial,trivial⟩|exact ⟨trivial,trivial,trivial,trivial⟩) HCov.nil (Nat.zero_le _) (Nat.le_refl _) ⟨?_,rfl,rfl⟩;try rfl)
theorem chg8 (o:Org) (n:Nat) (hn:n≤1000) (hl:OrgL n o) (hr0:0<o.ranks.length) (hd0:0<o.divs.length) (K A:Nat) (hK:K<256) (hA:A<256) (hc:K % 16=8) :
 VFun env 14 [.agg (Enc.enc o),.agg [.int .u8 (K:Int),.int .u8 (A:Int)]] (.p (.agg (Enc.enc (⟨o.name,o.ranks,o.divs.set (A % o.divs.length) (⟨(gi o.divs (A % o.divs.length)).name,(gi o.divs (A % o.divs.length)).pedal,(gi cpA (A % 4)).lo,(gi cpA (A % 4)).hi,(gi o.divs (A % o.divs.length)).stops⟩:Dvs),o.cpls⟩:Org)))):=by
 have hr:=hl.ranks
 have hd:=hl.divs
 have hcp:=hl.cpls
 have kd:A % o.divs.length<o.divs.length:=Nat.mod_lt _ hd0
 have kr:A % o.ranks.length<o.ranks.length:=Nat.mod_lt _ hr0
 have hst:=hl.stops _ kd
 have a4:A % 4<cpA.length:=Nat.mod_lt _ (by decide)
 rw [orgEnc_eq (nr:=o.ranks.length) (nd:=o.divs.length) (nc:=o.cpls.length) rfl List.length_set rfl]
 refine VFun.enter (env_none (by decide)) Tryz.func14 rfl (by kernel_rfl) (by simp [Tryz.ntmps14]) ?_
 repeat' (first|(refine VWp.at 47 ?_;refine VWp.ghost (Ghost.freezeCell 9 4 rfl rfl rfl) ?_;first|apply VWp.rseq|apply VWp.rseqD)|(refine VWp.at 49 ?_;refine VWp.ghost (Ghost.trans (Ghost.freezeCell 0 1 rfl rfl rfl) (Ghost.trans (Ghost.freezeCell 0 2 rfl rfl rfl) (Ghost.freezeCell 0 3 rfl rfl rfl))) ?_;first|apply VWp.rseq|apply VWp.rseqD)|(refine VOps.atOp 167 ?_;refine VOps.ghost (Ghost.freeze 163 rfl rfl) ?_)|apply VWp.assoc|apply VWp.rseq|apply VWp.rseqD|apply VWp.region|apply VWp.blockSeq|apply QSeq.normal|apply QBlk.normal|apply VWp.ret|apply VOps.nil|apply VOpsD.nil|apply VOps.one|(apply VOpsD.bar;decide +kernel)|apply VOpsD.quiet|(apply VVal.indexN (l:=cpA) (i:=A % 4);rfl;rfl;rfl;exact a4;rfl)|(apply VVal.storeVL (y:=(⟨(gi o.divs (A % o.divs.length)).name,(gi o.divs (A % o.divs.length)).pedal,(gi cpA (A % 4)).lo,(gi cpA (A % 4)).hi,(gi o.divs (A % o.divs.length)).stops⟩:Dvs));rfl;rfl;rfl;trivial;(first|rfl|(refine congrArg (fun t=>[PV.p (FV.int _ t)]) ?_;first|omega|(simp only [Int.natCast_add,Int.natCast_mul,Int.natCast_ediv,Int.natCast_emod]<;>omega)));rfl;rfl;decide;(first|omega|(simp only [List.length_set]<;>omega)))|(apply VVal.remN;rfl;rfl;omega)|(apply VVal.indexVN (i:=A % o.divs.length);rfl;rfl;rfl;rfl;exact kd)|(apply VVal.loadVL (i:=A % o.divs.length);rfl;rfl;exact kd;rfl)|(apply VVal.assign;rfl)|(apply VVal.move;rfl)|(apply VVal.remI;rfl;rfl;omega;omega)|(apply VVal.int;rfl;rfl;rfl)|(apply VVal.load;rfl;rfl)|(apply VVal.lenV;rfl;rfl;rfl)|(apply VVal.fieldB;rfl;rfl;rfl)|(apply VVal.box;rfl;trivial)|(apply VVal.alloc;rfl)|(apply VVal.storeB;rfl;rfl;rfl;trivial;rfl;rfl;exact lt_dec rfl;exact le_dec rfl)|(apply VVal.build;rfl;rfl;rfl;rfl;rfl)|(apply VVal.buildSlice;rfl;rfl;rfl;decide;rfl;rfl;rfl)|(apply VVal.convI;rfl;rfl;rfl;rfl;omega)|(apply VVal.appendL0;rfl;rfl;rfl;(first|rfl|omega|(simp only [List.length_take,List.length_drop,List.length_append,List.length_singleton,List.length_cons,List.length_nil]<;>omega));rfl;rfl;(intro _ h;cases h);rfl;rfl;rfl;decide;decide;(first|omega|(simp only [List.length_take,List.length_drop,List.length_append,List.length_singleton,List.length_cons,List.length_nil]<;>omega)))|(apply VWp.condSeq_dec;rfl)|(apply VWp.cond_dec;rfl)|(intro _;try (exfalso;omega)))
 all_goals first|(exfalso;omega)|contradiction|(refine Done.ret rfl (.refl _) (by first|exact trivial|exact ⟨trivial,trivial,trivial⟩|exact ⟨trivial,trivial,trivial,trivial⟩) HCov.nil (Nat.zero_le _) (Nat.le_refl _) ⟨?_,rfl,rfl⟩;try rfl)
theorem chg9n (o:Org) (n:Nat) (hn:n≤1000) (hl:OrgL n o) (hr0:0<o.ranks.length) (hd0:0<o.divs.length) (K A:Nat) (hK:K<256) (hA:A<256) (hc:K % 16=9∨K % 16=10) (h0:(gi o.divs (A % o.divs.length)).stops.length=0) :
 VFun env 14 [.agg (Enc.enc o),.agg [.int .u8 (K:Int),.int .u8 (A:Int)]] (.p (.agg (Enc.enc (⟨o.name,o.ranks,o.divs.set (A % o.divs.length) (gi o.divs (A % o.divs.length)),o.cpls⟩:Org)))):=by
 have hr:=hl.ranks
 have hd:=hl.divs
 have hcp:=hl.cpls
 have kd:A % o.divs.length<o.divs.length:=Nat.mod_lt _ hd0
 have kr:A % o.ranks.length<o.ranks.length:=Nat.mod_lt _ hr0
 have hst:=hl.stops _ kd
 rw [orgEnc_eq (nr:=o.ranks.length) (nd:=o.divs.length) (nc:=o.cpls.length) rfl List.length_set rfl]
 refine VFun.enter (env_none (by decide)) Tryz.func14 rfl (by kernel_rfl) (by simp [Tryz.ntmps14]) ?_
 repeat' (first|(refine VWp.at 47 ?_;refine VWp.ghost (Ghost.freezeCell 9 4 rfl rfl rfl) ?_;first|apply VWp.rseq|apply VWp.rseqD)|(refine VWp.at 49 ?_;refine VWp.ghost (Ghost.trans (Ghost.freezeCell 0 1 rfl rfl rfl) (Ghost.trans (Ghost.freezeCell 0 2 rfl rfl rfl) (Ghost.freezeCell 0 3 rfl rfl rfl))) ?_;first|apply VWp.rseq|apply VWp.rseqD)|apply VWp.assoc|apply VWp.rseq|apply VWp.rseqD|apply VWp.blockSeq|apply QSeq.normal|apply QBlk.normal|apply VWp.ret|apply VWp.skip|apply VOps.nil|apply VOpsD.nil|apply VOps.one|(apply VOpsD.bar;decide +kernel)|apply VOpsD.quiet|(apply VVal.storeVL (y:=(gi o.divs (A % o.divs.length)));rfl;rfl;rfl;trivial;(first|rfl|(refine congrArg (fun t=>[PV.p (FV.int _ t)]) ?_;first|omega|(simp only [Int.natCast_add,Int.natCast_mul,Int.natCast_ediv,Int.natCast_emod]<;>omega)));rfl;rfl;decide;(first|omega|(simp only [List.length_set]<;>omega)))|(apply VVal.remN;rfl;rfl;omega)|(apply VVal.indexVN (i:=A % o.divs.length);rfl;rfl;rfl;rfl;exact kd)|(apply VVal.loadVL (i:=A % o.divs.length);rfl;rfl;exact kd;rfl)|(apply VVal.assign;rfl)|(apply VVal.move;rfl)|(apply VVal.remI;rfl;rfl;omega;omega)|(apply VVal.int;rfl;rfl;rfl)|(apply VVal.load;rfl;rfl)|(apply VVal.lenV;rfl;rfl;rfl)|(apply VVal.fieldB;rfl;rfl;rfl)|(apply VVal.box;rfl;trivial)|(apply VVal.alloc;rfl)|(apply VVal.storeB;rfl;rfl;rfl;trivial;rfl;rfl;exact lt_dec rfl;exact le_dec rfl)|(apply VVal.buildSlice;rfl;rfl;rfl;decide;rfl;rfl;rfl)|(apply VVal.convI;rfl;rfl;rfl;rfl;omega)|(apply VVal.appendL0;rfl;rfl;rfl;(first|rfl|omega|(simp only [List.length_take,List.length_drop,List.length_append,List.length_singleton,List.length_cons,List.length_nil]<;>omega));rfl;rfl;(intro _ h;cases h);rfl;rfl;rfl;decide;decide;(first|omega|(simp only [List.length_take,List.length_drop,List.length_append,List.length_singleton,List.length_cons,List.length_nil]<;>omega)))|(apply VWp.condSeq_dec;rfl)|(apply VWp.cond_dec;rfl)|(intro _;try (exfalso;omega)))
 all_goals first|(exfalso;omega)|contradiction|(refine Done.ret rfl (.refl _) (by first|exact trivial|exact ⟨trivial,trivial,trivial⟩|exact ⟨trivial,trivial,trivial,trivial⟩) HCov.nil (Nat.zero_le _) (Nat.le_refl _) ⟨?_,rfl,rfl⟩;try rfl)
end Go.Proofs.YtnhdddmhkhdlhaaGreatDoor
namespace Go.Proofs.YtnhdddmhkhdlhaaGreatDoor
open Go Go.Am Go.Vm
attribute [local irreducible] VVal VOps VOpsD VWp VCalls VFun VFunV QSeq QBlk QLoop Vm.Done DoneV DoneI
theorem chg9 (o:Org) (n:Nat) (hn:n≤1000) (hl:OrgL n o) (hr0:0<o.ranks.length) (hd0:0<o.divs.length) (K A:Nat) (hK:K<256) (hA:A<256) (hc:K % 16=9) (h0:0<(gi o.divs (A % o.divs.length)).stops.length) :
 VFun env 14 [.agg (Enc.enc o),.agg [.int .u8 (K:Int),.int .u8 (A:Int)]] (.p (.agg (Enc.enc (⟨o.name,o.ranks,o.divs.set (A % o.divs.length) (⟨(gi o.divs (A % o.divs.length)).name,(gi o.divs (A % o.divs.length)).pedal,(gi o.divs (A % o.divs.length)).lo,(gi o.divs (A % o.divs.length)).hi,((gi o.divs (A % o.divs.length)).stops.set 0 (⟨gi chD (A % 4),(gi (gi o.divs (A % o.divs.length)).stops 0).feet,(gi (gi o.divs (A % o.divs.length)).stops 0).segs⟩:Stp))⟩:Dvs),o.cpls⟩:Org)))):=by
 have hr:=hl.ranks
 have hd:=hl.divs
 have hcp:=hl.cpls
 have kd:A % o.divs.length<o.divs.length:=Nat.mod_lt _ hd0
 have kr:A % o.ranks.length<o.ranks.length:=Nat.mod_lt _ hr0
 have hst:=hl.stops _ kd
 have a4:A % 4<chD.length:=Nat.mod_lt _ (by decide)
 have ed:(Enc.enc (⟨(gi o.divs (A % o.divs.length)).name,(gi o.divs (A % o.divs.length)).pedal,(gi o.divs (A % o.divs.length)).lo,(gi o.divs (A % o.divs.length)).hi,((gi o.divs (A % o.divs.length)).stops.set 0 (⟨gi chD (A % 4),(gi (gi o.divs (A % o.divs.length)).stops 0).feet,(gi (gi o.divs (A % o.divs.length)).stops 0).segs⟩:Stp))⟩:Dvs)).map PV.p=[.p (.str (bs (gi o.divs (A % o.divs.length)).name)),.p (.bool (gi o.divs (A % o.divs.length)).pedal),.p (.int .i64 (gi o.divs (A % o.divs.length)).lo),.p (.int .i64 (gi o.divs (A % o.divs.length)).hi),.p (.lst 127 (cells ((gi o.divs (A % o.divs.length)).stops.set 0 (⟨gi chD (A % 4),(gi (gi o.divs (A % o.divs.length)).stops 0).feet,(gi (gi o.divs (A % o.divs.length)).stops 0).segs⟩:Stp))) (gi o.divs (A % o.divs.length)).stops.length)]:=by
  show [PV.p (.str (bs (gi o.divs (A % o.divs.length)).name)),.p (.bool (gi o.divs (A % o.divs.length)).pedal),.p (.int .i64 (gi o.divs (A % o.divs.length)).lo),.p (.int .i64 (gi o.divs (A % o.divs.length)).hi),.p (.lst 127 (cells ((gi o.divs (A % o.divs.length)).stops.set 0 (⟨gi chD (A % 4),(gi (gi o.divs (A % o.divs.length)).stops 0).feet,(gi (gi o.divs (A % o.divs.length)).stops 0).segs⟩:Stp))) ((gi o.divs (A % o.divs.length)).stops.set 0 (⟨gi chD (A % 4),(gi (gi o.divs (A % o.divs.length)).stops 0).feet,(gi (gi o.divs (A % o.divs.length)).stops 0).segs⟩:Stp)).length)]=_
  rw [List.length_set]
 rw [orgEnc_eq (nr:=o.ranks.length) (nd:=o.divs.length) (nc:=o.cpls.length) rfl List.length_set rfl]
 refine VFun.enter (env_none (by decide)) Tryz.func14 rfl (by kernel_rfl) (by simp [Tryz.ntmps14]) ?_
 repeat' (first|(refine VWp.at 47 ?_;refine VWp.ghost (Ghost.freezeCell 9 4 rfl rfl rfl) ?_;first|apply VWp.rseq|apply VWp.rseqD)|(refine VWp.at 49 ?_;refine VWp.ghost (Ghost.trans (Ghost.freezeCell 0 1 rfl rfl rfl) (Ghost.trans (Ghost.freezeCell 0 2 rfl rfl rfl) (Ghost.freezeCell 0 3 rfl rfl rfl))) ?_;first|apply VWp.rseq|apply VWp.rseqD)|(refine VOps.atOp 184 ?_;refine VOps.ghost (Ghost.freeze 180 rfl rfl) ?_)|apply VWp.assoc|apply VWp.rseq|apply VWp.rseqD|apply VWp.region|apply VWp.blockSeq|apply QSeq.normal|apply QBlk.normal|apply VWp.ret|apply VOps.nil|apply VOpsD.nil|apply VOps.one|(apply VOpsD.bar;decide +kernel)|apply VOpsD.quiet|(apply VVal.indexVN (i:=0);rfl;rfl;rfl;rfl;exact h0)|(apply VVal.loadVL (i:=0);rfl;rfl;exact h0;rfl)|(apply VVal.indexN (l:=chD) (i:=A % 4);rfl;rfl;rfl;exact a4;rfl)|(apply VVal.storeVL (i:=0) (⟨gi chD (A % 4),(gi (gi o.divs (A % o.divs.length)).stops 0).feet,(gi (gi o.divs (A % o.divs.length)).stops 0).segs⟩:Stp);rfl;rfl;rfl;trivial;rfl;rfl;rfl;decide;exact h0)|(apply VVal.storeVL (i:=A % o.divs.length) (⟨(gi o.divs (A % o.divs.length)).name,(gi o.divs (A % o.divs.length)).pedal,(gi o.divs (A % o.divs.length)).lo,(gi o.divs (A % o.divs.length)).hi,((gi o.divs (A % o.divs.length)).stops.set 0 (⟨gi chD (A % 4),(gi (gi o.divs (A % o.divs.length)).stops 0).feet,(gi (gi o.divs (A % o.divs.length)).stops 0).segs⟩:Stp))⟩:Dvs);rfl;rfl;rfl;trivial;exact ed.symm;rfl;rfl;decide;exact kd)|(apply VVal.remN;rfl;rfl;omega)|(apply VVal.indexVN (i:=A % o.divs.length);rfl;rfl;rfl;rfl;exact kd)|(apply VVal.loadVL (i:=A % o.divs.length);rfl;rfl;exact kd;rfl)|(apply VVal.assign;rfl)|(apply VVal.move;rfl)|(apply VVal.remI;rfl;rfl;omega;omega)|(apply VVal.int;rfl;rfl;rfl)|(apply VVal.load;rfl;rfl)|(apply VVal.lenV;rfl;rfl;rfl)|(apply VVal.fieldB;rfl;rfl;rfl)|(apply VVal.box;rfl;trivial)|(apply VVal.alloc;rfl)|(apply VVal.storeB;rfl;rfl;rfl;trivial;rfl;rfl;exact lt_dec rfl;exact le_dec rfl)|(apply VVal.buildSlice;rfl;rfl;rfl;decide;rfl;rfl;rfl)|(apply VVal.convI;rfl;rfl;rfl;rfl;omega)|(apply VVal.appendL0;rfl;rfl;rfl;(first|rfl|omega|(simp only [List.length_take,List.length_drop,List.length_append,List.length_singleton,List.length_cons,List.length_nil]<;>omega));rfl;rfl;(intro _ h;cases h);rfl;rfl;rfl;decide;decide;(first|omega|(simp only [List.length_take,List.length_drop,List.length_append,List.length_singleton,List.length_cons,List.length_nil]<;>omega)))|(apply VWp.condSeq_dec;rfl)|(apply VWp.cond_dec;rfl)|(intro _;try (exfalso;omega)))
 all_goals first|(exfalso;omega)|contradiction|(refine Done.ret rfl (.refl _) (by first|exact trivial|exact ⟨trivial,trivial,trivial⟩|exact ⟨trivial,trivial,trivial,trivial⟩) HCov.nil (Nat.zero_le _) (Nat.le_refl _) ⟨?_,rfl,rfl⟩;try rfl)
theorem chg11 (o:Org) (n:Nat) (hn:n≤1000) (hl:OrgL n o) (hr0:0<o.ranks.length) (hd0:0<o.divs.length) (K A:Nat) (hK:K<256) (hA:A<256) (hc:K % 16=11) :
 VFun env 14 [.agg (Enc.enc o),.agg [.int .u8 (K:Int),.int .u8 (A:Int)]] (.p (.agg (Enc.enc (⟨o.name,o.ranks.take (A % o.ranks.length),o.divs.set (A % o.divs.length) (gi o.divs (A % o.divs.length)),o.cpls⟩:Org)))):=by
 have hr:=hl.ranks
 have hd:=hl.divs
 have hcp:=hl.cpls
 have kd:A % o.divs.length<o.divs.length:=Nat.mod_lt _ hd0
 have kr:A % o.ranks.length<o.ranks.length:=Nat.mod_lt _ hr0
 have hst:=hl.stops _ kd
 rw [orgEnc_eq (nr:=(A % o.ranks.length)) (nd:=o.divs.length) (nc:=o.cpls.length) (by rw [List.length_take];omega) List.length_set rfl]
 refine VFun.enter (env_none (by decide)) Tryz.func14 rfl (by kernel_rfl) (by simp [Tryz.ntmps14]) ?_
 repeat' (first|(refine VWp.atEnd 42 ?_;refine VWp.ghost (Ghost.freezeCell 0 1 rfl rfl rfl) ?_;first|apply VWp.region|apply VWp.regionD)|(refine VWp.at 47 ?_;refine VWp.ghost (Ghost.freezeCell 9 4 rfl rfl rfl) ?_;first|apply VWp.rseq|apply VWp.rseqD)|(refine VWp.at 49 ?_;refine VWp.ghost (Ghost.trans (Ghost.freezeCell 0 2 rfl rfl rfl) (Ghost.freezeCell 0 3 rfl rfl rfl)) ?_;first|apply VWp.rseq|apply VWp.rseqD)|apply VWp.assoc|apply VWp.rseq|apply VWp.rseqD|apply VWp.blockSeq|apply QSeq.normal|apply QBlk.normal|apply VWp.ret|apply VOps.nil|apply VOpsD.nil|apply VOps.one|(apply VOpsD.bar;decide +kernel)|apply VOpsD.quiet|(apply VVal.storeVL (y:=(gi o.divs (A % o.divs.length)));rfl;rfl;rfl;trivial;(first|rfl|(refine congrArg (fun t=>[PV.p (FV.int _ t)]) ?_;first|omega|(simp only [Int.natCast_add,Int.natCast_mul,Int.natCast_ediv,Int.natCast_emod]<;>omega)));rfl;rfl;decide;(first|omega|(simp only [List.length_set]<;>omega)))|(apply VVal.remN;rfl;rfl;omega)|(apply VVal.indexVN (i:=A % o.divs.length);rfl;rfl;rfl;rfl;exact kd)|(apply VVal.loadVL (i:=A % o.divs.length);rfl;rfl;exact kd;rfl)|(apply VVal.assign;rfl)|(apply VVal.move;rfl)|(apply VVal.remI;rfl;rfl;omega;omega)|(apply VVal.int;rfl;rfl;rfl)|(apply VVal.load;rfl;rfl)|(apply VVal.lenV;rfl;rfl;rfl)|(apply VVal.fieldB;rfl;rfl;rfl)|(apply VVal.box;rfl;trivial)|(apply VVal.alloc;rfl)|(apply VVal.storeB;rfl;rfl;rfl;trivial;rfl;rfl;exact lt_dec rfl;exact le_dec rfl)|(apply VVal.buildSlice;rfl;rfl;rfl;decide;rfl;rfl;rfl)|(apply VVal.convI;rfl;rfl;rfl;rfl;omega)|(apply VVal.appendL0;rfl;rfl;rfl;(first|rfl|omega|(simp only [List.length_take,List.length_drop,List.length_append,List.length_singleton,List.length_cons,List.length_nil]<;>omega));rfl;rfl;(intro _ h;cases h);rfl;rfl;rfl;decide;decide;(first|omega|(simp only [List.length_take,List.length_drop,List.length_append,List.length_singleton,List.length_cons,List.length_nil]<;>omega)))|(apply VVal.sliceTo;rfl;rfl;rfl;rfl;rfl;rfl;omega)|(apply VWp.condSeq_dec;rfl)|(apply VWp.cond_dec;rfl)|(intro _;try (exfalso;omega)))
 all_goals first|(exfalso;omega)|contradiction|(refine Done.ret rfl (.refl _) (by first|exact trivial|exact ⟨trivial,trivial,trivial⟩|exact ⟨trivial,trivial,trivial,trivial⟩) HCov.nil (Nat.zero_le _) (Nat.le_refl _) ⟨?_,rfl,rfl⟩;try rfl)
theorem chg12 (o:Org) (n:Nat) (hn:n≤1000) (hl:OrgL n o) (hr0:0<o.ranks.length) (hd0:0<o.divs.length) (K A:Nat) (hK:K<256) (hA:A<256) (hc:K % 16=12) :
 VFun env 14 [.agg (Enc.enc o),.agg [.int .u8 (K:Int),.int .u8 (A:Int)]] (.p (.agg (Enc.enc (⟨o.name,o.ranks,o.divs.set (A % o.divs.length) (gi o.divs (A % o.divs.length)),o.cpls++[(⟨[67,57],((A % 5:Nat):Int),0,1,false⟩:Cpl)]⟩:Org)))):=by
 have hr:=hl.ranks
 have hd:=hl.divs
 have hcp:=hl.cpls
 have kd:A % o.divs.length<o.divs.length:=Nat.mod_lt _ hd0
 have kr:A % o.ranks.length<o.ranks.length:=Nat.mod_lt _ hr0
 have hst:=hl.stops _ kd
 rw [orgEnc_eq (nr:=o.ranks.length) (nd:=o.divs.length) (nc:=(o.cpls.length+1)) rfl List.length_set (by simp)]
 refine VFun.enter (env_none (by decide)) Tryz.func14 rfl (by kernel_rfl) (by simp [Tryz.ntmps14]) ?_
 repeat' (first|(refine VWp.at 47 ?_;refine VWp.ghost (Ghost.freezeCell 9 4 rfl rfl rfl) ?_;first|apply VWp.rseq|apply VWp.rseqD)|(refine VWp.at 49 ?_;refine VWp.ghost (Ghost.trans (Ghost.freezeCell 0 1 rfl rfl rfl) (Ghost.trans (Ghost.freezeCell 0 2 rfl rfl rfl) (Ghost.freezeCell 0 3 rfl rfl rfl))) ?_;first|apply VWp.rseq|apply VWp.rseqD)|apply VWp.assoc|apply VWp.rseq|apply VWp.rseqD|apply VWp.region|apply VWp.blockSeq|apply QSeq.normal|apply QBlk.normal|apply VWp.ret|apply VOps.nil|apply VOpsD.nil|apply VOps.one|(apply VOpsD.bar;decide +kernel)|apply VOpsD.quiet|(apply VVal.storeVL (y:=(gi o.divs (A % o.divs.length)));rfl;rfl;rfl;trivial;(first|rfl|(refine congrArg (fun t=>[PV.p (FV.int _ t)]) ?_;first|omega|(simp only [Int.natCast_add,Int.natCast_mul,Int.natCast_ediv,Int.natCast_emod]<;>omega)));rfl;rfl;decide;(first|omega|(simp only [List.length_set]<;>omega)))|(apply VVal.append1 (a:=(⟨[67,57],((A % 5:Nat):Int),0,1,false⟩:Cpl));rfl;rfl;rfl;rfl;rfl;rfl;rfl;rfl;(intro _ h;cases h);rfl;rfl;rfl;decide;decide;(first|omega|(simp only [List.length_take,List.length_drop,List.length_append,List.length_singleton,List.length_cons,List.length_nil]<;>omega)))|(apply VVal.remN;rfl;rfl;omega)|(apply VVal.indexVN (i:=A % o.divs.length);rfl;rfl;rfl;rfl;exact kd)|(apply VVal.loadVL (i:=A % o.divs.length);rfl;rfl;exact kd;rfl)|(apply VVal.assign;rfl)|(apply VVal.move;rfl)|(apply VVal.remI;rfl;rfl;omega;omega)|(apply VVal.int;rfl;rfl;rfl)|(apply VVal.load;rfl;rfl)|(apply VVal.lenV;rfl;rfl;rfl)|(apply VVal.fieldB;rfl;rfl;rfl)|(apply VVal.box;rfl;trivial)|(apply VVal.alloc;rfl)|(apply VVal.storeB;rfl;rfl;rfl;trivial;rfl;rfl;exact lt_dec rfl;exact le_dec rfl)|(apply VVal.build;rfl;rfl;rfl;rfl;rfl)|(apply VVal.buildSlice;rfl;rfl;rfl;decide;rfl;rfl;rfl)|(apply VVal.convI;rfl;rfl;rfl;rfl;omega)|(apply VVal.appendL0;rfl;rfl;rfl;(first|rfl|omega|(simp only [List.length_take,List.length_drop,List.length_append,List.length_singleton,List.length_cons,List.length_nil]<;>omega));rfl;rfl;(intro _ h;cases h);rfl;rfl;rfl;decide;decide;(first|omega|(simp only [List.length_take,List.length_drop,List.length_append,List.length_singleton,List.length_cons,List.length_nil]<;>omega)))|(apply VWp.condSeq_dec;rfl)|(apply VWp.cond_dec;rfl)|(intro _;try (exfalso;omega)))
 all_goals first|(exfalso;omega)|contradiction|(refine Done.ret rfl (.refl _) (by first|exact trivial|exact ⟨trivial,trivial,trivial⟩|exact ⟨trivial,trivial,trivial,trivial⟩) HCov.nil (Nat.zero_le _) (Nat.le_refl _) ⟨?_,rfl,rfl⟩;try rfl)
theorem chg13 (o:Org) (n:Nat) (hn:n≤1000) (hl:OrgL n o) (hr0:0<o.ranks.length) (hd0:0<o.divs.length) (K A:Nat) (hK:K<256) (hA:A<256) (hc:K % 16=13) :
 VFun env 14 [.agg (Enc.enc o),.agg [.int .u8 (K:Int),.int .u8 (A:Int)]] (.p (.agg (Enc.enc (⟨o.name,o.ranks,o.divs.set (A % o.divs.length) (gi o.divs (A % o.divs.length)),o.cpls++[(⟨gi chE (A % 3),0,0,1,false⟩:Cpl)]⟩:Org)))):=by
 have hr:=hl.ranks
 have hd:=hl.divs
 have hcp:=hl.cpls
 have kd:A % o.divs.length<o.divs.length:=Nat.mod_lt _ hd0
 have kr:A % o.ranks.length<o.ranks.length:=Nat.mod_lt _ hr0
 have hst:=hl.stops _ kd
 have a4:A % 3<chE.length:=Nat.mod_lt _ (by decide)
 rw [orgEnc_eq (nr:=o.ranks.length) (nd:=o.divs.length) (nc:=(o.cpls.length+1)) rfl List.length_set (by simp)]
 refine VFun.enter (env_none (by decide)) Tryz.func14 rfl (by kernel_rfl) (by simp [Tryz.ntmps14]) ?_
 repeat' (first|(refine VWp.at 47 ?_;refine VWp.ghost (Ghost.freezeCell 9 4 rfl rfl rfl) ?_;first|apply VWp.rseq|apply VWp.rseqD)|(refine VWp.at 49 ?_;refine VWp.ghost (Ghost.trans (Ghost.freezeCell 0 1 rfl rfl rfl) (Ghost.trans (Ghost.freezeCell 0 2 rfl rfl rfl) (Ghost.freezeCell 0 3 rfl rfl rfl))) ?_;first|apply VWp.rseq|apply VWp.rseqD)|(refine VOpsD.atOp 258 ?_;refine VOpsD.ghost (Ghost.freeze 254 rfl rfl) ?_)|apply VWp.assoc|apply VWp.rseq|apply VWp.rseqD|apply VWp.regionD|apply VWp.blockSeq|apply QSeq.normal|apply QBlk.normal|apply VWp.ret|apply VOps.nil|apply VOpsD.nil|apply VOps.one|(apply VOpsD.bar;decide +kernel)|apply VOpsD.quiet|(apply VVal.indexN (l:=chE) (i:=A % 3);rfl;rfl;rfl;exact a4;rfl)|(apply VVal.storeVL (y:=(gi o.divs (A % o.divs.length)));rfl;rfl;rfl;trivial;(first|rfl|(refine congrArg (fun t=>[PV.p (FV.int _ t)]) ?_;first|omega|(simp only [Int.natCast_add,Int.natCast_mul,Int.natCast_ediv,Int.natCast_emod]<;>omega)));rfl;rfl;decide;(first|omega|(simp only [List.length_set]<;>omega)))|(apply VVal.append1 (a:=(⟨gi chE (A % 3),0,0,1,false⟩:Cpl));rfl;rfl;rfl;rfl;rfl;rfl;rfl;rfl;(intro _ h;cases h);rfl;rfl;rfl;decide;decide;(first|omega|(simp only [List.length_take,List.length_drop,List.length_append,List.length_singleton,List.length_cons,List.length_nil]<;>omega)))|(apply VVal.remN;rfl;rfl;omega)|(apply VVal.indexVN (i:=A % o.divs.length);rfl;rfl;rfl;rfl;exact kd)|(apply VVal.loadVL (i:=A % o.divs.length);rfl;rfl;exact kd;rfl)|(apply VVal.assign;rfl)|(apply VVal.move;rfl)|(apply VVal.remI;rfl;rfl;omega;omega)|(apply VVal.int;rfl;rfl;rfl)|(apply VVal.load;rfl;rfl)|(apply VVal.lenV;rfl;rfl;rfl)|(apply VVal.fieldB;rfl;rfl;rfl)|(apply VVal.box;rfl;trivial)|(apply VVal.alloc;rfl)|(apply VVal.storeB;rfl;rfl;rfl;trivial;rfl;rfl;exact lt_dec rfl;exact le_dec rfl)|(apply VVal.build;rfl;rfl;rfl;rfl;rfl)|(apply VVal.buildSlice;rfl;rfl;rfl;decide;rfl;rfl;rfl)|(apply VVal.convI;rfl;rfl;rfl;rfl;omega)|(apply VVal.appendL0;rfl;rfl;rfl;(first|rfl|omega|(simp only [List.length_take,List.length_drop,List.length_append,List.length_singleton,List.length_cons,List.length_nil]<;>omega));rfl;rfl;(intro _ h;cases h);rfl;rfl;rfl;decide;decide;(first|omega|(simp only [List.length_take,List.length_drop,List.length_append,List.length_singleton,List.length_cons,List.length_nil]<;>omega)))|(apply VWp.condSeq_dec;rfl)|(apply VWp.cond_dec;rfl)|(intro _;try (exfalso;omega)))
 all_goals first|(exfalso;omega)|contradiction|(refine Done.ret rfl (.refl _) (by first|exact trivial|exact ⟨trivial,trivial,trivial⟩|exact ⟨trivial,trivial,trivial,trivial⟩) HCov.nil (Nat.zero_le _) (Nat.le_refl _) ⟨?_,rfl,rfl⟩;try rfl)
end Go.Proofs.YtnhdddmhkhdlhaaGreatDoor
namespace Go.Proofs.YtnhdddmhkhdlhaaGreatDoor
open Go Go.Am Go.Vm
attribute [local irreducible] VVal VOps VOpsD VWp VCalls VFun VFunV QSeq QBlk QLoop Vm.Done DoneV DoneI
def f4 (l:List Rnk):Rnk:=⟨[88,UInt8.ofNat (48+(l.length:Int) / 10).toNat,UInt8.ofNat (48+(l.length:Int) % 10).toNat],(gi l 0).tone,(gi l 0).feet,(gi l 0).first,(gi l 0).wind⟩
def f6 (l:List Dvs):Dvs:=⟨[69,UInt8.ofNat (48+(l.length:Int)).toNat],false,0,0,[]⟩
def f10 (l:List Stp):Stp:=⟨[89,UInt8.ofNat (48+(l.length:Int) / 10).toNat,UInt8.ofNat (48+(l.length:Int) % 10).toNat],(gi l 0).feet,(gi l 0).segs⟩
theorem chg4 (o:Org) (n:Nat) (hn:n≤1000) (hl:OrgL n o) (hr0:0<o.ranks.length) (hd0:0<o.divs.length) (K A:Nat) (hK:K<256) (hA:A<256) (hc:K % 16=4) :
 VFun env 14 [.agg (Enc.enc o),.agg [.int .u8 (K:Int),.int .u8 (A:Int)]] (.p (.agg (Enc.enc (⟨o.name,appK f4 o.ranks (60+A % 2-o.ranks.length),o.divs.set (A % o.divs.length) (gi o.divs (A % o.divs.length)),o.cpls⟩:Org)))):=by
 have hr:=hl.ranks
 have hd:=hl.divs
 have hcp:=hl.cpls
 have kd:A % o.divs.length<o.divs.length:=Nat.mod_lt _ hd0
 have kr:A % o.ranks.length<o.ranks.length:=Nat.mod_lt _ hr0
 have hst:=hl.stops _ kd
 rw [orgEnc_eq (nr:=(appK f4 o.ranks (60+A % 2-o.ranks.length)).length) (nd:=o.divs.length) (nc:=o.cpls.length) rfl List.length_set rfl]
 refine VFun.enter (env_none (by decide)) Tryz.func14 rfl (by kernel_rfl) (by simp [Tryz.ntmps14]) ?_
 repeat' (first|apply VWp.assoc|apply VWp.rseq|apply VWp.rseqD|apply VWp.blockSeq|apply VWp.blockQ|apply VOps.nil|apply VOpsD.nil|apply VOps.one|(apply VOpsD.bar;decide +kernel)|apply VOpsD.quiet|(apply VVal.remN;rfl;rfl;omega)|(apply VVal.indexVN (i:=A % o.divs.length);rfl;rfl;rfl;rfl;exact kd)|(apply VVal.loadVL (i:=A % o.divs.length);rfl;rfl;exact kd;rfl)|(apply VVal.assign;rfl)|(apply VVal.move;rfl)|(apply VVal.remI;rfl;rfl;omega;omega)|(apply VVal.int;rfl;rfl;rfl)|(apply VVal.load;rfl;rfl)|(apply VVal.lenV;rfl;rfl;rfl)|(apply VVal.fieldB;rfl;rfl;rfl)|(apply VVal.box;rfl;trivial)|(apply VVal.alloc;rfl)|(apply VVal.storeB;rfl;rfl;rfl;trivial;rfl;rfl;exact lt_dec rfl;exact le_dec rfl)|(apply VVal.buildSlice;rfl;rfl;rfl;decide;rfl;rfl;rfl)|(apply VVal.convI;rfl;rfl;rfl;rfl;omega)|(apply VVal.appendL0;rfl;rfl;rfl;(first|rfl|omega|(simp only [List.length_take,List.length_drop,List.length_append,List.length_singleton,List.length_cons,List.length_nil]<;>omega));rfl;rfl;(intro _ h;cases h);rfl;rfl;rfl;decide;decide;(first|omega|(simp only [List.length_take,List.length_drop,List.length_append,List.length_singleton,List.length_cons,List.length_nil]<;>omega)))|(apply VWp.cond_dec;rfl)|(intro _;try (exfalso;omega)))
 all_goals try (exfalso;omega)
 apply VWp.loopR (60+A % 2-o.ranks.length) [(2,_),(3,_),(4,_),(6,_),(7,_)] [(1,_),(2,_),(6,_),(8,_),(9,_),(11,_)] (fun k r=>r) (fun k r=>(0,.box 40 [.p (.str (bs o.name)),.vec 4 (appK f4 o.ranks k).length 0 (appK f4 o.ranks k).length,.vec 6 o.divs.length 0 o.divs.length,.vec 8 o.cpls.length 0 o.cpls.length])::(4,.vec 123 (cells (appK f4 o.ranks k)) (appK f4 o.ranks k).length false)::r) 12
 ·first|omega|decide
 ·first|omega|decide
 ·repeat (first|exact LCov.nil|(refine LCov.eq rfl ?_ ?_;(first|exact PV.under_of rfl|(simp [PV.under,PVs.under];done)))|refine LCov.cons trivial rfl (.of_eq (lst_len (by simp<;>omega))) ?_)
 ·repeat (first|exact HCov.nil|(refine HCov.eq rfl (lt_dec rfl) ?_ ?_;(first|exact HB.under_of rfl|exact PVs.under_pure _ _|(simp [HB.under,PVs.under,PV.under];done)))|(refine HCov.cons (lt_dec rfl) ?_ rfl ?_ ?_;(first|exact trivial|exact PVs.under_pure _ _|(simp [HB.under,PVs.under,PV.under]));(first|exact HLe.refl _|exact HLe.vec (FLes.refl _) (by simp))))
 ·intro k hk
  have hk2:=appK_len f4 o.ranks k
  have e1:appK f4 o.ranks (k+1)=appK f4 o.ranks k++[f4 (appK f4 o.ranks k)]:=rfl
  have e2:(appK f4 o.ranks (k+1)).length=(appK f4 o.ranks k).length+1:=by rw [e1];simp
  repeat' (first|apply VWp.assoc|apply VWp.rseq|apply VWp.region|apply VWp.skipSeq|apply QBlk.normal|apply VWp.blockQ|apply VOps.nil|apply VOps.one|(apply VVal.indexVN (i:=0);rfl;rfl;rfl;rfl;omega)|(apply VVal.loadVL (i:=0);rfl;rfl;omega;rfl)|(apply VVal.ofByte2;rfl;rfl;rfl;rfl;rfl;omega;omega)|(apply VVal.append1 (a:=f4 (appK f4 o.ranks k));rfl;rfl;rfl;rfl;rfl;rfl;rfl;rfl;(intro _ h;cases h);rfl;rfl;rfl;decide;decide;(first|omega|(simp only [List.length_take,List.length_drop,List.length_append,List.length_singleton,List.length_cons,List.length_nil]<;>omega)))|(apply VVal.assign;rfl)|(apply VVal.move;rfl)|(apply VVal.add64;rfl;rfl;omega)|(apply VVal.remI;rfl;rfl;omega;omega)|(apply VVal.quoI;rfl;rfl;omega;omega)|(apply VVal.int;rfl;rfl;rfl)|(apply VVal.load;rfl;rfl)|(apply VVal.lenV;rfl;rfl;rfl)|(apply VVal.fieldB;rfl;rfl;rfl)|(apply VVal.alloc;rfl)|(apply VVal.storeB;rfl;rfl;rfl;trivial;rfl;rfl;exact lt_dec rfl;exact le_dec rfl)|(apply VVal.buildSlice;rfl;rfl;rfl;decide;rfl;rfl;rfl)|(apply VVal.addS;rfl;rfl;(first|omega|(simp only [List.length_take,List.length_drop,List.length_append,List.length_singleton,List.length_cons,List.length_nil]<;>omega)))|(apply VVal.convI;rfl;rfl;rfl;rfl;omega)|(apply VVal.convB;rfl;rfl;rfl;rfl;omega)|(apply VWp.condSeq_dec;rfl)|(intro _;try (exfalso;omega)))
  all_goals try (exfalso;omega)
  refine QLoop.normal ⟨by first|omega|decide,?_,?_⟩
  ·try (rw [e2,e1])
   repeat (first|exact LCov.nil|refine LCov.same trivial rfl ?_|refine LCov.same (lt_dec rfl) rfl ?_|refine LCov.same ⟨trivial,lt_dec rfl,trivial⟩ rfl ?_|refine LCov.same ⟨trivial,lt_dec rfl,lt_dec rfl,trivial⟩ rfl ?_|refine LCov.same ⟨trivial,lt_dec rfl,lt_dec rfl,lt_dec rfl,trivial⟩ rfl ?_|refine LCov.same ⟨trivial,lt_dec rfl,lt_dec rfl,lt_dec rfl,lt_dec rfl,trivial⟩ rfl ?_|refine LCov.same ⟨trivial,trivial⟩ rfl ?_|refine LCov.cons trivial rfl (.of_eq (lst_len (by simp<;>omega))) ?_)
  ·rw [e2,e1]
   repeat (first|exact HCov.nil|(refine HCov.cons (lt_dec rfl) ?_ rfl ?_ ?_;(first|exact HB.under_of rfl|exact PVs.under_pure _ _|(simp [HB.under,PVs.under,PV.under]));(first|exact HLe.refl _|exact HLe.vec (FLes.refl _) (by simp))))
 ·have hk2:=appK_len f4 o.ranks (60+A % 2-o.ranks.length)
  repeat' (first|(refine VWp.at 47 ?_;refine VWp.ghost (Ghost.freezeCell 9 4 rfl rfl rfl) ?_;first|apply VWp.rseq|apply VWp.rseqD)|(refine VWp.at 49 ?_;refine VWp.ghost (Ghost.trans (Ghost.freezeCell 0 1 rfl rfl rfl) (Ghost.trans (Ghost.freezeCell 0 2 rfl rfl rfl) (Ghost.freezeCell 0 3 rfl rfl rfl))) ?_;first|apply VWp.rseq|apply VWp.rseqD)|apply VWp.assoc|apply VWp.rseq|apply VWp.exitSeq|apply QSeq.normal|apply QBlk.normal|apply QBlk.exit|apply QLoop.exit|apply VWp.ret|apply VOps.nil|apply VOps.one|(apply VVal.storeVL (y:=(gi o.divs (A % o.divs.length)));rfl;rfl;rfl;trivial;(first|rfl|(refine congrArg (fun t=>[PV.p (FV.int _ t)]) ?_;first|omega|(simp only [Int.natCast_add,Int.natCast_mul,Int.natCast_ediv,Int.natCast_emod]<;>omega)));rfl;rfl;decide;(first|omega|(simp only [List.length_set]<;>omega)))|(apply VVal.indexVN (i:=A % o.divs.length);rfl;rfl;rfl;rfl;exact kd)|(apply VVal.move;rfl)|(apply VVal.add64;rfl;rfl;omega)|(apply VVal.remI;rfl;rfl;omega;omega)|(apply VVal.int;rfl;rfl;rfl)|(apply VVal.load;rfl;rfl)|(apply VVal.lenV;rfl;rfl;rfl)|(apply VVal.fieldB;rfl;rfl;rfl)|(apply VVal.storeB;rfl;rfl;rfl;trivial;rfl;rfl;exact lt_dec rfl;exact le_dec rfl)|(apply VVal.convI;rfl;rfl;rfl;rfl;omega)|(apply VWp.condSeq_dec;rfl)|(intro _;try (exfalso;omega)))
  all_goals first|(exfalso;omega)|contradiction|(refine Done.ret rfl (.refl _) (by first|exact trivial|exact ⟨trivial,trivial,trivial⟩|exact ⟨trivial,trivial,trivial,trivial⟩) HCov.nil (Nat.zero_le _) (Nat.le_refl _) ⟨?_,rfl,rfl⟩;try rfl)
theorem chg6 (o:Org) (n:Nat) (hn:n≤1000) (hl:OrgL n o) (hr0:0<o.ranks.length) (hd0:0<o.divs.length) (K A:Nat) (hK:K<256) (hA:A<256) (hc:K % 16=6) :
 VFun env 14 [.agg (Enc.enc o),.agg [.int .u8 (K:Int),.int .u8 (A:Int)]] (.p (.agg (Enc.enc (⟨o.name,o.ranks,(appK f6 o.divs (8+A % 2-o.divs.length)).set (A % o.divs.length) (gi o.divs (A % o.divs.length)),o.cpls⟩:Org)))):=by
 have hr:=hl.ranks
 have hd:=hl.divs
 have hcp:=hl.cpls
 have kd:A % o.divs.length<o.divs.length:=Nat.mod_lt _ hd0
 have kr:A % o.ranks.length<o.ranks.length:=Nat.mod_lt _ hr0
 have hst:=hl.stops _ kd
 rw [orgEnc_eq (nr:=o.ranks.length) (nd:=(appK f6 o.divs (8+A % 2-o.divs.length)).length) (nc:=o.cpls.length) rfl List.length_set rfl]
 refine VFun.enter (env_none (by decide)) Tryz.func14 rfl (by kernel_rfl) (by simp [Tryz.ntmps14]) ?_
 repeat' (first|apply VWp.assoc|apply VWp.rseq|apply VWp.rseqD|apply VWp.blockSeq|apply VWp.blockQ|apply VOps.nil|apply VOpsD.nil|apply VOps.one|(apply VOpsD.bar;decide +kernel)|apply VOpsD.quiet|(apply VVal.remN;rfl;rfl;omega)|(apply VVal.indexVN (i:=A % o.divs.length);rfl;rfl;rfl;rfl;exact kd)|(apply VVal.loadVL (i:=A % o.divs.length);rfl;rfl;exact kd;rfl)|(apply VVal.assign;rfl)|(apply VVal.move;rfl)|(apply VVal.remI;rfl;rfl;omega;omega)|(apply VVal.int;rfl;rfl;rfl)|(apply VVal.load;rfl;rfl)|(apply VVal.lenV;rfl;rfl;rfl)|(apply VVal.fieldB;rfl;rfl;rfl)|(apply VVal.box;rfl;trivial)|(apply VVal.alloc;rfl)|(apply VVal.storeB;rfl;rfl;rfl;trivial;rfl;rfl;exact lt_dec rfl;exact le_dec rfl)|(apply VVal.buildSlice;rfl;rfl;rfl;decide;rfl;rfl;rfl)|(apply VVal.convI;rfl;rfl;rfl;rfl;omega)|(apply VVal.appendL0;rfl;rfl;rfl;(first|rfl|omega|(simp only [List.length_take,List.length_drop,List.length_append,List.length_singleton,List.length_cons,List.length_nil]<;>omega));rfl;rfl;(intro _ h;cases h);rfl;rfl;rfl;decide;decide;(first|omega|(simp only [List.length_take,List.length_drop,List.length_append,List.length_singleton,List.length_cons,List.length_nil]<;>omega)))|(apply VWp.cond_dec;rfl)|(intro _;try (exfalso;omega)))
 all_goals try (exfalso;omega)
 apply VWp.loopR (8+A % 2-o.divs.length) [(2,_),(3,_),(4,_),(6,_),(7,_)] [(1,_),(2,_),(4,_),(8,_),(9,_),(11,_)] (fun k r=>r) (fun k r=>(0,.box 40 [.p (.str (bs o.name)),.vec 4 o.ranks.length 0 o.ranks.length,.vec 6 (appK f6 o.divs k).length 0 (appK f6 o.divs k).length,.vec 8 o.cpls.length 0 o.cpls.length])::(6,.vec 111 (cells (appK f6 o.divs k)) (appK f6 o.divs k).length false)::r) 12
 ·first|omega|decide
 ·first|omega|decide
 ·repeat (first|exact LCov.nil|(refine LCov.eq rfl ?_ ?_;(first|exact PV.under_of rfl|(simp [PV.under,PVs.under];done)))|refine LCov.cons trivial rfl (.of_eq (lst_len (by simp<;>omega))) ?_)
 ·repeat (first|exact HCov.nil|(refine HCov.eq rfl (lt_dec rfl) ?_ ?_;(first|exact HB.under_of rfl|exact PVs.under_pure _ _|(simp [HB.under,PVs.under,PV.under];done)))|(refine HCov.cons (lt_dec rfl) ?_ rfl ?_ ?_;(first|exact trivial|exact PVs.under_pure _ _|(simp [HB.under,PVs.under,PV.under]));(first|exact HLe.refl _|exact HLe.vec (FLes.refl _) (by simp))))
 ·intro k hk
  have hk2:=appK_len f6 o.divs k
  have e1:appK f6 o.divs (k+1)=appK f6 o.divs k++[f6 (appK f6 o.divs k)]:=rfl
  have e2:(appK f6 o.divs (k+1)).length=(appK f6 o.divs k).length+1:=by rw [e1];simp
  repeat' (first|(refine VOps.atOp 145 ?_;refine VOps.ghost (Ghost.le 144 rfl (.p (.agg (.cons (.refl _) (.cons (.refl _) (.cons (.refl _) (.cons (.refl _) (.cons (.nil 127) (.refl _))))))))) ?_)|apply VWp.assoc|apply VWp.rseq|apply VWp.region|apply VWp.skipSeq|apply QBlk.normal|apply VWp.blockQ|apply VOps.nil|apply VOps.one|(apply VVal.ofByte1;rfl;rfl;rfl;rfl;rfl;omega)|(apply VVal.append1 (a:=f6 (appK f6 o.divs k));rfl;rfl;rfl;rfl;rfl;rfl;rfl;rfl;(intro _ h;cases h);rfl;rfl;rfl;decide;decide;(first|omega|(simp only [List.length_take,List.length_drop,List.length_append,List.length_singleton,List.length_cons,List.length_nil]<;>omega)))|(apply VVal.add64;rfl;rfl;omega)|(apply VVal.remI;rfl;rfl;omega;omega)|(apply VVal.int;rfl;rfl;rfl)|(apply VVal.load;rfl;rfl)|(apply VVal.lenV;rfl;rfl;rfl)|(apply VVal.fieldB;rfl;rfl;rfl)|(apply VVal.storeB;rfl;rfl;rfl;trivial;rfl;rfl;exact lt_dec rfl;exact le_dec rfl)|(apply VVal.build;rfl;rfl;rfl;rfl;rfl)|(apply VVal.buildSlice;rfl;rfl;rfl;decide;rfl;rfl;rfl)|(apply VVal.addS;rfl;rfl;(first|omega|(simp only [List.length_take,List.length_drop,List.length_append,List.length_singleton,List.length_cons,List.length_nil]<;>omega)))|(apply VVal.convI;rfl;rfl;rfl;rfl;omega)|(apply VVal.convB;rfl;rfl;rfl;rfl;omega)|(apply VWp.condSeq_dec;rfl)|(intro _;try (exfalso;omega)))
  all_goals try (exfalso;omega)
  refine QLoop.normal ⟨by first|omega|decide,?_,?_⟩
  ·try (rw [e2,e1])
   repeat (first|exact LCov.nil|refine LCov.same trivial rfl ?_|refine LCov.same (lt_dec rfl) rfl ?_|refine LCov.same ⟨trivial,lt_dec rfl,trivial⟩ rfl ?_|refine LCov.same ⟨trivial,lt_dec rfl,lt_dec rfl,trivial⟩ rfl ?_|refine LCov.same ⟨trivial,lt_dec rfl,lt_dec rfl,lt_dec rfl,trivial⟩ rfl ?_|refine LCov.same ⟨trivial,lt_dec rfl,lt_dec rfl,lt_dec rfl,lt_dec rfl,trivial⟩ rfl ?_|refine LCov.same ⟨trivial,trivial⟩ rfl ?_|refine LCov.cons trivial rfl (.of_eq (lst_len (by simp<;>omega))) ?_)
  ·rw [e2,e1]
   repeat (first|exact HCov.nil|(refine HCov.cons (lt_dec rfl) ?_ rfl ?_ ?_;(first|exact HB.under_of rfl|exact PVs.under_pure _ _|(simp [HB.under,PVs.under,PV.under]));(first|exact HLe.refl _|exact HLe.vec (FLes.refl _) (by simp))))
 ·have hk2:=appK_len f6 o.divs (8+A % 2-o.divs.length)
  have kd6:A % o.divs.length<(appK f6 o.divs (8+A % 2-o.divs.length)).length:=by omega
  repeat' (first|(refine VWp.at 47 ?_;refine VWp.ghost (Ghost.freezeCell 9 4 rfl rfl rfl) ?_;first|apply VWp.rseq|apply VWp.rseqD)|(refine VWp.at 49 ?_;refine VWp.ghost (Ghost.trans (Ghost.freezeCell 0 1 rfl rfl rfl) (Ghost.trans (Ghost.freezeCell 0 2 rfl rfl rfl) (Ghost.freezeCell 0 3 rfl rfl rfl))) ?_;first|apply VWp.rseq|apply VWp.rseqD)|apply VWp.assoc|apply VWp.rseq|apply VWp.exitSeq|apply QSeq.normal|apply QBlk.normal|apply QBlk.exit|apply QLoop.exit|apply VWp.ret|apply VOps.nil|apply VOps.one|(apply VVal.indexVN (i:=A % o.divs.length);rfl;rfl;rfl;rfl;exact kd6)|(apply VVal.storeVL (y:=(gi o.divs (A % o.divs.length)));rfl;rfl;rfl;trivial;(first|rfl|(refine congrArg (fun t=>[PV.p (FV.int _ t)]) ?_;first|omega|(simp only [Int.natCast_add,Int.natCast_mul,Int.natCast_ediv,Int.natCast_emod]<;>omega)));rfl;rfl;decide;(first|omega|(simp only [List.length_set]<;>omega)))|(apply VVal.move;rfl)|(apply VVal.add64;rfl;rfl;omega)|(apply VVal.remI;rfl;rfl;omega;omega)|(apply VVal.int;rfl;rfl;rfl)|(apply VVal.load;rfl;rfl)|(apply VVal.lenV;rfl;rfl;rfl)|(apply VVal.fieldB;rfl;rfl;rfl)|(apply VVal.storeB;rfl;rfl;rfl;trivial;rfl;rfl;exact lt_dec rfl;exact le_dec rfl)|(apply VVal.convI;rfl;rfl;rfl;rfl;omega)|(apply VWp.condSeq_dec;rfl)|(intro _;try (exfalso;omega)))
  all_goals first|(exfalso;omega)|contradiction|(refine Done.ret rfl (.refl _) (by first|exact trivial|exact ⟨trivial,trivial,trivial⟩|exact ⟨trivial,trivial,trivial,trivial⟩) HCov.nil (Nat.zero_le _) (Nat.le_refl _) ⟨?_,rfl,rfl⟩;try rfl)
theorem chg10 (o:Org) (n:Nat) (hn:n≤1000) (hl:OrgL n o) (hr0:0<o.ranks.length) (hd0:0<o.divs.length) (K A:Nat) (hK:K<256) (hA:A<256) (hc:K % 16=10) (h0:0<(gi o.divs (A % o.divs.length)).stops.length) :
 VFun env 14 [.agg (Enc.enc o),.agg [.int .u8 (K:Int),.int .u8 (A:Int)]] (.p (.agg (Enc.enc (⟨o.name,o.ranks,o.divs.set (A % o.divs.length) (⟨(gi o.divs (A % o.divs.length)).name,(gi o.divs (A % o.divs.length)).pedal,(gi o.divs (A % o.divs.length)).lo,(gi o.divs (A % o.divs.length)).hi,appK f10 (gi o.divs (A % o.divs.length)).stops (60+A % 2-(gi o.divs (A % o.divs.length)).stops.length)⟩:Dvs),o.cpls⟩:Org)))):=by
 have hr:=hl.ranks
 have hd:=hl.divs
 have hcp:=hl.cpls
 have kd:A % o.divs.length<o.divs.length:=Nat.mod_lt _ hd0
 have kr:A % o.ranks.length<o.ranks.length:=Nat.mod_lt _ hr0
 have hst:=hl.stops _ kd
 rw [orgEnc_eq (nr:=o.ranks.length) (nd:=o.divs.length) (nc:=o.cpls.length) rfl List.length_set rfl]
 refine VFun.enter (env_none (by decide)) Tryz.func14 rfl (by kernel_rfl) (by simp [Tryz.ntmps14]) ?_
 repeat' (first|apply VWp.assoc|apply VWp.rseq|apply VWp.rseqD|apply VWp.blockSeq|apply VWp.blockQ|apply VOps.nil|apply VOpsD.nil|apply VOps.one|(apply VOpsD.bar;decide +kernel)|apply VOpsD.quiet|(apply VVal.remN;rfl;rfl;omega)|(apply VVal.indexVN (i:=A % o.divs.length);rfl;rfl;rfl;rfl;exact kd)|(apply VVal.loadVL (i:=A % o.divs.length);rfl;rfl;exact kd;rfl)|(apply VVal.assign;rfl)|(apply VVal.move;rfl)|(apply VVal.remI;rfl;rfl;omega;omega)|(apply VVal.int;rfl;rfl;rfl)|(apply VVal.load;rfl;rfl)|(apply VVal.lenV;rfl;rfl;rfl)|(apply VVal.fieldB;rfl;rfl;rfl)|(apply VVal.box;rfl;trivial)|(apply VVal.alloc;rfl)|(apply VVal.storeB;rfl;rfl;rfl;trivial;rfl;rfl;exact lt_dec rfl;exact le_dec rfl)|(apply VVal.buildSlice;rfl;rfl;rfl;decide;rfl;rfl;rfl)|(apply VVal.convI;rfl;rfl;rfl;rfl;omega)|(apply VVal.appendL0;rfl;rfl;rfl;(first|rfl|omega|(simp only [List.length_take,List.length_drop,List.length_append,List.length_singleton,List.length_cons,List.length_nil]<;>omega));rfl;rfl;(intro _ h;cases h);rfl;rfl;rfl;decide;decide;(first|omega|(simp only [List.length_take,List.length_drop,List.length_append,List.length_singleton,List.length_cons,List.length_nil]<;>omega)))|(apply VWp.cond_dec;rfl)|(intro _;try (exfalso;omega)))
 all_goals try (exfalso;omega)
 apply VWp.loopR (60+A % 2-(gi o.divs (A % o.divs.length)).stops.length) [(2,_),(3,_),(4,_),(6,_),(7,_)] [(0,_),(1,_),(2,_),(4,_),(6,_),(8,_)] (fun k r=>r) (fun k r=>(9,.box 111 [.p (.str (bs (gi o.divs (A % o.divs.length)).name)),.p (.bool (gi o.divs (A % o.divs.length)).pedal),.p (.int .i64 (gi o.divs (A % o.divs.length)).lo),.p (.int .i64 (gi o.divs (A % o.divs.length)).hi),.vec 11 (appK f10 (gi o.divs (A % o.divs.length)).stops k).length 0 (appK f10 (gi o.divs (A % o.divs.length)).stops k).length])::(11,.vec 127 (cells (appK f10 (gi o.divs (A % o.divs.length)).stops k)) (appK f10 (gi o.divs (A % o.divs.length)).stops k).length false)::r) 12
 ·first|omega|decide
 ·first|omega|decide
 ·repeat (first|exact LCov.nil|(refine LCov.eq rfl ?_ ?_;(first|exact PV.under_of rfl|(simp [PV.under,PVs.under];done)))|refine LCov.cons trivial rfl (.of_eq (lst_len (by simp<;>omega))) ?_)
 ·repeat (first|exact HCov.nil|(refine HCov.eq rfl (lt_dec rfl) ?_ ?_;(first|exact HB.under_of rfl|exact PVs.under_pure _ _|(simp [HB.under,PVs.under,PV.under];done)))|(refine HCov.cons (lt_dec rfl) ?_ rfl ?_ ?_;(first|exact trivial|exact PVs.under_pure _ _|(simp [HB.under,PVs.under,PV.under]));(first|exact HLe.refl _|exact HLe.vec (FLes.refl _) (by simp))))
 ·intro k hk
  have hk2:=appK_len f10 (gi o.divs (A % o.divs.length)).stops k
  have e1:appK f10 (gi o.divs (A % o.divs.length)).stops (k+1)=appK f10 (gi o.divs (A % o.divs.length)).stops k++[f10 (appK f10 (gi o.divs (A % o.divs.length)).stops k)]:=rfl
  have e2:(appK f10 (gi o.divs (A % o.divs.length)).stops (k+1)).length=(appK f10 (gi o.divs (A % o.divs.length)).stops k).length+1:=by rw [e1];simp
  repeat' (first|apply VWp.assoc|apply VWp.rseq|apply VWp.region|apply VWp.skipSeq|apply QBlk.normal|apply VWp.blockQ|apply VOps.nil|apply VOps.one|(apply VVal.indexVN (i:=0);rfl;rfl;rfl;rfl;omega)|(apply VVal.loadVL (i:=0);rfl;rfl;omega;rfl)|(apply VVal.ofByte2;rfl;rfl;rfl;rfl;rfl;omega;omega)|(apply VVal.append1 (a:=f10 (appK f10 (gi o.divs (A % o.divs.length)).stops k));rfl;rfl;rfl;rfl;rfl;rfl;rfl;rfl;(intro _ h;cases h);rfl;rfl;rfl;decide;decide;(first|omega|(simp only [List.length_take,List.length_drop,List.length_append,List.length_singleton,List.length_cons,List.length_nil]<;>omega)))|(apply VVal.assign;rfl)|(apply VVal.move;rfl)|(apply VVal.add64;rfl;rfl;omega)|(apply VVal.remI;rfl;rfl;omega;omega)|(apply VVal.quoI;rfl;rfl;omega;omega)|(apply VVal.int;rfl;rfl;rfl)|(apply VVal.load;rfl;rfl)|(apply VVal.lenV;rfl;rfl;rfl)|(apply VVal.fieldB;rfl;rfl;rfl)|(apply VVal.alloc;rfl)|(apply VVal.storeB;rfl;rfl;rfl;trivial;rfl;rfl;exact lt_dec rfl;exact le_dec rfl)|(apply VVal.buildSlice;rfl;rfl;rfl;decide;rfl;rfl;rfl)|(apply VVal.addS;rfl;rfl;(first|omega|(simp only [List.length_take,List.length_drop,List.length_append,List.length_singleton,List.length_cons,List.length_nil]<;>omega)))|(apply VVal.convI;rfl;rfl;rfl;rfl;omega)|(apply VVal.convB;rfl;rfl;rfl;rfl;omega)|(apply VWp.condSeq_dec;rfl)|(intro _;try (exfalso;omega)))
  all_goals try (exfalso;omega)
  refine QLoop.normal ⟨by first|omega|decide,?_,?_⟩
  ·try (rw [e2,e1])
   repeat (first|exact LCov.nil|refine LCov.same trivial rfl ?_|refine LCov.same (lt_dec rfl) rfl ?_|refine LCov.same ⟨trivial,lt_dec rfl,trivial⟩ rfl ?_|refine LCov.same ⟨trivial,lt_dec rfl,lt_dec rfl,trivial⟩ rfl ?_|refine LCov.same ⟨trivial,lt_dec rfl,lt_dec rfl,lt_dec rfl,trivial⟩ rfl ?_|refine LCov.same ⟨trivial,lt_dec rfl,lt_dec rfl,lt_dec rfl,lt_dec rfl,trivial⟩ rfl ?_|refine LCov.same ⟨trivial,trivial⟩ rfl ?_|refine LCov.cons trivial rfl (.of_eq (lst_len (by simp<;>omega))) ?_)
  ·rw [e2,e1]
   repeat (first|exact HCov.nil|(refine HCov.cons (lt_dec rfl) ?_ rfl ?_ ?_;(first|exact HB.under_of rfl|exact PVs.under_pure _ _|(simp [HB.under,PVs.under,PV.under]));(first|exact HLe.refl _|exact HLe.vec (FLes.refl _) (by simp))))
 ·have hk2:=appK_len f10 (gi o.divs (A % o.divs.length)).stops (60+A % 2-(gi o.divs (A % o.divs.length)).stops.length)
  repeat' (first|(refine VWp.at 47 ?_;refine VWp.ghost (Ghost.freezeCell 9 4 rfl rfl rfl) ?_;first|apply VWp.rseq|apply VWp.rseqD)|(refine VWp.at 49 ?_;refine VWp.ghost (Ghost.trans (Ghost.freezeCell 0 1 rfl rfl rfl) (Ghost.trans (Ghost.freezeCell 0 2 rfl rfl rfl) (Ghost.freezeCell 0 3 rfl rfl rfl))) ?_;first|apply VWp.rseq|apply VWp.rseqD)|apply VWp.assoc|apply VWp.rseq|apply VWp.exitSeq|apply QSeq.normal|apply QBlk.normal|apply QBlk.exit|apply QLoop.exit|apply VWp.ret|apply VOps.nil|apply VOps.one|(apply VVal.storeVL (y:=(⟨(gi o.divs (A % o.divs.length)).name,(gi o.divs (A % o.divs.length)).pedal,(gi o.divs (A % o.divs.length)).lo,(gi o.divs (A % o.divs.length)).hi,appK f10 (gi o.divs (A % o.divs.length)).stops (60+A % 2-(gi o.divs (A % o.divs.length)).stops.length)⟩:Dvs));rfl;rfl;rfl;trivial;(first|rfl|(refine congrArg (fun t=>[PV.p (FV.int _ t)]) ?_;first|omega|(simp only [Int.natCast_add,Int.natCast_mul,Int.natCast_ediv,Int.natCast_emod]<;>omega)));rfl;rfl;decide;(first|omega|(simp only [List.length_set]<;>omega)))|(apply VVal.indexVN (i:=A % o.divs.length);rfl;rfl;rfl;rfl;exact kd)|(apply VVal.move;rfl)|(apply VVal.add64;rfl;rfl;omega)|(apply VVal.remI;rfl;rfl;omega;omega)|(apply VVal.int;rfl;rfl;rfl)|(apply VVal.load;rfl;rfl)|(apply VVal.lenV;rfl;rfl;rfl)|(apply VVal.fieldB;rfl;rfl;rfl)|(apply VVal.storeB;rfl;rfl;rfl;trivial;rfl;rfl;exact lt_dec rfl;exact le_dec rfl)|(apply VVal.convI;rfl;rfl;rfl;rfl;omega)|(apply VWp.condSeq_dec;rfl)|(intro _;try (exfalso;omega)))
  all_goals first|(exfalso;omega)|contradiction|(refine Done.ret rfl (.refl _) (by first|exact trivial|exact ⟨trivial,trivial,trivial⟩|exact ⟨trivial,trivial,trivial,trivial⟩) HCov.nil (Nat.zero_le _) (Nat.le_refl _) ⟨?_,rfl,rfl⟩;try rfl)
end Go.Proofs.YtnhdddmhkhdlhaaGreatDoor
namespace Go.Proofs.YtnhdddmhkhdlhaaGreatDoor
open Go Go.Am Go.Vm
attribute [local irreducible] VVal VOps VOpsD VWp VCalls VFun VFunV QSeq QBlk QLoop Vm.Done DoneV DoneI
theorem orgL_of {m:Nat} {nm:List UInt8} {R:List Rnk} {D:List Dvs} {C:List Cpl} (h0:nm.length<1000000) (hm:m<1000000) (hR:R.length≤m) (hRa:∀ i,i<R.length→RnkSm (gi R i)) (hD:D.length≤m) (hDa:∀ i,i<D.length→DvsSm (gi D i)∧(gi D i).stops.length≤m) (hC:C.length≤m) (hCa:∀ i,i<C.length→(gi C i).name.length<1000000):OrgL m ⟨nm,R,D,C⟩ :=
 ⟨⟨h0,by show R.length<_;omega,by show D.length<_;omega,by show C.length<_;omega,hRa,fun i hi=>(hDa i hi).1,hCa⟩,hR,hD,hC,fun i hi=>(hDa i hi).2⟩
theorem gset_all {α:Type} [Inhabited α] {P:α→Prop} {l:List α} {i:Nat} {a:α} (h:∀ j,j<l.length→P (gi l j)) (ha:P a):∀ j,j<(l.set i a).length→P (gi (l.set i a) j):=fun j hj=>by
 rw [List.length_set] at hj
 rw [gi_set]
 split
 ·exact ha
 ·exact h j hj
theorem gapp_all {α:Type} [Inhabited α] {P:α→Prop} {l:List α} {a:α} (h:∀ j,j<l.length→P (gi l j)) (ha:P a):∀ j,j<(l++[a]).length→P (gi (l++[a]) j):=fun j hj=>by
 simp only [List.length_append,List.length_singleton] at hj
 unfold gi
 rcases Nat.lt_or_ge j l.length with h1|h1
 ·rw [List.getElem?_append_left h1];exact h j h1
 ·obtain rfl:j=l.length:=by omega
  simp only [List.getElem?_concat_length,Option.getD_some];exact ha
theorem gtake_all {α:Type} [Inhabited α] {P:α→Prop} {l:List α} {k:Nat} (h:∀ j,j<l.length→P (gi l j)):∀ j,j<(l.take k).length→P (gi (l.take k) j):=fun j hj=>by
 rw [List.length_take] at hj
 have e:gi (l.take k) j=gi l j:=by
  unfold gi;rw [List.getElem?_take,if_pos (by omega)]
 rw [e];exact h j (by omega)
theorem appK_all {α:Type} [Inhabited α] {P:α→Prop} {f:List α→α} {l:List α} (hf:∀ r:List α,(∀ j,j<r.length→P (gi r j))→l.length≤r.length→P (f r)) (h:∀ j,j<l.length→P (gi l j)):∀ k,∀ j,j<(appK f l k).length→P (gi (appK f l k) j)
 |0=>h
 |k+1=>gapp_all (appK_all hf h k) (hf _ (appK_all hf h k) (by rw [appK_len];omega))
theorem ch_len {l:List (List UInt8)} {k:Nat} (h:∀ x∈l,x.length≤5):(gi l k).length<1000000:=by
 rcases Nat.lt_or_ge k l.length with h1|h1
 ·have:=h (gi l k) (by unfold gi;rw [List.getElem?_eq_getElem h1];exact List.getElem_mem h1)
  omega
 ·have e:gi l k=([]:List UInt8):=by unfold gi;rw [List.getElem?_eq_none h1];rfl
  rw [e];decide
theorem chg_ex (o:Org) (n:Nat) (hn:n≤800) (hl:OrgL n o) (hr0:0<o.ranks.length) (hd0:0<o.divs.length) (x:Slp) (hx:x.Ok) :
 ∃ o':Org,VFun env 14 [.agg (Enc.enc o),.agg (Enc.enc x)] (.p (.agg (Enc.enc o')))∧OrgL (n+100) o':=by
 obtain ⟨K,A⟩:=x
 obtain ⟨hK,hA⟩:=hx
 simp only at hK hA
 have kd:A % o.divs.length<o.divs.length:=Nat.mod_lt _ hd0
 have kr:A % o.ranks.length<o.ranks.length:=Nat.mod_lt _ hr0
 have l1:=hl.ranks
 have l2:=hl.divs
 have l3:=hl.cpls
 have q0:=hl.sm.name
 have qR:=hl.sm.rk
 have qC:=hl.sm.cp
 have qD:∀ i,i<o.divs.length→DvsSm (gi o.divs i)∧(gi o.divs i).stops.length≤n+100:=fun i hi=>⟨hl.sm.dv i hi,by have:=hl.stops i hi;omega⟩
 have qd:=qD _ kd
 have qr:=qR _ kr
 have hst:=hl.stops _ kd
 have dS:=gset_all (P:=fun d:Dvs=>DvsSm d∧d.stops.length≤n+100) (i:=A % o.divs.length) qD qd
 have cA:∀ x∈chA,x.length≤5:=by decide
 have cB:∀ x∈chB,x.length≤5:=by decide
 have cC:∀ x∈chC,x.length≤5:=by decide
 have cD:∀ x∈chD,x.length≤5:=by decide
 have cE:∀ x∈chE,x.length≤5:=by decide
 have mk:∀ {nm:List UInt8} {R:List Rnk} {D:List Dvs} {C:List Cpl},nm.length<1000000→R.length≤n+100→(∀ i,i<R.length→RnkSm (gi R i))→D.length≤n+100→(∀ i,i<D.length→DvsSm (gi D i)∧(gi D i).stops.length≤n+100)→C.length≤n+100→(∀ i,i<C.length→(gi C i).name.length<1000000)→OrgL (n+100) ⟨nm,R,D,C⟩:=fun h1 h2 h3 h4 h5 h6 h7=>orgL_of h1 (by omega) h2 h3 h4 h5 h6 h7
 have s16:K % 16<16:=Nat.mod_lt _ (by decide)
 have hn':n≤1000:=by omega
 by_cases k0:K % 16=0∨K % 16=14∨K % 16=15
 ·exact ⟨_,chg0 o n hn' hl hr0 hd0 K A hK hA k0,mk q0 (by omega) qR (by rw [List.length_set];omega) dS (by omega) qC⟩
 by_cases k1:K % 16=1
 ·exact ⟨_,chg1 o n hn' hl hr0 hd0 K A hK hA k1,mk (ch_len cA) (by omega) qR (by rw [List.length_set];omega) dS (by omega) qC⟩
 by_cases k2:K % 16=2
 ·exact ⟨_,chg2 o n hn' hl hr0 hd0 K A hK hA k2,mk q0 (by rw [List.length_set];omega) (gset_all qR ⟨qr.name,qr.tone,by show 0<1000000;decide⟩) (by rw [List.length_set];omega) dS (by omega) qC⟩
 by_cases k3:K % 16=3
 ·exact ⟨_,chg3 o n hn' hl hr0 hd0 K A hK hA k3,mk q0 (by rw [List.length_set];omega) (gset_all qR ⟨ch_len cB,qr.tone,qr.wind⟩) (by rw [List.length_set];omega) dS (by omega) qC⟩
 by_cases k4:K % 16=4
 ·refine ⟨_,chg4 o n hn' hl hr0 hd0 K A hK hA k4,mk q0 (by rw [appK_len];omega) (appK_all (fun r hr hlen=>?_) qR _) (by rw [List.length_set];omega) dS (by omega) qC⟩
  have:=hr 0 (by omega)
  exact ⟨by simp [f4],this.tone,this.wind⟩
 by_cases k5:K % 16=5
 ·exact ⟨_,chg5 o n hn' hl hr0 hd0 K A hK hA k5,mk q0 (by omega) qR (by simp) (fun i hi=>by simp at hi) (by omega) qC⟩
 by_cases k6:K % 16=6
 ·exact ⟨_,chg6 o n hn' hl hr0 hd0 K A hK hA k6,mk q0 (by omega) qR (by rw [List.length_set,appK_len];omega) (gset_all (P:=fun d:Dvs=>DvsSm d∧d.stops.length≤n+100) (appK_all (P:=fun d:Dvs=>DvsSm d∧d.stops.length≤n+100) (fun r hr hlen=>⟨⟨by simp [f6],by simp [f6],fun i hi=>by simp [f6] at hi⟩,by simp [f6]⟩) qD _) qd) (by omega) qC⟩
 by_cases k7:K % 16=7
 ·exact ⟨_,chg7 o n hn' hl hr0 hd0 K A hK hA k7,mk q0 (by omega) qR (by rw [List.length_set];omega) (gset_all (P:=fun d:Dvs=>DvsSm d∧d.stops.length≤n+100) qD ⟨⟨ch_len cC,qd.1.stops,qd.1.all⟩,qd.2⟩) (by omega) qC⟩
 by_cases k8:K % 16=8
 ·exact ⟨_,chg8 o n hn' hl hr0 hd0 K A hK hA k8,mk q0 (by omega) qR (by rw [List.length_set];omega) (gset_all (P:=fun d:Dvs=>DvsSm d∧d.stops.length≤n+100) qD ⟨⟨qd.1.name,qd.1.stops,qd.1.all⟩,qd.2⟩) (by omega) qC⟩
 by_cases h0:(gi o.divs (A % o.divs.length)).stops.length=0
 ·by_cases k9:K % 16=9∨K % 16=10
  ·exact ⟨_,chg9n o n hn' hl hr0 hd0 K A hK hA k9 h0,mk q0 (by omega) qR (by rw [List.length_set];omega) dS (by omega) qC⟩
  by_cases k11:K % 16=11
  ·exact ⟨_,chg11 o n hn' hl hr0 hd0 K A hK hA k11,mk q0 (by rw [List.length_take];omega) (gtake_all qR) (by rw [List.length_set];omega) dS (by omega) qC⟩
  by_cases k12:K % 16=12
  ·exact ⟨_,chg12 o n hn' hl hr0 hd0 K A hK hA k12,mk q0 (by omega) qR (by rw [List.length_set];omega) dS (by simp;omega) (gapp_all (P:=fun c:Cpl=>c.name.length<1000000) qC (by show 2<1000000;decide))⟩
  ·exact ⟨_,chg13 o n hn' hl hr0 hd0 K A hK hA (by omega),mk q0 (by omega) qR (by rw [List.length_set];omega) dS (by simp;omega) (gapp_all (P:=fun c:Cpl=>c.name.length<1000000) qC (ch_len cE))⟩
 have h0':0<(gi o.divs (A % o.divs.length)).stops.length:=by omega
 by_cases k9:K % 16=9
 ·exact ⟨_,chg9 o n hn' hl hr0 hd0 K A hK hA k9 h0',mk q0 (by omega) qR (by rw [List.length_set];omega) (gset_all (P:=fun d:Dvs=>DvsSm d∧d.stops.length≤n+100) qD ⟨⟨qd.1.name,by show (List.set _ _ _).length<_;rw [List.length_set];exact qd.1.stops,gset_all qd.1.all ⟨ch_len cD,(qd.1.all 0 h0').segs,(qd.1.all 0 h0').all⟩⟩,by show (List.set _ _ _).length≤_;rw [List.length_set];exact qd.2⟩) (by omega) qC⟩
 by_cases k10:K % 16=10
 ·refine ⟨_,chg10 o n hn' hl hr0 hd0 K A hK hA k10 h0',mk q0 (by omega) qR (by rw [List.length_set];omega) (gset_all (P:=fun d:Dvs=>DvsSm d∧d.stops.length≤n+100) qD ⟨⟨qd.1.name,by show (appK _ _ _).length<_;rw [appK_len];omega,appK_all (fun r hr hlen=>?_) qd.1.all _⟩,by show (appK _ _ _).length≤_;rw [appK_len];omega⟩) (by omega) qC⟩
  have:=hr 0 (by omega)
  exact ⟨by simp [f10],this.segs,this.all⟩
 by_cases k11:K % 16=11
 ·exact ⟨_,chg11 o n hn' hl hr0 hd0 K A hK hA k11,mk q0 (by rw [List.length_take];omega) (gtake_all qR) (by rw [List.length_set];omega) dS (by omega) qC⟩
 by_cases k12:K % 16=12
 ·exact ⟨_,chg12 o n hn' hl hr0 hd0 K A hK hA k12,mk q0 (by omega) qR (by rw [List.length_set];omega) dS (by simp;omega) (gapp_all (P:=fun c:Cpl=>c.name.length<1000000) qC (by show 2<1000000;decide))⟩
 ·exact ⟨_,chg13 o n hn' hl hr0 hd0 K A hK hA (by omega),mk q0 (by omega) qR (by rw [List.length_set];omega) dS (by simp;omega) (gapp_all (P:=fun c:Cpl=>c.name.length<1000000) qC (ch_len cE))⟩
theorem OrgT.l {o:Org} (h:OrgT o):OrgL 3 o:=⟨h.sm,h.ranks.2,h.divs.2,h.cpls,h.stops⟩
theorem has_slip {j:Nat} {fs:List FV} (h:HasT Tryz.prog (j+2) 33 fs):∃ x:Slp,fs=Enc.enc x∧x.Ok:=by
 obtain ⟨parts,rfl,hp⟩:=hasT_struct h Tryz.underlying33
 obtain ⟨a,b,rfl,h1,h2⟩:=all2_two hp
 obtain ⟨m1,rfl,q1⟩:=has_u8 (j:=j) h1
 obtain ⟨m2,rfl,q2⟩:=has_u8 (j:=j) h2
 exact ⟨⟨m1,m2⟩,rfl,q1,q2⟩
end Go.Proofs.YtnhdddmhkhdlhaaGreatDoor
namespace Go.Proofs.YtnhdddmhkhdlhaaGreatDoor
open Go Go.Am Go.Vm Go.Pie
attribute [local irreducible] VVal VOps VOpsD VWp VCalls VFun VFunV QSeq QBlk QLoop Vm.Done DoneV DoneI
attribute [local irreducible] rchk windsE stoE dvsE cplE shiftR tailH
theorem pieceOrgans_spec (x:PPl) (hx:x.Ok) (a:Slp) (ha:a.Ok):VFun env 3 [.agg x.enc,.agg (Enc.enc a)] (.p (.bool true)):=by
 have hkn:=known_spec
 have hfit:=pfits_spec x hx
 by_cases hf:pfits x
 case neg =>
  rw [decide_eq_false hf] at hfit
  refine VFun.enter (env_none (by decide)) Tryz.func3 rfl (by kernel_rfl) (by simp [Tryz.ntmps3]) ?_
  repeat' (first|apply VWp.assoc|apply VWp.rseq|apply VWp.retSeq|apply VOps.nil|apply VOps.one|(apply VOps.take;rfl;rfl)|(apply VVal.fn;rfl;rfl;exact hkn;intro _;rfl)|(apply VVal.fn;rfl;rfl;exact hfit;intro _;rfl)|(apply VVal.assign;rfl)|(apply VVal.move;rfl)|(apply VVal.load;rfl;rfl)|(apply VVal.pick_false;rfl;rfl)|(apply VVal.box;rfl;trivial)|(apply VVal.not;rfl)|(apply VWp.condSeq_true;rfl))
  all_goals first|(exfalso;omega)|contradiction|(refine Done.ret rfl (.refl _) (by first|exact trivial|exact ⟨trivial,trivial,trivial⟩|exact ⟨trivial,trivial,trivial,trivial⟩) HCov.nil (Nat.zero_le _) (Nat.le_refl _) ⟨?_,rfl,rfl⟩;try rfl)
 rw [decide_eq_true hf] at hfit
 have hm:=make45_spec x hx hf
 have t:=mkO_t x.org hx.org hf.1
 have pK:=mkP_k x hx hf
 obtain ⟨F,hF,lF⟩:=chg_ex (mkO x.org) 3 (by decide) t.l t.ranks.1 t.divs.1 a ha
 have hcF:=ocheck_spec F lF.sm
 have hpc:=pieCheck_spec F (mkP x) lF.sm pK.sm
 generalize mkO x.org=o at *
 generalize mkP x=p at *
 by_cases e:orgE F=0
 ·rw [e] at hcF
  refine VFun.enter (env_none (by decide)) Tryz.func3 rfl (by kernel_rfl) (by simp [Tryz.ntmps3]) ?_
  repeat' (first|apply VWp.assoc|apply VWp.rseq|apply VWp.skipSeq|apply VWp.ret|apply VOps.nil|apply VOps.one|(apply VOps.take;rfl;rfl)|(apply VOps.drop;rfl;rfl;rfl)|(apply VVal.fn;rfl;rfl;exact hkn;intro _;rfl)|(apply VVal.fn;rfl;rfl;exact hfit;intro _;rfl)|(apply VVal.fn;rfl;rfl;exact hm;intro _;rfl)|(apply VVal.fn;rfl;rfl;exact hF;intro _;rfl)|(apply VVal.fn;rfl;rfl;exact hcF;intro _;rfl)|(apply VVal.assign;rfl)|(apply VVal.move;rfl)|(apply VVal.int;rfl;rfl;rfl)|(apply VVal.load;rfl;rfl)|(apply VVal.pick_true;rfl;rfl)|(apply VVal.pick_false;rfl;rfl)|(apply VVal.box;rfl;trivial)|(apply VVal.alloc;rfl)|(apply VVal.storeB;rfl;rfl;rfl;trivial;rfl;rfl;exact lt_dec rfl;exact le_dec rfl)|(apply VVal.not;rfl)|(apply VVal.extract;rfl;rfl)|(apply VWp.condSeq_false;rfl))
  all_goals first|(exfalso;omega)|contradiction|(refine Done.ret rfl (.refl _) (by first|exact trivial|exact ⟨trivial,trivial,trivial⟩|exact ⟨trivial,trivial,trivial,trivial⟩) HCov.nil (Nat.zero_le _) (Nat.le_refl _) ⟨?_,rfl,rfl⟩;try rfl)
 ·have hq2:pceE F p=orgE F:=by unfold pceE;rw [if_pos e]
  rw [hq2] at hpc
  generalize orgE F=E at *
  refine VFun.enter (env_none (by decide)) Tryz.func3 rfl (by kernel_rfl) (by simp [Tryz.ntmps3]) ?_
  repeat' (first|apply VWp.assoc|apply VWp.rseq|apply VWp.skipSeq|apply VWp.ret|apply VOps.nil|apply VOps.one|(apply VOps.take;rfl;rfl)|(apply VOps.guard;rfl;rfl)|(apply VVal.fn;rfl;rfl;exact hkn;intro _;rfl)|(apply VVal.fn;rfl;rfl;exact hfit;intro _;rfl)|(apply VVal.fn;rfl;rfl;exact hm;intro _;rfl)|(apply VVal.fn;rfl;rfl;exact hF;intro _;rfl)|(apply VVal.fn;rfl;rfl;exact hcF;intro _;rfl)|(apply VVal.fn;rfl;rfl;exact hpc;intro _;rfl)|(apply VVal.assign;rfl)|(apply VVal.move;rfl)|(apply VVal.int;rfl;rfl;rfl)|(apply VVal.load;rfl;rfl)|(apply VVal.pick_false;rfl;rfl)|(apply VVal.box;rfl;trivial)|(apply VVal.alloc;rfl)|(apply VVal.storeB;rfl;rfl;rfl;trivial;rfl;rfl;exact lt_dec rfl;exact le_dec rfl)|(apply VVal.not;rfl)|(apply VVal.extract;rfl;rfl)|(apply VWp.condSeq_false;rfl)|(intro _;try (exfalso;omega)))
  all_goals first|(exfalso;omega)|contradiction|(refine Done.ret rfl (.refl _) (by first|exact trivial|exact ⟨trivial,trivial,trivial⟩|exact ⟨trivial,trivial,trivial,trivial⟩) HCov.nil (Nat.zero_le _) (Nat.le_refl _) ⟨?_,rfl,rfl⟩;try rfl)
  all_goals exact PV.bool_eq (by simp)
end Go.Proofs.YtnhdddmhkhdlhaaGreatDoor
