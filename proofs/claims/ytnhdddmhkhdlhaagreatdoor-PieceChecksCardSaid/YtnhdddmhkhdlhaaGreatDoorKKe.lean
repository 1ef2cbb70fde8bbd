/-
  Texts of a proof, merged (OrD, OrE, VmG, OrN, TraE, PieA, PieP, Vm31, Vm30, Vm36, Vm32, Vm33, Vm34, Vm37, Vm38, Vm40, Vm41, Vm42, PieB, PieC, PieD, PieE, PieF, OrO, PieG, PieM, OrQd, PieR). Conditions: in each statement.
-/
import Derived.Lib.SlicesCompact
import Derived.Test.YtnhdddmhkhdlhaaGreatDoorKKd
set_option linter.unusedSimpArgs false
set_option linter.unusedVariables false
set_option linter.unusedSectionVars false
set_option maxRecDepth 100000
set_option maxHeartbeats 8000000
namespace Go.Proofs.YtnhdddmhkhdlhaaGreatDoor
open Go Go.Am Go.Vm
attribute [local irreducible] Aa Af Ak Ad Bv AQ BN AV AP Az Vm.Done Cb BH
attribute [local irreducible] Dc BZ
theorem uY {L:Vm.Frame} {H:Vm.Heap} {nx:Nat} {Q:PV→Vm.Heap→Nat→Prop} {dst:Option Tmp} {ty:TypeId} {pos:String} {af:Array Edge} {gd:Option (Nat×Bool)} {fo:Operand} {args:Array Operand} {aT:Array TypeId} {fs cs xs:List PV} {c:Code}
 (hf:BF env.Γ L fo=some (.clo 82 fs cs)) (ha:evs env.Γ L args.toList=some xs) (hb:Tryz.f82.body=some c) (hn:(fs++xs++cs).length≤Tryz.f82.ntmps)
 (h:Ad env nx c (DK 0 (fs++xs++cs)) H nx (BH env.P Tryz.f82.results.toList Q)):Aa env true ⟨dst,.call { callee:=.value fo,args:=args,argTypes:=aT },ty,pos,af,gd⟩ L H nx Q:=by
 have h0:(match Tryz.f82.body with|some c=>KO env.G Tryz.f82 c|none=>false)=true:=by kernel_rfl
 rw [hb] at h0
 exact Aa.inline rfl hf ha (Ar (by decide)) Tryz.func82 hb h0 hn h
theorem vX {L:Vm.Frame} {H:Vm.Heap} {nx:Nat} {Q:PV→Vm.Heap→Nat→Prop} {dst:Option Tmp} {ty:TypeId} {pos:String} {af:Array Edge} {gd:Option (Nat×Bool)} {fo:Operand} {args:Array Operand} {aT:Array TypeId} {fs cs xs:List PV} {c:Code}
 (hf:BF env.Γ L fo=some (.clo 102 fs cs)) (ha:evs env.Γ L args.toList=some xs) (hb:Tryz.f102.body=some c) (hn:(fs++xs++cs).length≤Tryz.f102.ntmps)
 (h:Ad env nx c (DK 0 (fs++xs++cs)) H nx (BH env.P Tryz.f102.results.toList Q)):Aa env true ⟨dst,.call { callee:=.value fo,args:=args,argTypes:=aT },ty,pos,af,gd⟩ L H nx Q:=by
 have h0:(match Tryz.f102.body with|some c=>KO env.G Tryz.f102 c|none=>false)=true:=by kernel_rfl
 rw [hb] at h0
 exact Aa.inline rfl hf ha (Ar (by decide)) Tryz.func102 hb h0 hn h
theorem iC {L:Vm.Frame} {H:Vm.Heap} {nx:Nat} {Q:PV→Vm.Heap→Nat→Prop} {dst:Option Tmp} {ty:TypeId} {pos:String} {af:Array Edge} {gd:Option (Nat×Bool)} {fo:Operand} {args:Array Operand} {aT:Array TypeId} {fs cs xs:List PV} {c:Code}
 (hf:BF env.Γ L fo=some (.clo 83 fs cs)) (ha:evs env.Γ L args.toList=some xs) (hb:Tryz.f83.body=some c) (hn:(fs++xs++cs).length≤Tryz.f83.ntmps)
 (h:Ad env nx c (DK 0 (fs++xs++cs)) H nx (BH env.P Tryz.f83.results.toList Q)):Aa env true ⟨dst,.call { callee:=.value fo,args:=args,argTypes:=aT },ty,pos,af,gd⟩ L H nx Q:=by
 have h0:(match Tryz.f83.body with|some c=>KO env.G Tryz.f83 c|none=>false)=true:=by kernel_rfl
 rw [hb] at h0
 exact Aa.inline rfl hf ha (Ar (by decide)) Tryz.func83 hb h0 hn h
theorem YI (ks:List Yf) (l:List YL) (hk0:ks.length<1000000) (hl:l.length<1000000) (hn0:∀ i,i<l.length→(gi l i).name.length<1000000):AQ env 49 [.lst 108 (cells ks) ks.length,.lst 129 (cells l) l.length] (.p (.int .i64 (Gj ks l))):=by
 unfold Gj
 refine AQ.enter (Ar (by decide)) Tryz.func49 rfl (by kernel_rfl) (by simp [Tryz.ntmps49]) ?_
 by_cases h0:ks.length>8∨l.length>40
 ·rw [if_pos h0]
  repeat' (first|apply Ad.assoc|apply Ad.Aw|apply Ad.Bf|apply Af.nil|apply Af.one|(apply Af.take;rfl;rfl)|(apply Af.drop;rfl;rfl;rfl)|(apply Af.guard;rfl;rfl)|(apply Aa.assign;rfl)|(apply Aa.move;rfl)|(apply Aa.int;rfl;rfl;rfl)|(apply Aa.AZ;rfl;rfl)|(apply Aa.AB;rfl;rfl)|(apply Aa.Bz;rfl;rfl)|(apply Ad.Bq;rfl)|(apply Ad.Ae;rfl)|(intro _;try (exfalso;omega)))
  all_goals first|(exfalso;omega)|(refine Done.ret rfl (.refl _) (by first|exact trivial|exact ⟨trivial,trivial,trivial⟩|exact ⟨trivial,trivial,trivial,trivial⟩) Ap.nil (Nat.zero_le _) (Nat.le_refl _) ⟨?_,rfl,rfl⟩;try rfl)
 rw [if_neg h0]
 repeat' (first|apply Ad.assoc|apply Ad.Aw|apply Ad.Aq|apply Ad.Aj|apply Af.nil|apply Af.one|(apply Af.take;rfl;rfl)|(apply Af.guard;rfl;rfl)|(apply Aa.assign;rfl)|(apply Aa.move;rfl)|(apply Aa.int;rfl;rfl;rfl)|(apply Aa.AB;rfl;rfl)|(apply Aa.Bz;rfl;rfl)|(apply Ad.Ae;rfl)|(intro _;try (exfalso;omega)))
 all_goals try (exfalso;omega)
 refine Ad.Ec (fun k:Nat=>[(0,lst 108 ks),(1,lst 129 l),(17,lst 108 ks),(18,.p (.int .i64 (ks.length:Int))),(19,.p (.int .i64 (k:Int)))]) (fun _=>[]) 0 (fun k=>k≤ks.length∧Pv ks k=Pv ks 0) (fun k=>ks.length-k) 0 (by omega) ⟨by omega,rfl⟩ ⟨by omega,?_,Ap.nil⟩ ?_
 ·repeat (first|exact Ah.nil|refine Ah.same trivial rfl ?_|refine Ah.same (Ac rfl) rfl ?_|refine Ah.same ⟨trivial,Ac rfl,trivial⟩ rfl ?_|refine Ah.same ⟨trivial,Ac rfl,Ac rfl,trivial⟩ rfl ?_|refine Ah.same ⟨trivial,Ac rfl,Ac rfl,Ac rfl,trivial⟩ rfl ?_|refine Ah.same ⟨trivial,Ac rfl,Ac rfl,Ac rfl,Ac rfl,trivial⟩ rfl ?_|refine Ah.same ⟨trivial,trivial⟩ rfl ?_|refine Ah.cons trivial rfl (.of_eq (AL (by simp<;>omega))) ?_)
 rintro k ⟨hk,hE⟩
 by_cases hkl:k<ks.length
 ·have hc:=Ut (gi ks k).lo (gi ks k).hi
  by_cases h1:RZ (gi ks k).lo (gi ks k).hi=0
  ·rw [h1] at hc
   repeat' (first|apply Ad.Aw|apply Ad.region|apply Ad.Aq|apply Ad.Aj|apply AV.normal|apply AP.normal|apply Ad.skip|apply Af.nil|apply Af.one|(apply Aa.fn;rfl;rfl;exact hc;intro _;rfl)|(apply Aa.move;rfl)|(apply Aa.BD;rfl;rfl;omega)|(apply Aa.int;rfl;rfl;rfl)|(apply Aa.AO;rfl;rfl;rfl;omega;rfl)|(apply Aa.load;rfl;rfl)|(apply Aa.alloc;rfl)|(apply Aa.AY;rfl;rfl;rfl;trivial;rfl;rfl;exact Ac rfl;exact le_dec rfl)|(apply Ad.Ae;rfl)|(apply Ad.cond_false;rfl)|(intro _;try (exfalso;omega)))
   all_goals try (exfalso;omega)
   all_goals try contradiction
   refine Az.normal ⟨k+1,⟨by omega,?_⟩,by omega,⟨by omega,?_,Ap.nil⟩⟩
   ·first|rfl|(refine Eq.trans ?_ hE;symm;(conv=>lhs;rw [Pv]);rw [if_pos hkl,if_neg (fun h=>h h1)])
   ·repeat (first|exact Ah.nil|refine Ah.same trivial rfl ?_|refine Ah.same (Ac rfl) rfl ?_|refine Ah.same ⟨trivial,Ac rfl,trivial⟩ rfl ?_|refine Ah.same ⟨trivial,Ac rfl,Ac rfl,trivial⟩ rfl ?_|refine Ah.same ⟨trivial,Ac rfl,Ac rfl,Ac rfl,trivial⟩ rfl ?_|refine Ah.same ⟨trivial,Ac rfl,Ac rfl,Ac rfl,Ac rfl,trivial⟩ rfl ?_|refine Ah.same ⟨trivial,trivial⟩ rfl ?_|refine Ah.cons trivial rfl (.of_eq (AL (by simp<;>omega))) ?_)
  ·have e:Pv ks 0=23:=by rw [← hE,Pv,if_pos hkl,if_pos h1]
   rw [if_pos (by rw [e];decide),e]
   repeat' (first|apply Ad.Aw|apply Ad.Aq|apply Ad.Aj|apply AV.ret|apply AP.ret|apply Az.ret|apply Ad.ret|apply Af.nil|apply Af.one|(apply Aa.fn;rfl;rfl;exact hc;intro _;rfl)|(apply Aa.assign;rfl)|(apply Aa.int;rfl;rfl;rfl)|(apply Aa.AO;rfl;rfl;rfl;omega;rfl)|(apply Aa.load;rfl;rfl)|(apply Aa.alloc;rfl)|(apply Aa.AY;rfl;rfl;rfl;trivial;rfl;rfl;exact Ac rfl;exact le_dec rfl)|(apply Ad.Ae;rfl)|(apply Ad.AX;rfl)|(intro _;try (exfalso;omega)))
   all_goals first|(exfalso;omega)|contradiction|(refine Done.ret rfl (.refl _) (by first|exact trivial|exact ⟨trivial,trivial,trivial⟩|exact ⟨trivial,trivial,trivial,trivial⟩) Ap.nil (Nat.zero_le _) (Nat.le_refl _) ⟨?_,rfl,rfl⟩;try rfl)
 obtain rfl:k=ks.length:=by omega
 have e:Pv ks 0=0:=by rw [← hE,Pv,if_neg (by omega)]
 rw [if_neg (fun h=>h e)]
 repeat' (first|apply Ad.assoc|apply Ad.Aw|apply Ad.Bj|apply Ad.Aj|apply AV.normal|apply AP.exit|apply Az.exit|apply Af.nil|apply Af.one|(apply Aa.move;rfl)|(apply Aa.int;rfl;rfl;rfl)|(apply Aa.Bz;rfl;rfl)|(apply Ad.Ae;rfl)|(intro _;try (exfalso;omega)))
 all_goals try (exfalso;omega)
 refine Ad.Ec (fun k:Nat=>[(0,lst 108 ks),(1,lst 129 l),(27,lst 129 l),(28,.p (.int .i64 (l.length:Int))),(29,.p (.int .i64 (k:Int)))]) (fun _=>[]) 0 (fun k=>k≤l.length∧OA ks.length l k=OA ks.length l 0) (fun k=>l.length-k) 0 (by omega) ⟨by omega,rfl⟩ ⟨by omega,?_,Ap.nil⟩ ?_
 ·repeat (first|exact Ah.nil|refine Ah.same trivial rfl ?_|refine Ah.same (Ac rfl) rfl ?_|refine Ah.same ⟨trivial,Ac rfl,trivial⟩ rfl ?_|refine Ah.same ⟨trivial,Ac rfl,Ac rfl,trivial⟩ rfl ?_|refine Ah.same ⟨trivial,Ac rfl,Ac rfl,Ac rfl,trivial⟩ rfl ?_|refine Ah.same ⟨trivial,Ac rfl,Ac rfl,Ac rfl,Ac rfl,trivial⟩ rfl ?_|refine Ah.same ⟨trivial,trivial⟩ rfl ?_|refine Ah.cons trivial rfl (.of_eq (AL (by simp<;>omega))) ?_)
 rintro k ⟨hk,hE⟩
 rw [← hE]
 by_cases hkl:k<l.length
 case neg =>
  rw [OA,if_neg hkl]
  repeat' (first|apply Ad.Aw|apply Ad.Bj|apply AV.normal|apply AP.exit|apply Az.exit|apply Ad.ret|apply Af.nil|apply Af.one|(apply Aa.assign;rfl)|(apply Aa.int;rfl;rfl;rfl)|(apply Ad.Ae;rfl)|(intro _;try (exfalso;omega)))
  all_goals first|(exfalso;omega)|(refine Done.ret rfl (.refl _) (by first|exact trivial|exact ⟨trivial,trivial,trivial⟩|exact ⟨trivial,trivial,trivial,trivial⟩) Ap.nil (Nat.zero_le _) (Nat.le_refl _) ⟨?_,rfl,rfl⟩;try rfl)
 rw [OA,if_pos hkl]
 have hN:=G7 (gi l k).name (by have:=hn0 k hkl;omega)
 by_cases h1:Du (gi l k).name
 case neg =>
  rw [if_pos h1]
  rw [decide_eq_false h1] at hN
  repeat' (first|apply Ad.Aw|apply Ad.Aq|apply Ad.Aj|apply AV.ret|apply AP.ret|apply Az.ret|apply Ad.ret|apply Ad.IZ|apply Af.nil|apply Af.one|(apply Aa.fn;rfl;rfl;exact hN;intro _;rfl)|(apply Aa.assign;rfl)|(apply Aa.move;rfl)|(apply Aa.int;rfl;rfl;rfl)|(apply Aa.AO;rfl;rfl;rfl;omega;rfl)|(apply Aa.load;rfl;rfl)|(apply Aa.AA;rfl;rfl;rfl)|(apply Aa.alloc;rfl)|(apply Aa.AY;rfl;rfl;rfl;trivial;rfl;rfl;exact Ac rfl;exact le_dec rfl)|(apply Aa.not;rfl)|(apply Ad.Ae;rfl)|(apply Ad.cond_true;rfl)|(intro _;try (exfalso;omega)))
  all_goals first|(exfalso;omega)|contradiction|(refine Done.ret rfl (.refl _) (by first|exact trivial|exact ⟨trivial,trivial,trivial⟩|exact ⟨trivial,trivial,trivial,trivial⟩) Ap.nil (Nat.zero_le _) (Nat.le_refl _) ⟨?_,rfl,rfl⟩;try rfl)
 rw [if_neg (fun h=>h h1)]
 rw [decide_eq_true h1] at hN
 have hT:(gi l k).name∈(l.take k).map YL.name↔∃ j,j<k∧(gi l j).name=(gi l k).name:=by
  rw [List.mem_map]
  constructor
  ·rintro ⟨a,ha,e⟩
   obtain ⟨j,h1,h2⟩:=VZ.1 ha
   rw [List.length_take] at h1
   rw [Uo (by omega)] at h2
   exact ⟨j,by omega,by rw [h2,e]⟩
  ·rintro ⟨j,hj,e⟩
   exact ⟨gi l j,VZ.2 ⟨j,by rw [List.length_take];omega,Uo hj⟩,e⟩
 repeat' (first|apply Ad.assoc|apply Ad.Aw|apply Ad.Aq|apply Ad.Aj|apply Ad.IZ|apply Af.nil|apply Af.one|(apply Aa.fn;rfl;rfl;exact hN;intro _;rfl)|(apply uY;rfl;rfl;rfl;exact le_dec rfl)|(apply vX;rfl;rfl;rfl;exact le_dec rfl)|(apply Aa.makeFunc;rfl;rfl)|(apply Aa.sliceTo;rfl;rfl;rfl;rfl;rfl;rfl;omega)|(apply Aa.assign;rfl)|(apply Aa.move;rfl)|(apply Aa.int;rfl;rfl;rfl)|(apply Aa.AO;rfl;rfl;rfl;omega;rfl)|(apply Aa.load;rfl;rfl)|(apply Aa.Bz;rfl;rfl)|(apply Aa.AA;rfl;rfl;rfl)|(apply Aa.alloc;rfl)|(apply Aa.AY;rfl;rfl;rfl;trivial;rfl;rfl;exact Ac rfl;exact le_dec rfl)|(apply Aa.not;rfl)|(apply Ad.Ae;rfl)|(apply Ad.cond_false;rfl)|(intro _;try (exfalso;omega)))
 all_goals try (exfalso;omega)
 all_goals try contradiction
 refine Ad.Ec (fun j:Nat=>[(0,.p (.lst 129 (cells (l.take k)) k)),(1,.clo 83 [] [.ref 0 0]),(7,.p (.int .i64 (k:Int))),(8,.p (.int .i64 (j:Int)))]) (fun _=>[(0,.box 129 ((Enc.enc (gi l k)).map .p))]) 1 (fun j=>j≤k∧∀ i,i<j→(gi l i).name≠(gi l k).name) (fun j=>k-j) 0 (by omega) ⟨by omega,fun i hi=>by omega⟩ ⟨by omega,?_,?_⟩ ?_
 ·repeat (first|exact Ah.nil|refine Ah.same trivial rfl ?_|refine Ah.same (Ac rfl) rfl ?_|refine Ah.same ⟨trivial,Ac rfl,trivial⟩ rfl ?_|refine Ah.same ⟨trivial,Ac rfl,Ac rfl,trivial⟩ rfl ?_|refine Ah.same ⟨trivial,Ac rfl,Ac rfl,Ac rfl,trivial⟩ rfl ?_|refine Ah.same ⟨trivial,Ac rfl,Ac rfl,Ac rfl,Ac rfl,trivial⟩ rfl ?_|refine Ah.same ⟨trivial,trivial⟩ rfl ?_|refine Ah.cons trivial rfl (.of_eq (AL (by simp<;>omega))) ?_)
 ·repeat (first|exact Ap.nil|(refine Ap.cons (Ac rfl) ?_ rfl ?_ ?_;(first|exact trivial|exact Ba.Ai _ _|(simp [HB.under,Ba.under,PV.under]));(first|exact BG.refl _|exact BG.vec (Bo.refl _) (by simp))))
 rintro j ⟨hj,hok⟩
 by_cases hjk:j<k
 ·have hgt:gi (l.take k) j=gi l j:=Uo hjk
  have hlt:(l.take k).length=k:=by rw [List.length_take];omega
  generalize hg:decide ((gi l j).name=(gi l k).name)=g at *
  have hg2:decide ((gi (l.take k) j).name=(gi l k).name)=g:=by rw [hgt];exact hg
  cases g
  ·repeat' (first|apply Ad.Aw|apply Ad.region|apply Ad.Aq|apply Ad.Aj|apply AV.normal|(apply BH.ret;rfl)|apply AP.normal|apply Ad.ret|apply Ad.skip|apply Af.nil|apply Af.one|(apply iC;rfl;rfl;rfl;exact le_dec rfl)|(apply Aa.zU;rfl;rfl;exact hg2)|(apply Aa.AO (l:=l.take k) (i:=j);rfl;rfl;rfl;omega;exact hlt)|(apply Aa.assign;rfl)|(apply Aa.move;rfl)|(apply Aa.BD;rfl;rfl;omega)|(apply Aa.int;rfl;rfl;rfl)|(apply Aa.load;rfl;rfl)|(apply Aa.AA;rfl;rfl;rfl)|(apply Aa.box;rfl;trivial)|(apply Ad.Ae;rfl)|(apply Ad.cond_false;rfl)|(intro _;try (exfalso;omega)))
   all_goals try (exfalso;omega)
   refine Az.normal ⟨j+1,⟨by omega,fun i hi=>?_⟩,by omega,⟨by omega,?_,?_⟩⟩
   ·rcases Nat.lt_or_ge i j with h|h
    ·exact hok i h
    ·obtain rfl:i=j:=by omega
     exact of_decide_eq_false hg
   ·repeat (first|exact Ah.nil|refine Ah.same trivial rfl ?_|refine Ah.same (Ac rfl) rfl ?_|refine Ah.same ⟨trivial,Ac rfl,trivial⟩ rfl ?_|refine Ah.same ⟨trivial,Ac rfl,Ac rfl,trivial⟩ rfl ?_|refine Ah.same ⟨trivial,Ac rfl,Ac rfl,Ac rfl,trivial⟩ rfl ?_|refine Ah.same ⟨trivial,Ac rfl,Ac rfl,Ac rfl,Ac rfl,trivial⟩ rfl ?_|refine Ah.same ⟨trivial,trivial⟩ rfl ?_|refine Ah.cons trivial rfl (.of_eq (AL (by simp<;>omega))) ?_)
   ·repeat (first|exact Ap.nil|(refine Ap.cons (Ac rfl) ?_ rfl ?_ ?_;(first|exact trivial|exact Ba.Ai _ _|(simp [HB.under,Ba.under,PV.under]));(first|exact BG.refl _|exact BG.vec (Bo.refl _) (by simp))))
  ·rw [if_pos (hT.2 ⟨j,hjk,of_decide_eq_true hg⟩)]
   repeat' (first|apply Ad.Aw|apply Ad.Aq|apply Ad.Aj|apply AV.ret|(apply BH.ret;rfl)|apply AP.ret|apply Az.ret|apply Ad.ret|apply Af.nil|apply Af.one|(apply iC;rfl;rfl;rfl;exact le_dec rfl)|(apply Aa.zU;rfl;rfl;exact hg2)|(apply Aa.AO (l:=l.take k) (i:=j);rfl;rfl;rfl;omega;exact hlt)|(apply Aa.assign;rfl)|(apply Aa.move;rfl)|(apply Aa.int;rfl;rfl;rfl)|(apply Aa.load;rfl;rfl)|(apply Aa.AA;rfl;rfl;rfl)|(apply Aa.box;rfl;trivial)|(apply Ad.Ae;rfl)|(apply Ad.cond_true;rfl)|(intro _;try (exfalso;omega)))
   all_goals first|(exfalso;omega)|contradiction|(refine Done.ret rfl (.refl _) (by first|exact trivial|exact ⟨trivial,trivial,trivial⟩|exact ⟨trivial,trivial,trivial,trivial⟩) Ap.nil (Nat.zero_le _) (Nat.le_refl _) ⟨?_,rfl,rfl⟩;try rfl)
 obtain rfl:j=k:=by omega
 rw [if_neg (fun h=>by obtain ⟨i,h1,h2⟩:=hT.1 h;exact hok i h1 h2)]
 repeat' (first|apply Ad.Aw|apply Ad.region|apply Ad.Bj|apply AV.normal|apply AV.ret|(apply BH.ret;rfl)|apply AP.normal|apply AP.ret|apply AP.exit|apply Az.ret|apply Az.exit|apply Ad.ret|apply Ad.skip|apply Af.nil|apply Af.one|(apply Af.take;rfl;rfl)|(apply Af.drop;rfl;rfl;rfl)|(apply Af.guard;rfl;rfl)|(apply Aa.assign;rfl)|(apply Aa.move;rfl)|(apply Aa.BD;rfl;rfl;omega)|(apply Aa.int;rfl;rfl;rfl)|(apply Aa.load;rfl;rfl)|(apply Aa.AZ;rfl;rfl)|(apply Aa.AB;rfl;rfl)|(apply Aa.Bz;rfl;rfl)|(apply Aa.AA;rfl;rfl;rfl)|(apply Ad.Ae;rfl)|(apply Ad.cond_true;rfl)|(apply Ad.cond_false;rfl)|(apply Ad.AX;rfl)|(intro _;try (exfalso;omega)))
 all_goals try (exfalso;omega)
 all_goals try contradiction
 all_goals first
  |(rw [if_pos (by omega)];(refine Done.ret rfl (.refl _) (by first|exact trivial|exact ⟨trivial,trivial,trivial⟩|exact ⟨trivial,trivial,trivial,trivial⟩) Ap.nil (Nat.zero_le _) (Nat.le_refl _) ⟨?_,rfl,rfl⟩;try rfl);done)
  |(rw [if_neg (by omega),if_pos (by omega)];(refine Done.ret rfl (.refl _) (by first|exact trivial|exact ⟨trivial,trivial,trivial⟩|exact ⟨trivial,trivial,trivial,trivial⟩) Ap.nil (Nat.zero_le _) (Nat.le_refl _) ⟨?_,rfl,rfl⟩;try rfl);done)
  |(rw [if_neg (by omega),if_neg (by omega),if_pos (by omega)];(refine Done.ret rfl (.refl _) (by first|exact trivial|exact ⟨trivial,trivial,trivial⟩|exact ⟨trivial,trivial,trivial,trivial⟩) Ap.nil (Nat.zero_le _) (Nat.le_refl _) ⟨?_,rfl,rfl⟩;try rfl);done)
  |(rw [if_neg (by omega),if_neg (by omega),if_neg (by omega)]
    refine Az.normal ⟨j+1,⟨by omega,?_⟩,by omega,⟨by omega,?_,Ap.nil⟩⟩
    ·first|rfl|(refine Eq.trans ?_ hE;symm;(conv=>lhs;rw [OA]);rw [if_pos hkl,if_neg (fun h=>h h1),if_neg (fun h=>by obtain ⟨i,h1,h2⟩:=hT.1 h;exact hok i h1 h2),if_neg (by omega),if_neg (by omega),if_neg (by omega)])
    ·repeat (first|exact Ah.nil|refine Ah.same trivial rfl ?_|refine Ah.same (Ac rfl) rfl ?_|refine Ah.same ⟨trivial,Ac rfl,trivial⟩ rfl ?_|refine Ah.same ⟨trivial,Ac rfl,Ac rfl,trivial⟩ rfl ?_|refine Ah.same ⟨trivial,Ac rfl,Ac rfl,Ac rfl,trivial⟩ rfl ?_|refine Ah.same ⟨trivial,Ac rfl,Ac rfl,Ac rfl,Ac rfl,trivial⟩ rfl ?_|refine Ah.same ⟨trivial,trivial⟩ rfl ?_|refine Ah.cons trivial rfl (.of_eq (AL (by simp<;>omega))) ?_))
end Go.Proofs.YtnhdddmhkhdlhaaGreatDoor
namespace Go.Proofs.YtnhdddmhkhdlhaaGreatDoor
open Go Go.Am Go.Vm
attribute [local irreducible] Aa Af Ak Ad Bv AQ BN AV AP Az Vm.Done Cb BH
attribute [local irreducible] Dc BZ EL ES Gj
theorem OZ {α:Type} [Inhabited α] (f:α→List UInt8) {l:List α} {k:Nat} (hk:k<l.length):(l.take (k+1)).map f=(l.take k).map f++[f (gi l k)]:=by
 rw [Qo hk,List.map_append];rfl
theorem OU {L:Vm.Frame} {H:Vm.Heap} {nx:Nat} {Q:PV→Vm.Heap→Nat→Prop} {dst:Option Tmp} {ty:TypeId} {pos:String} {af:Array Edge} {gd:Option (Nat×Bool)} {fo:Operand} {args:Array Operand} {aT:Array TypeId} {fs cs xs:List PV} {c:Code}
 (hf:BF env.Γ L fo=some (.clo 47 fs cs)) (ha:evs env.Γ L args.toList=some xs) (hb:Tryz.f47.body=some c) (hn:(fs++xs++cs).length≤Tryz.f47.ntmps)
 (h:Ad env nx c (DK 0 (fs++xs++cs)) H nx (BH env.P Tryz.f47.results.toList Q)):Aa env true ⟨dst,.call { callee:=.value fo,args:=args,argTypes:=aT },ty,pos,af,gd⟩ L H nx Q:=by
 have h0:(match Tryz.f47.body with|some c=>KO env.G Tryz.f47 c|none=>false)=true:=by kernel_rfl
 rw [hb] at h0
 exact Aa.inline rfl hf ha (Ar (by decide)) Tryz.func47 hb h0 hn h
theorem Ws (o:EN) (d:Y3) (ho:Ic o) (hd:xP d):AQ env 48 [.agg (Enc.enc o),.agg (Enc.enc d)] (.p (.int .i64 (ES o.ranks d))):=by
 have hc:=Ut d.lo d.hi
 obtain ⟨d1,d2,d3⟩:=hd
 unfold ES
 refine AQ.enter (Ar (by decide)) Tryz.func48 rfl (by kernel_rfl) (by simp [Tryz.ntmps48]) ?_
 by_cases h0:RZ d.lo d.hi=0
 case neg =>
  rw [if_pos h0]
  repeat' (first|apply Ad.assoc|apply Ad.Aw|apply Ad.Bf|apply Af.nil|apply Af.one|(apply Aa.fn;rfl;rfl;exact hc;intro _;rfl)|(apply Aa.assign;rfl)|(apply Aa.move;rfl)|(apply Aa.int;rfl;rfl;rfl)|(apply Aa.load;rfl;rfl)|(apply Aa.AA;rfl;rfl;rfl)|(apply Aa.box;rfl;trivial)|(apply Ad.Ae;rfl)|(intro _;try (exfalso;omega)))
  all_goals first|(exfalso;omega)|(refine Done.ret rfl (.refl _) (by first|exact trivial|exact ⟨trivial,trivial,trivial⟩|exact ⟨trivial,trivial,trivial,trivial⟩) Ap.nil (Nat.zero_le _) (Nat.le_refl _) ⟨?_,rfl,rfl⟩;try rfl)
 rw [h0] at hc ⊢
 rw [if_neg (by decide)]
 repeat' (first|apply Ad.assoc|apply Ad.Aw|apply Ad.Aq|apply Ad.Bf|apply Ad.Aj|apply Af.nil|apply Af.one|(apply Aa.fn;rfl;rfl;exact hc;intro _;rfl)|(apply Aa.makeMap)|(apply Aa.assign;rfl)|(apply Aa.move;rfl)|(apply Aa.int;rfl;rfl;rfl)|(apply Aa.load;rfl;rfl)|(apply Aa.Bz;rfl;rfl)|(apply Aa.AA;rfl;rfl;rfl)|(apply Aa.box;rfl;trivial)|(apply Ad.AU;rfl)|(apply Ad.Ae;rfl)|(intro _;try (exfalso;omega)))
 all_goals try contradiction
 ·rw [if_pos (by omega)];(refine Done.ret rfl (.refl _) (by first|exact trivial|exact ⟨trivial,trivial,trivial⟩|exact ⟨trivial,trivial,trivial,trivial⟩) Ap.nil (Nat.zero_le _) (Nat.le_refl _) ⟨?_,rfl,rfl⟩;try rfl)
 rw [if_neg (by omega)]
 refine Ad.Ec (fun k:Nat=>[(2,.ref 0 0),(3,.ref 1 0),(6,.mref 2),(23,lst 127 d.stops),(24,.p (.int .i64 (d.stops.length:Int))),(25,.p (.int .i64 (k:Int)))]) (fun k=>[(2,.map (Ky ((d.stops.take k).map Stp.name))),(1,.box 111 ((Enc.enc d).map .p)),(0,.box 40 ((Enc.enc o).map .p))]) 3 (fun k=>k≤d.stops.length∧OD o.ranks d.lo d.hi d.stops k=OD o.ranks d.lo d.hi d.stops 0) (fun k=>d.stops.length-k) 0 (by omega) ⟨by omega,rfl⟩ ⟨by omega,?_,?_⟩ ?_
 ·repeat (first|exact Ah.nil|refine Ah.same trivial rfl ?_|refine Ah.same (Ac rfl) rfl ?_|refine Ah.same ⟨trivial,Ac rfl,Ac rfl,Ac rfl,trivial⟩ rfl ?_|refine Ah.same ⟨trivial,Ac rfl,Ac rfl,trivial⟩ rfl ?_|refine Ah.same ⟨trivial,trivial⟩ rfl ?_|refine Ah.cons trivial rfl (.of_eq (AL (by simp<;>omega))) ?_)
 ·repeat (first|exact Ap.nil|(refine Ap.cons (Ac rfl) ?_ rfl ?_ ?_;(first|exact trivial|exact Ba.Ai _ _|(simp [HB.under,Ba.under,PV.under]));(first|exact BG.refl _|exact BG.vec (Bo.refl _) (by simp))))
 rintro k ⟨hk,hE⟩
 rw [← hE]
 by_cases hkl:k<d.stops.length
 case neg =>
  rw [OD,if_neg hkl]
  repeat' (first|apply Ad.Aw|apply Ad.Bj|apply AV.normal|apply AP.exit|apply Az.exit|apply Ad.ret|apply Af.nil|apply Af.one|(apply Aa.assign;rfl)|(apply Aa.int;rfl;rfl;rfl)|(apply Ad.Ae;rfl)|(intro _;try (exfalso;omega)))
  all_goals first|(exfalso;omega)|(refine Done.ret rfl (.refl _) (by first|exact trivial|exact ⟨trivial,trivial,trivial⟩|exact ⟨trivial,trivial,trivial,trivial⟩) Ap.nil (Nat.zero_le _) (Nat.le_refl _) ⟨?_,rfl,rfl⟩;try rfl)
 rw [OD,if_pos hkl]
 have hst:=mW o.ranks d.lo d.hi (gi d.stops k) ho.ranks ho.rk (d3 k hkl)
 by_cases h1:EL o.ranks d.lo d.hi (gi d.stops k)=0
 case neg =>
  rw [if_pos h1]
  repeat' (first|apply Ad.assoc|apply Ad.Aw|apply Ad.Aq|apply Ad.Bf|apply Ad.Aj|apply AV.ret|apply AP.ret|apply Az.ret|apply Af.nil|apply Af.one|(apply Aa.fn;rfl;rfl;exact hst;intro _;rfl)|(apply Aa.assign;rfl)|(apply Aa.move;rfl)|(apply Aa.int;rfl;rfl;rfl)|(apply Aa.AO;rfl;rfl;rfl;omega;rfl)|(apply Aa.load;rfl;rfl)|(apply Aa.AA;rfl;rfl;rfl)|(apply Aa.alloc;rfl)|(apply Aa.AY;rfl;rfl;rfl;trivial;rfl;rfl;exact Ac rfl;exact le_dec rfl)|(apply Aa.build;rfl;rfl;rfl;rfl;rfl)|(apply Ad.Ae;rfl)|(intro _;try (exfalso;omega)))
  all_goals first|(exfalso;omega)|contradiction|(refine Done.ret rfl (.refl _) (by first|exact trivial|exact ⟨trivial,trivial,trivial⟩|exact ⟨trivial,trivial,trivial,trivial⟩) Ap.nil (Nat.zero_le _) (Nat.le_refl _) ⟨?_,rfl,rfl⟩;try rfl)
 rw [h1] at hst ⊢
 rw [if_neg (by decide)]
 by_cases h2:(gi d.stops k).name∈(d.stops.take k).map Stp.name
 ·rw [if_pos h2]
  repeat' (first|apply Ad.assoc|apply Ad.Aw|apply Ad.Aq|apply Ad.Bf|apply Ad.Aj|apply AV.ret|(apply BH.ret;rfl)|apply AP.ret|apply Az.ret|apply Ad.ret|apply Af.nil|apply Af.one|(apply Aa.fn;rfl;rfl;exact hst;intro _;rfl)|(apply OU;rfl;rfl;rfl;exact le_dec rfl)|(apply Aa.Ik;rfl;rfl;rfl;rfl;rfl;rfl)|(apply Aa.assign;rfl)|(apply Aa.move;rfl)|(apply Aa.int;rfl;rfl;rfl)|(apply Aa.AO;rfl;rfl;rfl;omega;rfl)|(apply Aa.load;rfl;rfl)|(apply Aa.AA;rfl;rfl;rfl)|(apply Aa.alloc;rfl)|(apply Aa.AY;rfl;rfl;rfl;trivial;rfl;rfl;exact Ac rfl;exact le_dec rfl)|(apply Aa.build;rfl;rfl;rfl;rfl;rfl)|(apply Ad.AU;rfl)|(apply Ad.Ae;rfl)|(apply Ad.cond_true;rfl)|(intro _;try (exfalso;omega)))
  all_goals first|(exfalso;omega)|contradiction|(refine Done.ret rfl (.refl _) (by first|exact trivial|exact ⟨trivial,trivial,trivial⟩|exact ⟨trivial,trivial,trivial,trivial⟩) Ap.nil (Nat.zero_le _) (Nat.le_refl _) ⟨?_,rfl,rfl⟩;try rfl)
 ·rw [if_neg h2]
  repeat' (first|apply Ad.assoc|apply Ad.Aw|apply Ad.region|apply Ad.Aq|apply Ad.Bf|apply Ad.Aj|apply AV.normal|apply AV.ret|(apply BH.ret;rfl)|apply AP.normal|apply AP.ret|apply Az.ret|apply Ad.ret|apply Ad.skip|apply Af.nil|apply Af.one|(apply Aa.fn;rfl;rfl;exact hst;intro _;rfl)|(apply OU;rfl;rfl;rfl;exact le_dec rfl)|(apply Aa.Ik;rfl;rfl;rfl;rfl;rfl;rfl)|(apply Aa.Y2;rfl;rfl;rfl;rfl;rfl;rfl;exact h2)|(apply Aa.assign;rfl)|(apply Aa.move;rfl)|(apply Aa.BD;rfl;rfl;omega)|(apply Aa.int;rfl;rfl;rfl)|(apply Aa.AO;rfl;rfl;rfl;omega;rfl)|(apply Aa.load;rfl;rfl)|(apply Aa.AA;rfl;rfl;rfl)|(apply Aa.alloc;rfl)|(apply Aa.AY;rfl;rfl;rfl;trivial;rfl;rfl;exact Ac rfl;exact le_dec rfl)|(apply Aa.build;rfl;rfl;rfl;rfl;rfl)|(apply Ad.AU;rfl)|(apply Ad.Ae;rfl)|(apply Ad.cond_true;rfl)|(apply Ad.cond_false;rfl)|(intro _;try (exfalso;omega)))
  all_goals try (exfalso;omega)
  all_goals try contradiction
  refine Az.normal ⟨k+1,⟨by omega,?_⟩,by omega,⟨by omega,?_,?_⟩⟩
  ·first|rfl|(refine Eq.trans ?_ hE;symm;(conv=>lhs;rw [OD]);rw [if_pos hkl,if_neg (fun h=>h h1),if_neg h2])
  ·repeat (first|exact Ah.nil|refine Ah.same trivial rfl ?_|refine Ah.same (Ac rfl) rfl ?_|refine Ah.same ⟨trivial,Ac rfl,Ac rfl,Ac rfl,trivial⟩ rfl ?_|refine Ah.same ⟨trivial,Ac rfl,Ac rfl,trivial⟩ rfl ?_|refine Ah.same ⟨trivial,trivial⟩ rfl ?_|refine Ah.cons trivial rfl (.of_eq (AL (by simp<;>omega))) ?_)
  ·rw [OZ Stp.name hkl];repeat (first|exact Ap.nil|(refine Ap.cons (Ac rfl) ?_ rfl ?_ ?_;(first|exact trivial|exact Ba.Ai _ _|(simp [HB.under,Ba.under,PV.under]));(first|exact BG.refl _|exact BG.vec (Bo.refl _) (by simp))))
theorem MZ (o:EN) (ho:Ic o):AQ env 15 [.agg (Enc.enc o)] (.p (.int .i64 (Q5 o))):=by
 have hn:=G7 o.name (by have:=ho.name;omega)
 have b1:=ho.ranks
 have b2:=ho.Au
 unfold Q5
 refine AQ.enter (Ar (by decide)) Tryz.func15 rfl (by kernel_rfl) (by simp [Tryz.ntmps15]) ?_
 by_cases h0:Du o.name
 case neg =>
  rw [if_pos h0]
  rw [decide_eq_false h0] at hn
  repeat' (first|apply Ad.Aw|apply Ad.Aj|apply AV.ret|apply AP.ret|apply Ad.ret|apply Af.nil|apply Af.one|(apply Aa.fn;rfl;rfl;exact hn;intro _;rfl)|(apply Aa.assign;rfl)|(apply Aa.load;rfl;rfl)|(apply Aa.AA;rfl;rfl;rfl)|(apply Aa.box;rfl;trivial)|(apply Aa.not;rfl)|(apply Ad.cond_true;rfl))
  all_goals first|(exfalso;omega)|contradiction|(refine Done.ret rfl (.refl _) (by first|exact trivial|exact ⟨trivial,trivial,trivial⟩|exact ⟨trivial,trivial,trivial,trivial⟩) Ap.nil (Nat.zero_le _) (Nat.le_refl _) ⟨?_,rfl,rfl⟩;try rfl)
 rw [if_neg (fun h=>h h0)]
 rw [decide_eq_true h0] at hn
 repeat' (first|apply Ad.assoc|apply Ad.Aw|apply Ad.Aj|apply AV.normal|apply AV.ret|apply AP.normal|apply AP.ret|apply Ad.ret|apply Ad.skip|apply Af.nil|apply Af.one|(apply Aa.fn;rfl;rfl;exact hn;intro _;rfl)|(apply Aa.makeMap)|(apply Aa.assign;rfl)|(apply Aa.move;rfl)|(apply Aa.int;rfl;rfl;rfl)|(apply Aa.load;rfl;rfl)|(apply Aa.Bz;rfl;rfl)|(apply Aa.AA;rfl;rfl;rfl)|(apply Aa.box;rfl;trivial)|(apply Aa.not;rfl)|(apply Ad.cond_false;rfl)|(apply Ad.AX;rfl)|(intro _;try (exfalso;omega)))
 all_goals try contradiction
 ·rw [if_pos (by omega)];(refine Done.ret rfl (.refl _) (by first|exact trivial|exact ⟨trivial,trivial,trivial⟩|exact ⟨trivial,trivial,trivial,trivial⟩) Ap.nil (Nat.zero_le _) (Nat.le_refl _) ⟨?_,rfl,rfl⟩;try rfl)
 rw [if_neg (by omega)]
 refine Ad.Ec (fun k:Nat=>[(1,.ref 0 0),(3,.mref 1),(25,lst 123 o.ranks),(26,.p (.int .i64 (o.ranks.length:Int))),(27,.p (.int .i64 (k:Int)))]) (fun k=>[(1,.map (Ky ((o.ranks.take k).map Gs.name))),(0,.box 40 ((Enc.enc o).map .p))]) 2 (fun k=>k≤o.ranks.length∧MS o.ranks k=MS o.ranks 0) (fun k=>o.ranks.length-k) 0 (by omega) ⟨by omega,rfl⟩ ⟨by omega,?_,?_⟩ ?_
 ·repeat (first|exact Ah.nil|refine Ah.same trivial rfl ?_|refine Ah.same (Ac rfl) rfl ?_|refine Ah.same ⟨trivial,Ac rfl,Ac rfl,Ac rfl,trivial⟩ rfl ?_|refine Ah.same ⟨trivial,Ac rfl,Ac rfl,trivial⟩ rfl ?_|refine Ah.same ⟨trivial,trivial⟩ rfl ?_|refine Ah.cons trivial rfl (.of_eq (AL (by simp<;>omega))) ?_)
 ·repeat (first|exact Ap.nil|(refine Ap.cons (Ac rfl) ?_ rfl ?_ ?_;(first|exact trivial|exact Ba.Ai _ _|(simp [HB.under,Ba.under,PV.under]));(first|exact BG.refl _|exact BG.vec (Bo.refl _) (by simp))))
 rintro k ⟨hk,hE⟩
 by_cases hkl:k<o.ranks.length
 ·have hsm:=(ho.rk k hkl).len
  have hc:=Tc (gi o.ranks k) hsm.1 hsm.2.1 hsm.2.2
  by_cases h1:Dc (gi o.ranks k)=0
  case neg =>
   have e:MS o.ranks 0=Dc (gi o.ranks k):=by rw [← hE,MS,if_pos hkl,if_pos h1]
   rw [e,if_pos h1]
   repeat' (first|apply Ad.assoc|apply Ad.Aw|apply Ad.Aq|apply Ad.Bf|apply Ad.Aj|apply AV.ret|apply AP.ret|apply Az.ret|apply Af.nil|apply Af.one|(apply Aa.fn;rfl;rfl;exact hc;intro _;rfl)|(apply Aa.assign;rfl)|(apply Aa.move;rfl)|(apply Aa.int;rfl;rfl;rfl)|(apply Aa.AO;rfl;rfl;rfl;omega;rfl)|(apply Aa.load;rfl;rfl)|(apply Aa.alloc;rfl)|(apply Aa.AY;rfl;rfl;rfl;trivial;rfl;rfl;exact Ac rfl;exact le_dec rfl)|(apply Ad.Ae;rfl)|(intro _;try (exfalso;omega)))
   all_goals first|(exfalso;omega)|contradiction|(refine Done.ret rfl (.refl _) (by first|exact trivial|exact ⟨trivial,trivial,trivial⟩|exact ⟨trivial,trivial,trivial,trivial⟩) Ap.nil (Nat.zero_le _) (Nat.le_refl _) ⟨?_,rfl,rfl⟩;try rfl)
  rw [h1] at hc
  by_cases h2:(gi o.ranks k).name∈(o.ranks.take k).map Gs.name
  ·have e:MS o.ranks 0=9:=by rw [← hE,MS,if_pos hkl,if_neg (fun h=>h h1),if_pos h2]
   rw [e,if_pos (by decide)]
   repeat' (first|apply Ad.assoc|apply Ad.Aw|apply Ad.Aq|apply Ad.Bf|apply Ad.Aj|apply AV.ret|(apply BH.ret;rfl)|apply AP.ret|apply Az.ret|apply Ad.ret|apply Af.nil|apply Af.one|(apply Aa.fn;rfl;rfl;exact hc;intro _;rfl)|(apply OU;rfl;rfl;rfl;exact le_dec rfl)|(apply Aa.Ik;rfl;rfl;rfl;rfl;rfl;rfl)|(apply Aa.assign;rfl)|(apply Aa.move;rfl)|(apply Aa.int;rfl;rfl;rfl)|(apply Aa.AO;rfl;rfl;rfl;omega;rfl)|(apply Aa.load;rfl;rfl)|(apply Aa.AA;rfl;rfl;rfl)|(apply Aa.alloc;rfl)|(apply Aa.AY;rfl;rfl;rfl;trivial;rfl;rfl;exact Ac rfl;exact le_dec rfl)|(apply Ad.AU;rfl)|(apply Ad.Ae;rfl)|(apply Ad.cond_true;rfl)|(intro _;try (exfalso;omega)))
   all_goals first|(exfalso;omega)|contradiction|(refine Done.ret rfl (.refl _) (by first|exact trivial|exact ⟨trivial,trivial,trivial⟩|exact ⟨trivial,trivial,trivial,trivial⟩) Ap.nil (Nat.zero_le _) (Nat.le_refl _) ⟨?_,rfl,rfl⟩;try rfl)
  ·repeat' (first|apply Ad.assoc|apply Ad.Aw|apply Ad.region|apply Ad.Aq|apply Ad.Bf|apply Ad.Aj|apply AV.normal|apply AV.ret|(apply BH.ret;rfl)|apply AP.normal|apply AP.ret|apply Az.ret|apply Ad.ret|apply Ad.skip|apply Af.nil|apply Af.one|(apply Aa.fn;rfl;rfl;exact hc;intro _;rfl)|(apply OU;rfl;rfl;rfl;exact le_dec rfl)|(apply Aa.Ik;rfl;rfl;rfl;rfl;rfl;rfl)|(apply Aa.Y2;rfl;rfl;rfl;rfl;rfl;rfl;exact h2)|(apply Aa.assign;rfl)|(apply Aa.move;rfl)|(apply Aa.BD;rfl;rfl;omega)|(apply Aa.int;rfl;rfl;rfl)|(apply Aa.AO;rfl;rfl;rfl;omega;rfl)|(apply Aa.load;rfl;rfl)|(apply Aa.AA;rfl;rfl;rfl)|(apply Aa.alloc;rfl)|(apply Aa.AY;rfl;rfl;rfl;trivial;rfl;rfl;exact Ac rfl;exact le_dec rfl)|(apply Ad.AU;rfl)|(apply Ad.Ae;rfl)|(apply Ad.cond_true;rfl)|(apply Ad.cond_false;rfl)|(intro _;try (exfalso;omega)))
   all_goals try (exfalso;omega)
   all_goals try contradiction
   refine Az.normal ⟨k+1,⟨by omega,?_⟩,by omega,⟨by omega,?_,?_⟩⟩
   ·first|rfl|(refine Eq.trans ?_ hE;symm;(conv=>lhs;rw [MS]);rw [if_pos hkl,if_neg (fun h=>h h1),if_neg h2])
   ·repeat (first|exact Ah.nil|refine Ah.same trivial rfl ?_|refine Ah.same (Ac rfl) rfl ?_|refine Ah.same ⟨trivial,Ac rfl,Ac rfl,Ac rfl,trivial⟩ rfl ?_|refine Ah.same ⟨trivial,Ac rfl,Ac rfl,trivial⟩ rfl ?_|refine Ah.same ⟨trivial,trivial⟩ rfl ?_|refine Ah.cons trivial rfl (.of_eq (AL (by simp<;>omega))) ?_)
   ·rw [OZ Gs.name hkl];repeat (first|exact Ap.nil|(refine Ap.cons (Ac rfl) ?_ rfl ?_ ?_;(first|exact trivial|exact Ba.Ai _ _|(simp [HB.under,Ba.under,PV.under]));(first|exact BG.refl _|exact BG.vec (Bo.refl _) (by simp))))
 obtain rfl:k=o.ranks.length:=by omega
 have e:MS o.ranks 0=0:=by rw [← hE,MS,if_neg (by omega)]
 rw [if_neg (fun h=>h e)]
 repeat' (first|apply Ad.assoc|apply Ad.Aw|apply Ad.Bj|apply Ad.Aj|apply AV.normal|apply AV.ret|apply AP.normal|apply AP.ret|apply AP.exit|apply Az.exit|apply Ad.ret|apply Ad.skip|apply Af.nil|apply Af.one|(apply Aa.makeMap)|(apply Aa.assign;rfl)|(apply Aa.move;rfl)|(apply Aa.int;rfl;rfl;rfl)|(apply Aa.load;rfl;rfl)|(apply Aa.Bz;rfl;rfl)|(apply Aa.AA;rfl;rfl;rfl)|(apply Ad.Ae;rfl)|(apply Ad.AX;rfl)|(intro _;try (exfalso;omega)))
 all_goals try (exfalso;omega)
 ·rw [if_pos (by omega)];(refine Done.ret rfl (.refl _) (by first|exact trivial|exact ⟨trivial,trivial,trivial⟩|exact ⟨trivial,trivial,trivial,trivial⟩) Ap.nil (Nat.zero_le _) (Nat.le_refl _) ⟨?_,rfl,rfl⟩;try rfl)
 ·rw [if_neg (by omega),if_pos (by omega)];(refine Done.ret rfl (.refl _) (by first|exact trivial|exact ⟨trivial,trivial,trivial⟩|exact ⟨trivial,trivial,trivial,trivial⟩) Ap.nil (Nat.zero_le _) (Nat.le_refl _) ⟨?_,rfl,rfl⟩;try rfl)
 rw [if_neg (by omega),if_neg (by omega)]
 refine Ad.ghost (A8.adopt 8 108 rfl) ?_
 refine Ad.Ec (fun k:Nat=>[(1,.ref 0 0),(3,.mref 2),(8,.vec 3 ((o.Au.take k).map fun d=>(⟨d.lo,d.hi⟩:Yf)).length 0 ((o.Au.take k).map fun d=>(⟨d.lo,d.hi⟩:Yf)).length),(56,lst 111 o.Au),(57,.p (.int .i64 (o.Au.length:Int))),(58,.p (.int .i64 (k:Int)))]) (fun k=>[(3,.vec 108 (cells ((o.Au.take k).map fun d=>(⟨d.lo,d.hi⟩:Yf))) ((o.Au.take k).map fun d=>(⟨d.lo,d.hi⟩:Yf)).length true),(2,.map (Ky ((o.Au.take k).map Y3.name))),(0,.box 40 ((Enc.enc o).map .p))]) 4 (fun k=>k≤o.Au.length∧F5 o.ranks o.Au k=F5 o.ranks o.Au 0) (fun k=>o.Au.length-k) 0 (by omega) ⟨by omega,rfl⟩ ⟨by omega,?_,?_⟩ ?_
 ·repeat (first|exact Ah.nil|refine Ah.same trivial rfl ?_|refine Ah.same (Ac rfl) rfl ?_|refine Ah.same ⟨trivial,Ac rfl,Ac rfl,Ac rfl,trivial⟩ rfl ?_|refine Ah.same ⟨trivial,Ac rfl,Ac rfl,trivial⟩ rfl ?_|refine Ah.same ⟨trivial,trivial⟩ rfl ?_|refine Ah.cons trivial rfl (.of_eq (AL (by simp<;>omega))) ?_)
 ·repeat (first|exact Ap.nil|(refine Ap.cons (Ac rfl) ?_ rfl ?_ ?_;(first|exact trivial|exact Ba.Ai _ _|(simp [HB.under,Ba.under,PV.under]));(first|exact BG.refl _|exact BG.vec (Bo.refl _) (by simp))))
 rintro k ⟨hk,hE⟩
 have hlen:((o.Au.take k).map fun d=>(⟨d.lo,d.hi⟩:Yf)).length=k:=by rw [List.length_map,List.length_take];omega
 by_cases hkl:k<o.Au.length
 ·have hds:=ho.dv k hkl
  have hdn:=G7 (gi o.Au k).name (by have:=hds.name;omega)
  have hdv:=Ws o (gi o.Au k) ho hds
  by_cases h1:Du (gi o.Au k).name
  case neg =>
   have e2:F5 o.ranks o.Au 0=8:=by rw [← hE,F5,if_pos hkl,if_pos h1]
   rw [e2,if_pos (by decide)]
   rw [decide_eq_false h1] at hdn
   repeat' (first|apply Ad.assoc|apply Ad.Aw|apply Ad.Aq|apply Ad.Bf|apply Ad.Aj|apply AV.ret|apply AP.ret|apply Az.ret|apply Af.nil|apply Af.one|(apply Aa.fn;rfl;rfl;exact hdn;intro _;rfl)|(apply Aa.assign;rfl)|(apply Aa.int;rfl;rfl;rfl)|(apply Aa.AO;rfl;rfl;rfl;omega;rfl)|(apply Aa.load;rfl;rfl)|(apply Aa.AA;rfl;rfl;rfl)|(apply Aa.alloc;rfl)|(apply Aa.AY;rfl;rfl;rfl;trivial;rfl;rfl;exact Ac rfl;exact le_dec rfl)|(apply Aa.not;rfl)|(apply Ad.Bq;rfl)|(apply Ad.Ae;rfl)|(intro _;try (exfalso;omega)))
   all_goals first|(exfalso;omega)|contradiction|(refine Done.ret rfl (.refl _) (by first|exact trivial|exact ⟨trivial,trivial,trivial⟩|exact ⟨trivial,trivial,trivial,trivial⟩) Ap.nil (Nat.zero_le _) (Nat.le_refl _) ⟨?_,rfl,rfl⟩;try rfl)
  rw [decide_eq_true h1] at hdn
  by_cases h2:(gi o.Au k).name∈(o.Au.take k).map Y3.name
  ·have e2:F5 o.ranks o.Au 0=9:=by rw [← hE,F5,if_pos hkl,if_neg (fun h=>h h1),if_pos h2]
   rw [e2,if_pos (by decide)]
   repeat' (first|apply Ad.assoc|apply Ad.Aw|apply Ad.Aq|apply Ad.Bf|apply Ad.Aj|apply AV.ret|(apply BH.ret;rfl)|apply AP.ret|apply Az.ret|apply Af.nil|apply Af.one|(apply Aa.fn;rfl;rfl;exact hdn;intro _;rfl)|(apply OU;rfl;rfl;rfl;exact le_dec rfl)|(apply Aa.Ik;rfl;rfl;rfl;rfl;rfl;rfl)|(apply Aa.assign;rfl)|(apply Aa.move;rfl)|(apply Aa.int;rfl;rfl;rfl)|(apply Aa.AO;rfl;rfl;rfl;omega;rfl)|(apply Aa.load;rfl;rfl)|(apply Aa.AA;rfl;rfl;rfl)|(apply Aa.alloc;rfl)|(apply Aa.AY;rfl;rfl;rfl;trivial;rfl;rfl;exact Ac rfl;exact le_dec rfl)|(apply Aa.not;rfl)|(apply Ad.Bq;rfl)|(apply Ad.AU;rfl)|(apply Ad.Ae;rfl)|(intro _;try (exfalso;omega)))
   all_goals first|(exfalso;omega)|contradiction|(refine Done.ret rfl (.refl _) (by first|exact trivial|exact ⟨trivial,trivial,trivial⟩|exact ⟨trivial,trivial,trivial,trivial⟩) Ap.nil (Nat.zero_le _) (Nat.le_refl _) ⟨?_,rfl,rfl⟩;try rfl)
  by_cases h3:ES o.ranks (gi o.Au k)=0
  case neg =>
   have e2:F5 o.ranks o.Au 0=ES o.ranks (gi o.Au k):=by rw [← hE,F5,if_pos hkl,if_neg (fun h=>h h1),if_neg h2,if_pos h3]
   rw [e2,if_pos h3]
   repeat' (first|apply Ad.assoc|apply Ad.Aw|apply Ad.Aq|apply Ad.Bf|apply Ad.Aj|apply AV.ret|(apply BH.ret;rfl)|apply AP.ret|apply Az.ret|apply Ad.ret|apply Af.nil|apply Af.one|(apply Aa.fn;rfl;rfl;exact hdn;intro _;rfl)|(apply Aa.fn;rfl;rfl;exact hdv;intro _;rfl)|(apply OU;rfl;rfl;rfl;exact le_dec rfl)|(apply Aa.Ik;rfl;rfl;rfl;rfl;rfl;rfl)|(apply Aa.Y2;rfl;rfl;rfl;rfl;rfl;rfl;exact h2)|(apply Aa.assign;rfl)|(apply Aa.move;rfl)|(apply Aa.int;rfl;rfl;rfl)|(apply Aa.AO;rfl;rfl;rfl;omega;rfl)|(apply Aa.load;rfl;rfl)|(apply Aa.AA;rfl;rfl;rfl)|(apply Aa.alloc;rfl)|(apply Aa.AY;rfl;rfl;rfl;trivial;rfl;rfl;exact Ac rfl;exact le_dec rfl)|(apply Aa.not;rfl)|(apply Ad.Bq;rfl)|(apply Ad.AU;rfl)|(apply Ad.Ae;rfl)|(intro _;try (exfalso;omega)))
   all_goals first|(exfalso;omega)|contradiction|(refine Done.ret rfl (.refl _) (by first|exact trivial|exact ⟨trivial,trivial,trivial⟩|exact ⟨trivial,trivial,trivial,trivial⟩) Ap.nil (Nat.zero_le _) (Nat.le_refl _) ⟨?_,rfl,rfl⟩;try rfl)
  rw [h3] at hdv
  have e5:((o.Au.take (k+1)).map fun d=>(⟨d.lo,d.hi⟩:Yf))=((o.Au.take k).map fun d=>(⟨d.lo,d.hi⟩:Yf))++[⟨(gi o.Au k).lo,(gi o.Au k).hi⟩]:=by rw [Qo hkl,List.map_append];rfl
  have e6:((o.Au.take (k+1)).map fun d=>(⟨d.lo,d.hi⟩:Yf)).length=((o.Au.take k).map fun d=>(⟨d.lo,d.hi⟩:Yf)).length+1:=by rw [e5,List.length_append];rfl
  repeat' (first|apply Ad.assoc|apply Ad.Aw|apply Ad.region|apply Ad.Aq|apply Ad.Bf|apply Ad.Aj|apply AV.normal|apply AV.ret|(apply BH.ret;rfl)|apply AP.normal|apply AP.ret|apply Az.ret|apply Ad.ret|apply Af.nil|apply Af.one|(apply Aa.fn;rfl;rfl;exact hdn;intro _;rfl)|(apply Aa.fn;rfl;rfl;exact hdv;intro _;rfl)|(apply Aa.CX (a:=(⟨(gi o.Au k).lo,(gi o.Au k).hi⟩:Yf));rfl;rfl;rfl;rfl;rfl;rfl;rfl;rfl;(intro _ h;cases h);rfl;rfl;rfl;decide;decide;(first|omega|(simp only [List.length_take,List.length_drop,List.length_append,List.length_singleton,List.length_cons,List.length_nil]<;>omega)))|(apply OU;rfl;rfl;rfl;exact le_dec rfl)|(apply Aa.Ik;rfl;rfl;rfl;rfl;rfl;rfl)|(apply Aa.Y2;rfl;rfl;rfl;rfl;rfl;rfl;exact h2)|(apply Aa.assign;rfl)|(apply Aa.move;rfl)|(apply Aa.BD;rfl;rfl;omega)|(apply Aa.int;rfl;rfl;rfl)|(apply Aa.AO;rfl;rfl;rfl;omega;rfl)|(apply Aa.load;rfl;rfl)|(apply Aa.AA;rfl;rfl;rfl)|(apply Aa.alloc;rfl)|(apply Aa.AY;rfl;rfl;rfl;trivial;rfl;rfl;exact Ac rfl;exact le_dec rfl)|(apply Aa.buildSlice;rfl;rfl;rfl;decide;rfl;rfl;rfl)|(apply Aa.not;rfl)|(apply Ad.Bq;rfl)|(apply Ad.AU;rfl)|(apply Ad.Ae;rfl)|(intro _;try (exfalso;omega)))
  all_goals try (exfalso;omega)
  all_goals try contradiction
  refine Az.normal ⟨k+1,⟨by omega,?_⟩,by omega,⟨by omega,?_,?_⟩⟩
  ·first|rfl|(refine Eq.trans ?_ hE;symm;(conv=>lhs;rw [F5]);rw [if_pos hkl,if_neg (fun h=>h h1),if_neg h2,if_neg (fun h=>h h3)])
  ·rw [e6];repeat (first|exact Ah.nil|refine Ah.same trivial rfl ?_|refine Ah.same (Ac rfl) rfl ?_|refine Ah.same ⟨trivial,Ac rfl,Ac rfl,Ac rfl,trivial⟩ rfl ?_|refine Ah.same ⟨trivial,Ac rfl,Ac rfl,trivial⟩ rfl ?_|refine Ah.same ⟨trivial,trivial⟩ rfl ?_|refine Ah.cons trivial rfl (.of_eq (AL (by simp<;>omega))) ?_)
  ·rw [e6,e5,OZ Y3.name hkl];repeat (first|exact Ap.nil|(refine Ap.cons (Ac rfl) ?_ rfl ?_ ?_;(first|exact trivial|exact Ba.Ai _ _|(simp [HB.under,Ba.under,PV.under]));(first|exact BG.refl _|exact BG.vec (Bo.refl _) (by simp))))
 obtain rfl:k=o.Au.length:=by omega
 have e2:F5 o.ranks o.Au 0=0:=by rw [← hE,F5,if_neg (by omega)]
 rw [if_neg (fun h=>h e2)]
 have et:o.Au.take o.Au.length=o.Au:=List.take_of_length_le (Nat.le_refl _)
 have hcp:=YI (o.Au.map fun d=>(⟨d.lo,d.hi⟩:Yf)) o.GN (by rw [List.length_map];exact b2) ho.GN ho.cp
 rw [et]
 repeat' (first|(refine Ad.at 35 ?_;refine Ad.ghost (A8.freeze 8 rfl rfl) ?_;first|apply Ad.Aw|apply Ad.Bl)|apply Ad.Aw|apply Ad.Bj|apply AV.normal|apply AP.exit|apply Az.exit|apply Ad.ret|apply Af.nil|apply Af.one|(apply Aa.fn;rfl;rfl;exact hcp;intro _;rfl)|(apply Aa.assign;rfl)|(apply Aa.move;rfl)|(apply Aa.int;rfl;rfl;rfl)|(apply Aa.load;rfl;rfl)|(apply Aa.AA;rfl;rfl;rfl)|(apply Ad.Ae;rfl)|(intro _;try (exfalso;omega)))
 all_goals first|(exfalso;omega)|(refine Done.ret rfl (.refl _) (by first|exact trivial|exact ⟨trivial,trivial,trivial⟩|exact ⟨trivial,trivial,trivial,trivial⟩) Ap.nil (Nat.zero_le _) (Nat.le_refl _) ⟨?_,rfl,rfl⟩;try rfl)
end Go.Proofs.YtnhdddmhkhdlhaaGreatDoor
namespace Go.Vm
open Go.Am
variable {E:Env} {bn:Nat} {L:Frame} {H:Heap} {nx:Nat} {Q:CP→Frame→Heap→Nat→Prop} {b:Code}
theorem Ah.eq {k i:Nat} {v0:PV} {L0:Frame} (hv:GX L i=some v0) (hu:v0.under k) (t:Ah k L0 L):Ah k ((i,v0)::L0) L:=⟨⟨hu,v0,hv,.refl _⟩,t⟩
theorem Ap.eq {k i:Nat} {v0:HB} {L0:Heap} (hv:hget H i=some v0) (hi:i<k) (hu:v0.under k) (t:Ap k L0 H):Ap k ((i,v0)::L0) H:=⟨⟨hi,hu,v0,hv,.refl _⟩,t⟩
mutual
def PV.ub (k:Nat):PV→Bool
 | .p _=>true
 | .agg cs=>Ba.ub k cs
 | .EK cs=>Ba.ub k cs
 | .vec b _ _ _=>Nat.blt b k
 | .ref b _=>Nat.blt b k
 | .Ei b _ _=>Nat.blt b k
 | .mref b=>Nat.blt b k
 | .clo _ fs cs=>and (Ba.ub k fs) (Ba.ub k cs)
def Ba.ub (k:Nat):List PV→Bool
 |[]=>true
 |c::cs=>and (PV.ub k c) (Ba.ub k cs)
end
mutual
theorem PV.Ag {k:Nat}:∀ {x:PV},PV.ub k x=true→x.under k
 | .p _,_=>trivial
 | .agg _,h=>Ba.Ag (by simpa [PV.ub] using h)
 | .EK _,h=>Ba.Ag (by simpa [PV.ub] using h)
 | .vec _ _ _ _,h=>Ac h
 | .ref _ _,h=>Ac h
 | .Ei _ _ _,h=>Ac h
 | .mref _,h=>Ac h
 | .clo _ _ _,h=>by
  simp only [PV.ub,Bool.and_eq_true] at h
  exact ⟨Ba.Ag h.1,Ba.Ag h.2⟩
theorem Ba.Ag {k:Nat}:∀ {x:List PV},Ba.ub k x=true→Ba.under k x
 |[],_=>trivial
 |_::_,h=>by
  simp only [Ba.ub,Bool.and_eq_true] at h
  exact ⟨PV.Ag h.1,Ba.Ag h.2⟩
end
def HB.ub (k:Nat):HB→Bool
 | .box _ cs=>Ba.ub k cs
 | .Nw _ cs _=>Ba.ub k cs
 | .KR _ cs=>Ba.ub k cs
 |_=>true
theorem HB.Ag {k:Nat} {x:HB} (h:HB.ub k x=true):x.under k:=by
 cases x with
 |box e cs=>exact Ba.Ag h
 |Nw e cs n=>exact Ba.Ag h
 |KR ks cs=>exact Ba.Ag h
 |vec=>trivial
 |map=>trivial
theorem Ad.KU (n:Nat) (L0:Frame) (H0:Heap) (Lf:Nat→Frame→Frame) (Hf:Nat→Heap→Heap) (FN:Nat) (hb:bn≤FN) (hn:FN≤nx) (h1:Ah FN (Lf 0 L0) L) (h2:Ap FN (Hf 0 H0) H)
 (hs:∀ k,k<n→Ad E bn b (Lf k L0) (Hf k H0) FN (Az (fun L' H' nx'=>FN≤nx'∧Ah FN (Lf (k+1) L0) L'∧Ap FN (Hf (k+1) H0) H') Q))
 (he:Ad E bn b (Lf n L0) (Hf n H0) FN (Az (fun _ _ _=>False) Q)):Ad E bn (.loop b) L H nx Q :=
 Ad.Ec (fun k=>Lf k L0) (fun k=>Hf k H0) FN (fun k=>k≤n) (fun k=>n-k) 0 hb (Nat.zero_le _) ⟨hn,h1,h2⟩ fun k hk=>by
  rcases Nat.lt_or_ge k n with h|h
  ·refine (hs k h).mono fun e L' H' nx' q=>?_
   cases e with
   |normal=>exact ⟨k+1,h,by omega,⟨q.1,q.2.1,q.2.2⟩⟩
   |ret=>exact q
   |exit i=>exact q
  ·obtain rfl:k=n:=by omega
   refine he.mono fun e L' H' nx' q=>?_
   cases e with
   |normal=>exact q.elim
   |ret=>exact q
   |exit i=>exact q
theorem Ad.H8 (n:Nat) (inv:Nat→Prop) (L0:Frame) (H0:Heap) (Lf:Nat→Frame→Frame) (Hf:Nat→Heap→Heap) (FN:Nat) (hb:bn≤FN) (hn:FN≤nx) (h1:Ah FN (Lf 0 L0) L) (h2:Ap FN (Hf 0 H0) H) (h0:inv 0)
 (hs:∀ k,k<n→inv k→Ad E bn b (Lf k L0) (Hf k H0) FN (Az (fun L' H' nx'=>inv (k+1)∧FN≤nx'∧Ah FN (Lf (k+1) L0) L'∧Ap FN (Hf (k+1) H0) H') Q))
 (he:inv n→Ad E bn b (Lf n L0) (Hf n H0) FN (Az (fun _ _ _=>False) Q)):Ad E bn (.loop b) L H nx Q :=
 Ad.Ec (fun k=>Lf k L0) (fun k=>Hf k H0) FN (fun k=>k≤n∧inv k) (fun k=>n-k) 0 hb ⟨Nat.zero_le _,h0⟩ ⟨hn,h1,h2⟩ fun k hk=>by
  obtain ⟨hk,hi⟩:=hk
  rcases Nat.lt_or_ge k n with h|h
  ·refine (hs k h hi).mono fun e L' H' nx' q=>?_
   cases e with
   |normal=>exact ⟨k+1,⟨h,q.1⟩,by omega,⟨q.2.1,q.2.2.1,q.2.2.2⟩⟩
   |ret=>exact q
   |exit i=>exact q
  ·obtain rfl:k=n:=by omega
   refine (he hi).mono fun e L' H' nx' q=>?_
   cases e with
   |normal=>exact q.elim
   |ret=>exact q
   |exit i=>exact q
section
variable {Q:PV→Heap→Nat→Prop} {w:Bool} {dst:Option Tmp} {ty:TypeId} {pos:String} {af:Array Edge} {gd:Option (Nat×Bool)}
theorem uO {Γ:Nat→Option (List Value×TypeId)} {m:Mem} {F:Nat→Prop} {σ:Nat→Value} {t:Tr Value} {x:Operand} {e:TypeId} {cs:List FV} {n:Nat} (hx:Ctx Γ m F σ H nx) (hl:RL m F (htag H) σ nx L t) (h:BF Γ L x=some (.p (.lst e cs n))) :
 ∃ a k g,ev t x=.slice a k g∧(0<n→a.isNone=false):=by
 have:=BU hx hl h
 generalize ev t x=v at this
 cases this with
 |p hr =>
  cases hr with
  |nil=>exact ⟨_,_,_,rfl,fun h=>by omega⟩
  |room=>exact ⟨_,_,_,rfl,fun _=>rfl⟩
  |lst=>exact ⟨_,_,_,rfl,fun _=>rfl⟩
theorem vI {Γ:Nat→Option (List Value×TypeId)} {m:Mem} {F:Nat→Prop} {σ:Nat→Value} {t:Tr Value} {y:Operand} {v:Value} (hx:Ctx Γ m F σ H nx) (hl:RL m F (htag H) σ nx L t) (h:BF Γ L y=some (.p (.val v))):ev t y=v:=by
 have:=BU hx hl h
 generalize ev t y=u at this
 cases this with|p hr=>cases hr;rfl
theorem nU {P:Program} {t e':TypeId} {xo yo:Operand} {a:Option Addr} {k g:Nat} (ht:P.underlying t=some (.slice e')):Oo P .eql t xo yo (.slice a k g) (.slice none 0 0)=some (.bool a.isNone)∧Oo P .neq t xo yo (.slice a k g) (.slice none 0 0)=some (.bool !a.isNone):=by
 simp [Oo,ht,JA]
theorem Aa.eqNil {t t2 e e':TypeId} {x y:Operand} {cs:List FV} {n:Nat} (hx:BF E.Γ L x=some (.p (.lst e cs n))) (hy:BF E.Γ L y=some (.p (.val (.slice none 0 0)))) (ht:E.P.underlying t=some (.slice e')) (q:∀ b,(0<n→b=false)→Q (.p (.bool b)) H nx) :
 Aa E w ⟨dst,.binOp .eql t x y t2,ty,pos,af,gd⟩ L H nx Q:=fun m F σ tt h1 h2=>by
 obtain ⟨a,k,g,h3,h4⟩:=uO h1 h2 hx
 have h5:=vI h1 h2 hy
 exact Gz.op (v:=.bool a.isNone) (m':=m) (fun _=>by simp only [CG,Fp,h3,h5];rw [(nU ht).1];rfl) ⟨_,H,nx,F,σ,q a.isNone h4,h1,.p (.bool _),Step.refl _ _ _ _ _,fun _ k hk _=>hk⟩
theorem Aa.OT {t t2 e e':TypeId} {x y:Operand} {cs:List FV} {n:Nat} (hx:BF E.Γ L x=some (.p (.lst e cs n))) (hy:BF E.Γ L y=some (.p (.val (.slice none 0 0)))) (ht:E.P.underlying t=some (.slice e')) (hn:0<n) (q:Q (.p (.bool false)) H nx) :
 Aa E w ⟨dst,.binOp .eql t x y t2,ty,pos,af,gd⟩ L H nx Q:=Aa.eqNil hx hy ht fun b hb=>by rw [hb hn];exact q
theorem YG {α:Type} [Inhabited α] {l:List α} {i j:Nat} {a:α}:gi (l.set i a) j=if i=j∧j<l.length then a else gi l j:=by
 unfold gi
 rw [List.getElem?_set]
 by_cases h:i=j
 ·subst h
  by_cases h2:i<l.length
  ·simp [h2]
  ·simp [h2,List.getElem?_eq_none (by omega:l.length≤i)]
 ·simp [h]
theorem Aa.xw {t t2:TypeId} {x y:Operand} {n:Nat} (hx:BF E.Γ L x=some (.p (.int .u64 ((2 ^ n:Nat):Int)))) (hy:BF E.Γ L y=some (.p (.int .u64 1))) (hn:n<64) (q:Q (.p (.int .u64 ((2 ^ n-1:Nat):Int))) H nx) :
 Aa E w ⟨dst,.binOp .sub t x y t2,ty,pos,af,gd⟩ L H nx Q :=
 Aa.a1h (a:=2 ^ n) (b:=1) hx hy ⟨Nat.one_le_two_pow,Nat.lt_of_le_of_lt (Nat.pow_le_pow_right (by omega) (show n≤63 by omega)) (by decide)⟩ q
end
theorem all_succ {P:Nat→Prop} {k:Nat} (h:∀ i,i<k→P i) (hk:P k):∀ i,i<k+1→P i:=fun i hi=>by
 rcases Nat.lt_or_ge i k with h1|h1
 ·exact h i h1
 ·obtain rfl:i=k:=by omega
  exact hk
def CS {α:Type} (f:Nat→α):Nat→List α
 |0=>[]
 |k+1=>CS f k++[f k]
theorem FC {α:Type} (f:Nat→α):∀ k,(CS f k).length=k
 |0=>rfl
 |k+1=>by simp [CS,FC f k]
theorem Zc {α:Type} (f:Nat→α):∀ k i,i<k→(CS f k)[i]?=some (f i)
 |0,i,h=>by omega
 |k+1,i,h=>by
  simp only [CS]
  rw [List.getElem?_append]
  rw [FC]
  by_cases h2:i<k
  ·rw [if_pos h2];exact Zc f k i h2
  ·obtain rfl:i=k:=by omega
   rw [if_neg (by omega)];simp
theorem MW {α:Type} [Inhabited α] (f:Nat→α) {k i:Nat} (h:i<k):gi (CS f k) i=f i:=by
 unfold gi;rw [Zc f k i h];rfl
def zx {α:Type} (f:Nat→α) (l:List α):Nat→List α
 |0=>l
 |k+1=>(zx f l k).set k (f k)
theorem Qb {α:Type} [Inhabited α] {a:α} {n i:Nat} (h:i<n):gi (List.replicate n a) i=a:=by
 unfold gi;rw [List.getElem?_replicate,if_pos h];rfl
def yU (k:Nat):Heap→Bool
 |[]=>true
 |(i,x)::H=>and (and (Nat.blt i k) (HB.ub k x)) (yU k H)
theorem Dw {k:Nat}:∀ {H:Heap},yU k H=true→NK k H
 |[],_=>trivial
 |(_,_)::_,h=>by
  simp only [yU,Bool.and_eq_true] at h
  exact ⟨⟨Ac h.1.1,HB.Ag h.1.2⟩,Dw h.2⟩
def Et (E:Env) (g:FuncId) (ac:List PV) (Hc:Heap) (k:Nat) (x:FV):Prop:=Bv E g ac Hc k fun r H' nx'=>r=.p x∧H'=Hc∧nx'=k
theorem Et.enter {f:FuncId} {fn:Func} {c:Code} {ac:List PV} {Hc:Heap} {k:Nat} {x:FV} (ho:E.O f=none) (hf:E.P.funcs[f]?=some fn) (hb:fn.body=some c) (hok:KO E.G fn c=true) (hn:ac.length≤fn.ntmps)
 (h:Ad E k c (DK 0 ac) Hc k (Done E.P fn.results.toList k fun r' H' nx'=>r'=.p x∧H'=Hc∧nx'=k)):Et E f ac Hc k x:=Bv.enter ho hf hb hok hn h
theorem Aa.read {Q:PV→Heap→Nat→Prop} {dst:Option Tmp} {ty:TypeId} {pos:String} {af:Array Edge} {gd:Option (Nat×Bool)} {fo:Operand} {args:Array Operand} {aT:Array TypeId} {g:FuncId} {fs cs Cj ac:List PV} {Hc:Heap} {x:FV} (ns:List Nat) (hc:Et E g ac Hc ns.length x)
 (hf:BF E.Γ L fo=some (.clo g fs cs)) (ha:evs E.Γ L args.toList=some Cj) (hle:Om (fs++Cj++cs) (Ba.rn (rho ns nx) ac)) (hu:Ba.under ns.length ac) (wU:NK ns.length Hc) (hin:yD (rho ns nx) H Hc) (hnd:ns.Nodup) (hlt:∀ b∈ns,b<nx)
 (hm:news ns.length (rho ns nx) Hc (merge ns (rho ns nx) Hc H)=H) (q:Q (.p x) H nx) :
 Aa E true ⟨dst,.call { callee:=.value fo,args:=args,argTypes:=aT },ty,pos,af,gd⟩ L H nx Q :=
 Aa.oQ hf ha hle hu wU hin hnd hlt (fun h=>by cases h) hc fun r H' nx' ⟨h1,h2,h3⟩=>by
  subst h1;subst h2;subst h3
  rw [hm,Nat.sub_self]
  exact q
end Go.Vm
namespace Go.Vm
open Go.Am
variable {E:Env} {L:Frame} {H:Heap} {nx:Nat} {Q:PV→Heap→Nat→Prop}
variable {dst:Option Tmp} {ty:TypeId} {pos:String} {af:Array Edge} {gd:Option (Nat×Bool)}
theorem Bo.a0b (C:List FV):∀ {p q:List FV},Bo p q→Bo (p++C) (q++C)
 |_,_,.refl _=>.refl _
 |_,_,.cons h t=>.cons h (Bo.a0b C t)
theorem Bo.a0e:∀ (A:List FV) {p q:List FV},Bo p q→Bo (A++p) (A++q)
 |[],_,_,h=>h
 |a::A,_,_,h=>.cons (.refl a) (Bo.a0e A h)
theorem Qm {α:Type}:∀ (z p c:List α) (o:Nat),o+z.length≤p.length→Cm (p++c) o z=Cm p o z++c
 |[],_,_,_,_=>rfl
 |x::z,p,c,o,h=>by
  simp only [List.length_cons] at h
  simp only [Cm]
  rw [List.set_append_left _ _ (by omega),Qm z (p.set o x) c (o+1) (by rw [List.length_set];omega)]
theorem WH {α:Type} [Enc α] (l:List α) (i f:Nat) (y:α) (fs:List FV) (h:i<l.length) (hf:f+fs.length≤Enc.size α) (hy:Bo (Cm (Enc.enc (gi l i)) f fs) (Enc.enc y)):Bo (Cm (cells l) (i*Enc.size α+f) fs) (cells (l.set i y)):=by
 have h1:l=l.take i++(gi l i::l.drop (i+1)):=by
  have hd:l.drop i=gi l i::l.drop (i+1):=by
   rw [List.drop_eq_getElem_cons h];simp [gi,List.getElem?_eq_getElem h]
  conv=>lhs;rw [← List.take_append_drop i l]
  rw [hd]
 have h2:l.set i y=l.take i++(y::l.drop (i+1)):=by
  conv=>lhs;rw [h1]
  rw [List.set_append_right _ _ (by simp;omega)]
  rw [List.length_take,Nat.min_eq_left (by omega),Nat.sub_self,List.set_cons_zero]
 have h4:cells l=cells (l.take i)++(Enc.enc (gi l i)++cells (l.drop (i+1))):=by
  conv=>lhs;rw [h1,DX]
  rfl
 have h3:i*Enc.size α+f=(cells (l.take i)).length+f:=by rw [Ce,List.length_take,Nat.min_eq_left (by omega)]
 rw [h2,DX,h4,h3,JV,Qm _ _ _ _ (by rw [Enc.len];exact hf)]
 exact Bo.a0e _ (Bo.a0b _ hy)
theorem Aa.uz {t:TypeId} {a x:Operand} {b tag off:Nat} {e:TypeId} {cs cs' fs:List FV} {z:Bool} {r:PV} {i:TypeInfo} (ha:BF E.Γ L a=some (.Ei b tag off)) (hx:BF E.Γ L x=some r) (hb:hget H b=some (.vec e cs tag z)) (hn:MR r)
 (hf:I5 r=fs.map .p) (hi:E.P.info? t=some i) (hl:fs.length=i.size) (h0:0<i.size) (hle:off+i.size≤cs.length) (hw:Bo (Cm cs off fs) cs') (q:Q (.EK []) (hput H b (.vec e cs' tag z)) nx):Aa E true ⟨dst,.store t a x,ty,pos,af,gd⟩ L H nx Q:=by
 intro m F σ tt h1 h2
 obtain ⟨c,k,g,h3,h4⟩:=MO h1 h2 ha hb
 obtain ⟨h5,h6⟩:=JG hn (BU h1 h2 hx)
 rw [hf] at h5
 obtain ⟨hlt,hr⟩:=h1.hp b _ hb
 rcases hr with ⟨r1,r2,r3⟩|⟨c',g',vs,r1,r2,r3,r4,r5,r6,r7⟩
 ·rcases r3 with ⟨r3,_⟩|⟨b',o',g',r3,_⟩<;>rw [r3] at h4<;>cases h4
 rw [h4] at r1
 cases r1
 have hlen:=h5.length
 rw [List.length_map] at hlen
 have hlen2:=r5.length
 have hst:JH E.P t ⟨c,off,some g⟩ (ev tt x) m=some (m.put c (.cells (splice vs off (ev tt x).cells.toList) e g false)):=by
  unfold JH FB
  rw [hi]
  simp only [r4]
  rw [if_pos (by simpa using hlen.symm.trans hl),if_pos]
  simp only [KA,Option.getD_some,beq_self_eq_true,Bool.true_and,Bool.and_eq_true,decide_eq_true_eq]
  refine ⟨⟨?_,?_⟩,h6⟩
  ·rw [← hlen,hl,← hlen2];exact ⟨trivial,hle⟩
  ·rw [← hlen,hl];exact h0
 have hput':∀ d,c≠d→(m.put c (.cells (splice vs off (ev tt x).cells.toList) e g false)).get d=m.get d:=fun d hd=>by rw [Mem.get_put,if_neg hd]
 obtain ⟨c1,c2⟩:=h1.change (m':=m.put c (.cells (splice vs off (ev tt x).cells.toList) e g false)) (x':=.vec e cs' tag z) (s':=σ b) hb (Nat.le_refl _) (fun _=>rfl) (Nat.le_refl _)
  (fun d _ hd=>hput' d fun e=>hd (by rw [h4,e];rfl)) (fun k k1 k2 k3=>by
   have:=k3 c (by rw [h4];rfl)
   simp only [Mem.put];omega) (fun d hd=>.inl hd) (by
   refine .inr ⟨c,g,splice vs off (ev tt x).cells.toList,h4,r2,r3,by rw [Mem.get_put,if_pos rfl],?_,Ip _ r6 h6,r7⟩
   exact DC.le hw ((DC.splice off r5 (DC.bJ h5)).mono (fun d hd=>⟨hd,hput' d fun e=>r3 (e▸hd)⟩)))
 refine Gz.op (v:=undef) (fun _=>?_) ⟨_,_,_,F,_,q,c1,.EK .nil,c2,fun h=>by cases h⟩
 simp only [CG,Fp,h3,hst,Option.map_some]
theorem Aa.NT {α:Type} {_:Enc α} {t:TypeId} {a x:Operand} {b n i f:Nat} {e:TypeId} {l:List α} {z:Bool} {r:PV} {fs:List FV} {inf:TypeInfo} (y:α) (ha:BF E.Γ L a=some (.Ei b n (i*Enc.size α+f))) (hx:BF E.Γ L x=some r) (hb:hget H b=some (.vec e (cells l) n z)) (hn:MR r)
 (hf:I5 r=fs.map .p) (yK:E.P.info? t=some inf) (hl:fs.length=inf.size) (h0:0<inf.size) (hi:i<l.length) (hsz:f+inf.size≤Enc.size α) (hy:Bo (Cm (Enc.enc (gi l i)) f fs) (Enc.enc y)) (q:Q (.EK []) (hput H b (.vec e (cells (l.set i y)) n z)) nx):Aa E true ⟨dst,.store t a x,ty,pos,af,gd⟩ L H nx Q :=
 Aa.uz ha hx hb hn hf yK hl h0 (by
  rw [Ce]
  have:=Nat.mul_le_mul_right (Enc.size α) hi
  rw [Nat.succ_mul] at this
  omega) (WH l i f y fs hi (by rw [hl];exact hsz) hy) q
end Go.Vm
namespace Go.Proofs.YtnhdddmhkhdlhaaGreatDoor
open Go Go.Am Go.Vm
attribute [local irreducible] Aa Af Ak Ad Bv AQ BN AV AP Az Vm.Done Cb BH
structure Rgs where
 stops:List Nat
 cp:Nat
 off:Nat
instance:Enc Rgs:={ default:=⟨[],0,0⟩,enc:=fun x=>[.lst 68 (cells x.stops) x.stops.length,.int .u64 (x.cp:Int),.int .u64 (x.off:Int)],size:=3,len:=fun _=>rfl }
structure Rgs.Ok (r:Rgs):Prop where
 stops:∀ i,i<r.stops.length→gi r.stops i<18446744073709551616
 cp:r.cp<18446744073709551616
 off:r.off<18446744073709551616
 len:r.stops.length<9223372036854775808
def qg (b:Nat→Nat):List FV:=[.int .u8 (b 0:Int),.int .u8 (b 1:Int),.int .u8 (b 2:Int),.int .u8 (b 3:Int),.int .u8 (b 4:Int)]
def Gn (o:EN) (b:Nat→Nat) (k:Nat):Nat:=b (k % 3) &&& (2 ^ (gi o.Au k).stops.length-1)
def Ny (o:EN) (b:Nat→Nat):Rgs:=⟨CS (Gn o b) o.Au.length,b 3 &&& (2 ^ o.GN.length-1),b 4 &&& (2 ^ o.Au.length-1)⟩
theorem zL {n:Nat} (h:n≤3):2 ^ n≤8:=Nat.pow_le_pow_right (by omega) h
theorem oM (b:Nat→Nat) (k:Nat):((qg b).map PV.p)[0+((k:Int) % 3).toNat*1]?=some (.p (.int .u8 ((b (k % 3):Nat):Int))):=by
 have e0:((k:Int) % 3).toNat=k % 3:=by omega
 rw [e0]
 have:k % 3<3:=Nat.mod_lt _ (by decide)
 generalize k % 3=n at this
 match n,this with
 |0,_=>rfl
 |1,_=>rfl
 |2,_=>rfl
theorem dA (o:EN) (ho:Yq o) (b:Nat→Nat) (hb:∀ i,b i<256):AQ env 44 [.agg (Enc.enc o),.agg (qg b)] (.p (.agg (Enc.enc (Ny o b)))):=by
 have r2:=ho.Au
 have r3:=ho.GN
 have b3:=hb 3
 have b4:=hb 4
 have p3:=zL r3
 have p4:=zL r2.2
 refine AQ.enter (Ar (by decide)) Tryz.func44 rfl (by kernel_rfl) (by simp [Tryz.ntmps44]) ?_
 repeat' (first|apply Ad.assoc|apply Ad.Aw|apply Ad.Aj|apply Af.nil|apply Af.one|(apply Aa.xw;rfl;rfl;omega)|(apply Aa.XZ;rfl;rfl;rfl;rfl;rfl;decide)|(apply Aa.assign;rfl)|(apply Aa.a1b;rfl;rfl;omega;omega)|(apply Aa.load;rfl;rfl)|(apply Aa.Bz;rfl;rfl)|(apply Aa.AA;rfl;rfl;rfl)|(apply Aa.box;rfl;trivial)|(apply Aa.alloc;rfl)|(apply Aa.AY;rfl;rfl;rfl;trivial;rfl;rfl;exact Ac rfl;exact le_dec rfl)|(apply Aa.build;rfl;rfl;rfl;rfl;rfl)|(apply Aa.WU;rfl;rfl;rfl;rfl;omega)|(apply Aa.X5;rfl;rfl;omega))
 refine Ad.ghost (A8.DN 3 0 68 rfl rfl) ?_
 apply Ad.KU (o.Au.length) [(2,_),(3,_),(4,_),(5,_)] [(0,_),(1,_),(2,_)] (fun k r=>(6,.p (.int .i64 (k:Int)))::r) (fun k r=>(4,.vec 68 (cells (CS (Gn o b) k)) (CS (Gn o b) k).length true)::(3,.box 70 [.vec 4 (CS (Gn o b) k).length 0 (CS (Gn o b) k).length,.p (.int .u64 ((b 3 &&& (2 ^ o.GN.length-1):Nat):Int)),.p (.int .u64 ((b 4 &&& (2 ^ o.Au.length-1):Nat):Int))])::r) 5
 ·first|omega|decide
 ·first|omega|decide
 ·repeat (first|exact Ah.nil|(refine Ah.eq rfl ?_ ?_;(first|exact PV.Ag rfl|(simp [PV.under,Ba.under];done)))|refine Ah.cons trivial rfl (.of_eq (AL (by simp<;>omega))) ?_)
 ·repeat (first|exact Ap.nil|(refine Ap.eq rfl (Ac rfl) ?_ ?_;(first|exact HB.Ag rfl|exact Ba.Ai _ _|(simp [HB.under,Ba.under,PV.under];done)))|(refine Ap.cons (Ac rfl) ?_ rfl ?_ ?_;(first|exact trivial|exact Ba.Ai _ _|(simp [HB.under,Ba.under,PV.under]));(first|exact BG.refl _|exact BG.vec (Bo.refl _) (by simp))))
 ·intro k hk
  have hl:=FC (Gn o b) k
  have e1:CS (Gn o b) (k+1)=CS (Gn o b) k++[Gn o b k]:=rfl
  have e2:(CS (Gn o b) (k+1)).length=(CS (Gn o b) k).length+1:=by rw [e1];simp
  have s3:=ho.stops k hk
  have p1:=zL s3
  have hbk:=hb (k % 3)
  have hr:=oM b k
  repeat' (first|apply Ad.assoc|apply Ad.Aw|apply Ad.region|apply Ad.Di|apply Ad.Aq|apply Ad.Aj|apply AV.normal|apply AP.normal|apply Af.nil|apply Ak.nil|apply Af.one|(apply Ak.bar;decide +kernel)|apply Ak.quiet|(apply Aa.xw;rfl;rfl;omega)|(apply Aa.rQ;rfl;rfl;rfl;exact hr)|(apply Aa.XZ;rfl;rfl;rfl;rfl;rfl;omega)|(apply Aa.CX (a:=Gn o b k);rfl;rfl;rfl;rfl;rfl;rfl;rfl;rfl;(intro _ h;cases h);rfl;rfl;rfl;decide;decide;(first|omega|(simp only [List.length_take,List.length_drop,List.length_append,List.length_singleton,List.length_cons,List.length_nil]<;>omega)))|(apply Aa.assign;rfl)|(apply Aa.move;rfl)|(apply Aa.BD;rfl;rfl;omega)|(apply Aa.a1b;rfl;rfl;omega;omega)|(apply Aa.Fz;rfl;rfl;omega;omega)|(apply Aa.int;rfl;rfl;rfl)|(apply Aa.AO;rfl;rfl;rfl;omega;rfl)|(apply Aa.load;rfl;rfl)|(apply Aa.Bz;rfl;rfl)|(apply Aa.AA;rfl;rfl;rfl)|(apply Aa.Dk;rfl;rfl)|(apply Aa.AY;rfl;rfl;rfl;trivial;rfl;rfl;exact Ac rfl;exact le_dec rfl)|(apply Aa.buildSlice;rfl;rfl;rfl;decide;rfl;rfl;rfl)|(apply Aa.WU;rfl;rfl;rfl;rfl;omega)|(apply Aa.X5;rfl;rfl;omega)|(apply Ad.Ae;rfl)|(intro _;try (exfalso;omega)))
  all_goals try (exfalso;omega)
  refine Az.normal ⟨by first|omega|decide,?_,?_⟩
  ·try (rw [e2,e1])
   repeat (first|exact Ah.nil|refine Ah.same (by exact PV.Ag rfl) rfl ?_|refine Ah.cons trivial rfl (.of_eq (AL (by simp<;>omega))) ?_)
  ·rw [e2,e1]
   repeat (first|exact Ap.nil|(refine Ap.cons (Ac rfl) ?_ rfl ?_ ?_;(first|exact HB.Ag rfl|exact Ba.Ai _ _|(simp [HB.under,Ba.under,PV.under]));(first|exact BG.refl _|exact BG.vec (Bo.refl _) (by simp))))
 ·have hl:=FC (Gn o b) o.Au.length
  repeat' (first|(refine Ad.at 6 ?_;refine Ad.ghost (A8.BA 3 0 rfl rfl rfl) ?_;first|apply Ad.Aw|apply Ad.Bl)|apply Ad.assoc|apply Ad.Aw|apply Ad.Bj|apply AV.normal|apply AP.exit|apply Az.exit|apply Ad.ret|apply Af.nil|apply Af.one|(apply Aa.move;rfl)|(apply Aa.int;rfl;rfl;rfl)|(apply Aa.load;rfl;rfl)|(apply Aa.Bz;rfl;rfl)|(apply Aa.AA;rfl;rfl;rfl)|(apply Aa.AY;rfl;rfl;rfl;trivial;rfl;rfl;exact Ac rfl;exact le_dec rfl)|(apply Ad.Ae;rfl)|(intro _;try (exfalso;omega)))
  all_goals first|(exfalso;omega)|(refine Done.ret rfl (.refl _) (by exact PV.Ag rfl) Ap.nil (Nat.zero_le _) (Nat.le_refl _) ⟨?_,rfl,rfl⟩;try rfl)
noncomputable def Ot (o:EN) (r:Rgs):Int :=
 open Classical in
 if r.stops.length≠o.Au.length then 5
 else if ∃ i,i<r.stops.length∧gi r.stops i / 2 ^ (gi o.Au i).stops.length≠0 then 3
 else if r.cp / 2 ^ o.GN.length≠0∨r.off / 2 ^ o.Au.length≠0 then 3 else 0
theorem aS {o:EN} {r:Rgs} (h:r.stops.length≠o.Au.length):Ot o r=5:=by unfold Ot;rw [if_pos h]
theorem qF {o:EN} {r:Rgs} (h:r.stops.length=o.Au.length) {i:Nat} (hi:i<r.stops.length) (h2:gi r.stops i / 2 ^ (gi o.Au i).stops.length≠0):Ot o r=3:=by
 unfold Ot;rw [if_neg (fun h'=>h' h),if_pos ⟨i,hi,h2⟩]
theorem QO {o:EN} {r:Rgs} (h:r.stops.length=o.Au.length) (h2:∀ i,i<r.stops.length→gi r.stops i / 2 ^ (gi o.Au i).stops.length=0):Ot o r=if r.cp / 2 ^ o.GN.length≠0∨r.off / 2 ^ o.Au.length≠0 then 3 else 0:=by
 unfold Ot;rw [if_neg (fun h'=>h' h),if_neg (fun ⟨i,hi,h3⟩=>h3 (h2 i hi))]
end Go.Proofs.YtnhdddmhkhdlhaaGreatDoor
namespace Go.Proofs.YtnhdddmhkhdlhaaGreatDoor
open Go Go.Am Go.Vm
attribute [local irreducible] Dc BZ
theorem Rz {rk:List Gs} {l:List Y3}:∀ (n k:Nat),l.length-k=n→F5 rk l k=0→∀ i,k≤i→i<l.length→ES rk (gi l i)=0
 |0,k,h,_,i,h1,h2=>by omega
 |n+1,k,h,h0,i,h1,h2=>by
  rw [F5,if_pos (by omega)] at h0
  split at h0
  ·exact absurd h0 (by decide)
  split at h0
  ·exact absurd h0 (by decide)
  split at h0
  ·rename_i h3;exact absurd h0 h3
  rename_i h3
  rcases Nat.lt_or_ge k i with h4|h4
  ·exact Rz n (k+1) (by omega) h0 i h4 h2
  ·obtain rfl:k=i:=by omega
   exact Decidable.byContradiction fun h5=>h3 h5
structure UJ (o:EN):Prop where
 sm:Ic o
 err:Q5 o=0
 Au:1≤o.Au.length∧o.Au.length≤8
 GN:o.GN.length≤40
 stops:∀ i,i<o.Au.length→(gi o.Au i).stops.length≤60
theorem yP {o:EN} (hs:Ic o) (h:Q5 o=0):UJ o:=by
 have h0:=h
 unfold Q5 at h0
 split at h0
 ·exact absurd h0 (by decide)
 split at h0
 ·exact absurd h0 (by decide)
 split at h0
 ·rename_i h1;exact absurd h0 h1
 split at h0
 ·exact absurd h0 (by decide)
 rename_i d1
 split at h0
 ·exact absurd h0 (by decide)
 rename_i d2
 split at h0
 ·rename_i h1;exact absurd h0 h1
 rename_i d3
 have d3:F5 o.ranks o.Au 0=0:=Decidable.byContradiction d3
 unfold Gj at h0
 split at h0
 ·exact absurd h0 (by decide)
 rename_i c1
 refine ⟨hs,h,⟨by omega,by omega⟩,by omega,fun i hi=>?_⟩
 have:=Rz _ 0 rfl d3 i (Nat.zero_le _) hi
 unfold ES at this
 split at this
 ·rename_i h1;exact absurd this h1
 split at this
 ·exact absurd this (by decide)
 rename_i h2
 omega
theorem Yq.k {o:EN} (h:Yq o):UJ o:=yP h.sm h.ok
structure a7m (rk:List Gs) (s:Stp):Prop where
 Hg:s.Hg.length≤12
 draws:∀ i,i<s.Hg.length→(gi s.Hg i).draws.length≤8∧∀ j,j<(gi s.Hg i).draws.length→0≤(gi (gi s.Hg i).draws j).rank∧(gi (gi s.Hg i).draws j).rank<rk.length
def xA (rk:List Gs) (s:Stp) (n:Nat):Nat→List UInt8
 |0=>[]
 |k+1=>if (gi s.Hg (n-(k+1))).draws.length>0 then (gi rk (gi (gi s.Hg (n-(k+1))).draws 0).rank.toNat).Ht else xA rk s n k
def a5k (rk:List Gs) (s:Stp):List UInt8:=xA rk s s.Hg.length s.Hg.length
end Go.Proofs.YtnhdddmhkhdlhaaGreatDoor
namespace Go.Proofs.YtnhdddmhkhdlhaaGreatDoor
open Go Go.Am Go.Vm
structure Fg where
 s:Int
 e:Int
 d:Int
 k:Int
deriving DecidableEq
instance:Enc Fg:={ default:=⟨0,0,0,0⟩,enc:=fun x=>[.int .i64 x.s,.int .i64 x.e,.int .i64 x.d,.int .i64 x.k],size:=4,len:=fun _=>rfl }
structure IX where
 bar:Int
 reg:Rgs
instance:Enc IX:={ default:=⟨0,default⟩,enc:=fun x=>[.int .i64 x.bar,.lst 68 (cells x.reg.stops) x.reg.stops.length,.int .u64 (x.reg.cp:Int),.int .u64 (x.reg.off:Int)],size:=4,len:=fun _=>rfl }
structure DY where
 bars:List Int
 notes:List Fg
 sets:List IX
instance:Enc DY:={ default:=⟨[],[],[]⟩,enc:=fun x=>[.lst 3 (cells x.bars) x.bars.length,.lst 66 (cells x.notes) x.notes.length,.lst 74 (cells x.sets) x.sets.length],size:=3,len:=fun _=>rfl }
def V9 (a b:Fg):Bool:=decide (a.d=b.d)&&(decide (a.k=b.k)&&(decide (a.s<b.e)&&decide (b.s<a.e)))
def Ql (l:List Int) (k:Nat):Int :=
 if k<l.length then if gi l k<0∨gi l k>100000 then 3 else if 0<k∧gi l k≤gi l (k-1) then 6 else Ql l (k+1) else 0
termination_by l.length-k
def Nb (l:List Int):Int:=if l.length<2 then 5 else if l.length>201 then 4 else Ql l 0
def L6 (o:EN) (a z:Int) (pre:List Fg) (n:Fg):Int :=
 if n.d<0∨n.d≥o.Au.length then 10
 else if n.k<(gi o.Au n.d.toNat).lo∨n.k>(gi o.Au n.d.toNat).hi then 23
 else if n.s<a∨n.e>z then 3
 else if n.s≥n.e then 6
 else if pre.any (fun m=>V9 m n) then 14 else 0
def FK (o:EN) (a z:Int) (l:List Fg) (k:Nat):Int :=
 if k<l.length then if L6 o a z (l.take k) (gi l k)≠0 then L6 o a z (l.take k) (gi l k) else FK o a z l (k+1) else 0
termination_by l.length-k
noncomputable def Ky (o:EN) (nb:Nat) (l:List IX) (k:Nat):Int :=
 if (gi l k).bar<0∨(gi l k).bar≥(nb:Int)-1 then 3
 else if 0<k∧(gi l k).bar=(gi l (k-1)).bar then 9
 else if 0<k∧(gi l k).bar<(gi l (k-1)).bar then 6
 else Ot o (gi l k).reg
noncomputable def JX (o:EN) (nb:Nat) (l:List IX) (k:Nat):Int :=
 if k<l.length then if Ky o nb l k≠0 then Ky o nb l k else JX o nb l (k+1) else 0
termination_by l.length-k
def Ia (p:DY):Int:=gi p.bars 0
def Iq (p:DY):Int:=gi p.bars (p.bars.length-1)
noncomputable def IV (o:EN) (p:DY):Int :=
 if Nb p.bars≠0 then Nb p.bars else if p.notes.length>1000 then 4 else if FK o (Ia p) (Iq p) p.notes 0≠0 then FK o (Ia p) (Iq p) p.notes 0
 else if p.sets.length>100 then 4 else JX o p.bars.length p.sets 0
noncomputable def I9 (o:EN) (p:DY):Int:=if Q5 o≠0 then Q5 o else IV o p
structure GH (p:DY):Prop where
 bars:p.bars.length<1000000
 notes:p.notes.length<1000000
 sets:p.sets.length<1000000
 reg:∀ i,i<p.sets.length→(gi p.sets i).reg.Ok
theorem Um {l:List Int} {k:Nat} (h:k<l.length):Ql l k=if gi l k<0∨gi l k>100000 then 3 else if 0<k∧gi l k≤gi l (k-1) then 6 else Ql l (k+1):=by
 rw [Ql,if_pos h]
theorem aF (l:List Int):Ql l l.length=0:=by rw [Ql,if_neg (Nat.lt_irrefl _)]
theorem NW {o:EN} {a z:Int} {l:List Fg} {k:Nat} (h:k<l.length):FK o a z l k=if L6 o a z (l.take k) (gi l k)≠0 then L6 o a z (l.take k) (gi l k) else FK o a z l (k+1):=by
 rw [FK,if_pos h]
theorem Vl (o:EN) (a z:Int) (l:List Fg):FK o a z l l.length=0:=by rw [FK,if_neg (Nat.lt_irrefl _)]
theorem P5 {o:EN} {nb:Nat} {l:List IX} {k:Nat} (h:k<l.length):JX o nb l k=if Ky o nb l k≠0 then Ky o nb l k else JX o nb l (k+1):=by
 rw [JX,if_pos h]
theorem WS (o:EN) (nb:Nat) (l:List IX):JX o nb l l.length=0:=by rw [JX,if_neg (Nat.lt_irrefl _)]
theorem bW {l:List Int}:∀ (n k:Nat),l.length-k=n→Ql l k=0→∀ i,k≤i→i<l.length→(0≤gi l i∧gi l i≤100000)∧(0<i→gi l (i-1)<gi l i)
 |0,k,h,_,i,h1,h2=>by omega
 |n+1,k,h,h0,i,h1,h2=>by
  rw [Um (by omega)] at h0
  split at h0
  ·exact absurd h0 (by decide)
  rename_i h3
  split at h0
  ·exact absurd h0 (by decide)
  rename_i h4
  rcases Nat.lt_or_ge k i with h5|h5
  ·exact bW n (k+1) (by omega) h0 i h5 h2
  ·obtain rfl:k=i:=by omega
   exact ⟨by omega,fun h6=>by omega⟩
theorem Xf {l:List Int} (h:∀ i,i<l.length→(0≤gi l i∧gi l i≤100000)∧(0<i→gi l (i-1)<gi l i)):∀ (n k:Nat),l.length-k=n→Ql l k=0
 |0,k,hk=>by rw [Ql,if_neg (by omega)]
 |n+1,k,hk=>by
  obtain ⟨h1,h2⟩:=h k (by omega)
  rw [Um (by omega),if_neg (by omega),if_neg (fun ⟨h3,h4⟩=>by have:=h2 h3;omega)]
  exact Xf h n (k+1) (by omega)
theorem VO {o:EN} {a z:Int} {l:List Fg}:∀ (n k:Nat),l.length-k=n→FK o a z l k=0→∀ i,k≤i→i<l.length→L6 o a z (l.take i) (gi l i)=0
 |0,k,h,_,i,h1,h2=>by omega
 |n+1,k,h,h0,i,h1,h2=>by
  rw [NW (by omega)] at h0
  split at h0
  ·rename_i h3;exact absurd h0 h3
  rename_i h3
  rcases Nat.lt_or_ge k i with h5|h5
  ·exact VO n (k+1) (by omega) h0 i h5 h2
  ·obtain rfl:k=i:=by omega
   exact Decidable.byContradiction h3
theorem SG {o:EN} {a z:Int} {l:List Fg} (h:∀ i,i<l.length→L6 o a z (l.take i) (gi l i)=0):∀ (n k:Nat),l.length-k=n→FK o a z l k=0
 |0,k,hk=>by rw [FK,if_neg (by omega)]
 |n+1,k,hk=>by
  rw [NW (by omega),if_neg (fun h'=>h' (h k (by omega)))]
  exact SG h n (k+1) (by omega)
theorem WR {o:EN} {nb:Nat} {l:List IX}:∀ (n k:Nat),l.length-k=n→JX o nb l k=0→∀ i,k≤i→i<l.length→Ky o nb l i=0
 |0,k,h,_,i,h1,h2=>by omega
 |n+1,k,h,h0,i,h1,h2=>by
  rw [P5 (by omega)] at h0
  split at h0
  ·rename_i h3;exact absurd h0 h3
  rename_i h3
  rcases Nat.lt_or_ge k i with h5|h5
  ·exact WR n (k+1) (by omega) h0 i h5 h2
  ·obtain rfl:k=i:=by omega
   exact Decidable.byContradiction h3
theorem Vq {o:EN} {nb:Nat} {l:List IX} (h:∀ i,i<l.length→Ky o nb l i=0):∀ (n k:Nat),l.length-k=n→JX o nb l k=0
 |0,k,hk=>by rw [JX,if_neg (by omega)]
 |n+1,k,hk=>by
  rw [P5 (by omega),if_neg (fun h'=>h' (h k (by omega)))]
  exact Vq h n (k+1) (by omega)
structure y8 (o:EN) (p:DY) (i:Nat):Prop where
 d:0≤(gi p.notes i).d∧(gi p.notes i).d<o.Au.length
 k:(gi o.Au (gi p.notes i).d.toNat).lo≤(gi p.notes i).k∧(gi p.notes i).k≤(gi o.Au (gi p.notes i).d.toNat).hi
 r:Ia p≤(gi p.notes i).s∧(gi p.notes i).s<(gi p.notes i).e∧(gi p.notes i).e≤Iq p
 c:∀ j,j<i→V9 (gi p.notes j) (gi p.notes i)=false
structure Wn (o:EN) (p:DY):Prop where
 sm:GH p
 err:IV o p=0
 bars:2≤p.bars.length∧p.bars.length≤201
 bar:∀ i,i<p.bars.length→(0≤gi p.bars i∧gi p.bars i≤100000)∧(0<i→gi p.bars (i-1)<gi p.bars i)
 notes:p.notes.length≤1000
 note:∀ i,i<p.notes.length→y8 o p i
 sets:p.sets.length≤100
 set:∀ i,i<p.sets.length→(0≤(gi p.sets i).bar∧(gi p.sets i).bar<(p.bars.length:Int)-1)∧(0<i→(gi p.sets (i-1)).bar<(gi p.sets i).bar)∧Ot o (gi p.sets i).reg=0
theorem UQ {l:List Fg} {f:Fg→Bool} {i:Nat} (hi:i≤l.length):(l.take i).any f=false↔∀ j,j<i→f (gi l j)=false:=by
 rw [List.any_eq_false]
 constructor
 ·intro h j hj
  have:gi l j∈l.take i:=by
   unfold gi
   rw [List.getElem?_eq_getElem (by omega)]
   exact List.mem_take_iff_getElem.2 ⟨j,by omega,rfl⟩
  simpa using h _ this
 ·intro h x hx
  obtain ⟨j,hj,rfl⟩:=List.mem_take_iff_getElem.1 hx
  have:=h j (by omega)
  unfold gi at this
  rw [List.getElem?_eq_getElem (by omega)] at this
  simpa using this
theorem UC {o:EN} {p:DY} {i:Nat} (hi:i<p.notes.length):L6 o (Ia p) (Iq p) (p.notes.take i) (gi p.notes i)=0↔y8 o p i:=by
 unfold L6
 constructor
 ·intro h
  split at h
  ·exact absurd h (by decide)
  split at h
  ·exact absurd h (by decide)
  split at h
  ·exact absurd h (by decide)
  split at h
  ·exact absurd h (by decide)
  split at h
  ·exact absurd h (by decide)
  rename_i h1 h2 h3 h4 h5
  exact ⟨by omega,by omega,by omega,(UQ (f:=fun m=>V9 m (gi p.notes i)) (by omega)).1 (by simpa using h5)⟩
 ·rintro ⟨h1,h2,h3,h4⟩
  rw [if_neg (by omega),if_neg (by omega),if_neg (by omega),if_neg (by omega),if_neg]
  rw [(UQ (f:=fun m=>V9 m (gi p.notes i)) (by omega)).2 h4]
  decide
theorem Xl {o:EN} {nb:Nat} {l:List IX} {i:Nat}:Ky o nb l i=0↔(0≤(gi l i).bar∧(gi l i).bar<(nb:Int)-1)∧(0<i→(gi l (i-1)).bar<(gi l i).bar)∧Ot o (gi l i).reg=0:=by
 unfold Ky
 constructor
 ·intro h
  split at h
  ·exact absurd h (by decide)
  split at h
  ·exact absurd h (by decide)
  split at h
  ·exact absurd h (by decide)
  exact ⟨by omega,fun h0=>by omega,h⟩
 ·rintro ⟨h1,h2,h3⟩
  rw [if_neg (by omega),if_neg (fun ⟨h4,h5⟩=>by have:=h2 h4;omega),if_neg (fun ⟨h4,h5⟩=>by have:=h2 h4;omega)]
  exact h3
theorem a4j {o:EN} {p:DY} (h:GH p) (he:IV o p=0):Wn o p:=by
 have h0:=he
 unfold IV at h0
 split at h0
 ·rename_i h1;exact absurd h0 h1
 rename_i h1
 have h1:=Decidable.byContradiction h1
 split at h0
 ·exact absurd h0 (by decide)
 rename_i h2
 split at h0
 ·rename_i h3;exact absurd h0 h3
 rename_i h3
 have h3:=Decidable.byContradiction h3
 split at h0
 ·exact absurd h0 (by decide)
 rename_i h4
 unfold Nb at h1
 split at h1
 ·exact absurd h1 (by decide)
 split at h1
 ·exact absurd h1 (by decide)
 refine ⟨h,he,by omega,fun i hi=>bW _ 0 rfl h1 i (Nat.zero_le _) hi,by omega,fun i hi=>(UC hi).1 (VO _ 0 rfl h3 i (Nat.zero_le _) hi),by omega,fun i hi=>Xl.1 (WR _ 0 rfl h0 i (Nat.zero_le _) hi)⟩
theorem jm {o:EN} {p:DY} (h:GH p) (h1:2≤p.bars.length∧p.bars.length≤201) (h2:∀ i,i<p.bars.length→(0≤gi p.bars i∧gi p.bars i≤100000)∧(0<i→gi p.bars (i-1)<gi p.bars i)) (h3:p.notes.length≤1000) (h4:∀ i,i<p.notes.length→y8 o p i) (h5:p.sets.length≤100)
 (h6:∀ i,i<p.sets.length→(0≤(gi p.sets i).bar∧(gi p.sets i).bar<(p.bars.length:Int)-1)∧(0<i→(gi p.sets (i-1)).bar<(gi p.sets i).bar)∧Ot o (gi p.sets i).reg=0):Wn o p:=by
 refine a4j h ?_
 unfold IV
 have e1:Nb p.bars=0:=by
  unfold Nb
  rw [if_neg (by omega),if_neg (by omega)]
  exact Xf h2 _ 0 rfl
 have e2:FK o (Ia p) (Iq p) p.notes 0=0:=SG (fun i hi=>(UC hi).2 (h4 i hi)) _ 0 rfl
 rw [if_neg (fun h=>h e1),if_neg (by omega),if_neg (fun h=>h e2),if_neg (by omega)]
 exact Vq (fun i hi=>Xl.2 (h6 i hi)) _ 0 rfl
end Go.Proofs.YtnhdddmhkhdlhaaGreatDoor
namespace Go.Pie
open Go Go.Vm
def V8 (P:Nat→Bool) (n:Nat):Nat→Int
 |0=>-1
 |r+1=>if P (n-(r+1))=true then ((n-(r+1):Nat):Int) else V8 P n r
def IY (P:Nat→Bool) (n:Nat):Int:=V8 P n n
theorem Y8 {P:Nat→Bool} {n k:Nat} (hk:k<n) (h:P k=false):V8 P n (n-k)=V8 P n (n-(k+1)):=by
 obtain ⟨j,hj⟩:∃ j,n-k=j+1:=⟨n-k-1,by omega⟩
 rw [hj]
 have e:n-(j+1)=k:=by omega
 show (if P (n-(j+1))=true then _ else V8 P n j)=_
 rw [e,if_neg (by rw [h];decide)]
 congr 1;omega
theorem jF {P:Nat→Bool} {n k:Nat} (hk:k<n) (h:P k=true):V8 P n (n-k)=(k:Int):=by
 obtain ⟨j,hj⟩:∃ j,n-k=j+1:=⟨n-k-1,by omega⟩
 rw [hj]
 have e:n-(j+1)=k:=by omega
 show (if P (n-(j+1))=true then _ else V8 P n j)=_
 rw [e,if_pos h]
theorem jk (P:Nat→Bool) (n:Nat):∀ r,r≤n→-1≤V8 P n r∧V8 P n r<(n:Int)
 |0,_=>⟨by simp [V8],by simp only [V8];omega⟩
 |r+1,hr=>by
  unfold V8
  split
  ·omega
  ·exact jk P n r (by omega)
theorem bg {P:Nat→Bool} {n:Nat}:∀ r,r≤n→0≤V8 P n r→P (V8 P n r).toNat=true
 |0,_,h=>by simp [V8] at h
 |r+1,hr,h=>by
  unfold V8 at h ⊢
  split
  ·rename_i h1;simpa using h1
  ·rename_i h1
   rw [if_neg h1] at h
   exact bg r (by omega) h
theorem aN {P:Nat→Bool} {n k:Nat} (hp:P k=true):∀ r,r≤n→n-r≤k→k<n→0≤V8 P n r
 |0,_,h1,h2=>by omega
 |r+1,hr,h1,h2=>by
  unfold V8
  split
  ·omega
  ·rename_i h3
   refine aN hp r (by omega) ?_ h2
   by_cases e:n-(r+1)=k
   ·rw [e] at h3;exact absurd hp h3
   ·omega
structure uZ where
 s:Int
 e:Int
 notes:List Int
deriving DecidableEq
instance:Inhabited uZ:=⟨⟨0,0,[]⟩⟩
def zW (a:Int) (S:Int→List Int):Nat→List Int
 |0=>[]
 |n+1=>if n=0∨S (a+n)≠S (a+n-1) then zW a S n++[a+n] else zW a S n
def a3n (S:Int→List Int) (T:List Int):List uZ:=CS (fun i=>⟨gi T i,gi T (i+1),S (gi T i)⟩) (T.length-1)
def stepW (S:Int→List Int) (w:List uZ) (t:Int):List uZ :=
 if w.length≠0∧(gi w (w.length-1)).notes=S t then w.set (w.length-1) ⟨(gi w (w.length-1)).s,(gi w (w.length-1)).e+1,(gi w (w.length-1)).notes⟩ else w++[⟨t,t+1,S t⟩]
def a2h (a:Int) (S:Int→List Int):Nat→List uZ
 |0=>[]
 |n+1=>stepW S (a2h a S n) (a+n)
theorem jq {α:Type} [Inhabited α] {l r:List α} {i:Nat} (h:i<l.length):gi (l++r) i=gi l i:=by
 unfold gi;rw [List.getElem?_append_left h]
theorem bF {α:Type} [Inhabited α] {l:List α} {x:α}:gi (l++[x]) l.length=x:=by
 unfold gi;simp
def Inc (l:List Int):Prop:=l.Pairwise (·<·)
theorem iM:∀ {l r:List Int},Inc l→Inc r→(∀ x,x∈l↔x∈r)→l=r
 |[],[],_,_,_=>rfl
 |[],y::r,_,_,h=>by have:=(h y).2 (by simp);cases this
 |x::l,[],_,_,h=>by have:=(h x).1 (by simp);cases this
 |x::l,y::r,h1,h2,h=>by
  have h1':=List.pairwise_cons.1 h1
  have h2':=List.pairwise_cons.1 h2
  have e:x=y:=by
   have a1:=(h x).1 (by simp)
   have a2:=(h y).2 (by simp)
   rcases List.mem_cons.1 a1 with e|a1
   ·exact e
   rcases List.mem_cons.1 a2 with e|a2
   ·exact e.symm
   have:=h1'.1 y a2
   have:=h2'.1 x a1
   omega
  subst e
  rw [iM h1'.2 h2'.2 fun z=>?_]
  constructor
  ·intro hz
   rcases List.mem_cons.1 ((h z).1 (List.mem_cons_of_mem _ hz)) with e|hz'
   ·subst e;have:=h1'.1 z hz;omega
   ·exact hz'
  ·intro hz
   rcases List.mem_cons.1 ((h z).2 (List.mem_cons_of_mem _ hz)) with e|hz'
   ·subst e;have:=h2'.1 z hz;omega
   ·exact hz'
theorem SN (zs:List Int) (x:Int):x∈Lib.compact zs↔x∈zs:=by
 unfold Lib.compact Lib.compactUpTo
 simp only [List.mem_map,List.mem_filter,List.mem_range]
 constructor
 ·rintro ⟨i,⟨hi,_⟩,rfl⟩
  rw [getElem!_pos zs.toArray i (by simpa using hi)]
  simp
 ·intro hx
  obtain ⟨i,hi,e⟩:=List.mem_iff_getElem.1 hx
  have key:∀ n i,i≤n→∀ hi:i<zs.length,∃ j,(j<zs.length∧Lib.keeps zs.toArray j=true)∧zs.toArray[j]! =zs[i]:=by
   intro n
   induction n with
   |zero =>
    intro i h0 hi
    obtain rfl:i=0:=by omega
    exact ⟨0,⟨hi,rfl⟩,by rw [getElem!_pos zs.toArray 0 (by simpa using hi)];simp⟩
   |succ n ih =>
    intro i h0 hi
    by_cases hk:Lib.keeps zs.toArray i=true
    ·exact ⟨i,⟨hi,hk⟩,by rw [getElem!_pos zs.toArray i (by simpa using hi)];simp⟩
    ·match i,hi,h0,hk with
     |0,_,_,hk=>exact absurd rfl hk
     |i+1,hi,h0,hk =>
      obtain ⟨j,h1,h2⟩:=ih i (by omega) (by omega)
      refine ⟨j,h1,h2.trans ?_⟩
      unfold Lib.keeps at hk
      simp only [Nat.add_sub_cancel] at hk
      rw [getElem!_pos zs.toArray i (by simpa using (by omega:i<zs.length)),getElem!_pos zs.toArray (i+1) (by simpa using hi)] at hk
      simp at hk
      exact hk.symm
  obtain ⟨j,h1,h2⟩:=key i i (Nat.le_refl _) hi
  exact ⟨j,h1,h2.trans e⟩
theorem Zo {zs:List Int} (h:zs.Pairwise (·≤·)):Inc (Lib.compact zs):=by
 have hs:∀ i j,i≤j→j<zs.length→zs.toArray[i]!≤zs.toArray[j]!:=fun i j hij hj=>by
  rw [getElem!_pos zs.toArray i (by simp;omega),getElem!_pos zs.toArray j (by simpa using hj)]
  rcases Nat.lt_or_ge i j with h'|h'
  ·simpa using List.pairwise_iff_getElem.1 h i j (by omega) hj h'
  ·obtain rfl:i=j:=by omega
   exact Int.le_refl _
 have key:∀ m,m≤zs.length→Inc (Lib.compactUpTo zs.toArray m)∧∀ x,x∈Lib.compactUpTo zs.toArray m→∃ j,j<m∧x=zs.toArray[j]!:=by
  intro m
  induction m with
  |zero=>intro _;exact ⟨List.Pairwise.nil,fun x hx=>by cases hx⟩
  |succ m ih =>
   intro hm
   obtain ⟨i1,i2⟩:=ih (by omega)
   rw [Lib.compactUpTo_succ]
   by_cases hk:Lib.keeps zs.toArray m=true
   ·rw [if_pos hk]
    refine ⟨List.pairwise_append.2 ⟨i1,List.pairwise_singleton _ _,fun x hx y hy=>?_⟩,fun x hx=>?_⟩
    ·obtain ⟨j,h1,rfl⟩:=i2 x hx
     rw [List.mem_singleton] at hy
     subst hy
     have h2:=hs j (m-1) (by omega) (by omega)
     have h3:=hs (m-1) m (by omega) (by omega)
     unfold Lib.keeps at hk
     have h4:zs.toArray[m]!≠zs.toArray[m-1]!:=by
      rcases of_decide_eq_true hk with h5|h5
      ·omega
      ·exact h5
     omega
    ·rcases List.mem_append.1 hx with hx|hx
     ·obtain ⟨j,h1,h2⟩:=i2 x hx
      exact ⟨j,by omega,h2⟩
     ·exact ⟨m,by omega,List.mem_singleton.1 hx⟩
   ·rw [if_neg hk,List.append_nil]
    exact ⟨i1,fun x hx=>by
     obtain ⟨j,h1,h2⟩:=i2 x hx
     exact ⟨j,by omega,h2⟩⟩
 exact (key zs.length (Nat.le_refl _)).1
theorem mF (zs:List Int):(zs.mergeSort fun x y=>decide (x≤y)).Pairwise (·≤·):=by
 have:=List.pairwise_mergeSort (le:=fun x y:Int=>decide (x≤y)) (fun a b c h1 h2=>by simp at *;omega) (fun a b=>by simp;omega) zs
 exact this.imp fun h=>by simpa using h
end Go.Pie
namespace Go.Vm
open Go.Am
section
variable {E:Env} {L:Vm.Frame} {H:Vm.Heap} {nx:Nat} {Q:PV→Vm.Heap→Nat→Prop} {w:Bool} {dst:Option Tmp} {ty:TypeId} {pos:String} {af:Array Edge} {gd:Option (Nat×Bool)}
end
end Go.Vm
namespace Go.Am
section
variable {P:Program} {O:Dh} {G:List Nat}
def tJ (key:Value) (rows:List (List Value)):Value:=.tuple #[key,.tuple (rows.map fun r=>Value.tuple r.toArray).toArray]
def uK (P:Program) (O:Dh) (G:List Nat) (UU body:Code) (n:Nat) (ask:Mem→Prop) (t:Tr Value) (ps:List Tmp):List (List Value)→Mem→(CP→Mem→Prop)→Prop
 |[],m,Q=>Q .normal m
 |vs::rest,m,Q=>vs.length=n∧vs.all plain=true∧Mc P O G UU { t:=QN t ps vs,m:=IW m m.size } fun e s1=>e=.normal∧Mc P O G body s1 fun e s2=>match e with
  | .normal=>ask (IW s2.m (min m.low s2.m.low))∧uK P O G UU body n ask t ps rest (IW s2.m (min m.low s2.m.low)) Q
  |e=>Q e (IW s2.m (min m.low s2.m.low))
end
end Go.Am
namespace Go.Vm
open Go.Am
section
variable {E:Env} {bn:Nat} {L:Vm.Frame} {H:Vm.Heap} {nx:Nat} {Q:CP→Vm.Frame→Vm.Heap→Nat→Prop}
def zY (L:Vm.Frame):List Tmp→List FV→Vm.Frame
 |p::ps,f::fs=>zY (Nv L (some p) (.p f)) ps fs
 |_,_=>L
def a7i (E:Env) (g:FuncId) (fn:Func) (cs:List PV) (H:Vm.Heap) (nx:Nat) (key:Value) (rows:List (List Value)):Prop :=
 ∀ Fo,E.O g=some Fo→∀ m F σ lb,Ctx E.Γ m F σ H nx→Dy m F (htag H) σ nx cs lb→∃ m1,Fo (Gq fn.ntmps lb) m=some (tJ key rows,m1)
def RQ (iv:Prop) (FN:Nat) (L0:Vm.Frame) (H1:Vm.Heap) (Q:CP→Vm.Frame→Vm.Heap→Nat→Prop):CP→Vm.Frame→Vm.Heap→Nat→Prop
 | .normal,_,H',nx'=>iv∧FN≤nx'∧Ap FN H1 H'
 |e,_,H',nx'=>FN≤nx'∧∃ H2,Ap FN H2 H'∧Q e L0 H2 FN
end
end Go.Vm
namespace Go.Vm
open Go.Am
section
variable {E:Env} {bn:Nat} {L:Vm.Frame} {H:Vm.Heap} {nx:Nat} {Q:CP→Vm.Frame→Vm.Heap→Nat→Prop}
def a4s (E:Env) (g:FuncId) (fn:Func) (cs:List FV) (e:TypeId) (rows:List (List Value)):Prop :=
 ∀ Fo,E.O g=some Fo→∀ m F c vs,m.get c=.cells vs e 0 false→DC m F cs vs→F c→∃ key,∀ m' F' σ' H' nx',(∀ d,F d→m'.get d=m.get d)→Ctx E.Γ m' F' σ' H' nx'→∃ m1,Fo (Gq fn.ntmps [.pointer (some ⟨c,0,none⟩)]) m'=some (tJ key rows,m1)
end
end Go.Vm
namespace Go.Vm
open Go.Am
def a6a (e:TypeId) (ks:List Int) (f:Int→List Int):List (FV×FV):=ks.map fun k=>(.int .i64 k,.lst e (cells (f k)) (f k).length)
section
variable {E:Env} {L:Frame} {H:Heap} {nx:Nat} {Q:PV→Heap→Nat→Prop} {w:Bool}
variable {dst:Option Tmp} {ty:TypeId} {pos:String} {af:Array Edge} {gd:Option (Nat×Bool)}
theorem zT {Γ:Nat→Option (List Value×TypeId)} {m:Mem} {F:Nat→Prop} {σ:Nat→Value} {t:Tr Value} {k:IntKind} {n:Int} {o:Operand} (hx:Ctx Γ m F σ H nx) (hl:RL m F (htag H) σ nx L t) (h:BF Γ L o=some (.p (.int k n))):ev t o=.int k n:=by
 have:=BU hx hl h
 generalize ev t o=v at this
 cases this with
 |p h=>cases h;rfl
end
section
variable {E:Env} {bn i:Nat} {ops:Array Oper} {l:List Oper} {L:Frame} {H:Heap} {nx:Nat} {R:Frame→Heap→Nat→Prop}
end
def swp (a b i:Nat):Nat:=if i=a then b else if i=b then a else i
def Hrn (ρ:Nat→Nat):Heap→Heap
 |[]=>[]
 |(i,x)::H=>(ρ i,x.rn ρ)::Hrn ρ H
end Go.Vm
namespace Go.Vm
open Go.Am
mutual
def FV.flat:FV→Bool
 | .int ..| .bool _| .str _| .val _=>true
 | .agg cs=>FVs.flat cs
 | .lst ..| .Gx _=>false
def FVs.flat:List FV→Bool
 |[]=>true
 |c::cs=>FV.flat c&&FVs.flat cs
end
mutual
def PV.flat:PV→Bool
 | .p x=>x.flat
 | .agg cs=>Ba.flat cs
 | .EK cs=>Ba.flat cs
 | .vec ..| .ref ..| .Ei ..| .mref _=>true
 | .clo _ fs cs=>Ba.flat fs&&Ba.flat cs
def Ba.flat:List PV→Bool
 |[]=>true
 |c::cs=>PV.flat c&&Ba.flat cs
end
def HB.flat:HB→Bool
 | .box _ cs=>Ba.flat cs
 | .vec _ cs _ _=>FVs.flat cs
 | .map _=>false
 | .Nw ..=>false
 | .KR ..=>false
def a1f:Heap→Bool
 |[]=>true
 |(_,x)::H=>x.flat&&a1f H
section
variable {m m':Mem} {F F':Nat→Prop} {T:Nat→Option Tg} {σ:Nat→Value} {n:Nat}
end
section
variable {E:Env} {L:Frame} {H:Heap} {nx:Nat} {Q:PV→Heap→Nat→Prop} {w:Bool}
variable {dst:Option Tmp} {ty:TypeId} {pos:String} {af:Array Edge} {gd:Option (Nat×Bool)}
end
end Go.Vm
namespace Go.Vm
open Go.Am
variable {E:Env} {L:Frame} {H:Heap} {nx:Nat} {Q:PV→Heap→Nat→Prop} {w:Bool}
variable {dst:Option Tmp} {ty:TypeId} {pos:String} {af:Array Edge} {gd:Option (Nat×Bool)}
theorem yA (σ:Nat→Value) (a:Nat):upd σ a (σ a)=σ:=by funext x;simp only [upd];split<;>simp_all
end Go.Vm
namespace Go.Vm
open Go.Am
section
variable {E:Env} {L:Vm.Frame} {H:Vm.Heap} {nx:Nat} {Q:PV→Vm.Heap→Nat→Prop} {w:Bool} {dst:Option Tmp} {ty:TypeId} {pos:String} {af:Array Edge} {gd:Option (Nat×Bool)}
end
end Go.Vm
namespace Go.Vm
open Go.Am
section
variable {P:Program}
structure a6x (P:Program) (t e:TypeId):Prop where
 arr:P.underlying t=some (.array 2 e)
 elt:P.underlying e=some (.int .i64)
 agg:GY P e=some false
 sz:(P.info? e).map (·.size)=some 1
def a2V (a b:Int):Value:=.agg #[.int .i64 a,.int .i64 b]
abbrev a0q:=List ((Int×Int)×Int)
def a6s (es:a0q):List (FV×FV):=es.map fun x=>(.agg [.int .i64 x.1.1,.int .i64 x.1.2],.int .i64 x.2)
def a1c:a0q→Int→Int→Option Int
 |[],_,_=>none
 |x::es,a,b=>if a=x.1.1∧b=x.1.2 then some x.2 else a1c es a b
variable {E:Env} {L:Vm.Frame} {H:Vm.Heap} {nx:Nat} {Q:PV→Vm.Heap→Nat→Prop} {w:Bool} {dst:Option Tmp} {ty:TypeId} {pos:String} {af:Array Edge} {gd:Option (Nat×Bool)}
end
end Go.Vm
namespace Go.Vm
open Go.Am
section
variable {E:Env} {L:Frame} {H:Heap} {nx:Nat}
theorem A8.fresh (e:TypeId):A8 E L H nx L ((nx,.vec e [] 0 true)::H) (nx+1):=fun B m F σ t h1 h2 h3=>by
 obtain ⟨c1,c2⟩:=V6 e h1
 exact ⟨F,_,c1,fun i v hi=>(h2 i v hi).step c2 h1,h3.trans c2⟩
variable {Q:PV→Heap→Nat→Prop} {dst:Option Tmp} {ty:TypeId} {pos:String} {af:Array Edge} {gd:Option (Nat×Bool)}
end
end Go.Vm
namespace Go.Vm
open Go.Am
def Dz (s:Nat):Nat→(Nat→HB)→Heap
 |0,_=>[]
 |n+1,f=>(s+n,f n)::Dz s n f
theorem Oa {s:Nat} {f:Nat→HB}:∀ {n j:Nat},j<n→hget (Dz s n f) (s+j)=some (f j)
 |0,_,h=>by omega
 |n+1,j,h=>by
  unfold Dz
  rw [BI]
  by_cases e:n=j
  ·subst e;rw [if_pos rfl]
  ·rw [if_neg (by omega)];exact Oa (by omega)
theorem MB {s:Nat} {f:Nat→HB}:∀ {n b:Nat},b<s∨s+n≤b→hget (Dz s n f) b=none
 |0,_,_=>rfl
 |n+1,b,h=>by
  unfold Dz
  rw [BI,if_neg (by omega)]
  exact MB (by omega)
theorem VW {s:Nat} {f g:Nat→HB}:∀ {n:Nat},(∀ j,j<n→f j=g j)→Dz s n f=Dz s n g
 |0,_=>rfl
 |n+1,h=>by
  unfold Dz
  rw [h n (by omega),VW fun j hj=>h j (by omega)]
theorem Xa {s:Nat} {f:Nat→HB} {y:HB}:∀ {n j:Nat},j<n→hput (Dz s n f) (s+j) y=Dz s n fun i=>if i=j then y else f i
 |0,_,h=>by omega
 |n+1,j,h=>by
  unfold Dz
  simp only [hput]
  by_cases e:n=j
  ·subst e
   have hd:∃ h,Nat.decEq (s+n) (s+n)=.isTrue h:=⟨rfl,by cases Nat.decEq (s+n) (s+n) with|isTrue h=>rfl|isFalse h=>exact absurd rfl h⟩
   obtain ⟨_,hd⟩:=hd
   rw [hd,if_pos rfl]
   simp only
   congr 1
   exact VW fun i hi=>by rw [if_neg (by omega)]
  ·have hd:∃ h,Nat.decEq (s+n) (s+j)=.isFalse h:=⟨by omega,by cases Nat.decEq (s+n) (s+j) with|isTrue h=>omega|isFalse h=>rfl⟩
   obtain ⟨_,hd⟩:=hd
   rw [hd,if_neg e]
   simp only
   rw [Xa (by omega)]
theorem Ej {a b:Nat} {x:HB} {H:Heap} {r:Option HB} (h:a≠b) (t:hget H b=r):hget ((a,x)::H) b=r:=by rw [BI,if_neg h];exact t
theorem Oi {a b:Nat} {x y:HB} {H H':Heap} (h:a≠b) (t:hput H b y=H'):hput ((a,x)::H) b y=(a,x)::H':=by
 simp only [hput]
 cases hd:Nat.decEq a b with
 |isTrue e=>exact absurd e h
 |isFalse _=>simp only [t]
theorem Gg {b c:Nat} {y:HB} {H:Heap} {r:Option HB} (h:b≠c) (t:hget H c=r):hget (hput H b y) c=r:=by rw [NY,if_neg h];exact t
theorem P8 {b c:Nat} {x y:HB} (h:b≠c):∀ {H:Heap},hput (hput H b x) c y=hput (hput H c y) b x
 |[]=>rfl
 |(a,z)::H=>by
  simp only [hput]
  cases h1:Nat.decEq a b with
  |isTrue e1 =>
   cases h2:Nat.decEq a c with
   |isTrue e2=>exact absurd (e1.symm.trans e2) h
   |isFalse _=>simp only [hput,h1,h2]
  |isFalse _ =>
   cases h2:Nat.decEq a c with
   |isTrue e2=>simp only [hput,h1,h2]
   |isFalse _=>simp only [hput,h1,h2,P8 h (H:=H)]
theorem ZW {b c:Nat} {x y:HB} {H H':Heap} (h:b≠c) (t:hput H c y=H'):hput (hput H b x) c y=hput H' b x:=by rw [P8 h,t]
theorem V4:∀ {H T:Heap} {b:Nat},hget (H++T) b=match hget H b with|some x=>some x|none=>hget T b
 |[],_,_=>rfl
 |(a,x)::H,T,b=>by
  rw [List.cons_append,BI,BI]
  by_cases e:a=b
  ·rw [if_pos e,if_pos e]
  ·rw [if_neg e,if_neg e];exact V4
theorem Ap.tail {k s:Nat} {f:Nat→HB} {H:Heap}:∀ {n:Nat},(∀ j,j<n→hget H (s+j)=some (f j))→s+n≤k→(∀ j,j<n→(f j).under k)→Ap k (Dz s n f) H
 |0,_,_,_=>trivial
 |n+1,h,hk,hu=>⟨⟨by omega,hu n (by omega),f n,h n (by omega),.refl _⟩,Ap.tail (fun j hj=>h j (by omega)) (by omega) fun j hj=>hu j (by omega)⟩
section
variable {E:Env} {L:Frame} {H:Heap} {nx:Nat}
theorem LD {H1 H2:Heap} (h:∀ b,hget H1 b=hget H2 b):htag H1=htag H2:=by
 funext b
 unfold htag
 rw [h b]
theorem jW {H1 H2:Heap} (h:∀ b,hget H1 b=hget H2 b) {σ:Nat→Value} {c:Nat} (ho:own H1 σ c):own H2 σ c:=by
 obtain ⟨b,x,hb,hc⟩:=ho
 exact ⟨b,x,(h b).symm.trans hb,hc⟩
theorem Ctx.congr {Γ:Nat→Option (List Value×TypeId)} {m:Mem} {F:Nat→Prop} {σ:Nat→Value} {H1 H2:Heap} (h:∀ b,hget H1 b=hget H2 b) (c:Ctx Γ m F σ H1 nx):Ctx Γ m F σ H2 nx where
 fr:=c.fr
 hp b x hb:=by
  rw [← LD h]
  exact c.hp b x ((h b).trans hb)
 sep b b' x x' d h1 h2:=c.sep b b' x x' d ((h b).trans h1) ((h b').trans h2)
 gl:=c.gl
theorem Step.congr {m m':Mem} {F F':Nat→Prop} {σ σ':Nat→Value} {H0 H1 H2:Heap} {nx nx':Nat} (h:∀ b,hget H1 b=hget H2 b) (s:Step m F σ H0 nx m' F' σ' H1 nx'):Step m F σ H0 nx m' F' σ' H2 nx' where
 size:=s.size
 keep:=s.keep
 KT:=s.KT
 KC:=s.KC
 II c hc ho:=s.II c hc (jW (fun b=>(h b).symm) ho)
 TW:=s.TW
 names:=by rw [← LD h];exact s.names
 low:=s.low
theorem A8.congr {L1:Frame} {H1 H2:Heap} {nx1:Nat} (h:∀ b,hget H1 b=hget H2 b) (g:A8 E L H nx L1 H1 nx1):A8 E L H nx L1 H2 nx1:=fun B m F σ t h1 h2 h3=>by
 obtain ⟨F1,σ1,c1,c2,c3⟩:=g B m F σ t h1 h2 h3
 refine ⟨F1,σ1,c1.congr h,?_,c3.congr h⟩
 rw [← LD h]
 exact c2
theorem A8.refl:A8 E L H nx L H nx:=fun B m F σ t h1 h2 h3=>⟨F,σ,h1,h2,h3⟩
theorem A8.freshN' (e:TypeId):∀ n:Nat,A8 E L H nx L (Dz nx n (fun _=>.vec e [] 0 true)++H) (nx+n)
 |0=>A8.refl
 |n+1=>(A8.freshN' e n).trans (A8.fresh e)
theorem A8.yQ (e:TypeId) (n:Nat) (hH:∀ b x,hget H b=some x→b<nx):A8 E L H nx L (H++Dz nx n (fun _=>.vec e [] 0 true)) (nx+n) :=
 (A8.freshN' e n).congr fun b=>by
  rw [V4,V4]
  rcases Nat.lt_or_ge b nx with h|h
  ·rw [MB (.inl h)]
   cases hget H b<;>rfl
  ·cases h0:hget H b with
   |some x=>exact absurd (hH b x h0) (by omega)
   |none =>
    simp only
    cases hget (Dz nx n fun _=>HB.vec e [] 0 true) b<;>rfl
theorem UG {a n:Nat} {x:HB} {T:Heap} (h:a<n) (t:∀ b y,hget T b=some y→b<n):∀ b y,hget ((a,x)::T) b=some y→b<n:=fun b y hb=>by
 rw [BI] at hb
 by_cases e:a=b
 ·omega
 ·rw [if_neg e] at hb;exact t b y hb
theorem uJ {n:Nat}:∀ b y,hget ([]:Heap) b=some y→b<n:=fun _ _ h=>by cases h
theorem nH {σ:Nat→Value} {m:Mem} {F:Nat→Prop} {b:Nat} {e:TypeId} {Γ:Nat→Option (List Value×TypeId)} (h1:Ctx Γ m F σ H nx) (hb:hget H b=some (.vec e [] 0 true)):RP m F (htag H) σ nx (.vec b 0 0 0) C9:=by
 obtain ⟨hlb,hrb⟩:=h1.hp b _ hb
 have hσb:σ b=C9:=by
  rcases hrb with ⟨_,_,h⟩|⟨c,g,vs,_,_,_,_,_,_,h⟩
  ·rcases h with ⟨h,_⟩|⟨_,_,_,_,h⟩
   ·exact h
   ·cases h
  ·have:=h rfl
   cases this
 refine .vec hlb rfl fun n hn=>?_
 have:htag H b=some (.vec 0):=by unfold htag;rw [hb];rfl
 rw [this] at hn
 simp only [Option.some.injEq,Tg.vec.injEq] at hn
 subst hn
 refine ⟨Nat.le_refl _,fun _=>?_⟩
 rw [hσb]
 exact ⟨rfl,rfl,rfl⟩
end
section
variable {E:Env} {L:Frame} {H:Heap} {nx:Nat} {Q:PV→Heap→Nat→Prop}
variable {dst:Option Tmp} {ty:TypeId} {pos:String} {af:Array Edge} {gd:Option (Nat×Bool)}
theorem Aa.congr {w:Bool} {o:Oper} {Q1:PV→Heap→Nat→Prop} (h:Aa E w o L H nx Q1) (hq:∀ r H' nx',Q1 r H' nx'→∃ H'',(∀ b,hget H' b=hget H'' b)∧Q r H'' nx'):Aa E w o L H nx Q:=fun m F σ t h1 h2=>by
 refine (h m F σ t h1 h2).mono ?_
 rintro v m' ⟨r,H',nx',F',σ',q,c1,c2,c3,c4⟩
 obtain ⟨H'',e,q'⟩:=hq r H' nx' q
 refine ⟨r,H'',nx',F',σ',q',c1.congr e,?_,c3.congr e,c4⟩
 rw [← LD e]
 exact c2
def Zi (ρ:Nat→Nat) (H:Heap):Heap→Prop
 |[]=>True
 |(i,x)::Hc=>hget H (ρ i)=some (x.rn ρ)∧Zi ρ H Hc
theorem Zi.hin {ρ:Nat→Nat} {H:Heap}:∀ {Hc:Heap},Zi ρ H Hc→yD ρ H Hc
 |[],_=>trivial
 |(i,x)::Hc,⟨h1,h2⟩=>⟨⟨_,h1,.refl _⟩,Zi.hin h2⟩
theorem Zi.get {ρ:Nat→Nat} {H:Heap}:∀ {Hc:Heap},Zi ρ H Hc→∀ i x,hget Hc i=some x→hget H (ρ i)=some (x.rn ρ)
 |[],_,_,_,h=>by cases h
 |(j,y)::Hc,⟨h1,h2⟩,i,x,h=>by
  rw [BI] at h
  by_cases e:j=i
  ·rw [if_pos e] at h;cases h;subst e;exact h1
  ·rw [if_neg e] at h;exact Zi.get h2 i x h
def allIn:Nat→Heap→Bool
 |0,_=>true
 |n+1,Hc=>(hget Hc n).isSome&&allIn n Hc
theorem Xe {Hc:Heap}:∀ {n i:Nat},allIn n Hc=true→i<n→(hget Hc i).isSome=true
 |0,_,_,h=>by omega
 |n+1,i,h,hi=>by
  simp only [allIn,Bool.and_eq_true] at h
  by_cases e:i=n
  ·subst e;exact h.1
  ·exact Xe h.2 (by omega)
theorem Aa.xI {fo:Operand} {args:Array Operand} {aT:Array TypeId} {g:FuncId} {fs cs Cj ac:List PV} {Hc:Heap} {x:FV} (ns:List Nat) (hc:Et E g ac Hc ns.length x)
 (hf:BF E.Γ L fo=some (.clo g fs cs)) (ha:evs E.Γ L args.toList=some Cj) (hle:Om (fs++Cj++cs) (Ba.rn (rho ns nx) ac)) (hu:Ba.under ns.length ac) (wU:NK ns.length Hc) (hin:Zi (rho ns nx) H Hc) (hall:allIn ns.length Hc=true) (hnd:ns.Nodup) (hlt:∀ b∈ns,b<nx) (q:Q (.p x) H nx) :
 Aa E true ⟨dst,.call { callee:=.value fo,args:=args,argTypes:=aT },ty,pos,af,gd⟩ L H nx Q:=by
 have hge:∀ i,ns.length≤i→rho ns nx i=nx+(i-ns.length):=fun i hi=>nR hi
 have hinj:∀ i j,rho ns nx i=rho ns nx j→ns.length≤i→ns.length≤j→i=j:=fun i j e hi hj=>by
  rw [hge i hi,hge j hj] at e;omega
 refine Aa.congr (Aa.oQ hf ha hle hu wU hin.hin hnd hlt (fun h=>by cases h) hc (Q:=fun r H' nx'=>r=.p x∧(∀ b,hget H' b=hget H b)∧nx'=nx) ?_) fun r H' nx' ⟨h1,h2,h3⟩=>⟨H,h2,by rw [h1,h3];exact q⟩
 rintro r H' nx' ⟨rfl,rfl,rfl⟩
 refine ⟨rfl,fun b=>?_,by omega⟩
 rcases Jk (k:=ns.length) (ρ:=rho ns nx) (H:=merge ns (rho ns nx) H' H) (H':=H') (b:=b) hinj with ⟨i,hi,e1,e2,e3⟩|⟨_,e⟩
 ·cases h0:hget H' i with
  |none=>rw [h0] at e2;simp at e2
  |some y=>have:=(wU.get i y h0).1;omega
 ·rw [e]
  cases hi:idx ns b with
  |none=>rw [Fq hi]
  |some i =>
   have h0:=VJ hi
   have hb:rho ns nx i=b:=pG h0
   rw [I4 hi]
   cases h1:hget H b with
   |none=>rfl
   |some y =>
    cases h2:hget H' i with
    |none =>
     have hlt':i<ns.length:=by
      rcases Nat.lt_or_ge i ns.length with h|h
      ·exact h
      ·rw [List.getElem?_eq_none h] at h0;cases h0
     have:=Xe hall hlt'
     rw [h2] at this
     cases this
    |some x =>
     have:=hin.get i x h2
     rw [hb,h1] at this
     simpa using this.symm
end
end Go.Vm
namespace Go.Vm
open Go.Am
structure IsKey (P:Program) (t:TypeId) {α:Type} [DecidableEq α] (kf:α→List FV) (kv:α→List Value):Prop where
 val:∀ a,Fe (kf a)=some (kv a)
 agg:RV P t=true
 eq:∀ a b,EF P (Op.equal t (.agg (kv a).toArray) (.agg (kv b).toArray))=some (decide (a=b))
 chk:∀ fl a,aH P (Instr.checkKey fl 10000 t (.agg (kv a).toArray))=true
def EW {α β:Type} [DecidableEq α]:List (α×β)→α→Option β
 |[],_=>none
 |x::es,a=>if a=x.1 then some x.2 else EW es a
def FM {α β:Type} [DecidableEq α]:List (α×β)→α→β→List (α×β)
 |[],a,b=>[(a,b)]
 |x::es,a,b=>if a=x.1 then (a,b)::es else x::FM es a b
def En {α β:Type} [DecidableEq α]:List (α×β)→α→Nat
 |[],_=>0
 |x::es,a=>if a=x.1 then 0 else En es a+1
def Rj {α:Type} (kf:α→List FV) (es:List (α×PV)):HB:=.KR (es.map fun x=>.agg (kf x.1)) (es.map (·.2))
theorem Lh:∀ {l:List FV} {vs:List Value},Fe l=some vs→vs.all Am.plainCell=true
 |[],_,h=>by cases h;rfl
 |x::l,vs,h=>by
  simp only [Fe] at h
  split at h
  ·rename_i v r h1 h2
   cases h
   rw [List.all_cons,Bool.and_eq_true]
   refine ⟨?_,Lh h2⟩
   cases x<;>simp only [WQ,Option.some.injEq,reduceCtorEq] at h1<;>subst h1<;>rfl
  ·cases h
theorem DC.oq {m:Mem} {F:Nat→Prop}:∀ {l:List FV} {vs:List Value},Fe l=some vs→DC m F l vs
 |[],_,h=>by cases h;exact .nil
 |x::l,vs,h=>by
  simp only [Fe] at h
  split at h
  ·rename_i v r h1 h2
   cases h
   refine .cons ?_ (DC.oq h2)
   cases x<;>simp only [WQ,Option.some.injEq,reduceCtorEq] at h1<;>subst h1
   ·exact .int _ _
   ·exact .bool _
   ·exact .str _
  ·cases h
theorem TB:∀ {l:List FV} {vs:List Value},Fe l=some vs→∀ x∈vs,∀ n,Instr.sameBits (n+1) x x=true
 |[],_,h=>by cases h;intro x hx;cases hx
 |x::l,vs,h=>by
  simp only [Fe] at h
  split at h
  ·rename_i v r h1 h2
   cases h
   intro y hy n
   rcases List.mem_cons.1 hy with rfl|hy
   ·cases x<;>simp only [WQ,Option.some.injEq,reduceCtorEq] at h1<;>subst h1<;>simp [Instr.sameBits,QV]
   ·exact TB h2 y hy n
  ·cases h
def yS:TypeDesc→Bool
 | .int _=>true
 | .bool=>true
 | .string=>true
 |_=>false
def Yb (P:Program):List Field→Array Value→Bool
 |[],_=>true
 |f::fs,xs=>(match GY P f.type,P.underlying f.type,xs[f.offset]? with|some false,some d,some _=>yS d|_,_,_=>false)&&Yb P fs xs
theorem Uy {P:Program} {fl:Bool} {n:Nat} (xs:Array Value):∀ (fs:List Field),Yb P fs xs=true→EF P (forIn fs PUnit.unit fun f _=>(do
 if f.name≠"_" then do
  let x ← part f.type xs f.offset
  Instr.checkKey fl (n+1) f.type x
  pure (ForInStep.yield PUnit.unit)
 else pure (ForInStep.yield PUnit.unit):Sem (ForInStep PUnit)))=some PUnit.unit
 |[],_=>rfl
 |f::fs,h=>by
  simp only [Yb,Bool.and_eq_true] at h
  obtain ⟨h1,h2⟩:=h
  have ih:=Uy (P:=P) (fl:=fl) (n:=n) xs fs h2
  split at h1
  ·rename_i d v e1 e2 e3
   rw [List.forIn_cons,Bd]
   by_cases hn:f.name≠"_"
   ·rw [if_pos hn]
    have hck:EF P (Instr.checkKey fl (n+1) f.type v)=some ():=by
     rw [Instr.checkKey]
     simp only [Bd,BL,e2,Option.bind_some]
     cases d<;>first|rfl|cases h1
    simp only [Bd,UD e1 e3,Option.bind_some,hck,CQ]
    exact ih
   ·rw [if_neg hn]
    simp only [CQ,Option.bind_some]
    exact ih
  ·cases h1
section
variable {P:Program} {α:Type} [DecidableEq α] {kf:α→List FV} {kv:α→List Value} {t:TypeId}
theorem IsKey.rel (h:IsKey P t kf kv) {m:Mem} {F:Nat→Prop} {a:α} {v:Value} (r:RF m F (.agg (kf a)) v):v=.agg (kv a).toArray:=by
 cases r with
 |agg r hc=>rw [(Lr r (h.val a)).1]
theorem IsKey.of (h:IsKey P t kf kv) {m:Mem} {F:Nat→Prop} (a:α):RF m F (.agg (kf a)) (.agg (kv a).toArray) :=
 .agg (DC.oq (h.val a)) (Dx (Lh (h.val a)))
theorem IsKey.plain (h:IsKey P t kf kv) (a:α):Am.plain (.agg (kv a).toArray)=true:=by
 show Am.Fv (.agg (kv a).toArray)=true
 simpa [Am.Fv] using Lh (h.val a)
theorem IsKey.bits (h:IsKey P t kf kv) (a:α):Instr.sameBits 10000 (.agg (kv a).toArray) (.agg (kv a).toArray)=true:=by
 have hv:=TB (h.val a)
 generalize kv a=vs at hv
 show (decide _&&_)=true
 simp only [List.size_toArray,Bool.and_eq_true]
 refine ⟨by simp,?_⟩
 rw [List.all_eq_true]
 rintro ⟨x,y⟩ hxy
 have hz:∀ (l:List Value),(x,y)∈l.zip l→x=y∧x∈l:=by
  intro l
  induction l with
  |nil=>intro h;cases h
  |cons b l ih =>
   intro h
   rcases List.mem_cons.1 h with h|h
   ·cases h;exact ⟨rfl,by simp⟩
   ·obtain ⟨e,m⟩:=ih h
    exact ⟨e,List.mem_cons_of_mem _ m⟩
 obtain ⟨e,m⟩:=hz vs hxy
 subst e
 exact hv x m 9998
theorem IsKey.of_struct {fs:Array Field} (hu:P.underlying t=some (.struct fs)) (hp:P.stoodInHeld t=false) (hv:∀ a,Fe (kf a)=some (kv a)) (he:∀ a b,WM P fs.toList (kv a).toArray (kv b).toArray=some (decide (a=b))) (hc:∀ a,Yb P fs.toList (kv a).toArray=true):IsKey P t kf kv where
 val:=hv
 agg:=by unfold RV;rw [hu]
 eq a b:=PI (d:=9998) hu hp (he a b)
 chk fl a:=by
  have:EF P (Instr.checkKey fl 10000 t (.agg (kv a).toArray))=some ():=by
   rw [Instr.checkKey]
   simp only [Bd,BL,hu,Option.bind_some]
   rw [← Array.forIn_toList,Uy (n:=9998) _ _ (hc a)]
   rfl
  unfold aH
  rw [this]
theorem YZ (h:IsKey P t kf kv) {m:Mem} {F:Nat→Prop}:∀ {es:List (α×PV)} {ks:List Value},DC m F (es.map fun x=>.agg (kf x.1)) ks→ks=es.map fun x=>.agg (kv x.1).toArray
 |[],_,r=>by cases r;rfl
 |x::es,_,r=>by
  cases r with
  |cons r1 r2=>rw [h.rel r1,YZ h r2];rfl
theorem eu (h:IsKey P t kf kv) {m:Mem} {F:Nat→Prop} {T:Nat→Option Tg} {σ:Nat→Value} {n:Nat} (a:α):∀ {es:List (α×PV)} {l:List MapEntry},l.map (·.key)=es.map (fun x=>.agg (kv x.1).toArray)→Dy m F T σ n (es.map (·.2)) (l.map (·.val))→∀ (i:Nat),
 (EW es a=none→EF P (Instr.findAsking t (.agg (kv a).toArray) l i)=some none∧En es a=es.length∧∀ b,FM es a b=es++[(a,b)]) ∧
 (∀ c,EW es a=some c→∃ j v,EF P (Instr.findAsking t (.agg (kv a).toArray) l i)=some (some (i+j,v))∧RP m F T σ n c v∧(∃ e,l[j]?=some e∧e.key=.agg (kv a).toArray∧e.val=v)∧En es a=j∧∀ b,FM es a b=es.set j (a,b))
 |[],[],_,_,i=>⟨fun _=>⟨rfl,rfl,fun _=>rfl⟩,fun v hv=>by cases hv⟩
 |[],y::l,h1,_,_=>by cases h1
 |x::es,[],h1,_,_=>by cases h1
 |x::es,y::l,h1,h2,i=>by
  simp only [List.map_cons,List.cons.injEq] at h1 h2
  cases h2 with
  |cons r1 r2 =>
   obtain ⟨i1,i2⟩:=eu h a h1.2 r2 (i+1)
   rw [Instr.findAsking,h1.1]
   simp only [Bd,h.eq,Option.bind_some]
   unfold EW FM En
   by_cases hc:a=x.1
   ·rw [if_pos hc,decide_eq_true hc]
    refine ⟨fun h=>(by cases h),fun v hv=>⟨0,y.val,?_,?_,⟨y,rfl,by rw [h1.1,hc],rfl⟩,by rw [if_pos hc],fun b=>?_⟩⟩
    ·rfl
    ·cases hv;exact r1
    ·rw [if_pos hc];rfl
   ·rw [if_neg hc,decide_eq_false hc]
    refine ⟨fun hn=>?_,fun c hv=>?_⟩
    ·obtain ⟨j1,j0,j2⟩:=i1 hn
     exact ⟨j1,by rw [if_neg hc,j0];rfl,fun b=>by rw [if_neg hc,j2 b];rfl⟩
    ·obtain ⟨j,v,j1,j2,j3,j0,j4⟩:=i2 c hv
     refine ⟨j+1,v,?_,j2,j3,by rw [if_neg hc,j0],fun b=>by rw [if_neg hc,j4 b];rfl⟩
     rw [show i+(j+1)=i+1+j by omega]
     exact j1
theorem YE (h:IsKey P t kf kv) (fl:Bool) (a:α) (l:List MapEntry):J7 P fl t (.agg (kv a).toArray) l=EF P (Instr.findAsking t (.agg (kv a).toArray) l 0):=by
 have hg:=h.agg
 obtain ⟨d,hu,hd⟩:=UM h.agg
 have hk:Fa P t=none:=by
  unfold RV at hg
  unfold Fa
  rw [hu] at hg ⊢
  cases d<;>first|rfl|cases hg
 unfold J7
 rw [hk,hg,h.chk fl a]
 simp only [Bool.and_self,if_true,Instr.findKey,Bd,BL,hu,Option.bind_some]
 cases l with
 |nil=>rfl
 |cons x l =>
  unfold Instr.findNow
  rw [hd]
variable {E:Env} {L:Vm.Frame} {H:Vm.Heap} {nx:Nat} {Q:PV→Vm.Heap→Nat→Prop} {w:Bool} {dst:Option Tmp} {ty:TypeId} {pos:String} {af:Array Edge} {gd:Option (Nat×Bool)}
theorem Yx {Γ:Nat→Option (List Value×TypeId)} {m:Mem} {F:Nat→Prop} {σ:Nat→Value} {tt:Tr Value} {a:α} {o:Operand} (h:IsKey P t kf kv) (hx:Ctx Γ m F σ H nx) (hl:RL m F (htag H) σ nx L tt) (hv:BF Γ L o=some (.p (.agg (kf a)))):ev tt o=.agg (kv a).toArray:=by
 have:=BU hx hl hv
 generalize ev tt o=v at this
 cases this with
 |p r=>exact h.rel r
theorem Qi {Γ:Nat→Option (List Value×TypeId)} {m:Mem} {F:Nat→Prop} {σ:Nat→Value} {t:Tr Value} {b:Nat} {o:Operand} {ks:List FV} {cs:List PV} (hx:Ctx Γ m F σ H nx) (hl:RL m F (htag H) σ nx L t) (h:BF Γ L o=some (.mref b)) (hb:hget H b=some (.KR ks cs)):ev t o=σ b:=by
 have:=BU hx hl h
 generalize ev t o=v at this
 cases this with
 |mref _ _ h3=>exact h3 (by simp [htag,hb,HB.tag])
theorem Aa.sU {t:TypeId} (q:Q (.mref nx) ((nx,.KR [] [])::H) (nx+1)):Aa E w ⟨dst,.makeMap t none,ty,pos,af,gd⟩ L H nx Q:=by
 intro m F σ tt h1 h2
 obtain ⟨c1,c2,c3⟩:=h1.new (m':=m.alloc (.map [] 0)) (x:=.KR [] []) (s:=.map (some m.size)) (by simp [Mem.alloc]) (fun c hc=>by rw [Mem.BR,if_neg (by omega)]) (by simp only [Mem.alloc];omega) (fun c hc=>by simp only [Dv,Option.some.injEq] at hc;omega)
  ⟨m.size,[],0,rfl,by simp [Mem.alloc],fun hf=>Nat.lt_irrefl _ (h1.fr _ hf),by rw [Mem.BR,if_pos rfl],.nil,.nil,rfl,rfl⟩
 exact Gz.op (v:=.map (some m.size)) (fun _=>rfl) ⟨_,_,_,F,_,q,c1,.mref (Nat.lt_succ_self _) rfl fun _=>(upd_same _ _ _).symm,c2,fun _=>c3⟩
theorem OQ {α:Type} {g:α→α} {e:α}:∀ {l:List α} {j:Nat},l[j]?=some e→l.modify j g=l.set j (g e)
 |[],j,h=>by simp at h
 |a::l,0,h=>by simp at h;subst h;rfl
 |a::l,j+1,h=>by
  rw [List.modify_succ_cons,List.set_cons_succ,OQ (by simpa using h)]
theorem Stamped.push {l:List MapEntry} {clock:Nat} {k v:Value} (h:Stamped l clock):Stamped (l++[{ key:=k,val:=v,born:=clock }]) (clock+1):=by
 obtain ⟨h1,h2⟩:=h
 subst h2
 refine ⟨?_,by simp⟩
 rw [List.map_append,h1,List.length_append,List.length_singleton,List.range_succ]
 rfl
theorem Stamped.modify {l:List MapEntry} {clock i:Nat} {f:MapEntry→MapEntry} (h:Stamped l clock) (hf:∀ e,(f e).born=e.born):Stamped (l.modify i f) clock:=by
 obtain ⟨h1,h2⟩:=h
 refine ⟨?_,by rw [List.length_modify];exact h2⟩
 rw [List.length_modify,← h1]
 apply List.ext_getElem?
 intro j
 simp only [List.getElem?_map,List.getElem?_modify]
 cases l[j]? with
 |none=>rfl
 |some e =>
  simp only [Option.map_some]
  split<;>simp [hf]
theorem Stamped.at {l:List MapEntry} {clock i:Nat} {e:MapEntry} (h:Stamped l clock) (he:l[i]?=some e):e.born=i:=by
 have h1:(l.map (·.born))[i]?=some e.born:=by rw [List.getElem?_map,he];rfl
 rw [h.1] at h1
 obtain ⟨hi,h2⟩:=List.getElem?_eq_some_iff.1 h1
 simpa using h2.symm
theorem Stamped.find {l:List MapEntry} {clock i:Nat} (h:Stamped l clock) (hi:i<l.length):l.findIdx? (fun e=>(e.born:Int)==(i:Int))=some i:=by
 rw [List.findIdx?_eq_some_iff_getElem]
 refine ⟨hi,?_,fun j hj=>?_⟩
 ·rw [h.at (List.getElem?_eq_getElem hi)];simp
 ·rw [h.at (List.getElem?_eq_getElem (by omega:j<l.length))]
  simp;omega
theorem WL {β:Type}:∀ {es:List (α×β)} {a:α},En es a≤es.length∧(En es a<es.length↔(EW es a).isSome)
 |[],_=>⟨Nat.le_refl _,by simp [En,EW]⟩
 |x::es,a=>by
  obtain ⟨h1,h2⟩:=WL (es:=es) (a:=a)
  unfold En EW
  by_cases h:a=x.1
  ·rw [if_pos h,if_pos h];exact ⟨Nat.zero_le _,by simp⟩
  ·rw [if_neg h,if_neg h]
   simp only [List.length_cons]
   exact ⟨by omega,by rw [← h2];omega⟩
theorem ZN {β:Type}:∀ {es:List (α×β)} {a:α} {b:β},En es a<(FM es a b).length
 |[],a,b=>by simp [En,FM]
 |x::es,a,b=>by
  unfold En FM
  by_cases h:a=x.1
  ·rw [if_pos h,if_pos h];simp
  ·rw [if_neg h,if_neg h]
   have:=ZN (es:=es) (a:=a) (b:=b)
   simp only [List.length_cons];omega
theorem VY {β:Type}:∀ {es:List (α×β)} {a:α} {b c:β},(FM es a b).set (En es a) (a,c)=FM es a c
 |[],a,b,c=>by simp [En,FM]
 |x::es,a,b,c=>by
  unfold En FM
  by_cases h:a=x.1
  ·rw [if_pos h,if_pos h,if_pos h];rfl
  ·rw [if_neg h,if_neg h,if_neg h,List.set_cons_succ,VY]
theorem ZG {β:Type}:∀ {es:List (α×β)} {a:α} {c:β},((FM es a c)[En es a]?).map (·.1)=some a
 |[],a,c=>by simp [En,FM]
 |x::es,a,c=>by
  unfold En FM
  by_cases e:a=x.1
  ·rw [if_pos e,if_pos e];simp
  ·rw [if_neg e,if_neg e,List.getElem?_cons_succ,ZG]
def RJ (E:Env) (H:Vm.Heap) (nx:Nat) (es:List (α×PV)) (a:α) (z:Value) (c:PV):Prop :=
 EW es a=some c∨EW es a=none∧∀ m F σ,Ctx E.Γ m F σ H nx→RP m F (htag H) σ nx c z
theorem RJ.zK {es:List (α×PV)} {a:α} {b:Nat} {e:TypeId} (h:EW es a=none) (hb:hget H b=some (.vec e [] 0 true)):RJ E H nx es a C9 (.vec b 0 0 0) :=
 .inr ⟨h,fun _ _ _ c=>nH c hb⟩
theorem Aa.iK {t kt et:TypeId} {x k:Operand} {b:Nat} {es:List (α×PV)} {a:α} {z:Value} {c:PV} (hkt:IsKey E.P kt kf kv) (hx:BF E.Γ L x=some (.mref b)) (hb:hget H b=some (Rj kf es)) (hk:BF E.Γ L k=some (.p (.agg (kf a))))
 (ht:E.P.underlying t=some (.map kt et)) (hz:zeroOf E.P et=some z) (hzp:Am.plain z=true) (hv:RJ E H nx es a z c) (q:Q c H nx):Aa E w ⟨dst,.lookup t x k false,ty,pos,af,gd⟩ L H nx Q :=
 Aa.quiet q fun m F σ tt c1 c2=>by
  obtain ⟨_,r,l,clock,r1,r2,r3,r4,r5,r6,r7⟩:=c1.hp b _ hb
  have e1:=YZ hkt r5
  obtain ⟨f1,f2⟩:=eu hkt a e1 r6 0
  have hpl:(Am.plain z&&Am.plain (.agg (kv a).toArray))=true:=by rw [hzp,hkt.plain];rfl
  rcases hv with hv|⟨hv,hc⟩
  ·obtain ⟨j,u,f3,f4,_⟩:=f2 c hv
   refine ⟨u,fun _=>?_,f4⟩
   simp only [CG,Fp,N7,ht,hz,Qi c1 c2 hx hb,Yx hkt c1 c2 hk,r1,r4,hpl,if_true,YE hkt,f3,Option.map_some,Bool.false_eq_true,if_false]
  ·have f3:=(f1 hv).1
   refine ⟨z,fun _=>?_,hc m F σ c1⟩
   simp only [CG,Fp,N7,ht,hz,Qi c1 c2 hx hb,Yx hkt c1 c2 hk,r1,r4,hpl,if_true,YE hkt,f3,Option.map_some,Bool.false_eq_true,if_false]
theorem Dy.snoc {m:Mem} {F:Nat→Prop} {T:Nat→Option Tg} {σ:Nat→Value} {n:Nat}:∀ {cs:List PV} {vs:List Value} {c:PV} {v:Value},Dy m F T σ n cs vs→RP m F T σ n c v→Dy m F T σ n (cs++[c]) (vs++[v])
 |_,_,_,_,.nil,h=>.cons h .nil
 |_,_,_,_,.cons a t,h=>.cons a (Dy.snoc t h)
theorem iE {t:TypeId} (hkt:IsKey P t kf kv) {m:Mem} {F:Nat→Prop}:∀ (es:List (α×PV)),DC m F (es.map fun x=>.agg (kf x.1)) (es.map fun x=>.agg (kv x.1).toArray)
 |[]=>.nil
 |x::l=>.cons (hkt.of x.1) (iE hkt l)
theorem Ns {m:Mem} {F:Nat→Prop} {σ:Nat→Value} {kt:TypeId} {b r:Nat} {es es':List (α×PV)} {l':List MapEntry} {clock':Nat} (hkt:IsKey P kt kf kv) {Γ:Nat→Option (List Value×TypeId)} (c1:Ctx Γ m F σ H nx) (hb:hget H b=some (Rj kf es)) (r1:σ b=.map (some r)) (r2:r<m.size) (r3:¬ F r)
 (k1:l'.map (·.key)=es'.map (fun x=>.agg (kv x.1).toArray)) (k2:Dy m F (htag H) σ nx (es'.map (·.2)) (l'.map (·.val))) (k3:Stamped l' clock') :
 Ctx Γ (m.put r (.map l' clock')) F σ (hput H b (Rj kf es')) nx∧Step m F σ H nx (m.put r (.map l' clock')) F σ (hput H b (Rj kf es')) nx:=by
 have hput':∀ d' x,r≠d'→(m.put r x).get d'=m.get d':=fun d' x hd=>by rw [Mem.get_put,if_neg hd]
 have:=c1.change (m':=m.put r (.map l' clock')) (x':=Rj kf es') (s':=σ b) hb trivial (fun _=>rfl) (Nat.le_refl _)
  (fun d' _ hd=>hput' d' _ fun e=>hd (by rw [r1,e];rfl)) (fun k k1 k2 k3=>by
   have:=k3 r (by rw [r1];rfl)
   simp only [Mem.put];omega) (fun d' hd=>.inl hd) (by
   have hF:∀ d',F d'→F d'∧(m.put r (.map l' clock')).get d'=m.get d':=fun d' hd=>⟨hd,hput' d' _ fun e=>r3 (e▸hd)⟩
   refine ⟨r,l',clock',r1,r2,r3,by rw [Mem.get_put,if_pos rfl],?_,?_,k3⟩
   ·rw [k1]
    exact iE hkt es'
   ·exact k2.mono hF (Hl (x':=Rj kf es') hb trivial fun _=>rfl) (Nat.le_refl _))
 rw [yA] at this
 exact this
theorem Aa.yu {t kt et:TypeId} {x k:Operand} {b:Nat} {es:List (α×PV)} {a:α} {c:PV} {z:Value} (hkt:IsKey E.P kt kf kv) (hx:BF E.Γ L x=some (.mref b)) (hb:hget H b=some (Rj kf es)) (hk:BF E.Γ L k=some (.p (.agg (kf a))))
 (ht:E.P.underlying t=some (.map kt et)) (hz:zeroOf E.P et=some z) (hzp:Am.plain z=true) (hv:RJ E H nx es a z c) {H':Vm.Heap} (hH:hput H b (Rj kf (FM es a c))=H') (q:Q (.EK [c,.p (.int .i64 (En es a:Nat))]) H' nx):Aa E true ⟨dst,.mapEntry t x k,ty,pos,af,gd⟩ L H nx Q:=by
 subst hH
 intro m F σ tt c1 c2
 obtain ⟨_,r,l,clock,r1,r2,r3,r4,r5,r6,r7⟩:=c1.hp b _ hb
 have e1:=YZ hkt r5
 obtain ⟨f1,f2⟩:=eu hkt a e1 r6 0
 have hup:O4 E.P t (ev tt x) (ev tt k) m=match J7 E.P false kt (.agg (kv a).toArray) l with
  |some (some (i,v))=>if (Fa E.P kt).isSome||Instr.sameBits 10000 (((l[i]?).map (·.key)).getD (.agg (kv a).toArray)) (.agg (kv a).toArray) then some (.tuple #[v,.int .i64 ((((l[i]?).map (·.born)).getD 0:Nat):Int)],m.put r (.map (l.modify i fun e=>{ e with key:=.agg (kv a).toArray }) clock)) else none
  |some none=>some (.tuple #[z,.int .i64 ((clock:Nat):Int)],m.put r (.map (l++[{ key:=.agg (kv a).toArray,val:=z,born:=clock }]) (clock+1)))
  |none=>none:=by
  unfold O4
  simp only [ht,Qi c1 c2 hx hb,Yx hkt c1 c2 hk,r1,r4,hkt.plain,if_true,hz,hzp]
  rfl
 rw [YE hkt] at hup
 have hlen:l.length=es.length:=by
  have:=congrArg List.length e1
  simpa using this
 rcases hv with hl|⟨hl,hc⟩
 ·obtain ⟨j,u,f3,f4,⟨e0,f5,f5',f5''⟩,f7,f6⟩:=f2 c hl
  rw [Nat.zero_add] at f3
  rw [f3] at hup
  simp only [f5,Option.map_some,Option.getD_some,f5',hkt.bits,Bool.or_true,if_true,r7.at f5] at hup
  have hmod:∀ (g:MapEntry→MapEntry),l.modify j g=l.set j (g e0):=fun g=>OQ f5
  obtain ⟨d1,d2⟩:=Ns hkt c1 hb r1 r2 r3 (es':=FM es a c) (l':=l.modify j fun e=>{ e with key:=.agg (kv a).toArray }) (by rw [hmod,f6 c,List.map_set,List.map_set,e1]) (by rw [hmod,f6 c,List.map_set,List.map_set];exact r6.set j (by rw [f5''];exact f4)) (r7.modify fun _=>rfl)
  refine Gz.op (v:=.tuple #[u,.int .i64 ((j:Nat):Int)]) (fun _=>by simp only [CG,Fp,hup]) ⟨_,_,_,F,_,q,d1,?_,d2,fun h=>by cases h⟩
  rw [f7]
  exact .EK (.cons (f4.step d2 c1) (.cons (.p (.int _ _)) .nil))
 ·obtain ⟨f3,f7,f4⟩:=f1 hl
  rw [f3] at hup
  simp only at hup
  have hcz:=hc m F σ c1
  obtain ⟨d1,d2⟩:=Ns hkt c1 hb r1 r2 r3 (es':=FM es a c) (l':=l++[{ key:=.agg (kv a).toArray,val:=z,born:=clock }]) (clock':=clock+1) (by rw [f4 c,List.map_append,List.map_append,e1];rfl) (by rw [f4 c,List.map_append,List.map_append];exact Dy.snoc r6 hcz) r7.push
  refine Gz.op (v:=.tuple #[z,.int .i64 ((clock:Nat):Int)]) (fun _=>by simp only [CG,Fp,hup]) ⟨_,_,_,F,_,q,d1,?_,d2,fun h=>by cases h⟩
  rw [f7,← hlen,← r7.2]
  exact .EK (.cons (hcz.step d2 c1) (.cons (.p (.int _ _)) .nil))
theorem Aa.lJ {t kt:TypeId} {x k y:Operand} {b:Nat} {es:List (α×PV)} {a:α} {c0 c:PV} (hkt:IsKey E.P kt kf kv) (hx:BF E.Γ L x=some (.mref b)) (hb:hget H b=some (Rj kf (FM es a c0))) (hk:BF E.Γ L k=some (.p (.int .i64 (En es a:Nat)))) (hy:BF E.Γ L y=some c)
 {H':Vm.Heap} (hH:hput H b (Rj kf (FM es a c))=H') (q:Q (.EK []) H' nx):Aa E true ⟨dst,.entryStore t x k y,ty,pos,af,gd⟩ L H nx Q:=by
 subst hH
 intro m F σ tt c1 c2
 obtain ⟨_,r,l,clock,r1,r2,r3,r4,r5,r6,r7⟩:=c1.hp b _ hb
 have e1:=YZ hkt r5
 have hyv:=BU c1 c2 hy
 have hkv:ev tt k=.int .i64 ((En es a:Nat):Int):=zT c1 c2 hk
 have hlen:l.length=(FM es a c0).length:=by
  have:=congrArg List.length e1
  simpa using this
 have hi:En es a<l.length:=by rw [hlen];exact ZN
 have hmod:∀ (g:MapEntry→MapEntry),l.modify (En es a) g=l.set (En es a) (g l[En es a]):=fun g=>OQ (List.getElem?_eq_getElem hi)
 obtain ⟨d1,d2⟩:=Ns hkt c1 hb r1 r2 r3 (es':=FM es a c) (l':=l.modify (En es a) fun e=>{ e with val:=ev tt y }) (by
  rw [hmod,List.map_set,← VY (b:=c0),List.map_set]
  have hkey:l[En es a].key=.agg (kv a).toArray:=by
   have h1:(l.map (·.key))[En es a]?=some l[En es a].key:=by rw [List.getElem?_map,List.getElem?_eq_getElem hi];rfl
   rw [e1,List.getElem?_map] at h1
   have h2:=ZG (es:=es) (a:=a) (c:=c0)
   cases h3:(FM es a c0)[En es a]? with
   |none=>rw [h3] at h2;cases h2
   |some p =>
    rw [h3] at h1 h2
    simp only [Option.map_some,Option.some.injEq] at h1 h2
    rw [← h1,h2]
  rw [e1]
  congr 1) (by
  rw [hmod,List.map_set,← VY (b:=c0),List.map_set]
  exact r6.set _ hyv) (r7.modify fun _=>rfl)
 exact Gz.op (v:=undef) (fun _=>by simp only [CG,Fp,G8,Qi c1 c2 hx hb,hkv,r1,r4,r7.find hi,Option.map_some]) ⟨_,_,_,F,_,q,d1,.EK .nil,d2,fun h=>by cases h⟩
theorem Aa.oK {α:Type} {_:Enc α} {l:List α} {a:α} {s x:Operand} {sT xT e e2:TypeId} {xd:TypeDesc} {i:TypeInfo} {b b2 n:Nat} {xs:List FV} {z z2:Bool} (hs:BF E.Γ L s=some (.vec b n 0 n)) (hb:hget H b=some (.vec e (cells l) n z))
 (hx:BF E.Γ L x=some (.vec b2 1 0 1)) (hb2:hget H b2=some (.vec e2 xs 1 z2)) (hxs:xs=Enc.enc a) (hn:l.length=n) (kM:E.P.underlying sT=some (.slice e)) (hxT:E.P.underlying xT=some xd) (hd:∀ k,xd≠.int k) (hi:E.P.info? e=some i)
 (hsz:Enc.size α=i.size) (hzs:Ew i=true) (h0:0<i.size) (hby:i.bytes<1000000) (hlen:l.length<1000000) {H':Vm.Heap} (hH:hput H b (.vec e (cells (l++[a])) (l.length+1) z)=H') (q:Q (.vec b (l.length+1) 0 (l.length+1)) H' nx) :
 Aa E true ⟨dst,.call { callee:=.builtin .append,args:=#[s,x],argTypes:=#[sT,xT] },ty,pos,af,gd⟩ L H nx Q:=by
 subst hH
 exact Aa.CX hs hb hx hb2 hxs hn kM hxT hd hi hsz hzs h0 hby hlen q
end
end Go.Vm
namespace Go.Proofs.YtnhdddmhkhdlhaaGreatDoor
open Go Go.Am Go.Vm Go.Pie
attribute [local irreducible] Aa Af Ak Ad Bv AQ BN AV AP Az Vm.Done Cb BH
attribute [local irreducible] Dc BZ EL ES Gj BK
theorem l7 (l:List Int) (hl:l.length<1000000):AQ env 50 [.lst 3 (cells l) l.length] (.p (.int .i64 (Nb l))):=by
 obtain ⟨E,hE⟩:∃ E,E=Ql l 0:=⟨_,rfl⟩
 unfold Nb
 rw [← hE]
 refine AQ.enter (Ar (by decide)) Tryz.func50 rfl (by kernel_rfl) (by simp [Tryz.ntmps50]) ?_
 by_cases c1:l.length<2
 ·rw [if_pos c1]
  repeat' (first|apply Ad.Aw|apply Ad.Aj|apply AV.ret|apply AP.ret|apply Ad.ret|apply Af.nil|apply Af.one|(apply Aa.assign;rfl)|(apply Aa.move;rfl)|(apply Aa.int;rfl;rfl;rfl)|(apply Aa.Bz;rfl;rfl)|(apply Ad.AX;rfl)|(intro _;try (exfalso;omega)))
  all_goals first|(exfalso;omega)|(refine Done.ret rfl (.refl _) (by exact PV.Ag rfl) Ap.nil (Nat.zero_le _) (Nat.le_refl _) ⟨?_,rfl,rfl⟩;try rfl)
 rw [if_neg c1]
 by_cases c2:l.length>201
 ·rw [if_pos c2]
  repeat' (first|apply Ad.Aw|apply Ad.Aj|apply AV.ret|apply AP.ret|apply Ad.ret|apply Af.nil|apply Af.one|(apply Aa.assign;rfl)|(apply Aa.move;rfl)|(apply Aa.int;rfl;rfl;rfl)|(apply Aa.Bz;rfl;rfl)|(apply Ad.AX;rfl)|(intro _;try (exfalso;omega)))
  all_goals first|(exfalso;omega)|(refine Done.ret rfl (.refl _) (by exact PV.Ag rfl) Ap.nil (Nat.zero_le _) (Nat.le_refl _) ⟨?_,rfl,rfl⟩;try rfl)
 rw [if_neg c2]
 repeat' (first|apply Ad.assoc|apply Ad.Aw|apply Ad.Aj|apply AV.normal|apply AP.normal|apply Ad.skip|apply Af.nil|apply Af.one|(apply Aa.assign;rfl)|(apply Aa.move;rfl)|(apply Aa.int;rfl;rfl;rfl)|(apply Aa.Bz;rfl;rfl)|(apply Ad.AX;rfl)|(intro _;try (exfalso;omega)))
 all_goals try (exfalso;omega)
 apply Ad.H8 (l.length) (fun k=>Ql l k=E) [(0,_),(2,_),(13,_),(14,_)] [] (fun k r=>(15,.p (.int .i64 (k:Int)))::r) (fun k r=>r) 0
 ·first|omega|decide
 ·first|omega|decide
 ·repeat (first|exact Ah.nil|(refine Ah.eq rfl ?_ ?_;(first|exact PV.Ag rfl|(simp [PV.under,Ba.under];done)))|refine Ah.cons trivial rfl (.of_eq (AL (by simp<;>omega))) ?_)
 ·repeat (first|exact Ap.nil|(refine Ap.eq rfl (Ac rfl) ?_ ?_;(first|exact HB.Ag rfl|exact Ba.Ai _ _|(simp [HB.under,Ba.under,PV.under];done)))|(refine Ap.cons (Ac rfl) ?_ rfl ?_ ?_;(first|exact trivial|exact Ba.Ai _ _|(simp [HB.under,Ba.under,PV.under]));(first|exact BG.refl _|exact BG.vec (Bo.refl _) (by simp))))
 ·first|(intro _ _;omega)|omega|trivial
 ·intro k hk hi
  have e:=Um hk
  have hk1:((k:Int)-1).toNat=k-1:=by omega
  have hkc:0<k→(k:Int)-1=((k-1:Nat):Int):=fun h=>by omega
  by_cases h1:gi l k<0∨gi l k>100000
  ·rw [if_pos h1] at e
   rw [← hi,e]
   repeat' (first|apply Ad.Aw|apply Ad.Aq|apply Ad.Aj|apply AV.ret|apply AP.ret|apply Az.ret|apply Ad.ret|apply Ad.IZ|apply Af.nil|apply Af.one|(apply Af.take;rfl;rfl)|(apply Af.drop;rfl;rfl;rfl)|(apply Af.guard;rfl;rfl)|(apply Aa.assign;rfl)|(apply Aa.move;rfl)|(apply Aa.int;rfl;rfl;rfl)|(apply Aa.AO;rfl;rfl;rfl;omega;rfl)|(apply Aa.load;rfl;rfl)|(apply Aa.AZ;rfl;rfl)|(apply Aa.AB;rfl;rfl)|(apply Ad.Ae;rfl)|(apply Ad.cond_true;rfl)|(apply Ad.AX;rfl)|(intro _;try (exfalso;omega)))
   all_goals first|(exfalso;omega)|(refine Done.ret rfl (.refl _) (by exact PV.Ag rfl) Ap.nil (Nat.zero_le _) (Nat.le_refl _) ⟨?_,rfl,rfl⟩;try rfl)
  rw [if_neg h1] at e
  by_cases h2:0<k∧gi l k≤gi l (k-1)
  ·rw [if_pos h2] at e
   rw [← hi,e]
   repeat' (first|apply Ad.Aw|apply Ad.Aq|apply Ad.Aj|apply AV.ret|apply AP.ret|apply Az.ret|apply Ad.ret|apply Ad.IZ|apply Af.nil|apply Af.one|(apply Af.take;rfl;rfl)|(apply Af.guard;rfl;rfl)|(apply Aa.AO (l:=l) (i:=k-1);rfl;exact congrArg (fun b=>some (PV.p (.int .i64 b))) (hkc h2.1);rfl;omega;rfl)|(apply Aa.assign;rfl)|(apply Aa.move;rfl)|(apply Aa.Dq;rfl;rfl;omega)|(apply Aa.int;rfl;rfl;rfl)|(apply Aa.AO;rfl;rfl;rfl;omega;rfl)|(apply Aa.load;rfl;rfl)|(apply Aa.AZ;rfl;rfl)|(apply Aa.AB;rfl;rfl)|(apply Ad.Ae;rfl)|(apply Ad.AX;rfl)|(intro _;try (exfalso;omega)))
   all_goals first|(exfalso;omega)|(refine Done.ret rfl (.refl _) (by exact PV.Ag rfl) Ap.nil (Nat.zero_le _) (Nat.le_refl _) ⟨?_,rfl,rfl⟩;try rfl)
  rw [if_neg h2] at e
  by_cases h0:k=0
  ·repeat' (first|apply Ad.Aw|apply Ad.region|apply Ad.Aq|apply Ad.Aj|apply AV.normal|apply AP.normal|apply Ad.skip|apply Ad.IZ|apply Af.nil|apply Af.one|(apply Af.take;rfl;rfl)|(apply Af.drop;rfl;rfl;rfl)|(apply Af.guard;rfl;rfl)|(apply Aa.assign;rfl)|(apply Aa.move;rfl)|(apply Aa.BD;rfl;rfl;omega)|(apply Aa.int;rfl;rfl;rfl)|(apply Aa.AO;rfl;rfl;rfl;omega;rfl)|(apply Aa.load;rfl;rfl)|(apply Aa.AB;rfl;rfl)|(apply Ad.Ae;rfl)|(apply Ad.cond_false;rfl)|(apply Ad.AX;rfl)|(intro _;try (exfalso;omega)))
   all_goals try (exfalso;omega)
   refine Az.normal ⟨(e.symm.trans hi),by first|omega|decide,?_,?_⟩
   ·repeat (first|exact Ah.nil|refine Ah.same (by exact PV.Ag rfl) rfl ?_|refine Ah.cons trivial rfl (.of_eq (AL (by simp<;>omega))) ?_)
   ·repeat (first|exact Ap.nil|(refine Ap.cons (Ac rfl) ?_ rfl ?_ ?_;(first|exact HB.Ag rfl|exact Ba.Ai _ _|(simp [HB.under,Ba.under,PV.under]));(first|exact BG.refl _|exact BG.vec (Bo.refl _) (by simp))))
  ·repeat' (first|apply Ad.Aw|apply Ad.region|apply Ad.Aq|apply Ad.Aj|apply AV.normal|apply AP.normal|apply Ad.skip|apply Ad.IZ|apply Af.nil|apply Af.one|(apply Af.take;rfl;rfl)|(apply Af.guard;rfl;rfl)|(apply Aa.AO (l:=l) (i:=k-1);rfl;exact congrArg (fun b=>some (PV.p (.int .i64 b))) (hkc (by omega));rfl;omega;rfl)|(apply Aa.assign;rfl)|(apply Aa.move;rfl)|(apply Aa.BD;rfl;rfl;omega)|(apply Aa.Dq;rfl;rfl;omega)|(apply Aa.int;rfl;rfl;rfl)|(apply Aa.AO;rfl;rfl;rfl;omega;rfl)|(apply Aa.load;rfl;rfl)|(apply Aa.AZ;rfl;rfl)|(apply Aa.AB;rfl;rfl)|(apply Ad.Ae;rfl)|(apply Ad.AX;rfl)|(intro _;try (exfalso;omega)))
   all_goals try (exfalso;omega)
   refine Az.normal ⟨(e.symm.trans hi),by first|omega|decide,?_,?_⟩
   ·repeat (first|exact Ah.nil|refine Ah.same (by exact PV.Ag rfl) rfl ?_|refine Ah.cons trivial rfl (.of_eq (AL (by simp<;>omega))) ?_)
   ·repeat (first|exact Ap.nil|(refine Ap.cons (Ac rfl) ?_ rfl ?_ ?_;(first|exact HB.Ag rfl|exact Ba.Ai _ _|(simp [HB.under,Ba.under,PV.under]));(first|exact BG.refl _|exact BG.vec (Bo.refl _) (by simp))))
 ·intro hi
  rw [aF] at hi
  rw [← hi]
  repeat' (first|apply Ad.Aw|apply Ad.Bj|apply AV.normal|apply AP.exit|apply Az.exit|apply Ad.ret|apply Af.nil|apply Af.one|(apply Aa.assign;rfl)|(apply Aa.int;rfl;rfl;rfl)|(apply Ad.Ae;rfl)|(intro _;try (exfalso;omega)))
  all_goals first|(exfalso;omega)|(refine Done.ret rfl (.refl _) (by exact PV.Ag rfl) Ap.nil (Nat.zero_le _) (Nat.le_refl _) ⟨?_,rfl,rfl⟩;try rfl)
theorem NR (p:DY) (h0:0<p.bars.length) (hl:p.bars.length<1000000):AQ env 53 [.agg (Enc.enc p)] (.EK [.p (.int .i64 (Ia p)),.p (.int .i64 (Iq p))]):=by
 have hkc:(p.bars.length:Int)-1=((p.bars.length-1:Nat):Int):=by omega
 unfold Ia Iq
 refine AQ.enter (Ar (by decide)) Tryz.func53 rfl (by kernel_rfl) (by simp [Tryz.ntmps53]) ?_
 repeat' (first|apply Ad.Aw|apply Ad.Bl|apply Ad.ret|apply Af.nil|apply Ak.nil|apply Af.one|(apply Ak.bar;decide +kernel)|apply Ak.quiet|(apply Aa.AO (l:=p.bars) (i:=p.bars.length-1);rfl;exact congrArg (fun b=>some (PV.p (.int .i64 b))) hkc;rfl;omega;rfl)|(apply Aa.AO (l:=p.bars) (i:=0);rfl;rfl;rfl;omega;rfl)|(apply Aa.assign;rfl)|(apply Aa.Dq;rfl;rfl;omega)|(apply Aa.load;rfl;rfl)|(apply Aa.Bz;rfl;rfl)|(apply Aa.AA;rfl;rfl;rfl)|(apply Aa.box;rfl;trivial))
 all_goals first|(exfalso;omega)|(refine Done.ret rfl (.refl _) (by exact PV.Ag rfl) Ap.nil (Nat.zero_le _) (Nat.le_refl _) ⟨?_,rfl,rfl⟩;try rfl)
abbrev UN (n:Fg):HB:=.box 66 ((Enc.enc n).map .p)
theorem x9 (f:FuncId) (n:Fg) (l:List Fg) (z:Bool) (P:Nat→Bool) (hl:l.length<1000000) (hM:∀ k,Et env f ([.p (.agg (Enc.enc (gi l k)))]++[.ref 0 0]) [(0,UN n)] 1 (.bool (P k))) :
 Et env 75 [.vec 1 l.length 0 l.length,.clo f [] [.ref 0 0]] [(0,UN n),(1,.vec 66 (cells l) l.length z)] 2 (.int .i64 (IY P l.length)):=by
 refine Et.enter (Ar (by decide)) Tryz.func75 rfl (by kernel_rfl) (by simp [Tryz.ntmps75]) ?_
 repeat' (first|apply Ad.assoc|apply Ad.Aw|apply Ad.Aj|apply Af.nil|apply Af.one|(apply Aa.assign;rfl)|(apply Aa.move;rfl)|(apply Aa.lenV;rfl;rfl;rfl))
 all_goals try (exfalso;omega)
 apply Ad.H8 (l.length) (fun k=>V8 P l.length (l.length-k)=IY P l.length) [(0,_),(1,_),(7,_)] [(0,_),(1,_)] (fun k r=>(8,.p (.int .i64 (k:Int)))::r) (fun k r=>r) 2
 ·first|omega|decide
 ·first|omega|decide
 ·repeat (first|exact Ah.nil|(refine Ah.eq rfl ?_ ?_;(first|exact PV.Ag rfl|(simp [PV.under,Ba.under];done)))|refine Ah.cons trivial rfl (.of_eq (AL (by simp<;>omega))) ?_)
 ·repeat (first|exact Ap.nil|(refine Ap.eq rfl (Ac rfl) ?_ ?_;(first|exact HB.Ag rfl|exact Ba.Ai _ _|(simp [HB.under,Ba.under,PV.under];done)))|(refine Ap.cons (Ac rfl) ?_ rfl ?_ ?_;(first|exact trivial|exact Ba.Ai _ _|(simp [HB.under,Ba.under,PV.under]));(first|exact BG.refl _|exact BG.vec (Bo.refl _) (by simp))))
 ·first|(intro _ _;omega)|omega|trivial
 ·intro k hk hi
  have hC:=hM k
  by_cases hp:P k=true
  ·rw [hp] at hC
   have e1:IY P l.length=(k:Int):=by rw [← hi,jF hk hp]
   rw [e1]
   repeat' (first|apply Ad.Aw|apply Ad.Aq|apply Ad.Aj|apply AV.ret|apply AP.ret|apply Az.ret|apply Ad.ret|apply Af.nil|apply Af.one|(apply Aa.read [0] hC;rfl;rfl;exact .of_eq rfl;exact Ba.Ag rfl;exact Dw rfl;(repeat (first|exact trivial|refine ⟨⟨_,rfl,.of_eq rfl⟩,?_⟩));decide;(intro _ hb;simp at hb<;>omega);rfl)|(apply Aa.assign;rfl)|(apply Aa.move;rfl)|(apply Aa.int;rfl;rfl;rfl)|(apply Aa.Kv;rfl;rfl;omega;rfl)|(apply Aa.EM;rfl;rfl;rfl;rfl;omega)|(apply Ad.Ae;rfl)|(apply Ad.cond_true;rfl)|(intro _;try (exfalso;omega)))
   all_goals first|(exfalso;omega)|contradiction|(refine Done.ret rfl (.refl _) trivial ?_ (by omega) (Nat.le_refl _) ⟨?_,rfl,rfl⟩;repeat (first|exact Ap.nil|(refine Ap.cons (Ac rfl) ?_ rfl ?_ ?_;(first|exact HB.Ag rfl|exact Ba.Ai _ _|(simp [HB.under,Ba.under,PV.under]));(first|exact BG.refl _|exact BG.vec (Bo.refl _) (by simp))));try rfl)
  ·have hp':P k=false:=by simpa using hp
   rw [hp'] at hC
   repeat' (first|apply Ad.Aw|apply Ad.region|apply Ad.Aq|apply Ad.Aj|apply AV.normal|apply AP.normal|apply Ad.skip|apply Af.nil|apply Af.one|(apply Aa.read [0] hC;rfl;rfl;exact .of_eq rfl;exact Ba.Ag rfl;exact Dw rfl;(repeat (first|exact trivial|refine ⟨⟨_,rfl,.of_eq rfl⟩,?_⟩));decide;(intro _ hb;simp at hb<;>omega);rfl)|(apply Aa.assign;rfl)|(apply Aa.move;rfl)|(apply Aa.BD;rfl;rfl;omega)|(apply Aa.int;rfl;rfl;rfl)|(apply Aa.Kv;rfl;rfl;omega;rfl)|(apply Aa.EM;rfl;rfl;rfl;rfl;omega)|(apply Ad.Ae;rfl)|(apply Ad.cond_false;rfl)|(intro _;try (exfalso;omega)))
   all_goals try (exfalso;omega)
   all_goals try contradiction
   refine Az.normal ⟨((Y8 hk hp').symm.trans hi),by first|omega|decide,?_,?_⟩
   ·repeat (first|exact Ah.nil|refine Ah.same (by exact PV.Ag rfl) rfl ?_|refine Ah.cons trivial rfl (.of_eq (AL (by simp<;>omega))) ?_)
   ·repeat (first|exact Ap.nil|(refine Ap.cons (Ac rfl) ?_ rfl ?_ ?_;(first|exact HB.Ag rfl|exact Ba.Ai _ _|(simp [HB.under,Ba.under,PV.under]));(first|exact BG.refl _|exact BG.vec (Bo.refl _) (by simp))))
 ·intro hi
  have e1:IY P l.length=-1:=by rw [← hi,Nat.sub_self];rfl
  rw [e1]
  repeat' (first|apply Ad.Aw|apply Ad.Bj|apply AV.normal|apply AP.exit|apply Az.exit|apply Ad.ret|apply Af.nil|apply Af.one|(apply Aa.assign;rfl)|(apply Aa.int;rfl;rfl;rfl)|(apply Ad.Ae;rfl)|(intro _;try (exfalso;omega)))
  all_goals first|(exfalso;omega)|(refine Done.ret rfl (.refl _) trivial ?_ (by omega) (Nat.le_refl _) ⟨?_,rfl,rfl⟩;repeat (first|exact Ap.nil|(refine Ap.cons (Ac rfl) ?_ rfl ?_ ?_;(first|exact HB.Ag rfl|exact Ba.Ai _ _|(simp [HB.under,Ba.under,PV.under]));(first|exact BG.refl _|exact BG.vec (Bo.refl _) (by simp))));try rfl)
theorem a1s (f:FuncId) (n:Fg) (l:List Fg) (e:TypeId) (P:Nat→Bool) (hl:l.length<1000000) (hM:∀ k,Et env f ([.p (.agg (Enc.enc (gi l k)))]++[.ref 0 0]) [(0,UN n)] 1 (.bool (P k))) :
 Et env 75 [.p (.lst e (cells l) l.length),.clo f [] [.ref 0 0]] [(0,UN n)] 1 (.int .i64 (IY P l.length)):=by
 refine Et.enter (Ar (by decide)) Tryz.func75 rfl (by kernel_rfl) (by simp [Tryz.ntmps75]) ?_
 repeat' (first|apply Ad.assoc|apply Ad.Aw|apply Ad.Aj|apply Af.nil|apply Af.one|(apply Aa.assign;rfl)|(apply Aa.move;rfl)|(apply Aa.Bz;rfl;rfl))
 all_goals try (exfalso;omega)
 apply Ad.H8 (l.length) (fun k=>V8 P l.length (l.length-k)=IY P l.length) [(0,_),(1,_),(7,_)] [(0,_)] (fun k r=>(8,.p (.int .i64 (k:Int)))::r) (fun k r=>r) 1
 ·first|omega|decide
 ·first|omega|decide
 ·repeat (first|exact Ah.nil|(refine Ah.eq rfl ?_ ?_;(first|exact PV.Ag rfl|(simp [PV.under,Ba.under];done)))|refine Ah.cons trivial rfl (.of_eq (AL (by simp<;>omega))) ?_)
 ·repeat (first|exact Ap.nil|(refine Ap.eq rfl (Ac rfl) ?_ ?_;(first|exact HB.Ag rfl|exact Ba.Ai _ _|(simp [HB.under,Ba.under,PV.under];done)))|(refine Ap.cons (Ac rfl) ?_ rfl ?_ ?_;(first|exact trivial|exact Ba.Ai _ _|(simp [HB.under,Ba.under,PV.under]));(first|exact BG.refl _|exact BG.vec (Bo.refl _) (by simp))))
 ·first|(intro _ _;omega)|omega|trivial
 ·intro k hk hi
  have hC:=hM k
  by_cases hp:P k=true
  ·rw [hp] at hC
   have e1:IY P l.length=(k:Int):=by rw [← hi,jF hk hp]
   rw [e1]
   repeat' (first|apply Ad.Aw|apply Ad.Aq|apply Ad.Aj|apply AV.ret|apply AP.ret|apply Az.ret|apply Ad.ret|apply Af.nil|apply Af.one|(apply Aa.read [0] hC;rfl;rfl;exact .of_eq rfl;exact Ba.Ag rfl;exact Dw rfl;(repeat (first|exact trivial|refine ⟨⟨_,rfl,.of_eq rfl⟩,?_⟩));decide;(intro _ hb;simp at hb<;>omega);rfl)|(apply Aa.assign;rfl)|(apply Aa.move;rfl)|(apply Aa.int;rfl;rfl;rfl)|(apply Aa.AO;rfl;rfl;rfl;omega;rfl)|(apply Aa.load;rfl;rfl)|(apply Ad.Ae;rfl)|(apply Ad.cond_true;rfl)|(intro _;try (exfalso;omega)))
   all_goals first|(exfalso;omega)|contradiction|(refine Done.ret rfl (.refl _) trivial ?_ (by omega) (Nat.le_refl _) ⟨?_,rfl,rfl⟩;repeat (first|exact Ap.nil|(refine Ap.cons (Ac rfl) ?_ rfl ?_ ?_;(first|exact HB.Ag rfl|exact Ba.Ai _ _|(simp [HB.under,Ba.under,PV.under]));(first|exact BG.refl _|exact BG.vec (Bo.refl _) (by simp))));try rfl)
  ·have hp':P k=false:=by simpa using hp
   rw [hp'] at hC
   repeat' (first|apply Ad.Aw|apply Ad.region|apply Ad.Aq|apply Ad.Aj|apply AV.normal|apply AP.normal|apply Ad.skip|apply Af.nil|apply Af.one|(apply Aa.read [0] hC;rfl;rfl;exact .of_eq rfl;exact Ba.Ag rfl;exact Dw rfl;(repeat (first|exact trivial|refine ⟨⟨_,rfl,.of_eq rfl⟩,?_⟩));decide;(intro _ hb;simp at hb<;>omega);rfl)|(apply Aa.assign;rfl)|(apply Aa.move;rfl)|(apply Aa.BD;rfl;rfl;omega)|(apply Aa.int;rfl;rfl;rfl)|(apply Aa.AO;rfl;rfl;rfl;omega;rfl)|(apply Aa.load;rfl;rfl)|(apply Ad.Ae;rfl)|(apply Ad.cond_false;rfl)|(intro _;try (exfalso;omega)))
   all_goals try (exfalso;omega)
   all_goals try contradiction
   refine Az.normal ⟨((Y8 hk hp').symm.trans hi),by first|omega|decide,?_,?_⟩
   ·repeat (first|exact Ah.nil|refine Ah.same (by exact PV.Ag rfl) rfl ?_|refine Ah.cons trivial rfl (.of_eq (AL (by simp<;>omega))) ?_)
   ·repeat (first|exact Ap.nil|(refine Ap.cons (Ac rfl) ?_ rfl ?_ ?_;(first|exact HB.Ag rfl|exact Ba.Ai _ _|(simp [HB.under,Ba.under,PV.under]));(first|exact BG.refl _|exact BG.vec (Bo.refl _) (by simp))))
 ·intro hi
  have e1:IY P l.length=-1:=by rw [← hi,Nat.sub_self];rfl
  rw [e1]
  repeat' (first|apply Ad.Aw|apply Ad.Bj|apply AV.normal|apply AP.exit|apply Az.exit|apply Ad.ret|apply Af.nil|apply Af.one|(apply Aa.assign;rfl)|(apply Aa.int;rfl;rfl;rfl)|(apply Ad.Ae;rfl)|(intro _;try (exfalso;omega)))
  all_goals first|(exfalso;omega)|(refine Done.ret rfl (.refl _) trivial ?_ (by omega) (Nat.le_refl _) ⟨?_,rfl,rfl⟩;repeat (first|exact Ap.nil|(refine Ap.cons (Ac rfl) ?_ rfl ?_ ?_;(first|exact HB.Ag rfl|exact Ba.Ai _ _|(simp [HB.under,Ba.under,PV.under]));(first|exact BG.refl _|exact BG.vec (Bo.refl _) (by simp))));try rfl)
theorem U6 {α:Type} [Inhabited α] (f:α→Bool) (l:List α):decide (0≤IY (fun k=>f (gi l k)) l.length)=l.any f:=by
 rw [Bool.eq_iff_iff,decide_eq_true_iff,List.any_eq_true]
 constructor
 ·intro h
  have h1:=bg (P:=fun k=>f (gi l k)) l.length (Nat.le_refl _) h
  have h2:=(jk (fun k=>f (gi l k)) l.length l.length (Nat.le_refl _)).2
  refine ⟨_,?_,h1⟩
  have h3:V8 (fun k=>f (gi l k)) l.length l.length=IY (fun k=>f (gi l k)) l.length:=rfl
  generalize V8 (fun k=>f (gi l k)) l.length l.length=u at *
  have h4:u.toNat<l.length:=by omega
  unfold gi
  rw [List.getElem?_eq_getElem h4]
  exact List.getElem_mem h4
 ·rintro ⟨x,hx,hf⟩
  obtain ⟨k,hk,rfl⟩:=List.mem_iff_getElem.1 hx
  refine aN (P:=fun k=>f (gi l k)) (k:=k) ?_ l.length (Nat.le_refl _) (by omega) hk
  unfold gi
  rw [List.getElem?_eq_getElem hk]
  exact hf
theorem iO (f:FuncId) (n:Fg) (l:List Fg) (z:Bool) (g:Fg→Bool) (hl:l.length<1000000) (hM:∀ m,Et env f ([.p (.agg (Enc.enc m))]++[.ref 0 0]) [(0,UN n)] 1 (.bool (g m))) :
 Et env 41 [.vec 1 l.length 0 l.length,.clo f [] [.ref 0 0]] [(0,UN n),(1,.vec 66 (cells l) l.length z)] 2 (.bool (l.any g)):=by
 have hi:=x9 f n l z (fun k=>g (gi l k)) hl (fun k=>hM _)
 rw [← U6 g l]
 generalize IY (fun k=>g (gi l k)) l.length=F at *
 refine Et.enter (Ar (by decide)) Tryz.func41 rfl (by kernel_rfl) (by simp [Tryz.ntmps41]) ?_
 repeat' (first|apply Ad.Aw|apply Ad.ret|apply Af.nil|apply Af.one|(apply Aa.read [0,1] hi;rfl;rfl;exact .of_eq rfl;exact Ba.Ag rfl;exact Dw rfl;(repeat (first|exact trivial|refine ⟨⟨_,rfl,.of_eq rfl⟩,?_⟩));decide;(intro _ hb;simp at hb<;>omega);rfl)|(apply Aa.assign;rfl)|(apply Aa.move;rfl)|(apply Aa.int;rfl;rfl;rfl))
 all_goals first|(exfalso;omega)|(refine Done.ret rfl (.refl _) trivial ?_ (by omega) (Nat.le_refl _) ⟨?_,rfl,rfl⟩;repeat (first|exact Ap.nil|(refine Ap.cons (Ac rfl) ?_ rfl ?_ ?_;(first|exact HB.Ag rfl|exact Ba.Ai _ _|(simp [HB.under,Ba.under,PV.under]));(first|exact BG.refl _|exact BG.vec (Bo.refl _) (by simp))));try rfl)
theorem zu (f:FuncId) (n:Fg) (l:List Fg) (e:TypeId) (g:Fg→Bool) (hl:l.length<1000000) (hM:∀ m,Et env f ([.p (.agg (Enc.enc m))]++[.ref 0 0]) [(0,UN n)] 1 (.bool (g m))) :
 Et env 41 [.p (.lst e (cells l) l.length),.clo f [] [.ref 0 0]] [(0,UN n)] 1 (.bool (l.any g)):=by
 have hi:=a1s f n l e (fun k=>g (gi l k)) hl (fun k=>hM _)
 rw [← U6 g l]
 generalize IY (fun k=>g (gi l k)) l.length=F at *
 refine Et.enter (Ar (by decide)) Tryz.func41 rfl (by kernel_rfl) (by simp [Tryz.ntmps41]) ?_
 repeat' (first|apply Ad.Aw|apply Ad.ret|apply Af.nil|apply Af.one|(apply Aa.read [0] hi;rfl;rfl;exact .of_eq rfl;exact Ba.Ag rfl;exact Dw rfl;(repeat (first|exact trivial|refine ⟨⟨_,rfl,.of_eq rfl⟩,?_⟩));decide;(intro _ hb;simp at hb<;>omega);rfl)|(apply Aa.assign;rfl)|(apply Aa.move;rfl)|(apply Aa.int;rfl;rfl;rfl))
 all_goals first|(exfalso;omega)|(refine Done.ret rfl (.refl _) trivial ?_ (by omega) (Nat.le_refl _) ⟨?_,rfl,rfl⟩;repeat (first|exact Ap.nil|(refine Ap.cons (Ac rfl) ?_ rfl ?_ ?_;(first|exact HB.Ag rfl|exact Ba.Ai _ _|(simp [HB.under,Ba.under,PV.under]));(first|exact BG.refl _|exact BG.vec (Bo.refl _) (by simp))));try rfl)
def clash (n m:Fg):Bool:=decide (n.s<m.e)&&decide (m.s<n.e)
theorem dF (n m:Fg):Et env 84 ([.p (.agg (Enc.enc m))]++[.ref 0 0]) [(0,UN n)] 1 (.bool (clash n m)):=by
 unfold clash
 refine Et.enter (Ar (by decide)) Tryz.func84 rfl (by kernel_rfl) (by simp [Tryz.ntmps84]) ?_
 by_cases h1:n.s<m.e
 ·rw [decide_eq_true h1,Bool.true_and]
  repeat' (first|apply Ad.Aw|apply Ad.ret|apply Af.nil|apply Af.one|(apply Af.take;rfl;rfl)|(apply Af.guard;rfl;rfl)|(apply Aa.assign;rfl)|(apply Aa.move;rfl)|(apply Aa.int;rfl;rfl;rfl)|(apply Aa.load;rfl;rfl)|(apply Aa.AZ;rfl;rfl)|(apply Aa.AA;rfl;rfl;rfl)|(apply Aa.box;rfl;trivial)|(intro _;try (exfalso;omega)))
  all_goals first|(exfalso;omega)|contradiction|(refine Done.ret rfl (.refl _) trivial ?_ (by omega) (Nat.le_refl _) ⟨?_,rfl,rfl⟩;repeat (first|exact Ap.nil|(refine Ap.cons (Ac rfl) ?_ rfl ?_ ?_;(first|exact HB.Ag rfl|exact Ba.Ai _ _|(simp [HB.under,Ba.under,PV.under]));(first|exact BG.refl _|exact BG.vec (Bo.refl _) (by simp))));try rfl)
 ·rw [decide_eq_false h1,Bool.false_and]
  repeat' (first|apply Ad.Aw|apply Ad.ret|apply Af.nil|apply Af.one|(apply Af.drop;rfl;rfl;rfl)|(apply Af.guard;rfl;rfl)|(apply Aa.assign;rfl)|(apply Aa.move;rfl)|(apply Aa.int;rfl;rfl;rfl)|(apply Aa.load;rfl;rfl)|(apply Aa.AB;rfl;rfl)|(apply Aa.AA;rfl;rfl;rfl)|(apply Aa.box;rfl;trivial)|(intro _;try (exfalso;omega)))
  all_goals first|(exfalso;omega)|contradiction|(refine Done.ret rfl (.refl _) trivial ?_ (by omega) (Nat.le_refl _) ⟨?_,rfl,rfl⟩;repeat (first|exact Ap.nil|(refine Ap.cons (Ac rfl) ?_ rfl ?_ ?_;(first|exact HB.Ag rfl|exact Ba.Ai _ _|(simp [HB.under,Ba.under,PV.under]));(first|exact BG.refl _|exact BG.vec (Bo.refl _) (by simp))));try rfl)
end Go.Proofs.YtnhdddmhkhdlhaaGreatDoor
namespace Go.Proofs.YtnhdddmhkhdlhaaGreatDoor
open Go Go.Am Go.Vm Go.Pie
abbrev dI:=List ((Int×Int)×List Fg)
def Ku (n:Fg):Int×Int:=(n.d,n.k)
def kD (gs:dI) (n:Fg):dI:=FM gs (Ku n) ((EW gs (Ku n)).getD []++[n])
def MX (l:List Fg):Nat→dI
 |0=>[]
 |k+1=>kD (MX l k) (gi l k)
def WB (gs:dI) (i:Nat):List Fg:=((gs[i]?).map (·.2)).getD []
def Ou (s:Nat):dI→List ((Int×Int)×PV)
 |[]=>[]
 |x::gs=>(x.1,.vec s x.2.length 0 x.2.length)::Ou (s+1) gs
def tlG (gs:dI) (j:Nat):HB:=.vec 66 (cells (WB gs j)) (WB gs j).length true
theorem Si:∀ {s:Nat} {gs:dI} {a:Int×Int},EW (Ou s gs) a=(EW gs a).map fun l=>.vec (s+En gs a) l.length 0 l.length
 |s,[],a=>rfl
 |s,x::gs,a=>by
  unfold Ou EW En
  by_cases h:a=x.1
  ·simp only [if_pos h,Option.map_some,Nat.add_zero]
  ·simp only [if_neg h]
   rw [Si]
   congr 1
   funext l
   rw [show s+1+En gs a=s+(En gs a+1) by omega]
theorem Zr:∀ {s:Nat} {gs:dI} {a:Int×Int} {l:List Fg},FM (Ou s gs) a (.vec (s+En gs a) l.length 0 l.length)=Ou s (FM gs a l)
 |s,[],a,l=>rfl
 |s,x::gs,a,l=>by
  unfold Ou FM En
  by_cases h:a=x.1
  ·simp only [if_pos h,Nat.add_zero,Ou]
  ·simp only [if_neg h,Ou]
   rw [show s+(En gs a+1)=s+1+En gs a by omega,Zr]
theorem Nq:∀ {gs:dI} {a:Int×Int},WB gs (En gs a)=(EW gs a).getD []
 |[],a=>rfl
 |x::gs,a=>by
  unfold En EW
  by_cases h:a=x.1
  ·simp only [if_pos h];rfl
  ·simp only [if_neg h]
   exact Nq (gs:=gs)
theorem ZH:∀ {gs:dI} {a:Int×Int} {l:List Fg} {j:Nat},WB (FM gs a l) j=if j=En gs a then l else WB gs j
 |[],a,l,j=>by
  unfold FM En WB
  match j with
  |0=>rfl
  |j+1=>rfl
 |x::gs,a,l,j=>by
  unfold FM En
  by_cases h:a=x.1
  ·simp only [if_pos h]
   match j with
   |0=>rfl
   |j+1=>rfl
  ·simp only [if_neg h]
   match j with
   |0=>rfl
   |j+1 =>
    have:=ZH (gs:=gs) (a:=a) (l:=l) (j:=j)
    simp only [Nat.add_right_cancel_iff]
    exact this
theorem SX {α β:Type} [DecidableEq α]:∀ {es:List (α×β)} {a:α} {b:β},(FM es a b).length≤es.length+1
 |[],a,b=>by simp [FM]
 |x::es,a,b=>by
  unfold FM
  split
  ·simp
  ·have:=SX (es:=es) (a:=a) (b:=b)
   simp only [List.length_cons];omega
theorem RS (l:List Fg):∀ k,(MX l k).length≤k
 |0=>Nat.le_refl _
 |k+1=>by
  have:=RS l k
  have:=SX (es:=MX l k) (a:=Ku (gi l k)) (b:=(EW (MX l k) (Ku (gi l k))).getD []++[gi l k])
  show (FM _ _ _).length≤_
  omega
theorem Xd {α β:Type} [DecidableEq α]:∀ {es:List (α×β)} {a c:α} {b:β},EW (FM es a b) c=if c=a then some b else EW es c
 |[],a,c,b=>rfl
 |x::es,a,c,b=>by
  unfold FM
  by_cases h:a=x.1
  ·rw [if_pos h]
   subst h
   unfold EW
   by_cases h2:c=x.1
   ·rw [if_pos h2,if_pos h2]
   ·rw [if_neg h2,if_neg h2,if_neg h2]
  ·rw [if_neg h]
   unfold EW
   by_cases h2:c=x.1
   ·rw [if_pos h2,if_pos h2,if_neg (fun e=>h (by rw [← e,h2]))]
   ·rw [if_neg h2,if_neg h2,Xd]
theorem RU (l:List Fg) (c:Int×Int):∀ k,k≤l.length→(EW (MX l k) c).getD []=(l.take k).filter fun m=>decide (Ku m=c)
 |0,_=>rfl
 |k+1,hk=>by
  have ih:=RU l c k (by omega)
  have et:l.take (k+1)=l.take k++[gi l k]:=by
   rw [List.take_add_one]
   unfold gi
   rw [List.getElem?_eq_getElem (by omega:k<l.length)]
   rfl
  rw [et,List.filter_append,← ih]
  show (EW (FM _ _ _) c).getD []=_
  rw [Xd]
  by_cases h:c=Ku (gi l k)
  ·rw [if_pos h,← h,List.filter_cons,decide_eq_true h.symm]
   rfl
  ·rw [if_neg h,List.filter_cons,decide_eq_false (fun e=>h e.symm)]
   simp
theorem mX (l:List Fg) (n:Fg) (k:Nat) (hk:k≤l.length):((EW (MX l k) (Ku n)).getD []).any (clash n)=(l.take k).any fun m=>V9 m n:=by
 rw [RU l (Ku n) k hk,List.any_filter]
 congr 1
 funext m
 unfold clash V9 Ku
 by_cases h1:m.d=n.d<;>by_cases h2:m.k=n.k<;>by_cases h3:n.s<m.e<;>by_cases h4:m.s<n.e<;>simp [h1,h2,h3,h4]
def kfC (a:Int×Int):List FV:=[.int .i64 a.1,.int .i64 a.2]
def kvC (a:Int×Int):List Value:=[.int .i64 a.1,.int .i64 a.2]
theorem X8:IsKey Tryz.prog 184 kfC kvC:=by
 obtain ⟨fs,hu⟩:∃ fs,Tryz.prog.underlying 184=some (.struct fs):=⟨_,rfl⟩
 refine IsKey.of_struct hu (by kernel_rfl) (fun a=>rfl) (fun a b=>?_) (fun a=>?_)
 ·have hu2:some (TypeDesc.struct fs)=Tryz.prog.underlying 184:=hu.symm
  cases hu2
  show some (decide (a.1=b.1)&&(decide (a.2=b.2)&&true))=_
  obtain ⟨a1,a2⟩:=a
  obtain ⟨b1,b2⟩:=b
  by_cases h1:a1=b1<;>by_cases h2:a2=b2<;>simp [h1,h2]
 ·have hu2:some (TypeDesc.struct fs)=Tryz.prog.underlying 184:=hu.symm
  cases hu2
  rfl
theorem XB {k:Nat}:∀ {s:Nat} {gs:dI},s+gs.length≤k→Ba.under k ((Ou s gs).map (·.2))
 |s,[],_=>trivial
 |s,x::gs,h=>by
  simp only [List.length_cons] at h
  exact ⟨by show s<k;omega,XB (s:=s+1) (gs:=gs) (by omega)⟩
theorem dO {E:Env} {H:Heap} {nx s:Nat} {gs:dI} {a:Int×Int} {g:List Fg} {i:Nat} (hi:i=En gs a) (hgl:g=WB gs i) (hg:hget H (s+i)=some (.vec 66 (cells g) g.length true)):RJ E H nx (Ou s gs) a C9 (.vec (s+i) g.length 0 g.length):=by
 subst hi
 subst hgl
 have e:=Nq (gs:=gs) (a:=a)
 cases hl:EW gs a with
 |some l =>
  rw [hl] at e
  simp only [Option.getD_some] at e
  rw [e]
  exact .inl (by rw [Si,hl];rfl)
 |none =>
  rw [hl] at e
  simp only [Option.getD_none] at e
  rw [e] at hg ⊢
  exact RJ.zK (by rw [Si,hl];rfl) hg
theorem uV {s:Nat} {gs:dI} {n:Fg} {g:List Fg} {i:Nat} (hi:i=En gs (Ku n)) (hgl:g=WB gs i):FM (Ou s gs) (Ku n) (.vec (s+i) (g.length+1) 0 (g.length+1))=Ou s (kD gs n):=by
 subst hi
 subst hgl
 unfold kD
 rw [← Zr,Nq]
 simp
theorem yB {gs:dI} {n:Fg} {g:List Fg} {i:Nat} (hi:i=En gs (Ku n)) (hgl:g=WB gs i) (j:Nat):(if j=i then .vec 66 (cells (g++[n])) (g.length+1) true else tlG gs j)=tlG (kD gs n) j:=by
 subst hi
 subst hgl
 unfold tlG kD
 rw [ZH]
 by_cases h:j=En gs (Ku n)
 ·rw [if_pos h,if_pos h,Nq]
  simp
 ·rw [if_neg h,if_neg h]
end Go.Proofs.YtnhdddmhkhdlhaaGreatDoor
namespace Go.Proofs.YtnhdddmhkhdlhaaGreatDoor
open Go Go.Am Go.Vm Go.Pie
attribute [local irreducible] Aa Af Ak Ad Bv AQ BN AV AP Az Vm.Done Cb BH
attribute [local irreducible] Dc BZ EL ES Gj BK Dz
def vF (o:EN) (p:DY) (G:dI):Heap:=(2,Rj kfC (Ou 3 G))::(1,.box 45 ((Enc.enc p).map .p))::(0,.box 40 ((Enc.enc o).map .p))::Dz 3 1000 (tlG G)
theorem gy (o:EN) (p:DY) (hs:GH p) (h2:2≤p.bars.length) (ho:o.Au.length<1000000):AQ env 51 [.agg (Enc.enc o),.agg (Enc.enc p)] (.p (.int .i64 (if p.notes.length>1000 then 4 else FK o (Ia p) (Iq p) p.notes 0))):=by
 have b1:=hs.notes
 have hen:=NR p (by omega) hs.bars
 refine AQ.enter (Ar (by decide)) Tryz.func51 rfl (by kernel_rfl) (by simp [Tryz.ntmps51]) ?_
 by_cases c1:p.notes.length>1000
 ·rw [if_pos c1]
  repeat' (first|apply Ad.assoc|apply Ad.Aw|apply Ad.Bf|apply Af.nil|apply Af.one|(apply Aa.assign;rfl)|(apply Aa.int;rfl;rfl;rfl)|(apply Aa.load;rfl;rfl)|(apply Aa.Bz;rfl;rfl)|(apply Aa.AA;rfl;rfl;rfl)|(apply Aa.box;rfl;trivial)|(apply Ad.Ae;rfl)|(intro _;try (exfalso;omega)))
  all_goals first|(exfalso;omega)|(refine Done.ret rfl (.refl _) (by exact PV.Ag rfl) Ap.nil (Nat.zero_le _) (Nat.le_refl _) ⟨?_,rfl,rfl⟩;try rfl)
 rw [if_neg c1]
 obtain ⟨E,hE⟩:∃ E,E=FK o (Ia p) (Iq p) p.notes 0:=⟨_,rfl⟩
 rw [← hE]
 repeat' (first|apply Ad.assoc|apply Ad.Aw|apply Ad.Aq|apply Ad.Aj|apply Af.nil|apply Af.one|(apply Aa.fn;rfl;rfl;exact hen;intro _;rfl)|(apply Aa.sU)|(apply Aa.assign;rfl)|(apply Aa.move;rfl)|(apply Aa.int;rfl;rfl;rfl)|(apply Aa.load;rfl;rfl)|(apply Aa.Bz;rfl;rfl)|(apply Aa.AA;rfl;rfl;rfl)|(apply Aa.box;rfl;trivial)|(apply Aa.extract;rfl;rfl)|(apply Ad.Ae;rfl)|(intro _;try (exfalso;omega)))
 all_goals try (exfalso;omega)
 refine Ad.ghost (A8.yQ 66 1000 (UG (by decide) (UG (by decide) (UG (by decide) uJ)))) ?_
 apply Ad.H8 (p.notes.length) (fun k=>FK o (Ia p) (Iq p) p.notes k=E) [(2,_),(3,_),(5,_),(6,_),(7,_),(23,_),(24,_)] [] (fun k r=>(25,.p (.int .i64 (k:Int)))::r) (fun k _=>vF o p (MX p.notes k)) 1003
 ·first|omega|decide
 ·first|omega|decide
 ·repeat (first|exact Ah.nil|(refine Ah.eq rfl ?_ ?_;(first|exact PV.Ag rfl|(simp [PV.under,Ba.under];done)))|refine Ah.cons trivial rfl (.of_eq (AL (by simp<;>omega))) ?_)
 ·refine ⟨⟨Ac rfl,trivial,_,rfl,.refl _⟩,⟨Ac rfl,Ba.Ai _ _,_,rfl,.refl _⟩,⟨Ac rfl,Ba.Ai _ _,_,rfl,.refl _⟩,Ap.tail (fun j hj=>?_) (by omega) (fun j hj=>trivial)⟩
  refine Ej (by omega) (Ej (by omega) (Ej (by omega) ?_))
  exact Oa hj
 ·exact hE.symm
 ·intro k hk hi
  have e:=NW (o:=o) (a:=Ia p) (z:=Iq p) hk
  have hca:=mX p.notes (gi p.notes k) k (by omega)
  have hgl:=RS p.notes k
  have a2f:=RS p.notes (k+1)
  have hLk:=RU p.notes (Ku (gi p.notes k)) k (by omega)
  have hGs:kD (MX p.notes k) (gi p.notes k)=MX p.notes (k+1):=rfl
  unfold L6 at e
  generalize MX p.notes k=G at *
  obtain ⟨i,hii⟩:∃ i,i=En G (Ku (gi p.notes k)):=⟨_,rfl⟩
  obtain ⟨g,hg⟩:∃ g,g=WB G i:=⟨_,rfl⟩
  have hi1:i<1000:=by have:=(WL (es:=G) (a:=Ku (gi p.notes k))).1;omega
  have hgt:hget (vF o p G) (3+i)=some (.vec 66 (cells g) g.length true):=Ej (by omega) (Ej (by omega) (Ej (by omega) (by rw [Oa hi1,hg];rfl)))
  have hpt:∀ y,hput (vF o p G) (3+i) y=(2,Rj kfC (Ou 3 G))::(1,.box 45 ((Enc.enc p).map .p))::(0,.box 40 ((Enc.enc o).map .p))::Dz 3 1000 (fun j=>if j=i then y else tlG G j):=fun y=>Oi (by omega) (Oi (by omega) (Oi (by omega) (Xa hi1)))
  have hgg:g=(EW G (Ku (gi p.notes k))).getD []:=by rw [hg,hii,Nq]
  have hgn:g.length≤k:=by
   rw [hgg,hLk]
   exact Nat.le_trans (List.length_filter_le _ _) (by rw [List.length_take];omega)
  rw [← hgg] at hca
  have hcl:=iO 84 (gi p.notes k) g true (clash (gi p.notes k)) (by omega) (dF (gi p.notes k))
  rw [hca] at hcl
  by_cases h1:(gi p.notes k).d<0∨(gi p.notes k).d≥o.Au.length
  ·rw [if_pos h1,if_pos (by decide)] at e
   rw [← hi,e]
   repeat' (first|apply Ad.assoc|apply Ad.Aw|apply Ad.Aq|apply Ad.Bf|apply Ad.Aj|apply AV.ret|apply AP.ret|apply Az.ret|apply Af.nil|apply Af.one|(apply Af.take;rfl;rfl)|(apply Af.drop;rfl;rfl;rfl)|(apply Af.guard;rfl;rfl)|(apply Aa.assign;rfl)|(apply Aa.move;rfl)|(apply Aa.int;rfl;rfl;rfl)|(apply Aa.AO;rfl;rfl;rfl;omega;rfl)|(apply Aa.load;rfl;rfl)|(apply Aa.AZ;rfl;rfl)|(apply Aa.AB;rfl;rfl)|(apply Aa.Bz;rfl;rfl)|(apply Aa.AA;rfl;rfl;rfl)|(apply Aa.alloc;rfl)|(apply Aa.AY;rfl;rfl;rfl;trivial;rfl;rfl;exact Ac rfl;exact le_dec rfl)|(apply Ad.Bq;rfl)|(apply Ad.Ae;rfl)|(intro _;try (exfalso;omega)))
   all_goals first|(exfalso;omega)|(refine Done.ret rfl (.refl _) (by exact PV.Ag rfl) Ap.nil (Nat.zero_le _) (Nat.le_refl _) ⟨?_,rfl,rfl⟩;try rfl)
  rw [if_neg h1] at e
  by_cases h2:(gi p.notes k).k<(gi o.Au (gi p.notes k).d.toNat).lo∨(gi p.notes k).k>(gi o.Au (gi p.notes k).d.toNat).hi
  ·rw [if_pos h2,if_pos (by decide)] at e
   rw [← hi,e]
   repeat' (first|apply Ad.assoc|apply Ad.Aw|apply Ad.Aq|apply Ad.Aj|apply AV.ret|apply AP.ret|apply Az.ret|apply Ad.ret|apply Af.nil|apply Af.one|(apply Af.take;rfl;rfl)|(apply Af.drop;rfl;rfl;rfl)|(apply Af.guard;rfl;rfl)|(apply Aa.assign;rfl)|(apply Aa.move;rfl)|(apply Aa.int;rfl;rfl;rfl)|(apply Aa.AO;rfl;rfl;rfl;omega;rfl)|(apply Aa.Ih;rfl;rfl;rfl;omega;omega;rfl)|(apply Aa.load;rfl;rfl)|(apply Aa.AZ;rfl;rfl)|(apply Aa.AB;rfl;rfl)|(apply Aa.Bz;rfl;rfl)|(apply Aa.AA;rfl;rfl;rfl)|(apply Aa.Dk;rfl;rfl)|(apply Aa.alloc;rfl)|(apply Aa.AY;rfl;rfl;rfl;trivial;rfl;rfl;exact Ac rfl;exact le_dec rfl)|(apply Aa.build;rfl;rfl;rfl;rfl;rfl)|(apply Ad.Ae;rfl)|(apply Ad.cond_true;rfl)|(apply Ad.AX;rfl)|(intro _;try (exfalso;omega)))
   all_goals first|(exfalso;omega)|(refine Done.ret rfl (.refl _) (by exact PV.Ag rfl) Ap.nil (Nat.zero_le _) (Nat.le_refl _) ⟨?_,rfl,rfl⟩;try rfl)
  rw [if_neg h2] at e
  by_cases h3:(gi p.notes k).s<Ia p∨(gi p.notes k).e>Iq p
  ·rw [if_pos h3,if_pos (by decide)] at e
   rw [← hi,e]
   repeat' (first|apply Ad.assoc|apply Ad.Aw|apply Ad.Aq|apply Ad.Aj|apply AV.ret|apply AP.ret|apply Az.ret|apply Ad.ret|apply Af.nil|apply Af.one|(apply Af.take;rfl;rfl)|(apply Af.drop;rfl;rfl;rfl)|(apply Af.guard;rfl;rfl)|(apply Aa.assign;rfl)|(apply Aa.move;rfl)|(apply Aa.int;rfl;rfl;rfl)|(apply Aa.AO;rfl;rfl;rfl;omega;rfl)|(apply Aa.Ih;rfl;rfl;rfl;omega;omega;rfl)|(apply Aa.load;rfl;rfl)|(apply Aa.AZ;rfl;rfl)|(apply Aa.AB;rfl;rfl)|(apply Aa.Bz;rfl;rfl)|(apply Aa.AA;rfl;rfl;rfl)|(apply Aa.Dk;rfl;rfl)|(apply Aa.alloc;rfl)|(apply Aa.AY;rfl;rfl;rfl;trivial;rfl;rfl;exact Ac rfl;exact le_dec rfl)|(apply Aa.build;rfl;rfl;rfl;rfl;rfl)|(apply Ad.Ae;rfl)|(apply Ad.cond_true;rfl)|(apply Ad.AX;rfl)|(intro _;try (exfalso;omega)))
   all_goals first|(exfalso;omega)|(refine Done.ret rfl (.refl _) (by exact PV.Ag rfl) Ap.nil (Nat.zero_le _) (Nat.le_refl _) ⟨?_,rfl,rfl⟩;try rfl)
  rw [if_neg h3] at e
  by_cases h4:(gi p.notes k).s≥(gi p.notes k).e
  ·rw [if_pos h4,if_pos (by decide)] at e
   rw [← hi,e]
   repeat' (first|apply Ad.assoc|apply Ad.Aw|apply Ad.Aq|apply Ad.Aj|apply AV.ret|apply AP.ret|apply Az.ret|apply Ad.ret|apply Af.nil|apply Af.one|(apply Af.take;rfl;rfl)|(apply Af.guard;rfl;rfl)|(apply Aa.assign;rfl)|(apply Aa.move;rfl)|(apply Aa.int;rfl;rfl;rfl)|(apply Aa.AO;rfl;rfl;rfl;omega;rfl)|(apply Aa.Ih;rfl;rfl;rfl;omega;omega;rfl)|(apply Aa.load;rfl;rfl)|(apply Aa.AB;rfl;rfl)|(apply Aa.Bz;rfl;rfl)|(apply Aa.AA;rfl;rfl;rfl)|(apply Aa.Dk;rfl;rfl)|(apply Aa.alloc;rfl)|(apply Aa.AY;rfl;rfl;rfl;trivial;rfl;rfl;exact Ac rfl;exact le_dec rfl)|(apply Aa.build;rfl;rfl;rfl;rfl;rfl)|(apply Ad.Ae;rfl)|(apply Ad.AX;rfl)|(intro _;try (exfalso;omega)))
   all_goals first|(exfalso;omega)|(refine Done.ret rfl (.refl _) (by exact PV.Ag rfl) Ap.nil (Nat.zero_le _) (Nat.le_refl _) ⟨?_,rfl,rfl⟩;try rfl)
  rw [if_neg h4] at e
  by_cases h5:(p.notes.take k).any (fun m=>V9 m (gi p.notes k))=true
  ·rw [if_pos h5,if_pos (by decide)] at e
   rw [h5] at hcl
   rw [← hi,e]
   repeat' (first|apply Ad.assoc|apply Ad.Aw|apply Ad.Aq|apply Ad.Aj|apply AV.ret|apply AP.ret|apply Az.ret|apply Ad.ret|apply Af.nil|apply Af.one|(apply Af.take;rfl;rfl)|(apply Af.guard;rfl;rfl)|(apply Aa.iK (a:=Ku (gi p.notes k)) (z:=C9) X8;rfl;rfl;rfl;rfl;rfl;rfl;exact dO hii hg (by (repeat (first|exact hgt|(refine Gg (by omega) ?_)|(refine Ej (by omega) ?_)))))|(apply Aa.xI [1003,3+i] hcl;rfl;rfl;exact .of_eq rfl;exact Ba.Ag rfl;exact Dw rfl;exact ⟨rfl,(show hget _ (3+i)=some (HB.vec 66 (cells g) g.length true) from by (repeat (first|exact hgt|(refine Gg (by omega) ?_)|(refine Ej (by omega) ?_)))),trivial⟩;rfl;(simp;omega);(intro _ hb;simp at hb;omega))|(apply Aa.makeFunc;rfl;rfl)|(apply Aa.assign;rfl)|(apply Aa.move;rfl)|(apply Aa.int;rfl;rfl;rfl)|(apply Aa.AO;rfl;rfl;rfl;omega;rfl)|(apply Aa.Ih;rfl;rfl;rfl;omega;omega;rfl)|(apply Aa.load;rfl;rfl)|(apply Aa.AB;rfl;rfl)|(apply Aa.Bz;rfl;rfl)|(apply Aa.AA;rfl;rfl;rfl)|(apply Aa.Dk;rfl;rfl)|(apply Aa.alloc;rfl)|(apply Aa.AY;rfl;rfl;rfl;trivial;rfl;rfl;exact Ac rfl;exact le_dec rfl)|(apply Aa.build;rfl;rfl;rfl;rfl;rfl)|(apply Ad.Ae;rfl)|(apply Ad.cond_true;rfl)|(apply Ad.AX;rfl)|(intro _;try (exfalso;omega)))
   all_goals first|(exfalso;omega)|(refine Done.ret rfl (.refl _) (by exact PV.Ag rfl) Ap.nil (Nat.zero_le _) (Nat.le_refl _) ⟨?_,rfl,rfl⟩;try rfl)
  have h5:(p.notes.take k).any (fun m=>V9 m (gi p.notes k))=false:=by simpa using h5
  rw [h5,if_neg (by decide)] at e
  rw [h5] at hcl
  repeat' (first|apply Ad.assoc|apply Ad.Aw|apply Ad.region|apply Ad.Aq|apply Ad.Aj|apply AV.normal|apply AP.normal|apply Ad.skip|apply Af.nil|apply Af.one|(apply Af.take;rfl;rfl)|(apply Af.guard;rfl;rfl)|(apply Aa.iK (a:=Ku (gi p.notes k)) (z:=C9) X8;rfl;rfl;rfl;rfl;rfl;rfl;exact dO hii hg (by (repeat (first|exact hgt|(refine Gg (by omega) ?_)|(refine Ej (by omega) ?_)))))|(apply Aa.xI [1003,3+i] hcl;rfl;rfl;exact .of_eq rfl;exact Ba.Ag rfl;exact Dw rfl;exact ⟨rfl,(show hget _ (3+i)=some (HB.vec 66 (cells g) g.length true) from by (repeat (first|exact hgt|(refine Gg (by omega) ?_)|(refine Ej (by omega) ?_)))),trivial⟩;rfl;(simp;omega);(intro _ hb;simp at hb;omega))|(apply Aa.makeFunc;rfl;rfl)|(apply Aa.yu (a:=Ku (gi p.notes k)) (es:=Ou 3 G) (z:=C9) X8;rfl;rfl;rfl;rfl;rfl;rfl;exact dO hii hg (by (repeat (first|exact hgt|(refine Gg (by omega) ?_)|(refine Ej (by omega) ?_))));rfl)|(apply Aa.oK (l:=g) (a:=gi p.notes k);rfl;((repeat (first|exact hgt|(refine Gg (by omega) ?_)|(refine Ej (by omega) ?_))));rfl;rfl;rfl;rfl;rfl;rfl;(intro _ h;cases h);rfl;rfl;rfl;decide;decide;omega;((repeat (first|exact hpt _|(apply ZW;omega)|(apply Oi;omega)))))|(apply Aa.lJ (a:=Ku (gi p.notes k)) (es:=Ou 3 G) X8;rfl;rfl;rfl;rfl;rfl)|(apply Aa.assign;rfl)|(apply Aa.move;rfl)|(apply Aa.BD;rfl;rfl;omega)|(apply Aa.int;rfl;rfl;rfl)|(apply Aa.AO;rfl;rfl;rfl;omega;rfl)|(apply Aa.Ih;rfl;rfl;rfl;omega;omega;rfl)|(apply Aa.load;rfl;rfl)|(apply Aa.AB;rfl;rfl)|(apply Aa.Bz;rfl;rfl)|(apply Aa.AA;rfl;rfl;rfl)|(apply Aa.Dk;rfl;rfl)|(apply Aa.alloc;rfl)|(apply Aa.AY;rfl;rfl;rfl;trivial;rfl;rfl;exact Ac rfl;exact le_dec rfl)|(apply Aa.build;rfl;rfl;rfl;rfl;rfl)|(apply Aa.buildSlice;rfl;rfl;rfl;decide;rfl;rfl;rfl)|(apply Aa.extract;rfl;rfl)|(apply Ad.Ae;rfl)|(apply Ad.cond_false;rfl)|(apply Ad.AX;rfl)|(intro _;try (exfalso;omega)))
  all_goals try (exfalso;omega)
  refine Az.normal ⟨e.symm.trans hi,by first|omega|decide,?_,?_⟩
  ·repeat (first|exact Ah.nil|refine Ah.same (by exact PV.Ag rfl) rfl ?_|refine Ah.cons trivial rfl (.of_eq (AL (by simp<;>omega))) ?_)
  ·show Ap 1003 (vF o p (MX p.notes (k+1))) _
   rw [← hGs] at a2f ⊢
   refine ⟨⟨Ac rfl,XB (by omega),_,rfl,.of_eq (congrArg (Rj kfC) (uV hii hg))⟩,⟨Ac rfl,Ba.Ai _ _,_,rfl,.refl _⟩,⟨Ac rfl,Ba.Ai _ _,_,rfl,.refl _⟩,Ap.tail (fun j hj=>?_) (by omega) (fun j hj=>trivial)⟩
   repeat (first|(refine Gg (by omega) ?_)|(refine Ej (by omega) ?_))
   rw [Oa hj]
   exact congrArg some (yB hii hg j)
 ·intro hi
  rw [Vl] at hi
  rw [← hi]
  repeat' (first|apply Ad.Aw|apply Ad.Bj|apply AV.normal|apply AP.exit|apply Az.exit|apply Ad.ret|apply Af.nil|apply Af.one|(apply Aa.assign;rfl)|(apply Aa.int;rfl;rfl;rfl)|(apply Ad.Ae;rfl)|(intro _;try (exfalso;omega)))
  all_goals first|(exfalso;omega)|(refine Done.ret rfl (.refl _) (by exact PV.Ag rfl) Ap.nil (Nat.zero_le _) (Nat.le_refl _) ⟨?_,rfl,rfl⟩;try rfl)
end Go.Proofs.YtnhdddmhkhdlhaaGreatDoor
namespace Go.Proofs.YtnhdddmhkhdlhaaGreatDoor
open Go Go.Am Go.Vm Go.Pie
attribute [local irreducible] Aa Af Ak Ad Bv AQ BN AV AP Az Vm.Done Cb BH
attribute [local irreducible] Dc BZ EL ES Gj BK
theorem XK (o:EN) (ho:UJ o) (r:Rgs) (hr:r.Ok):AQ env 52 [.agg (Enc.enc o),.agg (Enc.enc r)] (.p (.int .i64 (Ot o r))):=by
 have r2:=ho.Au
 have r3:=ho.GN
 have c1:=hr.cp
 have c2:=hr.off
 have c3:=hr.len
 have hc:=MZ o ho.sm
 rw [ho.err] at hc
 refine AQ.enter (Ar (by decide)) Tryz.func52 rfl (by kernel_rfl) (by simp [Tryz.ntmps52]) ?_
 by_cases h1:r.stops.length=o.Au.length
 case neg =>
  rw [aS h1]
  repeat' (first|apply Ad.assoc|apply Ad.Aw|apply Ad.Aq|apply Ad.Bf|apply Af.nil|apply Af.one|(apply Aa.fn;rfl;rfl;exact hc;intro _;rfl)|(apply Aa.assign;rfl)|(apply Aa.move;rfl)|(apply Aa.int;rfl;rfl;rfl)|(apply Aa.load;rfl;rfl)|(apply Aa.Bz;rfl;rfl)|(apply Aa.AA;rfl;rfl;rfl)|(apply Aa.box;rfl;trivial)|(apply Ad.AU;rfl)|(apply Ad.Ae;rfl)|(intro _;try (exfalso;omega)))
  all_goals first|(exfalso;omega)|contradiction|(refine Done.ret rfl (.refl _) (by exact PV.Ag rfl) Ap.nil (Nat.zero_le _) (Nat.le_refl _) ⟨?_,rfl,rfl⟩;try rfl)
 by_cases h2:∀ i,i<r.stops.length→gi r.stops i / 2 ^ (gi o.Au i).stops.length=0
 case neg =>
  obtain ⟨i,hi⟩:=Classical.not_forall.1 h2
  obtain ⟨hi,h3⟩:=Classical.not_imp.1 hi
  rw [qF h1 hi h3]
  clear h2
  repeat' (first|apply Ad.assoc|apply Ad.Aw|apply Ad.Aq|apply Ad.Aj|apply Af.nil|apply Af.one|(apply Aa.fn;rfl;rfl;exact hc;intro _;rfl)|(apply Aa.assign;rfl)|(apply Aa.move;rfl)|(apply Aa.int;rfl;rfl;rfl)|(apply Aa.load;rfl;rfl)|(apply Aa.Bz;rfl;rfl)|(apply Aa.AA;rfl;rfl;rfl)|(apply Aa.box;rfl;trivial)|(apply Ad.AU;rfl)|(apply Ad.Ae;rfl)|(intro _;try (exfalso;omega)))
  all_goals try (exfalso;omega)
  all_goals try contradiction
  apply Ad.H8 (o.Au.length) (fun k=>∀ i,i<k→gi r.stops i / 2 ^ (gi o.Au i).stops.length=0) [(2,_),(3,_),(21,_),(22,_)] [(0,_),(1,_)] (fun k r=>(23,.p (.int .i64 (k:Int)))::r) (fun k r=>r) 2
  ·first|omega|decide
  ·first|omega|decide
  ·repeat (first|exact Ah.nil|(refine Ah.eq rfl ?_ ?_;(first|exact PV.Ag rfl|(simp [PV.under,Ba.under];done)))|refine Ah.cons trivial rfl (.of_eq (AL (by simp<;>omega))) ?_)
  ·repeat (first|exact Ap.nil|(refine Ap.eq rfl (Ac rfl) ?_ ?_;(first|exact HB.Ag rfl|exact Ba.Ai _ _|(simp [HB.under,Ba.under,PV.under];done)))|(refine Ap.cons (Ac rfl) ?_ rfl ?_ ?_;(first|exact trivial|exact Ba.Ai _ _|(simp [HB.under,Ba.under,PV.under]));(first|exact BG.refl _|exact BG.vec (Bo.refl _) (by simp))))
  ·first|(intro _ _;omega)|omega|trivial
  ·intro k hk hok
   have s3:=ho.stops k (by omega)
   have rk:=hr.stops k (by omega)
   by_cases hb:gi r.stops k / 2 ^ (gi o.Au k).stops.length=0
   ·repeat' (first|apply Ad.Aw|apply Ad.Bl|apply Ad.region|apply Ad.Aq|apply Ad.Aj|apply AV.normal|apply AP.normal|apply Ad.skip|apply Af.nil|apply Ak.nil|apply Af.one|(apply Ak.bar;decide +kernel)|apply Ak.quiet|(apply Aa.assign;rfl)|(apply Aa.move;rfl)|(apply Aa.BD;rfl;rfl;omega)|(apply Aa.int;rfl;rfl;rfl)|(apply Aa.AO;rfl;rfl;rfl;omega;rfl)|(apply Aa.load;rfl;rfl)|(apply Aa.Bz;rfl;rfl)|(apply Aa.AA;rfl;rfl;rfl)|(apply Aa.alloc;rfl)|(apply Aa.AY;rfl;rfl;rfl;trivial;rfl;rfl;exact Ac rfl;exact le_dec rfl)|(apply Aa.ZY;rfl;rfl;(simp only [IntKind.bits];omega))|(apply Ad.Ae;rfl)|(apply Ad.AX;rfl)|(intro _;try (exfalso;omega)))
    all_goals try (exfalso;omega)
    all_goals try contradiction
    refine Az.normal ⟨(all_succ hok hb),by first|omega|decide,?_,?_⟩
    ·repeat (first|exact Ah.nil|refine Ah.same (by exact PV.Ag rfl) rfl ?_|refine Ah.cons trivial rfl (.of_eq (AL (by simp<;>omega))) ?_)
    ·repeat (first|exact Ap.nil|(refine Ap.cons (Ac rfl) ?_ rfl ?_ ?_;(first|exact HB.Ag rfl|exact Ba.Ai _ _|(simp [HB.under,Ba.under,PV.under]));(first|exact BG.refl _|exact BG.vec (Bo.refl _) (by simp))))
   ·repeat' (first|apply Ad.Aw|apply Ad.Bl|apply Ad.Aq|apply Ad.Aj|apply AV.ret|apply AP.ret|apply Az.ret|apply Ad.ret|apply Af.nil|apply Ak.nil|apply Af.one|(apply Ak.bar;decide +kernel)|apply Ak.quiet|(apply Aa.assign;rfl)|(apply Aa.move;rfl)|(apply Aa.int;rfl;rfl;rfl)|(apply Aa.AO;rfl;rfl;rfl;omega;rfl)|(apply Aa.load;rfl;rfl)|(apply Aa.Bz;rfl;rfl)|(apply Aa.AA;rfl;rfl;rfl)|(apply Aa.alloc;rfl)|(apply Aa.AY;rfl;rfl;rfl;trivial;rfl;rfl;exact Ac rfl;exact le_dec rfl)|(apply Aa.ZY;rfl;rfl;(simp only [IntKind.bits];omega))|(apply Ad.Ae;rfl)|(apply Ad.AX;rfl)|(intro _;try (exfalso;omega)))
    all_goals first|(exfalso;omega)|contradiction|(refine Done.ret rfl (.refl _) (by exact PV.Ag rfl) Ap.nil (Nat.zero_le _) (Nat.le_refl _) ⟨?_,rfl,rfl⟩;try rfl)
  ·intro hok
   exact absurd (hok i (by omega)) h3
 rw [QO h1 h2]
 repeat' (first|apply Ad.assoc|apply Ad.Aw|apply Ad.Aq|apply Ad.Aj|apply Af.nil|apply Af.one|(apply Aa.fn;rfl;rfl;exact hc;intro _;rfl)|(apply Aa.assign;rfl)|(apply Aa.move;rfl)|(apply Aa.int;rfl;rfl;rfl)|(apply Aa.load;rfl;rfl)|(apply Aa.Bz;rfl;rfl)|(apply Aa.AA;rfl;rfl;rfl)|(apply Aa.box;rfl;trivial)|(apply Ad.AU;rfl)|(apply Ad.Ae;rfl)|(intro _;try (exfalso;omega)))
 all_goals try (exfalso;omega)
 all_goals try contradiction
 apply Ad.H8 (o.Au.length) (fun k=>∀ i,i<k→gi r.stops i / 2 ^ (gi o.Au i).stops.length=0) [(2,_),(3,_),(21,_),(22,_)] [(0,_),(1,_)] (fun k r=>(23,.p (.int .i64 (k:Int)))::r) (fun k r=>r) 2
 ·first|omega|decide
 ·first|omega|decide
 ·repeat (first|exact Ah.nil|(refine Ah.eq rfl ?_ ?_;(first|exact PV.Ag rfl|(simp [PV.under,Ba.under];done)))|refine Ah.cons trivial rfl (.of_eq (AL (by simp<;>omega))) ?_)
 ·repeat (first|exact Ap.nil|(refine Ap.eq rfl (Ac rfl) ?_ ?_;(first|exact HB.Ag rfl|exact Ba.Ai _ _|(simp [HB.under,Ba.under,PV.under];done)))|(refine Ap.cons (Ac rfl) ?_ rfl ?_ ?_;(first|exact trivial|exact Ba.Ai _ _|(simp [HB.under,Ba.under,PV.under]));(first|exact BG.refl _|exact BG.vec (Bo.refl _) (by simp))))
 ·first|(intro _ _;omega)|omega|trivial
 ·intro k hk hok
  have s3:=ho.stops k (by omega)
  have rk:=hr.stops k (by omega)
  have hb:=h2 k (by omega)
  repeat' (first|apply Ad.Aw|apply Ad.Bl|apply Ad.region|apply Ad.Aq|apply Ad.Aj|apply AV.normal|apply AP.normal|apply Ad.skip|apply Af.nil|apply Ak.nil|apply Af.one|(apply Ak.bar;decide +kernel)|apply Ak.quiet|(apply Aa.assign;rfl)|(apply Aa.move;rfl)|(apply Aa.BD;rfl;rfl;omega)|(apply Aa.int;rfl;rfl;rfl)|(apply Aa.AO;rfl;rfl;rfl;omega;rfl)|(apply Aa.load;rfl;rfl)|(apply Aa.Bz;rfl;rfl)|(apply Aa.AA;rfl;rfl;rfl)|(apply Aa.alloc;rfl)|(apply Aa.AY;rfl;rfl;rfl;trivial;rfl;rfl;exact Ac rfl;exact le_dec rfl)|(apply Aa.ZY;rfl;rfl;(simp only [IntKind.bits];omega))|(apply Ad.Ae;rfl)|(apply Ad.AX;rfl)|(intro _;try (exfalso;omega)))
  all_goals try (exfalso;omega)
  all_goals try contradiction
  refine Az.normal ⟨(fun j hj=>h2 j (by omega)),by first|omega|decide,?_,?_⟩
  ·repeat (first|exact Ah.nil|refine Ah.same (by exact PV.Ag rfl) rfl ?_|refine Ah.cons trivial rfl (.of_eq (AL (by simp<;>omega))) ?_)
  ·repeat (first|exact Ap.nil|(refine Ap.cons (Ac rfl) ?_ rfl ?_ ?_;(first|exact HB.Ag rfl|exact Ba.Ai _ _|(simp [HB.under,Ba.under,PV.under]));(first|exact BG.refl _|exact BG.vec (Bo.refl _) (by simp))))
 ·intro hok
  by_cases h4:r.cp / 2 ^ o.GN.length=0
  ·by_cases h5:r.off / 2 ^ o.Au.length=0
   ·rw [if_neg (by omega)]
    repeat' (first|apply Ad.assoc|apply Ad.Aw|apply Ad.Aq|apply Ad.Bj|apply AV.normal|apply AP.exit|apply Az.exit|apply Ad.ret|apply Af.nil|apply Af.one|(apply Af.take;rfl;rfl)|(apply Af.guard;rfl;rfl)|(apply Aa.assign;rfl)|(apply Aa.move;rfl)|(apply Aa.int;rfl;rfl;rfl)|(apply Aa.load;rfl;rfl)|(apply Aa.AB;rfl;rfl)|(apply Aa.Bz;rfl;rfl)|(apply Aa.AA;rfl;rfl;rfl)|(apply Aa.ZY;rfl;rfl;(simp only [IntKind.bits];omega))|(apply Ad.Ae;rfl)|(intro _;try (exfalso;omega)))
    all_goals first|(exfalso;omega)|contradiction|(refine Done.ret rfl (.refl _) (by exact PV.Ag rfl) Ap.nil (Nat.zero_le _) (Nat.le_refl _) ⟨?_,rfl,rfl⟩;try rfl)
   ·rw [if_pos (.inr h5)]
    repeat' (first|apply Ad.assoc|apply Ad.Aw|apply Ad.Bf|apply Ad.Bj|apply AV.normal|apply AP.exit|apply Az.exit|apply Af.nil|apply Af.one|(apply Af.take;rfl;rfl)|(apply Af.guard;rfl;rfl)|(apply Aa.assign;rfl)|(apply Aa.move;rfl)|(apply Aa.int;rfl;rfl;rfl)|(apply Aa.load;rfl;rfl)|(apply Aa.AB;rfl;rfl)|(apply Aa.Bz;rfl;rfl)|(apply Aa.AA;rfl;rfl;rfl)|(apply Aa.ZY;rfl;rfl;(simp only [IntKind.bits];omega))|(apply Ad.Ae;rfl)|(intro _;try (exfalso;omega)))
    all_goals first|(exfalso;omega)|contradiction|(refine Done.ret rfl (.refl _) (by exact PV.Ag rfl) Ap.nil (Nat.zero_le _) (Nat.le_refl _) ⟨?_,rfl,rfl⟩;try rfl)
  ·rw [if_pos (.inl h4)]
   repeat' (first|apply Ad.assoc|apply Ad.Aw|apply Ad.Bf|apply Ad.Bj|apply AV.normal|apply AP.exit|apply Az.exit|apply Af.nil|apply Af.one|(apply Af.drop;rfl;rfl;rfl)|(apply Af.guard;rfl;rfl)|(apply Aa.assign;rfl)|(apply Aa.move;rfl)|(apply Aa.int;rfl;rfl;rfl)|(apply Aa.load;rfl;rfl)|(apply Aa.AZ;rfl;rfl)|(apply Aa.Bz;rfl;rfl)|(apply Aa.AA;rfl;rfl;rfl)|(apply Aa.ZY;rfl;rfl;(simp only [IntKind.bits];omega))|(apply Ad.Bq;rfl)|(apply Ad.Ae;rfl)|(intro _;try (exfalso;omega)))
   all_goals first|(exfalso;omega)|contradiction|(refine Done.ret rfl (.refl _) (by exact PV.Ag rfl) Ap.nil (Nat.zero_le _) (Nat.le_refl _) ⟨?_,rfl,rfl⟩;try rfl)
theorem WO {l:List Int} (h:Nb l=0):2≤l.length:=by
 unfold Nb at h
 split at h
 ·exact absurd h (by decide)
 ·omega
theorem Ee (o:EN) (p:DY) (ho:Ic o) (hp:GH p):AQ env 16 [.agg (Enc.enc o),.agg (Enc.enc p)] (.p (.int .i64 (I9 o p))):=by
 have hc:=MZ o ho
 have hb:=l7 p.bars hp.bars
 have b3:=hp.sets
 unfold I9 IV
 refine AQ.enter (Ar (by decide)) Tryz.func16 rfl (by kernel_rfl) (by simp [Tryz.ntmps16]) ?_
 by_cases e1:Q5 o=0
 case neg =>
  rw [if_pos e1]
  repeat' (first|apply Ad.assoc|apply Ad.Aw|apply Ad.Bf|apply Af.nil|apply Af.one|(apply Aa.fn;rfl;rfl;exact hc;intro _;rfl)|(apply Aa.assign;rfl)|(apply Aa.move;rfl)|(apply Aa.int;rfl;rfl;rfl)|(apply Aa.load;rfl;rfl)|(apply Aa.box;rfl;trivial)|(apply Ad.Ae;rfl)|(intro _;try (exfalso;omega)))
  all_goals first|(exfalso;omega)|contradiction|(refine Done.ret rfl (.refl _) (by exact PV.Ag rfl) Ap.nil (Nat.zero_le _) (Nat.le_refl _) ⟨?_,rfl,rfl⟩;try rfl)
 rw [if_neg (fun h=>h e1)]
 rw [e1] at hc
 have k1:=yP ho e1
 have d1:=k1.Au
 by_cases e2:Nb p.bars=0
 case neg =>
  rw [if_pos e2]
  repeat' (first|apply Ad.assoc|apply Ad.Aw|apply Ad.Aq|apply Ad.Bf|apply Af.nil|apply Af.one|(apply Aa.fn;rfl;rfl;exact hc;intro _;rfl)|(apply Aa.fn;rfl;rfl;exact hb;intro _;rfl)|(apply Aa.assign;rfl)|(apply Aa.move;rfl)|(apply Aa.int;rfl;rfl;rfl)|(apply Aa.load;rfl;rfl)|(apply Aa.AA;rfl;rfl;rfl)|(apply Aa.box;rfl;trivial)|(apply Ad.AU;rfl)|(apply Ad.Ae;rfl)|(intro _;try (exfalso;omega)))
  all_goals first|(exfalso;omega)|contradiction|(refine Done.ret rfl (.refl _) (by exact PV.Ag rfl) Ap.nil (Nat.zero_le _) (Nat.le_refl _) ⟨?_,rfl,rfl⟩;try rfl)
 rw [if_neg (fun h=>h e2)]
 rw [e2] at hb
 have h2:=WO e2
 have hn:=gy o p hp h2 (by omega)
 by_cases e3:p.notes.length>1000
 ·rw [if_pos e3] at hn
  rw [if_pos e3]
  repeat' (first|apply Ad.assoc|apply Ad.Aw|apply Ad.Aq|apply Ad.Bf|apply Af.nil|apply Af.one|(apply Aa.fn;rfl;rfl;exact hc;intro _;rfl)|(apply Aa.fn;rfl;rfl;exact hb;intro _;rfl)|(apply Aa.fn;rfl;rfl;exact hn;intro _;rfl)|(apply Aa.assign;rfl)|(apply Aa.move;rfl)|(apply Aa.int;rfl;rfl;rfl)|(apply Aa.load;rfl;rfl)|(apply Aa.AA;rfl;rfl;rfl)|(apply Aa.box;rfl;trivial)|(apply Ad.Bq;rfl)|(apply Ad.AU;rfl))
  all_goals first|(exfalso;omega)|contradiction|(refine Done.ret rfl (.refl _) (by exact PV.Ag rfl) Ap.nil (Nat.zero_le _) (Nat.le_refl _) ⟨?_,rfl,rfl⟩;try rfl)
 rw [if_neg e3] at hn
 rw [if_neg e3]
 by_cases e4:FK o (Ia p) (Iq p) p.notes 0=0
 case neg =>
  rw [if_pos e4]
  repeat' (first|apply Ad.assoc|apply Ad.Aw|apply Ad.Aq|apply Ad.Bf|apply Af.nil|apply Af.one|(apply Aa.fn;rfl;rfl;exact hc;intro _;rfl)|(apply Aa.fn;rfl;rfl;exact hb;intro _;rfl)|(apply Aa.fn;rfl;rfl;exact hn;intro _;rfl)|(apply Aa.assign;rfl)|(apply Aa.move;rfl)|(apply Aa.int;rfl;rfl;rfl)|(apply Aa.load;rfl;rfl)|(apply Aa.AA;rfl;rfl;rfl)|(apply Aa.box;rfl;trivial)|(apply Ad.AU;rfl)|(apply Ad.Ae;rfl)|(intro _;try (exfalso;omega)))
  all_goals first|(exfalso;omega)|contradiction|(refine Done.ret rfl (.refl _) (by exact PV.Ag rfl) Ap.nil (Nat.zero_le _) (Nat.le_refl _) ⟨?_,rfl,rfl⟩;try rfl)
 rw [if_neg (fun h=>h e4)]
 rw [e4] at hn
 by_cases e5:p.sets.length>100
 ·rw [if_pos e5]
  repeat' (first|apply Ad.assoc|apply Ad.Aw|apply Ad.Aq|apply Ad.Bf|apply Af.nil|apply Af.one|(apply Aa.fn;rfl;rfl;exact hc;intro _;rfl)|(apply Aa.fn;rfl;rfl;exact hb;intro _;rfl)|(apply Aa.fn;rfl;rfl;exact hn;intro _;rfl)|(apply Aa.assign;rfl)|(apply Aa.move;rfl)|(apply Aa.int;rfl;rfl;rfl)|(apply Aa.load;rfl;rfl)|(apply Aa.Bz;rfl;rfl)|(apply Aa.AA;rfl;rfl;rfl)|(apply Aa.box;rfl;trivial)|(apply Ad.AU;rfl)|(apply Ad.Ae;rfl)|(intro _;try (exfalso;omega)))
  all_goals first|(exfalso;omega)|contradiction|(refine Done.ret rfl (.refl _) (by exact PV.Ag rfl) Ap.nil (Nat.zero_le _) (Nat.le_refl _) ⟨?_,rfl,rfl⟩;try rfl)
 rw [if_neg e5]
 have b1:=hp.bars
 obtain ⟨E,hE⟩:∃ E,E=JX o p.bars.length p.sets 0:=⟨_,rfl⟩
 rw [← hE]
 repeat' (first|apply Ad.assoc|apply Ad.Aw|apply Ad.Aq|apply Ad.Aj|apply Af.nil|apply Af.one|(apply Aa.fn;rfl;rfl;exact hc;intro _;rfl)|(apply Aa.fn;rfl;rfl;exact hb;intro _;rfl)|(apply Aa.fn;rfl;rfl;exact hn;intro _;rfl)|(apply Aa.assign;rfl)|(apply Aa.move;rfl)|(apply Aa.int;rfl;rfl;rfl)|(apply Aa.load;rfl;rfl)|(apply Aa.Bz;rfl;rfl)|(apply Aa.AA;rfl;rfl;rfl)|(apply Aa.box;rfl;trivial)|(apply Ad.AU;rfl)|(apply Ad.Ae;rfl)|(intro _;try (exfalso;omega)))
 all_goals try (exfalso;omega)
 all_goals try contradiction
 apply Ad.H8 (p.sets.length) (fun k=>JX o p.bars.length p.sets k=E) [(2,_),(3,_),(33,_),(34,_)] [(0,_),(1,_)] (fun k r=>(35,.p (.int .i64 (k:Int)))::r) (fun k r=>r) 2
 ·first|omega|decide
 ·first|omega|decide
 ·repeat (first|exact Ah.nil|(refine Ah.eq rfl ?_ ?_;(first|exact PV.Ag rfl|(simp [PV.under,Ba.under];done)))|refine Ah.cons trivial rfl (.of_eq (AL (by simp<;>omega))) ?_)
 ·repeat (first|exact Ap.nil|(refine Ap.eq rfl (Ac rfl) ?_ ?_;(first|exact HB.Ag rfl|exact Ba.Ai _ _|(simp [HB.under,Ba.under,PV.under];done)))|(refine Ap.cons (Ac rfl) ?_ rfl ?_ ?_;(first|exact trivial|exact Ba.Ai _ _|(simp [HB.under,Ba.under,PV.under]));(first|exact BG.refl _|exact BG.vec (Bo.refl _) (by simp))))
 ·first|(intro _ _;omega)|omega|trivial
 ·intro k hk hi
  have e:=P5 (o:=o) (nb:=p.bars.length) hk
  have hr:=XK o k1 (gi p.sets k).reg (hp.reg k hk)
  have hkc:0<k→(k:Int)-1=((k-1:Nat):Int):=fun h=>by omega
  unfold Ky at e
  by_cases h1:(gi p.sets k).bar<0∨(gi p.sets k).bar≥(p.bars.length:Int)-1
  ·rw [if_pos h1,if_pos (by decide)] at e
   rw [← hi,e]
   repeat' (first|apply Ad.Aw|apply Ad.Aq|apply Ad.Aj|apply AV.ret|apply AP.ret|apply Az.ret|apply Ad.ret|apply Af.nil|apply Af.one|(apply Af.take;rfl;rfl)|(apply Af.drop;rfl;rfl;rfl)|(apply Af.guard;rfl;rfl)|(apply Aa.assign;rfl)|(apply Aa.move;rfl)|(apply Aa.Dq;rfl;rfl;omega)|(apply Aa.int;rfl;rfl;rfl)|(apply Aa.AO;rfl;rfl;rfl;omega;rfl)|(apply Aa.load;rfl;rfl)|(apply Aa.AZ;rfl;rfl)|(apply Aa.AB;rfl;rfl)|(apply Aa.Bz;rfl;rfl)|(apply Aa.AA;rfl;rfl;rfl)|(apply Aa.alloc;rfl)|(apply Aa.AY;rfl;rfl;rfl;trivial;rfl;rfl;exact Ac rfl;exact le_dec rfl)|(apply Ad.Ae;rfl)|(apply Ad.cond_true;rfl)|(apply Ad.AX;rfl)|(intro _;try (exfalso;omega)))
   all_goals first|(exfalso;omega)|(refine Done.ret rfl (.refl _) (by exact PV.Ag rfl) Ap.nil (Nat.zero_le _) (Nat.le_refl _) ⟨?_,rfl,rfl⟩;try rfl)
  rw [if_neg h1] at e
  by_cases h3:0<k∧(gi p.sets k).bar=(gi p.sets (k-1)).bar
  ·rw [if_pos h3,if_pos (by decide)] at e
   rw [← hi,e]
   repeat' (first|apply Ad.Aw|apply Ad.Bl|apply Ad.Aq|apply Ad.Aj|apply AV.ret|apply AP.ret|apply Az.ret|apply Ad.ret|apply Af.nil|apply Ak.nil|apply Af.one|(apply Ak.bar;decide +kernel)|(apply Af.take;rfl;rfl)|(apply Ak.Ea;rfl;rfl)|(apply Af.guard;rfl;rfl)|(apply Ak.guard;rfl;rfl)|(apply Aa.AO (l:=p.sets) (i:=k-1);rfl;exact congrArg (fun b=>some (PV.p (.int .i64 b))) (hkc h3.1);rfl;omega;rfl)|(apply Aa.assign;rfl)|(apply Aa.move;rfl)|(apply Aa.Dq;rfl;rfl;omega)|(apply Aa.int;rfl;rfl;rfl)|(apply Aa.AO;rfl;rfl;rfl;omega;rfl)|(apply Aa.load;rfl;rfl)|(apply Aa.AZ;rfl;rfl)|(apply Aa.AB;rfl;rfl)|(apply Aa.Bz;rfl;rfl)|(apply Aa.AA;rfl;rfl;rfl)|(apply Aa.Dk;rfl;rfl)|(apply Aa.alloc;rfl)|(apply Aa.AY;rfl;rfl;rfl;trivial;rfl;rfl;exact Ac rfl;exact le_dec rfl)|(apply Ad.Ae;rfl)|(apply Ad.AX;rfl)|(intro _;try (exfalso;omega)))
   all_goals first|(exfalso;omega)|(refine Done.ret rfl (.refl _) (by exact PV.Ag rfl) Ap.nil (Nat.zero_le _) (Nat.le_refl _) ⟨?_,rfl,rfl⟩;try rfl)
  rw [if_neg h3] at e
  by_cases h4:0<k∧(gi p.sets k).bar<(gi p.sets (k-1)).bar
  ·rw [if_pos h4,if_pos (by decide)] at e
   rw [← hi,e]
   repeat' (first|apply Ad.Aw|apply Ad.Bl|apply Ad.Aq|apply Ad.Aj|apply AV.ret|apply AP.ret|apply Az.ret|apply Ad.ret|apply Af.nil|apply Ak.nil|apply Af.one|(apply Ak.bar;decide +kernel)|(apply Af.take;rfl;rfl)|(apply Ak.Ea;rfl;rfl)|(apply Af.guard;rfl;rfl)|(apply Ak.guard;rfl;rfl)|(apply Aa.AO (l:=p.sets) (i:=k-1);rfl;exact congrArg (fun b=>some (PV.p (.int .i64 b))) (hkc h4.1);rfl;omega;rfl)|(apply Aa.assign;rfl)|(apply Aa.move;rfl)|(apply Aa.Dq;rfl;rfl;omega)|(apply Aa.int;rfl;rfl;rfl)|(apply Aa.AO;rfl;rfl;rfl;omega;rfl)|(apply Aa.load;rfl;rfl)|(apply Aa.AZ;rfl;rfl)|(apply Aa.AB;rfl;rfl)|(apply Aa.Bz;rfl;rfl)|(apply Aa.AA;rfl;rfl;rfl)|(apply Aa.Dk;rfl;rfl)|(apply Aa.alloc;rfl)|(apply Aa.AY;rfl;rfl;rfl;trivial;rfl;rfl;exact Ac rfl;exact le_dec rfl)|(apply Ad.Ae;rfl)|(apply Ad.AX;rfl)|(intro _;try (exfalso;omega)))
   all_goals first|(exfalso;omega)|(refine Done.ret rfl (.refl _) (by exact PV.Ag rfl) Ap.nil (Nat.zero_le _) (Nat.le_refl _) ⟨?_,rfl,rfl⟩;try rfl)
  rw [if_neg h4] at e
  by_cases h5:Ot o (gi p.sets k).reg=0
  case neg =>
   rw [if_pos h5] at e
   rw [← hi,e]
   by_cases h0:k=0
   ·repeat' (first|apply Ad.Aw|apply Ad.Bl|apply Ad.Aq|apply Ad.Aj|apply AV.normal|apply AV.ret|apply AP.normal|apply AP.ret|apply Az.ret|apply Ad.ret|apply Ad.skip|apply Af.nil|apply Ak.nil|apply Af.one|(apply Ak.bar;decide +kernel)|(apply Af.take;rfl;rfl)|(apply Ak.drop;rfl;rfl;rfl)|(apply Af.guard;rfl;rfl)|(apply Ak.guard;rfl;rfl)|(apply Aa.fn;rfl;rfl;exact hr;intro _;rfl)|(apply Aa.assign;rfl)|(apply Aa.move;rfl)|(apply Aa.Dq;rfl;rfl;omega)|(apply Aa.int;rfl;rfl;rfl)|(apply Aa.AO;rfl;rfl;rfl;omega;rfl)|(apply Aa.load;rfl;rfl)|(apply Aa.AB;rfl;rfl)|(apply Aa.Bz;rfl;rfl)|(apply Aa.AA;rfl;rfl;rfl)|(apply Aa.alloc;rfl)|(apply Aa.AY;rfl;rfl;rfl;trivial;rfl;rfl;exact Ac rfl;exact le_dec rfl)|(apply Ad.Ae;rfl)|(apply Ad.cond_false;rfl)|(apply Ad.AX;rfl)|(intro _;try (exfalso;omega)))
    all_goals first|(exfalso;omega)|contradiction|(refine Done.ret rfl (.refl _) (by exact PV.Ag rfl) Ap.nil (Nat.zero_le _) (Nat.le_refl _) ⟨?_,rfl,rfl⟩;try rfl)
   ·repeat' (first|apply Ad.Aw|apply Ad.Bl|apply Ad.Aq|apply Ad.Aj|apply AV.normal|apply AV.ret|apply AP.normal|apply AP.ret|apply Az.ret|apply Ad.ret|apply Ad.skip|apply Af.nil|apply Ak.nil|apply Af.one|(apply Ak.bar;decide +kernel)|(apply Af.take;rfl;rfl)|(apply Ak.Ea;rfl;rfl)|(apply Af.guard;rfl;rfl)|(apply Ak.guard;rfl;rfl)|(apply Aa.fn;rfl;rfl;exact hr;intro _;rfl)|(apply Aa.AO (l:=p.sets) (i:=k-1);rfl;exact congrArg (fun b=>some (PV.p (.int .i64 b))) (hkc (by omega));rfl;omega;rfl)|(apply Aa.assign;rfl)|(apply Aa.move;rfl)|(apply Aa.Dq;rfl;rfl;omega)|(apply Aa.int;rfl;rfl;rfl)|(apply Aa.AO;rfl;rfl;rfl;omega;rfl)|(apply Aa.load;rfl;rfl)|(apply Aa.AZ;rfl;rfl)|(apply Aa.AB;rfl;rfl)|(apply Aa.Bz;rfl;rfl)|(apply Aa.AA;rfl;rfl;rfl)|(apply Aa.Dk;rfl;rfl)|(apply Aa.alloc;rfl)|(apply Aa.AY;rfl;rfl;rfl;trivial;rfl;rfl;exact Ac rfl;exact le_dec rfl)|(apply Ad.Ae;rfl)|(apply Ad.AX;rfl)|(intro _;try (exfalso;omega)))
    all_goals first|(exfalso;omega)|contradiction|(refine Done.ret rfl (.refl _) (by exact PV.Ag rfl) Ap.nil (Nat.zero_le _) (Nat.le_refl _) ⟨?_,rfl,rfl⟩;try rfl)
  rw [if_neg (fun h=>h h5)] at e
  rw [h5] at hr
  by_cases h0:k=0
  ·repeat' (first|apply Ad.Aw|apply Ad.Bl|apply Ad.region|apply Ad.Aq|apply Ad.Aj|apply AV.normal|apply AP.normal|apply Ad.skip|apply Af.nil|apply Ak.nil|apply Af.one|(apply Ak.bar;decide +kernel)|(apply Af.take;rfl;rfl)|(apply Ak.drop;rfl;rfl;rfl)|(apply Af.guard;rfl;rfl)|(apply Ak.guard;rfl;rfl)|(apply Aa.fn;rfl;rfl;exact hr;intro _;rfl)|(apply Aa.assign;rfl)|(apply Aa.move;rfl)|(apply Aa.BD;rfl;rfl;omega)|(apply Aa.Dq;rfl;rfl;omega)|(apply Aa.int;rfl;rfl;rfl)|(apply Aa.AO;rfl;rfl;rfl;omega;rfl)|(apply Aa.load;rfl;rfl)|(apply Aa.AB;rfl;rfl)|(apply Aa.Bz;rfl;rfl)|(apply Aa.AA;rfl;rfl;rfl)|(apply Aa.alloc;rfl)|(apply Aa.AY;rfl;rfl;rfl;trivial;rfl;rfl;exact Ac rfl;exact le_dec rfl)|(apply Ad.Ae;rfl)|(apply Ad.cond_false;rfl)|(apply Ad.AX;rfl)|(intro _;try (exfalso;omega)))
   all_goals try (exfalso;omega)
   all_goals try contradiction
   refine Az.normal ⟨(e.symm.trans hi),by first|omega|decide,?_,?_⟩
   ·repeat (first|exact Ah.nil|refine Ah.same (by exact PV.Ag rfl) rfl ?_|refine Ah.cons trivial rfl (.of_eq (AL (by simp<;>omega))) ?_)
   ·repeat (first|exact Ap.nil|(refine Ap.cons (Ac rfl) ?_ rfl ?_ ?_;(first|exact HB.Ag rfl|exact Ba.Ai _ _|(simp [HB.under,Ba.under,PV.under]));(first|exact BG.refl _|exact BG.vec (Bo.refl _) (by simp))))
  ·repeat' (first|apply Ad.Aw|apply Ad.Bl|apply Ad.region|apply Ad.Aq|apply Ad.Aj|apply AV.normal|apply AP.normal|apply Ad.skip|apply Af.nil|apply Ak.nil|apply Af.one|(apply Ak.bar;decide +kernel)|(apply Af.take;rfl;rfl)|(apply Ak.Ea;rfl;rfl)|(apply Af.guard;rfl;rfl)|(apply Ak.guard;rfl;rfl)|(apply Aa.fn;rfl;rfl;exact hr;intro _;rfl)|(apply Aa.AO (l:=p.sets) (i:=k-1);rfl;exact congrArg (fun b=>some (PV.p (.int .i64 b))) (hkc (by omega));rfl;omega;rfl)|(apply Aa.assign;rfl)|(apply Aa.move;rfl)|(apply Aa.BD;rfl;rfl;omega)|(apply Aa.Dq;rfl;rfl;omega)|(apply Aa.int;rfl;rfl;rfl)|(apply Aa.AO;rfl;rfl;rfl;omega;rfl)|(apply Aa.load;rfl;rfl)|(apply Aa.AZ;rfl;rfl)|(apply Aa.AB;rfl;rfl)|(apply Aa.Bz;rfl;rfl)|(apply Aa.AA;rfl;rfl;rfl)|(apply Aa.Dk;rfl;rfl)|(apply Aa.alloc;rfl)|(apply Aa.AY;rfl;rfl;rfl;trivial;rfl;rfl;exact Ac rfl;exact le_dec rfl)|(apply Ad.Ae;rfl)|(apply Ad.cond_false;rfl)|(apply Ad.AX;rfl)|(intro _;try (exfalso;omega)))
   all_goals try (exfalso;omega)
   all_goals try contradiction
   refine Az.normal ⟨(e.symm.trans hi),by first|omega|decide,?_,?_⟩
   ·repeat (first|exact Ah.nil|refine Ah.same (by exact PV.Ag rfl) rfl ?_|refine Ah.cons trivial rfl (.of_eq (AL (by simp<;>omega))) ?_)
   ·repeat (first|exact Ap.nil|(refine Ap.cons (Ac rfl) ?_ rfl ?_ ?_;(first|exact HB.Ag rfl|exact Ba.Ai _ _|(simp [HB.under,Ba.under,PV.under]));(first|exact BG.refl _|exact BG.vec (Bo.refl _) (by simp))))
 ·intro hi
  rw [WS] at hi
  rw [← hi]
  repeat' (first|apply Ad.Aw|apply Ad.Bj|apply AV.normal|apply AP.exit|apply Az.exit|apply Ad.ret|apply Af.nil|apply Af.one|(apply Aa.assign;rfl)|(apply Aa.int;rfl;rfl;rfl)|(apply Ad.Ae;rfl)|(intro _;try (exfalso;omega)))
  all_goals first|(exfalso;omega)|(refine Done.ret rfl (.refl _) (by exact PV.Ag rfl) Ap.nil (Nat.zero_le _) (Nat.le_refl _) ⟨?_,rfl,rfl⟩;try rfl)
end Go.Proofs.YtnhdddmhkhdlhaaGreatDoor
namespace Go.Proofs.YtnhdddmhkhdlhaaGreatDoor
open Go Go.Am Go.Vm Go.Pie
attribute [local irreducible] Aa Af Ak Ad Bv AQ BN AV AP Az Vm.Done Cb BH
attribute [local irreducible] Dc BZ EL ES Gj BK
noncomputable def YH (o:EN) (p:DY) (t:Int):Int:=if I9 o p≠0 then I9 o p else if t<Ia p∨t≥Iq p then 3 else 0
theorem lX {o:EN} {p:DY} (h:I9 o p=0):2≤p.bars.length:=by
 unfold I9 IV at h
 split at h
 ·rename_i h1;exact absurd h h1
 split at h
 ·rename_i h1;exact absurd h h1
 rename_i h1
 exact WO (Decidable.byContradiction h1)
theorem Jw (o:EN) (p:DY) (ho:Ic o) (hp:GH p) (t:Int):AQ env 68 [.agg (Enc.enc o),.agg (Enc.enc p),.int .i64 t] (.p (.int .i64 (YH o p t))):=by
 have hc:=Ee o p ho hp
 unfold YH
 by_cases h1:I9 o p=0
 case neg =>
  rw [if_pos h1]
  refine AQ.enter (Ar (by decide)) Tryz.func68 rfl (by kernel_rfl) (by simp [Tryz.ntmps68]) ?_
  repeat' (first|apply Ad.assoc|apply Ad.Aw|apply Ad.Bf|apply Af.nil|apply Af.one|(apply Aa.fn;rfl;rfl;exact hc;intro _;rfl)|(apply Aa.assign;rfl)|(apply Aa.move;rfl)|(apply Aa.int;rfl;rfl;rfl)|(apply Aa.load;rfl;rfl)|(apply Aa.box;rfl;trivial)|(apply Ad.Ae;rfl)|(intro _;try (exfalso;omega)))
  all_goals first|(exfalso;omega)|contradiction|(refine Done.ret rfl (.refl _) (by exact PV.Ag rfl) Ap.nil (Nat.zero_le _) (Nat.le_refl _) ⟨?_,rfl,rfl⟩;try rfl)
 have hen:=NR p (by have:=lX h1;omega) hp.bars
 rw [if_neg (fun h=>h h1)]
 rw [h1] at hc
 by_cases h2:t<Ia p∨t≥Iq p
 ·rw [if_pos h2]
  refine AQ.enter (Ar (by decide)) Tryz.func68 rfl (by kernel_rfl) (by simp [Tryz.ntmps68]) ?_
  repeat' (first|apply Ad.assoc|apply Ad.Aw|apply Ad.Aq|apply Ad.Bf|apply Af.nil|apply Af.one|(apply Af.take;rfl;rfl)|(apply Af.drop;rfl;rfl;rfl)|(apply Af.guard;rfl;rfl)|(apply Aa.fn;rfl;rfl;exact hc;intro _;rfl)|(apply Aa.fn;rfl;rfl;exact hen;intro _;rfl)|(apply Aa.assign;rfl)|(apply Aa.move;rfl)|(apply Aa.int;rfl;rfl;rfl)|(apply Aa.load;rfl;rfl)|(apply Aa.AZ;rfl;rfl)|(apply Aa.AB;rfl;rfl)|(apply Aa.box;rfl;trivial)|(apply Aa.extract;rfl;rfl)|(apply Ad.Bq;rfl)|(apply Ad.AU;rfl)|(apply Ad.Ae;rfl)|(intro _;try (exfalso;omega)))
  all_goals first|(exfalso;omega)|contradiction|(refine Done.ret rfl (.refl _) (by exact PV.Ag rfl) Ap.nil (Nat.zero_le _) (Nat.le_refl _) ⟨?_,rfl,rfl⟩;try rfl)
 ·rw [if_neg h2]
  refine AQ.enter (Ar (by decide)) Tryz.func68 rfl (by kernel_rfl) (by simp [Tryz.ntmps68]) ?_
  repeat' (first|apply Ad.assoc|apply Ad.Aw|apply Ad.Aq|apply Ad.ret|apply Af.nil|apply Af.one|(apply Af.take;rfl;rfl)|(apply Af.guard;rfl;rfl)|(apply Aa.fn;rfl;rfl;exact hc;intro _;rfl)|(apply Aa.fn;rfl;rfl;exact hen;intro _;rfl)|(apply Aa.assign;rfl)|(apply Aa.move;rfl)|(apply Aa.int;rfl;rfl;rfl)|(apply Aa.load;rfl;rfl)|(apply Aa.AB;rfl;rfl)|(apply Aa.box;rfl;trivial)|(apply Aa.extract;rfl;rfl)|(apply Ad.AU;rfl)|(apply Ad.Ae;rfl)|(intro _;try (exfalso;omega)))
  all_goals first|(exfalso;omega)|contradiction|(refine Done.ret rfl (.refl _) (by exact PV.Ag rfl) Ap.nil (Nat.zero_le _) (Nat.le_refl _) ⟨?_,rfl,rfl⟩;try rfl)
theorem Xv {o:EN} {p:DY} (ho:Ic o) (h:GH p) (t:Int) (he:YH o p t≠0):AQ env 34 [.agg (Enc.enc o),.agg (Enc.enc p),.int .i64 t] (.EK [.p (.int .i64 0),.p (.int .i64 (YH o p t))]):=by
 have ha:=Jw o p ho h t
 refine AQ.enter (Ar (by decide)) Tryz.func34 rfl (by kernel_rfl) (by simp [Tryz.ntmps34]) ?_
 repeat' (first|apply Ad.assoc|apply Ad.Aw|apply Ad.Bf|apply Af.nil|apply Af.one|(apply Aa.fn;rfl;rfl;exact ha;intro _;rfl)|(apply Aa.assign;rfl)|(apply Aa.move;rfl)|(apply Aa.int;rfl;rfl;rfl)|(apply Aa.load;rfl;rfl)|(apply Aa.box;rfl;trivial)|(apply Ad.Ae;rfl)|(intro _;try (exfalso;omega)))
 all_goals first|(exfalso;omega)|contradiction|(refine Done.ret rfl (.refl _) (by exact PV.Ag rfl) Ap.nil (Nat.zero_le _) (Nat.le_refl _) ⟨?_,rfl,rfl⟩;try rfl)
end Go.Proofs.YtnhdddmhkhdlhaaGreatDoor
namespace Go.Proofs.YtnhdddmhkhdlhaaGreatDoor
open Go Go.Am Go.Vm
attribute [local irreducible] Aa Af Ak Ad Bv AQ BN AV AP Az Vm.Done Cb BH
def qQ (o:EN):Rgs:=⟨List.replicate o.Au.length 0,0,0⟩
theorem X7 (l:List Nat) (h0:0<l.length) (h1:l.length<1000000):BN env 87 [.lst 68 (cells l) l.length] 68 (cells l) l.length false:=by
 refine BN.enter (Ar (by decide)) Tryz.func87 rfl (by kernel_rfl) (by simp [Tryz.ntmps87]) ?_
 repeat' (first|apply Ad.assoc|apply Ad.Aw|apply Ad.Aq|apply Ad.ret|apply Af.nil|apply Af.one|(apply Aa.OT;rfl;rfl;rfl;exact h0)|(apply Aa.assign;rfl)|(apply Aa.move;rfl)|(apply Aa.buildSlice;rfl;rfl;rfl;decide;rfl;rfl;rfl)|(apply Aa.F8;rfl;rfl;rfl;(first|rfl|omega|(simp only [List.length_take,List.length_drop,List.length_append,List.length_singleton,List.length_cons,List.length_nil]<;>omega));rfl;rfl;(intro _ h;cases h);rfl;rfl;rfl;decide;decide;(first|omega|(simp only [List.length_take,List.length_drop,List.length_append,List.length_singleton,List.length_cons,List.length_nil]<;>omega)))|(apply Ad.AU;rfl))
 exact Cb.ret rfl rfl rfl rfl
def a0t (o:EN) (k:Nat):Nat:=2 ^ (gi o.Au k).stops.length-1
def a4y (o:EN):Rgs:=⟨zx (a0t o) (List.replicate o.Au.length 0) o.Au.length,2 ^ o.GN.length-1,0⟩
def a4o (r:Rgs) (d s:Nat):Rgs:=⟨r.stops.set d (gi r.stops d ||| 2 ^ s),r.cp,r.off⟩
def yX (a b:Rgs) (k:Nat):Nat:=gi a.stops k ||| gi b.stops k
def a3m (a b:Rgs):Rgs:=⟨zx (yX a b) a.stops a.stops.length,a.cp ||| b.cp,a.off ||| b.off⟩
end Go.Proofs.YtnhdddmhkhdlhaaGreatDoor
namespace Go.Proofs.YtnhdddmhkhdlhaaGreatDoor
open Go Go.Am Go.Vm Go.Pie
attribute [local irreducible] Aa Af Ak Ad Bv AQ BN AV AP Az Vm.Done Cb BH
attribute [local irreducible] Dc BZ EL ES Gj BK
def lI (p:DY) (t:Int) (i:Nat):Bool:=decide ((gi p.notes i).s≤t)&&decide (t<(gi p.notes i).e)
def P9 (p:DY) (t:Int):Nat→List Int
 |0=>[]
 |k+1=>if lI p t k=true then P9 p t k++[(k:Int)] else P9 p t k
def snd (p:DY) (t:Int):List Int:=P9 p t p.notes.length
theorem bI (p:DY) (t:Int):∀ k,(P9 p t k).length≤k
 |0=>Nat.le_refl _
 |k+1=>by
  have:=bI p t k
  unfold P9
  split
  ·simp;omega
  ·omega
theorem bH (p:DY) (hp:GH p) (t:Int):BN env 56 [.agg (Enc.enc p),.int .i64 t] 3 (cells (snd p t)) (snd p t).length true:=by
 refine BN.enter (Ar (by decide)) Tryz.func56 rfl (by kernel_rfl) (by simp [Tryz.ntmps56]) ?_
 have b1:=hp.notes
 repeat' (first|apply Ad.assoc|apply Ad.Aw|apply Ad.Aj|apply Af.nil|apply Af.one|(apply Aa.assign;rfl)|(apply Aa.move;rfl)|(apply Aa.load;rfl;rfl)|(apply Aa.Bz;rfl;rfl)|(apply Aa.AA;rfl;rfl;rfl)|(apply Aa.box;rfl;trivial))
 all_goals try (exfalso;omega)
 refine Ad.ghost (A8.adopt 5 3 rfl) ?_
 apply Ad.KU (p.notes.length) [(1,_),(9,_),(10,_)] [(0,_)] (fun k r=>(11,.p (.int .i64 (k:Int)))::(5,.vec 1 (P9 p t k).length 0 (P9 p t k).length)::r) (fun k r=>(1,.vec 3 (cells (P9 p t k)) (P9 p t k).length true)::r) 2
 ·first|omega|decide
 ·first|omega|decide
 ·repeat (first|exact Ah.nil|(refine Ah.eq rfl ?_ ?_;(first|exact PV.Ag rfl|(simp [PV.under,Ba.under];done)))|refine Ah.cons trivial rfl (.of_eq (AL (by simp<;>omega))) ?_)
 ·repeat (first|exact Ap.nil|(refine Ap.eq rfl (Ac rfl) ?_ ?_;(first|exact HB.Ag rfl|exact Ba.Ai _ _|(simp [HB.under,Ba.under,PV.under];done)))|(refine Ap.cons (Ac rfl) ?_ rfl ?_ ?_;(first|exact trivial|exact Ba.Ai _ _|(simp [HB.under,Ba.under,PV.under]));(first|exact BG.refl _|exact BG.vec (Bo.refl _) (by simp))))
 ·intro k hk
  have hl:=bI p t k
  have e1:P9 p t (k+1)=if lI p t k=true then P9 p t k++[(k:Int)] else P9 p t k:=rfl
  by_cases h1:(gi p.notes k).s≤t∧t<(gi p.notes k).e
  ·have hb:lI p t k=true:=by unfold lI;rw [decide_eq_true h1.1,decide_eq_true h1.2];rfl
   rw [if_pos hb] at e1
   have e2:(P9 p t (k+1)).length=(P9 p t k).length+1:=by rw [e1];simp
   repeat' (first|apply Ad.Aw|apply Ad.region|apply Ad.Aq|apply Ad.Aj|apply AV.normal|apply AP.normal|apply Af.nil|apply Af.one|(apply Af.take;rfl;rfl)|(apply Af.guard;rfl;rfl)|(apply Aa.CX (a:=(k:Int));rfl;rfl;rfl;rfl;rfl;rfl;rfl;rfl;(intro _ h;cases h);rfl;rfl;rfl;decide;decide;(first|omega|(simp only [List.length_take,List.length_drop,List.length_append,List.length_singleton,List.length_cons,List.length_nil]<;>omega)))|(apply Aa.assign;rfl)|(apply Aa.move;rfl)|(apply Aa.BD;rfl;rfl;omega)|(apply Aa.int;rfl;rfl;rfl)|(apply Aa.AO;rfl;rfl;rfl;omega;rfl)|(apply Aa.load;rfl;rfl)|(apply Aa.AZ;rfl;rfl)|(apply Aa.AA;rfl;rfl;rfl)|(apply Aa.alloc;rfl)|(apply Aa.AY;rfl;rfl;rfl;trivial;rfl;rfl;exact Ac rfl;exact le_dec rfl)|(apply Aa.buildSlice;rfl;rfl;rfl;decide;rfl;rfl;rfl)|(apply Ad.Ae;rfl)|(apply Ad.AX;rfl)|(intro _;try (exfalso;omega)))
   all_goals try (exfalso;omega)
   refine Az.normal ⟨by first|omega|decide,?_,?_⟩
   ·try (first|rw [e2,e1]|rw [e2])
    repeat (first|exact Ah.nil|refine Ah.same (by exact PV.Ag rfl) rfl ?_|refine Ah.cons trivial rfl (.of_eq (AL (by simp<;>omega))) ?_)
   ·first|rw [e2,e1]|rw [e2]
    repeat (first|exact Ap.nil|(refine Ap.cons (Ac rfl) ?_ rfl ?_ ?_;(first|exact HB.Ag rfl|exact Ba.Ai _ _|(simp [HB.under,Ba.under,PV.under]));(first|exact BG.refl _|exact BG.vec (Bo.refl _) (by simp))))
  ·have hb:¬ lI p t k=true:=by
    unfold lI
    intro h
    rw [Bool.and_eq_true,decide_eq_true_iff,decide_eq_true_iff] at h
    exact h1 h
   rw [if_neg hb] at e1
   repeat' (first|apply Ad.Aw|apply Ad.region|apply Ad.Aq|apply Ad.Aj|apply AV.normal|apply AP.normal|apply Ad.skip|apply Af.nil|apply Af.one|(apply Af.take;rfl;rfl)|(apply Af.drop;rfl;rfl;rfl)|(apply Af.guard;rfl;rfl)|(apply Aa.assign;rfl)|(apply Aa.move;rfl)|(apply Aa.BD;rfl;rfl;omega)|(apply Aa.int;rfl;rfl;rfl)|(apply Aa.AO;rfl;rfl;rfl;omega;rfl)|(apply Aa.load;rfl;rfl)|(apply Aa.AZ;rfl;rfl)|(apply Aa.AB;rfl;rfl)|(apply Aa.AA;rfl;rfl;rfl)|(apply Aa.alloc;rfl)|(apply Aa.AY;rfl;rfl;rfl;trivial;rfl;rfl;exact Ac rfl;exact le_dec rfl)|(apply Ad.Ae;rfl)|(apply Ad.cond_false;rfl)|(apply Ad.AX;rfl)|(intro _;try (exfalso;omega)))
   all_goals try (exfalso;omega)
   all_goals
    refine Az.normal ⟨by first|omega|decide,?_,?_⟩
    ·try (rw [e1])
     repeat (first|exact Ah.nil|refine Ah.same (by exact PV.Ag rfl) rfl ?_|refine Ah.cons trivial rfl (.of_eq (AL (by simp<;>omega))) ?_)
    ·rw [e1]
     repeat (first|exact Ap.nil|(refine Ap.cons (Ac rfl) ?_ rfl ?_ ?_;(first|exact HB.Ag rfl|exact Ba.Ai _ _|(simp [HB.under,Ba.under,PV.under]));(first|exact BG.refl _|exact BG.vec (Bo.refl _) (by simp))))
 ·repeat' (first|apply Ad.Aw|apply Ad.Bj|apply AV.normal|apply AP.exit|apply Az.exit|apply Ad.ret|apply Af.nil|apply Af.one|(apply Aa.assign;rfl)|(apply Aa.move;rfl)|(apply Aa.int;rfl;rfl;rfl)|(apply Ad.Ae;rfl)|(intro _;try (exfalso;omega)))
  all_goals first|(exfalso;omega)|exact Cb.ret rfl rfl rfl rfl
theorem Nr {o:EN} {p:DY} (ho:Ic o) (h:GH p) (t:Int) (he:YH o p t≠0):AQ env 35 [.agg (Enc.enc o),.agg (Enc.enc p),.int .i64 t] (.EK [.p (.val (.slice none 0 0)),.p (.int .i64 (YH o p t))]):=by
 have ha:=Jw o p ho h t
 refine AQ.enter (Ar (by decide)) Tryz.func35 rfl (by kernel_rfl) (by simp [Tryz.ntmps35]) ?_
 repeat' (first|apply Ad.assoc|apply Ad.Aw|apply Ad.Bf|apply Af.nil|apply Af.one|(apply Aa.fn;rfl;rfl;exact ha;intro _;rfl)|(apply Aa.assign;rfl)|(apply Aa.move;rfl)|(apply Aa.int;rfl;rfl;rfl)|(apply Aa.load;rfl;rfl)|(apply Aa.box;rfl;trivial)|(apply Ad.Ae;rfl)|(intro _;try (exfalso;omega)))
 all_goals first|(exfalso;omega)|contradiction|(refine Done.ret rfl (.refl _) (by exact PV.Ag rfl) Ap.nil (Nat.zero_le _) (Nat.le_refl _) ⟨?_,rfl,rfl⟩;try rfl)
def Vf (p:DY) (t:Int):Nat→Int
 |0=>-1
 |k+1=>if gi p.bars (gi p.sets k).bar.toNat≤t then (k:Int) else Vf p t k
def Md (p:DY) (t:Int):Int:=Vf p t p.sets.length
theorem Vh (p:DY) (t:Int):∀ k,-1≤Vf p t k∧Vf p t k<k
 |0=>by simp [Vf]
 |k+1=>by
  have:=Vh p t k
  unfold Vf
  split<;>omega
theorem SQ {o:EN} {p:DY} (h:Wn o p) (t:Int):AQ env 58 [.agg (Enc.enc p),.int .i64 t] (.p (.int .i64 (Md p t))):=by
 have b1:=h.sets
 have b2:=h.bars
 refine AQ.enter (Ar (by decide)) Tryz.func58 rfl (by kernel_rfl) (by simp [Tryz.ntmps58]) ?_
 repeat' (first|apply Ad.assoc|apply Ad.Aw|apply Ad.Aj|apply Af.nil|apply Af.one|(apply Aa.assign;rfl)|(apply Aa.move;rfl)|(apply Aa.load;rfl;rfl)|(apply Aa.Bz;rfl;rfl)|(apply Aa.AA;rfl;rfl;rfl)|(apply Aa.box;rfl;trivial))
 all_goals try (exfalso;omega)
 apply Ad.KU (p.sets.length) [(1,_),(2,_),(9,_),(10,_)] [(0,_)] (fun k r=>(11,.p (.int .i64 (k:Int)))::(5,.p (.int .i64 (Vf p t k)))::r) (fun k r=>r) 1
 ·first|omega|decide
 ·first|omega|decide
 ·repeat (first|exact Ah.nil|(refine Ah.eq rfl ?_ ?_;(first|exact PV.Ag rfl|(simp [PV.under,Ba.under];done)))|refine Ah.cons trivial rfl (.of_eq (AL (by simp<;>omega))) ?_)
 ·repeat (first|exact Ap.nil|(refine Ap.eq rfl (Ac rfl) ?_ ?_;(first|exact HB.Ag rfl|exact Ba.Ai _ _|(simp [HB.under,Ba.under,PV.under];done)))|(refine Ap.cons (Ac rfl) ?_ rfl ?_ ?_;(first|exact trivial|exact Ba.Ai _ _|(simp [HB.under,Ba.under,PV.under]));(first|exact BG.refl _|exact BG.vec (Bo.refl _) (by simp))))
 ·intro k hk
  obtain ⟨g1,g2,g3⟩:=h.set k hk
  have hb:(gi p.sets k).bar=((gi p.sets k).bar.toNat:Int):=by omega
  have e1:Vf p t (k+1)=if gi p.bars (gi p.sets k).bar.toNat≤t then (k:Int) else Vf p t k:=rfl
  by_cases h1:gi p.bars (gi p.sets k).bar.toNat≤t
  all_goals first|rw [if_pos h1] at e1|rw [if_neg h1] at e1
  all_goals
   repeat' (first|apply Ad.Aw|apply Ad.region|apply Ad.Aq|apply Ad.Aj|apply AV.normal|apply AP.normal|apply Ad.skip|apply Af.nil|apply Af.one|(apply Aa.AO (l:=p.bars) (i:=(gi p.sets k).bar.toNat);rfl;exact congrArg (fun b=>some (PV.p (.int .i64 b))) hb;rfl;omega;rfl)|(apply Aa.assign;rfl)|(apply Aa.move;rfl)|(apply Aa.BD;rfl;rfl;omega)|(apply Aa.int;rfl;rfl;rfl)|(apply Aa.AO;rfl;rfl;rfl;omega;rfl)|(apply Aa.load;rfl;rfl)|(apply Aa.AA;rfl;rfl;rfl)|(apply Aa.alloc;rfl)|(apply Aa.AY;rfl;rfl;rfl;trivial;rfl;rfl;exact Ac rfl;exact le_dec rfl)|(apply Ad.Ae;rfl)|(apply Ad.AX;rfl)|(intro _;try (exfalso;omega)))
  all_goals try (exfalso;omega)
  all_goals
   refine Az.normal ⟨by first|omega|decide,?_,?_⟩
   ·try (first|rw [e1]|skip)
    repeat (first|exact Ah.nil|refine Ah.same (by exact PV.Ag rfl) rfl ?_|refine Ah.cons trivial rfl (.of_eq (AL (by simp<;>omega))) ?_)
   ·first|rw [e1]|skip
    repeat (first|exact Ap.nil|(refine Ap.cons (Ac rfl) ?_ rfl ?_ ?_;(first|exact HB.Ag rfl|exact Ba.Ai _ _|(simp [HB.under,Ba.under,PV.under]));(first|exact BG.refl _|exact BG.vec (Bo.refl _) (by simp))))
 ·repeat' (first|apply Ad.Aw|apply Ad.Bj|apply AV.normal|apply AP.exit|apply Az.exit|apply Ad.ret|apply Af.nil|apply Af.one|(apply Aa.assign;rfl)|(apply Aa.move;rfl)|(apply Aa.int;rfl;rfl;rfl)|(apply Ad.Ae;rfl)|(intro _;try (exfalso;omega)))
  all_goals first|(exfalso;omega)|(refine Done.ret rfl (.refl _) (by exact PV.Ag rfl) Ap.nil (Nat.zero_le _) (Nat.le_refl _) ⟨?_,rfl,rfl⟩;try rfl)
theorem MP (r:Rgs) (h0:0<r.stops.length) (h1:r.stops.length<1000000):AQ env 59 [.agg (Enc.enc r)] (.p (.agg (Enc.enc r))):=by
 have hc:=X7 r.stops h0 h1
 refine AQ.enter (Ar (by decide)) Tryz.func59 rfl (by kernel_rfl) (by simp [Tryz.ntmps59]) ?_
 repeat' (first|(refine Af.JE 6 ?_;refine Af.ghost (A8.freeze 5 rfl rfl) ?_)|apply Ad.Aw|apply Ad.ret|apply Af.nil|apply Af.one|(apply Aa.fv;rfl;rfl;exact hc)|(apply Aa.load;rfl;rfl)|(apply Aa.AA;rfl;rfl;rfl)|(apply Aa.box;rfl;trivial)|(apply Aa.alloc;rfl)|(apply Aa.AY;rfl;rfl;rfl;trivial;rfl;rfl;exact Ac rfl;exact le_dec rfl))
 all_goals first|(exfalso;omega)|contradiction|(refine Done.ret rfl (.refl _) (by exact PV.Ag rfl) Ap.nil (Nat.zero_le _) (Nat.le_refl _) ⟨?_,rfl,rfl⟩;try rfl)
theorem dM (o:EN) (ho:UJ o):AQ env 70 [.agg (Enc.enc o)] (.EK [.p (.agg (Enc.enc (qQ o))),.p (.int .i64 0)]):=by
 have hc:=MZ o ho.sm
 rw [ho.err] at hc
 have r2:=ho.Au
 have hl:(List.replicate o.Au.length 0:List Nat).length=o.Au.length:=List.length_replicate
 have e:Enc.enc (qQ o)=[.lst 68 (cells (List.replicate o.Au.length (0:Nat))) o.Au.length,.int .u64 0,.int .u64 0]:=by
  show [FV.lst 68 (cells (List.replicate o.Au.length (0:Nat))) (List.replicate o.Au.length (0:Nat)).length,.int .u64 0,.int .u64 0]=_
  rw [hl]
 rw [e]
 refine AQ.enter (Ar (by decide)) Tryz.func70 rfl (by kernel_rfl) (by simp [Tryz.ntmps70]) ?_
 repeat' (first|(refine Af.JE 15 ?_;refine Af.ghost (A8.freeze 14 rfl rfl) ?_)|apply Ad.assoc|apply Ad.Aw|apply Ad.Aq|apply Ad.ret|apply Af.nil|apply Af.one|(apply Aa.fn;rfl;rfl;exact hc;intro _;rfl)|(apply Aa.JB o.Au.length (0:Nat);rfl;rfl;rfl;rfl;rfl;rfl;rfl;omega;decide;decide;rfl)|(apply Aa.assign;rfl)|(apply Aa.move;rfl)|(apply Aa.int;rfl;rfl;rfl)|(apply Aa.load;rfl;rfl)|(apply Aa.Bz;rfl;rfl)|(apply Aa.AA;rfl;rfl;rfl)|(apply Aa.box;rfl;trivial)|(apply Aa.alloc;rfl)|(apply Aa.AY;rfl;rfl;rfl;trivial;rfl;rfl;exact Ac rfl;exact le_dec rfl)|(apply Aa.build;rfl;rfl;rfl;rfl;rfl)|(apply Ad.AU;rfl))
 all_goals first|(exfalso;omega)|contradiction|(refine Done.ret rfl (.refl _) (by exact PV.Ag rfl) Ap.nil (Nat.zero_le _) (Nat.le_refl _) ⟨?_,rfl,rfl⟩;try rfl)
def wX (o:EN) (p:DY) (t:Int):Rgs:=if Md p t<0 then qQ o else (gi p.sets (Md p t).toNat).reg
theorem Xg {o:EN} {r:Rgs} (h:Ot o r=0):r.stops.length=o.Au.length:=Classical.byContradiction fun h1=>by rw [aS h1] at h;cases h
theorem Tn {o:EN} {p:DY} (ho:UJ o) (h:Wn o p) (t:Int) (he:YH o p t=0):AQ env 31 [.agg (Enc.enc o),.agg (Enc.enc p),.int .i64 t] (.EK [.p (.agg (Enc.enc (wX o p t))),.p (.int .i64 (Md p t)),.p (.int .i64 0)]):=by
 have ha:=Jw o p ho.sm h.sm t
 rw [he] at ha
 have hw:=SQ h t
 have hn:=dM o ho
 have hr:=Vh p t p.sets.length
 rw [show Vf p t p.sets.length=Md p t from rfl] at hr
 have hst:=h.set (Md p t).toNat
 have hsm:=h.sm.reg (Md p t).toNat
 unfold wX
 generalize Md p t=W at *
 have d1:=ho.Au
 by_cases h1:W<0
 ·obtain rfl:W=-1:=by omega
  rw [if_pos h1]
  refine AQ.enter (Ar (by decide)) Tryz.func31 rfl (by kernel_rfl) (by simp [Tryz.ntmps31]) ?_
  repeat' (first|apply Ad.assoc|apply Ad.Aw|apply Ad.Aq|apply Ad.Bf|apply Af.nil|apply Af.one|(apply Aa.fn;rfl;rfl;exact ha;intro _;rfl)|(apply Aa.fn;rfl;rfl;exact hw;intro _;rfl)|(apply Aa.fn;rfl;rfl;exact hn;intro _;rfl)|(apply Aa.assign;rfl)|(apply Aa.move;rfl)|(apply Aa.int;rfl;rfl;rfl)|(apply Aa.load;rfl;rfl)|(apply Aa.box;rfl;trivial)|(apply Aa.alloc;rfl)|(apply Aa.AY;rfl;rfl;rfl;trivial;rfl;rfl;exact Ac rfl;exact le_dec rfl)|(apply Aa.extract;rfl;rfl)|(apply Ad.Bq;rfl)|(apply Ad.AU;rfl))
  all_goals first|(exfalso;omega)|contradiction|(refine Done.ret rfl (.refl _) (by exact PV.Ag rfl) Ap.nil (Nat.zero_le _) (Nat.le_refl _) ⟨?_,rfl,rfl⟩;try rfl)
 ·rw [if_neg h1]
  obtain ⟨g1,g2,g3⟩:=hst (by omega)
  have hlen:=Xg g3
  have hc:=MP (gi p.sets W.toNat).reg (by omega) (by omega)
  have hb:W=(W.toNat:Int):=by omega
  refine AQ.enter (Ar (by decide)) Tryz.func31 rfl (by kernel_rfl) (by simp [Tryz.ntmps31]) ?_
  repeat' (first|apply Ad.assoc|apply Ad.Aw|apply Ad.Aq|apply Ad.ret|apply Af.nil|apply Af.one|(apply Aa.fn;rfl;rfl;exact ha;intro _;rfl)|(apply Aa.fn;rfl;rfl;exact hw;intro _;rfl)|(apply Aa.fn;rfl;rfl;exact hc;intro _;rfl)|(apply Aa.AO (l:=p.sets) (i:=W.toNat);rfl;exact congrArg (fun b=>some (PV.p (.int .i64 b))) hb;rfl;omega;rfl)|(apply Aa.assign;rfl)|(apply Aa.move;rfl)|(apply Aa.int;rfl;rfl;rfl)|(apply Aa.load;rfl;rfl)|(apply Aa.AA;rfl;rfl;rfl)|(apply Aa.Dk;rfl;rfl)|(apply Aa.box;rfl;trivial)|(apply Aa.alloc;rfl)|(apply Aa.AY;rfl;rfl;rfl;trivial;rfl;rfl;exact Ac rfl;exact le_dec rfl)|(apply Ad.AU;rfl)|(apply Ad.Ae;rfl)|(intro _;try (exfalso;omega)))
  all_goals first|(exfalso;omega)|contradiction|(refine Done.ret rfl (.refl _) (by exact PV.Ag rfl) Ap.nil (Nat.zero_le _) (Nat.le_refl _) ⟨?_,rfl,rfl⟩;try rfl)
theorem P6 {o:EN} {p:DY} (ho:Ic o) (h:GH p) (t:Int) (he:YH o p t≠0):AQ env 31 [.agg (Enc.enc o),.agg (Enc.enc p),.int .i64 t] (.EK [.p (.agg [.val (.slice none 0 0),.int .u64 0,.int .u64 0]),.p (.int .i64 0),.p (.int .i64 (YH o p t))]):=by
 have ha:=Jw o p ho h t
 refine AQ.enter (Ar (by decide)) Tryz.func31 rfl (by kernel_rfl) (by simp [Tryz.ntmps31]) ?_
 repeat' (first|apply Ad.assoc|apply Ad.Aw|apply Ad.Bf|apply Af.nil|apply Af.one|(apply Aa.fn;rfl;rfl;exact ha;intro _;rfl)|(apply Aa.assign;rfl)|(apply Aa.move;rfl)|(apply Aa.int;rfl;rfl;rfl)|(apply Aa.load;rfl;rfl)|(apply Aa.box;rfl;trivial)|(apply Aa.alloc;rfl)|(apply Aa.AY;rfl;rfl;rfl;trivial;rfl;rfl;exact Ac rfl;exact le_dec rfl)|(apply Aa.build;rfl;rfl;rfl;rfl;rfl)|(apply Ad.Ae;rfl)|(intro _;try (exfalso;omega)))
 all_goals first|(exfalso;omega)|contradiction|(refine Done.ret rfl (.refl _) (by exact PV.Ag rfl) Ap.nil (Nat.zero_le _) (Nat.le_refl _) ⟨?_,rfl,rfl⟩;try rfl)
end Go.Proofs.YtnhdddmhkhdlhaaGreatDoor
namespace Go.Proofs.YtnhdddmhkhdlhaaGreatDoor
open Go Go.Am Go.Vm Go.Pie
attribute [local irreducible] Aa Af Ak Ad Bv AQ BN AV AP Az Vm.Done Cb BH
attribute [local irreducible] Dc BZ EL ES Gj BK Dz
structure sW where
 st:Nat
 lg:Nat
 dv:Nat
 ky:Nat
instance:Enc sW:={ default:=⟨0,0,0,0⟩,enc:=fun x=>[.int .u8 (x.st:Int),.int .u8 (x.lg:Int),.int .u8 (x.dv:Int),.int .u8 (x.ky:Int)],size:=4,len:=fun _=>rfl }
structure nT where
 bar:Nat
 b:Nat→Nat
instance:Enc nT:={ default:=⟨0,fun _=>0⟩,enc:=fun x=>[.int .u8 (x.bar:Int),.int .u8 (x.b 0:Int),.int .u8 (x.b 1:Int),.int .u8 (x.b 2:Int),.int .u8 (x.b 3:Int),.int .u8 (x.b 4:Int)],size:=6,len:=fun _=>rfl }
structure Y9 where
 org:ni
 bars:List UInt8
 notes:List sW
 sets:List nT
def Y9.enc (x:Y9):List FV:=[.lst 166 (cells x.org.ranks) x.org.ranks.length,.lst 163 (cells x.org.Au) x.org.Au.length,.lst 171 (cells x.org.links) x.org.links.length,
 .lst 5 (cells x.bars) x.bars.length,.lst 106 (cells x.notes) x.notes.length,.lst 117 (cells x.sets) x.sets.length]
structure Y9.Ok (x:Y9):Prop where
 org:x.org.Ok
 nb:x.bars.length<9223372036854775808
 nn:x.notes.length<9223372036854775808
 ns:x.sets.length<9223372036854775808
 notes:∀ i,i<x.notes.length→(gi x.notes i).st<256∧(gi x.notes i).lg<256∧(gi x.notes i).dv<256∧(gi x.notes i).ky<256
 sets:∀ i,i<x.sets.length→(gi x.sets i).bar<256∧∀ j,(gi x.sets i).b j<256
def SA (x:Y9):Prop:=UH x.org∧(0<x.bars.length∧x.bars.length≤4)∧x.notes.length≤8∧x.sets.length≤3
noncomputable instance (x:Y9):Decidable (SA x):=Classical.propDecidable _
theorem fD (x:Y9) (hx:x.Ok):AQ env 12 [.agg x.enc] (.p (.bool (decide (SA x)))):=by
 have h1:=kX x.org hx.org
 have b1:=hx.nb
 have b2:=hx.nn
 have b3:=hx.ns
 by_cases c1:UH x.org
 ·rw [decide_eq_true c1] at h1
  by_cases c2:(0<x.bars.length∧x.bars.length≤4)∧x.notes.length≤8∧x.sets.length≤3
  ·rw [decide_eq_true (p:=SA x) ⟨c1,c2⟩]
   refine AQ.enter (Ar (by decide)) Tryz.func12 rfl (by kernel_rfl) (by simp [Tryz.ntmps12]) ?_
   repeat' (first|apply Ad.Aw|apply Ad.ret|apply Af.nil|apply Af.one|(apply Af.take;rfl;rfl)|(apply Af.guard;rfl;rfl)|(apply Aa.fn;rfl;rfl;exact h1;intro _;rfl)|(apply Aa.assign;rfl)|(apply Aa.move;rfl)|(apply Aa.int;rfl;rfl;rfl)|(apply Aa.load;rfl;rfl)|(apply Aa.AZ;rfl;rfl)|(apply Aa.Bz;rfl;rfl)|(apply Aa.AA;rfl;rfl;rfl)|(apply Aa.box;rfl;trivial)|(intro _;try (exfalso;omega)))
   all_goals first|(exfalso;omega)|contradiction|(refine Done.ret rfl (.refl _) (by exact PV.Ag rfl) Ap.nil (Nat.zero_le _) (Nat.le_refl _) ⟨?_,rfl,rfl⟩;try rfl)
   all_goals exact PV.Jf (by simp;omega)
  ·rw [decide_eq_false (p:=SA x) (fun h=>c2 h.2)]
   refine AQ.enter (Ar (by decide)) Tryz.func12 rfl (by kernel_rfl) (by simp [Tryz.ntmps12]) ?_
   repeat' (first|apply Ad.Aw|apply Ad.ret|apply Af.nil|apply Af.one|(apply Af.take;rfl;rfl)|(apply Af.drop;rfl;rfl;rfl)|(apply Af.guard;rfl;rfl)|(apply Aa.fn;rfl;rfl;exact h1;intro _;rfl)|(apply Aa.assign;rfl)|(apply Aa.move;rfl)|(apply Aa.int;rfl;rfl;rfl)|(apply Aa.load;rfl;rfl)|(apply Aa.AZ;rfl;rfl)|(apply Aa.AB;rfl;rfl)|(apply Aa.Bz;rfl;rfl)|(apply Aa.AA;rfl;rfl;rfl)|(apply Aa.box;rfl;trivial)|(intro _;try (exfalso;omega)))
   all_goals first|(exfalso;omega)|contradiction|(refine Done.ret rfl (.refl _) (by exact PV.Ag rfl) Ap.nil (Nat.zero_le _) (Nat.le_refl _) ⟨?_,rfl,rfl⟩;try rfl)
   all_goals exact PV.Jf (by simp;omega)
 ·rw [decide_eq_false c1] at h1
  rw [decide_eq_false (p:=SA x) (fun h=>c1 h.1)]
  refine AQ.enter (Ar (by decide)) Tryz.func12 rfl (by kernel_rfl) (by simp [Tryz.ntmps12]) ?_
  repeat' (first|apply Ad.Aw|apply Ad.ret|apply Af.nil|apply Af.one|(apply Af.drop;rfl;rfl;rfl)|(apply Aa.fn;rfl;rfl;exact h1;intro _;rfl)|(apply Aa.assign;rfl)|(apply Aa.move;rfl)|(apply Aa.load;rfl;rfl)|(apply Aa.AB;rfl;rfl)|(apply Aa.AA;rfl;rfl;rfl)|(apply Aa.box;rfl;trivial))
  all_goals first|(exfalso;omega)|contradiction|(refine Done.ret rfl (.refl _) (by exact PV.Ag rfl) Ap.nil (Nat.zero_le _) (Nat.le_refl _) ⟨?_,rfl,rfl⟩;try rfl)
def bM (l:List UInt8):Nat→Int
 |0=>0
 |i+1=>bM l i+1+((gi l i).toNat:Int) % 6
theorem Yp (l:List UInt8):∀ i:Nat,(i:Int)≤bM l i∧bM l i≤6*i
 |0=>by simp [bM]
 |i+1=>by
  have:=Yp l i
  unfold bM
  omega
def mY (o:EN) (z:Int) (y:sW):Fg :=
 ⟨(y.st:Int) % z,min z ((y.st:Int) % z+1+(y.lg:Int) % 8),(y.dv:Int) % (o.Au.length:Int),
  (gi o.Au ((y.dv:Int) % (o.Au.length:Int)).toNat).lo+(y.ky:Int) % ((gi o.Au ((y.dv:Int) % (o.Au.length:Int)).toNat).hi-(gi o.Au ((y.dv:Int) % (o.Au.length:Int)).toNat).lo+1)⟩
def Gt (o:EN) (z:Int) (l:List sW):Nat→List Fg
 |0=>[]
 |k+1=>if (Gt o z l k).any (fun m=>V9 m (mY o z (gi l k)))=true then Gt o z l k else Gt o z l k++[mY o z (gi l k)]
theorem PY (o:EN) (z:Int) (l:List sW):∀ k,(Gt o z l k).length≤k
 |0=>Nat.le_refl _
 |k+1=>by
  have:=PY o z l k
  unfold Gt
  split
  ·omega
  ·simp;omega
def Lp (nb:Nat) (l:List nT):Nat→Int
 |0=>-1
 |k+1=>if ((gi l k).bar:Int) % (nb:Int)>Lp nb l k then ((gi l k).bar:Int) % (nb:Int) else Lp nb l k
noncomputable def Hw (o:EN) (nb:Nat) (l:List nT):Nat→List IX
 |0=>[]
 |k+1=>if ((gi l k).bar:Int) % (nb:Int)>Lp nb l k then Hw o nb l k++[⟨((gi l k).bar:Int) % (nb:Int),Ny o (gi l k).b⟩] else Hw o nb l k
theorem Qd (o:EN) (nb:Nat) (l:List nT):∀ k,(Hw o nb l k).length≤k
 |0=>Nat.le_refl _
 |k+1=>by
  have:=Qd o nb l k
  unfold Hw
  split
  ·simp;omega
  ·omega
noncomputable def a0y (o:EN) (x:Y9):DY:=⟨CS (bM x.bars) (x.bars.length+1),Gt o (bM x.bars x.bars.length) x.notes x.notes.length,Hw o x.bars.length x.sets x.sets.length⟩
noncomputable def uf (x:Y9):DY:=a0y (Y4 x.org) x
theorem ZL (a b:Fg):AQ env 43 [.agg (Enc.enc a),.agg (Enc.enc b)] (.p (.bool (V9 a b))):=by
 unfold V9
 by_cases h1:a.d=b.d
 case neg =>
  rw [decide_eq_false h1,Bool.false_and]
  refine AQ.enter (Ar (by decide)) Tryz.func43 rfl (by kernel_rfl) (by simp [Tryz.ntmps43]) ?_
  repeat' (first|apply Ad.Aw|apply Ad.ret|apply Af.nil|apply Af.one|(apply Af.drop;rfl;rfl;rfl)|(apply Af.guard;rfl;rfl)|(apply Aa.assign;rfl)|(apply Aa.move;rfl)|(apply Aa.int;rfl;rfl;rfl)|(apply Aa.load;rfl;rfl)|(apply Aa.AB;rfl;rfl)|(apply Aa.AA;rfl;rfl;rfl)|(apply Aa.box;rfl;trivial)|(intro _;try (exfalso;omega)))
  all_goals first|(exfalso;omega)|contradiction|(refine Done.ret rfl (.refl _) (by exact PV.Ag rfl) Ap.nil (Nat.zero_le _) (Nat.le_refl _) ⟨?_,rfl,rfl⟩;try rfl)
 by_cases h2:a.k=b.k
 case neg =>
  rw [decide_eq_true h1,decide_eq_false h2,Bool.false_and,Bool.true_and]
  refine AQ.enter (Ar (by decide)) Tryz.func43 rfl (by kernel_rfl) (by simp [Tryz.ntmps43]) ?_
  repeat' (first|apply Ad.Aw|apply Ad.ret|apply Af.nil|apply Af.one|(apply Af.take;rfl;rfl)|(apply Af.drop;rfl;rfl;rfl)|(apply Af.guard;rfl;rfl)|(apply Aa.assign;rfl)|(apply Aa.move;rfl)|(apply Aa.int;rfl;rfl;rfl)|(apply Aa.load;rfl;rfl)|(apply Aa.AZ;rfl;rfl)|(apply Aa.AB;rfl;rfl)|(apply Aa.AA;rfl;rfl;rfl)|(apply Aa.box;rfl;trivial)|(intro _;try (exfalso;omega)))
  all_goals first|(exfalso;omega)|contradiction|(refine Done.ret rfl (.refl _) (by exact PV.Ag rfl) Ap.nil (Nat.zero_le _) (Nat.le_refl _) ⟨?_,rfl,rfl⟩;try rfl)
 by_cases h3:a.s<b.e
 case neg =>
  rw [decide_eq_true h1,decide_eq_true h2,decide_eq_false h3,Bool.false_and,Bool.true_and]
  refine AQ.enter (Ar (by decide)) Tryz.func43 rfl (by kernel_rfl) (by simp [Tryz.ntmps43]) ?_
  repeat' (first|apply Ad.Aw|apply Ad.ret|apply Af.nil|apply Af.one|(apply Af.take;rfl;rfl)|(apply Af.drop;rfl;rfl;rfl)|(apply Af.guard;rfl;rfl)|(apply Aa.assign;rfl)|(apply Aa.move;rfl)|(apply Aa.int;rfl;rfl;rfl)|(apply Aa.load;rfl;rfl)|(apply Aa.AZ;rfl;rfl)|(apply Aa.AB;rfl;rfl)|(apply Aa.AA;rfl;rfl;rfl)|(apply Aa.box;rfl;trivial)|(intro _;try (exfalso;omega)))
  all_goals first|(exfalso;omega)|contradiction|(refine Done.ret rfl (.refl _) (by exact PV.Ag rfl) Ap.nil (Nat.zero_le _) (Nat.le_refl _) ⟨?_,rfl,rfl⟩;try rfl)
 rw [decide_eq_true h1,decide_eq_true h2,decide_eq_true h3,Bool.true_and,Bool.true_and,Bool.true_and]
 refine AQ.enter (Ar (by decide)) Tryz.func43 rfl (by kernel_rfl) (by simp [Tryz.ntmps43]) ?_
 repeat' (first|apply Ad.Aw|apply Ad.ret|apply Af.nil|apply Af.one|(apply Af.take;rfl;rfl)|(apply Af.guard;rfl;rfl)|(apply Aa.assign;rfl)|(apply Aa.move;rfl)|(apply Aa.int;rfl;rfl;rfl)|(apply Aa.load;rfl;rfl)|(apply Aa.AZ;rfl;rfl)|(apply Aa.AA;rfl;rfl;rfl)|(apply Aa.box;rfl;trivial)|(intro _;try (exfalso;omega)))
 all_goals first|(exfalso;omega)|contradiction|(refine Done.ret rfl (.refl _) (by exact PV.Ag rfl) Ap.nil (Nat.zero_le _) (Nat.le_refl _) ⟨?_,rfl,rfl⟩;try rfl)
theorem dY (n m:Fg):Et env 42 ([.p (.agg (Enc.enc m))]++[.ref 0 0]) [(0,UN n)] 1 (.bool (V9 m n)):=by
 have h:=ZL m n
 refine Et.enter (Ar (by decide)) Tryz.func42 rfl (by kernel_rfl) (by simp [Tryz.ntmps42]) ?_
 repeat' (first|apply Ad.Aw|apply Ad.ret|apply Af.nil|apply Af.one|(apply Aa.fn;rfl;rfl;exact h;intro _;rfl)|(apply Aa.assign;rfl)|(apply Aa.load;rfl;rfl)|(apply Aa.box;rfl;trivial))
 all_goals first|(exfalso;omega)|(refine Done.ret rfl (.refl _) trivial ?_ (by omega) (Nat.le_refl _) ⟨?_,rfl,rfl⟩;repeat (first|exact Ap.nil|(refine Ap.cons (Ac rfl) ?_ rfl ?_ ?_;(first|exact HB.Ag rfl|exact Ba.Ai _ _|(simp [HB.under,Ba.under,PV.under]));(first|exact BG.refl _|exact BG.vec (Bo.refl _) (by simp))));try rfl)
theorem aI (x:Y9) (hx:x.Ok) (hf:SA x):AQ env 13 [.agg x.enc] (.EK [.p (.agg (Enc.enc (Y4 x.org))),.p (.agg (Enc.enc (uf x)))]):=by
 obtain ⟨f1,f2,f3,f4⟩:=hf
 have hm:=aC x.org hx.org f1
 have hT:=oH x.org hx.org f1
 have hdr:=fun i (hi:i<x.sets.length)=>dA (Y4 x.org) hT (gi x.sets i).b (hx.sets i hi).2
 have hbr:=Yp x.bars
 unfold uf a0y
 generalize Y4 x.org=o at *
 have d1:=hT.Au
 have hsl:(CS (bM x.bars) (x.bars.length+1)).length=x.bars.length+1:=FC _ _
 refine AQ.enter (Ar (by decide)) Tryz.func13 rfl (by kernel_rfl) (by simp [Tryz.ntmps13]) ?_
 repeat' (first|apply Ad.assoc|apply Ad.Aw|apply Ad.Aj|apply Af.nil|apply Af.one|(apply Aa.fn;rfl;rfl;exact hm;intro _;rfl)|(apply Aa.move;rfl)|(apply Aa.load;rfl;rfl)|(apply Aa.Bz;rfl;rfl)|(apply Aa.AA;rfl;rfl;rfl)|(apply Aa.box;rfl;trivial)|(apply Aa.alloc;rfl)|(apply Aa.AY;rfl;rfl;rfl;trivial;rfl;rfl;exact Ac rfl;exact le_dec rfl)|(apply Aa.build;rfl;rfl;rfl;rfl;rfl)|(apply Aa.buildSlice;rfl;rfl;rfl;decide;rfl;rfl;rfl))
 all_goals try (exfalso;omega)
 apply Ad.KU (x.bars.length) [(1,_),(2,_),(3,_),(4,_),(5,_),(24,_),(25,_)] [(0,_),(1,_),(2,_),(3,_)] (fun k r=>(26,.p (.int .i64 (k:Int)))::r) (fun k r=>(4,.vec 3 (cells (CS (bM x.bars) (k+1))) (CS (bM x.bars) (k+1)).length false)::(5,.box 45 [.vec 4 (CS (bM x.bars) (k+1)).length 0 (CS (bM x.bars) (k+1)).length,.p (.val (.slice none 0 0)),.p (.val (.slice none 0 0))])::r) 6
 ·first|omega|decide
 ·first|omega|decide
 ·repeat (first|exact Ah.nil|(refine Ah.eq rfl ?_ ?_;(first|exact PV.Ag rfl|(simp [PV.under,Ba.under];done)))|refine Ah.cons trivial rfl (.of_eq (AL (by simp<;>omega))) ?_)
 ·repeat (first|exact Ap.nil|(refine Ap.eq rfl (Ac rfl) ?_ ?_;(first|exact HB.Ag rfl|exact Ba.Ai _ _|(simp [HB.under,Ba.under,PV.under];done)))|(refine Ap.cons (Ac rfl) ?_ rfl ?_ ?_;(first|exact trivial|exact Ba.Ai _ _|(simp [HB.under,Ba.under,PV.under]));(first|exact BG.refl _|exact BG.vec (Bo.refl _) (by simp))))
 ·intro k hk
  have hl:(CS (bM x.bars) (k+1)).length=k+1:=FC _ _
  have hg:gi (CS (bM x.bars) (k+1)) k=bM x.bars k:=MW _ (by omega)
  have hb:=hbr k
  have hu:=(gi x.bars k).toNat_lt
  have e1:CS (bM x.bars) (k+1+1)=CS (bM x.bars) (k+1)++[bM x.bars k+1+((gi x.bars k).toNat:Int) % 6]:=rfl
  have e2:(CS (bM x.bars) (k+1+1)).length=(CS (bM x.bars) (k+1)).length+1:=by rw [e1];simp
  repeat' (first|apply Ad.Aw|apply Ad.region|apply Ad.Di|apply Ad.Aq|apply Ad.Aj|apply AV.normal|apply AP.normal|apply Af.nil|apply Ak.nil|apply Af.one|(apply Ak.bar;decide +kernel)|apply Ak.quiet|(apply Aa.Kv;rfl;rfl;(first|omega|(simp only [List.length_set]<;>omega));exact congrArg (fun b=>some (FV.int .i64 b)) (hg))|(apply Aa.CX (a:=(bM x.bars k+1+((gi x.bars k).toNat:Int) % 6));rfl;rfl;rfl;rfl;rfl;rfl;rfl;rfl;(intro _ h;cases h);rfl;rfl;rfl;decide;decide;(first|omega|(simp only [List.length_take,List.length_drop,List.length_append,List.length_singleton,List.length_cons,List.length_nil]<;>omega)))|(apply Aa.assign;rfl)|(apply Aa.move;rfl)|(apply Aa.BD;rfl;rfl;omega)|(apply Aa.Fz;rfl;rfl;omega;omega)|(apply Aa.int;rfl;rfl;rfl)|(apply Aa.AO;rfl;rfl;rfl;omega;rfl)|(apply Aa.load;rfl;rfl)|(apply Aa.AA;rfl;rfl;rfl)|(apply Aa.AY;rfl;rfl;rfl;trivial;rfl;rfl;exact Ac rfl;exact le_dec rfl)|(apply Aa.buildSlice;rfl;rfl;rfl;decide;rfl;rfl;rfl)|(apply Aa.EM;rfl;rfl;rfl;rfl;omega)|(apply Aa.DL;rfl;rfl;rfl;rfl;omega)|(apply Ad.Ae;rfl)|(intro _;try (exfalso;omega)))
  all_goals try (exfalso;omega)
  refine Az.normal ⟨by first|omega|decide,?_,?_⟩
  ·try (rw [e2,e1])
   repeat (first|exact Ah.nil|refine Ah.same (by exact PV.Ag rfl) rfl ?_|refine Ah.cons trivial rfl (.of_eq (AL (by simp<;>omega))) ?_)
  ·rw [e2,e1]
   repeat (first|exact Ap.nil|(refine Ap.cons (Ac rfl) ?_ rfl ?_ ?_;(first|exact HB.Ag rfl|exact Ba.Ai _ _|(simp [HB.under,Ba.under,PV.under]));(first|exact BG.refl _|exact BG.vec (Bo.refl _) (by simp))))
 ·have hg:gi (CS (bM x.bars) (x.bars.length+1)) x.bars.length=bM x.bars x.bars.length:=MW _ (by omega)
  have hb:=hbr x.bars.length
  have hlc:((CS (bM x.bars) (x.bars.length+1)).length:Int)-1=(x.bars.length:Int):=by omega
  repeat' (first|apply Ad.assoc|apply Ad.Aw|apply Ad.Bj|apply Ad.Aj|apply AV.normal|apply AP.exit|apply Az.exit|apply Af.nil|apply Af.one|(apply Aa.Kv;rfl;rfl;(first|omega|(simp only [List.length_set]<;>omega));exact congrArg (fun b=>some (FV.int .i64 b)) (hg))|(apply Aa.EM (l:=CS (bM x.bars) (x.bars.length+1)) (i:=x.bars.length);rfl;rfl;exact congrArg (fun b=>some (PV.p (.int .i64 b))) hlc;rfl;omega)|(apply Aa.assign;rfl)|(apply Aa.move;rfl)|(apply Aa.Dq;rfl;rfl;omega)|(apply Aa.int;rfl;rfl;rfl)|(apply Aa.load;rfl;rfl)|(apply Aa.Bz;rfl;rfl)|(apply Aa.lenV;rfl;rfl;rfl)|(apply Aa.AA;rfl;rfl;rfl)|(apply Ad.Ae;rfl)|(intro _;try (exfalso;omega)))
  all_goals try (exfalso;omega)
  refine Ad.ghost (A8.DN 5 1 66 rfl rfl) ?_
  refine Ad.ghost (A8.DN 5 2 74 rfl rfl) ?_
  obtain ⟨z,hz⟩:∃ z,z=bM x.bars x.bars.length:=⟨_,rfl⟩
  rw [← hz] at hb ⊢
  apply Ad.KU (x.notes.length) [(1,_),(2,_),(3,_),(4,_),(5,_),(8,_),(56,_),(57,_)] [(0,_),(1,_),(2,_),(3,_),(4,_),(7,_)] (fun k r=>(58,.p (.int .i64 (k:Int)))::r) (fun k r=>(6,.vec 66 (cells (Gt o z x.notes k)) (Gt o z x.notes k).length true)::(5,.box 45 [.vec 4 (CS (bM x.bars) (x.bars.length+1)).length 0 (CS (bM x.bars) (x.bars.length+1)).length,.vec 6 (Gt o z x.notes k).length 0 (Gt o z x.notes k).length,.vec 7 0 0 0])::r) 8
  ·first|omega|decide
  ·first|omega|decide
  ·repeat (first|exact Ah.nil|(refine Ah.eq rfl ?_ ?_;(first|exact PV.Ag rfl|(simp [PV.under,Ba.under];done)))|refine Ah.cons trivial rfl (.of_eq (AL (by simp<;>omega))) ?_)
  ·repeat (first|exact Ap.nil|(refine Ap.eq rfl (Ac rfl) ?_ ?_;(first|exact HB.Ag rfl|exact Ba.Ai _ _|(simp [HB.under,Ba.under,PV.under];done)))|(refine Ap.cons (Ac rfl) ?_ rfl ?_ ?_;(first|exact trivial|exact Ba.Ai _ _|(simp [HB.under,Ba.under,PV.under]));(first|exact BG.refl _|exact BG.vec (Bo.refl _) (by simp))))
  ·intro k hk
   have hl2:=PY o z x.notes k
   obtain ⟨y1,y2,y3,y4⟩:=hx.notes k hk
   have hd0:0≤((gi x.notes k).dv:Int) % (o.Au.length:Int):=Int.emod_nonneg _ (by omega)
   have hd1:((gi x.notes k).dv:Int) % (o.Au.length:Int)<(o.Au.length:Int):=Int.emod_lt_of_pos _ (by omega)
   have hdv:=hT.dv (((gi x.notes k).dv:Int) % (o.Au.length:Int)).toNat (by omega)
   have hs0:0≤((gi x.notes k).st:Int) % z:=Int.emod_nonneg _ (by omega)
   have hs1:((gi x.notes k).st:Int) % z<z:=Int.emod_lt_of_pos _ (by omega)
   have hk0:0≤((gi x.notes k).ky:Int) % ((gi o.Au (((gi x.notes k).dv:Int) % (o.Au.length:Int)).toNat).hi-(gi o.Au (((gi x.notes k).dv:Int) % (o.Au.length:Int)).toNat).lo+1):=Int.emod_nonneg _ (by omega)
   have hk1:((gi x.notes k).ky:Int) % ((gi o.Au (((gi x.notes k).dv:Int) % (o.Au.length:Int)).toNat).hi-(gi o.Au (((gi x.notes k).dv:Int) % (o.Au.length:Int)).toNat).lo+1)<(gi o.Au (((gi x.notes k).dv:Int) % (o.Au.length:Int)).toNat).hi-(gi o.Au (((gi x.notes k).dv:Int) % (o.Au.length:Int)).toNat).lo+1:=Int.emod_lt_of_pos _ (by omega)
   have hany:=iO 42 (mY o z (gi x.notes k)) (Gt o z x.notes k) true (fun m=>V9 m (mY o z (gi x.notes k))) (by omega) (fun m=>dY (mY o z (gi x.notes k)) m)
   have e1:Gt o z x.notes (k+1)=if (Gt o z x.notes k).any (fun m=>V9 m (mY o z (gi x.notes k)))=true then Gt o z x.notes k else Gt o z x.notes k++[mY o z (gi x.notes k)]:=rfl
   by_cases hb:(Gt o z x.notes k).any (fun m=>V9 m (mY o z (gi x.notes k)))=true
   ·rw [if_pos hb] at e1
    rw [hb] at hany
    repeat' (first|apply Ad.Aw|apply Ad.Bl|apply Ad.region|apply Ad.Aq|apply Ad.Aj|apply AV.normal|apply AP.normal|apply Ad.skip|apply Af.nil|apply Ak.nil|apply Af.one|(apply Ak.bar;decide +kernel)|apply Ak.quiet|(apply Aa.read [10,6] hany;rfl;rfl;exact .of_eq rfl;exact Ba.Ag rfl;exact Dw rfl;(repeat (first|exact trivial|refine ⟨⟨_,rfl,.of_eq rfl⟩,?_⟩));decide;(intro _ hb;simp at hb<;>omega);rfl)|(apply Aa.makeFunc;rfl;rfl)|(apply Aa.assign;rfl)|(apply Aa.move;rfl)|(apply Aa.BD;rfl;rfl;omega)|(apply Aa.Dq;rfl;rfl;omega)|(apply Aa.Fz;rfl;rfl;omega;omega)|(apply Aa.int;rfl;rfl;rfl)|(apply Aa.AO;rfl;rfl;rfl;omega;rfl)|(apply Aa.Ih;rfl;rfl;rfl;omega;omega;rfl)|(apply Aa.load;rfl;rfl)|(apply Aa.Bz;rfl;rfl)|(apply Aa.AA;rfl;rfl;rfl)|(apply Aa.Dk;rfl;rfl)|(apply Aa.alloc;rfl)|(apply Aa.AY;rfl;rfl;rfl;trivial;rfl;rfl;exact Ac rfl;exact le_dec rfl)|(apply Aa.build;rfl;rfl;rfl;rfl;rfl)|(apply Aa.wH;rfl;rfl)|(apply Aa.not;rfl)|(apply Aa.DL;rfl;rfl;rfl;rfl;omega)|(apply Ad.Ae;rfl)|(apply Ad.cond_false;rfl)|(intro _;try (exfalso;omega)))
    all_goals try (exfalso;omega)
    refine Az.normal ⟨by first|omega|decide,?_,?_⟩
    ·try (rw [e1])
     repeat (first|exact Ah.nil|refine Ah.same (by exact PV.Ag rfl) rfl ?_|refine Ah.cons trivial rfl (.of_eq (AL (by simp<;>omega))) ?_)
    ·rw [e1]
     repeat (first|exact Ap.nil|(refine Ap.cons (Ac rfl) ?_ rfl ?_ ?_;(first|exact HB.Ag rfl|exact Ba.Ai _ _|(simp [HB.under,Ba.under,PV.under]));(first|exact BG.refl _|exact BG.vec (Bo.refl _) (by simp))))
   ·rw [if_neg hb] at e1
    have hb':(Gt o z x.notes k).any (fun m=>V9 m (mY o z (gi x.notes k)))=false:=by simpa using hb
    rw [hb'] at hany
    have e2:(Gt o z x.notes (k+1)).length=(Gt o z x.notes k).length+1:=by rw [e1];simp
    repeat' (first|apply Ad.Aw|apply Ad.Bl|apply Ad.region|apply Ad.Aq|apply Ad.Aj|apply AV.normal|apply AP.normal|apply Af.nil|apply Ak.nil|apply Af.one|(apply Ak.bar;decide +kernel)|apply Ak.quiet|(apply Aa.read [10,6] hany;rfl;rfl;exact .of_eq rfl;exact Ba.Ag rfl;exact Dw rfl;(repeat (first|exact trivial|refine ⟨⟨_,rfl,.of_eq rfl⟩,?_⟩));decide;(intro _ hb;simp at hb<;>omega);rfl)|(apply Aa.makeFunc;rfl;rfl)|(apply Aa.CX (a:=mY o z (gi x.notes k));rfl;rfl;rfl;rfl;rfl;rfl;rfl;rfl;(intro _ h;cases h);rfl;rfl;rfl;decide;decide;(first|omega|(simp only [List.length_take,List.length_drop,List.length_append,List.length_singleton,List.length_cons,List.length_nil]<;>omega)))|(apply Aa.assign;rfl)|(apply Aa.move;rfl)|(apply Aa.BD;rfl;rfl;omega)|(apply Aa.Dq;rfl;rfl;omega)|(apply Aa.Fz;rfl;rfl;omega;omega)|(apply Aa.int;rfl;rfl;rfl)|(apply Aa.AO;rfl;rfl;rfl;omega;rfl)|(apply Aa.Ih;rfl;rfl;rfl;omega;omega;rfl)|(apply Aa.load;rfl;rfl)|(apply Aa.Bz;rfl;rfl)|(apply Aa.AA;rfl;rfl;rfl)|(apply Aa.Dk;rfl;rfl)|(apply Aa.alloc;rfl)|(apply Aa.AY;rfl;rfl;rfl;trivial;rfl;rfl;exact Ac rfl;exact le_dec rfl)|(apply Aa.build;rfl;rfl;rfl;rfl;rfl)|(apply Aa.buildSlice;rfl;rfl;rfl;decide;rfl;rfl;rfl)|(apply Aa.wH;rfl;rfl)|(apply Aa.not;rfl)|(apply Aa.DL;rfl;rfl;rfl;rfl;omega)|(apply Ad.Ae;rfl)|(apply Ad.cond_true;rfl)|(intro _;try (exfalso;omega)))
    all_goals try (exfalso;omega)
    refine Az.normal ⟨by first|omega|decide,?_,?_⟩
    ·try (rw [e2,e1])
     repeat (first|exact Ah.nil|refine Ah.same (by exact PV.Ag rfl) rfl ?_|refine Ah.cons trivial rfl (.of_eq (AL (by simp<;>omega))) ?_)
    ·rw [e2,e1]
     repeat (first|exact Ap.nil|(refine Ap.cons (Ac rfl) ?_ rfl ?_ ?_;(first|exact HB.Ag rfl|exact Ba.Ai _ _|(simp [HB.under,Ba.under,PV.under]));(first|exact BG.refl _|exact BG.vec (Bo.refl _) (by simp))))
  ·have hl2:=PY o z x.notes x.notes.length
   repeat' (first|apply Ad.assoc|apply Ad.Aw|apply Ad.Bj|apply Ad.Aj|apply AV.normal|apply AP.exit|apply Az.exit|apply Af.nil|apply Af.one|(apply Aa.assign;rfl)|(apply Aa.move;rfl)|(apply Aa.int;rfl;rfl;rfl)|(apply Aa.load;rfl;rfl)|(apply Aa.Bz;rfl;rfl)|(apply Aa.AA;rfl;rfl;rfl)|(apply Ad.Ae;rfl)|(intro _;try (exfalso;omega)))
   all_goals try (exfalso;omega)
   apply Ad.KU (x.sets.length) [(1,_),(2,_),(3,_),(4,_),(5,_),(119,_),(120,_)] [(0,_),(1,_),(2,_),(3,_),(4,_),(6,_)] (fun k r=>(121,.p (.int .i64 (k:Int)))::(14,.p (.int .i64 (Lp x.bars.length x.sets k)))::r) (fun k r=>(7,.vec 74 (cells (Hw o x.bars.length x.sets k)) (Hw o x.bars.length x.sets k).length true)::(5,.box 45 [.vec 4 (CS (bM x.bars) (x.bars.length+1)).length 0 (CS (bM x.bars) (x.bars.length+1)).length,.vec 6 (Gt o z x.notes x.notes.length).length 0 (Gt o z x.notes x.notes.length).length,.vec 7 (Hw o x.bars.length x.sets k).length 0 (Hw o x.bars.length x.sets k).length])::r) 8
   ·first|omega|decide
   ·first|omega|decide
   ·repeat (first|exact Ah.nil|(refine Ah.eq rfl ?_ ?_;(first|exact PV.Ag rfl|(simp [PV.under,Ba.under];done)))|refine Ah.cons trivial rfl (.of_eq (AL (by simp<;>omega))) ?_)
   ·repeat (first|exact Ap.nil|(refine Ap.eq rfl (Ac rfl) ?_ ?_;(first|exact HB.Ag rfl|exact Ba.Ai _ _|(simp [HB.under,Ba.under,PV.under];done)))|(refine Ap.cons (Ac rfl) ?_ rfl ?_ ?_;(first|exact trivial|exact Ba.Ai _ _|(simp [HB.under,Ba.under,PV.under]));(first|exact BG.refl _|exact BG.vec (Bo.refl _) (by simp))))
   ·intro k hk
    have hl3:=Qd o x.bars.length x.sets k
    have hy:=(hx.sets k hk).1
    have hdk:=hdr k hk
    have hb0:0≤((gi x.sets k).bar:Int) % (x.bars.length:Int):=Int.emod_nonneg _ (by omega)
    have hb1:((gi x.sets k).bar:Int) % (x.bars.length:Int)<(x.bars.length:Int):=Int.emod_lt_of_pos _ (by omega)
    have e1:Hw o x.bars.length x.sets (k+1)=if ((gi x.sets k).bar:Int) % (x.bars.length:Int)>Lp x.bars.length x.sets k then Hw o x.bars.length x.sets k++[⟨((gi x.sets k).bar:Int) % (x.bars.length:Int),Ny o (gi x.sets k).b⟩] else Hw o x.bars.length x.sets k:=rfl
    have e3:Lp x.bars.length x.sets (k+1)=if ((gi x.sets k).bar:Int) % (x.bars.length:Int)>Lp x.bars.length x.sets k then ((gi x.sets k).bar:Int) % (x.bars.length:Int) else Lp x.bars.length x.sets k:=rfl
    by_cases hc:((gi x.sets k).bar:Int) % (x.bars.length:Int)>Lp x.bars.length x.sets k
    ·rw [if_pos hc] at e1 e3
     have e2:(Hw o x.bars.length x.sets (k+1)).length=(Hw o x.bars.length x.sets k).length+1:=by rw [e1];simp
     repeat' (first|apply Ad.Aw|apply Ad.region|apply Ad.Di|apply Ad.Aq|apply Ad.Aj|apply AV.normal|apply AP.normal|apply Af.nil|apply Ak.nil|apply Af.one|(apply Ak.bar;decide +kernel)|apply Ak.quiet|(apply Aa.fn;rfl;rfl;exact hdk;intro _;rfl)|(apply Aa.CX (a:=(⟨((gi x.sets k).bar:Int) % (x.bars.length:Int),Ny o (gi x.sets k).b⟩:IX));rfl;rfl;rfl;rfl;rfl;rfl;rfl;rfl;(intro _ h;cases h);rfl;rfl;rfl;decide;decide;(first|omega|(simp only [List.length_take,List.length_drop,List.length_append,List.length_singleton,List.length_cons,List.length_nil]<;>omega)))|(apply Aa.assign;rfl)|(apply Aa.move;rfl)|(apply Aa.BD;rfl;rfl;omega)|(apply Aa.Fz;rfl;rfl;omega;omega)|(apply Aa.int;rfl;rfl;rfl)|(apply Aa.AO;rfl;rfl;rfl;omega;rfl)|(apply Aa.load;rfl;rfl)|(apply Aa.Bz;rfl;rfl)|(apply Aa.AA;rfl;rfl;rfl)|(apply Aa.alloc;rfl)|(apply Aa.AY;rfl;rfl;rfl;trivial;rfl;rfl;exact Ac rfl;exact le_dec rfl)|(apply Aa.build;rfl;rfl;rfl;rfl;rfl)|(apply Aa.buildSlice;rfl;rfl;rfl;decide;rfl;rfl;rfl)|(apply Aa.DL;rfl;rfl;rfl;rfl;omega)|(apply Ad.Ae;rfl)|(apply Ad.AX;rfl)|(intro _;try (exfalso;omega)))
     all_goals try (exfalso;omega)
     refine Az.normal ⟨by first|omega|decide,?_,?_⟩
     ·try (first|rw [e2,e1]|rw [e3])
      repeat (first|exact Ah.nil|refine Ah.same (by exact PV.Ag rfl) rfl ?_|refine Ah.cons trivial rfl (.of_eq (AL (by simp<;>omega))) ?_)
     ·first|rw [e2,e1]|rw [e3]
      repeat (first|exact Ap.nil|(refine Ap.cons (Ac rfl) ?_ rfl ?_ ?_;(first|exact HB.Ag rfl|exact Ba.Ai _ _|(simp [HB.under,Ba.under,PV.under]));(first|exact BG.refl _|exact BG.vec (Bo.refl _) (by simp))))
    ·rw [if_neg hc] at e1 e3
     repeat' (first|apply Ad.Aw|apply Ad.region|apply Ad.Aq|apply Ad.Aj|apply AV.normal|apply AP.normal|apply Ad.skip|apply Af.nil|apply Af.one|(apply Aa.assign;rfl)|(apply Aa.move;rfl)|(apply Aa.BD;rfl;rfl;omega)|(apply Aa.Fz;rfl;rfl;omega;omega)|(apply Aa.int;rfl;rfl;rfl)|(apply Aa.AO;rfl;rfl;rfl;omega;rfl)|(apply Aa.load;rfl;rfl)|(apply Aa.Bz;rfl;rfl)|(apply Aa.AA;rfl;rfl;rfl)|(apply Aa.alloc;rfl)|(apply Aa.AY;rfl;rfl;rfl;trivial;rfl;rfl;exact Ac rfl;exact le_dec rfl)|(apply Aa.DL;rfl;rfl;rfl;rfl;omega)|(apply Ad.Ae;rfl)|(apply Ad.AX;rfl)|(intro _;try (exfalso;omega)))
     all_goals try (exfalso;omega)
     refine Az.normal ⟨by first|omega|decide,?_,?_⟩
     ·try (first|rw [e1]|rw [e3])
      repeat (first|exact Ah.nil|refine Ah.same (by exact PV.Ag rfl) rfl ?_|refine Ah.cons trivial rfl (.of_eq (AL (by simp<;>omega))) ?_)
     ·first|rw [e1]|rw [e3]
      repeat (first|exact Ap.nil|(refine Ap.cons (Ac rfl) ?_ rfl ?_ ?_;(first|exact HB.Ag rfl|exact Ba.Ai _ _|(simp [HB.under,Ba.under,PV.under]));(first|exact BG.refl _|exact BG.vec (Bo.refl _) (by simp))))
   ·have hl3:=Qd o x.bars.length x.sets x.sets.length
    have hsl':(CS (bM x.bars) (x.bars.length+1)).length=x.bars.length+1:=hsl
    repeat' (first|(refine Ad.at 27 ?_;refine Ad.ghost (A8.trans (A8.BA 5 0 rfl rfl rfl) (A8.trans (A8.BA 5 1 rfl rfl rfl) (A8.BA 5 2 rfl rfl rfl))) ?_;first|apply Ad.Aw|apply Ad.Bl)|(refine Ak.atIdx 2 ?_;apply Ak.weak [.tmp 5];decide +kernel;rfl;rfl;(first|exact Qj.ref rfl|exact Qj.vec rfl|exact Qj.Ei rfl);decide +kernel;rfl)|apply Ad.Aw|apply Ad.Bj|apply AV.normal|apply AP.exit|apply Az.exit|apply Ad.ret|apply Af.nil|apply Ak.nil|apply Af.one|(apply Ak.bar;decide +kernel)|apply Ak.quiet|(apply Aa.int;rfl;rfl;rfl)|(apply Aa.load;rfl;rfl)|(apply Aa.AY;rfl;rfl;rfl;trivial;rfl;rfl;exact Ac rfl;exact le_dec rfl)|(apply Ad.Ae;rfl)|(intro _;try (exfalso;omega)))
    all_goals first|(exfalso;omega)|(refine Done.ret rfl (.refl _) (by exact PV.Ag rfl) Ap.nil (Nat.zero_le _) (Nat.le_refl _) ⟨?_,rfl,rfl⟩;try rfl)
end Go.Proofs.YtnhdddmhkhdlhaaGreatDoor
namespace Go.Proofs.YtnhdddmhkhdlhaaGreatDoor
open Go Go.Am Go.Vm
theorem Ux (x n:Nat):(x &&& (2 ^ n-1)) / 2 ^ n=0:=by
 have h1:x &&& (2 ^ n-1)≤2 ^ n-1:=Nat.and_le_right
 have h2:0<2 ^ n:=Nat.two_pow_pos n
 exact Nat.div_eq_of_lt (by omega)
theorem jP (o:EN) (ho:Yq o) (b:Nat→Nat) (hb:∀ i,b i<256):(Ny o b).Ok:=by
 have r2:=ho.Au
 have l:=FC (Gn o b) o.Au.length
 refine ⟨fun i hi=>?_,?_,?_,?_⟩
 ·have hi:i<(CS (Gn o b) o.Au.length).length:=hi
  rw [l] at hi
  show gi (CS (Gn o b) o.Au.length) i<_
  rw [MW _ hi]
  have:=hb (i % 3)
  have:Gn o b i≤b (i % 3):=Nat.and_le_left
  omega
 ·have:=hb 3
  have:b 3 &&& (2 ^ o.GN.length-1)≤b 3:=Nat.and_le_left
  show b 3 &&& (2 ^ o.GN.length-1)<_
  omega
 ·have:=hb 4
  have:b 4 &&& (2 ^ o.Au.length-1)≤b 4:=Nat.and_le_left
  show b 4 &&& (2 ^ o.Au.length-1)<_
  omega
 ·show (CS (Gn o b) o.Au.length).length<_
  omega
theorem dR (o:EN) (b:Nat→Nat):Ot o (Ny o b)=0:=by
 have l:=FC (Gn o b) o.Au.length
 rw [QO (show (CS (Gn o b) o.Au.length).length=_ from l) fun i hi=>?_]
 ·rw [if_neg]
  intro h
  rcases h with h|h
  ·exact h (Ux _ _)
  ·exact h (Ux _ _)
 ·have hi:i<(CS (Gn o b) o.Au.length).length:=hi
  rw [l] at hi
  show gi (CS (Gn o b) o.Au.length) i / _=0
  rw [MW _ hi]
  exact Ux _ _
end Go.Proofs.YtnhdddmhkhdlhaaGreatDoor
namespace Go.Proofs.YtnhdddmhkhdlhaaGreatDoor
open Go Go.Am Go.Vm Go.Pie
attribute [local irreducible] Dc BZ EL ES Gj BK Dz
structure NtR (o:EN) (z:Int) (n:Fg):Prop where
 d:0≤n.d∧n.d<o.Au.length
 k:(gi o.Au n.d.toNat).lo≤n.k∧n.k≤(gi o.Au n.d.toNat).hi
 r:0≤n.s∧n.s<n.e∧n.e≤z
theorem a0p {o:EN} (ho:Yq o) {z:Int} (hz:0<z) (y:sW):NtR o z (mY o z y):=by
 have hd:=ho.Au
 have e1:=Int.emod_nonneg (y.dv:Int) (show (o.Au.length:Int)≠0 by omega)
 have e2:=Int.emod_lt_of_pos (y.dv:Int) (show 0<(o.Au.length:Int) by omega)
 have e3:=Int.emod_nonneg (y.st:Int) (show z≠0 by omega)
 have e4:=Int.emod_lt_of_pos (y.st:Int) hz
 have hv:=ho.dv ((y.dv:Int) % (o.Au.length:Int)).toNat (by omega)
 refine ⟨⟨e1,e2⟩,?_,?_⟩
 ·show (gi o.Au ((y.dv:Int) % (o.Au.length:Int)).toNat).lo≤(gi o.Au ((y.dv:Int) % (o.Au.length:Int)).toNat).lo+(y.ky:Int) % ((gi o.Au ((y.dv:Int) % (o.Au.length:Int)).toNat).hi-(gi o.Au ((y.dv:Int) % (o.Au.length:Int)).toNat).lo+1)∧(gi o.Au ((y.dv:Int) % (o.Au.length:Int)).toNat).lo+(y.ky:Int) % ((gi o.Au ((y.dv:Int) % (o.Au.length:Int)).toNat).hi-(gi o.Au ((y.dv:Int) % (o.Au.length:Int)).toNat).lo+1)≤(gi o.Au ((y.dv:Int) % (o.Au.length:Int)).toNat).hi
  generalize gi o.Au ((y.dv:Int) % (o.Au.length:Int)).toNat=D at *
  have e5:=Int.emod_nonneg (y.ky:Int) (show D.hi-D.lo+1≠0 by omega)
  have e6:=Int.emod_lt_of_pos (y.ky:Int) (show 0<D.hi-D.lo+1 by omega)
  omega
 ·show 0≤(y.st:Int) % z∧(y.st:Int) % z<min z ((y.st:Int) % z+1+(y.lg:Int) % 8)∧min z ((y.st:Int) % z+1+(y.lg:Int) % 8)≤z
  omega
theorem oL {o:EN} (ho:Yq o) {z:Int} (hz:0<z) (l:List sW):∀ k,∀ i,i<(Gt o z l k).length→NtR o z (gi (Gt o z l k) i)∧∀ j,j<i→V9 (gi (Gt o z l k) j) (gi (Gt o z l k) i)=false
 |0,i,hi=>by simp [Gt] at hi
 |k+1,i,hi=>by
  have ih:=oL ho hz l k
  unfold Gt at hi ⊢
  split at hi
  ·rename_i h1
   rw [if_pos h1]
   exact ih i hi
  ·rename_i h1
   rw [if_neg h1]
   rw [List.length_append] at hi
   have hi':i<(Gt o z l k).length+1:=hi
   by_cases e:i<(Gt o z l k).length
   ·obtain ⟨q1,q2⟩:=ih i e
    rw [GL,if_pos e]
    refine ⟨q1,fun j hj=>?_⟩
    rw [GL,if_pos (by omega)]
    exact q2 j hj
   ·obtain rfl:i=(Gt o z l k).length:=by omega
    rw [GL,if_neg (by omega),if_pos rfl]
    refine ⟨a0p ho hz _,fun j hj=>?_⟩
    rw [GL,if_pos hj]
    have h2:=(UQ (l:=Gt o z l k) (f:=fun m=>V9 m (mY o z (gi l k))) (i:=(Gt o z l k).length) (Nat.le_refl _)).1 (by rw [List.take_length];simpa using h1)
    exact h2 j hj
theorem Z8 {nb:Nat} (h:0<nb) (l:List nT):∀ k,-1≤Lp nb l k∧Lp nb l k<nb
 |0=>by simp only [Lp];omega
 |k+1=>by
  have:=Z8 h l k
  have e1:=Int.emod_nonneg ((gi l k).bar:Int) (show (nb:Int)≠0 by omega)
  have e2:=Int.emod_lt_of_pos ((gi l k).bar:Int) (show 0<(nb:Int) by omega)
  unfold Lp
  split<;>omega
theorem pX (o:EN) {nb:Nat} (h:0<nb) (l:List nT):∀ k,k≤l.length→∀ i,i<(Hw o nb l k).length→(0≤(gi (Hw o nb l k) i).bar∧(gi (Hw o nb l k) i).bar≤Lp nb l k) ∧
 (0<i→(gi (Hw o nb l k) (i-1)).bar<(gi (Hw o nb l k) i).bar)∧∃ m,m<l.length∧(gi (Hw o nb l k) i).reg=Ny o (gi l m).b
 |0,_,i,hi=>by simp [Hw] at hi
 |k+1,hk,i,hi=>by
  have ih:=pX o h l k (by omega)
  have e1:=Int.emod_nonneg ((gi l k).bar:Int) (show (nb:Int)≠0 by omega)
  have q1:Hw o nb l (k+1)=if ((gi l k).bar:Int) % (nb:Int)>Lp nb l k then Hw o nb l k++[⟨((gi l k).bar:Int) % (nb:Int),Ny o (gi l k).b⟩] else Hw o nb l k:=rfl
  have q2:Lp nb l (k+1)=if ((gi l k).bar:Int) % (nb:Int)>Lp nb l k then ((gi l k).bar:Int) % (nb:Int) else Lp nb l k:=rfl
  rw [q1] at hi
  rw [q1,q2]
  clear q1 q2
  by_cases h1:((gi l k).bar:Int) % (nb:Int)>Lp nb l k
  ·rw [if_pos h1] at hi
   rw [if_pos h1,if_pos h1]
   rw [List.length_append] at hi
   have hi':i<(Hw o nb l k).length+1:=hi
   by_cases e:i<(Hw o nb l k).length
   ·obtain ⟨q1,q2,q3⟩:=ih i e
    rw [GL,if_pos e]
    refine ⟨by omega,fun h0=>?_,q3⟩
    rw [GL,if_pos (by omega)]
    exact q2 h0
   ·obtain rfl:i=(Hw o nb l k).length:=by omega
    rw [GL,if_neg (by omega),if_pos rfl]
    refine ⟨⟨e1,Int.le_refl _⟩,fun h0=>?_,k,by omega,rfl⟩
    rw [GL,if_pos (by omega)]
    have:=(ih ((Hw o nb l k).length-1) (by omega)).1
    show _<((gi l k).bar:Int) % (nb:Int)
    omega
  ·rw [if_neg h1] at hi
   rw [if_neg h1,if_neg h1]
   exact ih i hi
theorem QC (x:Y9) {i:Nat} (h:i≤x.bars.length):gi (uf x).bars i=bM x.bars i:=MW _ (by omega)
theorem aY (x:Y9):(uf x).bars.length=x.bars.length+1:=FC _ _
theorem uG (x:Y9):Ia (uf x)=0:=QC x (Nat.zero_le _)
theorem vZ (x:Y9):Iq (uf x)=bM x.bars x.bars.length:=by
 unfold Iq
 rw [aY]
 exact QC x (by omega)
theorem wE (l:List UInt8) (i:Nat):bM l i<bM l (i+1):=by
 have:=Int.emod_nonneg ((gi l i).toNat:Int) (show (6:Int)≠0 by decide)
 show _<bM l i+1+((gi l i).toNat:Int) % 6
 omega
theorem a1a (x:Y9) (hx:x.Ok) (hf:SA x):Wn (Y4 x.org) (uf x):=by
 have ho:=oH x.org hx.org hf.1
 obtain ⟨_,⟨f1,f2⟩,f3,f4⟩:=hf
 have hz:0<bM x.bars x.bars.length:=by have:=(Yp x.bars x.bars.length).1;omega
 have hN:=oL ho hz x.notes x.notes.length
 have lN:=PY (Y4 x.org) (bM x.bars x.bars.length) x.notes x.notes.length
 have hS:=pX (Y4 x.org) f1 x.sets x.sets.length (Nat.le_refl _)
 have lS:=Qd (Y4 x.org) x.bars.length x.sets x.sets.length
 have hl:=Z8 f1 x.sets x.sets.length
 have eN:(uf x).notes=Gt (Y4 x.org) (bM x.bars x.bars.length) x.notes x.notes.length:=rfl
 have eS:(uf x).sets=Hw (Y4 x.org) x.bars.length x.sets x.sets.length:=rfl
 have eL:=aY x
 refine jm ⟨by omega,by rw [eN];omega,by rw [eS];omega,fun i hi=>?_⟩ (by omega) (fun i hi=>?_) (by rw [eN];omega) (fun i hi=>?_) (by rw [eS];omega) fun i hi=>?_
 ·rw [eS] at hi ⊢
  obtain ⟨_,_,m,hm,e⟩:=hS i hi
  rw [e]
  exact jP _ ho _ (hx.sets m hm).2
 ·rw [QC x (by omega)]
  have:=Yp x.bars i
  refine ⟨by omega,fun h0=>?_⟩
  rw [QC x (by omega)]
  have:=wE x.bars (i-1)
  rwa [show i-1+1=i by omega] at this
 ·obtain ⟨⟨q1,q2,q3⟩,q4⟩:=hN i (by rw [← eN];exact hi)
  exact ⟨q1,q2,by rw [uG,vZ];exact q3,q4⟩
 ·rw [eS] at hi ⊢
  obtain ⟨q1,q2,m,_,e⟩:=hS i hi
  refine ⟨by omega,q2,?_⟩
  rw [e]
  exact dR _ _
end Go.Proofs.YtnhdddmhkhdlhaaGreatDoor
