/-
  Texts of a proof, merged (PieT, OrKa, Vm43, PieH, PieI, PieK, Vm44, Vm39, PieU, PieS, Vm35, TraA, PieN, PieO, RkQ, OrK, OrP, PieV, PieX, PieZ, PieTr, OrR, PieCh, PieCia, PieCib, PieCic, PieCid, PieCie, PieCj, PieCk). Conditions: in each statement.
-/
import Derived.Test.YtnhdddmhkhdlhaaGreatDoorKKe
set_option linter.unusedSimpArgs false
set_option linter.unusedVariables false
set_option linter.unusedSectionVars false
set_option maxRecDepth 100000
set_option maxHeartbeats 8000000
namespace Go.Proofs.YtnhdddmhkhdlhaaGreatDoor
open Go Go.Am Go.Vm Go.Pie
attribute [local irreducible] Aa Af Ak Ad Bv AQ BN AV AP Az Vm.Done Cb BH
attribute [local irreducible] Dc BZ EL ES Gj BK Dz
theorem o8 (p:DY):Ia p=gi p.bars (nat_lit 0):=rfl
theorem pO (p:DY):Iq p=gi p.bars (p.bars.length-1):=rfl
def lwR (r:Rgs) (p:DY) (t:Int):Nat→Rgs
 |0=>r
 |k+1=>if gi p.bars (gi p.sets k).bar.toNat≤t then (gi p.sets k).reg else lwR r p t k
theorem dQ (n m:Fg):Et env 88 ([.p (.agg (Enc.enc m))]++[.ref 0 0]) [(0,UN n)] 1 (.bool (V9 m n)):=by
 have h:=ZL m n
 refine Et.enter (Ar (by decide)) Tryz.func88 rfl (by kernel_rfl) (by simp [Tryz.ntmps88]) ?_
 repeat' (first|apply Ad.Aw|apply Ad.ret|apply Af.nil|apply Af.one|(apply Aa.fn;rfl;rfl;exact h;intro _;rfl)|(apply Aa.assign;rfl)|(apply Aa.load;rfl;rfl)|(apply Aa.box;rfl;trivial))
 all_goals first|(exfalso;omega)|(refine Done.ret rfl (.refl _) trivial ?_ (by omega) (Nat.le_refl _) ⟨?_,rfl,rfl⟩;repeat (first|exact Ap.nil|(refine Ap.cons (Ac rfl) ?_ rfl ?_ ?_;(first|exact HB.Ag rfl|exact Ba.Ai _ _|(simp [HB.under,Ba.under,PV.under]));(first|exact BG.refl _|exact BG.vec (Bo.refl _) (by simp))));try rfl)
theorem dX (o:EN) (p:DY) (ho:Ic o) (h:GH p) (h0:0<p.bars.length) (i:Nat) (hi:i<p.notes.length):AQ env 67 [.agg (Enc.enc o),.agg (Enc.enc p),.int .i64 (i:Int),.agg (Enc.enc (gi p.notes i))] (.p (.int .i64 (L6 o (Ia p) (Iq p) (p.notes.take i) (gi p.notes i)))):=by
 have b1:=h.bars
 have b2:=h.notes
 have hd:=ho.Au
 have hn:(p.bars.length:Int)-1=((p.bars.length-1:Nat):Int):=by omega
 have e1:=o8 p
 have e2:=pO p
 have lt:(p.notes.take i).length=i:=by rw [List.length_take];omega
 have hany:=zu 88 (gi p.notes i) (p.notes.take i) 66 (fun m=>V9 m (gi p.notes i)) (by omega) (fun m=>dQ (gi p.notes i) m)
 rw [lt] at hany
 unfold L6
 generalize gi p.notes i=n at *
 refine AQ.enter (Ar (by decide)) Tryz.func67 rfl (by kernel_rfl) (by simp [Tryz.ntmps67]) ?_
 by_cases h1:n.d<0∨n.d≥o.Au.length
 ·rw [if_pos h1]
  repeat' (first|apply Ad.Aw|apply Ad.Aj|apply AV.ret|apply AP.ret|apply Ad.ret|apply Af.nil|apply Af.one|(apply Af.take;rfl;rfl)|(apply Af.drop;rfl;rfl;rfl)|(apply Af.guard;rfl;rfl)|(apply Aa.assign;rfl)|(apply Aa.move;rfl)|(apply Aa.int;rfl;rfl;rfl)|(apply Aa.load;rfl;rfl)|(apply Aa.AZ;rfl;rfl)|(apply Aa.AB;rfl;rfl)|(apply Aa.Bz;rfl;rfl)|(apply Aa.AA;rfl;rfl;rfl)|(apply Aa.box;rfl;trivial)|(apply Ad.cond_true;rfl)|(apply Ad.AX;rfl)|(intro _;try (exfalso;omega)))
  all_goals first|(exfalso;omega)|(refine Done.ret rfl (.refl _) (by exact PV.Ag rfl) Ap.nil (Nat.zero_le _) (Nat.le_refl _) ⟨?_,rfl,rfl⟩;try rfl)
 rw [if_neg h1]
 by_cases h2:n.k<(gi o.Au n.d.toNat).lo∨n.k>(gi o.Au n.d.toNat).hi
 ·rw [if_pos h2]
  repeat' (first|apply Ad.Aw|apply Ad.Bl|apply Ad.Aj|apply AV.ret|apply AP.ret|apply Ad.ret|apply Af.nil|apply Ak.nil|apply Af.one|(apply Ak.bar;decide +kernel)|apply Ak.quiet|(apply Af.take;rfl;rfl)|(apply Ak.Ea;rfl;rfl)|(apply Ak.drop;rfl;rfl;rfl)|(apply Af.guard;rfl;rfl)|(apply Ak.guard;rfl;rfl)|(apply Aa.assign;rfl)|(apply Aa.move;rfl)|(apply Aa.int;rfl;rfl;rfl)|(apply Aa.Ih;rfl;rfl;rfl;omega;omega;rfl)|(apply Aa.load;rfl;rfl)|(apply Aa.AZ;rfl;rfl)|(apply Aa.AB;rfl;rfl)|(apply Aa.Bz;rfl;rfl)|(apply Aa.AA;rfl;rfl;rfl)|(apply Aa.Dk;rfl;rfl)|(apply Aa.box;rfl;trivial)|(apply Ad.cond_true;rfl)|(apply Ad.AX;rfl)|(intro _;try (exfalso;omega)))
  all_goals first|(exfalso;omega)|(refine Done.ret rfl (.refl _) (by exact PV.Ag rfl) Ap.nil (Nat.zero_le _) (Nat.le_refl _) ⟨?_,rfl,rfl⟩;try rfl)
 rw [if_neg h2]
 by_cases h3:n.s<Ia p∨n.e>Iq p
 ·rw [if_pos h3]
  repeat' (first|apply Ad.Aw|apply Ad.Bl|apply Ad.Aj|apply AV.ret|apply AP.ret|apply Ad.ret|apply Af.nil|apply Ak.nil|apply Af.one|(apply Ak.bar;decide +kernel)|apply Ak.quiet|(apply Af.take;rfl;rfl)|(apply Ak.Ea;rfl;rfl)|(apply Ak.drop;rfl;rfl;rfl)|(apply Af.guard;rfl;rfl)|(apply Ak.guard;rfl;rfl)|(apply Aa.AO (l:=p.bars) (i:=p.bars.length-1);rfl;exact congrArg (fun b=>some (PV.p (.int .i64 b))) hn;rfl;omega;rfl)|(apply Aa.assign;rfl)|(apply Aa.move;rfl)|(apply Aa.Dq;rfl;rfl;omega)|(apply Aa.int;rfl;rfl;rfl)|(apply Aa.AO;rfl;rfl;rfl;omega;rfl)|(apply Aa.Ih;rfl;rfl;rfl;omega;omega;rfl)|(apply Aa.load;rfl;rfl)|(apply Aa.AZ;rfl;rfl)|(apply Aa.AB;rfl;rfl)|(apply Aa.Bz;rfl;rfl)|(apply Aa.AA;rfl;rfl;rfl)|(apply Aa.Dk;rfl;rfl)|(apply Aa.box;rfl;trivial)|(apply Ad.cond_true;rfl)|(apply Ad.AX;rfl)|(intro _;try (exfalso;omega)))
  all_goals first|(exfalso;omega)|(refine Done.ret rfl (.refl _) (by exact PV.Ag rfl) Ap.nil (Nat.zero_le _) (Nat.le_refl _) ⟨?_,rfl,rfl⟩;try rfl)
 rw [if_neg h3]
 by_cases h4:n.s≥n.e
 ·rw [if_pos h4]
  repeat' (first|apply Ad.Aw|apply Ad.Bl|apply Ad.Aj|apply AV.ret|apply AP.ret|apply Ad.ret|apply Af.nil|apply Ak.nil|apply Af.one|(apply Ak.bar;decide +kernel)|apply Ak.quiet|(apply Af.take;rfl;rfl)|(apply Ak.Ea;rfl;rfl)|(apply Af.guard;rfl;rfl)|(apply Ak.guard;rfl;rfl)|(apply Aa.AO (l:=p.bars) (i:=p.bars.length-1);rfl;exact congrArg (fun b=>some (PV.p (.int .i64 b))) hn;rfl;omega;rfl)|(apply Aa.assign;rfl)|(apply Aa.move;rfl)|(apply Aa.Dq;rfl;rfl;omega)|(apply Aa.int;rfl;rfl;rfl)|(apply Aa.AO;rfl;rfl;rfl;omega;rfl)|(apply Aa.Ih;rfl;rfl;rfl;omega;omega;rfl)|(apply Aa.load;rfl;rfl)|(apply Aa.AB;rfl;rfl)|(apply Aa.Bz;rfl;rfl)|(apply Aa.AA;rfl;rfl;rfl)|(apply Aa.Dk;rfl;rfl)|(apply Aa.box;rfl;trivial)|(apply Ad.AX;rfl)|(intro _;try (exfalso;omega)))
  all_goals first|(exfalso;omega)|(refine Done.ret rfl (.refl _) (by exact PV.Ag rfl) Ap.nil (Nat.zero_le _) (Nat.le_refl _) ⟨?_,rfl,rfl⟩;try rfl)
 rw [if_neg h4]
 by_cases h5:(p.notes.take i).any (fun m=>V9 m n)=true
 all_goals first|rw [h5] at hany|rw [show (p.notes.take i).any (fun m=>V9 m n)=false by simpa using h5] at hany
 all_goals first|rw [if_pos h5]|rw [if_neg h5]
 all_goals
  repeat' (first|apply Ad.Aw|apply Ad.Bl|apply Ad.Aj|apply AV.normal|apply AV.ret|apply AP.normal|apply AP.ret|apply Ad.ret|apply Ad.skip|apply Af.nil|apply Ak.nil|apply Af.one|(apply Ak.bar;decide +kernel)|apply Ak.quiet|(apply Af.take;rfl;rfl)|(apply Ak.Ea;rfl;rfl)|(apply Af.guard;rfl;rfl)|(apply Ak.guard;rfl;rfl)|(apply Aa.read [2] hany;rfl;rfl;exact .of_eq rfl;exact Ba.Ag rfl;exact Dw rfl;(repeat (first|exact trivial|refine ⟨⟨_,rfl,.of_eq rfl⟩,?_⟩));decide;(intro _ hb;simp at hb<;>omega);rfl)|(apply Aa.AO (l:=p.bars) (i:=p.bars.length-1);rfl;exact congrArg (fun b=>some (PV.p (.int .i64 b))) hn;rfl;omega;rfl)|(apply Aa.makeFunc;rfl;rfl)|(apply Aa.assign;rfl)|(apply Aa.move;rfl)|(apply Aa.Dq;rfl;rfl;omega)|(apply Aa.int;rfl;rfl;rfl)|(apply Aa.AO;rfl;rfl;rfl;omega;rfl)|(apply Aa.Ih;rfl;rfl;rfl;omega;omega;rfl)|(apply Aa.load;rfl;rfl)|(apply Aa.AB;rfl;rfl)|(apply Aa.Bz;rfl;rfl)|(apply Aa.AA;rfl;rfl;rfl)|(apply Aa.Dk;rfl;rfl)|(apply Aa.box;rfl;trivial)|(apply Aa.sliceTo;rfl;rfl;rfl;rfl;rfl;rfl;omega)|(apply Ad.cond_true;rfl)|(apply Ad.cond_false;rfl)|(apply Ad.AX;rfl)|(intro _;try (exfalso;omega)))
 all_goals first|(exfalso;omega)|(refine Done.ret rfl (.refl _) (by exact PV.Ag rfl) Ap.nil (Nat.zero_le _) (Nat.le_refl _) ⟨?_,rfl,rfl⟩;try rfl)
theorem Td {o:EN} {p:DY} (k1:UJ o) (hp:GH p):AQ env 29 [.agg (Enc.enc o),.agg (Enc.enc p)] (.p (.int .i64 (IV o p))):=by
 have b1:=hp.bars
 have b2:=hp.notes
 have b3:=hp.sets
 unfold IV Nb
 refine AQ.enter (Ar (by decide)) Tryz.func29 rfl (by kernel_rfl) (by simp [Tryz.ntmps29]) ?_
 by_cases c1:p.bars.length<2
 ·rw [if_pos c1]
  repeat' (first|apply Ad.assoc|apply Ad.Aw|apply Ad.Bf|apply Af.nil|apply Af.one|(apply Aa.assign;rfl)|(apply Aa.int;rfl;rfl;rfl)|(apply Aa.load;rfl;rfl)|(apply Aa.Bz;rfl;rfl)|(apply Aa.AA;rfl;rfl;rfl)|(apply Aa.box;rfl;trivial)|(apply Ad.Ae;rfl)|(intro _;try (exfalso;omega)))
  all_goals first|(exfalso;omega)|(refine Done.ret rfl (.refl _) (by exact PV.Ag rfl) Ap.nil (Nat.zero_le _) (Nat.le_refl _) ⟨?_,rfl,rfl⟩;try rfl)
 rw [if_neg c1]
 by_cases c2:p.bars.length>201
 ·rw [if_pos c2]
  repeat' (first|apply Ad.assoc|apply Ad.Aw|apply Ad.Aq|apply Ad.Bf|apply Af.nil|apply Af.one|(apply Aa.assign;rfl)|(apply Aa.int;rfl;rfl;rfl)|(apply Aa.load;rfl;rfl)|(apply Aa.Bz;rfl;rfl)|(apply Aa.AA;rfl;rfl;rfl)|(apply Aa.box;rfl;trivial)|(apply Ad.Ae;rfl)|(intro _;try (exfalso;omega)))
  all_goals first|(exfalso;omega)|(refine Done.ret rfl (.refl _) (by exact PV.Ag rfl) Ap.nil (Nat.zero_le _) (Nat.le_refl _) ⟨?_,rfl,rfl⟩;try rfl)
 rw [if_neg c2]
 repeat' (first|apply Ad.assoc|apply Ad.Aw|apply Ad.Aq|apply Ad.Aj|apply Af.nil|apply Af.one|(apply Aa.assign;rfl)|(apply Aa.move;rfl)|(apply Aa.int;rfl;rfl;rfl)|(apply Aa.load;rfl;rfl)|(apply Aa.Bz;rfl;rfl)|(apply Aa.AA;rfl;rfl;rfl)|(apply Aa.box;rfl;trivial)|(apply Ad.Ae;rfl)|(intro _;try (exfalso;omega)))
 all_goals try (exfalso;omega)
 apply Ad.H8 (p.bars.length) (fun k=>Ql p.bars k=Ql p.bars 0) [(2,_),(3,_),(22,_),(23,_)] [(0,_),(1,_)] (fun k r=>(24,.p (.int .i64 (k:Int)))::r) (fun k r=>r) 2
 ·first|omega|decide
 ·first|omega|decide
 ·repeat (first|exact Ah.nil|(refine Ah.eq rfl ?_ ?_;(first|exact PV.Ag rfl|(simp [PV.under,Ba.under];done)))|refine Ah.cons trivial rfl (.of_eq (AL (by simp<;>omega))) ?_)
 ·repeat (first|exact Ap.nil|(refine Ap.eq rfl (Ac rfl) ?_ ?_;(first|exact HB.Ag rfl|exact Ba.Ai _ _|(simp [HB.under,Ba.under,PV.under];done)))|(refine Ap.cons (Ac rfl) ?_ rfl ?_ ?_;(first|exact trivial|exact Ba.Ai _ _|(simp [HB.under,Ba.under,PV.under]));(first|exact BG.refl _|exact BG.vec (Bo.refl _) (by simp))))
 ·first|(intro _ _;omega)|omega|trivial
 ·intro k hk hi
  have e:=Um hk
  have hkc:0<k→(k:Int)-1=((k-1:Nat):Int):=fun h=>by omega
  by_cases h1:gi p.bars k<0∨gi p.bars k>100000
  ·rw [if_pos h1] at e
   rw [← hi,e,if_pos (by decide)]
   repeat' (first|apply Ad.assoc|apply Ad.Aw|apply Ad.Aq|apply Ad.Bf|apply Ad.Aj|apply AV.ret|apply AP.ret|apply Az.ret|apply Af.nil|apply Af.one|(apply Af.take;rfl;rfl)|(apply Af.drop;rfl;rfl;rfl)|(apply Af.guard;rfl;rfl)|(apply Aa.assign;rfl)|(apply Aa.move;rfl)|(apply Aa.int;rfl;rfl;rfl)|(apply Aa.AO;rfl;rfl;rfl;omega;rfl)|(apply Aa.load;rfl;rfl)|(apply Aa.AZ;rfl;rfl)|(apply Aa.AB;rfl;rfl)|(apply Ad.Bq;rfl)|(apply Ad.Ae;rfl)|(intro _;try (exfalso;omega)))
   all_goals first|(exfalso;omega)|(refine Done.ret rfl (.refl _) (by exact PV.Ag rfl) Ap.nil (Nat.zero_le _) (Nat.le_refl _) ⟨?_,rfl,rfl⟩;try rfl)
  rw [if_neg h1] at e
  by_cases h2:0<k∧gi p.bars k≤gi p.bars (k-1)
  ·rw [if_pos h2] at e
   rw [← hi,e,if_pos (by decide)]
   repeat' (first|apply Ad.assoc|apply Ad.Aw|apply Ad.Aq|apply Ad.Aj|apply AV.ret|apply AP.ret|apply Az.ret|apply Ad.ret|apply Af.nil|apply Af.one|(apply Af.take;rfl;rfl)|(apply Af.guard;rfl;rfl)|(apply Aa.AO (l:=p.bars) (i:=k-1);rfl;exact congrArg (fun b=>some (PV.p (.int .i64 b))) (hkc h2.1);rfl;omega;rfl)|(apply Aa.assign;rfl)|(apply Aa.move;rfl)|(apply Aa.Dq;rfl;rfl;omega)|(apply Aa.int;rfl;rfl;rfl)|(apply Aa.AO;rfl;rfl;rfl;omega;rfl)|(apply Aa.load;rfl;rfl)|(apply Aa.AZ;rfl;rfl)|(apply Aa.AB;rfl;rfl)|(apply Aa.AA;rfl;rfl;rfl)|(apply Ad.Ae;rfl)|(apply Ad.AX;rfl)|(intro _;try (exfalso;omega)))
   all_goals first|(exfalso;omega)|(refine Done.ret rfl (.refl _) (by exact PV.Ag rfl) Ap.nil (Nat.zero_le _) (Nat.le_refl _) ⟨?_,rfl,rfl⟩;try rfl)
  rw [if_neg h2] at e
  by_cases h0:k=0
  ·repeat' (first|apply Ad.assoc|apply Ad.Aw|apply Ad.region|apply Ad.Aq|apply Ad.Aj|apply AV.normal|apply AP.normal|apply Ad.skip|apply Af.nil|apply Af.one|(apply Af.take;rfl;rfl)|(apply Af.drop;rfl;rfl;rfl)|(apply Af.guard;rfl;rfl)|(apply Aa.assign;rfl)|(apply Aa.move;rfl)|(apply Aa.BD;rfl;rfl;omega)|(apply Aa.int;rfl;rfl;rfl)|(apply Aa.AO;rfl;rfl;rfl;omega;rfl)|(apply Aa.load;rfl;rfl)|(apply Aa.AB;rfl;rfl)|(apply Ad.Ae;rfl)|(apply Ad.cond_false;rfl)|(intro _;try (exfalso;omega)))
   all_goals try (exfalso;omega)
   refine Az.normal ⟨(e.symm.trans hi),by first|omega|decide,?_,?_⟩
   ·repeat (first|exact Ah.nil|refine Ah.same (by exact PV.Ag rfl) rfl ?_|refine Ah.cons trivial rfl (.of_eq (AL (by simp<;>omega))) ?_)
   ·repeat (first|exact Ap.nil|(refine Ap.cons (Ac rfl) ?_ rfl ?_ ?_;(first|exact HB.Ag rfl|exact Ba.Ai _ _|(simp [HB.under,Ba.under,PV.under]));(first|exact BG.refl _|exact BG.vec (Bo.refl _) (by simp))))
  ·repeat' (first|apply Ad.assoc|apply Ad.Aw|apply Ad.region|apply Ad.Aq|apply Ad.Aj|apply AV.normal|apply AP.normal|apply Ad.skip|apply Af.nil|apply Af.one|(apply Af.take;rfl;rfl)|(apply Af.guard;rfl;rfl)|(apply Aa.AO (l:=p.bars) (i:=k-1);rfl;exact congrArg (fun b=>some (PV.p (.int .i64 b))) (hkc (by omega));rfl;omega;rfl)|(apply Aa.assign;rfl)|(apply Aa.move;rfl)|(apply Aa.BD;rfl;rfl;omega)|(apply Aa.Dq;rfl;rfl;omega)|(apply Aa.int;rfl;rfl;rfl)|(apply Aa.AO;rfl;rfl;rfl;omega;rfl)|(apply Aa.load;rfl;rfl)|(apply Aa.AZ;rfl;rfl)|(apply Aa.AB;rfl;rfl)|(apply Aa.AA;rfl;rfl;rfl)|(apply Ad.Ae;rfl)|(apply Ad.AX;rfl)|(intro _;try (exfalso;omega)))
   all_goals try (exfalso;omega)
   refine Az.normal ⟨(e.symm.trans hi),by first|omega|decide,?_,?_⟩
   ·repeat (first|exact Ah.nil|refine Ah.same (by exact PV.Ag rfl) rfl ?_|refine Ah.cons trivial rfl (.of_eq (AL (by simp<;>omega))) ?_)
   ·repeat (first|exact Ap.nil|(refine Ap.cons (Ac rfl) ?_ rfl ?_ ?_;(first|exact HB.Ag rfl|exact Ba.Ai _ _|(simp [HB.under,Ba.under,PV.under]));(first|exact BG.refl _|exact BG.vec (Bo.refl _) (by simp))))
 intro hi
 rw [aF] at hi
 rw [← hi,if_neg (by decide)]
 clear hi
 by_cases c3:p.notes.length>1000
 ·rw [if_pos c3]
  repeat' (first|apply Ad.assoc|apply Ad.Aw|apply Ad.Bf|apply Ad.Bj|apply AV.normal|apply AP.exit|apply Az.exit|apply Af.nil|apply Af.one|(apply Aa.assign;rfl)|(apply Aa.int;rfl;rfl;rfl)|(apply Aa.load;rfl;rfl)|(apply Aa.Bz;rfl;rfl)|(apply Aa.AA;rfl;rfl;rfl)|(apply Ad.Ae;rfl)|(intro _;try (exfalso;omega)))
  all_goals first|(exfalso;omega)|(refine Done.ret rfl (.refl _) (by exact PV.Ag rfl) Ap.nil (Nat.zero_le _) (Nat.le_refl _) ⟨?_,rfl,rfl⟩;try rfl)
 rw [if_neg c3]
 repeat' (first|apply Ad.assoc|apply Ad.Aw|apply Ad.Aq|apply Ad.Bj|apply Ad.Aj|apply AV.normal|apply AP.exit|apply Az.exit|apply Af.nil|apply Af.one|(apply Aa.move;rfl)|(apply Aa.int;rfl;rfl;rfl)|(apply Aa.load;rfl;rfl)|(apply Aa.Bz;rfl;rfl)|(apply Aa.AA;rfl;rfl;rfl)|(apply Ad.Ae;rfl)|(intro _;try (exfalso;omega)))
 all_goals try (exfalso;omega)
 apply Ad.H8 (p.notes.length) (fun k=>FK o (Ia p) (Iq p) p.notes k=FK o (Ia p) (Iq p) p.notes 0) [(2,_),(3,_),(53,_),(54,_)] [(0,_),(1,_)] (fun k r=>(55,.p (.int .i64 (k:Int)))::r) (fun k r=>r) 2
 ·first|omega|decide
 ·first|omega|decide
 ·repeat (first|exact Ah.nil|(refine Ah.eq rfl ?_ ?_;(first|exact PV.Ag rfl|(simp [PV.under,Ba.under];done)))|refine Ah.cons trivial rfl (.of_eq (AL (by simp<;>omega))) ?_)
 ·repeat (first|exact Ap.nil|(refine Ap.eq rfl (Ac rfl) ?_ ?_;(first|exact HB.Ag rfl|exact Ba.Ai _ _|(simp [HB.under,Ba.under,PV.under];done)))|(refine Ap.cons (Ac rfl) ?_ rfl ?_ ?_;(first|exact trivial|exact Ba.Ai _ _|(simp [HB.under,Ba.under,PV.under]));(first|exact BG.refl _|exact BG.vec (Bo.refl _) (by simp))))
 ·first|(intro _ _;omega)|omega|trivial
 ·intro k hk hi
  have e:=NW (o:=o) (a:=Ia p) (z:=Iq p) hk
  have hn:=dX o p k1.sm hp (by omega) k hk
  by_cases h1:L6 o (Ia p) (Iq p) (p.notes.take k) (gi p.notes k)=0
  ·rw [if_neg (fun h=>h h1)] at e
   rw [h1] at hn
   repeat' (first|apply Ad.Aw|apply Ad.region|apply Ad.Aq|apply Ad.Aj|apply AV.normal|apply AP.normal|apply Ad.skip|apply Af.nil|apply Af.one|(apply Aa.fn;rfl;rfl;exact hn;intro _;rfl)|(apply Aa.assign;rfl)|(apply Aa.move;rfl)|(apply Aa.BD;rfl;rfl;omega)|(apply Aa.int;rfl;rfl;rfl)|(apply Aa.AO;rfl;rfl;rfl;omega;rfl)|(apply Aa.load;rfl;rfl)|(apply Aa.alloc;rfl)|(apply Aa.AY;rfl;rfl;rfl;trivial;rfl;rfl;exact Ac rfl;exact le_dec rfl)|(apply Ad.Ae;rfl)|(apply Ad.cond_false;rfl)|(intro _;try (exfalso;omega)))
   all_goals try (exfalso;omega)
   all_goals try contradiction
   refine Az.normal ⟨(e.symm.trans hi),by first|omega|decide,?_,?_⟩
   ·repeat (first|exact Ah.nil|refine Ah.same (by exact PV.Ag rfl) rfl ?_|refine Ah.cons trivial rfl (.of_eq (AL (by simp<;>omega))) ?_)
   ·repeat (first|exact Ap.nil|(refine Ap.cons (Ac rfl) ?_ rfl ?_ ?_;(first|exact HB.Ag rfl|exact Ba.Ai _ _|(simp [HB.under,Ba.under,PV.under]));(first|exact BG.refl _|exact BG.vec (Bo.refl _) (by simp))))
  ·rw [if_pos h1] at e
   rw [← hi,e,if_pos h1]
   repeat' (first|apply Ad.Aw|apply Ad.Aq|apply Ad.Aj|apply AV.ret|apply AP.ret|apply Az.ret|apply Ad.ret|apply Af.nil|apply Af.one|(apply Aa.fn;rfl;rfl;exact hn;intro _;rfl)|(apply Aa.assign;rfl)|(apply Aa.move;rfl)|(apply Aa.int;rfl;rfl;rfl)|(apply Aa.AO;rfl;rfl;rfl;omega;rfl)|(apply Aa.load;rfl;rfl)|(apply Aa.alloc;rfl)|(apply Aa.AY;rfl;rfl;rfl;trivial;rfl;rfl;exact Ac rfl;exact le_dec rfl)|(apply Ad.Ae;rfl)|(apply Ad.AX;rfl)|(intro _;try (exfalso;omega)))
   all_goals first|(exfalso;omega)|contradiction|(refine Done.ret rfl (.refl _) (by exact PV.Ag rfl) Ap.nil (Nat.zero_le _) (Nat.le_refl _) ⟨?_,rfl,rfl⟩;try rfl)
 intro hi
 rw [Vl] at hi
 rw [← hi,if_neg (by decide)]
 clear hi
 by_cases c4:p.sets.length>100
 ·rw [if_pos c4]
  repeat' (first|apply Ad.assoc|apply Ad.Aw|apply Ad.Bf|apply Ad.Bj|apply AV.normal|apply AP.exit|apply Az.exit|apply Af.nil|apply Af.one|(apply Aa.assign;rfl)|(apply Aa.int;rfl;rfl;rfl)|(apply Aa.load;rfl;rfl)|(apply Aa.Bz;rfl;rfl)|(apply Aa.AA;rfl;rfl;rfl)|(apply Ad.Ae;rfl)|(intro _;try (exfalso;omega)))
  all_goals first|(exfalso;omega)|(refine Done.ret rfl (.refl _) (by exact PV.Ag rfl) Ap.nil (Nat.zero_le _) (Nat.le_refl _) ⟨?_,rfl,rfl⟩;try rfl)
 rw [if_neg c4]
 obtain ⟨E,hE⟩:∃ E,E=JX o p.bars.length p.sets 0:=⟨_,rfl⟩
 rw [← hE]
 repeat' (first|apply Ad.assoc|apply Ad.Aw|apply Ad.Aq|apply Ad.Bj|apply Ad.Aj|apply AV.normal|apply AP.exit|apply Az.exit|apply Af.nil|apply Af.one|(apply Aa.move;rfl)|(apply Aa.int;rfl;rfl;rfl)|(apply Aa.load;rfl;rfl)|(apply Aa.Bz;rfl;rfl)|(apply Aa.AA;rfl;rfl;rfl)|(apply Ad.Ae;rfl)|(intro _;try (exfalso;omega)))
 all_goals try (exfalso;omega)
 apply Ad.H8 (p.sets.length) (fun k=>JX o p.bars.length p.sets k=E) [(2,_),(3,_),(74,_),(75,_)] [(0,_),(1,_)] (fun k r=>(76,.p (.int .i64 (k:Int)))::r) (fun k r=>r) 2
 ·first|omega|decide
 ·first|omega|decide
 ·repeat (first|exact Ah.nil|(refine Ah.eq rfl ?_ ?_;(first|exact PV.Ag rfl|(simp [PV.under,Ba.under];done)))|refine Ah.cons trivial rfl (.of_eq (AL (by simp<;>omega))) ?_)
 ·repeat (first|exact Ap.nil|(refine Ap.eq rfl (Ac rfl) ?_ ?_;(first|exact HB.Ag rfl|exact Ba.Ai _ _|(simp [HB.under,Ba.under,PV.under];done)))|(refine Ap.cons (Ac rfl) ?_ rfl ?_ ?_;(first|exact trivial|exact Ba.Ai _ _|(simp [HB.under,Ba.under,PV.under]));(first|exact BG.refl _|exact BG.vec (Bo.refl _) (by simp))))
 ·first|(intro _ _;omega)|omega|trivial
 ·intro k hk hi
  have e:=P5 (o:=o) (nb:=p.bars.length) hk
  have hr:=XK o k1 (gi p.sets k).reg (hp.reg k hk)
  have hkc:0<k→(k:Int)-1=((k-1:Nat):Int):=fun h=>by omega
  unfold Ky at e
  by_cases h1:(gi p.sets k).bar<0∨(gi p.sets k).bar≥(p.bars.length:Int)-1
  ·rw [if_pos h1,if_pos (by decide)] at e
   rw [← hi,e]
   repeat' (first|apply Ad.assoc|apply Ad.Aw|apply Ad.Aq|apply Ad.Bf|apply Ad.Aj|apply AV.ret|apply AP.ret|apply Az.ret|apply Af.nil|apply Af.one|(apply Af.take;rfl;rfl)|(apply Af.drop;rfl;rfl;rfl)|(apply Af.guard;rfl;rfl)|(apply Aa.assign;rfl)|(apply Aa.move;rfl)|(apply Aa.Dq;rfl;rfl;omega)|(apply Aa.int;rfl;rfl;rfl)|(apply Aa.AO;rfl;rfl;rfl;omega;rfl)|(apply Aa.load;rfl;rfl)|(apply Aa.AZ;rfl;rfl)|(apply Aa.AB;rfl;rfl)|(apply Aa.Bz;rfl;rfl)|(apply Aa.AA;rfl;rfl;rfl)|(apply Aa.alloc;rfl)|(apply Aa.AY;rfl;rfl;rfl;trivial;rfl;rfl;exact Ac rfl;exact le_dec rfl)|(apply Ad.Bq;rfl)|(apply Ad.Ae;rfl)|(intro _;try (exfalso;omega)))
   all_goals first|(exfalso;omega)|(refine Done.ret rfl (.refl _) (by exact PV.Ag rfl) Ap.nil (Nat.zero_le _) (Nat.le_refl _) ⟨?_,rfl,rfl⟩;try rfl)
  rw [if_neg h1] at e
  by_cases h3:0<k∧(gi p.sets k).bar=(gi p.sets (k-1)).bar
  ·rw [if_pos h3,if_pos (by decide)] at e
   rw [← hi,e]
   repeat' (first|apply Ad.assoc|apply Ad.Aw|apply Ad.Bl|apply Ad.Aq|apply Ad.Bf|apply Ad.Aj|apply AV.ret|apply AP.ret|apply Az.ret|apply Af.nil|apply Ak.nil|apply Af.one|(apply Ak.bar;decide +kernel)|(apply Af.take;rfl;rfl)|(apply Ak.Ea;rfl;rfl)|(apply Af.guard;rfl;rfl)|(apply Ak.guard;rfl;rfl)|(apply Aa.AO (l:=p.sets) (i:=k-1);rfl;exact congrArg (fun b=>some (PV.p (.int .i64 b))) (hkc h3.1);rfl;omega;rfl)|(apply Aa.assign;rfl)|(apply Aa.move;rfl)|(apply Aa.Dq;rfl;rfl;omega)|(apply Aa.int;rfl;rfl;rfl)|(apply Aa.AO;rfl;rfl;rfl;omega;rfl)|(apply Aa.load;rfl;rfl)|(apply Aa.AZ;rfl;rfl)|(apply Aa.AB;rfl;rfl)|(apply Aa.Bz;rfl;rfl)|(apply Aa.AA;rfl;rfl;rfl)|(apply Aa.Dk;rfl;rfl)|(apply Aa.alloc;rfl)|(apply Aa.AY;rfl;rfl;rfl;trivial;rfl;rfl;exact Ac rfl;exact le_dec rfl)|(apply Ad.Ae;rfl)|(intro _;try (exfalso;omega)))
   all_goals first|(exfalso;omega)|(refine Done.ret rfl (.refl _) (by exact PV.Ag rfl) Ap.nil (Nat.zero_le _) (Nat.le_refl _) ⟨?_,rfl,rfl⟩;try rfl)
  rw [if_neg h3] at e
  by_cases h4:0<k∧(gi p.sets k).bar<(gi p.sets (k-1)).bar
  ·rw [if_pos h4,if_pos (by decide)] at e
   rw [← hi,e]
   repeat' (first|apply Ad.assoc|apply Ad.Aw|apply Ad.Bl|apply Ad.Aq|apply Ad.Bf|apply Ad.Aj|apply AV.ret|apply AP.ret|apply Az.ret|apply Af.nil|apply Ak.nil|apply Af.one|(apply Ak.bar;decide +kernel)|(apply Af.take;rfl;rfl)|(apply Ak.Ea;rfl;rfl)|(apply Af.guard;rfl;rfl)|(apply Ak.guard;rfl;rfl)|(apply Aa.AO (l:=p.sets) (i:=k-1);rfl;exact congrArg (fun b=>some (PV.p (.int .i64 b))) (hkc h4.1);rfl;omega;rfl)|(apply Aa.assign;rfl)|(apply Aa.move;rfl)|(apply Aa.Dq;rfl;rfl;omega)|(apply Aa.int;rfl;rfl;rfl)|(apply Aa.AO;rfl;rfl;rfl;omega;rfl)|(apply Aa.load;rfl;rfl)|(apply Aa.AZ;rfl;rfl)|(apply Aa.AB;rfl;rfl)|(apply Aa.Bz;rfl;rfl)|(apply Aa.AA;rfl;rfl;rfl)|(apply Aa.Dk;rfl;rfl)|(apply Aa.alloc;rfl)|(apply Aa.AY;rfl;rfl;rfl;trivial;rfl;rfl;exact Ac rfl;exact le_dec rfl)|(apply Ad.Ae;rfl)|(intro _;try (exfalso;omega)))
   all_goals first|(exfalso;omega)|(refine Done.ret rfl (.refl _) (by exact PV.Ag rfl) Ap.nil (Nat.zero_le _) (Nat.le_refl _) ⟨?_,rfl,rfl⟩;try rfl)
  rw [if_neg h4] at e
  by_cases h5:Ot o (gi p.sets k).reg=0
  case neg =>
   rw [if_pos h5] at e
   rw [← hi,e]
   by_cases h0:k=0
   ·repeat' (first|apply Ad.assoc|apply Ad.Aw|apply Ad.Bl|apply Ad.Aq|apply Ad.Aj|apply AV.ret|apply AP.ret|apply Az.ret|apply Ad.ret|apply Af.nil|apply Ak.nil|apply Af.one|(apply Ak.bar;decide +kernel)|(apply Af.take;rfl;rfl)|(apply Ak.drop;rfl;rfl;rfl)|(apply Af.guard;rfl;rfl)|(apply Ak.guard;rfl;rfl)|(apply Aa.fn;rfl;rfl;exact hr;intro _;rfl)|(apply Aa.assign;rfl)|(apply Aa.move;rfl)|(apply Aa.Dq;rfl;rfl;omega)|(apply Aa.int;rfl;rfl;rfl)|(apply Aa.AO;rfl;rfl;rfl;omega;rfl)|(apply Aa.load;rfl;rfl)|(apply Aa.AB;rfl;rfl)|(apply Aa.Bz;rfl;rfl)|(apply Aa.AA;rfl;rfl;rfl)|(apply Aa.alloc;rfl)|(apply Aa.AY;rfl;rfl;rfl;trivial;rfl;rfl;exact Ac rfl;exact le_dec rfl)|(apply Ad.AU;rfl)|(apply Ad.Ae;rfl)|(apply Ad.AX;rfl)|(intro _;try (exfalso;omega)))
    all_goals first|(exfalso;omega)|contradiction|(refine Done.ret rfl (.refl _) (by exact PV.Ag rfl) Ap.nil (Nat.zero_le _) (Nat.le_refl _) ⟨?_,rfl,rfl⟩;try rfl)
   ·repeat' (first|apply Ad.assoc|apply Ad.Aw|apply Ad.Bl|apply Ad.Aq|apply Ad.Aj|apply AV.ret|apply AP.ret|apply Az.ret|apply Ad.ret|apply Af.nil|apply Ak.nil|apply Af.one|(apply Ak.bar;decide +kernel)|(apply Af.take;rfl;rfl)|(apply Ak.Ea;rfl;rfl)|(apply Af.guard;rfl;rfl)|(apply Ak.guard;rfl;rfl)|(apply Aa.fn;rfl;rfl;exact hr;intro _;rfl)|(apply Aa.AO (l:=p.sets) (i:=k-1);rfl;exact congrArg (fun b=>some (PV.p (.int .i64 b))) (hkc (by omega));rfl;omega;rfl)|(apply Aa.assign;rfl)|(apply Aa.move;rfl)|(apply Aa.Dq;rfl;rfl;omega)|(apply Aa.int;rfl;rfl;rfl)|(apply Aa.AO;rfl;rfl;rfl;omega;rfl)|(apply Aa.load;rfl;rfl)|(apply Aa.AZ;rfl;rfl)|(apply Aa.AB;rfl;rfl)|(apply Aa.Bz;rfl;rfl)|(apply Aa.AA;rfl;rfl;rfl)|(apply Aa.Dk;rfl;rfl)|(apply Aa.alloc;rfl)|(apply Aa.AY;rfl;rfl;rfl;trivial;rfl;rfl;exact Ac rfl;exact le_dec rfl)|(apply Ad.Ae;rfl)|(apply Ad.AX;rfl)|(intro _;try (exfalso;omega)))
    all_goals first|(exfalso;omega)|contradiction|(refine Done.ret rfl (.refl _) (by exact PV.Ag rfl) Ap.nil (Nat.zero_le _) (Nat.le_refl _) ⟨?_,rfl,rfl⟩;try rfl)
  rw [if_neg (fun h=>h h5)] at e
  rw [h5] at hr
  by_cases h0:k=0
  ·repeat' (first|apply Ad.assoc|apply Ad.Aw|apply Ad.Bl|apply Ad.region|apply Ad.Aq|apply Ad.Aj|apply AV.normal|apply AP.normal|apply Ad.skip|apply Af.nil|apply Ak.nil|apply Af.one|(apply Ak.bar;decide +kernel)|(apply Af.take;rfl;rfl)|(apply Ak.drop;rfl;rfl;rfl)|(apply Af.guard;rfl;rfl)|(apply Ak.guard;rfl;rfl)|(apply Aa.fn;rfl;rfl;exact hr;intro _;rfl)|(apply Aa.assign;rfl)|(apply Aa.move;rfl)|(apply Aa.BD;rfl;rfl;omega)|(apply Aa.Dq;rfl;rfl;omega)|(apply Aa.int;rfl;rfl;rfl)|(apply Aa.AO;rfl;rfl;rfl;omega;rfl)|(apply Aa.load;rfl;rfl)|(apply Aa.AB;rfl;rfl)|(apply Aa.Bz;rfl;rfl)|(apply Aa.AA;rfl;rfl;rfl)|(apply Aa.alloc;rfl)|(apply Aa.AY;rfl;rfl;rfl;trivial;rfl;rfl;exact Ac rfl;exact le_dec rfl)|(apply Ad.AU;rfl)|(apply Ad.Ae;rfl)|(apply Ad.cond_false;rfl)|(intro _;try (exfalso;omega)))
   all_goals try (exfalso;omega)
   all_goals try contradiction
   refine Az.normal ⟨(e.symm.trans hi),by first|omega|decide,?_,?_⟩
   ·repeat (first|exact Ah.nil|refine Ah.same (by exact PV.Ag rfl) rfl ?_|refine Ah.cons trivial rfl (.of_eq (AL (by simp<;>omega))) ?_)
   ·repeat (first|exact Ap.nil|(refine Ap.cons (Ac rfl) ?_ rfl ?_ ?_;(first|exact HB.Ag rfl|exact Ba.Ai _ _|(simp [HB.under,Ba.under,PV.under]));(first|exact BG.refl _|exact BG.vec (Bo.refl _) (by simp))))
  ·repeat' (first|apply Ad.assoc|apply Ad.Aw|apply Ad.Bl|apply Ad.region|apply Ad.Aq|apply Ad.Aj|apply AV.normal|apply AP.normal|apply Ad.skip|apply Af.nil|apply Ak.nil|apply Af.one|(apply Ak.bar;decide +kernel)|(apply Af.take;rfl;rfl)|(apply Ak.Ea;rfl;rfl)|(apply Af.guard;rfl;rfl)|(apply Ak.guard;rfl;rfl)|(apply Aa.fn;rfl;rfl;exact hr;intro _;rfl)|(apply Aa.AO (l:=p.sets) (i:=k-1);rfl;exact congrArg (fun b=>some (PV.p (.int .i64 b))) (hkc (by omega));rfl;omega;rfl)|(apply Aa.assign;rfl)|(apply Aa.move;rfl)|(apply Aa.BD;rfl;rfl;omega)|(apply Aa.Dq;rfl;rfl;omega)|(apply Aa.int;rfl;rfl;rfl)|(apply Aa.AO;rfl;rfl;rfl;omega;rfl)|(apply Aa.load;rfl;rfl)|(apply Aa.AZ;rfl;rfl)|(apply Aa.AB;rfl;rfl)|(apply Aa.Bz;rfl;rfl)|(apply Aa.AA;rfl;rfl;rfl)|(apply Aa.Dk;rfl;rfl)|(apply Aa.alloc;rfl)|(apply Aa.AY;rfl;rfl;rfl;trivial;rfl;rfl;exact Ac rfl;exact le_dec rfl)|(apply Ad.Ae;rfl)|(apply Ad.cond_false;rfl)|(intro _;try (exfalso;omega)))
   all_goals try (exfalso;omega)
   all_goals try contradiction
   refine Az.normal ⟨(e.symm.trans hi),by first|omega|decide,?_,?_⟩
   ·repeat (first|exact Ah.nil|refine Ah.same (by exact PV.Ag rfl) rfl ?_|refine Ah.cons trivial rfl (.of_eq (AL (by simp<;>omega))) ?_)
   ·repeat (first|exact Ap.nil|(refine Ap.cons (Ac rfl) ?_ rfl ?_ ?_;(first|exact HB.Ag rfl|exact Ba.Ai _ _|(simp [HB.under,Ba.under,PV.under]));(first|exact BG.refl _|exact BG.vec (Bo.refl _) (by simp))))
 ·intro hi
  rw [WS] at hi
  rw [← hi]
  repeat' (first|apply Ad.Aw|apply Ad.Bj|apply AV.normal|apply AP.exit|apply Az.exit|apply Ad.ret|apply Af.nil|apply Af.one|(apply Aa.assign;rfl)|(apply Aa.int;rfl;rfl;rfl)|(apply Ad.Ae;rfl)|(intro _;try (exfalso;omega)))
  all_goals first|(exfalso;omega)|(refine Done.ret rfl (.refl _) (by exact PV.Ag rfl) Ap.nil (Nat.zero_le _) (Nat.le_refl _) ⟨?_,rfl,rfl⟩;try rfl)
end Go.Proofs.YtnhdddmhkhdlhaaGreatDoor
namespace Go.Proofs.YtnhdddmhkhdlhaaGreatDoor
open Go Go.Am Go.Vm
attribute [local irreducible] Aa Af Ak Ad Bv AQ BN AV AP Az Vm.Done Cb BH
structure dL where
 lo:Nat
 hi:Nat
instance:Enc dL:={ default:=⟨0,0⟩,enc:=fun x=>[.int .u64 (x.lo:Int),.int .u64 (x.hi:Int)],size:=2,len:=fun _=>rfl }
structure dL.Ok (s:dL):Prop where
 lo:s.lo<2 ^ 64
 hi:s.hi<2 ^ 64
def dL.has (s:dL) (n:Nat):Bool:=if n<64 then s.lo.testBit n else s.hi.testBit (n-64)
def xX (s:dL) (n:Nat):dL:=if n<64 then ⟨s.lo ||| 2 ^ n,s.hi⟩ else ⟨s.lo,s.hi ||| 2 ^ (n-64)⟩
def a7f (a b:dL):dL:=⟨a.lo ||| b.lo,a.hi ||| b.hi⟩
def a5s (a b:dL):Bool:=decide (a.lo ^^^ (a.lo &&& b.lo)=0)&&decide (a.hi ^^^ (a.hi &&& b.hi)=0)
def ofK (l:List Int):Nat→dL
 |0=>⟨0,0⟩
 |k+1=>xX (ofK l k) (gi l k).toNat
def a2w (a:Nat):Nat→dL
 |0=>⟨0,0⟩
 |k+1=>xX (a2w a k) (a+k)
section
variable {E:Env} {L:Vm.Frame} {H:Vm.Heap} {nx:Nat} {Q:PV→Heap→Nat→Prop} {w:Bool} {dst:Option Tmp} {ty:TypeId} {pos:String} {af:Array Edge} {gd:Option (Nat×Bool)}
theorem a3e {t t2:TypeId} {x y:Operand} {k':IntKind} {n:Int} (m:Nat) (hx:BF E.Γ L x=some (.p (.int .u64 1))) (hy:BF E.Γ L y=some (.p (.int k' n))) (hn:n=m∧m<64) (q:Q (.p (.int .u64 ((2 ^ m:Nat):Int))) H nx) :
 Aa E w ⟨dst,.binOp .shl t x y t2,ty,pos,af,gd⟩ L H nx Q:=by
 obtain ⟨rfl,hn⟩:=hn
 exact Aa.X5 hx hy hn q
end
end Go.Proofs.YtnhdddmhkhdlhaaGreatDoor
namespace Go.Vm
open Go.Am
structure a2m where
instance:Enc a2m:={ default:=⟨⟩,enc:=fun _=>[.val (.slice none 0 0)],size:=1,len:=fun _=>rfl }
section
variable {E:Env} {L:Frame} {H:Heap} {nx:Nat}
variable {Q:PV→Heap→Nat→Prop} {dst:Option Tmp} {ty:TypeId} {pos:String} {af:Array Edge} {gd:Option (Nat×Bool)}
theorem Aa.uF {α:Type} {_:Enc α} {l:List α} (a1 a2:α) {s x:Operand} {sT xT e e2:TypeId} {xd:TypeDesc} {i:TypeInfo} {b b2 n:Nat} {xs:List FV} {z z2:Bool} (hs:BF E.Γ L s=some (.vec b n 0 n)) (hb:hget H b=some (.vec e (cells l) n z))
 (hx:BF E.Γ L x=some (.vec b2 2 0 2)) (hb2:hget H b2=some (.vec e2 xs 2 z2)) (hxs:xs=Enc.enc a1++Enc.enc a2) (hn:l.length=n) (kM:E.P.underlying sT=some (.slice e)) (hxT:E.P.underlying xT=some xd) (hd:∀ k,xd≠.int k) (hi:E.P.info? e=some i)
 (hsz:Enc.size α=i.size) (hzs:Ew i=true) (h0:0<i.size) (hby:i.bytes<1000000) (hlen:l.length<900000) (q:Q (.vec b (l.length+2) 0 (l.length+2)) (hput H b (.vec e (cells (l++[a1,a2])) (l.length+2) z)) nx) :
 Aa E true ⟨dst,.call { callee:=.builtin .append,args:=#[s,x],argTypes:=#[sT,xT] },ty,pos,af,gd⟩ L H nx Q:=by
 subst hn
 have hroom:(l.length+2)*(i.bytes+1)≤room:=Nat.le_trans (Nat.mul_le_mul (by omega:l.length+2≤1000000) (by omega:i.bytes+1≤1000000)) (by decide)
 refine Aa.append (i:=i) hs hb (jU.all hx hb2 (by rw [hxs,List.length_append,Enc.len,Enc.len,← hsz];omega)) kM hxT hd hi hzs (by omega) hroom (by rw [Ce,hsz]) h0 ?_
 have:cells (l++[a1,a2])=cells l++xs:=by rw [DX,hxs];simp [cells,encs]
 rw [← this]
 exact q
end
end Go.Vm
namespace Go.Proofs.YtnhdddmhkhdlhaaGreatDoor
open Go Go.Am Go.Vm Go.Pie
attribute [local irreducible] Aa Af Ak Ad Bv AQ BN AV AP Az Vm.Done Cb BH
attribute [local irreducible] Dc BZ EL ES Gj BK Dz
instance:Enc (List Int):={ default:=[],enc:=fun l=>[.lst 3 (cells l) l.length],size:=1,len:=fun _=>rfl }
def uh (p:DY) (L:List Int) (d:Nat):Nat→List Int
 |0=>[]
 |k+1=>if (gi p.notes (gi L k).toNat).d=(d:Int) then uh p L d k++[(gi p.notes (gi L k).toNat).k] else uh p L d k
theorem UJ.cmp {o:EN} (h:UJ o) {i:Nat} (hi:i<o.Au.length):0≤(gi o.Au i).lo∧(gi o.Au i).hi≤127:=by
 have h0:=h.err
 unfold Q5 at h0
 split at h0
 ·exact absurd h0 (by decide)
 split at h0
 ·exact absurd h0 (by decide)
 split at h0
 ·rename_i h1;exact absurd h0 h1
 split at h0
 ·exact absurd h0 (by decide)
 split at h0
 ·exact absurd h0 (by decide)
 split at h0
 ·rename_i h1;exact absurd h0 h1
 rename_i d3
 have d3:F5 o.ranks o.Au 0=0:=Decidable.byContradiction d3
 have:=Rz _ 0 rfl d3 i (Nat.zero_le _) hi
 unfold ES at this
 split at this
 ·rename_i h1;exact absurd this h1
 rename_i h1
 have h1:=Decidable.byContradiction h1
 unfold RZ at h1
 split at h1
 ·exact absurd h1 (by decide)
 omega
def tlK (p:DY) (L:List Int) (k:Nat) (j:Nat):HB:=.vec 3 (cells (uh p L j k)) (uh p L j k).length true
def kdV (p:DY) (L:List Int) (nd k:Nat):HB:=.Nw 41 ((List.range nd).map fun j=>.vec (4+j) (uh p L j k).length 0 (uh p L j k).length) nd
noncomputable def a4u (o:EN) (p:DY) (t:Int):List dL:=CS (fun d=>ofK (uh p (snd p t) d (snd p t).length) (uh p (snd p t) d (snd p t).length).length) o.Au.length
theorem Vk {o:EN} {p:DY} (ho:Ic o) (h:GH p) (t:Int) (he:YH o p t≠0):AQ env 30 [.agg (Enc.enc o),.agg (Enc.enc p),.int .i64 t] (.EK [.p (.val (.slice none 0 0)),.p (.int .i64 (YH o p t))]):=by
 have ha:=Jw o p ho h t
 refine AQ.enter (Ar (by decide)) Tryz.func30 rfl (by kernel_rfl) (by simp [Tryz.ntmps30]) ?_
 repeat' (first|apply Ad.assoc|apply Ad.Aw|apply Ad.Bf|apply Af.nil|apply Af.one|(apply Aa.fn;rfl;rfl;exact ha;intro _;rfl)|(apply Aa.assign;rfl)|(apply Aa.move;rfl)|(apply Aa.int;rfl;rfl;rfl)|(apply Aa.load;rfl;rfl)|(apply Aa.box;rfl;trivial)|(apply Ad.Ae;rfl)|(intro _;try (exfalso;omega)))
 all_goals first|(exfalso;omega)|contradiction|(refine Done.ret rfl (.refl _) (by exact PV.Ag rfl) Ap.nil (Nat.zero_le _) (Nat.le_refl _) ⟨?_,rfl,rfl⟩;try rfl)
end Go.Proofs.YtnhdddmhkhdlhaaGreatDoor
namespace Go.Proofs.YtnhdddmhkhdlhaaGreatDoor
open Go Go.Am Go.Vm Go.Pie
attribute [local irreducible] Aa Af Ak Ad Bv AQ BN AV AP Az Vm.Done Cb BH
attribute [local irreducible] Dc BZ EL ES Gj BK Dz
instance:Enc uZ:={ default:=⟨0,0,[]⟩,enc:=fun x=>[.int .i64 x.s,.int .i64 x.e,.lst 3 (cells x.notes) x.notes.length],size:=3,len:=fun _=>rfl }
def Ui (p:DY):Nat→List Int
 |0=>[Ia p,Iq p]
 |k+1=>Ui p k++[(gi p.notes k).s,(gi p.notes k).e]
theorem Ym (p:DY):∀ k,(Ui p k).length=2*k+2
 |0=>rfl
 |k+1=>by
  have:=Ym p k
  unfold Ui
  simp only [List.length_append,List.length_cons,List.length_nil]
  omega
def F7 (p:DY):List Int:=Lib.compact ((Ui p p.notes.length).mergeSort fun x y=>decide (x≤y))
theorem ZP (zs:List Int):(Lib.compact zs).length≤zs.length:=by
 unfold Lib.compact Lib.compactUpTo
 rw [List.length_map]
 exact Nat.le_trans (List.length_filter_le _ _) (by simp)
theorem uo (p:DY):0<(F7 p).length:=by
 have h0:Ia p∈F7 p:=by
  unfold F7
  rw [SN,List.mem_mergeSort]
  have:∀ k,Ia p∈Ui p k:=by
   intro k
   induction k with
   |zero=>simp [Ui]
   |succ k ih=>exact List.mem_append_left _ ih
  exact this _
 exact List.length_pos_of_mem h0
theorem a1p:∀ (m:Mem) (F:Nat→Prop) (us:List Value),DC m F [] us→us=[]:=fun m F us h=>by cases h;rfl
def tq (p:DY):List uZ:=a3n (snd p) (F7 p)
theorem ZI {o:EN} {p:DY} (ho:Ic o) (hE:I9 o p=0) (h:Wn o p):AQ env 17 [.agg (Enc.enc o),.agg (Enc.enc p)] (.EK [.p (.lst 59 (cells (tq p)) (tq p).length),.p (.int .i64 0)]):=by
 have ha:=Ee o p ho h.sm
 rw [hE] at ha
 have hen:=NR p (by have:=h.bars;omega) h.sm.bars
 have n1:=h.notes
 have hsn:=bH p h.sm
 refine AQ.enter (Ar (by decide)) Tryz.func17 rfl (by kernel_rfl) (by simp [Tryz.ntmps17]) ?_
 repeat' (first|apply Ad.assoc|apply Ad.Aw|apply Ad.Aq|apply Ad.Aj|apply Af.nil|apply Af.one|(apply Aa.fn;rfl;rfl;exact ha;intro _;rfl)|(apply Aa.fn;rfl;rfl;exact hen;intro _;rfl)|(apply Aa.assign;rfl)|(apply Aa.move;rfl)|(apply Aa.int;rfl;rfl;rfl)|(apply Aa.load;rfl;rfl)|(apply Aa.Bz;rfl;rfl)|(apply Aa.AA;rfl;rfl;rfl)|(apply Aa.box;rfl;trivial)|(apply Aa.buildSlice;rfl;rfl;rfl;decide;rfl;rfl;rfl)|(apply Aa.extract;rfl;rfl)|(apply Ad.AU;rfl))
 all_goals try (exfalso;omega)
 all_goals try contradiction
 apply Ad.KU (p.notes.length) [(3,_),(30,_),(31,_)] [(1,_)] (fun k r=>(32,.p (.int .i64 (k:Int)))::(9,.vec 2 (Ui p k).length 0 (Ui p k).length)::r) (fun k r=>(2,.vec 3 (cells (Ui p k)) (Ui p k).length false)::r) 3
 ·first|omega|decide
 ·first|omega|decide
 ·repeat (first|exact Ah.nil|(refine Ah.eq rfl ?_ ?_;(first|exact PV.Ag rfl|(simp [PV.under,Ba.under];done)))|refine Ah.cons trivial rfl (.of_eq (AL (by simp<;>omega))) ?_)
 ·repeat (first|exact Ap.nil|(refine Ap.eq rfl (Ac rfl) ?_ ?_;(first|exact HB.Ag rfl|exact Ba.Ai _ _|(simp [HB.under,Ba.under,PV.under];done)))|(refine Ap.cons (Ac rfl) ?_ rfl ?_ ?_;(first|exact trivial|exact Ba.Ai _ _|(simp [HB.under,Ba.under,PV.under]));(first|exact BG.refl _|exact BG.vec (Bo.refl _) (by simp))))
 ·intro k hk
  have hl:=Ym p k
  have e1:Ui p (k+1)=Ui p k++[(gi p.notes k).s,(gi p.notes k).e]:=rfl
  have e2:(Ui p (k+1)).length=(Ui p k).length+2:=by rw [e1];simp
  repeat' (first|apply Ad.Aw|apply Ad.region|apply Ad.Aq|apply Ad.Aj|apply AV.normal|apply AP.normal|apply Af.nil|apply Af.one|(apply Aa.uF (l:=Ui p k) (gi p.notes k).s (gi p.notes k).e;rfl;rfl;rfl;rfl;rfl;rfl;rfl;rfl;(intro _ h;cases h);rfl;rfl;rfl;decide;decide;omega)|(apply Aa.assign;rfl)|(apply Aa.move;rfl)|(apply Aa.BD;rfl;rfl;omega)|(apply Aa.int;rfl;rfl;rfl)|(apply Aa.AO;rfl;rfl;rfl;omega;rfl)|(apply Aa.load;rfl;rfl)|(apply Aa.AA;rfl;rfl;rfl)|(apply Aa.alloc;rfl)|(apply Aa.AY;rfl;rfl;rfl;trivial;rfl;rfl;exact Ac rfl;exact le_dec rfl)|(apply Aa.buildSlice;rfl;rfl;rfl;decide;rfl;rfl;rfl)|(apply Ad.Ae;rfl)|(intro _;try (exfalso;omega)))
  all_goals try (exfalso;omega)
  refine Az.normal ⟨by first|omega|decide,?_,?_⟩
  ·try (first|rw [e2,e1]|rw [e2])
   repeat (first|exact Ah.nil|refine Ah.same (by exact PV.Ag rfl) rfl ?_|refine Ah.cons trivial rfl (.of_eq (AL (by simp<;>omega))) ?_)
  ·first|rw [e2,e1]|rw [e2]
   repeat (first|exact Ap.nil|(refine Ap.cons (Ac rfl) ?_ rfl ?_ ?_;(first|exact HB.Ag rfl|exact Ba.Ai _ _|(simp [HB.under,Ba.under,PV.under]));(first|exact BG.refl _|exact BG.vec (Bo.refl _) (by simp))))
 ·have hl:=Ym p p.notes.length
  obtain ⟨zs,hzs⟩:∃ zs,zs=Ui p p.notes.length:=⟨_,rfl⟩
  have hcl:=ZP ((Ui p p.notes.length).mergeSort fun x y=>decide (x≤y))
  have hml:((Ui p p.notes.length).mergeSort fun x y=>decide (x≤y)).length=(Ui p p.notes.length).length:=List.length_mergeSort _
  have htp:=uo p
  have htc:((F7 p).length:Int)-1=(((F7 p).length-1:Nat):Int):=by omega
  rw [show Lib.compact ((Ui p p.notes.length).mergeSort fun x y=>decide (x≤y))=F7 p from rfl] at hcl
  repeat' (first|(refine Ad.at 14 ?_;refine Ad.ghost (A8.freeze 9 rfl rfl) ?_;first|apply Ad.Aw|apply Ad.Bl)|apply Ad.assoc|apply Ad.Aw|apply Ad.Bj|apply Ad.Aj|apply AV.normal|apply AP.exit|apply Az.exit|apply Af.nil|apply Af.one|((refine Aa.zZ (Fn:=XC) (zs':=(Ui p p.notes.length).mergeSort fun x y=>decide (x≤y)) wC rfl rfl rfl (rest:=[]) (rv:=[]) a1p rfl rfl (by omega) ?_ (by omega) ?_;(simp only [XC];rw [if_pos (by omega)])))|((refine Aa.a0g (Fn:=W9) (zs:=(Ui p p.notes.length).mergeSort fun x y=>decide (x≤y)) (zs':=F7 p++List.replicate ((Ui p p.notes.length).length-(F7 p).length) 0) (k:=(F7 p).length) wG rfl rfl rfl (rest:=[]) (rv:=[]) a1p rfl hml (by omega) ?_ (by simp;omega) (by omega) ?_;(simp only [W9];rw [if_pos (by omega),hml];rfl);rw [List.take_left]))|(apply Aa.sliceTo (b:=(F7 p).length-1);rfl;exact congrArg (fun b=>some (PV.p (.int .i64 b))) htc;rfl;rfl;rfl;rfl;omega)|(apply Aa.assign;rfl)|(apply Aa.move;rfl)|(apply Aa.Dq;rfl;rfl;omega)|(apply Aa.int;rfl;rfl;rfl)|(apply Aa.Bz;rfl;rfl)|(apply Ad.Ae;rfl)|(intro _;try (exfalso;omega)))
  all_goals try (exfalso;omega)
  refine Ad.ghost (A8.adopt 12 59 rfl) ?_
  obtain ⟨F,hF⟩:∃ F:Nat→uZ,F=fun i=>⟨gi (F7 p) i,gi (F7 p) (i+1),snd p (gi (F7 p) i)⟩:=⟨_,rfl⟩
  have hR:tq p=CS F ((F7 p).length-1):=by rw [hF];rfl
  rw [hR]
  apply Ad.KU ((F7 p).length-1) [(3,_),(9,_),(52,_),(53,_)] [(1,_)] (fun k r=>(54,.p (.int .i64 (k:Int)))::(12,.vec 4 (CS F k).length 0 (CS F k).length)::r) (fun k r=>(4,.vec 59 (cells (CS F k)) (CS F k).length true)::r) 5
  ·first|omega|decide
  ·first|omega|decide
  ·repeat (first|exact Ah.nil|(refine Ah.eq rfl ?_ ?_;(first|exact PV.Ag rfl|(simp [PV.under,Ba.under];done)))|refine Ah.cons trivial rfl (.of_eq (AL (by simp<;>omega))) ?_)
  ·repeat (first|exact Ap.nil|(refine Ap.eq rfl (Ac rfl) ?_ ?_;(first|exact HB.Ag rfl|exact Ba.Ai _ _|(simp [HB.under,Ba.under,PV.under];done)))|(refine Ap.cons (Ac rfl) ?_ rfl ?_ ?_;(first|exact trivial|exact Ba.Ai _ _|(simp [HB.under,Ba.under,PV.under]));(first|exact BG.refl _|exact BG.vec (Bo.refl _) (by simp))))
  ·intro k hk
   have hlF:=FC F k
   have hFk:F k=⟨gi (F7 p) k,gi (F7 p) (k+1),snd p (gi (F7 p) k)⟩:=by rw [hF]
   have e1:CS F (k+1)=CS F k++[⟨gi (F7 p) k,gi (F7 p) (k+1),snd p (gi (F7 p) k)⟩]:=by rw [← hFk];rfl
   have e2:(CS F (k+1)).length=(CS F k).length+1:=by rw [e1];simp
   have hg:gi ((F7 p).take ((F7 p).length-1)) k=gi (F7 p) k:=Uo hk
   have hk1:(k:Int)+1=((k+1:Nat):Int):=by omega
   have hs:=hsn (gi (F7 p) k)
   repeat' (first|(refine Ak.atIdx 10 ?_;refine Ak.ghost (A8.freeze 68 rfl rfl) ?_)|(refine Ak.atIdx 9 ?_;apply Ak.a1w [.tmp 64];decide +kernel;decide +kernel;rfl)|apply Ad.Aw|apply Ad.region|apply Ad.Di|apply Ad.Aq|apply Ad.Aj|apply AV.normal|apply AP.normal|apply Af.nil|apply Ak.nil|apply Af.one|(apply Ak.bar;decide +kernel)|apply Ak.quiet|(apply Aa.fv;rfl;rfl;exact hs)|(apply Aa.AO (l:=(F7 p).take ((F7 p).length-1)) (i:=k);rfl;rfl;rfl;(rw [List.length_take];omega);(rw [List.length_take];omega))|(apply Aa.load (r:=.p (.int .i64 (gi (F7 p) k)));rfl;exact (congrArg (fun b=>some (PV.p (FV.int .i64 b))) hg))|(apply Aa.AO (l:=F7 p) (i:=k+1);rfl;exact congrArg (fun b=>some (PV.p (.int .i64 b))) hk1;rfl;omega;rfl)|(apply Aa.CX (a:=(⟨gi (F7 p) k,gi (F7 p) (k+1),snd p (gi (F7 p) k)⟩:uZ));rfl;rfl;rfl;rfl;rfl;rfl;rfl;rfl;(intro _ h;cases h);rfl;rfl;rfl;decide;decide;(first|omega|(simp only [List.length_take,List.length_drop,List.length_append,List.length_singleton,List.length_cons,List.length_nil]<;>omega)))|(apply Aa.assign;rfl)|(apply Aa.move;rfl)|(apply Aa.BD;rfl;rfl;omega)|(apply Aa.int;rfl;rfl;rfl)|(apply Aa.load;rfl;rfl)|(apply Aa.build;rfl;rfl;rfl;rfl;rfl)|(apply Aa.buildSlice;rfl;rfl;rfl;decide;rfl;rfl;rfl)|(apply Ad.Ae;rfl)|(intro _;try (exfalso;omega)))
   all_goals try (exfalso;omega)
   refine Az.normal ⟨by first|omega|decide,?_,?_⟩
   ·try (first|rw [e2,e1]|rw [e2])
    repeat (first|exact Ah.nil|refine Ah.same (by exact PV.Ag rfl) rfl ?_|refine Ah.cons trivial rfl (.of_eq (AL (by simp<;>omega))) ?_)
   ·first|rw [e2,e1]|rw [e2]
    repeat (first|exact Ap.nil|(refine Ap.cons (Ac rfl) ?_ rfl ?_ ?_;(first|exact HB.Ag rfl|exact Ba.Ai _ _|(simp [HB.under,Ba.under,PV.under]));(first|exact BG.refl _|exact BG.vec (Bo.refl _) (by simp))))
  ·repeat' (first|(refine Af.JE 4 ?_;refine Af.ghost (A8.freeze 73 rfl rfl) ?_)|apply Ad.Aw|apply Ad.Bj|apply AV.normal|apply AP.exit|apply Az.exit|apply Ad.ret|apply Af.nil|apply Af.one|(apply Aa.assign;rfl)|(apply Aa.move;rfl)|(apply Aa.int;rfl;rfl;rfl)|(apply Ad.Ae;rfl)|(intro _;try (exfalso;omega)))
   all_goals first|(exfalso;omega)|(refine Done.ret rfl (.refl _) (by exact PV.Ag rfl) Ap.nil (Nat.zero_le _) (Nat.le_refl _) ⟨?_,rfl,rfl⟩;try rfl)
theorem Qr {o:EN} {p:DY} (ho:Ic o) (hE:I9 o p≠0) (h:GH p):AQ env 17 [.agg (Enc.enc o),.agg (Enc.enc p)] (.EK [.p (.val (.slice none 0 0)),.p (.int .i64 (I9 o p))]):=by
 have ha:=Ee o p ho h
 refine AQ.enter (Ar (by decide)) Tryz.func17 rfl (by kernel_rfl) (by simp [Tryz.ntmps17]) ?_
 repeat' (first|apply Ad.assoc|apply Ad.Aw|apply Ad.Bf|apply Af.nil|apply Af.one|(apply Aa.fn;rfl;rfl;exact ha;intro _;rfl)|(apply Aa.assign;rfl)|(apply Aa.move;rfl)|(apply Aa.int;rfl;rfl;rfl)|(apply Aa.load;rfl;rfl)|(apply Aa.box;rfl;trivial)|(apply Ad.Ae;rfl)|(intro _;try (exfalso;omega)))
 all_goals first|(exfalso;omega)|contradiction|(refine Done.ret rfl (.refl _) (by exact PV.Ag rfl) Ap.nil (Nat.zero_le _) (Nat.le_refl _) ⟨?_,rfl,rfl⟩;try rfl)
end Go.Proofs.YtnhdddmhkhdlhaaGreatDoor
namespace Go.Proofs.YtnhdddmhkhdlhaaGreatDoor
open Go Go.Am Go.Vm Go.Pie
attribute [local irreducible] Aa Af Ak Ad Bv AQ BN AV AP Az Vm.Done Cb BH
attribute [local irreducible] Dc BZ EL ES Gj BK Dz
theorem Ko (l:List Int) (h0:0<l.length) (h1:l.length<1000000):BN env 57 [.lst 3 (cells l) l.length] 3 (cells l) l.length false:=by
 refine BN.enter (Ar (by decide)) Tryz.func57 rfl (by kernel_rfl) (by simp [Tryz.ntmps57]) ?_
 repeat' (first|apply Ad.assoc|apply Ad.Aw|apply Ad.Aq|apply Ad.ret|apply Af.nil|apply Af.one|(apply Aa.OT;rfl;rfl;rfl;exact h0)|(apply Aa.assign;rfl)|(apply Aa.move;rfl)|(apply Aa.buildSlice;rfl;rfl;rfl;decide;rfl;rfl;rfl)|(apply Aa.F8;rfl;rfl;rfl;(first|rfl|omega|(simp only [List.length_take,List.length_drop,List.length_append,List.length_singleton,List.length_cons,List.length_nil]<;>omega));rfl;rfl;(intro _ h;cases h);rfl;rfl;rfl;decide;decide;(first|omega|(simp only [List.length_take,List.length_drop,List.length_append,List.length_singleton,List.length_cons,List.length_nil]<;>omega)))|(apply Ad.AU;rfl))
 exact Cb.ret rfl rfl rfl rfl
def Wi (p:DY) (a z:Int):Nat→List Fg
 |0=>[]
 |k+1=>if (gi p.notes k).s<z∧(gi p.notes k).e>a then Wi p a z k++[⟨max (gi p.notes k).s a,min (gi p.notes k).e z,(gi p.notes k).d,(gi p.notes k).k⟩] else Wi p a z k
theorem je (p:DY) (a z:Int):∀ k,(Wi p a z k).length≤k
 |0=>Nat.le_refl _
 |k+1=>by
  have:=je p a z k
  unfold Wi
  split
  ·simp;omega
  ·omega
def Y1 (p:DY) (f:Nat):List IX:=if 0≤Md p (gi p.bars f)∧(gi p.sets (Md p (gi p.bars f)).toNat).bar<f then [⟨0,(gi p.sets (Md p (gi p.bars f)).toNat).reg⟩] else []
def N9 (p:DY) (f t:Nat) (s0:List IX):Nat→List IX
 |0=>s0
 |k+1=>if (gi p.sets k).bar≥f∧(gi p.sets k).bar<t then N9 p f t s0 k++[⟨(gi p.sets k).bar-f,(gi p.sets k).reg⟩] else N9 p f t s0 k
theorem rO (p:DY) (f:Nat):(Y1 p f).length≤1:=by
 unfold Y1
 split<;>simp
theorem Us (p:DY) (f t:Nat) (s0:List IX):∀ k,(N9 p f t s0 k).length≤s0.length+k
 |0=>Nat.le_refl _
 |k+1=>by
  have:=Us p f t s0 k
  unfold N9
  split
  ·simp;omega
  ·omega
def QX (p:DY) (f t:Nat):List Int:=(p.bars.drop f).take (t+1-f)
def vw (p:DY) (f t:Nat):DY:=⟨QX p f t,Wi p (gi p.bars f) (gi p.bars t) p.notes.length,N9 p f t (Y1 p f) p.sets.length⟩
theorem vJ {p:DY} {f t:Nat} (h1:f<t) (h2:t<p.bars.length):(QX p f t).length=t+1-f:=by
 unfold QX;rw [List.length_take,List.length_drop];omega
theorem nZ {p:DY} {f t i:Nat} (h:i<t+1-f):gi (QX p f t) i=gi p.bars (f+i):=by
 unfold QX gi
 rw [List.getElem?_take_of_lt h,List.getElem?_drop]
def bT:List FV:=[.val (.slice none 0 0),.val (.slice none 0 0),.val (.slice none 0 0)]
theorem pI {o:EN} {p:DY} (ho:UJ o) (hE:I9 o p=0) (h:Wn o p) (f t:Nat) (h1:f<t) (h2:t<p.bars.length):AQ env 22 [.agg (Enc.enc o),.agg (Enc.enc p),.int .i64 (f:Int),.int .i64 (t:Int)] (.EK [.p (.agg (Enc.enc (vw p f t))),.p (.int .i64 0)]):=by
 have ha:=Ee o p ho.sm h.sm
 rw [hE] at ha
 have d1:=ho.Au
 have n1:=h.notes
 have n2:=h.bars
 have n3:=h.sets
 have hBl:=vJ h1 h2
 have hBf:gi (QX p f t) 0=gi p.bars f:=nZ (by omega)
 have hBt:gi (QX p f t) (t+1-f-1)=gi p.bars t:=by rw [nZ (by omega)];congr 1;omega
 have hcb:=Ko (QX p f t) (by omega) (by omega)
 have hen:=NR ⟨QX p f t,[],[]⟩ (by show 0<(QX p f t).length;omega) (by show (QX p f t).length<_;omega)
 rw [show Ia ⟨QX p f t,[],[]⟩=gi p.bars f from hBf,show Iq ⟨QX p f t,[],[]⟩=gi p.bars t by show gi (QX p f t) ((QX p f t).length-1)=_;rw [hBl,hBt]] at hen
 have hen:AQ env 53 [.agg [.lst 3 (cells (QX p f t)) (t+1-f),.val (.slice none 0 0),.val (.slice none 0 0)]] (.EK [.p (.int .i64 (gi p.bars f)),.p (.int .i64 (gi p.bars t))]):=by
  refine AQ.le ?_ hen
  rw [show Enc.enc (⟨QX p f t,[],[]⟩:DY)=[.lst 3 (cells (QX p f t)) (t+1-f),.lst 66 [] 0,.lst 74 [] 0] by show [FV.lst 3 (cells (QX p f t)) (QX p f t).length,_,_]=_;rw [hBl];rfl]
  exact .cons (.agg (.cons (.refl _) (.cons (.nil _) (.cons (.nil _) (.refl _))))) (.refl _)
 have hw:=SQ h (gi p.bars f)
 have hwr:=Vh p (gi p.bars f) p.sets.length
 rw [show Vf p (gi p.bars f) p.sets.length=Md p (gi p.bars f) from rfl] at hwr
 have uQ:∀ i,i<p.sets.length→AQ env 59 [.agg (Enc.enc (gi p.sets i).reg)] (.p (.agg (Enc.enc (gi p.sets i).reg))):=fun i hi=>by
  have hl:=Xg (h.set i hi).2.2
  exact MP _ (by omega) (by omega)
 have hBe:Enc.enc (vw p f t)=[.lst 3 (cells (QX p f t)) (t+1-f),.lst 66 (cells (Wi p (gi p.bars f) (gi p.bars t) p.notes.length)) (Wi p (gi p.bars f) (gi p.bars t) p.notes.length).length,.lst 74 (cells (N9 p f t (Y1 p f) p.sets.length)) (N9 p f t (Y1 p f) p.sets.length).length]:=by
  show [FV.lst 3 (cells (QX p f t)) (QX p f t).length,_,_]=_
  rw [hBl]
  rfl
 rw [hBl] at hcb
 rw [hBe]
 have hS0:=rO p f
 refine AQ.enter (Ar (by decide)) Tryz.func22 rfl (by kernel_rfl) (by simp [Tryz.ntmps22]) ?_
 repeat' (first|(refine Af.JE 49 ?_;refine Af.ghost (A8.freeze 48 rfl rfl) ?_)|apply Ad.assoc|apply Ad.Aw|apply Ad.Aq|apply Ad.Aj|apply Af.nil|apply Af.one|(apply Af.take;rfl;rfl)|(apply Af.guard;rfl;rfl)|(apply Aa.fn;rfl;rfl;exact ha;intro _;rfl)|(apply Aa.fn;rfl;rfl;exact hen;intro _;rfl)|(apply Aa.fv;rfl;rfl;exact hcb)|(apply Aa.vG;rfl;rfl;rfl;rfl;rfl;rfl;rfl;omega)|(apply Aa.assign;rfl)|(apply Aa.move;rfl)|(apply Aa.BD;rfl;rfl;omega)|(apply Aa.Dq;rfl;rfl;omega)|(apply Aa.int;rfl;rfl;rfl)|(apply Aa.load;rfl;rfl)|(apply Aa.AB;rfl;rfl)|(apply Aa.Bz;rfl;rfl)|(apply Aa.AA;rfl;rfl;rfl)|(apply Aa.box;rfl;trivial)|(apply Aa.alloc;rfl)|(apply Aa.AY;rfl;rfl;rfl;trivial;rfl;rfl;exact Ac rfl;exact le_dec rfl)|(apply Aa.build;rfl;rfl;rfl;rfl;rfl)|(apply Aa.extract;rfl;rfl)|(apply Ad.AU;rfl)|(apply Ad.Ae;rfl)|(intro _;try (exfalso;omega)))
 all_goals try (exfalso;omega)
 all_goals try contradiction
 refine Ad.ghost (A8.DN 4 1 66 rfl rfl) ?_
 refine Ad.ghost (A8.DN 4 2 74 rfl rfl) ?_
 have hNl:=je p (gi p.bars f) (gi p.bars t)
 apply Ad.KU (p.notes.length) [(2,_),(3,_),(5,_),(8,_),(12,_),(13,_),(11,_),(56,_),(57,_)] [(1,_),(2,_),(6,_)] (fun k r=>(58,.p (.int .i64 (k:Int)))::r) (fun k r=>(5,.vec 66 (cells (Wi p (gi p.bars f) (gi p.bars t) k)) (Wi p (gi p.bars f) (gi p.bars t) k).length true)::(4,.box 45 [.p (.lst 3 (cells (QX p f t)) (t+1-f)),.vec 5 (Wi p (gi p.bars f) (gi p.bars t) k).length 0 (Wi p (gi p.bars f) (gi p.bars t) k).length,.vec 6 0 0 0])::r) 7
 ·first|omega|decide
 ·first|omega|decide
 ·repeat (first|exact Ah.nil|(refine Ah.eq rfl ?_ ?_;(first|exact PV.Ag rfl|(simp [PV.under,Ba.under];done)))|refine Ah.cons trivial rfl (.of_eq (AL (by simp<;>omega))) ?_)
 ·repeat (first|exact Ap.nil|(refine Ap.eq rfl (Ac rfl) ?_ ?_;(first|exact HB.Ag rfl|exact Ba.Ai _ _|(simp [HB.under,Ba.under,PV.under];done)))|(refine Ap.cons (Ac rfl) ?_ rfl ?_ ?_;(first|exact trivial|exact Ba.Ai _ _|(simp [HB.under,Ba.under,PV.under]));(first|exact BG.refl _|exact BG.vec (Bo.refl _) (by simp))))
 ·intro k hk
  have hl:=hNl k
  have e1:Wi p (gi p.bars f) (gi p.bars t) (k+1)=if (gi p.notes k).s<gi p.bars t∧(gi p.notes k).e>gi p.bars f then Wi p (gi p.bars f) (gi p.bars t) k++[⟨max (gi p.notes k).s (gi p.bars f),min (gi p.notes k).e (gi p.bars t),(gi p.notes k).d,(gi p.notes k).k⟩] else Wi p (gi p.bars f) (gi p.bars t) k:=rfl
  by_cases c:(gi p.notes k).s<gi p.bars t∧(gi p.notes k).e>gi p.bars f
  ·rw [if_pos c] at e1
   have e2:(Wi p (gi p.bars f) (gi p.bars t) (k+1)).length=(Wi p (gi p.bars f) (gi p.bars t) k).length+1:=by rw [e1];simp
   repeat' (first|apply Ad.Aw|apply Ad.region|apply Ad.Aq|apply Ad.Aj|apply AV.normal|apply AP.normal|apply Af.nil|apply Af.one|(apply Af.take;rfl;rfl)|(apply Af.guard;rfl;rfl)|(apply Aa.CX (a:=(⟨max (gi p.notes k).s (gi p.bars f),min (gi p.notes k).e (gi p.bars t),(gi p.notes k).d,(gi p.notes k).k⟩:Fg));rfl;rfl;rfl;rfl;rfl;rfl;rfl;rfl;(intro _ h;cases h);rfl;rfl;rfl;decide;decide;(first|omega|(simp only [List.length_take,List.length_drop,List.length_append,List.length_singleton,List.length_cons,List.length_nil]<;>omega)))|(apply Aa.move;rfl)|(apply Aa.BD;rfl;rfl;omega)|(apply Aa.int;rfl;rfl;rfl)|(apply Aa.AO;rfl;rfl;rfl;omega;rfl)|(apply Aa.load;rfl;rfl)|(apply Aa.AZ;rfl;rfl)|(apply Aa.AA;rfl;rfl;rfl)|(apply Aa.alloc;rfl)|(apply Aa.AY;rfl;rfl;rfl;trivial;rfl;rfl;exact Ac rfl;exact le_dec rfl)|(apply Aa.buildSlice;rfl;rfl;rfl;decide;rfl;rfl;rfl)|(apply Aa.zH;rfl;rfl)|(apply Aa.wH;rfl;rfl)|(apply Ad.Ae;rfl)|(apply Ad.AX;rfl)|(intro _;try (exfalso;omega)))
   all_goals try (exfalso;omega)
   refine Az.normal ⟨by first|omega|decide,?_,?_⟩
   ·try (rw [e2,e1])
    repeat (first|exact Ah.nil|refine Ah.same (by exact PV.Ag rfl) rfl ?_|refine Ah.cons trivial rfl (.of_eq (AL (by simp<;>omega))) ?_)
   ·rw [e2,e1]
    repeat (first|exact Ap.nil|(refine Ap.cons (Ac rfl) ?_ rfl ?_ ?_;(first|exact HB.Ag rfl|exact Ba.Ai _ _|(simp [HB.under,Ba.under,PV.under]));(first|exact BG.refl _|exact BG.vec (Bo.refl _) (by simp))))
  ·rw [if_neg c] at e1
   repeat' (first|apply Ad.Aw|apply Ad.region|apply Ad.Aq|apply Ad.Aj|apply AV.normal|apply AP.normal|apply Ad.skip|apply Af.nil|apply Af.one|(apply Af.take;rfl;rfl)|(apply Af.drop;rfl;rfl;rfl)|(apply Af.guard;rfl;rfl)|(apply Aa.move;rfl)|(apply Aa.BD;rfl;rfl;omega)|(apply Aa.int;rfl;rfl;rfl)|(apply Aa.AO;rfl;rfl;rfl;omega;rfl)|(apply Aa.load;rfl;rfl)|(apply Aa.AZ;rfl;rfl)|(apply Aa.AB;rfl;rfl)|(apply Aa.AA;rfl;rfl;rfl)|(apply Aa.alloc;rfl)|(apply Aa.AY;rfl;rfl;rfl;trivial;rfl;rfl;exact Ac rfl;exact le_dec rfl)|(apply Ad.Ae;rfl)|(apply Ad.cond_false;rfl)|(apply Ad.AX;rfl)|(intro _;try (exfalso;omega)))
   all_goals try (exfalso;omega)
   all_goals
    refine Az.normal ⟨by first|omega|decide,?_,?_⟩
    ·try (rw [e1])
     repeat (first|exact Ah.nil|refine Ah.same (by exact PV.Ag rfl) rfl ?_|refine Ah.cons trivial rfl (.of_eq (AL (by simp<;>omega))) ?_)
    ·rw [e1]
     repeat (first|exact Ap.nil|(refine Ap.cons (Ac rfl) ?_ rfl ?_ ?_;(first|exact HB.Ag rfl|exact Ba.Ai _ _|(simp [HB.under,Ba.under,PV.under]));(first|exact BG.refl _|exact BG.vec (Bo.refl _) (by simp))))
 ·have hl:=hNl p.notes.length
  by_cases c:0≤Md p (gi p.bars f)∧(gi p.sets (Md p (gi p.bars f)).toNat).bar<f
  ·have hS:Y1 p f=[⟨0,(gi p.sets (Md p (gi p.bars f)).toNat).reg⟩]:=by unfold Y1;rw [if_pos c]
   rw [hS]
   have hb:Md p (gi p.bars f)=((Md p (gi p.bars f)).toNat:Int):=by omega
   have hc0:=uQ (Md p (gi p.bars f)).toNat (by omega)
   repeat' (first|apply Ad.assoc|apply Ad.Aw|apply Ad.Bl|apply Ad.Bj|apply Ad.Aj|apply AV.normal|apply AP.exit|apply Az.exit|apply Af.nil|apply Ak.nil|apply Af.one|(apply Ak.bar;decide +kernel)|apply Ak.quiet|(apply Af.take;rfl;rfl)|(apply Af.guard;rfl;rfl)|(apply Aa.fn;rfl;rfl;exact hw;intro _;rfl)|(apply Aa.fn;rfl;rfl;exact hc0;intro _;rfl)|(apply Aa.AO (l:=p.sets) (i:=(Md p (gi p.bars f)).toNat);rfl;exact congrArg (fun b=>some (PV.p (.int .i64 b))) hb;rfl;omega;rfl)|(apply Aa.CX (l:=[]) (a:=(⟨0,(gi p.sets (Md p (gi p.bars f)).toNat).reg⟩:IX));rfl;rfl;rfl;rfl;rfl;rfl;rfl;rfl;(intro _ h;cases h);rfl;rfl;rfl;decide;decide;(first|omega|(simp only [List.length_take,List.length_drop,List.length_append,List.length_singleton,List.length_cons,List.length_nil]<;>omega)))|(apply Aa.assign;rfl)|(apply Aa.move;rfl)|(apply Aa.int;rfl;rfl;rfl)|(apply Aa.load;rfl;rfl)|(apply Aa.AZ;rfl;rfl)|(apply Aa.Bz;rfl;rfl)|(apply Aa.AA;rfl;rfl;rfl)|(apply Aa.Dk;rfl;rfl)|(apply Aa.AY;rfl;rfl;rfl;trivial;rfl;rfl;exact Ac rfl;exact le_dec rfl)|(apply Aa.build;rfl;rfl;rfl;rfl;rfl)|(apply Aa.buildSlice;rfl;rfl;rfl;decide;rfl;rfl;rfl)|(apply Ad.Ae;rfl)|(intro _;try (exfalso;omega)))
   all_goals try (exfalso;omega)
   apply Ad.KU (p.sets.length) [(2,_),(3,_),(5,_),(8,_),(11,_),(118,_),(119,_)] [(1,_),(2,_),(5,_)] (fun k r=>(120,.p (.int .i64 (k:Int)))::r) (fun k r=>(6,.vec 74 (cells (N9 p f t [⟨0,(gi p.sets (Md p (gi p.bars f)).toNat).reg⟩] k)) (N9 p f t [⟨0,(gi p.sets (Md p (gi p.bars f)).toNat).reg⟩] k).length true)::(4,.box 45 [.p (.lst 3 (cells (QX p f t)) (t+1-f)),.vec 5 (Wi p (gi p.bars f) (gi p.bars t) p.notes.length).length 0 (Wi p (gi p.bars f) (gi p.bars t) p.notes.length).length,.vec 6 (N9 p f t [⟨0,(gi p.sets (Md p (gi p.bars f)).toNat).reg⟩] k).length 0 (N9 p f t [⟨0,(gi p.sets (Md p (gi p.bars f)).toNat).reg⟩] k).length])::r) 7
   ·first|omega|decide
   ·first|omega|decide
   ·repeat (first|exact Ah.nil|(refine Ah.eq rfl ?_ ?_;(first|exact PV.Ag rfl|(simp [PV.under,Ba.under];done)))|refine Ah.cons trivial rfl (.of_eq (AL (by simp<;>omega))) ?_)
   ·repeat (first|exact Ap.nil|(refine Ap.eq rfl (Ac rfl) ?_ ?_;(first|exact HB.Ag rfl|exact Ba.Ai _ _|(simp [HB.under,Ba.under,PV.under];done)))|(refine Ap.cons (Ac rfl) ?_ rfl ?_ ?_;(first|exact trivial|exact Ba.Ai _ _|(simp [HB.under,Ba.under,PV.under]));(first|exact BG.refl _|exact BG.vec (Bo.refl _) (by simp))))
   ·intro k hk
    have hl2:=Us p f t [⟨0,(gi p.sets (Md p (gi p.bars f)).toNat).reg⟩] k
    have hl3:([⟨0,(gi p.sets (Md p (gi p.bars f)).toNat).reg⟩]:List IX).length≤1:=by simp
    have e1:N9 p f t [⟨0,(gi p.sets (Md p (gi p.bars f)).toNat).reg⟩] (k+1)=if (gi p.sets k).bar≥f∧(gi p.sets k).bar<t then N9 p f t [⟨0,(gi p.sets (Md p (gi p.bars f)).toNat).reg⟩] k++[⟨(gi p.sets k).bar-f,(gi p.sets k).reg⟩] else N9 p f t [⟨0,(gi p.sets (Md p (gi p.bars f)).toNat).reg⟩] k:=rfl
    have hck:=uQ k hk
    have hsk:=(h.set k hk).1
    by_cases d:(gi p.sets k).bar≥f∧(gi p.sets k).bar<t
    ·rw [if_pos d] at e1
     have e2:(N9 p f t [⟨0,(gi p.sets (Md p (gi p.bars f)).toNat).reg⟩] (k+1)).length=(N9 p f t [⟨0,(gi p.sets (Md p (gi p.bars f)).toNat).reg⟩] k).length+1:=by rw [e1];simp
     repeat' (first|apply Ad.Aw|apply Ad.region|apply Ad.Di|apply Ad.Aq|apply Ad.Aj|apply AV.normal|apply AP.normal|apply Af.nil|apply Ak.nil|apply Af.one|(apply Ak.bar;decide +kernel)|apply Ak.quiet|(apply Af.take;rfl;rfl)|(apply Af.guard;rfl;rfl)|(apply Aa.fn;rfl;rfl;exact hck;intro _;rfl)|(apply Aa.CX (a:=(⟨(gi p.sets k).bar-f,(gi p.sets k).reg⟩:IX));rfl;rfl;rfl;rfl;rfl;rfl;rfl;rfl;(intro _ h;cases h);rfl;rfl;rfl;decide;decide;(first|omega|(simp only [List.length_take,List.length_drop,List.length_append,List.length_singleton,List.length_cons,List.length_nil]<;>omega)))|(apply Aa.move;rfl)|(apply Aa.BD;rfl;rfl;omega)|(apply Aa.Dq;rfl;rfl;omega)|(apply Aa.int;rfl;rfl;rfl)|(apply Aa.AO;rfl;rfl;rfl;omega;rfl)|(apply Aa.load;rfl;rfl)|(apply Aa.AZ;rfl;rfl)|(apply Aa.AA;rfl;rfl;rfl)|(apply Aa.alloc;rfl)|(apply Aa.AY;rfl;rfl;rfl;trivial;rfl;rfl;exact Ac rfl;exact le_dec rfl)|(apply Aa.build;rfl;rfl;rfl;rfl;rfl)|(apply Aa.buildSlice;rfl;rfl;rfl;decide;rfl;rfl;rfl)|(apply Ad.Ae;rfl)|(apply Ad.AX;rfl)|(intro _;try (exfalso;omega)))
     all_goals try (exfalso;omega)
     refine Az.normal ⟨by first|omega|decide,?_,?_⟩
     ·try (rw [e2,e1])
      repeat (first|exact Ah.nil|refine Ah.same (by exact PV.Ag rfl) rfl ?_|refine Ah.cons trivial rfl (.of_eq (AL (by simp<;>omega))) ?_)
     ·rw [e2,e1]
      repeat (first|exact Ap.nil|(refine Ap.cons (Ac rfl) ?_ rfl ?_ ?_;(first|exact HB.Ag rfl|exact Ba.Ai _ _|(simp [HB.under,Ba.under,PV.under]));(first|exact BG.refl _|exact BG.vec (Bo.refl _) (by simp))))
    ·rw [if_neg d] at e1
     repeat' (first|apply Ad.Aw|apply Ad.region|apply Ad.Aq|apply Ad.Aj|apply AV.normal|apply AP.normal|apply Ad.skip|apply Af.nil|apply Af.one|(apply Af.take;rfl;rfl)|(apply Af.drop;rfl;rfl;rfl)|(apply Af.guard;rfl;rfl)|(apply Aa.move;rfl)|(apply Aa.BD;rfl;rfl;omega)|(apply Aa.int;rfl;rfl;rfl)|(apply Aa.AO;rfl;rfl;rfl;omega;rfl)|(apply Aa.load;rfl;rfl)|(apply Aa.AZ;rfl;rfl)|(apply Aa.AB;rfl;rfl)|(apply Aa.AA;rfl;rfl;rfl)|(apply Aa.alloc;rfl)|(apply Aa.AY;rfl;rfl;rfl;trivial;rfl;rfl;exact Ac rfl;exact le_dec rfl)|(apply Ad.Ae;rfl)|(apply Ad.cond_false;rfl)|(apply Ad.AX;rfl)|(intro _;try (exfalso;omega)))
     all_goals try (exfalso;omega)
     all_goals
      refine Az.normal ⟨by first|omega|decide,?_,?_⟩
      ·try (rw [e1])
       repeat (first|exact Ah.nil|refine Ah.same (by exact PV.Ag rfl) rfl ?_|refine Ah.cons trivial rfl (.of_eq (AL (by simp<;>omega))) ?_)
      ·rw [e1]
       repeat (first|exact Ap.nil|(refine Ap.cons (Ac rfl) ?_ rfl ?_ ?_;(first|exact HB.Ag rfl|exact Ba.Ai _ _|(simp [HB.under,Ba.under,PV.under]));(first|exact BG.refl _|exact BG.vec (Bo.refl _) (by simp))))
   ·repeat' (first|(refine Ad.at 24 ?_;refine Ad.ghost (A8.trans (A8.BA 4 1 rfl rfl rfl) (A8.BA 4 2 rfl rfl rfl)) ?_;first|apply Ad.Aw|apply Ad.Bl)|apply Ad.Aw|apply Ad.Bj|apply AV.normal|apply AP.exit|apply Az.exit|apply Ad.ret|apply Af.nil|apply Af.one|(apply Aa.assign;rfl)|(apply Aa.int;rfl;rfl;rfl)|(apply Aa.load;rfl;rfl)|(apply Aa.AY;rfl;rfl;rfl;trivial;rfl;rfl;exact Ac rfl;exact le_dec rfl)|(apply Ad.Ae;rfl)|(intro _;try (exfalso;omega)))
    all_goals first|(exfalso;omega)|(refine Done.ret rfl (.refl _) (by exact PV.Ag rfl) Ap.nil (Nat.zero_le _) (Nat.le_refl _) ⟨?_,rfl,rfl⟩;try rfl)
  ·have hS:Y1 p f=[]:=by unfold Y1;rw [if_neg c]
   rw [hS]
   by_cases c2:0≤Md p (gi p.bars f)
   ·have hb:Md p (gi p.bars f)=((Md p (gi p.bars f)).toNat:Int):=by omega
    repeat' (first|apply Ad.assoc|apply Ad.Aw|apply Ad.Aq|apply Ad.Bj|apply Ad.Aj|apply AV.normal|apply AP.exit|apply Az.exit|apply Af.nil|apply Af.one|(apply Af.take;rfl;rfl)|(apply Af.guard;rfl;rfl)|(apply Aa.fn;rfl;rfl;exact hw;intro _;rfl)|(apply Aa.AO (l:=p.sets) (i:=(Md p (gi p.bars f)).toNat);rfl;exact congrArg (fun b=>some (PV.p (.int .i64 b))) hb;rfl;omega;rfl)|(apply Aa.assign;rfl)|(apply Aa.move;rfl)|(apply Aa.int;rfl;rfl;rfl)|(apply Aa.load;rfl;rfl)|(apply Aa.AZ;rfl;rfl)|(apply Aa.Bz;rfl;rfl)|(apply Aa.AA;rfl;rfl;rfl)|(apply Aa.Dk;rfl;rfl)|(apply Ad.Ae;rfl)|(intro _;try (exfalso;omega)))
    all_goals try (exfalso;omega)
    apply Ad.KU (p.sets.length) [(2,_),(3,_),(5,_),(8,_),(11,_),(118,_),(119,_)] [(1,_),(2,_),(5,_)] (fun k r=>(120,.p (.int .i64 (k:Int)))::r) (fun k r=>(6,.vec 74 (cells (N9 p f t [] k)) (N9 p f t [] k).length true)::(4,.box 45 [.p (.lst 3 (cells (QX p f t)) (t+1-f)),.vec 5 (Wi p (gi p.bars f) (gi p.bars t) p.notes.length).length 0 (Wi p (gi p.bars f) (gi p.bars t) p.notes.length).length,.vec 6 (N9 p f t [] k).length 0 (N9 p f t [] k).length])::r) 7
    ·first|omega|decide
    ·first|omega|decide
    ·repeat (first|exact Ah.nil|(refine Ah.eq rfl ?_ ?_;(first|exact PV.Ag rfl|(simp [PV.under,Ba.under];done)))|refine Ah.cons trivial rfl (.of_eq (AL (by simp<;>omega))) ?_)
    ·repeat (first|exact Ap.nil|(refine Ap.eq rfl (Ac rfl) ?_ ?_;(first|exact HB.Ag rfl|exact Ba.Ai _ _|(simp [HB.under,Ba.under,PV.under];done)))|(refine Ap.cons (Ac rfl) ?_ rfl ?_ ?_;(first|exact trivial|exact Ba.Ai _ _|(simp [HB.under,Ba.under,PV.under]));(first|exact BG.refl _|exact BG.vec (Bo.refl _) (by simp))))
    ·intro k hk
     have hl2:=Us p f t [] k
     have hl3:([]:List IX).length≤1:=by simp
     have e1:N9 p f t [] (k+1)=if (gi p.sets k).bar≥f∧(gi p.sets k).bar<t then N9 p f t [] k++[⟨(gi p.sets k).bar-f,(gi p.sets k).reg⟩] else N9 p f t [] k:=rfl
     have hck:=uQ k hk
     have hsk:=(h.set k hk).1
     by_cases d:(gi p.sets k).bar≥f∧(gi p.sets k).bar<t
     ·rw [if_pos d] at e1
      have e2:(N9 p f t [] (k+1)).length=(N9 p f t [] k).length+1:=by rw [e1];simp
      repeat' (first|apply Ad.Aw|apply Ad.region|apply Ad.Di|apply Ad.Aq|apply Ad.Aj|apply AV.normal|apply AP.normal|apply Af.nil|apply Ak.nil|apply Af.one|(apply Ak.bar;decide +kernel)|apply Ak.quiet|(apply Af.take;rfl;rfl)|(apply Af.guard;rfl;rfl)|(apply Aa.fn;rfl;rfl;exact hck;intro _;rfl)|(apply Aa.CX (a:=(⟨(gi p.sets k).bar-f,(gi p.sets k).reg⟩:IX));rfl;rfl;rfl;rfl;rfl;rfl;rfl;rfl;(intro _ h;cases h);rfl;rfl;rfl;decide;decide;(first|omega|(simp only [List.length_take,List.length_drop,List.length_append,List.length_singleton,List.length_cons,List.length_nil]<;>omega)))|(apply Aa.move;rfl)|(apply Aa.BD;rfl;rfl;omega)|(apply Aa.Dq;rfl;rfl;omega)|(apply Aa.int;rfl;rfl;rfl)|(apply Aa.AO;rfl;rfl;rfl;omega;rfl)|(apply Aa.load;rfl;rfl)|(apply Aa.AZ;rfl;rfl)|(apply Aa.AA;rfl;rfl;rfl)|(apply Aa.alloc;rfl)|(apply Aa.AY;rfl;rfl;rfl;trivial;rfl;rfl;exact Ac rfl;exact le_dec rfl)|(apply Aa.build;rfl;rfl;rfl;rfl;rfl)|(apply Aa.buildSlice;rfl;rfl;rfl;decide;rfl;rfl;rfl)|(apply Ad.Ae;rfl)|(apply Ad.AX;rfl)|(intro _;try (exfalso;omega)))
      all_goals try (exfalso;omega)
      refine Az.normal ⟨by first|omega|decide,?_,?_⟩
      ·try (rw [e2,e1])
       repeat (first|exact Ah.nil|refine Ah.same (by exact PV.Ag rfl) rfl ?_|refine Ah.cons trivial rfl (.of_eq (AL (by simp<;>omega))) ?_)
      ·rw [e2,e1]
       repeat (first|exact Ap.nil|(refine Ap.cons (Ac rfl) ?_ rfl ?_ ?_;(first|exact HB.Ag rfl|exact Ba.Ai _ _|(simp [HB.under,Ba.under,PV.under]));(first|exact BG.refl _|exact BG.vec (Bo.refl _) (by simp))))
     ·rw [if_neg d] at e1
      repeat' (first|apply Ad.Aw|apply Ad.region|apply Ad.Aq|apply Ad.Aj|apply AV.normal|apply AP.normal|apply Ad.skip|apply Af.nil|apply Af.one|(apply Af.take;rfl;rfl)|(apply Af.drop;rfl;rfl;rfl)|(apply Af.guard;rfl;rfl)|(apply Aa.move;rfl)|(apply Aa.BD;rfl;rfl;omega)|(apply Aa.int;rfl;rfl;rfl)|(apply Aa.AO;rfl;rfl;rfl;omega;rfl)|(apply Aa.load;rfl;rfl)|(apply Aa.AZ;rfl;rfl)|(apply Aa.AB;rfl;rfl)|(apply Aa.AA;rfl;rfl;rfl)|(apply Aa.alloc;rfl)|(apply Aa.AY;rfl;rfl;rfl;trivial;rfl;rfl;exact Ac rfl;exact le_dec rfl)|(apply Ad.Ae;rfl)|(apply Ad.cond_false;rfl)|(apply Ad.AX;rfl)|(intro _;try (exfalso;omega)))
      all_goals try (exfalso;omega)
      all_goals
       refine Az.normal ⟨by first|omega|decide,?_,?_⟩
       ·try (rw [e1])
        repeat (first|exact Ah.nil|refine Ah.same (by exact PV.Ag rfl) rfl ?_|refine Ah.cons trivial rfl (.of_eq (AL (by simp<;>omega))) ?_)
       ·rw [e1]
        repeat (first|exact Ap.nil|(refine Ap.cons (Ac rfl) ?_ rfl ?_ ?_;(first|exact HB.Ag rfl|exact Ba.Ai _ _|(simp [HB.under,Ba.under,PV.under]));(first|exact BG.refl _|exact BG.vec (Bo.refl _) (by simp))))
    ·repeat' (first|(refine Ad.at 24 ?_;refine Ad.ghost (A8.trans (A8.BA 4 1 rfl rfl rfl) (A8.BA 4 2 rfl rfl rfl)) ?_;first|apply Ad.Aw|apply Ad.Bl)|apply Ad.Aw|apply Ad.Bj|apply AV.normal|apply AP.exit|apply Az.exit|apply Ad.ret|apply Af.nil|apply Af.one|(apply Aa.assign;rfl)|(apply Aa.int;rfl;rfl;rfl)|(apply Aa.load;rfl;rfl)|(apply Aa.AY;rfl;rfl;rfl;trivial;rfl;rfl;exact Ac rfl;exact le_dec rfl)|(apply Ad.Ae;rfl)|(intro _;try (exfalso;omega)))
     all_goals first|(exfalso;omega)|(refine Done.ret rfl (.refl _) (by exact PV.Ag rfl) Ap.nil (Nat.zero_le _) (Nat.le_refl _) ⟨?_,rfl,rfl⟩;try rfl)
   ·repeat' (first|apply Ad.assoc|apply Ad.Aw|apply Ad.Aq|apply Ad.Bj|apply Ad.Aj|apply AV.normal|apply AP.exit|apply Az.exit|apply Af.nil|apply Af.one|(apply Af.drop;rfl;rfl;rfl)|(apply Af.guard;rfl;rfl)|(apply Aa.fn;rfl;rfl;exact hw;intro _;rfl)|(apply Aa.assign;rfl)|(apply Aa.move;rfl)|(apply Aa.int;rfl;rfl;rfl)|(apply Aa.load;rfl;rfl)|(apply Aa.AB;rfl;rfl)|(apply Aa.Bz;rfl;rfl)|(apply Aa.AA;rfl;rfl;rfl)|(apply Ad.AU;rfl)|(apply Ad.Ae;rfl)|(intro _;try (exfalso;omega)))
    all_goals try (exfalso;omega)
    apply Ad.KU (p.sets.length) [(2,_),(3,_),(5,_),(8,_),(11,_),(118,_),(119,_)] [(1,_),(2,_),(5,_)] (fun k r=>(120,.p (.int .i64 (k:Int)))::r) (fun k r=>(6,.vec 74 (cells (N9 p f t [] k)) (N9 p f t [] k).length true)::(4,.box 45 [.p (.lst 3 (cells (QX p f t)) (t+1-f)),.vec 5 (Wi p (gi p.bars f) (gi p.bars t) p.notes.length).length 0 (Wi p (gi p.bars f) (gi p.bars t) p.notes.length).length,.vec 6 (N9 p f t [] k).length 0 (N9 p f t [] k).length])::r) 7
    ·first|omega|decide
    ·first|omega|decide
    ·repeat (first|exact Ah.nil|(refine Ah.eq rfl ?_ ?_;(first|exact PV.Ag rfl|(simp [PV.under,Ba.under];done)))|refine Ah.cons trivial rfl (.of_eq (AL (by simp<;>omega))) ?_)
    ·repeat (first|exact Ap.nil|(refine Ap.eq rfl (Ac rfl) ?_ ?_;(first|exact HB.Ag rfl|exact Ba.Ai _ _|(simp [HB.under,Ba.under,PV.under];done)))|(refine Ap.cons (Ac rfl) ?_ rfl ?_ ?_;(first|exact trivial|exact Ba.Ai _ _|(simp [HB.under,Ba.under,PV.under]));(first|exact BG.refl _|exact BG.vec (Bo.refl _) (by simp))))
    ·intro k hk
     have hl2:=Us p f t [] k
     have hl3:([]:List IX).length≤1:=by simp
     have e1:N9 p f t [] (k+1)=if (gi p.sets k).bar≥f∧(gi p.sets k).bar<t then N9 p f t [] k++[⟨(gi p.sets k).bar-f,(gi p.sets k).reg⟩] else N9 p f t [] k:=rfl
     have hck:=uQ k hk
     have hsk:=(h.set k hk).1
     by_cases d:(gi p.sets k).bar≥f∧(gi p.sets k).bar<t
     ·rw [if_pos d] at e1
      have e2:(N9 p f t [] (k+1)).length=(N9 p f t [] k).length+1:=by rw [e1];simp
      repeat' (first|apply Ad.Aw|apply Ad.region|apply Ad.Di|apply Ad.Aq|apply Ad.Aj|apply AV.normal|apply AP.normal|apply Af.nil|apply Ak.nil|apply Af.one|(apply Ak.bar;decide +kernel)|apply Ak.quiet|(apply Af.take;rfl;rfl)|(apply Af.guard;rfl;rfl)|(apply Aa.fn;rfl;rfl;exact hck;intro _;rfl)|(apply Aa.CX (a:=(⟨(gi p.sets k).bar-f,(gi p.sets k).reg⟩:IX));rfl;rfl;rfl;rfl;rfl;rfl;rfl;rfl;(intro _ h;cases h);rfl;rfl;rfl;decide;decide;(first|omega|(simp only [List.length_take,List.length_drop,List.length_append,List.length_singleton,List.length_cons,List.length_nil]<;>omega)))|(apply Aa.move;rfl)|(apply Aa.BD;rfl;rfl;omega)|(apply Aa.Dq;rfl;rfl;omega)|(apply Aa.int;rfl;rfl;rfl)|(apply Aa.AO;rfl;rfl;rfl;omega;rfl)|(apply Aa.load;rfl;rfl)|(apply Aa.AZ;rfl;rfl)|(apply Aa.AA;rfl;rfl;rfl)|(apply Aa.alloc;rfl)|(apply Aa.AY;rfl;rfl;rfl;trivial;rfl;rfl;exact Ac rfl;exact le_dec rfl)|(apply Aa.build;rfl;rfl;rfl;rfl;rfl)|(apply Aa.buildSlice;rfl;rfl;rfl;decide;rfl;rfl;rfl)|(apply Ad.Ae;rfl)|(apply Ad.AX;rfl)|(intro _;try (exfalso;omega)))
      all_goals try (exfalso;omega)
      refine Az.normal ⟨by first|omega|decide,?_,?_⟩
      ·try (rw [e2,e1])
       repeat (first|exact Ah.nil|refine Ah.same (by exact PV.Ag rfl) rfl ?_|refine Ah.cons trivial rfl (.of_eq (AL (by simp<;>omega))) ?_)
      ·rw [e2,e1]
       repeat (first|exact Ap.nil|(refine Ap.cons (Ac rfl) ?_ rfl ?_ ?_;(first|exact HB.Ag rfl|exact Ba.Ai _ _|(simp [HB.under,Ba.under,PV.under]));(first|exact BG.refl _|exact BG.vec (Bo.refl _) (by simp))))
     ·rw [if_neg d] at e1
      repeat' (first|apply Ad.Aw|apply Ad.region|apply Ad.Aq|apply Ad.Aj|apply AV.normal|apply AP.normal|apply Ad.skip|apply Af.nil|apply Af.one|(apply Af.take;rfl;rfl)|(apply Af.drop;rfl;rfl;rfl)|(apply Af.guard;rfl;rfl)|(apply Aa.move;rfl)|(apply Aa.BD;rfl;rfl;omega)|(apply Aa.int;rfl;rfl;rfl)|(apply Aa.AO;rfl;rfl;rfl;omega;rfl)|(apply Aa.load;rfl;rfl)|(apply Aa.AZ;rfl;rfl)|(apply Aa.AB;rfl;rfl)|(apply Aa.AA;rfl;rfl;rfl)|(apply Aa.alloc;rfl)|(apply Aa.AY;rfl;rfl;rfl;trivial;rfl;rfl;exact Ac rfl;exact le_dec rfl)|(apply Ad.Ae;rfl)|(apply Ad.cond_false;rfl)|(apply Ad.AX;rfl)|(intro _;try (exfalso;omega)))
      all_goals try (exfalso;omega)
      all_goals
       refine Az.normal ⟨by first|omega|decide,?_,?_⟩
       ·try (rw [e1])
        repeat (first|exact Ah.nil|refine Ah.same (by exact PV.Ag rfl) rfl ?_|refine Ah.cons trivial rfl (.of_eq (AL (by simp<;>omega))) ?_)
       ·rw [e1]
        repeat (first|exact Ap.nil|(refine Ap.cons (Ac rfl) ?_ rfl ?_ ?_;(first|exact HB.Ag rfl|exact Ba.Ai _ _|(simp [HB.under,Ba.under,PV.under]));(first|exact BG.refl _|exact BG.vec (Bo.refl _) (by simp))))
    ·repeat' (first|(refine Ad.at 24 ?_;refine Ad.ghost (A8.trans (A8.BA 4 1 rfl rfl rfl) (A8.BA 4 2 rfl rfl rfl)) ?_;first|apply Ad.Aw|apply Ad.Bl)|apply Ad.Aw|apply Ad.Bj|apply AV.normal|apply AP.exit|apply Az.exit|apply Ad.ret|apply Af.nil|apply Af.one|(apply Aa.assign;rfl)|(apply Aa.int;rfl;rfl;rfl)|(apply Aa.load;rfl;rfl)|(apply Aa.AY;rfl;rfl;rfl;trivial;rfl;rfl;exact Ac rfl;exact le_dec rfl)|(apply Ad.Ae;rfl)|(intro _;try (exfalso;omega)))
     all_goals first|(exfalso;omega)|(refine Done.ret rfl (.refl _) (by exact PV.Ag rfl) Ap.nil (Nat.zero_le _) (Nat.le_refl _) ⟨?_,rfl,rfl⟩;try rfl)
end Go.Proofs.YtnhdddmhkhdlhaaGreatDoor
namespace Go.Vm
open Go.Am
variable {E:Env} {L:Frame} {H:Heap} {nx:Nat}
section
variable {Q:PV→Heap→Nat→Prop} {w:Bool} {dst:Option Tmp} {ty:TypeId} {pos:String} {af:Array Edge} {gd:Option (Nat×Bool)}
theorem Aa.Oh {x:Operand} {b tag off:Nat} {e:TypeId} {cs:List FV} {z:Bool} (hx:BF E.Γ L x=some (.Ei b tag off)) (hb:hget H b=some (.vec e cs tag z)) (q:Q (.Ei b tag off) H nx) :
 Aa E w ⟨dst,.nilCheck x,ty,pos,af,gd⟩ L H nx Q :=
 Aa.quiet q fun m F σ tt h1 h2=>by
  obtain ⟨c,k',g,h3,h4⟩:=MO h1 h2 hx hb
  refine ⟨.pointer (some ⟨c,off,some g⟩),fun _=>by simp only [CG,Fp,h3],.Ei (h1.hp b _ hb).1 rfl fun n hn=>?_⟩
  simp only [htag,hb,HB.tag,Option.map_some,Option.some.injEq,Tg.vec.injEq] at hn
  exact ⟨by omega,fun _=>⟨c,k',g,h4,rfl⟩⟩
end
end Go.Vm
namespace Go.Vm
open Go.Am
theorem Zk {α:Type} [Enc α] (l:List α) (i f:Nat) (hi:i<l.length) (hf:f≤Enc.size α):(cells l).drop (i*Enc.size α+f)=(Enc.enc (gi l i)).drop f++cells (l.drop (i+1)):=by
 rw [← List.drop_drop,Ld l i hi,List.drop_append_of_le_length (by rw [Enc.len];exact hf)]
section
variable {E:Env} {L:Frame} {H:Heap} {nx:Nat} {Q:PV→Heap→Nat→Prop} {w:Bool}
variable {dst:Option Tmp} {ty:TypeId} {pos:String} {af:Array Edge} {gd:Option (Nat×Bool)}
variable {bn:Nat} {ops:Array Oper} {op:Op} {l:List Oper} {i:Nat} {R:Frame→Heap→Nat→Prop}
def a2p (E:Env) (bn d:Nat) (ops:Array Oper) (i:Nat) (l:List Oper) (L:Frame) (H:Heap) (nx:Nat) (Q:Frame→Heap→Nat→Prop):Prop :=
 ∀ (B:Base),B.nx=bn→∀ m F σ t,Ctx E.Γ m F σ H nx→RL m F (htag H) σ nx L t→DW t d=.slice emptyAt 0 0→B.to m F σ H nx →
  Hy E.P E.O E.G ops i l ⟨t,m⟩ fun s'=>∃ L' H' nx' F' σ',Q L' H' nx'∧Ctx E.Γ s'.m F' σ' H' nx'∧RL s'.m F' (htag H') σ' nx' L' s'.t∧B.to s'.m F' σ' H' nx'
theorem Aa.Rh {α:Type} {_:Enc α} {t:TypeId} {a:Operand} {b n i f:Nat} {e:TypeId} {l:List α} {z:Bool} {r:FV} (ha:BF E.Γ L a=some (.Ei b n (i*Enc.size α+f))) (hb:hget H b=some (.vec e (cells l) n z)) (hi:i<l.length) (hf:f≤Enc.size α)
 (h:U8 E.P t ((Enc.enc (gi l i)).drop f++cells (l.drop (i+1)))=some r) (q:Q (.p r) H nx):Aa E w ⟨dst,.load t a,ty,pos,af,gd⟩ L H nx Q :=
 Aa.xE ha hb (by rw [Zk l i f hi hf];exact h) q
end
end Go.Vm
namespace Go.Proofs.YtnhdddmhkhdlhaaGreatDoor
open Go Go.Am Go.Vm Go.Pie
attribute [local irreducible] Aa Af Ak Ad Bv AQ BN AV AP Az Vm.Done Cb BH
attribute [local irreducible] Dc BZ EL ES Gj BK Dz
def lkF (p:DY) (L:List Int) (k d:Nat):dL:=ofK (uh p L d k) (uh p L d k).length
end Go.Proofs.YtnhdddmhkhdlhaaGreatDoor
namespace Go.Proofs.YtnhdddmhkhdlhaaGreatDoor
open Go Go.Am Go.Vm Go.Pie
attribute [local irreducible] Aa Af Ak Ad Bv AQ BN AV AP Az Vm.Done Cb BH
attribute [local irreducible] Dc BZ EL ES Gj BK Dz
noncomputable instance (a b:Rgs):Decidable (a=b):=Classical.propDecidable _
noncomputable instance (a b:IX):Decidable (a=b):=Classical.propDecidable _
noncomputable instance (a b:DY):Decidable (a=b):=Classical.propDecidable _
theorem NU {α:Type} [Inhabited α] {a b:List α} {k:Nat} (hok:∀ i,i<k→gi a i=gi b i) (h:gi a k=gi b k):∀ i,i<k+1→gi a i=gi b i:=fun i hi=>by
 rcases Nat.lt_or_ge i k with h1|h1
 ·exact hok i h1
 ·obtain rfl:i=k:=by omega
  exact h
theorem a1r (a b:List Nat) (ha:a.length<9223372036854775808) (hb:b.length<9223372036854775808):AQ env 65 [.lst 68 (cells a) a.length,.lst 68 (cells b) b.length] (.p (.bool (decide (a=b)))):=by
 by_cases hlen:a.length=b.length
 case neg =>
  rw [decide_eq_false (fun e=>hlen (by rw [e]))]
  refine AQ.enter (Ar (by decide)) Tryz.func65 rfl (by kernel_rfl) (by simp [Tryz.ntmps65]) ?_
  repeat' (first|apply Ad.assoc|apply Ad.Aw|apply Ad.Bf|apply Af.nil|apply Af.one|(apply Aa.assign;rfl)|(apply Aa.move;rfl)|(apply Aa.int;rfl;rfl;rfl)|(apply Aa.Bz;rfl;rfl)|(apply Ad.Ae;rfl)|(intro _;try (exfalso;omega)))
  all_goals first|(exfalso;omega)|contradiction|(refine Done.ret rfl (.refl _) (by exact PV.Ag rfl) Ap.nil (Nat.zero_le _) (Nat.le_refl _) ⟨?_,rfl,rfl⟩;try rfl)
 refine AQ.enter (Ar (by decide)) Tryz.func65 rfl (by kernel_rfl) (by simp [Tryz.ntmps65]) ?_
 repeat' (first|apply Ad.assoc|apply Ad.Aw|apply Ad.Aq|apply Ad.Aj|apply Af.nil|apply Af.one|(apply Aa.assign;rfl)|(apply Aa.move;rfl)|(apply Aa.int;rfl;rfl;rfl)|(apply Aa.Bz;rfl;rfl)|(apply Ad.Ae;rfl)|(intro _;try (exfalso;omega)))
 all_goals try (exfalso;omega)
 apply Ad.H8 (a.length) (fun k=>∀ i,i<k→gi a i=gi b i) [(0,_),(1,_),(12,_)] [] (fun k r=>(13,.p (.int .i64 (k:Int)))::r) (fun k r=>r) 0
 ·first|omega|decide
 ·first|omega|decide
 ·repeat (first|exact Ah.nil|(refine Ah.eq rfl ?_ ?_;(first|exact PV.Ag rfl|(simp [PV.under,Ba.under];done)))|refine Ah.cons trivial rfl (.of_eq (AL (by simp<;>omega))) ?_)
 ·repeat (first|exact Ap.nil|(refine Ap.eq rfl (Ac rfl) ?_ ?_;(first|exact HB.Ag rfl|exact Ba.Ai _ _|(simp [HB.under,Ba.under,PV.under];done)))|(refine Ap.cons (Ac rfl) ?_ rfl ?_ ?_;(first|exact trivial|exact Ba.Ai _ _|(simp [HB.under,Ba.under,PV.under]));(first|exact BG.refl _|exact BG.vec (Bo.refl _) (by simp))))
 ·first|(intro _ _;omega)|omega|trivial
 ·intro k hk hok
  by_cases h:gi a k=gi b k
  ·repeat' (first|apply Ad.Aw|apply Ad.Bl|apply Ad.region|apply Ad.Aq|apply Ad.Aj|apply AV.normal|apply AP.normal|apply Ad.skip|apply Af.nil|apply Ak.nil|apply Af.one|(apply Ak.bar;decide +kernel)|apply Ak.quiet|(apply Aa.assign;rfl)|(apply Aa.move;rfl)|(apply Aa.BD;rfl;rfl;omega)|(apply Aa.int;rfl;rfl;rfl)|(apply Aa.AO;rfl;rfl;rfl;omega;rfl)|(apply Aa.load;rfl;rfl)|(apply Ad.Ae;rfl)|(apply Ad.AX;rfl)|(intro _;try (exfalso;omega)))
   all_goals try (exfalso;omega)
   all_goals try contradiction
   refine Az.normal ⟨(NU hok h),by first|omega|decide,?_,?_⟩
   ·repeat (first|exact Ah.nil|refine Ah.same (by exact PV.Ag rfl) rfl ?_|refine Ah.cons trivial rfl (.of_eq (AL (by simp<;>omega))) ?_)
   ·repeat (first|exact Ap.nil|(refine Ap.cons (Ac rfl) ?_ rfl ?_ ?_;(first|exact HB.Ag rfl|exact Ba.Ai _ _|(simp [HB.under,Ba.under,PV.under]));(first|exact BG.refl _|exact BG.vec (Bo.refl _) (by simp))))
  ·rw [decide_eq_false (fun e=>h (by rw [e]))]
   repeat' (first|apply Ad.Aw|apply Ad.Bl|apply Ad.Aq|apply Ad.Aj|apply AV.ret|apply AP.ret|apply Az.ret|apply Ad.ret|apply Af.nil|apply Ak.nil|apply Af.one|(apply Ak.bar;decide +kernel)|apply Ak.quiet|(apply Aa.assign;rfl)|(apply Aa.move;rfl)|(apply Aa.int;rfl;rfl;rfl)|(apply Aa.AO;rfl;rfl;rfl;omega;rfl)|(apply Aa.load;rfl;rfl)|(apply Ad.Ae;rfl)|(apply Ad.AX;rfl)|(intro _;try (exfalso;omega)))
   all_goals first|(exfalso;omega)|contradiction|(refine Done.ret rfl (.refl _) (by exact PV.Ag rfl) Ap.nil (Nat.zero_le _) (Nat.le_refl _) ⟨?_,rfl,rfl⟩;try rfl)
 ·intro hok
  rw [decide_eq_true (Vr hlen hok)]
  repeat' (first|apply Ad.Aw|apply Ad.Bj|apply AV.normal|apply AP.exit|apply Az.exit|apply Ad.ret|apply Af.nil|apply Af.one|(apply Aa.assign;rfl)|(apply Aa.int;rfl;rfl;rfl)|(apply Ad.Ae;rfl)|(intro _;try (exfalso;omega)))
  all_goals first|(exfalso;omega)|contradiction|(refine Done.ret rfl (.refl _) (by exact PV.Ag rfl) Ap.nil (Nat.zero_le _) (Nat.le_refl _) ⟨?_,rfl,rfl⟩;try rfl)
theorem iW:Px Tryz.prog 66=true:=by kernel_rfl
theorem a0c (x y:Fg):Vm.Ud Tryz.prog 66 (Enc.enc x) (Enc.enc y)=some (decide (x=y)):=by
 show some (decide (x.s=y.s)&&(decide (x.e=y.e)&&(decide (x.d=y.d)&&(decide (x.k=y.k)&&true))))=_
 by_cases h:x=y
 ·subst h;simp
 ·rw [decide_eq_false h]
  have:¬ (x.s=y.s∧x.e=y.e∧x.d=y.d∧x.k=y.k):=fun h'=>h (by cases x;cases y;simp_all)
  by_cases h1:x.s=y.s<;>by_cases h2:x.e=y.e<;>by_cases h3:x.d=y.d<;>simp_all
theorem zD (a b:List Fg) (ha:a.length<9223372036854775808) (hb:b.length<9223372036854775808):AQ env 60 [.lst 66 (cells a) a.length,.lst 66 (cells b) b.length] (.p (.bool (decide (a=b)))):=by
 by_cases hlen:a.length=b.length
 case neg =>
  rw [decide_eq_false (fun e=>hlen (by rw [e]))]
  refine AQ.enter (Ar (by decide)) Tryz.func60 rfl (by kernel_rfl) (by simp [Tryz.ntmps60]) ?_
  repeat' (first|apply Ad.assoc|apply Ad.Aw|apply Ad.Bf|apply Af.nil|apply Af.one|(apply Aa.assign;rfl)|(apply Aa.move;rfl)|(apply Aa.int;rfl;rfl;rfl)|(apply Aa.Bz;rfl;rfl)|(apply Ad.Ae;rfl)|(intro _;try (exfalso;omega)))
  all_goals first|(exfalso;omega)|contradiction|(refine Done.ret rfl (.refl _) (by exact PV.Ag rfl) Ap.nil (Nat.zero_le _) (Nat.le_refl _) ⟨?_,rfl,rfl⟩;try rfl)
 refine AQ.enter (Ar (by decide)) Tryz.func60 rfl (by kernel_rfl) (by simp [Tryz.ntmps60]) ?_
 repeat' (first|apply Ad.assoc|apply Ad.Aw|apply Ad.Aq|apply Ad.Aj|apply Af.nil|apply Af.one|(apply Aa.assign;rfl)|(apply Aa.move;rfl)|(apply Aa.int;rfl;rfl;rfl)|(apply Aa.Bz;rfl;rfl)|(apply Ad.Ae;rfl)|(intro _;try (exfalso;omega)))
 all_goals try (exfalso;omega)
 apply Ad.H8 (a.length) (fun k=>∀ i,i<k→gi a i=gi b i) [(0,_),(1,_),(12,_)] [] (fun k r=>(13,.p (.int .i64 (k:Int)))::r) (fun k r=>r) 0
 ·first|omega|decide
 ·first|omega|decide
 ·repeat (first|exact Ah.nil|(refine Ah.eq rfl ?_ ?_;(first|exact PV.Ag rfl|(simp [PV.under,Ba.under];done)))|refine Ah.cons trivial rfl (.of_eq (AL (by simp<;>omega))) ?_)
 ·repeat (first|exact Ap.nil|(refine Ap.eq rfl (Ac rfl) ?_ ?_;(first|exact HB.Ag rfl|exact Ba.Ai _ _|(simp [HB.under,Ba.under,PV.under];done)))|(refine Ap.cons (Ac rfl) ?_ rfl ?_ ?_;(first|exact trivial|exact Ba.Ai _ _|(simp [HB.under,Ba.under,PV.under]));(first|exact BG.refl _|exact BG.vec (Bo.refl _) (by simp))))
 ·first|(intro _ _;omega)|omega|trivial
 ·intro k hk hok
  have he:=a0c (gi a k) (gi b k)
  by_cases h:gi a k=gi b k
  ·rw [decide_eq_true h] at he
   repeat' (first|apply Ad.Aw|apply Ad.Bl|apply Ad.region|apply Ad.Aq|apply Ad.Aj|apply AV.normal|apply AP.normal|apply Ad.skip|apply Af.nil|apply Ak.nil|apply Af.one|(apply Ak.bar;decide +kernel)|apply Ak.quiet|(apply Aa.xW;rfl;rfl;exact iW;exact he)|(apply Aa.assign;rfl)|(apply Aa.move;rfl)|(apply Aa.BD;rfl;rfl;omega)|(apply Aa.int;rfl;rfl;rfl)|(apply Aa.AO;rfl;rfl;rfl;omega;rfl)|(apply Aa.load;rfl;rfl)|(apply Ad.Ae;rfl)|(apply Ad.cond_false;rfl)|(intro _;try (exfalso;omega)))
   all_goals try (exfalso;omega)
   all_goals try contradiction
   refine Az.normal ⟨(NU hok h),by first|omega|decide,?_,?_⟩
   ·repeat (first|exact Ah.nil|refine Ah.same (by exact PV.Ag rfl) rfl ?_|refine Ah.cons trivial rfl (.of_eq (AL (by simp<;>omega))) ?_)
   ·repeat (first|exact Ap.nil|(refine Ap.cons (Ac rfl) ?_ rfl ?_ ?_;(first|exact HB.Ag rfl|exact Ba.Ai _ _|(simp [HB.under,Ba.under,PV.under]));(first|exact BG.refl _|exact BG.vec (Bo.refl _) (by simp))))
  ·rw [decide_eq_false h] at he
   rw [decide_eq_false (fun e=>h (by rw [e]))]
   repeat' (first|apply Ad.Aw|apply Ad.Bl|apply Ad.Aq|apply Ad.Aj|apply AV.ret|apply AP.ret|apply Az.ret|apply Ad.ret|apply Af.nil|apply Ak.nil|apply Af.one|(apply Ak.bar;decide +kernel)|apply Ak.quiet|(apply Aa.xW;rfl;rfl;exact iW;exact he)|(apply Aa.assign;rfl)|(apply Aa.move;rfl)|(apply Aa.int;rfl;rfl;rfl)|(apply Aa.AO;rfl;rfl;rfl;omega;rfl)|(apply Aa.load;rfl;rfl)|(apply Ad.Ae;rfl)|(apply Ad.cond_true;rfl)|(intro _;try (exfalso;omega)))
   all_goals first|(exfalso;omega)|contradiction|(refine Done.ret rfl (.refl _) (by exact PV.Ag rfl) Ap.nil (Nat.zero_le _) (Nat.le_refl _) ⟨?_,rfl,rfl⟩;try rfl)
 ·intro hok
  rw [decide_eq_true (Vr hlen hok)]
  repeat' (first|apply Ad.Aw|apply Ad.Bj|apply AV.normal|apply AP.exit|apply Az.exit|apply Ad.ret|apply Af.nil|apply Af.one|(apply Aa.assign;rfl)|(apply Aa.int;rfl;rfl;rfl)|(apply Ad.Ae;rfl)|(intro _;try (exfalso;omega)))
  all_goals first|(exfalso;omega)|contradiction|(refine Done.ret rfl (.refl _) (by exact PV.Ag rfl) Ap.nil (Nat.zero_le _) (Nat.le_refl _) ⟨?_,rfl,rfl⟩;try rfl)
theorem iL {a b:Rgs}:(a=b)↔(a.stops=b.stops∧a.cp=b.cp∧a.off=b.off):=by
 constructor
 ·rintro rfl;exact ⟨rfl,rfl,rfl⟩
 ·rintro ⟨h1,h2,h3⟩;cases a;cases b;simp_all
theorem jg {a b:IX}:(a=b)↔(a.bar=b.bar∧a.reg=b.reg):=by
 constructor
 ·rintro rfl;exact ⟨rfl,rfl⟩
 ·rintro ⟨h1,h2⟩;cases a;cases b;simp_all
theorem jM {a b:DY}:(a=b)↔(a.bars=b.bars∧a.notes=b.notes∧a.sets=b.sets):=by
 constructor
 ·rintro rfl;exact ⟨rfl,rfl,rfl⟩
 ·rintro ⟨h1,h2,h3⟩;cases a;cases b;simp_all
theorem U1 (a b:Rgs) (ha:a.stops.length<9223372036854775808) (hb:b.stops.length<9223372036854775808):AQ env 33 [.agg (Enc.enc a),.agg (Enc.enc b)] (.p (.bool (decide (a=b)))):=by
 have hs:=a1r a.stops b.stops ha hb
 by_cases h1:a.stops=b.stops<;>by_cases h2:a.cp=b.cp<;>by_cases h3:a.off=b.off
 all_goals first|rw [decide_eq_true h1] at hs|rw [decide_eq_false h1] at hs
 all_goals first|rw [decide_eq_true (iL.2 ⟨h1,h2,h3⟩)]|rw [decide_eq_false (fun e=>by have:=iL.1 e;simp_all)]
 all_goals
  refine AQ.enter (Ar (by decide)) Tryz.func33 rfl (by kernel_rfl) (by simp [Tryz.ntmps33]) ?_
 all_goals
  repeat' (first|apply Ad.Aw|apply Ad.ret|apply Af.nil|apply Af.one|(apply Af.take;rfl;rfl)|(apply Af.drop;rfl;rfl;rfl)|(apply Af.guard;rfl;rfl)|(apply Aa.fn;rfl;rfl;exact hs;intro _;rfl)|(apply Aa.assign;rfl)|(apply Aa.move;rfl)|(apply Aa.int;rfl;rfl;rfl)|(apply Aa.load;rfl;rfl)|(apply Aa.AZ;rfl;rfl)|(apply Aa.AB;rfl;rfl)|(apply Aa.AA;rfl;rfl;rfl)|(apply Aa.box;rfl;trivial)|(intro _;try (exfalso;omega)))
 all_goals first|(exfalso;omega)|contradiction|(refine Done.ret rfl (.refl _) (by exact PV.Ag rfl) Ap.nil (Nat.zero_le _) (Nat.le_refl _) ⟨?_,rfl,rfl⟩;try rfl)
 all_goals exact PV.Jf (by simp;omega)
theorem zh (x y:IX) (hx:x.reg.Ok) (hy:y.reg.Ok):Et env 62 ([.p (.agg (Enc.enc x)),.p (.agg (Enc.enc y))]++[]) [] 0 (.bool (decide (x=y))):=by
 have hs:=U1 x.reg y.reg hx.len hy.len
 by_cases h1:x.bar=y.bar<;>by_cases h2:x.reg=y.reg
 all_goals first|rw [decide_eq_true h2] at hs|rw [decide_eq_false h2] at hs
 all_goals first|rw [decide_eq_true (jg.2 ⟨h1,h2⟩)]|rw [decide_eq_false (fun e=>by have:=jg.1 e;simp_all)]
 all_goals
  refine Et.enter (Ar (by decide)) Tryz.func62 rfl (by kernel_rfl) (by simp [Tryz.ntmps62]) ?_
 all_goals
  repeat' (first|apply Ad.Aw|apply Ad.ret|apply Af.nil|apply Af.one|(apply Af.take;rfl;rfl)|(apply Af.drop;rfl;rfl;rfl)|(apply Af.guard;rfl;rfl)|(apply Aa.fn;rfl;rfl;exact hs;intro _;rfl)|(apply Aa.assign;rfl)|(apply Aa.move;rfl)|(apply Aa.int;rfl;rfl;rfl)|(apply Aa.load;rfl;rfl)|(apply Aa.AZ;rfl;rfl)|(apply Aa.AB;rfl;rfl)|(apply Aa.AA;rfl;rfl;rfl)|(apply Aa.box;rfl;trivial)|(intro _;try (exfalso;omega)))
 all_goals first|(exfalso;omega)|contradiction|(refine Done.ret rfl (.refl _) trivial ?_ (by omega) (Nat.le_refl _) ⟨?_,rfl,rfl⟩;repeat (first|exact Ap.nil|(refine Ap.cons (Ac rfl) ?_ rfl ?_ ?_;(first|exact HB.Ag rfl|exact Ba.Ai _ _|(simp [HB.under,Ba.under,PV.under]));(first|exact BG.refl _|exact BG.vec (Bo.refl _) (by simp))));try rfl)
 all_goals exact PV.Jf (by simp;omega)
theorem yJ (g:Nat) (hg:g=62∨g=64) (a b:List IX) (ha:a.length<9223372036854775808) (hb:b.length<9223372036854775808) (he:∀ i,i<a.length→i<b.length→Et env g ([.p (.agg (Enc.enc (gi a i))),.p (.agg (Enc.enc (gi b i)))]++[]) [] 0 (.bool (decide (gi a i=gi b i)))) :
 Et env 61 [.p (.lst 74 (cells a) a.length),.p (.lst 74 (cells b) b.length),.clo g [] []] [] 0 (.bool (decide (a=b))):=by
 rcases hg with rfl|rfl
 ·skip
  by_cases hlen:a.length=b.length
  case neg =>
   rw [decide_eq_false (fun e=>hlen (by rw [e]))]
   refine Et.enter (Ar (by decide)) Tryz.func61 rfl (by kernel_rfl) (by simp [Tryz.ntmps61]) ?_
   repeat' (first|apply Ad.assoc|apply Ad.Aw|apply Ad.Bf|apply Af.nil|apply Af.one|(apply Aa.assign;rfl)|(apply Aa.move;rfl)|(apply Aa.int;rfl;rfl;rfl)|(apply Aa.Bz;rfl;rfl)|(apply Ad.Ae;rfl)|(intro _;try (exfalso;omega)))
   all_goals first|(exfalso;omega)|contradiction|(refine Done.ret rfl (.refl _) trivial ?_ (by omega) (Nat.le_refl _) ⟨?_,rfl,rfl⟩;repeat (first|exact Ap.nil|(refine Ap.cons (Ac rfl) ?_ rfl ?_ ?_;(first|exact HB.Ag rfl|exact Ba.Ai _ _|(simp [HB.under,Ba.under,PV.under]));(first|exact BG.refl _|exact BG.vec (Bo.refl _) (by simp))));try rfl)
  refine Et.enter (Ar (by decide)) Tryz.func61 rfl (by kernel_rfl) (by simp [Tryz.ntmps61]) ?_
  repeat' (first|apply Ad.assoc|apply Ad.Aw|apply Ad.Aq|apply Ad.Aj|apply Af.nil|apply Af.one|(apply Aa.assign;rfl)|(apply Aa.move;rfl)|(apply Aa.int;rfl;rfl;rfl)|(apply Aa.Bz;rfl;rfl)|(apply Ad.Ae;rfl)|(intro _;try (exfalso;omega)))
  all_goals try (exfalso;omega)
  apply Ad.H8 (a.length) (fun k=>∀ i,i<k→gi a i=gi b i) [(1,_),(2,_),(15,_),(16,_)] [] (fun k r=>(17,.p (.int .i64 (k:Int)))::r) (fun k r=>r) 0
  ·first|omega|decide
  ·first|omega|decide
  ·repeat (first|exact Ah.nil|(refine Ah.eq rfl ?_ ?_;(first|exact PV.Ag rfl|(simp [PV.under,Ba.under];done)))|refine Ah.cons trivial rfl (.of_eq (AL (by simp<;>omega))) ?_)
  ·repeat (first|exact Ap.nil|(refine Ap.eq rfl (Ac rfl) ?_ ?_;(first|exact HB.Ag rfl|exact Ba.Ai _ _|(simp [HB.under,Ba.under,PV.under];done)))|(refine Ap.cons (Ac rfl) ?_ rfl ?_ ?_;(first|exact trivial|exact Ba.Ai _ _|(simp [HB.under,Ba.under,PV.under]));(first|exact BG.refl _|exact BG.vec (Bo.refl _) (by simp))))
  ·first|(intro _ _;omega)|omega|trivial
  ·intro k hk hok
   have hc:=he k hk (by omega)
   by_cases h:gi a k=gi b k
   ·rw [decide_eq_true h] at hc
    repeat' (first|apply Ad.Aw|apply Ad.region|apply Ad.Aq|apply Ad.Aj|apply AV.normal|apply AP.normal|apply Ad.skip|apply Af.nil|apply Af.one|(apply Aa.read [] hc;rfl;rfl;exact .of_eq rfl;exact Ba.Ag rfl;exact Dw rfl;(repeat (first|exact trivial|refine ⟨⟨_,rfl,.of_eq rfl⟩,?_⟩));decide;(intro _ hb;simp at hb<;>omega);rfl)|(apply Aa.assign;rfl)|(apply Aa.move;rfl)|(apply Aa.BD;rfl;rfl;omega)|(apply Aa.int;rfl;rfl;rfl)|(apply Aa.AO;rfl;rfl;rfl;omega;rfl)|(apply Aa.load;rfl;rfl)|(apply Aa.alloc;rfl)|(apply Aa.AY;rfl;rfl;rfl;trivial;rfl;rfl;exact Ac rfl;exact le_dec rfl)|(apply Aa.not;rfl)|(apply Ad.Ae;rfl)|(apply Ad.cond_false;rfl)|(intro _;try (exfalso;omega)))
    all_goals try (exfalso;omega)
    all_goals try contradiction
    refine Az.normal ⟨(NU hok h),by first|omega|decide,?_,?_⟩
    ·repeat (first|exact Ah.nil|refine Ah.same (by exact PV.Ag rfl) rfl ?_|refine Ah.cons trivial rfl (.of_eq (AL (by simp<;>omega))) ?_)
    ·repeat (first|exact Ap.nil|(refine Ap.cons (Ac rfl) ?_ rfl ?_ ?_;(first|exact HB.Ag rfl|exact Ba.Ai _ _|(simp [HB.under,Ba.under,PV.under]));(first|exact BG.refl _|exact BG.vec (Bo.refl _) (by simp))))
   ·rw [decide_eq_false h] at hc
    rw [decide_eq_false (fun e=>h (by rw [e]))]
    repeat' (first|apply Ad.Aw|apply Ad.Aq|apply Ad.Aj|apply AV.ret|apply AP.ret|apply Az.ret|apply Ad.ret|apply Af.nil|apply Af.one|(apply Aa.read [] hc;rfl;rfl;exact .of_eq rfl;exact Ba.Ag rfl;exact Dw rfl;(repeat (first|exact trivial|refine ⟨⟨_,rfl,.of_eq rfl⟩,?_⟩));decide;(intro _ hb;simp at hb<;>omega);rfl)|(apply Aa.assign;rfl)|(apply Aa.move;rfl)|(apply Aa.int;rfl;rfl;rfl)|(apply Aa.AO;rfl;rfl;rfl;omega;rfl)|(apply Aa.load;rfl;rfl)|(apply Aa.alloc;rfl)|(apply Aa.AY;rfl;rfl;rfl;trivial;rfl;rfl;exact Ac rfl;exact le_dec rfl)|(apply Aa.not;rfl)|(apply Ad.Ae;rfl)|(apply Ad.cond_true;rfl)|(intro _;try (exfalso;omega)))
    all_goals first|(exfalso;omega)|contradiction|(refine Done.ret rfl (.refl _) trivial ?_ (by omega) (Nat.le_refl _) ⟨?_,rfl,rfl⟩;repeat (first|exact Ap.nil|(refine Ap.cons (Ac rfl) ?_ rfl ?_ ?_;(first|exact HB.Ag rfl|exact Ba.Ai _ _|(simp [HB.under,Ba.under,PV.under]));(first|exact BG.refl _|exact BG.vec (Bo.refl _) (by simp))));try rfl)
  ·intro hok
   rw [decide_eq_true (Vr hlen hok)]
   repeat' (first|apply Ad.Aw|apply Ad.Bj|apply AV.normal|apply AP.exit|apply Az.exit|apply Ad.ret|apply Af.nil|apply Af.one|(apply Aa.assign;rfl)|(apply Aa.int;rfl;rfl;rfl)|(apply Ad.Ae;rfl)|(intro _;try (exfalso;omega)))
   all_goals first|(exfalso;omega)|contradiction|(refine Done.ret rfl (.refl _) trivial ?_ (by omega) (Nat.le_refl _) ⟨?_,rfl,rfl⟩;repeat (first|exact Ap.nil|(refine Ap.cons (Ac rfl) ?_ rfl ?_ ?_;(first|exact HB.Ag rfl|exact Ba.Ai _ _|(simp [HB.under,Ba.under,PV.under]));(first|exact BG.refl _|exact BG.vec (Bo.refl _) (by simp))));try rfl)
 ·skip
  by_cases hlen:a.length=b.length
  case neg =>
   rw [decide_eq_false (fun e=>hlen (by rw [e]))]
   refine Et.enter (Ar (by decide)) Tryz.func61 rfl (by kernel_rfl) (by simp [Tryz.ntmps61]) ?_
   repeat' (first|apply Ad.assoc|apply Ad.Aw|apply Ad.Bf|apply Af.nil|apply Af.one|(apply Aa.assign;rfl)|(apply Aa.move;rfl)|(apply Aa.int;rfl;rfl;rfl)|(apply Aa.Bz;rfl;rfl)|(apply Ad.Ae;rfl)|(intro _;try (exfalso;omega)))
   all_goals first|(exfalso;omega)|contradiction|(refine Done.ret rfl (.refl _) trivial ?_ (by omega) (Nat.le_refl _) ⟨?_,rfl,rfl⟩;repeat (first|exact Ap.nil|(refine Ap.cons (Ac rfl) ?_ rfl ?_ ?_;(first|exact HB.Ag rfl|exact Ba.Ai _ _|(simp [HB.under,Ba.under,PV.under]));(first|exact BG.refl _|exact BG.vec (Bo.refl _) (by simp))));try rfl)
  refine Et.enter (Ar (by decide)) Tryz.func61 rfl (by kernel_rfl) (by simp [Tryz.ntmps61]) ?_
  repeat' (first|apply Ad.assoc|apply Ad.Aw|apply Ad.Aq|apply Ad.Aj|apply Af.nil|apply Af.one|(apply Aa.assign;rfl)|(apply Aa.move;rfl)|(apply Aa.int;rfl;rfl;rfl)|(apply Aa.Bz;rfl;rfl)|(apply Ad.Ae;rfl)|(intro _;try (exfalso;omega)))
  all_goals try (exfalso;omega)
  apply Ad.H8 (a.length) (fun k=>∀ i,i<k→gi a i=gi b i) [(1,_),(2,_),(15,_),(16,_)] [] (fun k r=>(17,.p (.int .i64 (k:Int)))::r) (fun k r=>r) 0
  ·first|omega|decide
  ·first|omega|decide
  ·repeat (first|exact Ah.nil|(refine Ah.eq rfl ?_ ?_;(first|exact PV.Ag rfl|(simp [PV.under,Ba.under];done)))|refine Ah.cons trivial rfl (.of_eq (AL (by simp<;>omega))) ?_)
  ·repeat (first|exact Ap.nil|(refine Ap.eq rfl (Ac rfl) ?_ ?_;(first|exact HB.Ag rfl|exact Ba.Ai _ _|(simp [HB.under,Ba.under,PV.under];done)))|(refine Ap.cons (Ac rfl) ?_ rfl ?_ ?_;(first|exact trivial|exact Ba.Ai _ _|(simp [HB.under,Ba.under,PV.under]));(first|exact BG.refl _|exact BG.vec (Bo.refl _) (by simp))))
  ·first|(intro _ _;omega)|omega|trivial
  ·intro k hk hok
   have hc:=he k hk (by omega)
   by_cases h:gi a k=gi b k
   ·rw [decide_eq_true h] at hc
    repeat' (first|apply Ad.Aw|apply Ad.region|apply Ad.Aq|apply Ad.Aj|apply AV.normal|apply AP.normal|apply Ad.skip|apply Af.nil|apply Af.one|(apply Aa.read [] hc;rfl;rfl;exact .of_eq rfl;exact Ba.Ag rfl;exact Dw rfl;(repeat (first|exact trivial|refine ⟨⟨_,rfl,.of_eq rfl⟩,?_⟩));decide;(intro _ hb;simp at hb<;>omega);rfl)|(apply Aa.assign;rfl)|(apply Aa.move;rfl)|(apply Aa.BD;rfl;rfl;omega)|(apply Aa.int;rfl;rfl;rfl)|(apply Aa.AO;rfl;rfl;rfl;omega;rfl)|(apply Aa.load;rfl;rfl)|(apply Aa.alloc;rfl)|(apply Aa.AY;rfl;rfl;rfl;trivial;rfl;rfl;exact Ac rfl;exact le_dec rfl)|(apply Aa.not;rfl)|(apply Ad.Ae;rfl)|(apply Ad.cond_false;rfl)|(intro _;try (exfalso;omega)))
    all_goals try (exfalso;omega)
    all_goals try contradiction
    refine Az.normal ⟨(NU hok h),by first|omega|decide,?_,?_⟩
    ·repeat (first|exact Ah.nil|refine Ah.same (by exact PV.Ag rfl) rfl ?_|refine Ah.cons trivial rfl (.of_eq (AL (by simp<;>omega))) ?_)
    ·repeat (first|exact Ap.nil|(refine Ap.cons (Ac rfl) ?_ rfl ?_ ?_;(first|exact HB.Ag rfl|exact Ba.Ai _ _|(simp [HB.under,Ba.under,PV.under]));(first|exact BG.refl _|exact BG.vec (Bo.refl _) (by simp))))
   ·rw [decide_eq_false h] at hc
    rw [decide_eq_false (fun e=>h (by rw [e]))]
    repeat' (first|apply Ad.Aw|apply Ad.Aq|apply Ad.Aj|apply AV.ret|apply AP.ret|apply Az.ret|apply Ad.ret|apply Af.nil|apply Af.one|(apply Aa.read [] hc;rfl;rfl;exact .of_eq rfl;exact Ba.Ag rfl;exact Dw rfl;(repeat (first|exact trivial|refine ⟨⟨_,rfl,.of_eq rfl⟩,?_⟩));decide;(intro _ hb;simp at hb<;>omega);rfl)|(apply Aa.assign;rfl)|(apply Aa.move;rfl)|(apply Aa.int;rfl;rfl;rfl)|(apply Aa.AO;rfl;rfl;rfl;omega;rfl)|(apply Aa.load;rfl;rfl)|(apply Aa.alloc;rfl)|(apply Aa.AY;rfl;rfl;rfl;trivial;rfl;rfl;exact Ac rfl;exact le_dec rfl)|(apply Aa.not;rfl)|(apply Ad.Ae;rfl)|(apply Ad.cond_true;rfl)|(intro _;try (exfalso;omega)))
    all_goals first|(exfalso;omega)|contradiction|(refine Done.ret rfl (.refl _) trivial ?_ (by omega) (Nat.le_refl _) ⟨?_,rfl,rfl⟩;repeat (first|exact Ap.nil|(refine Ap.cons (Ac rfl) ?_ rfl ?_ ?_;(first|exact HB.Ag rfl|exact Ba.Ai _ _|(simp [HB.under,Ba.under,PV.under]));(first|exact BG.refl _|exact BG.vec (Bo.refl _) (by simp))));try rfl)
  ·intro hok
   rw [decide_eq_true (Vr hlen hok)]
   repeat' (first|apply Ad.Aw|apply Ad.Bj|apply AV.normal|apply AP.exit|apply Az.exit|apply Ad.ret|apply Af.nil|apply Af.one|(apply Aa.assign;rfl)|(apply Aa.int;rfl;rfl;rfl)|(apply Ad.Ae;rfl)|(intro _;try (exfalso;omega)))
   all_goals first|(exfalso;omega)|contradiction|(refine Done.ret rfl (.refl _) trivial ?_ (by omega) (Nat.le_refl _) ⟨?_,rfl,rfl⟩;repeat (first|exact Ap.nil|(refine Ap.cons (Ac rfl) ?_ rfl ?_ ?_;(first|exact HB.Ag rfl|exact Ba.Ai _ _|(simp [HB.under,Ba.under,PV.under]));(first|exact BG.refl _|exact BG.vec (Bo.refl _) (by simp))));try rfl)
theorem au (x y:DY) (hx:GH x) (hy:GH y):AQ env 23 [.agg (Enc.enc x),.agg (Enc.enc y)] (.p (.bool (decide (x=y)))):=by
 have a1:=hx.bars
 have a2:=hx.notes
 have a3:=hx.sets
 have b1:=hy.bars
 have b2:=hy.notes
 have b3:=hy.sets
 have s1:=nO x.bars y.bars (by omega) (by omega)
 have s2:=zD x.notes y.notes (by omega) (by omega)
 have s3:=yJ _ (.inl rfl) x.sets y.sets (by omega) (by omega) (fun i h1 h2=>zh _ _ (hx.reg i h1) (hy.reg i h2))
 by_cases h1:x.bars=y.bars<;>by_cases h2:x.notes=y.notes<;>by_cases h3:x.sets=y.sets
 all_goals first|rw [decide_eq_true h1] at s1|rw [decide_eq_false h1] at s1
 all_goals first|rw [decide_eq_true h2] at s2|rw [decide_eq_false h2] at s2
 all_goals first|rw [decide_eq_true h3] at s3|rw [decide_eq_false h3] at s3
 all_goals first|rw [decide_eq_true (jM.2 ⟨h1,h2,h3⟩)]|rw [decide_eq_false (fun e=>by have:=jM.1 e;simp_all)]
 all_goals
  refine AQ.enter (Ar (by decide)) Tryz.func23 rfl (by kernel_rfl) (by simp [Tryz.ntmps23]) ?_
 all_goals
  repeat' (first|apply Ad.Aw|apply Ad.ret|apply Af.nil|apply Af.one|(apply Af.take;rfl;rfl)|(apply Af.drop;rfl;rfl;rfl)|(apply Aa.fn;rfl;rfl;exact s1;intro _;rfl)|(apply Aa.fn;rfl;rfl;exact s2;intro _;rfl)|(apply Aa.read [] s3;rfl;rfl;exact .of_eq rfl;exact Ba.Ag rfl;exact Dw rfl;(repeat (first|exact trivial|refine ⟨⟨_,rfl,.of_eq rfl⟩,?_⟩));decide;(intro _ hb;simp at hb<;>omega);rfl)|(apply Aa.assign;rfl)|(apply Aa.move;rfl)|(apply Aa.load;rfl;rfl)|(apply Aa.AZ;rfl;rfl)|(apply Aa.AB;rfl;rfl)|(apply Aa.AA;rfl;rfl;rfl)|(apply Aa.box;rfl;trivial))
 all_goals first|(exfalso;omega)|contradiction|(refine Done.ret rfl (.refl _) (by exact PV.Ag rfl) Ap.nil (Nat.zero_le _) (Nat.le_refl _) ⟨?_,rfl,rfl⟩;try rfl)
end Go.Proofs.YtnhdddmhkhdlhaaGreatDoor
namespace Go.Vm
open Go.Am
variable {E:Env} {L:Frame} {H:Heap} {nx:Nat} {Q:PV→Heap→Nat→Prop} {w:Bool}
variable {dst:Option Tmp} {ty:TypeId} {pos:String} {af:Array Edge} {gd:Option (Nat×Bool)}
theorem Aa.qc {t:TypeId} {x:Operand} {lo hi:Option Operand} {e:TypeId} {cs:List FV} {b n off len a c sz:Nat} {z:Bool} {inf:TypeInfo} (hx:BF E.Γ L x=some (.vec b n off len)) (hb:hget H b=some (.vec e cs n z)) (hn:0<n) (ht:E.P.underlying t=some (.slice e)) (hi':E.P.info? e=some inf) (hsz:inf.size=sz)
 (hlo:match lo with|none=>a=0|some o=>∃ k,BF E.Γ L o=some (.p (.int k (a:Int)))) (hhi:match hi with|none=>c=len|some o=>∃ k,BF E.Γ L o=some (.p (.int k (c:Int)))) (hac:a≤c) (hcl:c≤len)
 (q:Q (.vec b n (off+a*sz) (c-a)) H nx):Aa E w ⟨dst,.slice t x lo hi none,ty,pos,af,gd⟩ L H nx Q :=
 Aa.quiet q fun m F σ tt h1 h2=>by
  have oW:bnd 0 (lo.map (ev tt))=some a:=by
   cases lo with
   |none=>simp only at hlo;rw [hlo];rfl
   |some o =>
    obtain ⟨k,hk⟩:=hlo
    simp only [Option.map_some,Df h1 h2 hk,bnd]
    rw [if_pos (by omega)];simp
  have ru:bnd len (hi.map (ev tt))=some c:=by
   cases hi with
   |none=>simp only at hhi;rw [hhi];rfl
   |some o =>
    obtain ⟨k,hk⟩:=hhi
    simp only [Option.map_some,Df h1 h2 hk,bnd]
    rw [if_pos (by omega)];simp
  have hsub:=Iy h1 h2 hx hb
  obtain ⟨hlt,hr⟩:=h1.hp b _ hb
  rcases hr with ⟨r1,r2,r3⟩|⟨d,g,vs,r1,r2,r3,r4,r5,r6,r7⟩
  ·omega
  rw [r1] at hsub
  simp only [EZ] at hsub
  refine ⟨.slice (some ⟨d,off+a*sz,none⟩) (c-a) g,fun _=>?_,.vec hlt rfl fun j hj=>?_⟩
  ·simp only [CG,Fp,hsub,aslice,Option.isSome_none,Option.map_none,Bool.false_and,Bool.false_eq_true,if_false,ht,hi',oW,ru,r4,hac,hcl,r2,and_self,if_true,Option.map_some,hsz]
  ·simp only [htag,hb,HB.tag,Option.map_some,Option.some.injEq,Tg.vec.injEq] at hj
   refine ⟨by omega,fun _=>?_⟩
   rw [r1];rfl
theorem jZ {m:Mem} {F:Nat→Prop} {σ:Nat→Value} {b n off c g:Nat} {e:TypeId} {cs fs:List FV} {vs l:List Value} {z:Bool} (h1:Ctx E.Γ m F σ H nx) (hb:hget H b=some (.vec e cs n z)) (hn:0<n) (h4:σ b=.slice (some ⟨c,0,none⟩) n g) (r2:c<m.size) (r3:¬ F c) (r4:m.get c=.cells vs e g false) (r5:DC m F cs vs) (r6:vs.all BQ=true)
 (hl:DC m F fs l) (hc:l.all BQ=true) :
 Ctx E.Γ (m.put c (.cells (splice vs off l) e g false)) F (upd σ b (σ b)) (hput H b (.vec e (Cm cs off fs) n z)) nx∧Step m F σ H nx (m.put c (.cells (splice vs off l) e g false)) F (upd σ b (σ b)) (hput H b (.vec e (Cm cs off fs) n z)) nx:=by
 have hput':∀ d,c≠d→(m.put c (.cells (splice vs off l) e g false)).get d=m.get d:=fun d hd=>by rw [Mem.get_put,if_neg hd]
 exact h1.change (m':=m.put c (.cells (splice vs off l) e g false)) (x':=.vec e (Cm cs off fs) n z) (s':=σ b) hb (Nat.le_refl _) (fun _=>rfl) (Nat.le_refl _)
  (fun d _ hd=>hput' d fun e=>hd (by rw [h4,e];rfl)) (fun k k1 k2 k3=>by
   have:=k3 c (by rw [h4];rfl)
   simp only [Mem.put];omega) (fun d hd=>.inl hd) (by
   refine .inr ⟨c,g,splice vs off l,h4,r2,r3,by rw [Mem.get_put,if_pos rfl],?_,Ip _ r6 hc,fun h=>by omega⟩
   exact (DC.splice off r5 hl).mono (fun d hd=>⟨hd,hput' d fun e=>r3 (e▸hd)⟩))
def zJ (Γ:Nat→Option (List Value×TypeId)) (L:Frame) (H:Heap) (nx:Nat) (x:Operand) (sz n:Nat) (xs:List FV) (k:Nat):Prop :=
 ∀ m F σ t,Ctx Γ m F σ H nx→RL m F (htag H) σ nx L t→lenOf (ev t x)=some n∧∃ l,Cc m sz k (ev t x)=some l∧DC m F xs l∧l.all BQ=true
theorem zJ.lst {Γ:Nat→Option (List Value×TypeId)} {x:Operand} {e:TypeId} {sz n k:Nat} {xs ys:List FV} (h:BF Γ L x=some (.p (.lst e xs n))) (hl:xs.length=n*sz) (hk:k≤n) (hy:ys=xs.take (k*sz)):zJ Γ L H nx x sz n ys k:=fun m F σ t h1 h2=>by
 subst hy
 have:=BU h1 h2 h
 generalize ev t x=v at this
 cases this with
 |p h =>
  cases h with
  |nil=>obtain rfl:k=0:=by omega
        exact ⟨rfl,[],rfl,by rw [Nat.zero_mul,List.take_zero];exact .nil,rfl⟩
  |room=>obtain rfl:k=0:=by omega
         exact ⟨rfl,[],rfl,by rw [Nat.zero_mul,List.take_zero];exact .nil,rfl⟩
  |lst hF hm hw hr hc =>
   rename_i b o g vs ws ro
   refine ⟨rfl,ws.take (k*sz),?_,DC.take _ hr,KP hc _⟩
   have h3:=UW (k:=k*sz) hw
   rw [hl,Nat.min_eq_left (Nat.mul_le_mul_right sz hk)] at h3
   simp only [Cc,if_pos hk,Mem.DT,hm]
   simp only [KA,Option.getD_some,if_true]
   exact h3
theorem zJ.vec {Γ:Nat→Option (List Value×TypeId)} {x:Operand} {b n off len sz k:Nat} {e:TypeId} {cs ys:List FV} {z:Bool} (h:BF Γ L x=some (.vec b n off len)) (hb:hget H b=some (.vec e cs n z)) (hn:0<n) (hl:off+len*sz≤cs.length) (hk:k≤len) (hy:ys=(cs.drop off).take (k*sz)) :
 zJ Γ L H nx x sz len ys k:=fun m F σ t h1 h2=>by
 subst hy
 have hsub:=Iy h1 h2 h hb
 obtain ⟨_,hr⟩:=h1.hp b _ hb
 rcases hr with ⟨r1,r2,r3⟩|⟨c,g,vs,r1,r2,r3,r4,r5,r6,r7⟩
 ·omega
 ·rw [r1] at hsub
  simp only [EZ] at hsub
  rw [hsub]
  have hlen:=r5.length
  have h0:=Nat.mul_le_mul_right sz hk
  have hle:k*sz≤(vs.drop off).length:=by rw [List.length_drop];omega
  refine ⟨rfl,(vs.drop off).take (k*sz),?_,DC.take _ (DC.drop off r5),KP (JM r6 _) _⟩
  simp only [Cc,if_pos hk,Mem.DT,r4]
  simp only [KA,Option.getD_some,if_true,takeN,if_pos hle]
theorem Aa.copy {d x:Operand} {dT xT e:TypeId} {i:TypeInfo} {b n off len k N:Nat} {cs xs:List FV} {z:Bool} (hd:BF E.Γ L d=some (.vec b n off len)) (hb:hget H b=some (.vec e cs n z)) (hn:0<n)
 (hdT:E.P.underlying dT=some (.slice e)) (hi:E.P.info? e=some i) (hsz:0<i.size) (hx:zJ E.Γ L H nx x i.size N xs k) (hk:k=min N len) (h0:0<k) (hxs:xs.length=k*i.size) (hl:off+k*i.size≤cs.length) (q:Q (.p (.int .i64 (k:Int))) (hput H b (.vec e (Cm cs off xs) n z)) nx) :
 Aa E true ⟨dst,.call { callee:=.builtin .copy,args:=#[d,x],argTypes:=#[dT,xT] },ty,pos,af,gd⟩ L H nx Q:=by
 intro m F σ t h1 h2
 have hsub:=Iy h1 h2 hd hb
 obtain ⟨hx1,l,hx2,hx3,hx4⟩:=hx m F σ t h1 h2
 obtain ⟨hlt,hr⟩:=h1.hp b _ hb
 rcases hr with ⟨r1,r2,r3⟩|⟨c,g,vs,r1,r2,r3,r4,r5,r6,r7⟩
 ·omega
 rw [r1] at hsub
 simp only [EZ] at hsub
 have hlen:=hx3.length
 have hlen2:=r5.length
 obtain ⟨d1,d2⟩:=jZ (E:=E) (off:=off) h1 hb hn r1 r2 r3 r4 r5 r6 hx3 hx4
 refine Gz.op (v:=.int .i64 (k:Int)) (m':=m.put c (.cells (splice vs off l) e g false)) (fun _=>?_) ⟨_,_,_,F,_,q,d1,.p (.int _ _),d2,fun h=>by cases h⟩
 have hk2:(k:Nat)=Nat.min N len:=hk
 have hp:=Nat.mul_pos h0 hsz
 simp only [CG,Fp,XA,List.map_toArray,List.map_cons,List.map_nil,List.getElem?_toArray,List.getElem?_cons_zero,List.getElem?_cons_succ,hsub,hdT,hx1,hi]
 rw [← hk2,if_neg (by omega),hx2]
 simp only [FB,r4,KA,Option.getD_some,beq_self_eq_true,Bool.true_and]
 rw [if_pos (by simp only [Bool.and_eq_true,decide_eq_true_eq];exact ⟨⟨by rw [← hlen,hxs,← hlen2];exact ⟨trivial,hl⟩,by rw [← hlen,hxs];exact hp⟩,hx4⟩)]
 rfl
def NS:Code→Option Nat
 | .region n _ _=>some n
 | .seq a b=>match NS a with
  |some n=>some n
  |none=>NS b
 | .block _ b=>NS b
 | .loop b=>NS b
 | .scope b=>NS b
 |_=>none
def Kr (r:Nat):Code→Option Code
 | .loop b=>match NS b with
  |some n=>match Nat.beq n r with
   |true=>some (.loop b)
   |false=>Kr r b
  |none=>Kr r b
 | .seq a b=>match Kr r a with
  |some c=>some c
  |none=>Kr r b
 | .cond _ a b=>match Kr r a with
  |some c=>some c
  |none=>Kr r b
 | .block _ b=>Kr r b
 | .scope b=>Kr r b
 | .rangeFunc _ _ _ b=>Kr r b
 |_=>none
def a2e (fn:Func) (r:Nat):Code:=match fn.body with
 |some c=>match Kr r c with
  |some c=>c
  |none=>.skip
 |none=>.skip
theorem VX {α:Type}:∀ (r cs:List α) (o:Nat),o+r.length≤cs.length→Cm cs o r=cs.take o++r++cs.drop (o+r.length)
 |[],cs,o,h=>by simp [Cm]
 |a::r,cs,o,h=>by
  simp only [List.length_cons] at h
  have ih:=VX r (cs.set o a) (o+1) (by simp;omega)
  simp only [Cm]
  rw [ih]
  have e1:(cs.set o a).take (o+1)=cs.take o++[a]:=by
   rw [List.take_succ_eq_append_getElem (by simp;omega)]
   rw [List.take_set_of_le (by omega)]
   simp
  have e2:(cs.set o a).drop (o+1+r.length)=cs.drop (o+(r.length+1)):=by
   rw [List.drop_set_of_lt (by omega)]
   congr 1
   omega
  rw [e1,e2]
  simp [Nat.add_assoc]
theorem PS {α:Type} [Enc α] (l r:List α) (i:Nat) (h:i+r.length≤l.length):Cm (cells l) (i*Enc.size α) (cells r)=cells (l.take i++r++l.drop (i+r.length)):=by
 rw [VX _ _ _ (by rw [Ce,Ce,← Nat.add_mul];exact Nat.mul_le_mul_right _ h),Ce,← Nat.add_mul,JO,cells_drop',← DX,← DX]
end Go.Vm
namespace Go.Proofs.YtnhdddmhkhdlhaaGreatDoor
open Go Go.Am Go.Vm
instance a5j:Enc (List Int):={ default:=[],enc:=fun l=>[.lst 3 (cells l) l.length],size:=1,len:=fun _=>rfl }
attribute [local irreducible] Aa Af Ak Ad Bv AQ BN AV AP Az Vm.Done Cb BH
theorem Zn (n:Nat) (hn:n<4294967296):AQ env 136 [.int .u64 1,.int .u64 (n:Int)] (.EK [.p (.int .u64 0),.p (.int .u64 (n:Int))]):=by
 have e1:n &&& 4294967295=n:=by
  have:=Nat.and_two_pow_sub_one_eq_mod n 32
  rw [show (2 ^ 32-1:Nat)=4294967295 from rfl] at this
  rw [this]
  exact Nat.mod_eq_of_lt (by simpa using hn)
 have hA1:I7 .and .u64 (n:Int) 4294967295=some (.int .u64 (n:Int)):=by
  have h0:=bits_and_u64_nat n 4294967295 (by omega) (by omega)
  rw [e1] at h0
  exact congrArg (fun x=>some (FV.int .u64 x)) h0
 have hA2:I7 .mul .u64 1 (n:Int)=some (.int .u64 (n:Int)):=by
  simp only [I7,Int.one_mul];rw [wrap_u64 (by omega) (by omega)]
 have hZ:I7 .mul .u64 0 (n:Int)=some (.int .u64 0):=by
  simp only [I7,Int.zero_mul];rfl
 have hS:∀ a:Int,0≤a→a<4294967296→(FV.int .u64 0)=if BinOp.shr=.shl then FV.int .u64 (IntKind.u64.wrap (a*2 ^ (min (32:Int).toNat IntKind.u64.bits))) else .int .u64 (a.fdiv (2 ^ (min (32:Int).toNat IntKind.u64.bits))):=fun a h0 h1=>by
  rw [if_neg (by decide)]
  have e3:(min (32:Int).toNat IntKind.u64.bits)=32:=rfl
  rw [e3,Int.fdiv_eq_ediv_of_nonneg _ (by decide)]
  have:a / 2 ^ 32=0:=by omega
  rw [this]
 have k1:I7 .and .u64 1 4294967295=some (.int .u64 1):=rfl
 have k2:I7 .and .u64 0 4294967295=some (.int .u64 0):=rfl
 have k3:I7 .mul .u64 1 0=some (.int .u64 0):=rfl
 have k4:I7 .mul .u64 0 0=some (.int .u64 0):=rfl
 have k5:I7 .add .u64 0 0=some (.int .u64 0):=rfl
 refine AQ.enter (Ar (by decide)) Tryz.func136 rfl (by kernel_rfl) (by simp [Tryz.ntmps136]) ?_
 repeat' (first|apply Ad.Aw|apply Ad.ret|apply Af.nil|apply Af.one|(apply Aa.shift (r:=.int .u64 0);exact .inr rfl;rfl;rfl;decide;exact hS _ (by omega) (by omega))|(apply Aa.int;rfl;rfl;exact hA1)|(apply Aa.int;rfl;rfl;exact hA2)|(apply Aa.int;rfl;rfl;exact hZ)|(apply Aa.int;rfl;rfl;exact k1)|(apply Aa.int;rfl;rfl;exact k2)|(apply Aa.assign;rfl)|(apply Aa.move;rfl))
 (refine Done.ret rfl (.refl _) (by exact PV.Ag rfl) Ap.nil (Nat.zero_le _) (Nat.le_refl _) ⟨?_,rfl,rfl⟩;try rfl)
theorem kQ (n:Nat) (hn:n<4294967296):AQ env 128 [.int .u64 1,.int .u64 (n:Int)] (.EK [.p (.int .u64 0),.p (.int .u64 (n:Int))]):=by
 have h:=Zn n hn
 refine AQ.enter (Ar (by decide)) Tryz.func128 rfl (by kernel_rfl) (by simp [Tryz.ntmps128]) ?_
 repeat' (first|apply Ad.Aw|apply Ad.Aq|apply Ad.ret|apply Af.nil|apply Af.one|(apply Aa.fn;rfl;rfl;exact h;intro _;rfl)|(apply Aa.assign;rfl)|(apply Aa.move;rfl)|(apply Aa.extract;rfl;rfl)|(apply Ad.AU;rfl))
 (refine Done.ret rfl (.refl _) (by exact PV.Ag rfl) Ap.nil (Nat.zero_le _) (Nat.le_refl _) ⟨?_,rfl,rfl⟩;try rfl)
def Oj (n k:Nat) (v:Int):List Int:=List.replicate k v++List.replicate (n-k) 0
theorem QA (n k:Nat) (v:Int) (h:k≤n):(Oj n k v).length=n:=by simp [Oj];omega
theorem qU (n:Nat) (v:Int):Oj n n v=List.replicate n v:=by simp [Oj]
theorem oN (n:Nat) (v:Int) (h:0<n):Cm (cells (List.replicate n (0:Int))) 0 [FV.int .i64 v]=cells (Oj n 1 v):=by
 have:=PS (List.replicate n (0:Int)) [v] 0 (by simp;omega)
 rw [Nat.zero_mul] at this
 show Cm (cells (List.replicate n (0:Int))) 0 (cells [v])=_
 rw [this]
 congr 1
 simp [Oj]
theorem uD (n k:Nat) (v:Int) (h:k≤n):0+k*1≤(cells (Oj n k v)).length:=by
 rw [Ce,QA n k v h]
 show 0+k*1≤n*1
 omega
theorem sJ (n k:Nat) (v:Int) (h:k≤n):cells (List.replicate (min k (n-k)) v)=((cells (Oj n k v)).drop 0).take (min k (n-k)*1):=by
 have:=JO (Oj n k v) (min k (n-k))
 rw [List.drop_zero]
 refine Eq.trans ?_ this.symm
 congr 1
 unfold Oj
 rw [List.take_append_of_le_length (by simp;omega),List.take_replicate]
 congr 1
 omega
theorem wR (n k:Nat) (v:Int):(cells (List.replicate (min k (n-k)) v)).length=min k (n-k)*1:=by
 rw [Ce,List.length_replicate];rfl
theorem lY (n k:Nat) (v:Int) (h:k≤n):0+k*1+min k (n-k)*1≤(cells (Oj n k v)).length:=by
 rw [Ce,QA n k v h]
 show _≤n*1
 omega
theorem qh (n k:Nat) (v:Int) (h:k≤n):Cm (cells (Oj n k v)) (0+k*1) (cells (List.replicate (min k (n-k)) v))=cells (Oj n (k+min k (n-k)) v):=by
 have:=PS (Oj n k v) (List.replicate (min k (n-k)) v) k (by rw [QA n k v h];simp;omega)
 rw [Nat.zero_add]
 refine Eq.trans this ?_
 congr 1
 unfold Oj
 rw [List.take_append_of_le_length (by simp),List.take_replicate,Nat.min_self,List.length_replicate,List.drop_append,List.drop_of_length_le (by simp),List.length_replicate,List.nil_append,List.drop_replicate,List.replicate_append_replicate]
 congr 2
 omega
theorem Za (e:TypeId) (v:Int) (n:Nat) (h0:0<n) (hn:n<1000000):BN env 115 [.lst e [.int .i64 v] 1,.int .i64 (n:Int)] 3 (cells (List.replicate n v)) n false:=by
 have hm:=kQ n (by omega)
 refine BN.enter (Ar (by decide)) Tryz.func115 rfl (by kernel_rfl) (by simp [Tryz.ntmps115]) ?_
 repeat' (first|apply Ad.assoc|apply Ad.Aw|apply Ad.Aq|apply Ad.Aj|apply Af.nil|apply Af.one|(apply Af.take;rfl;rfl)|(apply Aa.fn;rfl;rfl;exact hm;intro _;rfl)|(apply Aa.JB n (0:Int);rfl;rfl;rfl;rfl;rfl;rfl;rfl;omega;decide;decide;rfl)|(apply Aa.copy (k:=1) (N:=1) (xs:=[.int .i64 v]);rfl;rfl;exact h0;rfl;rfl;decide;exact zJ.lst rfl rfl (Nat.le_refl 1) rfl;omega;decide;rfl;(rw [Ce,List.length_replicate];show 0+1*1≤n*1;omega))|(apply Aa.assign;rfl)|(apply Aa.move;rfl)|(apply Aa.int;rfl;rfl;rfl)|(apply Aa.AB;rfl;rfl)|(apply Aa.Bz;rfl;rfl)|(apply Aa.extract;rfl;rfl)|(apply Aa.DL;rfl;rfl;rfl;rfl;omega)|(apply Aa.WU;rfl;rfl;rfl;rfl;omega)|(apply Ad.AU;rfl)|(apply Ad.Ae;rfl)|(intro _;try (exfalso;omega)))
 all_goals try (exfalso;omega)
 refine Ad.Ec (fun k:Nat=>[(7,.vec 0 n 0 n),(8,.p (.int .i64 (k:Int)))]) (fun k=>[(0,.vec 3 (cells (Oj n k v)) n false)]) 1 (fun k=>1≤k∧k≤n) (fun k=>n-k) 1 (by omega) ⟨by omega,by omega⟩ ⟨by omega,?_,?_⟩ ?_
 ·repeat (first|exact Ah.nil|refine Ah.same (by exact PV.Ag rfl) rfl ?_|refine Ah.cons trivial rfl (.of_eq (AL (by simp<;>omega))) ?_)
 ·have:=oN n v h0
  rw [this]
  repeat (first|exact Ap.nil|(refine Ap.cons (Ac rfl) ?_ rfl ?_ ?_;(first|exact HB.Ag rfl|exact Ba.Ai _ _|(simp [HB.under,Ba.under,PV.under]));(first|exact BG.refl _|exact BG.vec (Bo.refl _) (by simp))))
 ·rintro k ⟨k1,k2⟩
  have hl:=QA n k v k2
  by_cases hk:k<n
  ·repeat' (first|apply Ad.assoc|apply Ad.Aw|apply Ad.Di|apply Ad.Aq|apply AP.normal|apply Ad.IZ|apply Af.nil|apply Ak.nil|apply Af.one|(apply Ak.bar;decide +kernel)|apply Ak.quiet|(apply Aa.qc (sz:=1) (a:=k) (c:=n);rfl;rfl;exact h0;rfl;rfl;rfl;exact ⟨_,rfl⟩;rfl;omega;exact Nat.le_refl _)|(apply Aa.qc (sz:=1) (a:=0) (c:=k);rfl;rfl;exact h0;rfl;rfl;rfl;rfl;exact ⟨_,rfl⟩;omega;exact k2)|(apply Aa.copy (k:=min k (n-k)) (N:=k) (xs:=cells (List.replicate (min k (n-k)) v));rfl;rfl;exact h0;rfl;rfl;decide;exact zJ.vec rfl rfl h0 (uD n k v k2) (by omega) (sJ n k v k2);rfl;omega;exact wR n k v;exact lY n k v k2)|(apply Aa.assign;rfl)|(apply Aa.move;rfl)|(apply Aa.BD;rfl;rfl;omega)|(apply Aa.int;rfl;rfl;rfl)|(apply Aa.lenV;rfl;rfl;rfl)|(apply Ad.Ae;rfl)|(intro _;try (exfalso;omega)))
   refine Az.normal ⟨k+min k (n-k),⟨by omega,by omega⟩,by omega,⟨by omega,?_,?_⟩⟩
   ·repeat (first|exact Ah.nil|refine Ah.same (by exact PV.Ag rfl) rfl ?_|refine Ah.cons trivial rfl (.of_eq (AL (by simp<;>omega))) ?_)
   ·rw [qh n k v k2]
    repeat (first|exact Ap.nil|(refine Ap.cons (Ac rfl) ?_ rfl ?_ ?_;(first|exact HB.Ag rfl|exact Ba.Ai _ _|(simp [HB.under,Ba.under,PV.under]));(first|exact BG.refl _|exact BG.vec (Bo.refl _) (by simp))))
  ·obtain rfl:k=n:=by omega
   repeat' (first|apply Ad.assoc|apply Ad.Aw|apply Ad.Bj|apply AV.normal|apply AP.exit|apply Az.exit|apply Ad.ret|apply Af.nil|apply Af.one|(apply Aa.assign;rfl)|(apply Aa.move;rfl)|(apply Aa.int;rfl;rfl;rfl)|(apply Aa.lenV;rfl;rfl;rfl)|(apply Ad.Ae;rfl)|(intro _;try (exfalso;omega)))
   rw [qU]
   exact Cb.ret rfl rfl rfl rfl
end Go.Proofs.YtnhdddmhkhdlhaaGreatDoor
namespace Go.Proofs.YtnhdddmhkhdlhaaGreatDoor
open Go Go.Am Go.Vm Go.Pie
attribute [local irreducible] Aa Af Ak Ad Bv AQ BN AV AP Az Vm.Done Cb BH
attribute [local irreducible] Dc BZ EL ES Gj BK Dz
def TN (c:UInt8):Gs:=⟨[c],[102,108,117,116,101],⟨8,1⟩,36,List.replicate 25 1⟩
def exS (n Dn sh:Int):Stp:=⟨[97],⟨Dn,1⟩,[⟨36,48,[⟨n,sh⟩]⟩]⟩
def uj:Y3:=⟨[111,110,101],false,36,48,[exS 0 8 0]⟩
def vU:Y3:=⟨[116,119,111],false,36,48,[exS 1 4 12]⟩
def eF:EN:=⟨[101],[TN 114,TN 115],[uj,vU],[⟨[99],0,1,0,false⟩]⟩
def exG:Rgs:=⟨[1,0],0,0⟩
def dP:DY:=⟨[0,4,8],[⟨0,6,0,40⟩,⟨4,8,0,43⟩],[⟨1,exG⟩]⟩
theorem Zh (c:UInt8):AQ env 93 [.str (bs [c])] (.p (.agg (Enc.enc (TN c)))):=by
 have hr:=Za 3 1 25 (by decide) (by decide)
 refine AQ.enter (Ar (by decide)) Tryz.func93 rfl (by kernel_rfl) (by simp [Tryz.ntmps93]) ?_
 repeat' (first|(refine Af.JE 6 ?_;refine Af.ghost (A8.freeze 5 rfl rfl) ?_)|(refine Af.JE 7 ?_;refine Af.ghost (A8.freeze 6 rfl rfl) ?_)|apply Ad.Aw|apply Ad.ret|apply Af.nil|apply Af.one|(apply Aa.fv;rfl;rfl;exact hr)|(apply Aa.move;rfl)|(apply Aa.alloc;rfl)|(apply Aa.AY;rfl;rfl;rfl;trivial;rfl;rfl;exact Ac rfl;exact le_dec rfl)|(apply Aa.build;rfl;rfl;rfl;rfl;rfl)|(apply Aa.buildSlice;rfl;rfl;rfl;decide;rfl;rfl;rfl))
 all_goals first|(exfalso;omega)|(refine Done.ret rfl (.refl _) (by exact PV.Ag rfl) Ap.nil (Nat.zero_le _) (Nat.le_refl _) ⟨?_,rfl,rfl⟩;try rfl)
theorem Z4 (n Dn sh:Int):AQ env 92 [.int .i64 n,.int .i64 Dn,.int .i64 sh] (.p (.lst 127 (cells [exS n Dn sh]) 1)):=by
 refine AQ.enter (Ar (by decide)) Tryz.func92 rfl (by kernel_rfl) (by simp [Tryz.ntmps92]) ?_
 repeat' (first|(refine Af.JE 13 ?_;refine Af.ghost (A8.freeze 12 rfl rfl) ?_)|(refine Af.JE 15 ?_;refine Af.ghost (A8.freeze 14 rfl rfl) ?_)|(refine Af.JE 6 ?_;refine Af.ghost (A8.freeze 16 rfl rfl) ?_)|apply Ad.Aw|apply Ad.ret|apply Af.nil|apply Af.one|(apply Aa.assign;rfl)|(apply Aa.move;rfl)|(apply Aa.build;rfl;rfl;rfl;rfl;rfl)|(apply Aa.buildSlice;rfl;rfl;rfl;decide;rfl;rfl;rfl))
 all_goals first|(exfalso;omega)|(refine Done.ret rfl (.refl _) (by exact PV.Ag rfl) Ap.nil (Nat.zero_le _) (Nat.le_refl _) ⟨?_,rfl,rfl⟩;try rfl)
theorem pz:AQ env 72 [] (.p (.agg (Enc.enc eF))):=by
 have h1:=Zh 114
 have h2:=Zh 115
 have h3:=Z4 0 8 0
 have h4:=Z4 1 4 12
 refine AQ.enter (Ar (by decide)) Tryz.func72 rfl (by kernel_rfl) (by simp [Tryz.ntmps72]) ?_
 repeat' (first|(refine Ak.atIdx 14 ?_;refine Ak.ghost (A8.trans (A8.freeze 6 rfl rfl) (A8.trans (A8.freeze 15 rfl rfl) (A8.freeze 17 rfl rfl))) ?_)|apply Ad.Aw|apply Ad.Bl|apply Ad.ret|apply Af.nil|apply Ak.nil|apply Af.one|(apply Ak.bar;decide +kernel)|apply Ak.quiet|(apply Aa.fn;rfl;rfl;exact h1;intro _;rfl)|(apply Aa.fn;rfl;rfl;exact h2;intro _;rfl)|(apply Aa.fn;rfl;rfl;exact h3;intro _;rfl)|(apply Aa.fn;rfl;rfl;exact h4;intro _;rfl)|(apply Aa.assign;rfl)|(apply Aa.move;rfl)|(apply Aa.load;rfl;rfl)|(apply Aa.alloc;rfl)|(apply Aa.AY;rfl;rfl;rfl;trivial;rfl;rfl;exact Ac rfl;exact le_dec rfl)|(apply Aa.build;rfl;rfl;rfl;rfl;rfl)|(apply Aa.buildSlice;rfl;rfl;rfl;decide;rfl;rfl;rfl))
 all_goals first|(exfalso;omega)|(refine Done.ret rfl (.refl _) (by exact PV.Ag rfl) Ap.nil (Nat.zero_le _) (Nat.le_refl _) ⟨?_,rfl,rfl⟩;try rfl)
theorem nM:AQ env 38 [] (.EK [.p (.agg (Enc.enc eF)),.p (.agg (Enc.enc dP))]):=by
 have h1:=pz
 refine AQ.enter (Ar (by decide)) Tryz.func38 rfl (by kernel_rfl) (by simp [Tryz.ntmps38]) ?_
 repeat' (first|(refine Af.JE 4 ?_;refine Af.ghost (A8.freeze 3 rfl rfl) ?_)|(refine Ak.atIdx 8 ?_;refine Ak.ghost (A8.trans (A8.freeze 6 rfl rfl) (A8.trans (A8.freeze 9 rfl rfl) (A8.freeze 12 rfl rfl))) ?_)|(refine Ak.atIdx 9 ?_;apply Ak.weak [.tmp 2];decide +kernel;rfl;rfl;(first|exact Qj.ref rfl|exact Qj.vec rfl|exact Qj.Ei rfl);decide +kernel;rfl)|apply Ad.Aw|apply Ad.Bl|apply Ad.ret|apply Af.nil|apply Ak.nil|apply Af.one|(apply Ak.bar;decide +kernel)|apply Ak.quiet|(apply Aa.fn;rfl;rfl;exact h1;intro _;rfl)|(apply Aa.load;rfl;rfl)|(apply Aa.alloc;rfl)|(apply Aa.AY;rfl;rfl;rfl;trivial;rfl;rfl;exact Ac rfl;exact le_dec rfl)|(apply Aa.build;rfl;rfl;rfl;rfl;rfl)|(apply Aa.buildSlice;rfl;rfl;rfl;decide;rfl;rfl;rfl))
 all_goals first|(exfalso;omega)|(refine Done.ret rfl (.refl _) (by exact PV.Ag rfl) Ap.nil (Nat.zero_le _) (Nat.le_refl _) ⟨?_,rfl,rfl⟩;try rfl)
end Go.Proofs.YtnhdddmhkhdlhaaGreatDoor
namespace Go.Proofs.YtnhdddmhkhdlhaaGreatDoor
open Go Go.Am Go.Vm Go.Pie
attribute [local irreducible] Aa Af Ak Ad Bv AQ BN AV AP Az Vm.Done Cb BH
attribute [local irreducible] Dc BZ EL ES Gj BK Dz
instance (c:Nat):Decidable (Y6 c):=by unfold Y6;infer_instance
theorem XO (s:List UInt8) (h0:0<s.length) (h1:s.length≤32) (h:∀ i,i<s.length→Y6 (gi s i).toNat):Du s:=⟨h0,h1,h 0 h0,fun i _ hi=>.inl (h i hi)⟩
theorem sZ {i:Nat} (h:i<2):i=0∨i=1:=by omega
theorem pk1 (n:Int) (h:n=8∨n=4):NJ ⟨n,1⟩=0:=PU.2 (by rcases h with rfl|rfl<;>decide +kernel)
theorem qw {c:UInt8} (hc:Y6 c.toNat):Dc (TN c)=0:=by
 unfold Dc
 have h1:Du (TN c).name:=⟨by show 0<1;decide,by show 1≤32;decide,hc,fun i h1 h2=>by
  have:i<1:=h2
  omega⟩
 have h2:Du (TN c).Ht:=XO [102,108,117,116,101] (by decide) (by decide) (by decide)
 have h3:NJ (TN c).Dn=0:=pk1 8 (.inl rfl)
 have hw:(TN c).EC=List.replicate 25 1:=rfl
 rw [if_neg (by rintro (h|h);exact h h1;exact h h2),if_neg (fun h=>h h3),if_neg (by show ¬ ((36:Int)< -256∨(36:Int)>256);omega),hw,List.length_replicate,if_neg (by omega),if_neg (by omega)]
 unfold BZ
 rw [if_pos]
 intro j hj
 rw [List.length_replicate] at hj
 have:gi (List.replicate 25 (1:Int)) j=1:=by unfold gi;rw [List.getElem?_replicate,if_pos hj];rfl
 rw [this]
 decide
theorem a1t:∀ i,i<[TN 114,TN 115].length→Dc (gi [TN 114,TN 115] i)=0:=fun i hi=>by
 rcases sZ hi with rfl|rfl
 ·exact qw (c:=114) (by decide)
 ·exact qw (c:=115) (by decide)
theorem sG {n Dn sh:Int} (h1:0≤n∧n<2) (h2:Dn=8∨Dn=4) (h3:-127≤sh∧sh≤127):EL [TN 114,TN 115] 36 48 (exS n Dn sh)=0:=by
 unfold EL
 rw [Xu a1t (by decide) (by decide),if_neg (fun h=>h rfl)]
 unfold uw
 have e1:Du (exS n Dn sh).name:=XO [97] (by decide) (by decide) (by decide)
 have e2:NJ (exS n Dn sh).Dn=0:=pk1 Dn h2
 have es:(exS n Dn sh).Hg=[⟨36,48,[⟨n,sh⟩]⟩]:=rfl
 rw [if_neg (fun h=>h e1),if_neg (fun h=>h e2),es,if_neg (by simp),if_neg (by simp)]
 exact Jl (by simp) (H7 ⟨h1,h3⟩)
theorem a0o {nm:List UInt8} {s:Stp} (h:EL [TN 114,TN 115] 36 48 s=0):ES [TN 114,TN 115] ⟨nm,false,36,48,[s]⟩=0:=by
 unfold ES
 rw [show RZ 36 48=0 from Ji (by decide),if_neg (fun h=>h rfl),if_neg (by show ¬ ([s].length>60);simp)]
 exact Pj (fun i hi=>by
  obtain rfl:i=0:=by
   have:i<1:=hi
   omega
  exact ⟨h,by simp⟩) _ 0 rfl
theorem iY:Q5 eF=0:=by
 have eR:eF.ranks=[TN 114,TN 115]:=rfl
 have eD:eF.Au=[uj,vU]:=rfl
 have eC:eF.GN=[⟨[99],0,1,0,false⟩]:=rfl
 have eN:eF.name=[101]:=rfl
 unfold Q5
 rw [eR,eD,eC,eN]
 have hr:MS [TN 114,TN 115] 0=0:=RY (fun i hi=>⟨a1t i hi,by
  rcases sZ hi with rfl|rfl
  ·simp
  ·show [115]∉[[114]];simp⟩) _ 0 rfl
 have hd:F5 [TN 114,TN 115] [uj,vU] 0=0:=OY (fun i hi=>by
  rcases sZ hi with rfl|rfl
  ·exact ⟨XO [111,110,101] (by decide) (by decide) (by decide),by simp,a0o (sG (by decide) (.inl rfl) (by decide))⟩
  ·exact ⟨XO [116,119,111] (by decide) (by decide) (by decide),by show [116,119,111]∉[[111,110,101]];simp,a0o (sG (by decide) (.inr rfl) (by decide))⟩) _ 0 rfl
 rw [if_neg (fun h=>h (XO [101] (by decide) (by decide) (by decide))),if_neg (by simp),if_neg (fun h=>h hr),if_neg (by simp),if_neg (by simp),if_neg (fun h=>h hd)]
 unfold Gj
 rw [if_neg (by simp)]
 have hc:Pv ([uj,vU].map fun d=>(⟨d.lo,d.hi⟩:Yf)) 0=0:=QW (fun i hi=>by
  rcases sZ hi with rfl|rfl
  ·exact Ji (by decide)
  ·exact Ji (by decide)) _ 0 rfl
 rw [if_neg (fun h=>h hc)]
 exact OW (fun i hi=>by
  obtain rfl:i=0:=by
   have:i<1:=hi
   omega
  exact ⟨⟨XO [99] (by decide) (by decide) (by decide),by decide,by decide,by decide,by decide⟩,by simp⟩) _ 0 rfl
theorem rW (n Dn sh:Int):Xm (exS n Dn sh):=⟨by show 1<1000000;decide,by show 1<1000000;decide,fun i hi=>by
 obtain rfl:i=0:=by
  have:i<1:=hi
  omega
 exact ⟨by show 1<1000000;decide⟩⟩
theorem og (c:UInt8):Vx (TN c):=⟨by show 1<1000000;decide,by show 5<1000000;decide,by show (List.replicate 25 1).length<1000000;decide⟩
theorem rM:Ic eF:=by
 refine ⟨by show 1<1000000;decide,by show 2<1000000;decide,by show 2<1000000;decide,by show 1<1000000;decide,fun i hi=>?_,fun i hi=>?_,fun i hi=>?_⟩
 ·rcases sZ hi with rfl|rfl
  ·exact og 114
  ·exact og 115
 ·rcases sZ hi with rfl|rfl
  ·refine ⟨by show 3<1000000;decide,by show 1<1000000;decide,fun j hj=>?_⟩
   obtain rfl:j=0:=by
    have:j<1:=hj
    omega
   exact rW 0 8 0
  ·refine ⟨by show 3<1000000;decide,by show 1<1000000;decide,fun j hj=>?_⟩
   obtain rfl:j=0:=by
    have:j<1:=hj
    omega
   exact rW 1 4 12
 ·obtain rfl:i=0:=by
   have:i<1:=hi
   omega
  show 1<1000000
  decide
theorem oV:UJ eF:=yP rM iY
theorem wP:Ot eF exG=0:=by
 rw [QO rfl (fun i hi=>by
  rcases sZ hi with rfl|rfl
  ·rfl
  ·rfl)]
 rfl
theorem yC:GH dP:=⟨by show 3<1000000;decide,by show 2<1000000;decide,by show 1<1000000;decide,fun i hi=>by
 obtain rfl:i=0:=by
  have:i<1:=hi
  omega
 exact ⟨fun j hj=>by
  rcases sZ hj with rfl|rfl
  ·show 1<18446744073709551616;decide
  ·show 0<18446744073709551616;decide,by show 0<18446744073709551616;decide,by show 0<18446744073709551616;decide,by show 2<9223372036854775808;decide⟩⟩
theorem ZU:Wn eF dP:=by
 refine jm yC ⟨by show 2≤3;decide,by show 3≤201;decide⟩ (fun i hi=>?_) (by show 2≤1000;decide) (fun i hi=>?_) (by show 1≤100;decide) fun i hi=>?_
 ·have:i=0∨i=1∨i=2:=by
   have:i<3:=hi
   omega
  rcases this with rfl|rfl|rfl
  ·exact ⟨by decide,fun h=>by omega⟩
  ·exact ⟨by decide,fun _=>by decide⟩
  ·exact ⟨by decide,fun _=>by decide⟩
 ·rcases sZ hi with rfl|rfl
  ·exact ⟨by decide,by decide,by decide,fun j hj=>by omega⟩
  ·refine ⟨by decide,by decide,by decide,fun j hj=>?_⟩
   obtain rfl:j=0:=by omega
   decide
 ·obtain rfl:i=0:=by
   have:i<1:=hi
   omega
  exact ⟨by decide,fun h=>by omega,wP⟩
theorem Ya:I9 eF dP=0:=by unfold I9;rw [if_neg (fun h=>h iY)];exact ZU.err
theorem tV {t:Int} (h:0≤t∧t<8):YH eF dP t=0:=by
 unfold YH
 rw [if_neg (fun h=>h Ya),if_neg]
 show ¬ (t<0∨t≥8)
 omega
theorem vg:F7 dP=[0,4,6,8]:=by
 refine iM (Zo (mF _)) (by unfold Inc;simp) fun x=>?_
 unfold F7
 rw [SN,List.mem_mergeSort]
 have:Ui dP dP.notes.length=[0,8,0,6,4,8]:=rfl
 rw [this]
 simp only [List.mem_cons,List.not_mem_nil,or_false]
 omega
theorem vC:tq dP=[⟨0,4,[0]⟩,⟨4,6,[0,1]⟩,⟨6,8,[1]⟩]:=by
 unfold tq
 rw [vg]
 decide +kernel
theorem wJ:(vw dP 1 2).notes=[⟨4,6,0,40⟩,⟨4,8,0,43⟩]:=by decide +kernel
theorem cZ:AQ env 11 [] (.p (.bool true)):=by
 have h0:=nM
 have hs:=ZI rM Ya ZU
 rw [vC] at hs
 have h3:=Tn oV ZU 3 (tV (by decide))
 rw [show Md dP 3=-1 from rfl] at h3
 have h4:=Tn oV ZU 4 (tV (by decide))
 rw [show Md dP 4=0 from rfl,show wX eF dP 4=exG from rfl] at h4
 have hc:=pI oV Ya ZU 1 2 (by decide) (by decide)
 have ec:=wJ
 generalize vw dP 1 2=C at *
 obtain ⟨cb,cn,cs⟩:=C
 simp only at ec
 subst ec
 generalize wX eF dP 3=W at *
 refine AQ.enter (Ar (by decide)) Tryz.func11 rfl (by kernel_rfl) (by simp [Tryz.ntmps11]) ?_
 repeat' (first|apply Ad.Aw|apply Ad.ret|apply Af.nil|apply Af.one|(apply Af.take;rfl;rfl)|(apply Aa.fn;rfl;rfl;exact h0;intro _;rfl)|(apply Aa.fn;rfl;rfl;exact hs;intro _;rfl)|(apply Aa.fn;rfl;rfl;exact h3;intro _;rfl)|(apply Aa.fn;rfl;rfl;exact h4;intro _;rfl)|(apply Aa.fn;rfl;rfl;exact hc;intro _;rfl)|(apply Aa.qK;rfl;rfl;rfl;decide;(first|decide|simp))|(apply Aa.assign;rfl)|(apply Aa.move;rfl)|(apply Aa.int;rfl;rfl;rfl)|(apply Aa.load;rfl;rfl)|(apply Aa.AZ;rfl;rfl)|(apply Aa.Bz;rfl;rfl)|(apply Aa.AA;rfl;rfl;rfl)|(apply Aa.Dk;rfl;rfl)|(apply Aa.alloc;rfl)|(apply Aa.AY;rfl;rfl;rfl;trivial;rfl;rfl;exact Ac rfl;exact le_dec rfl)|(apply Aa.extract;rfl;rfl))
 all_goals try (exfalso;omega)
 all_goals (refine Done.ret rfl (.refl _) (by exact PV.Ag rfl) Ap.nil (Nat.zero_le _) (Nat.le_refl _) ⟨?_,rfl,rfl⟩;try rfl)
end Go.Proofs.YtnhdddmhkhdlhaaGreatDoor
namespace Go.Proofs.YtnhdddmhkhdlhaaGreatDoor
open Go Go.Am Go.Vm
theorem LJ {n:Int} (h:(Lit.int .u8 n).wf=true):∃ m:Nat,m<256∧n=m:=by
 simp [Lit.wf,IntKind.min,IntKind.max,IntKind.signed,IntKind.bits] at h
 exact ⟨n.toNat,by omega,by omega⟩
theorem oD {n:Int} (h:(Lit.int .i8 n).wf=true):-128≤n∧n≤127:=by
 simp [Lit.wf,IntKind.min,IntKind.max,IntKind.signed,IntKind.bits] at h
 omega
theorem U9 {α β:Type} {R:β→α→Prop}:∀ {l:List α},(∀ x∈l,∃ y,R y x)→∃ r:List β,Gi R r l
 |[],_=>⟨[],.nil⟩
 |a::l,h=>by
  obtain ⟨y,hy⟩:=h a (by simp)
  obtain ⟨r,hr⟩:=U9 (l:=l) (fun x hx=>h x (by simp [hx]))
  exact ⟨y::r,.cons hy hr⟩
theorem Vw {α:Type} [Enc α] {p:α→Prop}:∀ {r:List α} {L:List (List FV)},Gi (fun a fs=>fs=Enc.enc a∧p a) r L→L.flatten=cells r∧L.length=r.length∧∀ i,i<r.length→p (gi r i)
 |_,_,.nil=>⟨rfl,rfl,fun i hi=>by simp at hi⟩
 |a::r,fs::L,.cons ⟨h1,h2⟩ t=>by
  obtain ⟨e1,e2,e3⟩:=Vw t
  refine ⟨by rw [List.flatten_cons,e1,h1];rfl,by simp [e2],fun i hi=>?_⟩
  cases i with
  |zero=>exact h2
  |succ i=>exact e3 i (by simpa using hi)
section
variable {α β:Type} {R:α→β→Prop} {a b c d e:α} {r:List β}
theorem rD (h:Gi R [a] r):∃ x,r=[x]∧R a x:=by
 cases h with|cons h1 t=>cases t;exact ⟨_,rfl,h1⟩
theorem Z5 (h:Gi R [a,b] r):∃ x y,r=[x,y]∧R a x∧R b y:=by
 cases h with|cons h1 t=>obtain ⟨x,rfl,h2⟩:=rD t;exact ⟨_,_,rfl,h1,h2⟩
theorem Jq (h:Gi R [a,b,c] r):∃ x y z,r=[x,y,z]∧R a x∧R b y∧R c z:=by
 cases h with|cons h1 t=>obtain ⟨x,y,rfl,h2,h3⟩:=Z5 t;exact ⟨_,_,_,rfl,h1,h2,h3⟩
theorem Jm (h:Gi R [a,b,c,d] r):∃ x y z w,r=[x,y,z,w]∧R a x∧R b y∧R c z∧R d w:=by
 cases h with|cons h1 t=>obtain ⟨x,y,z,rfl,h2,h3,h4⟩:=Jq t;exact ⟨_,_,_,_,rfl,h1,h2,h3,h4⟩
theorem mg (h:Gi R [a,b,c,d,e] r):∃ x y z w v,r=[x,y,z,w,v]∧R a x∧R b y∧R c z∧R d w∧R e v:=by
 cases h with|cons h1 t=>obtain ⟨x,y,z,w,rfl,h2,h3,h4,h5⟩:=Jm t;exact ⟨_,_,_,_,_,rfl,h1,h2,h3,h4,h5⟩
end
theorem bK {j:Nat} {fs:List FV} (h:Ez Tryz.prog (j+1) 4 fs):∃ b:Bool,fs=[.bool b]:=by
 simp only [Ez,Tryz.underlying4] at h
 exact h
theorem a3t {α:Type} {l:List α} (h:l.length=5):∃ a b c d e,l=[a,b,c,d,e]:=by
 match l,h with|[a,b,c,d,e],_=>exact ⟨a,b,c,d,e,rfl⟩
theorem jO {j:Nat} {fs:List FV} (h:Ez Tryz.prog (j+3) 166 fs):∃ x:FZ,fs=x.enc∧x.Ok:=by
 simp only [Ez,Tryz.underlying166,Tryz.underlying5,Tryz.underlying76,Tryz.underlying115] at h
 obtain ⟨parts,rfl,hp⟩:=h
 obtain ⟨a,b,c,d,e,rfl,⟨n1,rfl,h1⟩,⟨n2,rfl,h2⟩,⟨n3,rfl,h3⟩,⟨n4,rfl,h4⟩,L,rfl,hl,hL⟩:=mg hp
 obtain ⟨m1,q1,rfl⟩:=LJ h1
 obtain ⟨m2,q2,rfl⟩:=LJ h2
 obtain ⟨m4,q4,rfl⟩:=LJ h4
 obtain ⟨a,b,c,d,e,rfl⟩:=a3t hl
 obtain ⟨w0,rfl,g0⟩:=hL a (by simp)
 obtain ⟨w1,rfl,g1⟩:=hL b (by simp)
 obtain ⟨w2,rfl,g2⟩:=hL c (by simp)
 obtain ⟨w3,rfl,g3⟩:=hL d (by simp)
 obtain ⟨w4,rfl,g4⟩:=hL e (by simp)
 obtain ⟨v0,k0,rfl⟩:=LJ g0
 obtain ⟨v1,k1,rfl⟩:=LJ g1
 obtain ⟨v2,k2,rfl⟩:=LJ g2
 obtain ⟨v3,k3,rfl⟩:=LJ g3
 obtain ⟨v4,k4,rfl⟩:=LJ g4
 refine ⟨⟨m1,m2,n3,m4,[v0,v1,v2,v3,v4]⟩,rfl,q1,q2,oD h3,q4,fun i=>?_⟩
 match i with
 |0=>exact k0
 |1=>exact k1
 |2=>exact k2
 |3=>exact k3
 |4=>exact k4
 |n+5=>simp [gi]
end Go.Proofs.YtnhdddmhkhdlhaaGreatDoor
namespace Go.Proofs.YtnhdddmhkhdlhaaGreatDoor
open Go Go.Am Go.Vm
theorem EY {P:Program} {n:Nat} {t:TypeId} {fs:List FV} {sf:Array Field} (h:Ez P (n+1) t fs) (hu:P.underlying t=some (.struct sf)):∃ parts:List (List FV),fs=parts.flatten∧Gi (fun (fd:Field) x=>Ez P n fd.type x) sf.toList parts:=by
 unfold Ez at h;rw [hu] at h;exact h
theorem GU {P:Program} {n:Nat} {t e:TypeId} {fs:List FV} {α:Type} [Enc α] {p:α→Prop} (h:Ez P (n+1) t fs) (hu:P.underlying t=some (.slice e)) (he:∀ x,Ez P n e x→∃ a:α,x=Enc.enc a∧p a):∃ l:List α,fs=[.lst e (cells l) l.length]∧l.length≤maxLen∧∀ i,i<l.length→p (gi l i):=by
 unfold Ez at h;rw [hu] at h
 obtain ⟨L,rfl,hl,hL⟩:=h
 obtain ⟨r,hr⟩:=U9 (R:=fun (a:α) fs=>fs=Enc.enc a∧p a) (l:=L) (fun x hx=>he x (hL x hx))
 obtain ⟨e1,e2,e3⟩:=Vw hr
 exact ⟨r,by rw [e1,e2],by omega,e3⟩
theorem EH {j:Nat} {fs:List FV} (h:Ez Tryz.prog (j+1) 5 fs):∃ n:Nat,fs=[.int .u8 (n:Int)]∧n<256:=by
 simp only [Ez,Tryz.underlying5] at h
 obtain ⟨n,rfl,hn⟩:=h
 obtain ⟨m,q,rfl⟩:=LJ hn
 exact ⟨m,rfl,q⟩
theorem rY {j:Nat} {fs:List FV} (h:Ez Tryz.prog (j+1) 76 fs):∃ n:Int,fs=[.int .i8 n]∧-128≤n∧n≤127:=by
 simp only [Ez,Tryz.underlying76] at h
 obtain ⟨n,rfl,hn⟩:=h
 exact ⟨n,rfl,oD hn⟩
theorem qJ {j:Nat} {fs:List FV} (h:Ez Tryz.prog (j+2) 169 fs):∃ x:kZ,fs=Enc.enc x∧x.Ok:=by
 obtain ⟨parts,rfl,hp⟩:=EY h Tryz.underlying169
 obtain ⟨a,b,c,d,rfl,h1,h2,h3,h4⟩:=Jm hp
 obtain ⟨m1,rfl,q1⟩:=EH (j:=j) h1
 obtain ⟨m2,rfl,q2⟩:=EH (j:=j) h2
 obtain ⟨m3,rfl,q3⟩:=EH (j:=j) h3
 obtain ⟨m4,rfl,q4⟩:=EH (j:=j) h4
 exact ⟨⟨m1,m2,m3,m4⟩,rfl,q1,q2,q3,q4⟩
theorem mD {j:Nat} {fs:List FV} (h:Ez Tryz.prog (j+4) 163 fs):∃ x:mJ,fs=Enc.enc x∧x.Ok:=by
 obtain ⟨parts,rfl,hp⟩:=EY h Tryz.underlying163
 obtain ⟨a,b,c,d,rfl,h1,h2,h3,h4⟩:=Jm hp
 obtain ⟨m1,rfl,q1⟩:=EH (j:=j+2) h1
 obtain ⟨m2,rfl,q2⟩:=EH (j:=j+2) h2
 obtain ⟨m3,rfl⟩:=bK (j:=j+2) h3
 obtain ⟨l,rfl,hl,hL⟩:=GU (n:=j+2) (p:=kZ.Ok) h4 Tryz.underlying161 (fun x hx=>qJ hx)
 exact ⟨⟨m1,m2,m3,l⟩,rfl,q1,q2,by simp only [maxLen] at hl;simp only;omega,hL⟩
theorem rX {j:Nat} {fs:List FV} (h:Ez Tryz.prog (j+2) 171 fs):∃ x:nV,fs=Enc.enc x∧x.Ok:=by
 obtain ⟨parts,rfl,hp⟩:=EY h Tryz.underlying171
 obtain ⟨a,b,c,d,rfl,h1,h2,h3,h4⟩:=Jm hp
 obtain ⟨m1,rfl,q1⟩:=EH (j:=j) h1
 obtain ⟨m2,rfl,q2⟩:=EH (j:=j) h2
 obtain ⟨m3,rfl,q3⟩:=rY (j:=j) h3
 obtain ⟨m4,rfl⟩:=bK (j:=j) h4
 exact ⟨⟨m1,m2,m3,m4⟩,rfl,q1,q2,q3⟩
theorem mQ {j:Nat} {fs:List FV} (h:Ez Tryz.prog (j+6) 26 fs):∃ x:ni,fs=x.enc∧x.Ok:=by
 obtain ⟨parts,rfl,hp⟩:=EY h Tryz.underlying26
 obtain ⟨a,b,c,rfl,h1,h2,h3⟩:=Jq hp
 obtain ⟨l1,rfl,n1,g1⟩:=GU (n:=j+4) (p:=FZ.Ok) h1 Tryz.underlying22 (fun x hx=>jO (j:=j+1) hx)
 obtain ⟨l2,rfl,n2,g2⟩:=GU (n:=j+4) (p:=mJ.Ok) h2 Tryz.underlying23 (fun x hx=>mD hx)
 obtain ⟨l3,rfl,n3,g3⟩:=GU (n:=j+4) (p:=nV.Ok) h3 Tryz.underlying24 (fun x hx=>rX (j:=j+2) hx)
 simp only [maxLen] at n1 n2 n3
 exact ⟨⟨l1,l2,l3⟩,rfl,g1,g2,g3,by simp only;omega,by simp only;omega,by simp only;omega⟩
end Go.Proofs.YtnhdddmhkhdlhaaGreatDoor
namespace Go.Proofs.YtnhdddmhkhdlhaaGreatDoor
open Go Go.Am Go.Vm
theorem a1u {α:Type} {L:List α} (h:L.length=5):∃ a b c d e,L=[a,b,c,d,e]:=by
 match L,h with
 |[a,b,c,d,e],_=>exact ⟨a,b,c,d,e,rfl⟩
theorem lu {j:Nat} {fs:List FV} (h:Ez Tryz.prog (j+2) 115 fs):∃ b:Nat→Nat,fs=qg b∧∀ i,b i<256:=by
 obtain ⟨L,rfl,hl,hL⟩:=Ez.array h Tryz.underlying115
 obtain ⟨a,b,c,d,e,rfl⟩:=a1u hl
 obtain ⟨m1,rfl,q1⟩:=EH (j:=j) (hL a (by simp))
 obtain ⟨m2,rfl,q2⟩:=EH (j:=j) (hL b (by simp))
 obtain ⟨m3,rfl,q3⟩:=EH (j:=j) (hL c (by simp))
 obtain ⟨m4,rfl,q4⟩:=EH (j:=j) (hL d (by simp))
 obtain ⟨m5,rfl,q5⟩:=EH (j:=j) (hL e (by simp))
 exact ⟨fun i=>if i=0 then m1 else if i=1 then m2 else if i=2 then m3 else if i=3 then m4 else m5,rfl,fun i=>by simp only;split<;>(try split)<;>(try split)<;>(try split)<;>omega⟩
end Go.Proofs.YtnhdddmhkhdlhaaGreatDoor
namespace Go.Proofs.YtnhdddmhkhdlhaaGreatDoor
open Go Go.Am Go.Vm Go.Pie
attribute [local irreducible] Aa Af Ak Ad Bv AQ BN AV AP Az Vm.Done Cb BH
attribute [local irreducible] Dc BZ EL ES Gj BK Dz
theorem tX {j:Nat} {fs:List FV} (h:Ez Tryz.prog (j+1) 5 fs):∃ x:UInt8,fs=Enc.enc x∧True:=by
 obtain ⟨n,rfl,hn⟩:=EH h
 refine ⟨UInt8.ofNat n,?_,trivial⟩
 show _=[FV.int .u8 (((UInt8.ofNat n).toNat:Nat):Int)]
 rw [UInt8.toNat_ofNat',Nat.mod_eq_of_lt hn]
def sW.Ok (y:sW):Prop:=y.st<256∧y.lg<256∧y.dv<256∧y.ky<256
def nT.Ok (y:nT):Prop:=y.bar<256∧∀ j,y.b j<256
theorem kC {j:Nat} {fs:List FV} (h:Ez Tryz.prog (j+2) 106 fs):∃ x:sW,fs=Enc.enc x∧x.Ok:=by
 obtain ⟨parts,rfl,hp⟩:=EY h Tryz.underlying106
 obtain ⟨a,b,c,d,rfl,h1,h2,h3,h4⟩:=Jm hp
 obtain ⟨m1,rfl,q1⟩:=EH (j:=j) h1
 obtain ⟨m2,rfl,q2⟩:=EH (j:=j) h2
 obtain ⟨m3,rfl,q3⟩:=EH (j:=j) h3
 obtain ⟨m4,rfl,q4⟩:=EH (j:=j) h4
 exact ⟨⟨m1,m2,m3,m4⟩,rfl,q1,q2,q3,q4⟩
theorem sH {j:Nat} {fs:List FV} (h:Ez Tryz.prog (j+3) 117 fs):∃ x:nT,fs=Enc.enc x∧x.Ok:=by
 obtain ⟨parts,rfl,hp⟩:=EY h Tryz.underlying117
 obtain ⟨a,b,rfl,h1,h2⟩:=Z5 hp
 obtain ⟨m1,rfl,q1⟩:=EH (j:=j+1) h1
 obtain ⟨b5,rfl,k3⟩:=lu (j:=j) h2
 exact ⟨⟨m1,b5⟩,rfl,q1,k3⟩
theorem mG {j:Nat} {fs:List FV} (h:Ez Tryz.prog (j+7) 31 fs):∃ x:Y9,fs=x.enc∧x.Ok:=by
 obtain ⟨parts,rfl,hp⟩:=EY h Tryz.underlying31
 obtain ⟨a,b,c,d,rfl,h1,h2,h3,h4⟩:=Jm hp
 obtain ⟨x1,rfl,k1⟩:=mQ (j:=j) h1
 obtain ⟨l2,rfl,n2,g2⟩:=GU (n:=j+5) (p:=fun _:UInt8=>True) h2 Tryz.underlying27 (fun x hx=>tX (j:=j+4) hx)
 obtain ⟨l3,rfl,n3,g3⟩:=GU (n:=j+5) (p:=sW.Ok) h3 Tryz.underlying28 (fun x hx=>kC (j:=j+3) hx)
 obtain ⟨l4,rfl,n4,g4⟩:=GU (n:=j+5) (p:=nT.Ok) h4 Tryz.underlying29 (fun x hx=>sH (j:=j+2) hx)
 simp only [maxLen] at n2 n3 n4
 exact ⟨⟨x1,l2,l3,l4⟩,rfl,k1,by simp only;omega,by simp only;omega,by simp only;omega,g3,g4⟩
theorem XI {j:Nat} {fs:List FV} (h:Ez Tryz.prog (j+2) 78 fs):∃ (a b:Nat) (c:Int),fs=[.int .u8 (a:Int),.int .u8 (b:Int),.int .i8 c]∧a<256∧b<256∧-128≤c∧c≤127:=by
 obtain ⟨parts,rfl,hp⟩:=EY h Tryz.underlying78
 obtain ⟨a,b,c,rfl,h1,h2,h3⟩:=Jq hp
 obtain ⟨m1,rfl,q1⟩:=EH (j:=j) h1
 obtain ⟨m2,rfl,q2⟩:=EH (j:=j) h2
 obtain ⟨m3,rfl,q3⟩:=rY (j:=j) h3
 exact ⟨m1,m2,m3,rfl,q1,q2,q3⟩
noncomputable instance (a b:dL):Decidable (a=b):=Classical.propDecidable _
end Go.Proofs.YtnhdddmhkhdlhaaGreatDoor
namespace Go.Proofs.YtnhdddmhkhdlhaaGreatDoor
open Go Go.Am Go.Vm Go.Pie
attribute [local irreducible] Aa Af Ak Ad Bv AQ BN AV AP Az Vm.Done Cb BH
attribute [local irreducible] Dc BZ EL ES Gj BK Dz
theorem xq:AQ env 33 [.agg [.val (.slice none 0 0),.int .u64 0,.int .u64 0],.agg [.val (.slice none 0 0),.int .u64 0,.int .u64 0]] (.p (.bool true)):=by
 have h:=U1 ⟨[],0,0⟩ ⟨[],0,0⟩ (by decide) (by decide)
 rw [decide_eq_true rfl] at h
 refine AQ.le ?_ h
 exact .cons (.agg (.cons (.nil _) (.refl _))) (.cons (.agg (.cons (.nil _) (.refl _))) (.refl _))
end Go.Proofs.YtnhdddmhkhdlhaaGreatDoor
namespace Go.Proofs.YtnhdddmhkhdlhaaGreatDoor
open Go Go.Am Go.Vm Go.Pie
attribute [local irreducible] Aa Af Ak Ad Bv AQ BN AV AP Az Vm.Done Cb BH
attribute [local irreducible] Dc BZ EL ES Gj BK Dz
theorem Xr {o:EN} {p:DY} (ho:Ic o) (hE:I9 o p≠0) (h:GH p) (f t:Int):AQ env 22 [.agg (Enc.enc o),.agg (Enc.enc p),.int .i64 f,.int .i64 t] (.EK [.p (.agg bT),.p (.int .i64 (I9 o p))]):=by
 have ha:=Ee o p ho h
 unfold bT
 generalize I9 o p=e at *
 refine AQ.enter (Ar (by decide)) Tryz.func22 rfl (by kernel_rfl) (by simp [Tryz.ntmps22]) ?_
 repeat' (first|apply Ad.assoc|apply Ad.Aw|apply Ad.Bf|apply Af.nil|apply Af.one|(apply Aa.fn;rfl;rfl;exact ha;intro _;rfl)|(apply Aa.assign;rfl)|(apply Aa.move;rfl)|(apply Aa.int;rfl;rfl;rfl)|(apply Aa.load;rfl;rfl)|(apply Aa.box;rfl;trivial)|(apply Aa.alloc;rfl)|(apply Aa.AY;rfl;rfl;rfl;trivial;rfl;rfl;exact Ac rfl;exact le_dec rfl)|(apply Aa.build;rfl;rfl;rfl;rfl;rfl)|(apply Ad.Ae;rfl)|(intro _;try (exfalso;omega)))
 all_goals first|(exfalso;omega)|contradiction|(refine Done.ret rfl (.refl _) (by exact PV.Ag rfl) Ap.nil (Nat.zero_le _) (Nat.le_refl _) ⟨?_,rfl,rfl⟩;try rfl)
theorem jr:GH ⟨[],[],[]⟩:=⟨by show 0<1000000;decide,by show 0<1000000;decide,by show 0<1000000;decide,fun i hi=>absurd hi (Nat.not_lt_zero _)⟩
theorem iD:AQ env 23 [.agg bT,.agg bT] (.p (.bool true)):=by
 have h:=au ⟨[],[],[]⟩ ⟨[],[],[]⟩ jr jr
 rw [decide_eq_true rfl] at h
 refine AQ.le ?_ h
 exact .cons (.agg (.cons (.nil _) (.cons (.nil _) (.cons (.nil _) (.refl _))))) (.cons (.agg (.cons (.nil _) (.cons (.nil _) (.cons (.nil _) (.refl _))))) (.refl _))
end Go.Proofs.YtnhdddmhkhdlhaaGreatDoor
namespace Go.Proofs.YtnhdddmhkhdlhaaGreatDoor
open Go Go.Am Go.Vm Go.Pie
attribute [local irreducible] Aa Af Ak Ad Bv AQ BN AV AP Az Vm.Done Cb BH
attribute [local irreducible] Dc BZ EL ES Gj BK Dz
def mvN (b:Int) (n:Fg):Fg:=⟨n.s,n.e,n.d,n.k+b⟩
def trK (b:Int) (l:List Fg) (k:Nat):List Fg:=CS (fun i=>if i<k then mvN b (gi l i) else gi l i) l.length
def trP (b:Int) (p:DY):DY:=⟨p.bars,trK b p.notes p.notes.length,p.sets⟩
def a3d (o:EN) (p:DY) (b:Int) (i:Nat):Prop:=(gi o.Au (gi p.notes i).d.toNat).lo≤(gi p.notes i).k+b∧(gi p.notes i).k+b≤(gi o.Au (gi p.notes i).d.toNat).hi
def a3y (o:EN) (p:DY) (b:Int):Prop:=∀ i,i<p.notes.length→a3d o p b i
noncomputable instance (o:EN) (p:DY) (b:Int):Decidable (a3y o p b):=Classical.propDecidable _
theorem Iw (l:List Fg) (h0:0<l.length) (h1:l.length<1000000):BN env 28 [.lst 66 (cells l) l.length] 66 (cells l) l.length false:=by
 refine BN.enter (Ar (by decide)) Tryz.func28 rfl (by kernel_rfl) (by simp [Tryz.ntmps28]) ?_
 repeat' (first|apply Ad.assoc|apply Ad.Aw|apply Ad.Aq|apply Ad.ret|apply Af.nil|apply Af.one|(apply Aa.OT;rfl;rfl;rfl;exact h0)|(apply Aa.assign;rfl)|(apply Aa.move;rfl)|(apply Aa.buildSlice;rfl;rfl;rfl;decide;rfl;rfl;rfl)|(apply Aa.F8;rfl;rfl;rfl;(first|rfl|omega|(simp only [List.length_take,List.length_drop,List.length_append,List.length_singleton,List.length_cons,List.length_nil]<;>omega));rfl;rfl;(intro _ h;cases h);rfl;rfl;rfl;decide;decide;(first|omega|(simp only [List.length_take,List.length_drop,List.length_append,List.length_singleton,List.length_cons,List.length_nil]<;>omega)))|(apply Ad.AU;rfl))
 exact Cb.ret rfl rfl rfl rfl
theorem U7:AQ env 28 [.lst 66 (cells ([]:List Fg)) 0] (.p (.lst 66 (cells ([]:List Fg)) 0)):=by
 refine AQ.enter (Ar (by decide)) Tryz.func28 rfl (by kernel_rfl) (by simp [Tryz.ntmps28]) ?_
 repeat' (first|(refine Af.JE 2 ?_;refine Af.ghost (A8.freeze 7 rfl rfl) ?_)|apply Ad.assoc|apply Ad.Aw|apply Ad.Aq|apply Ad.Bf|apply Ad.ret|apply Af.nil|apply Af.one|(apply Aa.eqNil;rfl;rfl;rfl)|(apply Aa.assign;rfl)|(apply Aa.move;rfl)|(apply Aa.buildSlice;rfl;rfl;rfl;decide;rfl;rfl;rfl)|(apply Aa.F8;rfl;rfl;rfl;(first|rfl|omega|(simp only [List.length_take,List.length_drop,List.length_append,List.length_singleton,List.length_cons,List.length_nil]<;>omega));rfl;rfl;(intro _ h;cases h);rfl;rfl;rfl;decide;decide;(first|omega|(simp only [List.length_take,List.length_drop,List.length_append,List.length_singleton,List.length_cons,List.length_nil]<;>omega)))|(apply Ad.JZ;rfl)|(intro _;try (exfalso;omega)))
 all_goals first|(exfalso;omega)|(refine Done.ret rfl (.p (.nil _)) trivial Ap.nil (Nat.zero_le _) (Nat.le_refl _) ⟨rfl,rfl,rfl⟩;done)|(refine Done.ret rfl (.refl _) (by exact PV.Ag rfl) Ap.nil (Nat.zero_le _) (Nat.le_refl _) ⟨?_,rfl,rfl⟩;try rfl)
theorem LW {o:EN} {p:DY} (ho:Ic o) (hE:I9 o p≠0) (h:GH p) (b:Int):AQ env 27 [.agg (Enc.enc o),.agg (Enc.enc p),.int .i64 b] (.EK [.p (.agg bT),.p (.int .i64 (I9 o p))]):=by
 have ha:=Ee o p ho h
 unfold bT
 generalize I9 o p=e at *
 refine AQ.enter (Ar (by decide)) Tryz.func27 rfl (by kernel_rfl) (by simp [Tryz.ntmps27]) ?_
 repeat' (first|apply Ad.assoc|apply Ad.Aw|apply Ad.Bf|apply Af.nil|apply Af.one|(apply Aa.fn;rfl;rfl;exact ha;intro _;rfl)|(apply Aa.assign;rfl)|(apply Aa.move;rfl)|(apply Aa.int;rfl;rfl;rfl)|(apply Aa.load;rfl;rfl)|(apply Aa.box;rfl;trivial)|(apply Aa.alloc;rfl)|(apply Aa.AY;rfl;rfl;rfl;trivial;rfl;rfl;exact Ac rfl;exact le_dec rfl)|(apply Aa.build;rfl;rfl;rfl;rfl;rfl)|(apply Ad.Ae;rfl)|(intro _;try (exfalso;omega)))
 all_goals first|(exfalso;omega)|contradiction|(refine Done.ret rfl (.refl _) (by exact PV.Ag rfl) Ap.nil (Nat.zero_le _) (Nat.le_refl _) ⟨?_,rfl,rfl⟩;try rfl)
end Go.Proofs.YtnhdddmhkhdlhaaGreatDoor
namespace Go.Proofs.YtnhdddmhkhdlhaaGreatDoor
open Go Go.Am Go.Vm
attribute [local irreducible] Aa Af Ak Ad Bv AQ BN AV AP Az Vm.Done Cb BH
structure Slp where
 kind:Nat
 at_:Nat
instance:Enc Slp:={ default:=⟨0,0⟩,enc:=fun x=>[.int .u8 (x.kind:Int),.int .u8 (x.at_:Int)],size:=2,len:=fun _=>rfl }
structure Slp.Ok (x:Slp):Prop where
 kind:x.kind<256
 at_:x.at_<256
structure a6c (n:Nat) (o:EN):Prop where
 sm:Ic o
 ranks:o.ranks.length≤n
 Au:o.Au.length≤n
 GN:o.GN.length≤n
 stops:∀ i,i<o.Au.length→(gi o.Au i).stops.length≤n
def chA:List (List UInt8):=[[],[55],[97,32,98],[70,105,110,101]]
def chB:List (List UInt8):=[[],[82,48],[82,57]]
def chC:List (List UInt8):=[[],[68,48],[68,49],[83,111,108,111]]
def chD:List (List UInt8):=[[],[83,49],[84],[83,50]]
def chE:List (List UInt8):=[[],[67,48],[68,48]]
def cpA:List Yf:=[⟨-1,40⟩,⟨50,40⟩,⟨0,128⟩,⟨0,127⟩]
def Fb {α:Type} (f:List α→α) (l:List α):Nat→List α
 |0=>l
 |k+1=>Fb f l k++[f (Fb f l k)]
theorem KF {α:Type} (f:List α→α) (l:List α):∀ k,(Fb f l k).length=l.length+k
 |0=>rfl
 |k+1=>by simp [Fb,KF f l k];omega
def a3w (nm:List UInt8) (R:List Gs) (nr:Nat) (D:List Y3) (nd:Nat) (C:List YL) (nc:Nat):List FV:=[.str (bs nm),.lst 123 (cells R) nr,.lst 111 (cells D) nd,.lst 129 (cells C) nc]
end Go.Proofs.YtnhdddmhkhdlhaaGreatDoor
namespace Go.Proofs.YtnhdddmhkhdlhaaGreatDoor
open Go Go.Am Go.Vm Go.Pie
attribute [local irreducible] Aa Af Ak Ad Bv AQ BN AV AP Az Vm.Done Cb BH
attribute [local irreducible] Dc BZ EL ES Gj BK Dz
structure FP (p:DY) (n:Nat):Prop where
 lb:p.bars.length≤n
 ln:p.notes.length≤n
 ls:p.sets.length≤n
 bars:∀ i,i<p.bars.length→-(n:Int)≤gi p.bars i∧gi p.bars i≤n
 notes:∀ i,i<p.notes.length→(-(n:Int)≤(gi p.notes i).s∧(gi p.notes i).s≤n)∧(-(n:Int)≤(gi p.notes i).e∧(gi p.notes i).e≤n)∧(-(n:Int)≤(gi p.notes i).d∧(gi p.notes i).d≤n)∧(-(n:Int)≤(gi p.notes i).k∧(gi p.notes i).k≤n)
 sets:∀ i,i<p.sets.length→(-(n:Int)≤(gi p.sets i).bar∧(gi p.sets i).bar≤n)∧(gi p.sets i).reg.Ok
def Dj (B:List Int) (nb:Nat) (N:List Fg) (nn:Nat) (S:List IX) (ns:Nat):List FV:=[.lst 3 (cells B) nb,.lst 66 (cells N) nn,.lst 74 (cells S) ns]
theorem Ij {B:List Int} {nb:Nat} {N:List Fg} {nn:Nat} {S:List IX} {ns:Nat} (h1:B.length=nb) (h2:N.length=nn) (h3:S.length=ns):Enc.enc (⟨B,N,S⟩:DY)=Dj B nb N nn S ns:=by subst h1;subst h2;subst h3;rfl
theorem Dt (l:List Int) (h1:l.length<1000000):AQ env 57 [.lst 3 (cells l) l.length] (.p (.lst 3 (cells l) l.length)):=by
 rcases Nat.eq_zero_or_pos l.length with h0|h0
 ·obtain rfl:l=[]:=List.length_eq_zero_iff.1 h0
  refine AQ.enter (Ar (by decide)) Tryz.func57 rfl (by kernel_rfl) (by simp [Tryz.ntmps57]) ?_
  repeat' (first|(refine Af.JE 2 ?_;refine Af.ghost (A8.freeze 7 rfl rfl) ?_)|apply Ad.assoc|apply Ad.Aw|apply Ad.Aq|apply Ad.Bf|apply Ad.ret|apply Af.nil|apply Af.one|(apply Aa.eqNil;rfl;rfl;rfl)|(apply Aa.assign;rfl)|(apply Aa.move;rfl)|(apply Aa.buildSlice;rfl;rfl;rfl;decide;rfl;rfl;rfl)|(apply Aa.F8;rfl;rfl;rfl;(first|rfl|omega|(simp only [List.length_take,List.length_drop,List.length_append,List.length_singleton,List.length_cons,List.length_nil]<;>omega));rfl;rfl;(intro _ h;cases h);rfl;rfl;rfl;decide;decide;(first|omega|(simp only [List.length_take,List.length_drop,List.length_append,List.length_singleton,List.length_cons,List.length_nil]<;>omega)))|(apply Ad.JZ;rfl)|(intro _;try (exfalso;omega)))
  all_goals first|(exfalso;omega)|(refine Done.ret rfl (.p (.nil _)) trivial Ap.nil (Nat.zero_le _) (Nat.le_refl _) ⟨rfl,rfl,rfl⟩;done)|(refine Done.ret rfl (.refl _) (by exact PV.Ag rfl) Ap.nil (Nat.zero_le _) (Nat.le_refl _) ⟨?_,rfl,rfl⟩;try rfl)
 ·refine AQ.enter (Ar (by decide)) Tryz.func57 rfl (by kernel_rfl) (by simp [Tryz.ntmps57]) ?_
  repeat' (first|(refine Af.JE 2 ?_;refine Af.ghost (A8.freeze 7 rfl rfl) ?_)|apply Ad.assoc|apply Ad.Aw|apply Ad.Aq|apply Ad.ret|apply Af.nil|apply Af.one|(apply Aa.OT;rfl;rfl;rfl;exact h0)|(apply Aa.assign;rfl)|(apply Aa.move;rfl)|(apply Aa.buildSlice;rfl;rfl;rfl;decide;rfl;rfl;rfl)|(apply Aa.F8;rfl;rfl;rfl;(first|rfl|omega|(simp only [List.length_take,List.length_drop,List.length_append,List.length_singleton,List.length_cons,List.length_nil]<;>omega));rfl;rfl;(intro _ h;cases h);rfl;rfl;rfl;decide;decide;(first|omega|(simp only [List.length_take,List.length_drop,List.length_append,List.length_singleton,List.length_cons,List.length_nil]<;>omega)))|(apply Ad.AU;rfl))
  all_goals first|(exfalso;omega)|(refine Done.ret rfl (.refl _) (by exact PV.Ag rfl) Ap.nil (Nat.zero_le _) (Nat.le_refl _) ⟨?_,rfl,rfl⟩;try rfl)
theorem DF (l:List Fg) (h1:l.length<1000000):AQ env 28 [.lst 66 (cells l) l.length] (.p (.lst 66 (cells l) l.length)):=by
 rcases Nat.eq_zero_or_pos l.length with h0|h0
 ·obtain rfl:l=[]:=List.length_eq_zero_iff.1 h0
  exact U7
 ·refine AQ.enter (Ar (by decide)) Tryz.func28 rfl (by kernel_rfl) (by simp [Tryz.ntmps28]) ?_
  repeat' (first|(refine Af.JE 2 ?_;refine Af.ghost (A8.freeze 7 rfl rfl) ?_)|apply Ad.assoc|apply Ad.Aw|apply Ad.Aq|apply Ad.ret|apply Af.nil|apply Af.one|(apply Aa.OT;rfl;rfl;rfl;exact h0)|(apply Aa.assign;rfl)|(apply Aa.move;rfl)|(apply Aa.buildSlice;rfl;rfl;rfl;decide;rfl;rfl;rfl)|(apply Aa.F8;rfl;rfl;rfl;(first|rfl|omega|(simp only [List.length_take,List.length_drop,List.length_append,List.length_singleton,List.length_cons,List.length_nil]<;>omega));rfl;rfl;(intro _ h;cases h);rfl;rfl;rfl;decide;decide;(first|omega|(simp only [List.length_take,List.length_drop,List.length_append,List.length_singleton,List.length_cons,List.length_nil]<;>omega)))|(apply Ad.AU;rfl))
  all_goals first|(exfalso;omega)|(refine Done.ret rfl (.refl _) (by exact PV.Ag rfl) Ap.nil (Nat.zero_le _) (Nat.le_refl _) ⟨?_,rfl,rfl⟩;try rfl)
theorem DJ (l:List IX) (h1:l.length<1000000):AQ env 63 [.lst 74 (cells l) l.length] (.p (.lst 74 (cells l) l.length)):=by
 rcases Nat.eq_zero_or_pos l.length with h0|h0
 ·obtain rfl:l=[]:=List.length_eq_zero_iff.1 h0
  refine AQ.enter (Ar (by decide)) Tryz.func63 rfl (by kernel_rfl) (by simp [Tryz.ntmps63]) ?_
  repeat' (first|(refine Af.JE 2 ?_;refine Af.ghost (A8.freeze 7 rfl rfl) ?_)|apply Ad.assoc|apply Ad.Aw|apply Ad.Aq|apply Ad.Bf|apply Ad.ret|apply Af.nil|apply Af.one|(apply Aa.eqNil;rfl;rfl;rfl)|(apply Aa.assign;rfl)|(apply Aa.move;rfl)|(apply Aa.buildSlice;rfl;rfl;rfl;decide;rfl;rfl;rfl)|(apply Aa.F8;rfl;rfl;rfl;(first|rfl|omega|(simp only [List.length_take,List.length_drop,List.length_append,List.length_singleton,List.length_cons,List.length_nil]<;>omega));rfl;rfl;(intro _ h;cases h);rfl;rfl;rfl;decide;decide;(first|omega|(simp only [List.length_take,List.length_drop,List.length_append,List.length_singleton,List.length_cons,List.length_nil]<;>omega)))|(apply Ad.JZ;rfl)|(intro _;try (exfalso;omega)))
  all_goals first|(exfalso;omega)|(refine Done.ret rfl (.p (.nil _)) trivial Ap.nil (Nat.zero_le _) (Nat.le_refl _) ⟨rfl,rfl,rfl⟩;done)|(refine Done.ret rfl (.refl _) (by exact PV.Ag rfl) Ap.nil (Nat.zero_le _) (Nat.le_refl _) ⟨?_,rfl,rfl⟩;try rfl)
 ·refine AQ.enter (Ar (by decide)) Tryz.func63 rfl (by kernel_rfl) (by simp [Tryz.ntmps63]) ?_
  repeat' (first|(refine Af.JE 2 ?_;refine Af.ghost (A8.freeze 7 rfl rfl) ?_)|apply Ad.assoc|apply Ad.Aw|apply Ad.Aq|apply Ad.ret|apply Af.nil|apply Af.one|(apply Aa.OT;rfl;rfl;rfl;exact h0)|(apply Aa.assign;rfl)|(apply Aa.move;rfl)|(apply Aa.buildSlice;rfl;rfl;rfl;decide;rfl;rfl;rfl)|(apply Aa.F8;rfl;rfl;rfl;(first|rfl|omega|(simp only [List.length_take,List.length_drop,List.length_append,List.length_singleton,List.length_cons,List.length_nil]<;>omega));rfl;rfl;(intro _ h;cases h);rfl;rfl;rfl;decide;decide;(first|omega|(simp only [List.length_take,List.length_drop,List.length_append,List.length_singleton,List.length_cons,List.length_nil]<;>omega)))|(apply Ad.AU;rfl))
  all_goals first|(exfalso;omega)|(refine Done.ret rfl (.refl _) (by exact PV.Ag rfl) Ap.nil (Nat.zero_le _) (Nat.le_refl _) ⟨?_,rfl,rfl⟩;try rfl)
theorem LQ (l:List IX) (h0:0<l.length) (h1:l.length<1000000):BN env 63 [.lst 74 (cells l) l.length] 74 (cells l) l.length false:=by
 refine BN.enter (Ar (by decide)) Tryz.func63 rfl (by kernel_rfl) (by simp [Tryz.ntmps63]) ?_
 repeat' (first|apply Ad.assoc|apply Ad.Aw|apply Ad.Aq|apply Ad.ret|apply Af.nil|apply Af.one|(apply Aa.OT;rfl;rfl;rfl;exact h0)|(apply Aa.assign;rfl)|(apply Aa.move;rfl)|(apply Aa.buildSlice;rfl;rfl;rfl;decide;rfl;rfl;rfl)|(apply Aa.F8;rfl;rfl;rfl;(first|rfl|omega|(simp only [List.length_take,List.length_drop,List.length_append,List.length_singleton,List.length_cons,List.length_nil]<;>omega));rfl;rfl;(intro _ h;cases h);rfl;rfl;rfl;decide;decide;(first|omega|(simp only [List.length_take,List.length_drop,List.length_append,List.length_singleton,List.length_cons,List.length_nil]<;>omega)))|(apply Ad.AU;rfl))
 exact Cb.ret rfl rfl rfl rfl
def ET (K A:Nat) (B:Int):List FV:=[.int .u8 (K:Int),.int .u8 (A:Int),.int .i8 B]
end Go.Proofs.YtnhdddmhkhdlhaaGreatDoor
namespace Go.Proofs.YtnhdddmhkhdlhaaGreatDoor
open Go Go.Am Go.Vm Go.Pie
attribute [local irreducible] Aa Af Ak Ad Bv AQ BN AV AP Az Vm.Done Cb BH
attribute [local irreducible] Dc BZ EL ES Gj BK Dz
theorem nK (p:DY) (n:Nat) (hn:n≤400000) (h:FP p n) (h0:0<p.bars.length) (K A:Nat) (B:Int) (hK:K<256) (hA:A<256) (hB:-128≤B∧B≤127) (hk:K % 12=0):AQ env 25 [.agg (Enc.enc p),.agg (ET K A B)] (.p (.agg (Dj p.bars p.bars.length p.notes p.notes.length p.sets p.sets.length))):=by
 have b1:=h.lb
 have b2:=h.ln
 have b3:=h.ls
 have hb:=Dt p.bars (by omega)
 have hc:=DF p.notes (by omega)
 have hs:=DJ p.sets (by omega)
 unfold ET Dj
 rcases Nat.eq_zero_or_pos p.sets.length with c1|c1
 all_goals rcases Nat.eq_zero_or_pos p.notes.length with c2|c2
 all_goals
  refine AQ.enter (Ar (by decide)) Tryz.func25 rfl (by kernel_rfl) (by simp [Tryz.ntmps25]) ?_
 all_goals
  repeat' (first|apply Ad.assoc|apply Ad.Aw|apply Ad.Bl|apply Ad.Aq|apply Ad.Bf|apply Ad.Aj|apply AV.normal|apply AP.normal|apply Ad.ret|apply Ad.skip|apply Af.nil|apply Ak.nil|apply Af.one|(apply Ak.bar;decide +kernel)|apply Ak.quiet|(apply Aa.fn;rfl;rfl;exact hb;intro _;rfl)|(apply Aa.fn;rfl;rfl;exact hc;intro _;rfl)|(apply Aa.fn;rfl;rfl;exact hs;intro _;rfl)|(apply Aa.MH;rfl;rfl;omega)|(apply Aa.AO (l:=p.sets) (i:=A % p.sets.length);rfl;rfl;rfl;exact Nat.mod_lt _ (by omega);rfl)|(apply Aa.AO (l:=p.notes) (i:=A % p.notes.length);rfl;rfl;rfl;exact Nat.mod_lt _ (by omega);rfl)|(apply Aa.assign;rfl)|(apply Aa.Fz;rfl;rfl;omega;omega)|(apply Aa.int;rfl;rfl;rfl)|(apply Aa.load;rfl;rfl)|(apply Aa.Bz;rfl;rfl)|(apply Aa.AA;rfl;rfl;rfl)|(apply Aa.box;rfl;trivial)|(apply Aa.alloc;rfl)|(apply Aa.AY;rfl;rfl;rfl;trivial;rfl;rfl;exact Ac rfl;exact le_dec rfl)|(apply Aa.DL;rfl;rfl;rfl;rfl;omega)|(apply Ad.Ae;rfl)|(apply Ad.AX;rfl)|(intro _;try (exfalso;omega)))
 all_goals first|(exfalso;omega)|contradiction|(refine Done.ret rfl (.refl _) (by exact PV.Ag rfl) Ap.nil (Nat.zero_le _) (Nat.le_refl _) ⟨?_,rfl,rfl⟩;try rfl)
theorem rE (p:DY) (n:Nat) (hn:n≤400000) (h:FP p n) (h0:0<p.bars.length) (K A:Nat) (B:Int) (hK:K<256) (hA:A<256) (hB:-128≤B∧B≤127) (hk:K % 12=1):AQ env 25 [.agg (Enc.enc p),.agg (ET K A B)] (.p (.agg (Dj (p.bars.set (A % p.bars.length) (gi p.bars (A % p.bars.length)+B)) p.bars.length p.notes p.notes.length p.sets p.sets.length))):=by
 have b1:=h.lb
 have b2:=h.ln
 have b3:=h.ls
 have hb:=Ko p.bars h0 (by omega)
 have hc:=DF p.notes (by omega)
 have hs:=DJ p.sets (by omega)
 have hx:A % p.bars.length<p.bars.length:=Nat.mod_lt _ h0
 have hbb:=h.bars (A % p.bars.length) hx
 unfold ET Dj
 rcases Nat.eq_zero_or_pos p.sets.length with c1|c1
 all_goals rcases Nat.eq_zero_or_pos p.notes.length with c2|c2
 all_goals
  refine AQ.enter (Ar (by decide)) Tryz.func25 rfl (by kernel_rfl) (by simp [Tryz.ntmps25]) ?_
 all_goals
  repeat' (first|(refine Ad.at 15 ?_;refine Ad.ghost (A8.BA 0 0 rfl rfl rfl) ?_;first|apply Ad.Aw|apply Ad.Bl)|apply Ad.assoc|apply Ad.Aw|apply Ad.Bl|apply Ad.Di|apply Ad.Aq|apply Ad.Bf|apply Ad.Aj|apply AV.normal|apply AP.normal|apply Ad.ret|apply Ad.skip|apply Af.nil|apply Ak.nil|apply Af.one|(apply Ak.bar;decide +kernel)|apply Ak.quiet|(apply Aa.fv;rfl;rfl;exact hb)|(apply Aa.fn;rfl;rfl;exact hc;intro _;rfl)|(apply Aa.fn;rfl;rfl;exact hs;intro _;rfl)|(apply Aa.MH;rfl;rfl;omega)|(apply Aa.EM (l:=p.bars) (i:=A % p.bars.length);rfl;rfl;rfl;rfl;exact hx)|(apply Aa.Kv (l:=p.bars) (i:=A % p.bars.length);rfl;rfl;exact hx;rfl)|(apply Aa.YM (l:=p.bars) (i:=A % p.bars.length) (y:=gi p.bars (A % p.bars.length)+B);rfl;rfl;rfl;trivial;rfl;rfl;rfl;decide;exact hx)|(apply Aa.AO (l:=p.sets) (i:=A % p.sets.length);rfl;rfl;rfl;exact Nat.mod_lt _ (by omega);rfl)|(apply Aa.AO (l:=p.notes) (i:=A % p.notes.length);rfl;rfl;rfl;exact Nat.mod_lt _ (by omega);rfl)|(apply Aa.assign;rfl)|(apply Aa.move;rfl)|(apply Aa.BD;rfl;rfl;omega)|(apply Aa.Fz;rfl;rfl;omega;omega)|(apply Aa.int;rfl;rfl;rfl)|(apply Aa.load;rfl;rfl)|(apply Aa.Bz;rfl;rfl)|(apply Aa.lenV;rfl;rfl;rfl)|(apply Aa.AA;rfl;rfl;rfl)|(apply Aa.box;rfl;trivial)|(apply Aa.alloc;rfl)|(apply Aa.AY;rfl;rfl;rfl;trivial;rfl;rfl;exact Ac rfl;exact le_dec rfl)|(apply Aa.DL;rfl;rfl;rfl;rfl;omega)|(apply Ad.Ae;rfl)|(apply Ad.AX;rfl)|(intro _;try (exfalso;omega)))
 all_goals first|(exfalso;omega)|contradiction|(refine Done.ret rfl (.refl _) (by exact PV.Ag rfl) Ap.nil (Nat.zero_le _) (Nat.le_refl _) ⟨?_,rfl,rfl⟩;try rfl)
theorem tN (p:DY) (n:Nat) (hn:n≤400000) (h:FP p n) (h0:0<p.bars.length) (K A:Nat) (B:Int) (hK:K<256) (hA:A<256) (hB:-128≤B∧B≤127) (hk:K % 12=2):AQ env 25 [.agg (Enc.enc p),.agg (ET K A B)] (.p (.agg (Dj (p.bars.take (A % p.bars.length)) (A % p.bars.length) p.notes p.notes.length p.sets p.sets.length))):=by
 have b1:=h.lb
 have b2:=h.ln
 have b3:=h.ls
 have hb:=Dt p.bars (by omega)
 have hc:=DF p.notes (by omega)
 have hs:=DJ p.sets (by omega)
 have hx:A % p.bars.length<p.bars.length:=Nat.mod_lt _ h0
 have hbb:=h.bars (A % p.bars.length) hx
 unfold ET Dj
 rcases Nat.eq_zero_or_pos p.sets.length with c1|c1
 all_goals rcases Nat.eq_zero_or_pos p.notes.length with c2|c2
 all_goals
  refine AQ.enter (Ar (by decide)) Tryz.func25 rfl (by kernel_rfl) (by simp [Tryz.ntmps25]) ?_
 all_goals
  repeat' (first|apply Ad.assoc|apply Ad.Aw|apply Ad.Bl|apply Ad.region|apply Ad.Aq|apply Ad.Bf|apply Ad.Aj|apply AV.normal|apply AP.normal|apply Ad.ret|apply Ad.skip|apply Af.nil|apply Ak.nil|apply Af.one|(apply Ak.bar;decide +kernel)|apply Ak.quiet|(apply Aa.fn;rfl;rfl;exact hb;intro _;rfl)|(apply Aa.fn;rfl;rfl;exact hc;intro _;rfl)|(apply Aa.fn;rfl;rfl;exact hs;intro _;rfl)|(apply Aa.MH;rfl;rfl;omega)|(apply Aa.sliceTo (l:=p.bars) (b:=A % p.bars.length);rfl;rfl;rfl;rfl;rfl;rfl;exact Nat.le_of_lt hx)|(apply Aa.AO (l:=p.sets) (i:=A % p.sets.length);rfl;rfl;rfl;exact Nat.mod_lt _ (by omega);rfl)|(apply Aa.AO (l:=p.notes) (i:=A % p.notes.length);rfl;rfl;rfl;exact Nat.mod_lt _ (by omega);rfl)|(apply Aa.assign;rfl)|(apply Aa.move;rfl)|(apply Aa.Fz;rfl;rfl;omega;omega)|(apply Aa.int;rfl;rfl;rfl)|(apply Aa.load;rfl;rfl)|(apply Aa.Bz;rfl;rfl)|(apply Aa.AA;rfl;rfl;rfl)|(apply Aa.box;rfl;trivial)|(apply Aa.alloc;rfl)|(apply Aa.AY;rfl;rfl;rfl;trivial;rfl;rfl;exact Ac rfl;exact le_dec rfl)|(apply Aa.DL;rfl;rfl;rfl;rfl;omega)|(apply Ad.Ae;rfl)|(apply Ad.AX;rfl)|(intro _;try (exfalso;omega)))
 all_goals first|(exfalso;omega)|contradiction|(refine Done.ret rfl (.refl _) (by exact PV.Ag rfl) Ap.nil (Nat.zero_le _) (Nat.le_refl _) ⟨?_,rfl,rfl⟩;try rfl)
theorem pF (p:DY) (n:Nat) (hn:n≤400000) (h:FP p n) (h0:0<p.bars.length) (K A:Nat) (B:Int) (hK:K<256) (hA:A<256) (hB:-128≤B∧B≤127) (hk:K % 12=4):AQ env 25 [.agg (Enc.enc p),.agg (ET K A B)] (.p (.agg (Dj (p.bars++[99998+((A % 5:Nat):Int)]) (p.bars.length+1) p.notes p.notes.length p.sets p.sets.length))):=by
 have b1:=h.lb
 have b2:=h.ln
 have b3:=h.ls
 have hb:=Ko p.bars h0 (by omega)
 have hc:=DF p.notes (by omega)
 have hs:=DJ p.sets (by omega)
 unfold ET Dj
 rcases Nat.eq_zero_or_pos p.sets.length with c1|c1
 all_goals rcases Nat.eq_zero_or_pos p.notes.length with c2|c2
 all_goals
  refine AQ.enter (Ar (by decide)) Tryz.func25 rfl (by kernel_rfl) (by simp [Tryz.ntmps25]) ?_
 all_goals
  repeat' (first|(refine Ad.at 15 ?_;refine Ad.ghost (A8.BA 0 0 rfl rfl rfl) ?_;first|apply Ad.Aw|apply Ad.Bl)|apply Ad.assoc|apply Ad.Aw|apply Ad.Bl|apply Ad.region|apply Ad.Aq|apply Ad.Bf|apply Ad.Aj|apply AV.normal|apply AP.normal|apply Ad.ret|apply Ad.skip|apply Af.nil|apply Ak.nil|apply Af.one|(apply Ak.bar;decide +kernel)|apply Ak.quiet|(apply Aa.fv;rfl;rfl;exact hb)|(apply Aa.fn;rfl;rfl;exact hc;intro _;rfl)|(apply Aa.fn;rfl;rfl;exact hs;intro _;rfl)|(apply Aa.MH;rfl;rfl;omega)|(apply Aa.CX (a:=(99998+((A % 5:Nat):Int):Int));rfl;rfl;rfl;rfl;rfl;rfl;rfl;rfl;(intro _ h;cases h);rfl;rfl;rfl;decide;decide;(first|omega|(simp only [List.length_take,List.length_drop,List.length_append,List.length_singleton,List.length_cons,List.length_nil]<;>omega)))|(apply Aa.AO (l:=p.sets) (i:=A % p.sets.length);rfl;rfl;rfl;exact Nat.mod_lt _ (by omega);rfl)|(apply Aa.AO (l:=p.notes) (i:=A % p.notes.length);rfl;rfl;rfl;exact Nat.mod_lt _ (by omega);rfl)|(apply Aa.assign;rfl)|(apply Aa.BD;rfl;rfl;omega)|(apply Aa.Fz;rfl;rfl;omega;omega)|(apply Aa.int;rfl;rfl;rfl)|(apply Aa.load;rfl;rfl)|(apply Aa.Bz;rfl;rfl)|(apply Aa.lenV;rfl;rfl;rfl)|(apply Aa.AA;rfl;rfl;rfl)|(apply Aa.box;rfl;trivial)|(apply Aa.alloc;rfl)|(apply Aa.AY;rfl;rfl;rfl;trivial;rfl;rfl;exact Ac rfl;exact le_dec rfl)|(apply Aa.buildSlice;rfl;rfl;rfl;decide;rfl;rfl;rfl)|(apply Aa.DL;rfl;rfl;rfl;rfl;omega)|(apply Ad.Ae;rfl)|(apply Ad.AX;rfl)|(intro _;try (exfalso;omega)))
 all_goals first|(exfalso;omega)|contradiction|(refine Done.ret rfl (.refl _) (by exact PV.Ag rfl) Ap.nil (Nat.zero_le _) (Nat.le_refl _) ⟨?_,rfl,rfl⟩;try rfl)
end Go.Proofs.YtnhdddmhkhdlhaaGreatDoor
namespace Go.Proofs.YtnhdddmhkhdlhaaGreatDoor
open Go Go.Am Go.Vm Go.Pie
attribute [local irreducible] Aa Af Ak Ad Bv AQ BN AV AP Az Vm.Done Cb BH
attribute [local irreducible] Dc BZ EL ES Gj BK Dz
theorem qZ (p:DY) (n:Nat) (hn:n≤400000) (h:FP p n) (h0:0<p.bars.length) (hz:0<p.sets.length) (K A:Nat) (B:Int) (hK:K<256) (hA:A<256) (hB:-128≤B∧B≤127) (hk:K % 12=6):AQ env 25 [.agg (Enc.enc p),.agg (ET K A B)] (.p (.agg (Dj p.bars p.bars.length p.notes p.notes.length (p.sets.set (A % p.sets.length) (⟨(gi p.sets (A % p.sets.length)).bar+B,(gi p.sets (A % p.sets.length)).reg⟩:IX)) p.sets.length))):=by
 have b1:=h.lb
 have b2:=h.ln
 have b3:=h.ls
 have hb:=Dt p.bars (by omega)
 have hc:=DF p.notes (by omega)
 have hs:=LQ p.sets hz (by omega)
 have hx:A % p.sets.length<p.sets.length:=Nat.mod_lt _ hz
 have hbb:=(h.sets (A % p.sets.length) hx).1
 have hrr:=(h.sets (A % p.sets.length) hx).2
 have hr1:=hrr.cp
 unfold ET Dj
 all_goals rcases Nat.eq_zero_or_pos p.notes.length with c2|c2
 all_goals
  refine AQ.enter (Ar (by decide)) Tryz.func25 rfl (by kernel_rfl) (by simp [Tryz.ntmps25]) ?_
 all_goals
  repeat' (first|(refine Ad.at 22 ?_;refine Ad.ghost (A8.BA 0 2 rfl rfl rfl) ?_;first|apply Ad.Aw|apply Ad.Bl)|apply Ad.assoc|apply Ad.Aw|apply Ad.Bl|apply Ad.Di|apply Ad.Aq|apply Ad.Bf|apply Ad.Aj|apply AV.normal|apply AP.normal|apply Ad.ret|apply Ad.skip|apply Af.nil|apply Ak.nil|apply Af.one|(apply Ak.bar;decide +kernel)|apply Ak.quiet|(apply Aa.fn;rfl;rfl;exact hb;intro _;rfl)|(apply Aa.fn;rfl;rfl;exact hc;intro _;rfl)|(apply Aa.fv;rfl;rfl;exact hs)|(apply Aa.MH;rfl;rfl;omega)|(apply Aa.EM (l:=p.sets) (i:=A % p.sets.length);rfl;rfl;rfl;rfl;exact hx)|(apply Aa.Oh;rfl;rfl)|(apply Aa.QS;rfl;rfl;rfl)|(apply Aa.Rh (α:=IX) (l:=p.sets) (i:=A % p.sets.length) (f:=0);rfl;rfl;exact hx;decide;rfl)|(apply Aa.NT (α:=IX) (l:=p.sets) (i:=A % p.sets.length) (f:=0) (y:=(⟨(gi p.sets (A % p.sets.length)).bar+B,(gi p.sets (A % p.sets.length)).reg⟩:IX)) (fs:=[.int .i64 ((gi p.sets (A % p.sets.length)).bar+B)]);rfl;rfl;rfl;trivial;rfl;rfl;rfl;decide;exact hx;decide;exact .refl _)|(apply Aa.AO (l:=p.notes) (i:=A % p.notes.length);rfl;rfl;rfl;exact Nat.mod_lt _ (by omega);rfl)|(apply Aa.assign;rfl)|(apply Aa.move;rfl)|(apply Aa.BD;rfl;rfl;omega)|(apply Aa.Fz;rfl;rfl;omega;omega)|(apply Aa.int;rfl;rfl;rfl)|(apply Aa.load;rfl;rfl)|(apply Aa.Bz;rfl;rfl)|(apply Aa.lenV;rfl;rfl;rfl)|(apply Aa.AA;rfl;rfl;rfl)|(apply Aa.box;rfl;trivial)|(apply Aa.alloc;rfl)|(apply Aa.AY;rfl;rfl;rfl;trivial;rfl;rfl;exact Ac rfl;exact le_dec rfl)|(apply Aa.DL;rfl;rfl;rfl;rfl;omega)|(apply Ad.Ae;rfl)|(apply Ad.AX;rfl)|(intro _;try (exfalso;omega)))
 all_goals first|(exfalso;omega)|contradiction|(refine Done.ret rfl (.refl _) (by exact PV.Ag rfl) Ap.nil (Nat.zero_le _) (Nat.le_refl _) ⟨?_,rfl,rfl⟩;try rfl)
theorem su (p:DY) (n:Nat) (hn:n≤400000) (h:FP p n) (h0:0<p.bars.length) (hz:0<p.sets.length) (K A:Nat) (B:Int) (hK:K<256) (hA:A<256) (hB:-128≤B∧B≤127) (hk:K % 12=7):AQ env 25 [.agg (Enc.enc p),.agg (ET K A B)] (.p (.agg (Dj p.bars p.bars.length p.notes p.notes.length (p.sets.set (A % p.sets.length) (⟨(gi p.sets (A % p.sets.length)).bar,⟨(gi p.sets (A % p.sets.length)).reg.stops,(gi p.sets (A % p.sets.length)).reg.cp ||| 2 ^ (A % 64),(gi p.sets (A % p.sets.length)).reg.off⟩⟩:IX)) p.sets.length))):=by
 have b1:=h.lb
 have b2:=h.ln
 have b3:=h.ls
 have hb:=Dt p.bars (by omega)
 have hc:=DF p.notes (by omega)
 have hs:=LQ p.sets hz (by omega)
 have hx:A % p.sets.length<p.sets.length:=Nat.mod_lt _ hz
 have hbb:=(h.sets (A % p.sets.length) hx).1
 have hrr:=(h.sets (A % p.sets.length) hx).2
 have hr1:=hrr.cp
 have hq:A % 64<64:=Nat.mod_lt _ (by decide)
 have p1:2 ^ (A % 64)<2 ^ 64:=Nat.pow_lt_pow_right (by omega) hq
 unfold ET Dj
 all_goals rcases Nat.eq_zero_or_pos p.notes.length with c2|c2
 all_goals
  refine AQ.enter (Ar (by decide)) Tryz.func25 rfl (by kernel_rfl) (by simp [Tryz.ntmps25]) ?_
 all_goals
  repeat' (first|(refine Ad.at 22 ?_;refine Ad.ghost (A8.BA 0 2 rfl rfl rfl) ?_;first|apply Ad.Aw|apply Ad.Bl)|apply Ad.assoc|apply Ad.Aw|apply Ad.Bl|apply Ad.Di|apply Ad.Aq|apply Ad.Bf|apply Ad.Aj|apply AV.normal|apply AP.normal|apply Ad.ret|apply Ad.skip|apply Af.nil|apply Ak.nil|apply Af.one|(apply Ak.bar;decide +kernel)|apply Ak.quiet|(apply Aa.fn;rfl;rfl;exact hb;intro _;rfl)|(apply Aa.fn;rfl;rfl;exact hc;intro _;rfl)|(apply Aa.fv;rfl;rfl;exact hs)|(apply Aa.MH;rfl;rfl;omega)|(apply Aa.EM (l:=p.sets) (i:=A % p.sets.length);rfl;rfl;rfl;rfl;exact hx)|(apply Aa.Oh;rfl;rfl)|(apply Aa.QS;rfl;rfl;rfl)|(apply Aa.Rh (α:=IX) (l:=p.sets) (i:=A % p.sets.length) (f:=2);rfl;rfl;exact hx;decide;rfl)|(apply a3e (A % 64);rfl;rfl;omega)|(apply Aa.NT (α:=IX) (l:=p.sets) (i:=A % p.sets.length) (f:=2) (y:=(⟨(gi p.sets (A % p.sets.length)).bar,⟨(gi p.sets (A % p.sets.length)).reg.stops,(gi p.sets (A % p.sets.length)).reg.cp ||| 2 ^ (A % 64),(gi p.sets (A % p.sets.length)).reg.off⟩⟩:IX)) (fs:=[.int .u64 ((((gi p.sets (A % p.sets.length)).reg.cp ||| 2 ^ (A % 64):Nat):Int))]);rfl;rfl;rfl;trivial;rfl;rfl;rfl;decide;exact hx;decide;exact .refl _)|(apply Aa.AO (l:=p.notes) (i:=A % p.notes.length);rfl;rfl;rfl;exact Nat.mod_lt _ (by omega);rfl)|(apply Aa.assign;rfl)|(apply Aa.move;rfl)|(apply Aa.orU;rfl;rfl;omega;omega)|(apply Aa.Fz;rfl;rfl;omega;omega)|(apply Aa.int;rfl;rfl;rfl)|(apply Aa.load;rfl;rfl)|(apply Aa.Bz;rfl;rfl)|(apply Aa.lenV;rfl;rfl;rfl)|(apply Aa.AA;rfl;rfl;rfl)|(apply Aa.box;rfl;trivial)|(apply Aa.alloc;rfl)|(apply Aa.AY;rfl;rfl;rfl;trivial;rfl;rfl;exact Ac rfl;exact le_dec rfl)|(apply Aa.DL;rfl;rfl;rfl;rfl;omega)|(apply Ad.Ae;rfl)|(apply Ad.AX;rfl)|(intro _;try (exfalso;omega)))
 all_goals first|(exfalso;omega)|contradiction|(refine Done.ret rfl (.refl _) (by exact PV.Ag rfl) Ap.nil (Nat.zero_le _) (Nat.le_refl _) ⟨?_,rfl,rfl⟩;try rfl)
theorem jR (p:DY) (n:Nat) (hn:n≤400000) (h:FP p n) (h0:0<p.bars.length) (hz:p.sets.length=0) (K A:Nat) (B:Int) (hK:K<256) (hA:A<256) (hB:-128≤B∧B≤127) (hk:K % 12=6∨K % 12=7):AQ env 25 [.agg (Enc.enc p),.agg (ET K A B)] (.p (.agg (Dj p.bars p.bars.length p.notes p.notes.length p.sets p.sets.length))):=by
 have b1:=h.lb
 have b2:=h.ln
 have b3:=h.ls
 have hb:=Dt p.bars (by omega)
 have hc:=DF p.notes (by omega)
 have hs:=DJ p.sets (by omega)
 unfold ET Dj
 all_goals rcases Nat.eq_zero_or_pos p.notes.length with c2|c2
 all_goals
  refine AQ.enter (Ar (by decide)) Tryz.func25 rfl (by kernel_rfl) (by simp [Tryz.ntmps25]) ?_
 all_goals
  repeat' (first|apply Ad.assoc|apply Ad.Aw|apply Ad.Bl|apply Ad.Aq|apply Ad.Bf|apply Ad.Aj|apply AV.normal|apply AP.normal|apply Ad.ret|apply Ad.skip|apply Af.nil|apply Ak.nil|apply Af.one|(apply Ak.bar;decide +kernel)|apply Ak.quiet|(apply Aa.fn;rfl;rfl;exact hb;intro _;rfl)|(apply Aa.fn;rfl;rfl;exact hc;intro _;rfl)|(apply Aa.fn;rfl;rfl;exact hs;intro _;rfl)|(apply Aa.MH;rfl;rfl;omega)|(apply Aa.AO (l:=p.notes) (i:=A % p.notes.length);rfl;rfl;rfl;exact Nat.mod_lt _ (by omega);rfl)|(apply Aa.assign;rfl)|(apply Aa.Fz;rfl;rfl;omega;omega)|(apply Aa.int;rfl;rfl;rfl)|(apply Aa.load;rfl;rfl)|(apply Aa.Bz;rfl;rfl)|(apply Aa.AA;rfl;rfl;rfl)|(apply Aa.box;rfl;trivial)|(apply Aa.alloc;rfl)|(apply Aa.AY;rfl;rfl;rfl;trivial;rfl;rfl;exact Ac rfl;exact le_dec rfl)|(apply Aa.DL;rfl;rfl;rfl;rfl;omega)|(apply Ad.Ae;rfl)|(apply Ad.AX;rfl)|(intro _;try (exfalso;omega)))
 all_goals first|(exfalso;omega)|contradiction|(refine Done.ret rfl (.refl _) (by exact PV.Ag rfl) Ap.nil (Nat.zero_le _) (Nat.le_refl _) ⟨?_,rfl,rfl⟩;try rfl)
end Go.Proofs.YtnhdddmhkhdlhaaGreatDoor
namespace Go.Proofs.YtnhdddmhkhdlhaaGreatDoor
open Go Go.Am Go.Vm Go.Pie
attribute [local irreducible] Aa Af Ak Ad Bv AQ BN AV AP Az Vm.Done Cb BH
attribute [local irreducible] Dc BZ EL ES Gj BK Dz
theorem lQ (p:DY) (n:Nat) (hn:n≤400000) (h:FP p n) (h0:0<p.bars.length) (hz:p.notes.length=0) (K A:Nat) (B:Int) (hK:K<256) (hA:A<256) (hB:-128≤B∧B≤127) (hk:8≤K % 12):AQ env 25 [.agg (Enc.enc p),.agg (ET K A B)] (.p (.agg (Dj p.bars p.bars.length p.notes p.notes.length p.sets p.sets.length))):=by
 have b1:=h.lb
 have b2:=h.ln
 have b3:=h.ls
 have hb:=Dt p.bars (by omega)
 have hc:=DF p.notes (by omega)
 have hs:=DJ p.sets (by omega)
 unfold ET Dj
 rcases Nat.eq_zero_or_pos p.sets.length with c1|c1
 all_goals
  refine AQ.enter (Ar (by decide)) Tryz.func25 rfl (by kernel_rfl) (by simp [Tryz.ntmps25]) ?_
 all_goals
  repeat' (first|apply Ad.assoc|apply Ad.Aw|apply Ad.Bl|apply Ad.Aq|apply Ad.Bf|apply Ad.Aj|apply AV.normal|apply AP.normal|apply Ad.skip|apply Af.nil|apply Ak.nil|apply Af.one|(apply Ak.bar;decide +kernel)|apply Ak.quiet|(apply Aa.fn;rfl;rfl;exact hb;intro _;rfl)|(apply Aa.fn;rfl;rfl;exact hc;intro _;rfl)|(apply Aa.fn;rfl;rfl;exact hs;intro _;rfl)|(apply Aa.MH;rfl;rfl;omega)|(apply Aa.AO (l:=p.sets) (i:=A % p.sets.length);rfl;rfl;rfl;exact Nat.mod_lt _ (by omega);rfl)|(apply Aa.assign;rfl)|(apply Aa.Fz;rfl;rfl;omega;omega)|(apply Aa.int;rfl;rfl;rfl)|(apply Aa.load;rfl;rfl)|(apply Aa.Bz;rfl;rfl)|(apply Aa.AA;rfl;rfl;rfl)|(apply Aa.box;rfl;trivial)|(apply Aa.alloc;rfl)|(apply Aa.AY;rfl;rfl;rfl;trivial;rfl;rfl;exact Ac rfl;exact le_dec rfl)|(apply Aa.DL;rfl;rfl;rfl;rfl;omega)|(apply Ad.Ae;rfl)|(apply Ad.AX;rfl)|(intro _;try (exfalso;omega)))
 all_goals first|(exfalso;omega)|contradiction|(refine Done.ret rfl (.refl _) (by exact PV.Ag rfl) Ap.nil (Nat.zero_le _) (Nat.le_refl _) ⟨?_,rfl,rfl⟩;try rfl)
theorem qC (p:DY) (n:Nat) (hn:n≤400000) (h:FP p n) (h0:0<p.bars.length) (hz:0<p.notes.length) (K A:Nat) (B:Int) (hK:K<256) (hA:A<256) (hB:-128≤B∧B≤127) (hk:K % 12=8):AQ env 25 [.agg (Enc.enc p),.agg (ET K A B)] (.p (.agg (Dj p.bars p.bars.length (p.notes.set (A % p.notes.length) (⟨(gi p.notes (A % p.notes.length)).s,(gi p.notes (A % p.notes.length)).e,(gi p.notes (A % p.notes.length)).d+B,(gi p.notes (A % p.notes.length)).k⟩:Fg)) p.notes.length p.sets p.sets.length))):=by
 have b1:=h.lb
 have b2:=h.ln
 have b3:=h.ls
 have hb:=Dt p.bars (by omega)
 have hc:=Iw p.notes hz (by omega)
 have hs:=DJ p.sets (by omega)
 have hx:A % p.notes.length<p.notes.length:=Nat.mod_lt _ hz
 have hbb:=h.notes (A % p.notes.length) hx
 unfold ET Dj
 rcases Nat.eq_zero_or_pos p.sets.length with c1|c1
 all_goals
  refine AQ.enter (Ar (by decide)) Tryz.func25 rfl (by kernel_rfl) (by simp [Tryz.ntmps25]) ?_
 all_goals
  repeat' (first|(refine Ad.at 34 ?_;refine Ad.ghost (A8.BA 0 1 rfl rfl rfl) ?_;first|apply Ad.Aw|apply Ad.Bl)|apply Ad.assoc|apply Ad.Aw|apply Ad.Bl|apply Ad.Di|apply Ad.Aq|apply Ad.Aj|apply AV.normal|apply AP.normal|apply Ad.ret|apply Ad.skip|apply Af.nil|apply Ak.nil|apply Af.one|(apply Ak.bar;decide +kernel)|apply Ak.quiet|(apply Aa.fn;rfl;rfl;exact hb;intro _;rfl)|(apply Aa.fv;rfl;rfl;exact hc)|(apply Aa.fn;rfl;rfl;exact hs;intro _;rfl)|(apply Aa.MH;rfl;rfl;omega)|(apply Aa.EM (l:=p.notes) (i:=A % p.notes.length);rfl;rfl;rfl;rfl;exact hx)|(apply Aa.Oh;rfl;rfl)|(apply Aa.QS;rfl;rfl;rfl)|(apply Aa.Rh (α:=Fg) (l:=p.notes) (i:=A % p.notes.length) (f:=2);rfl;rfl;exact hx;decide;rfl)|(apply Aa.NT (α:=Fg) (l:=p.notes) (i:=A % p.notes.length) (f:=2) (y:=(⟨(gi p.notes (A % p.notes.length)).s,(gi p.notes (A % p.notes.length)).e,(gi p.notes (A % p.notes.length)).d+B,(gi p.notes (A % p.notes.length)).k⟩:Fg)) (fs:=[.int .i64 ((gi p.notes (A % p.notes.length)).d+B)]);rfl;rfl;rfl;trivial;rfl;rfl;rfl;decide;exact hx;decide;exact .refl _)|(apply Aa.AO (l:=p.sets) (i:=A % p.sets.length);rfl;rfl;rfl;exact Nat.mod_lt _ (by omega);rfl)|(apply Aa.assign;rfl)|(apply Aa.move;rfl)|(apply Aa.BD;rfl;rfl;omega)|(apply Aa.Fz;rfl;rfl;omega;omega)|(apply Aa.int;rfl;rfl;rfl)|(apply Aa.load;rfl;rfl)|(apply Aa.Bz;rfl;rfl)|(apply Aa.lenV;rfl;rfl;rfl)|(apply Aa.AA;rfl;rfl;rfl)|(apply Aa.box;rfl;trivial)|(apply Aa.alloc;rfl)|(apply Aa.AY;rfl;rfl;rfl;trivial;rfl;rfl;exact Ac rfl;exact le_dec rfl)|(apply Aa.DL;rfl;rfl;rfl;rfl;omega)|(apply Ad.Ae;rfl)|(apply Ad.AX;rfl)|(intro _;try (exfalso;omega)))
 all_goals first|(exfalso;omega)|contradiction|(refine Done.ret rfl (.refl _) (by exact PV.Ag rfl) Ap.nil (Nat.zero_le _) (Nat.le_refl _) ⟨?_,rfl,rfl⟩;try rfl)
theorem sO (p:DY) (n:Nat) (hn:n≤400000) (h:FP p n) (h0:0<p.bars.length) (hz:0<p.notes.length) (K A:Nat) (B:Int) (hK:K<256) (hA:A<256) (hB:-128≤B∧B≤127) (hk:K % 12=9):AQ env 25 [.agg (Enc.enc p),.agg (ET K A B)] (.p (.agg (Dj p.bars p.bars.length (p.notes.set (A % p.notes.length) (⟨(gi p.notes (A % p.notes.length)).s,(gi p.notes (A % p.notes.length)).e,(gi p.notes (A % p.notes.length)).d,(gi p.notes (A % p.notes.length)).k+B⟩:Fg)) p.notes.length p.sets p.sets.length))):=by
 have b1:=h.lb
 have b2:=h.ln
 have b3:=h.ls
 have hb:=Dt p.bars (by omega)
 have hc:=Iw p.notes hz (by omega)
 have hs:=DJ p.sets (by omega)
 have hx:A % p.notes.length<p.notes.length:=Nat.mod_lt _ hz
 have hbb:=h.notes (A % p.notes.length) hx
 unfold ET Dj
 rcases Nat.eq_zero_or_pos p.sets.length with c1|c1
 all_goals
  refine AQ.enter (Ar (by decide)) Tryz.func25 rfl (by kernel_rfl) (by simp [Tryz.ntmps25]) ?_
 all_goals
  repeat' (first|(refine Ad.at 34 ?_;refine Ad.ghost (A8.BA 0 1 rfl rfl rfl) ?_;first|apply Ad.Aw|apply Ad.Bl)|apply Ad.assoc|apply Ad.Aw|apply Ad.Bl|apply Ad.Di|apply Ad.Aq|apply Ad.Aj|apply AV.normal|apply AP.normal|apply Ad.ret|apply Ad.skip|apply Af.nil|apply Ak.nil|apply Af.one|(apply Ak.bar;decide +kernel)|apply Ak.quiet|(apply Aa.fn;rfl;rfl;exact hb;intro _;rfl)|(apply Aa.fv;rfl;rfl;exact hc)|(apply Aa.fn;rfl;rfl;exact hs;intro _;rfl)|(apply Aa.MH;rfl;rfl;omega)|(apply Aa.EM (l:=p.notes) (i:=A % p.notes.length);rfl;rfl;rfl;rfl;exact hx)|(apply Aa.Oh;rfl;rfl)|(apply Aa.QS;rfl;rfl;rfl)|(apply Aa.Rh (α:=Fg) (l:=p.notes) (i:=A % p.notes.length) (f:=3);rfl;rfl;exact hx;decide;rfl)|(apply Aa.NT (α:=Fg) (l:=p.notes) (i:=A % p.notes.length) (f:=3) (y:=(⟨(gi p.notes (A % p.notes.length)).s,(gi p.notes (A % p.notes.length)).e,(gi p.notes (A % p.notes.length)).d,(gi p.notes (A % p.notes.length)).k+B⟩:Fg)) (fs:=[.int .i64 ((gi p.notes (A % p.notes.length)).k+B)]);rfl;rfl;rfl;trivial;rfl;rfl;rfl;decide;exact hx;decide;exact .refl _)|(apply Aa.AO (l:=p.sets) (i:=A % p.sets.length);rfl;rfl;rfl;exact Nat.mod_lt _ (by omega);rfl)|(apply Aa.assign;rfl)|(apply Aa.move;rfl)|(apply Aa.BD;rfl;rfl;omega)|(apply Aa.Fz;rfl;rfl;omega;omega)|(apply Aa.int;rfl;rfl;rfl)|(apply Aa.load;rfl;rfl)|(apply Aa.Bz;rfl;rfl)|(apply Aa.lenV;rfl;rfl;rfl)|(apply Aa.AA;rfl;rfl;rfl)|(apply Aa.box;rfl;trivial)|(apply Aa.alloc;rfl)|(apply Aa.AY;rfl;rfl;rfl;trivial;rfl;rfl;exact Ac rfl;exact le_dec rfl)|(apply Aa.DL;rfl;rfl;rfl;rfl;omega)|(apply Ad.Ae;rfl)|(apply Ad.AX;rfl)|(intro _;try (exfalso;omega)))
 all_goals first|(exfalso;omega)|contradiction|(refine Done.ret rfl (.refl _) (by exact PV.Ag rfl) Ap.nil (Nat.zero_le _) (Nat.le_refl _) ⟨?_,rfl,rfl⟩;try rfl)
end Go.Proofs.YtnhdddmhkhdlhaaGreatDoor
namespace Go.Proofs.YtnhdddmhkhdlhaaGreatDoor
open Go Go.Am Go.Vm Go.Pie
attribute [local irreducible] Aa Af Ak Ad Bv AQ BN AV AP Az Vm.Done Cb BH
attribute [local irreducible] Dc BZ EL ES Gj BK Dz
theorem kR (p:DY) (n:Nat) (hn:n≤400000) (h:FP p n) (h0:0<p.bars.length) (hz:0<p.notes.length) (K A:Nat) (B:Int) (hK:K<256) (hA:A<256) (hB:-128≤B∧B≤127) (hk:K % 12=10):AQ env 25 [.agg (Enc.enc p),.agg (ET K A B)] (.p (.agg (Dj p.bars p.bars.length (p.notes.set (A % p.notes.length) (⟨(gi p.notes (A % p.notes.length)).s+B,(gi p.notes (A % p.notes.length)).e,(gi p.notes (A % p.notes.length)).d,(gi p.notes (A % p.notes.length)).k⟩:Fg)) p.notes.length p.sets p.sets.length))):=by
 have b1:=h.lb
 have b2:=h.ln
 have b3:=h.ls
 have hb:=Dt p.bars (by omega)
 have hc:=Iw p.notes hz (by omega)
 have hs:=DJ p.sets (by omega)
 have hx:A % p.notes.length<p.notes.length:=Nat.mod_lt _ hz
 have hbb:=h.notes (A % p.notes.length) hx
 unfold ET Dj
 rcases Nat.eq_zero_or_pos p.sets.length with c1|c1
 all_goals
  refine AQ.enter (Ar (by decide)) Tryz.func25 rfl (by kernel_rfl) (by simp [Tryz.ntmps25]) ?_
 all_goals
  repeat' (first|(refine Ad.at 34 ?_;refine Ad.ghost (A8.BA 0 1 rfl rfl rfl) ?_;first|apply Ad.Aw|apply Ad.Bl)|apply Ad.assoc|apply Ad.Aw|apply Ad.Bl|apply Ad.Di|apply Ad.Aq|apply Ad.Aj|apply AV.normal|apply AP.normal|apply Ad.ret|apply Ad.skip|apply Af.nil|apply Ak.nil|apply Af.one|(apply Ak.bar;decide +kernel)|apply Ak.quiet|(apply Aa.fn;rfl;rfl;exact hb;intro _;rfl)|(apply Aa.fv;rfl;rfl;exact hc)|(apply Aa.fn;rfl;rfl;exact hs;intro _;rfl)|(apply Aa.MH;rfl;rfl;omega)|(apply Aa.EM (l:=p.notes) (i:=A % p.notes.length);rfl;rfl;rfl;rfl;exact hx)|(apply Aa.Oh;rfl;rfl)|(apply Aa.QS;rfl;rfl;rfl)|(apply Aa.Rh (α:=Fg) (l:=p.notes) (i:=A % p.notes.length) (f:=0);rfl;rfl;exact hx;decide;rfl)|(apply Aa.NT (α:=Fg) (l:=p.notes) (i:=A % p.notes.length) (f:=0) (y:=(⟨(gi p.notes (A % p.notes.length)).s+B,(gi p.notes (A % p.notes.length)).e,(gi p.notes (A % p.notes.length)).d,(gi p.notes (A % p.notes.length)).k⟩:Fg)) (fs:=[.int .i64 ((gi p.notes (A % p.notes.length)).s+B)]);rfl;rfl;rfl;trivial;rfl;rfl;rfl;decide;exact hx;decide;exact .refl _)|(apply Aa.AO (l:=p.sets) (i:=A % p.sets.length);rfl;rfl;rfl;exact Nat.mod_lt _ (by omega);rfl)|(apply Aa.assign;rfl)|(apply Aa.move;rfl)|(apply Aa.BD;rfl;rfl;omega)|(apply Aa.Fz;rfl;rfl;omega;omega)|(apply Aa.int;rfl;rfl;rfl)|(apply Aa.load;rfl;rfl)|(apply Aa.Bz;rfl;rfl)|(apply Aa.lenV;rfl;rfl;rfl)|(apply Aa.AA;rfl;rfl;rfl)|(apply Aa.box;rfl;trivial)|(apply Aa.alloc;rfl)|(apply Aa.AY;rfl;rfl;rfl;trivial;rfl;rfl;exact Ac rfl;exact le_dec rfl)|(apply Aa.DL;rfl;rfl;rfl;rfl;omega)|(apply Ad.Ae;rfl)|(apply Ad.AX;rfl)|(intro _;try (exfalso;omega)))
 all_goals first|(exfalso;omega)|contradiction|(refine Done.ret rfl (.refl _) (by exact PV.Ag rfl) Ap.nil (Nat.zero_le _) (Nat.le_refl _) ⟨?_,rfl,rfl⟩;try rfl)
theorem kY (p:DY) (n:Nat) (hn:n≤400000) (h:FP p n) (h0:0<p.bars.length) (hz:0<p.notes.length) (K A:Nat) (B:Int) (hK:K<256) (hA:A<256) (hB:-128≤B∧B≤127) (hk:K % 12=11):AQ env 25 [.agg (Enc.enc p),.agg (ET K A B)] (.p (.agg (Dj p.bars p.bars.length (p.notes.set (A % p.notes.length) (⟨(gi p.notes (A % p.notes.length)).s,(gi p.notes (A % p.notes.length)).e+B,(gi p.notes (A % p.notes.length)).d,(gi p.notes (A % p.notes.length)).k⟩:Fg)) p.notes.length p.sets p.sets.length))):=by
 have b1:=h.lb
 have b2:=h.ln
 have b3:=h.ls
 have hb:=Dt p.bars (by omega)
 have hc:=Iw p.notes hz (by omega)
 have hs:=DJ p.sets (by omega)
 have hx:A % p.notes.length<p.notes.length:=Nat.mod_lt _ hz
 have hbb:=h.notes (A % p.notes.length) hx
 unfold ET Dj
 rcases Nat.eq_zero_or_pos p.sets.length with c1|c1
 all_goals
  refine AQ.enter (Ar (by decide)) Tryz.func25 rfl (by kernel_rfl) (by simp [Tryz.ntmps25]) ?_
 all_goals
  repeat' (first|(refine Ad.at 34 ?_;refine Ad.ghost (A8.BA 0 1 rfl rfl rfl) ?_;first|apply Ad.Aw|apply Ad.Bl)|apply Ad.assoc|apply Ad.Aw|apply Ad.Bl|apply Ad.Di|apply Ad.Aq|apply Ad.Aj|apply AV.normal|apply AP.normal|apply Ad.ret|apply Ad.skip|apply Af.nil|apply Ak.nil|apply Af.one|(apply Ak.bar;decide +kernel)|apply Ak.quiet|(apply Aa.fn;rfl;rfl;exact hb;intro _;rfl)|(apply Aa.fv;rfl;rfl;exact hc)|(apply Aa.fn;rfl;rfl;exact hs;intro _;rfl)|(apply Aa.MH;rfl;rfl;omega)|(apply Aa.EM (l:=p.notes) (i:=A % p.notes.length);rfl;rfl;rfl;rfl;exact hx)|(apply Aa.Oh;rfl;rfl)|(apply Aa.QS;rfl;rfl;rfl)|(apply Aa.Rh (α:=Fg) (l:=p.notes) (i:=A % p.notes.length) (f:=1);rfl;rfl;exact hx;decide;rfl)|(apply Aa.NT (α:=Fg) (l:=p.notes) (i:=A % p.notes.length) (f:=1) (y:=(⟨(gi p.notes (A % p.notes.length)).s,(gi p.notes (A % p.notes.length)).e+B,(gi p.notes (A % p.notes.length)).d,(gi p.notes (A % p.notes.length)).k⟩:Fg)) (fs:=[.int .i64 ((gi p.notes (A % p.notes.length)).e+B)]);rfl;rfl;rfl;trivial;rfl;rfl;rfl;decide;exact hx;decide;exact .refl _)|(apply Aa.AO (l:=p.sets) (i:=A % p.sets.length);rfl;rfl;rfl;exact Nat.mod_lt _ (by omega);rfl)|(apply Aa.assign;rfl)|(apply Aa.move;rfl)|(apply Aa.BD;rfl;rfl;omega)|(apply Aa.Fz;rfl;rfl;omega;omega)|(apply Aa.int;rfl;rfl;rfl)|(apply Aa.load;rfl;rfl)|(apply Aa.Bz;rfl;rfl)|(apply Aa.lenV;rfl;rfl;rfl)|(apply Aa.AA;rfl;rfl;rfl)|(apply Aa.box;rfl;trivial)|(apply Aa.alloc;rfl)|(apply Aa.AY;rfl;rfl;rfl;trivial;rfl;rfl;exact Ac rfl;exact le_dec rfl)|(apply Aa.DL;rfl;rfl;rfl;rfl;omega)|(apply Ad.Ae;rfl)|(apply Ad.AX;rfl)|(intro _;try (exfalso;omega)))
 all_goals first|(exfalso;omega)|contradiction|(refine Done.ret rfl (.refl _) (by exact PV.Ag rfl) Ap.nil (Nat.zero_le _) (Nat.le_refl _) ⟨?_,rfl,rfl⟩;try rfl)
end Go.Proofs.YtnhdddmhkhdlhaaGreatDoor
namespace Go.Proofs.YtnhdddmhkhdlhaaGreatDoor
open Go Go.Am Go.Vm Go.Pie
attribute [local irreducible] Aa Af Ak Ad Bv AQ BN AV AP Az Vm.Done Cb BH
attribute [local irreducible] Dc BZ EL ES Gj BK Dz
theorem nC (p:DY) (n:Nat) (hn:n≤400000) (h:FP p n) (h0:0<p.bars.length) (hz:0<p.sets.length) (K A:Nat) (B:Int) (hK:K<256) (hA:A<256) (hB:-128≤B∧B≤127) (hk:K % 12=5):AQ env 25 [.agg (Enc.enc p),.agg (ET K A B)] (.p (.agg (Dj p.bars p.bars.length p.notes p.notes.length (p.sets++[(⟨B,⟨List.replicate (A % 5) 0,0,0⟩⟩:IX)]) (p.sets.length+1)))):=by
 have b1:=h.lb
 have b2:=h.ln
 have b3:=h.ls
 have hb:=Dt p.bars (by omega)
 have hc:=DF p.notes (by omega)
 have hs:=LQ p.sets hz (by omega)
 have hl5:(List.replicate (A % 5) (0:Nat)).length=A % 5:=List.length_replicate
 have y5:bZ (.p (.lst 68 (cells (List.replicate (A % 5) (0:Nat))) (A % 5))) (.p (.lst 68 (cells (List.replicate (A % 5) (0:Nat))) (List.replicate (A % 5) (0:Nat)).length)):=.of_eq (by rw [hl5])
 unfold ET Dj
 all_goals rcases Nat.eq_zero_or_pos p.notes.length with c2|c2
 all_goals
  refine AQ.enter (Ar (by decide)) Tryz.func25 rfl (by kernel_rfl) (by simp [Tryz.ntmps25]) ?_
 all_goals
  repeat' (first|(refine Ad.at 15 ?_;refine Ad.ghost (A8.BA 0 2 rfl rfl rfl) ?_;first|apply Ad.Aw|apply Ad.Bl)|(refine Ak.JE 97 ?_;refine Ak.ghost (A8.trans (A8.freeze 96 rfl rfl) (A8.le 96 rfl y5)) ?_)|apply Ad.assoc|apply Ad.Aw|apply Ad.Bl|apply Ad.Di|apply Ad.Aq|apply Ad.Bf|apply Ad.Aj|apply AV.normal|apply AP.normal|apply Ad.ret|apply Ad.skip|apply Af.nil|apply Ak.nil|apply Af.one|(apply Ak.bar;decide +kernel)|apply Ak.quiet|(apply Aa.fn;rfl;rfl;exact hb;intro _;rfl)|(apply Aa.fn;rfl;rfl;exact hc;intro _;rfl)|(apply Aa.fv;rfl;rfl;exact hs)|(apply Aa.MH;rfl;rfl;omega)|(apply Aa.JB (A % 5) (0:Nat);rfl;rfl;rfl;rfl;rfl;rfl;rfl;omega;decide;decide;rfl)|(apply Aa.CX (a:=(⟨B,⟨List.replicate (A % 5) 0,0,0⟩⟩:IX));rfl;rfl;rfl;rfl;rfl;rfl;rfl;rfl;(intro _ h;cases h);rfl;rfl;rfl;decide;decide;(first|omega|(simp only [List.length_take,List.length_drop,List.length_append,List.length_singleton,List.length_cons,List.length_nil]<;>omega)))|(apply Aa.AO (l:=p.sets++[(⟨B,⟨List.replicate (A % 5) 0,0,0⟩⟩:IX)]) (i:=A % (p.sets.length+1));rfl;rfl;rfl;(rw [List.length_append];exact Nat.mod_lt _ (Nat.succ_pos _));(rw [List.length_append];rfl))|(apply Aa.AO (l:=p.notes) (i:=A % p.notes.length);rfl;rfl;rfl;exact Nat.mod_lt _ (by omega);rfl)|(apply Aa.assign;rfl)|(apply Aa.Fz;rfl;rfl;omega;omega)|(apply Aa.int;rfl;rfl;rfl)|(apply Aa.load;rfl;rfl)|(apply Aa.Bz;rfl;rfl)|(apply Aa.AA;rfl;rfl;rfl)|(apply Aa.box;rfl;trivial)|(apply Aa.alloc;rfl)|(apply Aa.AY;rfl;rfl;rfl;trivial;rfl;rfl;exact Ac rfl;exact le_dec rfl)|(apply Aa.build;rfl;rfl;rfl;rfl;rfl)|(apply Aa.buildSlice;rfl;rfl;rfl;decide;rfl;rfl;rfl)|(apply Aa.DL;rfl;rfl;rfl;rfl;omega)|(apply Ad.Ae;rfl)|(apply Ad.AX;rfl)|(intro _;try (exfalso;omega)))
 all_goals first|(exfalso;omega)|contradiction|(refine Done.ret rfl (.refl _) (by exact PV.Ag rfl) Ap.nil (Nat.zero_le _) (Nat.le_refl _) ⟨?_,rfl,rfl⟩;try rfl)
theorem vP:Bv env 63 ([FV.lst 74 (cells ([]:List IX)) 0].map .p) [] 0 (fun r H' nx'=>(r=.p (.val (.slice none 0 0))∧H'=[]∧nx'=0)∨(r=.vec 1 0 0 0∧H'=[(1,.vec 74 [] 0 false)]∧nx'=2)):=by
 refine Bv.enter (Ar (by decide)) Tryz.func63 rfl (by kernel_rfl) (by simp [Tryz.ntmps63]) ?_
 repeat' (first|apply Ad.assoc|apply Ad.Aw|apply Ad.Aq|apply Ad.Bf|apply Ad.ret|apply Af.nil|apply Af.one|(apply Aa.eqNil;rfl;rfl;rfl)|(apply Aa.assign;rfl)|(apply Aa.move;rfl)|(apply Aa.buildSlice;rfl;rfl;rfl;decide;rfl;rfl;rfl)|(apply Aa.F8;rfl;rfl;rfl;(first|rfl|omega|(simp only [List.length_take,List.length_drop,List.length_append,List.length_singleton,List.length_cons,List.length_nil]<;>omega));rfl;rfl;(intro _ h;cases h);rfl;rfl;rfl;decide;decide;(first|omega|(simp only [List.length_take,List.length_drop,List.length_append,List.length_singleton,List.length_cons,List.length_nil]<;>omega)))|(apply Ad.JZ;rfl)|(intro _;try (exfalso;omega)))
 all_goals first|(exfalso;omega)|(refine Done.ret rfl (.refl _) trivial Ap.nil (Nat.zero_le _) (Nat.le_refl _) (.inl ⟨rfl,rfl,rfl⟩);done)|(refine Done.ret (FN:=2) (H0:=[(1,.vec 74 [] 0 false)]) rfl (.refl _) (Ac rfl) ?_ (Nat.le_refl _) (Nat.zero_le _) (.inr ⟨rfl,rfl,rfl⟩);repeat (first|exact Ap.nil|(refine Ap.cons (Ac rfl) ?_ rfl ?_ ?_;(first|exact HB.Ag rfl|exact Ba.Ai _ _|(simp [HB.under,Ba.under,PV.under]));(first|exact BG.refl _|exact BG.vec (Bo.refl _) (by simp)))))
theorem mO (p:DY) (n:Nat) (hn:n≤400000) (h:FP p n) (h0:0<p.bars.length) (hz:p.sets.length=0) (K A:Nat) (B:Int) (hK:K<256) (hA:A<256) (hB:-128≤B∧B≤127) (hk:K % 12=5):AQ env 25 [.agg (Enc.enc p),.agg (ET K A B)] (.p (.agg (Dj p.bars p.bars.length p.notes p.notes.length (p.sets++[(⟨B,⟨List.replicate (A % 5) 0,0,0⟩⟩:IX)]) (p.sets.length+1)))):=by
 have b1:=h.lb
 have b2:=h.ln
 have hb:=Dt p.bars (by omega)
 have hc:=DF p.notes (by omega)
 have hs:=vP
 have hl5:(List.replicate (A % 5) (0:Nat)).length=A % 5:=List.length_replicate
 have y5:bZ (.p (.lst 68 (cells (List.replicate (A % 5) (0:Nat))) (A % 5))) (.p (.lst 68 (cells (List.replicate (A % 5) (0:Nat))) (List.replicate (A % 5) (0:Nat)).length)):=.of_eq (by rw [hl5])
 obtain ⟨B0,N0,S0⟩:=p
 obtain rfl:S0=[]:=List.length_eq_zero_iff.1 hz
 clear hz
 dsimp only at *
 rw [List.nil_append]
 unfold ET Dj
 rcases Nat.eq_zero_or_pos N0.length with c2|c2
 all_goals
  refine AQ.enter (Ar (by decide)) Tryz.func25 rfl (by kernel_rfl) (by simp [Tryz.ntmps25]) ?_
 all_goals
  repeat' (first|(refine Ad.atEnd 14 ?_;refine Ad.ghost (A8.DN 0 2 74 rfl rfl) ?_;first|apply Ad.region|apply Ad.Di)|(refine Ad.at 15 ?_;refine Ad.ghost (A8.BA 0 2 rfl rfl rfl) ?_;first|apply Ad.Aw|apply Ad.Bl)|(refine Ak.JE 97 ?_;refine Ak.ghost (A8.trans (A8.freeze 96 rfl rfl) (A8.le 96 rfl y5)) ?_)|apply Ad.assoc|apply Ad.Aw|apply Ad.Bl|apply Ad.Di|apply Ad.Aq|apply Ad.Bf|apply Ad.Aj|apply AV.normal|apply AP.normal|apply Ad.ret|apply Ad.skip|apply Af.nil|apply Ak.nil|apply Af.one|(apply Ak.bar;decide +kernel)|apply Ak.quiet|(apply Aa.fn;rfl;rfl;exact hb;intro _;rfl)|(apply Aa.fn;rfl;rfl;exact hc;intro _;rfl)|(apply Aa.nD (hc:=hs);rfl;rfl;exact .of_eq rfl;rintro _ _ _ (⟨rfl,rfl,rfl⟩|⟨rfl,rfl,rfl⟩))|(apply Aa.MH;rfl;rfl;omega)|(apply Aa.JB (A % 5) (0:Nat);rfl;rfl;rfl;rfl;rfl;rfl;rfl;omega;decide;decide;rfl)|(apply Aa.CX (l:=[]) (a:=(⟨B,⟨List.replicate (A % 5) 0,0,0⟩⟩:IX));rfl;rfl;rfl;rfl;rfl;rfl;rfl;rfl;(intro _ h;cases h);rfl;rfl;rfl;decide;decide;(first|omega|(simp only [List.length_take,List.length_drop,List.length_append,List.length_singleton,List.length_cons,List.length_nil]<;>omega)))|(apply Aa.AO (l:=[(⟨B,⟨List.replicate (A % 5) 0,0,0⟩⟩:IX)]) (i:=0);rfl;(refine congrArg (fun b=>some (PV.p (.int .i64 b))) ?_;show ((A:Int) % 1:Int)=0;omega);rfl;exact Nat.zero_lt_one;rfl)|(apply Aa.AO (l:=N0) (i:=A % N0.length);rfl;rfl;rfl;exact Nat.mod_lt _ (by omega);rfl)|(apply Aa.assign;rfl)|(apply Aa.Fz;rfl;rfl;omega;omega)|(apply Aa.int;rfl;rfl;rfl)|(apply Aa.load;rfl;rfl)|(apply Aa.Bz;rfl;rfl)|(apply Aa.AA;rfl;rfl;rfl)|(apply Aa.box;rfl;trivial)|(apply Aa.alloc;rfl)|(apply Aa.AY;rfl;rfl;rfl;trivial;rfl;rfl;exact Ac rfl;exact le_dec rfl)|(apply Aa.build;rfl;rfl;rfl;rfl;rfl)|(apply Aa.buildSlice;rfl;rfl;rfl;decide;rfl;rfl;rfl)|(apply Aa.DL;rfl;rfl;rfl;rfl;omega)|(apply Ad.Bq;rfl)|(apply Ad.Ae;rfl)|(apply Ad.AX;rfl)|(intro _;try (exfalso;omega)))
 all_goals first|(exfalso;omega)|contradiction|(refine Done.ret rfl (.refl _) (by exact PV.Ag rfl) Ap.nil (Nat.zero_le _) (Nat.le_refl _) ⟨?_,rfl,rfl⟩;try rfl)
def EU (l:List Int):Int:=gi l (l.length-1)+1
theorem X3 {l:List Int} {n:Nat} (h0:0<l.length) (h:∀ i,i<l.length→-(n:Int)≤gi l i∧gi l i≤n):∀ k,∀ i,i<(Fb EU l k).length→-(n:Int)≤gi (Fb EU l k) i∧gi (Fb EU l k) i≤n+k
 |0,i,hi=>by have:=h i hi;exact ⟨this.1,by have:=this.2;show gi l i≤_;omega⟩
 |k+1,i,hi=>by
  have ih:=X3 h0 h k
  have hl:=KF EU l k
  have e1:Fb EU l (k+1)=Fb EU l k++[gi (Fb EU l k) ((Fb EU l k).length-1)+1]:=rfl
  rw [e1] at hi ⊢
  rw [List.length_append] at hi
  have hi:i<(Fb EU l k).length+1:=hi
  by_cases e:i<(Fb EU l k).length
  ·rw [jq e];have:=ih i e;omega
  ·obtain rfl:i=(Fb EU l k).length:=by omega
   rw [bF]
   have:=ih ((Fb EU l k).length-1) (by omega)
   omega
theorem qG (p:DY) (n:Nat) (hn:n≤400000) (h:FP p n) (h0:0<p.bars.length) (K A:Nat) (B:Int) (hK:K<256) (hA:A<256) (hB:-128≤B∧B≤127) (hk:K % 12=3):AQ env 25 [.agg (Enc.enc p),.agg (ET K A B)] (.p (.agg (Dj (Fb EU p.bars ((200+A % 4)-p.bars.length)) (Fb EU p.bars ((200+A % 4)-p.bars.length)).length p.notes p.notes.length p.sets p.sets.length))):=by
 have b1:=h.lb
 have b2:=h.ln
 have b3:=h.ls
 have hb:=Ko p.bars h0 (by omega)
 have hc:=DF p.notes (by omega)
 have hs:=DJ p.sets (by omega)
 have hlast:∀ k,-(n:Int)≤gi (Fb EU p.bars k) ((Fb EU p.bars k).length-1)∧gi (Fb EU p.bars k) ((Fb EU p.bars k).length-1)≤n+k:=fun k=>X3 h0 h.bars k _ (by have:=KF EU p.bars k;omega)
 unfold ET Dj
 rcases Nat.eq_zero_or_pos p.sets.length with c1|c1
 all_goals rcases Nat.eq_zero_or_pos p.notes.length with c2|c2
 all_goals
  refine AQ.enter (Ar (by decide)) Tryz.func25 rfl (by kernel_rfl) (by simp [Tryz.ntmps25]) ?_
 all_goals
  repeat' (first|apply Ad.assoc|apply Ad.Aw|apply Ad.Bl|apply Ad.Aj|apply Ad.IZ|apply Af.nil|apply Ak.nil|apply Af.one|(apply Ak.bar;decide +kernel)|apply Ak.quiet|(apply Aa.fv;rfl;rfl;exact hb)|(apply Aa.fn;rfl;rfl;exact hc;intro _;rfl)|(apply Aa.fn;rfl;rfl;exact hs;intro _;rfl)|(apply Aa.MH;rfl;rfl;omega)|(apply Aa.assign;rfl)|(apply Aa.Fz;rfl;rfl;omega;omega)|(apply Aa.int;rfl;rfl;rfl)|(apply Aa.load;rfl;rfl)|(apply Aa.lenV;rfl;rfl;rfl)|(apply Aa.AA;rfl;rfl;rfl)|(apply Aa.box;rfl;trivial)|(apply Aa.alloc;rfl)|(apply Aa.AY;rfl;rfl;rfl;trivial;rfl;rfl;exact Ac rfl;exact le_dec rfl)|(apply Aa.DL;rfl;rfl;rfl;rfl;omega)|(apply Ad.AX;rfl)|(intro _;try (exfalso;omega)))
 all_goals try (exfalso;omega)
 all_goals try contradiction
 all_goals
  apply Ad.KU ((200+A % 4)-p.bars.length) [(2,_),(3,_),(4,_)] [(1,_),(2,_)] (fun k r=>r) (fun k r=>(3,.vec 3 (cells (Fb EU p.bars k)) (Fb EU p.bars k).length false)::(0,.box 45 [.vec 3 (Fb EU p.bars k).length 0 (Fb EU p.bars k).length,.p (.lst 66 (cells p.notes) p.notes.length),.p (.lst 74 (cells p.sets) p.sets.length)])::r) 4
  ·first|omega|decide
  ·first|omega|decide
  ·repeat (first|exact Ah.nil|(refine Ah.eq rfl ?_ ?_;(first|exact PV.Ag rfl|(simp [PV.under,Ba.under];done)))|refine Ah.cons trivial rfl (.of_eq (AL (by simp<;>omega))) ?_)
  ·repeat (first|exact Ap.nil|(refine Ap.eq rfl (Ac rfl) ?_ ?_;(first|exact HB.Ag rfl|exact Ba.Ai _ _|(simp [HB.under,Ba.under,PV.under];done)))|(refine Ap.cons (Ac rfl) ?_ rfl ?_ ?_;(first|exact trivial|exact Ba.Ai _ _|(simp [HB.under,Ba.under,PV.under]));(first|exact BG.refl _|exact BG.vec (Bo.refl _) (by simp))))
  ·intro k hk
   have hl2:=KF EU p.bars k
   have hbd:=hlast k
   have e1:Fb EU p.bars (k+1)=Fb EU p.bars k++[gi (Fb EU p.bars k) ((Fb EU p.bars k).length-1)+1]:=rfl
   have e2:(Fb EU p.bars (k+1)).length=(Fb EU p.bars k).length+1:=by rw [e1];simp
   have hi:((Fb EU p.bars k).length:Int)-1=(((Fb EU p.bars k).length-1:Nat):Int):=by omega
   generalize Fb EU p.bars k=W at *
   repeat' (first|apply Ad.assoc|apply Ad.Aw|apply Ad.Di|apply Ad.Aq|apply AP.normal|apply Ad.IZ|apply Af.nil|apply Ak.nil|apply Af.one|(apply Ak.bar;decide +kernel)|apply Ak.quiet|(apply Aa.EM (l:=W) (i:=W.length-1);rfl;rfl;exact congrArg (fun b=>some (PV.p (.int .i64 b))) hi;rfl;omega)|(apply Aa.Kv (l:=W) (i:=W.length-1);rfl;rfl;omega;rfl)|(apply Aa.CX (a:=(gi W (W.length-1)+1:Int));rfl;rfl;rfl;rfl;rfl;rfl;rfl;rfl;(intro _ h;cases h);rfl;rfl;rfl;decide;decide;(first|omega|(simp only [List.length_take,List.length_drop,List.length_append,List.length_singleton,List.length_cons,List.length_nil]<;>omega)))|(apply Aa.BD;rfl;rfl;omega)|(apply Aa.Dq;rfl;rfl;omega)|(apply Aa.Fz;rfl;rfl;omega;omega)|(apply Aa.int;rfl;rfl;rfl)|(apply Aa.load;rfl;rfl)|(apply Aa.lenV;rfl;rfl;rfl)|(apply Aa.AA;rfl;rfl;rfl)|(apply Aa.AY;rfl;rfl;rfl;trivial;rfl;rfl;exact Ac rfl;exact le_dec rfl)|(apply Aa.buildSlice;rfl;rfl;rfl;decide;rfl;rfl;rfl)|(apply Aa.DL;rfl;rfl;rfl;rfl;omega)|(apply Ad.Ae;rfl)|(intro _;try (exfalso;omega)))
   all_goals try (exfalso;omega)
   refine Az.normal ⟨by first|omega|decide,?_,?_⟩
   ·try (rw [e2,e1])
    repeat (first|exact Ah.nil|refine Ah.same (by exact PV.Ag rfl) rfl ?_|refine Ah.cons trivial rfl (.of_eq (AL (by simp<;>omega))) ?_)
   ·rw [e2,e1]
    repeat (first|exact Ap.nil|(refine Ap.cons (Ac rfl) ?_ rfl ?_ ?_;(first|exact HB.Ag rfl|exact Ba.Ai _ _|(simp [HB.under,Ba.under,PV.under]));(first|exact BG.refl _|exact BG.vec (Bo.refl _) (by simp))))
  ·have hl2:=KF EU p.bars ((200+A % 4)-p.bars.length)
   generalize Fb EU p.bars ((200+A % 4)-p.bars.length)=W at *
   repeat' (first|(refine Ad.at 15 ?_;refine Ad.ghost (A8.BA 0 0 rfl rfl rfl) ?_;first|apply Ad.Aw|apply Ad.Bl)|apply Ad.assoc|apply Ad.Aw|apply Ad.Bl|apply Ad.Aq|apply Ad.Bf|apply Ad.Bj|apply Ad.Aj|apply AV.normal|apply AP.normal|apply AP.exit|apply Az.exit|apply Ad.ret|apply Ad.skip|apply Af.nil|apply Ak.nil|apply Af.one|(apply Ak.bar;decide +kernel)|apply Ak.quiet|(apply Aa.MH;rfl;rfl;omega)|(apply Aa.AO (l:=p.sets) (i:=A % p.sets.length);rfl;rfl;rfl;exact Nat.mod_lt _ (by omega);rfl)|(apply Aa.AO (l:=p.notes) (i:=A % p.notes.length);rfl;rfl;rfl;exact Nat.mod_lt _ (by omega);rfl)|(apply Aa.assign;rfl)|(apply Aa.BD;rfl;rfl;omega)|(apply Aa.Fz;rfl;rfl;omega;omega)|(apply Aa.int;rfl;rfl;rfl)|(apply Aa.load;rfl;rfl)|(apply Aa.Bz;rfl;rfl)|(apply Aa.lenV;rfl;rfl;rfl)|(apply Aa.AA;rfl;rfl;rfl)|(apply Aa.AY;rfl;rfl;rfl;trivial;rfl;rfl;exact Ac rfl;exact le_dec rfl)|(apply Aa.DL;rfl;rfl;rfl;rfl;omega)|(apply Ad.Ae;rfl)|(apply Ad.AX;rfl)|(intro _;try (exfalso;omega)))
   all_goals first|(exfalso;omega)|contradiction|(refine Done.ret rfl (.refl _) (by exact PV.Ag rfl) Ap.nil (Nat.zero_le _) (Nat.le_refl _) ⟨?_,rfl,rfl⟩;try rfl)
end Go.Proofs.YtnhdddmhkhdlhaaGreatDoor
namespace Go.Proofs.YtnhdddmhkhdlhaaGreatDoor
open Go Go.Am Go.Vm Go.Pie
attribute [local irreducible] Aa Af Ak Ad Bv AQ BN AV AP Az Vm.Done Cb BH
attribute [local irreducible] Dc BZ EL ES Gj BK Dz
theorem Jr {f:FuncId} {a:List FV} {q:DY} {xs:List FV} (he:Enc.enc q=xs) (c:AQ env f a (.p (.agg xs))):AQ env f a (.p (.agg (Enc.enc q))):=by rw [he];exact c
theorem sV {p:DY} {n:Nat} (hn:n<1000000) (h:FP p n):GH p :=
 ⟨by have:=h.lb;omega,by have:=h.ln;omega,by have:=h.ls;omega,fun i hi=>(h.sets i hi).2⟩
theorem Py {α:Type} [Inhabited α] {P:α→Prop} {l:List α} {i:Nat} {a:α} (h:∀ j,j<l.length→P (gi l j)) (ha:P a):∀ j,j<(l.set i a).length→P (gi (l.set i a) j):=fun j hj=>by
 rw [List.length_set] at hj
 rw [YG]
 split
 ·exact ha
 ·exact h j hj
theorem ah {α:Type} [Inhabited α] {P:α→Prop} {l:List α} {a:α} (h:∀ j,j<l.length→P (gi l j)) (ha:P a):∀ j,j<(l++[a]).length→P (gi (l++[a]) j):=fun j hj=>by
 rw [List.length_append] at hj
 have hj:j<l.length+1:=hj
 by_cases e:j<l.length
 ·rw [jq e];exact h j e
 ·obtain rfl:j=l.length:=by omega
  rw [bF];exact ha
theorem FP.mono {p:DY} {n m:Nat} (h:FP p n) (hm:n≤m):FP p m :=
 ⟨by have:=h.lb;omega,by have:=h.ln;omega,by have:=h.ls;omega,fun i hi=>by have:=h.bars i hi;omega,fun i hi=>by have:=h.notes i hi;omega,fun i hi=>⟨by have:=(h.sets i hi).1;omega,(h.sets i hi).2⟩⟩
theorem qo (p:DY) (n:Nat) (hn:n≤400000) (h:FP p n) (h0:0<p.bars.length) (K A:Nat) (B:Int) (hK:K<256) (hA:A<256) (hB:-128≤B∧B≤127) :
 ∃ q:DY,AQ env 25 [.agg (Enc.enc p),.agg (ET K A B)] (.p (.agg (Enc.enc q)))∧FP q (n+110000):=by
 have hm:=h.mono (show n≤n+110000 by omega)
 have l1:=h.lb
 have l2:=h.ln
 have l3:=h.ls
 obtain ⟨m1,m2,m3,m4,m5,m6⟩:=hm
 have s12:K % 12<12:=Nat.mod_lt _ (by decide)
 have same:AQ env 25 [.agg (Enc.enc p),.agg (ET K A B)] (.p (.agg (Dj p.bars p.bars.length p.notes p.notes.length p.sets p.sets.length)))→∃ q:DY,AQ env 25 [.agg (Enc.enc p),.agg (ET K A B)] (.p (.agg (Enc.enc q)))∧FP q (n+110000):=fun hv=>⟨p,hv,⟨m1,m2,m3,m4,m5,m6⟩⟩
 by_cases k0:K % 12=0
 ·exact same (nK p n hn h h0 K A B hK hA hB k0)
 by_cases k1:K % 12=1
 ·have c:=rE p n hn h h0 K A B hK hA hB k1
  have hx:A % p.bars.length<p.bars.length:=Nat.mod_lt _ h0
  have hbb:=h.bars (A % p.bars.length) hx
  refine ⟨(⟨p.bars.set (A % p.bars.length) (gi p.bars (A % p.bars.length)+B),p.notes,p.sets⟩:DY),?_,?_⟩
  ·exact Jr (Ij (nb:=p.bars.length) (nn:=p.notes.length) (ns:=p.sets.length) List.length_set rfl rfl) c
  ·exact ⟨by show (p.bars.set _ _).length≤_;rw [List.length_set];exact m1,m2,m3,Py (P:=fun b=>-((n+110000:Nat):Int)≤b∧b≤((n+110000:Nat):Int)) m4 (by omega),m5,m6⟩
 by_cases k2:K % 12=2
 ·have c:=tN p n hn h h0 K A B hK hA hB k2
  have hx:A % p.bars.length<p.bars.length:=Nat.mod_lt _ h0
  have hl:(p.bars.take (A % p.bars.length)).length=A % p.bars.length:=by rw [List.length_take];omega
  refine ⟨(⟨p.bars.take (A % p.bars.length),p.notes,p.sets⟩:DY),?_,?_⟩
  ·exact Jr (Ij (nb:=A % p.bars.length) (nn:=p.notes.length) (ns:=p.sets.length) hl rfl rfl) c
  ·refine ⟨by show (p.bars.take _).length≤_;rw [hl];omega,m2,m3,fun i hi=>?_,m5,m6⟩
   have hi:i<(p.bars.take (A % p.bars.length)).length:=hi
   have e:gi (p.bars.take (A % p.bars.length)) i=gi p.bars i:=by
    unfold gi;rw [List.getElem?_take,if_pos (by omega)]
   show _≤gi (p.bars.take (A % p.bars.length)) i∧gi (p.bars.take (A % p.bars.length)) i≤_
   rw [e]
   exact m4 i (by omega)
 by_cases k3:K % 12=3
 ·have c:=qG p n hn h h0 K A B hK hA hB k3
  have hl:=KF EU p.bars ((200+A % 4)-p.bars.length)
  have hb:=X3 h0 h.bars ((200+A % 4)-p.bars.length)
  refine ⟨(⟨Fb EU p.bars ((200+A % 4)-p.bars.length),p.notes,p.sets⟩:DY),c,⟨?_,m2,m3,fun i hi=>?_,m5,m6⟩⟩
  ·show (Fb EU p.bars ((200+A % 4)-p.bars.length)).length≤_
   omega
  ·have:=hb i hi
   show _≤gi (Fb EU p.bars ((200+A % 4)-p.bars.length)) i∧gi (Fb EU p.bars ((200+A % 4)-p.bars.length)) i≤_
   omega
 by_cases k4:K % 12=4
 ·have c:=pF p n hn h h0 K A B hK hA hB k4
  refine ⟨(⟨p.bars++[99998+((A % 5:Nat):Int)],p.notes,p.sets⟩:DY),?_,?_⟩
  ·exact Jr (Ij (nb:=p.bars.length+1) (nn:=p.notes.length) (ns:=p.sets.length) (by rw [List.length_append];rfl) rfl rfl) c
  ·exact ⟨by show (p.bars++_).length≤_;rw [List.length_append];show p.bars.length+1≤_;omega,m2,m3,ah (P:=fun b=>-((n+110000:Nat):Int)≤b∧b≤((n+110000:Nat):Int)) m4 (by omega),m5,m6⟩
 by_cases k5:K % 12=5
 ·have ok5:(⟨List.replicate (A % 5) 0,0,0⟩:Rgs).Ok:=by
   refine ⟨fun i hi=>?_,by show 0<_;decide,by show 0<_;decide,by show (List.replicate (A % 5) 0).length<_;rw [List.length_replicate];omega⟩
   show gi (List.replicate (A % 5) 0) i<_
   unfold gi;rw [List.getElem?_replicate];split<;>decide
  have c:AQ env 25 [.agg (Enc.enc p),.agg (ET K A B)] (.p (.agg (Dj p.bars p.bars.length p.notes p.notes.length (p.sets++[(⟨B,⟨List.replicate (A % 5) 0,0,0⟩⟩:IX)]) (p.sets.length+1)))):=by
   rcases Nat.eq_zero_or_pos p.sets.length with hz|hz
   ·exact mO p n hn h h0 hz K A B hK hA hB k5
   ·exact nC p n hn h h0 hz K A B hK hA hB k5
  refine ⟨(⟨p.bars,p.notes,p.sets++[(⟨B,⟨List.replicate (A % 5) 0,0,0⟩⟩:IX)]⟩:DY),?_,?_⟩
  ·exact Jr (Ij (nb:=p.bars.length) (nn:=p.notes.length) (ns:=p.sets.length+1) rfl rfl (by rw [List.length_append];rfl)) c
  ·exact ⟨m1,m2,by show (p.sets++_).length≤_;rw [List.length_append];show p.sets.length+1≤_;omega,m4,m5,ah (P:=fun s:IX=>(-((n+110000:Nat):Int)≤s.bar∧s.bar≤((n+110000:Nat):Int))∧s.reg.Ok) m6 ⟨by show _≤B∧B≤_;omega,ok5⟩⟩
 by_cases k67:K % 12=6∨K % 12=7
 ·rcases Nat.eq_zero_or_pos p.sets.length with hz|hz
  ·exact same (jR p n hn h h0 hz K A B hK hA hB k67)
  have hx:A % p.sets.length<p.sets.length:=Nat.mod_lt _ hz
  have hbb:=h.sets (A % p.sets.length) hx
  by_cases k6:K % 12=6
  ·have c:=qZ p n hn h h0 hz K A B hK hA hB k6
   refine ⟨(⟨p.bars,p.notes,p.sets.set (A % p.sets.length) (⟨(gi p.sets (A % p.sets.length)).bar+B,(gi p.sets (A % p.sets.length)).reg⟩:IX)⟩:DY),?_,?_⟩
   ·exact Jr (Ij (nb:=p.bars.length) (nn:=p.notes.length) (ns:=p.sets.length) rfl rfl List.length_set) c
   ·exact ⟨m1,m2,by show (p.sets.set _ _).length≤_;rw [List.length_set];exact m3,m4,m5,Py (P:=fun s:IX=>(-((n+110000:Nat):Int)≤s.bar∧s.bar≤((n+110000:Nat):Int))∧s.reg.Ok) m6 ⟨by show _≤(gi p.sets (A % p.sets.length)).bar+B∧(gi p.sets (A % p.sets.length)).bar+B≤_;omega,hbb.2⟩⟩
  ·have c:=su p n hn h h0 hz K A B hK hA hB (by omega)
   have p1:2 ^ (A % 64)<2 ^ 64:=Nat.pow_lt_pow_right (by omega) (Nat.mod_lt _ (by decide))
   have p2:(gi p.sets (A % p.sets.length)).reg.cp ||| 2 ^ (A % 64)<2 ^ 64:=Nat.or_lt_two_pow hbb.2.cp p1
   refine ⟨(⟨p.bars,p.notes,p.sets.set (A % p.sets.length) (⟨(gi p.sets (A % p.sets.length)).bar,⟨(gi p.sets (A % p.sets.length)).reg.stops,(gi p.sets (A % p.sets.length)).reg.cp ||| 2 ^ (A % 64),(gi p.sets (A % p.sets.length)).reg.off⟩⟩:IX)⟩:DY),?_,?_⟩
   ·exact Jr (Ij (nb:=p.bars.length) (nn:=p.notes.length) (ns:=p.sets.length) rfl rfl List.length_set) c
   ·exact ⟨m1,m2,by show (p.sets.set _ _).length≤_;rw [List.length_set];exact m3,m4,m5,Py (P:=fun s:IX=>(-((n+110000:Nat):Int)≤s.bar∧s.bar≤((n+110000:Nat):Int))∧s.reg.Ok) m6 ⟨by show _≤(gi p.sets (A % p.sets.length)).bar∧(gi p.sets (A % p.sets.length)).bar≤_;omega,⟨hbb.2.stops,p2,hbb.2.off,hbb.2.len⟩⟩⟩
 rcases Nat.eq_zero_or_pos p.notes.length with hz|hz
 ·exact same (lQ p n hn h h0 hz K A B hK hA hB (by omega))
 have hx:A % p.notes.length<p.notes.length:=Nat.mod_lt _ hz
 have hbb:=h.notes (A % p.notes.length) hx
 have fin:∀ y:Fg,((-((n+110000:Nat):Int)≤y.s∧y.s≤((n+110000:Nat):Int))∧(-((n+110000:Nat):Int)≤y.e∧y.e≤((n+110000:Nat):Int))∧(-((n+110000:Nat):Int)≤y.d∧y.d≤((n+110000:Nat):Int))∧(-((n+110000:Nat):Int)≤y.k∧y.k≤((n+110000:Nat):Int))) →
  AQ env 25 [.agg (Enc.enc p),.agg (ET K A B)] (.p (.agg (Dj p.bars p.bars.length (p.notes.set (A % p.notes.length) y) p.notes.length p.sets p.sets.length)))→∃ q:DY,AQ env 25 [.agg (Enc.enc p),.agg (ET K A B)] (.p (.agg (Enc.enc q)))∧FP q (n+110000):=fun y hy hv=>by
  refine ⟨⟨p.bars,p.notes.set (A % p.notes.length) y,p.sets⟩,?_,?_⟩
  ·exact Jr (Ij (nb:=p.bars.length) (nn:=p.notes.length) (ns:=p.sets.length) rfl List.length_set rfl) hv
  ·exact ⟨m1,by show (p.notes.set _ _).length≤_;rw [List.length_set];exact m2,m3,m4,Py (P:=fun y:Fg=>(-((n+110000:Nat):Int)≤y.s∧y.s≤((n+110000:Nat):Int))∧(-((n+110000:Nat):Int)≤y.e∧y.e≤((n+110000:Nat):Int))∧(-((n+110000:Nat):Int)≤y.d∧y.d≤((n+110000:Nat):Int))∧(-((n+110000:Nat):Int)≤y.k∧y.k≤((n+110000:Nat):Int))) m5 hy,m6⟩
 by_cases k8:K % 12=8
 ·exact fin _ (by dsimp only;omega) (qC p n hn h h0 hz K A B hK hA hB k8)
 by_cases k9:K % 12=9
 ·exact fin _ (by dsimp only;omega) (sO p n hn h h0 hz K A B hK hA hB k9)
 by_cases k10:K % 12=10
 ·exact fin _ (by dsimp only;omega) (kR p n hn h h0 hz K A B hK hA hB k10)
 ·exact fin _ (by dsimp only;omega) (kY p n hn h h0 hz K A B hK hA hB (by omega))
theorem Wn.bd {o:EN} {p:DY} (ho:UJ o) (h:Wn o p):FP p 100000:=by
 have b:=h.bars
 have n1:=h.notes
 have s1:=h.sets
 have d1:=ho.Au
 have f1:=(h.bar 0 (by omega)).1
 have f2:=(h.bar (p.bars.length-1) (by omega)).1
 refine ⟨by omega,by omega,by omega,fun i hi=>by have:=(h.bar i hi).1;omega,fun i hi=>?_,fun i hi=>⟨by have:=(h.set i hi).1;omega,h.sm.reg i hi⟩⟩
 obtain ⟨q1,q2,q3,_⟩:=h.note i hi
 have q4:=ho.cmp (i:=(gi p.notes i).d.toNat) (by omega)
 have e1:Ia p=gi p.bars 0:=rfl
 have e2:Iq p=gi p.bars (p.bars.length-1):=rfl
 omega
end Go.Proofs.YtnhdddmhkhdlhaaGreatDoor
namespace Go.Proofs.YtnhdddmhkhdlhaaGreatDoor
open Go Go.Am Go.Vm Go.Pie
attribute [local irreducible] Aa Af Ak Ad Bv AQ BN AV AP Az Vm.Done Cb BH
attribute [local irreducible] Dc BZ EL ES Gj BK Dz
theorem Qk (K A:Nat) (B:Int):ET K A B=[.int .u8 (K:Int),.int .u8 (A:Int),.int .i8 B]:=rfl
theorem QT (x:Y9) (hx:x.Ok) (K A:Nat) (B:Int) (hK:K<256) (hA:A<256) (hB:-128≤B∧B≤127) (K2 A2:Nat) (B2:Int) (hK2:K2<256) (hA2:A2<256) (hB2:-128≤B2∧B2≤127):AQ env 10 [.agg x.enc,.agg (ET K A B),.agg (ET K2 A2 B2)] (.p (.bool true)):=by
 have hkn:=cZ
 have hfit:=fD x hx
 by_cases hf:SA x
 case neg =>
  rw [decide_eq_false hf] at hfit
  unfold ET
  refine AQ.enter (Ar (by decide)) Tryz.func10 rfl (by kernel_rfl) (by simp [Tryz.ntmps10]) ?_
  repeat' (first|apply Ad.assoc|apply Ad.Aw|apply Ad.Bf|apply Af.nil|apply Af.one|(apply Af.take;rfl;rfl)|(apply Aa.fn;rfl;rfl;exact hkn;intro _;rfl)|(apply Aa.fn;rfl;rfl;exact hfit;intro _;rfl)|(apply Aa.assign;rfl)|(apply Aa.move;rfl)|(apply Aa.load;rfl;rfl)|(apply Aa.AB;rfl;rfl)|(apply Aa.box;rfl;trivial)|(apply Aa.not;rfl)|(apply Ad.Bq;rfl))
  all_goals first|(exfalso;omega)|contradiction|(refine Done.ret rfl (.refl _) (by exact PV.Ag rfl) Ap.nil (Nat.zero_le _) (Nat.le_refl _) ⟨?_,rfl,rfl⟩;try rfl)
 rw [decide_eq_true hf] at hfit
 have hm:=aI x hx hf
 have oT:=oH x.org hx.org hf.1
 have pK:=a1a x hx hf
 have hbd:=pK.bd oT.k
 have b2:=pK.bars
 generalize Y4 x.org=o at *
 generalize uf x=p at *
 obtain ⟨q0,hq,sq⟩:=qo p 100000 (by omega) hbd (by omega) K A B hK hA hB
 have lq:=sq.lb
 rcases Nat.eq_zero_or_pos q0.bars.length with hz|hz
 ·have sm:=sV (by omega) sq
  have hpc:=Ee o q0 oT.k.sm sm
  have hlc:=Td oT.k sm
  have hq2:I9 o q0=IV o q0:=by unfold I9;rw [if_neg (fun h=>h oT.k.err)]
  rw [hq2] at hpc
  by_cases e:IV o q0=0
  ·rw [e] at hpc hlc
   rw [Qk] at *
   refine AQ.enter (Ar (by decide)) Tryz.func10 rfl (by kernel_rfl) (by simp [Tryz.ntmps10]) ?_
   repeat' (first|apply Ad.assoc|apply Ad.Aw|apply Ad.Aq|apply Ad.Bf|apply Af.nil|apply Af.one|(apply Af.take;rfl;rfl)|(apply Aa.fn;rfl;rfl;exact hkn;intro _;rfl)|(apply Aa.fn;rfl;rfl;exact hfit;intro _;rfl)|(apply Aa.fn;rfl;rfl;exact hm;intro _;rfl)|(apply Aa.fn;rfl;rfl;exact hq;intro _;rfl)|(apply Aa.fn;rfl;rfl;exact hpc;intro _;rfl)|(apply Aa.fn;rfl;rfl;exact hlc;intro _;rfl)|(apply Aa.assign;rfl)|(apply Aa.move;rfl)|(apply Aa.int;rfl;rfl;rfl)|(apply Aa.load;rfl;rfl)|(apply Aa.AB;rfl;rfl)|(apply Aa.Bz;rfl;rfl)|(apply Aa.AA;rfl;rfl;rfl)|(apply Aa.box;rfl;trivial)|(apply Aa.alloc;rfl)|(apply Aa.AY;rfl;rfl;rfl;trivial;rfl;rfl;exact Ac rfl;exact le_dec rfl)|(apply Aa.not;rfl)|(apply Aa.extract;rfl;rfl)|(apply Ad.Bq;rfl)|(apply Ad.AU;rfl)|(apply Ad.Ae;rfl)|(intro _;try (exfalso;omega)))
   all_goals first|(exfalso;omega)|contradiction|(refine Done.ret rfl (.refl _) (by exact PV.Ag rfl) Ap.nil (Nat.zero_le _) (Nat.le_refl _) ⟨?_,rfl,rfl⟩;try rfl)
  ·have hE:I9 o q0≠0:=by rw [hq2];exact e
   have hat:YH o q0 0=IV o q0:=by unfold YH;rw [if_pos hE,hq2]
   have Yl:YH o q0 0≠0:=by rw [hat];exact e
   have f1:=Xv oT.k.sm sm 0 Yl
   have f2:=Nr oT.k.sm sm 0 Yl
   have f3:=Vk oT.k.sm sm 0 Yl
   have f4:=P6 oT.k.sm sm 0 Yl
   have f5:=Qr oT.k.sm hE sm
   have f6:=LW oT.k.sm hE sm 0
   have f7:=Xr oT.k.sm hE sm 0 1
   rw [hat] at f1 f2 f3 f4
   rw [hq2] at f5 f6 f7
   have z1:=xq
   have z2:=iD
   unfold bT at f6 f7 z2
   rw [Qk] at *
   generalize IV o q0=E at *
   refine AQ.enter (Ar (by decide)) Tryz.func10 rfl (by kernel_rfl) (by simp [Tryz.ntmps10]) ?_
   repeat' (first|apply Ad.assoc|apply Ad.Aw|apply Ad.Aq|apply Ad.ret|apply Af.nil|apply Af.one|(apply Af.take;rfl;rfl)|(apply Af.guard;rfl;rfl)|(apply Aa.fn;rfl;rfl;exact hkn;intro _;rfl)|(apply Aa.fn;rfl;rfl;exact hfit;intro _;rfl)|(apply Aa.fn;rfl;rfl;exact hm;intro _;rfl)|(apply Aa.fn;rfl;rfl;exact hq;intro _;rfl)|(apply Aa.fn;rfl;rfl;exact hpc;intro _;rfl)|(apply Aa.fn;rfl;rfl;exact hlc;intro _;rfl)|(apply Aa.fn;rfl;rfl;exact f1;intro _;rfl)|(apply Aa.fn;rfl;rfl;exact f2;intro _;rfl)|(apply Aa.fn;rfl;rfl;exact f3;intro _;rfl)|(apply Aa.fn;rfl;rfl;exact f4;intro _;rfl)|(apply Aa.fn;rfl;rfl;exact f5;intro _;rfl)|(apply Aa.fn;rfl;rfl;exact f6;intro _;rfl)|(apply Aa.fn;rfl;rfl;exact f7;intro _;rfl)|(apply Aa.fn;rfl;rfl;exact z1;intro _;rfl)|(apply Aa.fn;rfl;rfl;exact z2;intro _;rfl)|(apply Aa.assign;rfl)|(apply Aa.move;rfl)|(apply Aa.BD;rfl;rfl;omega)|(apply Aa.int;rfl;rfl;rfl)|(apply Aa.load;rfl;rfl)|(apply Aa.AZ;rfl;rfl)|(apply Aa.AB;rfl;rfl)|(apply Aa.Bz;rfl;rfl)|(apply Aa.rG;rfl;rfl)|(apply Aa.AA;rfl;rfl;rfl)|(apply Aa.box;rfl;trivial)|(apply Aa.alloc;rfl)|(apply Aa.AY;rfl;rfl;rfl;trivial;rfl;rfl;exact Ac rfl;exact le_dec rfl)|(apply Aa.build;rfl;rfl;rfl;rfl;rfl)|(apply Aa.not;rfl)|(apply Aa.extract;rfl;rfl)|(apply Ad.AU;rfl)|(apply Ad.Ae;rfl)|(intro _;try (exfalso;omega)))
   all_goals first|(exfalso;omega)|contradiction|(refine Done.ret rfl (.refl _) (by exact PV.Ag rfl) Ap.nil (Nat.zero_le _) (Nat.le_refl _) ⟨?_,rfl,rfl⟩;try rfl)
 ·obtain ⟨r,hr,sr⟩:=qo q0 210000 (by omega) sq hz K2 A2 B2 hK2 hA2 hB2
  have sm:=sV (by omega) sr
  have hpc:=Ee o r oT.k.sm sm
  have hlc:=Td oT.k sm
  have hq2:I9 o r=IV o r:=by unfold I9;rw [if_neg (fun h=>h oT.k.err)]
  rw [hq2] at hpc
  by_cases e:IV o r=0
  ·rw [e] at hpc hlc
   rw [Qk] at *
   refine AQ.enter (Ar (by decide)) Tryz.func10 rfl (by kernel_rfl) (by simp [Tryz.ntmps10]) ?_
   repeat' (first|apply Ad.assoc|apply Ad.Aw|apply Ad.Aq|apply Ad.Bf|apply Af.nil|apply Af.one|(apply Af.take;rfl;rfl)|(apply Aa.fn;rfl;rfl;exact hkn;intro _;rfl)|(apply Aa.fn;rfl;rfl;exact hfit;intro _;rfl)|(apply Aa.fn;rfl;rfl;exact hm;intro _;rfl)|(apply Aa.fn;rfl;rfl;exact hq;intro _;rfl)|(apply Aa.fn;rfl;rfl;exact hr;intro _;rfl)|(apply Aa.fn;rfl;rfl;exact hpc;intro _;rfl)|(apply Aa.fn;rfl;rfl;exact hlc;intro _;rfl)|(apply Aa.assign;rfl)|(apply Aa.move;rfl)|(apply Aa.int;rfl;rfl;rfl)|(apply Aa.load;rfl;rfl)|(apply Aa.AB;rfl;rfl)|(apply Aa.Bz;rfl;rfl)|(apply Aa.AA;rfl;rfl;rfl)|(apply Aa.box;rfl;trivial)|(apply Aa.alloc;rfl)|(apply Aa.AY;rfl;rfl;rfl;trivial;rfl;rfl;exact Ac rfl;exact le_dec rfl)|(apply Aa.not;rfl)|(apply Aa.extract;rfl;rfl)|(apply Ad.Bq;rfl)|(apply Ad.AU;rfl)|(apply Ad.Ae;rfl)|(intro _;try (exfalso;omega)))
   all_goals first|(exfalso;omega)|contradiction|(refine Done.ret rfl (.refl _) (by exact PV.Ag rfl) Ap.nil (Nat.zero_le _) (Nat.le_refl _) ⟨?_,rfl,rfl⟩;try rfl)
  ·have hE:I9 o r≠0:=by rw [hq2];exact e
   have hat:YH o r 0=IV o r:=by unfold YH;rw [if_pos hE,hq2]
   have Yl:YH o r 0≠0:=by rw [hat];exact e
   have f1:=Xv oT.k.sm sm 0 Yl
   have f2:=Nr oT.k.sm sm 0 Yl
   have f3:=Vk oT.k.sm sm 0 Yl
   have f4:=P6 oT.k.sm sm 0 Yl
   have f5:=Qr oT.k.sm hE sm
   have f6:=LW oT.k.sm hE sm 0
   have f7:=Xr oT.k.sm hE sm 0 1
   rw [hat] at f1 f2 f3 f4
   rw [hq2] at f5 f6 f7
   have z1:=xq
   have z2:=iD
   unfold bT at f6 f7 z2
   rw [Qk] at *
   generalize IV o r=E at *
   refine AQ.enter (Ar (by decide)) Tryz.func10 rfl (by kernel_rfl) (by simp [Tryz.ntmps10]) ?_
   repeat' (first|apply Ad.assoc|apply Ad.Aw|apply Ad.Aq|apply Ad.ret|apply Af.nil|apply Af.one|(apply Af.take;rfl;rfl)|(apply Af.guard;rfl;rfl)|(apply Aa.fn;rfl;rfl;exact hkn;intro _;rfl)|(apply Aa.fn;rfl;rfl;exact hfit;intro _;rfl)|(apply Aa.fn;rfl;rfl;exact hm;intro _;rfl)|(apply Aa.fn;rfl;rfl;exact hq;intro _;rfl)|(apply Aa.fn;rfl;rfl;exact hr;intro _;rfl)|(apply Aa.fn;rfl;rfl;exact hpc;intro _;rfl)|(apply Aa.fn;rfl;rfl;exact hlc;intro _;rfl)|(apply Aa.fn;rfl;rfl;exact f1;intro _;rfl)|(apply Aa.fn;rfl;rfl;exact f2;intro _;rfl)|(apply Aa.fn;rfl;rfl;exact f3;intro _;rfl)|(apply Aa.fn;rfl;rfl;exact f4;intro _;rfl)|(apply Aa.fn;rfl;rfl;exact f5;intro _;rfl)|(apply Aa.fn;rfl;rfl;exact f6;intro _;rfl)|(apply Aa.fn;rfl;rfl;exact f7;intro _;rfl)|(apply Aa.fn;rfl;rfl;exact z1;intro _;rfl)|(apply Aa.fn;rfl;rfl;exact z2;intro _;rfl)|(apply Aa.assign;rfl)|(apply Aa.move;rfl)|(apply Aa.BD;rfl;rfl;omega)|(apply Aa.int;rfl;rfl;rfl)|(apply Aa.load;rfl;rfl)|(apply Aa.AZ;rfl;rfl)|(apply Aa.AB;rfl;rfl)|(apply Aa.Bz;rfl;rfl)|(apply Aa.rG;rfl;rfl)|(apply Aa.AA;rfl;rfl;rfl)|(apply Aa.box;rfl;trivial)|(apply Aa.alloc;rfl)|(apply Aa.AY;rfl;rfl;rfl;trivial;rfl;rfl;exact Ac rfl;exact le_dec rfl)|(apply Aa.build;rfl;rfl;rfl;rfl;rfl)|(apply Aa.not;rfl)|(apply Aa.extract;rfl;rfl)|(apply Ad.AU;rfl)|(apply Ad.Ae;rfl)|(intro _;try (exfalso;omega)))
   all_goals first|(exfalso;omega)|contradiction|(refine Done.ret rfl (.refl _) (by exact PV.Ag rfl) Ap.nil (Nat.zero_le _) (Nat.le_refl _) ⟨?_,rfl,rfl⟩;try rfl)
end Go.Proofs.YtnhdddmhkhdlhaaGreatDoor
