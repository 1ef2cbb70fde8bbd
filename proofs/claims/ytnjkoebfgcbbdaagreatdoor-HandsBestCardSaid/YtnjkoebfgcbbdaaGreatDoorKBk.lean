/-
  Texts of a proof, merged (OrE, VmG, OrN, TraE, PieA, PieP, Vm31, Vm36, Vm32, Vm33, Vm34, Vm37, Vm38, Vm40, Vm41, Vm42). Conditions: in each statement.
-/
import Derived.Lib.SlicesCompact
import Derived.Test.YtnjkoebfgcbbdaaGreatDoorKBj
set_option linter.unusedSimpArgs false
set_option linter.unusedVariables false
set_option linter.unusedSectionVars false
set_option maxRecDepth 100000
set_option maxHeartbeats 8000000
abbrev bm:=@List.map_append
abbrev bR:=@List.mem_iff_getElem
abbrev cG:=@List.map_set
abbrev cS:=@Decidable.byContradiction
abbrev cT:=@List.pairwise_iff_getElem
abbrev eK:=@List.set_cons_succ
abbrev eW:=@List.drop_of_length_le
abbrev fp:=@List.pairwise_append
abbrev gc:=@List.mem_take_iff_getElem
abbrev gt:=@List.pairwise_singleton
namespace Go.Proofs.YtnjkoebfgcbbdaaGreatDoor
open Go Go.Am Go.Vm
attribute [local irreducible] Aa Ai Ag Ad AO Ap Bc BK Bh Ah Vm.Done Bv AB
attribute [local irreducible] Ce Ba DX DJ En
theorem TP {α:Type} [Inhabited α] (f:α→List UInt8) {l:List α} {k:Nat} (hk:k<l.length):(l.take (k+1)).map f=(l.take k).map f++[f (gi l k)]:=by
 rw [DZ hk,bm];rfl
theorem SV {L:Vm.Frame} {H:Vm.Heap} {nx:Nat} {Q:PV→Vm.Heap→Nat→Prop} {dst:Option Tmp} {ty:TypeId} {pos:String} {af:Array Edge} {gd:Option (Nat×Bool)} {fo:Operand} {args:Array Operand} {aT:Array TypeId} {fs cs xs:List PV} {c:Code}
 (hf:AU env.Γ L fo=some (.clo 119 fs cs)) (ha:evs env.Γ L args.toList=some xs) (hb:Tryz.f119.body=some c) (hn:(fs++xs++cs).length≤Tryz.f119.ntmps)
 (h:Ad env nx c (Ci 0 (fs++xs++cs)) H nx (AB env.P Tryz.f119.results.toList Q)):Aa env true ⟨dst,.call { callee:=.value fo,args:=args,argTypes:=aT },ty,pos,af,gd⟩ L H nx Q:=by
 have h0:(match Tryz.f119.body with|some c=>IJ env.G Tryz.f119 c|none=>false)=true:=by kernel_rfl
 rw [hb] at h0;exact Aa.inline rfl hf ha (Af (by decide)) Tryz.func119 hb h0 hn h
theorem fK (o:Ic) (d:oh) (ho:Vh o) (hd:b5y d):Ap env 120 [.agg (Enc.enc o),.agg (Enc.enc d)] (.p (.int .i64 (DJ o.ranks d))):=by
 have hc:=ZJ d.lo d.hi;obtain ⟨d1,d2,d3⟩:=hd;unfold DJ;refine Ap.enter (Af (by decide)) Tryz.func120 rfl (by kernel_rfl) (by simp [Tryz.ntmps120]) ?_;by_cases h0:Yn d.lo d.hi=0
 case neg =>
  rw [if_pos h0]
  repeat' (first|(apply Aa.fn;rfl;rfl;exact hc;intro _;rfl)|refine go1 ?_|(apply Aa.int;rfl;rfl;rfl)|(apply Ad.Ac;rfl)|(intro _;try (exfalso;omega)))
  all_goals first|(exfalso;omega)|(refine Done.rt rfl rfl ⟨?_,rfl,rfl⟩;try rfl)
 rw [h0] at hc ⊢;rw [if_neg (by decide)]
 repeat' (first|(apply Aa.fn;rfl;rfl;exact hc;intro _;rfl)|(apply Aa.makeMap)|refine go1 ?_|(apply Aa.int;rfl;rfl;rfl)|(apply Ad.Ak;rfl)|(apply Ad.Ac;rfl)|(intro _;try (exfalso;omega)))
 all_goals try contradiction
 ·rw [if_pos (by omega)];(refine Done.rt rfl rfl ⟨?_,rfl,rfl⟩;try rfl)
 rw [if_neg (by omega)];refine Ad.DL (fun k:Nat=>[(2,.ref 0 0),(3,.ref 1 0),(6,.mref 2),(23,lst 229 d.stops),(24,.p (.int .i64 (d.stops.length:Int))),(25,.p (.int .i64 (k:Int)))]) (fun k=>[(2,.map (Nz ((d.stops.take k).map Stp.name))),(1,.box 118 ((Enc.enc d).map .p)),(0,.box 27 ((Enc.enc o).map .p))]) 3 (fun k=>k≤d.stops.length∧Sr o.ranks d.lo d.hi d.stops k=Sr o.ranks d.lo d.hi d.stops 0) (fun k=>d.stops.length-k) 0 (by omega) ⟨by omega,rfl⟩ ⟨by omega,?_,?_⟩ ?_
 ·exact C9
 ·exact DR
 rintro k ⟨hk,hE⟩;rw [← hE];by_cases hkl:k<d.stops.length
 case neg =>
  rw [Sr,if_neg hkl]
  repeat' (first|refine Eu ?_|(apply Ad.Ac;rfl)|(intro _;try (exfalso;omega)))
  all_goals first|(exfalso;omega)|(refine Done.rt rfl rfl ⟨?_,rfl,rfl⟩;try rfl)
 rw [Sr,if_pos hkl];have hst:=a4u o.ranks d.lo d.hi (gi d.stops k) ho.ranks ho.rk (d3 k hkl);by_cases h1:DX o.ranks d.lo d.hi (gi d.stops k)=0
 case neg =>
  rw [if_pos h1]
  repeat' (first|(apply Aa.fn;rfl;rfl;exact hst;intro _;rfl)|(apply Aa.Aj;rfl;rfl;rfl;omega;rfl)|refine go1 ?_|(apply Aa.int;rfl;rfl;rfl)|(apply Aa.build;rfl;rfl;rfl;rfl;rfl)|(apply Ad.Ac;rfl)|(intro _;try (exfalso;omega)))
  all_goals first|(exfalso;omega)|contradiction|(refine Done.rt rfl rfl ⟨?_,rfl,rfl⟩;try rfl)
 rw [h1] at hst ⊢;rw [if_neg (by decide)];by_cases h2:(gi d.stops k).name∈(d.stops.take k).map Stp.name
 ·rw [if_pos h2]
  repeat' (first|(apply Aa.fn;rfl;rfl;exact hst;intro _;rfl)|(apply SV;rfl;rfl;rfl;exact le_dec rfl)|(apply Aa.Aj;rfl;rfl;rfl;omega;rfl)|refine go1 ?_|(apply AB.ret;rfl)|(apply Aa.Jy;rfl;rfl;rfl;rfl;rfl;rfl)|(apply Aa.int;rfl;rfl;rfl)|(apply Aa.build;rfl;rfl;rfl;rfl;rfl)|(apply Ad.Ak;rfl)|(apply Ad.Ac;rfl)|(apply Ad.cond_true;rfl)|(intro _;try (exfalso;omega)))
  all_goals first|(exfalso;omega)|contradiction|(refine Done.rt rfl rfl ⟨?_,rfl,rfl⟩;try rfl)
 ·rw [if_neg h2]
  repeat' (first|(apply Aa.fn;rfl;rfl;exact hst;intro _;rfl)|(apply SV;rfl;rfl;rfl;exact le_dec rfl)|(apply Aa.mg;rfl;rfl;rfl;rfl;rfl;rfl;exact h2)|(apply Aa.Aj;rfl;rfl;rfl;omega;rfl)|refine go1 ?_|(apply AB.ret;rfl)|(apply Aa.Jy;rfl;rfl;rfl;rfl;rfl;rfl)|(apply Aa.int;rfl;rfl;rfl)|(apply Aa.build;rfl;rfl;rfl;rfl;rfl)|(apply Ad.Ak;rfl)|(apply Ad.Ac;rfl)|(apply Ad.cond_true;rfl)|(apply Ad.cond_false;rfl)|(intro _;try (exfalso;omega)))
  all_goals try (exfalso;omega)
  all_goals try contradiction
  refine Ah.normal ⟨k+1,⟨by omega,?_⟩,by omega,⟨by omega,?_,?_⟩⟩
  ·first|rfl|(refine er ?_ hE;symm;(conv=>lhs;rw [Sr]);rw [if_pos hkl,if_neg (fun h=>h h1),if_neg h2])
  ·exact C9
  ·rw [TP Stp.name hkl];exact DR
theorem XM (o:Ic) (ho:Vh o):Ap env 78 [.agg (Enc.enc o)] (.p (.int .i64 (WU o))):=by
 have hn:=IC o.name (by have:=ho.name;omega);have b1:=ho.ranks;have b2:=ho.Ae;unfold WU;refine Ap.enter (Af (by decide)) Tryz.func78 rfl (by kernel_rfl) (by simp [Tryz.ntmps78]) ?_;by_cases h0:DF o.name
 case neg =>
  rw [if_pos h0];rw [decide_eq_false h0] at hn
  repeat' (first|(apply Aa.fn;rfl;rfl;exact hn;intro _;rfl)|refine go1 ?_|(apply Ad.cond_true;rfl))
  all_goals first|(exfalso;omega)|contradiction|(refine Done.rt rfl rfl ⟨?_,rfl,rfl⟩;try rfl)
 rw [if_neg (fun h=>h h0)];rw [decide_eq_true h0] at hn
 repeat' (first|(apply Aa.fn;rfl;rfl;exact hn;intro _;rfl)|(apply Aa.makeMap)|refine go1 ?_|(apply Aa.int;rfl;rfl;rfl)|(apply Ad.cond_false;rfl)|(apply Ad.Aq;rfl)|(intro _;try (exfalso;omega)))
 all_goals try contradiction
 ·rw [if_pos (by omega)];(refine Done.rt rfl rfl ⟨?_,rfl,rfl⟩;try rfl)
 rw [if_neg (by omega)];refine Ad.DL (fun k:Nat=>[(1,.ref 0 0),(3,.mref 1),(25,lst 113 o.ranks),(26,.p (.int .i64 (o.ranks.length:Int))),(27,.p (.int .i64 (k:Int)))]) (fun k=>[(1,.map (Nz ((o.ranks.take k).map Hu.name))),(0,.box 27 ((Enc.enc o).map .p))]) 2 (fun k=>k≤o.ranks.length∧Qd o.ranks k=Qd o.ranks 0) (fun k=>o.ranks.length-k) 0 (by omega) ⟨by omega,rfl⟩ ⟨by omega,?_,?_⟩ ?_
 ·exact C9
 ·exact DR
 rintro k ⟨hk,hE⟩;by_cases hkl:k<o.ranks.length
 ·have hsm:=(ho.rk k hkl).len
  have hc:=Xl (gi o.ranks k) hsm.1 hsm.2.1 hsm.2.2;by_cases h1:Ce (gi o.ranks k)=0
  case neg =>
   have e:Qd o.ranks 0=Ce (gi o.ranks k):=by rw [← hE,Qd,if_pos hkl,if_pos h1]
   rw [e,if_pos h1]
   repeat' (first|(apply Aa.fn;rfl;rfl;exact hc;intro _;rfl)|(apply Aa.Aj;rfl;rfl;rfl;omega;rfl)|refine go1 ?_|(apply Aa.int;rfl;rfl;rfl)|(apply Ad.Ac;rfl)|(intro _;try (exfalso;omega)))
   all_goals first|(exfalso;omega)|contradiction|(refine Done.rt rfl rfl ⟨?_,rfl,rfl⟩;try rfl)
  rw [h1] at hc;by_cases h2:(gi o.ranks k).name∈(o.ranks.take k).map Hu.name
  ·have e:Qd o.ranks 0=9:=by rw [← hE,Qd,if_pos hkl,if_neg (fun h=>h h1),if_pos h2]
   rw [e,if_pos (by decide)]
   repeat' (first|(apply Aa.fn;rfl;rfl;exact hc;intro _;rfl)|(apply SV;rfl;rfl;rfl;exact le_dec rfl)|(apply Aa.Aj;rfl;rfl;rfl;omega;rfl)|refine go1 ?_|(apply AB.ret;rfl)|(apply Aa.Jy;rfl;rfl;rfl;rfl;rfl;rfl)|(apply Aa.int;rfl;rfl;rfl)|(apply Ad.Ak;rfl)|(apply Ad.Ac;rfl)|(apply Ad.cond_true;rfl)|(intro _;try (exfalso;omega)))
   all_goals first|(exfalso;omega)|contradiction|(refine Done.rt rfl rfl ⟨?_,rfl,rfl⟩;try rfl)
  ·repeat' (first|(apply Aa.fn;rfl;rfl;exact hc;intro _;rfl)|(apply SV;rfl;rfl;rfl;exact le_dec rfl)|(apply Aa.mg;rfl;rfl;rfl;rfl;rfl;rfl;exact h2)|(apply Aa.Aj;rfl;rfl;rfl;omega;rfl)|refine go1 ?_|(apply AB.ret;rfl)|(apply Aa.Jy;rfl;rfl;rfl;rfl;rfl;rfl)|(apply Aa.int;rfl;rfl;rfl)|(apply Ad.Ak;rfl)|(apply Ad.Ac;rfl)|(apply Ad.cond_true;rfl)|(apply Ad.cond_false;rfl)|(intro _;try (exfalso;omega)))
   all_goals try (exfalso;omega)
   all_goals try contradiction
   refine Ah.normal ⟨k+1,⟨by omega,?_⟩,by omega,⟨by omega,?_,?_⟩⟩
   ·first|rfl|(refine er ?_ hE;symm;(conv=>lhs;rw [Qd]);rw [if_pos hkl,if_neg (fun h=>h h1),if_neg h2])
   ·exact C9
   ·rw [TP Hu.name hkl];exact DR
 obtain rfl:k=o.ranks.length:=by omega
 have e:Qd o.ranks 0=0:=by rw [← hE,Qd,if_neg (by omega)]
 rw [if_neg (fun h=>h e)]
 repeat' (first|(apply Aa.makeMap)|refine Ij ?_|(apply Aa.int;rfl;rfl;rfl)|(apply Ad.Ac;rfl)|(apply Ad.Aq;rfl)|(intro _;try (exfalso;omega)))
 all_goals try (exfalso;omega)
 ·rw [if_pos (by omega)];(refine Done.rt rfl rfl ⟨?_,rfl,rfl⟩;try rfl)
 ·rw [if_neg (by omega),if_pos (by omega)];(refine Done.rt rfl rfl ⟨?_,rfl,rfl⟩;try rfl)
 rw [if_neg (by omega),if_neg (by omega)];refine Ad.ghost (Aw.adopt 8 115 rfl) ?_;refine Ad.DL (fun k:Nat=>[(1,.ref 0 0),(3,.mref 2),(8,.vec 3 ((o.Ae.take k).map fun d=>(⟨d.lo,d.hi⟩:oq)).length 0 ((o.Ae.take k).map fun d=>(⟨d.lo,d.hi⟩:oq)).length),(56,lst 118 o.Ae),(57,.p (.int .i64 (o.Ae.length:Int))),(58,.p (.int .i64 (k:Int)))]) (fun k=>[(3,.vec 115 (cells ((o.Ae.take k).map fun d=>(⟨d.lo,d.hi⟩:oq))) ((o.Ae.take k).map fun d=>(⟨d.lo,d.hi⟩:oq)).length true),(2,.map (Nz ((o.Ae.take k).map oh.name))),(0,.box 27 ((Enc.enc o).map .p))]) 4 (fun k=>k≤o.Ae.length∧Gt o.ranks o.Ae k=Gt o.ranks o.Ae 0) (fun k=>o.Ae.length-k) 0 (by omega) ⟨by omega,rfl⟩ ⟨by omega,?_,?_⟩ ?_
 ·exact C9
 ·exact DR
 rintro k ⟨hk,hE⟩;have hlen:((o.Ae.take k).map fun d=>(⟨d.lo,d.hi⟩:oq)).length=k:=by rw [bk,az];omega
 by_cases hkl:k<o.Ae.length
 ·have hds:=ho.dv k hkl
  have hdn:=IC (gi o.Ae k).name (by have:=hds.name;omega);have hdv:=fK o (gi o.Ae k) ho hds;by_cases h1:DF (gi o.Ae k).name
  case neg =>
   have e2:Gt o.ranks o.Ae 0=8:=by rw [← hE,Gt,if_pos hkl,if_pos h1]
   rw [e2,if_pos (by decide)];rw [decide_eq_false h1] at hdn
   repeat' (first|(apply Aa.fn;rfl;rfl;exact hdn;intro _;rfl)|(apply Aa.Aj;rfl;rfl;rfl;omega;rfl)|refine go1 ?_|(apply Aa.int;rfl;rfl;rfl)|(apply Ad.AX;rfl)|(apply Ad.Ac;rfl)|(intro _;try (exfalso;omega)))
   all_goals first|(exfalso;omega)|contradiction|(refine Done.rt rfl rfl ⟨?_,rfl,rfl⟩;try rfl)
  rw [decide_eq_true h1] at hdn;by_cases h2:(gi o.Ae k).name∈(o.Ae.take k).map oh.name
  ·have e2:Gt o.ranks o.Ae 0=9:=by rw [← hE,Gt,if_pos hkl,if_neg (fun h=>h h1),if_pos h2]
   rw [e2,if_pos (by decide)]
   repeat' (first|(apply Aa.fn;rfl;rfl;exact hdn;intro _;rfl)|(apply SV;rfl;rfl;rfl;exact le_dec rfl)|(apply Aa.Aj;rfl;rfl;rfl;omega;rfl)|refine go1 ?_|(apply AB.ret;rfl)|(apply Aa.Jy;rfl;rfl;rfl;rfl;rfl;rfl)|(apply Aa.int;rfl;rfl;rfl)|(apply Ad.AX;rfl)|(apply Ad.Ak;rfl)|(apply Ad.Ac;rfl)|(intro _;try (exfalso;omega)))
   all_goals first|(exfalso;omega)|contradiction|(refine Done.rt rfl rfl ⟨?_,rfl,rfl⟩;try rfl)
  by_cases h3:DJ o.ranks (gi o.Ae k)=0
  case neg =>
   have e2:Gt o.ranks o.Ae 0=DJ o.ranks (gi o.Ae k):=by rw [← hE,Gt,if_pos hkl,if_neg (fun h=>h h1),if_neg h2,if_pos h3]
   rw [e2,if_pos h3]
   repeat' (first|(apply Aa.fn;rfl;rfl;exact hdn;intro _;rfl)|(apply Aa.fn;rfl;rfl;exact hdv;intro _;rfl)|(apply SV;rfl;rfl;rfl;exact le_dec rfl)|(apply Aa.mg;rfl;rfl;rfl;rfl;rfl;rfl;exact h2)|(apply Aa.Aj;rfl;rfl;rfl;omega;rfl)|refine go1 ?_|(apply AB.ret;rfl)|(apply Aa.Jy;rfl;rfl;rfl;rfl;rfl;rfl)|(apply Aa.int;rfl;rfl;rfl)|(apply Ad.AX;rfl)|(apply Ad.Ak;rfl)|(apply Ad.Ac;rfl)|(intro _;try (exfalso;omega)))
   all_goals first|(exfalso;omega)|contradiction|(refine Done.rt rfl rfl ⟨?_,rfl,rfl⟩;try rfl)
  rw [h3] at hdv;have e5:((o.Ae.take (k+1)).map fun d=>(⟨d.lo,d.hi⟩:oq))=((o.Ae.take k).map fun d=>(⟨d.lo,d.hi⟩:oq))++[⟨(gi o.Ae k).lo,(gi o.Ae k).hi⟩]:=by rw [DZ hkl,bm];rfl
  have e6:((o.Ae.take (k+1)).map fun d=>(⟨d.lo,d.hi⟩:oq)).length=((o.Ae.take k).map fun d=>(⟨d.lo,d.hi⟩:oq)).length+1:=by rw [e5,ar];rfl
  repeat' (first|(apply Aa.fn;rfl;rfl;exact hdn;intro _;rfl)|(apply Aa.fn;rfl;rfl;exact hdv;intro _;rfl)|(apply Aa.CW (a:=(⟨(gi o.Ae k).lo,(gi o.Ae k).hi⟩:oq));rfl;rfl;rfl;rfl;rfl;rfl;rfl;rfl;(intro _ h;cases h);rfl;rfl;rfl;decide;decide;(first|omega|(simp only [List.length_take,List.length_drop,List.length_append,List.length_singleton,List.length_cons,List.length_nil]<;>omega)))|(apply SV;rfl;rfl;rfl;exact le_dec rfl)|(apply Aa.mg;rfl;rfl;rfl;rfl;rfl;rfl;exact h2)|(apply Aa.Aj;rfl;rfl;rfl;omega;rfl)|refine go1 ?_|(apply AB.ret;rfl)|(apply Aa.Jy;rfl;rfl;rfl;rfl;rfl;rfl)|(apply Aa.int;rfl;rfl;rfl)|(apply Aa.buildSlice;rfl;rfl;rfl;decide;rfl;rfl;rfl)|(apply Ad.AX;rfl)|(apply Ad.Ak;rfl)|(apply Ad.Ac;rfl)|(intro _;try (exfalso;omega)))
  all_goals try (exfalso;omega)
  all_goals try contradiction
  refine Ah.normal ⟨k+1,⟨by omega,?_⟩,by omega,⟨by omega,?_,?_⟩⟩
  ·first|rfl|(refine er ?_ hE;symm;(conv=>lhs;rw [Gt]);rw [if_pos hkl,if_neg (fun h=>h h1),if_neg h2,if_neg (fun h=>h h3)])
  ·rw [e6];exact C9
  ·rw [e6,e5,TP oh.name hkl];exact DR
 obtain rfl:k=o.Ae.length:=by omega
 have e2:Gt o.ranks o.Ae 0=0:=by rw [← hE,Gt,if_neg (by omega)]
 rw [if_neg (fun h=>h e2)];have et:o.Ae.take o.Ae.length=o.Ae:=dj (ab _);have hcp:=mX (o.Ae.map fun d=>(⟨d.lo,d.hi⟩:oq)) o.I8 (by rw [bk];exact b2) ho.I8 ho.cp;rw [et]
 repeat' (first|(refine Ad.at 35 ?_;refine Ad.ghost (Aw.freeze 8 rfl rfl) ?_;first|apply Ad.BD|apply Ad.Cj)|apply Ad.BD|(apply Aa.fn;rfl;rfl;exact hcp;intro _;rfl)|refine go2 ?_|(apply Aa.int;rfl;rfl;rfl)|(apply Ad.Ac;rfl)|(intro _;try (exfalso;omega)))
 all_goals first|(exfalso;omega)|(refine Done.rt rfl rfl ⟨?_,rfl,rfl⟩;try rfl)
end Go.Proofs.YtnjkoebfgcbbdaaGreatDoor
namespace Go.Vm
section
open Go.Am
variable {E:Env} {bn:Nat} {L:Frame} {H:Heap} {nx:Nat} {Q:BL→Frame→Heap→Nat→Prop} {b:Code}
theorem Ad.F5 (n:Nat) (L0:Frame) (H0:Heap) (Lf:Nat→Frame→Frame) (Hf:Nat→Heap→Heap) (Dp:Nat) (hb:bn≤Dp) (hn:Dp≤nx) (h1:Gj Dp (Lf 0 L0) L) (h2:BI Dp (Hf 0 H0) H)
 (hs:∀ k,k<n→Ad E bn b (Lf k L0) (Hf k H0) Dp (Ah (fun L' H' nx'=>Dp≤nx'∧Gj Dp (Lf (k+1) L0) L'∧BI Dp (Hf (k+1) H0) H') Q))
 (he:Ad E bn b (Lf n L0) (Hf n H0) Dp (Ah (fun _ _ _=>False) Q)):Ad E bn (.loop b) L H nx Q :=
 Ad.DL (fun k=>Lf k L0) (fun k=>Hf k H0) Dp (fun k=>k≤n) (fun k=>n-k) 0 hb (ao _) ⟨hn,h1,h2⟩ fun k hk=>by
  rcases an k n with h|h
  ·refine (hs k h).mono fun e L' H' nx' q=>?_
   cases e with
   |normal=>exact ⟨k+1,h,by omega,⟨q.1,q.2.1,q.2.2⟩⟩
   |ret=>exact q
   |exit i=>exact q
  grind
theorem Ad.Ht (n:Nat) (inv:Nat→Prop) (L0:Frame) (H0:Heap) (Lf:Nat→Frame→Frame) (Hf:Nat→Heap→Heap) (Dp:Nat) (hb:bn≤Dp) (hn:Dp≤nx) (h1:Gj Dp (Lf 0 L0) L) (h2:BI Dp (Hf 0 H0) H) (h0:inv 0)
 (hs:∀ k,k<n→inv k→Ad E bn b (Lf k L0) (Hf k H0) Dp (Ah (fun L' H' nx'=>inv (k+1)∧Dp≤nx'∧Gj Dp (Lf (k+1) L0) L'∧BI Dp (Hf (k+1) H0) H') Q))
 (he:inv n→Ad E bn b (Lf n L0) (Hf n H0) Dp (Ah (fun _ _ _=>False) Q)):Ad E bn (.loop b) L H nx Q :=
 Ad.DL (fun k=>Lf k L0) (fun k=>Hf k H0) Dp (fun k=>k≤n∧inv k) (fun k=>n-k) 0 hb ⟨ao _,h0⟩ ⟨hn,h1,h2⟩ fun k hk=>by
  obtain ⟨hk,hi⟩:=hk;rcases an k n with h|h
  ·refine (hs k h hi).mono fun e L' H' nx' q=>?_
   cases e with
   |normal=>exact ⟨k+1,⟨h,q.1⟩,by omega,⟨q.2.1,q.2.2.1,q.2.2.2⟩⟩
   |ret=>exact q
   |exit i=>exact q
  grind
section
variable {Q:PV→Heap→Nat→Prop} {w:Bool} {dst:Option Tmp} {ty:TypeId} {pos:String} {af:Array Edge} {gd:Option (Nat×Bool)}
theorem b4v {Γ:Nat→Option (List Value×TypeId)} {m:Mem} {F:Nat→Prop} {σ:Nat→Value} {t:Tr Value} {x:Operand} {e:TypeId} {cs:List FV} {n:Nat} (hx:Ctx Γ m F σ H nx) (hl:RL m F (htag H) σ nx L t) (h:AU Γ L x=some (.p (.lst e cs n))) :
 ∃ a k g,ev t x=.slice a k g∧(0<n→a.isNone=false):=by
 have:=BA hx hl h;generalize ev t x=v at this;cases this with
 |p hr =>
  cases hr with
  |nil=>simp
  |room=>simp
  |lst=>simp
theorem YX {Γ:Nat→Option (List Value×TypeId)} {m:Mem} {F:Nat→Prop} {σ:Nat→Value} {t:Tr Value} {y:Operand} {v:Value} (hx:Ctx Γ m F σ H nx) (hl:RL m F (htag H) σ nx L t) (h:AU Γ L y=some (.p (.val v))):ev t y=v:=by
 have:=BA hx hl h;cases this with|p hr=>cases hr;rfl
theorem a6r {P:Program} {t e':TypeId} {xo yo:Operand} {a:Option Addr} {k g:Nat} (ht:P.underlying t=some (.slice e')):Ph P .eql t xo yo (.slice a k g) (.slice none 0 0)=some (.bool a.isNone)∧Ph P .neq t xo yo (.slice a k g) (.slice none 0 0)=some (.bool !a.isNone):=by
 simp [Ph,ht,Jp]
theorem Aa.eqNil {t t2 e e':TypeId} {x y:Operand} {cs:List FV} {n:Nat} (hx:AU E.Γ L x=some (.p (.lst e cs n))) (hy:AU E.Γ L y=some (.p (.val (.slice none 0 0)))) (ht:E.P.underlying t=some (.slice e')) (q:∀ b,(0<n→b=false)→Q (.p (.bool b)) H nx) :
 Aa E w ⟨dst,.binOp .eql t x y t2,ty,pos,af,gd⟩ L H nx Q:=fun m F σ tt h1 h2=>by
 obtain ⟨a,k,g,h3,h4⟩:=b4v h1 h2 hx;have h5:=YX h1 h2 hy;exact Gp.op (v:=.bool a.isNone) (m':=m) (fun _=>by simp only [BR,Fq,h3,h5];rw [(a6r ht).1];rfl) ⟨_,H,nx,F,σ,q a.isNone h4,h1,.p (.bool _),Step.refl _ _ _ _ _,fun _ k hk _=>hk⟩
theorem Aa.a8w {t t2 e e':TypeId} {x y:Operand} {cs:List FV} {n:Nat} (hx:AU E.Γ L x=some (.p (.lst e cs n))) (hy:AU E.Γ L y=some (.p (.val (.slice none 0 0)))) (ht:E.P.underlying t=some (.slice e')) (hn:0<n) (q:Q (.p (.bool false)) H nx) :
 Aa E w ⟨dst,.binOp .eql t x y t2,ty,pos,af,gd⟩ L H nx Q:=Aa.eqNil hx hy ht fun b hb=>by grind
theorem GI {α:Type} [Inhabited α] {l:List α} {i j:Nat} {a:α}:gi (l.set i a) j=if i=j∧j<l.length then a else gi l j:=by
 unfold gi;grind
theorem Aa.b5a {t t2:TypeId} {x y:Operand} {n:Nat} (hx:AU E.Γ L x=some (.p (.int .u64 ((2 ^ n:Nat):Int)))) (hy:AU E.Γ L y=some (.p (.int .u64 1))) (hn:n<64) (q:Q (.p (.int .u64 ((2 ^ n-1:Nat):Int))) H nx) :
 Aa E w ⟨dst,.binOp .sub t x y t2,ty,pos,af,gd⟩ L H nx Q :=
 Aa.c1l (a:=2 ^ n) (b:=1) hx hy ⟨Nat.one_le_two_pow,cq (aw (by omega) (show n≤63 by omega)) (by decide)⟩ q
end
theorem all_succ {P:Nat→Prop} {k:Nat} (h:∀ i,i<k→P i) (hk:P k):∀ i,i<k+1→P i :=by grind
def Bz {α:Type} (f:Nat→α):Nat→List α
 |0=>[]
 |k+1=>Bz f k++[f k]
theorem Cm {α:Type} (f:Nat→α):∀ k,(Bz f k).length=k
 |0=>rfl
 |k+1=>by simp [Bz,Cm f k]
theorem oM {α:Type} (f:Nat→α):∀ k i,i<k→(Bz f k)[i]?=some (f i)
 |0,i,h=>by omega
 |k+1,i,h=>by
  simp only [Bz];rw [List.getElem?_append];rw [Cm];by_cases h2:i<k
  ·rw [if_pos h2];exact oM f k i h2
  grind
theorem DW {α:Type} [Inhabited α] (f:Nat→α) {k i:Nat} (h:i<k):gi (Bz f k) i=f i:=by
 unfold gi;rw [oM f k i h];rfl
theorem P8 {α:Type} {f g:Nat→α}:∀ {k:Nat},(∀ i,i<k→f i=g i)→Bz f k=Bz g k
 |0,_=>rfl
 |k+1,h=>by rw [Bz,Bz,P8 (fun i hi=>h i (by omega)),h k (by omega)]
def b8d {α:Type} (f:Nat→α) (l:List α):Nat→List α
 |0=>l
 |k+1=>(b8d f l k).set k (f k)
theorem JF {α:Type} [Inhabited α] {l r:List α} (h:l.length=r.length) (hg:∀ i,i<l.length→gi l i=gi r i):l=r:=by
 refine ge h fun i h1 h2=>?_
 have:=hg i h1;unfold gi at this;grind
theorem U2 {α:Type} [Inhabited α] {a:α} {n i:Nat} (h:i<n):gi (List.replicate n a) i=a:=by
 unfold gi;grind
def b6x (k:Nat):Heap→Bool
 |[]=>true
 |(i,x)::H=>and (and (Nat.blt i k) (HB.ub k x)) (b6x k H)
theorem Di {k:Nat}:∀ {H:Heap},b6x k H=true→Lp k H
 |[],_=>trivial
 |(_,_)::_,h=>by
  simp only [b6x,Bool.and_eq_true] at h;exact ⟨⟨Bj h.1.1,HB.Az h.1.2⟩,Di h.2⟩
def ER (E:Env) (g:FuncId) (ac:List PV) (Hc:Heap) (k:Nat) (x:FV):Prop:=AO E g ac Hc k fun r H' nx'=>r=.p x∧H'=Hc∧nx'=k
theorem ER.enter {f:FuncId} {fn:Func} {c:Code} {ac:List PV} {Hc:Heap} {k:Nat} {x:FV} (ho:E.O f=none) (hf:E.P.funcs[f]?=some fn) (hb:fn.body=some c) (hok:IJ E.G fn c=true) (hn:ac.length≤fn.ntmps)
 (h:Ad E k c (Ci 0 ac) Hc k (Done E.P fn.results.toList k fun r' H' nx'=>r'=.p x∧H'=Hc∧nx'=k)):ER E f ac Hc k x:=AO.enter ho hf hb hok hn h
theorem Aa.read {Q:PV→Heap→Nat→Prop} {dst:Option Tmp} {ty:TypeId} {pos:String} {af:Array Edge} {gd:Option (Nat×Bool)} {fo:Operand} {args:Array Operand} {aT:Array TypeId} {g:FuncId} {fs cs Bq ac:List PV} {Hc:Heap} {x:FV} (ns:List Nat) (hc:ER E g ac Hc ns.length x)
 (hf:AU E.Γ L fo=some (.clo g fs cs)) (ha:evs E.Γ L args.toList=some Bq) (hle:OG (fs++Bq++cs) (CU.rn (rho ns nx) ac)) (hu:CU.under ns.length ac) (yS:Lp ns.length Hc) (hin:HIn (rho ns nx) H Hc) (hnd:ns.Nodup) (hlt:∀ b∈ns,b<nx)
 (hm:news ns.length (rho ns nx) Hc (merge ns (rho ns nx) Hc H)=H) (q:Q (.p x) H nx) :
 Aa E true ⟨dst,.call { callee:=.value fo,args:=args,argTypes:=aT },ty,pos,af,gd⟩ L H nx Q :=
 Aa.cZ hf ha hle hu yS hin hnd hlt (fun h=>by cases h) hc fun r H' nx' ⟨h1,h2,h3⟩=>by
  subst h1;subst h2;subst h3;rw [hm,cY];exact q
theorem qh {P:Program} {t e:TypeId} {n:Nat} {z:List Value} {inf:TypeInfo} {ps:Array (Nat×Value)} {out:Array Value} (hz:BN P t=some z) (hu:P.underlying t=some (.array n e)) (hi:P.info? e=some inf)
 (hf:Instr.fill (fun i=>some (i*inf.size,inf.size)) z.toArray ps.toList=some out):Dt P (Instr.build t ps)=some (.agg out):=by
 obtain ⟨i,zv,h1,h2,h3,h4⟩:=BF hz;unfold Instr.build;simp only [Ar];have hzv:Dt P (zeroValue t)=some zv:=by
  simp only [zeroValue,Ar,Kz,h1,Option.bind_some,h2];rfl
 rw [hzv];simp only [Option.bind_some,AV,hu];simp only [Ar,FM,hi,Option.map_some,Option.bind_some];have e:zv.cells=z.toArray:=by rw [h3]
 rw [e,hf];rfl
theorem Aa.b8e {Q:PV→Heap→Nat→Prop} {w:Bool} {dst:Option Tmp} {ty:TypeId} {pos:String} {af:Array Edge} {gd:Option (Nat×Bool)} {t e:TypeId} {n:Nat} {ps:Array (Nat×Operand)} {z:List Value} {inf:TypeInfo} {parts:List (Nat×PV)} {out:List PV} (hz:BN E.P t=some z) (hu:E.P.underlying t=some (.array n e))
 (hi:E.P.info? e=some inf) (hp:evp E.Γ L ps.toList=some parts) (hf:Sv (fun i=>some (i*inf.size,inf.size)) (z.map fun v=>.p (HY v)) parts=some out) (q:Q (sJ out) H nx) :
 Aa E w ⟨dst,.build t ps,ty,pos,af,gd⟩ L H nx Q :=
 Aa.quiet q fun m F σ tt h1 h2=>by
  obtain ⟨_,_,_,_,_,hpz⟩:=BF hz;obtain ⟨out',e1,e2,e3⟩:=Rl (fun i=>some (i*inf.size,inf.size)) (Y0 h1 h2 hp) (cs':=z.toArray) (Dj.zero hpz) (CY hpz) hf;have e4:=qh (ps:=ps.map fun (i,x)=>(i,ev tt x)) hz hu hi (by rw [bE];omega);refine ⟨.agg out',fun _=>?_,WT e2 e3⟩;simp only [BR,Fq,hz,e4,Option.map_some]
end
section
open Go.Am
variable {E:Env} {L:Frame} {H:Heap} {nx:Nat} {Q:PV→Heap→Nat→Prop}
variable {dst:Option Tmp} {ty:TypeId} {pos:String} {af:Array Edge} {gd:Option (Nat×Bool)}
end
end Go.Vm
namespace Go.Proofs.YtnjkoebfgcbbdaaGreatDoor
open Go Go.Am Go.Vm
attribute [local irreducible] Aa Ai Ag Ad AO Ap Bc BK Bh Ah Vm.Done Bv AB
structure Rgs where
 stops:List Nat
 cp:Nat
 off:Nat
instance:Enc Rgs:={ default:=⟨[],0,0⟩,enc:=fun x=>[.lst 82 (cells x.stops) x.stops.length,.int .u64 (x.cp:Int),.int .u64 (x.off:Int)],size:=3,len:=fun _=>rfl }
structure Rgs.Ok (r:Rgs):Prop where
 stops:∀ i,i<r.stops.length→gi r.stops i<18446744073709551616
 cp:r.cp<18446744073709551616
 off:r.off<18446744073709551616
 len:r.stops.length<9223372036854775808
def a5b (b:Nat→Nat):List FV:=[.int .u8 (b 0:Int),.int .u8 (b 1:Int),.int .u8 (b 2:Int),.int .u8 (b 3:Int),.int .u8 (b 4:Int)]
def He (o:Ic) (b:Nat→Nat) (k:Nat):Nat:=b (k % 3) &&& (2 ^ (gi o.Ae k).stops.length-1)
def Qs (o:Ic) (b:Nat→Nat):Rgs:=⟨Bz (He o b) o.Ae.length,b 3 &&& (2 ^ o.I8.length-1),b 4 &&& (2 ^ o.Ae.length-1)⟩
theorem b7c {n:Nat} (h:n≤3):2 ^ n≤8:=aw (by omega) h
theorem a9f (b:Nat→Nat) (k:Nat):((a5b b).map PV.p)[0+((k:Int) % 3).toNat*1]?=some (.p (.int .u8 ((b (k % 3):Nat):Int))):=by
 have e0:((k:Int) % 3).toNat=k % 3:=by omega
 rw [e0];have:k % 3<3:=bc _ (by decide);generalize k % 3=n at this
 match n,this with
 |0,_=>rfl
 |1,_=>rfl
 |2,_=>rfl
theorem vZ (o:Ic) (ho:xH o) (b:Nat→Nat) (hb:∀ i,b i<256):Ap env 74 [.agg (Enc.enc o),.agg (a5b b)] (.p (.agg (Enc.enc (Qs o b)))):=by
 have r2:=ho.Ae;have r3:=ho.I8;have b3:=hb 3;have b4:=hb 4;have p3:=b7c r3;have p4:=b7c r2.2;refine Ap.enter (Af (by decide)) Tryz.func74 rfl (by kernel_rfl) (by simp [Tryz.ntmps74]) ?_
 repeat' (first|(apply Aa.Vd;rfl;rfl;rfl;rfl;rfl;decide)|refine go1 ?_|(apply Aa.b5a;rfl;rfl;omega)|(apply Aa.build;rfl;rfl;rfl;rfl;rfl)|(apply Aa.qU;rfl;rfl;rfl;rfl;omega)|(apply Aa.mM;rfl;rfl;omega))
 refine Ad.ghost (Aw.EW 3 0 82 rfl rfl) ?_;apply Ad.F5 (o.Ae.length) [(2,_),(3,_),(4,_),(5,_)] [(0,_),(1,_),(2,_)] (fun k r=>(6,.p (.int .i64 (k:Int)))::r) (fun k r=>(4,.vec 82 (cells (Bz (He o b) k)) (Bz (He o b) k).length true)::(3,.box 179 [.vec 4 (Bz (He o b) k).length 0 (Bz (He o b) k).length,.p (.int .u64 ((b 3 &&& (2 ^ o.I8.length-1):Nat):Int)),.p (.int .u64 ((b 4 &&& (2 ^ o.Ae.length-1):Nat):Int))])::r) 5
 ·first|omega|decide
 ·first|omega|decide
 ·exact NI
 ·exact Px
 ·intro k hk
  have hl:=Cm (He o b) k;have e1:Bz (He o b) (k+1)=Bz (He o b) k++[He o b k]:=rfl;have e2:(Bz (He o b) (k+1)).length=(Bz (He o b) k).length+1:=by rw [e1];simp
  have s3:=ho.stops k hk;have p1:=b7c s3;have hbk:=hb (k % 3);have hr:=a9f b k
  repeat' (first|(apply Aa.b0b;rfl;rfl;rfl;exact hr)|(apply Aa.Vd;rfl;rfl;rfl;rfl;rfl;omega)|(apply Aa.CW (a:=He o b k);rfl;rfl;rfl;rfl;rfl;rfl;rfl;rfl;(intro _ h;cases h);rfl;rfl;rfl;decide;decide;(first|omega|(simp only [List.length_take,List.length_drop,List.length_append,List.length_singleton,List.length_cons,List.length_nil]<;>omega)))|(apply Aa.Aj;rfl;rfl;rfl;omega;rfl)|refine fP ?_|(apply Aa.b5a;rfl;rfl;omega)|(apply Aa.int;rfl;rfl;rfl)|(apply Aa.buildSlice;rfl;rfl;rfl;decide;rfl;rfl;rfl)|(apply Aa.qU;rfl;rfl;rfl;rfl;omega)|(apply Aa.mM;rfl;rfl;omega)|(apply Ad.Ac;rfl)|(intro _;try (exfalso;omega)))
  all_goals try (exfalso;omega)
  refine Ah.normal ⟨by first|omega|decide,?_,?_⟩
  ·try (rw [e2,e1])
   exact C9
  ·rw [e2,e1]
   exact DR
 ·have hl:=Cm (He o b) o.Ae.length
  repeat' (first|(refine Ad.at 6 ?_;refine Ad.ghost (Aw.Dn 3 0 rfl rfl rfl) ?_;first|apply Ad.BD|apply Ad.Cj)|refine go0 ?_|apply Ad.BD|(apply Ad.Ac;rfl)|(intro _;try (exfalso;omega)))
  all_goals first|(exfalso;omega)|(refine Done.rt rfl rfl ⟨?_,rfl,rfl⟩;try rfl)
noncomputable def VQ (o:Ic) (r:Rgs):Int :=
 open Classical in
 if r.stops.length≠o.Ae.length then 5
 else if ∃ i,i<r.stops.length∧gi r.stops i / 2 ^ (gi o.Ae i).stops.length≠0 then 3
 else if r.cp / 2 ^ o.I8.length≠0∨r.off / 2 ^ o.Ae.length≠0 then 3 else 0
theorem a8i {o:Ic} {r:Rgs} (h:r.stops.length≠o.Ae.length):VQ o r=5:=by unfold VQ;grind
theorem a9i {o:Ic} {r:Rgs} (h:r.stops.length=o.Ae.length) {i:Nat} (hi:i<r.stops.length) (h2:gi r.stops i / 2 ^ (gi o.Ae i).stops.length≠0):VQ o r=3:=by
 unfold VQ;rw [if_neg (fun h'=>h' h),if_pos ⟨i,hi,h2⟩]
theorem iE {o:Ic} {r:Rgs} (h:r.stops.length=o.Ae.length) (h2:∀ i,i<r.stops.length→gi r.stops i / 2 ^ (gi o.Ae i).stops.length=0):VQ o r=if r.cp / 2 ^ o.I8.length≠0∨r.off / 2 ^ o.Ae.length≠0 then 3 else 0:=by
 unfold VQ;grind
end Go.Proofs.YtnjkoebfgcbbdaaGreatDoor
namespace Go.Proofs.YtnjkoebfgcbbdaaGreatDoor
open Go Go.Am Go.Vm
attribute [local irreducible] Ce Ba
theorem WL {rk:List Hu} {l:List oh}:∀ (n k:Nat),l.length-k=n→Gt rk l k=0→∀ i,k≤i→i<l.length→DJ rk (gi l i)=0
 |0,k,h,_,i,h1,h2=>by omega
 |n+1,k,h,h0,i,h1,h2=>by
  rw [Gt,if_pos (by omega)] at h0;split at h0
  ·omega
  split at h0
  ·omega
  split at h0
  ·omega
  rename_i h3;rcases an k i with h4|h4
  ·exact WL n (k+1) (by omega) h0 i h4 h2
  grind
structure a4q (o:Ic):Prop where
 sm:Vh o
 err:WU o=0
 Ae:1≤o.Ae.length∧o.Ae.length≤8
 I8:o.I8.length≤40
 stops:∀ i,i<o.Ae.length→(gi o.Ae i).stops.length≤60
theorem b8z {o:Ic} (hs:Vh o) (h:WU o=0):a4q o:=by
 have h0:=h;unfold WU at h0;split at h0
 ·exact absurd h0 (by decide)
 split at h0
 ·exact absurd h0 (by decide)
 split at h0
 ·rename_i h1;exact absurd h0 h1
 split at h0
 ·exact absurd h0 (by decide)
 rename_i d1;split at h0
 ·exact absurd h0 (by decide)
 rename_i d2;split at h0
 ·rename_i h1;exact absurd h0 h1
 rename_i d3;have d3:Gt o.ranks o.Ae 0=0:=cS d3;unfold En at h0;split at h0
 ·exact absurd h0 (by decide)
 rename_i c1;refine ⟨hs,h,⟨by omega,by omega⟩,by omega,fun i hi=>?_⟩;have:=WL _ 0 rfl d3 i (ao _) hi;unfold DJ at this;split at this
 ·rename_i h1;exact absurd this h1
 split at this
 ·exact absurd this (by decide)
 rename_i h2;omega
structure c9z (rk:List Hu) (s:Stp):Prop where
 I9:s.I9.length≤12
 draws:∀ i,i<s.I9.length→(gi s.I9 i).draws.length≤8∧∀ j,j<(gi s.I9 i).draws.length→0≤(gi (gi s.I9 i).draws j).rank∧(gi (gi s.I9 i).draws j).rank<rk.length
def b6e (rk:List Hu) (s:Stp) (n:Nat):Nat→List UInt8
 |0=>[]
 |k+1=>if (gi s.I9 (n-(k+1))).draws.length>0 then (gi rk (gi (gi s.I9 (n-(k+1))).draws 0).rank.toNat).JO else b6e rk s n k
def c8a (rk:List Hu) (s:Stp):List UInt8:=b6e rk s s.I9.length s.I9.length
end Go.Proofs.YtnjkoebfgcbbdaaGreatDoor
namespace Go.Proofs.YtnjkoebfgcbbdaaGreatDoor
open Go Go.Am Go.Vm
structure LH where
 s:Int
 e:Int
 d:Int
 k:Int
deriving DecidableEq
instance:Enc LH:={ default:=⟨0,0,0,0⟩,enc:=fun x=>[.int .i64 x.s,.int .i64 x.e,.int .i64 x.d,.int .i64 x.k],size:=4,len:=fun _=>rfl }
structure yP where
 bar:Int
 reg:Rgs
instance:Enc yP:={ default:=⟨0,default⟩,enc:=fun x=>[.int .i64 x.bar,.lst 82 (cells x.reg.stops) x.reg.stops.length,.int .u64 (x.reg.cp:Int),.int .u64 (x.reg.off:Int)],size:=4,len:=fun _=>rfl }
structure Fv where
 bars:List Int
 notes:List LH
 sets:List yP
instance:Enc Fv:={ default:=⟨[],[],[]⟩,enc:=fun x=>[.lst 3 (cells x.bars) x.bars.length,.lst 39 (cells x.notes) x.notes.length,.lst 182 (cells x.sets) x.sets.length],size:=3,len:=fun _=>rfl }
def jo (a b:LH):Bool:=decide (a.d=b.d)&&(decide (a.k=b.k)&&(decide (a.s<b.e)&&decide (b.s<a.e)))
def Yf (l:List Int) (k:Nat):Int :=
 if k<l.length then if gi l k<0∨gi l k>100000 then 3 else if 0<k∧gi l k≤gi l (k-1) then 6 else Yf l (k+1) else 0
termination_by l.length-k
def SH (l:List Int):Int:=if l.length<2 then 5 else if l.length>201 then 4 else Yf l 0
def UD (o:Ic) (a z:Int) (pre:List LH) (n:LH):Int :=
 if n.d<0∨n.d≥o.Ae.length then 10
 else if n.k<(gi o.Ae n.d.toNat).lo∨n.k>(gi o.Ae n.d.toNat).hi then 23
 else if n.s<a∨n.e>z then 3
 else if n.s≥n.e then 6
 else if pre.any (fun m=>jo m n) then 14 else 0
def Hq (o:Ic) (a z:Int) (l:List LH) (k:Nat):Int :=
 if k<l.length then if UD o a z (l.take k) (gi l k)≠0 then UD o a z (l.take k) (gi l k) else Hq o a z l (k+1) else 0
termination_by l.length-k
noncomputable def Nz (o:Ic) (nb:Nat) (l:List yP) (k:Nat):Int :=
 if (gi l k).bar<0∨(gi l k).bar≥(nb:Int)-1 then 3
 else if 0<k∧(gi l k).bar=(gi l (k-1)).bar then 9
 else if 0<k∧(gi l k).bar<(gi l (k-1)).bar then 6
 else VQ o (gi l k).reg
noncomputable def OV (o:Ic) (nb:Nat) (l:List yP) (k:Nat):Int :=
 if k<l.length then if Nz o nb l k≠0 then Nz o nb l k else OV o nb l (k+1) else 0
termination_by l.length-k
def Pq (p:Fv):Int:=gi p.bars 0
def Qm (p:Fv):Int:=gi p.bars (p.bars.length-1)
noncomputable def iF (o:Ic) (p:Fv):Int :=
 if SH p.bars≠0 then SH p.bars else if p.notes.length>1000 then 4 else if Hq o (Pq p) (Qm p) p.notes 0≠0 then Hq o (Pq p) (Qm p) p.notes 0
 else if p.sets.length>100 then 4 else OV o p.bars.length p.sets 0
noncomputable def Yi (o:Ic) (p:Fv):Int:=if WU o≠0 then WU o else iF o p
structure aJ (p:Fv):Prop where
 bars:p.bars.length<1000000
 notes:p.notes.length<1000000
 sets:p.sets.length<1000000
 reg:∀ i,i<p.sets.length→(gi p.sets i).reg.Ok
theorem lJ {l:List Int} {k:Nat} (h:k<l.length):Yf l k=if gi l k<0∨gi l k>100000 then 3 else if 0<k∧gi l k≤gi l (k-1) then 6 else Yf l (k+1):=by
 rw [Yf,if_pos h]
theorem a9w (l:List Int):Yf l l.length=0:=by rw [Yf,if_neg (cv _)]
theorem WO {o:Ic} {a z:Int} {l:List LH} {k:Nat} (h:k<l.length):Hq o a z l k=if UD o a z (l.take k) (gi l k)≠0 then UD o a z (l.take k) (gi l k) else Hq o a z l (k+1):=by
 rw [Hq,if_pos h]
theorem wH (o:Ic) (a z:Int) (l:List LH):Hq o a z l l.length=0:=by rw [Hq,if_neg (cv _)]
theorem ZV {o:Ic} {nb:Nat} {l:List yP} {k:Nat} (h:k<l.length):OV o nb l k=if Nz o nb l k≠0 then Nz o nb l k else OV o nb l (k+1):=by
 rw [OV,if_pos h]
theorem a3y (o:Ic) (nb:Nat) (l:List yP):OV o nb l l.length=0:=by rw [OV,if_neg (cv _)]
theorem tK {l:List Int}:∀ (n k:Nat),l.length-k=n→Yf l k=0→∀ i,k≤i→i<l.length→(0≤gi l i∧gi l i≤100000)∧(0<i→gi l (i-1)<gi l i)
 |0,k,h,_,i,h1,h2=>by omega
 |n+1,k,h,h0,i,h1,h2=>by
  rw [lJ (by omega)] at h0;split at h0
  ·omega
  rename_i h3;split at h0
  ·omega
  rename_i h4;rcases an k i with h5|h5
  ·exact tK n (k+1) (by omega) h0 i h5 h2
  grind
theorem ji {l:List Int} (h:∀ i,i<l.length→(0≤gi l i∧gi l i≤100000)∧(0<i→gi l (i-1)<gi l i)):∀ (n k:Nat),l.length-k=n→Yf l k=0
 |0,k,hk=>by rw [Yf,if_neg (by omega)]
 |n+1,k,hk=>by
  obtain ⟨h1,h2⟩:=h k (by omega);rw [lJ (by omega),if_neg (by omega),if_neg (fun ⟨h3,h4⟩=>by omega)];exact ji h n (k+1) (by omega)
theorem ZF {o:Ic} {a z:Int} {l:List LH}:∀ (n k:Nat),l.length-k=n→Hq o a z l k=0→∀ i,k≤i→i<l.length→UD o a z (l.take i) (gi l i)=0
 |0,k,h,_,i,h1,h2=>by omega
 |n+1,k,h,h0,i,h1,h2=>by
  rw [WO (by omega)] at h0;split at h0
  ·omega
  rename_i h3;rcases an k i with h5|h5
  ·exact ZF n (k+1) (by omega) h0 i h5 h2
  grind
theorem XH {o:Ic} {a z:Int} {l:List LH} (h:∀ i,i<l.length→UD o a z (l.take i) (gi l i)=0):∀ (n k:Nat),l.length-k=n→Hq o a z l k=0
 |0,k,hk=>by rw [Hq,if_neg (by omega)]
 |n+1,k,hk=>by
  rw [WO (by omega),if_neg (fun h'=>h' (h k (by omega)))];exact XH h n (k+1) (by omega)
theorem iJ {o:Ic} {nb:Nat} {l:List yP}:∀ (n k:Nat),l.length-k=n→OV o nb l k=0→∀ i,k≤i→i<l.length→Nz o nb l i=0
 |0,k,h,_,i,h1,h2=>by omega
 |n+1,k,h,h0,i,h1,h2=>by
  rw [ZV (by omega)] at h0;split at h0
  ·omega
  rename_i h3;rcases an k i with h5|h5
  ·exact iJ n (k+1) (by omega) h0 i h5 h2
  grind
theorem ay {o:Ic} {nb:Nat} {l:List yP} (h:∀ i,i<l.length→Nz o nb l i=0):∀ (n k:Nat),l.length-k=n→OV o nb l k=0
 |0,k,hk=>by rw [OV,if_neg (by omega)]
 |n+1,k,hk=>by
  rw [ZV (by omega),if_neg (fun h'=>h' (h k (by omega)))];exact ay h n (k+1) (by omega)
structure b6i (o:Ic) (p:Fv) (i:Nat):Prop where
 d:0≤(gi p.notes i).d∧(gi p.notes i).d<o.Ae.length
 k:(gi o.Ae (gi p.notes i).d.toNat).lo≤(gi p.notes i).k∧(gi p.notes i).k≤(gi o.Ae (gi p.notes i).d.toNat).hi
 r:Pq p≤(gi p.notes i).s∧(gi p.notes i).s<(gi p.notes i).e∧(gi p.notes i).e≤Qm p
 c:∀ j,j<i→jo (gi p.notes j) (gi p.notes i)=false
structure xk (o:Ic) (p:Fv):Prop where
 sm:aJ p
 err:iF o p=0
 bars:2≤p.bars.length∧p.bars.length≤201
 bar:∀ i,i<p.bars.length→(0≤gi p.bars i∧gi p.bars i≤100000)∧(0<i→gi p.bars (i-1)<gi p.bars i)
 notes:p.notes.length≤1000
 note:∀ i,i<p.notes.length→b6i o p i
 sets:p.sets.length≤100
 set:∀ i,i<p.sets.length→(0≤(gi p.sets i).bar∧(gi p.sets i).bar<(p.bars.length:Int)-1)∧(0<i→(gi p.sets (i-1)).bar<(gi p.sets i).bar)∧VQ o (gi p.sets i).reg=0
theorem dM {l:List LH} {f:LH→Bool} {i:Nat} (hi:i≤l.length):(l.take i).any f=false↔∀ j,j<i→f (gi l j)=false:=by
 rw [List.any_eq_false];constructor
 ·intro h j hj
  have:gi l j∈l.take i:=by
   unfold gi;rw [ai (by omega)];exact gc.2 ⟨j,by omega,rfl⟩
  grind
 ·intro h x hx
  obtain ⟨j,hj,rfl⟩:=gc.1 hx;have:=h j (by omega);unfold gi at this;grind
theorem Zp {o:Ic} {p:Fv} {i:Nat} (hi:i<p.notes.length):UD o (Pq p) (Qm p) (p.notes.take i) (gi p.notes i)=0↔b6i o p i:=by
 unfold UD;constructor
 ·intro h
  split at h
  ·omega
  split at h
  ·omega
  split at h
  ·omega
  split at h
  ·omega
  split at h
  ·omega
  rename_i h1 h2 h3 h4 h5;exact ⟨by omega,by omega,by omega,(dM (f:=fun m=>jo m (gi p.notes i)) (by omega)).1 (by grind)⟩
 ·rintro ⟨h1,h2,h3,h4⟩
  rw [if_neg (by omega),if_neg (by omega),if_neg (by omega),if_neg (by omega),if_neg];rw [(dM (f:=fun m=>jo m (gi p.notes i)) (by omega)).2 h4];decide
theorem jw {o:Ic} {nb:Nat} {l:List yP} {i:Nat}:Nz o nb l i=0↔(0≤(gi l i).bar∧(gi l i).bar<(nb:Int)-1)∧(0<i→(gi l (i-1)).bar<(gi l i).bar)∧VQ o (gi l i).reg=0:=by
 unfold Nz;omega
theorem c6z {o:Ic} {p:Fv} (h:aJ p) (he:iF o p=0):xk o p:=by
 have h0:=he;unfold iF at h0;split at h0
 ·omega
 rename_i h1;have h1:=cS h1;split at h0
 ·omega
 rename_i h2;split at h0
 ·omega
 rename_i h3;have h3:=cS h3;split at h0
 ·omega
 rename_i h4;unfold SH at h1;split at h1
 ·omega
 split at h1
 ·omega
 refine ⟨h,he,by omega,fun i hi=>tK _ 0 rfl h1 i (ao _) hi,by omega,fun i hi=>(Zp hi).1 (ZF _ 0 rfl h3 i (ao _) hi),by omega,fun i hi=>jw.1 (iJ _ 0 rfl h0 i (ao _) hi)⟩
theorem zJ {o:Ic} {p:Fv} (h:aJ p) (h1:2≤p.bars.length∧p.bars.length≤201) (h2:∀ i,i<p.bars.length→(0≤gi p.bars i∧gi p.bars i≤100000)∧(0<i→gi p.bars (i-1)<gi p.bars i)) (h3:p.notes.length≤1000) (h4:∀ i,i<p.notes.length→b6i o p i) (h5:p.sets.length≤100)
 (h6:∀ i,i<p.sets.length→(0≤(gi p.sets i).bar∧(gi p.sets i).bar<(p.bars.length:Int)-1)∧(0<i→(gi p.sets (i-1)).bar<(gi p.sets i).bar)∧VQ o (gi p.sets i).reg=0):xk o p:=by
 refine c6z h ?_;unfold iF;have e1:SH p.bars=0:=by
  unfold SH;rw [if_neg (by omega),if_neg (by omega)];exact ji h2 _ 0 rfl
 have e2:Hq o (Pq p) (Qm p) p.notes 0=0:=XH (fun i hi=>(Zp hi).2 (h4 i hi)) _ 0 rfl;rw [if_neg (fun h=>h e1),if_neg (by omega),if_neg (fun h=>h e2),if_neg (by omega)];exact ay (fun i hi=>jw.2 (h6 i hi)) _ 0 rfl
end Go.Proofs.YtnjkoebfgcbbdaaGreatDoor
namespace Go.Pie
open Go Go.Vm
def Vw (P:Nat→Bool) (n:Nat):Nat→Int
 |0=>-1
 |r+1=>if P (n-(r+1))=true then ((n-(r+1):Nat):Int) else Vw P n r
def D9 (P:Nat→Bool) (n:Nat):Int:=Vw P n n
theorem JX {P:Nat→Bool} {n k:Nat} (hk:k<n) (h:P k=false):Vw P n (n-k)=Vw P n (n-(k+1)):=by
 obtain ⟨j,hj⟩:∃ j,n-k=j+1:=⟨n-k-1,by omega⟩
 rw [hj];show (if P (n-(j+1))=true then _ else Vw P n j)=_;grind
theorem YO {P:Nat→Bool} {n k:Nat} (hk:k<n) (h:P k=true):Vw P n (n-k)=(k:Int):=by
 obtain ⟨j,hj⟩:∃ j,n-k=j+1:=⟨n-k-1,by omega⟩
 rw [hj];show (if P (n-(j+1))=true then _ else Vw P n j)=_;grind
theorem kR (P:Nat→Bool) (n:Nat):∀ r,r≤n→-1≤Vw P n r∧Vw P n r<(n:Int)
 |0,_=>⟨by simp [Vw],by simp only [Vw];omega⟩
 |r+1,hr=>by
  unfold Vw;split
  ·omega
  ·exact kR P n r (by omega)
theorem pX {P:Nat→Bool} {n:Nat}:∀ r,r≤n→0≤Vw P n r→P (Vw P n r).toNat=true
 |0,_,h=>by simp [Vw] at h
 |r+1,hr,h=>by
  unfold Vw at h ⊢;split
  ·grind
  ·rename_i h1
   rw [if_neg h1] at h;exact pX r (by omega) h
theorem bH {P:Nat→Bool} {n:Nat} (h:∀ i,i<n→P i=false):∀ r,r≤n→Vw P n r=-1
 |0,_=>rfl
 |r+1,hr=>by
  unfold Vw;rw [if_neg (by grind)];exact bH h r (by omega)
theorem ZL {P:Nat→Bool} {n k:Nat} (hp:P k=true):∀ r,r≤n→n-r≤k→k<n→0≤Vw P n r
 |0,_,h1,h2=>by omega
 |r+1,hr,h1,h2=>by
  unfold Vw;split
  ·omega
  ·rename_i h3
   refine ZL hp r (by omega) ?_ h2;grind
structure mD where
 s:Int
 e:Int
 notes:List Int
deriving DecidableEq
instance:Inhabited mD:=⟨⟨0,0,[]⟩⟩
def c3o (a:Int) (S:Int→List Int):Nat→List Int
 |0=>[]
 |n+1=>if n=0∨S (a+n)≠S (a+n-1) then c3o a S n++[a+n] else c3o a S n
def a5f (S:Int→List Int) (T:List Int):List mD:=Bz (fun i=>⟨gi T i,gi T (i+1),S (gi T i)⟩) (T.length-1)
def stepW (S:Int→List Int) (w:List mD) (t:Int):List mD :=
 if w.length≠0∧(gi w (w.length-1)).notes=S t then w.set (w.length-1) ⟨(gi w (w.length-1)).s,(gi w (w.length-1)).e+1,(gi w (w.length-1)).notes⟩ else w++[⟨t,t+1,S t⟩]
def c7d (a:Int) (S:Int→List Int):Nat→List mD
 |0=>[]
 |n+1=>stepW S (c7d a S n) (a+n)
theorem Q8 {α:Type} [Inhabited α] {l r:List α} {i:Nat} (h:i<l.length):gi (l++r) i=gi l i:=by
 unfold gi;grind
theorem Uw {α:Type} [Inhabited α] {l:List α} {x:α}:gi (l++[x]) l.length=x:=by
 unfold gi;simp
theorem qL (S:Int→List Int) (T:List Int):(a5f S T).length=T.length-1:=Cm _ _
def Inc (l:List Int):Prop:=l.Pairwise (·<·)
theorem a0d:∀ {l r:List Int},Inc l→Inc r→(∀ x,x∈l↔x∈r)→l=r
 |[],[],_,_,_=>rfl
 |[],y::r,_,_,h=>by have:=(h y).2 (by simp);grind
 |x::l,[],_,_,h=>by have:=(h x).1 (by simp);grind
 |x::l,y::r,h1,h2,h=>by
  have h1':=List.pairwise_cons.1 h1;have h2':=List.pairwise_cons.1 h2;have e:x=y:=by
   have a1:=(h x).1 (by simp);have a2:=(h y).2 (by simp);grind
  subst e;rw [a0d h1'.2 h2'.2 fun z=>?_];grind
theorem QI (zs:List Int) (x:Int):x∈Lib.compact zs↔x∈zs:=by
 unfold Lib.compact Lib.compactUpTo;constructor
 ·grind
 ·intro hx
  obtain ⟨i,hi,e⟩:=bR.1 hx;have key:∀ n i,i≤n→∀ hi:i<zs.length,∃ j,(j<zs.length∧Lib.keeps zs.toArray j=true)∧zs.toArray[j]! =zs[i]:=by
   intro n
   induction n with
   |zero =>
    intro i h0 hi;obtain rfl:i=0:=by omega
    exact ⟨0,⟨hi,rfl⟩,by grind⟩
   |succ n ih =>
    intro i h0 hi;by_cases hk:Lib.keeps zs.toArray i=true
    ·grind
    ·match i,hi,h0,hk with
     |0,_,_,hk=>grind
     |i+1,hi,h0,hk =>
      obtain ⟨j,h1,h2⟩:=ih i (by omega) (by omega);refine ⟨j,h1,h2.trans ?_⟩;unfold Lib.keeps at hk;simp only [Nat.add_sub_cancel] at hk;rw [getElem!_pos zs.toArray i (by simpa using (by omega:i<zs.length)),getElem!_pos zs.toArray (i+1) (by simpa using hi)] at hk;simp at hk;exact hk.symm
  obtain ⟨j,h1,h2⟩:=key i i (ab _) hi;grind
theorem Xk {zs:List Int} (h:zs.Pairwise (·≤·)):Inc (Lib.compact zs):=by
 have hs:∀ i j,i≤j→j<zs.length→zs.toArray[i]!≤zs.toArray[j]!:=fun i j hij hj=>by
  rw [getElem!_pos zs.toArray i (by grind),getElem!_pos zs.toArray j (by omega)];rcases an i j with h'|h'
  ·simpa using cT.1 h i j (by omega) hj h'
  grind
 have key:∀ m,m≤zs.length→Inc (Lib.compactUpTo zs.toArray m)∧∀ x,x∈Lib.compactUpTo zs.toArray m→∃ j,j<m∧x=zs.toArray[j]!:=by
  intro m
  induction m with
  |zero=>intro _;exact ⟨List.Pairwise.nil,fun x hx=>by cases hx⟩
  |succ m ih =>
   intro hm;obtain ⟨i1,i2⟩:=ih (by omega);rw [Lib.compactUpTo_succ];by_cases hk:Lib.keeps zs.toArray m=true
   ·rw [if_pos hk]
    refine ⟨fp.2 ⟨i1,gt _ _,fun x hx y hy=>?_⟩,fun x hx=>?_⟩
    ·obtain ⟨j,h1,rfl⟩:=i2 x hx
     rw [aL] at hy;subst hy;have h2:=hs j (m-1) (by omega) (by omega);have h3:=hs (m-1) m (by omega) (by omega);have h4:zs.toArray[m]!≠zs.toArray[m-1]!:=by
      rcases of_decide_eq_true hk with h5|h5
      ·omega
      ·exact h5
     omega
    grind
   grind
 exact (key zs.length (ab _)).1
theorem fZ (zs:List Int):(zs.mergeSort fun x y=>decide (x≤y)).Pairwise (·≤·):=by
 have:=List.pairwise_mergeSort (le:=fun x y:Int=>decide (x≤y)) (fun a b c h1 h2=>by grind) (fun a b=>by grind) zs;grind
end Go.Pie
namespace Go.Vm
open Go.Am
section
variable {E:Env} {L:Vm.Frame} {H:Vm.Heap} {nx:Nat} {Q:PV→Vm.Heap→Nat→Prop} {w:Bool} {dst:Option Tmp} {ty:TypeId} {pos:String} {af:Array Edge} {gd:Option (Nat×Bool)}
theorem a0l {m:Mem} {F:Nat→Prop}:∀ {cs:List FV} {vs:List Value} {j:Nat} {c:FV},Df m F cs vs→cs[j]?=some c→∃ v,vs[j]?=some v∧RF m F c v
 |_,_,0,c,.cons h t,e=>by grind
 |_,_,j+1,c,.cons h t,e=>by
  obtain ⟨v,h1,h2⟩:=a0l t e;grind
 |_,_,_,_,.nil,e=>by grind
theorem Aa.b7w {t e:TypeId} {x ix:Operand} {n:Nat} {cs:List FV} {k:IntKind} {i:Int} {inf:TypeInfo} {c:FV} (hx:AU E.Γ L x=some (.p (.agg cs))) (hi:AU E.Γ L ix=some (.p (.int k i)))
 (ht:E.P.underlying t=some (.array n e)) (ha:Gv E.P e=some false) (hs:E.P.info? e=some inf) (h:0≤i∧i<n) (hc:cs[i.toNat*inf.size]?=some c) (q:Q (.p c) H nx) :
 Aa E w ⟨dst,.index t x ix,ty,pos,af,gd⟩ L H nx Q :=
 Aa.quiet q fun m F σ tt h1 h2=>by
  have hr:=BA h1 h2 hx;generalize hv:ev tt x=v at hr;cases hr with
  |p hr =>
   cases hr with
   |agg hr hcc =>
    rename_i l;obtain ⟨u,g1,g2⟩:=a0l hr hc;refine ⟨u,fun _=>?_,.p g2⟩;have hd:Dt E.P (Instr.index t (.agg l.toArray) (.int k i))=some u:=by
     unfold Instr.index;simp only [Ar,AV,ht];rw [show Dt E.P (asIntOf (.int k i))=some (k,i) from rfl];simp only [Option.bind_some,h,and_self,if_true,Ar,FM,hs,Option.map_some];unfold part;simp only [Ar,Rj,ha,Option.bind_some,Bool.false_eq_true,if_false,List.getElem?_toArray,g1];rfl
    simp only [BR,Fq,hv,CO h1 h2 hi,hd,Option.map_some];rfl
end
theorem nO {Γ:Nat→Option (List Value×TypeId)} {m:Mem} {F:Nat→Prop} {σ:Nat→Value} {H:Heap} {nx b:Nat} {y:HB} (h:Ctx Γ m F σ H nx) (hb:hget H b=some y) :
 Ctx Γ m (fun c=>F c∨Dc (σ b)=some c) σ (hdel H b) nx∧Step m F σ H nx m (fun c=>F c∨Dc (σ b)=some c) σ (hdel H b) nx:=by
 have hown:∀ c,Dc (σ b)=some c→own H σ c:=fun c hc=>⟨b,_,hb,hc⟩
 have hfz:∀ c,F c→(F c∨Dc (σ b)=some c)∧m.get c=m.get c:=fun c hc=>⟨.inl hc,rfl⟩
 have hN:Names nx (htag H) σ (htag (hdel H b)) σ:=fun d _=>by
  rw [V4];split
  ·exact ⟨trivial,fun _ _ _=>rfl⟩
  ·exact ⟨WC.refl _,fun _ _ _=>rfl⟩
 have hsub:∀ d x,hget (hdel H b) d=some x→d≠b∧hget H d=some x:=fun d x hd=>by
  rw [Nu] at hd;grind
 refine ⟨⟨?_,?_,?_,?_⟩,⟨ab _,fun _ _ _=>rfl,fun _ h=>.inl h,fun c _ hc=>hc.imp id (hown c),?_,ab _,hN,fun _ h _ _=>h⟩⟩
 ·rintro c (hc|hc)
  ·exact h.fr c hc
  ·exact (h.LJ (hown c hc)).2
 ·intro d x hd
  obtain ⟨hne,hd⟩:=hsub d x hd;obtain ⟨h1,h2⟩:=h.hp d x hd;refine ⟨h1,h2.mono hfz hN (ab _) (ab _) fun c hc=>⟨rfl,?_⟩⟩;rintro (hf|hf)
  ·exact (h.LJ ⟨d,x,hd,hc⟩).1 hf
  ·exact hne (h.sep d b x _ c hd hb hc hf)
 ·intro d d' x x' c hd hd' hc hc'
  exact h.sep d d' x x' c (hsub d x hd).2 (hsub d' x' hd').2 hc hc'
 ·intro g cs' e' hg
  obtain ⟨h1,h2⟩:=h.gl g cs' e' hg;grind
 ·rintro c _ ⟨d,x,hd,hc⟩
  exact ⟨d,x,(hsub d x hd).2,hc⟩
section
variable {E:Env} {bn:Nat} {L:Vm.Frame} {H:Vm.Heap} {nx:Nat} {Q:BL→Vm.Frame→Vm.Heap→Nat→Prop}
def b5g (E:Env) (g:FuncId) (fn:Func) (cs:List FV) (e:TypeId) (rows:List (List Value)):Prop :=
 ∀ Fo,E.O g=some Fo→∀ m F c vs,m.get c=.cells vs e 0 false→Df m F cs vs→F c→∃ key,∀ m' F' σ' H' nx',(∀ d,F d→m'.get d=m.get d)→Ctx E.Γ m' F' σ' H' nx'→∃ m1,Fo (Eh fn.ntmps [.pointer (some ⟨c,0,none⟩)]) m'=some (Jl key rows,m1)
theorem Ad.xw {f:Operand} {ps:Array Tmp} {O5 body:Code} {g:FuncId} {fn:Func} {b:Nat} {cs:List FV} {ct:TypeId} {rows:List (List Value)} (n:Nat) (c0o:Nat→List FV) (a7k:Nat→List Value) (L0:Vm.Frame) (Hk:Nat→Vm.Heap) (Dp:Nat) (inv:Nat→Prop)
 (hf:AU E.Γ L f=some (.clo g [] [.ref b 0])) (hbx:hget H b=some (.box ct (cs.map .p))) (hfn:E.P.funcs[g]?=some fn) (hfl:(flat O5&&flat body)=true) {Fo:List Value→Mem→Option (Value×Mem)} (ho:E.O g=some Fo) (hr:rows=(List.range n).map a7k) (hlen:∀ k,k<n→(a7k k).length=ps.size) (hpl:∀ k,k<n→(a7k k).all plain=true) (hrel:∀ k,k<n→∀ m F,Df m F (c0o k) (a7k k))
 (hb:bn≤Dp) (hc:cO L (hdel H b) nx L0 (Hk 0) Dp) (hL0:Gj Dp L0 L0) (hask:b5g E g fn cs ct rows)
 (h0:inv 0) (yG:∀ k,k<n→inv k→Ad E Dp O5 (a6u L0 ps.toList (c0o k)) (Hk k) Dp fun e L1 H1 nx1=>e=.normal∧Ad E Dp body L1 H1 nx1 (RQ (inv (k+1)) Dp L0 (Hk (k+1)) Q))
 (hdone:inv n→Q .normal L0 (Hk n) Dp):Ad E bn (.rangeFunc f ps O5 body) L H nx Q:=by
 intro B hB m F σ t h1 h2 h3;have hv:=BA h1 h2 hf;have hlb:∃ c vs,ev t f=.func (.func g) #[] #[.pointer (some ⟨c,0,none⟩)]∧m.get c=.cells vs ct 0 false∧Df m F cs vs∧Dc (σ b)=some c:=by
  obtain ⟨_,c,vs,r1,r2,r3,r4,r5,r6⟩:=h1.hp b _ hbx;generalize ev t f=u at hv;cases hv with
  |clo p1 p2 =>
   cases p1;cases p2 with
   |cons p2 p3 =>
    cases p3;cases p2 with
    |ref q1 q2 q3 =>
     obtain ⟨c',s1,s2⟩:=q3 (by simp [htag,hbx,HB.tag]);rw [r1] at s1;cases s1;exact ⟨c,vs,by rw [s2],r4,Df.bU r5,by rw [r1];rfl⟩
 obtain ⟨c,vs,hev,hgc,hrc,hblk⟩:=hlb;obtain ⟨g1,g2⟩:=nO h1 hbx;obtain ⟨F0,hF0⟩:∃ F0:Nat→Prop,F0=fun d=>F d∨Dc (σ b)=some d:=⟨_,rfl⟩
 rw [← hF0] at g1 g2;have hcF:F0 c:=by rw [hF0];exact .inr hblk
 obtain ⟨key,hkey⟩:=hask Fo ho m F0 c vs hgc (hrc.mono fun d hd=>⟨by rw [hF0];exact .inl hd,rfl⟩) hcF;have l1:RL m F0 (htag (hdel H b)) σ nx L t:=RL.step g2 h1 h2;have rounds:∀ j k,k+j=n→inv k→∀ m1 F1 σ1,Ctx E.Γ m1 F1 σ1 (Hk k) Dp→RL m1 F1 (htag (Hk k)) σ1 Dp L0 t→B.to m1 F1 σ1 (Hk k) Dp→(∀ d,F0 d→F1 d∧m1.get d=m.get d) →
  Ol E.P E.O E.G O5 body ps.size (fun m'=>∃ m1,Fo (Eh fn.ntmps [.pointer (some ⟨c,0,none⟩)]) m'=some (Jl key rows,m1)) t ps.toList (rows.drop k) m1 fun e m'=>∃ L' H' nx' F' σ',Q e L' H' nx'∧Ctx E.Γ m' F' σ' H' nx'∧RL m' F' (htag H') σ' nx' L' t∧B.to m' F' σ' H' nx':=by
  intro j
  induction j with
  |zero =>
   intro k hk hik m1 F1 σ1 c1 l b fz;obtain rfl:k=n:=by omega
   rw [hr,eW (by simp)];exact ⟨L0,_,Dp,F1,σ1,hdone hik,c1,l,b⟩
  |succ j ih =>
   intro k hk hik m1 F1 σ1 c1 l b fz;have e0:rows.drop k=a7k k::rows.drop (k+1):=by
    rw [hr,ck (by simp;omega)];simp
   rw [e0];refine ⟨hlen k (by omega),hpl k (by omega),?_⟩;refine (yG k (by omega) hik ⟨m1.at m1.size,F1,σ1,Hk k,Dp⟩ rfl _ F1 σ1 _ (c1.at _) (RL.NS (RL.at (Γ:=E.Γ) _ l) (hrel k (by omega) _ _)) (Step.refl _ _ _ _ _)).mono ?_;rintro e1 s1 ⟨L1,H1,nx1,F2,σ2,⟨he,hbody⟩,d1,d2,d3⟩;refine ⟨he,(hbody ⟨m1.at m1.size,F1,σ1,Hk k,Dp⟩ rfl s1.m F2 σ2 s1.t d1 d2 d3).mono ?_⟩;rintro e2 s2 ⟨L2,H2,nx2,F3,σ3,q,k1,k2,k3⟩;have st:Step m1 F1 σ1 (Hk k) Dp (s2.m.at (min m1.low s2.m.low)) F3 σ3 H2 nx2:=Step.at k3;have k1':=k1.at (min m1.low s2.m.low);have l':=RL.step st c1 l;have b':=Step.trans b st;have fz':∀ d,F0 d→F3 d∧(s2.m.at (min m1.low s2.m.low)).get d=m.get d:=fun d hd=>by
    obtain ⟨x1,x2⟩:=fz d hd;obtain ⟨y1,y2⟩:=st.frozen c1 d x1;exact ⟨y1,y2.trans x2⟩
   cases e2 with
   |normal =>
    have cov:cO L0 H2 nx2 L0 (Hk (k+1)) Dp:=⟨q.2.1,hL0,q.2.2⟩
    have c2:=cov.ctx k1';exact ⟨hkey _ _ _ _ _ (fun d hd=>(fz' d hd).2) c2,ih (k+1) (by omega) q.1 _ _ _ c2 (cov.rl l') (cov.step (by omega) b') fz'⟩
   |ret =>
    obtain ⟨q1,H3,q2,q3⟩:=q;have cov:cO L0 H2 nx2 L0 H3 Dp:=⟨q1,hL0,q2⟩
    exact ⟨L0,H3,Dp,F3,σ3,q3,cov.ctx k1',cov.rl l',cov.step (by omega) b'⟩
   |exit id =>
    obtain ⟨q1,H3,q2,q3⟩:=q;have cov:cO L0 H2 nx2 L0 H3 Dp:=⟨q1,hL0,q2⟩
    exact ⟨L0,H3,Dp,F3,σ3,q3,cov.ctx k1',cov.rl l',cov.step (by omega) b'⟩
 refine Na.rangeFunc (fn:=fn) (Fo:=Fo) (rows:=rows) hev hfn hfl ho (hkey _ _ _ _ _ (fun _ _=>rfl) g1) ?_;have:=rounds n 0 (by omega) h0 m F0 σ (hc.ctx g1) (hc.rl l1) (hc.step (by omega) (h3.trans g2)) fun d hd=>⟨hd,rfl⟩
 rw [cB] at this;exact this
end
def d0n (e:TypeId) (ks:List Int) (f:Int→List Int):List (FV×FV):=ks.map fun k=>(.int .i64 k,.lst e (cells (f k)) (f k).length)
section
variable {E:Env} {L:Frame} {H:Heap} {nx:Nat} {Q:PV→Heap→Nat→Prop} {w:Bool}
variable {dst:Option Tmp} {ty:TypeId} {pos:String} {af:Array Edge} {gd:Option (Nat×Bool)}
theorem c0e {Γ:Nat→Option (List Value×TypeId)} {m:Mem} {F:Nat→Prop} {σ:Nat→Value} {t:Tr Value} {k:IntKind} {n:Int} {o:Operand} (hx:Ctx Γ m F σ H nx) (hl:RL m F (htag H) σ nx L t) (h:AU Γ L o=some (.p (.int k n))):ev t o=.int k n:=by
 have:=BA hx hl h;generalize ev t o=v at this;cases this with
 |p h=>cases h;rfl
end
section
variable {E:Env} {bn i:Nat} {ops:Array Oper} {l:List Oper} {L:Frame} {H:Heap} {nx:Nat} {R:Frame→Heap→Nat→Prop}
end
def swp (a b i:Nat):Nat:=if i=a then b else if i=b then a else i
theorem OO (a b i:Nat):swp a b (swp a b i)=i:=by
 unfold swp;grind
theorem zH {a b i j:Nat} (h:swp a b i=swp a b j):i=j:=by rw [← OO a b i,h,OO]
theorem b4r {a b i n:Nat} (ha:n≤a) (hb:n≤b) (h:i<n):swp a b i=i:=by unfold swp;grind
theorem yZ {a b i n:Nat} (ha:a<n) (hb:b<n) (h:i<n):swp a b i<n:=by
 unfold swp;grind
def Hrn (ρ:Nat→Nat):Heap→Heap
 |[]=>[]
 |(i,x)::H=>(ρ i,x.rn ρ)::Hrn ρ H
theorem YN (a b:Nat):∀ (H:Heap) (i:Nat),hget (Hrn (swp a b) H) (swp a b i)=(hget H i).map (HB.rn (swp a b))
 |[],_=>rfl
 |(j,x)::H,i=>by
  simp only [Hrn,Bg];by_cases h:j=i
  ·grind
  ·rw [if_neg h,if_neg (fun e=>h (zH e))];exact YN a b H i
theorem jV (a b:Nat) (H:Heap) (i:Nat):htag (Hrn (swp a b) H) (swp a b i)=htag H i:=by
 unfold htag;rw [YN];cases hget H i with
 |none=>rfl
 |some x=>simp [HB.yC]
theorem b2y {Γ:Nat→Option (List Value×TypeId)} {m:Mem} {F:Nat→Prop} {σ:Nat→Value} {H:Heap} {nx a b:Nat} (ha:a<nx) (hb:b<nx) (h:Ctx Γ m F σ H nx):Ctx Γ m F (fun i=>σ (swp a b i)) (Hrn (swp a b) H) nx:=by
 have hr:∀ j,j<nx→swp a b j<nx∧htag (Hrn (swp a b) H) (swp a b j)=htag H j∧(fun i=>σ (swp a b i)) (swp a b j)=σ j:=fun j hj=>⟨yZ ha hb hj,jV a b H j,by simp only [OO]⟩
 have hg:∀ i x,hget (Hrn (swp a b) H) i=some x→∃ y,hget H (swp a b i)=some y∧x=y.rn (swp a b):=fun i x hx=>by
  rw [← OO a b i,YN,ae] at hx;grind
 refine ⟨h.fr,fun i x hx=>?_,fun i j x y c hx hy hc hc'=>?_,h.gl⟩
 ·obtain ⟨y,h1,rfl⟩:=hg i x hx
  obtain ⟨h2,h3⟩:=h.hp _ y h1;refine ⟨by have:=yZ ha hb h2;rwa [OO] at this,RB.rn hr h3⟩
 ·obtain ⟨x',h1,_⟩:=hg i x hx
  obtain ⟨y',h2,_⟩:=hg j y hy;exact zH (h.sep _ _ x' y' c h1 h2 hc hc')
theorem b1k {σ:Nat→Value} {H:Heap} {a b c:Nat} (h:own (Hrn (swp a b) H) (fun i=>σ (swp a b i)) c):own H σ c:=by
 obtain ⟨i,x,h1,h2⟩:=h;rw [← OO a b i,YN,ae] at h1;obtain ⟨y,h3,_⟩:=h1;exact ⟨_,y,h3,h2⟩
mutual
def FV.flat:FV→Bool
 | .int ..| .bool _| .str _| .val _=>true
 | .agg cs=>FVs.flat cs
 | .lst ..| .ES _| .own ..=>false
def FVs.flat:List FV→Bool
 |[]=>true
 |c::cs=>FV.flat c&&FVs.flat cs
end
mutual
def PV.flat:PV→Bool
 | .p x=>x.flat
 | .agg cs=>CU.flat cs
 | .Eb cs=>CU.flat cs
 | .vec ..| .ref ..| .Fj ..| .mref _=>true
 | .clo _ fs cs=>CU.flat fs&&CU.flat cs
def CU.flat:List PV→Bool
 |[]=>true
 |c::cs=>PV.flat c&&CU.flat cs
end
def HB.flat:HB→Bool
 | .box _ cs=>CU.flat cs
 | .vec _ cs _ _=>FVs.flat cs
 | .map _=>false
 | .Qv ..=>false
 | .JB ..=>false
def c3h:Heap→Bool
 |[]=>true
 |(_,x)::H=>x.flat&&c3h H
section
variable {m m':Mem} {F F':Nat→Prop} {T:Nat→Option Tg} {σ:Nat→Value} {n:Nat}
end
section
variable {E:Env} {L:Frame} {H:Heap} {nx:Nat} {Q:PV→Heap→Nat→Prop} {w:Bool}
variable {dst:Option Tmp} {ty:TypeId} {pos:String} {af:Array Edge} {gd:Option (Nat×Bool)}
end
variable {E:Env} {L:Frame} {H:Heap} {nx:Nat} {Q:PV→Heap→Nat→Prop} {w:Bool}
variable {dst:Option Tmp} {ty:TypeId} {pos:String} {af:Array Edge} {gd:Option (Nat×Bool)}
theorem a7y (σ:Nat→Value) (a:Nat):upd σ a (σ a)=σ:=by funext x;simp only [upd];split<;>simp_all
end Go.Vm
namespace Go.Vm
open Go.Am
section
variable {E:Env} {L:Vm.Frame} {H:Vm.Heap} {nx:Nat} {Q:PV→Vm.Heap→Nat→Prop} {w:Bool} {dst:Option Tmp} {ty:TypeId} {pos:String} {af:Array Edge} {gd:Option (Nat×Bool)}
theorem Aw.c2c (b:Nat) {n:Nat} {e:TypeId} {cs:List FV} (cs':List FV) {z:Bool} (hb:hget H b=some (.vec e cs n z)) (h:Jh cs cs'):Aw E L H nx L (hput H b (.vec e cs' n z)) nx:=fun B m F σ t h1 h2 h3=>by
 have hr:=RB.le (JV.vec (n:=n) (z:=z) (e:=e) h rfl) (h1.hp b _ hb).2;obtain ⟨d1,d2⟩:=h1.change (m':=m) (b0:=b) (x':=.vec e cs' n z) (s':=σ b) hb (WC.refl _) (fun _=>rfl) (ab _) (fun _ _ _=>rfl) (fun _ h _ _=>h) (fun c hc=>.inl hc) hr;exact ⟨F,_,d1,h2.step d2 h1,h3.trans d2⟩
theorem Aw.uo (d j:Nat) {b n k:Nat} {e:TypeId} {cs:List FV} {z:Bool} (hd:EZ L d=some (.vec b n 0 k)) (hb:hget H b=some (.vec e cs n z)) (hn:0<n) (hj:j≤cs.length) :
 Aw E L H nx ((d,.p (.lst e (cs.take j) k))::L) (hdel H b) nx:=fun B m F σ t h1 h2 h3=>by
 obtain ⟨c1,c2⟩:=nO h1 hb;refine ⟨_,σ,c1,fun i v hi=>?_,h3.trans c2⟩;rw [DY] at hi;by_cases ei:d=i
 ·rw [if_pos ei] at hi;cases hi
  have:=h2 d _ hd;subst ei;generalize BZ t d=u at this;cases this with
  |vec hb' hc h =>
   have hsub:=(h n (by simp [htag,hb,HB.tag])).2 rfl;obtain ⟨_,hr⟩:=h1.hp b _ hb;rcases hr with ⟨r1,r2,r3⟩|⟨c,g,vs,r1,r2,r3,r4,r5,r6,r7⟩
   ·omega
   ·rw [r1] at hsub
    subst hsub;refine .p (.lst (.inr (by rw [r1];rfl)) r4 (ws:=vs.take j) ?_ ((Df.take j r5).mono fun d hd=>⟨.inl hd,rfl⟩) (U1 r6 _));have:=r5.length;unfold takeN;grind
 ·rw [if_neg ei] at hi
  exact (h2 i v hi).step c2 h1
end
section
variable {P:Program}
structure d0d (P:Program) (t e:TypeId):Prop where
 arr:P.underlying t=some (.array 2 e)
 elt:P.underlying e=some (.int .i64)
 agg:Gv P e=some false
 sz:(P.info? e).map (·.size)=some 1
def a2V (a b:Int):Value:=.agg #[.int .i64 a,.int .i64 b]
abbrev c1t:=List ((Int×Int)×Int)
def d1e (es:c1t):List (FV×FV):=es.map fun x=>(.agg [.int .i64 x.1.1,.int .i64 x.1.2],.int .i64 x.2)
def c1m:c1t→Int→Int→Option Int
 |[],_,_=>none
 |x::es,a,b=>if a=x.1.1∧b=x.1.2 then some x.2 else c1m es a b
variable {E:Env} {L:Vm.Frame} {H:Vm.Heap} {nx:Nat} {Q:PV→Vm.Heap→Nat→Prop} {w:Bool} {dst:Option Tmp} {ty:TypeId} {pos:String} {af:Array Edge} {gd:Option (Nat×Bool)}
end
section
variable {E:Env} {L:Frame} {H:Heap} {nx:Nat}
theorem Aw.fresh (e:TypeId):Aw E L H nx L ((nx,.vec e [] 0 true)::H) (nx+1):=fun B m F σ t h1 h2 h3=>by
 obtain ⟨c1,c2⟩:=Vk e h1;exact ⟨F,_,c1,fun i v hi=>(h2 i v hi).step c2 h1,h3.trans c2⟩
variable {Q:PV→Heap→Nat→Prop} {dst:Option Tmp} {ty:TypeId} {pos:String} {af:Array Edge} {gd:Option (Nat×Bool)}
end
def CB (s:Nat):Nat→(Nat→HB)→Heap
 |0,_=>[]
 |n+1,f=>(s+n,f n)::CB s n f
theorem Rq {s:Nat} {f:Nat→HB}:∀ {n j:Nat},j<n→hget (CB s n f) (s+j)=some (f j)
 |0,_,h=>by omega
 |n+1,j,h=>by
  unfold CB;rw [Bg];by_cases e:n=j
  ·grind
  ·rw [if_neg (by omega)];exact Rq (by omega)
theorem PN {s:Nat} {f:Nat→HB}:∀ {n b:Nat},b<s∨s+n≤b→hget (CB s n f) b=none
 |0,_,_=>rfl
 |n+1,b,h=>by
  unfold CB;rw [Bg,if_neg (by omega)];exact PN (by omega)
theorem aN {s:Nat} {f g:Nat→HB}:∀ {n:Nat},(∀ j,j<n→f j=g j)→CB s n f=CB s n g
 |0,_=>rfl
 |n+1,h=>by
  unfold CB;rw [h n (by omega),aN fun j hj=>h j (by omega)]
theorem jO {s:Nat} {f:Nat→HB} {y:HB}:∀ {n j:Nat},j<n→hput (CB s n f) (s+j) y=CB s n fun i=>if i=j then y else f i
 |0,_,h=>by omega
 |n+1,j,h=>by
  unfold CB;simp only [hput];by_cases e:n=j
  ·subst e
   have hd:∃ h,Nat.decEq (s+n) (s+n)=.isTrue h:=⟨rfl,by grind⟩
   obtain ⟨_,hd⟩:=hd;rw [hd,if_pos rfl];simp only;congr 1
   exact aN fun i hi=>by grind
  ·have hd:∃ h,Nat.decEq (s+n) (s+j)=.isFalse h:=⟨by omega,by grind⟩
   obtain ⟨_,hd⟩:=hd;rw [hd,if_neg e];rw [jO (by omega)]
theorem EG {a b:Nat} {x:HB} {H:Heap} {r:Option HB} (h:a≠b) (t:hget H b=r):hget ((a,x)::H) b=r:=by rw [Bg,if_neg h];exact t
theorem RD {a b:Nat} {x y:HB} {H H':Heap} (h:a≠b) (t:hput H b y=H'):hput ((a,x)::H) b y=(a,x)::H':=by
 simp only [hput];cases hd:Nat.decEq a b with
 |isTrue e=>omega
 |isFalse _=>grind
theorem GZ {b c:Nat} {y:HB} {H:Heap} {r:Option HB} (h:b≠c) (t:hget H c=r):hget (hput H b y) c=r:=by rw [MS,if_neg h];exact t
theorem U7 {b c:Nat} {x y:HB} (h:b≠c):∀ {H:Heap},hput (hput H b x) c y=hput (hput H c y) b x
 |[]=>rfl
 |(a,z)::H=>by
  cases h1:Nat.decEq a b with
  |isTrue e1 =>
   cases h2:Nat.decEq a c with
   |isTrue e2=>omega
   |isFalse _=>simp only [hput,h1,h2]
  |isFalse _ =>
   cases h2:Nat.decEq a c with
   |isTrue e2=>simp only [hput,h1,h2]
   |isFalse _=>simp only [hput,h1,h2,U7 h (H:=H)]
theorem qF {b c:Nat} {x y:HB} {H H':Heap} (h:b≠c) (t:hput H c y=H'):hput (hput H b x) c y=hput H' b x:=by rw [U7 h,t]
theorem Zr:∀ {H T:Heap} {b:Nat},hget (H++T) b=match hget H b with|some x=>some x|none=>hget T b
 |[],_,_=>rfl
 |(a,x)::H,T,b=>by
  rw [List.cons_append,Bg,Bg];by_cases e:a=b
  ·grind
  ·rw [if_neg e,if_neg e];exact Zr
theorem BI.tail {k s:Nat} {f:Nat→HB} {H:Heap}:∀ {n:Nat},(∀ j,j<n→hget H (s+j)=some (f j))→s+n≤k→(∀ j,j<n→(f j).under k)→BI k (CB s n f) H
 |0,_,_,_=>trivial
 |n+1,h,hk,hu=>⟨⟨by omega,hu n (by omega),f n,h n (by omega),.refl _⟩,BI.tail (fun j hj=>h j (by omega)) (by omega) fun j hj=>hu j (by omega)⟩
section
variable {E:Env} {L:Frame} {H:Heap} {nx:Nat}
theorem Og {H1 H2:Heap} (h:∀ b,hget H1 b=hget H2 b):htag H1=htag H2:=by
 unfold htag;grind
theorem a3e {H1 H2:Heap} (h:∀ b,hget H1 b=hget H2 b) {σ:Nat→Value} {c:Nat} (ho:own H1 σ c):own H2 σ c:=by
 obtain ⟨b,x,hb,hc⟩:=ho;exact ⟨b,x,(h b).symm.trans hb,hc⟩
theorem Ctx.congr {Γ:Nat→Option (List Value×TypeId)} {m:Mem} {F:Nat→Prop} {σ:Nat→Value} {H1 H2:Heap} (h:∀ b,hget H1 b=hget H2 b) (c:Ctx Γ m F σ H1 nx):Ctx Γ m F σ H2 nx where
 fr:=c.fr
 hp b x hb:=by
  rw [← Og h];exact c.hp b x ((h b).trans hb)
 sep b b' x x' d h1 h2:=c.sep b b' x x' d ((h b).trans h1) ((h b').trans h2)
 gl:=c.gl
theorem Step.congr {m m':Mem} {F F':Nat→Prop} {σ σ':Nat→Value} {H0 H1 H2:Heap} {nx nx':Nat} (h:∀ b,hget H1 b=hget H2 b) (s:Step m F σ H0 nx m' F' σ' H1 nx'):Step m F σ H0 nx m' F' σ' H2 nx' where
 size:=s.size
 keep:=s.keep
 Kq:=s.Kq
 Kr:=s.Kr
 Jk c hc ho:=s.Jk c hc (a3e (fun b=>(h b).symm) ho)
 V5:=s.V5
 names:=by rw [← Og h];exact s.names
 low:=s.low
theorem Aw.congr {L1:Frame} {H1 H2:Heap} {nx1:Nat} (h:∀ b,hget H1 b=hget H2 b) (g:Aw E L H nx L1 H1 nx1):Aw E L H nx L1 H2 nx1:=fun B m F σ t h1 h2 h3=>by
 obtain ⟨F1,σ1,c1,c2,c3⟩:=g B m F σ t h1 h2 h3;refine ⟨F1,σ1,c1.congr h,?_,c3.congr h⟩;rw [← Og h];omega
theorem Aw.refl:Aw E L H nx L H nx:=fun B m F σ t h1 h2 h3=>⟨F,σ,h1,h2,h3⟩
theorem Aw.freshN' (e:TypeId):∀ n:Nat,Aw E L H nx L (CB nx n (fun _=>.vec e [] 0 true)++H) (nx+n)
 |0=>Aw.refl
 |n+1=>(Aw.freshN' e n).trans (Aw.fresh e)
theorem Aw.b6t (e:TypeId) (n:Nat) (hH:∀ b x,hget H b=some x→b<nx):Aw E L H nx L (H++CB nx n (fun _=>.vec e [] 0 true)) (nx+n) :=
 (Aw.freshN' e n).congr fun b=>by
  rw [Zr,Zr];rcases an b nx with h|h
  ·rw [PN (.inl h)]
   cases hget H b<;>rfl
  grind
theorem Zi {a n:Nat} {x:HB} {T:Heap} (h:a<n) (t:∀ b y,hget T b=some y→b<n):∀ b y,hget ((a,x)::T) b=some y→b<n:=fun b y hb=>by
 rw [Bg] at hb;grind
theorem b4k {n:Nat}:∀ b y,hget ([]:Heap) b=some y→b<n:=fun _ _ h=>by cases h
theorem a9x {σ:Nat→Value} {m:Mem} {F:Nat→Prop} {b:Nat} {e:TypeId} {Γ:Nat→Option (List Value×TypeId)} (h1:Ctx Γ m F σ H nx) (hb:hget H b=some (.vec e [] 0 true)):RP m F (htag H) σ nx (.vec b 0 0 0) Dq:=by
 obtain ⟨hlb,hrb⟩:=h1.hp b _ hb;have hσb:σ b=Dq:=by
  rcases hrb with ⟨_,_,h⟩|⟨c,g,vs,_,_,_,_,_,_,h⟩
  ·grind
  grind
 refine .vec hlb rfl fun n hn=>?_
 have:htag H b=some (.vec 0):=by unfold htag;rw [hb];rfl
 rw [this] at hn;simp only [Option.some.injEq,Tg.vec.injEq] at hn;subst hn;refine ⟨ab _,fun _=>?_⟩;rw [hσb];exact ⟨rfl,rfl,rfl⟩
end
section
variable {E:Env} {L:Frame} {H:Heap} {nx:Nat} {Q:PV→Heap→Nat→Prop}
variable {dst:Option Tmp} {ty:TypeId} {pos:String} {af:Array Edge} {gd:Option (Nat×Bool)}
theorem Aa.congr {w:Bool} {o:Oper} {Q1:PV→Heap→Nat→Prop} (h:Aa E w o L H nx Q1) (hq:∀ r H' nx',Q1 r H' nx'→∃ H'',(∀ b,hget H' b=hget H'' b)∧Q r H'' nx'):Aa E w o L H nx Q:=fun m F σ t h1 h2=>by
 refine (h m F σ t h1 h2).mono ?_;rintro v m' ⟨r,H',nx',F',σ',q,c1,c2,c3,c4⟩;obtain ⟨H'',e,q'⟩:=hq r H' nx' q;refine ⟨r,H'',nx',F',σ',q',c1.congr e,?_,c3.congr e,c4⟩;rw [← Og e];omega
def su (ρ:Nat→Nat) (H:Heap):Heap→Prop
 |[]=>True
 |(i,x)::Hc=>hget H (ρ i)=some (x.rn ρ)∧su ρ H Hc
theorem su.hin {ρ:Nat→Nat} {H:Heap}:∀ {Hc:Heap},su ρ H Hc→HIn ρ H Hc
 |[],_=>trivial
 |(i,x)::Hc,⟨h1,h2⟩=>⟨⟨_,h1,.refl _⟩,su.hin h2⟩
theorem su.get {ρ:Nat→Nat} {H:Heap}:∀ {Hc:Heap},su ρ H Hc→∀ i x,hget Hc i=some x→hget H (ρ i)=some (x.rn ρ)
 |[],_,_,_,h=>by cases h
 |(j,y)::Hc,⟨h1,h2⟩,i,x,h=>by
  rw [Bg] at h;by_cases e:j=i
  ·grind
  ·rw [if_neg e] at h;exact su.get h2 i x h
def allIn:Nat→Heap→Bool
 |0,_=>true
 |n+1,Hc=>(hget Hc n).isSome&&allIn n Hc
theorem jI {Hc:Heap}:∀ {n i:Nat},allIn n Hc=true→i<n→(hget Hc i).isSome=true
 |0,_,_,h=>by omega
 |n+1,i,h,hi=>by
  simp only [allIn,Bool.and_eq_true] at h;by_cases e:i=n
  ·grind
  ·exact jI h.2 (by omega)
theorem Aa.b5j {fo:Operand} {args:Array Operand} {aT:Array TypeId} {g:FuncId} {fs cs Bq ac:List PV} {Hc:Heap} {x:FV} (ns:List Nat) (hc:ER E g ac Hc ns.length x)
 (hf:AU E.Γ L fo=some (.clo g fs cs)) (ha:evs E.Γ L args.toList=some Bq) (hle:OG (fs++Bq++cs) (CU.rn (rho ns nx) ac)) (hu:CU.under ns.length ac) (yS:Lp ns.length Hc) (hin:su (rho ns nx) H Hc) (hall:allIn ns.length Hc=true) (hnd:ns.Nodup) (hlt:∀ b∈ns,b<nx) (q:Q (.p x) H nx) :
 Aa E true ⟨dst,.call { callee:=.value fo,args:=args,argTypes:=aT },ty,pos,af,gd⟩ L H nx Q:=by
 have hge:∀ i,ns.length≤i→rho ns nx i=nx+(i-ns.length):=fun i hi=>b0s hi
 have hinj:∀ i j,rho ns nx i=rho ns nx j→ns.length≤i→ns.length≤j→i=j:=fun i j e hi hj=>by
  grind
 refine Aa.congr (Aa.cZ hf ha hle hu yS hin.hin hnd hlt (fun h=>by cases h) hc (Q:=fun r H' nx'=>r=.p x∧(∀ b,hget H' b=hget H b)∧nx'=nx) ?_) fun r H' nx' ⟨h1,h2,h3⟩=>⟨H,h2,by grind⟩
 rintro r H' nx' ⟨rfl,rfl,rfl⟩;refine ⟨rfl,fun b=>?_,by omega⟩;rcases KL (k:=ns.length) (ρ:=rho ns nx) (H:=merge ns (rho ns nx) H' H) (H':=H') (b:=b) hinj with ⟨i,hi,e1,e2,e3⟩|⟨_,e⟩
 ·cases h0:hget H' i with
  |none=>rw [h0] at e2;simp at e2
  |some y=>have:=(yS.get i y h0).1;omega
 ·rw [e]
  cases hi:idx ns b with
  |none=>rw [F7 hi]
  |some i =>
   have h0:=ZC hi;have hb:rho ns nx i=b:=a6a h0;rw [J6 hi];cases h1:hget H b with
   |none=>rfl
   |some y =>
    cases h2:hget H' i with
    |none =>
     have hlt':i<ns.length:=by
      rcases an i ns.length with h|h
      ·exact h
      ·rw [aE h] at h0;cases h0
     have:=jI hall hlt';rw [h2] at this;cases this
    |some x =>
     have:=hin.get i x h2;rw [hb,h1] at this;simpa using this.symm
end
structure IsKey (P:Program) (t:TypeId) {α:Type} [DecidableEq α] (kf:α→List FV) (kv:α→List Value):Prop where
 val:∀ a,FB (kf a)=some (kv a)
 agg:SX P t=true
 eq:∀ a b,Dt P (Op.equal t (.agg (kv a).toArray) (.agg (kv b).toArray))=some (decide (a=b))
 chk:∀ fl a,Xx P (Instr.checkKey fl 10000 t (.agg (kv a).toArray))=true
def BO {α β:Type} [DecidableEq α]:List (α×β)→α→Option β
 |[],_=>none
 |x::es,a=>if a=x.1 then some x.2 else BO es a
def Cb {α β:Type} [DecidableEq α]:List (α×β)→α→β→List (α×β)
 |[],a,b=>[(a,b)]
 |x::es,a,b=>if a=x.1 then (a,b)::es else x::Cb es a b
def FH {α β:Type} [DecidableEq α]:List (α×β)→α→Nat
 |[],_=>0
 |x::es,a=>if a=x.1 then 0 else FH es a+1
def VU {α:Type} (kf:α→List FV) (es:List (α×PV)):HB:=.JB (es.map fun x=>.agg (kf x.1)) (es.map (·.2))
theorem OL:∀ {l:List FV} {vs:List Value},FB l=some vs→vs.all Am.plainCell=true
 |[],_,h=>by cases h;rfl
 |x::l,vs,h=>by
  simp only [FB] at h;split at h
  ·rename_i v r h1 h2
   cases h;rw [List.all_cons,cX];refine ⟨?_,OL h2⟩;cases x<;>simp only [iU,Option.some.injEq,reduceCtorEq] at h1<;>subst h1<;>rfl
  grind
theorem Df.a5c {m:Mem} {F:Nat→Prop}:∀ {l:List FV} {vs:List Value},FB l=some vs→Df m F l vs
 |[],_,h=>by cases h;exact .nil
 |x::l,vs,h=>by
  simp only [FB] at h;split at h
  ·rename_i v r h1 h2
   cases h;refine .cons ?_ (Df.a5c h2);cases x<;>simp only [iU,Option.some.injEq,reduceCtorEq] at h1<;>subst h1
   ·exact .int _ _
   ·exact .bool _
   ·exact .str _
  grind
theorem Xf:∀ {l:List FV} {vs:List Value},FB l=some vs→∀ x∈vs,∀ n,Instr.sameBits (n+1) x x=true
 |[],_,h=>by cases h;simp
 |x::l,vs,h=>by
  simp only [FB] at h;split at h
  ·rename_i v r h1 h2
   cases h;intro y hy n;rcases bl.1 hy with rfl|hy
   ·cases x<;>simp only [iU,Option.some.injEq,reduceCtorEq] at h1<;>subst h1<;>simp [Instr.sameBits,Np]
   ·exact Xf h2 y hy n
  grind
def b0l:TypeDesc→Bool
 | .int _=>true
 | .bool=>true
 | .string=>true
 |_=>false
def nY (P:Program):List Field→Array Value→Bool
 |[],_=>true
 |f::fs,xs=>(match Gv P f.type,P.underlying f.type,xs[f.offset]? with|some false,some d,some _=>b0l d|_,_,_=>false)&&nY P fs xs
theorem bf {P:Program} {fl:Bool} {n:Nat} (xs:Array Value):∀ (fs:List Field),nY P fs xs=true→Dt P (forIn fs PUnit.unit fun f _=>(do
 if f.name≠"_" then do
  let x ← part f.type xs f.offset
  Instr.checkKey fl (n+1) f.type x
  pure (ForInStep.yield PUnit.unit)
 else pure (ForInStep.yield PUnit.unit):Sem (ForInStep PUnit)))=some PUnit.unit
 |[],_=>rfl
 |f::fs,h=>by
  simp only [nY,Bool.and_eq_true] at h;obtain ⟨h1,h2⟩:=h;have ih:=bf (P:=P) (fl:=fl) (n:=n) xs fs h2;split at h1
  ·rename_i d v e1 e2 e3
   rw [em,Ar];by_cases hn:f.name≠"_"
   ·rw [if_pos hn]
    have hck:Dt P (Instr.checkKey fl (n+1) f.type v)=some ():=by
     rw [Instr.checkKey];simp only [Ar,AV,e2,Option.bind_some];cases d<;>first|rfl|cases h1
    simp only [Ar,Gg e1 e3,Option.bind_some,hck,BQ];omega
   ·rw [if_neg hn]
    assumption
  grind
section
variable {P:Program} {α:Type} [DecidableEq α] {kf:α→List FV} {kv:α→List Value} {t:TypeId}
theorem IsKey.rel (h:IsKey P t kf kv) {m:Mem} {F:Nat→Prop} {a:α} {v:Value} (r:RF m F (.agg (kf a)) v):v=.agg (kv a).toArray:=by
 cases r with
 |agg r hc=>rw [(OJ r (h.val a)).1]
theorem IsKey.of (h:IsKey P t kf kv) {m:Mem} {F:Nat→Prop} (a:α):RF m F (.agg (kf a)) (.agg (kv a).toArray) :=
 .agg (Df.a5c (h.val a)) (CY (OL (h.val a)))
theorem IsKey.plain (h:IsKey P t kf kv) (a:α):Am.plain (.agg (kv a).toArray)=true:=by
 show Am.F8 (.agg (kv a).toArray)=true;simpa [Am.F8] using OL (h.val a)
theorem IsKey.bits (h:IsKey P t kf kv) (a:α):Instr.sameBits 10000 (.agg (kv a).toArray) (.agg (kv a).toArray)=true:=by
 have hv:=Xf (h.val a);show (decide _&&_)=true;simp only [List.size_toArray,Bool.and_eq_true];refine ⟨by simp,?_⟩;rw [aD];rintro ⟨x,y⟩ hxy;have hz:∀ (l:List Value),(x,y)∈l.zip l→x=y∧x∈l:=by
  intro l
  induction l with
  |nil=>simp
  |cons b l ih =>
   intro h;rcases bl.1 h with h|h
   ·grind
   ·obtain ⟨e,m⟩:=ih h
    grind
 grind
theorem IsKey.of_struct {fs:Array Field} (hu:P.underlying t=some (.struct fs)) (hp:P.stoodInHeld t=false) (hv:∀ a,FB (kf a)=some (kv a)) (he:∀ a b,gZ P fs.toList (kv a).toArray (kv b).toArray=some (decide (a=b))) (hc:∀ a,nY P fs.toList (kv a).toArray=true):IsKey P t kf kv where
 val:=hv
 agg:=by unfold SX;rw [hu]
 eq a b:=Oi (d:=9998) hu hp (he a b)
 chk fl a:=by
  have:Dt P (Instr.checkKey fl 10000 t (.agg (kv a).toArray))=some ():=by
   rw [Instr.checkKey];simp only [Ar,AV,hu,Option.bind_some];rw [← eI,bf (n:=9998) _ _ (hc a)];rfl
  unfold Xx;grind
theorem mQ (h:IsKey P t kf kv) {m:Mem} {F:Nat→Prop}:∀ {es:List (α×PV)} {ks:List Value},Df m F (es.map fun x=>.agg (kf x.1)) ks→ks=es.map fun x=>.agg (kv x.1).toArray
 |[],_,r=>by cases r;rfl
 |x::es,_,r=>by
  cases r with
  |cons r1 r2=>rw [h.rel r1,mQ h r2];rfl
theorem xq (h:IsKey P t kf kv) {m:Mem} {F:Nat→Prop} {T:Nat→Option Tg} {σ:Nat→Value} {n:Nat} (a:α):∀ {es:List (α×PV)} {l:List MapEntry},l.map (·.key)=es.map (fun x=>.agg (kv x.1).toArray)→Dj m F T σ n (es.map (·.2)) (l.map (·.val))→∀ (i:Nat),
 (BO es a=none→Dt P (Instr.findAsking t (.agg (kv a).toArray) l i)=some none∧FH es a=es.length∧∀ b,Cb es a b=es++[(a,b)]) ∧
 (∀ c,BO es a=some c→∃ j v,Dt P (Instr.findAsking t (.agg (kv a).toArray) l i)=some (some (i+j,v))∧RP m F T σ n c v∧(∃ e,l[j]?=some e∧e.key=.agg (kv a).toArray∧e.val=v)∧FH es a=j∧∀ b,Cb es a b=es.set j (a,b))
 |[],[],_,_,i=>⟨fun _=>⟨rfl,rfl,fun _=>rfl⟩,fun v hv=>by cases hv⟩
 |[],y::l,h1,_,_=>by grind
 |x::es,[],h1,_,_=>by grind
 |x::es,y::l,h1,h2,i=>by
  simp only [List.map_cons,List.cons.injEq] at h1 h2;cases h2 with
  |cons r1 r2 =>
   obtain ⟨i1,i2⟩:=xq h a h1.2 r2 (i+1);rw [Instr.findAsking,h1.1];simp only [Ar,h.eq,Option.bind_some];unfold BO Cb FH;by_cases hc:a=x.1
   ·rw [if_pos hc,decide_eq_true hc]
    refine ⟨fun h=>(by cases h),fun v hv=>⟨0,y.val,?_,?_,⟨y,rfl,by grind,rfl⟩,by grind,fun b=>?_⟩⟩
    ·rfl
    ·grind
    grind
   grind
theorem YD (h:IsKey P t kf kv) (fl:Bool) (a:α) (l:List MapEntry):Iy P fl t (.agg (kv a).toArray) l=Dt P (Instr.findAsking t (.agg (kv a).toArray) l 0):=by
 have hg:=h.agg;obtain ⟨d,hu,hd⟩:=bI h.agg;have hk:Ef P t=none:=by
  unfold SX at hg;unfold Ef;grind
 unfold Iy;rw [hk,hg,h.chk fl a];simp only [Bool.and_self,if_true,Instr.findKey,Ar,AV,hu,Option.bind_some];cases l with
 |nil=>rfl
 |cons x l =>
  unfold Instr.findNow;rw [hd]
variable {E:Env} {L:Vm.Frame} {H:Vm.Heap} {nx:Nat} {Q:PV→Vm.Heap→Nat→Prop} {w:Bool} {dst:Option Tmp} {ty:TypeId} {pos:String} {af:Array Edge} {gd:Option (Nat×Bool)}
theorem lD {Γ:Nat→Option (List Value×TypeId)} {m:Mem} {F:Nat→Prop} {σ:Nat→Value} {tt:Tr Value} {a:α} {o:Operand} (h:IsKey P t kf kv) (hx:Ctx Γ m F σ H nx) (hl:RL m F (htag H) σ nx L tt) (hv:AU Γ L o=some (.p (.agg (kf a)))):ev tt o=.agg (kv a).toArray:=by
 have:=BA hx hl hv;cases this with
 |p r=>exact h.rel r
theorem I7 {Γ:Nat→Option (List Value×TypeId)} {m:Mem} {F:Nat→Prop} {σ:Nat→Value} {t:Tr Value} {b:Nat} {o:Operand} {ks:List FV} {cs:List PV} (hx:Ctx Γ m F σ H nx) (hl:RL m F (htag H) σ nx L t) (h:AU Γ L o=some (.mref b)) (hb:hget H b=some (.JB ks cs)):ev t o=σ b:=by
 have:=BA hx hl h;cases this with
 |mref _ _ h3=>exact h3 (by simp [htag,hb,HB.tag])
theorem Aa.aG {t:TypeId} (q:Q (.mref nx) ((nx,.JB [] [])::H) (nx+1)):Aa E w ⟨dst,.makeMap t none,ty,pos,af,gd⟩ L H nx Q:=by
 intro m F σ tt h1 h2;obtain ⟨c1,c2,c3⟩:=h1.new (m':=m.alloc (.map [] 0)) (x:=.JB [] []) (s:=.map (some m.size)) (by simp [Mem.alloc]) (fun c hc=>by rw [Mem.Bd,if_neg (by omega)]) (by simp only [Mem.alloc];omega) (fun c hc=>by simp only [Dc,Option.some.injEq] at hc;omega)
  ⟨m.size,[],0,rfl,by simp [Mem.alloc],fun hf=>cv _ (h1.fr _ hf),by rw [Mem.Bd,if_pos rfl],.nil,.nil,rfl,rfl⟩
 exact Gp.op (v:=.map (some m.size)) (fun _=>rfl) ⟨_,_,_,F,_,q,c1,.mref (bL _) rfl fun _=>(upd_same _ _ _).symm,c2,fun _=>c3⟩
theorem La {α:Type} {g:α→α} {e:α}:∀ {l:List α} {j:Nat},l[j]?=some e→l.modify j g=l.set j (g e)
 |[],j,h=>by simp
 |a::l,0,h=>by grind
 |a::l,j+1,h=>by
  rw [List.modify_succ_cons,eK,La (by assumption)]
theorem Stamped.push {l:List MapEntry} {clock:Nat} {k v:Value} (h:Stamped l clock):Stamped (l++[{ key:=k,val:=v,born:=clock }]) (clock+1):=by
 obtain ⟨h1,h2⟩:=h;subst h2;refine ⟨?_,by simp⟩;rw [bm,h1,ar,List.length_singleton,List.range_succ];rfl
theorem Stamped.modify {l:List MapEntry} {clock i:Nat} {f:MapEntry→MapEntry} (h:Stamped l clock) (hf:∀ e,(f e).born=e.born):Stamped (l.modify i f) clock:=by
 obtain ⟨h1,h2⟩:=h;refine ⟨?_,by grind⟩;apply bt;grind
theorem Stamped.at {l:List MapEntry} {clock i:Nat} {e:MapEntry} (h:Stamped l clock) (he:l[i]?=some e):e.born=i:=by
 have h1:(l.map (·.born))[i]?=some e.born:=by grind
 rw [h.1] at h1;grind
theorem Stamped.find {l:List MapEntry} {clock i:Nat} (h:Stamped l clock) (hi:i<l.length):l.findIdx? (fun e=>(e.born:Int)==(i:Int))=some i:=by
 rw [List.findIdx?_eq_some_iff_getElem];refine ⟨hi,?_,fun j hj=>?_⟩
 ·rw [h.at (ai hi)];simp
 ·rw [h.at (ai (by omega:j<l.length))]
  grind
theorem gu {β:Type}:∀ {es:List (α×β)} {a:α},FH es a≤es.length∧(FH es a<es.length↔(BO es a).isSome)
 |[],_=>⟨ab _,by simp [FH,BO]⟩
 |x::es,a=>by
  obtain ⟨h1,h2⟩:=gu (es:=es) (a:=a);unfold FH BO;grind
theorem oI {β:Type}:∀ {es:List (α×β)} {a:α} {b:β},FH es a<(Cb es a b).length
 |[],a,b=>by simp [FH,Cb]
 |x::es,a,b=>by
  unfold FH Cb;by_cases h:a=x.1
  ·grind
  ·have:=oI (es:=es) (a:=a) (b:=b)
   grind
theorem dH {β:Type}:∀ {es:List (α×β)} {a:α} {b c:β},(Cb es a b).set (FH es a) (a,c)=Cb es a c
 |[],a,b,c=>by rfl
 |x::es,a,b,c=>by
  unfold FH Cb;by_cases h:a=x.1
  ·grind
  ·rw [if_neg h,if_neg h,if_neg h,eK,dH]
theorem UU {β:Type}:∀ {es:List (α×β)} {a:α} {c:β},((Cb es a c)[FH es a]?).map (·.1)=some a
 |[],a,c=>by rfl
 |x::es,a,c=>by
  unfold FH Cb;by_cases e:a=x.1
  ·grind
  ·rw [if_neg e,if_neg e,gr,UU]
def Lj (E:Env) (H:Vm.Heap) (nx:Nat) (es:List (α×PV)) (a:α) (z:Value) (c:PV):Prop :=
 BO es a=some c∨BO es a=none∧∀ m F σ,Ctx E.Γ m F σ H nx→RP m F (htag H) σ nx c z
theorem Lj.b7q {es:List (α×PV)} {a:α} {b:Nat} {e:TypeId} (h:BO es a=none) (hb:hget H b=some (.vec e [] 0 true)):Lj E H nx es a Dq (.vec b 0 0 0) :=
 .inr ⟨h,fun _ _ _ c=>a9x c hb⟩
theorem Lj.const {es:List (α×PV)} {a:α} {z:Value} {zp:PV} (h:BO es a=none) (hz:YR z=some zp):Lj E H nx es a z zp :=
 .inr ⟨h,fun _ _ _ _=>XQ hz⟩
theorem Aa.zu {t kt et:TypeId} {x k:Operand} {b:Nat} {es:List (α×PV)} {a:α} {z:Value} {c:PV} (hkt:IsKey E.P kt kf kv) (hx:AU E.Γ L x=some (.mref b)) (hb:hget H b=some (VU kf es)) (hk:AU E.Γ L k=some (.p (.agg (kf a))))
 (ht:E.P.underlying t=some (.map kt et)) (hz:zeroOf E.P et=some z) (hzp:Am.plain z=true) (hv:Lj E H nx es a z c) (q:Q c H nx):Aa E w ⟨dst,.lookup t x k false,ty,pos,af,gd⟩ L H nx Q :=
 Aa.quiet q fun m F σ tt c1 c2=>by
  obtain ⟨_,r,l,clock,r1,r2,r3,r4,r5,r6,r7⟩:=c1.hp b _ hb;have e1:=mQ hkt r5;obtain ⟨f1,f2⟩:=xq hkt a e1 r6 0;have hpl:(Am.plain z&&Am.plain (.agg (kv a).toArray))=true:=by rw [hzp,hkt.plain];rfl
  rcases hv with hv|⟨hv,hc⟩
  ·obtain ⟨j,u,f3,f4,_⟩:=f2 c hv
   refine ⟨u,fun _=>?_,f4⟩;simp only [BR,Fq,Mc,ht,hz,I7 c1 c2 hx hb,lD hkt c1 c2 hk,r1,r4,hpl,if_true,YD hkt,f3,Option.map_some,Bool.false_eq_true,if_false]
  ·have f3:=(f1 hv).1
   refine ⟨z,fun _=>?_,hc m F σ c1⟩;simp only [BR,Fq,Mc,ht,hz,I7 c1 c2 hx hb,lD hkt c1 c2 hk,r1,r4,hpl,if_true,YD hkt,f3,Option.map_some,Bool.false_eq_true,if_false]
theorem Dj.snoc {m:Mem} {F:Nat→Prop} {T:Nat→Option Tg} {σ:Nat→Value} {n:Nat}:∀ {cs:List PV} {vs:List Value} {c:PV} {v:Value},Dj m F T σ n cs vs→RP m F T σ n c v→Dj m F T σ n (cs++[c]) (vs++[v])
 |_,_,_,_,.nil,h=>.cons h .nil
 |_,_,_,_,.cons a t,h=>.cons a (Dj.snoc t h)
theorem a0c {t:TypeId} (hkt:IsKey P t kf kv) {m:Mem} {F:Nat→Prop}:∀ (es:List (α×PV)),Df m F (es.map fun x=>.agg (kf x.1)) (es.map fun x=>.agg (kv x.1).toArray)
 |[]=>.nil
 |x::l=>.cons (hkt.of x.1) (a0c hkt l)
theorem PX {m:Mem} {F:Nat→Prop} {σ:Nat→Value} {kt:TypeId} {b r:Nat} {es es':List (α×PV)} {l':List MapEntry} {clock':Nat} (hkt:IsKey P kt kf kv) {Γ:Nat→Option (List Value×TypeId)} (c1:Ctx Γ m F σ H nx) (hb:hget H b=some (VU kf es)) (r1:σ b=.map (some r)) (r2:r<m.size) (r3:¬ F r)
 (k1:l'.map (·.key)=es'.map (fun x=>.agg (kv x.1).toArray)) (k2:Dj m F (htag H) σ nx (es'.map (·.2)) (l'.map (·.val))) (k3:Stamped l' clock') :
 Ctx Γ (m.put r (.map l' clock')) F σ (hput H b (VU kf es')) nx∧Step m F σ H nx (m.put r (.map l' clock')) F σ (hput H b (VU kf es')) nx:=by
 have hput':∀ d' x,r≠d'→(m.put r x).get d'=m.get d':=fun d' x hd=>by rw [Mem.get_put,if_neg hd]
 have:=c1.change (m':=m.put r (.map l' clock')) (x':=VU kf es') (s':=σ b) hb trivial (fun _=>rfl) (ab _)
  (fun d' _ hd=>hput' d' _ fun e=>hd (by rw [r1,e];rfl)) (fun k k1 k2 k3=>by
   have:=k3 r (by rw [r1];rfl);simp only [Mem.put];omega) (fun d' hd=>.inl hd) (by
   have hF:∀ d',F d'→F d'∧(m.put r (.map l' clock')).get d'=m.get d':=fun d' hd=>⟨hd,hput' d' _ fun e=>r3 (e▸hd)⟩
   refine ⟨r,l',clock',r1,r2,r3,by rw [Mem.get_put,if_pos rfl],?_,?_,k3⟩
   ·rw [k1]
    exact a0c hkt es'
   ·exact k2.mono hF (G6 (x':=VU kf es') hb trivial fun _=>rfl) (ab _))
 rw [a7y] at this;omega
theorem Aa.b7j {t kt et:TypeId} {x k:Operand} {b:Nat} {es:List (α×PV)} {a:α} {c:PV} {z:Value} (hkt:IsKey E.P kt kf kv) (hx:AU E.Γ L x=some (.mref b)) (hb:hget H b=some (VU kf es)) (hk:AU E.Γ L k=some (.p (.agg (kf a))))
 (ht:E.P.underlying t=some (.map kt et)) (hz:zeroOf E.P et=some z) (hzp:Am.plain z=true) (hv:Lj E H nx es a z c) {H':Vm.Heap} (hH:hput H b (VU kf (Cb es a c))=H') (q:Q (.Eb [c,.p (.int .i64 (FH es a:Nat))]) H' nx):Aa E true ⟨dst,.mapEntry t x k,ty,pos,af,gd⟩ L H nx Q:=by
 subst hH;intro m F σ tt c1 c2;obtain ⟨_,r,l,clock,r1,r2,r3,r4,r5,r6,r7⟩:=c1.hp b _ hb;have e1:=mQ hkt r5;obtain ⟨f1,f2⟩:=xq hkt a e1 r6 0;have hup:TI E.P t (ev tt x) (ev tt k) m=match Iy E.P false kt (.agg (kv a).toArray) l with
  |some (some (i,v))=>if (Ef E.P kt).isSome||Instr.sameBits 10000 (((l[i]?).map (·.key)).getD (.agg (kv a).toArray)) (.agg (kv a).toArray) then some (.tuple #[v,.int .i64 ((((l[i]?).map (·.born)).getD 0:Nat):Int)],m.put r (.map (l.modify i fun e=>{ e with key:=.agg (kv a).toArray }) clock)) else none
  |some none=>some (.tuple #[z,.int .i64 ((clock:Nat):Int)],m.put r (.map (l++[{ key:=.agg (kv a).toArray,val:=z,born:=clock }]) (clock+1)))
  |none=>none:=by
  unfold TI;simp only [ht,I7 c1 c2 hx hb,lD hkt c1 c2 hk,r1,r4,hkt.plain,if_true,hz,hzp];rfl
 rw [YD hkt] at hup;have hlen:l.length=es.length:=by
  have:=congrArg List.length e1;grind
 rcases hv with hl|⟨hl,hc⟩
 ·obtain ⟨j,u,f3,f4,⟨e0,f5,f5',f5''⟩,f7,f6⟩:=f2 c hl
  rw [cD] at f3;rw [f3] at hup;simp only [f5,Option.map_some,Option.getD_some,f5',hkt.bits,Bool.or_true,if_true,r7.at f5] at hup;have hmod:∀ (g:MapEntry→MapEntry),l.modify j g=l.set j (g e0):=fun g=>La f5
  obtain ⟨d1,d2⟩:=PX hkt c1 hb r1 r2 r3 (es':=Cb es a c) (l':=l.modify j fun e=>{ e with key:=.agg (kv a).toArray }) (by simp_all) (by rw [hmod,f6 c,cG,cG];exact r6.set j (by grind)) (r7.modify fun _=>rfl);refine Gp.op (v:=.tuple #[u,.int .i64 ((j:Nat):Int)]) (fun _=>by assumption) ⟨_,_,_,F,_,q,d1,?_,d2,fun h=>by cases h⟩;rw [f7];exact .Eb (.cons (f4.step d2 c1) (.cons (.p (.int _ _)) .nil))
 ·obtain ⟨f3,f7,f4⟩:=f1 hl
  rw [f3] at hup;have hcz:=hc m F σ c1;obtain ⟨d1,d2⟩:=PX hkt c1 hb r1 r2 r3 (es':=Cb es a c) (l':=l++[{ key:=.agg (kv a).toArray,val:=z,born:=clock }]) (clock':=clock+1) (by grind) (by rw [f4 c,bm,bm];exact Dj.snoc r6 hcz) r7.push;refine Gp.op (v:=.tuple #[z,.int .i64 ((clock:Nat):Int)]) (fun _=>by assumption) ⟨_,_,_,F,_,q,d1,?_,d2,fun h=>by cases h⟩;rw [f7,← hlen,← r7.2];exact .Eb (.cons (hcz.step d2 c1) (.cons (.p (.int _ _)) .nil))
theorem Aa.a3j {t kt:TypeId} {x k y:Operand} {b:Nat} {es:List (α×PV)} {a:α} {c0 c:PV} (hkt:IsKey E.P kt kf kv) (hx:AU E.Γ L x=some (.mref b)) (hb:hget H b=some (VU kf (Cb es a c0))) (hk:AU E.Γ L k=some (.p (.int .i64 (FH es a:Nat)))) (hy:AU E.Γ L y=some c)
 {H':Vm.Heap} (hH:hput H b (VU kf (Cb es a c))=H') (q:Q (.Eb []) H' nx):Aa E true ⟨dst,.entryStore t x k y,ty,pos,af,gd⟩ L H nx Q:=by
 subst hH;intro m F σ tt c1 c2;obtain ⟨_,r,l,clock,r1,r2,r3,r4,r5,r6,r7⟩:=c1.hp b _ hb;have e1:=mQ hkt r5;have hyv:=BA c1 c2 hy;have hkv:ev tt k=.int .i64 ((FH es a:Nat):Int):=c0e c1 c2 hk;have hlen:l.length=(Cb es a c0).length:=by
  have:=congrArg List.length e1;grind
 have hi:FH es a<l.length:=by rw [hlen];exact oI
 have hmod:∀ (g:MapEntry→MapEntry),l.modify (FH es a) g=l.set (FH es a) (g l[FH es a]):=fun g=>La (ai hi)
 obtain ⟨d1,d2⟩:=PX hkt c1 hb r1 r2 r3 (es':=Cb es a c) (l':=l.modify (FH es a) fun e=>{ e with val:=ev tt y }) (by
  rw [hmod,cG,← dH (b:=c0),cG];have hkey:l[FH es a].key=.agg (kv a).toArray:=by
   have h1:(l.map (·.key))[FH es a]?=some l[FH es a].key:=by grind
   have h2:=UU (es:=es) (a:=a) (c:=c0);grind
  grind) (by
  rw [hmod,cG,← dH (b:=c0),cG];exact r6.set _ hyv) (r7.modify fun _=>rfl)
 exact Gp.op (v:=undef) (fun _=>by simp only [BR,Fq,Ir,I7 c1 c2 hx hb,hkv,r1,r4,r7.find hi,Option.map_some]) ⟨_,_,_,F,_,q,d1,.Eb .nil,d2,fun h=>by cases h⟩
theorem Aa.a9q {α:Type} {_:Enc α} {l:List α} {a:α} {s x:Operand} {sT xT e e2:TypeId} {xd:TypeDesc} {i:TypeInfo} {b b2 n:Nat} {xs:List FV} {z z2:Bool} (hs:AU E.Γ L s=some (.vec b n 0 n)) (hb:hget H b=some (.vec e (cells l) n z))
 (hx:AU E.Γ L x=some (.vec b2 1 0 1)) (hb2:hget H b2=some (.vec e2 xs 1 z2)) (hxs:xs=Enc.enc a) (hn:l.length=n) (wu:E.P.underlying sT=some (.slice e)) (hxT:E.P.underlying xT=some xd) (hd:∀ k,xd≠.int k) (hi:E.P.info? e=some i)
 (hsz:Enc.size α=i.size) (hzs:Ee i=true) (h0:0<i.size) (hby:i.bytes<1000000) (hlen:l.length<1000000) {H':Vm.Heap} (hH:hput H b (.vec e (cells (l++[a])) (l.length+1) z)=H') (q:Q (.vec b (l.length+1) 0 (l.length+1)) H' nx) :
 Aa E true ⟨dst,.call { callee:=.builtin .append,args:=#[s,x],argTypes:=#[sT,xT] },ty,pos,af,gd⟩ L H nx Q:=by
 subst hH;exact Aa.CW hs hb hx hb2 hxs hn wu hxT hd hi hsz hzs h0 hby hlen q
end
end Go.Vm
