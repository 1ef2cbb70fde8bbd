/-
  Texts of a proof, merged (OrE, VmG, OrN, TraE, PieA, PieP, Vm31, Vm36, Vm32, Vm33, Vm34, Vm37, Vm38, Vm40, Vm41, Vm42). Conditions: in each statement.
-/
import Derived.Lib.SlicesCompact
import Derived.Test.YtnjkoebfgcbbdaaGreatDoorKCj
set_option linter.unusedSimpArgs false
set_option linter.unusedVariables false
set_option linter.unusedSectionVars false
set_option maxRecDepth 100000
set_option maxHeartbeats 8000000
abbrev bk:=@List.map_append
abbrev cy:=@List.map_set
abbrev cJ:=@Decidable.byContradiction
abbrev cK:=@List.mem_iff_getElem
abbrev en:=@List.set_cons_succ
abbrev eI:=@List.drop_of_length_le
abbrev fT:=@List.mem_take_iff_getElem
abbrev fW:=@List.pairwise_iff_getElem
namespace Go.Proofs.YtnjkoebfgcbbdaaGreatDoor
open Go Go.Am Go.Vm
attribute [local irreducible] Aa Ah Af Ad Az Ai Ba Bq Bd Aj Vm.Done Bg AB
attribute [local irreducible] BR A8 DJ Dx DX
theorem TB {α:Type} [Inhabited α] (f:α→List UInt8) {l:List α} {k:Nat} (hk:k<l.length):(l.take (k+1)).map f=(l.take k).map f++[f (gi l k)]:=by
 rw [ED hk,bk];rfl
theorem Tq {L:Vm.Frame} {H:Vm.Heap} {nx:Nat} {Q:PV→Vm.Heap→Nat→Prop} {dst:Option Tmp} {ty:TypeId} {pos:String} {af:Array Edge} {gd:Option (Nat×Bool)} {fo:Operand} {args:Array Operand} {aT:Array TypeId} {fs cs xs:List PV} {c:Code}
 (hf:AU env.Γ L fo=some (.clo 119 fs cs)) (ha:evs env.Γ L args.toList=some xs) (hb:Tryz.f119.body=some c) (hn:(fs++xs++cs).length≤Tryz.f119.ntmps)
 (h:Ad env nx c (CG 0 (fs++xs++cs)) H nx (AB env.P Tryz.f119.results.toList Q)):Aa env true ⟨dst,.call { callee:=.value fo,args:=args,argTypes:=aT },ty,pos,af,gd⟩ L H nx Q:=by
 have h0:(match Tryz.f119.body with|some c=>IL env.G Tryz.f119 c|none=>false)=true:=by kernel_rfl
 rw [hb] at h0;exact Aa.inline rfl hf ha (Ae (by decide)) Tryz.func119 hb h0 hn h
theorem bU (o:Ho) (d:iW) (ho:LQ o) (hd:b3y d):Ai env 120 [.agg (Enc.enc o),.agg (Enc.enc d)] (.p (.int .i64 (Dx o.ranks d))):=by
 have hc:=Za d.lo d.hi;obtain ⟨d1,d2,d3⟩:=hd;unfold Dx;refine Ai.enter (Ae (by decide)) Tryz.func120 rfl (by kernel_rfl) (by simp [Tryz.ntmps120]) ?_;by_cases h0:XY d.lo d.hi=0
 case neg =>
  rw [if_pos h0]
  repeat' (first|(apply Aa.fn;rfl;rfl;exact hc;intro _;rfl)|refine Cb ?_|(apply Aa.int;rfl;rfl;rfl)|(apply Ad.Ac;rfl)|(intro _;try (exfalso;omega)))
  all_goals first|(exfalso;omega)|(refine Done.rt rfl rfl ⟨?_,rfl,rfl⟩;try rfl)
 rw [h0] at hc ⊢;rw [if_neg (by decide)]
 repeat' (first|(apply Aa.fn;rfl;rfl;exact hc;intro _;rfl)|(apply Aa.makeMap)|refine Cb ?_|(apply Aa.int;rfl;rfl;rfl)|(apply Ad.Ak;rfl)|(apply Ad.Ac;rfl)|(intro _;try (exfalso;omega)))
 all_goals try contradiction
 ·rw [if_pos (by omega)];(refine Done.rt rfl rfl ⟨?_,rfl,rfl⟩;try rfl)
 rw [if_neg (by omega)];refine Ad.D6 (fun k:Nat=>[(2,.ref 0 0),(3,.ref 1 0),(6,.mref 2),(23,lst 229 d.stops),(24,.p (.int .i64 (d.stops.length:Int))),(25,.p (.int .i64 (k:Int)))]) (fun k=>[(2,.map (NT ((d.stops.take k).map Stp.name))),(1,.box 118 ((Enc.enc d).map .p)),(0,.box 27 ((Enc.enc o).map .p))]) 3 (fun k=>k≤d.stops.length∧SH o.ranks d.lo d.hi d.stops k=SH o.ranks d.lo d.hi d.stops 0) (fun k=>d.stops.length-k) 0 (by omega) ⟨by omega,rfl⟩ ⟨by omega,?_,?_⟩ ?_
 ·exact Dy
 ·exact Ey
 rintro k ⟨hk,hE⟩;rw [← hE];by_cases hkl:k<d.stops.length
 case neg =>
  rw [SH,if_neg hkl]
  repeat' (first|refine go2 ?_|(apply Ad.Ac;rfl)|(intro _;try (exfalso;omega)))
  all_goals first|(exfalso;omega)|(refine Done.rt rfl rfl ⟨?_,rfl,rfl⟩;try rfl)
 rw [SH,if_pos hkl];have hst:=a2h o.ranks d.lo d.hi (gi d.stops k) ho.ranks ho.rk (d3 k hkl);by_cases h1:DJ o.ranks d.lo d.hi (gi d.stops k)=0
 case neg =>
  rw [if_pos h1]
  repeat' (first|(apply Aa.fn;rfl;rfl;exact hst;intro _;rfl)|(apply Aa.Ap;rfl;rfl;rfl;omega;rfl)|refine Cb ?_|(apply Aa.int;rfl;rfl;rfl)|(apply Aa.build;rfl;rfl;rfl;rfl;rfl)|(apply Ad.Ac;rfl)|(intro _;try (exfalso;omega)))
  all_goals first|(exfalso;omega)|contradiction|(refine Done.rt rfl rfl ⟨?_,rfl,rfl⟩;try rfl)
 rw [h1] at hst ⊢;rw [if_neg (by decide)];by_cases h2:(gi d.stops k).name∈(d.stops.take k).map Stp.name
 ·rw [if_pos h2]
  repeat' (first|(apply Aa.fn;rfl;rfl;exact hst;intro _;rfl)|(apply Tq;rfl;rfl;rfl;exact le_dec rfl)|(apply Aa.Ap;rfl;rfl;rfl;omega;rfl)|refine Cb ?_|(apply AB.ret;rfl)|(apply Aa.Jr;rfl;rfl;rfl;rfl;rfl;rfl)|(apply Aa.int;rfl;rfl;rfl)|(apply Aa.build;rfl;rfl;rfl;rfl;rfl)|(apply Ad.Ak;rfl)|(apply Ad.Ac;rfl)|(apply Ad.cond_true;rfl)|(intro _;try (exfalso;omega)))
  all_goals first|(exfalso;omega)|contradiction|(refine Done.rt rfl rfl ⟨?_,rfl,rfl⟩;try rfl)
 ·rw [if_neg h2]
  repeat' (first|(apply Aa.fn;rfl;rfl;exact hst;intro _;rfl)|(apply Tq;rfl;rfl;rfl;exact le_dec rfl)|(apply Aa.jf;rfl;rfl;rfl;rfl;rfl;rfl;exact h2)|(apply Aa.Ap;rfl;rfl;rfl;omega;rfl)|refine Cb ?_|(apply AB.ret;rfl)|(apply Aa.Jr;rfl;rfl;rfl;rfl;rfl;rfl)|(apply Aa.int;rfl;rfl;rfl)|(apply Aa.build;rfl;rfl;rfl;rfl;rfl)|(apply Ad.Ak;rfl)|(apply Ad.Ac;rfl)|(apply Ad.cond_true;rfl)|(apply Ad.cond_false;rfl)|(intro _;try (exfalso;omega)))
  all_goals try (exfalso;omega)
  all_goals try contradiction
  refine Aj.normal ⟨k+1,⟨by omega,?_⟩,by omega,⟨by omega,?_,?_⟩⟩
  ·first|rfl|(refine ed ?_ hE;symm;(conv=>lhs;rw [SH]);rw [if_pos hkl,if_neg (fun h=>h h1),if_neg h2])
  ·exact Dy
  ·rw [TB Stp.name hkl];exact Ey
theorem WW (o:Ho) (ho:LQ o):Ai env 78 [.agg (Enc.enc o)] (.p (.int .i64 (V6 o))):=by
 have hn:=IJ o.name (by have:=ho.name;omega);have b1:=ho.ranks;have b2:=ho.Ag;unfold V6;refine Ai.enter (Ae (by decide)) Tryz.func78 rfl (by kernel_rfl) (by simp [Tryz.ntmps78]) ?_;by_cases h0:DV o.name
 case neg =>
  rw [if_pos h0];rw [decide_eq_false h0] at hn
  repeat' (first|(apply Aa.fn;rfl;rfl;exact hn;intro _;rfl)|refine Cb ?_|(apply Ad.cond_true;rfl))
  all_goals first|(exfalso;omega)|contradiction|(refine Done.rt rfl rfl ⟨?_,rfl,rfl⟩;try rfl)
 rw [if_neg (fun h=>h h0)];rw [decide_eq_true h0] at hn
 repeat' (first|(apply Aa.fn;rfl;rfl;exact hn;intro _;rfl)|(apply Aa.makeMap)|refine Cb ?_|(apply Aa.int;rfl;rfl;rfl)|(apply Ad.cond_false;rfl)|(apply Ad.Aq;rfl)|(intro _;try (exfalso;omega)))
 all_goals try contradiction
 ·rw [if_pos (by omega)];(refine Done.rt rfl rfl ⟨?_,rfl,rfl⟩;try rfl)
 rw [if_neg (by omega)];refine Ad.D6 (fun k:Nat=>[(1,.ref 0 0),(3,.mref 1),(25,lst 113 o.ranks),(26,.p (.int .i64 (o.ranks.length:Int))),(27,.p (.int .i64 (k:Int)))]) (fun k=>[(1,.map (NT ((o.ranks.take k).map Hw.name))),(0,.box 27 ((Enc.enc o).map .p))]) 2 (fun k=>k≤o.ranks.length∧QA o.ranks k=QA o.ranks 0) (fun k=>o.ranks.length-k) 0 (by omega) ⟨by omega,rfl⟩ ⟨by omega,?_,?_⟩ ?_
 ·exact Dy
 ·exact Ey
 rintro k ⟨hk,hE⟩;by_cases hkl:k<o.ranks.length
 ·have hsm:=(ho.rk k hkl).len
  have hc:=XK (gi o.ranks k) hsm.1 hsm.2.1 hsm.2.2;by_cases h1:BR (gi o.ranks k)=0
  case neg =>
   have e:QA o.ranks 0=BR (gi o.ranks k):=by rw [← hE,QA,if_pos hkl,if_pos h1]
   rw [e,if_pos h1]
   repeat' (first|(apply Aa.fn;rfl;rfl;exact hc;intro _;rfl)|(apply Aa.Ap;rfl;rfl;rfl;omega;rfl)|refine Cb ?_|(apply Aa.int;rfl;rfl;rfl)|(apply Ad.Ac;rfl)|(intro _;try (exfalso;omega)))
   all_goals first|(exfalso;omega)|contradiction|(refine Done.rt rfl rfl ⟨?_,rfl,rfl⟩;try rfl)
  rw [h1] at hc;by_cases h2:(gi o.ranks k).name∈(o.ranks.take k).map Hw.name
  ·have e:QA o.ranks 0=9:=by rw [← hE,QA,if_pos hkl,if_neg (fun h=>h h1),if_pos h2]
   rw [e,if_pos (by decide)]
   repeat' (first|(apply Aa.fn;rfl;rfl;exact hc;intro _;rfl)|(apply Tq;rfl;rfl;rfl;exact le_dec rfl)|(apply Aa.Ap;rfl;rfl;rfl;omega;rfl)|refine Cb ?_|(apply AB.ret;rfl)|(apply Aa.Jr;rfl;rfl;rfl;rfl;rfl;rfl)|(apply Aa.int;rfl;rfl;rfl)|(apply Ad.Ak;rfl)|(apply Ad.Ac;rfl)|(apply Ad.cond_true;rfl)|(intro _;try (exfalso;omega)))
   all_goals first|(exfalso;omega)|contradiction|(refine Done.rt rfl rfl ⟨?_,rfl,rfl⟩;try rfl)
  ·repeat' (first|(apply Aa.fn;rfl;rfl;exact hc;intro _;rfl)|(apply Tq;rfl;rfl;rfl;exact le_dec rfl)|(apply Aa.jf;rfl;rfl;rfl;rfl;rfl;rfl;exact h2)|(apply Aa.Ap;rfl;rfl;rfl;omega;rfl)|refine Cb ?_|(apply AB.ret;rfl)|(apply Aa.Jr;rfl;rfl;rfl;rfl;rfl;rfl)|(apply Aa.int;rfl;rfl;rfl)|(apply Ad.Ak;rfl)|(apply Ad.Ac;rfl)|(apply Ad.cond_true;rfl)|(apply Ad.cond_false;rfl)|(intro _;try (exfalso;omega)))
   all_goals try (exfalso;omega)
   all_goals try contradiction
   refine Aj.normal ⟨k+1,⟨by omega,?_⟩,by omega,⟨by omega,?_,?_⟩⟩
   ·first|rfl|(refine ed ?_ hE;symm;(conv=>lhs;rw [QA]);rw [if_pos hkl,if_neg (fun h=>h h1),if_neg h2])
   ·exact Dy
   ·rw [TB Hw.name hkl];exact Ey
 obtain rfl:k=o.ranks.length:=by omega
 have e:QA o.ranks 0=0:=by rw [← hE,QA,if_neg (by omega)]
 rw [if_neg (fun h=>h e)]
 repeat' (first|(apply Aa.makeMap)|refine Cb ?_|(apply Aa.int;rfl;rfl;rfl)|(apply Ad.Ac;rfl)|(apply Ad.Aq;rfl)|(intro _;try (exfalso;omega)))
 all_goals try (exfalso;omega)
 ·rw [if_pos (by omega)];(refine Done.rt rfl rfl ⟨?_,rfl,rfl⟩;try rfl)
 ·rw [if_neg (by omega),if_pos (by omega)];(refine Done.rt rfl rfl ⟨?_,rfl,rfl⟩;try rfl)
 rw [if_neg (by omega),if_neg (by omega)];refine Ad.ghost (Ar.adopt 8 115 rfl) ?_;refine Ad.D6 (fun k:Nat=>[(1,.ref 0 0),(3,.mref 2),(8,.vec 3 ((o.Ag.take k).map fun d=>(⟨d.lo,d.hi⟩:lC)).length 0 ((o.Ag.take k).map fun d=>(⟨d.lo,d.hi⟩:lC)).length),(56,lst 118 o.Ag),(57,.p (.int .i64 (o.Ag.length:Int))),(58,.p (.int .i64 (k:Int)))]) (fun k=>[(3,.vec 115 (cells ((o.Ag.take k).map fun d=>(⟨d.lo,d.hi⟩:lC))) ((o.Ag.take k).map fun d=>(⟨d.lo,d.hi⟩:lC)).length true),(2,.map (NT ((o.Ag.take k).map iW.name))),(0,.box 27 ((Enc.enc o).map .p))]) 4 (fun k=>k≤o.Ag.length∧GK o.ranks o.Ag k=GK o.ranks o.Ag 0) (fun k=>o.Ag.length-k) 0 (by omega) ⟨by omega,rfl⟩ ⟨by omega,?_,?_⟩ ?_
 ·exact Dy
 ·exact Ey
 rintro k ⟨hk,hE⟩;have hlen:((o.Ag.take k).map fun d=>(⟨d.lo,d.hi⟩:lC)).length=k:=by rw [bc,aw];omega
 by_cases hkl:k<o.Ag.length
 ·have hds:=ho.dv k hkl
  have hdn:=IJ (gi o.Ag k).name (by have:=hds.name;omega);have hdv:=bU o (gi o.Ag k) ho hds;by_cases h1:DV (gi o.Ag k).name
  case neg =>
   have e2:GK o.ranks o.Ag 0=8:=by rw [← hE,GK,if_pos hkl,if_pos h1]
   rw [e2,if_pos (by decide)];rw [decide_eq_false h1] at hdn
   repeat' (first|(apply Aa.fn;rfl;rfl;exact hdn;intro _;rfl)|(apply Aa.Ap;rfl;rfl;rfl;omega;rfl)|refine Cb ?_|(apply Aa.int;rfl;rfl;rfl)|(apply Ad.AX;rfl)|(apply Ad.Ac;rfl)|(intro _;try (exfalso;omega)))
   all_goals first|(exfalso;omega)|contradiction|(refine Done.rt rfl rfl ⟨?_,rfl,rfl⟩;try rfl)
  rw [decide_eq_true h1] at hdn;by_cases h2:(gi o.Ag k).name∈(o.Ag.take k).map iW.name
  ·have e2:GK o.ranks o.Ag 0=9:=by rw [← hE,GK,if_pos hkl,if_neg (fun h=>h h1),if_pos h2]
   rw [e2,if_pos (by decide)]
   repeat' (first|(apply Aa.fn;rfl;rfl;exact hdn;intro _;rfl)|(apply Tq;rfl;rfl;rfl;exact le_dec rfl)|(apply Aa.Ap;rfl;rfl;rfl;omega;rfl)|refine Cb ?_|(apply AB.ret;rfl)|(apply Aa.Jr;rfl;rfl;rfl;rfl;rfl;rfl)|(apply Aa.int;rfl;rfl;rfl)|(apply Ad.AX;rfl)|(apply Ad.Ak;rfl)|(apply Ad.Ac;rfl)|(intro _;try (exfalso;omega)))
   all_goals first|(exfalso;omega)|contradiction|(refine Done.rt rfl rfl ⟨?_,rfl,rfl⟩;try rfl)
  by_cases h3:Dx o.ranks (gi o.Ag k)=0
  case neg =>
   have e2:GK o.ranks o.Ag 0=Dx o.ranks (gi o.Ag k):=by rw [← hE,GK,if_pos hkl,if_neg (fun h=>h h1),if_neg h2,if_pos h3]
   rw [e2,if_pos h3]
   repeat' (first|(apply Aa.fn;rfl;rfl;exact hdn;intro _;rfl)|(apply Aa.fn;rfl;rfl;exact hdv;intro _;rfl)|(apply Tq;rfl;rfl;rfl;exact le_dec rfl)|(apply Aa.jf;rfl;rfl;rfl;rfl;rfl;rfl;exact h2)|(apply Aa.Ap;rfl;rfl;rfl;omega;rfl)|refine Cb ?_|(apply AB.ret;rfl)|(apply Aa.Jr;rfl;rfl;rfl;rfl;rfl;rfl)|(apply Aa.int;rfl;rfl;rfl)|(apply Ad.AX;rfl)|(apply Ad.Ak;rfl)|(apply Ad.Ac;rfl)|(intro _;try (exfalso;omega)))
   all_goals first|(exfalso;omega)|contradiction|(refine Done.rt rfl rfl ⟨?_,rfl,rfl⟩;try rfl)
  rw [h3] at hdv;have e5:((o.Ag.take (k+1)).map fun d=>(⟨d.lo,d.hi⟩:lC))=((o.Ag.take k).map fun d=>(⟨d.lo,d.hi⟩:lC))++[⟨(gi o.Ag k).lo,(gi o.Ag k).hi⟩]:=by rw [ED hkl,bk];rfl
  have e6:((o.Ag.take (k+1)).map fun d=>(⟨d.lo,d.hi⟩:lC)).length=((o.Ag.take k).map fun d=>(⟨d.lo,d.hi⟩:lC)).length+1:=by rw [e5,az];rfl
  repeat' (first|(apply Aa.fn;rfl;rfl;exact hdn;intro _;rfl)|(apply Aa.fn;rfl;rfl;exact hdv;intro _;rfl)|(apply Aa.Dk (a:=(⟨(gi o.Ag k).lo,(gi o.Ag k).hi⟩:lC));rfl;rfl;rfl;rfl;rfl;rfl;rfl;rfl;(intro _ h;cases h);rfl;rfl;rfl;decide;decide;(first|omega|(simp only [List.length_take,List.length_drop,List.length_append,List.length_singleton,List.length_cons,List.length_nil]<;>omega)))|(apply Tq;rfl;rfl;rfl;exact le_dec rfl)|(apply Aa.jf;rfl;rfl;rfl;rfl;rfl;rfl;exact h2)|(apply Aa.Ap;rfl;rfl;rfl;omega;rfl)|refine Cb ?_|(apply AB.ret;rfl)|(apply Aa.Jr;rfl;rfl;rfl;rfl;rfl;rfl)|(apply Aa.int;rfl;rfl;rfl)|(apply Aa.buildSlice;rfl;rfl;rfl;decide;rfl;rfl;rfl)|(apply Ad.AX;rfl)|(apply Ad.Ak;rfl)|(apply Ad.Ac;rfl)|(intro _;try (exfalso;omega)))
  all_goals try (exfalso;omega)
  all_goals try contradiction
  refine Aj.normal ⟨k+1,⟨by omega,?_⟩,by omega,⟨by omega,?_,?_⟩⟩
  ·first|rfl|(refine ed ?_ hE;symm;(conv=>lhs;rw [GK]);rw [if_pos hkl,if_neg (fun h=>h h1),if_neg h2,if_neg (fun h=>h h3)])
  ·rw [e6];exact Dy
  ·rw [e6,e5,TB iW.name hkl];exact Ey
 obtain rfl:k=o.Ag.length:=by omega
 have e2:GK o.ranks o.Ag 0=0:=by rw [← hE,GK,if_neg (by omega)]
 rw [if_neg (fun h=>h e2)];have et:o.Ag.take o.Ag.length=o.Ag:=cU (ab _);have hcp:=mg (o.Ag.map fun d=>(⟨d.lo,d.hi⟩:lC)) o.Io (by rw [bc];exact b2) ho.Io ho.cp;rw [et]
 repeat' (first|(refine Ad.at 35 ?_;refine Ad.ghost (Ar.freeze 8 rfl rfl) ?_;first|apply Ad.Bf|apply Ad.Bl)|apply Ad.Bf|(apply Aa.fn;rfl;rfl;exact hcp;intro _;rfl)|refine go1 ?_|(apply Aa.int;rfl;rfl;rfl)|(apply Ad.Ac;rfl)|(intro _;try (exfalso;omega)))
 all_goals first|(exfalso;omega)|(refine Done.rt rfl rfl ⟨?_,rfl,rfl⟩;try rfl)
end Go.Proofs.YtnjkoebfgcbbdaaGreatDoor
namespace Go.Vm
section
open Go.Am
variable {E:Env} {bn:Nat} {L:Frame} {H:Heap} {nx:Nat} {Q:BM→Frame→Heap→Nat→Prop} {b:Code}
theorem Ad.Je (n:Nat) (L0:Frame) (H0:Heap) (Lf:Nat→Frame→Frame) (Hf:Nat→Heap→Heap) (Dw:Nat) (hb:bn≤Dw) (hn:Dw≤nx) (h1:Gq Dw (Lf 0 L0) L) (h2:BG Dw (Hf 0 H0) H)
 (hs:∀ k,k<n→Ad E bn b (Lf k L0) (Hf k H0) Dw (Aj (fun L' H' nx'=>Dw≤nx'∧Gq Dw (Lf (k+1) L0) L'∧BG Dw (Hf (k+1) H0) H') Q))
 (he:Ad E bn b (Lf n L0) (Hf n H0) Dw (Aj (fun _ _ _=>False) Q)):Ad E bn (.loop b) L H nx Q :=
 Ad.D6 (fun k=>Lf k L0) (fun k=>Hf k H0) Dw (fun k=>k≤n) (fun k=>n-k) 0 hb (aq _) ⟨hn,h1,h2⟩ fun k hk=>by
  rcases ax k n with h|h
  ·refine (hs k h).mono fun e L' H' nx' q=>?_
   cases e with
   |normal=>exact ⟨k+1,h,by omega,⟨q.1,q.2.1,q.2.2⟩⟩
   |ret=>exact q
   |exit i=>exact q
  grind
theorem Ad.Jq (n:Nat) (inv:Nat→Prop) (L0:Frame) (H0:Heap) (Lf:Nat→Frame→Frame) (Hf:Nat→Heap→Heap) (Dw:Nat) (hb:bn≤Dw) (hn:Dw≤nx) (h1:Gq Dw (Lf 0 L0) L) (h2:BG Dw (Hf 0 H0) H) (h0:inv 0)
 (hs:∀ k,k<n→inv k→Ad E bn b (Lf k L0) (Hf k H0) Dw (Aj (fun L' H' nx'=>inv (k+1)∧Dw≤nx'∧Gq Dw (Lf (k+1) L0) L'∧BG Dw (Hf (k+1) H0) H') Q))
 (he:inv n→Ad E bn b (Lf n L0) (Hf n H0) Dw (Aj (fun _ _ _=>False) Q)):Ad E bn (.loop b) L H nx Q :=
 Ad.D6 (fun k=>Lf k L0) (fun k=>Hf k H0) Dw (fun k=>k≤n∧inv k) (fun k=>n-k) 0 hb ⟨aq _,h0⟩ ⟨hn,h1,h2⟩ fun k hk=>by
  obtain ⟨hk,hi⟩:=hk;rcases ax k n with h|h
  ·refine (hs k h hi).mono fun e L' H' nx' q=>?_
   cases e with
   |normal=>exact ⟨k+1,⟨h,q.1⟩,by omega,⟨q.2.1,q.2.2.1,q.2.2.2⟩⟩
   |ret=>exact q
   |exit i=>exact q
  grind
section
variable {Q:PV→Heap→Nat→Prop} {w:Bool} {dst:Option Tmp} {ty:TypeId} {pos:String} {af:Array Edge} {gd:Option (Nat×Bool)}
theorem b2y {Γ:Nat→Option (List Value×TypeId)} {m:Mem} {F:Nat→Prop} {σ:Nat→Value} {t:Tr Value} {x:Operand} {e:TypeId} {cs:List FV} {n:Nat} (hx:Ctx Γ m F σ H nx) (hl:RL m F (htag H) σ nx L t) (h:AU Γ L x=some (.p (.lst e cs n))) :
 ∃ a k g,ev t x=.slice a k g∧(0<n→a.isNone=false):=by
 have:=Bz hx hl h;generalize ev t x=v at this;cases this with
 |p hr =>
  cases hr with
  |nil=>simp
  |room=>simp
  |lst=>simp
theorem Yi {Γ:Nat→Option (List Value×TypeId)} {m:Mem} {F:Nat→Prop} {σ:Nat→Value} {t:Tr Value} {y:Operand} {v:Value} (hx:Ctx Γ m F σ H nx) (hl:RL m F (htag H) σ nx L t) (h:AU Γ L y=some (.p (.val v))):ev t y=v:=by
 have:=Bz hx hl h;cases this with|p hr=>cases hr;rfl
theorem a6u {P:Program} {t e':TypeId} {xo yo:Operand} {a:Option Addr} {k g:Nat} (ht:P.underlying t=some (.slice e')):PG P .eql t xo yo (.slice a k g) (.slice none 0 0)=some (.bool a.isNone)∧PG P .neq t xo yo (.slice a k g) (.slice none 0 0)=some (.bool !a.isNone):=by
 simp [PG,ht,Js]
theorem Aa.eqNil {t t2 e e':TypeId} {x y:Operand} {cs:List FV} {n:Nat} (hx:AU E.Γ L x=some (.p (.lst e cs n))) (hy:AU E.Γ L y=some (.p (.val (.slice none 0 0)))) (ht:E.P.underlying t=some (.slice e')) (q:∀ b,(0<n→b=false)→Q (.p (.bool b)) H nx) :
 Aa E w ⟨dst,.binOp .eql t x y t2,ty,pos,af,gd⟩ L H nx Q:=fun m F σ tt h1 h2=>by
 obtain ⟨a,k,g,h3,h4⟩:=b2y h1 h2 hx;have h5:=Yi h1 h2 hy;exact Gs.op (v:=.bool a.isNone) (m':=m) (fun _=>by simp only [BO,FB,h3,h5];rw [(a6u ht).1];rfl) ⟨_,H,nx,F,σ,q a.isNone h4,h1,.p (.bool _),Step.refl _ _ _ _ _,fun _ k hk _=>hk⟩
theorem Aa.TW {t t2 e e':TypeId} {x y:Operand} {cs:List FV} {n:Nat} (hx:AU E.Γ L x=some (.p (.lst e cs n))) (hy:AU E.Γ L y=some (.p (.val (.slice none 0 0)))) (ht:E.P.underlying t=some (.slice e')) (hn:0<n) (q:Q (.p (.bool false)) H nx) :
 Aa E w ⟨dst,.binOp .eql t x y t2,ty,pos,af,gd⟩ L H nx Q:=Aa.eqNil hx hy ht fun b hb=>by grind
theorem Gt {α:Type} [Inhabited α] {l:List α} {i j:Nat} {a:α}:gi (l.set i a) j=if i=j∧j<l.length then a else gi l j:=by
 unfold gi;grind
theorem Aa.b4c {t t2:TypeId} {x y:Operand} {n:Nat} (hx:AU E.Γ L x=some (.p (.int .u64 ((2 ^ n:Nat):Int)))) (hy:AU E.Γ L y=some (.p (.int .u64 1))) (hn:n<64) (q:Q (.p (.int .u64 ((2 ^ n-1:Nat):Int))) H nx) :
 Aa E w ⟨dst,.binOp .sub t x y t2,ty,pos,af,gd⟩ L H nx Q :=
 Aa.c1t (a:=2 ^ n) (b:=1) hx hy ⟨Nat.one_le_two_pow,cr (aE (by omega) (show n≤63 by omega)) (by decide)⟩ q
end
theorem all_succ {P:Nat→Prop} {k:Nat} (h:∀ i,i<k→P i) (hk:P k):∀ i,i<k+1→P i :=by grind
def BD {α:Type} (f:Nat→α):Nat→List α
 |0=>[]
 |k+1=>BD f k++[f k]
theorem CP {α:Type} (f:Nat→α):∀ k,(BD f k).length=k
 |0=>rfl
 |k+1=>by simp [BD,CP f k]
theorem rZ {α:Type} (f:Nat→α):∀ k i,i<k→(BD f k)[i]?=some (f i)
 |0,i,h=>by omega
 |k+1,i,h=>by
  simp only [BD];rw [List.getElem?_append];rw [CP];by_cases h2:i<k
  ·rw [if_pos h2];exact rZ f k i h2
  grind
theorem EC {α:Type} [Inhabited α] (f:Nat→α) {k i:Nat} (h:i<k):gi (BD f k) i=f i:=by
 unfold gi;rw [rZ f k i h];rfl
theorem P6 {α:Type} {f g:Nat→α}:∀ {k:Nat},(∀ i,i<k→f i=g i)→BD f k=BD g k
 |0,_=>rfl
 |k+1,h=>by rw [BD,BD,P6 (fun i hi=>h i (by omega)),h k (by omega)]
def b7n {α:Type} (f:Nat→α) (l:List α):Nat→List α
 |0=>l
 |k+1=>(b7n f l k).set k (f k)
theorem KO {α:Type} [Inhabited α] {l r:List α} (h:l.length=r.length) (hg:∀ i,i<l.length→gi l i=gi r i):l=r:=by
 refine fX h fun i h1 h2=>?_
 have:=hg i h1;unfold gi at this;grind
theorem Ut {α:Type} [Inhabited α] {a:α} {n i:Nat} (h:i<n):gi (List.replicate n a) i=a:=by
 unfold gi;grind
def b7e (k:Nat):Heap→Bool
 |[]=>true
 |(i,x)::H=>and (and (Nat.blt i k) (HB.ub k x)) (b7e k H)
theorem Dn {k:Nat}:∀ {H:Heap},b7e k H=true→LV k H
 |[],_=>trivial
 |(_,_)::_,h=>by
  simp only [b7e,Bool.and_eq_true] at h;exact ⟨⟨AY h.1.1,HB.AA h.1.2⟩,Dn h.2⟩
def EZ (E:Env) (g:FuncId) (ac:List PV) (Hc:Heap) (k:Nat) (x:FV):Prop:=Az E g ac Hc k fun r H' nx'=>r=.p x∧H'=Hc∧nx'=k
theorem EZ.enter {f:FuncId} {fn:Func} {c:Code} {ac:List PV} {Hc:Heap} {k:Nat} {x:FV} (ho:E.O f=none) (hf:E.P.funcs[f]?=some fn) (hb:fn.body=some c) (hok:IL E.G fn c=true) (hn:ac.length≤fn.ntmps)
 (h:Ad E k c (CG 0 ac) Hc k (Done E.P fn.results.toList k fun r' H' nx'=>r'=.p x∧H'=Hc∧nx'=k)):EZ E f ac Hc k x:=Az.enter ho hf hb hok hn h
theorem Aa.read {Q:PV→Heap→Nat→Prop} {dst:Option Tmp} {ty:TypeId} {pos:String} {af:Array Edge} {gd:Option (Nat×Bool)} {fo:Operand} {args:Array Operand} {aT:Array TypeId} {g:FuncId} {fs cs BF ac:List PV} {Hc:Heap} {x:FV} (ns:List Nat) (hc:EZ E g ac Hc ns.length x)
 (hf:AU E.Γ L fo=some (.clo g fs cs)) (ha:evs E.Γ L args.toList=some BF) (hle:OY (fs++BF++cs) (C9.rn (rho ns nx) ac)) (hu:C9.under ns.length ac) (xJ:LV ns.length Hc) (hin:HIn (rho ns nx) H Hc) (hnd:ns.Nodup) (hlt:∀ b∈ns,b<nx)
 (hm:news ns.length (rho ns nx) Hc (merge ns (rho ns nx) Hc H)=H) (q:Q (.p x) H nx) :
 Aa E true ⟨dst,.call { callee:=.value fo,args:=args,argTypes:=aT },ty,pos,af,gd⟩ L H nx Q :=
 Aa.ZW hf ha hle hu xJ hin hnd hlt (fun h=>by cases h) hc fun r H' nx' ⟨h1,h2,h3⟩=>by
  subst h1;subst h2;subst h3;rw [hm,ef];exact q
theorem rC {P:Program} {t e:TypeId} {n:Nat} {z:List Value} {inf:TypeInfo} {ps:Array (Nat×Value)} {out:Array Value} (hz:BQ P t=some z) (hu:P.underlying t=some (.array n e)) (hi:P.info? e=some inf)
 (hf:Instr.fill (fun i=>some (i*inf.size,inf.size)) z.toArray ps.toList=some out):DF P (Instr.build t ps)=some (.agg out):=by
 obtain ⟨i,zv,h1,h2,h3,h4⟩:=BH hz;unfold Instr.build;simp only [Au];have hzv:DF P (zeroValue t)=some zv:=by
  simp only [zeroValue,Au,KE,h1,Option.bind_some,h2];rfl
 rw [hzv];simp only [Option.bind_some,AZ,hu];simp only [Au,F7,hi,Option.map_some,Option.bind_some];have e:zv.cells=z.toArray:=by rw [h3]
 rw [e,hf];rfl
theorem Aa.b5l {Q:PV→Heap→Nat→Prop} {w:Bool} {dst:Option Tmp} {ty:TypeId} {pos:String} {af:Array Edge} {gd:Option (Nat×Bool)} {t e:TypeId} {n:Nat} {ps:Array (Nat×Operand)} {z:List Value} {inf:TypeInfo} {parts:List (Nat×PV)} {out:List PV} (hz:BQ E.P t=some z) (hu:E.P.underlying t=some (.array n e))
 (hi:E.P.info? e=some inf) (hp:evp E.Γ L ps.toList=some parts) (hf:SG (fun i=>some (i*inf.size,inf.size)) (z.map fun v=>.p (H9 v)) parts=some out) (q:Q (ru out) H nx) :
 Aa E w ⟨dst,.build t ps,ty,pos,af,gd⟩ L H nx Q :=
 Aa.quiet q fun m F σ tt h1 h2=>by
  obtain ⟨_,_,_,_,_,hpz⟩:=BH hz;obtain ⟨out',e1,e2,e3⟩:=QU (fun i=>some (i*inf.size,inf.size)) (Yl h1 h2 hp) (cs':=z.toArray) (Dt.zero hpz) (Dh hpz) hf;have e4:=rC (ps:=ps.map fun (i,x)=>(i,ev tt x)) hz hu hi (by rw [bB];omega);refine ⟨.agg out',fun _=>?_,WG e2 e3⟩;simp only [BO,FB,hz,e4,Option.map_some]
end
section
open Go.Am
variable {E:Env} {L:Frame} {H:Heap} {nx:Nat} {Q:PV→Heap→Nat→Prop}
variable {dst:Option Tmp} {ty:TypeId} {pos:String} {af:Array Edge} {gd:Option (Nat×Bool)}
theorem FK.c0x (C:List FV):∀ {p q:List FV},FK p q→FK (p++C) (q++C)
 |_,_,.refl _=>.refl _
 |_,_,.cons h t=>.cons h (FK.c0x C t)
theorem FK.b9p:∀ (A:List FV) {p q:List FV},FK p q→FK (A++p) (A++q)
 |[],_,_,h=>h
 |a::A,_,_,h=>.cons (.refl a) (FK.b9p A h)
theorem U1 {α:Type}:∀ (z p c:List α) (o:Nat),o+z.length≤p.length→CJ (p++c) o z=CJ p o z++c
 |[],_,_,_,_=>rfl
 |x::z,p,c,o,h=>by
  simp only [List.length_cons] at h;simp only [CJ];rw [List.set_append_left _ _ (by omega),U1 z (p.set o x) c (o+1) (by grind)]
theorem dF {α:Type} [Enc α] (l:List α) (i f:Nat) (y:α) (fs:List FV) (h:i<l.length) (hf:f+fs.length≤Enc.size α) (hy:FK (CJ (Enc.enc (gi l i)) f fs) (Enc.enc y)):FK (CJ (cells l) (i*Enc.size α+f) fs) (cells (l.set i y)):=by
 have h1:l=l.take i++(gi l i::l.drop (i+1)):=by
  have hd:l.drop i=gi l i::l.drop (i+1):=by
   simp [gi,List.getElem?_eq_getElem h]
  conv=>lhs;rw [← eT i l]
  rw [hd]
 have h2:l.set i y=l.take i++(y::l.drop (i+1)):=by
  conv=>lhs;rw [h1]
  rw [eQ _ _ (by grind)];rw [aw,ck (by omega),ef,List.set_cons_zero]
 have h4:cells l=cells (l.take i)++(Enc.enc (gi l i)++cells (l.drop (i+1))):=by
  conv=>lhs;rw [h1,EG]
  rfl
 have h3:i*Enc.size α+f=(cells (l.take i)).length+f:=by rw [CQ,aw,ck (by omega)]
 rw [h2,EG,h4,h3,Md,U1 _ _ _ _ (by rw [Enc.len];omega)];exact FK.b9p _ (FK.c0x _ hy)
theorem Aa.b2z {t:TypeId} {a x:Operand} {b tag off:Nat} {e:TypeId} {cs cs' fs:List FV} {z:Bool} {r:PV} {i:TypeInfo} (ha:AU E.Γ L a=some (.EH b tag off)) (hx:AU E.Γ L x=some r) (hb:hget H b=some (.vec e cs tag z)) (hn:PO r)
 (hf:Kr r=fs.map .p) (hi:E.P.info? t=some i) (hl:fs.length=i.size) (h0:0<i.size) (hle:off+i.size≤cs.length) (hw:FK (CJ cs off fs) cs') (q:Q (.Eb []) (hput H b (.vec e cs' tag z)) nx):Aa E true ⟨dst,.store t a x,ty,pos,af,gd⟩ L H nx Q:=by
 intro m F σ tt h1 h2;obtain ⟨c,k,g,h3,h4⟩:=PN h1 h2 ha hb;obtain ⟨h5,h6⟩:=Lm hn (Bz h1 h2 hx);rw [hf] at h5;obtain ⟨hlt,hr⟩:=h1.hp b _ hb;rcases hr with ⟨r1,r2,r3⟩|⟨c',g',vs,r1,r2,r3,r4,r5,r6,r7⟩
 ·rcases r3 with ⟨r3,_⟩|⟨b',o',g',r3,_⟩<;>rw [r3] at h4<;>cases h4
 rw [h4] at r1;cases r1;have hlen:=h5.length;rw [bc] at hlen;have hlen2:=r5.length;have hst:LJ E.P t ⟨c,off,some g⟩ (ev tt x) m=some (m.put c (.cells (splice vs off (ev tt x).cells.toList) e g false)):=by
  unfold LJ F9;rw [hi];simp only [r4];rw [if_pos (by simpa using hlen.symm.trans hl),if_pos];simp only [Oh,Option.getD_some,beq_self_eq_true,Bool.true_and,Bool.and_eq_true,decide_eq_true_eq];refine ⟨⟨?_,?_⟩,h6⟩
  ·rw [← hlen,hl,← hlen2];exact ⟨trivial,hle⟩
  ·rw [← hlen,hl];exact h0
 have hput':∀ d,c≠d→(m.put c (.cells (splice vs off (ev tt x).cells.toList) e g false)).get d=m.get d:=fun d hd=>by rw [Mem.get_put,if_neg hd]
 obtain ⟨c1,c2⟩:=h1.change (m':=m.put c (.cells (splice vs off (ev tt x).cells.toList) e g false)) (x':=.vec e cs' tag z) (s':=σ b) hb (ab _) (fun _=>rfl) (ab _)
  (fun d _ hd=>hput' d fun e=>hd (by rw [h4,e];rfl)) (fun k k1 k2 k3=>by
   have:=k3 c (by rw [h4];rfl);simp only [Mem.put];omega) (fun d hd=>.inl hd) (by
   refine .inr ⟨c,g,splice vs off (ev tt x).cells.toList,h4,r2,r3,by rw [Mem.get_put,if_pos rfl],?_,JB _ r6 h6,r7⟩;exact Dj.le hw ((Dj.splice off r5 (Dj.XG h5)).mono (fun d hd=>⟨hd,hput' d fun e=>r3 (e▸hd)⟩)))
 refine Gs.op (v:=undef) (fun _=>?_) ⟨_,_,_,F,_,q,c1,.Eb .nil,c2,fun h=>by cases h⟩;simp only [BO,FB,h3,hst,Option.map_some]
theorem Aa.Rz {α:Type} {_:Enc α} {t:TypeId} {a x:Operand} {b n i f:Nat} {e:TypeId} {l:List α} {z:Bool} {r:PV} {fs:List FV} {inf:TypeInfo} (y:α) (ha:AU E.Γ L a=some (.EH b n (i*Enc.size α+f))) (hx:AU E.Γ L x=some r) (hb:hget H b=some (.vec e (cells l) n z)) (hn:PO r)
 (hf:Kr r=fs.map .p) (a8f:E.P.info? t=some inf) (hl:fs.length=inf.size) (h0:0<inf.size) (hi:i<l.length) (hsz:f+inf.size≤Enc.size α) (hy:FK (CJ (Enc.enc (gi l i)) f fs) (Enc.enc y)) (q:Q (.Eb []) (hput H b (.vec e (cells (l.set i y)) n z)) nx):Aa E true ⟨dst,.store t a x,ty,pos,af,gd⟩ L H nx Q :=
 Aa.b2z ha hx hb hn hf a8f hl h0 (by
  rw [CQ];have:=bp (Enc.size α) hi;grind) (dF l i f y fs hi (by omega) hy) q
end
end Go.Vm
namespace Go.Proofs.YtnjkoebfgcbbdaaGreatDoor
open Go Go.Am Go.Vm
attribute [local irreducible] Aa Ah Af Ad Az Ai Ba Bq Bd Aj Vm.Done Bg AB
structure Rgs where
 stops:List Nat
 cp:Nat
 off:Nat
instance:Enc Rgs:={ default:=⟨[],0,0⟩,enc:=fun x=>[.lst 82 (cells x.stops) x.stops.length,.int .u64 (x.cp:Int),.int .u64 (x.off:Int)],size:=3,len:=fun _=>rfl }
structure Rgs.Ok (r:Rgs):Prop where
 stops:∀ i,i<r.stops.length→gi r.stops i<18446744073709551616
 cp:r.cp<18446744073709551616
 off:r.off<18446744073709551616
 len:r.stops.length<9223372036854775808
def a7y (b:Nat→Nat):List FV:=[.int .u8 (b 0:Int),.int .u8 (b 1:Int),.int .u8 (b 2:Int),.int .u8 (b 3:Int),.int .u8 (b 4:Int)]
def Hz (o:Ho) (b:Nat→Nat) (k:Nat):Nat:=b (k % 3) &&& (2 ^ (gi o.Ag k).stops.length-1)
def Qg (o:Ho) (b:Nat→Nat):Rgs:=⟨BD (Hz o b) o.Ag.length,b 3 &&& (2 ^ o.Io.length-1),b 4 &&& (2 ^ o.Ag.length-1)⟩
theorem b5j {n:Nat} (h:n≤3):2 ^ n≤8:=aE (by omega) h
theorem a3u (b:Nat→Nat) (k:Nat):((a7y b).map PV.p)[0+((k:Int) % 3).toNat*1]?=some (.p (.int .u8 ((b (k % 3):Nat):Int))):=by
 have e0:((k:Int) % 3).toNat=k % 3:=by omega
 rw [e0];have:k % 3<3:=ao _ (by decide);generalize k % 3=n at this
 match n,this with
 |0,_=>rfl
 |1,_=>rfl
 |2,_=>rfl
theorem wC (o:Ho) (ho:jJ o) (b:Nat→Nat) (hb:∀ i,b i<256):Ai env 74 [.agg (Enc.enc o),.agg (a7y b)] (.p (.agg (Enc.enc (Qg o b)))):=by
 have r2:=ho.Ag;have r3:=ho.Io;have b3:=hb 3;have b4:=hb 4;have p3:=b5j r3;have p4:=b5j r2.2;refine Ai.enter (Ae (by decide)) Tryz.func74 rfl (by kernel_rfl) (by simp [Tryz.ntmps74]) ?_
 repeat' (first|(apply Aa.UG;rfl;rfl;rfl;rfl;rfl;decide)|refine Cb ?_|(apply Aa.b4c;rfl;rfl;omega)|(apply Aa.build;rfl;rfl;rfl;rfl;rfl)|(apply Aa.rE;rfl;rfl;rfl;rfl;omega)|(apply Aa.lW;rfl;rfl;omega))
 refine Ad.ghost (Ar.EO 3 0 82 rfl rfl) ?_;apply Ad.Je (o.Ag.length) [(2,_),(3,_),(4,_),(5,_)] [(0,_),(1,_),(2,_)] (fun k r=>(6,.p (.int .i64 (k:Int)))::r) (fun k r=>(4,.vec 82 (cells (BD (Hz o b) k)) (BD (Hz o b) k).length true)::(3,.box 179 [.vec 4 (BD (Hz o b) k).length 0 (BD (Hz o b) k).length,.p (.int .u64 ((b 3 &&& (2 ^ o.Io.length-1):Nat):Int)),.p (.int .u64 ((b 4 &&& (2 ^ o.Ag.length-1):Nat):Int))])::r) 5
 ·first|omega|decide
 ·first|omega|decide
 ·exact SS
 ·exact Ws
 ·intro k hk
  have hl:=CP (Hz o b) k;have e1:BD (Hz o b) (k+1)=BD (Hz o b) k++[Hz o b k]:=rfl;have e2:(BD (Hz o b) (k+1)).length=(BD (Hz o b) k).length+1:=by rw [e1];simp
  have s3:=ho.stops k hk;have p1:=b5j s3;have hbk:=hb (k % 3);have hr:=a3u b k
  repeat' (first|(apply Aa.a6v;rfl;rfl;rfl;exact hr)|(apply Aa.UG;rfl;rfl;rfl;rfl;rfl;omega)|(apply Aa.Dk (a:=Hz o b k);rfl;rfl;rfl;rfl;rfl;rfl;rfl;rfl;(intro _ h;cases h);rfl;rfl;rfl;decide;decide;(first|omega|(simp only [List.length_take,List.length_drop,List.length_append,List.length_singleton,List.length_cons,List.length_nil]<;>omega)))|(apply Aa.Ap;rfl;rfl;rfl;omega;rfl)|refine Cb ?_|(apply Aa.b4c;rfl;rfl;omega)|(apply Aa.int;rfl;rfl;rfl)|(apply Aa.buildSlice;rfl;rfl;rfl;decide;rfl;rfl;rfl)|(apply Aa.rE;rfl;rfl;rfl;rfl;omega)|(apply Aa.lW;rfl;rfl;omega)|(apply Ad.Ac;rfl)|(intro _;try (exfalso;omega)))
  all_goals try (exfalso;omega)
  refine Aj.normal ⟨by first|omega|decide,?_,?_⟩
  ·try (rw [e2,e1])
   exact Dy
  ·rw [e2,e1]
   exact Ey
 ·have hl:=CP (Hz o b) o.Ag.length
  repeat' (first|(refine Ad.at 6 ?_;refine Ad.ghost (Ar.BI 3 0 rfl rfl rfl) ?_;first|apply Ad.Bf|apply Ad.Bl)|refine go0 ?_|apply Ad.Bf|(apply Ad.Ac;rfl)|(intro _;try (exfalso;omega)))
  all_goals first|(exfalso;omega)|(refine Done.rt rfl rfl ⟨?_,rfl,rfl⟩;try rfl)
noncomputable def VZ (o:Ho) (r:Rgs):Int :=
 open Classical in
 if r.stops.length≠o.Ag.length then 5
 else if ∃ i,i<r.stops.length∧gi r.stops i / 2 ^ (gi o.Ag i).stops.length≠0 then 3
 else if r.cp / 2 ^ o.Io.length≠0∨r.off / 2 ^ o.Ag.length≠0 then 3 else 0
theorem a6x {o:Ho} {r:Rgs} (h:r.stops.length≠o.Ag.length):VZ o r=5:=by unfold VZ;grind
theorem a5c {o:Ho} {r:Rgs} (h:r.stops.length=o.Ag.length) {i:Nat} (hi:i<r.stops.length) (h2:gi r.stops i / 2 ^ (gi o.Ag i).stops.length≠0):VZ o r=3:=by
 unfold VZ;rw [if_neg (fun h'=>h' h),if_pos ⟨i,hi,h2⟩]
theorem fH {o:Ho} {r:Rgs} (h:r.stops.length=o.Ag.length) (h2:∀ i,i<r.stops.length→gi r.stops i / 2 ^ (gi o.Ag i).stops.length=0):VZ o r=if r.cp / 2 ^ o.Io.length≠0∨r.off / 2 ^ o.Ag.length≠0 then 3 else 0:=by
 unfold VZ;grind
end Go.Proofs.YtnjkoebfgcbbdaaGreatDoor
namespace Go.Proofs.YtnjkoebfgcbbdaaGreatDoor
open Go Go.Am Go.Vm
attribute [local irreducible] BR A8
theorem VK {rk:List Hw} {l:List iW}:∀ (n k:Nat),l.length-k=n→GK rk l k=0→∀ i,k≤i→i<l.length→Dx rk (gi l i)=0
 |0,k,h,_,i,h1,h2=>by omega
 |n+1,k,h,h0,i,h1,h2=>by
  rw [GK,if_pos (by omega)] at h0;split at h0
  ·omega
  split at h0
  ·omega
  split at h0
  ·omega
  rename_i h3;rcases ax k i with h4|h4
  ·exact VK n (k+1) (by omega) h0 i h4 h2
  grind
structure tC (o:Ho):Prop where
 sm:LQ o
 err:V6 o=0
 Ag:1≤o.Ag.length∧o.Ag.length≤8
 Io:o.Io.length≤40
 stops:∀ i,i<o.Ag.length→(gi o.Ag i).stops.length≤60
theorem b6h {o:Ho} (hs:LQ o) (h:V6 o=0):tC o:=by
 have h0:=h;unfold V6 at h0;split at h0
 ·exact absurd h0 (by decide)
 split at h0
 ·exact absurd h0 (by decide)
 split at h0
 ·rename_i h1;exact absurd h0 h1
 split at h0
 ·exact absurd h0 (by decide)
 rename_i d1;split at h0
 ·exact absurd h0 (by decide)
 rename_i d2;split at h0
 ·rename_i h1;exact absurd h0 h1
 rename_i d3;have d3:GK o.ranks o.Ag 0=0:=cJ d3;unfold DX at h0;split at h0
 ·exact absurd h0 (by decide)
 rename_i c1;refine ⟨hs,h,⟨by omega,by omega⟩,by omega,fun i hi=>?_⟩;have:=VK _ 0 rfl d3 i (aq _) hi;unfold Dx at this;split at this
 ·rename_i h1;exact absurd this h1
 split at this
 ·exact absurd this (by decide)
 rename_i h2;omega
theorem jJ.k {o:Ho} (h:jJ o):tC o:=b6h h.sm h.ok
structure c7h (rk:List Hw) (s:Stp):Prop where
 IW:s.IW.length≤12
 draws:∀ i,i<s.IW.length→(gi s.IW i).draws.length≤8∧∀ j,j<(gi s.IW i).draws.length→0≤(gi (gi s.IW i).draws j).rank∧(gi (gi s.IW i).draws j).rank<rk.length
def b4d (rk:List Hw) (s:Stp) (n:Nat):Nat→List UInt8
 |0=>[]
 |k+1=>if (gi s.IW (n-(k+1))).draws.length>0 then (gi rk (gi (gi s.IW (n-(k+1))).draws 0).rank.toNat).JY else b4d rk s n k
def c7b (rk:List Hw) (s:Stp):List UInt8:=b4d rk s s.IW.length s.IW.length
end Go.Proofs.YtnjkoebfgcbbdaaGreatDoor
namespace Go.Proofs.YtnjkoebfgcbbdaaGreatDoor
open Go Go.Am Go.Vm
structure GI where
 s:Int
 e:Int
 d:Int
 k:Int
deriving DecidableEq
instance:Enc GI:={ default:=⟨0,0,0,0⟩,enc:=fun x=>[.int .i64 x.s,.int .i64 x.e,.int .i64 x.d,.int .i64 x.k],size:=4,len:=fun _=>rfl }
structure Ny where
 bar:Int
 reg:Rgs
instance:Enc Ny:={ default:=⟨0,default⟩,enc:=fun x=>[.int .i64 x.bar,.lst 82 (cells x.reg.stops) x.reg.stops.length,.int .u64 (x.reg.cp:Int),.int .u64 (x.reg.off:Int)],size:=4,len:=fun _=>rfl }
structure Ef where
 bars:List Int
 notes:List GI
 sets:List Ny
instance:Enc Ef:={ default:=⟨[],[],[]⟩,enc:=fun x=>[.lst 3 (cells x.bars) x.bars.length,.lst 39 (cells x.notes) x.notes.length,.lst 182 (cells x.sets) x.sets.length],size:=3,len:=fun _=>rfl }
def kL (a b:GI):Bool:=decide (a.d=b.d)&&(decide (a.k=b.k)&&(decide (a.s<b.e)&&decide (b.s<a.e)))
def XV (l:List Int) (k:Nat):Int :=
 if k<l.length then if gi l k<0∨gi l k>100000 then 3 else if 0<k∧gi l k≤gi l (k-1) then 6 else XV l (k+1) else 0
termination_by l.length-k
def RZ (l:List Int):Int:=if l.length<2 then 5 else if l.length>201 then 4 else XV l 0
def Ub (o:Ho) (a z:Int) (pre:List GI) (n:GI):Int :=
 if n.d<0∨n.d≥o.Ag.length then 10
 else if n.k<(gi o.Ag n.d.toNat).lo∨n.k>(gi o.Ag n.d.toNat).hi then 23
 else if n.s<a∨n.e>z then 3
 else if n.s≥n.e then 6
 else if pre.any (fun m=>kL m n) then 14 else 0
def HY (o:Ho) (a z:Int) (l:List GI) (k:Nat):Int :=
 if k<l.length then if Ub o a z (l.take k) (gi l k)≠0 then Ub o a z (l.take k) (gi l k) else HY o a z l (k+1) else 0
termination_by l.length-k
noncomputable def NT (o:Ho) (nb:Nat) (l:List Ny) (k:Nat):Int :=
 if (gi l k).bar<0∨(gi l k).bar≥(nb:Int)-1 then 3
 else if 0<k∧(gi l k).bar=(gi l (k-1)).bar then 9
 else if 0<k∧(gi l k).bar<(gi l (k-1)).bar then 6
 else VZ o (gi l k).reg
noncomputable def Pg (o:Ho) (nb:Nat) (l:List Ny) (k:Nat):Int :=
 if k<l.length then if NT o nb l k≠0 then NT o nb l k else Pg o nb l (k+1) else 0
termination_by l.length-k
def OX (p:Ef):Int:=gi p.bars 0
def PD (p:Ef):Int:=gi p.bars (p.bars.length-1)
noncomputable def gI (o:Ho) (p:Ef):Int :=
 if RZ p.bars≠0 then RZ p.bars else if p.notes.length>1000 then 4 else if HY o (OX p) (PD p) p.notes 0≠0 then HY o (OX p) (PD p) p.notes 0
 else if p.sets.length>100 then 4 else Pg o p.bars.length p.sets 0
noncomputable def VB (o:Ho) (p:Ef):Int:=if V6 o≠0 then V6 o else gI o p
structure NJ (p:Ef):Prop where
 bars:p.bars.length<1000000
 notes:p.notes.length<1000000
 sets:p.sets.length<1000000
 reg:∀ i,i<p.sets.length→(gi p.sets i).reg.Ok
theorem lZ {l:List Int} {k:Nat} (h:k<l.length):XV l k=if gi l k<0∨gi l k>100000 then 3 else if 0<k∧gi l k≤gi l (k-1) then 6 else XV l (k+1):=by
 rw [XV,if_pos h]
theorem a4a (l:List Int):XV l l.length=0:=by rw [XV,if_neg (cn _)]
theorem WI {o:Ho} {a z:Int} {l:List GI} {k:Nat} (h:k<l.length):HY o a z l k=if Ub o a z (l.take k) (gi l k)≠0 then Ub o a z (l.take k) (gi l k) else HY o a z l (k+1):=by
 rw [HY,if_pos h]
theorem vG (o:Ho) (a z:Int) (l:List GI):HY o a z l l.length=0:=by rw [HY,if_neg (cn _)]
theorem YN {o:Ho} {nb:Nat} {l:List Ny} {k:Nat} (h:k<l.length):Pg o nb l k=if NT o nb l k≠0 then NT o nb l k else Pg o nb l (k+1):=by
 rw [Pg,if_pos h]
theorem a0b (o:Ho) (nb:Nat) (l:List Ny):Pg o nb l l.length=0:=by rw [Pg,if_neg (cn _)]
theorem qR {l:List Int}:∀ (n k:Nat),l.length-k=n→XV l k=0→∀ i,k≤i→i<l.length→(0≤gi l i∧gi l i≤100000)∧(0<i→gi l (i-1)<gi l i)
 |0,k,h,_,i,h1,h2=>by omega
 |n+1,k,h,h0,i,h1,h2=>by
  rw [lZ (by omega)] at h0;split at h0
  ·omega
  rename_i h3;split at h0
  ·omega
  rename_i h4;rcases ax k i with h5|h5
  ·exact qR n (k+1) (by omega) h0 i h5 h2
  grind
theorem eH {l:List Int} (h:∀ i,i<l.length→(0≤gi l i∧gi l i≤100000)∧(0<i→gi l (i-1)<gi l i)):∀ (n k:Nat),l.length-k=n→XV l k=0
 |0,k,hk=>by rw [XV,if_neg (by omega)]
 |n+1,k,hk=>by
  obtain ⟨h1,h2⟩:=h k (by omega);rw [lZ (by omega),if_neg (by omega),if_neg (fun ⟨h3,h4⟩=>by omega)];exact eH h n (k+1) (by omega)
theorem bg {o:Ho} {a z:Int} {l:List GI}:∀ (n k:Nat),l.length-k=n→HY o a z l k=0→∀ i,k≤i→i<l.length→Ub o a z (l.take i) (gi l i)=0
 |0,k,h,_,i,h1,h2=>by omega
 |n+1,k,h,h0,i,h1,h2=>by
  rw [WI (by omega)] at h0;split at h0
  ·omega
  rename_i h3;rcases ax k i with h5|h5
  ·exact bg n (k+1) (by omega) h0 i h5 h2
  grind
theorem XQ {o:Ho} {a z:Int} {l:List GI} (h:∀ i,i<l.length→Ub o a z (l.take i) (gi l i)=0):∀ (n k:Nat),l.length-k=n→HY o a z l k=0
 |0,k,hk=>by rw [HY,if_neg (by omega)]
 |n+1,k,hk=>by
  rw [WI (by omega),if_neg (fun h'=>h' (h k (by omega)))];exact XQ h n (k+1) (by omega)
theorem dO {o:Ho} {nb:Nat} {l:List Ny}:∀ (n k:Nat),l.length-k=n→Pg o nb l k=0→∀ i,k≤i→i<l.length→NT o nb l i=0
 |0,k,h,_,i,h1,h2=>by omega
 |n+1,k,h,h0,i,h1,h2=>by
  rw [YN (by omega)] at h0;split at h0
  ·omega
  rename_i h3;rcases ax k i with h5|h5
  ·exact dO n (k+1) (by omega) h0 i h5 h2
  grind
theorem ZR {o:Ho} {nb:Nat} {l:List Ny} (h:∀ i,i<l.length→NT o nb l i=0):∀ (n k:Nat),l.length-k=n→Pg o nb l k=0
 |0,k,hk=>by rw [Pg,if_neg (by omega)]
 |n+1,k,hk=>by
  rw [YN (by omega),if_neg (fun h'=>h' (h k (by omega)))];exact ZR h n (k+1) (by omega)
structure b5y (o:Ho) (p:Ef) (i:Nat):Prop where
 d:0≤(gi p.notes i).d∧(gi p.notes i).d<o.Ag.length
 k:(gi o.Ag (gi p.notes i).d.toNat).lo≤(gi p.notes i).k∧(gi p.notes i).k≤(gi o.Ag (gi p.notes i).d.toNat).hi
 r:OX p≤(gi p.notes i).s∧(gi p.notes i).s<(gi p.notes i).e∧(gi p.notes i).e≤PD p
 c:∀ j,j<i→kL (gi p.notes j) (gi p.notes i)=false
structure jA (o:Ho) (p:Ef):Prop where
 sm:NJ p
 err:gI o p=0
 bars:2≤p.bars.length∧p.bars.length≤201
 bar:∀ i,i<p.bars.length→(0≤gi p.bars i∧gi p.bars i≤100000)∧(0<i→gi p.bars (i-1)<gi p.bars i)
 notes:p.notes.length≤1000
 note:∀ i,i<p.notes.length→b5y o p i
 sets:p.sets.length≤100
 set:∀ i,i<p.sets.length→(0≤(gi p.sets i).bar∧(gi p.sets i).bar<(p.bars.length:Int)-1)∧(0<i→(gi p.sets (i-1)).bar<(gi p.sets i).bar)∧VZ o (gi p.sets i).reg=0
theorem ZY {l:List GI} {f:GI→Bool} {i:Nat} (hi:i≤l.length):(l.take i).any f=false↔∀ j,j<i→f (gi l j)=false:=by
 rw [List.any_eq_false];constructor
 ·intro h j hj
  have:gi l j∈l.take i:=by
   unfold gi;rw [ai (by omega)];exact fT.2 ⟨j,by omega,rfl⟩
  grind
 ·intro h x hx
  obtain ⟨j,hj,rfl⟩:=fT.1 hx;have:=h j (by omega);unfold gi at this;grind
theorem Zw {o:Ho} {p:Ef} {i:Nat} (hi:i<p.notes.length):Ub o (OX p) (PD p) (p.notes.take i) (gi p.notes i)=0↔b5y o p i:=by
 unfold Ub;constructor
 ·intro h
  split at h
  ·omega
  split at h
  ·omega
  split at h
  ·omega
  split at h
  ·omega
  split at h
  ·omega
  rename_i h1 h2 h3 h4 h5;exact ⟨by omega,by omega,by omega,(ZY (f:=fun m=>kL m (gi p.notes i)) (by omega)).1 (by grind)⟩
 ·rintro ⟨h1,h2,h3,h4⟩
  rw [if_neg (by omega),if_neg (by omega),if_neg (by omega),if_neg (by omega),if_neg];rw [(ZY (f:=fun m=>kL m (gi p.notes i)) (by omega)).2 h4];decide
theorem fC {o:Ho} {nb:Nat} {l:List Ny} {i:Nat}:NT o nb l i=0↔(0≤(gi l i).bar∧(gi l i).bar<(nb:Int)-1)∧(0<i→(gi l (i-1)).bar<(gi l i).bar)∧VZ o (gi l i).reg=0:=by
 unfold NT;omega
theorem c5o {o:Ho} {p:Ef} (h:NJ p) (he:gI o p=0):jA o p:=by
 have h0:=he;unfold gI at h0;split at h0
 ·omega
 rename_i h1;have h1:=cJ h1;split at h0
 ·omega
 rename_i h2;split at h0
 ·omega
 rename_i h3;have h3:=cJ h3;split at h0
 ·omega
 rename_i h4;unfold RZ at h1;split at h1
 ·omega
 split at h1
 ·omega
 refine ⟨h,he,by omega,fun i hi=>qR _ 0 rfl h1 i (aq _) hi,by omega,fun i hi=>(Zw hi).1 (bg _ 0 rfl h3 i (aq _) hi),by omega,fun i hi=>fC.1 (dO _ 0 rfl h0 i (aq _) hi)⟩
theorem yO {o:Ho} {p:Ef} (h:NJ p) (h1:2≤p.bars.length∧p.bars.length≤201) (h2:∀ i,i<p.bars.length→(0≤gi p.bars i∧gi p.bars i≤100000)∧(0<i→gi p.bars (i-1)<gi p.bars i)) (h3:p.notes.length≤1000) (h4:∀ i,i<p.notes.length→b5y o p i) (h5:p.sets.length≤100)
 (h6:∀ i,i<p.sets.length→(0≤(gi p.sets i).bar∧(gi p.sets i).bar<(p.bars.length:Int)-1)∧(0<i→(gi p.sets (i-1)).bar<(gi p.sets i).bar)∧VZ o (gi p.sets i).reg=0):jA o p:=by
 refine c5o h ?_;unfold gI;have e1:RZ p.bars=0:=by
  unfold RZ;rw [if_neg (by omega),if_neg (by omega)];exact eH h2 _ 0 rfl
 have e2:HY o (OX p) (PD p) p.notes 0=0:=XQ (fun i hi=>(Zw hi).2 (h4 i hi)) _ 0 rfl;rw [if_neg (fun h=>h e1),if_neg (by omega),if_neg (fun h=>h e2),if_neg (by omega)];exact ZR (fun i hi=>fC.2 (h6 i hi)) _ 0 rfl
end Go.Proofs.YtnjkoebfgcbbdaaGreatDoor
namespace Go.Pie
open Go Go.Vm
def YG (P:Nat→Bool) (n:Nat):Nat→Int
 |0=>-1
 |r+1=>if P (n-(r+1))=true then ((n-(r+1):Nat):Int) else YG P n r
def I5 (P:Nat→Bool) (n:Nat):Int:=YG P n n
theorem qc {P:Nat→Bool} {n k:Nat} (hk:k<n) (h:P k=false):YG P n (n-k)=YG P n (n-(k+1)):=by
 obtain ⟨j,hj⟩:∃ j,n-k=j+1:=⟨n-k-1,by omega⟩
 rw [hj];show (if P (n-(j+1))=true then _ else YG P n j)=_;grind
theorem zF {P:Nat→Bool} {n k:Nat} (hk:k<n) (h:P k=true):YG P n (n-k)=(k:Int):=by
 obtain ⟨j,hj⟩:∃ j,n-k=j+1:=⟨n-k-1,by omega⟩
 rw [hj];show (if P (n-(j+1))=true then _ else YG P n j)=_;grind
theorem zG (P:Nat→Bool) (n:Nat):∀ r,r≤n→-1≤YG P n r∧YG P n r<(n:Int)
 |0,_=>⟨by simp [YG],by simp only [YG];omega⟩
 |r+1,hr=>by
  unfold YG;split
  ·omega
  ·exact zG P n r (by omega)
theorem oW {P:Nat→Bool} {n:Nat}:∀ r,r≤n→0≤YG P n r→P (YG P n r).toNat=true
 |0,_,h=>by simp [YG] at h
 |r+1,hr,h=>by
  unfold YG at h ⊢;split
  ·grind
  ·rename_i h1
   rw [if_neg h1] at h;exact oW r (by omega) h
theorem qM {P:Nat→Bool} {n:Nat} (h:∀ i,i<n→P i=false):∀ r,r≤n→YG P n r=-1
 |0,_=>rfl
 |r+1,hr=>by
  unfold YG;rw [if_neg (by grind)];exact qM h r (by omega)
theorem nV {P:Nat→Bool} {n k:Nat} (hp:P k=true):∀ r,r≤n→n-r≤k→k<n→0≤YG P n r
 |0,_,h1,h2=>by omega
 |r+1,hr,h1,h2=>by
  unfold YG;split
  ·omega
  ·rename_i h3
   refine nV hp r (by omega) ?_ h2;grind
structure kW where
 s:Int
 e:Int
 notes:List Int
deriving DecidableEq
instance:Inhabited kW:=⟨⟨0,0,[]⟩⟩
def b9i (a:Int) (S:Int→List Int):Nat→List Int
 |0=>[]
 |n+1=>if n=0∨S (a+n)≠S (a+n-1) then b9i a S n++[a+n] else b9i a S n
def a5g (S:Int→List Int) (T:List Int):List kW:=BD (fun i=>⟨gi T i,gi T (i+1),S (gi T i)⟩) (T.length-1)
def stepW (S:Int→List Int) (w:List kW) (t:Int):List kW :=
 if w.length≠0∧(gi w (w.length-1)).notes=S t then w.set (w.length-1) ⟨(gi w (w.length-1)).s,(gi w (w.length-1)).e+1,(gi w (w.length-1)).notes⟩ else w++[⟨t,t+1,S t⟩]
def c4x (a:Int) (S:Int→List Int):Nat→List kW
 |0=>[]
 |n+1=>stepW S (c4x a S n) (a+n)
theorem NZ {α:Type} [Inhabited α] {l r:List α} {i:Nat} (h:i<l.length):gi (l++r) i=gi l i:=by
 unfold gi;grind
theorem Qm {α:Type} [Inhabited α] {l:List α} {x:α}:gi (l++[x]) l.length=x:=by
 unfold gi;simp
theorem pX (S:Int→List Int) (T:List Int):(a5g S T).length=T.length-1:=CP _ _
def Inc (l:List Int):Prop:=l.Pairwise (·<·)
theorem yS:∀ {l r:List Int},Inc l→Inc r→(∀ x,x∈l↔x∈r)→l=r
 |[],[],_,_,_=>rfl
 |[],y::r,_,_,h=>by have:=(h y).2 (by simp);grind
 |x::l,[],_,_,h=>by have:=(h x).1 (by simp);grind
 |x::l,y::r,h1,h2,h=>by
  have h1':=List.pairwise_cons.1 h1;have h2':=List.pairwise_cons.1 h2;have e:x=y:=by
   have a1:=(h x).1 (by simp);have a2:=(h y).2 (by simp);grind
  subst e;rw [yS h1'.2 h2'.2 fun z=>?_];grind
theorem QB (zs:List Int) (x:Int):x∈Lib.compact zs↔x∈zs:=by
 unfold Lib.compact Lib.compactUpTo;constructor
 ·grind
 ·intro hx
  obtain ⟨i,hi,e⟩:=cK.1 hx;have key:∀ n i,i≤n→∀ hi:i<zs.length,∃ j,(j<zs.length∧Lib.keeps zs.toArray j=true)∧zs.toArray[j]! =zs[i]:=by
   intro n
   induction n with
   |zero =>
    intro i h0 hi;obtain rfl:i=0:=by omega
    exact ⟨0,⟨hi,rfl⟩,by grind⟩
   |succ n ih =>
    intro i h0 hi;by_cases hk:Lib.keeps zs.toArray i=true
    ·grind
    ·match i,hi,h0,hk with
     |0,_,_,hk=>grind
     |i+1,hi,h0,hk =>
      obtain ⟨j,h1,h2⟩:=ih i (by omega) (by omega);refine ⟨j,h1,h2.trans ?_⟩;unfold Lib.keeps at hk;simp only [Nat.add_sub_cancel] at hk;rw [getElem!_pos zs.toArray i (by simpa using (by omega:i<zs.length)),getElem!_pos zs.toArray (i+1) (by simpa using hi)] at hk;simp at hk;exact hk.symm
  obtain ⟨j,h1,h2⟩:=key i i (ab _) hi;grind
theorem XR {zs:List Int} (h:zs.Pairwise (·≤·)):Inc (Lib.compact zs):=by
 have hs:∀ i j,i≤j→j<zs.length→zs.toArray[i]!≤zs.toArray[j]!:=fun i j hij hj=>by
  rw [getElem!_pos zs.toArray i (by grind),getElem!_pos zs.toArray j (by omega)];rcases ax i j with h'|h'
  ·simpa using fW.1 h i j (by omega) hj h'
  grind
 have key:∀ m,m≤zs.length→Inc (Lib.compactUpTo zs.toArray m)∧∀ x,x∈Lib.compactUpTo zs.toArray m→∃ j,j<m∧x=zs.toArray[j]!:=by
  intro m
  induction m with
  |zero=>intro _;exact ⟨List.Pairwise.nil,fun x hx=>by cases hx⟩
  |succ m ih =>
   intro hm;obtain ⟨i1,i2⟩:=ih (by omega);rw [Lib.compactUpTo_succ];by_cases hk:Lib.keeps zs.toArray m=true
   ·rw [if_pos hk]
    refine ⟨List.pairwise_append.2 ⟨i1,List.pairwise_singleton _ _,fun x hx y hy=>?_⟩,fun x hx=>?_⟩
    ·obtain ⟨j,h1,rfl⟩:=i2 x hx
     rw [aR] at hy;subst hy;have h2:=hs j (m-1) (by omega) (by omega);have h3:=hs (m-1) m (by omega) (by omega);have h4:zs.toArray[m]!≠zs.toArray[m-1]!:=by
      rcases of_decide_eq_true hk with h5|h5
      ·omega
      ·exact h5
     omega
    grind
   grind
 exact (key zs.length (ab _)).1
theorem gV (zs:List Int):(zs.mergeSort fun x y=>decide (x≤y)).Pairwise (·≤·):=by
 have:=List.pairwise_mergeSort (le:=fun x y:Int=>decide (x≤y)) (fun a b c h1 h2=>by grind) (fun a b=>by grind) zs;grind
end Go.Pie
namespace Go.Vm
open Go.Am
section
variable {E:Env} {L:Vm.Frame} {H:Vm.Heap} {nx:Nat} {Q:PV→Vm.Heap→Nat→Prop} {w:Bool} {dst:Option Tmp} {ty:TypeId} {pos:String} {af:Array Edge} {gd:Option (Nat×Bool)}
theorem zT {m:Mem} {F:Nat→Prop}:∀ {cs:List FV} {vs:List Value} {j:Nat} {c:FV},Dj m F cs vs→cs[j]?=some c→∃ v,vs[j]?=some v∧RF m F c v
 |_,_,0,c,.cons h t,e=>by grind
 |_,_,j+1,c,.cons h t,e=>by
  obtain ⟨v,h1,h2⟩:=zT t e;grind
 |_,_,_,_,.nil,e=>by grind
theorem Aa.b6x {t e:TypeId} {x ix:Operand} {n:Nat} {cs:List FV} {k:IntKind} {i:Int} {inf:TypeInfo} {c:FV} (hx:AU E.Γ L x=some (.p (.agg cs))) (hi:AU E.Γ L ix=some (.p (.int k i)))
 (ht:E.P.underlying t=some (.array n e)) (ha:GN E.P e=some false) (hs:E.P.info? e=some inf) (h:0≤i∧i<n) (hc:cs[i.toNat*inf.size]?=some c) (q:Q (.p c) H nx) :
 Aa E w ⟨dst,.index t x ix,ty,pos,af,gd⟩ L H nx Q :=
 Aa.quiet q fun m F σ tt h1 h2=>by
  have hr:=Bz h1 h2 hx;generalize hv:ev tt x=v at hr;cases hr with
  |p hr =>
   cases hr with
   |agg hr hcc =>
    rename_i l;obtain ⟨u,g1,g2⟩:=zT hr hc;refine ⟨u,fun _=>?_,.p g2⟩;have hd:DF E.P (Instr.index t (.agg l.toArray) (.int k i))=some u:=by
     unfold Instr.index;simp only [Au,AZ,ht];rw [show DF E.P (asIntOf (.int k i))=some (k,i) from rfl];simp only [Option.bind_some,h,and_self,if_true,Au,F7,hs,Option.map_some];unfold part;simp only [Au,QW,ha,Option.bind_some,Bool.false_eq_true,if_false,List.getElem?_toArray,g1];rfl
    simp only [BO,FB,hv,CV h1 h2 hi,hd,Option.map_some];rfl
end
theorem iZ {Γ:Nat→Option (List Value×TypeId)} {m:Mem} {F:Nat→Prop} {σ:Nat→Value} {H:Heap} {nx b:Nat} {y:HB} (h:Ctx Γ m F σ H nx) (hb:hget H b=some y) :
 Ctx Γ m (fun c=>F c∨Dl (σ b)=some c) σ (hdel H b) nx∧Step m F σ H nx m (fun c=>F c∨Dl (σ b)=some c) σ (hdel H b) nx:=by
 have hown:∀ c,Dl (σ b)=some c→own H σ c:=fun c hc=>⟨b,_,hb,hc⟩
 have hfz:∀ c,F c→(F c∨Dl (σ b)=some c)∧m.get c=m.get c:=fun c hc=>⟨.inl hc,rfl⟩
 have hN:Names nx (htag H) σ (htag (hdel H b)) σ:=fun d _=>by
  rw [Wi];split
  ·exact ⟨trivial,fun _ _ _=>rfl⟩
  ·exact ⟨Vk.refl _,fun _ _ _=>rfl⟩
 have hsub:∀ d x,hget (hdel H b) d=some x→d≠b∧hget H d=some x:=fun d x hd=>by
  rw [Nw] at hd;grind
 refine ⟨⟨?_,?_,?_,?_⟩,⟨ab _,fun _ _ _=>rfl,fun _ h=>.inl h,fun c _ hc=>hc.imp id (hown c),?_,ab _,hN,fun _ h _ _=>h⟩⟩
 ·rintro c (hc|hc)
  ·exact h.fr c hc
  ·exact (h.LY (hown c hc)).2
 ·intro d x hd
  obtain ⟨hne,hd⟩:=hsub d x hd;obtain ⟨h1,h2⟩:=h.hp d x hd;refine ⟨h1,h2.mono hfz hN (ab _) (ab _) fun c hc=>⟨rfl,?_⟩⟩;rintro (hf|hf)
  ·exact (h.LY ⟨d,x,hd,hc⟩).1 hf
  ·exact hne (h.sep d b x _ c hd hb hc hf)
 ·intro d d' x x' c hd hd' hc hc'
  exact h.sep d d' x x' c (hsub d x hd).2 (hsub d' x' hd').2 hc hc'
 ·intro g cs' e' hg
  obtain ⟨h1,h2⟩:=h.gl g cs' e' hg;grind
 ·rintro c _ ⟨d,x,hd,hc⟩
  exact ⟨d,x,(hsub d x hd).2,hc⟩
section
variable {E:Env} {bn:Nat} {L:Vm.Frame} {H:Vm.Heap} {nx:Nat} {Q:BM→Vm.Frame→Vm.Heap→Nat→Prop}
def b4o (E:Env) (g:FuncId) (fn:Func) (cs:List FV) (e:TypeId) (rows:List (List Value)):Prop :=
 ∀ Fo,E.O g=some Fo→∀ m F c vs,m.get c=.cells vs e 0 false→Dj m F cs vs→F c→∃ key,∀ m' F' σ' H' nx',(∀ d,F d→m'.get d=m.get d)→Ctx E.Γ m' F' σ' H' nx'→∃ m1,Fo (Ep fn.ntmps [.pointer (some ⟨c,0,none⟩)]) m'=some (Jp key rows,m1)
theorem Ad.x9 {f:Operand} {ps:Array Tmp} {Ph body:Code} {g:FuncId} {fn:Func} {b:Nat} {cs:List FV} {ct:TypeId} {rows:List (List Value)} (n:Nat) (b9g:Nat→List FV) (a9j:Nat→List Value) (L0:Vm.Frame) (Hk:Nat→Vm.Heap) (Dw:Nat) (inv:Nat→Prop)
 (hf:AU E.Γ L f=some (.clo g [] [.ref b 0])) (hbx:hget H b=some (.box ct (cs.map .p))) (hfn:E.P.funcs[g]?=some fn) (hfl:(flat Ph&&flat body)=true) {Fo:List Value→Mem→Option (Value×Mem)} (ho:E.O g=some Fo) (hr:rows=(List.range n).map a9j) (hlen:∀ k,k<n→(a9j k).length=ps.size) (hpl:∀ k,k<n→(a9j k).all plain=true) (hrel:∀ k,k<n→∀ m F,Dj m F (b9g k) (a9j k))
 (hb:bn≤Dw) (hc:YR L (hdel H b) nx L0 (Hk 0) Dw) (hL0:Gq Dw L0 L0) (hask:b4o E g fn cs ct rows)
 (h0:inv 0) (vH:∀ k,k<n→inv k→Ad E Dw Ph (a3p L0 ps.toList (b9g k)) (Hk k) Dw fun e L1 H1 nx1=>e=.normal∧Ad E Dw body L1 H1 nx1 (RQ (inv (k+1)) Dw L0 (Hk (k+1)) Q))
 (hdone:inv n→Q .normal L0 (Hk n) Dw):Ad E bn (.rangeFunc f ps Ph body) L H nx Q:=by
 intro B hB m F σ t h1 h2 h3;have hv:=Bz h1 h2 hf;have hlb:∃ c vs,ev t f=.func (.func g) #[] #[.pointer (some ⟨c,0,none⟩)]∧m.get c=.cells vs ct 0 false∧Dj m F cs vs∧Dl (σ b)=some c:=by
  obtain ⟨_,c,vs,r1,r2,r3,r4,r5,r6⟩:=h1.hp b _ hbx;generalize ev t f=u at hv;cases hv with
  |clo p1 p2 =>
   cases p1;cases p2 with
   |cons p2 p3 =>
    cases p3;cases p2 with
    |ref q1 q2 q3 =>
     obtain ⟨c',s1,s2⟩:=q3 (by simp [htag,hbx,HB.tag]);rw [r1] at s1;cases s1;exact ⟨c,vs,by rw [s2],r4,Dj.XG r5,by rw [r1];rfl⟩
 obtain ⟨c,vs,hev,hgc,hrc,hblk⟩:=hlb;obtain ⟨g1,g2⟩:=iZ h1 hbx;obtain ⟨F0,hF0⟩:∃ F0:Nat→Prop,F0=fun d=>F d∨Dl (σ b)=some d:=⟨_,rfl⟩
 rw [← hF0] at g1 g2;have hcF:F0 c:=by rw [hF0];exact .inr hblk
 obtain ⟨key,hkey⟩:=hask Fo ho m F0 c vs hgc (hrc.mono fun d hd=>⟨by rw [hF0];exact .inl hd,rfl⟩) hcF;have l1:RL m F0 (htag (hdel H b)) σ nx L t:=RL.step g2 h1 h2;have rounds:∀ j k,k+j=n→inv k→∀ m1 F1 σ1,Ctx E.Γ m1 F1 σ1 (Hk k) Dw→RL m1 F1 (htag (Hk k)) σ1 Dw L0 t→B.to m1 F1 σ1 (Hk k) Dw→(∀ d,F0 d→F1 d∧m1.get d=m.get d) →
  Ob E.P E.O E.G Ph body ps.size (fun m'=>∃ m1,Fo (Ep fn.ntmps [.pointer (some ⟨c,0,none⟩)]) m'=some (Jp key rows,m1)) t ps.toList (rows.drop k) m1 fun e m'=>∃ L' H' nx' F' σ',Q e L' H' nx'∧Ctx E.Γ m' F' σ' H' nx'∧RL m' F' (htag H') σ' nx' L' t∧B.to m' F' σ' H' nx':=by
  intro j
  induction j with
  |zero =>
   intro k hk hik m1 F1 σ1 c1 l b fz;obtain rfl:k=n:=by omega
   rw [hr,eI (by simp)];exact ⟨L0,_,Dw,F1,σ1,hdone hik,c1,l,b⟩
  |succ j ih =>
   intro k hk hik m1 F1 σ1 c1 l b fz;have e0:rows.drop k=a9j k::rows.drop (k+1):=by
    rw [hr,cf (by simp;omega)];simp
   rw [e0];refine ⟨hlen k (by omega),hpl k (by omega),?_⟩;refine (vH k (by omega) hik ⟨m1.at m1.size,F1,σ1,Hk k,Dw⟩ rfl _ F1 σ1 _ (c1.at _) (RL.Og (RL.at (Γ:=E.Γ) _ l) (hrel k (by omega) _ _)) (Step.refl _ _ _ _ _)).mono ?_;rintro e1 s1 ⟨L1,H1,nx1,F2,σ2,⟨he,hbody⟩,d1,d2,d3⟩;refine ⟨he,(hbody ⟨m1.at m1.size,F1,σ1,Hk k,Dw⟩ rfl s1.m F2 σ2 s1.t d1 d2 d3).mono ?_⟩;rintro e2 s2 ⟨L2,H2,nx2,F3,σ3,q,k1,k2,k3⟩;have st:Step m1 F1 σ1 (Hk k) Dw (s2.m.at (min m1.low s2.m.low)) F3 σ3 H2 nx2:=Step.at k3;have k1':=k1.at (min m1.low s2.m.low);have l':=RL.step st c1 l;have b':=Step.trans b st;have fz':∀ d,F0 d→F3 d∧(s2.m.at (min m1.low s2.m.low)).get d=m.get d:=fun d hd=>by
    obtain ⟨x1,x2⟩:=fz d hd;obtain ⟨y1,y2⟩:=st.frozen c1 d x1;exact ⟨y1,y2.trans x2⟩
   cases e2 with
   |normal =>
    have cov:YR L0 H2 nx2 L0 (Hk (k+1)) Dw:=⟨q.2.1,hL0,q.2.2⟩
    have c2:=cov.ctx k1';exact ⟨hkey _ _ _ _ _ (fun d hd=>(fz' d hd).2) c2,ih (k+1) (by omega) q.1 _ _ _ c2 (cov.rl l') (cov.step (by omega) b') fz'⟩
   |ret =>
    obtain ⟨q1,H3,q2,q3⟩:=q;have cov:YR L0 H2 nx2 L0 H3 Dw:=⟨q1,hL0,q2⟩
    exact ⟨L0,H3,Dw,F3,σ3,q3,cov.ctx k1',cov.rl l',cov.step (by omega) b'⟩
   |exit id =>
    obtain ⟨q1,H3,q2,q3⟩:=q;have cov:YR L0 H2 nx2 L0 H3 Dw:=⟨q1,hL0,q2⟩
    exact ⟨L0,H3,Dw,F3,σ3,q3,cov.ctx k1',cov.rl l',cov.step (by omega) b'⟩
 refine Ns.rangeFunc (fn:=fn) (Fo:=Fo) (rows:=rows) hev hfn hfl ho (hkey _ _ _ _ _ (fun _ _=>rfl) g1) ?_;have:=rounds n 0 (by omega) h0 m F0 σ (hc.ctx g1) (hc.rl l1) (hc.step (by omega) (h3.trans g2)) fun d hd=>⟨hd,rfl⟩
 rw [cq] at this;exact this
end
def d0f (e:TypeId) (ks:List Int) (f:Int→List Int):List (FV×FV):=ks.map fun k=>(.int .i64 k,.lst e (cells (f k)) (f k).length)
section
variable {E:Env} {L:Frame} {H:Heap} {nx:Nat} {Q:PV→Heap→Nat→Prop} {w:Bool}
variable {dst:Option Tmp} {ty:TypeId} {pos:String} {af:Array Edge} {gd:Option (Nat×Bool)}
theorem b9u {Γ:Nat→Option (List Value×TypeId)} {m:Mem} {F:Nat→Prop} {σ:Nat→Value} {t:Tr Value} {k:IntKind} {n:Int} {o:Operand} (hx:Ctx Γ m F σ H nx) (hl:RL m F (htag H) σ nx L t) (h:AU Γ L o=some (.p (.int k n))):ev t o=.int k n:=by
 have:=Bz hx hl h;generalize ev t o=v at this;cases this with
 |p h=>cases h;rfl
end
section
variable {E:Env} {bn i:Nat} {ops:Array Oper} {l:List Oper} {L:Frame} {H:Heap} {nx:Nat} {R:Frame→Heap→Nat→Prop}
end
def swp (a b i:Nat):Nat:=if i=a then b else if i=b then a else i
theorem OZ (a b i:Nat):swp a b (swp a b i)=i:=by
 unfold swp;grind
theorem yM {a b i j:Nat} (h:swp a b i=swp a b j):i=j:=by rw [← OZ a b i,h,OZ]
theorem b1z {a b i n:Nat} (ha:n≤a) (hb:n≤b) (h:i<n):swp a b i=i:=by unfold swp;grind
theorem xu {a b i n:Nat} (ha:a<n) (hb:b<n) (h:i<n):swp a b i<n:=by
 unfold swp;grind
def Hrn (ρ:Nat→Nat):Heap→Heap
 |[]=>[]
 |(i,x)::H=>(ρ i,x.rn ρ)::Hrn ρ H
theorem Yd (a b:Nat):∀ (H:Heap) (i:Nat),hget (Hrn (swp a b) H) (swp a b i)=(hget H i).map (HB.rn (swp a b))
 |[],_=>rfl
 |(j,x)::H,i=>by
  simp only [Hrn,Bo];by_cases h:j=i
  ·grind
  ·rw [if_neg h,if_neg (fun e=>h (yM e))];exact Yd a b H i
theorem kC (a b:Nat) (H:Heap) (i:Nat):htag (Hrn (swp a b) H) (swp a b i)=htag H i:=by
 unfold htag;rw [Yd];cases hget H i with
 |none=>rfl
 |some x=>simp [HB.xK]
theorem b2q {Γ:Nat→Option (List Value×TypeId)} {m:Mem} {F:Nat→Prop} {σ:Nat→Value} {H:Heap} {nx a b:Nat} (ha:a<nx) (hb:b<nx) (h:Ctx Γ m F σ H nx):Ctx Γ m F (fun i=>σ (swp a b i)) (Hrn (swp a b) H) nx:=by
 have hr:∀ j,j<nx→swp a b j<nx∧htag (Hrn (swp a b) H) (swp a b j)=htag H j∧(fun i=>σ (swp a b i)) (swp a b j)=σ j:=fun j hj=>⟨xu ha hb hj,kC a b H j,by simp only [OZ]⟩
 have hg:∀ i x,hget (Hrn (swp a b) H) i=some x→∃ y,hget H (swp a b i)=some y∧x=y.rn (swp a b):=fun i x hx=>by
  rw [← OZ a b i,Yd,ae] at hx;grind
 refine ⟨h.fr,fun i x hx=>?_,fun i j x y c hx hy hc hc'=>?_,h.gl⟩
 ·obtain ⟨y,h1,rfl⟩:=hg i x hx
  obtain ⟨h2,h3⟩:=h.hp _ y h1;refine ⟨by have:=xu ha hb h2;rwa [OZ] at this,RB.rn hr h3⟩
 ·obtain ⟨x',h1,_⟩:=hg i x hx
  obtain ⟨y',h2,_⟩:=hg j y hy;exact yM (h.sep _ _ x' y' c h1 h2 hc hc')
theorem b2g {σ:Nat→Value} {H:Heap} {a b c:Nat} (h:own (Hrn (swp a b) H) (fun i=>σ (swp a b i)) c):own H σ c:=by
 obtain ⟨i,x,h1,h2⟩:=h;rw [← OZ a b i,Yd,ae] at h1;obtain ⟨y,h3,_⟩:=h1;exact ⟨_,y,h3,h2⟩
mutual
def FV.flat:FV→Bool
 | .int ..| .bool _| .str _| .val _=>true
 | .agg cs=>FVs.flat cs
 | .lst ..| .E8 _| .own ..=>false
def FVs.flat:List FV→Bool
 |[]=>true
 |c::cs=>FV.flat c&&FVs.flat cs
end
mutual
def PV.flat:PV→Bool
 | .p x=>x.flat
 | .agg cs=>C9.flat cs
 | .Eb cs=>C9.flat cs
 | .vec ..| .ref ..| .EH ..| .mref _=>true
 | .clo _ fs cs=>C9.flat fs&&C9.flat cs
def C9.flat:List PV→Bool
 |[]=>true
 |c::cs=>PV.flat c&&C9.flat cs
end
def HB.flat:HB→Bool
 | .box _ cs=>C9.flat cs
 | .vec _ cs _ _=>FVs.flat cs
 | .map _=>false
 | .QN ..=>false
 | .Jz ..=>false
def b9r:Heap→Bool
 |[]=>true
 |(_,x)::H=>x.flat&&b9r H
section
variable {m m':Mem} {F F':Nat→Prop} {T:Nat→Option Tg} {σ:Nat→Value} {n:Nat}
end
section
variable {E:Env} {L:Frame} {H:Heap} {nx:Nat} {Q:PV→Heap→Nat→Prop} {w:Bool}
variable {dst:Option Tmp} {ty:TypeId} {pos:String} {af:Array Edge} {gd:Option (Nat×Bool)}
end
variable {E:Env} {L:Frame} {H:Heap} {nx:Nat} {Q:PV→Heap→Nat→Prop} {w:Bool}
variable {dst:Option Tmp} {ty:TypeId} {pos:String} {af:Array Edge} {gd:Option (Nat×Bool)}
theorem a8v (σ:Nat→Value) (a:Nat):upd σ a (σ a)=σ:=by funext x;simp only [upd];split<;>simp_all
end Go.Vm
namespace Go.Vm
open Go.Am
section
variable {E:Env} {L:Vm.Frame} {H:Vm.Heap} {nx:Nat} {Q:PV→Vm.Heap→Nat→Prop} {w:Bool} {dst:Option Tmp} {ty:TypeId} {pos:String} {af:Array Edge} {gd:Option (Nat×Bool)}
theorem Ar.b9b (b:Nat) {n:Nat} {e:TypeId} {cs:List FV} (cs':List FV) {z:Bool} (hb:hget H b=some (.vec e cs n z)) (h:FK cs cs'):Ar E L H nx L (hput H b (.vec e cs' n z)) nx:=fun B m F σ t h1 h2 h3=>by
 have hr:=RB.le (JW.vec (n:=n) (z:=z) (e:=e) h rfl) (h1.hp b _ hb).2;obtain ⟨d1,d2⟩:=h1.change (m':=m) (b0:=b) (x':=.vec e cs' n z) (s':=σ b) hb (Vk.refl _) (fun _=>rfl) (ab _) (fun _ _ _=>rfl) (fun _ h _ _=>h) (fun c hc=>.inl hc) hr;exact ⟨F,_,d1,h2.step d2 h1,h3.trans d2⟩
theorem Ar.rX (d j:Nat) {b n k:Nat} {e:TypeId} {cs:List FV} {z:Bool} (hd:Fp L d=some (.vec b n 0 k)) (hb:hget H b=some (.vec e cs n z)) (hn:0<n) (hj:j≤cs.length) :
 Ar E L H nx ((d,.p (.lst e (cs.take j) k))::L) (hdel H b) nx:=fun B m F σ t h1 h2 h3=>by
 obtain ⟨c1,c2⟩:=iZ h1 hb;refine ⟨_,σ,c1,fun i v hi=>?_,h3.trans c2⟩;rw [Ec] at hi;by_cases ei:d=i
 ·rw [if_pos ei] at hi;cases hi
  have:=h2 d _ hd;subst ei;generalize Cj t d=u at this;cases this with
  |vec hb' hc h =>
   have hsub:=(h n (by simp [htag,hb,HB.tag])).2 rfl;obtain ⟨_,hr⟩:=h1.hp b _ hb;rcases hr with ⟨r1,r2,r3⟩|⟨c,g,vs,r1,r2,r3,r4,r5,r6,r7⟩
   ·omega
   ·rw [r1] at hsub
    subst hsub;refine .p (.lst (.inr (by rw [r1];rfl)) r4 (ws:=vs.take j) ?_ ((Dj.take j r5).mono fun d hd=>⟨.inl hd,rfl⟩) (UN r6 _));have:=r5.length;unfold takeN;grind
 ·rw [if_neg ei] at hi
  exact (h2 i v hi).step c2 h1
end
section
variable {P:Program}
structure d0h (P:Program) (t e:TypeId):Prop where
 arr:P.underlying t=some (.array 2 e)
 elt:P.underlying e=some (.int .i64)
 agg:GN P e=some false
 sz:(P.info? e).map (·.size)=some 1
def a2V (a b:Int):Value:=.agg #[.int .i64 a,.int .i64 b]
abbrev c2a:=List ((Int×Int)×Int)
def c8o (es:c2a):List (FV×FV):=es.map fun x=>(.agg [.int .i64 x.1.1,.int .i64 x.1.2],.int .i64 x.2)
def c1r:c2a→Int→Int→Option Int
 |[],_,_=>none
 |x::es,a,b=>if a=x.1.1∧b=x.1.2 then some x.2 else c1r es a b
variable {E:Env} {L:Vm.Frame} {H:Vm.Heap} {nx:Nat} {Q:PV→Vm.Heap→Nat→Prop} {w:Bool} {dst:Option Tmp} {ty:TypeId} {pos:String} {af:Array Edge} {gd:Option (Nat×Bool)}
end
section
variable {E:Env} {L:Frame} {H:Heap} {nx:Nat}
theorem Ar.fresh (e:TypeId):Ar E L H nx L ((nx,.vec e [] 0 true)::H) (nx+1):=fun B m F σ t h1 h2 h3=>by
 obtain ⟨c1,c2⟩:=U2 e h1;exact ⟨F,_,c1,fun i v hi=>(h2 i v hi).step c2 h1,h3.trans c2⟩
variable {Q:PV→Heap→Nat→Prop} {dst:Option Tmp} {ty:TypeId} {pos:String} {af:Array Edge} {gd:Option (Nat×Bool)}
end
def Cc (s:Nat):Nat→(Nat→HB)→Heap
 |0,_=>[]
 |n+1,f=>(s+n,f n)::Cc s n f
theorem Rw {s:Nat} {f:Nat→HB}:∀ {n j:Nat},j<n→hget (Cc s n f) (s+j)=some (f j)
 |0,_,h=>by omega
 |n+1,j,h=>by
  unfold Cc;rw [Bo];by_cases e:n=j
  ·grind
  ·rw [if_neg (by omega)];exact Rw (by omega)
theorem Qe {s:Nat} {f:Nat→HB}:∀ {n b:Nat},b<s∨s+n≤b→hget (Cc s n f) b=none
 |0,_,_=>rfl
 |n+1,b,h=>by
  unfold Cc;rw [Bo,if_neg (by omega)];exact Qe (by omega)
theorem Y1 {s:Nat} {f g:Nat→HB}:∀ {n:Nat},(∀ j,j<n→f j=g j)→Cc s n f=Cc s n g
 |0,_=>rfl
 |n+1,h=>by
  unfold Cc;rw [h n (by omega),Y1 fun j hj=>h j (by omega)]
theorem fV {s:Nat} {f:Nat→HB} {y:HB}:∀ {n j:Nat},j<n→hput (Cc s n f) (s+j) y=Cc s n fun i=>if i=j then y else f i
 |0,_,h=>by omega
 |n+1,j,h=>by
  unfold Cc;simp only [hput];by_cases e:n=j
  ·subst e
   have hd:∃ h,Nat.decEq (s+n) (s+n)=.isTrue h:=⟨rfl,by grind⟩
   obtain ⟨_,hd⟩:=hd;rw [hd,if_pos rfl];simp only;congr 1
   exact Y1 fun i hi=>by grind
  ·have hd:∃ h,Nat.decEq (s+n) (s+j)=.isFalse h:=⟨by omega,by grind⟩
   obtain ⟨_,hd⟩:=hd;rw [hd,if_neg e];rw [fV (by omega)]
theorem EN {a b:Nat} {x:HB} {H:Heap} {r:Option HB} (h:a≠b) (t:hget H b=r):hget ((a,x)::H) b=r:=by rw [Bo,if_neg h];exact t
theorem Rx {a b:Nat} {x y:HB} {H H':Heap} (h:a≠b) (t:hput H b y=H'):hput ((a,x)::H) b y=(a,x)::H':=by
 simp only [hput];cases hd:Nat.decEq a b with
 |isTrue e=>omega
 |isFalse _=>grind
theorem GR {b c:Nat} {y:HB} {H:Heap} {r:Option HB} (h:b≠c) (t:hget H c=r):hget (hput H b y) c=r:=by rw [NP,if_neg h];exact t
theorem Uo {b c:Nat} {x y:HB} (h:b≠c):∀ {H:Heap},hput (hput H b x) c y=hput (hput H c y) b x
 |[]=>rfl
 |(a,z)::H=>by
  cases h1:Nat.decEq a b with
  |isTrue e1 =>
   cases h2:Nat.decEq a c with
   |isTrue e2=>omega
   |isFalse _=>simp only [hput,h1,h2]
  |isFalse _ =>
   cases h2:Nat.decEq a c with
   |isTrue e2=>simp only [hput,h1,h2]
   |isFalse _=>simp only [hput,h1,h2,Uo h (H:=H)]
theorem qH {b c:Nat} {x y:HB} {H H':Heap} (h:b≠c) (t:hput H c y=H'):hput (hput H b x) c y=hput H' b x:=by rw [Uo h,t]
theorem aO:∀ {H T:Heap} {b:Nat},hget (H++T) b=match hget H b with|some x=>some x|none=>hget T b
 |[],_,_=>rfl
 |(a,x)::H,T,b=>by
  rw [List.cons_append,Bo,Bo];by_cases e:a=b
  ·grind
  ·rw [if_neg e,if_neg e];exact aO
theorem BG.tail {k s:Nat} {f:Nat→HB} {H:Heap}:∀ {n:Nat},(∀ j,j<n→hget H (s+j)=some (f j))→s+n≤k→(∀ j,j<n→(f j).under k)→BG k (Cc s n f) H
 |0,_,_,_=>trivial
 |n+1,h,hk,hu=>⟨⟨by omega,hu n (by omega),f n,h n (by omega),.refl _⟩,BG.tail (fun j hj=>h j (by omega)) (by omega) fun j hj=>hu j (by omega)⟩
section
variable {E:Env} {L:Frame} {H:Heap} {nx:Nat}
theorem NY {H1 H2:Heap} (h:∀ b,hget H1 b=hget H2 b):htag H1=htag H2:=by
 unfold htag;grind
theorem a2f {H1 H2:Heap} (h:∀ b,hget H1 b=hget H2 b) {σ:Nat→Value} {c:Nat} (ho:own H1 σ c):own H2 σ c:=by
 obtain ⟨b,x,hb,hc⟩:=ho;exact ⟨b,x,(h b).symm.trans hb,hc⟩
theorem Ctx.congr {Γ:Nat→Option (List Value×TypeId)} {m:Mem} {F:Nat→Prop} {σ:Nat→Value} {H1 H2:Heap} (h:∀ b,hget H1 b=hget H2 b) (c:Ctx Γ m F σ H1 nx):Ctx Γ m F σ H2 nx where
 fr:=c.fr
 hp b x hb:=by
  rw [← NY h];exact c.hp b x ((h b).trans hb)
 sep b b' x x' d h1 h2:=c.sep b b' x x' d ((h b).trans h1) ((h b').trans h2)
 gl:=c.gl
theorem Step.congr {m m':Mem} {F F':Nat→Prop} {σ σ':Nat→Value} {H0 H1 H2:Heap} {nx nx':Nat} (h:∀ b,hget H1 b=hget H2 b) (s:Step m F σ H0 nx m' F' σ' H1 nx'):Step m F σ H0 nx m' F' σ' H2 nx' where
 size:=s.size
 keep:=s.keep
 Ky:=s.Ky
 Kw:=s.Kw
 Jo c hc ho:=s.Jo c hc (a2f (fun b=>(h b).symm) ho)
 Vz:=s.Vz
 names:=by rw [← NY h];exact s.names
 low:=s.low
theorem Ar.congr {L1:Frame} {H1 H2:Heap} {nx1:Nat} (h:∀ b,hget H1 b=hget H2 b) (g:Ar E L H nx L1 H1 nx1):Ar E L H nx L1 H2 nx1:=fun B m F σ t h1 h2 h3=>by
 obtain ⟨F1,σ1,c1,c2,c3⟩:=g B m F σ t h1 h2 h3;refine ⟨F1,σ1,c1.congr h,?_,c3.congr h⟩;rw [← NY h];omega
theorem Ar.refl:Ar E L H nx L H nx:=fun B m F σ t h1 h2 h3=>⟨F,σ,h1,h2,h3⟩
theorem Ar.freshN' (e:TypeId):∀ n:Nat,Ar E L H nx L (Cc nx n (fun _=>.vec e [] 0 true)++H) (nx+n)
 |0=>Ar.refl
 |n+1=>(Ar.freshN' e n).trans (Ar.fresh e)
theorem Ar.b5e (e:TypeId) (n:Nat) (hH:∀ b x,hget H b=some x→b<nx):Ar E L H nx L (H++Cc nx n (fun _=>.vec e [] 0 true)) (nx+n) :=
 (Ar.freshN' e n).congr fun b=>by
  rw [aO,aO];rcases ax b nx with h|h
  ·rw [Qe (.inl h)]
   cases hget H b<;>rfl
  grind
theorem Zl {a n:Nat} {x:HB} {T:Heap} (h:a<n) (t:∀ b y,hget T b=some y→b<n):∀ b y,hget ((a,x)::T) b=some y→b<n:=fun b y hb=>by
 rw [Bo] at hb;grind
theorem b2n {n:Nat}:∀ b y,hget ([]:Heap) b=some y→b<n:=fun _ _ h=>by cases h
theorem a8t {σ:Nat→Value} {m:Mem} {F:Nat→Prop} {b:Nat} {e:TypeId} {Γ:Nat→Option (List Value×TypeId)} (h1:Ctx Γ m F σ H nx) (hb:hget H b=some (.vec e [] 0 true)):RP m F (htag H) σ nx (.vec b 0 0 0) DC:=by
 obtain ⟨hlb,hrb⟩:=h1.hp b _ hb;have hσb:σ b=DC:=by
  rcases hrb with ⟨_,_,h⟩|⟨c,g,vs,_,_,_,_,_,_,h⟩
  ·grind
  grind
 refine .vec hlb rfl fun n hn=>?_
 have:htag H b=some (.vec 0):=by unfold htag;rw [hb];rfl
 rw [this] at hn;simp only [Option.some.injEq,Tg.vec.injEq] at hn;subst hn;refine ⟨ab _,fun _=>?_⟩;rw [hσb];exact ⟨rfl,rfl,rfl⟩
end
section
variable {E:Env} {L:Frame} {H:Heap} {nx:Nat} {Q:PV→Heap→Nat→Prop}
variable {dst:Option Tmp} {ty:TypeId} {pos:String} {af:Array Edge} {gd:Option (Nat×Bool)}
theorem Aa.congr {w:Bool} {o:Oper} {Q1:PV→Heap→Nat→Prop} (h:Aa E w o L H nx Q1) (hq:∀ r H' nx',Q1 r H' nx'→∃ H'',(∀ b,hget H' b=hget H'' b)∧Q r H'' nx'):Aa E w o L H nx Q:=fun m F σ t h1 h2=>by
 refine (h m F σ t h1 h2).mono ?_;rintro v m' ⟨r,H',nx',F',σ',q,c1,c2,c3,c4⟩;obtain ⟨H'',e,q'⟩:=hq r H' nx' q;refine ⟨r,H'',nx',F',σ',q',c1.congr e,?_,c3.congr e,c4⟩;rw [← NY e];omega
def pO (ρ:Nat→Nat) (H:Heap):Heap→Prop
 |[]=>True
 |(i,x)::Hc=>hget H (ρ i)=some (x.rn ρ)∧pO ρ H Hc
theorem pO.hin {ρ:Nat→Nat} {H:Heap}:∀ {Hc:Heap},pO ρ H Hc→HIn ρ H Hc
 |[],_=>trivial
 |(i,x)::Hc,⟨h1,h2⟩=>⟨⟨_,h1,.refl _⟩,pO.hin h2⟩
theorem pO.get {ρ:Nat→Nat} {H:Heap}:∀ {Hc:Heap},pO ρ H Hc→∀ i x,hget Hc i=some x→hget H (ρ i)=some (x.rn ρ)
 |[],_,_,_,h=>by cases h
 |(j,y)::Hc,⟨h1,h2⟩,i,x,h=>by
  rw [Bo] at h;by_cases e:j=i
  ·grind
  ·rw [if_neg e] at h;exact pO.get h2 i x h
def allIn:Nat→Heap→Bool
 |0,_=>true
 |n+1,Hc=>(hget Hc n).isSome&&allIn n Hc
theorem eP {Hc:Heap}:∀ {n i:Nat},allIn n Hc=true→i<n→(hget Hc i).isSome=true
 |0,_,_,h=>by omega
 |n+1,i,h,hi=>by
  simp only [allIn,Bool.and_eq_true] at h;by_cases e:i=n
  ·grind
  ·exact eP h.2 (by omega)
theorem Aa.b3q {fo:Operand} {args:Array Operand} {aT:Array TypeId} {g:FuncId} {fs cs BF ac:List PV} {Hc:Heap} {x:FV} (ns:List Nat) (hc:EZ E g ac Hc ns.length x)
 (hf:AU E.Γ L fo=some (.clo g fs cs)) (ha:evs E.Γ L args.toList=some BF) (hle:OY (fs++BF++cs) (C9.rn (rho ns nx) ac)) (hu:C9.under ns.length ac) (xJ:LV ns.length Hc) (hin:pO (rho ns nx) H Hc) (hall:allIn ns.length Hc=true) (hnd:ns.Nodup) (hlt:∀ b∈ns,b<nx) (q:Q (.p x) H nx) :
 Aa E true ⟨dst,.call { callee:=.value fo,args:=args,argTypes:=aT },ty,pos,af,gd⟩ L H nx Q:=by
 have hge:∀ i,ns.length≤i→rho ns nx i=nx+(i-ns.length):=fun i hi=>a8x hi
 have hinj:∀ i j,rho ns nx i=rho ns nx j→ns.length≤i→ns.length≤j→i=j:=fun i j e hi hj=>by
  grind
 refine Aa.congr (Aa.ZW hf ha hle hu xJ hin.hin hnd hlt (fun h=>by cases h) hc (Q:=fun r H' nx'=>r=.p x∧(∀ b,hget H' b=hget H b)∧nx'=nx) ?_) fun r H' nx' ⟨h1,h2,h3⟩=>⟨H,h2,by grind⟩
 rintro r H' nx' ⟨rfl,rfl,rfl⟩;refine ⟨rfl,fun b=>?_,by omega⟩;rcases KU (k:=ns.length) (ρ:=rho ns nx) (H:=merge ns (rho ns nx) H' H) (H':=H') (b:=b) hinj with ⟨i,hi,e1,e2,e3⟩|⟨_,e⟩
 ·cases h0:hget H' i with
  |none=>rw [h0] at e2;simp at e2
  |some y=>have:=(xJ.get i y h0).1;omega
 ·rw [e]
  cases hi:idx ns b with
  |none=>rw [Gh hi]
  |some i =>
   have h0:=Y6 hi;have hb:rho ns nx i=b:=a3x h0;rw [Kq hi];cases h1:hget H b with
   |none=>rfl
   |some y =>
    cases h2:hget H' i with
    |none =>
     have hlt':i<ns.length:=by
      rcases ax i ns.length with h|h
      ·exact h
      ·rw [aM h] at h0;cases h0
     have:=eP hall hlt';rw [h2] at this;cases this
    |some x =>
     have:=hin.get i x h2;rw [hb,h1] at this;simpa using this.symm
end
structure IsKey (P:Program) (t:TypeId) {α:Type} [DecidableEq α] (kf:α→List FV) (kv:α→List Value):Prop where
 val:∀ a,FQ (kf a)=some (kv a)
 agg:TF P t=true
 eq:∀ a b,DF P (Op.equal t (.agg (kv a).toArray) (.agg (kv b).toArray))=some (decide (a=b))
 chk:∀ fl a,WV P (Instr.checkKey fl 10000 t (.agg (kv a).toArray))=true
def BZ {α β:Type} [DecidableEq α]:List (α×β)→α→Option β
 |[],_=>none
 |x::es,a=>if a=x.1 then some x.2 else BZ es a
def Cm {α β:Type} [DecidableEq α]:List (α×β)→α→β→List (α×β)
 |[],a,b=>[(a,b)]
 |x::es,a,b=>if a=x.1 then (a,b)::es else x::Cm es a b
def FP {α β:Type} [DecidableEq α]:List (α×β)→α→Nat
 |[],_=>0
 |x::es,a=>if a=x.1 then 0 else FP es a+1
def WJ {α:Type} (kf:α→List FV) (es:List (α×PV)):HB:=.Jz (es.map fun x=>.agg (kf x.1)) (es.map (·.2))
theorem OO:∀ {l:List FV} {vs:List Value},FQ l=some vs→vs.all Am.plainCell=true
 |[],_,h=>by cases h;rfl
 |x::l,vs,h=>by
  simp only [FQ] at h;split at h
  ·rename_i v r h1 h2
   cases h;rw [List.all_cons,eJ];refine ⟨?_,OO h2⟩;cases x<;>simp only [iD,Option.some.injEq,reduceCtorEq] at h1<;>subst h1<;>rfl
  grind
theorem Dj.a6o {m:Mem} {F:Nat→Prop}:∀ {l:List FV} {vs:List Value},FQ l=some vs→Dj m F l vs
 |[],_,h=>by cases h;exact .nil
 |x::l,vs,h=>by
  simp only [FQ] at h;split at h
  ·rename_i v r h1 h2
   cases h;refine .cons ?_ (Dj.a6o h2);cases x<;>simp only [iD,Option.some.injEq,reduceCtorEq] at h1<;>subst h1
   ·exact .int _ _
   ·exact .bool _
   ·exact .str _
  grind
theorem WL:∀ {l:List FV} {vs:List Value},FQ l=some vs→∀ x∈vs,∀ n,Instr.sameBits (n+1) x x=true
 |[],_,h=>by cases h;simp
 |x::l,vs,h=>by
  simp only [FQ] at h;split at h
  ·rename_i v r h1 h2
   cases h;intro y hy n;rcases bm.1 hy with rfl|hy
   ·cases x<;>simp only [iD,Option.some.injEq,reduceCtorEq] at h1<;>subst h1<;>simp [Instr.sameBits,NQ]
   ·exact WL h2 y hy n
  grind
def a9q:TypeDesc→Bool
 | .int _=>true
 | .bool=>true
 | .string=>true
 |_=>false
def jy (P:Program):List Field→Array Value→Bool
 |[],_=>true
 |f::fs,xs=>(match GN P f.type,P.underlying f.type,xs[f.offset]? with|some false,some d,some _=>a9q d|_,_,_=>false)&&jy P fs xs
theorem ZB {P:Program} {fl:Bool} {n:Nat} (xs:Array Value):∀ (fs:List Field),jy P fs xs=true→DF P (forIn fs PUnit.unit fun f _=>(do
 if f.name≠"_" then do
  let x ← part f.type xs f.offset
  Instr.checkKey fl (n+1) f.type x
  pure (ForInStep.yield PUnit.unit)
 else pure (ForInStep.yield PUnit.unit):Sem (ForInStep PUnit)))=some PUnit.unit
 |[],_=>rfl
 |f::fs,h=>by
  simp only [jy,Bool.and_eq_true] at h;obtain ⟨h1,h2⟩:=h;have ih:=ZB (P:=P) (fl:=fl) (n:=n) xs fs h2;split at h1
  ·rename_i d v e1 e2 e3
   rw [dz,Au];by_cases hn:f.name≠"_"
   ·rw [if_pos hn]
    have hck:DF P (Instr.checkKey fl (n+1) f.type v)=some ():=by
     rw [Instr.checkKey];simp only [Au,AZ,e2,Option.bind_some];cases d<;>first|rfl|cases h1
    simp only [Au,Gf e1 e3,Option.bind_some,hck,BU];omega
   ·rw [if_neg hn]
    assumption
  grind
section
variable {P:Program} {α:Type} [DecidableEq α] {kf:α→List FV} {kv:α→List Value} {t:TypeId}
theorem IsKey.rel (h:IsKey P t kf kv) {m:Mem} {F:Nat→Prop} {a:α} {v:Value} (r:RF m F (.agg (kf a)) v):v=.agg (kv a).toArray:=by
 cases r with
 |agg r hc=>rw [(Oa r (h.val a)).1]
theorem IsKey.of (h:IsKey P t kf kv) {m:Mem} {F:Nat→Prop} (a:α):RF m F (.agg (kf a)) (.agg (kv a).toArray) :=
 .agg (Dj.a6o (h.val a)) (Dh (OO (h.val a)))
theorem IsKey.plain (h:IsKey P t kf kv) (a:α):Am.plain (.agg (kv a).toArray)=true:=by
 show Am.Gi (.agg (kv a).toArray)=true;simpa [Am.Gi] using OO (h.val a)
theorem IsKey.bits (h:IsKey P t kf kv) (a:α):Instr.sameBits 10000 (.agg (kv a).toArray) (.agg (kv a).toArray)=true:=by
 have hv:=WL (h.val a);show (decide _&&_)=true;simp only [List.size_toArray,Bool.and_eq_true];refine ⟨by simp,?_⟩;rw [aL];rintro ⟨x,y⟩ hxy;have hz:∀ (l:List Value),(x,y)∈l.zip l→x=y∧x∈l:=by
  intro l
  induction l with
  |nil=>simp
  |cons b l ih =>
   intro h;rcases bm.1 h with h|h
   ·grind
   ·obtain ⟨e,m⟩:=ih h
    grind
 grind
theorem IsKey.of_struct {fs:Array Field} (hu:P.underlying t=some (.struct fs)) (hp:P.stoodInHeld t=false) (hv:∀ a,FQ (kf a)=some (kv a)) (he:∀ a b,iK P fs.toList (kv a).toArray (kv b).toArray=some (decide (a=b))) (hc:∀ a,jy P fs.toList (kv a).toArray=true):IsKey P t kf kv where
 val:=hv
 agg:=by unfold TF;rw [hu]
 eq a b:=Ou (d:=9998) hu hp (he a b)
 chk fl a:=by
  have:DF P (Instr.checkKey fl 10000 t (.agg (kv a).toArray))=some ():=by
   rw [Instr.checkKey];simp only [Au,AZ,hu,Option.bind_some];rw [← el,ZB (n:=9998) _ _ (hc a)];rfl
  unfold WV;grind
theorem iT (h:IsKey P t kf kv) {m:Mem} {F:Nat→Prop}:∀ {es:List (α×PV)} {ks:List Value},Dj m F (es.map fun x=>.agg (kf x.1)) ks→ks=es.map fun x=>.agg (kv x.1).toArray
 |[],_,r=>by cases r;rfl
 |x::es,_,r=>by
  cases r with
  |cons r1 r2=>rw [h.rel r1,iT h r2];rfl
theorem tX (h:IsKey P t kf kv) {m:Mem} {F:Nat→Prop} {T:Nat→Option Tg} {σ:Nat→Value} {n:Nat} (a:α):∀ {es:List (α×PV)} {l:List MapEntry},l.map (·.key)=es.map (fun x=>.agg (kv x.1).toArray)→Dt m F T σ n (es.map (·.2)) (l.map (·.val))→∀ (i:Nat),
 (BZ es a=none→DF P (Instr.findAsking t (.agg (kv a).toArray) l i)=some none∧FP es a=es.length∧∀ b,Cm es a b=es++[(a,b)]) ∧
 (∀ c,BZ es a=some c→∃ j v,DF P (Instr.findAsking t (.agg (kv a).toArray) l i)=some (some (i+j,v))∧RP m F T σ n c v∧(∃ e,l[j]?=some e∧e.key=.agg (kv a).toArray∧e.val=v)∧FP es a=j∧∀ b,Cm es a b=es.set j (a,b))
 |[],[],_,_,i=>⟨fun _=>⟨rfl,rfl,fun _=>rfl⟩,fun v hv=>by cases hv⟩
 |[],y::l,h1,_,_=>by grind
 |x::es,[],h1,_,_=>by grind
 |x::es,y::l,h1,h2,i=>by
  simp only [List.map_cons,List.cons.injEq] at h1 h2;cases h2 with
  |cons r1 r2 =>
   obtain ⟨i1,i2⟩:=tX h a h1.2 r2 (i+1);rw [Instr.findAsking,h1.1];simp only [Au,h.eq,Option.bind_some];unfold BZ Cm FP;by_cases hc:a=x.1
   ·rw [if_pos hc,decide_eq_true hc]
    refine ⟨fun h=>(by cases h),fun v hv=>⟨0,y.val,?_,?_,⟨y,rfl,by grind,rfl⟩,by grind,fun b=>?_⟩⟩
    ·rfl
    ·grind
    grind
   grind
theorem Yt (h:IsKey P t kf kv) (fl:Bool) (a:α) (l:List MapEntry):Iy P fl t (.agg (kv a).toArray) l=DF P (Instr.findAsking t (.agg (kv a).toArray) l 0):=by
 have hg:=h.agg;obtain ⟨d,hu,hd⟩:=aV h.agg;have hk:En P t=none:=by
  unfold TF at hg;unfold En;grind
 unfold Iy;rw [hk,hg,h.chk fl a];simp only [Bool.and_self,if_true,Instr.findKey,Au,AZ,hu,Option.bind_some];cases l with
 |nil=>rfl
 |cons x l =>
  unfold Instr.findNow;rw [hd]
variable {E:Env} {L:Vm.Frame} {H:Vm.Heap} {nx:Nat} {Q:PV→Vm.Heap→Nat→Prop} {w:Bool} {dst:Option Tmp} {ty:TypeId} {pos:String} {af:Array Edge} {gd:Option (Nat×Bool)}
theorem kY {Γ:Nat→Option (List Value×TypeId)} {m:Mem} {F:Nat→Prop} {σ:Nat→Value} {tt:Tr Value} {a:α} {o:Operand} (h:IsKey P t kf kv) (hx:Ctx Γ m F σ H nx) (hl:RL m F (htag H) σ nx L tt) (hv:AU Γ L o=some (.p (.agg (kf a)))):ev tt o=.agg (kv a).toArray:=by
 have:=Bz hx hl hv;cases this with
 |p r=>exact h.rel r
theorem I7 {Γ:Nat→Option (List Value×TypeId)} {m:Mem} {F:Nat→Prop} {σ:Nat→Value} {t:Tr Value} {b:Nat} {o:Operand} {ks:List FV} {cs:List PV} (hx:Ctx Γ m F σ H nx) (hl:RL m F (htag H) σ nx L t) (h:AU Γ L o=some (.mref b)) (hb:hget H b=some (.Jz ks cs)):ev t o=σ b:=by
 have:=Bz hx hl h;cases this with
 |mref _ _ h3=>exact h3 (by simp [htag,hb,HB.tag])
theorem Aa.Zx {t:TypeId} (q:Q (.mref nx) ((nx,.Jz [] [])::H) (nx+1)):Aa E w ⟨dst,.makeMap t none,ty,pos,af,gd⟩ L H nx Q:=by
 intro m F σ tt h1 h2;obtain ⟨c1,c2,c3⟩:=h1.new (m':=m.alloc (.map [] 0)) (x:=.Jz [] []) (s:=.map (some m.size)) (by simp [Mem.alloc]) (fun c hc=>by rw [Mem.Bh,if_neg (by omega)]) (by simp only [Mem.alloc];omega) (fun c hc=>by simp only [Dl,Option.some.injEq] at hc;omega)
  ⟨m.size,[],0,rfl,by simp [Mem.alloc],fun hf=>cn _ (h1.fr _ hf),by rw [Mem.Bh,if_pos rfl],.nil,.nil,rfl,rfl⟩
 exact Gs.op (v:=.map (some m.size)) (fun _=>rfl) ⟨_,_,_,F,_,q,c1,.mref (bE _) rfl fun _=>(upd_same _ _ _).symm,c2,fun _=>c3⟩
theorem KY {α:Type} {g:α→α} {e:α}:∀ {l:List α} {j:Nat},l[j]?=some e→l.modify j g=l.set j (g e)
 |[],j,h=>by simp
 |a::l,0,h=>by grind
 |a::l,j+1,h=>by
  rw [List.modify_succ_cons,en,KY (by assumption)]
theorem Stamped.push {l:List MapEntry} {clock:Nat} {k v:Value} (h:Stamped l clock):Stamped (l++[{ key:=k,val:=v,born:=clock }]) (clock+1):=by
 obtain ⟨h1,h2⟩:=h;subst h2;refine ⟨?_,by simp⟩;rw [bk,h1,az,List.length_singleton,List.range_succ];rfl
theorem Stamped.modify {l:List MapEntry} {clock i:Nat} {f:MapEntry→MapEntry} (h:Stamped l clock) (hf:∀ e,(f e).born=e.born):Stamped (l.modify i f) clock:=by
 obtain ⟨h1,h2⟩:=h;refine ⟨?_,by grind⟩;apply bu;grind
theorem Stamped.at {l:List MapEntry} {clock i:Nat} {e:MapEntry} (h:Stamped l clock) (he:l[i]?=some e):e.born=i:=by
 have h1:(l.map (·.born))[i]?=some e.born:=by grind
 rw [h.1] at h1;grind
theorem Stamped.find {l:List MapEntry} {clock i:Nat} (h:Stamped l clock) (hi:i<l.length):l.findIdx? (fun e=>(e.born:Int)==(i:Int))=some i:=by
 rw [List.findIdx?_eq_some_iff_getElem];refine ⟨hi,?_,fun j hj=>?_⟩
 ·rw [h.at (ai hi)];simp
 ·rw [h.at (ai (by omega:j<l.length))]
  grind
theorem gq {β:Type}:∀ {es:List (α×β)} {a:α},FP es a≤es.length∧(FP es a<es.length↔(BZ es a).isSome)
 |[],_=>⟨ab _,by simp [FP,BZ]⟩
 |x::es,a=>by
  obtain ⟨h1,h2⟩:=gq (es:=es) (a:=a);unfold FP BZ;grind
theorem tu {β:Type}:∀ {es:List (α×β)} {a:α} {b:β},FP es a<(Cm es a b).length
 |[],a,b=>by simp [FP,Cm]
 |x::es,a,b=>by
  unfold FP Cm;by_cases h:a=x.1
  ·grind
  ·have:=tu (es:=es) (a:=a) (b:=b)
   grind
theorem Zi {β:Type}:∀ {es:List (α×β)} {a:α} {b c:β},(Cm es a b).set (FP es a) (a,c)=Cm es a c
 |[],a,b,c=>by rfl
 |x::es,a,b,c=>by
  unfold FP Cm;by_cases h:a=x.1
  ·grind
  ·rw [if_neg h,if_neg h,if_neg h,en,Zi]
theorem Uy {β:Type}:∀ {es:List (α×β)} {a:α} {c:β},((Cm es a c)[FP es a]?).map (·.1)=some a
 |[],a,c=>by rfl
 |x::es,a,c=>by
  unfold FP Cm;by_cases e:a=x.1
  ·grind
  ·rw [if_neg e,if_neg e,gt,Uy]
def Lr (E:Env) (H:Vm.Heap) (nx:Nat) (es:List (α×PV)) (a:α) (z:Value) (c:PV):Prop :=
 BZ es a=some c∨BZ es a=none∧∀ m F σ,Ctx E.Γ m F σ H nx→RP m F (htag H) σ nx c z
theorem Lr.b7m {es:List (α×PV)} {a:α} {b:Nat} {e:TypeId} (h:BZ es a=none) (hb:hget H b=some (.vec e [] 0 true)):Lr E H nx es a DC (.vec b 0 0 0) :=
 .inr ⟨h,fun _ _ _ c=>a8t c hb⟩
theorem Lr.const {es:List (α×PV)} {a:α} {z:Value} {zp:PV} (h:BZ es a=none) (hz:YB z=some zp):Lr E H nx es a z zp :=
 .inr ⟨h,fun _ _ _ _=>Xj hz⟩
theorem Aa.yQ {t kt et:TypeId} {x k:Operand} {b:Nat} {es:List (α×PV)} {a:α} {z:Value} {c:PV} (hkt:IsKey E.P kt kf kv) (hx:AU E.Γ L x=some (.mref b)) (hb:hget H b=some (WJ kf es)) (hk:AU E.Γ L k=some (.p (.agg (kf a))))
 (ht:E.P.underlying t=some (.map kt et)) (hz:zeroOf E.P et=some z) (hzp:Am.plain z=true) (hv:Lr E H nx es a z c) (q:Q c H nx):Aa E w ⟨dst,.lookup t x k false,ty,pos,af,gd⟩ L H nx Q :=
 Aa.quiet q fun m F σ tt c1 c2=>by
  obtain ⟨_,r,l,clock,r1,r2,r3,r4,r5,r6,r7⟩:=c1.hp b _ hb;have e1:=iT hkt r5;obtain ⟨f1,f2⟩:=tX hkt a e1 r6 0;have hpl:(Am.plain z&&Am.plain (.agg (kv a).toArray))=true:=by rw [hzp,hkt.plain];rfl
  rcases hv with hv|⟨hv,hc⟩
  ·obtain ⟨j,u,f3,f4,_⟩:=f2 c hv
   refine ⟨u,fun _=>?_,f4⟩;simp only [BO,FB,LZ,ht,hz,I7 c1 c2 hx hb,kY hkt c1 c2 hk,r1,r4,hpl,if_true,Yt hkt,f3,Option.map_some,Bool.false_eq_true,if_false]
  ·have f3:=(f1 hv).1
   refine ⟨z,fun _=>?_,hc m F σ c1⟩;simp only [BO,FB,LZ,ht,hz,I7 c1 c2 hx hb,kY hkt c1 c2 hk,r1,r4,hpl,if_true,Yt hkt,f3,Option.map_some,Bool.false_eq_true,if_false]
theorem Dt.snoc {m:Mem} {F:Nat→Prop} {T:Nat→Option Tg} {σ:Nat→Value} {n:Nat}:∀ {cs:List PV} {vs:List Value} {c:PV} {v:Value},Dt m F T σ n cs vs→RP m F T σ n c v→Dt m F T σ n (cs++[c]) (vs++[v])
 |_,_,_,_,.nil,h=>.cons h .nil
 |_,_,_,_,.cons a t,h=>.cons a (Dt.snoc t h)
theorem yD {t:TypeId} (hkt:IsKey P t kf kv) {m:Mem} {F:Nat→Prop}:∀ (es:List (α×PV)),Dj m F (es.map fun x=>.agg (kf x.1)) (es.map fun x=>.agg (kv x.1).toArray)
 |[]=>.nil
 |x::l=>.cons (hkt.of x.1) (yD hkt l)
theorem Qi {m:Mem} {F:Nat→Prop} {σ:Nat→Value} {kt:TypeId} {b r:Nat} {es es':List (α×PV)} {l':List MapEntry} {clock':Nat} (hkt:IsKey P kt kf kv) {Γ:Nat→Option (List Value×TypeId)} (c1:Ctx Γ m F σ H nx) (hb:hget H b=some (WJ kf es)) (r1:σ b=.map (some r)) (r2:r<m.size) (r3:¬ F r)
 (k1:l'.map (·.key)=es'.map (fun x=>.agg (kv x.1).toArray)) (k2:Dt m F (htag H) σ nx (es'.map (·.2)) (l'.map (·.val))) (k3:Stamped l' clock') :
 Ctx Γ (m.put r (.map l' clock')) F σ (hput H b (WJ kf es')) nx∧Step m F σ H nx (m.put r (.map l' clock')) F σ (hput H b (WJ kf es')) nx:=by
 have hput':∀ d' x,r≠d'→(m.put r x).get d'=m.get d':=fun d' x hd=>by rw [Mem.get_put,if_neg hd]
 have:=c1.change (m':=m.put r (.map l' clock')) (x':=WJ kf es') (s':=σ b) hb trivial (fun _=>rfl) (ab _)
  (fun d' _ hd=>hput' d' _ fun e=>hd (by rw [r1,e];rfl)) (fun k k1 k2 k3=>by
   have:=k3 r (by rw [r1];rfl);simp only [Mem.put];omega) (fun d' hd=>.inl hd) (by
   have hF:∀ d',F d'→F d'∧(m.put r (.map l' clock')).get d'=m.get d':=fun d' hd=>⟨hd,hput' d' _ fun e=>r3 (e▸hd)⟩
   refine ⟨r,l',clock',r1,r2,r3,by rw [Mem.get_put,if_pos rfl],?_,?_,k3⟩
   ·rw [k1]
    exact yD hkt es'
   ·exact k2.mono hF (Ht (x':=WJ kf es') hb trivial fun _=>rfl) (ab _))
 rw [a8v] at this;omega
theorem Aa.b7a {t kt et:TypeId} {x k:Operand} {b:Nat} {es:List (α×PV)} {a:α} {c:PV} {z:Value} (hkt:IsKey E.P kt kf kv) (hx:AU E.Γ L x=some (.mref b)) (hb:hget H b=some (WJ kf es)) (hk:AU E.Γ L k=some (.p (.agg (kf a))))
 (ht:E.P.underlying t=some (.map kt et)) (hz:zeroOf E.P et=some z) (hzp:Am.plain z=true) (hv:Lr E H nx es a z c) {H':Vm.Heap} (hH:hput H b (WJ kf (Cm es a c))=H') (q:Q (.Eb [c,.p (.int .i64 (FP es a:Nat))]) H' nx):Aa E true ⟨dst,.mapEntry t x k,ty,pos,af,gd⟩ L H nx Q:=by
 subst hH;intro m F σ tt c1 c2;obtain ⟨_,r,l,clock,r1,r2,r3,r4,r5,r6,r7⟩:=c1.hp b _ hb;have e1:=iT hkt r5;obtain ⟨f1,f2⟩:=tX hkt a e1 r6 0;have hup:TP E.P t (ev tt x) (ev tt k) m=match Iy E.P false kt (.agg (kv a).toArray) l with
  |some (some (i,v))=>if (En E.P kt).isSome||Instr.sameBits 10000 (((l[i]?).map (·.key)).getD (.agg (kv a).toArray)) (.agg (kv a).toArray) then some (.tuple #[v,.int .i64 ((((l[i]?).map (·.born)).getD 0:Nat):Int)],m.put r (.map (l.modify i fun e=>{ e with key:=.agg (kv a).toArray }) clock)) else none
  |some none=>some (.tuple #[z,.int .i64 ((clock:Nat):Int)],m.put r (.map (l++[{ key:=.agg (kv a).toArray,val:=z,born:=clock }]) (clock+1)))
  |none=>none:=by
  unfold TP;simp only [ht,I7 c1 c2 hx hb,kY hkt c1 c2 hk,r1,r4,hkt.plain,if_true,hz,hzp];rfl
 rw [Yt hkt] at hup;have hlen:l.length=es.length:=by
  have:=congrArg List.length e1;grind
 rcases hv with hl|⟨hl,hc⟩
 ·obtain ⟨j,u,f3,f4,⟨e0,f5,f5',f5''⟩,f7,f6⟩:=f2 c hl
  rw [cw] at f3;rw [f3] at hup;simp only [f5,Option.map_some,Option.getD_some,f5',hkt.bits,Bool.or_true,if_true,r7.at f5] at hup;have hmod:∀ (g:MapEntry→MapEntry),l.modify j g=l.set j (g e0):=fun g=>KY f5
  obtain ⟨d1,d2⟩:=Qi hkt c1 hb r1 r2 r3 (es':=Cm es a c) (l':=l.modify j fun e=>{ e with key:=.agg (kv a).toArray }) (by simp_all) (by rw [hmod,f6 c,cy,cy];exact r6.set j (by grind)) (r7.modify fun _=>rfl);refine Gs.op (v:=.tuple #[u,.int .i64 ((j:Nat):Int)]) (fun _=>by assumption) ⟨_,_,_,F,_,q,d1,?_,d2,fun h=>by cases h⟩;rw [f7];exact .Eb (.cons (f4.step d2 c1) (.cons (.p (.int _ _)) .nil))
 ·obtain ⟨f3,f7,f4⟩:=f1 hl
  rw [f3] at hup;have hcz:=hc m F σ c1;obtain ⟨d1,d2⟩:=Qi hkt c1 hb r1 r2 r3 (es':=Cm es a c) (l':=l++[{ key:=.agg (kv a).toArray,val:=z,born:=clock }]) (clock':=clock+1) (by grind) (by rw [f4 c,bk,bk];exact Dt.snoc r6 hcz) r7.push;refine Gs.op (v:=.tuple #[z,.int .i64 ((clock:Nat):Int)]) (fun _=>by assumption) ⟨_,_,_,F,_,q,d1,?_,d2,fun h=>by cases h⟩;rw [f7,← hlen,← r7.2];exact .Eb (.cons (hcz.step d2 c1) (.cons (.p (.int _ _)) .nil))
theorem Aa.a2w {t kt:TypeId} {x k y:Operand} {b:Nat} {es:List (α×PV)} {a:α} {c0 c:PV} (hkt:IsKey E.P kt kf kv) (hx:AU E.Γ L x=some (.mref b)) (hb:hget H b=some (WJ kf (Cm es a c0))) (hk:AU E.Γ L k=some (.p (.int .i64 (FP es a:Nat)))) (hy:AU E.Γ L y=some c)
 {H':Vm.Heap} (hH:hput H b (WJ kf (Cm es a c))=H') (q:Q (.Eb []) H' nx):Aa E true ⟨dst,.entryStore t x k y,ty,pos,af,gd⟩ L H nx Q:=by
 subst hH;intro m F σ tt c1 c2;obtain ⟨_,r,l,clock,r1,r2,r3,r4,r5,r6,r7⟩:=c1.hp b _ hb;have e1:=iT hkt r5;have hyv:=Bz c1 c2 hy;have hkv:ev tt k=.int .i64 ((FP es a:Nat):Int):=b9u c1 c2 hk;have hlen:l.length=(Cm es a c0).length:=by
  have:=congrArg List.length e1;grind
 have hi:FP es a<l.length:=by rw [hlen];exact tu
 have hmod:∀ (g:MapEntry→MapEntry),l.modify (FP es a) g=l.set (FP es a) (g l[FP es a]):=fun g=>KY (ai hi)
 obtain ⟨d1,d2⟩:=Qi hkt c1 hb r1 r2 r3 (es':=Cm es a c) (l':=l.modify (FP es a) fun e=>{ e with val:=ev tt y }) (by
  rw [hmod,cy,← Zi (b:=c0),cy];have hkey:l[FP es a].key=.agg (kv a).toArray:=by
   have h1:(l.map (·.key))[FP es a]?=some l[FP es a].key:=by grind
   have h2:=Uy (es:=es) (a:=a) (c:=c0);grind
  grind) (by
  rw [hmod,cy,← Zi (b:=c0),cy];exact r6.set _ hyv) (r7.modify fun _=>rfl)
 exact Gs.op (v:=undef) (fun _=>by simp only [BO,FB,IC,I7 c1 c2 hx hb,hkv,r1,r4,r7.find hi,Option.map_some]) ⟨_,_,_,F,_,q,d1,.Eb .nil,d2,fun h=>by cases h⟩
theorem Aa.a6i {α:Type} {_:Enc α} {l:List α} {a:α} {s x:Operand} {sT xT e e2:TypeId} {xd:TypeDesc} {i:TypeInfo} {b b2 n:Nat} {xs:List FV} {z z2:Bool} (hs:AU E.Γ L s=some (.vec b n 0 n)) (hb:hget H b=some (.vec e (cells l) n z))
 (hx:AU E.Γ L x=some (.vec b2 1 0 1)) (hb2:hget H b2=some (.vec e2 xs 1 z2)) (hxs:xs=Enc.enc a) (hn:l.length=n) (xQ:E.P.underlying sT=some (.slice e)) (hxT:E.P.underlying xT=some xd) (hd:∀ k,xd≠.int k) (hi:E.P.info? e=some i)
 (hsz:Enc.size α=i.size) (hzs:Eo i=true) (h0:0<i.size) (hby:i.bytes<1000000) (hlen:l.length<1000000) {H':Vm.Heap} (hH:hput H b (.vec e (cells (l++[a])) (l.length+1) z)=H') (q:Q (.vec b (l.length+1) 0 (l.length+1)) H' nx) :
 Aa E true ⟨dst,.call { callee:=.builtin .append,args:=#[s,x],argTypes:=#[sT,xT] },ty,pos,af,gd⟩ L H nx Q:=by
 subst hH;exact Aa.Dk hs hb hx hb2 hxs hn xQ hxT hd hi hsz hzs h0 hby hlen q
end
end Go.Vm
