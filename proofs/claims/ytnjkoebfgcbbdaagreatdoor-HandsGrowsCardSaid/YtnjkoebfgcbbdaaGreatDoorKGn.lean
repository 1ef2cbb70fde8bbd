/-
  Texts of a proof, merged (HanG, HanH, HanI, HanJ, HanK, Wm1, Wm3, HanL, PieT, PieU, PieS, TraA, PieN, PieO, RkQ). Conditions: in each statement.
-/
import Derived.Maps.RangeRun
import Derived.Test.YtnjkoebfgcbbdaaGreatDoorKGm
set_option linter.unusedSimpArgs false
set_option linter.unusedVariables false
set_option linter.unusedSectionVars false
set_option maxRecDepth 100000
set_option maxHeartbeats 8000000
abbrev gN:=@List.take_set_of_le
namespace Go.Proofs.YtnjkoebfgcbbdaaGreatDoor
open Go Go.Am Go.Vm Go.Pie
attribute [local irreducible] Aa Ai Ag Ad AP Ak Bf BM Bq Ah Vm.Done BD AB Q7
attribute [local irreducible] Ci Ba DV DN Eo AZ CG
theorem Oi {α:Type}:∀ (r cs:List α) (o:Nat) {k:Nat},k≤o→(Df cs o r).take k=cs.take k
 |[],cs,o,k,h=>by rfl
 |a::r,cs,o,k,h=>by
  simp only [Df];rw [Oi r (cs.set o a) (o+1) (by omega),gN h]
theorem filter_all {α:Type} {P:α→Bool} {l:List α} [Inhabited α] (h:∀ i,i<l.length→P (gi l i)=true):l.filter P=l:=by
 rw [gL];intro a ha;obtain ⟨i,hi,rfl⟩:=dr ha;have:=h i hi
 rwa [show gi l i=l[i] by unfold gi;grind] at this
structure Q8 {α:Type} (P:α→Bool) (l zs:List α) (i j:Nat):Prop where
 len:zs.length=l.length
 ij:i<j
 jn:j≤l.length
 keep:zs.take i=(l.take j).filter P
 rest:zs.drop j=l.drop j
theorem Q8.at_ {α:Type} [Inhabited α] {P:α→Bool} {l zs:List α} {i j:Nat} (h:Q8 P l zs i j) (hj:j<l.length):gi zs j=gi l j:=by
 have:=congrArg (fun x=>gi x 0) h.rest;simp only [gi,List.getElem?_drop,Nat.add_zero] at this;exact this
theorem Q8.skip {α:Type} [Inhabited α] {P:α→Bool} {l zs:List α} {i j:Nat} (h:Q8 P l zs i j) (hj:j<l.length) (hp:P (gi l j)=false):Q8 P l zs i (j+1):=by
 refine ⟨h.len,by have:=h.ij;omega,hj,?_,?_⟩
 ·rw [Em hj,cS,h.keep]
  grind
 ·have:=congrArg (List.drop 1) h.rest
  simp_all
theorem Q8.put {α:Type} [Inhabited α] {P:α→Bool} {l zs:List α} {i j:Nat} (h:Q8 P l zs i j) (hj:j<l.length) (hp:P (gi l j)=true):Q8 P l (zs.set i (gi l j)) (i+1) (j+1):=by
 have h1:=h.ij;have h2:=h.len;refine ⟨by grind,by omega,hj,?_,?_⟩
 ·rw [Em hj,cS,← h.keep,Em (by grind),gN (ab _)]
  have e:gi (zs.set i (gi l j)) i=gi l j:=by rw [GX,if_pos ⟨rfl,by omega⟩]
  grind
 ·rw [List.drop_set_of_lt (by omega)]
  have:=congrArg (List.drop 1) h.rest;simp_all
theorem Q8.start {α:Type} [Inhabited α] {P:α→Bool} {l:List α} {k:Nat} (hk:k<l.length) (hp:P (gi l k)=false) (h:∀ i,i<k→P (gi l i)=true):Q8 P l l k (k+1):=by
 refine ⟨rfl,by omega,hk,?_,rfl⟩;rw [Em hk,cS];have:(l.take k).filter P=l.take k:=filter_all fun i hi=>by
  rw [aw] at hi;have:=h i (by omega)
  rwa [show gi (l.take k) i=gi l i from by unfold gi;grind]
 grind
theorem Q8.fin {α:Type} [Inhabited α] {P:α→Bool} {l zs:List α} {i:Nat} (h:Q8 P l zs i l.length):zs.take i=l.filter P∧i=(l.filter P).length:=by
 have h1:=h.keep;rw [cV (ab _)] at h1;refine ⟨h1,?_⟩;rw [← h1,aw,h.len];have:=h.ij;omega
theorem yH {L:Vm.Frame} {H:Vm.Heap} {nx:Nat} {Q:PV→Vm.Heap→Nat→Prop} {dst:Option Tmp} {ty:TypeId} {pos:String} {af:Array Edge} {gd:Option (Nat×Bool)} {fo:Operand} {args:Array Operand} {aT:Array TypeId} {fs cs xs:List PV} {c:Code}
 (hf:AU env.Γ L fo=some (.clo 123 fs cs)) (ha:evs env.Γ L args.toList=some xs) (hb:Tryz.f123.body=some c) (hn:(fs++xs++cs).length≤Tryz.f123.ntmps)
 (h:Ad env nx c (Ce 0 (fs++xs++cs)) H nx (AB env.P Tryz.f123.results.toList Q)):Aa env true ⟨dst,.call { callee:=.value fo,args:=args,argTypes:=aT },ty,pos,af,gd⟩ L H nx Q:=by
 have h0:(match Tryz.f123.body with|some c=>II env.G Tryz.f123 c|none=>false)=true:=by kernel_rfl
 rw [hb] at h0;exact Aa.inline rfl hf ha (Ae (by decide)) Tryz.func123 hb h0 hn h
theorem y9 {L:Vm.Frame} {H:Vm.Heap} {nx:Nat} {Q:PV→Vm.Heap→Nat→Prop} {dst:Option Tmp} {ty:TypeId} {pos:String} {af:Array Edge} {gd:Option (Nat×Bool)} {fo:Operand} {args:Array Operand} {aT:Array TypeId} {fs cs xs:List PV} {c:Code}
 (hf:AU env.Γ L fo=some (.clo 160 fs cs)) (ha:evs env.Γ L args.toList=some xs) (hb:Tryz.f160.body=some c) (hn:(fs++xs++cs).length≤Tryz.f160.ntmps)
 (h:Ad env nx c (Ce 0 (fs++xs++cs)) H nx (AB env.P Tryz.f160.results.toList Q)):Aa env true ⟨dst,.call { callee:=.value fo,args:=args,argTypes:=aT },ty,pos,af,gd⟩ L H nx Q:=by
 have h0:(match Tryz.f160.body with|some c=>II env.G Tryz.f160 c|none=>false)=true:=by kernel_rfl
 rw [hb] at h0;exact Aa.inline rfl hf ha (Ae (by decide)) Tryz.func160 hb h0 hn h
theorem iO:Ak env 75 [.lst 3 (cells ([]:List Int)) 0] (.p (.lst 3 (cells ([]:List Int)) 0)):=by
 refine Ak.enter (Ae (by decide)) Tryz.func75 rfl (by kernel_rfl) (by simp) ?_
 repeat' (first|(refine Ai.Je 2 ?_;refine Ai.ghost (Aw.freeze 7 rfl rfl) ?_)|apply Ad.assoc|apply Ad.BL|apply Ad.G5|apply Ad.P9|apply Ad.ret|apply Ai.nil|apply Ai.one|(apply Aa.eqNil;rfl;rfl;rfl)|(apply Aa.assign;rfl)|(apply Aa.move;rfl)|(apply Aa.buildSlice;rfl;rfl;rfl;decide;rfl;rfl;rfl)|(apply Aa.TK;rfl;rfl;rfl;(first|rfl|omega|(simp only [List.length_take,List.length_drop,List.length_append,List.length_singleton,List.length_cons,List.length_nil]<;>omega));rfl;rfl;(intro _ h;cases h);rfl;rfl;rfl;decide;decide;(first|omega|(simp only [List.length_take,List.length_drop,List.length_append,List.length_singleton,List.length_cons,List.length_nil]<;>omega)))|(apply Ad.QL;rfl)|(intro _))
 all_goals first|(omega)|(refine Done.ret rfl (.p (.nil _)) trivial BH.nil (ao _) (ab _) ⟨rfl,rfl,rfl⟩)|(refine Done.rt rfl rfl ⟨?_,rfl,rfl⟩;try rfl)
def TV (q:Qu) (x:Int):Bool:=!GZ q x.toNat
def IU (q:Qu) (N:List Int):List Int:=N.filter (TV q)
theorem Uw (q:Qu) (hq:JV q) (s:eG) (hN:mW q s.notes) (hNl:s.notes.length≤1000):Ak env 84 [.agg (Enc.enc q),.agg (Enc.enc s)] (.p (.lst 3 (cells (IU q s.notes)) (IU q s.notes).length)):=by
 have hpd:=fun i hi=>N7 q hq i hi
 obtain ⟨a,e,l⟩:=s;simp only at hN hNl ⊢;rcases bl l.length with h0|h0
 ·obtain rfl:l=[]:=ar.1 h0
  have hcl:=iO;unfold IU;rw [List.filter_nil];refine Ak.enter (Ae (by decide)) Tryz.func84 rfl (by kernel_rfl) (by simp [Tryz.ntmps84]) ?_
  repeat' (first|(apply Aa.fn;rfl;rfl;exact hcl;intro _;rfl)|(apply Aa.makeFunc;rfl;rfl)|(apply yH;rfl;rfl;rfl;exact le_dec rfl)|(apply y9;rfl;rfl;rfl;exact le_dec rfl)|refine FT ?_|fail)
  all_goals try (exfalso;omega)
  refine Ad.b2t 0 ?_
  repeat' (first|refine go2 ?_|(apply AB.ret;rfl)|(apply Q7.zero)|(apply Ad.AX;rfl)|(apply Ad.Aj;rfl))
  all_goals first|(exfalso;omega)|contradiction|(refine Done.rt rfl rfl ⟨?_,rfl,rfl⟩;try rfl)
 have hcl:=WE l h0 (by omega);unfold IU;refine Ak.enter (Ae (by decide)) Tryz.func84 rfl (by kernel_rfl) (by simp [Tryz.ntmps84]) ?_
 repeat' (first|(apply Aa.fv;rfl;rfl;exact hcl)|(apply Aa.makeFunc;rfl;rfl)|(apply yH;rfl;rfl;rfl;exact le_dec rfl)|(apply y9;rfl;rfl;rfl;exact le_dec rfl)|(apply Aa.lenV;rfl;rfl;rfl)|refine FT ?_|fail)
 all_goals try (exfalso;omega)
 apply Ad.Il (l.length) (fun k=>∀ i,i<k→TV q (gi l i)=true) [(0,_),(1,_),(7,_)] [(2,_)] (fun k r=>(8,.p (.int .i64 (k:Int)))::r) (fun k r=>r) 3
 ·first|omega|decide
 ·first|omega|decide
 ·exact RH
 ·exact U0
 ·first|(intro _ _;omega)|omega|trivial
 ·intro k hk hi
  obtain ⟨g1,g2⟩:=hN k hk;have hC:=hpd (gi l k).toNat (by omega);rw [dx g1] at hC;by_cases hp:TV q (gi l k)=true
  ·have hp1:GZ q (gi l k).toNat=false:=by unfold TV at hp;simpa using hp
   rw [hp1] at hC
   repeat' (first|(apply Aa.TN hC;rfl;rfl;exact .of_eq rfl;exact CS.Az rfl)|(apply Aa.DU;rfl;rfl;rfl;rfl;omega)|refine go1 ?_|(apply Aa.int;rfl;rfl;rfl)|(apply Ad.Ac;rfl)|(apply Ad.cond_false;rfl)|(intro _;try (exfalso;omega)))
   all_goals try (exfalso;omega)
   refine Ah.normal ⟨(all_succ hi hp),by first|omega|decide,?_,?_⟩
   ·exact Dl
   ·exact Eh
  ·have hp':TV q (gi l k)=false:=by cases h:TV q (gi l k)<;>simp_all
   have hp1:GZ q (gi l k).toNat=true:=by unfold TV at hp';simpa using hp'
   rw [hp1] at hC
   repeat' (first|(apply Aa.TN hC;rfl;rfl;exact .of_eq rfl;exact CS.Az rfl)|(apply Aa.DU;rfl;rfl;rfl;rfl;omega)|refine go1 ?_|(apply AB.ret;rfl)|(apply Aa.int;rfl;rfl;rfl)|(apply Ad.Aj;rfl)|(apply Ad.Ac;rfl)|(apply Ad.cond_true;rfl)|(intro _;try (exfalso;omega)))
   all_goals try (exfalso;omega)
   refine Ad.DK (fun s:List Int×Nat×Nat=>[(0,.vec 2 l.length 0 l.length),(1,.clo 85 [.p (.agg (Enc.enc q))] []),(5,.p (.int .i64 (s.2.1:Int))),(6,.p (.int .i64 (s.2.2:Int)))]) (fun s=>[(2,.vec 3 (cells s.1) l.length false)]) 3 (fun s=>Q8 (TV q) l s.1 s.2.1 s.2.2) (fun s=>l.length-s.2.2) (l,k,k+1) (by decide) (Q8.start hk hp' hi) ⟨by decide,?_,?_⟩ ?_
   ·exact Dl
   ·exact Eh
   rintro ⟨zs,i,j⟩ hD;simp only at hD ⊢;have z1:=hD.len;have z2:=hD.ij;have z3:=hD.jn;by_cases hj:j<l.length
   ·obtain ⟨g3,g4⟩:=hN j hj
    have hC2:=hpd (gi l j).toNat (by omega);rw [dx g3] at hC2;have hz:=hD.at_ hj;by_cases hw:TV q (gi l j)=true
    ·have hw1:GZ q (gi l j).toNat=false:=by unfold TV at hw;simpa using hw
     rw [hw1] at hC2;rw [← hz] at hC2
     repeat' (first|(apply Aa.TN hC2;rfl;rfl;exact .of_eq rfl;exact CS.Az rfl)|(apply Aa.Kz (y:=gi zs j);rfl;rfl;rfl;trivial;(first|rfl|(refine congrArg (fun t=>[PV.p (FV.int _ t)]) ?_;first|omega|(simp only [Int.natCast_add,Int.natCast_mul,Int.natCast_ediv,Int.natCast_emod]<;>omega)));rfl;rfl;decide;(first|omega|(simp only [List.length_set]<;>omega)))|(apply Aa.lenV;rfl;rfl;rfl)|(apply Aa.DU;rfl;rfl;rfl;rfl;omega)|refine go1 ?_|(apply Aa.int;rfl;rfl;rfl)|(apply Ad.Ac;rfl)|(apply Ad.cond_true;rfl)|(intro _;try (exfalso;omega)))
     all_goals try (exfalso;omega)
     refine Ah.normal ⟨(zs.set i (gi l j),i+1,j+1),hD.put hj hw,by simp only;omega,⟨by omega,?_,?_⟩⟩
     ·exact Dl
     ·rw [← hz]
      exact Eh
    ·have hw':TV q (gi l j)=false:=by cases h:TV q (gi l j)<;>simp_all
     have hw1:GZ q (gi l j).toNat=true:=by unfold TV at hw';simpa using hw'
     rw [hw1] at hC2;rw [← hz] at hC2
     repeat' (first|(apply Aa.TN hC2;rfl;rfl;exact .of_eq rfl;exact CS.Az rfl)|(apply Aa.lenV;rfl;rfl;rfl)|(apply Aa.DU;rfl;rfl;rfl;rfl;omega)|refine go1 ?_|(apply Aa.int;rfl;rfl;rfl)|(apply Ad.Ac;rfl)|(apply Ad.cond_false;rfl)|(intro _;try (exfalso;omega)))
     all_goals try (exfalso;omega)
     refine Ah.normal ⟨(zs,i,j+1),hD.skip hj hw',by simp only;omega,⟨by omega,?_,?_⟩⟩
     ·exact Dl
     ·exact Eh
   ·obtain rfl:j=l.length:=by omega
    obtain ⟨f1,f2⟩:=hD.fin;rw [← f1,show (zs.take i).length=i by rw [aw];omega];have hps:∀ xs,((Df (cells zs) (0+i*1) xs).take (i*1))=cells (zs.take i):=fun xs=>by
     rw [Oi _ _ _ (show i*1≤0+i*1 by omega)];exact NP zs i
    have hpl:∀ xs,i*1≤(Df (cells zs) (0+i*1) xs).length:=fun xs=>by
     rw [PU,CZ,z1];show i*1≤l.length*1;omega
    repeat' (first|(refine Ag.Je 4 ?_;refine Ag.ghost (Aw.mV 10 (i*1) rfl rfl (by omega) (hpl _)) ?_)|apply Ad.assoc|apply Ad.BL|apply Ad.Gi|apply BM.normal|(apply AB.ret;rfl)|apply Bq.exit|apply Ah.exit|apply Ad.ret|apply Ai.nil|apply Ag.nil|apply Ai.one|(apply Ag.bar;decide +kernel)|(apply Aa.jf (sz:=1) (a:=i) (c:=l.length);rfl;rfl;omega;rfl;rfl;rfl;exact ⟨_,rfl⟩;rfl;omega;exact ab _)|(apply Aa.jf (sz:=1) (a:=0) (c:=i);rfl;rfl;omega;rfl;rfl;rfl;rfl;exact ⟨_,rfl⟩;omega;omega)|(apply Aa.clear;rfl;rfl;omega;omega;rfl;rfl;rfl;decide;(rw [CZ,z1];show 0+i*1+(l.length-i)*1≤l.length*1;omega))|(apply Aa.assign;rfl)|(apply Aa.move;rfl)|(apply Aa.int;rfl;rfl;rfl)|(apply Aa.lenV;rfl;rfl;rfl)|(apply Ad.Ac;rfl)|(intro _;try (exfalso;omega)))
    all_goals first|(exfalso;omega)|(refine Done.rt rfl rfl ⟨?_,rfl,rfl⟩;exact congrArg (fun c=>PV.p (FV.lst 3 c i)) (hps _))
 ·intro hi
  rw [filter_all hi]
  repeat' (first|(refine Ag.Je 4 ?_;refine Ag.ghost (Aw.freeze 10 rfl rfl) ?_)|apply Ad.assoc|apply Ad.BL|apply Ad.P9|apply Ad.Gi|apply BM.normal|(apply AB.ret;rfl)|apply Bq.exit|apply Ah.exit|apply Ad.ret|apply Ai.nil|apply Ag.nil|apply Ai.one|(apply Ag.bar;decide +kernel)|(apply Aa.assign;rfl)|(apply Aa.move;rfl)|(apply Aa.int;rfl;rfl;rfl)|(apply Ad.AX;rfl)|(apply Ad.Ac;rfl)|(intro _;try (exfalso;omega)))
  all_goals first|(exfalso;omega)|(refine Done.rt rfl rfl ⟨?_,rfl,rfl⟩;try rfl)
theorem Yg (p:F7) {i:Nat} (hi:i<(A8 p).length):gi (A8 p) i=⟨gi (Dx p) i,gi (Dx p) (i+1),snd p (gi (Dx p) i)⟩:=by
 unfold A8 a3h at hi ⊢;rw [Cj] at hi;exact Ej _ hi
theorem QF (p:F7):(A8 p).length≤2*p.notes.length+1:=by
 have h1:=qE (snd p) (Dx p);have h2:=Xk ((Tz p p.notes.length).mergeSort fun x y=>decide (x≤y));rw [gE,X5] at h2;have h3:(Dx p).length≤_:=h2;show (a3h (snd p) (Dx p)).length≤_;omega
def Jd (q:Qu) (i:Nat):List Int:=(gi (A8 q.p) i).notes
theorem Qn {q:Qu} {i:Nat} (hi:i<(A8 q.p).length):mW q (Jd q i):=by
 unfold Jd;rw [Yg _ hi];exact fun k hk=>b5p hk
theorem YG {q:Qu} (hq:JV q) {i:Nat} (hi:i<(A8 q.p).length):(Jd q i).length≤1000:=by
 unfold Jd;rw [Yg _ hi];exact am (Ut q.p _ _) hq.p.notes
theorem J9 (q:Qu) (hq:JV q):Ak env 38 [.agg (Enc.enc q)] (.p (.lst 81 (cells (A8 q.p)) (A8 q.p).length)):=by
 have h:=qW hq.o.sm hq.e hq.p;refine Ak.enter (Ae (by decide)) Tryz.func38 rfl (by kernel_rfl) (by simp) ?_
 repeat' (first|(apply Aa.fn;rfl;rfl;exact h;intro _;rfl)|refine go1 ?_|fail)
 all_goals first|(omega)|(refine Done.rt rfl rfl ⟨?_,rfl,rfl⟩;try rfl)
theorem b1j {L:Vm.Frame} {H:Vm.Heap} {nx:Nat} {Q:PV→Vm.Heap→Nat→Prop} {dst:Option Tmp} {ty:TypeId} {pos:String} {af:Array Edge} {gd:Option (Nat×Bool)} {fo:Operand} {args:Array Operand} {aT:Array TypeId} {fs cs xs:List PV} {c:Code}
 (hf:AU env.Γ L fo=some (.clo 82 fs cs)) (ha:evs env.Γ L args.toList=some xs) (hb:Tryz.f82.body=some c) (hn:(fs++xs++cs).length≤Tryz.f82.ntmps)
 (h:Ad env nx c (Ce 0 (fs++xs++cs)) H nx (AB env.P Tryz.f82.results.toList Q)):Aa env true ⟨dst,.call { callee:=.value fo,args:=args,argTypes:=aT },ty,pos,af,gd⟩ L H nx Q:=by
 have h0:(match Tryz.f82.body with|some c=>II env.G Tryz.f82 c|none=>false)=true:=by kernel_rfl
 rw [hb] at h0;exact Aa.inline rfl hf ha (Ae (by decide)) Tryz.func82 hb h0 hn h
theorem zk {L:Vm.Frame} {H:Vm.Heap} {nx:Nat} {Q:PV→Vm.Heap→Nat→Prop} {dst:Option Tmp} {ty:TypeId} {pos:String} {af:Array Edge} {gd:Option (Nat×Bool)} {fo:Operand} {args:Array Operand} {aT:Array TypeId} {fs cs xs:List PV} {c:Code}
 (hf:AU env.Γ L fo=some (.clo 97 fs cs)) (ha:evs env.Γ L args.toList=some xs) (hb:Tryz.f97.body=some c) (hn:(fs++xs++cs).length≤Tryz.f97.ntmps)
 (h:Ad env nx c (Ce 0 (fs++xs++cs)) H nx (AB env.P Tryz.f97.results.toList Q)):Aa env true ⟨dst,.call { callee:=.value fo,args:=args,argTypes:=aT },ty,pos,af,gd⟩ L H nx Q:=by
 have h0:(match Tryz.f97.body with|some c=>II env.G Tryz.f97 c|none=>false)=true:=by kernel_rfl
 rw [hb] at h0;exact Aa.inline rfl hf ha (Ae (by decide)) Tryz.func97 hb h0 hn h
def vK (q:Qu) (l:List Int):Int:=Ep (fun i=>!H7 q (Jd q i) l) (A8 q.p).length
theorem dD (q:Qu) (hq:JV q) (l:List Int) (hl:l.length=q.p.notes.length):Ak env 45 [.agg (Enc.enc q),.lst 3 (cells l) l.length] (.p (.int .i64 (vK q l))):=by
 have hS:=J9 q hq;have hSl:=QF q.p;have hn:=hq.p.notes;have hM:∀ k,k<(A8 q.p).length→Eb env 98 ([.p (.agg (Enc.enc (gi (A8 q.p) k)))]++[.ref 0 0,.ref 1 0]) [(0,bP q),(1,.box 28 [.p (.lst 3 (cells l) l.length)])] 2 (.bool (!H7 q (Jd q k) l)):=fun k hk=>ZR q hq _ (Qn hk) (YG hq hk) l hl
 unfold vK;unfold bP at hM;generalize hP:(fun i=>!H7 q (Jd q i) l)=P at *;have hM:∀ k,k<(A8 q.p).length→Eb env 98 ([.p (.agg (Enc.enc (gi (A8 q.p) k)))]++[.ref 0 0,.ref 1 0]) [(0,.box 36 ((Enc.enc q).map .p)),(1,.box 28 [.p (.lst 3 (cells l) l.length)])] 2 (.bool (P k)):=fun k hk=>by grind
 generalize A8 q.p=S at *;refine Ak.enter (Ae (by decide)) Tryz.func45 rfl (by kernel_rfl) (by simp) ?_
 repeat' (first|(apply Aa.fn;rfl;rfl;exact hS;intro _;rfl)|(apply Aa.makeFunc;rfl;rfl)|(apply zk;rfl;rfl;rfl;exact le_dec rfl)|refine go1 ?_|fail)
 all_goals try (exfalso;omega)
 apply Ad.Il (S.length) (fun k=>Xn P S.length (S.length-k)=Ep P S.length) [(0,_),(1,_),(7,_)] [(0,_),(1,_)] (fun k r=>(8,.p (.int .i64 (k:Int)))::r) (fun k r=>r) 2
 ·simp
 ·simp
 ·exact RH
 ·exact U0
 ·rfl
 ·intro k hk hi
  have hC:=hM k hk;by_cases hp:P k=true
  ·rw [hp] at hC
   have e1:Ep P S.length=(k:Int):=by rw [← hi,Yq hk hp]
   rw [e1]
   repeat' (first|(apply Aa.read [0,1] hC;rfl;rfl;exact .of_eq rfl;exact CS.Az rfl;exact CY rfl;(repeat (first|exact trivial|refine ⟨⟨_,rfl,.of_eq rfl⟩,?_⟩));decide;(intro _ hb;simp at hb<;>omega);rfl)|(apply Aa.Ap;rfl;rfl;rfl;omega;rfl)|refine go1 ?_|(apply AB.ret;rfl)|(apply Aa.int;rfl;rfl;rfl)|(apply Ad.Ac;rfl)|(apply Ad.cond_true;rfl)|(intro _;try (exfalso;omega)))
   all_goals first|(exfalso;omega)|contradiction|(refine Done.rt rfl rfl ⟨?_,rfl,rfl⟩;try rfl)
  ·have hp':P k=false:=by simpa using hp
   rw [hp'] at hC
   repeat' (first|(apply Aa.read [0,1] hC;rfl;rfl;exact .of_eq rfl;exact CS.Az rfl;exact CY rfl;(repeat (first|exact trivial|refine ⟨⟨_,rfl,.of_eq rfl⟩,?_⟩));decide;(intro _ hb;simp at hb<;>omega);rfl)|(apply Aa.Ap;rfl;rfl;rfl;omega;rfl)|refine go1 ?_|(apply Aa.int;rfl;rfl;rfl)|(apply Ad.Ac;rfl)|(apply Ad.cond_false;rfl)|(intro _;try (exfalso;omega)))
   all_goals try (exfalso;omega)
   all_goals try contradiction
   refine Ah.normal ⟨((UC hk hp').symm.trans hi),by first|omega|decide,?_,?_⟩
   ·exact Dl
   ·exact Eh
 ·intro hi
  have e1:Ep P S.length=-1:=by rw [← hi,cY];rfl
  rw [e1]
  repeat' (first|refine go2 ?_|(apply AB.ret;rfl)|(apply Ad.Ac;rfl)|(intro _;try (exfalso;omega)))
  all_goals first|(exfalso;omega)|(refine Done.rt rfl rfl ⟨?_,rfl,rfl⟩;try rfl)
theorem bG (q:Qu) (hq:JV q) (s:eG) (hN:mW q s.notes) (hNl:s.notes.length≤1000):Eb env 83 ([.p (.agg (Enc.enc s))]++[.ref 0 0]) [(0,.box 36 ((Enc.enc q).map .p))] 1 (.bool (decide (12<(IU q s.notes).length))):=by
 have hp:=Uw q hq s hN hNl;have e:decide (12<(IU q s.notes).length)=decide (((IU q s.notes).length:Int)>12):=by
  grind
 rw [e];generalize IU q s.notes=M at *;refine Eb.enter (Ae (by decide)) Tryz.func83 rfl (by kernel_rfl) (by simp) ?_
 repeat' (first|(apply Aa.fn;rfl;rfl;exact hp;intro _;rfl)|refine go1 ?_|(apply Aa.int;rfl;rfl;rfl))
 all_goals first|(exfalso;omega)|(refine Done.ret rfl (.refl _) trivial ?_ (by omega) (ab _) ⟨?_,rfl,rfl⟩;exact Eh;try rfl)
def b0n (q:Qu):Bool:=decide (0≤Ep (fun i=>decide (12<(IU q (Jd q i)).length)) (A8 q.p).length)
theorem TQ (q:Qu) (hq:JV q):Ak env 36 [.agg (Enc.enc q)] (.p (.bool (b0n q))):=by
 have hS:=J9 q hq;have hSl:=QF q.p;have hn:=hq.p.notes;have hM:∀ k,k<(A8 q.p).length→Eb env 83 ([.p (.agg (Enc.enc (gi (A8 q.p) k)))]++[.ref 0 0]) [(0,.box 36 ((Enc.enc q).map .p))] 1 (.bool (decide (12<(IU q (Jd q k)).length))):=fun k hk=>bG q hq _ (Qn hk) (YG hq hk)
 unfold b0n;generalize hP:(fun i=>decide (12<(IU q (Jd q i)).length))=P at *;have hM:∀ k,k<(A8 q.p).length→Eb env 83 ([.p (.agg (Enc.enc (gi (A8 q.p) k)))]++[.ref 0 0]) [(0,.box 36 ((Enc.enc q).map .p))] 1 (.bool (P k)):=fun k hk=>by grind
 generalize A8 q.p=S at *;refine Ak.enter (Ae (by decide)) Tryz.func36 rfl (by kernel_rfl) (by simp) ?_
 repeat' (first|(apply Aa.fn;rfl;rfl;exact hS;intro _;rfl)|(apply Aa.makeFunc;rfl;rfl)|(apply b1j;rfl;rfl;rfl;exact le_dec rfl)|(apply zk;rfl;rfl;rfl;exact le_dec rfl)|refine go1 ?_|fail)
 all_goals try (exfalso;omega)
 apply Ad.Il (S.length) (fun k=>Xn P S.length (S.length-k)=Ep P S.length) [(0,_),(1,_),(7,_)] [(0,_)] (fun k r=>(8,.p (.int .i64 (k:Int)))::r) (fun k r=>r) 1
 ·simp
 ·simp
 ·exact RH
 ·exact U0
 ·rfl
 ·intro k hk hi
  have hC:=hM k hk;by_cases hp:P k=true
  ·rw [hp] at hC
   have e1:Ep P S.length=(k:Int):=by rw [← hi,Yq hk hp]
   rw [e1]
   repeat' (first|(apply Aa.read [0] hC;rfl;rfl;exact .of_eq rfl;exact CS.Az rfl;exact CY rfl;(repeat (first|exact trivial|refine ⟨⟨_,rfl,.of_eq rfl⟩,?_⟩));decide;(intro _ hb;simp at hb<;>omega);rfl)|(apply Aa.Ap;rfl;rfl;rfl;omega;rfl)|refine go1 ?_|(apply AB.ret;rfl)|(apply Aa.int;rfl;rfl;rfl)|(apply Ad.Ac;rfl)|(apply Ad.cond_true;rfl)|(intro _;try (exfalso;omega)))
   all_goals first|(exfalso;omega)|contradiction|(refine Done.rt rfl rfl ⟨?_,rfl,rfl⟩;try rfl)
  ·have hp':P k=false:=by simpa using hp
   rw [hp'] at hC
   repeat' (first|(apply Aa.read [0] hC;rfl;rfl;exact .of_eq rfl;exact CS.Az rfl;exact CY rfl;(repeat (first|exact trivial|refine ⟨⟨_,rfl,.of_eq rfl⟩,?_⟩));decide;(intro _ hb;simp at hb<;>omega);rfl)|(apply Aa.Ap;rfl;rfl;rfl;omega;rfl)|refine go1 ?_|(apply Aa.int;rfl;rfl;rfl)|(apply Ad.Ac;rfl)|(apply Ad.cond_false;rfl)|(intro _;try (exfalso;omega)))
   all_goals try (exfalso;omega)
   all_goals try contradiction
   refine Ah.normal ⟨((UC hk hp').symm.trans hi),by first|omega|decide,?_,?_⟩
   ·exact Dl
   ·exact Eh
 ·intro hi
  have e1:Ep P S.length=-1:=by rw [← hi,cY];rfl
  rw [e1]
  repeat' (first|refine go2 ?_|(apply AB.ret;rfl)|(apply Ad.Ac;rfl)|(intro _;try (exfalso;omega)))
  all_goals first|(exfalso;omega)|(refine Done.rt rfl rfl ⟨?_,rfl,rfl⟩;try rfl)
noncomputable def hcE (q:Qu):Int:=if XJ q.o q.p=0 then a3u q.y else XJ q.o q.p
theorem xE {q:Qu} (hq:JV q):hcE q=0:=by
 unfold hcE;rw [if_pos hq.e,jd hq.y]
theorem Pn (q:Qu) (ho:UF q.o) (hp:YC q.p):Ak env 33 [.agg (Enc.enc q)] (.p (.int .i64 (hcE q))):=by
 have hc:=RD q.o q.p ho hp;have hs:=KP q.y;unfold hcE;generalize XJ q.o q.p=e1 at *;by_cases h:e1=0
 ·subst h
  refine Ak.enter (Ae (by decide)) Tryz.func33 rfl (by kernel_rfl) (by simp) ?_
  repeat' (first|(apply Aa.fn;rfl;rfl;exact hc;intro _;rfl)|(apply Aa.fn;rfl;rfl;exact hs;intro _;rfl)|refine go1 ?_|(apply Aa.int;rfl;rfl;rfl)|(apply Ad.Aj;rfl))
  all_goals first|(exfalso;omega)|contradiction|(refine Done.rt rfl rfl ⟨?_,rfl,rfl⟩;try rfl)
 ·rw [if_neg h]
  refine Ak.enter (Ae (by decide)) Tryz.func33 rfl (by kernel_rfl) (by simp) ?_
  repeat' (first|(apply Aa.fn;rfl;rfl;exact hc;intro _;rfl)|refine go1 ?_|(apply Aa.int;rfl;rfl;rfl)|(apply Ad.Ac;rfl)|(intro _))
  all_goals first|(exfalso;omega)|contradiction|(refine Done.rt rfl rfl ⟨?_,rfl,rfl⟩;try rfl)
def Vl (q:Qu) (l:List Int) (i:Nat):Bool:=decide (0≤gi l i)&&decide (gi l i≤2)&&!(GZ q i != decide (gi l i=2))
theorem iq {q:Qu} {l:List Int} {i:Nat} (h:Vl q l i=true):0≤gi l i∧gi l i≤2∧(GZ q i != decide (gi l i=2))=false:=by
 unfold Vl at h;grind
theorem uO {q:Qu} {l:List Int} {i:Nat} (h:Vl q l i=false):gi l i<0∨2<gi l i∨(0≤gi l i∧gi l i≤2∧(GZ q i != decide (gi l i=2))=true):=by
 unfold Vl at h;grind
def XC (q:Qu) (l:List Int):Int:=if l.length=q.p.notes.length then if Ep (fun i=>!Vl q l i) l.length=-1 then 0 else 12 else 5
theorem a6m (q:Qu) (hq:JV q) (l:List Int) (hll:l.length<1000000):Ak env 44 [.agg (Enc.enc q),.lst 3 (cells l) l.length] (.p (.int .i64 (XC q l))):=by
 have hc:=Pn q hq.o.sm hq.p.sm;rw [xE hq] at hc;unfold XC;by_cases hl:l.length=q.p.notes.length
 ·rw [if_pos hl]
  generalize hP:(fun i=>!Vl q l i)=P at *;have hPk:∀ k,P k=!Vl q l k:=fun k=>by rw [← hP]
  refine Ak.enter (Ae (by decide)) Tryz.func44 rfl (by kernel_rfl) (by simp [Tryz.ntmps44]) ?_
  repeat' (first|(apply Aa.fn;rfl;rfl;exact hc;intro _;rfl)|refine go1 ?_|(apply Aa.int;rfl;rfl;rfl)|(apply Ad.Aj;rfl)|(apply Ad.Ac;rfl)|(intro _;try (exfalso;omega)))
  all_goals try (exfalso;omega)
  all_goals try contradiction
  apply Ad.Il (l.length) (fun k=>Xn P l.length (l.length-k)=Ep P l.length) [(2,_),(20,_),(21,_)] [(0,_)] (fun k r=>(22,.p (.int .i64 (k:Int)))::r) (fun k r=>r) 1
  ·first|omega|decide
  ·first|omega|decide
  ·exact RH
  ·exact U0
  ·first|(intro _ _;omega)|omega|trivial
  ·intro k hk hi
   have hC:=N7 q hq k (by omega);cases hp:Vl q l k with
   |true =>
    obtain ⟨g1,g2,hb⟩:=iq hp;have hp':P k=false:=by rw [hPk,hp];rfl
    repeat' (first|(apply Aa.TN hC;rfl;rfl;exact .of_eq rfl;exact CS.Az rfl)|(apply Aa.b7i;rfl;rfl;rfl;exact hb)|(apply Aa.Ap;rfl;rfl;rfl;omega;rfl)|refine FT ?_|(apply Ai.guard;rfl;rfl)|(apply Aa.int;rfl;rfl;rfl)|(apply Ad.Ac;rfl)|(apply Ad.cond_false;rfl)|(intro _;try (exfalso;omega)))
    all_goals try (exfalso;omega)
    all_goals try contradiction
    refine Ah.normal ⟨((UC hk hp').symm.trans hi),by first|omega|decide,?_,?_⟩
    ·exact Dl
    ·exact Eh
   |false =>
    have hp':P k=true:=by rw [hPk,hp];rfl
    have e1:Ep P l.length=(k:Int):=by rw [← hi,Yq hk hp']
    rw [if_neg (by rw [e1];omega)];rcases uO hp with g|g|⟨g1,g2,hb⟩
    all_goals
     repeat' (first|(apply Aa.TN hC;rfl;rfl;exact .of_eq rfl;exact CS.Az rfl)|(apply Aa.b7i;rfl;rfl;rfl;exact hb)|(apply Aa.Ap;rfl;rfl;rfl;omega;rfl)|refine FT ?_|(apply Ai.guard;rfl;rfl)|(apply Aa.int;rfl;rfl;rfl)|(apply Ad.Ac;rfl)|(apply Ad.cond_true;rfl)|(intro _;try (exfalso;omega)))
    all_goals first|(exfalso;omega)|contradiction|(refine Done.rt rfl rfl ⟨?_,rfl,rfl⟩;try rfl)
  ·intro hi
   have e1:Ep P l.length=-1:=by rw [← hi,cY];rfl
   rw [if_pos e1]
   repeat' (first|refine go2 ?_|(apply Ad.Ac;rfl)|(intro _;try (exfalso;omega)))
   all_goals first|(exfalso;omega)|(refine Done.rt rfl rfl ⟨?_,rfl,rfl⟩;try rfl)
 ·rw [if_neg hl]
  refine Ak.enter (Ae (by decide)) Tryz.func44 rfl (by kernel_rfl) (by simp [Tryz.ntmps44]) ?_
  repeat' (first|(apply Aa.fn;rfl;rfl;exact hc;intro _;rfl)|refine go1 ?_|(apply Aa.int;rfl;rfl;rfl)|(apply Ad.Aj;rfl)|(apply Ad.Ac;rfl)|(intro _;try (exfalso;omega)))
  all_goals first|(exfalso;omega)|contradiction|(refine Done.rt rfl rfl ⟨?_,rfl,rfl⟩;try rfl)
def a9c (q:Qu) (l:List Int):Int:=if XC q l=0 then if 0≤vK q l then 24 else 0 else XC q l
theorem qB {q:Qu} {l:List Int} (h:XC q l=0):l.length=q.p.notes.length:=by
 unfold XC at h;omega
theorem uN (q:Qu) (hq:JV q) (l:List Int) (hll:l.length<1000000):Ak env 13 [.agg (Enc.enc q),.lst 3 (cells l) l.length] (.p (.int .i64 (a9c q l))):=by
 have hc:=a6m q hq l hll;unfold a9c;by_cases h:XC q l=0
 ·have hf:=dD q hq l (qB h)
  rw [if_pos h];rw [h] at hc;generalize vK q l=c at *;by_cases h2:0≤c
  ·rw [if_pos h2]
   refine Ak.enter (Ae (by decide)) Tryz.func13 rfl (by kernel_rfl) (by simp [Tryz.ntmps13]) ?_
   repeat' (first|(apply Aa.fn;rfl;rfl;exact hc;intro _;rfl)|(apply Aa.fn;rfl;rfl;exact hf;intro _;rfl)|refine go1 ?_|(apply Aa.int;rfl;rfl;rfl)|(apply Ad.Aj;rfl)|(apply Ad.Ac;rfl)|(intro _;try (exfalso;omega)))
   all_goals first|(exfalso;omega)|contradiction|(refine Done.rt rfl rfl ⟨?_,rfl,rfl⟩;try rfl)
  ·rw [if_neg h2]
   refine Ak.enter (Ae (by decide)) Tryz.func13 rfl (by kernel_rfl) (by simp [Tryz.ntmps13]) ?_
   repeat' (first|(apply Aa.fn;rfl;rfl;exact hc;intro _;rfl)|(apply Aa.fn;rfl;rfl;exact hf;intro _;rfl)|refine go1 ?_|(apply Aa.int;rfl;rfl;rfl)|(apply Ad.Aj;rfl)|(apply Ad.Ac;rfl)|(intro _;try (exfalso;omega)))
   all_goals first|(exfalso;omega)|contradiction|(refine Done.rt rfl rfl ⟨?_,rfl,rfl⟩;try rfl)
 ·rw [if_neg h]
  generalize XC q l=c at *;refine Ak.enter (Ae (by decide)) Tryz.func13 rfl (by kernel_rfl) (by simp [Tryz.ntmps13]) ?_
  repeat' (first|(apply Aa.fn;rfl;rfl;exact hc;intro _;rfl)|refine go1 ?_|(apply Aa.int;rfl;rfl;rfl)|(apply Ad.Ac;rfl)|(intro _;try (exfalso;omega)))
  all_goals first|(exfalso;omega)|contradiction|(refine Done.rt rfl rfl ⟨?_,rfl,rfl⟩;try rfl)
def mvC (a b:Vh):Int:=max (a.k-b.k) (b.k-a.k)+if a.d=b.d then 0 else 12
def Vh.Ok (a:Vh):Prop:=0≤a.k∧a.k≤127
theorem Yn {a b:Vh} (ha:a.Ok) (hb:b.Ok):0≤mvC a b∧mvC a b≤139:=by
 obtain ⟨a1,a2⟩:=ha;obtain ⟨b1,b2⟩:=hb;unfold mvC;split<;>omega
theorem fK (a b:Vh) (ha:a.Ok) (hb:b.Ok):Ak env 57 [.agg (Enc.enc a),.agg (Enc.enc b)] (.p (.int .i64 (mvC a b))):=by
 obtain ⟨a1,a2⟩:=ha;obtain ⟨b1,b2⟩:=hb;unfold mvC;by_cases h:a.d=b.d
 ·rw [if_pos h,Int.add_zero]
  refine Ak.enter (Ae (by decide)) Tryz.func57 rfl (by kernel_rfl) (by simp) ?_
  repeat' (first|refine JA ?_|(apply Aa.b2b;rfl;rfl)|(apply Ad.Ac;rfl)|(intro _))
  all_goals first|(omega)|contradiction|(refine Done.rt rfl rfl ⟨?_,rfl,rfl⟩;try rfl)
 ·rw [if_neg h]
  refine Ak.enter (Ae (by decide)) Tryz.func57 rfl (by kernel_rfl) (by simp) ?_
  repeat' (first|refine JA ?_|(apply Aa.b2b;rfl;rfl)|(apply Ad.Ac;rfl)|(intro _))
  all_goals first|(exfalso;omega)|contradiction|(refine Done.rt rfl rfl ⟨?_,rfl,rfl⟩;try rfl)
structure Pos where
 h:Int
 i:Int
 c:Vh
deriving DecidableEq
instance:Enc Pos:={ default:=⟨0,0,⟨0,0⟩⟩,enc:=fun x=>[.int .i64 x.h,.int .i64 x.i,.int .i64 x.c.d,.int .i64 x.c.k],size:=4,len:=fun _=>rfl }
def FY (q:Qu) (l:List Int) (h:Int) (i:Nat):Bool×Vh:=U1 q.p (Jd q i) l h (Jd q i).length
def H8 (q:Qu) (l:List Int) (h:Int):Nat→List Pos
 |0=>[]
 |k+1=>if (FY q l h k).1=true then H8 q l h k++[⟨h,k,(FY q l h k).2⟩] else H8 q l h k
def a9w (q:Qu) (l:List Int):List Pos:=H8 q l 0 (A8 q.p).length++H8 q l 1 (A8 q.p).length
def csK (L:List Pos):Nat→Int
 |0=>0
 |k+1=>if (gi L (k+1)).h=(gi L k).h then csK L k+mvC (gi L k).c (gi L (k+1)).c else csK L k
def GV (q:Qu) (l:List Int):Int:=csK (a9w q l) ((a9w q l).length-1)
theorem YI {q:Qu} (hq:JV q) {N:List Int} (hN:mW q N) (l:List Int) (h:Int):∀ k,k≤N.length→(U1 q.p N l h k).2.Ok
 |0,_=>⟨bh _,by show (0:Int)≤127;omega⟩
 |k+1,hk=>by
  have ih:=YI hq hN l h k (by omega);obtain ⟨g1,g2⟩:=hN k (by omega);have hh:=hq.p.note (gi N k).toNat (by omega);have h1:=hq.o.cmp (i:=(gi q.p.notes (gi N k).toNat).d.toNat) (by have:=hh.d;omega);have h2:=hh.k;unfold U1;split
  ·exact ⟨by grind,by grind⟩
  omega
def VH (q:Qu) (k:Nat):List Int:=Bv (fun i=>if i<k∧GZ q i=true then 2 else 0) q.p.notes.length
def Nu (q:Qu):List Int:=VH q q.p.notes.length
theorem MQ (q:Qu) (k:Nat):(VH q k).length=q.p.notes.length:=Cj _ _
theorem iK (q:Qu):∀ n,List.replicate n (0:Int)=Bv (fun i=>if i<0∧GZ q i=true then (2:Int) else 0) n
 |0=>rfl
 |n+1=>by
  rw [gF,iK q n];rfl
theorem a8b (q:Qu) {k:Nat} (hk:k<q.p.notes.length) (h:GZ q k=true):(VH q k).set k 2=VH q (k+1):=by
 refine Ku (by rw [cG,MQ,MQ]) fun i hi=>?_
 rw [cG,MQ] at hi;unfold VH;rw [GX,Ej _ hi,Ej _ hi,Cj];grind
theorem a2c (q:Qu) {k:Nat} (h:GZ q k=false):VH q k=VH q (k+1):=by
 unfold VH;grind
theorem Yx (q:Qu) (hq:JV q):Ak env 37 [.agg (Enc.enc q)] (.p (.lst 3 (cells (Nu q)) (Nu q).length)):=by
 have n1:=hq.p.notes;have hB:(Nu q).length=q.p.notes.length:=MQ _ _;rw [hB];have hz:List.replicate q.p.notes.length (0:Int)=VH q 0:=iK q _;refine Ak.enter (Ae (by decide)) Tryz.func37 rfl (by kernel_rfl) (by simp [Tryz.ntmps37]) ?_
 repeat' (first|(apply Aa.NQ q.p.notes.length (0:Int);rfl;rfl;rfl;rfl;rfl;rfl;rfl;omega;decide;decide;rfl)|(apply Aa.lenV;rfl;rfl;rfl)|refine go1 ?_|fail)
 all_goals try (exfalso;omega)
 rw [hz];apply Ad.Jj (q.p.notes.length) [(1,_),(3,_),(11,_)] [(0,_)] (fun k r=>(12,.p (.int .i64 (k:Int)))::r) (fun k r=>(1,.vec 3 (cells (VH q k)) q.p.notes.length false)::r) 2
 ·first|omega|decide
 ·first|omega|decide
 ·exact RH
 ·exact U0
 ·intro k hk
  have hC:=N7 q hq k hk;have hl:=MQ q k;cases hp:GZ q k with
  |true =>
   have e1:=a8b q hk hp;rw [hp] at hC
   repeat' (first|(apply Aa.TN hC;rfl;rfl;exact .of_eq rfl;exact CS.Az rfl)|(apply Aa.DU (l:=VH q k) (i:=k);rfl;rfl;rfl;rfl;omega)|(apply Aa.Kz (l:=VH q k) (i:=k) (y:=(2:Int));rfl;rfl;rfl;trivial;rfl;rfl;rfl;decide;omega)|refine go1 ?_|(apply Aa.int;rfl;rfl;rfl)|(apply Ad.Ac;rfl)|(apply Ad.cond_true;rfl)|(intro _;try (exfalso;omega)))
   all_goals try (exfalso;omega)
   all_goals try contradiction
   refine Ah.normal ⟨by first|omega|decide,?_,?_⟩
   ·try (rw [← e1])
    exact Dl
   ·rw [← e1]
    exact Eh
  |false =>
   have e1:=a2c q hp;rw [hp] at hC
   repeat' (first|(apply Aa.TN hC;rfl;rfl;exact .of_eq rfl;exact CS.Az rfl)|refine go1 ?_|(apply Aa.int;rfl;rfl;rfl)|(apply Ad.Ac;rfl)|(apply Ad.cond_false;rfl)|(intro _;try (exfalso;omega)))
   all_goals try (exfalso;omega)
   all_goals try contradiction
   refine Ah.normal ⟨by first|omega|decide,?_,?_⟩
   ·try (rw [← e1])
    exact Dl
   ·rw [← e1]
    exact Eh
 ·repeat' (first|(refine Ai.Je 2 ?_;refine Ai.ghost (Aw.freeze 22 rfl rfl) ?_)|apply Ad.BL|apply Ad.Gi|apply BM.normal|apply Bq.exit|apply Ah.exit|apply Ad.ret|apply Ai.nil|apply Ai.one|(apply Aa.assign;rfl)|(apply Aa.move;rfl)|(apply Aa.int;rfl;rfl;rfl)|(apply Ad.Ac;rfl)|(intro _;try (exfalso;omega)))
  all_goals first|(exfalso;omega)|(refine Done.rt rfl rfl ⟨?_,rfl,rfl⟩;try rfl)
theorem tY {H:Heap} {nx k:Nat} {e:TypeId} {cs:List FV} {o:Option PV} (h:o=some (.p (.lst e cs k))):∃ y,o=some y∧(∀ m F σ v,RP m F (htag H) σ nx y v→∃ a g,v=.slice a k g):=by
 refine ⟨_,h,fun m F σ v hr=>?_⟩;cases hr with
 |p hr=>cases hr<;>exact ⟨_,_,rfl⟩
def je (N l:List Int):Nat→List UInt8
 |0=>[]
 |k+1=>je N l k++[UInt8.ofNat (gi l (gi N k).toNat).toNat]
theorem UK (N l:List Int):∀ k,(je N l k).length=k
 |0=>rfl
 |k+1=>by
  show (je N l k++[_]).length=k+1;rw [aE,UK N l k];rfl
def OT (N l:List Int):List UInt8:=je N l N.length
theorem oH (q:Qu) (s:eG) (hN:mW q s.notes) (hNl:s.notes.length≤1000) (l:List Int) (hl:l.length=q.p.notes.length) (hr:∀ i,i<l.length→0≤gi l i∧gi l i≤2):Ak env 42 [.agg (Enc.enc q),.agg (Enc.enc s),.lst 3 (cells l) l.length] (st (OT s.notes l)):=by
 unfold OT;refine Ak.enter (Ae (by decide)) Tryz.func42 rfl (by kernel_rfl) (by simp [Tryz.ntmps42]) ?_
 repeat' (first|(refine Ad.at 2 ?_;refine Ad.ghost (Aw.adopt 7 5 rfl) ?_;first|apply Ad.BL|apply Ad.CO)|refine Zm ?_|apply Ad.BL)
 all_goals try (exfalso;omega)
 apply Ad.Jj (s.notes.length) [(2,_),(11,_),(12,_)] [] (fun k r=>(13,.p (.int .i64 (k:Int)))::(7,.vec 2 (je s.notes l k).length 0 (je s.notes l k).length)::r) (fun k r=>(2,.vec 5 (cells (je s.notes l k)) (je s.notes l k).length true)::r) 3
 ·first|omega|decide
 ·first|omega|decide
 ·exact RH
 ·exact U0
 ·intro k hk
  obtain ⟨g1,g2⟩:=hN k hk;obtain ⟨m,hm⟩:∃ m:Nat,gi s.notes k=(m:Int):=⟨(gi s.notes k).toNat,by omega⟩
  have hm2:m<l.length:=by omega
  obtain ⟨r1,r2⟩:=hr m hm2;have e1:je s.notes l (k+1)=je s.notes l k++[UInt8.ofNat (gi l m).toNat]:=by rw [← aR m,← hm];rfl
  have e2:(je s.notes l (k+1)).length=(je s.notes l k).length+1:=by rw [e1,aE];rfl
  have e3:=UK s.notes l k;have hb:(((UInt8.ofNat (gi l m).toNat).toNat:Nat):Int)=gi l m:=by rw [UInt8.toNat_ofNat'];omega
  generalize je s.notes l k=X at *;rw [e2,e1];have he:[FV.int .u8 (gi l m)]=Enc.enc (UInt8.ofNat (gi l m).toNat):=by
   show _=[FV.int .u8 (((UInt8.ofNat (gi l m).toNat).toNat:Nat):Int)]
   rw [hb]
  repeat' (first|(apply Aa.Ap (l:=l) (i:=m);rfl;exact congrArg (fun b=>some (PV.p (.int .i64 b))) hm;rfl;omega;rfl)|(apply Aa.Nc;rfl;rfl;rfl;rfl;exact ⟨r1,by omega⟩)|(apply Aa.Dw (l:=X) (a:=UInt8.ofNat (gi l m).toNat);rfl;rfl;rfl;rfl;exact he;rfl;rfl;rfl;(intro _ h;cases h);rfl;rfl;rfl;decide;decide;omega)|(apply Aa.Ap;rfl;rfl;rfl;omega;rfl)|refine go1 ?_|(apply Aa.int;rfl;rfl;rfl)|(apply Aa.buildSlice;rfl;rfl;rfl;decide;rfl;rfl;rfl)|(apply Ad.Ac;rfl)|(intro _;try (exfalso;omega)))
  all_goals try (exfalso;omega)
  refine Ah.normal ⟨by first|omega|decide,?_,?_⟩
  ·exact Dl
  ·exact Eh
 ·have e3:=UK s.notes l s.notes.length
  generalize je s.notes l s.notes.length=X at *
  repeat' (first|(refine Ai.Je 27 ?_;refine Ai.ghost (Aw.freeze 26 rfl rfl) ?_)|apply Ad.BL|apply Ad.Gi|apply BM.normal|apply Bq.exit|apply Ah.exit|apply Ad.ret|apply Ai.nil|apply Ai.one|(apply Aa.ofBytes (l:=X) (k:=X.length);exact rF.lst rfl (by rw [CZ];rfl);exact tY rfl;rfl;rfl;rfl)|(apply Aa.assign;rfl)|(apply Aa.move;rfl)|(apply Aa.int;rfl;rfl;rfl)|(apply Ad.Ac;rfl)|(intro _;try (exfalso;omega)))
  all_goals first|(exfalso;omega)|contradiction|(refine Done.rt rfl rfl ⟨?_,rfl,rfl⟩;try rfl)
end Go.Proofs.YtnjkoebfgcbbdaaGreatDoor
namespace Go.Am
variable {P:Program} {G:List Nat}
def keeps (d:Tmp):Code→Bool
 | .seq a b=>keeps d a&&keeps d b
 | .cond _ a b=>keeps d a&&keeps d b
 | .block _ b=>keeps d b
 | .loop b=>keeps d b
 | .scope b=>keeps d b
 | .region _ ops _=>ops.toList.all fun o=>o.dst != some d
 |_=>true
theorem Nj {t:Tr Value} {dst:Option Tmp} {v:Value} {d:Tmp} (h:(dst != some d)=true):Cb (Hq t dst v) d=Cb t d:=by
 cases dst with
 |none=>rfl
 |some x =>
  have hx:x≠d:=fun e=>by grind
  simp only [Hq,CW,if_neg hx]
theorem Y6 {call:Eu} {ops:Array Oper} {o:Oper} {s s':St} {d:Tmp} (h:LQ P call ops o s=some s') (hk:(o.dst != some d)=true):Cb s'.t d=Cb s.t d:=by
 unfold LQ at h;split at h
 ·unfold xJ at h
  split at h
  ·cases h;exact Nj hk
  grind
 ·cases h;exact Nj hk
theorem Ph {call:Eu} {ops:Array Oper} {d:Tmp}:∀ (l:List Oper) (s s':St),La P call ops l s=some s'→(l.all fun o=>o.dst != some d)=true→Cb s'.t d=Cb s.t d
 |[],s,s',h,_=>by cases h;rfl
 |o::l,s,s',h,hk=>by
  simp only [List.all_cons,Bool.and_eq_true] at hk;simp only [La] at h;cases h1:LQ P call ops o s with
  |none=>grind
  |some s1 =>
   rw [h1] at h;exact (Ph l s1 s' h hk.2).trans (Y6 h1 hk.1)
theorem Xy {call:Eu} {ops:Array Oper} {d:Tmp}:∀ (l:List Oper) (i:Nat) (s s':St),J3 P call ops i l s=some s'→(l.all fun o=>o.dst != some d)=true→Cb s'.t d=Cb s.t d
 |[],i,s,s',h,_=>by cases h;rfl
 |o::l,i,s,s',h,hk=>by
  simp only [List.all_cons,Bool.and_eq_true] at hk;simp only [J3] at h;cases h1:Po P call ops i o s with
  |none=>grind
  |some s1 =>
   rw [h1] at h;refine (Xy l (i+1) s1 s' h hk.2).trans ?_;unfold Po at h1;split at h1
   ·rename_i s2 h2
    split at h1
    ·cases h1
     have hh:=Y6 h2 hk.1;omega
    grind
   grind
theorem vg {call:Eu} {N:Nat} {d:Tmp}:∀ (c:Code) (s s':St) (x:BK),BR P call N c s=some (x,s')→keeps d c=true→Cb s'.t d=Cb s.t d:=by
 intro c
 induction c with
 |skip=>intro s s' x h _;cases h;rfl
 |label l=>intro s s' x h _;cases h;rfl
 |ret=>intro s s' x h _;cases h;rfl
 |exit id=>intro s s' x h _;cases h;rfl
 |goto l=>intro s s' x h;cases h
 |scope b _=>intro s s' x h;cases h
 |refuse y=>intro s s' x h;cases h
 |rangeFunc f ps y z ihy ihz =>
  intro s s' x h _;simp only [BR] at h;split at h
  case h_2=>cases h
  split at h
  case h_2=>cases h
  split at h
  case isFalse=>cases h
  split at h
  case h_2=>cases h
  split at h
  case h_2=>cases h
  rw [ae] at h;grind
 |seq c1 c2 ih1 ih2 =>
  intro s s' x h hk;simp only [keeps,Bool.and_eq_true] at hk;simp only [BR] at h;grind
 |cond c0 c1 c2 ih1 ih2 =>
  intro s s' x h hk;simp only [keeps,Bool.and_eq_true] at hk;simp only [BR] at h;grind
 |block id b ih =>
  intro s s' x h hk;simp only [keeps] at hk;simp only [BR] at h;grind
 |loop b ih =>
  intro s s' x h hk;simp only [keeps] at hk;simp only [BR] at h;have key:∀ (k:Nat) (s s':St) (x:BK),iterate (BR P call N b) k s=some (x,s')→Cb s'.t d=Cb s.t d:=by
   intro k
   induction k with
   |zero=>intro s s' x h;cases h
   |succ k ihk =>
    intro s s' x h;simp only [iterate] at h;grind
  grind
 |region id ops draw =>
  intro s s' x h hk;cases draw with
  |false =>
   simp only [BR,Option.map_eq_some_iff] at h;obtain ⟨s1,h1,he⟩:=h;cases he;exact Ph _ _ _ h1 hk
  |true =>
   simp only [BR,Option.map_eq_some_iff] at h;obtain ⟨s1,h1,he⟩:=h;cases he;exact Xy _ _ _ _ h1 hk
end Go.Am
namespace Go.Vm
open Go.Am
structure Snd (E:Env):Prop where
 o:Gf E.P E.G E.O
 mix:E.P.follows .mixedOrders=true
structure WAt (E:Env) (n:Nat) (B:Base) (ι:BG) (m:Mem) (w:World) (t:Tr Value) (kp:Tmp→Bool) (L':Frame) (H':Heap) (nx':Nat) (a':Act) (w':World):Prop where
 ex:∃ m' F' σ' t' ι',Ctx E.Γ m' F' σ' H' nx'∧RL m' F' (htag H') σ' nx' L' t'∧B.to m' F' σ' H' nx'∧Ext ι m w ι' m' w'∧DL E.P E.G [] n ⟨t',m'⟩ ι' a' w'∧∀ d,kp d=true→Cb t' d=Cb t d
def AV (E:Env) (n bn:Nat) (c:Code) (L:Frame) (H:Heap) (nx:Nat) (Q:BK→Frame→Heap→Nat→Prop):Prop :=
 Snd E→codeOk E.G n c=true→flat c=true→∀ (B:Base),B.nx=bn→∀ m F σ t,Ctx E.Γ m F σ H nx→RL m F (htag H) σ nx L t→B.to m F σ H nx →
  ∀ (ι:BG) (a:Act) (w:World),DL E.P E.G [] n ⟨t,m⟩ ι a w→∀ R:Exit→Act→World→Prop,
   (∀ e L' H' nx' a' w',Q e L' H' nx'→WAt E n B ι m w t (fun d=>keeps d c) L' H' nx' a' w'→R e.toExit a' w')→c.wpIn Fence.wide 0 E.P R a w
variable {E:Env} {n bn:Nat} {L:Frame} {H:Heap} {nx:Nat} {Q:BK→Frame→Heap→Nat→Prop} {a b c k:Code} {id:Nat} {x:Operand}
theorem AV.yR (h:Ad E bn c L H nx Q):AV E n bn c L H nx Q:=by
 intro hs hok hfl B hB m F σ t h1 h2 h3 ι ac w hst R hR;obtain ⟨e,s',⟨K,hk⟩,L',H',nx',F',σ',q,c1,c2,c3⟩:=h B hB m F σ t h1 h2 h3;have hx:=hk K K (ab _) (ab _);have hcall:=Iz (N:=K) hs.o hs.mix K;refine (wpIn_wide (n:=0)).2 ((wpIn_wide (n:=0)).1 (XA hcall (fP hs.o K) (YW hcall (Ou hs.o K) hs.mix) c w.heap.size [] none 0 ⟨t,m⟩ s' e ι ac w R (.inl rfl) hok hx hst (ab _) fun ds' a' w' hr hm hf=>?_));obtain rfl:=hf hfl;obtain ⟨ι',he,hst'⟩:=hr;exact hR e L' H' nx' a' w' q ⟨s'.m,F',σ',s'.t,ι',c1,c2,c3,he,hst',fun d hd=>vg c _ _ _ hx hd⟩
theorem AV.mono {R:BK→Frame→Heap→Nat→Prop} (h:AV E n bn c L H nx R) (hq:∀ e L' H' nx',R e L' H' nx'→Q e L' H' nx'):AV E n bn c L H nx Q :=
 fun hs hok hfl B hB m F σ t h1 h2 h3 ι ac w hst R' hR=>h hs hok hfl B hB m F σ t h1 h2 h3 ι ac w hst R' fun e L' H' nx' a' w' q=>hR e L' H' nx' a' w' (hq _ _ _ _ q)
def Ee (E:Env) (n bn:Nat) (k:Code) (Q:BK→Frame→Heap→Nat→Prop) (e:BK) (L:Frame) (H:Heap) (nx:Nat):Prop :=
 match e with
 | .normal=>AV E n bn k L H nx Q
 | .ret=>Q .ret L H nx
 | .exit i=>Q (.exit i) L H nx
theorem Ee.normal (h:AV E n bn k L H nx Q):Ee E n bn k Q .normal L H nx:=h
theorem Ee.ret (h:Q .ret L H nx):Ee E n bn k Q .ret L H nx:=h
theorem Ee.exit {i:Nat} (h:Q (.exit i) L H nx):Ee E n bn k Q (.exit i) L H nx:=h
theorem AV.to (h:AV E n bn a L H nx (Ee E n bn k Q)):AV E n bn (.seq a k) L H nx Q:=by
 intro hs hok hfl B hB m F σ t h1 h2 h3 ι ac w hst R hR;simp only [codeOk,Bool.and_eq_true] at hok;simp only [flat,Bool.and_eq_true] at hfl;refine wpIn_seq (h hs hok.1 hfl.1 B hB m F σ t h1 h2 h3 ι ac w hst _ fun e L' H' nx' a' w' q hw=>?_);obtain ⟨m',F',σ',t',ι',c1,c2,c3,he,hst',hkp⟩:=hw.ex;cases e with
 |normal =>
  refine q hs hok.2 hfl.2 B hB m' F' σ' t' c1 c2 c3 ι' a' w' hst' R fun e2 L2 H2 nx2 a2 w2 q2 hw2=>hR e2 L2 H2 nx2 a2 w2 q2 ?_
  obtain ⟨m2,F2,σ2,t2,ι2,d1,d2,d3,he2,hst2,a8y⟩:=hw2.ex;exact ⟨m2,F2,σ2,t2,ι2,d1,d2,d3,Ext.trans hst.1 he he2,hst2,fun d hd=>by
   simp only [keeps,Bool.and_eq_true] at hd;grind⟩
 |ret=>exact hR .ret L' H' nx' a' w' q ⟨m',F',σ',t',ι',c1,c2,c3,he,hst',fun d hd=>by simp only [keeps,Bool.and_eq_true] at hd;grind⟩
 |exit i=>exact hR (.exit i) L' H' nx' a' w' q ⟨m',F',σ',t',ι',c1,c2,c3,he,hst',fun d hd=>by simp only [keeps,Bool.and_eq_true] at hd;grind⟩
theorem AV.BL {ops:Array Oper} (h:Ai E bn ops ops.toList L H nx fun L' H' nx'=>AV E n bn k L' H' nx' Q):AV E n bn (.seq (.region id ops false) k) L H nx Q:=AV.to (AV.yR (Ad.region h))
theorem AV.CO {ops:Array Oper} (h:Ag E bn ops 0 ops.toList L H nx fun L' H' nx'=>AV E n bn k L' H' nx' Q):AV E n bn (.seq (.region id ops true) k) L H nx Q:=AV.to (AV.yR (Ad.Fe h))
theorem AV.region {ops:Array Oper} (h:Ai E bn ops ops.toList L H nx (Q .normal)):AV E n bn (.region id ops false) L H nx Q:=AV.yR (Ad.region h)
theorem AV.Fe {ops:Array Oper} (h:Ag E bn ops 0 ops.toList L H nx (Q .normal)):AV E n bn (.region id ops true) L H nx Q:=AV.yR (Ad.Fe h)
theorem AV.skip (h:Q .normal L H nx):AV E n bn .skip L H nx Q:=AV.yR (Ad.skip h)
theorem AV.ret (h:Q .ret L H nx):AV E n bn .ret L H nx Q:=AV.yR (Ad.ret h)
theorem AV.exit {i:Nat} (h:Q (.exit i) L H nx):AV E n bn (.exit i) L H nx Q:=AV.yR (Ad.exit h)
theorem AV.at (r:Nat) {ops:Array Oper} {d:Bool} (h:AV E n bn (.seq (.region r ops d) k) L H nx Q):AV E n bn (.seq (.region r ops d) k) L H nx Q:=h
theorem AV.atEnd (r:Nat) {ops:Array Oper} {d:Bool} (h:AV E n bn (.region r ops d) L H nx Q):AV E n bn (.region r ops d) L H nx Q:=h
theorem AV.ghost {L':Frame} {H':Heap} {nx':Nat} (g:Aw E L H nx L' H' nx') (h:AV E n bn c L' H' nx' Q):AV E n bn c L H nx Q:=by
 intro hs hok hfl B hB m F σ t h1 h2 h3;obtain ⟨F',σ',c1,c2,c3⟩:=g B m F σ t h1 h2 h3;exact h hs hok hfl B hB m F' σ' t c1 c2 c3
theorem AV.cond (u:Bool) (hc:AU E.Γ L x=some (.p (.bool u))) (ht:u=true→AV E n bn a L H nx Q) (hf:u=false→AV E n bn b L H nx Q):AV E n bn (.cond x a b) L H nx Q:=by
 intro hs hok hfl B hB m F σ t h1 h2 h3 ι ac w hst R hR;simp only [codeOk,Bool.and_eq_true] at hok;simp only [flat,Bool.and_eq_true] at hfl;have hv:=Ib h1 h2 hc;have he:ac.eval x=.bool u:=((JB hst.1 hst.2 hok.1.1).JM u).1 hv;cases u with
 |true=>exact wpIn_cond_true he (ht rfl hs hok.1.2 hfl.1 B hB m F σ t h1 h2 h3 ι ac w hst R fun e L' H' nx' a' w' q hw=>hR e L' H' nx' a' w' q ⟨by
  obtain ⟨m',F',σ',t',ι',c1,c2,c3,he,hst',hkp⟩:=hw.ex;exact ⟨m',F',σ',t',ι',c1,c2,c3,he,hst',fun d hd=>by simp only [keeps,Bool.and_eq_true] at hd;grind⟩⟩)
 |false=>exact wpIn_cond_false he (hf rfl hs hok.2 hfl.2 B hB m F σ t h1 h2 h3 ι ac w hst R fun e L' H' nx' a' w' q hw=>hR e L' H' nx' a' w' q ⟨by
  obtain ⟨m',F',σ',t',ι',c1,c2,c3,he,hst',hkp⟩:=hw.ex;exact ⟨m',F',σ',t',ι',c1,c2,c3,he,hst',fun d hd=>by simp only [keeps,Bool.and_eq_true] at hd;grind⟩⟩)
theorem AV.cond_true (hc:AU E.Γ L x=some (.p (.bool true))) (ht:AV E n bn a L H nx Q):AV E n bn (.cond x a b) L H nx Q:=AV.cond true hc (fun _=>ht) (fun h=>by cases h)
theorem AV.cond_false (hc:AU E.Γ L x=some (.p (.bool false))) (hf:AV E n bn b L H nx Q):AV E n bn (.cond x a b) L H nx Q:=AV.cond false hc (fun h=>by cases h) (fun _=>hf)
theorem AV.Au {p:Prop} {_:Decidable p} (hc:AU E.Γ L x=some (.p (.bool (decide p)))) (ht:p→AV E n bn a L H nx Q) (hf:¬ p→AV E n bn b L H nx Q):AV E n bn (.cond x a b) L H nx Q :=
 AV.cond (decide p) hc (fun h=>ht (of_decide_eq_true h)) (fun h=>hf (of_decide_eq_false h))
theorem AV.block (h:AV E n bn b L H nx (Bq id Q)):AV E n bn (.block id b) L H nx Q:=by
 intro hs hok hfl B hB m F σ t h1 h2 h3 ι ac w hst R hR;refine wpIn_block (h hs hok hfl B hB m F σ t h1 h2 h3 ι ac w hst _ fun e L' H' nx' a' w' q hw=>?_);have hw2:WAt E n B ι m w t (fun d=>keeps d (.block id b)) L' H' nx' a' w':=⟨hw.ex⟩
 cases e with
 |normal=>exact hR .normal L' H' nx' a' w' q hw2
 |ret=>exact hR .ret L' H' nx' a' w' q hw2
 |exit i =>
  show (if i=id then R .normal a' w' else R (.exit i) a' w');simp only [Bq] at q;split
  ·rename_i e;rw [if_pos e] at q;exact hR .normal L' H' nx' a' w' q hw2
  ·rename_i e;rw [if_neg e] at q;exact hR (.exit i) L' H' nx' a' w' q hw2
theorem AV.DK {α:Type} (Lf:α→Frame) (Hf:α→Heap) (Dn:Nat) (inv:α→Prop) (μ:α→Nat) (a0:α) (hb:bn≤Dn) (h0:inv a0) (hc:ZW L H nx (Lf a0) (Hf a0) Dn)
 (hs:∀ s,inv s→AV E n bn a (Lf s) (Hf s) Dn (Ah (fun L' H' nx'=>∃ s',inv s'∧μ s'<μ s∧ZW L' H' nx' (Lf s') (Hf s') Dn) Q)):AV E n bn (.loop a) L H nx Q:=by
 intro hsn hok hfl B hB m F σ t h1 h2 h3 ι ac w hst R hR;refine wpIn_loop_rounds (μ a0+1) ?_;have key:∀ N s,inv s→μ s<N→∀ m1 F1 σ1 t1 ι1 a1 w1,Ctx E.Γ m1 F1 σ1 (Hf s) Dn→RL m1 F1 (htag (Hf s)) σ1 Dn (Lf s) t1→B.to m1 F1 σ1 (Hf s) Dn→Ext ι m w ι1 m1 w1→DL E.P E.G [] n ⟨t1,m1⟩ ι1 a1 w1→(∀ d,keeps d a=true→Cb t1 d=Cb t d) →
  Code.roundsIn Fence.wide 0 E.P a R N a1 w1:=by
  intro N
  induction N with
  |zero=>simp
  |succ N ih =>
   intro s hi hlt m1 F1 σ1 t1 ι1 a1 w1 c1 c2 c3 he1 hst1 hk1;refine hs s hi hsn hok hfl B hB m1 F1 σ1 t1 c1 c2 c3 ι1 a1 w1 hst1 _ fun e L' H' nx' a' w' q hw=>?_
   obtain ⟨m',F',σ',t',ι',d1,d2,d3,he,hst',hkp⟩:=hw.ex;have hE:=Ext.trans hst.1 he1 he;have hK:∀ d,keeps d a=true→Cb t' d=Cb t d:=fun d hd=>(hkp d hd).trans (hk1 d hd)
   cases e with
   |normal =>
    obtain ⟨s',i1,i2,i3⟩:=q;exact ih s' i1 (by omega) m' F' σ' t' ι' a' w' (i3.ctx d1) (i3.rl d2) (i3.step (by omega) d3) hE hst' hK
   |ret=>exact hR .ret L' H' nx' a' w' q ⟨m',F',σ',t',ι',d1,d2,d3,hE,hst',hK⟩
   |exit i=>exact hR (.exit i) L' H' nx' a' w' q ⟨m',F',σ',t',ι',d1,d2,d3,hE,hst',hK⟩
 exact key _ a0 h0 (bA _) m F σ t ι ac w (hc.ctx h1) (hc.rl h2) (hc.step (by omega) h3) (Ext.refl _ _ _) hst fun _ _=>rfl
def Uh (d:Tmp) (l:List Oper):Bool:=l.all fun o=>o.dst != some d
def Bz (E:Env) (n bn:Nat) (ops:Array Oper) (l:List Oper) (L:Frame) (H:Heap) (nx:Nat) (Q:Frame→Heap→Nat→Prop):Prop :=
 Snd E→(∀ o∈l,Ih E.G n o=true)→∀ (B:Base),B.nx=bn→∀ m F σ t,Ctx E.Γ m F σ H nx→RL m F (htag H) σ nx L t→B.to m F σ H nx →
  ∀ (ι:BG) (a:Act) (w:World),DL E.P E.G [] n ⟨t,m⟩ ι a w→∀ R:Exit→Act→World→Prop,
   (∀ L' H' nx' a' w',Q L' H' nx'→WAt E n B ι m w t (fun d=>Uh d l) L' H' nx' a' w'→R .normal a' w')→wpListIn Fence.wide 0 E.P ops R l a w
theorem Bz.nil {ops:Array Oper} {R:Frame→Heap→Nat→Prop} (h:R L H nx):Bz E n bn ops [] L H nx R :=
 fun _ _ B _ m F σ t h1 h2 h3 ι ac w hst R' hR=>hR L H nx ac w h ⟨m,F,σ,t,ι,h1,h2,h3,Ext.refl _ _ _,hst,fun _ _=>rfl⟩
theorem Bz.step {ops:Array Oper} {l:List Oper} {R:Frame→Heap→Nat→Prop} {op:Op} {dst:Option Tmp} {ty:TypeId} {pos:String} {af:Array Edge} {r:PV} {H':Heap} {nx':Nat} (hs:Snd E) (hok:∀ o∈(⟨dst,op,ty,pos,af,none⟩::l:List Oper),Ih E.G n o=true)
 {B:Base} (hB:B.nx=bn) {m m':Mem} {F F':Nat→Prop} {σ σ':Nat→Value} {t:Tr Value} (h1:Ctx E.Γ m F σ H nx) (h2:RL m F (htag H) σ nx L t) (h3:B.to m F σ H nx) {ι ι':BG} {ac:Act} {w w':World} (hst:DL E.P E.G [] n ⟨t,m⟩ ι ac w)
 {R':Exit→Act→World→Prop} (hR:∀ L' H' nx' a' w',R L' H' nx'→WAt E n B ι m w t (fun d=>Uh d (⟨dst,op,ty,pos,af,none⟩::l)) L' H' nx' a' w'→R' .normal a' w') {v v':Value}
 (q:Bz E n bn ops l (Hz L dst r) H' nx' R) (c1:Ctx E.Γ m' F' σ' H' nx') (c2:RP m' F' (htag H') σ' nx' r v) (c3:Step m F σ H nx m' F' σ' H' nx') (he:Ext ι m w ι' m' w') (Di:Dv E.P E.G ι' m' w') (hv:Ar ι' m'.gen v v') :
 wpListIn Fence.wide 0 E.P ops R' l (ac.put dst v') w':=by
 have hdst:=(Dt (hok _ (bE ..))).2;refine q hs (fun o ho=>hok o (an _ ho)) B hB m' F' σ' (Hq t dst v) c1 ((h2.step c3 h1).put c2) (h3.trans c3) ι' _ w' ⟨Di,(hst.2.mono he.le).put hdst hv⟩ R' fun L2 H2 nx2 a2 w2 q2 hw2=>hR L2 H2 nx2 a2 w2 q2 ?_
 obtain ⟨m2,F2,σ2,t2,ι2,d1,d2,d3,he2,hst2,a8y⟩:=hw2.ex;refine ⟨m2,F2,σ2,t2,ι2,d1,d2,d3,Ext.trans hst.1 he he2,hst2,fun d hd=>?_⟩;simp only [Uh,List.all_cons,Bool.and_eq_true] at hd;exact (a8y d hd.2).trans (Nj hd.1)
theorem LD {o:Oper} {y:Nat→Option Bool} (h:o.guard=none):Region.wanted o y=true:=by unfold Region.wanted;rw [h]
theorem Bz.one {ops:Array Oper} {l:List Oper} {R:Frame→Heap→Nat→Prop} {op:Op} {dst:Option Tmp} {ty:TypeId} {pos:String} {af:Array Edge} (h:Aa E true ⟨dst,op,ty,pos,af,none⟩ L H nx fun r H' nx'=>Bz E n bn ops l (Hz L dst r) H' nx' R) :
 Bz E n bn ops (⟨dst,op,ty,pos,af,none⟩::l) L H nx R:=by
 intro hs hok B hB m F σ t h1 h2 h3 ι ac w hst R' hR;obtain ⟨v,m',⟨K,hk⟩,r,H',nx',F',σ',q,c1,c2,c3,_⟩:=h m F σ t h1 h2;have hx:=hk K K (ab _) (ab _);have hcall:=Iz (N:=K) hs.o hs.mix K;have hop:=(Dt (hok _ (bE ..))).1;have:=Oj (rf:=none) (nn:=0) (a:=ac) (K:=wpListIn Fence.wide 0 E.P ops R' l) (Q:=R') hcall hst.1 (fun x hx=>JB hst.1 hst.2 (hop x hx)) hx fun v' w' hp=>by
  obtain ⟨ι',he,Di,OW⟩:=hp;exact Bz.step hs hok hB h1 h2 h3 hst hR q c1 c2 c3 he Di OW
 exact this
def F9 (E:Env) (f:FuncId) (args:List PV) (H:Heap) (nx:Nat) (Q:PV→Heap→Nat→Prop):Prop :=
 Snd E→∀ m F σ Bo,Ctx E.Γ m F σ H nx→Dh m F (htag H) σ nx args Bo→∀ (ι:BG) (w:World) (as':Array Value),Dv E.P E.G ι m w→Bl ι m.gen Bo as'.toList →
  Calls E.P f as' w fun e w'=>∃ v',e=.returned v'∧∃ r H' nx' m' F' σ' v ι',Q r H' nx'∧Ctx E.Γ m' F' σ' H' nx'∧RP m' F' (htag H') σ' nx' r v∧Step m F σ H nx m' F' σ' H' nx'∧Ext ι m w ι' m' w'∧Dv E.P E.G ι' m' w'∧Ar ι' m'.gen v v'
theorem F9.enter {f:FuncId} {fn:Func} {c:Code} {args:List PV} {Q:PV→Heap→Nat→Prop} (hf:E.P.funcs[f]?=some fn) (hb:fn.body=some c) (hok:II E.G fn c=true) (hfl:flat c=true) (hn:args.length≤fn.ntmps)
 (h:AV E fn.ntmps nx c (Ce 0 args) H nx (Done E.P fn.results.toList nx Q)):F9 E f args H nx Q:=by
 intro hs m F σ Bo h1 h2 ι w as' Di hargs;unfold II at hok;simp only [Bool.and_eq_true] at hok;have hlen:Bo.length≤fn.ntmps:=by rw [← h2.length];omega
 have hlen':as'.size=Bo.length:=by have:=hargs.1;grind
 have hst:DL E.P E.G [] fn.ntmps { t:=tmpsOf 0 Bo .leaf,m:=m } ι { tmps:=as'++Array.replicate (fn.ntmps-as'.size) undef,defers:=[] } w:=by
  refine ⟨Di,by grind,rfl,fun i=>?_⟩;rw [Gv];by_cases hi:i<Bo.length
  ·have h1:=hargs.2 i hi
   have hi':i<as'.size:=by omega
   have e:(as'++Array.replicate (fn.ntmps-as'.size) undef).getD i undef=as'.toList.getD i undef:=by
    rw [cE,cI hi',getD_eq,gA]
   grind
  ·rw [if_neg (by omega)]
   have e1:Cb (.leaf:Tr Value) i=undef:=Tr.TU _ _;have e2:(as'++Array.replicate (fn.ntmps-as'.size) undef).getD i undef=undef:=by
    rw [cE,fq (by omega)];grind
   rw [e1,e2];exact Ar.undef
 have hRL:RL m F (htag H) σ nx (Ce 0 args) (tmpsOf 0 Bo .leaf):=by
  intro i v hi;obtain ⟨_,h3⟩:=IQ args 0 i v hi;obtain ⟨u,h4,h5⟩:=h2.get h3;have:=Gv Bo 0 .leaf i;grind
 refine (callsIn_wide (n:=0)).1 (callsIn_of_wp_marks hf hb trivial ?_);refine h hs hok.2 hfl ⟨m,F,σ,H,nx⟩ rfl m F σ _ h1 hRL (Step.refl _ _ _ _ _) ι _ w hst _ fun e L' H' nx' a' w' q hw=>?_
 obtain ⟨m',F',σ',t',ι',c1,c2,c3,he,hst',_⟩:=hw.ex;have key:(∃ r,Ei E.P fn.results.toList L' H'=some r∧Ret nx Q r H' nx')→LeavesInM Fence.wide 0 E.P fn a'.tmps (fun e w'=>∃ v',e=.returned v'∧∃ r H' nx' m' F' σ' v ι',Q r H' nx'∧Ctx E.Γ m' F' σ' H' nx'∧RP m' F' (htag H') σ' nx' r v∧Step m F σ H nx m' F' σ' H' nx'∧Ext ι m w ι' m' w'∧Dv E.P E.G ι' m' w'∧Ar ι' m'.gen v v') a'.defers .returning w':=by
  rintro ⟨r0,hr,r,H0,Dn,q1,q2,q3,q4,q5,q6⟩;obtain ⟨v,h3,h4⟩:=Kq c1 c2 hr;have hcov:ZW L' H' nx' [] H0 Dn:=⟨q4,trivial,q3⟩
  rw [hst'.2.defers];refine OC (B:=w'.heap.size) [] w' (ab _) hst'.1 fun w'' g1 g2 g3 g4 g5 g6=>?_
  have hst2:DL E.P E.G [] fn.ntmps ⟨t',m'⟩ ι' a' w'':=⟨g1,hst'.2⟩
  obtain ⟨v',r1,r2⟩:=OE hst2 h3;refine ⟨v',r1,v',rfl,r,H0,Dn,m',F',σ',v,ι',q6,hcov.ctx c1,RP.low (fun b t=>BH.tag q3 b t) q2 (RP.le q1 h4),hcov.step (B:=⟨m,F,σ,H,nx⟩) q5 c3,?_,g1,r2⟩;exact ⟨he.size,he.low,he.keep,he.ro,he.ro',he.le,he.back,he.dom,am he.heap g2,fun c hc' hf=>(g3 c (ag hc' he.heap)).trans (he.frame c hc' hf),g4.trans he.tape,g5.trans he.os,g6.trans he.output⟩
 cases e with
 |exit i=>exact q.elim
 |normal=>exact key q
 |ret=>exact key q
theorem Bz.Zj {ops:Array Oper} {l:List Oper} {R:Frame→Heap→Nat→Prop} {dst:Option Tmp} {ty:TypeId} {pos:String} {af:Array Edge} {fo:Operand} {args:Array Operand} {aT:Array TypeId} {g:FuncId} {fs cs Bo ac:List PV} {ns:List Nat} {Hc:Heap} {Qc:PV→Heap→Nat→Prop}
 (hent:Enters E.P g) (hf:AU E.Γ L fo=some (.clo g fs cs)) (ha:evs E.Γ L args.toList=some Bo) (hle:NV (fs++Bo++cs) (CS.rn (rho ns nx) ac)) (hu:CS.under ns.length ac) (wO:KQ ns.length Hc) (hin:HIn (rho ns nx) H Hc) (hnd:ns.Nodup) (hlt:∀ b∈ns,b<nx)
 (hc:F9 E g ac Hc ns.length Qc) (hq:∀ r H' nx',Qc r H' nx'→Bz E n bn ops l (Hz L dst (r.rn (rho ns nx))) (news ns.length (rho ns nx) H' (merge ns (rho ns nx) H' H)) (nx+(nx'-ns.length)) R) :
 Bz E n bn ops (⟨dst,.call { callee:=.value fo,args:=args,argTypes:=aT },ty,pos,af,none⟩::l) L H nx R:=by
 intro hs hok B hB m F σ t h1 h2 h3 ι ac0 w hst R' hR;obtain ⟨vf,vc,σc,hfe,XO,hargs,hback⟩:=oJ (w:=true) hf ha hle hu wO hin hnd hlt (fun e=>by cases e) h1 h2;have hop:=(Dt (hok _ (bE ..))).1;have hfr:=JB hst.1 hst.2 (hop fo (by simp [Op.operands,Call.operands]));rw [hfe] at hfr;obtain ⟨fs',cs',e1,hfs,hcs⟩:∃ fs' cs',ac0.eval fo=.func (.func g) fs' cs'∧Bl ι m.gen vf fs'.toList∧Bl ι m.gen vc cs'.toList:=by
  generalize ac0.eval fo=u at hfr;cases hfr with
  |fn _ l1 l2 l3 l4 h1 h2 h3 h4=>exact ⟨⟨l2⟩,⟨l4⟩,rfl,⟨h1,h2⟩,⟨h3,h4⟩⟩
 obtain ⟨fn,hfn,hbody,hname⟩:=hent;have hcall:=hc hs m F σc _ XO hargs ι w (fs'++args.map ac0.eval++cs') hst.1 (by
  rw [du,du,bz];exact (hfs.append (Bl.RY fun x hx=>JB hst.1 hst.2 (hop x (by simp [Op.operands,Call.operands];grind)))).append hcs)
 have hrun:(execOp ac0.eval ⟨dst,.call { callee:=.value fo,args:=args,argTypes:=aT },ty,pos,af,none⟩).run E.P w=.ok (.enter g (fs'++args.map ac0.eval++cs')) w:=by
  simp only [execOp,resolve,e1,Deferred.ofValue,Sem.run_bind,Sem.run_pure,Result.andThen_ok,invoke,callFunc,run_program,hfn,hname,Bool.false_eq_true,if_false];have:fn.body.isNone=false:=by cases hb:fn.body<;>simp_all
  simp [this]
 unfold wpListIn;unfold Oper.wpIn;rw [Oper.semAt_eq _ _ _ (fun c hc=>by grind),hrun];refine ⟨fun _ _=>trivial,?_⟩;refine ⟨(fun hh=>by cases hh),?_⟩;refine ((callsIn_wide (n:=0)).2 hcall).mono fun e w' he=>?_
 obtain ⟨v',rfl,r,H',nx',m',F',σ',v,ι',q,c1,c2,c3,x1,x2,x3⟩:=he;obtain ⟨σn,d1,d2,d3,_⟩:=hback v m' r H' nx' F' σ' c1 c2 c3;exact Bz.step hs hok hB h1 h2 h3 hst hR (hq r H' nx' q) d1 d2 d3 x1 x2 x3
theorem AV.jk {ops:Array Oper} (h:Bz E n bn ops ops.toList L H nx (Q .normal)):AV E n bn (.region id ops false) L H nx Q:=by
 intro hs hok hfl B hB m F σ t h1 h2 h3 ι ac w hst R hR;simp only [codeOk,Bool.and_eq_true] at hok;refine wpIn_region_list (h hs (fun o ho=>bc.1 hok.1 o (by grind)) B hB m F σ t h1 h2 h3 ι ac w hst R fun L' H' nx' a' w' q hw=>hR .normal L' H' nx' a' w' q hw)
theorem AV.Gm {ops:Array Oper} (h:Bz E n bn ops ops.toList L H nx fun L' H' nx'=>AV E n bn k L' H' nx' Q):AV E n bn (.seq (.region id ops false) k) L H nx Q:=AV.to (AV.jk h)
end Go.Vm
namespace Go.Am
variable {P:Program} {G:List Nat}
theorem lF {ι:BG} {m:Mem} {w:World} {sT xT e:TypeId} {xd:TypeDesc} {i:TypeInfo} {len n c g:Nat} {vs l:List Value} {x s' x':Value} (ty:TypeId) (hs:Dv P G ι m w)
 (hv:Ar ι m.gen (.slice (some ⟨c,0,none⟩) len g) s') (hxr:Ar ι m.gen x x') (hg:m.get c=.cells vs e g false) (hvl:vs.length=len*i.size)
 (hu:P.underlying sT=some (.slice e)) (hx:P.underlying xT=some xd) (hd:∀ k,xd≠.int k) (hi:P.info? e=some i) (hz:D9 i=true) (hsize:0<i.size) (hn:0<n) (hroom:(len+n)*(i.bytes+1)≤room)
 (hxn:lenOf x=some n) (hl:BX m i.size n x=some l) (hcell:l.all BI=true) :
 ∃ v' w',(Builtin.append_ #[sT,xT] ty #[s',x']).run P w=.ok v' w' ∧
  (Post P G ι m w (.slice (some ⟨c,0,none⟩) (len+n) g) (m.put c (.cells (vs++l) e g false)) v' w'∨Post P G ι m w (AQ m e (vs++l) (len+n)).1 (AQ m e (vs++l) (len+n)).2 v' w'):=by
 obtain ⟨z,hz1,hz2⟩:=Qe hz;obtain ⟨l',hr,hrel⟩:=Ey hs hxr hl;have hlen:l.length=n*i.size:=ET hl;have hap:∀ k,(Builtin.firstCells i.size n x').run P { w with drawn:=k }=.ok l'.toArray { w with drawn:=k }:=fun k=>Jl k hr
 have a0s:(Builtin.firstCells i.size n x').run P w=.ok l'.toArray w:=hap w.drawn;have hlen':l'.length=n*i.size:=by rw [← hrel.1];omega
 cases hv with
 |sl _ _ _ _ a' sCap hsr =>
  rw [MN (x:=x') (n:=n) (i:=i) ty rfl rfl rfl rfl hu hx hd hi (fun w=>L6 hxr hxn w)];obtain ⟨ib,hb,_,q3,hcur⟩:=hsr;obtain ⟨q1,q2,q4⟩:=hcur (Mem.Gn hg).symm;obtain ⟨cs,fr,e0,hrow,hlim,SS,hcr,hfr0⟩:=H9 hs hb hg;obtain ⟨he0,qN⟩:=hfr0 rfl;subst he0;have hesz':ib.vG=i.size:=by rw [SS,En hi]
  by_cases hfit:len+n≤sCap
  ·obtain ⟨q5,q6⟩:a'.off=0+ib.sh∧a'.off+sCap*ib.vG≤ib.lim:=by
    omega
   have ha':a'=⟨ib.blk,ib.sh,none⟩:=by
    obtain ⟨x1,y1,z1⟩:=a';grind
   have hmul:(len+n)*i.size≤sCap*i.size:=bu _ hfit;rw [cM] at hmul;rw [hesz',hlim] at q6;obtain ⟨w',cs',hrun,r1,r2,r3,r4,r5,r6,r7,r8⟩:=Gu (P:=P) ib.blk e0 fr (ib.sh+len*i.size) l' 0 w cs hrow (hrel.Tm hcell) (by omega) qN;obtain ⟨ι',hext,Di,hb'⟩:=I5 (x:=.cells (vs++l) e0 g false) (ib':=ib) (w':=w') (obj:=.cells cs' e0 fr) hs hb (Mem.OI hg) rfl
    ⟨by rw [Mem.Gn hg];exact ab _,fun _=>rfl⟩ (.inl rfl) r1 (fun c _ hne=>r4 c hne) (by omega) r6 r7 r8
    (fun ι' g' hle'=>by
     refine ⟨fun _=>rfl,by omega,SS,fun k hk=>?_,fun _ j hj=>qN j (by omega)⟩;rw [aE] at hk;rw [r3,getD_eq];by_cases hk1:k<len*i.size
     ·rw [if_neg (by omega),bX (by omega)]
      obtain ⟨v',h1,h2⟩:=hcr k (by omega);exact ⟨v',h1,by rw [← getD_eq];exact h2.mono hle'⟩
     ·rw [if_pos (by omega),bo (by omega)]
      have e2:ib.sh+k-(ib.sh+len*i.size+0)=k-len*i.size:=by omega
      rw [e2,hvl];have hlt:k-len*i.size<l.length:=by omega
      obtain ⟨v',h1,h2⟩:=hrel.get (ai hlt);refine ⟨v',h1,?_⟩;rw [ai hlt];exact h2.mono hle')
   refine ⟨.slice (some a') (len+n) sCap,w',?_,.inl ⟨ι',hext,Di,?_⟩⟩
   ·simp only [Dz,hfit,if_true,Sem.run_bind,a0s,Result.andThen_ok,ha',addr_add,hrun,Sem.run_pure]
   ·exact .sl _ _ _ _ _ _ ⟨ib,hb',by simp [Mem.gen,Mem.get_put,IJ.gen],hfit,fun _=>⟨q1,q2,.inr ⟨q5,by rw [hesz',hlim];exact q6⟩⟩⟩
  ·have hsc:BX m i.size len (.slice (some ⟨c,0,none⟩) len g)=some vs:=by
    simp only [BX,Nat.le_refl,if_true,Mem.D6,hg,OX,Option.getD_some,List.drop_zero,takeN,← hvl,List.take_length]
   have OW:Ar ι m.gen (.slice (some ⟨c,0,none⟩) len g) (.slice (some a') len sCap):=.sl _ _ _ _ _ _ ⟨ib,hb,by rw [Mem.Gn hg];exact ab _,q3,fun _=>⟨q1,q2,q4⟩⟩;obtain ⟨old',ho,hor⟩:=Ey hs OW hsc;obtain ⟨cap,hcap,hrun⟩:=Jy (old:=old') (new:=l') (z:=z) (x:=x') (zeros:=false) hi hz1 hfit hroom (fun k=>Jl k ho) hap;have ho1:old'.length=len*i.size:=by rw [← hor.1];exact hvl
   refine ⟨_,_,hrun,.inr ?_⟩;refine I7 (w':={ w with heap:=w.heap.push (.cells (old'.toArray++l'.toArray++Builtin.zeroCells z.cells (cap-(len+n))) e0 (0,0)),drawn:=w.drawn+1 })
    (e:=e0) (l:=vs++l) (n:=len+n) (cap:=cap) hs rfl rfl rfl rfl (fun j hj=>SQ (old:=old') (rest:=(Builtin.zeroCells z.cells (cap-(len+n))).toList) (hor.append hrel) j hj) hcap (.inr ?_)
   rw [En hi];have h1:(Builtin.zeroCells z.cells (cap-(len+n))).size=(cap-(len+n))*i.size:=by rw [Lc,hz2]
   simp only [Array.size_append,List.size_toArray,h1,ho1,hlen'];rw [← cM,← cM];exact Nat.le_of_eq (by congr 1;omega)
theorem bW {ι:BG} {m:Mem} {w:World} {t:TypeId} {a a':Addr} {vs:List Value} {e:TypeId} {g:Nat} {inf:TypeInfo} {x:Value} (hs:Dv P G ι m w) (ha:OV ι m.gen a a') (hg:m.get a.block=.cells vs e g false) (hag:OX a=g)
 (hx:vs[a.off]?=some x) (hp:plainCell x=true) (hc:x.cells=#[x]) (hcell:BI x=true) (hi:P.info? t=some inf) (h1:inf.size=1) :
 ∃ w',(storeVar t a' x).run P w=.ok () w'∧w'.heap=w.heap∧w'.tape=w.tape∧w'.os=w.os∧w'.output=w.output:=by
 obtain ⟨ib,hb,_,ha'⟩:=ha;have hcur:=ha' (by rw [hag,Mem.Gn hg]);obtain ⟨cs,fr,e',hrow,hlim,SS,hrel,hfr0⟩:=H9 hs hb hg;obtain ⟨rfl,qN⟩:=hfr0 rfl;have hlt:a.off<vs.length:=(bt.1 hx).1;obtain ⟨v',h2,h3⟩:=hrel a.off hlt;have hv:vs.getD a.off undef=x:=by grind
 rw [hv] at h3;have e1:v'=x:=h3.DF hp;subst e1;obtain ⟨w',cs',hrun,r1,r2,r3,r4,r5,r6,r7,r8⟩:=Gu (P:=P) ib.blk e' fr (a.off+ib.sh) [v'] 0 w cs hrow (fun v hv=>by
  have:v=v':=by grind
  subst this;assumption) (by grind) qN
 refine ⟨w',?_,?_,r6,r7,r8⟩
 ·rw [hcur]
  simp only [storeVar,Sem.run_bind,run_sizeOf' hi,Result.andThen_ok,hc,List.size_toArray,List.length_singleton,h1,ne_eq,not_true_eq_false,if_false];omega
 ·have ec:cs'=cs:=by
   refine Array.ext_getElem? fun j=>?_
   grind
  refine Array.ext_getElem? fun c=>?_
  grind
theorem Dv.heap {ι:BG} {m:Mem} {w w':World} (hs:Dv P G ι m w) (h:w'.heap=w.heap):Dv P G ι m w' :=
 ⟨fun b ib hb=>by rw [h];exact hs.dom b ib hb,fun b ib hb=>by rw [h];exact hs.blk b ib hb,hs.inj,hs.glob⟩
theorem Ext.b5x (ι:BG) (m:Mem) {w w':World} (h:w'.heap=w.heap) (h1:w'.tape=w.tape) (h2:w'.os=w.os) (h3:w'.output=w.output):Ext ι m w ι m w' :=
 ⟨ab _,ab _,fun _ _ _=>rfl,fun _ _ _=>rfl,fun _ _=>rfl,Le.refl _ _,fun _ ib h=>.inl ⟨ib,h,rfl⟩,fun _ ib h=>.inl ⟨ib,h⟩,by grind,fun _ _ _=>by rw [h],h1,h2,h3⟩
end Go.Am
namespace Go.Vm
open Go.Am
theorem Ctx.b5l {Γ:Nat→Option (List Value×TypeId)} {m:Mem} {F:Nat→Prop} {σ:Nat→Value} {H:Heap} {nx c:Nat} (h:Ctx Γ m F σ H nx) (hc:c<m.size) (ho:¬ own H σ c):Ctx Γ m (fun d=>F d∨d=c) σ H nx where
 fr d hd:=hd.elim (h.fr d) fun e=>by omega
 hp d x hd:=⟨(h.hp d x hd).1,(h.hp d x hd).2.mono (fun d hd=>⟨.inl hd,rfl⟩) (Names.refl _ _ _) (ab _) (ab _) fun c' hc'=>⟨rfl,by
  rintro (hf|rfl)
  ·exact (h.Ls ⟨d,x,hd,hc'⟩).1 hf
  ·exact ho ⟨d,x,hd,hc'⟩⟩⟩
 sep:=h.sep
 gl g cs e hg:=⟨.inl (h.gl g cs e hg).1,(h.gl g cs e hg).2⟩
theorem Step.b5l {m m':Mem} {F F1:Nat→Prop} {σ σ':Nat→Value} {H H':Heap} {nx nx' c:Nat} (s:Step m F σ H nx m' F1 σ' H' nx') (ho:own H σ c):Step m F σ H nx m' (fun d=>F1 d∨d=c) σ' H' nx' :=
 { s with
  J7:=fun d hd=>.inl (s.J7 d hd)
  J5:=fun d hd hf=>by
   rcases hf with hf|rfl
   ·exact s.J5 d hd hf
   grind }
variable {E:Env} {n bn:Nat} {L:Frame} {H:Heap} {nx:Nat}
theorem Bz.b3s {ops:Array Oper} {l:List Oper} {R:Frame→Heap→Nat→Prop} {op:Op} {dst:Option Tmp} {ty:TypeId} {pos:String} {af:Array Edge} {r:PV} {L1:Frame} {H':Heap} {nx':Nat} (hs:Snd E) (hok:∀ o∈(⟨dst,op,ty,pos,af,none⟩::l:List Oper),Ih E.G n o=true)
 {B:Base} (hB:B.nx=bn) {m m':Mem} {F F':Nat→Prop} {σ σ':Nat→Value} {t:Tr Value} (h2:RL m' F' (htag H') σ' nx' L1 t) (h3:B.to m F σ H nx) {ι ι':BG} {ac:Act} {w w':World} (hst:DL E.P E.G [] n ⟨t,m⟩ ι ac w)
 {R':Exit→Act→World→Prop} (hR:∀ L' H' nx' a' w',R L' H' nx'→WAt E n B ι m w t (fun d=>Uh d (⟨dst,op,ty,pos,af,none⟩::l)) L' H' nx' a' w'→R' .normal a' w') {v v':Value}
 (q:Bz E n bn ops l (Hz L1 dst r) H' nx' R) (c1:Ctx E.Γ m' F' σ' H' nx') (c2:RP m' F' (htag H') σ' nx' r v) (c3:Step m F σ H nx m' F' σ' H' nx') (he:Ext ι m w ι' m' w') (Di:Dv E.P E.G ι' m' w') (hv:Ar ι' m'.gen v v') :
 wpListIn Fence.wide 0 E.P ops R' l (ac.put dst v') w':=by
 have hdst:=(Dt (hok _ (bE ..))).2;refine q hs (fun o ho=>hok o (an _ ho)) B hB m' F' σ' (Hq t dst v) c1 (h2.put c2) (h3.trans c3) ι' _ w' ⟨Di,(hst.2.mono he.le).put hdst hv⟩ R' fun L2 H2 nx2 a2 w2 q2 hw2=>hR L2 H2 nx2 a2 w2 q2 ?_
 obtain ⟨m2,F2,σ2,t2,ι2,d1,d2,d3,he2,hst2,a8y⟩:=hw2.ex;refine ⟨m2,F2,σ2,t2,ι2,d1,d2,d3,Ext.trans hst.1 he he2,hst2,fun d hd=>?_⟩;simp only [Uh,List.all_cons,Bool.and_eq_true] at hd;exact (a8y d hd.2).trans (Nj hd.1)
theorem RL.cons {m:Mem} {F:Nat→Prop} {T:Nat→Option Tg} {σ:Nat→Value} {L:Frame} {t:Tr Value} (h:RL m F T σ nx L t) {r:Nat} {x:PV} (hx:RP m F T σ nx x (Cb t r)):RL m F T σ nx ((r,x)::L) t:=fun i y hi=>by
 rw [DR] at hi;by_cases e:r=i
 ·grind
 ·rw [if_neg e] at hi;exact h i y hi
theorem Bz.b0a {ops:Array Oper} {l:List Oper} {R:Frame→Heap→Nat→Prop} {dst:Option Tmp} {ty:TypeId} {pos:String} {af:Array Edge} {s x:Operand} {sT xT e:TypeId} {xd:TypeDesc} {i:TypeInfo} {b k j r N:Nat} {cs xs:List FV} {z:Bool}
 (hs:AU E.Γ L s=some (.vec b N 0 N)) (hb:hget H b=some (.vec e cs N z)) (hx:rF E.Γ L H nx x i.size xs k) (hr:EY L r=some (.vec b N 0 j)) (hj:j≤N) (hN:0<N)
 (wQ:E.P.underlying sT=some (.slice e)) (hxT:E.P.underlying xT=some xd) (hd:∀ k,xd≠.int k) (hi:E.P.info? e=some i) (hzs:D9 i=true) (h0:0<k) (hroom:(N+k)*(i.bytes+1)≤room) (hl:cs.length=N*i.size) (hsz:0<i.size)
 (q1:Bz E n bn ops l (Hz ((r,.vec b (N+k) 0 j)::L) dst (.vec b (N+k) 0 (N+k))) (hput H b (.vec e (cs++xs) (N+k) z)) nx R)
 (q2:Bz E n bn ops l (Hz ((r,.p (.lst e (cs.take (j*i.size)) j))::L) dst (.vec b (N+k) 0 (N+k))) (hput H b (.vec e (cs++xs) (N+k) z)) nx R) :
 Bz E n bn ops (⟨dst,.call { callee:=.builtin .append,args:=#[s,x],argTypes:=#[sT,xT] },ty,pos,af,none⟩::l) L H nx R:=by
 intro hsn hok B hB m F σ t h1 h2 h3 ι ac w hst R' hR;have hsub:=JF h1 h2 hs hb;obtain ⟨hx1,lv,hx2,hx3,hx4⟩:=hx m F σ t h1 h2;obtain ⟨hlt,hrb⟩:=h1.hp b _ hb;rcases hrb with ⟨_,r2,_⟩|⟨c,g,vs,r1,r2,r3,r4,r5,r6,r7⟩
 ·omega
 rw [r1] at hsub;simp only [FU] at hsub;have hlen:=r5.length;have hop:=(Dt (hok _ (bE ..))).1;have hvs:Ar ι m.gen (ev t s) (ac.eval s):=JB hst.1 hst.2 (hop s (by simp [Op.operands,Call.operands]));have hvx:Ar ι m.gen (ev t x) (ac.eval x):=JB hst.1 hst.2 (hop x (by simp [Op.operands,Call.operands]));rw [hsub] at hvs;have hown:own H σ c:=⟨b,_,hb,by rw [r1];rfl⟩
 have a6s:Vq (some (HB.vec e cs N z).tag) (some (HB.vec e (cs++xs) (N+k) z).tag):=eM _ _;have hne:(HB.vec e cs N z).tag=(HB.vec e (cs++xs) (N+k) z).tag→False:=by simp only [HB.tag,Tg.vec.injEq];omega
 have hrv:Cb t r=.slice (some ⟨c,0,none⟩) j g:=by
  have:=h2 r _ hr;generalize Cb t r=u at this;cases this with
  |vec hb' hc h =>
   have:=(h N (by simp [htag,hb,HB.tag])).2 rfl;rw [r1] at this;exact this
 unfold wpListIn;rw [LD rfl,if_pos rfl];obtain ⟨v',w',hrun,hp⟩:=lF ty hst.1 hvs hvx r4 (by omega) wQ hxT hd hi hzs hsz h0 hroom hx1 hx2 hx4;have hrun2:(execOp ac.eval ⟨dst,.call { callee:=.builtin .append,args:=#[s,x],argTypes:=#[sT,xT] },ty,pos,af,none⟩).run E.P w=.ok (.value v') w':=by
  rw [DJ];exact Gw (by grind)
 have hres:∀ {m2:Mem} {F2:Nat→Prop} {σ2:Nat→Value} {g2 c2:Nat},σ2 b=.slice (some ⟨c2,0,none⟩) (N+k) g2→RP m2 F2 (htag (hput H b (.vec e (cs++xs) (N+k) z))) σ2 nx (.vec b (N+k) 0 (N+k)) (.slice (some ⟨c2,0,none⟩) (N+k) g2):=fun {m2 F2 σ2 g2 c2} e2=>by
  refine .vec hlt rfl fun j' hj'=>?_
  rw [QS,if_pos rfl,htag,hb] at hj';simp only [Option.map_some,HB.tag,Option.some.injEq,Tg.vec.injEq] at hj';refine ⟨by omega,fun _=>?_⟩;rw [e2];rfl
 unfold Oper.wpIn;rw [Oper.semAt_eq _ _ _ (fun c hc=>by grind),hrun2];refine ⟨fun _ _=>trivial,?_⟩;rcases hp with ⟨ι',he,Di,hv⟩|⟨ι',he,Di,hv⟩
 ·have hput':∀ d,c≠d→(m.put c (.cells (vs++lv) e g false)).get d=m.get d:=fun d hd=>by rw [Mem.get_put,if_neg hd]
  obtain ⟨c1,c3⟩:=h1.change (s':=.slice (some ⟨c,0,none⟩) (N+k) g) (m':=m.put c (.cells (vs++lv) e g false)) (x':=.vec e (cs++xs) (N+k) z) hb a6s (fun e=>(hne e).elim) (ab _) (fun d _ hd=>hput' d fun e=>hd (by rw [r1,e];rfl)) (fun k' k1 k2 k3=>by
   have:=k3 c (by rw [r1];rfl);simp only [Mem.put];omega) (fun d hd=>.inl (by rw [r1];exact hd))
   (.inr ⟨c,g,vs++lv,rfl,r2,r3,by rw [Mem.get_put,if_pos rfl],(r5.append hx3).mono (fun d hd=>⟨hd,hput' d fun e=>r3 (e▸hd)⟩),by rw [dy,r6,hx4];rfl,fun h=>by omega⟩)
  refine Bz.b3s hsn hok hB (RL.cons (h2.step c3 h1) ?_) h3 hst hR q1 c1 (hres (upd_same _ _ _)) c3 he Di hv;rw [hrv];refine .vec hlt rfl fun j' hj'=>?_
  rw [QS,if_pos rfl,htag,hb] at hj';simp only [Option.map_some,HB.tag,Option.some.injEq,Tg.vec.injEq] at hj';refine ⟨by omega,fun _=>?_⟩;rw [upd_same];rfl
 ·obtain ⟨c1,c3⟩:=h1.change (m':=(AQ m e (vs++lv) (N+k)).2) (s':=(AQ m e (vs++lv) (N+k)).1) (x':=.vec e (cs++xs) (N+k) z) hb a6s (fun e=>(hne e).elim) (by simp [AQ,Mem.alloc]) (fun c hc _=>by (try simp only [AQ]);rw [Mem.Bc,if_neg (by omega)])
   (fun k' k1 k2 _=>by simp only [AQ,Mem.alloc];omega) (fun c hc=>by simp only [AQ,C9,Option.some.injEq] at hc;right;omega)
   (.inr ⟨m.size,0,vs++lv,by simp [AQ],by simp [AQ,Mem.alloc],fun hf=>co _ (h1.fr _ hf),by (try simp only [AQ]);rw [Mem.Bc,if_pos rfl],
    (r5.append hx3).mono (fun c hf=>⟨hf,by (try simp only [AQ]);rw [Mem.Bc,if_neg (by have:=h1.fr c hf;omega)]⟩),by rw [dy,r6,hx4];rfl,fun h=>by omega⟩)
  have hno:¬ own (hput H b (.vec e (cs++xs) (N+k) z)) (upd σ b (AQ m e (vs++lv) (N+k)).1) c:=by
   rintro ⟨b',x',hb',hc'⟩;by_cases eb:b'=b
   ·subst eb
    rw [upd_same] at hc';simp only [AQ,C9,Option.some.injEq] at hc';omega
   ·rw [CQ _ _ eb] at hc'
    rw [Np,if_neg (Ne.symm eb)] at hb';exact eb (h1.sep b' b _ _ c hb' hb hc' (by rw [r1];rfl))
  have hcs:c<(AQ m e (vs++lv) (N+k)).2.size:=ag r2 (by simp [AQ,Mem.alloc]);have c1':=c1.b5l hcs hno;have c3':=c3.b5l hown;refine Bz.b3s hsn hok hB (RL.cons (h2.step c3' h1) ?_) h3 hst hR q2 c1' (hres (upd_same _ _ _)) c3' he Di hv;rw [hrv];refine .p (.lst (.inr rfl) (vs:=vs) (e:=e) (ws:=vs.take (j*i.size)) (ro:=false) ?_ ?_ ((Dc.take (j*i.size) r5).mono (fun d hd=>⟨.inl hd,?_⟩)) (Ux r6 _))
  ·simp only [AQ];rw [Mem.Bc,if_neg (by omega)];exact r4
  ·have:j*i.size≤N*i.size:=bu _ hj
   rw [cr,aw,cH (by omega)];unfold takeN;rw [if_pos (by omega)]
  ·simp only [AQ];rw [Mem.Bc,if_neg (by have:=h1.fr d hd;omega)]
theorem Dc.nth {m:Mem} {F:Nat→Prop}:∀ {cs:List FV} {vs:List Value},Dc m F cs vs→∀ {i:Nat} {x:FV},cs[i]?=some x→∃ u,vs[i]?=some u∧RF m F x u
 |_,_,.nil,i,x,h=>by grind
 |_,_,.cons h _,0,x,e=>by
  grind
 |_,_,.cons _ t,i+1,x,e=>by
  exact Dc.nth t e
theorem Bz.qp {ops:Array Oper} {l:List Oper} {R:Frame→Heap→Nat→Prop} {d:Tmp} {ty1 ty2:TypeId} {pos1 pos2:String} {af1 af2:Array Edge} {tA tS:TypeId} {x ix y:Operand} {e:TypeId} {cs:List FV} {N:Nat} {k kd:IntKind} {i:Nat} {v:Int} {inf:TypeInfo}
 (hx:AU E.Γ L x=some (.p (.own e cs N))) (hi:AU E.Γ L ix=some (.p (.int k (i:Int)))) (hs:elemSize E.P tA=some 1) (h1:i<N) (hv:cs[i]?=some (.int kd v))
 (hy:AU E.Γ (Hz L (some d) (.p (.EN (cs.drop i)))) y=some (.p (.int kd v))) (b5v:E.P.info? tS=some inf) (hsz:inf.size=1)
 (q:Bz E n bn ops l (Hz L (some d) (.p (.EN (cs.drop i)))) H nx R) :
 Bz E n bn ops (⟨some d,.indexAddr tA x ix,ty1,pos1,af1,none⟩::⟨none,.store tS (.tmp d) y,ty2,pos2,af2,none⟩::l) L H nx R:=by
 intro hsn hok B hB m F σ t c1 c2 h3 ι ac w hst R' hR;obtain ⟨e',inf',g3,g4,g5⟩:=MC hs;have hix:=CJ c1 c2 hi;have hrx:=BA c1 c2 hx;generalize hvx:ev t x=vx at hrx;cases hrx with
 |p hr =>
 cases hr with
 |SC=>omega
 |QE=>omega
 |own hF hm hw hr hc =>
 rename_i b o g vs ws;have hws:=EX hw;have hwi:ws[i]?=some (.int kd v):=by
  obtain ⟨u,hu,hru⟩:=hr.nth hv;cases hru;omega
 have hvi:vs[o+i]?=some (.int kd v):=by
  grind
 have hval:∀ call,BU E.P call (ev t) ⟨some d,.indexAddr tA x ix,ty1,pos1,af1,none⟩ m=some (.pointer (some ⟨b,o+i,some g⟩),m):=fun call=>by
  have h0:(0:Int)≤(i:Int)∧(i:Int)<(N:Int):=⟨by omega,by omega⟩
  simp only [BU,Fb,g3,hvx,hix,g4,h0,and_self,if_true,g5,Int.toNat_natCast,Nat.mul_one]
 have hcall:=Iz (N:=0) hsn.o hsn.mix 0;unfold wpListIn;rw [LD rfl,if_pos rfl];have hop:=(Dt (hok _ (bE ..))).1;have hop2:=Dt (hok ⟨none,.store tS (.tmp d) y,ty2,pos2,af2,none⟩ (by simp));have hdst:=(Dt (hok _ (bE ..))).2;have:=Oj (rf:=none) (nn:=0) (a:=ac) (K:=wpListIn Fence.wide 0 E.P ops R' (⟨none,.store tS (.tmp d) y,ty2,pos2,af2,none⟩::l)) (Q:=R') hcall hst.1 (fun x hx=>JB hst.1 hst.2 (hop x hx)) (hval _) fun v' w' hp=>by
  obtain ⟨ι',he,Di,OW⟩:=hp;have hst1:DL E.P E.G [] n ⟨Hq t (some d) (.pointer (some ⟨b,o+i,some g⟩)),m⟩ ι' (ac.put (some d) v') w':=⟨Di,(hst.2.mono he.le).put hdst OW⟩
  have hcp:RP m F (htag H) σ nx (.p (.EN (cs.drop i))) (.pointer (some ⟨b,o+i,some g⟩)):=by
   refine .p (.EN hF hm rfl ?_ (Dc.drop i hr) (Ld hc _));have:=Oq (k:=i) hw;simp_all
  have hL1:RL m F (htag H) σ nx (Hz L (some d) (.p (.EN (cs.drop i)))) (Hq t (some d) (.pointer (some ⟨b,o+i,some g⟩))):=c2.put hcp;have hey:Ar ι' m.gen (ev (Hq t (some d) (.pointer (some ⟨b,o+i,some g⟩))) y) ((ac.put (some d) v').eval y):=JB hst1.1 hst1.2 (hop2.1 y (by simp [Op.operands]));rw [CJ c1 hL1 hy] at hey;have ey:(ac.put (some d) v').eval y=.int kd v:=by generalize (ac.put (some d) v').eval y=u at hey;cases hey;rfl
  have hed:Ar ι' m.gen (ev (Hq t (some d) (.pointer (some ⟨b,o+i,some g⟩))) (.tmp d)) ((ac.put (some d) v').eval (.tmp d)):=JB hst1.1 hst1.2 (hop2.1 (.tmp d) (by simp [Op.operands]));have et:ev (Hq t (some d) (.pointer (some ⟨b,o+i,some g⟩))) (.tmp d)=.pointer (some ⟨b,o+i,some g⟩):=by
   show Cb (Pz t d _) d=_;rw [CW,if_pos rfl]
  rw [et] at hed;obtain ⟨a',ea,har⟩:∃ a',(ac.put (some d) v').eval (.tmp d)=.pointer (some a')∧OV ι' m.gen ⟨b,o+i,some g⟩ a':=by
   generalize (ac.put (some d) v').eval (.tmp d)=u at hed;cases hed;exact ⟨_,rfl,by assumption⟩
  obtain ⟨w2,hrun,k1,k2,k3,k4⟩:=bW (t:=tS) (x:=.int kd v) hst1.1 har hm rfl hvi rfl rfl rfl b5v hsz;have hrun2:(execOp (ac.put (some d) v').eval ⟨none,.store tS (.tmp d) y,ty2,pos2,af2,none⟩).run E.P w'=.ok .skip w2:=by
   simp only [execOp,Instr.storeAt,ea,ey,Instr.sureAddr,Sem.run_bind,Sem.run_pure,Result.andThen_ok,hrun]
  unfold wpListIn;rw [LD rfl,if_pos rfl];unfold Oper.wpIn;rw [Oper.semAt_eq _ _ _ (fun c hc=>by cases hc),hrun2];refine ⟨fun _ _=>trivial,?_⟩;have he2:=Ext.b5x ι' m k1 k2 k3 k4;refine q hsn (fun o ho=>hok o (an _ (an _ ho))) B hB m F σ _ c1 hL1 h3 ι' _ w2 ⟨hst1.1.heap k1,hst1.2⟩ R' fun L2 H2 nx2 a2 w3 q2 hw2=>hR L2 H2 nx2 a2 w3 q2 ?_
  obtain ⟨m2,F2,σ2,t2,ι2,d1,d2,d3,he3,hst3,hkp3⟩:=hw2.ex;refine ⟨m2,F2,σ2,t2,ι2,d1,d2,d3,Ext.trans hst.1 (Ext.trans hst.1 he he2) he3,hst3,fun z hz=>?_⟩;simp only [Uh,List.all_cons,Bool.and_eq_true] at hz;exact (hkp3 z hz.2.2).trans (Nj hz.1)
 exact this
theorem Aw.QD (d:Nat) {b N:Nat} {e:TypeId} {cs:List FV} {z:Bool} (hd:EY L d=some (.vec b N 0 N)) (hb:hget H b=some (.vec e cs N z)):Aw E L H nx ((d,.p (.own e cs N))::L) (hdel H b) nx:=fun B m F σ t h1 h2 h3=>by
 obtain ⟨c1,c2,c3⟩:=Wj h1 hb;refine ⟨_,σ,c1,fun i v hi=>?_,h3.trans c2⟩;rw [DR] at hi;by_cases ei:d=i
 ·rw [if_pos ei] at hi;cases hi
  have:=h2 d _ hd;subst ei;generalize Cb t d=u at this;cases this with
  |vec hb' hc h =>
   have hv:=(h N (by simp [htag,hb,HB.tag])).2 rfl;obtain ⟨_,hr⟩:=h1.hp b _ hb;rcases hr with ⟨r1,r2,r3⟩|⟨c,g,vs,r1,r2,r3,r4,r5,r6,r7⟩
   ·subst r1;subst r2
    rcases r3 with ⟨r3,_⟩|⟨b',o',g',r3,_⟩
    ·rw [r3] at hv;obtain ⟨rfl,_,_⟩:=hv;exact .p (.SC _)
    ·rw [r3] at hv;simp only [FU] at hv;rw [hv.1];exact .p (.QE _ _ _ _)
   ·rw [r1] at hv
    subst hv;refine .p (.own (.inr (by rw [r1];rfl)) r4 ?_ (r5.mono fun c hc=>⟨.inl hc,rfl⟩) r6);rw [cr,r5.length];simp [takeN]
 ·rw [if_neg ei] at hi
  exact (h2 i v hi).step c2 h1
theorem Aw.toOwn (d:Nat) (e:TypeId) (hd:EY L d=some (.p (.val (.slice none 0 0)))):Aw E L H nx ((d,.p (.own e [] 0))::L) H nx:=fun B m F σ t h1 h2 h3=>by
 refine ⟨F,σ,h1,fun i v hi=>?_,h3⟩;rw [DR] at hi;by_cases ei:d=i
 ·rw [if_pos ei] at hi;cases hi
  have:=h2 d _ hd;subst ei;generalize Cb t d=u at this;cases this with
  |p hr=>cases hr;exact .p (.SC _)
 ·rw [if_neg ei] at hi
  exact h2 i v hi
end Go.Vm
namespace Go.Proofs.YtnjkoebfgcbbdaaGreatDoor
open Go Go.Am Go.Vm Go.Pie
attribute [local irreducible] Aa Ai Ag Ad AP Ak Bf BM Bq Ah Vm.Done BD AB Q7
attribute [local irreducible] Ci Ba DV DN Eo AZ CG
structure OwL where
 l:List Int
instance:Enc OwL:={ default:=⟨[]⟩,enc:=fun x=>[.own 3 (cells x.l) x.l.length],size:=1,len:=fun _=>rfl }
instance:Enc (List Int):={ default:=[],enc:=fun x=>[.lst 3 (cells x) x.length],size:=1,len:=fun _=>rfl }
theorem l7 (l:List Int) (h1:l.length<1000000):Ak env 75 [.lst 3 (cells l) l.length] (.p (.own 3 (cells l) l.length)):=by
 rcases bl l.length with h0|h0
 ·obtain rfl:l=[]:=ar.1 h0
  refine Ak.enter (Ae (by decide)) Tryz.func75 rfl (by kernel_rfl) (by simp [Tryz.ntmps75]) ?_
  repeat' (first|(refine Ai.Je 2 ?_;refine Ai.ghost (Aw.QD 7 rfl rfl) ?_)|(refine Ad.ghost (Aw.toOwn 2 3 rfl) ?_;apply Ad.P9)|apply Ad.assoc|apply Ad.BL|apply Ad.G5|apply Ad.ret|apply Ai.nil|apply Ai.one|(apply Aa.eqNil;rfl;rfl;rfl)|(apply Aa.assign;rfl)|(apply Aa.move;rfl)|(apply Aa.buildSlice;rfl;rfl;rfl;decide;rfl;rfl;rfl)|(apply Aa.TK;rfl;rfl;rfl;(first|rfl|omega|(simp only [List.length_take,List.length_drop,List.length_append,List.length_singleton,List.length_cons,List.length_nil]<;>omega));rfl;rfl;(intro _ h;cases h);rfl;rfl;rfl;decide;decide;(first|omega|(simp only [List.length_take,List.length_drop,List.length_append,List.length_singleton,List.length_cons,List.length_nil]<;>omega)))|(apply Ad.QL;rfl)|(intro _;try (exfalso;omega)))
  all_goals first|(exfalso;omega)|(refine Done.rt rfl rfl ⟨?_,rfl,rfl⟩;try rfl)
 ·refine Ak.enter (Ae (by decide)) Tryz.func75 rfl (by kernel_rfl) (by simp [Tryz.ntmps75]) ?_
  repeat' (first|(refine Ai.Je 2 ?_;refine Ai.ghost (Aw.QD 7 rfl rfl) ?_)|apply Ad.assoc|apply Ad.BL|apply Ad.G5|apply Ad.ret|apply Ai.nil|apply Ai.one|(apply Aa.a6j;rfl;rfl;rfl;exact h0)|(apply Aa.assign;rfl)|(apply Aa.move;rfl)|(apply Aa.buildSlice;rfl;rfl;rfl;decide;rfl;rfl;rfl)|(apply Aa.TK;rfl;rfl;rfl;(first|rfl|omega|(simp only [List.length_take,List.length_drop,List.length_append,List.length_singleton,List.length_cons,List.length_nil]<;>omega));rfl;rfl;(intro _ h;cases h);rfl;rfl;rfl;decide;decide;(first|omega|(simp only [List.length_take,List.length_drop,List.length_append,List.length_singleton,List.length_cons,List.length_nil]<;>omega)))|(apply Ad.Aj;rfl))
  all_goals first|(exfalso;omega)|(refine Done.rt rfl rfl ⟨?_,rfl,rfl⟩;try rfl)
end Go.Proofs.YtnjkoebfgcbbdaaGreatDoor
namespace Go.Proofs.YtnjkoebfgcbbdaaGreatDoor
open Go Go.Am Go.Vm Go.Pie
attribute [local irreducible] Aa Ai Ag Ad AP Ak Bf BM Bq Ah Vm.Done BD AB
attribute [local irreducible] Ci Ba DV DN Eo AZ CG
def lwR (r:Rgs) (p:F7) (t:Int):Nat→Rgs
 |0=>r
 |k+1=>if gi p.bars (gi p.sets k).bar.toNat≤t then (gi p.sets k).reg else lwR r p t k
def lkF (p:F7) (L:List Int) (k d:Nat):JZ:=qF (kdK p L d k) (kdK p L d k).length
noncomputable instance (a b:Rgs):Decidable (a=b):=Classical.propDecidable _
noncomputable instance (a b:vC):Decidable (a=b):=Classical.propDecidable _
noncomputable instance (a b:F7):Decidable (a=b):=Classical.propDecidable _
end Go.Proofs.YtnjkoebfgcbbdaaGreatDoor
namespace Go.Proofs.YtnjkoebfgcbbdaaGreatDoor
open Go Go.Am Go.Vm
instance c5c:Enc (List Int):={ default:=[],enc:=fun l=>[.lst 3 (cells l) l.length],size:=1,len:=fun _=>rfl }
attribute [local irreducible] Aa Ai Ag Ad AP Ak Bf BM Bq Ah Vm.Done BD AB
def c7d (n k:Nat) (v:Int):List Int:=List.replicate k v++List.replicate (n-k) 0
open Go.Pie
attribute [local irreducible] Ci Ba DV DN Eo AZ CG
def exR (c:UInt8):Ho:=⟨[c],[102,108,117,116,101],⟨8,1⟩,36,List.replicate 25 1⟩
def exS (n D5 sh:Int):Stp:=⟨[97],⟨D5,1⟩,[⟨36,48,[⟨n,sh⟩]⟩]⟩
def c4h:lT:=⟨[111,110,101],false,36,48,[exS 0 8 0]⟩
def c3n:lT:=⟨[116,119,111],false,36,48,[exS 1 4 12]⟩
def exO:He:=⟨[101],[exR 114,exR 115],[c4h,c3n],[⟨[99],0,1,0,false⟩]⟩
def exG:Rgs:=⟨[1,0],0,0⟩
def exP:F7:=⟨[0,4,8],[⟨0,6,0,40⟩,⟨4,8,0,43⟩],[⟨1,exG⟩]⟩
instance (c:Nat):Decidable (oV c):=by unfold oV;infer_instance
theorem a3z (s:List UInt8) (h0:0<s.length) (h1:s.length≤32) (h:∀ i,i<s.length→oV (gi s i).toNat):Dy s:=⟨h0,h1,h 0 h0,fun i _ hi=>.inl (h i hi)⟩
theorem lt2 {i:Nat} (h:i<2):i=0∨i=1 :=by omega
theorem pk1 (n:Int) (h:n=8∨n=4):Rh ⟨n,1⟩=0:=TI.2 (by rcases h with rfl|rfl<;>decide +kernel)
end Go.Proofs.YtnjkoebfgcbbdaaGreatDoor
namespace Go.Proofs.YtnjkoebfgcbbdaaGreatDoor
open Go Go.Am Go.Vm
theorem NY {n:Int} (h:(Lit.int .u8 n).wf=true):∃ m:Nat,m<256∧n=m:=by
 simp [Lit.wf,IntKind.min,IntKind.max,IntKind.signed,IntKind.bits] at h;exact ⟨n.toNat,by omega,by omega⟩
theorem a5t {n:Int} (h:(Lit.int .i8 n).wf=true):-128≤n∧n≤127:=by
 simp [Lit.wf,IntKind.min,IntKind.max,IntKind.signed,IntKind.bits] at h;omega
theorem ZA {α β:Type} {R:β→α→Prop}:∀ {l:List α},(∀ x∈l,∃ y,R y x)→∃ r:List β,G6 R r l
 |[],_=>⟨[],.nil⟩
 |a::l,h=>by
  obtain ⟨y,hy⟩:=h a (by simp);obtain ⟨r,hr⟩:=ZA (l:=l) (fun x hx=>h x (by grind));exact ⟨y::r,.cons hy hr⟩
theorem Zr {α:Type} [Enc α] {p:α→Prop}:∀ {r:List α} {L:List (List FV)},G6 (fun a fs=>fs=Enc.enc a∧p a) r L→L.flatten=cells r∧L.length=r.length∧∀ i,i<r.length→p (gi r i)
 |_,_,.nil=>⟨rfl,rfl,fun i hi=>by grind⟩
 |a::r,fs::L,.cons ⟨h1,h2⟩ t=>by
  obtain ⟨e1,e2,e3⟩:=Zr t;refine ⟨by rw [List.flatten_cons,e1,h1];rfl,by grind,fun i hi=>?_⟩;cases i with
  |zero=>exact h2
  |succ i=>exact e3 i (by grind)
section
variable {α β:Type} {R:α→β→Prop} {a b c d e:α} {r:List β}
theorem a3r (h:G6 R [a] r):∃ x,r=[x]∧R a x:=by
 cases h with|cons h1 t=>cases t;grind
theorem rE (h:G6 R [a,b] r):∃ x y,r=[x,y]∧R a x∧R b y:=by
 cases h with|cons h1 t=>obtain ⟨x,rfl,h2⟩:=a3r t;grind
theorem Nw (h:G6 R [a,b,c] r):∃ x y z,r=[x,y,z]∧R a x∧R b y∧R c z:=by
 cases h with|cons h1 t=>obtain ⟨x,y,rfl,h2,h3⟩:=rE t;grind
theorem Jo (h:G6 R [a,b,c,d] r):∃ x y z w,r=[x,y,z,w]∧R a x∧R b y∧R c z∧R d w:=by
 cases h with|cons h1 t=>obtain ⟨x,y,z,rfl,h2,h3,h4⟩:=Nw t;grind
theorem a1w (h:G6 R [a,b,c,d,e] r):∃ x y z w v,r=[x,y,z,w,v]∧R a x∧R b y∧R c z∧R d w∧R e v:=by
 cases h with|cons h1 t=>obtain ⟨x,y,z,w,rfl,h2,h3,h4,h5⟩:=Jo t;grind
end
theorem qj {j:Nat} {fs:List FV} (h:EW Tryz.prog (j+1) 4 fs):∃ b:Bool,fs=[.bool b]:=by
 assumption
theorem c2j {α:Type} {l:List α} (h:l.length=5):∃ a b c d e,l=[a,b,c,d,e]:=by
 match l,h with|[a,b,c,d,e],_=>simp
theorem a0b {j:Nat} {fs:List FV} (h:EW Tryz.prog (j+3) 226 fs):∃ x:GK,fs=x.enc∧x.Ok:=by
 simp only [EW,Tryz.underlying226,Tryz.underlying5,Tryz.underlying97,Tryz.underlying174] at h;obtain ⟨parts,rfl,hp⟩:=h;obtain ⟨a,b,c,d,e,rfl,⟨n1,rfl,h1⟩,⟨n2,rfl,h2⟩,⟨n3,rfl,h3⟩,⟨n4,rfl,h4⟩,L,rfl,hl,hL⟩:=a1w hp;obtain ⟨m1,q1,rfl⟩:=NY h1;obtain ⟨m2,q2,rfl⟩:=NY h2;obtain ⟨m4,q4,rfl⟩:=NY h4;obtain ⟨a,b,c,d,e,rfl⟩:=c2j hl;obtain ⟨w0,rfl,g0⟩:=hL a (by simp);obtain ⟨w1,rfl,g1⟩:=hL b (by simp);obtain ⟨w2,rfl,g2⟩:=hL c (by simp);obtain ⟨w3,rfl,g3⟩:=hL d (by simp);obtain ⟨w4,rfl,g4⟩:=hL e (by simp);obtain ⟨v0,k0,rfl⟩:=NY g0;obtain ⟨v1,k1,rfl⟩:=NY g1;obtain ⟨v2,k2,rfl⟩:=NY g2;obtain ⟨v3,k3,rfl⟩:=NY g3;obtain ⟨v4,k4,rfl⟩:=NY g4;refine ⟨⟨m1,m2,n3,m4,[v0,v1,v2,v3,v4]⟩,rfl,q1,q2,a5t h3,q4,fun i=>?_⟩
 match i with
 |0=>exact k0
 |1=>exact k1
 |2=>exact k2
 |3=>exact k3
 |4=>exact k4
 |n+5=>simp [gi]
end Go.Proofs.YtnjkoebfgcbbdaaGreatDoor
