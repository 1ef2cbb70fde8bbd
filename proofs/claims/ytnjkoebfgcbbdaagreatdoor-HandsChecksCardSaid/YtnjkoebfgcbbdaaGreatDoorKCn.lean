/-
  Texts of a proof, merged (HanG, HanH, HanI, HanJ, HanK, Wm1, Wm3, HanL, PieT, PieU, PieS, TraA, PieN, PieO, RkQ, OrK, OrP, PieV, PieY). Conditions: in each statement.
-/
import Derived.Maps.RangeRun
import Derived.Test.YtnjkoebfgcbbdaaGreatDoorKCm
set_option linter.unusedSimpArgs false
set_option linter.unusedVariables false
set_option linter.unusedSectionVars false
set_option maxRecDepth 100000
set_option maxHeartbeats 8000000
abbrev gN:=@List.take_set_of_le
namespace Go.Proofs.YtnjkoebfgcbbdaaGreatDoor
open Go Go.Am Go.Vm Go.Pie
attribute [local irreducible] Aa Ah Af Ad Az Ai Ba Bq Bd Aj Vm.Done Bg AB RN
attribute [local irreducible] BR A8 DJ Dx DX AV Cc
theorem OU {α:Type}:∀ (r cs:List α) (o:Nat) {k:Nat},k≤o→(CJ cs o r).take k=cs.take k
 |[],cs,o,k,h=>by rfl
 |a::r,cs,o,k,h=>by
  simp only [CJ];rw [OU r (cs.set o a) (o+1) (by omega),gN h]
theorem filter_all {α:Type} {P:α→Bool} {l:List α} [Inhabited α] (h:∀ i,i<l.length→P (gi l i)=true):l.filter P=l:=by
 rw [gL];intro a ha;obtain ⟨i,hi,rfl⟩:=dq ha;have:=h i hi
 rwa [show gi l i=l[i] by unfold gi;grind] at this
structure RV {α:Type} (P:α→Bool) (l zs:List α) (i j:Nat):Prop where
 len:zs.length=l.length
 ij:i<j
 jn:j≤l.length
 keep:zs.take i=(l.take j).filter P
 rest:zs.drop j=l.drop j
theorem RV.at_ {α:Type} [Inhabited α] {P:α→Bool} {l zs:List α} {i j:Nat} (h:RV P l zs i j) (hj:j<l.length):gi zs j=gi l j:=by
 have:=congrArg (fun x=>gi x 0) h.rest;simp only [gi,List.getElem?_drop,Nat.add_zero] at this;exact this
theorem RV.skip {α:Type} [Inhabited α] {P:α→Bool} {l zs:List α} {i j:Nat} (h:RV P l zs i j) (hj:j<l.length) (hp:P (gi l j)=false):RV P l zs i (j+1):=by
 refine ⟨h.len,by have:=h.ij;omega,hj,?_,?_⟩
 ·rw [ED hj,cS,h.keep]
  grind
 ·have:=congrArg (List.drop 1) h.rest
  simp_all
theorem RV.put {α:Type} [Inhabited α] {P:α→Bool} {l zs:List α} {i j:Nat} (h:RV P l zs i j) (hj:j<l.length) (hp:P (gi l j)=true):RV P l (zs.set i (gi l j)) (i+1) (j+1):=by
 have h1:=h.ij;have h2:=h.len;refine ⟨by grind,by omega,hj,?_,?_⟩
 ·rw [ED hj,cS,← h.keep,ED (by grind),gN (ab _)]
  have e:gi (zs.set i (gi l j)) i=gi l j:=by rw [Gt,if_pos ⟨rfl,by omega⟩]
  grind
 ·rw [List.drop_set_of_lt (by omega)]
  have:=congrArg (List.drop 1) h.rest;simp_all
theorem RV.start {α:Type} [Inhabited α] {P:α→Bool} {l:List α} {k:Nat} (hk:k<l.length) (hp:P (gi l k)=false) (h:∀ i,i<k→P (gi l i)=true):RV P l l k (k+1):=by
 refine ⟨rfl,by omega,hk,?_,rfl⟩;rw [ED hk,cS];have:(l.take k).filter P=l.take k:=filter_all fun i hi=>by
  rw [aw] at hi;have:=h i (by omega)
  rwa [show gi (l.take k) i=gi l i from by unfold gi;grind]
 grind
theorem RV.fin {α:Type} [Inhabited α] {P:α→Bool} {l zs:List α} {i:Nat} (h:RV P l zs i l.length):zs.take i=l.filter P∧i=(l.filter P).length:=by
 have h1:=h.keep;rw [cU (ab _)] at h1;refine ⟨h1,?_⟩;rw [← h1,aw,h.len];have:=h.ij;omega
theorem yE {L:Vm.Frame} {H:Vm.Heap} {nx:Nat} {Q:PV→Vm.Heap→Nat→Prop} {dst:Option Tmp} {ty:TypeId} {pos:String} {af:Array Edge} {gd:Option (Nat×Bool)} {fo:Operand} {args:Array Operand} {aT:Array TypeId} {fs cs xs:List PV} {c:Code}
 (hf:AU env.Γ L fo=some (.clo 123 fs cs)) (ha:evs env.Γ L args.toList=some xs) (hb:Tryz.f123.body=some c) (hn:(fs++xs++cs).length≤Tryz.f123.ntmps)
 (h:Ad env nx c (CG 0 (fs++xs++cs)) H nx (AB env.P Tryz.f123.results.toList Q)):Aa env true ⟨dst,.call { callee:=.value fo,args:=args,argTypes:=aT },ty,pos,af,gd⟩ L H nx Q:=by
 have h0:(match Tryz.f123.body with|some c=>IL env.G Tryz.f123 c|none=>false)=true:=by kernel_rfl
 rw [hb] at h0;exact Aa.inline rfl hf ha (Ae (by decide)) Tryz.func123 hb h0 hn h
theorem yY {L:Vm.Frame} {H:Vm.Heap} {nx:Nat} {Q:PV→Vm.Heap→Nat→Prop} {dst:Option Tmp} {ty:TypeId} {pos:String} {af:Array Edge} {gd:Option (Nat×Bool)} {fo:Operand} {args:Array Operand} {aT:Array TypeId} {fs cs xs:List PV} {c:Code}
 (hf:AU env.Γ L fo=some (.clo 160 fs cs)) (ha:evs env.Γ L args.toList=some xs) (hb:Tryz.f160.body=some c) (hn:(fs++xs++cs).length≤Tryz.f160.ntmps)
 (h:Ad env nx c (CG 0 (fs++xs++cs)) H nx (AB env.P Tryz.f160.results.toList Q)):Aa env true ⟨dst,.call { callee:=.value fo,args:=args,argTypes:=aT },ty,pos,af,gd⟩ L H nx Q:=by
 have h0:(match Tryz.f160.body with|some c=>IL env.G Tryz.f160 c|none=>false)=true:=by kernel_rfl
 rw [hb] at h0;exact Aa.inline rfl hf ha (Ae (by decide)) Tryz.func160 hb h0 hn h
theorem lX:Ai env 75 [.lst 3 (cells ([]:List Int)) 0] (.p (.lst 3 (cells ([]:List Int)) 0)):=by
 refine Ai.enter (Ae (by decide)) Tryz.func75 rfl (by kernel_rfl) (by simp) ?_
 repeat' (first|(refine Ah.Gz 2 ?_;refine Ah.ghost (Ar.freeze 7 rfl rfl) ?_)|apply Ad.assoc|apply Ad.Bf|apply Ad.CO|apply Ad.Fq|apply Ad.ret|apply Ah.nil|apply Ah.one|(apply Aa.eqNil;rfl;rfl;rfl)|(apply Aa.assign;rfl)|(apply Aa.move;rfl)|(apply Aa.buildSlice;rfl;rfl;rfl;decide;rfl;rfl;rfl)|(apply Aa.FM;rfl;rfl;rfl;(first|rfl|omega|(simp only [List.length_take,List.length_drop,List.length_append,List.length_singleton,List.length_cons,List.length_nil]<;>omega));rfl;rfl;(intro _ h;cases h);rfl;rfl;rfl;decide;decide;(first|omega|(simp only [List.length_take,List.length_drop,List.length_append,List.length_singleton,List.length_cons,List.length_nil]<;>omega)))|(apply Ad.JO;rfl)|(intro _))
 all_goals first|(omega)|(refine Done.ret rfl (.p (.nil _)) trivial BG.nil (aq _) (ab _) ⟨rfl,rfl,rfl⟩)|(refine Done.rt rfl rfl ⟨?_,rfl,rfl⟩;try rfl)
def Us (q:Qu) (x:Int):Bool:=!IK q x.toNat
def Jf (q:Qu) (N:List Int):List Int:=N.filter (Us q)
theorem Uw (q:Qu) (hq:Na q) (s:kW) (hN:tJ q s.notes) (hNl:s.notes.length≤1000):Ai env 84 [.agg (Enc.enc q),.agg (Enc.enc s)] (.p (.lst 3 (cells (Jf q s.notes)) (Jf q s.notes).length)):=by
 have hpd:=fun i hi=>Td q hq i hi
 obtain ⟨a,e,l⟩:=s;simp only at hN hNl ⊢;rcases am l.length with h0|h0
 ·obtain rfl:l=[]:=ar.1 h0
  have hcl:=lX;unfold Jf;rw [List.filter_nil];refine Ai.enter (Ae (by decide)) Tryz.func84 rfl (by kernel_rfl) (by simp [Tryz.ntmps84]) ?_
  repeat' (first|(apply Aa.fn;rfl;rfl;exact hcl;intro _;rfl)|(apply Aa.makeFunc;rfl;rfl)|(apply yE;rfl;rfl;rfl;exact le_dec rfl)|(apply yY;rfl;rfl;rfl;exact le_dec rfl)|refine Cb ?_|fail)
  all_goals try (exfalso;omega)
  refine Ad.b3w 0 ?_
  repeat' (first|refine go2 ?_|(apply AB.ret;rfl)|(apply RN.zero)|(apply Ad.AX;rfl)|(apply Ad.Ak;rfl))
  all_goals first|(exfalso;omega)|contradiction|(refine Done.rt rfl rfl ⟨?_,rfl,rfl⟩;try rfl)
 have hcl:=J4 l h0 (by omega);unfold Jf;refine Ai.enter (Ae (by decide)) Tryz.func84 rfl (by kernel_rfl) (by simp [Tryz.ntmps84]) ?_
 repeat' (first|(apply Aa.fv;rfl;rfl;exact hcl)|(apply Aa.makeFunc;rfl;rfl)|(apply yE;rfl;rfl;rfl;exact le_dec rfl)|(apply yY;rfl;rfl;rfl;exact le_dec rfl)|(apply Aa.lenV;rfl;rfl;rfl)|refine Cb ?_|fail)
 all_goals try (exfalso;omega)
 apply Ad.Jq (l.length) (fun k=>∀ i,i<k→Us q (gi l i)=true) [(0,_),(1,_),(7,_)] [(2,_)] (fun k r=>(8,.p (.int .i64 (k:Int)))::r) (fun k r=>r) 3
 ·first|omega|decide
 ·first|omega|decide
 ·exact SS
 ·exact Ws
 ·first|(intro _ _;omega)|omega|trivial
 ·intro k hk hi
  obtain ⟨g1,g2⟩:=hN k hk;have hC:=hpd (gi l k).toNat (by omega);rw [du g1] at hC;by_cases hp:Us q (gi l k)=true
  ·have hp1:IK q (gi l k).toNat=false:=by unfold Us at hp;simpa using hp
   rw [hp1] at hC
   repeat' (first|(apply Aa.ZI hC;rfl;rfl;exact .of_eq rfl;exact C9.AA rfl)|(apply Aa.Di;rfl;rfl;rfl;rfl;omega)|refine Cb ?_|(apply Aa.int;rfl;rfl;rfl)|(apply Ad.Ac;rfl)|(apply Ad.cond_false;rfl)|(intro _;try (exfalso;omega)))
   all_goals try (exfalso;omega)
   refine Aj.normal ⟨(all_succ hi hp),by first|omega|decide,?_,?_⟩
   ·exact Dy
   ·exact Ey
  ·have hp':Us q (gi l k)=false:=by cases h:Us q (gi l k)<;>simp_all
   have hp1:IK q (gi l k).toNat=true:=by unfold Us at hp';simpa using hp'
   rw [hp1] at hC
   repeat' (first|(apply Aa.ZI hC;rfl;rfl;exact .of_eq rfl;exact C9.AA rfl)|(apply Aa.Di;rfl;rfl;rfl;rfl;omega)|refine Cb ?_|(apply AB.ret;rfl)|(apply Aa.int;rfl;rfl;rfl)|(apply Ad.Ak;rfl)|(apply Ad.Ac;rfl)|(apply Ad.cond_true;rfl)|(intro _;try (exfalso;omega)))
   all_goals try (exfalso;omega)
   refine Ad.D6 (fun s:List Int×Nat×Nat=>[(0,.vec 2 l.length 0 l.length),(1,.clo 85 [.p (.agg (Enc.enc q))] []),(5,.p (.int .i64 (s.2.1:Int))),(6,.p (.int .i64 (s.2.2:Int)))]) (fun s=>[(2,.vec 3 (cells s.1) l.length false)]) 3 (fun s=>RV (Us q) l s.1 s.2.1 s.2.2) (fun s=>l.length-s.2.2) (l,k,k+1) (by decide) (RV.start hk hp' hi) ⟨by decide,?_,?_⟩ ?_
   ·exact Dy
   ·exact Ey
   rintro ⟨zs,i,j⟩ hD;simp only at hD ⊢;have z1:=hD.len;have z2:=hD.ij;have z3:=hD.jn;by_cases hj:j<l.length
   ·obtain ⟨g3,g4⟩:=hN j hj
    have hC2:=hpd (gi l j).toNat (by omega);rw [du g3] at hC2;have hz:=hD.at_ hj;by_cases hw:Us q (gi l j)=true
    ·have hw1:IK q (gi l j).toNat=false:=by unfold Us at hw;simpa using hw
     rw [hw1] at hC2;rw [← hz] at hC2
     repeat' (first|(apply Aa.ZI hC2;rfl;rfl;exact .of_eq rfl;exact C9.AA rfl)|(apply Aa.JQ (y:=gi zs j);rfl;rfl;rfl;trivial;(first|rfl|(refine congrArg (fun t=>[PV.p (FV.int _ t)]) ?_;first|omega|(simp only [Int.natCast_add,Int.natCast_mul,Int.natCast_ediv,Int.natCast_emod]<;>omega)));rfl;rfl;decide;(first|omega|(simp only [List.length_set]<;>omega)))|(apply Aa.lenV;rfl;rfl;rfl)|(apply Aa.Di;rfl;rfl;rfl;rfl;omega)|refine Cb ?_|(apply Aa.int;rfl;rfl;rfl)|(apply Ad.Ac;rfl)|(apply Ad.cond_true;rfl)|(intro _;try (exfalso;omega)))
     all_goals try (exfalso;omega)
     refine Aj.normal ⟨(zs.set i (gi l j),i+1,j+1),hD.put hj hw,by simp only;omega,⟨by omega,?_,?_⟩⟩
     ·exact Dy
     ·rw [← hz]
      exact Ey
    ·have hw':Us q (gi l j)=false:=by cases h:Us q (gi l j)<;>simp_all
     have hw1:IK q (gi l j).toNat=true:=by unfold Us at hw';simpa using hw'
     rw [hw1] at hC2;rw [← hz] at hC2
     repeat' (first|(apply Aa.ZI hC2;rfl;rfl;exact .of_eq rfl;exact C9.AA rfl)|(apply Aa.lenV;rfl;rfl;rfl)|(apply Aa.Di;rfl;rfl;rfl;rfl;omega)|refine Cb ?_|(apply Aa.int;rfl;rfl;rfl)|(apply Ad.Ac;rfl)|(apply Ad.cond_false;rfl)|(intro _;try (exfalso;omega)))
     all_goals try (exfalso;omega)
     refine Aj.normal ⟨(zs,i,j+1),hD.skip hj hw',by simp only;omega,⟨by omega,?_,?_⟩⟩
     ·exact Dy
     ·exact Ey
   ·obtain rfl:j=l.length:=by omega
    obtain ⟨f1,f2⟩:=hD.fin;rw [← f1,show (zs.take i).length=i by rw [aw];omega];have hps:∀ xs,((CJ (cells zs) (0+i*1) xs).take (i*1))=cells (zs.take i):=fun xs=>by
     rw [OU _ _ _ (show i*1≤0+i*1 by omega)];exact Oi zs i
    have hpl:∀ xs,i*1≤(CJ (cells zs) (0+i*1) xs).length:=fun xs=>by
     rw [Qa,CQ,z1];show i*1≤l.length*1;omega
    repeat' (first|(refine Af.Gz 4 ?_;refine Af.ghost (Ar.rX 10 (i*1) rfl rfl (by omega) (hpl _)) ?_)|apply Ad.assoc|apply Ad.Bf|apply Ad.Gw|apply Bq.normal|(apply AB.ret;rfl)|apply Bd.exit|apply Aj.exit|apply Ad.ret|apply Ah.nil|apply Af.nil|apply Ah.one|(apply Af.bar;decide +kernel)|(apply Aa.ji (sz:=1) (a:=i) (c:=l.length);rfl;rfl;omega;rfl;rfl;rfl;exact ⟨_,rfl⟩;rfl;omega;exact ab _)|(apply Aa.ji (sz:=1) (a:=0) (c:=i);rfl;rfl;omega;rfl;rfl;rfl;rfl;exact ⟨_,rfl⟩;omega;omega)|(apply Aa.clear;rfl;rfl;omega;omega;rfl;rfl;rfl;decide;(rw [CQ,z1];show 0+i*1+(l.length-i)*1≤l.length*1;omega))|(apply Aa.assign;rfl)|(apply Aa.move;rfl)|(apply Aa.int;rfl;rfl;rfl)|(apply Aa.lenV;rfl;rfl;rfl)|(apply Ad.Ac;rfl)|(intro _;try (exfalso;omega)))
    all_goals first|(exfalso;omega)|(refine Done.rt rfl rfl ⟨?_,rfl,rfl⟩;exact congrArg (fun c=>PV.p (FV.lst 3 c i)) (hps _))
 ·intro hi
  rw [filter_all hi]
  repeat' (first|(refine Af.Gz 4 ?_;refine Af.ghost (Ar.freeze 10 rfl rfl) ?_)|apply Ad.assoc|apply Ad.Bf|apply Ad.Fq|apply Ad.Gw|apply Bq.normal|(apply AB.ret;rfl)|apply Bd.exit|apply Aj.exit|apply Ad.ret|apply Ah.nil|apply Af.nil|apply Ah.one|(apply Af.bar;decide +kernel)|(apply Aa.assign;rfl)|(apply Aa.move;rfl)|(apply Aa.int;rfl;rfl;rfl)|(apply Ad.AX;rfl)|(apply Ad.Ac;rfl)|(intro _;try (exfalso;omega)))
  all_goals first|(exfalso;omega)|(refine Done.rt rfl rfl ⟨?_,rfl,rfl⟩;try rfl)
theorem Yu (p:Ef) {i:Nat} (hi:i<(BN p).length):gi (BN p) i=⟨gi (DT p) i,gi (DT p) (i+1),snd p (gi (DT p) i)⟩:=by
 unfold BN a5g at hi ⊢;rw [CP] at hi;exact EC _ hi
theorem UW (p:Ef):(BN p).length≤2*p.notes.length+1:=by
 have h1:=pX (snd p) (DT p);have h2:=XI ((TY p p.notes.length).mergeSort fun x y=>decide (x≤y));rw [gE,Yn] at h2;have h3:(DT p).length≤_:=h2;show (a5g (snd p) (DT p)).length≤_;omega
def J6 (q:Qu) (i:Nat):List Int:=(gi (BN q.p) i).notes
theorem Tj {q:Qu} {i:Nat} (hi:i<(BN q.p).length):tJ q (J6 q i):=by
 unfold J6;rw [Yu _ hi];exact fun k hk=>b7v hk
theorem jr {q:Qu} (hq:Na q) {i:Nat} (hi:i<(BN q.p).length):(J6 q i).length≤1000:=by
 unfold J6;rw [Yu _ hi];exact an (Vd q.p _ _) hq.p.notes
theorem Ov (q:Qu) (hq:Na q):Ai env 38 [.agg (Enc.enc q)] (.p (.lst 81 (cells (BN q.p)) (BN q.p).length)):=by
 have h:=sZ hq.o.sm hq.e hq.p;refine Ai.enter (Ae (by decide)) Tryz.func38 rfl (by kernel_rfl) (by simp) ?_
 repeat' (first|(apply Aa.fn;rfl;rfl;exact h;intro _;rfl)|refine Cb ?_|fail)
 all_goals first|(omega)|(refine Done.rt rfl rfl ⟨?_,rfl,rfl⟩;try rfl)
theorem b3h {L:Vm.Frame} {H:Vm.Heap} {nx:Nat} {Q:PV→Vm.Heap→Nat→Prop} {dst:Option Tmp} {ty:TypeId} {pos:String} {af:Array Edge} {gd:Option (Nat×Bool)} {fo:Operand} {args:Array Operand} {aT:Array TypeId} {fs cs xs:List PV} {c:Code}
 (hf:AU env.Γ L fo=some (.clo 82 fs cs)) (ha:evs env.Γ L args.toList=some xs) (hb:Tryz.f82.body=some c) (hn:(fs++xs++cs).length≤Tryz.f82.ntmps)
 (h:Ad env nx c (CG 0 (fs++xs++cs)) H nx (AB env.P Tryz.f82.results.toList Q)):Aa env true ⟨dst,.call { callee:=.value fo,args:=args,argTypes:=aT },ty,pos,af,gd⟩ L H nx Q:=by
 have h0:(match Tryz.f82.body with|some c=>IL env.G Tryz.f82 c|none=>false)=true:=by kernel_rfl
 rw [hb] at h0;exact Aa.inline rfl hf ha (Ae (by decide)) Tryz.func82 hb h0 hn h
theorem b1t {L:Vm.Frame} {H:Vm.Heap} {nx:Nat} {Q:PV→Vm.Heap→Nat→Prop} {dst:Option Tmp} {ty:TypeId} {pos:String} {af:Array Edge} {gd:Option (Nat×Bool)} {fo:Operand} {args:Array Operand} {aT:Array TypeId} {fs cs xs:List PV} {c:Code}
 (hf:AU env.Γ L fo=some (.clo 97 fs cs)) (ha:evs env.Γ L args.toList=some xs) (hb:Tryz.f97.body=some c) (hn:(fs++xs++cs).length≤Tryz.f97.ntmps)
 (h:Ad env nx c (CG 0 (fs++xs++cs)) H nx (AB env.P Tryz.f97.results.toList Q)):Aa env true ⟨dst,.call { callee:=.value fo,args:=args,argTypes:=aT },ty,pos,af,gd⟩ L H nx Q:=by
 have h0:(match Tryz.f97.body with|some c=>IL env.G Tryz.f97 c|none=>false)=true:=by kernel_rfl
 rw [hb] at h0;exact Aa.inline rfl hf ha (Ae (by decide)) Tryz.func97 hb h0 hn h
def c5w (q:Qu) (l:List Int):Int:=I5 (fun i=>!Po q (J6 q i) l) (BN q.p).length
theorem dh (q:Qu) (hq:Na q) (s:kW) (hN:tJ q s.notes) (hNl:s.notes.length≤1000):EZ env 83 ([.p (.agg (Enc.enc s))]++[.ref 0 0]) [(0,.box 36 ((Enc.enc q).map .p))] 1 (.bool (decide (12<(Jf q s.notes).length))):=by
 have hp:=Uw q hq s hN hNl;have e:decide (12<(Jf q s.notes).length)=decide (((Jf q s.notes).length:Int)>12):=by
  grind
 rw [e];generalize Jf q s.notes=M at *;refine EZ.enter (Ae (by decide)) Tryz.func83 rfl (by kernel_rfl) (by simp) ?_
 repeat' (first|(apply Aa.fn;rfl;rfl;exact hp;intro _;rfl)|refine Cb ?_|(apply Aa.int;rfl;rfl;rfl))
 all_goals first|(exfalso;omega)|(refine Done.ret rfl (.refl _) trivial ?_ (by omega) (ab _) ⟨?_,rfl,rfl⟩;exact Ey;try rfl)
def b0h (q:Qu):Bool:=decide (0≤I5 (fun i=>decide (12<(Jf q (J6 q i)).length)) (BN q.p).length)
theorem Ul (q:Qu) (hq:Na q):Ai env 36 [.agg (Enc.enc q)] (.p (.bool (b0h q))):=by
 have hS:=Ov q hq;have hSl:=UW q.p;have hn:=hq.p.notes;have hM:∀ k,k<(BN q.p).length→EZ env 83 ([.p (.agg (Enc.enc (gi (BN q.p) k)))]++[.ref 0 0]) [(0,.box 36 ((Enc.enc q).map .p))] 1 (.bool (decide (12<(Jf q (J6 q k)).length))):=fun k hk=>dh q hq _ (Tj hk) (jr hq hk)
 unfold b0h;generalize hP:(fun i=>decide (12<(Jf q (J6 q i)).length))=P at *;have hM:∀ k,k<(BN q.p).length→EZ env 83 ([.p (.agg (Enc.enc (gi (BN q.p) k)))]++[.ref 0 0]) [(0,.box 36 ((Enc.enc q).map .p))] 1 (.bool (P k)):=fun k hk=>by grind
 generalize BN q.p=S at *;refine Ai.enter (Ae (by decide)) Tryz.func36 rfl (by kernel_rfl) (by simp) ?_
 repeat' (first|(apply Aa.fn;rfl;rfl;exact hS;intro _;rfl)|(apply Aa.makeFunc;rfl;rfl)|(apply b3h;rfl;rfl;rfl;exact le_dec rfl)|(apply b1t;rfl;rfl;rfl;exact le_dec rfl)|refine Cb ?_|fail)
 all_goals try (exfalso;omega)
 apply Ad.Jq (S.length) (fun k=>YG P S.length (S.length-k)=I5 P S.length) [(0,_),(1,_),(7,_)] [(0,_)] (fun k r=>(8,.p (.int .i64 (k:Int)))::r) (fun k r=>r) 1
 ·simp
 ·simp
 ·exact SS
 ·exact Ws
 ·rfl
 ·intro k hk hi
  have hC:=hM k hk;by_cases hp:P k=true
  ·rw [hp] at hC
   have e1:I5 P S.length=(k:Int):=by rw [← hi,zF hk hp]
   rw [e1]
   repeat' (first|(apply Aa.read [0] hC;rfl;rfl;exact .of_eq rfl;exact C9.AA rfl;exact Dn rfl;(repeat (first|exact trivial|refine ⟨⟨_,rfl,.of_eq rfl⟩,?_⟩));decide;(intro _ hb;simp at hb<;>omega);rfl)|(apply Aa.Ap;rfl;rfl;rfl;omega;rfl)|refine Cb ?_|(apply AB.ret;rfl)|(apply Aa.int;rfl;rfl;rfl)|(apply Ad.Ac;rfl)|(apply Ad.cond_true;rfl)|(intro _;try (exfalso;omega)))
   all_goals first|(exfalso;omega)|contradiction|(refine Done.rt rfl rfl ⟨?_,rfl,rfl⟩;try rfl)
  ·have hp':P k=false:=by simpa using hp
   rw [hp'] at hC
   repeat' (first|(apply Aa.read [0] hC;rfl;rfl;exact .of_eq rfl;exact C9.AA rfl;exact Dn rfl;(repeat (first|exact trivial|refine ⟨⟨_,rfl,.of_eq rfl⟩,?_⟩));decide;(intro _ hb;simp at hb<;>omega);rfl)|(apply Aa.Ap;rfl;rfl;rfl;omega;rfl)|refine Cb ?_|(apply Aa.int;rfl;rfl;rfl)|(apply Ad.Ac;rfl)|(apply Ad.cond_false;rfl)|(intro _;try (exfalso;omega)))
   all_goals try (exfalso;omega)
   all_goals try contradiction
   refine Aj.normal ⟨((qc hk hp').symm.trans hi),by first|omega|decide,?_,?_⟩
   ·exact Dy
   ·exact Ey
 ·intro hi
  have e1:I5 P S.length=-1:=by rw [← hi,ef];rfl
  rw [e1]
  repeat' (first|refine go2 ?_|(apply AB.ret;rfl)|(apply Ad.Ac;rfl)|(intro _;try (exfalso;omega)))
  all_goals first|(exfalso;omega)|(refine Done.rt rfl rfl ⟨?_,rfl,rfl⟩;try rfl)
noncomputable def hcE (q:Qu):Int:=if VB q.o q.p=0 then oU q.y else VB q.o q.p
theorem a9f {q:Qu} (hq:Na q):hcE q=0:=by
 unfold hcE;rw [if_pos hq.e,kH hq.y]
theorem GZ (q:Qu) (ho:LQ q.o) (hp:NJ q.p):Ai env 33 [.agg (Enc.enc q)] (.p (.int .i64 (hcE q))):=by
 have hc:=MR q.o q.p ho hp;have hs:=Ji q.y;unfold hcE;generalize VB q.o q.p=e1 at *;by_cases h:e1=0
 ·subst h
  refine Ai.enter (Ae (by decide)) Tryz.func33 rfl (by kernel_rfl) (by simp) ?_
  repeat' (first|(apply Aa.fn;rfl;rfl;exact hc;intro _;rfl)|(apply Aa.fn;rfl;rfl;exact hs;intro _;rfl)|refine Cb ?_|(apply Aa.int;rfl;rfl;rfl)|(apply Ad.Ak;rfl))
  all_goals first|(exfalso;omega)|contradiction|(refine Done.rt rfl rfl ⟨?_,rfl,rfl⟩;try rfl)
 ·rw [if_neg h]
  refine Ai.enter (Ae (by decide)) Tryz.func33 rfl (by kernel_rfl) (by simp) ?_
  repeat' (first|(apply Aa.fn;rfl;rfl;exact hc;intro _;rfl)|refine Cb ?_|(apply Aa.int;rfl;rfl;rfl)|(apply Ad.Ac;rfl)|(intro _))
  all_goals first|(exfalso;omega)|contradiction|(refine Done.rt rfl rfl ⟨?_,rfl,rfl⟩;try rfl)
def c4a (q:Qu) (l:List Int) (i:Nat):Bool:=decide (0≤gi l i)&&decide (gi l i≤2)&&!(IK q i != decide (gi l i=2))
def b9n (q:Qu) (l:List Int):Int:=if l.length=q.p.notes.length then if I5 (fun i=>!c4a q l i) l.length=-1 then 0 else 12 else 5
theorem Nl (q:Qu) (ho:LQ q.o) (hp:NJ q.p) (hE:hcE q≠0) (v:FV):Ai env 44 [.agg (Enc.enc q),v] (.p (.int .i64 (hcE q))):=by
 have hc:=GZ q ho hp;refine Ai.enter (Ae (by decide)) Tryz.func44 rfl (by kernel_rfl) (by simp) ?_
 repeat' (first|(apply Aa.fn;rfl;rfl;exact hc;intro _;rfl)|refine Cb ?_|(apply Aa.int;rfl;rfl;rfl)|(apply Ad.Ac;rfl)|(intro _))
 all_goals first|(omega)|contradiction|(refine Done.rt rfl rfl ⟨?_,rfl,rfl⟩;try rfl)
def c8x (q:Qu) (l:List Int):Int:=if b9n q l=0 then if 0≤c5w q l then 24 else 0 else b9n q l
theorem MF (q:Qu) (ho:LQ q.o) (hp:NJ q.p) (hE:hcE q≠0) (v:FV):Ai env 13 [.agg (Enc.enc q),v] (.p (.int .i64 (hcE q))):=by
 have hc:=Nl q ho hp hE v;refine Ai.enter (Ae (by decide)) Tryz.func13 rfl (by kernel_rfl) (by simp) ?_
 repeat' (first|(apply Aa.fn;rfl;rfl;exact hc;intro _;rfl)|refine Cb ?_|(apply Aa.int;rfl;rfl;rfl)|(apply Ad.Ac;rfl)|(intro _))
 all_goals first|(omega)|contradiction|(refine Done.rt rfl rfl ⟨?_,rfl,rfl⟩;try rfl)
theorem P5 (q:Qu) (v:FV) (e:Int) (he:e≠0) (hc:Ai env 44 [.agg (Enc.enc q),v] (.p (.int .i64 e))):Ai env 34 [.agg (Enc.enc q),v] (.Eb [.p (.int .i64 0),.p (.bool false),.p (.int .i64 e)]):=by
 refine Ai.enter (Ae (by decide)) Tryz.func34 rfl (by kernel_rfl) (by simp) ?_
 repeat' (first|(apply Aa.fn;rfl;rfl;exact hc;intro _;rfl)|refine Cb ?_|(apply Aa.int;rfl;rfl;rfl)|(apply Ad.Ac;rfl)|(intro _))
 all_goals first|(omega)|contradiction|(refine Done.rt rfl rfl ⟨?_,rfl,rfl⟩;try rfl)
def mvC (a b:V7):Int:=max (a.k-b.k) (b.k-a.k)+if a.d=b.d then 0 else 12
def V7.Ok (a:V7):Prop:=0≤a.k∧a.k≤127
theorem Yw {a b:V7} (ha:a.Ok) (hb:b.Ok):0≤mvC a b∧mvC a b≤139:=by
 obtain ⟨a1,a2⟩:=ha;obtain ⟨b1,b2⟩:=hb;unfold mvC;split<;>omega
theorem gB (a b:V7) (ha:a.Ok) (hb:b.Ok):Ai env 57 [.agg (Enc.enc a),.agg (Enc.enc b)] (.p (.int .i64 (mvC a b))):=by
 obtain ⟨a1,a2⟩:=ha;obtain ⟨b1,b2⟩:=hb;unfold mvC;by_cases h:a.d=b.d
 ·rw [if_pos h,Int.add_zero]
  refine Ai.enter (Ae (by decide)) Tryz.func57 rfl (by kernel_rfl) (by simp) ?_
  repeat' (first|refine go2 ?_|(apply Aa.b1x;rfl;rfl)|(apply Ad.Ac;rfl)|(intro _))
  all_goals first|(omega)|contradiction|(refine Done.rt rfl rfl ⟨?_,rfl,rfl⟩;try rfl)
 ·rw [if_neg h]
  refine Ai.enter (Ae (by decide)) Tryz.func57 rfl (by kernel_rfl) (by simp) ?_
  repeat' (first|refine go2 ?_|(apply Aa.b1x;rfl;rfl)|(apply Ad.Ac;rfl)|(intro _))
  all_goals first|(exfalso;omega)|contradiction|(refine Done.rt rfl rfl ⟨?_,rfl,rfl⟩;try rfl)
structure Pos where
 h:Int
 i:Int
 c:V7
deriving DecidableEq
instance:Enc Pos:={ default:=⟨0,0,⟨0,0⟩⟩,enc:=fun x=>[.int .i64 x.h,.int .i64 x.i,.int .i64 x.c.d,.int .i64 x.c.k],size:=4,len:=fun _=>rfl }
def Gv (q:Qu) (l:List Int) (h:Int) (i:Nat):Bool×V7:=Vh q.p (J6 q i) l h (J6 q i).length
def IV (q:Qu) (l:List Int) (h:Int):Nat→List Pos
 |0=>[]
 |k+1=>if (Gv q l h k).1=true then IV q l h k++[⟨h,k,(Gv q l h k).2⟩] else IV q l h k
def b5x (q:Qu) (l:List Int):List Pos:=IV q l 0 (BN q.p).length++IV q l 1 (BN q.p).length
def csK (L:List Pos):Nat→Int
 |0=>0
 |k+1=>if (gi L (k+1)).h=(gi L k).h then csK L k+mvC (gi L k).c (gi L (k+1)).c else csK L k
def QL (q:Qu) (l:List Int):Int:=csK (b5x q l) ((b5x q l).length-1)
theorem aI {q:Qu} (hq:Na q) {N:List Int} (hN:tJ q N) (l:List Int) (h:Int):∀ k,k≤N.length→(Vh q.p N l h k).2.Ok
 |0,_=>⟨bj _,by show (0:Int)≤127;omega⟩
 |k+1,hk=>by
  have ih:=aI hq hN l h k (by omega);obtain ⟨g1,g2⟩:=hN k (by omega);have hh:=hq.p.note (gi N k).toNat (by omega);have h1:=hq.o.cmp (i:=(gi q.p.notes (gi N k).toNat).d.toNat) (by have:=hh.d;omega);have h2:=hh.k;unfold Vh;split
  ·exact ⟨by grind,by grind⟩
  omega
theorem Pq (q:Qu) (v:FV) (e:Int) (he:e≠0) (hc:Ai env 44 [.agg (Enc.enc q),v] (.p (.int .i64 e))):Ai env 35 [.agg (Enc.enc q),v] (.Eb [.p (.val (.slice none 0 0)),.p (.int .i64 e)]):=by
 refine Ai.enter (Ae (by decide)) Tryz.func35 rfl (by kernel_rfl) (by simp) ?_
 repeat' (first|(apply Aa.fn;rfl;rfl;exact hc;intro _;rfl)|refine Cb ?_|(apply Aa.int;rfl;rfl;rfl)|(apply Ad.Ac;rfl)|(intro _))
 all_goals first|(omega)|contradiction|(refine Done.rt rfl rfl ⟨?_,rfl,rfl⟩;try rfl)
theorem Zy (q:Qu) (v:FV) (e:Int) (he:e≠0) (hc:Ai env 13 [.agg (Enc.enc q),v] (.p (.int .i64 e))):Ai env 23 [.agg (Enc.enc q),v] (.Eb [.p (.int .i64 0),.p (.int .i64 e)]):=by
 refine Ai.enter (Ae (by decide)) Tryz.func23 rfl (by kernel_rfl) (by simp [Tryz.ntmps23]) ?_
 repeat' (first|(apply Aa.fn;rfl;rfl;exact hc;intro _;rfl)|refine Cb ?_|(apply Aa.int;rfl;rfl;rfl)|(apply Ad.Ac;rfl)|(intro _;try (exfalso;omega)))
 all_goals first|(exfalso;omega)|contradiction|(refine Done.rt rfl rfl ⟨?_,rfl,rfl⟩;try rfl)
def Wq (q:Qu) (k:Nat):List Int:=BD (fun i=>if i<k∧IK q i=true then 2 else 0) q.p.notes.length
def NK (q:Qu):List Int:=Wq q q.p.notes.length
theorem NC (q:Qu) (k:Nat):(Wq q k).length=q.p.notes.length:=CP _ _
theorem gK (q:Qu):∀ n,List.replicate n (0:Int)=BD (fun i=>if i<0∧IK q i=true then (2:Int) else 0) n
 |0=>rfl
 |n+1=>by
  rw [gF,gK q n];rfl
theorem a9g (q:Qu) {k:Nat} (hk:k<q.p.notes.length) (h:IK q k=true):(Wq q k).set k 2=Wq q (k+1):=by
 refine KO (by rw [bo,NC,NC]) fun i hi=>?_
 rw [bo,NC] at hi;unfold Wq;rw [Gt,EC _ hi,EC _ hi,CP];grind
theorem a0i (q:Qu) {k:Nat} (h:IK q k=false):Wq q k=Wq q (k+1):=by
 unfold Wq;grind
theorem Zq (q:Qu) (hq:Na q):Ai env 37 [.agg (Enc.enc q)] (.p (.lst 3 (cells (NK q)) (NK q).length)):=by
 have n1:=hq.p.notes;have hB:(NK q).length=q.p.notes.length:=NC _ _;rw [hB];have hz:List.replicate q.p.notes.length (0:Int)=Wq q 0:=gK q _;refine Ai.enter (Ae (by decide)) Tryz.func37 rfl (by kernel_rfl) (by simp [Tryz.ntmps37]) ?_
 repeat' (first|(apply Aa.Jt q.p.notes.length (0:Int);rfl;rfl;rfl;rfl;rfl;rfl;rfl;omega;decide;decide;rfl)|(apply Aa.lenV;rfl;rfl;rfl)|refine Cb ?_|fail)
 all_goals try (exfalso;omega)
 rw [hz];apply Ad.Je (q.p.notes.length) [(1,_),(3,_),(11,_)] [(0,_)] (fun k r=>(12,.p (.int .i64 (k:Int)))::r) (fun k r=>(1,.vec 3 (cells (Wq q k)) q.p.notes.length false)::r) 2
 ·first|omega|decide
 ·first|omega|decide
 ·exact SS
 ·exact Ws
 ·intro k hk
  have hC:=Td q hq k hk;have hl:=NC q k;cases hp:IK q k with
  |true =>
   have e1:=a9g q hk hp;rw [hp] at hC
   repeat' (first|(apply Aa.ZI hC;rfl;rfl;exact .of_eq rfl;exact C9.AA rfl)|(apply Aa.Di (l:=Wq q k) (i:=k);rfl;rfl;rfl;rfl;omega)|(apply Aa.JQ (l:=Wq q k) (i:=k) (y:=(2:Int));rfl;rfl;rfl;trivial;rfl;rfl;rfl;decide;omega)|refine Cb ?_|(apply Aa.int;rfl;rfl;rfl)|(apply Ad.Ac;rfl)|(apply Ad.cond_true;rfl)|(intro _;try (exfalso;omega)))
   all_goals try (exfalso;omega)
   all_goals try contradiction
   refine Aj.normal ⟨by first|omega|decide,?_,?_⟩
   ·try (rw [← e1])
    exact Dy
   ·rw [← e1]
    exact Ey
  |false =>
   have e1:=a0i q hp;rw [hp] at hC
   repeat' (first|(apply Aa.ZI hC;rfl;rfl;exact .of_eq rfl;exact C9.AA rfl)|refine Cb ?_|(apply Aa.int;rfl;rfl;rfl)|(apply Ad.Ac;rfl)|(apply Ad.cond_false;rfl)|(intro _;try (exfalso;omega)))
   all_goals try (exfalso;omega)
   all_goals try contradiction
   refine Aj.normal ⟨by first|omega|decide,?_,?_⟩
   ·try (rw [← e1])
    exact Dy
   ·rw [← e1]
    exact Ey
 ·repeat' (first|(refine Ah.Gz 2 ?_;refine Ah.ghost (Ar.freeze 22 rfl rfl) ?_)|apply Ad.Bf|apply Ad.Gw|apply Bq.normal|apply Bd.exit|apply Aj.exit|apply Ad.ret|apply Ah.nil|apply Ah.one|(apply Aa.assign;rfl)|(apply Aa.move;rfl)|(apply Aa.int;rfl;rfl;rfl)|(apply Ad.Ac;rfl)|(intro _;try (exfalso;omega)))
  all_goals first|(exfalso;omega)|(refine Done.rt rfl rfl ⟨?_,rfl,rfl⟩;try rfl)
theorem uZ {H:Heap} {nx k:Nat} {e:TypeId} {cs:List FV} {o:Option PV} (h:o=some (.p (.lst e cs k))):∃ y,o=some y∧(∀ m F σ v,RP m F (htag H) σ nx y v→∃ a g,v=.slice a k g):=by
 refine ⟨_,h,fun m F σ v hr=>?_⟩;cases hr with
 |p hr=>cases hr<;>exact ⟨_,_,rfl⟩
def mD (N l:List Int):Nat→List UInt8
 |0=>[]
 |k+1=>mD N l k++[UInt8.ofNat (gi l (gi N k).toNat).toNat]
theorem U7 (N l:List Int):∀ k,(mD N l k).length=k
 |0=>rfl
 |k+1=>by
  show (mD N l k++[_]).length=k+1;rw [az,U7 N l k];rfl
def Py (N l:List Int):List UInt8:=mD N l N.length
theorem sV (q:Qu) (s:kW) (hN:tJ q s.notes) (hNl:s.notes.length≤1000) (l:List Int) (hl:l.length=q.p.notes.length) (hr:∀ i,i<l.length→0≤gi l i∧gi l i≤2):Ai env 42 [.agg (Enc.enc q),.agg (Enc.enc s),.lst 3 (cells l) l.length] (st (Py s.notes l)):=by
 unfold Py;refine Ai.enter (Ae (by decide)) Tryz.func42 rfl (by kernel_rfl) (by simp [Tryz.ntmps42]) ?_
 repeat' (first|(refine Ad.at 2 ?_;refine Ad.ghost (Ar.adopt 7 5 rfl) ?_;first|apply Ad.Bf|apply Ad.Bl)|refine go1 ?_|apply Ad.Bf)
 all_goals try (exfalso;omega)
 apply Ad.Je (s.notes.length) [(2,_),(11,_),(12,_)] [] (fun k r=>(13,.p (.int .i64 (k:Int)))::(7,.vec 2 (mD s.notes l k).length 0 (mD s.notes l k).length)::r) (fun k r=>(2,.vec 5 (cells (mD s.notes l k)) (mD s.notes l k).length true)::r) 3
 ·first|omega|decide
 ·first|omega|decide
 ·exact SS
 ·exact Ws
 ·intro k hk
  obtain ⟨g1,g2⟩:=hN k hk;obtain ⟨m,hm⟩:∃ m:Nat,gi s.notes k=(m:Int):=⟨(gi s.notes k).toNat,by omega⟩
  have hm2:m<l.length:=by omega
  obtain ⟨r1,r2⟩:=hr m hm2;have e1:mD s.notes l (k+1)=mD s.notes l k++[UInt8.ofNat (gi l m).toNat]:=by rw [← bb m,← hm];rfl
  have e2:(mD s.notes l (k+1)).length=(mD s.notes l k).length+1:=by rw [e1,az];rfl
  have e3:=U7 s.notes l k;have hb:(((UInt8.ofNat (gi l m).toNat).toNat:Nat):Int)=gi l m:=by rw [UInt8.toNat_ofNat'];omega
  generalize mD s.notes l k=X at *;rw [e2,e1];have he:[FV.int .u8 (gi l m)]=Enc.enc (UInt8.ofNat (gi l m).toNat):=by
   show _=[FV.int .u8 (((UInt8.ofNat (gi l m).toNat).toNat:Nat):Int)]
   rw [hb]
  repeat' (first|(apply Aa.Ap (l:=l) (i:=m);rfl;exact congrArg (fun b=>some (PV.p (.int .i64 b))) hm;rfl;omega;rfl)|(apply Aa.Nb;rfl;rfl;rfl;rfl;exact ⟨r1,by omega⟩)|(apply Aa.Dk (l:=X) (a:=UInt8.ofNat (gi l m).toNat);rfl;rfl;rfl;rfl;exact he;rfl;rfl;rfl;(intro _ h;cases h);rfl;rfl;rfl;decide;decide;omega)|(apply Aa.Ap;rfl;rfl;rfl;omega;rfl)|refine Cb ?_|(apply Aa.int;rfl;rfl;rfl)|(apply Aa.buildSlice;rfl;rfl;rfl;decide;rfl;rfl;rfl)|(apply Ad.Ac;rfl)|(intro _;try (exfalso;omega)))
  all_goals try (exfalso;omega)
  refine Aj.normal ⟨by first|omega|decide,?_,?_⟩
  ·exact Dy
  ·exact Ey
 ·have e3:=U7 s.notes l s.notes.length
  generalize mD s.notes l s.notes.length=X at *
  repeat' (first|(refine Ah.Gz 27 ?_;refine Ah.ghost (Ar.freeze 26 rfl rfl) ?_)|apply Ad.Bf|apply Ad.Gw|apply Bq.normal|apply Bd.exit|apply Aj.exit|apply Ad.ret|apply Ah.nil|apply Ah.one|(apply Aa.ofBytes (l:=X) (k:=X.length);exact rY.lst rfl (by rw [CQ];rfl);exact uZ rfl;rfl;rfl;rfl)|(apply Aa.assign;rfl)|(apply Aa.move;rfl)|(apply Aa.int;rfl;rfl;rfl)|(apply Ad.Ac;rfl)|(intro _;try (exfalso;omega)))
  all_goals first|(exfalso;omega)|contradiction|(refine Done.rt rfl rfl ⟨?_,rfl,rfl⟩;try rfl)
end Go.Proofs.YtnjkoebfgcbbdaaGreatDoor
namespace Go.Am
variable {P:Program} {G:List Nat}
def keeps (d:Tmp):Code→Bool
 | .seq a b=>keeps d a&&keeps d b
 | .cond _ a b=>keeps d a&&keeps d b
 | .block _ b=>keeps d b
 | .loop b=>keeps d b
 | .scope b=>keeps d b
 | .region _ ops _=>ops.toList.all fun o=>o.dst != some d
 |_=>true
theorem NR {t:Tr Value} {dst:Option Tmp} {v:Value} {d:Tmp} (h:(dst != some d)=true):Cj (H7 t dst v) d=Cj t d:=by
 cases dst with
 |none=>rfl
 |some x =>
  have hx:x≠d:=fun e=>by grind
  simp only [H7,Df,if_neg hx]
theorem bK {call:EI} {ops:Array Oper} {o:Oper} {s s':St} {d:Tmp} (h:Mc P call ops o s=some s') (hk:(o.dst != some d)=true):Cj s'.t d=Cj s.t d:=by
 unfold Mc at h;split at h
 ·unfold xZ at h
  split at h
  ·cases h;exact NR hk
  grind
 ·cases h;exact NR hk
theorem PY {call:EI} {ops:Array Oper} {d:Tmp}:∀ (l:List Oper) (s s':St),Lp P call ops l s=some s'→(l.all fun o=>o.dst != some d)=true→Cj s'.t d=Cj s.t d
 |[],s,s',h,_=>by cases h;rfl
 |o::l,s,s',h,hk=>by
  simp only [List.all_cons,Bool.and_eq_true] at hk;simp only [Lp] at h;cases h1:Mc P call ops o s with
  |none=>grind
  |some s1 =>
   rw [h1] at h;exact (PY l s1 s' h hk.2).trans (bK h1 hk.1)
theorem Xv {call:EI} {ops:Array Oper} {d:Tmp}:∀ (l:List Oper) (i:Nat) (s s':St),Kt P call ops i l s=some s'→(l.all fun o=>o.dst != some d)=true→Cj s'.t d=Cj s.t d
 |[],i,s,s',h,_=>by cases h;rfl
 |o::l,i,s,s',h,hk=>by
  simp only [List.all_cons,Bool.and_eq_true] at hk;simp only [Kt] at h;cases h1:P9 P call ops i o s with
  |none=>grind
  |some s1 =>
   rw [h1] at h;refine (Xv l (i+1) s1 s' h hk.2).trans ?_;unfold P9 at h1;split at h1
   ·rename_i s2 h2
    split at h1
    ·cases h1
     have hh:=bK h2 hk.1;omega
    grind
   grind
theorem vW {call:EI} {N:Nat} {d:Tmp}:∀ (c:Code) (s s':St) (x:BM),Ce P call N c s=some (x,s')→keeps d c=true→Cj s'.t d=Cj s.t d:=by
 intro c
 induction c with
 |skip=>intro s s' x h _;cases h;rfl
 |label l=>intro s s' x h _;cases h;rfl
 |ret=>intro s s' x h _;cases h;rfl
 |exit id=>intro s s' x h _;cases h;rfl
 |goto l=>intro s s' x h;cases h
 |scope b _=>intro s s' x h;cases h
 |refuse y=>intro s s' x h;cases h
 |rangeFunc f ps y z ihy ihz =>
  intro s s' x h _;simp only [Ce] at h;split at h
  case h_2=>cases h
  split at h
  case h_2=>cases h
  split at h
  case isFalse=>cases h
  split at h
  case h_2=>cases h
  split at h
  case h_2=>cases h
  rw [ae] at h;grind
 |seq c1 c2 ih1 ih2 =>
  intro s s' x h hk;simp only [keeps,Bool.and_eq_true] at hk;simp only [Ce] at h;grind
 |cond c0 c1 c2 ih1 ih2 =>
  intro s s' x h hk;simp only [keeps,Bool.and_eq_true] at hk;simp only [Ce] at h;grind
 |block id b ih =>
  intro s s' x h hk;simp only [keeps] at hk;simp only [Ce] at h;grind
 |loop b ih =>
  intro s s' x h hk;simp only [keeps] at hk;simp only [Ce] at h;have key:∀ (k:Nat) (s s':St) (x:BM),iterate (Ce P call N b) k s=some (x,s')→Cj s'.t d=Cj s.t d:=by
   intro k
   induction k with
   |zero=>intro s s' x h;cases h
   |succ k ihk =>
    intro s s' x h;simp only [iterate] at h;grind
  grind
 |region id ops draw =>
  intro s s' x h hk;cases draw with
  |false =>
   simp only [Ce,Option.map_eq_some_iff] at h;obtain ⟨s1,h1,he⟩:=h;cases he;exact PY _ _ _ h1 hk
  |true =>
   simp only [Ce,Option.map_eq_some_iff] at h;obtain ⟨s1,h1,he⟩:=h;cases he;exact Xv _ _ _ _ h1 hk
end Go.Am
namespace Go.Vm
open Go.Am
structure Snd (E:Env):Prop where
 o:Gu E.P E.G E.O
 mix:E.P.follows .mixedOrders=true
structure WAt (E:Env) (n:Nat) (B:Base) (ι:BJ) (m:Mem) (w:World) (t:Tr Value) (kp:Tmp→Bool) (L':Frame) (H':Heap) (nx':Nat) (a':Act) (w':World):Prop where
 ex:∃ m' F' σ' t' ι',Ctx E.Γ m' F' σ' H' nx'∧RL m' F' (htag H') σ' nx' L' t'∧B.to m' F' σ' H' nx'∧Ext ι m w ι' m' w'∧D9 E.P E.G [] n ⟨t',m'⟩ ι' a' w'∧∀ d,kp d=true→Cj t' d=Cj t d
def Bc (E:Env) (n bn:Nat) (c:Code) (L:Frame) (H:Heap) (nx:Nat) (Q:BM→Frame→Heap→Nat→Prop):Prop :=
 Snd E→codeOk E.G n c=true→flat c=true→∀ (B:Base),B.nx=bn→∀ m F σ t,Ctx E.Γ m F σ H nx→RL m F (htag H) σ nx L t→B.to m F σ H nx →
  ∀ (ι:BJ) (a:Act) (w:World),D9 E.P E.G [] n ⟨t,m⟩ ι a w→∀ R:Exit→Act→World→Prop,
   (∀ e L' H' nx' a' w',Q e L' H' nx'→WAt E n B ι m w t (fun d=>keeps d c) L' H' nx' a' w'→R e.toExit a' w')→c.wpIn Fence.wide 0 E.P R a w
variable {E:Env} {n bn:Nat} {L:Frame} {H:Heap} {nx:Nat} {Q:BM→Frame→Heap→Nat→Prop} {a b c k:Code} {id:Nat} {x:Operand}
theorem Bc.zB (h:Ad E bn c L H nx Q):Bc E n bn c L H nx Q:=by
 intro hs hok hfl B hB m F σ t h1 h2 h3 ι ac w hst R hR;obtain ⟨e,s',⟨K,hk⟩,L',H',nx',F',σ',q,c1,c2,c3⟩:=h B hB m F σ t h1 h2 h3;have hx:=hk K K (ab _) (ab _);have hcall:=II (N:=K) hs.o hs.mix K;refine (wpIn_wide (n:=0)).2 ((wpIn_wide (n:=0)).1 (Xi hcall (iI hs.o K) (YK hcall (O5 hs.o K) hs.mix) c w.heap.size [] none 0 ⟨t,m⟩ s' e ι ac w R (.inl rfl) hok hx hst (ab _) fun ds' a' w' hr hm hf=>?_));obtain rfl:=hf hfl;obtain ⟨ι',he,hst'⟩:=hr;exact hR e L' H' nx' a' w' q ⟨s'.m,F',σ',s'.t,ι',c1,c2,c3,he,hst',fun d hd=>vW c _ _ _ hx hd⟩
theorem Bc.mono {R:BM→Frame→Heap→Nat→Prop} (h:Bc E n bn c L H nx R) (hq:∀ e L' H' nx',R e L' H' nx'→Q e L' H' nx'):Bc E n bn c L H nx Q :=
 fun hs hok hfl B hB m F σ t h1 h2 h3 ι ac w hst R' hR=>h hs hok hfl B hB m F σ t h1 h2 h3 ι ac w hst R' fun e L' H' nx' a' w' q=>hR e L' H' nx' a' w' (hq _ _ _ _ q)
def Ew (E:Env) (n bn:Nat) (k:Code) (Q:BM→Frame→Heap→Nat→Prop) (e:BM) (L:Frame) (H:Heap) (nx:Nat):Prop :=
 match e with
 | .normal=>Bc E n bn k L H nx Q
 | .ret=>Q .ret L H nx
 | .exit i=>Q (.exit i) L H nx
theorem Ew.normal (h:Bc E n bn k L H nx Q):Ew E n bn k Q .normal L H nx:=h
theorem Ew.ret (h:Q .ret L H nx):Ew E n bn k Q .ret L H nx:=h
theorem Ew.exit {i:Nat} (h:Q (.exit i) L H nx):Ew E n bn k Q (.exit i) L H nx:=h
theorem Bc.to (h:Bc E n bn a L H nx (Ew E n bn k Q)):Bc E n bn (.seq a k) L H nx Q:=by
 intro hs hok hfl B hB m F σ t h1 h2 h3 ι ac w hst R hR;simp only [codeOk,Bool.and_eq_true] at hok;simp only [flat,Bool.and_eq_true] at hfl;refine wpIn_seq (h hs hok.1 hfl.1 B hB m F σ t h1 h2 h3 ι ac w hst _ fun e L' H' nx' a' w' q hw=>?_);obtain ⟨m',F',σ',t',ι',c1,c2,c3,he,hst',hkp⟩:=hw.ex;cases e with
 |normal =>
  refine q hs hok.2 hfl.2 B hB m' F' σ' t' c1 c2 c3 ι' a' w' hst' R fun e2 L2 H2 nx2 a2 w2 q2 hw2=>hR e2 L2 H2 nx2 a2 w2 q2 ?_
  obtain ⟨m2,F2,σ2,t2,ι2,d1,d2,d3,he2,hst2,b2r⟩:=hw2.ex;exact ⟨m2,F2,σ2,t2,ι2,d1,d2,d3,Ext.trans hst.1 he he2,hst2,fun d hd=>by
   simp only [keeps,Bool.and_eq_true] at hd;grind⟩
 |ret=>exact hR .ret L' H' nx' a' w' q ⟨m',F',σ',t',ι',c1,c2,c3,he,hst',fun d hd=>by simp only [keeps,Bool.and_eq_true] at hd;grind⟩
 |exit i=>exact hR (.exit i) L' H' nx' a' w' q ⟨m',F',σ',t',ι',c1,c2,c3,he,hst',fun d hd=>by simp only [keeps,Bool.and_eq_true] at hd;grind⟩
theorem Bc.Bf {ops:Array Oper} (h:Ah E bn ops ops.toList L H nx fun L' H' nx'=>Bc E n bn k L' H' nx' Q):Bc E n bn (.seq (.region id ops false) k) L H nx Q:=Bc.to (Bc.zB (Ad.region h))
theorem Bc.Bl {ops:Array Oper} (h:Af E bn ops 0 ops.toList L H nx fun L' H' nx'=>Bc E n bn k L' H' nx' Q):Bc E n bn (.seq (.region id ops true) k) L H nx Q:=Bc.to (Bc.zB (Ad.Dq h))
theorem Bc.region {ops:Array Oper} (h:Ah E bn ops ops.toList L H nx (Q .normal)):Bc E n bn (.region id ops false) L H nx Q:=Bc.zB (Ad.region h)
theorem Bc.Dq {ops:Array Oper} (h:Af E bn ops 0 ops.toList L H nx (Q .normal)):Bc E n bn (.region id ops true) L H nx Q:=Bc.zB (Ad.Dq h)
theorem Bc.skip (h:Q .normal L H nx):Bc E n bn .skip L H nx Q:=Bc.zB (Ad.skip h)
theorem Bc.ret (h:Q .ret L H nx):Bc E n bn .ret L H nx Q:=Bc.zB (Ad.ret h)
theorem Bc.exit {i:Nat} (h:Q (.exit i) L H nx):Bc E n bn (.exit i) L H nx Q:=Bc.zB (Ad.exit h)
theorem Bc.at (r:Nat) {ops:Array Oper} {d:Bool} (h:Bc E n bn (.seq (.region r ops d) k) L H nx Q):Bc E n bn (.seq (.region r ops d) k) L H nx Q:=h
theorem Bc.atEnd (r:Nat) {ops:Array Oper} {d:Bool} (h:Bc E n bn (.region r ops d) L H nx Q):Bc E n bn (.region r ops d) L H nx Q:=h
theorem Bc.ghost {L':Frame} {H':Heap} {nx':Nat} (g:Ar E L H nx L' H' nx') (h:Bc E n bn c L' H' nx' Q):Bc E n bn c L H nx Q:=by
 intro hs hok hfl B hB m F σ t h1 h2 h3;obtain ⟨F',σ',c1,c2,c3⟩:=g B m F σ t h1 h2 h3;exact h hs hok hfl B hB m F' σ' t c1 c2 c3
theorem Bc.cond (u:Bool) (hc:AU E.Γ L x=some (.p (.bool u))) (ht:u=true→Bc E n bn a L H nx Q) (hf:u=false→Bc E n bn b L H nx Q):Bc E n bn (.cond x a b) L H nx Q:=by
 intro hs hok hfl B hB m F σ t h1 h2 h3 ι ac w hst R hR;simp only [codeOk,Bool.and_eq_true] at hok;simp only [flat,Bool.and_eq_true] at hfl;have hv:=Ih h1 h2 hc;have he:ac.eval x=.bool u:=((Jw hst.1 hst.2 hok.1.1).JZ u).1 hv;cases u with
 |true=>exact wpIn_cond_true he (ht rfl hs hok.1.2 hfl.1 B hB m F σ t h1 h2 h3 ι ac w hst R fun e L' H' nx' a' w' q hw=>hR e L' H' nx' a' w' q ⟨by
  obtain ⟨m',F',σ',t',ι',c1,c2,c3,he,hst',hkp⟩:=hw.ex;exact ⟨m',F',σ',t',ι',c1,c2,c3,he,hst',fun d hd=>by simp only [keeps,Bool.and_eq_true] at hd;grind⟩⟩)
 |false=>exact wpIn_cond_false he (hf rfl hs hok.2 hfl.2 B hB m F σ t h1 h2 h3 ι ac w hst R fun e L' H' nx' a' w' q hw=>hR e L' H' nx' a' w' q ⟨by
  obtain ⟨m',F',σ',t',ι',c1,c2,c3,he,hst',hkp⟩:=hw.ex;exact ⟨m',F',σ',t',ι',c1,c2,c3,he,hst',fun d hd=>by simp only [keeps,Bool.and_eq_true] at hd;grind⟩⟩)
theorem Bc.cond_true (hc:AU E.Γ L x=some (.p (.bool true))) (ht:Bc E n bn a L H nx Q):Bc E n bn (.cond x a b) L H nx Q:=Bc.cond true hc (fun _=>ht) (fun h=>by cases h)
theorem Bc.cond_false (hc:AU E.Γ L x=some (.p (.bool false))) (hf:Bc E n bn b L H nx Q):Bc E n bn (.cond x a b) L H nx Q:=Bc.cond false hc (fun h=>by cases h) (fun _=>hf)
theorem Bc.Aq {p:Prop} {_:Decidable p} (hc:AU E.Γ L x=some (.p (.bool (decide p)))) (ht:p→Bc E n bn a L H nx Q) (hf:¬ p→Bc E n bn b L H nx Q):Bc E n bn (.cond x a b) L H nx Q :=
 Bc.cond (decide p) hc (fun h=>ht (of_decide_eq_true h)) (fun h=>hf (of_decide_eq_false h))
theorem Bc.block (h:Bc E n bn b L H nx (Bd id Q)):Bc E n bn (.block id b) L H nx Q:=by
 intro hs hok hfl B hB m F σ t h1 h2 h3 ι ac w hst R hR;refine wpIn_block (h hs hok hfl B hB m F σ t h1 h2 h3 ι ac w hst _ fun e L' H' nx' a' w' q hw=>?_);have hw2:WAt E n B ι m w t (fun d=>keeps d (.block id b)) L' H' nx' a' w':=⟨hw.ex⟩
 cases e with
 |normal=>exact hR .normal L' H' nx' a' w' q hw2
 |ret=>exact hR .ret L' H' nx' a' w' q hw2
 |exit i =>
  show (if i=id then R .normal a' w' else R (.exit i) a' w');simp only [Bd] at q;split
  ·rename_i e;rw [if_pos e] at q;exact hR .normal L' H' nx' a' w' q hw2
  ·rename_i e;rw [if_neg e] at q;exact hR (.exit i) L' H' nx' a' w' q hw2
theorem Bc.D6 {α:Type} (Lf:α→Frame) (Hf:α→Heap) (Dw:Nat) (inv:α→Prop) (μ:α→Nat) (a0:α) (hb:bn≤Dw) (h0:inv a0) (hc:YR L H nx (Lf a0) (Hf a0) Dw)
 (hs:∀ s,inv s→Bc E n bn a (Lf s) (Hf s) Dw (Aj (fun L' H' nx'=>∃ s',inv s'∧μ s'<μ s∧YR L' H' nx' (Lf s') (Hf s') Dw) Q)):Bc E n bn (.loop a) L H nx Q:=by
 intro hsn hok hfl B hB m F σ t h1 h2 h3 ι ac w hst R hR;refine wpIn_loop_rounds (μ a0+1) ?_;have key:∀ N s,inv s→μ s<N→∀ m1 F1 σ1 t1 ι1 a1 w1,Ctx E.Γ m1 F1 σ1 (Hf s) Dw→RL m1 F1 (htag (Hf s)) σ1 Dw (Lf s) t1→B.to m1 F1 σ1 (Hf s) Dw→Ext ι m w ι1 m1 w1→D9 E.P E.G [] n ⟨t1,m1⟩ ι1 a1 w1→(∀ d,keeps d a=true→Cj t1 d=Cj t d) →
  Code.roundsIn Fence.wide 0 E.P a R N a1 w1:=by
  intro N
  induction N with
  |zero=>simp
  |succ N ih =>
   intro s hi hlt m1 F1 σ1 t1 ι1 a1 w1 c1 c2 c3 he1 hst1 hk1;refine hs s hi hsn hok hfl B hB m1 F1 σ1 t1 c1 c2 c3 ι1 a1 w1 hst1 _ fun e L' H' nx' a' w' q hw=>?_
   obtain ⟨m',F',σ',t',ι',d1,d2,d3,he,hst',hkp⟩:=hw.ex;have hE:=Ext.trans hst.1 he1 he;have hK:∀ d,keeps d a=true→Cj t' d=Cj t d:=fun d hd=>(hkp d hd).trans (hk1 d hd)
   cases e with
   |normal =>
    obtain ⟨s',i1,i2,i3⟩:=q;exact ih s' i1 (by omega) m' F' σ' t' ι' a' w' (i3.ctx d1) (i3.rl d2) (i3.step (by omega) d3) hE hst' hK
   |ret=>exact hR .ret L' H' nx' a' w' q ⟨m',F',σ',t',ι',d1,d2,d3,hE,hst',hK⟩
   |exit i=>exact hR (.exit i) L' H' nx' a' w' q ⟨m',F',σ',t',ι',d1,d2,d3,hE,hst',hK⟩
 exact key _ a0 h0 (bE _) m F σ t ι ac w (hc.ctx h1) (hc.rl h2) (hc.step (by omega) h3) (Ext.refl _ _ _) hst fun _ _=>rfl
def UK (d:Tmp) (l:List Oper):Bool:=l.all fun o=>o.dst != some d
def BX (E:Env) (n bn:Nat) (ops:Array Oper) (l:List Oper) (L:Frame) (H:Heap) (nx:Nat) (Q:Frame→Heap→Nat→Prop):Prop :=
 Snd E→(∀ o∈l,Iq E.G n o=true)→∀ (B:Base),B.nx=bn→∀ m F σ t,Ctx E.Γ m F σ H nx→RL m F (htag H) σ nx L t→B.to m F σ H nx →
  ∀ (ι:BJ) (a:Act) (w:World),D9 E.P E.G [] n ⟨t,m⟩ ι a w→∀ R:Exit→Act→World→Prop,
   (∀ L' H' nx' a' w',Q L' H' nx'→WAt E n B ι m w t (fun d=>UK d l) L' H' nx' a' w'→R .normal a' w')→wpListIn Fence.wide 0 E.P ops R l a w
theorem BX.nil {ops:Array Oper} {R:Frame→Heap→Nat→Prop} (h:R L H nx):BX E n bn ops [] L H nx R :=
 fun _ _ B _ m F σ t h1 h2 h3 ι ac w hst R' hR=>hR L H nx ac w h ⟨m,F,σ,t,ι,h1,h2,h3,Ext.refl _ _ _,hst,fun _ _=>rfl⟩
theorem BX.step {ops:Array Oper} {l:List Oper} {R:Frame→Heap→Nat→Prop} {op:Op} {dst:Option Tmp} {ty:TypeId} {pos:String} {af:Array Edge} {r:PV} {H':Heap} {nx':Nat} (hs:Snd E) (hok:∀ o∈(⟨dst,op,ty,pos,af,none⟩::l:List Oper),Iq E.G n o=true)
 {B:Base} (hB:B.nx=bn) {m m':Mem} {F F':Nat→Prop} {σ σ':Nat→Value} {t:Tr Value} (h1:Ctx E.Γ m F σ H nx) (h2:RL m F (htag H) σ nx L t) (h3:B.to m F σ H nx) {ι ι':BJ} {ac:Act} {w w':World} (hst:D9 E.P E.G [] n ⟨t,m⟩ ι ac w)
 {R':Exit→Act→World→Prop} (hR:∀ L' H' nx' a' w',R L' H' nx'→WAt E n B ι m w t (fun d=>UK d (⟨dst,op,ty,pos,af,none⟩::l)) L' H' nx' a' w'→R' .normal a' w') {v v':Value}
 (q:BX E n bn ops l (H8 L dst r) H' nx' R) (c1:Ctx E.Γ m' F' σ' H' nx') (c2:RP m' F' (htag H') σ' nx' r v) (c3:Step m F σ H nx m' F' σ' H' nx') (he:Ext ι m w ι' m' w') (Dv:DL E.P E.G ι' m' w') (hv:Aw ι' m'.gen v v') :
 wpListIn Fence.wide 0 E.P ops R' l (ac.put dst v') w':=by
 have hdst:=(DR (hok _ (bN ..))).2;refine q hs (fun o ho=>hok o (av _ ho)) B hB m' F' σ' (H7 t dst v) c1 ((h2.step c3 h1).put c2) (h3.trans c3) ι' _ w' ⟨Dv,(hst.2.mono he.le).put hdst hv⟩ R' fun L2 H2 nx2 a2 w2 q2 hw2=>hR L2 H2 nx2 a2 w2 q2 ?_
 obtain ⟨m2,F2,σ2,t2,ι2,d1,d2,d3,he2,hst2,b2r⟩:=hw2.ex;refine ⟨m2,F2,σ2,t2,ι2,d1,d2,d3,Ext.trans hst.1 he he2,hst2,fun d hd=>?_⟩;simp only [UK,List.all_cons,Bool.and_eq_true] at hd;exact (b2r d hd.2).trans (NR hd.1)
theorem Me {o:Oper} {y:Nat→Option Bool} (h:o.guard=none):Region.wanted o y=true:=by unfold Region.wanted;rw [h]
theorem BX.one {ops:Array Oper} {l:List Oper} {R:Frame→Heap→Nat→Prop} {op:Op} {dst:Option Tmp} {ty:TypeId} {pos:String} {af:Array Edge} (h:Aa E true ⟨dst,op,ty,pos,af,none⟩ L H nx fun r H' nx'=>BX E n bn ops l (H8 L dst r) H' nx' R) :
 BX E n bn ops (⟨dst,op,ty,pos,af,none⟩::l) L H nx R:=by
 intro hs hok B hB m F σ t h1 h2 h3 ι ac w hst R' hR;obtain ⟨v,m',⟨K,hk⟩,r,H',nx',F',σ',q,c1,c2,c3,_⟩:=h m F σ t h1 h2;have hx:=hk K K (ab _) (ab _);have hcall:=II (N:=K) hs.o hs.mix K;have hop:=(DR (hok _ (bN ..))).1;have:=OT (rf:=none) (nn:=0) (a:=ac) (K:=wpListIn Fence.wide 0 E.P ops R' l) (Q:=R') hcall hst.1 (fun x hx=>Jw hst.1 hst.2 (hop x hx)) hx fun v' w' hp=>by
  obtain ⟨ι',he,Dv,PE⟩:=hp;exact BX.step hs hok hB h1 h2 h3 hst hR q c1 c2 c3 he Dv PE
 exact this
def Gp (E:Env) (f:FuncId) (args:List PV) (H:Heap) (nx:Nat) (Q:PV→Heap→Nat→Prop):Prop :=
 Snd E→∀ m F σ BF,Ctx E.Γ m F σ H nx→Dt m F (htag H) σ nx args BF→∀ (ι:BJ) (w:World) (as':Array Value),DL E.P E.G ι m w→BA ι m.gen BF as'.toList →
  Calls E.P f as' w fun e w'=>∃ v',e=.returned v'∧∃ r H' nx' m' F' σ' v ι',Q r H' nx'∧Ctx E.Γ m' F' σ' H' nx'∧RP m' F' (htag H') σ' nx' r v∧Step m F σ H nx m' F' σ' H' nx'∧Ext ι m w ι' m' w'∧DL E.P E.G ι' m' w'∧Aw ι' m'.gen v v'
theorem Gp.enter {f:FuncId} {fn:Func} {c:Code} {args:List PV} {Q:PV→Heap→Nat→Prop} (hf:E.P.funcs[f]?=some fn) (hb:fn.body=some c) (hok:IL E.G fn c=true) (hfl:flat c=true) (hn:args.length≤fn.ntmps)
 (h:Bc E fn.ntmps nx c (CG 0 args) H nx (Done E.P fn.results.toList nx Q)):Gp E f args H nx Q:=by
 intro hs m F σ BF h1 h2 ι w as' Dv hargs;unfold IL at hok;simp only [Bool.and_eq_true] at hok;have hlen:BF.length≤fn.ntmps:=by rw [← h2.length];omega
 have hlen':as'.size=BF.length:=by have:=hargs.1;grind
 have hst:D9 E.P E.G [] fn.ntmps { t:=tmpsOf 0 BF .leaf,m:=m } ι { tmps:=as'++Array.replicate (fn.ntmps-as'.size) undef,defers:=[] } w:=by
  refine ⟨Dv,by grind,rfl,fun i=>?_⟩;rw [GL];by_cases hi:i<BF.length
  ·have h1:=hargs.2 i hi
   have hi':i<as'.size:=by omega
   have e:(as'++Array.replicate (fn.ntmps-as'.size) undef).getD i undef=as'.toList.getD i undef:=by
    rw [cG,cH hi',getD_eq,gD]
   grind
  ·rw [if_neg (by omega)]
   have e1:Cj (.leaf:Tr Value) i=undef:=Tr.U6 _ _;have e2:(as'++Array.replicate (fn.ntmps-as'.size) undef).getD i undef=undef:=by
    rw [cG,fu (by omega)];grind
   rw [e1,e2];exact Aw.undef
 have hRL:RL m F (htag H) σ nx (CG 0 args) (tmpsOf 0 BF .leaf):=by
  intro i v hi;obtain ⟨_,h3⟩:=Jd args 0 i v hi;obtain ⟨u,h4,h5⟩:=h2.get h3;have:=GL BF 0 .leaf i;grind
 refine (callsIn_wide (n:=0)).1 (callsIn_of_wp_marks hf hb trivial ?_);refine h hs hok.2 hfl ⟨m,F,σ,H,nx⟩ rfl m F σ _ h1 hRL (Step.refl _ _ _ _ _) ι _ w hst _ fun e L' H' nx' a' w' q hw=>?_
 obtain ⟨m',F',σ',t',ι',c1,c2,c3,he,hst',_⟩:=hw.ex;have key:(∃ r,Ez E.P fn.results.toList L' H'=some r∧Ret nx Q r H' nx')→LeavesInM Fence.wide 0 E.P fn a'.tmps (fun e w'=>∃ v',e=.returned v'∧∃ r H' nx' m' F' σ' v ι',Q r H' nx'∧Ctx E.Γ m' F' σ' H' nx'∧RP m' F' (htag H') σ' nx' r v∧Step m F σ H nx m' F' σ' H' nx'∧Ext ι m w ι' m' w'∧DL E.P E.G ι' m' w'∧Aw ι' m'.gen v v') a'.defers .returning w':=by
  rintro ⟨r0,hr,r,H0,Dw,q1,q2,q3,q4,q5,q6⟩;obtain ⟨v,h3,h4⟩:=KF c1 c2 hr;have hcov:YR L' H' nx' [] H0 Dw:=⟨q4,trivial,q3⟩
  rw [hst'.2.defers];refine Om (B:=w'.heap.size) [] w' (ab _) hst'.1 fun w'' g1 g2 g3 g4 g5 g6=>?_
  have hst2:D9 E.P E.G [] fn.ntmps ⟨t',m'⟩ ι' a' w'':=⟨g1,hst'.2⟩
  obtain ⟨v',r1,r2⟩:=Pm hst2 h3;refine ⟨v',r1,v',rfl,r,H0,Dw,m',F',σ',v,ι',q6,hcov.ctx c1,RP.low (fun b t=>BG.tag q3 b t) q2 (RP.le q1 h4),hcov.step (B:=⟨m,F,σ,H,nx⟩) q5 c3,?_,g1,r2⟩;exact ⟨he.size,he.low,he.keep,he.ro,he.ro',he.le,he.back,he.dom,an he.heap g2,fun c hc' hf=>(g3 c (ag hc' he.heap)).trans (he.frame c hc' hf),g4.trans he.tape,g5.trans he.os,g6.trans he.output⟩
 cases e with
 |exit i=>exact q.elim
 |normal=>exact key q
 |ret=>exact key q
theorem BX.ZW {ops:Array Oper} {l:List Oper} {R:Frame→Heap→Nat→Prop} {dst:Option Tmp} {ty:TypeId} {pos:String} {af:Array Edge} {fo:Operand} {args:Array Operand} {aT:Array TypeId} {g:FuncId} {fs cs BF ac:List PV} {ns:List Nat} {Hc:Heap} {Qc:PV→Heap→Nat→Prop}
 (hent:Enters E.P g) (hf:AU E.Γ L fo=some (.clo g fs cs)) (ha:evs E.Γ L args.toList=some BF) (hle:OY (fs++BF++cs) (C9.rn (rho ns nx) ac)) (hu:C9.under ns.length ac) (xJ:LV ns.length Hc) (hin:HIn (rho ns nx) H Hc) (hnd:ns.Nodup) (hlt:∀ b∈ns,b<nx)
 (hc:Gp E g ac Hc ns.length Qc) (hq:∀ r H' nx',Qc r H' nx'→BX E n bn ops l (H8 L dst (r.rn (rho ns nx))) (news ns.length (rho ns nx) H' (merge ns (rho ns nx) H' H)) (nx+(nx'-ns.length)) R) :
 BX E n bn ops (⟨dst,.call { callee:=.value fo,args:=args,argTypes:=aT },ty,pos,af,none⟩::l) L H nx R:=by
 intro hs hok B hB m F σ t h1 h2 h3 ι ac0 w hst R' hR;obtain ⟨vf,vc,σc,hfe,XT,hargs,hback⟩:=oH (w:=true) hf ha hle hu xJ hin hnd hlt (fun e=>by cases e) h1 h2;have hop:=(DR (hok _ (bN ..))).1;have hfr:=Jw hst.1 hst.2 (hop fo (by simp [Op.operands,Call.operands]));rw [hfe] at hfr;obtain ⟨fs',cs',e1,hfs,hcs⟩:∃ fs' cs',ac0.eval fo=.func (.func g) fs' cs'∧BA ι m.gen vf fs'.toList∧BA ι m.gen vc cs'.toList:=by
  generalize ac0.eval fo=u at hfr;cases hfr with
  |fn _ l1 l2 l3 l4 h1 h2 h3 h4=>exact ⟨⟨l2⟩,⟨l4⟩,rfl,⟨h1,h2⟩,⟨h3,h4⟩⟩
 obtain ⟨fn,hfn,hbody,hname⟩:=hent;have hcall:=hc hs m F σc _ XT hargs ι w (fs'++args.map ac0.eval++cs') hst.1 (by
  rw [dt,dt,bB];exact (hfs.append (BA.TT fun x hx=>Jw hst.1 hst.2 (hop x (by simp [Op.operands,Call.operands];grind)))).append hcs)
 have hrun:(execOp ac0.eval ⟨dst,.call { callee:=.value fo,args:=args,argTypes:=aT },ty,pos,af,none⟩).run E.P w=.ok (.enter g (fs'++args.map ac0.eval++cs')) w:=by
  simp only [execOp,resolve,e1,Deferred.ofValue,Sem.run_bind,Sem.run_pure,Result.andThen_ok,invoke,callFunc,run_program,hfn,hname,Bool.false_eq_true,if_false];have:fn.body.isNone=false:=by cases hb:fn.body<;>simp_all
  simp [this]
 unfold wpListIn;unfold Oper.wpIn;rw [Oper.semAt_eq _ _ _ (fun c hc=>by grind),hrun];refine ⟨fun _ _=>trivial,?_⟩;refine ⟨(fun hh=>by cases hh),?_⟩;refine ((callsIn_wide (n:=0)).2 hcall).mono fun e w' he=>?_
 obtain ⟨v',rfl,r,H',nx',m',F',σ',v,ι',q,c1,c2,c3,x1,x2,x3⟩:=he;obtain ⟨σn,d1,d2,d3,_⟩:=hback v m' r H' nx' F' σ' c1 c2 c3;exact BX.step hs hok hB h1 h2 h3 hst hR (hq r H' nx' q) d1 d2 d3 x1 x2 x3
theorem Bc.kF {ops:Array Oper} (h:BX E n bn ops ops.toList L H nx (Q .normal)):Bc E n bn (.region id ops false) L H nx Q:=by
 intro hs hok hfl B hB m F σ t h1 h2 h3 ι ac w hst R hR;simp only [codeOk,Bool.and_eq_true] at hok;refine wpIn_region_list (h hs (fun o ho=>bh.1 hok.1 o (by grind)) B hB m F σ t h1 h2 h3 ι ac w hst R fun L' H' nx' a' w' q hw=>hR .normal L' H' nx' a' w' q hw)
theorem Bc.Qk {ops:Array Oper} (h:BX E n bn ops ops.toList L H nx fun L' H' nx'=>Bc E n bn k L' H' nx' Q):Bc E n bn (.seq (.region id ops false) k) L H nx Q:=Bc.to (Bc.kF h)
end Go.Vm
namespace Go.Am
variable {P:Program} {G:List Nat}
theorem jD {ι:BJ} {m:Mem} {w:World} {sT xT e:TypeId} {xd:TypeDesc} {i:TypeInfo} {len n c g:Nat} {vs l:List Value} {x s' x':Value} (ty:TypeId) (hs:DL P G ι m w)
 (hv:Aw ι m.gen (.slice (some ⟨c,0,none⟩) len g) s') (hxr:Aw ι m.gen x x') (hg:m.get c=.cells vs e g false) (hvl:vs.length=len*i.size)
 (hu:P.underlying sT=some (.slice e)) (hx:P.underlying xT=some xd) (hd:∀ k,xd≠.int k) (hi:P.info? e=some i) (hz:Eo i=true) (hsize:0<i.size) (hn:0<n) (hroom:(len+n)*(i.bytes+1)≤room)
 (hxn:lenOf x=some n) (hl:Ci m i.size n x=some l) (hcell:l.all BK=true) :
 ∃ v' w',(Builtin.append_ #[sT,xT] ty #[s',x']).run P w=.ok v' w' ∧
  (Post P G ι m w (.slice (some ⟨c,0,none⟩) (len+n) g) (m.put c (.cells (vs++l) e g false)) v' w'∨Post P G ι m w (AQ m e (vs++l) (len+n)).1 (AQ m e (vs++l) (len+n)).2 v' w'):=by
 obtain ⟨z,hz1,hz2⟩:=QD hz;obtain ⟨l',hr,hrel⟩:=EP hs hxr hl;have hlen:l.length=n*i.size:=Fg hl;have hap:∀ k,(Builtin.firstCells i.size n x').run P { w with drawn:=k }=.ok l'.toArray { w with drawn:=k }:=fun k=>JA k hr
 have a3h:(Builtin.firstCells i.size n x').run P w=.ok l'.toArray w:=hap w.drawn;have hlen':l'.length=n*i.size:=by rw [← hrel.1];omega
 cases hv with
 |sl _ _ _ _ a' sCap hsr =>
  rw [NI (x:=x') (n:=n) (i:=i) ty rfl rfl rfl rfl hu hx hd hi (fun w=>MN hxr hxn w)];obtain ⟨ib,hb,_,q3,hcur⟩:=hsr;obtain ⟨q1,q2,q4⟩:=hcur (Mem.G7 hg).symm;obtain ⟨cs,fr,e0,hrow,hlim,TN,hcr,hfr0⟩:=Ii hs hb hg;obtain ⟨he0,nJ⟩:=hfr0 rfl;subst he0;have hesz':ib.uH=i.size:=by rw [TN,EF hi]
  by_cases hfit:len+n≤sCap
  ·obtain ⟨q5,q6⟩:a'.off=0+ib.sh∧a'.off+sCap*ib.uH≤ib.lim:=by
    omega
   have ha':a'=⟨ib.blk,ib.sh,none⟩:=by
    obtain ⟨x1,y1,z1⟩:=a';grind
   have hmul:(len+n)*i.size≤sCap*i.size:=bp _ hfit;rw [cL] at hmul;rw [hesz',hlim] at q6;obtain ⟨w',cs',hrun,r1,r2,r3,r4,r5,r6,r7,r8⟩:=Hl (P:=P) ib.blk e0 fr (ib.sh+len*i.size) l' 0 w cs hrow (hrel.Tc hcell) (by omega) nJ;obtain ⟨ι',hext,Dv,hb'⟩:=Jc (x:=.cells (vs++l) e0 g false) (ib':=ib) (w':=w') (obj:=.cells cs' e0 fr) hs hb (Mem.Pn hg) rfl
    ⟨by rw [Mem.G7 hg];exact ab _,fun _=>rfl⟩ (.inl rfl) r1 (fun c _ hne=>r4 c hne) (by omega) r6 r7 r8
    (fun ι' g' hle'=>by
     refine ⟨fun _=>rfl,by omega,TN,fun k hk=>?_,fun _ j hj=>nJ j (by omega)⟩;rw [az] at hk;rw [r3,getD_eq];by_cases hk1:k<len*i.size
     ·rw [if_neg (by omega),cb (by omega)]
      obtain ⟨v',h1,h2⟩:=hcr k (by omega);exact ⟨v',h1,by rw [← getD_eq];exact h2.mono hle'⟩
     ·rw [if_pos (by omega),br (by omega)]
      have e2:ib.sh+k-(ib.sh+len*i.size+0)=k-len*i.size:=by omega
      rw [e2,hvl];have hlt:k-len*i.size<l.length:=by omega
      obtain ⟨v',h1,h2⟩:=hrel.get (ai hlt);refine ⟨v',h1,?_⟩;rw [ai hlt];exact h2.mono hle')
   refine ⟨.slice (some a') (len+n) sCap,w',?_,.inl ⟨ι',hext,Dv,?_⟩⟩
   ·simp only [DY,hfit,if_true,Sem.run_bind,a3h,Result.andThen_ok,ha',addr_add,hrun,Sem.run_pure]
   ·exact .sl _ _ _ _ _ _ ⟨ib,hb',by simp [Mem.gen,Mem.get_put,IQ.gen],hfit,fun _=>⟨q1,q2,.inr ⟨q5,by rw [hesz',hlim];exact q6⟩⟩⟩
  ·have hsc:Ci m i.size len (.slice (some ⟨c,0,none⟩) len g)=some vs:=by
    simp only [Ci,Nat.le_refl,if_true,Mem.Em,hg,Oh,Option.getD_some,List.drop_zero,takeN,← hvl,List.take_length]
   have PE:Aw ι m.gen (.slice (some ⟨c,0,none⟩) len g) (.slice (some a') len sCap):=.sl _ _ _ _ _ _ ⟨ib,hb,by rw [Mem.G7 hg];exact ab _,q3,fun _=>⟨q1,q2,q4⟩⟩;obtain ⟨old',ho,hor⟩:=EP hs PE hsc;obtain ⟨cap,hcap,hrun⟩:=JI (old:=old') (new:=l') (z:=z) (x:=x') (zeros:=false) hi hz1 hfit hroom (fun k=>JA k ho) hap;have ho1:old'.length=len*i.size:=by rw [← hor.1];exact hvl
   refine ⟨_,_,hrun,.inr ?_⟩;refine Jb (w':={ w with heap:=w.heap.push (.cells (old'.toArray++l'.toArray++Builtin.zeroCells z.cells (cap-(len+n))) e0 (0,0)),drawn:=w.drawn+1 })
    (e:=e0) (l:=vs++l) (n:=len+n) (cap:=cap) hs rfl rfl rfl rfl (fun j hj=>SQ (old:=old') (rest:=(Builtin.zeroCells z.cells (cap-(len+n))).toList) (hor.append hrel) j hj) hcap (.inr ?_)
   rw [EF hi];have h1:(Builtin.zeroCells z.cells (cap-(len+n))).size=(cap-(len+n))*i.size:=by rw [LG,hz2]
   simp only [Array.size_append,List.size_toArray,h1,ho1,hlen'];rw [← cL,← cL];exact Nat.le_of_eq (by congr 1;omega)
theorem dI {ι:BJ} {m:Mem} {w:World} {t:TypeId} {a a':Addr} {vs:List Value} {e:TypeId} {g:Nat} {inf:TypeInfo} {x:Value} (hs:DL P G ι m w) (ha:PI ι m.gen a a') (hg:m.get a.block=.cells vs e g false) (hag:Oh a=g)
 (hx:vs[a.off]?=some x) (hp:plainCell x=true) (hc:x.cells=#[x]) (hcell:BK x=true) (hi:P.info? t=some inf) (h1:inf.size=1) :
 ∃ w',(storeVar t a' x).run P w=.ok () w'∧w'.heap=w.heap∧w'.tape=w.tape∧w'.os=w.os∧w'.output=w.output:=by
 obtain ⟨ib,hb,_,ha'⟩:=ha;have hcur:=ha' (by rw [hag,Mem.G7 hg]);obtain ⟨cs,fr,e',hrow,hlim,TN,hrel,hfr0⟩:=Ii hs hb hg;obtain ⟨rfl,nJ⟩:=hfr0 rfl;have hlt:a.off<vs.length:=(bw.1 hx).1;obtain ⟨v',h2,h3⟩:=hrel a.off hlt;have hv:vs.getD a.off undef=x:=by grind
 rw [hv] at h3;have e1:v'=x:=h3.D5 hp;subst e1;obtain ⟨w',cs',hrun,r1,r2,r3,r4,r5,r6,r7,r8⟩:=Hl (P:=P) ib.blk e' fr (a.off+ib.sh) [v'] 0 w cs hrow (fun v hv=>by
  have:v=v':=by grind
  subst this;assumption) (by grind) nJ
 refine ⟨w',?_,?_,r6,r7,r8⟩
 ·rw [hcur]
  simp only [storeVar,Sem.run_bind,run_sizeOf' hi,Result.andThen_ok,hc,List.size_toArray,List.length_singleton,h1,ne_eq,not_true_eq_false,if_false];omega
 ·have ec:cs'=cs:=by
   refine Array.ext_getElem? fun j=>?_
   grind
  refine Array.ext_getElem? fun c=>?_
  grind
theorem DL.heap {ι:BJ} {m:Mem} {w w':World} (hs:DL P G ι m w) (h:w'.heap=w.heap):DL P G ι m w' :=
 ⟨fun b ib hb=>by rw [h];exact hs.dom b ib hb,fun b ib hb=>by rw [h];exact hs.blk b ib hb,hs.inj,hs.glob⟩
theorem Ext.b7u (ι:BJ) (m:Mem) {w w':World} (h:w'.heap=w.heap) (h1:w'.tape=w.tape) (h2:w'.os=w.os) (h3:w'.output=w.output):Ext ι m w ι m w' :=
 ⟨ab _,ab _,fun _ _ _=>rfl,fun _ _ _=>rfl,fun _ _=>rfl,Le.refl _ _,fun _ ib h=>.inl ⟨ib,h,rfl⟩,fun _ ib h=>.inl ⟨ib,h⟩,by grind,fun _ _ _=>by rw [h],h1,h2,h3⟩
end Go.Am
namespace Go.Vm
open Go.Am
theorem Ctx.b5i {Γ:Nat→Option (List Value×TypeId)} {m:Mem} {F:Nat→Prop} {σ:Nat→Value} {H:Heap} {nx c:Nat} (h:Ctx Γ m F σ H nx) (hc:c<m.size) (ho:¬ own H σ c):Ctx Γ m (fun d=>F d∨d=c) σ H nx where
 fr d hd:=hd.elim (h.fr d) fun e=>by omega
 hp d x hd:=⟨(h.hp d x hd).1,(h.hp d x hd).2.mono (fun d hd=>⟨.inl hd,rfl⟩) (Names.refl _ _ _) (ab _) (ab _) fun c' hc'=>⟨rfl,by
  rintro (hf|rfl)
  ·exact (h.LY ⟨d,x,hd,hc'⟩).1 hf
  ·exact ho ⟨d,x,hd,hc'⟩⟩⟩
 sep:=h.sep
 gl g cs e hg:=⟨.inl (h.gl g cs e hg).1,(h.gl g cs e hg).2⟩
theorem Step.b5i {m m':Mem} {F F1:Nat→Prop} {σ σ':Nat→Value} {H H':Heap} {nx nx' c:Nat} (s:Step m F σ H nx m' F1 σ' H' nx') (ho:own H σ c):Step m F σ H nx m' (fun d=>F1 d∨d=c) σ' H' nx' :=
 { s with
  Ky:=fun d hd=>.inl (s.Ky d hd)
  Kw:=fun d hd hf=>by
   rcases hf with hf|rfl
   ·exact s.Kw d hd hf
   grind }
variable {E:Env} {n bn:Nat} {L:Frame} {H:Heap} {nx:Nat}
theorem BX.b3x {ops:Array Oper} {l:List Oper} {R:Frame→Heap→Nat→Prop} {op:Op} {dst:Option Tmp} {ty:TypeId} {pos:String} {af:Array Edge} {r:PV} {L1:Frame} {H':Heap} {nx':Nat} (hs:Snd E) (hok:∀ o∈(⟨dst,op,ty,pos,af,none⟩::l:List Oper),Iq E.G n o=true)
 {B:Base} (hB:B.nx=bn) {m m':Mem} {F F':Nat→Prop} {σ σ':Nat→Value} {t:Tr Value} (h2:RL m' F' (htag H') σ' nx' L1 t) (h3:B.to m F σ H nx) {ι ι':BJ} {ac:Act} {w w':World} (hst:D9 E.P E.G [] n ⟨t,m⟩ ι ac w)
 {R':Exit→Act→World→Prop} (hR:∀ L' H' nx' a' w',R L' H' nx'→WAt E n B ι m w t (fun d=>UK d (⟨dst,op,ty,pos,af,none⟩::l)) L' H' nx' a' w'→R' .normal a' w') {v v':Value}
 (q:BX E n bn ops l (H8 L1 dst r) H' nx' R) (c1:Ctx E.Γ m' F' σ' H' nx') (c2:RP m' F' (htag H') σ' nx' r v) (c3:Step m F σ H nx m' F' σ' H' nx') (he:Ext ι m w ι' m' w') (Dv:DL E.P E.G ι' m' w') (hv:Aw ι' m'.gen v v') :
 wpListIn Fence.wide 0 E.P ops R' l (ac.put dst v') w':=by
 have hdst:=(DR (hok _ (bN ..))).2;refine q hs (fun o ho=>hok o (av _ ho)) B hB m' F' σ' (H7 t dst v) c1 (h2.put c2) (h3.trans c3) ι' _ w' ⟨Dv,(hst.2.mono he.le).put hdst hv⟩ R' fun L2 H2 nx2 a2 w2 q2 hw2=>hR L2 H2 nx2 a2 w2 q2 ?_
 obtain ⟨m2,F2,σ2,t2,ι2,d1,d2,d3,he2,hst2,b2r⟩:=hw2.ex;refine ⟨m2,F2,σ2,t2,ι2,d1,d2,d3,Ext.trans hst.1 he he2,hst2,fun d hd=>?_⟩;simp only [UK,List.all_cons,Bool.and_eq_true] at hd;exact (b2r d hd.2).trans (NR hd.1)
theorem RL.cons {m:Mem} {F:Nat→Prop} {T:Nat→Option Tg} {σ:Nat→Value} {L:Frame} {t:Tr Value} (h:RL m F T σ nx L t) {r:Nat} {x:PV} (hx:RP m F T σ nx x (Cj t r)):RL m F T σ nx ((r,x)::L) t:=fun i y hi=>by
 rw [Ec] at hi;by_cases e:r=i
 ·grind
 ·rw [if_neg e] at hi;exact h i y hi
theorem BX.b2c {ops:Array Oper} {l:List Oper} {R:Frame→Heap→Nat→Prop} {dst:Option Tmp} {ty:TypeId} {pos:String} {af:Array Edge} {s x:Operand} {sT xT e:TypeId} {xd:TypeDesc} {i:TypeInfo} {b k j r N:Nat} {cs xs:List FV} {z:Bool}
 (hs:AU E.Γ L s=some (.vec b N 0 N)) (hb:hget H b=some (.vec e cs N z)) (hx:rY E.Γ L H nx x i.size xs k) (hr:Fp L r=some (.vec b N 0 j)) (hj:j≤N) (hN:0<N)
 (xQ:E.P.underlying sT=some (.slice e)) (hxT:E.P.underlying xT=some xd) (hd:∀ k,xd≠.int k) (hi:E.P.info? e=some i) (hzs:Eo i=true) (h0:0<k) (hroom:(N+k)*(i.bytes+1)≤room) (hl:cs.length=N*i.size) (hsz:0<i.size)
 (q1:BX E n bn ops l (H8 ((r,.vec b (N+k) 0 j)::L) dst (.vec b (N+k) 0 (N+k))) (hput H b (.vec e (cs++xs) (N+k) z)) nx R)
 (q2:BX E n bn ops l (H8 ((r,.p (.lst e (cs.take (j*i.size)) j))::L) dst (.vec b (N+k) 0 (N+k))) (hput H b (.vec e (cs++xs) (N+k) z)) nx R) :
 BX E n bn ops (⟨dst,.call { callee:=.builtin .append,args:=#[s,x],argTypes:=#[sT,xT] },ty,pos,af,none⟩::l) L H nx R:=by
 intro hsn hok B hB m F σ t h1 h2 h3 ι ac w hst R' hR;have hsub:=JK h1 h2 hs hb;obtain ⟨hx1,lv,hx2,hx3,hx4⟩:=hx m F σ t h1 h2;obtain ⟨hlt,hrb⟩:=h1.hp b _ hb;rcases hrb with ⟨_,r2,_⟩|⟨c,g,vs,r1,r2,r3,r4,r5,r6,r7⟩
 ·omega
 rw [r1] at hsub;simp only [Gg] at hsub;have hlen:=r5.length;have hop:=(DR (hok _ (bN ..))).1;have hvs:Aw ι m.gen (ev t s) (ac.eval s):=Jw hst.1 hst.2 (hop s (by simp [Op.operands,Call.operands]));have hvx:Aw ι m.gen (ev t x) (ac.eval x):=Jw hst.1 hst.2 (hop x (by simp [Op.operands,Call.operands]));rw [hsub] at hvs;have hown:own H σ c:=⟨b,_,hb,by rw [r1];rfl⟩
 have a4h:Vk (some (HB.vec e cs N z).tag) (some (HB.vec e (cs++xs) (N+k) z).tag):=eK _ _;have hne:(HB.vec e cs N z).tag=(HB.vec e (cs++xs) (N+k) z).tag→False:=by simp only [HB.tag,Tg.vec.injEq];omega
 have hrv:Cj t r=.slice (some ⟨c,0,none⟩) j g:=by
  have:=h2 r _ hr;generalize Cj t r=u at this;cases this with
  |vec hb' hc h =>
   have:=(h N (by simp [htag,hb,HB.tag])).2 rfl;rw [r1] at this;exact this
 unfold wpListIn;rw [Me rfl,if_pos rfl];obtain ⟨v',w',hrun,hp⟩:=jD ty hst.1 hvs hvx r4 (by omega) xQ hxT hd hi hzs hsz h0 hroom hx1 hx2 hx4;have hrun2:(execOp ac.eval ⟨dst,.call { callee:=.builtin .append,args:=#[s,x],argTypes:=#[sT,xT] },ty,pos,af,none⟩).run E.P w=.ok (.value v') w':=by
  rw [D7];exact He (by grind)
 have hres:∀ {m2:Mem} {F2:Nat→Prop} {σ2:Nat→Value} {g2 c2:Nat},σ2 b=.slice (some ⟨c2,0,none⟩) (N+k) g2→RP m2 F2 (htag (hput H b (.vec e (cs++xs) (N+k) z))) σ2 nx (.vec b (N+k) 0 (N+k)) (.slice (some ⟨c2,0,none⟩) (N+k) g2):=fun {m2 F2 σ2 g2 c2} e2=>by
  refine .vec hlt rfl fun j' hj'=>?_
  rw [QY,if_pos rfl,htag,hb] at hj';simp only [Option.map_some,HB.tag,Option.some.injEq,Tg.vec.injEq] at hj';refine ⟨by omega,fun _=>?_⟩;rw [e2];rfl
 unfold Oper.wpIn;rw [Oper.semAt_eq _ _ _ (fun c hc=>by grind),hrun2];refine ⟨fun _ _=>trivial,?_⟩;rcases hp with ⟨ι',he,Dv,hv⟩|⟨ι',he,Dv,hv⟩
 ·have hput':∀ d,c≠d→(m.put c (.cells (vs++lv) e g false)).get d=m.get d:=fun d hd=>by rw [Mem.get_put,if_neg hd]
  obtain ⟨c1,c3⟩:=h1.change (s':=.slice (some ⟨c,0,none⟩) (N+k) g) (m':=m.put c (.cells (vs++lv) e g false)) (x':=.vec e (cs++xs) (N+k) z) hb a4h (fun e=>(hne e).elim) (ab _) (fun d _ hd=>hput' d fun e=>hd (by rw [r1,e];rfl)) (fun k' k1 k2 k3=>by
   have:=k3 c (by rw [r1];rfl);simp only [Mem.put];omega) (fun d hd=>.inl (by rw [r1];exact hd))
   (.inr ⟨c,g,vs++lv,rfl,r2,r3,by rw [Mem.get_put,if_pos rfl],(r5.append hx3).mono (fun d hd=>⟨hd,hput' d fun e=>r3 (e▸hd)⟩),by rw [dx,r6,hx4];rfl,fun h=>by omega⟩)
  refine BX.b3x hsn hok hB (RL.cons (h2.step c3 h1) ?_) h3 hst hR q1 c1 (hres (upd_same _ _ _)) c3 he Dv hv;rw [hrv];refine .vec hlt rfl fun j' hj'=>?_
  rw [QY,if_pos rfl,htag,hb] at hj';simp only [Option.map_some,HB.tag,Option.some.injEq,Tg.vec.injEq] at hj';refine ⟨by omega,fun _=>?_⟩;rw [upd_same];rfl
 ·obtain ⟨c1,c3⟩:=h1.change (m':=(AQ m e (vs++lv) (N+k)).2) (s':=(AQ m e (vs++lv) (N+k)).1) (x':=.vec e (cs++xs) (N+k) z) hb a4h (fun e=>(hne e).elim) (by simp [AQ,Mem.alloc]) (fun c hc _=>by (try simp only [AQ]);rw [Mem.Bh,if_neg (by omega)])
   (fun k' k1 k2 _=>by simp only [AQ,Mem.alloc];omega) (fun c hc=>by simp only [AQ,Dl,Option.some.injEq] at hc;right;omega)
   (.inr ⟨m.size,0,vs++lv,by simp [AQ],by simp [AQ,Mem.alloc],fun hf=>cn _ (h1.fr _ hf),by (try simp only [AQ]);rw [Mem.Bh,if_pos rfl],
    (r5.append hx3).mono (fun c hf=>⟨hf,by (try simp only [AQ]);rw [Mem.Bh,if_neg (by have:=h1.fr c hf;omega)]⟩),by rw [dx,r6,hx4];rfl,fun h=>by omega⟩)
  have hno:¬ own (hput H b (.vec e (cs++xs) (N+k) z)) (upd σ b (AQ m e (vs++lv) (N+k)).1) c:=by
   rintro ⟨b',x',hb',hc'⟩;by_cases eb:b'=b
   ·subst eb
    rw [upd_same] at hc';simp only [AQ,Dl,Option.some.injEq] at hc';omega
   ·rw [CY _ _ eb] at hc'
    rw [NP,if_neg (Ne.symm eb)] at hb';exact eb (h1.sep b' b _ _ c hb' hb hc' (by rw [r1];rfl))
  have hcs:c<(AQ m e (vs++lv) (N+k)).2.size:=ag r2 (by simp [AQ,Mem.alloc]);have c1':=c1.b5i hcs hno;have c3':=c3.b5i hown;refine BX.b3x hsn hok hB (RL.cons (h2.step c3' h1) ?_) h3 hst hR q2 c1' (hres (upd_same _ _ _)) c3' he Dv hv;rw [hrv];refine .p (.lst (.inr rfl) (vs:=vs) (e:=e) (ws:=vs.take (j*i.size)) (ro:=false) ?_ ?_ ((Dj.take (j*i.size) r5).mono (fun d hd=>⟨.inl hd,?_⟩)) (UN r6 _))
  ·simp only [AQ];rw [Mem.Bh,if_neg (by omega)];exact r4
  ·have:j*i.size≤N*i.size:=bp _ hj
   rw [cq,aw,ck (by omega)];unfold takeN;rw [if_pos (by omega)]
  ·simp only [AQ];rw [Mem.Bh,if_neg (by have:=h1.fr d hd;omega)]
theorem Dj.nth {m:Mem} {F:Nat→Prop}:∀ {cs:List FV} {vs:List Value},Dj m F cs vs→∀ {i:Nat} {x:FV},cs[i]?=some x→∃ u,vs[i]?=some u∧RF m F x u
 |_,_,.nil,i,x,h=>by grind
 |_,_,.cons h _,0,x,e=>by
  grind
 |_,_,.cons _ t,i+1,x,e=>by
  exact Dj.nth t e
theorem BX.rM {ops:Array Oper} {l:List Oper} {R:Frame→Heap→Nat→Prop} {d:Tmp} {ty1 ty2:TypeId} {pos1 pos2:String} {af1 af2:Array Edge} {tA tS:TypeId} {x ix y:Operand} {e:TypeId} {cs:List FV} {N:Nat} {k kd:IntKind} {i:Nat} {v:Int} {inf:TypeInfo}
 (hx:AU E.Γ L x=some (.p (.own e cs N))) (hi:AU E.Γ L ix=some (.p (.int k (i:Int)))) (hs:elemSize E.P tA=some 1) (h1:i<N) (hv:cs[i]?=some (.int kd v))
 (hy:AU E.Γ (H8 L (some d) (.p (.E8 (cs.drop i)))) y=some (.p (.int kd v))) (a8f:E.P.info? tS=some inf) (hsz:inf.size=1)
 (q:BX E n bn ops l (H8 L (some d) (.p (.E8 (cs.drop i)))) H nx R) :
 BX E n bn ops (⟨some d,.indexAddr tA x ix,ty1,pos1,af1,none⟩::⟨none,.store tS (.tmp d) y,ty2,pos2,af2,none⟩::l) L H nx R:=by
 intro hsn hok B hB m F σ t c1 c2 h3 ι ac w hst R' hR;obtain ⟨e',inf',g3,g4,g5⟩:=MW hs;have hix:=CV c1 c2 hi;have hrx:=Bz c1 c2 hx;generalize hvx:ev t x=vx at hrx;cases hrx with
 |p hr =>
 cases hr with
 |Tv=>omega
 |QV=>omega
 |own hF hm hw hr hc =>
 rename_i b o g vs ws;have hws:=Fz hw;have hwi:ws[i]?=some (.int kd v):=by
  obtain ⟨u,hu,hru⟩:=hr.nth hv;cases hru;omega
 have hvi:vs[o+i]?=some (.int kd v):=by
  grind
 have hval:∀ call,BO E.P call (ev t) ⟨some d,.indexAddr tA x ix,ty1,pos1,af1,none⟩ m=some (.pointer (some ⟨b,o+i,some g⟩),m):=fun call=>by
  have h0:(0:Int)≤(i:Int)∧(i:Int)<(N:Int):=⟨by omega,by omega⟩
  simp only [BO,FB,g3,hvx,hix,g4,h0,and_self,if_true,g5,Int.toNat_natCast,Nat.mul_one]
 have hcall:=II (N:=0) hsn.o hsn.mix 0;unfold wpListIn;rw [Me rfl,if_pos rfl];have hop:=(DR (hok _ (bN ..))).1;have hop2:=DR (hok ⟨none,.store tS (.tmp d) y,ty2,pos2,af2,none⟩ (by simp));have hdst:=(DR (hok _ (bN ..))).2;have:=OT (rf:=none) (nn:=0) (a:=ac) (K:=wpListIn Fence.wide 0 E.P ops R' (⟨none,.store tS (.tmp d) y,ty2,pos2,af2,none⟩::l)) (Q:=R') hcall hst.1 (fun x hx=>Jw hst.1 hst.2 (hop x hx)) (hval _) fun v' w' hp=>by
  obtain ⟨ι',he,Dv,PE⟩:=hp;have hst1:D9 E.P E.G [] n ⟨H7 t (some d) (.pointer (some ⟨b,o+i,some g⟩)),m⟩ ι' (ac.put (some d) v') w':=⟨Dv,(hst.2.mono he.le).put hdst PE⟩
  have hcp:RP m F (htag H) σ nx (.p (.E8 (cs.drop i))) (.pointer (some ⟨b,o+i,some g⟩)):=by
   refine .p (.E8 hF hm rfl ?_ (Dj.drop i hr) (LC hc _));have:=N9 (k:=i) hw;simp_all
  have hL1:RL m F (htag H) σ nx (H8 L (some d) (.p (.E8 (cs.drop i)))) (H7 t (some d) (.pointer (some ⟨b,o+i,some g⟩))):=c2.put hcp;have hey:Aw ι' m.gen (ev (H7 t (some d) (.pointer (some ⟨b,o+i,some g⟩))) y) ((ac.put (some d) v').eval y):=Jw hst1.1 hst1.2 (hop2.1 y (by simp [Op.operands]));rw [CV c1 hL1 hy] at hey;have ey:(ac.put (some d) v').eval y=.int kd v:=by generalize (ac.put (some d) v').eval y=u at hey;cases hey;rfl
  have hed:Aw ι' m.gen (ev (H7 t (some d) (.pointer (some ⟨b,o+i,some g⟩))) (.tmp d)) ((ac.put (some d) v').eval (.tmp d)):=Jw hst1.1 hst1.2 (hop2.1 (.tmp d) (by simp [Op.operands]));have et:ev (H7 t (some d) (.pointer (some ⟨b,o+i,some g⟩))) (.tmp d)=.pointer (some ⟨b,o+i,some g⟩):=by
   show Cj (P7 t d _) d=_;rw [Df,if_pos rfl]
  rw [et] at hed;obtain ⟨a',ea,har⟩:∃ a',(ac.put (some d) v').eval (.tmp d)=.pointer (some a')∧PI ι' m.gen ⟨b,o+i,some g⟩ a':=by
   generalize (ac.put (some d) v').eval (.tmp d)=u at hed;cases hed;exact ⟨_,rfl,by assumption⟩
  obtain ⟨w2,hrun,k1,k2,k3,k4⟩:=dI (t:=tS) (x:=.int kd v) hst1.1 har hm rfl hvi rfl rfl rfl a8f hsz;have hrun2:(execOp (ac.put (some d) v').eval ⟨none,.store tS (.tmp d) y,ty2,pos2,af2,none⟩).run E.P w'=.ok .skip w2:=by
   simp only [execOp,Instr.storeAt,ea,ey,Instr.sureAddr,Sem.run_bind,Sem.run_pure,Result.andThen_ok,hrun]
  unfold wpListIn;rw [Me rfl,if_pos rfl];unfold Oper.wpIn;rw [Oper.semAt_eq _ _ _ (fun c hc=>by cases hc),hrun2];refine ⟨fun _ _=>trivial,?_⟩;have he2:=Ext.b7u ι' m k1 k2 k3 k4;refine q hsn (fun o ho=>hok o (av _ (av _ ho))) B hB m F σ _ c1 hL1 h3 ι' _ w2 ⟨hst1.1.heap k1,hst1.2⟩ R' fun L2 H2 nx2 a2 w3 q2 hw2=>hR L2 H2 nx2 a2 w3 q2 ?_
  obtain ⟨m2,F2,σ2,t2,ι2,d1,d2,d3,he3,hst3,hkp3⟩:=hw2.ex;refine ⟨m2,F2,σ2,t2,ι2,d1,d2,d3,Ext.trans hst.1 (Ext.trans hst.1 he he2) he3,hst3,fun z hz=>?_⟩;simp only [UK,List.all_cons,Bool.and_eq_true] at hz;exact (hkp3 z hz.2.2).trans (NR hz.1)
 exact this
theorem Ar.Ri (d:Nat) {b N:Nat} {e:TypeId} {cs:List FV} {z:Bool} (hd:Fp L d=some (.vec b N 0 N)) (hb:hget H b=some (.vec e cs N z)):Ar E L H nx ((d,.p (.own e cs N))::L) (hdel H b) nx:=fun B m F σ t h1 h2 h3=>by
 obtain ⟨c1,c2,c3⟩:=VE h1 hb;refine ⟨_,σ,c1,fun i v hi=>?_,h3.trans c2⟩;rw [Ec] at hi;by_cases ei:d=i
 ·rw [if_pos ei] at hi;cases hi
  have:=h2 d _ hd;subst ei;generalize Cj t d=u at this;cases this with
  |vec hb' hc h =>
   have hv:=(h N (by simp [htag,hb,HB.tag])).2 rfl;obtain ⟨_,hr⟩:=h1.hp b _ hb;rcases hr with ⟨r1,r2,r3⟩|⟨c,g,vs,r1,r2,r3,r4,r5,r6,r7⟩
   ·subst r1;subst r2
    rcases r3 with ⟨r3,_⟩|⟨b',o',g',r3,_⟩
    ·rw [r3] at hv;obtain ⟨rfl,_,_⟩:=hv;exact .p (.Tv _)
    ·rw [r3] at hv;simp only [Gg] at hv;rw [hv.1];exact .p (.QV _ _ _ _)
   ·rw [r1] at hv
    subst hv;refine .p (.own (.inr (by rw [r1];rfl)) r4 ?_ (r5.mono fun c hc=>⟨.inl hc,rfl⟩) r6);rw [cq,r5.length];simp [takeN]
 ·rw [if_neg ei] at hi
  exact (h2 i v hi).step c2 h1
theorem Ar.toOwn (d:Nat) (e:TypeId) (hd:Fp L d=some (.p (.val (.slice none 0 0)))):Ar E L H nx ((d,.p (.own e [] 0))::L) H nx:=fun B m F σ t h1 h2 h3=>by
 refine ⟨F,σ,h1,fun i v hi=>?_,h3⟩;rw [Ec] at hi;by_cases ei:d=i
 ·rw [if_pos ei] at hi;cases hi
  have:=h2 d _ hd;subst ei;generalize Cj t d=u at this;cases this with
  |p hr=>cases hr;exact .p (.Tv _)
 ·rw [if_neg ei] at hi
  exact h2 i v hi
end Go.Vm
namespace Go.Proofs.YtnjkoebfgcbbdaaGreatDoor
open Go Go.Am Go.Vm Go.Pie
attribute [local irreducible] Aa Ah Af Ad Az Ai Ba Bq Bd Aj Vm.Done Bg AB RN
attribute [local irreducible] BR A8 DJ Dx DX AV Cc
structure OwL where
 l:List Int
instance:Enc OwL:={ default:=⟨[]⟩,enc:=fun x=>[.own 3 (cells x.l) x.l.length],size:=1,len:=fun _=>rfl }
instance:Enc (List Int):={ default:=[],enc:=fun x=>[.lst 3 (cells x) x.length],size:=1,len:=fun _=>rfl }
theorem sK (l:List Int) (h1:l.length<1000000):Ai env 75 [.lst 3 (cells l) l.length] (.p (.own 3 (cells l) l.length)):=by
 rcases am l.length with h0|h0
 ·obtain rfl:l=[]:=ar.1 h0
  refine Ai.enter (Ae (by decide)) Tryz.func75 rfl (by kernel_rfl) (by simp [Tryz.ntmps75]) ?_
  repeat' (first|(refine Ah.Gz 2 ?_;refine Ah.ghost (Ar.Ri 7 rfl rfl) ?_)|(refine Ad.ghost (Ar.toOwn 2 3 rfl) ?_;apply Ad.Fq)|apply Ad.assoc|apply Ad.Bf|apply Ad.CO|apply Ad.ret|apply Ah.nil|apply Ah.one|(apply Aa.eqNil;rfl;rfl;rfl)|(apply Aa.assign;rfl)|(apply Aa.move;rfl)|(apply Aa.buildSlice;rfl;rfl;rfl;decide;rfl;rfl;rfl)|(apply Aa.FM;rfl;rfl;rfl;(first|rfl|omega|(simp only [List.length_take,List.length_drop,List.length_append,List.length_singleton,List.length_cons,List.length_nil]<;>omega));rfl;rfl;(intro _ h;cases h);rfl;rfl;rfl;decide;decide;(first|omega|(simp only [List.length_take,List.length_drop,List.length_append,List.length_singleton,List.length_cons,List.length_nil]<;>omega)))|(apply Ad.JO;rfl)|(intro _;try (exfalso;omega)))
  all_goals first|(exfalso;omega)|(refine Done.rt rfl rfl ⟨?_,rfl,rfl⟩;try rfl)
 ·refine Ai.enter (Ae (by decide)) Tryz.func75 rfl (by kernel_rfl) (by simp [Tryz.ntmps75]) ?_
  repeat' (first|(refine Ah.Gz 2 ?_;refine Ah.ghost (Ar.Ri 7 rfl rfl) ?_)|apply Ad.assoc|apply Ad.Bf|apply Ad.CO|apply Ad.ret|apply Ah.nil|apply Ah.one|(apply Aa.TW;rfl;rfl;rfl;exact h0)|(apply Aa.assign;rfl)|(apply Aa.move;rfl)|(apply Aa.buildSlice;rfl;rfl;rfl;decide;rfl;rfl;rfl)|(apply Aa.FM;rfl;rfl;rfl;(first|rfl|omega|(simp only [List.length_take,List.length_drop,List.length_append,List.length_singleton,List.length_cons,List.length_nil]<;>omega));rfl;rfl;(intro _ h;cases h);rfl;rfl;rfl;decide;decide;(first|omega|(simp only [List.length_take,List.length_drop,List.length_append,List.length_singleton,List.length_cons,List.length_nil]<;>omega)))|(apply Ad.Ak;rfl))
  all_goals first|(exfalso;omega)|(refine Done.rt rfl rfl ⟨?_,rfl,rfl⟩;try rfl)
end Go.Proofs.YtnjkoebfgcbbdaaGreatDoor
namespace Go.Proofs.YtnjkoebfgcbbdaaGreatDoor
open Go Go.Am Go.Vm Go.Pie
attribute [local irreducible] Aa Ah Af Ad Az Ai Ba Bq Bd Aj Vm.Done Bg AB
attribute [local irreducible] BR A8 DJ Dx DX AV Cc
def lwR (r:Rgs) (p:Ef) (t:Int):Nat→Rgs
 |0=>r
 |k+1=>if gi p.bars (gi p.sets k).bar.toNat≤t then (gi p.sets k).reg else lwR r p t k
def lkF (p:Ef) (L:List Int) (k d:Nat):KA:=oP (kdK p L d k) (kdK p L d k).length
noncomputable instance (a b:Rgs):Decidable (a=b):=Classical.propDecidable _
noncomputable instance (a b:Ny):Decidable (a=b):=Classical.propDecidable _
noncomputable instance (a b:Ef):Decidable (a=b):=Classical.propDecidable _
end Go.Proofs.YtnjkoebfgcbbdaaGreatDoor
namespace Go.Proofs.YtnjkoebfgcbbdaaGreatDoor
open Go Go.Am Go.Vm
instance c6e:Enc (List Int):={ default:=[],enc:=fun l=>[.lst 3 (cells l) l.length],size:=1,len:=fun _=>rfl }
attribute [local irreducible] Aa Ah Af Ad Az Ai Ba Bq Bd Aj Vm.Done Bg AB
def c8j (n k:Nat) (v:Int):List Int:=List.replicate k v++List.replicate (n-k) 0
open Go.Pie
attribute [local irreducible] BR A8 DJ Dx DX AV Cc
def exR (c:UInt8):Hw:=⟨[c],[102,108,117,116,101],⟨8,1⟩,36,List.replicate 25 1⟩
def exS (n Ej sh:Int):Stp:=⟨[97],⟨Ej,1⟩,[⟨36,48,[⟨n,sh⟩]⟩]⟩
def c5j:iW:=⟨[111,110,101],false,36,48,[exS 0 8 0]⟩
def c3y:iW:=⟨[116,119,111],false,36,48,[exS 1 4 12]⟩
def exO:Ho:=⟨[101],[exR 114,exR 115],[c5j,c3y],[⟨[99],0,1,0,false⟩]⟩
def exG:Rgs:=⟨[1,0],0,0⟩
def exP:Ef:=⟨[0,4,8],[⟨0,6,0,40⟩,⟨4,8,0,43⟩],[⟨1,exG⟩]⟩
instance (c:Nat):Decidable (sS c):=by unfold sS;infer_instance
theorem a4s (s:List UInt8) (h0:0<s.length) (h1:s.length≤32) (h:∀ i,i<s.length→sS (gi s i).toNat):DV s:=⟨h0,h1,h 0 h0,fun i _ hi=>.inl (h i hi)⟩
theorem lt2 {i:Nat} (h:i<2):i=0∨i=1 :=by omega
theorem pk1 (n:Int) (h:n=8∨n=4):RJ ⟨n,1⟩=0:=Va.2 (by rcases h with rfl|rfl<;>decide +kernel)
end Go.Proofs.YtnjkoebfgcbbdaaGreatDoor
namespace Go.Proofs.YtnjkoebfgcbbdaaGreatDoor
open Go Go.Am Go.Vm
theorem OI {n:Int} (h:(Lit.int .u8 n).wf=true):∃ m:Nat,m<256∧n=m:=by
 simp [Lit.wf,IntKind.min,IntKind.max,IntKind.signed,IntKind.bits] at h;exact ⟨n.toNat,by omega,by omega⟩
theorem a6a {n:Int} (h:(Lit.int .i8 n).wf=true):-128≤n∧n≤127:=by
 simp [Lit.wf,IntKind.min,IntKind.max,IntKind.signed,IntKind.bits] at h;omega
theorem b1g {n:Int} (h:(Lit.int .i64 n).wf=true):-9223372036854775808≤n∧n≤9223372036854775807:=by
 simp [Lit.wf,IntKind.min,IntKind.max,IntKind.signed,IntKind.bits] at h;omega
theorem ZJ {α β:Type} {R:β→α→Prop}:∀ {l:List α},(∀ x∈l,∃ y,R y x)→∃ r:List β,Hr R r l
 |[],_=>⟨[],.nil⟩
 |a::l,h=>by
  obtain ⟨y,hy⟩:=h a (by simp);obtain ⟨r,hr⟩:=ZJ (l:=l) (fun x hx=>h x (by grind));exact ⟨y::r,.cons hy hr⟩
theorem Z9 {α:Type} [Enc α] {p:α→Prop}:∀ {r:List α} {L:List (List FV)},Hr (fun a fs=>fs=Enc.enc a∧p a) r L→L.flatten=cells r∧L.length=r.length∧∀ i,i<r.length→p (gi r i)
 |_,_,.nil=>⟨rfl,rfl,fun i hi=>by grind⟩
 |a::r,fs::L,.cons ⟨h1,h2⟩ t=>by
  obtain ⟨e1,e2,e3⟩:=Z9 t;refine ⟨by rw [List.flatten_cons,e1,h1];rfl,by grind,fun i hi=>?_⟩;cases i with
  |zero=>exact h2
  |succ i=>exact e3 i (by grind)
section
variable {α β:Type} {R:α→β→Prop} {a b c d e:α} {r:List β}
theorem a8e (h:Hr R [a] r):∃ x,r=[x]∧R a x:=by
 cases h with|cons h1 t=>cases t;grind
theorem nO (h:Hr R [a,b] r):∃ x y,r=[x,y]∧R a x∧R b y:=by
 cases h with|cons h1 t=>obtain ⟨x,rfl,h2⟩:=a8e t;grind
theorem KW (h:Hr R [a,b,c] r):∃ x y z,r=[x,y,z]∧R a x∧R b y∧R c z:=by
 cases h with|cons h1 t=>obtain ⟨x,y,rfl,h2,h3⟩:=nO t;grind
theorem JE (h:Hr R [a,b,c,d] r):∃ x y z w,r=[x,y,z,w]∧R a x∧R b y∧R c z∧R d w:=by
 cases h with|cons h1 t=>obtain ⟨x,y,z,rfl,h2,h3,h4⟩:=KW t;grind
theorem a1b (h:Hr R [a,b,c,d,e] r):∃ x y z w v,r=[x,y,z,w,v]∧R a x∧R b y∧R c z∧R d w∧R e v:=by
 cases h with|cons h1 t=>obtain ⟨x,y,z,w,rfl,h2,h3,h4,h5⟩:=JE t;grind
end
theorem YH {j:Nat} {fs:List FV} (h:FC Tryz.prog (j+1) 3 fs):∃ n:Int,fs=[.int .i64 n]∧-9223372036854775808≤n∧n≤9223372036854775807:=by
 obtain ⟨n,rfl,hn⟩:=h;exact ⟨n,rfl,b1g hn⟩
theorem nP {j:Nat} {fs:List FV} (h:FC Tryz.prog (j+1) 4 fs):∃ b:Bool,fs=[.bool b]:=by
 assumption
theorem c4d {α:Type} {l:List α} (h:l.length=5):∃ a b c d e,l=[a,b,c,d,e]:=by
 match l,h with|[a,b,c,d,e],_=>simp
theorem a2i {j:Nat} {fs:List FV} (h:FC Tryz.prog (j+3) 226 fs):∃ x:G6,fs=x.enc∧x.Ok:=by
 simp only [FC,Tryz.underlying226,Tryz.underlying5,Tryz.underlying97,Tryz.underlying174] at h;obtain ⟨parts,rfl,hp⟩:=h;obtain ⟨a,b,c,d,e,rfl,⟨n1,rfl,h1⟩,⟨n2,rfl,h2⟩,⟨n3,rfl,h3⟩,⟨n4,rfl,h4⟩,L,rfl,hl,hL⟩:=a1b hp;obtain ⟨m1,q1,rfl⟩:=OI h1;obtain ⟨m2,q2,rfl⟩:=OI h2;obtain ⟨m4,q4,rfl⟩:=OI h4;obtain ⟨a,b,c,d,e,rfl⟩:=c4d hl;obtain ⟨w0,rfl,g0⟩:=hL a (by simp);obtain ⟨w1,rfl,g1⟩:=hL b (by simp);obtain ⟨w2,rfl,g2⟩:=hL c (by simp);obtain ⟨w3,rfl,g3⟩:=hL d (by simp);obtain ⟨w4,rfl,g4⟩:=hL e (by simp);obtain ⟨v0,k0,rfl⟩:=OI g0;obtain ⟨v1,k1,rfl⟩:=OI g1;obtain ⟨v2,k2,rfl⟩:=OI g2;obtain ⟨v3,k3,rfl⟩:=OI g3;obtain ⟨v4,k4,rfl⟩:=OI g4;refine ⟨⟨m1,m2,n3,m4,[v0,v1,v2,v3,v4]⟩,rfl,q1,q2,a6a h3,q4,fun i=>?_⟩
 match i with
 |0=>exact k0
 |1=>exact k1
 |2=>exact k2
 |3=>exact k3
 |4=>exact k4
 |n+5=>simp [gi]
theorem Fh {P:Program} {n:Nat} {t:TypeId} {fs:List FV} {sf:Array Field} (h:FC P (n+1) t fs) (hu:P.underlying t=some (.struct sf)):∃ parts:List (List FV),fs=parts.flatten∧Hr (fun (fd:Field) x=>FC P n fd.type x) sf.toList parts:=by
 unfold FC at h;grind
theorem Ir {P:Program} {n:Nat} {t e:TypeId} {fs:List FV} {α:Type} [Enc α] {p:α→Prop} (h:FC P (n+1) t fs) (hu:P.underlying t=some (.slice e)) (he:∀ x,FC P n e x→∃ a:α,x=Enc.enc a∧p a):∃ l:List α,fs=[.lst e (cells l) l.length]∧l.length≤maxLen∧∀ i,i<l.length→p (gi l i):=by
 unfold FC at h;rw [hu] at h;obtain ⟨L,rfl,hl,hL⟩:=h;obtain ⟨r,hr⟩:=ZJ (R:=fun (a:α) fs=>fs=Enc.enc a∧p a) (l:=L) (fun x hx=>he x (hL x hx));obtain ⟨e1,e2,e3⟩:=Z9 hr;grind
theorem Fv {j:Nat} {fs:List FV} (h:FC Tryz.prog (j+1) 5 fs):∃ n:Nat,fs=[.int .u8 (n:Int)]∧n<256:=by
 obtain ⟨n,rfl,hn⟩:=h;obtain ⟨m,q,rfl⟩:=OI hn;grind
theorem a9h {j:Nat} {fs:List FV} (h:FC Tryz.prog (j+1) 97 fs):∃ n:Int,fs=[.int .i8 n]∧-128≤n∧n≤127:=by
 obtain ⟨n,rfl,hn⟩:=h;exact ⟨n,rfl,a6a hn⟩
theorem a7f {j:Nat} {fs:List FV} (h:FC Tryz.prog (j+2) 232 fs):∃ x:Pul,fs=Enc.enc x∧x.Ok:=by
 obtain ⟨parts,rfl,hp⟩:=Fh h Tryz.underlying232;obtain ⟨a,b,c,d,rfl,h1,h2,h3,h4⟩:=JE hp;obtain ⟨m1,rfl,q1⟩:=Fv (j:=j) h1;obtain ⟨m2,rfl,q2⟩:=Fv (j:=j) h2;obtain ⟨m3,rfl,q3⟩:=Fv (j:=j) h3;obtain ⟨m4,rfl,q4⟩:=Fv (j:=j) h4;exact ⟨⟨m1,m2,m3,m4⟩,rfl,q1,q2,q3,q4⟩
theorem a2m {j:Nat} {fs:List FV} (h:FC Tryz.prog (j+4) 211 fs):∃ x:Brd,fs=Enc.enc x∧x.Ok:=by
 obtain ⟨parts,rfl,hp⟩:=Fh h Tryz.underlying211;obtain ⟨a,b,c,d,rfl,h1,h2,h3,h4⟩:=JE hp;obtain ⟨m1,rfl,q1⟩:=Fv (j:=j+2) h1;obtain ⟨m2,rfl,q2⟩:=Fv (j:=j+2) h2;obtain ⟨m3,rfl⟩:=nP (j:=j+2) h3;obtain ⟨l,rfl,hl,hL⟩:=Ir (n:=j+2) (p:=Pul.Ok) h4 Tryz.underlying209 (fun x hx=>a7f hx);exact ⟨⟨m1,m2,m3,l⟩,rfl,q1,q2,by simp only [maxLen] at hl;grind,hL⟩
theorem a9k {j:Nat} {fs:List FV} (h:FC Tryz.prog (j+2) 234 fs):∃ x:Lnk,fs=Enc.enc x∧x.Ok:=by
 obtain ⟨parts,rfl,hp⟩:=Fh h Tryz.underlying234;obtain ⟨a,b,c,d,rfl,h1,h2,h3,h4⟩:=JE hp;obtain ⟨m1,rfl,q1⟩:=Fv (j:=j) h1;obtain ⟨m2,rfl,q2⟩:=Fv (j:=j) h2;obtain ⟨m3,rfl,q3⟩:=a9h (j:=j) h3;obtain ⟨m4,rfl⟩:=nP (j:=j) h4;exact ⟨⟨m1,m2,m3,m4⟩,rfl,q1,q2,q3⟩
theorem a2s {j:Nat} {fs:List FV} (h:FC Tryz.prog (j+6) 54 fs):∃ x:OPl,fs=x.enc∧x.Ok:=by
 obtain ⟨parts,rfl,hp⟩:=Fh h Tryz.underlying54;obtain ⟨a,b,c,rfl,h1,h2,h3⟩:=KW hp;obtain ⟨l1,rfl,n1,g1⟩:=Ir (n:=j+4) (p:=G6.Ok) h1 Tryz.underlying50 (fun x hx=>a2i (j:=j+1) hx);obtain ⟨l2,rfl,n2,g2⟩:=Ir (n:=j+4) (p:=Brd.Ok) h2 Tryz.underlying51 (fun x hx=>a2m hx);obtain ⟨l3,rfl,n3,g3⟩:=Ir (n:=j+4) (p:=Lnk.Ok) h3 Tryz.underlying52 (fun x hx=>a9k (j:=j+2) hx);simp only [maxLen] at n1 n2 n3;exact ⟨⟨l1,l2,l3⟩,rfl,g1,g2,g3,by grind,by grind,by grind⟩
theorem c0l {α:Type} {L:List α} (h:L.length=5):∃ a b c d e,L=[a,b,c,d,e]:=by
 match L,h with
 |[a,b,c,d,e],_=>simp
theorem a2e {j:Nat} {fs:List FV} (h:FC Tryz.prog (j+2) 174 fs):∃ b:Nat→Nat,fs=a7y b∧∀ i,b i<256:=by
 obtain ⟨L,rfl,hl,hL⟩:=FC.array h Tryz.underlying174;obtain ⟨a,b,c,d,e,rfl⟩:=c0l hl;obtain ⟨m1,rfl,q1⟩:=Fv (j:=j) (hL a (by simp));obtain ⟨m2,rfl,q2⟩:=Fv (j:=j) (hL b (by simp));obtain ⟨m3,rfl,q3⟩:=Fv (j:=j) (hL c (by simp));obtain ⟨m4,rfl,q4⟩:=Fv (j:=j) (hL d (by simp));obtain ⟨m5,rfl,q5⟩:=Fv (j:=j) (hL e (by simp));exact ⟨fun i=>if i=0 then m1 else if i=1 then m2 else if i=2 then m3 else if i=3 then m4 else m5,rfl,fun i=>by grind⟩
open Go.Pie
attribute [local irreducible] Aa Ah Af Ad Az Ai Ba Bq Bd Aj Vm.Done Bg AB BR A8 DJ Dx DX AV Cc
theorem a6y {j:Nat} {fs:List FV} (h:FC Tryz.prog (j+1) 5 fs):∃ x:UInt8,fs=Enc.enc x∧True:=by
 obtain ⟨n,rfl,hn⟩:=Fv h;refine ⟨UInt8.ofNat n,?_,trivial⟩;show _=[FV.int .u8 (((UInt8.ofNat n).toNat:Nat):Int)]
 rw [UInt8.toNat_ofNat',bt hn]
def Sd8.Ok (y:Sd8):Prop:=y.st<256∧y.lg<256∧y.dv<256∧y.ky<256
def Mrk.Ok (y:Mrk):Prop:=y.bar<256∧∀ j,y.b j<256
theorem a2d {j:Nat} {fs:List FV} (h:FC Tryz.prog (j+2) 170 fs):∃ x:Sd8,fs=Enc.enc x∧x.Ok:=by
 obtain ⟨parts,rfl,hp⟩:=Fh h Tryz.underlying170;obtain ⟨a,b,c,d,rfl,h1,h2,h3,h4⟩:=JE hp;obtain ⟨m1,rfl,q1⟩:=Fv (j:=j) h1;obtain ⟨m2,rfl,q2⟩:=Fv (j:=j) h2;obtain ⟨m3,rfl,q3⟩:=Fv (j:=j) h3;obtain ⟨m4,rfl,q4⟩:=Fv (j:=j) h4;exact ⟨⟨m1,m2,m3,m4⟩,rfl,q1,q2,q3,q4⟩
theorem a7w {j:Nat} {fs:List FV} (h:FC Tryz.prog (j+3) 176 fs):∃ x:Mrk,fs=Enc.enc x∧x.Ok:=by
 obtain ⟨parts,rfl,hp⟩:=Fh h Tryz.underlying176;obtain ⟨a,b,rfl,h1,h2⟩:=nO hp;obtain ⟨m1,rfl,q1⟩:=Fv (j:=j+1) h1;obtain ⟨b5,rfl,k3⟩:=a2e (j:=j) h2;exact ⟨⟨m1,b5⟩,rfl,q1,k3⟩
theorem a1z {j:Nat} {fs:List FV} (h:FC Tryz.prog (j+7) 59 fs):∃ x:mJ,fs=x.enc∧x.Ok:=by
 obtain ⟨parts,rfl,hp⟩:=Fh h Tryz.underlying59;obtain ⟨a,b,c,d,rfl,h1,h2,h3,h4⟩:=JE hp;obtain ⟨x1,rfl,k1⟩:=a2s (j:=j) h1;obtain ⟨l2,rfl,n2,g2⟩:=Ir (n:=j+5) (p:=fun _:UInt8=>True) h2 Tryz.underlying55 (fun x hx=>a6y (j:=j+4) hx);obtain ⟨l3,rfl,n3,g3⟩:=Ir (n:=j+5) (p:=Sd8.Ok) h3 Tryz.underlying56 (fun x hx=>a2d (j:=j+3) hx);obtain ⟨l4,rfl,n4,g4⟩:=Ir (n:=j+5) (p:=Mrk.Ok) h4 Tryz.underlying57 (fun x hx=>a7w (j:=j+2) hx);simp only [maxLen] at n2 n3 n4;exact ⟨⟨x1,l2,l3,l4⟩,rfl,k1,by grind,by grind,by grind,g3,g4⟩
theorem a3e {j:Nat} {fs:List FV} (h:FC Tryz.prog (j+2) 99 fs):∃ (a b:Nat) (c:Int),fs=[.int .u8 (a:Int),.int .u8 (b:Int),.int .i8 c]∧a<256∧b<256∧-128≤c∧c≤127:=by
 obtain ⟨parts,rfl,hp⟩:=Fh h Tryz.underlying99;obtain ⟨a,b,c,rfl,h1,h2,h3⟩:=KW hp;obtain ⟨m1,rfl,q1⟩:=Fv (j:=j) h1;obtain ⟨m2,rfl,q2⟩:=Fv (j:=j) h2;obtain ⟨m3,rfl,q3⟩:=a9h (j:=j) h3;grind
noncomputable instance (a b:KA):Decidable (a=b):=Classical.propDecidable _
theorem ng (p:Ef) (t:Int) (x:Int):∀ k,x∈Ls p t k↔∃ i:Nat,i<k∧x=(i:Int)∧Y9 p t i=true
 |0=>by simp [Ls]
 |k+1=>by
  have ih:=ng p t x k;have e:Ls p t (k+1)=if Y9 p t k=true then Ls p t k++[(k:Int)] else Ls p t k:=rfl
  rw [e];by_cases h:Y9 p t k=true
  ·rw [if_pos h,bq,aR,ih]
   constructor
   ·rintro (⟨i,h1,h2⟩|h1)
    ·exact ⟨i,by omega,h2⟩
    ·exact ⟨k,by omega,h1,h⟩
   ·rintro ⟨i,h1,h2,h3⟩
    by_cases e:i=k
    ·subst e;exact .inr h2
    ·exact .inl ⟨i,by omega,h2,h3⟩
  ·rw [if_neg h,ih]
   constructor
   ·rintro ⟨i,h1,h2⟩;exact ⟨i,by omega,h2⟩
   ·rintro ⟨i,h1,h2,h3⟩
    by_cases e:i=k
    ·subst e;exact absurd h3 h
    ·exact ⟨i,by omega,h2,h3⟩
theorem kK (p:Ef) (t:Int):∀ k,t∈TY p k↔t=OX p∨t=PD p∨∃ i,i<k∧(t=(gi p.notes i).s∨t=(gi p.notes i).e)
 |0=>by simp [TY]
 |k+1=>by
  have ih:=kK p t k;have e:TY p (k+1)=TY p k++[(gi p.notes k).s,(gi p.notes k).e]:=rfl;grind
theorem a3t (p:Ef) (t:Int) (i:Nat):Y9 p t i=true↔(gi p.notes i).s≤t∧t<(gi p.notes i).e:=by
 unfold Y9;simp
end Go.Proofs.YtnjkoebfgcbbdaaGreatDoor
