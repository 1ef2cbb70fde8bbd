/-
  Texts of a proof, merged (HanG, HanH, HanI, HanJ, HanK, Wm1). Conditions: in each statement.
-/
import Derived.Maps.RangeRun
import Derived.Test.YtnjkoebfgcbbdaaGreatDoorKLm
set_option linter.unusedSimpArgs false
set_option linter.unusedVariables false
set_option linter.unusedSectionVars false
set_option maxRecDepth 100000
set_option maxHeartbeats 8000000
abbrev be:=@List.not_mem_nil
abbrev gS:=@List.take_set_of_le
namespace Go.Proofs.YtnjkoebfgcbbdaaGreatDoor
open Go Go.Am Go.Vm Go.Pie
attribute [local irreducible] Aa Aj Ah Ad AP Ap Bd BL Bf Ag Vm.Done BA AB OT
attribute [local irreducible] Ce Ba DV DN En AZ CB
theorem NC {α:Type}:∀ (r cs:List α) (o:Nat) {k:Nat},k≤o→(Di cs o r).take k=cs.take k
 |[],cs,o,k,h=>by rfl
 |a::r,cs,o,k,h=>by
  simp only [Di];rw [NC r (cs.set o a) (o+1) (by omega),gS h]
theorem filter_all {α:Type} {P:α→Bool} {l:List α} [Inhabited α] (h:∀ i,i<l.length→P (gi l i)=true):l.filter P=l:=by
 rw [gP];intro a ha;obtain ⟨i,hi,rfl⟩:=dr ha;have:=h i hi
 rwa [show gi l i=l[i] by unfold gi;grind] at this
structure Rk {α:Type} (P:α→Bool) (l zs:List α) (i j:Nat):Prop where
 len:zs.length=l.length
 ij:i<j
 jn:j≤l.length
 keep:zs.take i=(l.take j).filter P
 rest:zs.drop j=l.drop j
theorem Rk.at_ {α:Type} [Inhabited α] {P:α→Bool} {l zs:List α} {i j:Nat} (h:Rk P l zs i j) (hj:j<l.length):gi zs j=gi l j:=by
 have:=congrArg (fun x=>gi x 0) h.rest;simp only [gi,List.getElem?_drop,Nat.add_zero] at this;exact this
theorem Rk.skip {α:Type} [Inhabited α] {P:α→Bool} {l zs:List α} {i j:Nat} (h:Rk P l zs i j) (hj:j<l.length) (hp:P (gi l j)=false):Rk P l zs i (j+1):=by
 refine ⟨h.len,by have:=h.ij;omega,hj,?_,?_⟩
 ·rw [DX hj,cT,h.keep]
  grind
 ·have:=congrArg (List.drop 1) h.rest
  simp_all
theorem Rk.put {α:Type} [Inhabited α] {P:α→Bool} {l zs:List α} {i j:Nat} (h:Rk P l zs i j) (hj:j<l.length) (hp:P (gi l j)=true):Rk P l (zs.set i (gi l j)) (i+1) (j+1):=by
 have h1:=h.ij;have h2:=h.len;refine ⟨by grind,by omega,hj,?_,?_⟩
 ·rw [DX hj,cT,← h.keep,DX (by grind),gS (ab _)]
  have e:gi (zs.set i (gi l j)) i=gi l j:=by rw [Gm,if_pos ⟨rfl,by omega⟩]
  grind
 ·rw [List.drop_set_of_lt (by omega)]
  have:=congrArg (List.drop 1) h.rest;simp_all
theorem Rk.start {α:Type} [Inhabited α] {P:α→Bool} {l:List α} {k:Nat} (hk:k<l.length) (hp:P (gi l k)=false) (h:∀ i,i<k→P (gi l i)=true):Rk P l l k (k+1):=by
 refine ⟨rfl,by omega,hk,?_,rfl⟩;rw [DX hk,cT];have:(l.take k).filter P=l.take k:=filter_all fun i hi=>by
  rw [ax] at hi;have:=h i (by omega)
  rwa [show gi (l.take k) i=gi l i from by unfold gi;grind]
 grind
theorem Rk.fin {α:Type} [Inhabited α] {P:α→Bool} {l zs:List α} {i:Nat} (h:Rk P l zs i l.length):zs.take i=l.filter P∧i=(l.filter P).length:=by
 have h1:=h.keep;rw [cV (ab _)] at h1;refine ⟨h1,?_⟩;rw [← h1,ax,h.len];have:=h.ij;omega
theorem zy {L:Vm.Frame} {H:Vm.Heap} {nx:Nat} {Q:PV→Vm.Heap→Nat→Prop} {dst:Option Tmp} {ty:TypeId} {pos:String} {af:Array Edge} {gd:Option (Nat×Bool)} {fo:Operand} {args:Array Operand} {aT:Array TypeId} {fs cs xs:List PV} {c:Code}
 (hf:AU env.Γ L fo=some (.clo 123 fs cs)) (ha:evs env.Γ L args.toList=some xs) (hb:Tryz.f123.body=some c) (hn:(fs++xs++cs).length≤Tryz.f123.ntmps)
 (h:Ad env nx c (Ci 0 (fs++xs++cs)) H nx (AB env.P Tryz.f123.results.toList Q)):Aa env true ⟨dst,.call { callee:=.value fo,args:=args,argTypes:=aT },ty,pos,af,gd⟩ L H nx Q:=by
 have h0:(match Tryz.f123.body with|some c=>Iz env.G Tryz.f123 c|none=>false)=true:=by kernel_rfl
 rw [hb] at h0;exact Aa.inline rfl hf ha (Ae (by decide)) Tryz.func123 hb h0 hn h
theorem zH {L:Vm.Frame} {H:Vm.Heap} {nx:Nat} {Q:PV→Vm.Heap→Nat→Prop} {dst:Option Tmp} {ty:TypeId} {pos:String} {af:Array Edge} {gd:Option (Nat×Bool)} {fo:Operand} {args:Array Operand} {aT:Array TypeId} {fs cs xs:List PV} {c:Code}
 (hf:AU env.Γ L fo=some (.clo 160 fs cs)) (ha:evs env.Γ L args.toList=some xs) (hb:Tryz.f160.body=some c) (hn:(fs++xs++cs).length≤Tryz.f160.ntmps)
 (h:Ad env nx c (Ci 0 (fs++xs++cs)) H nx (AB env.P Tryz.f160.results.toList Q)):Aa env true ⟨dst,.call { callee:=.value fo,args:=args,argTypes:=aT },ty,pos,af,gd⟩ L H nx Q:=by
 have h0:(match Tryz.f160.body with|some c=>Iz env.G Tryz.f160 c|none=>false)=true:=by kernel_rfl
 rw [hb] at h0;exact Aa.inline rfl hf ha (Ae (by decide)) Tryz.func160 hb h0 hn h
theorem jG:Ap env 75 [.lst 3 (cells ([]:List Int)) 0] (.p (.lst 3 (cells ([]:List Int)) 0)):=by
 refine Ap.enter (Ae (by decide)) Tryz.func75 rfl (by kernel_rfl) (by simp) ?_
 repeat' (first|(refine Aj.HY 2 ?_;refine Aj.ghost (Aw.freeze 7 rfl rfl) ?_)|apply Ad.assoc|apply Ad.Bz|apply Ad.Gg|apply Ad.Qo|apply Ad.ret|apply Aj.nil|apply Aj.one|(apply Aa.eqNil;rfl;rfl;rfl)|(apply Aa.assign;rfl)|(apply Aa.move;rfl)|(apply Aa.buildSlice;rfl;rfl;rfl;decide;rfl;rfl;rfl)|(apply Aa.UM;rfl;rfl;rfl;(first|rfl|omega|(simp only [List.length_take,List.length_drop,List.length_append,List.length_singleton,List.length_cons,List.length_nil]<;>omega));rfl;rfl;(intro _ h;cases h);rfl;rfl;rfl;decide;decide;(first|omega|(simp only [List.length_take,List.length_drop,List.length_append,List.length_singleton,List.length_cons,List.length_nil]<;>omega)))|(apply Ad.QS;rfl)|(intro _))
 all_goals first|(omega)|(refine Done.ret rfl (.p (.nil _)) trivial BJ.nil (an _) (ab _) ⟨rfl,rfl,rfl⟩)|(refine Done.rt rfl rfl ⟨?_,rfl,rfl⟩;try rfl)
def Ur (q:Qu) (x:Int):Bool:=!GR q x.toNat
def Ja (q:Qu) (N:List Int):List Int:=N.filter (Ur q)
theorem U3 (q:Qu) (hq:Jy q) (s:iT) (hN:dH q s.notes) (hNl:s.notes.length≤1000):Ap env 84 [.agg (Enc.enc q),.agg (Enc.enc s)] (.p (.lst 3 (cells (Ja q s.notes)) (Ja q s.notes).length)):=by
 have hpd:=fun i hi=>Nz q hq i hi
 obtain ⟨a,e,l⟩:=s;simp only at hN hNl ⊢;rcases bm l.length with h0|h0
 ·obtain rfl:l=[]:=ar.1 h0
  have hcl:=jG;unfold Ja;rw [List.filter_nil];refine Ap.enter (Ae (by decide)) Tryz.func84 rfl (by kernel_rfl) (by simp [Tryz.ntmps84]) ?_
  repeat' (first|(apply Aa.fn;rfl;rfl;exact hcl;intro _;rfl)|(apply Aa.makeFunc;rfl;rfl)|(apply zy;rfl;rfl;rfl;exact le_dec rfl)|(apply zH;rfl;rfl;rfl;exact le_dec rfl)|refine go2 ?_|fail)
  all_goals try (exfalso;omega)
  refine Ad.zW 0 ?_
  repeat' (first|refine IG ?_|(apply AB.ret;rfl)|(apply OT.zero)|(apply Ad.AV;rfl)|(apply Ad.Ai;rfl))
  all_goals first|(exfalso;omega)|contradiction|(refine Done.rt rfl rfl ⟨?_,rfl,rfl⟩;try rfl)
 have hcl:=XI l h0 (by omega);unfold Ja;refine Ap.enter (Ae (by decide)) Tryz.func84 rfl (by kernel_rfl) (by simp [Tryz.ntmps84]) ?_
 repeat' (first|(apply Aa.fv;rfl;rfl;exact hcl)|(apply Aa.makeFunc;rfl;rfl)|(apply zy;rfl;rfl;rfl;exact le_dec rfl)|(apply zH;rfl;rfl;rfl;exact le_dec rfl)|(apply Aa.lenV;rfl;rfl;rfl)|refine go2 ?_|fail)
 all_goals try (exfalso;omega)
 apply Ad.Ii (l.length) (fun k=>∀ i,i<k→Ur q (gi l i)=true) [(0,_),(1,_),(7,_)] [(2,_)] (fun k r=>(8,.p (.int .i64 (k:Int)))::r) (fun k r=>r) 3
 ·first|omega|decide
 ·first|omega|decide
 ·exact Nl
 ·exact O7
 ·first|(intro _ _;omega)|omega|trivial
 ·intro k hk hi
  obtain ⟨g1,g2⟩:=hN k hk;have hC:=hpd (gi l k).toNat (by omega);rw [dx g1] at hC;by_cases hp:Ur q (gi l k)=true
  ·have hp1:GR q (gi l k).toNat=false:=by unfold Ur at hp;simpa using hp
   rw [hp1] at hC
   repeat' (first|(apply Aa.UF hC;rfl;rfl;exact .of_eq rfl;exact CS.Az rfl)|(apply Aa.D5;rfl;rfl;rfl;rfl;omega)|refine go2 ?_|(apply Aa.int;rfl;rfl;rfl)|(apply Ad.Ac;rfl)|(apply Ad.cond_false;rfl)|(intro _;try (exfalso;omega)))
   all_goals try (exfalso;omega)
   refine Ag.normal ⟨(all_succ hi hp),by first|omega|decide,?_,?_⟩
   ·exact C9
   ·exact DT
  ·have hp':Ur q (gi l k)=false:=by cases h:Ur q (gi l k)<;>simp_all
   have hp1:GR q (gi l k).toNat=true:=by unfold Ur at hp';simpa using hp'
   rw [hp1] at hC
   repeat' (first|(apply Aa.UF hC;rfl;rfl;exact .of_eq rfl;exact CS.Az rfl)|(apply Aa.D5;rfl;rfl;rfl;rfl;omega)|refine go2 ?_|(apply AB.ret;rfl)|(apply Aa.int;rfl;rfl;rfl)|(apply Ad.Ai;rfl)|(apply Ad.Ac;rfl)|(apply Ad.cond_true;rfl)|(intro _;try (exfalso;omega)))
   all_goals try (exfalso;omega)
   refine Ad.DJ (fun s:List Int×Nat×Nat=>[(0,.vec 2 l.length 0 l.length),(1,.clo 85 [.p (.agg (Enc.enc q))] []),(5,.p (.int .i64 (s.2.1:Int))),(6,.p (.int .i64 (s.2.2:Int)))]) (fun s=>[(2,.vec 3 (cells s.1) l.length false)]) 3 (fun s=>Rk (Ur q) l s.1 s.2.1 s.2.2) (fun s=>l.length-s.2.2) (l,k,k+1) (by decide) (Rk.start hk hp' hi) ⟨by decide,?_,?_⟩ ?_
   ·exact C9
   ·exact DT
   rintro ⟨zs,i,j⟩ hD;simp only at hD ⊢;have z1:=hD.len;have z2:=hD.ij;have z3:=hD.jn;by_cases hj:j<l.length
   ·obtain ⟨g3,g4⟩:=hN j hj
    have hC2:=hpd (gi l j).toNat (by omega);rw [dx g3] at hC2;have hz:=hD.at_ hj;by_cases hw:Ur q (gi l j)=true
    ·have hw1:GR q (gi l j).toNat=false:=by unfold Ur at hw;simpa using hw
     rw [hw1] at hC2;rw [← hz] at hC2
     repeat' (first|(apply Aa.UF hC2;rfl;rfl;exact .of_eq rfl;exact CS.Az rfl)|(apply Aa.Ko (y:=gi zs j);rfl;rfl;rfl;trivial;(first|rfl|(refine congrArg (fun t=>[PV.p (FV.int _ t)]) ?_;first|omega|(simp only [Int.natCast_add,Int.natCast_mul,Int.natCast_ediv,Int.natCast_emod]<;>omega)));rfl;rfl;decide;(first|omega|(simp only [List.length_set]<;>omega)))|(apply Aa.lenV;rfl;rfl;rfl)|(apply Aa.D5;rfl;rfl;rfl;rfl;omega)|refine go2 ?_|(apply Aa.int;rfl;rfl;rfl)|(apply Ad.Ac;rfl)|(apply Ad.cond_true;rfl)|(intro _;try (exfalso;omega)))
     all_goals try (exfalso;omega)
     refine Ag.normal ⟨(zs.set i (gi l j),i+1,j+1),hD.put hj hw,by simp only;omega,⟨by omega,?_,?_⟩⟩
     ·exact C9
     ·rw [← hz]
      exact DT
    ·have hw':Ur q (gi l j)=false:=by cases h:Ur q (gi l j)<;>simp_all
     have hw1:GR q (gi l j).toNat=true:=by unfold Ur at hw';simpa using hw'
     rw [hw1] at hC2;rw [← hz] at hC2
     repeat' (first|(apply Aa.UF hC2;rfl;rfl;exact .of_eq rfl;exact CS.Az rfl)|(apply Aa.lenV;rfl;rfl;rfl)|(apply Aa.D5;rfl;rfl;rfl;rfl;omega)|refine go2 ?_|(apply Aa.int;rfl;rfl;rfl)|(apply Ad.Ac;rfl)|(apply Ad.cond_false;rfl)|(intro _;try (exfalso;omega)))
     all_goals try (exfalso;omega)
     refine Ag.normal ⟨(zs,i,j+1),hD.skip hj hw',by simp only;omega,⟨by omega,?_,?_⟩⟩
     ·exact C9
     ·exact DT
   ·obtain rfl:j=l.length:=by omega
    obtain ⟨f1,f2⟩:=hD.fin;rw [← f1,show (zs.take i).length=i by rw [ax];omega];have hps:∀ xs,((Di (cells zs) (0+i*1) xs).take (i*1))=cells (zs.take i):=fun xs=>by
     rw [NC _ _ _ (show i*1≤0+i*1 by omega)];exact OE zs i
    have hpl:∀ xs,i*1≤(Di (cells zs) (0+i*1) xs).length:=fun xs=>by
     rw [Qw,CZ,z1];show i*1≤l.length*1;omega
    repeat' (first|(refine Ah.HY 4 ?_;refine Ah.ghost (Aw.pJ 10 (i*1) rfl rfl (by omega) (hpl _)) ?_)|apply Ad.assoc|apply Ad.Bz|apply Ad.EN|apply BL.normal|(apply AB.ret;rfl)|apply Bf.exit|apply Ag.exit|apply Ad.ret|apply Aj.nil|apply Ah.nil|apply Aj.one|(apply Ah.bar;decide +kernel)|(apply Aa.jy (sz:=1) (a:=i) (c:=l.length);rfl;rfl;omega;rfl;rfl;rfl;exact ⟨_,rfl⟩;rfl;omega;exact ab _)|(apply Aa.jy (sz:=1) (a:=0) (c:=i);rfl;rfl;omega;rfl;rfl;rfl;rfl;exact ⟨_,rfl⟩;omega;omega)|(apply Aa.clear;rfl;rfl;omega;omega;rfl;rfl;rfl;decide;(rw [CZ,z1];show 0+i*1+(l.length-i)*1≤l.length*1;omega))|(apply Aa.assign;rfl)|(apply Aa.move;rfl)|(apply Aa.int;rfl;rfl;rfl)|(apply Aa.lenV;rfl;rfl;rfl)|(apply Ad.Ac;rfl)|(intro _;try (exfalso;omega)))
    all_goals first|(exfalso;omega)|(refine Done.rt rfl rfl ⟨?_,rfl,rfl⟩;exact congrArg (fun c=>PV.p (FV.lst 3 c i)) (hps _))
 ·intro hi
  rw [filter_all hi]
  repeat' (first|(refine Ah.HY 4 ?_;refine Ah.ghost (Aw.freeze 10 rfl rfl) ?_)|apply Ad.assoc|apply Ad.Bz|apply Ad.Qo|apply Ad.EN|apply BL.normal|(apply AB.ret;rfl)|apply Bf.exit|apply Ag.exit|apply Ad.ret|apply Aj.nil|apply Ah.nil|apply Aj.one|(apply Ah.bar;decide +kernel)|(apply Aa.assign;rfl)|(apply Aa.move;rfl)|(apply Aa.int;rfl;rfl;rfl)|(apply Ad.AV;rfl)|(apply Ad.Ac;rfl)|(intro _;try (exfalso;omega)))
  all_goals first|(exfalso;omega)|(refine Done.rt rfl rfl ⟨?_,rfl,rfl⟩;try rfl)
theorem YE (p:F7) {i:Nat} (hi:i<(A8 p).length):gi (A8 p) i=⟨gi (Dy p) i,gi (Dy p) (i+1),snd p (gi (Dy p) i)⟩:=by
 unfold A8 a6w at hi ⊢;rw [Cj] at hi;exact D7 _ hi
theorem Kq (p:F7):(A8 p).length≤2*p.notes.length+1:=by
 have h1:=qM (snd p) (Dy p);have h2:=Xm ((TI p p.notes.length).mergeSort fun x y=>decide (x≤y));rw [gL,Yo] at h2;have h3:(Dy p).length≤_:=h2;show (a6w (snd p) (Dy p)).length≤_;omega
def IY (q:Qu) (i:Nat):List Int:=(gi (A8 q.p) i).notes
theorem KZ {q:Qu} {i:Nat} (hi:i<(A8 q.p).length):dH q (IY q i):=by
 unfold IY;rw [YE _ hi];exact fun k hk=>b5r hk
theorem Tc {q:Qu} (hq:Jy q) {i:Nat} (hi:i<(A8 q.p).length):(IY q i).length≤1000:=by
 unfold IY;rw [YE _ hi];exact am (Ue q.p _ _) hq.p.notes
theorem IZ (q:Qu) (hq:Jy q):Ap env 38 [.agg (Enc.enc q)] (.p (.lst 81 (cells (A8 q.p)) (A8 q.p).length)):=by
 have h:=Xv hq.o.sm hq.e hq.p;refine Ap.enter (Ae (by decide)) Tryz.func38 rfl (by kernel_rfl) (by simp) ?_
 repeat' (first|(apply Aa.fn;rfl;rfl;exact h;intro _;rfl)|refine go2 ?_|fail)
 all_goals first|(omega)|(refine Done.rt rfl rfl ⟨?_,rfl,rfl⟩;try rfl)
theorem b2y {L:Vm.Frame} {H:Vm.Heap} {nx:Nat} {Q:PV→Vm.Heap→Nat→Prop} {dst:Option Tmp} {ty:TypeId} {pos:String} {af:Array Edge} {gd:Option (Nat×Bool)} {fo:Operand} {args:Array Operand} {aT:Array TypeId} {fs cs xs:List PV} {c:Code}
 (hf:AU env.Γ L fo=some (.clo 82 fs cs)) (ha:evs env.Γ L args.toList=some xs) (hb:Tryz.f82.body=some c) (hn:(fs++xs++cs).length≤Tryz.f82.ntmps)
 (h:Ad env nx c (Ci 0 (fs++xs++cs)) H nx (AB env.P Tryz.f82.results.toList Q)):Aa env true ⟨dst,.call { callee:=.value fo,args:=args,argTypes:=aT },ty,pos,af,gd⟩ L H nx Q:=by
 have h0:(match Tryz.f82.body with|some c=>Iz env.G Tryz.f82 c|none=>false)=true:=by kernel_rfl
 rw [hb] at h0;exact Aa.inline rfl hf ha (Ae (by decide)) Tryz.func82 hb h0 hn h
theorem zX {L:Vm.Frame} {H:Vm.Heap} {nx:Nat} {Q:PV→Vm.Heap→Nat→Prop} {dst:Option Tmp} {ty:TypeId} {pos:String} {af:Array Edge} {gd:Option (Nat×Bool)} {fo:Operand} {args:Array Operand} {aT:Array TypeId} {fs cs xs:List PV} {c:Code}
 (hf:AU env.Γ L fo=some (.clo 97 fs cs)) (ha:evs env.Γ L args.toList=some xs) (hb:Tryz.f97.body=some c) (hn:(fs++xs++cs).length≤Tryz.f97.ntmps)
 (h:Ad env nx c (Ci 0 (fs++xs++cs)) H nx (AB env.P Tryz.f97.results.toList Q)):Aa env true ⟨dst,.call { callee:=.value fo,args:=args,argTypes:=aT },ty,pos,af,gd⟩ L H nx Q:=by
 have h0:(match Tryz.f97.body with|some c=>Iz env.G Tryz.f97 c|none=>false)=true:=by kernel_rfl
 rw [hb] at h0;exact Aa.inline rfl hf ha (Ae (by decide)) Tryz.func97 hb h0 hn h
def wM (q:Qu) (l:List Int):Int:=Et (fun i=>!IW q (IY q i) l) (A8 q.p).length
theorem dU (q:Qu) (hq:Jy q) (l:List Int) (hl:l.length=q.p.notes.length):Ap env 45 [.agg (Enc.enc q),.lst 3 (cells l) l.length] (.p (.int .i64 (wM q l))):=by
 have hS:=IZ q hq;have hSl:=Kq q.p;have hn:=hq.p.notes;have hM:∀ k,k<(A8 q.p).length→Eh env 98 ([.p (.agg (Enc.enc (gi (A8 q.p) k)))]++[.ref 0 0,.ref 1 0]) [(0,dG q),(1,.box 28 [.p (.lst 3 (cells l) l.length)])] 2 (.bool (!IW q (IY q k) l)):=fun k hk=>Zi q hq _ (KZ hk) (Tc hq hk) l hl
 unfold wM;unfold dG at hM;generalize hP:(fun i=>!IW q (IY q i) l)=P at *;have hM:∀ k,k<(A8 q.p).length→Eh env 98 ([.p (.agg (Enc.enc (gi (A8 q.p) k)))]++[.ref 0 0,.ref 1 0]) [(0,.box 36 ((Enc.enc q).map .p)),(1,.box 28 [.p (.lst 3 (cells l) l.length)])] 2 (.bool (P k)):=fun k hk=>by grind
 generalize A8 q.p=S at *;refine Ap.enter (Ae (by decide)) Tryz.func45 rfl (by kernel_rfl) (by simp) ?_
 repeat' (first|(apply Aa.fn;rfl;rfl;exact hS;intro _;rfl)|(apply Aa.makeFunc;rfl;rfl)|(apply zX;rfl;rfl;rfl;exact le_dec rfl)|refine go2 ?_|fail)
 all_goals try (exfalso;omega)
 apply Ad.Ii (S.length) (fun k=>Xw P S.length (S.length-k)=Et P S.length) [(0,_),(1,_),(7,_)] [(0,_),(1,_)] (fun k r=>(8,.p (.int .i64 (k:Int)))::r) (fun k r=>r) 2
 ·simp
 ·simp
 ·exact Nl
 ·exact O7
 ·rfl
 ·intro k hk hi
  have hC:=hM k hk;by_cases hp:P k=true
  ·rw [hp] at hC
   have e1:Et P S.length=(k:Int):=by rw [← hi,Yi hk hp]
   rw [e1]
   repeat' (first|(apply Aa.read [0,1] hC;rfl;rfl;exact .of_eq rfl;exact CS.Az rfl;exact CX rfl;(repeat (first|exact trivial|refine ⟨⟨_,rfl,.of_eq rfl⟩,?_⟩));decide;(intro _ hb;simp at hb<;>omega);rfl)|(apply Aa.Ak;rfl;rfl;rfl;omega;rfl)|refine go2 ?_|(apply AB.ret;rfl)|(apply Aa.int;rfl;rfl;rfl)|(apply Ad.Ac;rfl)|(apply Ad.cond_true;rfl)|(intro _;try (exfalso;omega)))
   all_goals first|(exfalso;omega)|contradiction|(refine Done.rt rfl rfl ⟨?_,rfl,rfl⟩;try rfl)
  ·have hp':P k=false:=by simpa using hp
   rw [hp'] at hC
   repeat' (first|(apply Aa.read [0,1] hC;rfl;rfl;exact .of_eq rfl;exact CS.Az rfl;exact CX rfl;(repeat (first|exact trivial|refine ⟨⟨_,rfl,.of_eq rfl⟩,?_⟩));decide;(intro _ hb;simp at hb<;>omega);rfl)|(apply Aa.Ak;rfl;rfl;rfl;omega;rfl)|refine go2 ?_|(apply Aa.int;rfl;rfl;rfl)|(apply Ad.Ac;rfl)|(apply Ad.cond_false;rfl)|(intro _;try (exfalso;omega)))
   all_goals try (exfalso;omega)
   all_goals try contradiction
   refine Ag.normal ⟨((TV hk hp').symm.trans hi),by first|omega|decide,?_,?_⟩
   ·exact C9
   ·exact DT
 ·intro hi
  have e1:Et P S.length=-1:=by rw [← hi,cY];rfl
  rw [e1]
  repeat' (first|refine IG ?_|(apply AB.ret;rfl)|(apply Ad.Ac;rfl)|(intro _;try (exfalso;omega)))
  all_goals first|(exfalso;omega)|(refine Done.rt rfl rfl ⟨?_,rfl,rfl⟩;try rfl)
theorem dB (q:Qu) (hq:Jy q) (s:iT) (hN:dH q s.notes) (hNl:s.notes.length≤1000):Eh env 83 ([.p (.agg (Enc.enc s))]++[.ref 0 0]) [(0,.box 36 ((Enc.enc q).map .p))] 1 (.bool (decide (12<(Ja q s.notes).length))):=by
 have hp:=U3 q hq s hN hNl;have e:decide (12<(Ja q s.notes).length)=decide (((Ja q s.notes).length:Int)>12):=by
  grind
 rw [e];generalize Ja q s.notes=M at *;refine Eh.enter (Ae (by decide)) Tryz.func83 rfl (by kernel_rfl) (by simp) ?_
 repeat' (first|(apply Aa.fn;rfl;rfl;exact hp;intro _;rfl)|refine go2 ?_|(apply Aa.int;rfl;rfl;rfl))
 all_goals first|(exfalso;omega)|(refine Done.ret rfl (.refl _) trivial ?_ (by omega) (ab _) ⟨?_,rfl,rfl⟩;exact DT;try rfl)
def b0d (q:Qu):Bool:=decide (0≤Et (fun i=>decide (12<(Ja q (IY q i)).length)) (A8 q.p).length)
theorem UZ (q:Qu) (hq:Jy q):Ap env 36 [.agg (Enc.enc q)] (.p (.bool (b0d q))):=by
 have hS:=IZ q hq;have hSl:=Kq q.p;have hn:=hq.p.notes;have hM:∀ k,k<(A8 q.p).length→Eh env 83 ([.p (.agg (Enc.enc (gi (A8 q.p) k)))]++[.ref 0 0]) [(0,.box 36 ((Enc.enc q).map .p))] 1 (.bool (decide (12<(Ja q (IY q k)).length))):=fun k hk=>dB q hq _ (KZ hk) (Tc hq hk)
 unfold b0d;generalize hP:(fun i=>decide (12<(Ja q (IY q i)).length))=P at *;have hM:∀ k,k<(A8 q.p).length→Eh env 83 ([.p (.agg (Enc.enc (gi (A8 q.p) k)))]++[.ref 0 0]) [(0,.box 36 ((Enc.enc q).map .p))] 1 (.bool (P k)):=fun k hk=>by grind
 generalize A8 q.p=S at *;refine Ap.enter (Ae (by decide)) Tryz.func36 rfl (by kernel_rfl) (by simp) ?_
 repeat' (first|(apply Aa.fn;rfl;rfl;exact hS;intro _;rfl)|(apply Aa.makeFunc;rfl;rfl)|(apply b2y;rfl;rfl;rfl;exact le_dec rfl)|(apply zX;rfl;rfl;rfl;exact le_dec rfl)|refine go2 ?_|fail)
 all_goals try (exfalso;omega)
 apply Ad.Ii (S.length) (fun k=>Xw P S.length (S.length-k)=Et P S.length) [(0,_),(1,_),(7,_)] [(0,_)] (fun k r=>(8,.p (.int .i64 (k:Int)))::r) (fun k r=>r) 1
 ·simp
 ·simp
 ·exact Nl
 ·exact O7
 ·rfl
 ·intro k hk hi
  have hC:=hM k hk;by_cases hp:P k=true
  ·rw [hp] at hC
   have e1:Et P S.length=(k:Int):=by rw [← hi,Yi hk hp]
   rw [e1]
   repeat' (first|(apply Aa.read [0] hC;rfl;rfl;exact .of_eq rfl;exact CS.Az rfl;exact CX rfl;(repeat (first|exact trivial|refine ⟨⟨_,rfl,.of_eq rfl⟩,?_⟩));decide;(intro _ hb;simp at hb<;>omega);rfl)|(apply Aa.Ak;rfl;rfl;rfl;omega;rfl)|refine go2 ?_|(apply AB.ret;rfl)|(apply Aa.int;rfl;rfl;rfl)|(apply Ad.Ac;rfl)|(apply Ad.cond_true;rfl)|(intro _;try (exfalso;omega)))
   all_goals first|(exfalso;omega)|contradiction|(refine Done.rt rfl rfl ⟨?_,rfl,rfl⟩;try rfl)
  ·have hp':P k=false:=by simpa using hp
   rw [hp'] at hC
   repeat' (first|(apply Aa.read [0] hC;rfl;rfl;exact .of_eq rfl;exact CS.Az rfl;exact CX rfl;(repeat (first|exact trivial|refine ⟨⟨_,rfl,.of_eq rfl⟩,?_⟩));decide;(intro _ hb;simp at hb<;>omega);rfl)|(apply Aa.Ak;rfl;rfl;rfl;omega;rfl)|refine go2 ?_|(apply Aa.int;rfl;rfl;rfl)|(apply Ad.Ac;rfl)|(apply Ad.cond_false;rfl)|(intro _;try (exfalso;omega)))
   all_goals try (exfalso;omega)
   all_goals try contradiction
   refine Ag.normal ⟨((TV hk hp').symm.trans hi),by first|omega|decide,?_,?_⟩
   ·exact C9
   ·exact DT
 ·intro hi
  have e1:Et P S.length=-1:=by rw [← hi,cY];rfl
  rw [e1]
  repeat' (first|refine IG ?_|(apply AB.ret;rfl)|(apply Ad.Ac;rfl)|(intro _;try (exfalso;omega)))
  all_goals first|(exfalso;omega)|(refine Done.rt rfl rfl ⟨?_,rfl,rfl⟩;try rfl)
noncomputable def hcE (q:Qu):Int:=if XV q.o q.p=0 then a8u q.y else XV q.o q.p
theorem vV {q:Qu} (hq:Jy q):hcE q=0:=by
 unfold hcE;rw [if_pos hq.e,jB hq.y]
theorem P9 (q:Qu) (ho:TW q.o) (hp:bH q.p):Ap env 33 [.agg (Enc.enc q)] (.p (.int .i64 (hcE q))):=by
 have hc:=RJ q.o q.p ho hp;have hs:=KL q.y;unfold hcE;generalize XV q.o q.p=e1 at *;by_cases h:e1=0
 ·subst h
  refine Ap.enter (Ae (by decide)) Tryz.func33 rfl (by kernel_rfl) (by simp) ?_
  repeat' (first|(apply Aa.fn;rfl;rfl;exact hc;intro _;rfl)|(apply Aa.fn;rfl;rfl;exact hs;intro _;rfl)|refine go2 ?_|(apply Aa.int;rfl;rfl;rfl)|(apply Ad.Ai;rfl))
  all_goals first|(exfalso;omega)|contradiction|(refine Done.rt rfl rfl ⟨?_,rfl,rfl⟩;try rfl)
 ·rw [if_neg h]
  refine Ap.enter (Ae (by decide)) Tryz.func33 rfl (by kernel_rfl) (by simp) ?_
  repeat' (first|(apply Aa.fn;rfl;rfl;exact hc;intro _;rfl)|refine go2 ?_|(apply Aa.int;rfl;rfl;rfl)|(apply Ad.Ac;rfl)|(intro _))
  all_goals first|(exfalso;omega)|contradiction|(refine Done.rt rfl rfl ⟨?_,rfl,rfl⟩;try rfl)
def V4 (q:Qu) (l:List Int) (i:Nat):Bool:=decide (0≤gi l i)&&decide (gi l i≤2)&&!(GR q i != decide (gi l i=2))
theorem iq {q:Qu} {l:List Int} {i:Nat} (h:V4 q l i=true):0≤gi l i∧gi l i≤2∧(GR q i != decide (gi l i=2))=false:=by
 unfold V4 at h;grind
theorem xA {q:Qu} {l:List Int} {i:Nat} (h:V4 q l i=false):gi l i<0∨2<gi l i∨(0≤gi l i∧gi l i≤2∧(GR q i != decide (gi l i=2))=true):=by
 unfold V4 at h;grind
def Vj (q:Qu) (l:List Int):Int:=if l.length=q.p.notes.length then if Et (fun i=>!V4 q l i) l.length=-1 then 0 else 12 else 5
theorem a3v (q:Qu) (hq:Jy q) (l:List Int) (hll:l.length<1000000):Ap env 44 [.agg (Enc.enc q),.lst 3 (cells l) l.length] (.p (.int .i64 (Vj q l))):=by
 have hc:=P9 q hq.o.sm hq.p.sm;rw [vV hq] at hc;unfold Vj;by_cases hl:l.length=q.p.notes.length
 ·rw [if_pos hl]
  generalize hP:(fun i=>!V4 q l i)=P at *;have hPk:∀ k,P k=!V4 q l k:=fun k=>by rw [← hP]
  refine Ap.enter (Ae (by decide)) Tryz.func44 rfl (by kernel_rfl) (by simp [Tryz.ntmps44]) ?_
  repeat' (first|(apply Aa.fn;rfl;rfl;exact hc;intro _;rfl)|refine go2 ?_|(apply Aa.int;rfl;rfl;rfl)|(apply Ad.Ai;rfl)|(apply Ad.Ac;rfl)|(intro _;try (exfalso;omega)))
  all_goals try (exfalso;omega)
  all_goals try contradiction
  apply Ad.Ii (l.length) (fun k=>Xw P l.length (l.length-k)=Et P l.length) [(2,_),(20,_),(21,_)] [(0,_)] (fun k r=>(22,.p (.int .i64 (k:Int)))::r) (fun k r=>r) 1
  ·first|omega|decide
  ·first|omega|decide
  ·exact Nl
  ·exact O7
  ·first|(intro _ _;omega)|omega|trivial
  ·intro k hk hi
   have hC:=Nz q hq k (by omega);cases hp:V4 q l k with
   |true =>
    obtain ⟨g1,g2,hb⟩:=iq hp;have hp':P k=false:=by rw [hPk,hp];rfl
    repeat' (first|(apply Aa.UF hC;rfl;rfl;exact .of_eq rfl;exact CS.Az rfl)|(apply Aa.b8b;rfl;rfl;rfl;exact hb)|(apply Aa.Ak;rfl;rfl;rfl;omega;rfl)|refine IE ?_|(apply Aj.guard;rfl;rfl)|(apply Aa.int;rfl;rfl;rfl)|(apply Ad.Ac;rfl)|(apply Ad.cond_false;rfl)|(intro _;try (exfalso;omega)))
    all_goals try (exfalso;omega)
    all_goals try contradiction
    refine Ag.normal ⟨((TV hk hp').symm.trans hi),by first|omega|decide,?_,?_⟩
    ·exact C9
    ·exact DT
   |false =>
    have hp':P k=true:=by rw [hPk,hp];rfl
    have e1:Et P l.length=(k:Int):=by rw [← hi,Yi hk hp']
    rw [if_neg (by rw [e1];omega)];rcases xA hp with g|g|⟨g1,g2,hb⟩
    all_goals
     repeat' (first|(apply Aa.UF hC;rfl;rfl;exact .of_eq rfl;exact CS.Az rfl)|(apply Aa.b8b;rfl;rfl;rfl;exact hb)|(apply Aa.Ak;rfl;rfl;rfl;omega;rfl)|refine IE ?_|(apply Aj.guard;rfl;rfl)|(apply Aa.int;rfl;rfl;rfl)|(apply Ad.Ac;rfl)|(apply Ad.cond_true;rfl)|(intro _;try (exfalso;omega)))
    all_goals first|(exfalso;omega)|contradiction|(refine Done.rt rfl rfl ⟨?_,rfl,rfl⟩;try rfl)
  ·intro hi
   have e1:Et P l.length=-1:=by rw [← hi,cY];rfl
   rw [if_pos e1]
   repeat' (first|refine IG ?_|(apply Ad.Ac;rfl)|(intro _;try (exfalso;omega)))
   all_goals first|(exfalso;omega)|(refine Done.rt rfl rfl ⟨?_,rfl,rfl⟩;try rfl)
 ·rw [if_neg hl]
  refine Ap.enter (Ae (by decide)) Tryz.func44 rfl (by kernel_rfl) (by simp [Tryz.ntmps44]) ?_
  repeat' (first|(apply Aa.fn;rfl;rfl;exact hc;intro _;rfl)|refine go2 ?_|(apply Aa.int;rfl;rfl;rfl)|(apply Ad.Ai;rfl)|(apply Ad.Ac;rfl)|(intro _;try (exfalso;omega)))
  all_goals first|(exfalso;omega)|contradiction|(refine Done.rt rfl rfl ⟨?_,rfl,rfl⟩;try rfl)
def YZ (q:Qu) (l:List Int):Int:=if Vj q l=0 then if 0≤wM q l then 24 else 0 else Vj q l
theorem bT {q:Qu} {l:List Int} (h:Vj q l=0):l.length=q.p.notes.length:=by
 unfold Vj at h;omega
theorem bF (q:Qu) (hq:Jy q) (l:List Int) (hll:l.length<1000000):Ap env 13 [.agg (Enc.enc q),.lst 3 (cells l) l.length] (.p (.int .i64 (YZ q l))):=by
 have hc:=a3v q hq l hll;unfold YZ;by_cases h:Vj q l=0
 ·have hf:=dU q hq l (bT h)
  rw [if_pos h];rw [h] at hc;generalize wM q l=c at *;by_cases h2:0≤c
  ·rw [if_pos h2]
   refine Ap.enter (Ae (by decide)) Tryz.func13 rfl (by kernel_rfl) (by simp [Tryz.ntmps13]) ?_
   repeat' (first|(apply Aa.fn;rfl;rfl;exact hc;intro _;rfl)|(apply Aa.fn;rfl;rfl;exact hf;intro _;rfl)|refine go2 ?_|(apply Aa.int;rfl;rfl;rfl)|(apply Ad.Ai;rfl)|(apply Ad.Ac;rfl)|(intro _;try (exfalso;omega)))
   all_goals first|(exfalso;omega)|contradiction|(refine Done.rt rfl rfl ⟨?_,rfl,rfl⟩;try rfl)
  ·rw [if_neg h2]
   refine Ap.enter (Ae (by decide)) Tryz.func13 rfl (by kernel_rfl) (by simp [Tryz.ntmps13]) ?_
   repeat' (first|(apply Aa.fn;rfl;rfl;exact hc;intro _;rfl)|(apply Aa.fn;rfl;rfl;exact hf;intro _;rfl)|refine go2 ?_|(apply Aa.int;rfl;rfl;rfl)|(apply Ad.Ai;rfl)|(apply Ad.Ac;rfl)|(intro _;try (exfalso;omega)))
   all_goals first|(exfalso;omega)|contradiction|(refine Done.rt rfl rfl ⟨?_,rfl,rfl⟩;try rfl)
 ·rw [if_neg h]
  generalize Vj q l=c at *;refine Ap.enter (Ae (by decide)) Tryz.func13 rfl (by kernel_rfl) (by simp [Tryz.ntmps13]) ?_
  repeat' (first|(apply Aa.fn;rfl;rfl;exact hc;intro _;rfl)|refine go2 ?_|(apply Aa.int;rfl;rfl;rfl)|(apply Ad.Ac;rfl)|(intro _;try (exfalso;omega)))
  all_goals first|(exfalso;omega)|contradiction|(refine Done.rt rfl rfl ⟨?_,rfl,rfl⟩;try rfl)
def mvC (a b:Wp):Int:=max (a.k-b.k) (b.k-a.k)+if a.d=b.d then 0 else 12
def Wp.Ok (a:Wp):Prop:=0≤a.k∧a.k≤127
theorem QI {a b:Wp} (ha:a.Ok) (hb:b.Ok):0≤mvC a b∧mvC a b≤139:=by
 obtain ⟨a1,a2⟩:=ha;obtain ⟨b1,b2⟩:=hb;unfold mvC;split<;>omega
theorem Vt (a b:Wp) (ha:a.Ok) (hb:b.Ok):Ap env 57 [.agg (Enc.enc a),.agg (Enc.enc b)] (.p (.int .i64 (mvC a b))):=by
 obtain ⟨a1,a2⟩:=ha;obtain ⟨b1,b2⟩:=hb;unfold mvC;by_cases h:a.d=b.d
 ·rw [if_pos h,Int.add_zero]
  refine Ap.enter (Ae (by decide)) Tryz.func57 rfl (by kernel_rfl) (by simp) ?_
  repeat' (first|refine IG ?_|(apply Aa.b1c;rfl;rfl)|(apply Ad.Ac;rfl)|(intro _))
  all_goals first|(omega)|contradiction|(refine Done.rt rfl rfl ⟨?_,rfl,rfl⟩;try rfl)
 ·rw [if_neg h]
  refine Ap.enter (Ae (by decide)) Tryz.func57 rfl (by kernel_rfl) (by simp) ?_
  repeat' (first|refine IG ?_|(apply Aa.b1c;rfl;rfl)|(apply Ad.Ac;rfl)|(intro _))
  all_goals first|(exfalso;omega)|contradiction|(refine Done.rt rfl rfl ⟨?_,rfl,rfl⟩;try rfl)
structure Pos where
 h:Int
 i:Int
 c:Wp
deriving DecidableEq
instance:Enc Pos:={ default:=⟨0,0,⟨0,0⟩⟩,enc:=fun x=>[.int .i64 x.h,.int .i64 x.i,.int .i64 x.c.d,.int .i64 x.c.k],size:=4,len:=fun _=>rfl }
def Fh (q:Qu) (l:List Int) (h:Int) (i:Nat):Bool×Wp:=TG q.p (IY q i) l h (IY q i).length
def Dq (q:Qu) (l:List Int) (h:Int):Nat→List Pos
 |0=>[]
 |k+1=>if (Fh q l h k).1=true then Dq q l h k++[⟨h,k,(Fh q l h k).2⟩] else Dq q l h k
theorem Nw (q:Qu) (l:List Int) (h:Int):∀ k,(Dq q l h k).length≤k
 |0=>ab _
 |k+1=>by
  have:=Nw q l h k;unfold Dq;grind
def TY (q:Qu) (l:List Int):List Pos:=Dq q l 0 (A8 q.p).length++Dq q l 1 (A8 q.p).length
theorem bU (q:Qu) (hq:Jy q) (l:List Int) (hl:l.length=q.p.notes.length):Ap env 56 [.agg (Enc.enc q),.lst 3 (cells l) l.length] (.p (.lst 151 (cells (TY q l)) (TY q l).length)):=by
 have hS:=IZ q hq;have hSl:=Kq q.p;have hn:=hq.p.notes;have hIn:∀ k,k<(A8 q.p).length→dH q (gi (A8 q.p) k).notes∧(gi (A8 q.p) k).notes.length≤1000:=fun k hk=>⟨KZ hk,Tc hq hk⟩
 have hP0:=Nw q l 0 (A8 q.p).length;unfold TY;obtain ⟨S,hSe⟩:∃ S,S=A8 q.p:=⟨_,rfl⟩
 rw [← hSe] at hS hSl hIn hP0 ⊢;refine Ap.enter (Ae (by decide)) Tryz.func56 rfl (by kernel_rfl) (by simp [Tryz.ntmps56]) ?_
 repeat' (first|(refine Ad.at 2 ?_;refine Ad.ghost (Aw.adopt 5 151 rfl) ?_;first|apply Ad.Bz|apply Ad.Cm)|(refine Aj.HY 14 ?_;refine Aj.ghost (Aw.freeze 13 rfl rfl) ?_)|apply Ad.assoc|apply Ad.Bz|apply Ad.Fz|apply Aj.nil|apply Aj.one|(apply Aa.assign;rfl)|(apply Aa.move;rfl)|(apply Aa.qy;rfl;rfl)|(apply Aa.box;rfl;trivial)|(apply Aa.buildSlice;rfl;rfl;rfl;decide;rfl;rfl;rfl))
 all_goals try (exfalso;omega)
 refine Ad.zW 2 ?_
 repeat' (first|(apply Aa.fn;rfl;rfl;exact hS;intro _;rfl)|(apply Aa.tV;rfl;rfl;rfl;decide;decide)|refine go2 ?_|apply Ad.Hq|(apply OT.succ)|(apply Aa.int;rfl;rfl;rfl)|(apply Ad.AV;rfl))
 all_goals try (exfalso;omega)
 apply Ad.Fq (S.length) [(1,_),(2,_),(13,_),(14,_),(15,_),(7,_),(20,_),(21,_)] [(0,_)] (fun k r=>(22,.p (.int .i64 (k:Int)))::(5,.vec 1 (([]:List Pos)++Dq q l 0 k).length 0 (([]:List Pos)++Dq q l 0 k).length)::r) (fun k r=>(1,.vec 151 (cells (([]:List Pos)++Dq q l 0 k)) (([]:List Pos)++Dq q l 0 k).length true)::r) 3
 ·first|omega|decide
 ·first|omega|decide
 ·exact Nl
 ·exact O7
 ·intro k hk
  have hh:=KD q hq (gi S k) (hIn k hk).1 (hIn k hk).2 l 0 hl;have e1:Dq q l 0 (k+1)=if (Fh q l 0 k).1=true then Dq q l 0 k++[⟨0,k,(Fh q l 0 k).2⟩] else Dq q l 0 k:=rfl
  have hpl:=Nw q l 0 k;have hat:TG q.p (gi S k).notes l 0 (gi S k).notes.length=Fh q l 0 k:=by unfold Fh IY;rw [hSe]
  rw [hat] at hh;rw [e1];clear e1 hat;generalize Fh q l 0 k=r at *;generalize Vb q (gi S k).notes l 0=cb at *;obtain ⟨c,a⟩:=r;generalize Dq q l 0 k=X at *;cases c with
  |true =>
   rw [if_pos rfl];have e2:([]:List Pos)++(X++[(⟨0,k,a⟩:Pos)])=(([]:List Pos)++X)++[⟨0,k,a⟩]:=(bR _ _ _).symm;have e3:(([]:List Pos)++X++[(⟨0,k,a⟩:Pos)]).length=(([]:List Pos)++X).length+1:=by rw [aw];rfl
   have hpr:(([]:List Pos)).length≤5000:=an _;have e4:(([]:List Pos)++X).length≤10000:=by rw [aw];omega
   rw [e2,e3];generalize ([]:List Pos)++X=Y at *
   repeat' (first|(apply Aa.fn;rfl;rfl;exact hh;intro _;rfl)|(apply Aa.Dc (l:=Y) (a:=(⟨0,k,a⟩:Pos));rfl;rfl;rfl;rfl;rfl;rfl;rfl;rfl;(intro _ h;cases h);rfl;rfl;rfl;decide;decide;omega)|(apply Aa.Ak;rfl;rfl;rfl;omega;rfl)|refine go2 ?_|(apply Aa.int;rfl;rfl;rfl)|(apply Aa.build;rfl;rfl;rfl;rfl;rfl)|(apply Aa.buildSlice;rfl;rfl;rfl;decide;rfl;rfl;rfl)|(apply Ad.Ac;rfl)|(apply Ad.cond_true;rfl)|(intro _;try (exfalso;omega)))
   all_goals try (exfalso;omega)
   all_goals try contradiction
   refine Ag.normal ⟨by first|omega|decide,?_,?_⟩
   ·exact C9
   ·exact DT
  |false =>
   simp only [Bool.false_eq_true,if_false]
   repeat' (first|(apply Aa.fn;rfl;rfl;exact hh;intro _;rfl)|(apply Aa.Ak;rfl;rfl;rfl;omega;rfl)|refine go2 ?_|(apply Aa.int;rfl;rfl;rfl)|(apply Ad.Ac;rfl)|(apply Ad.cond_false;rfl)|(intro _;try (exfalso;omega)))
   all_goals try (exfalso;omega)
   all_goals try contradiction
   refine Ag.normal ⟨by first|omega|decide,?_,?_⟩
   ·exact C9
   ·exact DT
 ·rw [fc]
  repeat' (first|(apply Aa.fn;rfl;rfl;exact hS;intro _;rfl)|(apply Aa.tV;rfl;rfl;rfl;decide;decide)|refine go2 ?_|apply Ad.Hq|(apply OT.succ)|(apply Ag.again)|(apply Aa.int;rfl;rfl;rfl)|(apply Ad.AV;rfl)|(apply Ad.Ac;rfl)|(intro _;try (exfalso;omega)))
  all_goals try (exfalso;omega)
  have e0:Dq q l 0 S.length=Dq q l 0 S.length++Dq q l 1 0:=(cJ _).symm;rw [e0];apply Ad.Fq (S.length) [(1,_),(2,_),(13,_),(14,_),(15,_),(7,_),(20,_),(21,_)] [(0,_)] (fun k r=>(22,.p (.int .i64 (k:Int)))::(5,.vec 1 (Dq q l 0 S.length++Dq q l 1 k).length 0 (Dq q l 0 S.length++Dq q l 1 k).length)::r) (fun k r=>(1,.vec 151 (cells (Dq q l 0 S.length++Dq q l 1 k)) (Dq q l 0 S.length++Dq q l 1 k).length true)::r) 3
  ·first|omega|decide
  ·first|omega|decide
  ·exact Nl
  ·exact O7
  ·intro k hk
   have hh:=KD q hq (gi S k) (hIn k hk).1 (hIn k hk).2 l 1 hl;have e1:Dq q l 1 (k+1)=if (Fh q l 1 k).1=true then Dq q l 1 k++[⟨1,k,(Fh q l 1 k).2⟩] else Dq q l 1 k:=rfl
   have hpl:=Nw q l 1 k;have hat:TG q.p (gi S k).notes l 1 (gi S k).notes.length=Fh q l 1 k:=by unfold Fh IY;rw [hSe]
   rw [hat] at hh;rw [e1];clear e1 hat;generalize Fh q l 1 k=r at *;generalize Vb q (gi S k).notes l 1=cb at *;obtain ⟨c,a⟩:=r;generalize Dq q l 1 k=X at *;cases c with
   |true =>
    rw [if_pos rfl];have e2:Dq q l 0 S.length++(X++[(⟨1,k,a⟩:Pos)])=(Dq q l 0 S.length++X)++[⟨1,k,a⟩]:=(bR _ _ _).symm;have e3:(Dq q l 0 S.length++X++[(⟨1,k,a⟩:Pos)]).length=(Dq q l 0 S.length++X).length+1:=by rw [aw];rfl
    have hpr:(Dq q l 0 S.length).length≤5000:=by omega
    have e4:(Dq q l 0 S.length++X).length≤10000:=by rw [aw];omega
    rw [e2,e3];generalize Dq q l 0 S.length++X=Y at *
    repeat' (first|(apply Aa.fn;rfl;rfl;exact hh;intro _;rfl)|(apply Aa.Dc (l:=Y) (a:=(⟨1,k,a⟩:Pos));rfl;rfl;rfl;rfl;rfl;rfl;rfl;rfl;(intro _ h;cases h);rfl;rfl;rfl;decide;decide;omega)|(apply Aa.Ak;rfl;rfl;rfl;omega;rfl)|refine go2 ?_|(apply Aa.int;rfl;rfl;rfl)|(apply Aa.build;rfl;rfl;rfl;rfl;rfl)|(apply Aa.buildSlice;rfl;rfl;rfl;decide;rfl;rfl;rfl)|(apply Ad.Ac;rfl)|(apply Ad.cond_true;rfl)|(intro _;try (exfalso;omega)))
    all_goals try (exfalso;omega)
    all_goals try contradiction
    refine Ag.normal ⟨by first|omega|decide,?_,?_⟩
    ·exact C9
    ·exact DT
   |false =>
    simp only [Bool.false_eq_true,if_false]
    repeat' (first|(apply Aa.fn;rfl;rfl;exact hh;intro _;rfl)|(apply Aa.Ak;rfl;rfl;rfl;omega;rfl)|refine go2 ?_|(apply Aa.int;rfl;rfl;rfl)|(apply Ad.Ac;rfl)|(apply Ad.cond_false;rfl)|(intro _;try (exfalso;omega)))
    all_goals try (exfalso;omega)
    all_goals try contradiction
    refine Ag.normal ⟨by first|omega|decide,?_,?_⟩
    ·exact C9
    ·exact DT
  ·rw [← e0]
   repeat' (first|(refine Aj.HY 4 ?_;refine Aj.ghost (Aw.freeze 46 rfl rfl) ?_)|apply Ad.Bz|apply Ad.region|apply Ad.EN|apply BL.normal|apply Bf.normal|apply Bf.exit|apply Ag.exit|apply Ad.ret|apply Aj.nil|apply Aj.one|(apply OT.zero)|(apply Ag.again)|(apply Aa.assign;rfl)|(apply Aa.move;rfl)|(apply Aa.LQ;rfl;rfl;omega)|(apply Aa.int;rfl;rfl;rfl)|(apply Ad.Ai;rfl)|(apply Ad.Ac;rfl)|(intro _;try (exfalso;omega)))
   all_goals first|(exfalso;omega)|contradiction|(refine Done.rt rfl rfl ⟨?_,rfl,rfl⟩;try rfl)
def kN (L:List Pos):Nat→Int
 |0=>0
 |k+1=>if (gi L (k+1)).h=(gi L k).h then kN L k+mvC (gi L k).c (gi L (k+1)).c else kN L k
def GY (q:Qu) (l:List Int):Int:=kN (TY q l) ((TY q l).length-1)
theorem Vg {q:Qu} (hq:Jy q) {N:List Int} (hN:dH q N) (l:List Int) (h:Int):∀ k,k≤N.length→(TG q.p N l h k).2.Ok
 |0,_=>⟨bc _,by show (0:Int)≤127;omega⟩
 |k+1,hk=>by
  have ih:=Vg hq hN l h k (by omega);obtain ⟨g1,g2⟩:=hN k (by omega);have hh:=hq.p.note (gi N k).toNat (by omega);have h1:=hq.o.cmp (i:=(gi q.p.notes (gi N k).toNat).d.toNat) (by have:=hh.d;omega);have h2:=hh.k;unfold TG;split
  ·exact ⟨by grind,by grind⟩
  omega
theorem mF {q:Qu} (hq:Jy q) (l:List Int) (h:Int):∀ k,k≤(A8 q.p).length→∀ x∈Dq q l h k,x.c.Ok
 |0,_,x,hx=>absurd hx be
 |k+1,hk,x,hx=>by
  have ih:=mF hq l h k (by omega);unfold Dq at hx;split at hx
  ·rcases bk.1 hx with hx|hx
   ·grind
   ·rw [aL] at hx
    subst hx;exact Vg hq (KZ (by omega)) l h _ (ab _)
  grind
theorem b0e {q:Qu} (hq:Jy q) (l:List Int):∀ i,i<(TY q l).length→(gi (TY q l) i).c.Ok:=fun i hi=>by
 have hm:gi (TY q l) i∈TY q l:=by
  unfold gi;grind
 rcases bk.1 (show gi (TY q l) i∈Dq q l 0 (A8 q.p).length++Dq q l 1 (A8 q.p).length from hm) with h|h
 ·exact mF hq l 0 _ (ab _) _ h
 ·exact mF hq l 1 _ (ab _) _ h
theorem b0t {q:Qu} (hq:Jy q) (l:List Int):(TY q l).length≤4002:=by
 have h1:=Nw q l 0 (A8 q.p).length;have h2:=Nw q l 1 (A8 q.p).length;have h3:=Kq q.p;have h4:=hq.p.notes;unfold TY;grind
theorem zA {L:List Pos} (h:∀ i,i<L.length→(gi L i).c.Ok):∀ k,k<L.length→0≤kN L k∧kN L k≤139*k
 |0,_=>⟨bc _,bc _⟩
 |k+1,hk=>by
  have ih:=zA h k (by omega);have hm:=QI (h k (by omega)) (h (k+1) hk);unfold kN;split<;>omega
theorem eY (q:Qu) (hq:Jy q) (l:List Int) (hll:l.length<1000000) (hE:YZ q l=0):Ap env 23 [.agg (Enc.enc q),.lst 3 (cells l) l.length] (.D9 [.p (.int .i64 (GY q l)),.p (.int .i64 0)]):=by
 have hc:=bF q hq l hll;rw [hE] at hc;have hl:l.length=q.p.notes.length:=by
  by_cases h:Vj q l=0
  ·exact bT h
  ·unfold YZ at hE
   rw [if_neg h] at hE;exact absurd hE h
 have hP:=bU q hq l hl;have hok:=b0e hq l;have hle:=b0t hq l;unfold GY;generalize TY q l=L at *;rcases bm L.length with h0|h0
 ·have e0:kN L (L.length-1)=0:=by rw [h0];rfl
  rw [e0];refine Ap.enter (Ae (by decide)) Tryz.func23 rfl (by kernel_rfl) (by simp [Tryz.ntmps23]) ?_
  repeat' (first|(apply Aa.fn;rfl;rfl;exact hc;intro _;rfl)|(apply Aa.fn;rfl;rfl;exact hP;intro _;rfl)|refine go2 ?_|(apply Aa.int;rfl;rfl;rfl)|(apply Ad.Ai;rfl))
  all_goals try (exfalso;omega)
  all_goals try contradiction
  refine Ad.zW 0 ?_
  repeat' (first|refine IG ?_|(apply OT.zero)|(apply Ad.Ac;rfl)|(intro _;try (exfalso;omega)))
  all_goals first|(exfalso;omega)|contradiction|(refine Done.rt rfl rfl ⟨?_,rfl,rfl⟩;try rfl)
 ·refine Ap.enter (Ae (by decide)) Tryz.func23 rfl (by kernel_rfl) (by simp [Tryz.ntmps23]) ?_
  repeat' (first|(apply Aa.fn;rfl;rfl;exact hc;intro _;rfl)|(apply Aa.fn;rfl;rfl;exact hP;intro _;rfl)|refine go2 ?_|(apply Aa.int;rfl;rfl;rfl)|(apply Ad.Ai;rfl))
  all_goals try (exfalso;omega)
  all_goals try contradiction
  apply Ad.Fq ((L.length-1)) [(2,_),(8,_)] [(0,_)] (fun k r=>(9,.p (.int .i64 ((k:Int)+1)))::(7,.p (.int .i64 (kN L k)))::r) (fun k r=>r) 1
  ·first|omega|decide
  ·first|omega|decide
  ·exact Nl
  ·exact O7
  ·intro k hk
   have hr:=zA hok k (by omega);have hm:=Vt (gi L k).c (gi L (k+1)).c (hok k (by omega)) (hok (k+1) (by omega));have hmr:=QI (hok k (by omega)) (hok (k+1) (by omega));have e1:kN L (k+1)=if (gi L (k+1)).h=(gi L k).h then kN L k+mvC (gi L k).c (gi L (k+1)).c else kN L k:=rfl
   rw [e1];have hx:((k:Int)+1)=((k+1:Nat):Int):=by omega
   have hx2:((k:Int)+1-1)=((k:Nat):Int):=by omega
   by_cases h:(gi L (k+1)).h=(gi L k).h;all_goals first|rw [if_pos h]|rw [if_neg h]
   all_goals
    repeat' (first|(apply Aa.fn;rfl;rfl;exact hm;intro _;rfl)|(apply Aa.Ak (l:=L) (i:=k+1);rfl;exact congrArg (fun b=>some (PV.p (.int .i64 b))) hx;rfl;omega;rfl)|(apply Aa.Ak (l:=L) (i:=k);rfl;exact congrArg (fun b=>some (PV.p (.int .i64 b))) hx2;rfl;omega;rfl)|refine IE ?_|(apply Aa.int;rfl;rfl;rfl)|(apply Ad.Ac;rfl)|(apply Ad.Ar;rfl)|(intro _;try (exfalso;omega)))
   all_goals try (exfalso;omega)
   all_goals try contradiction
   all_goals
    refine Ag.normal ⟨by first|omega|decide,?_,?_⟩
    ·exact C9
    ·exact DT
  ·repeat' (first|refine IG ?_|(apply Ad.Ac;rfl)|(intro _;try (exfalso;omega)))
   all_goals first|(exfalso;omega)|contradiction|(refine Done.rt rfl rfl ⟨?_,rfl,rfl⟩;try rfl)
theorem yw (q:Qu) (v:FV) (e:Int) (he:e≠0) (hc:Ap env 13 [.agg (Enc.enc q),v] (.p (.int .i64 e))):Ap env 23 [.agg (Enc.enc q),v] (.D9 [.p (.int .i64 0),.p (.int .i64 e)]):=by
 refine Ap.enter (Ae (by decide)) Tryz.func23 rfl (by kernel_rfl) (by simp [Tryz.ntmps23]) ?_
 repeat' (first|(apply Aa.fn;rfl;rfl;exact hc;intro _;rfl)|refine go2 ?_|(apply Aa.int;rfl;rfl;rfl)|(apply Ad.Ac;rfl)|(intro _;try (exfalso;omega)))
 all_goals first|(exfalso;omega)|contradiction|(refine Done.rt rfl rfl ⟨?_,rfl,rfl⟩;try rfl)
def VT (q:Qu) (k:Nat):List Int:=Bv (fun i=>if i<k∧GR q i=true then 2 else 0) q.p.notes.length
def Nk (q:Qu):List Int:=VT q q.p.notes.length
theorem Nr (q:Qu) (k:Nat):(VT q k).length=q.p.notes.length:=Cj _ _
theorem gV (q:Qu):∀ n,List.replicate n (0:Int)=Bv (fun i=>if i<0∧GR q i=true then (2:Int) else 0) n
 |0=>rfl
 |n+1=>by
  rw [gN,gV q n];rfl
theorem a7b (q:Qu) {k:Nat} (hk:k<q.p.notes.length) (h:GR q k=true):(VT q k).set k 2=VT q (k+1):=by
 refine Kt (by rw [cH,Nr,Nr]) fun i hi=>?_
 rw [cH,Nr] at hi;unfold VT;rw [Gm,D7 _ hi,D7 _ hi,Cj];grind
theorem a0i (q:Qu) {k:Nat} (h:GR q k=false):VT q k=VT q (k+1):=by
 unfold VT;grind
theorem YO (q:Qu) (hq:Jy q):Ap env 37 [.agg (Enc.enc q)] (.p (.lst 3 (cells (Nk q)) (Nk q).length)):=by
 have n1:=hq.p.notes;have hB:(Nk q).length=q.p.notes.length:=Nr _ _;rw [hB];have hz:List.replicate q.p.notes.length (0:Int)=VT q 0:=gV q _;refine Ap.enter (Ae (by decide)) Tryz.func37 rfl (by kernel_rfl) (by simp [Tryz.ntmps37]) ?_
 repeat' (first|(apply Aa.OB q.p.notes.length (0:Int);rfl;rfl;rfl;rfl;rfl;rfl;rfl;omega;decide;decide;rfl)|(apply Aa.lenV;rfl;rfl;rfl)|refine go2 ?_|fail)
 all_goals try (exfalso;omega)
 rw [hz];apply Ad.Fq (q.p.notes.length) [(1,_),(3,_),(11,_)] [(0,_)] (fun k r=>(12,.p (.int .i64 (k:Int)))::r) (fun k r=>(1,.vec 3 (cells (VT q k)) q.p.notes.length false)::r) 2
 ·first|omega|decide
 ·first|omega|decide
 ·exact Nl
 ·exact O7
 ·intro k hk
  have hC:=Nz q hq k hk;have hl:=Nr q k;cases hp:GR q k with
  |true =>
   have e1:=a7b q hk hp;rw [hp] at hC
   repeat' (first|(apply Aa.UF hC;rfl;rfl;exact .of_eq rfl;exact CS.Az rfl)|(apply Aa.D5 (l:=VT q k) (i:=k);rfl;rfl;rfl;rfl;omega)|(apply Aa.Ko (l:=VT q k) (i:=k) (y:=(2:Int));rfl;rfl;rfl;trivial;rfl;rfl;rfl;decide;omega)|refine go2 ?_|(apply Aa.int;rfl;rfl;rfl)|(apply Ad.Ac;rfl)|(apply Ad.cond_true;rfl)|(intro _;try (exfalso;omega)))
   all_goals try (exfalso;omega)
   all_goals try contradiction
   refine Ag.normal ⟨by first|omega|decide,?_,?_⟩
   ·try (rw [← e1])
    exact C9
   ·rw [← e1]
    exact DT
  |false =>
   have e1:=a0i q hp;rw [hp] at hC
   repeat' (first|(apply Aa.UF hC;rfl;rfl;exact .of_eq rfl;exact CS.Az rfl)|refine go2 ?_|(apply Aa.int;rfl;rfl;rfl)|(apply Ad.Ac;rfl)|(apply Ad.cond_false;rfl)|(intro _;try (exfalso;omega)))
   all_goals try (exfalso;omega)
   all_goals try contradiction
   refine Ag.normal ⟨by first|omega|decide,?_,?_⟩
   ·try (rw [← e1])
    exact C9
   ·rw [← e1]
    exact DT
 ·repeat' (first|(refine Aj.HY 2 ?_;refine Aj.ghost (Aw.freeze 22 rfl rfl) ?_)|apply Ad.Bz|apply Ad.EN|apply BL.normal|apply Bf.exit|apply Ag.exit|apply Ad.ret|apply Aj.nil|apply Aj.one|(apply Aa.assign;rfl)|(apply Aa.move;rfl)|(apply Aa.int;rfl;rfl;rfl)|(apply Ad.Ac;rfl)|(intro _;try (exfalso;omega)))
  all_goals first|(exfalso;omega)|(refine Done.rt rfl rfl ⟨?_,rfl,rfl⟩;try rfl)
theorem wL {H:Heap} {nx k:Nat} {e:TypeId} {cs:List FV} {o:Option PV} (h:o=some (.p (.lst e cs k))):∃ y,o=some y∧(∀ m F σ v,RP m F (htag H) σ nx y v→∃ a g,v=.slice a k g):=by
 refine ⟨_,h,fun m F σ v hr=>?_⟩;cases hr with
 |p hr=>cases hr<;>exact ⟨_,_,rfl⟩
def jS (N l:List Int):Nat→List UInt8
 |0=>[]
 |k+1=>jS N l k++[UInt8.ofNat (gi l (gi N k).toNat).toNat]
theorem Uo (N l:List Int):∀ k,(jS N l k).length=k
 |0=>rfl
 |k+1=>by
  show (jS N l k++[_]).length=k+1;rw [aw,Uo N l k];rfl
def O9 (N l:List Int):List UInt8:=jS N l N.length
theorem sS (q:Qu) (s:iT) (hN:dH q s.notes) (hNl:s.notes.length≤1000) (l:List Int) (hl:l.length=q.p.notes.length) (hr:∀ i,i<l.length→0≤gi l i∧gi l i≤2):Ap env 42 [.agg (Enc.enc q),.agg (Enc.enc s),.lst 3 (cells l) l.length] (st (O9 s.notes l)):=by
 unfold O9;refine Ap.enter (Ae (by decide)) Tryz.func42 rfl (by kernel_rfl) (by simp [Tryz.ntmps42]) ?_
 repeat' (first|(refine Ad.at 2 ?_;refine Ad.ghost (Aw.adopt 7 5 rfl) ?_;first|apply Ad.Bz|apply Ad.Cm)|refine go1 ?_|apply Ad.Bz)
 all_goals try (exfalso;omega)
 apply Ad.Fq (s.notes.length) [(2,_),(11,_),(12,_)] [] (fun k r=>(13,.p (.int .i64 (k:Int)))::(7,.vec 2 (jS s.notes l k).length 0 (jS s.notes l k).length)::r) (fun k r=>(2,.vec 5 (cells (jS s.notes l k)) (jS s.notes l k).length true)::r) 3
 ·first|omega|decide
 ·first|omega|decide
 ·exact Nl
 ·exact O7
 ·intro k hk
  obtain ⟨g1,g2⟩:=hN k hk;obtain ⟨m,hm⟩:∃ m:Nat,gi s.notes k=(m:Int):=⟨(gi s.notes k).toNat,by omega⟩
  have hm2:m<l.length:=by omega
  obtain ⟨r1,r2⟩:=hr m hm2;have e1:jS s.notes l (k+1)=jS s.notes l k++[UInt8.ofNat (gi l m).toNat]:=by rw [← ba m,← hm];rfl
  have e2:(jS s.notes l (k+1)).length=(jS s.notes l k).length+1:=by rw [e1,aw];rfl
  have e3:=Uo s.notes l k;have hb:(((UInt8.ofNat (gi l m).toNat).toNat:Nat):Int)=gi l m:=by rw [UInt8.toNat_ofNat'];omega
  generalize jS s.notes l k=X at *;rw [e2,e1];have he:[FV.int .u8 (gi l m)]=Enc.enc (UInt8.ofNat (gi l m).toNat):=by
   show _=[FV.int .u8 (((UInt8.ofNat (gi l m).toNat).toNat:Nat):Int)]
   rw [hb]
  repeat' (first|(apply Aa.Ak (l:=l) (i:=m);rfl;exact congrArg (fun b=>some (PV.p (.int .i64 b))) hm;rfl;omega;rfl)|(apply Aa.Nj;rfl;rfl;rfl;rfl;exact ⟨r1,by omega⟩)|(apply Aa.Dc (l:=X) (a:=UInt8.ofNat (gi l m).toNat);rfl;rfl;rfl;rfl;exact he;rfl;rfl;rfl;(intro _ h;cases h);rfl;rfl;rfl;decide;decide;omega)|(apply Aa.Ak;rfl;rfl;rfl;omega;rfl)|refine go2 ?_|(apply Aa.int;rfl;rfl;rfl)|(apply Aa.buildSlice;rfl;rfl;rfl;decide;rfl;rfl;rfl)|(apply Ad.Ac;rfl)|(intro _;try (exfalso;omega)))
  all_goals try (exfalso;omega)
  refine Ag.normal ⟨by first|omega|decide,?_,?_⟩
  ·exact C9
  ·exact DT
 ·have e3:=Uo s.notes l s.notes.length
  generalize jS s.notes l s.notes.length=X at *
  repeat' (first|(refine Aj.HY 27 ?_;refine Aj.ghost (Aw.freeze 26 rfl rfl) ?_)|apply Ad.Bz|apply Ad.EN|apply BL.normal|apply Bf.exit|apply Ag.exit|apply Ad.ret|apply Aj.nil|apply Aj.one|(apply Aa.ofBytes (l:=X) (k:=X.length);exact pW.lst rfl (by rw [CZ];rfl);exact wL rfl;rfl;rfl;rfl)|(apply Aa.assign;rfl)|(apply Aa.move;rfl)|(apply Aa.int;rfl;rfl;rfl)|(apply Ad.Ac;rfl)|(intro _;try (exfalso;omega)))
  all_goals first|(exfalso;omega)|contradiction|(refine Done.rt rfl rfl ⟨?_,rfl,rfl⟩;try rfl)
end Go.Proofs.YtnjkoebfgcbbdaaGreatDoor
namespace Go.Am
variable {P:Program} {G:List Nat}
def keeps (d:Tmp):Code→Bool
 | .seq a b=>keeps d a&&keeps d b
 | .cond _ a b=>keeps d a&&keeps d b
 | .block _ b=>keeps d b
 | .loop b=>keeps d b
 | .scope b=>keeps d b
 | .region _ ops _=>ops.toList.all fun o=>o.dst != some d
 |_=>true
theorem Np {t:Tr Value} {dst:Option Tmp} {v:Value} {d:Tmp} (h:(dst != some d)=true):BZ (Hl t dst v) d=BZ t d:=by
 cases dst with
 |none=>rfl
 |some x =>
  have hx:x≠d:=fun e=>by grind
  simp only [Hl,CY,if_neg hx]
theorem ZU {call:Eu} {ops:Array Oper} {o:Oper} {s s':St} {d:Tmp} (h:Mc P call ops o s=some s') (hk:(o.dst != some d)=true):BZ s'.t d=BZ s.t d:=by
 unfold Mc at h;split at h
 ·unfold vG at h
  split at h
  ·cases h;exact Np hk
  grind
 ·cases h;exact Np hk
theorem Pz {call:Eu} {ops:Array Oper} {d:Tmp}:∀ (l:List Oper) (s s':St),Ls P call ops l s=some s'→(l.all fun o=>o.dst != some d)=true→BZ s'.t d=BZ s.t d
 |[],s,s',h,_=>by cases h;rfl
 |o::l,s,s',h,hk=>by
  simp only [List.all_cons,Bool.and_eq_true] at hk;simp only [Ls] at h;cases h1:Mc P call ops o s with
  |none=>grind
  |some s1 =>
   rw [h1] at h;exact (Pz l s1 s' h hk.2).trans (ZU h1 hk.1)
theorem WY {call:Eu} {ops:Array Oper} {d:Tmp}:∀ (l:List Oper) (i:Nat) (s s':St),JY P call ops i l s=some s'→(l.all fun o=>o.dst != some d)=true→BZ s'.t d=BZ s.t d
 |[],i,s,s',h,_=>by cases h;rfl
 |o::l,i,s,s',h,hk=>by
  simp only [List.all_cons,Bool.and_eq_true] at hk;simp only [JY] at h;cases h1:PX P call ops i o s with
  |none=>grind
  |some s1 =>
   rw [h1] at h;refine (WY l (i+1) s1 s' h hk.2).trans ?_;unfold PX at h1;split at h1
   ·rename_i s2 h2
    split at h1
    ·cases h1
     have hh:=ZU h2 hk.1;omega
    grind
   grind
theorem uK {call:Eu} {N:Nat} {d:Tmp}:∀ (c:Code) (s s':St) (x:BM),BR P call N c s=some (x,s')→keeps d c=true→BZ s'.t d=BZ s.t d:=by
 intro c
 induction c with
 |skip=>intro s s' x h _;cases h;rfl
 |label l=>intro s s' x h _;cases h;rfl
 |ret=>intro s s' x h _;cases h;rfl
 |exit id=>intro s s' x h _;cases h;rfl
 |goto l=>intro s s' x h;cases h
 |scope b _=>intro s s' x h;cases h
 |refuse y=>intro s s' x h;cases h
 |rangeFunc f ps y z ihy ihz =>
  intro s s' x h _;simp only [BR] at h;split at h
  case h_2=>cases h
  split at h
  case h_2=>cases h
  split at h
  case isFalse=>cases h
  split at h
  case h_2=>cases h
  split at h
  case h_2=>cases h
  rw [ae] at h;grind
 |seq c1 c2 ih1 ih2 =>
  intro s s' x h hk;simp only [keeps,Bool.and_eq_true] at hk;simp only [BR] at h;grind
 |cond c0 c1 c2 ih1 ih2 =>
  intro s s' x h hk;simp only [keeps,Bool.and_eq_true] at hk;simp only [BR] at h;grind
 |block id b ih =>
  intro s s' x h hk;simp only [keeps] at hk;simp only [BR] at h;grind
 |loop b ih =>
  intro s s' x h hk;simp only [keeps] at hk;simp only [BR] at h;have key:∀ (k:Nat) (s s':St) (x:BM),iterate (BR P call N b) k s=some (x,s')→BZ s'.t d=BZ s.t d:=by
   intro k
   induction k with
   |zero=>intro s s' x h;cases h
   |succ k ihk =>
    intro s s' x h;simp only [iterate] at h;grind
  grind
 |region id ops draw =>
  intro s s' x h hk;cases draw with
  |false =>
   simp only [BR,Option.map_eq_some_iff] at h;obtain ⟨s1,h1,he⟩:=h;cases he;exact Pz _ _ _ h1 hk
  |true =>
   simp only [BR,Option.map_eq_some_iff] at h;obtain ⟨s1,h1,he⟩:=h;cases he;exact WY _ _ _ _ h1 hk
end Go.Am
namespace Go.Vm
open Go.Am
structure Snd (E:Env):Prop where
 o:F9 E.P E.G E.O
 mix:E.P.follows .mixedOrders=true
structure WAt (E:Env) (n:Nat) (B:Base) (ι:BH) (m:Mem) (w:World) (t:Tr Value) (kp:Tmp→Bool) (L':Frame) (H':Heap) (nx':Nat) (a':Act) (w':World):Prop where
 ex:∃ m' F' σ' t' ι',Ctx E.Γ m' F' σ' H' nx'∧RL m' F' (htag H') σ' nx' L' t'∧B.to m' F' σ' H' nx'∧Ext ι m w ι' m' w'∧DR E.P E.G [] n ⟨t',m'⟩ ι' a' w'∧∀ d,kp d=true→BZ t' d=BZ t d
def AX (E:Env) (n bn:Nat) (c:Code) (L:Frame) (H:Heap) (nx:Nat) (Q:BM→Frame→Heap→Nat→Prop):Prop :=
 Snd E→codeOk E.G n c=true→flat c=true→∀ (B:Base),B.nx=bn→∀ m F σ t,Ctx E.Γ m F σ H nx→RL m F (htag H) σ nx L t→B.to m F σ H nx →
  ∀ (ι:BH) (a:Act) (w:World),DR E.P E.G [] n ⟨t,m⟩ ι a w→∀ R:Exit→Act→World→Prop,
   (∀ e L' H' nx' a' w',Q e L' H' nx'→WAt E n B ι m w t (fun d=>keeps d c) L' H' nx' a' w'→R e.toExit a' w')→c.wpIn Fence.wide 0 E.P R a w
variable {E:Env} {n bn:Nat} {L:Frame} {H:Heap} {nx:Nat} {Q:BM→Frame→Heap→Nat→Prop} {a b c k:Code} {id:Nat} {x:Operand}
theorem AX.og (h:Ad E bn c L H nx Q):AX E n bn c L H nx Q:=by
 intro hs hok hfl B hB m F σ t h1 h2 h3 ι ac w hst R hR;obtain ⟨e,s',⟨K,hk⟩,L',H',nx',F',σ',q,c1,c2,c3⟩:=h B hB m F σ t h1 h2 h3;have hx:=hk K K (ab _) (ab _);have hcall:=Iq (N:=K) hs.o hs.mix K;refine (wpIn_wide (n:=0)).2 ((wpIn_wide (n:=0)).1 (XM hcall (jc hs.o K) (bD hcall (OA hs.o K) hs.mix) c w.heap.size [] none 0 ⟨t,m⟩ s' e ι ac w R (.inl rfl) hok hx hst (ab _) fun ds' a' w' hr hm hf=>?_));obtain rfl:=hf hfl;obtain ⟨ι',he,hst'⟩:=hr;exact hR e L' H' nx' a' w' q ⟨s'.m,F',σ',s'.t,ι',c1,c2,c3,he,hst',fun d hd=>uK c _ _ _ hx hd⟩
theorem AX.mono {R:BM→Frame→Heap→Nat→Prop} (h:AX E n bn c L H nx R) (hq:∀ e L' H' nx',R e L' H' nx'→Q e L' H' nx'):AX E n bn c L H nx Q :=
 fun hs hok hfl B hB m F σ t h1 h2 h3 ι ac w hst R' hR=>h hs hok hfl B hB m F σ t h1 h2 h3 ι ac w hst R' fun e L' H' nx' a' w' q=>hR e L' H' nx' a' w' (hq _ _ _ _ q)
def DW (E:Env) (n bn:Nat) (k:Code) (Q:BM→Frame→Heap→Nat→Prop) (e:BM) (L:Frame) (H:Heap) (nx:Nat):Prop :=
 match e with
 | .normal=>AX E n bn k L H nx Q
 | .ret=>Q .ret L H nx
 | .exit i=>Q (.exit i) L H nx
theorem DW.normal (h:AX E n bn k L H nx Q):DW E n bn k Q .normal L H nx:=h
theorem DW.ret (h:Q .ret L H nx):DW E n bn k Q .ret L H nx:=h
theorem DW.exit {i:Nat} (h:Q (.exit i) L H nx):DW E n bn k Q (.exit i) L H nx:=h
theorem AX.to (h:AX E n bn a L H nx (DW E n bn k Q)):AX E n bn (.seq a k) L H nx Q:=by
 intro hs hok hfl B hB m F σ t h1 h2 h3 ι ac w hst R hR;simp only [codeOk,Bool.and_eq_true] at hok;simp only [flat,Bool.and_eq_true] at hfl;refine wpIn_seq (h hs hok.1 hfl.1 B hB m F σ t h1 h2 h3 ι ac w hst _ fun e L' H' nx' a' w' q hw=>?_);obtain ⟨m',F',σ',t',ι',c1,c2,c3,he,hst',hkp⟩:=hw.ex;cases e with
 |normal =>
  refine q hs hok.2 hfl.2 B hB m' F' σ' t' c1 c2 c3 ι' a' w' hst' R fun e2 L2 H2 nx2 a2 w2 q2 hw2=>hR e2 L2 H2 nx2 a2 w2 q2 ?_
  obtain ⟨m2,F2,σ2,t2,ι2,d1,d2,d3,he2,hst2,b2g⟩:=hw2.ex;exact ⟨m2,F2,σ2,t2,ι2,d1,d2,d3,Ext.trans hst.1 he he2,hst2,fun d hd=>by
   simp only [keeps,Bool.and_eq_true] at hd;grind⟩
 |ret=>exact hR .ret L' H' nx' a' w' q ⟨m',F',σ',t',ι',c1,c2,c3,he,hst',fun d hd=>by simp only [keeps,Bool.and_eq_true] at hd;grind⟩
 |exit i=>exact hR (.exit i) L' H' nx' a' w' q ⟨m',F',σ',t',ι',c1,c2,c3,he,hst',fun d hd=>by simp only [keeps,Bool.and_eq_true] at hd;grind⟩
theorem AX.Bz {ops:Array Oper} (h:Aj E bn ops ops.toList L H nx fun L' H' nx'=>AX E n bn k L' H' nx' Q):AX E n bn (.seq (.region id ops false) k) L H nx Q:=AX.to (AX.og (Ad.region h))
theorem AX.Cm {ops:Array Oper} (h:Ah E bn ops 0 ops.toList L H nx fun L' H' nx'=>AX E n bn k L' H' nx' Q):AX E n bn (.seq (.region id ops true) k) L H nx Q:=AX.to (AX.og (Ad.Fg h))
theorem AX.region {ops:Array Oper} (h:Aj E bn ops ops.toList L H nx (Q .normal)):AX E n bn (.region id ops false) L H nx Q:=AX.og (Ad.region h)
theorem AX.Fg {ops:Array Oper} (h:Ah E bn ops 0 ops.toList L H nx (Q .normal)):AX E n bn (.region id ops true) L H nx Q:=AX.og (Ad.Fg h)
theorem AX.skip (h:Q .normal L H nx):AX E n bn .skip L H nx Q:=AX.og (Ad.skip h)
theorem AX.ret (h:Q .ret L H nx):AX E n bn .ret L H nx Q:=AX.og (Ad.ret h)
theorem AX.exit {i:Nat} (h:Q (.exit i) L H nx):AX E n bn (.exit i) L H nx Q:=AX.og (Ad.exit h)
theorem AX.at (r:Nat) {ops:Array Oper} {d:Bool} (h:AX E n bn (.seq (.region r ops d) k) L H nx Q):AX E n bn (.seq (.region r ops d) k) L H nx Q:=h
theorem AX.atEnd (r:Nat) {ops:Array Oper} {d:Bool} (h:AX E n bn (.region r ops d) L H nx Q):AX E n bn (.region r ops d) L H nx Q:=h
theorem AX.ghost {L':Frame} {H':Heap} {nx':Nat} (g:Aw E L H nx L' H' nx') (h:AX E n bn c L' H' nx' Q):AX E n bn c L H nx Q:=by
 intro hs hok hfl B hB m F σ t h1 h2 h3;obtain ⟨F',σ',c1,c2,c3⟩:=g B m F σ t h1 h2 h3;exact h hs hok hfl B hB m F' σ' t c1 c2 c3
theorem AX.cond (u:Bool) (hc:AU E.Γ L x=some (.p (.bool u))) (ht:u=true→AX E n bn a L H nx Q) (hf:u=false→AX E n bn b L H nx Q):AX E n bn (.cond x a b) L H nx Q:=by
 intro hs hok hfl B hB m F σ t h1 h2 h3 ι ac w hst R hR;simp only [codeOk,Bool.and_eq_true] at hok;simp only [flat,Bool.and_eq_true] at hfl;have hv:=H7 h1 h2 hc;have he:ac.eval x=.bool u:=((Jt hst.1 hst.2 hok.1.1).JJ u).1 hv;cases u with
 |true=>exact wpIn_cond_true he (ht rfl hs hok.1.2 hfl.1 B hB m F σ t h1 h2 h3 ι ac w hst R fun e L' H' nx' a' w' q hw=>hR e L' H' nx' a' w' q ⟨by
  obtain ⟨m',F',σ',t',ι',c1,c2,c3,he,hst',hkp⟩:=hw.ex;exact ⟨m',F',σ',t',ι',c1,c2,c3,he,hst',fun d hd=>by simp only [keeps,Bool.and_eq_true] at hd;grind⟩⟩)
 |false=>exact wpIn_cond_false he (hf rfl hs hok.2 hfl.2 B hB m F σ t h1 h2 h3 ι ac w hst R fun e L' H' nx' a' w' q hw=>hR e L' H' nx' a' w' q ⟨by
  obtain ⟨m',F',σ',t',ι',c1,c2,c3,he,hst',hkp⟩:=hw.ex;exact ⟨m',F',σ',t',ι',c1,c2,c3,he,hst',fun d hd=>by simp only [keeps,Bool.and_eq_true] at hd;grind⟩⟩)
theorem AX.cond_true (hc:AU E.Γ L x=some (.p (.bool true))) (ht:AX E n bn a L H nx Q):AX E n bn (.cond x a b) L H nx Q:=AX.cond true hc (fun _=>ht) (fun h=>by cases h)
theorem AX.cond_false (hc:AU E.Γ L x=some (.p (.bool false))) (hf:AX E n bn b L H nx Q):AX E n bn (.cond x a b) L H nx Q:=AX.cond false hc (fun h=>by cases h) (fun _=>hf)
theorem AX.Ar {p:Prop} {_:Decidable p} (hc:AU E.Γ L x=some (.p (.bool (decide p)))) (ht:p→AX E n bn a L H nx Q) (hf:¬ p→AX E n bn b L H nx Q):AX E n bn (.cond x a b) L H nx Q :=
 AX.cond (decide p) hc (fun h=>ht (of_decide_eq_true h)) (fun h=>hf (of_decide_eq_false h))
theorem AX.block (h:AX E n bn b L H nx (Bf id Q)):AX E n bn (.block id b) L H nx Q:=by
 intro hs hok hfl B hB m F σ t h1 h2 h3 ι ac w hst R hR;refine wpIn_block (h hs hok hfl B hB m F σ t h1 h2 h3 ι ac w hst _ fun e L' H' nx' a' w' q hw=>?_);have hw2:WAt E n B ι m w t (fun d=>keeps d (.block id b)) L' H' nx' a' w':=⟨hw.ex⟩
 cases e with
 |normal=>exact hR .normal L' H' nx' a' w' q hw2
 |ret=>exact hR .ret L' H' nx' a' w' q hw2
 |exit i =>
  show (if i=id then R .normal a' w' else R (.exit i) a' w');simp only [Bf] at q;split
  ·rename_i e;rw [if_pos e] at q;exact hR .normal L' H' nx' a' w' q hw2
  ·rename_i e;rw [if_neg e] at q;exact hR (.exit i) L' H' nx' a' w' q hw2
theorem AX.DJ {α:Type} (Lf:α→Frame) (Hf:α→Heap) (Dp:Nat) (inv:α→Prop) (μ:α→Nat) (a0:α) (hb:bn≤Dp) (h0:inv a0) (hc:aU L H nx (Lf a0) (Hf a0) Dp)
 (hs:∀ s,inv s→AX E n bn a (Lf s) (Hf s) Dp (Ag (fun L' H' nx'=>∃ s',inv s'∧μ s'<μ s∧aU L' H' nx' (Lf s') (Hf s') Dp) Q)):AX E n bn (.loop a) L H nx Q:=by
 intro hsn hok hfl B hB m F σ t h1 h2 h3 ι ac w hst R hR;refine wpIn_loop_rounds (μ a0+1) ?_;have key:∀ N s,inv s→μ s<N→∀ m1 F1 σ1 t1 ι1 a1 w1,Ctx E.Γ m1 F1 σ1 (Hf s) Dp→RL m1 F1 (htag (Hf s)) σ1 Dp (Lf s) t1→B.to m1 F1 σ1 (Hf s) Dp→Ext ι m w ι1 m1 w1→DR E.P E.G [] n ⟨t1,m1⟩ ι1 a1 w1→(∀ d,keeps d a=true→BZ t1 d=BZ t d) →
  Code.roundsIn Fence.wide 0 E.P a R N a1 w1:=by
  intro N
  induction N with
  |zero=>simp
  |succ N ih =>
   intro s hi hlt m1 F1 σ1 t1 ι1 a1 w1 c1 c2 c3 he1 hst1 hk1;refine hs s hi hsn hok hfl B hB m1 F1 σ1 t1 c1 c2 c3 ι1 a1 w1 hst1 _ fun e L' H' nx' a' w' q hw=>?_
   obtain ⟨m',F',σ',t',ι',d1,d2,d3,he,hst',hkp⟩:=hw.ex;have hE:=Ext.trans hst.1 he1 he;have hK:∀ d,keeps d a=true→BZ t' d=BZ t d:=fun d hd=>(hkp d hd).trans (hk1 d hd)
   cases e with
   |normal =>
    obtain ⟨s',i1,i2,i3⟩:=q;exact ih s' i1 (by omega) m' F' σ' t' ι' a' w' (i3.ctx d1) (i3.rl d2) (i3.step (by omega) d3) hE hst' hK
   |ret=>exact hR .ret L' H' nx' a' w' q ⟨m',F',σ',t',ι',d1,d2,d3,hE,hst',hK⟩
   |exit i=>exact hR (.exit i) L' H' nx' a' w' q ⟨m',F',σ',t',ι',d1,d2,d3,hE,hst',hK⟩
 exact key _ a0 h0 (bB _) m F σ t ι ac w (hc.ctx h1) (hc.rl h2) (hc.step (by omega) h3) (Ext.refl _ _ _) hst fun _ _=>rfl
def UO (d:Tmp) (l:List Oper):Bool:=l.all fun o=>o.dst != some d
def BD (E:Env) (n bn:Nat) (ops:Array Oper) (l:List Oper) (L:Frame) (H:Heap) (nx:Nat) (Q:Frame→Heap→Nat→Prop):Prop :=
 Snd E→(∀ o∈l,Ig E.G n o=true)→∀ (B:Base),B.nx=bn→∀ m F σ t,Ctx E.Γ m F σ H nx→RL m F (htag H) σ nx L t→B.to m F σ H nx →
  ∀ (ι:BH) (a:Act) (w:World),DR E.P E.G [] n ⟨t,m⟩ ι a w→∀ R:Exit→Act→World→Prop,
   (∀ L' H' nx' a' w',Q L' H' nx'→WAt E n B ι m w t (fun d=>UO d l) L' H' nx' a' w'→R .normal a' w')→wpListIn Fence.wide 0 E.P ops R l a w
theorem BD.nil {ops:Array Oper} {R:Frame→Heap→Nat→Prop} (h:R L H nx):BD E n bn ops [] L H nx R :=
 fun _ _ B _ m F σ t h1 h2 h3 ι ac w hst R' hR=>hR L H nx ac w h ⟨m,F,σ,t,ι,h1,h2,h3,Ext.refl _ _ _,hst,fun _ _=>rfl⟩
theorem BD.step {ops:Array Oper} {l:List Oper} {R:Frame→Heap→Nat→Prop} {op:Op} {dst:Option Tmp} {ty:TypeId} {pos:String} {af:Array Edge} {r:PV} {H':Heap} {nx':Nat} (hs:Snd E) (hok:∀ o∈(⟨dst,op,ty,pos,af,none⟩::l:List Oper),Ig E.G n o=true)
 {B:Base} (hB:B.nx=bn) {m m':Mem} {F F':Nat→Prop} {σ σ':Nat→Value} {t:Tr Value} (h1:Ctx E.Γ m F σ H nx) (h2:RL m F (htag H) σ nx L t) (h3:B.to m F σ H nx) {ι ι':BH} {ac:Act} {w w':World} (hst:DR E.P E.G [] n ⟨t,m⟩ ι ac w)
 {R':Exit→Act→World→Prop} (hR:∀ L' H' nx' a' w',R L' H' nx'→WAt E n B ι m w t (fun d=>UO d (⟨dst,op,ty,pos,af,none⟩::l)) L' H' nx' a' w'→R' .normal a' w') {v v':Value}
 (q:BD E n bn ops l (Hu L dst r) H' nx' R) (c1:Ctx E.Γ m' F' σ' H' nx') (c2:RP m' F' (htag H') σ' nx' r v) (c3:Step m F σ H nx m' F' σ' H' nx') (he:Ext ι m w ι' m' w') (Dl:Dv E.P E.G ι' m' w') (hv:Au ι' m'.gen v v') :
 wpListIn Fence.wide 0 E.P ops R' l (ac.put dst v') w':=by
 have hdst:=(Dx (hok _ (bE ..))).2;refine q hs (fun o ho=>hok o (ao _ ho)) B hB m' F' σ' (Hl t dst v) c1 ((h2.step c3 h1).put c2) (h3.trans c3) ι' _ w' ⟨Dl,(hst.2.mono he.le).put hdst hv⟩ R' fun L2 H2 nx2 a2 w2 q2 hw2=>hR L2 H2 nx2 a2 w2 q2 ?_
 obtain ⟨m2,F2,σ2,t2,ι2,d1,d2,d3,he2,hst2,b2g⟩:=hw2.ex;refine ⟨m2,F2,σ2,t2,ι2,d1,d2,d3,Ext.trans hst.1 he he2,hst2,fun d hd=>?_⟩;simp only [UO,List.all_cons,Bool.and_eq_true] at hd;exact (b2g d hd.2).trans (Np hd.1)
theorem LU {o:Oper} {y:Nat→Option Bool} (h:o.guard=none):Region.wanted o y=true:=by unfold Region.wanted;rw [h]
theorem BD.one {ops:Array Oper} {l:List Oper} {R:Frame→Heap→Nat→Prop} {op:Op} {dst:Option Tmp} {ty:TypeId} {pos:String} {af:Array Edge} (h:Aa E true ⟨dst,op,ty,pos,af,none⟩ L H nx fun r H' nx'=>BD E n bn ops l (Hu L dst r) H' nx' R) :
 BD E n bn ops (⟨dst,op,ty,pos,af,none⟩::l) L H nx R:=by
 intro hs hok B hB m F σ t h1 h2 h3 ι ac w hst R' hR;obtain ⟨v,m',⟨K,hk⟩,r,H',nx',F',σ',q,c1,c2,c3,_⟩:=h m F σ t h1 h2;have hx:=hk K K (ab _) (ab _);have hcall:=Iq (N:=K) hs.o hs.mix K;have hop:=(Dx (hok _ (bE ..))).1;have:=Om (rf:=none) (nn:=0) (a:=ac) (K:=wpListIn Fence.wide 0 E.P ops R' l) (Q:=R') hcall hst.1 (fun x hx=>Jt hst.1 hst.2 (hop x hx)) hx fun v' w' hp=>by
  obtain ⟨ι',he,Dl,O5⟩:=hp;exact BD.step hs hok hB h1 h2 h3 hst hR q c1 c2 c3 he Dl O5
 exact this
def FP (E:Env) (f:FuncId) (args:List PV) (H:Heap) (nx:Nat) (Q:PV→Heap→Nat→Prop):Prop :=
 Snd E→∀ m F σ Bq,Ctx E.Γ m F σ H nx→Dj m F (htag H) σ nx args Bq→∀ (ι:BH) (w:World) (as':Array Value),Dv E.P E.G ι m w→Bo ι m.gen Bq as'.toList →
  Calls E.P f as' w fun e w'=>∃ v',e=.returned v'∧∃ r H' nx' m' F' σ' v ι',Q r H' nx'∧Ctx E.Γ m' F' σ' H' nx'∧RP m' F' (htag H') σ' nx' r v∧Step m F σ H nx m' F' σ' H' nx'∧Ext ι m w ι' m' w'∧Dv E.P E.G ι' m' w'∧Au ι' m'.gen v v'
theorem FP.enter {f:FuncId} {fn:Func} {c:Code} {args:List PV} {Q:PV→Heap→Nat→Prop} (hf:E.P.funcs[f]?=some fn) (hb:fn.body=some c) (hok:Iz E.G fn c=true) (hfl:flat c=true) (hn:args.length≤fn.ntmps)
 (h:AX E fn.ntmps nx c (Ci 0 args) H nx (Done E.P fn.results.toList nx Q)):FP E f args H nx Q:=by
 intro hs m F σ Bq h1 h2 ι w as' Dl hargs;unfold Iz at hok;simp only [Bool.and_eq_true] at hok;have hlen:Bq.length≤fn.ntmps:=by rw [← h2.length];omega
 have hlen':as'.size=Bq.length:=by have:=hargs.1;grind
 have hst:DR E.P E.G [] fn.ntmps { t:=tmpsOf 0 Bq .leaf,m:=m } ι { tmps:=as'++Array.replicate (fn.ntmps-as'.size) undef,defers:=[] } w:=by
  refine ⟨Dl,by grind,rfl,fun i=>?_⟩;rw [Gt];by_cases hi:i<Bq.length
  ·have h1:=hargs.2 i hi
   have hi':i<as'.size:=by omega
   have e:(as'++Array.replicate (fn.ntmps-as'.size) undef).getD i undef=as'.toList.getD i undef:=by
    rw [cG,cK hi',getD_eq,gE]
   grind
  ·rw [if_neg (by omega)]
   have e1:BZ (.leaf:Tr Value) i=undef:=Tr.TM _ _;have e2:(as'++Array.replicate (fn.ntmps-as'.size) undef).getD i undef=undef:=by
    rw [cG,fx (by omega)];grind
   rw [e1,e2];exact Au.undef
 have hRL:RL m F (htag H) σ nx (Ci 0 args) (tmpsOf 0 Bq .leaf):=by
  intro i v hi;obtain ⟨_,h3⟩:=I4 args 0 i v hi;obtain ⟨u,h4,h5⟩:=h2.get h3;have:=Gt Bq 0 .leaf i;grind
 refine (callsIn_wide (n:=0)).1 (callsIn_of_wp_marks hf hb trivial ?_);refine h hs hok.2 hfl ⟨m,F,σ,H,nx⟩ rfl m F σ _ h1 hRL (Step.refl _ _ _ _ _) ι _ w hst _ fun e L' H' nx' a' w' q hw=>?_
 obtain ⟨m',F',σ',t',ι',c1,c2,c3,he,hst',_⟩:=hw.ex;have key:(∃ r,Eo E.P fn.results.toList L' H'=some r∧Ret nx Q r H' nx')→LeavesInM Fence.wide 0 E.P fn a'.tmps (fun e w'=>∃ v',e=.returned v'∧∃ r H' nx' m' F' σ' v ι',Q r H' nx'∧Ctx E.Γ m' F' σ' H' nx'∧RP m' F' (htag H') σ' nx' r v∧Step m F σ H nx m' F' σ' H' nx'∧Ext ι m w ι' m' w'∧Dv E.P E.G ι' m' w'∧Au ι' m'.gen v v') a'.defers .returning w':=by
  rintro ⟨r0,hr,r,H0,Dp,q1,q2,q3,q4,q5,q6⟩;obtain ⟨v,h3,h4⟩:=Ku c1 c2 hr;have hcov:aU L' H' nx' [] H0 Dp:=⟨q4,trivial,q3⟩
  rw [hst'.2.defers];refine Ou (B:=w'.heap.size) [] w' (ab _) hst'.1 fun w'' g1 g2 g3 g4 g5 g6=>?_
  have hst2:DR E.P E.G [] fn.ntmps ⟨t',m'⟩ ι' a' w'':=⟨g1,hst'.2⟩
  obtain ⟨v',r1,r2⟩:=OM hst2 h3;refine ⟨v',r1,v',rfl,r,H0,Dp,m',F',σ',v,ι',q6,hcov.ctx c1,RP.low (fun b t=>BJ.tag q3 b t) q2 (RP.le q1 h4),hcov.step (B:=⟨m,F,σ,H,nx⟩) q5 c3,?_,g1,r2⟩;exact ⟨he.size,he.low,he.keep,he.ro,he.ro',he.le,he.back,he.dom,am he.heap g2,fun c hc' hf=>(g3 c (ag hc' he.heap)).trans (he.frame c hc' hf),g4.trans he.tape,g5.trans he.os,g6.trans he.output⟩
 cases e with
 |exit i=>exact q.elim
 |normal=>exact key q
 |ret=>exact key q
theorem BD.ZL {ops:Array Oper} {l:List Oper} {R:Frame→Heap→Nat→Prop} {dst:Option Tmp} {ty:TypeId} {pos:String} {af:Array Edge} {fo:Operand} {args:Array Operand} {aT:Array TypeId} {g:FuncId} {fs cs Bq ac:List PV} {ns:List Nat} {Hc:Heap} {Qc:PV→Heap→Nat→Prop}
 (hent:Enters E.P g) (hf:AU E.Γ L fo=some (.clo g fs cs)) (ha:evs E.Γ L args.toList=some Bq) (hle:Oe (fs++Bq++cs) (CS.rn (rho ns nx) ac)) (hu:CS.under ns.length ac) (xU:KR ns.length Hc) (hin:HIn (rho ns nx) H Hc) (hnd:ns.Nodup) (hlt:∀ b∈ns,b<nx)
 (hc:FP E g ac Hc ns.length Qc) (hq:∀ r H' nx',Qc r H' nx'→BD E n bn ops l (Hu L dst (r.rn (rho ns nx))) (news ns.length (rho ns nx) H' (merge ns (rho ns nx) H' H)) (nx+(nx'-ns.length)) R) :
 BD E n bn ops (⟨dst,.call { callee:=.value fo,args:=args,argTypes:=aT },ty,pos,af,none⟩::l) L H nx R:=by
 intro hs hok B hB m F σ t h1 h2 h3 ι ac0 w hst R' hR;obtain ⟨vf,vc,σc,hfe,X6,hargs,hback⟩:=nV (w:=true) hf ha hle hu xU hin hnd hlt (fun e=>by cases e) h1 h2;have hop:=(Dx (hok _ (bE ..))).1;have hfr:=Jt hst.1 hst.2 (hop fo (by simp [Op.operands,Call.operands]));rw [hfe] at hfr;obtain ⟨fs',cs',e1,hfs,hcs⟩:∃ fs' cs',ac0.eval fo=.func (.func g) fs' cs'∧Bo ι m.gen vf fs'.toList∧Bo ι m.gen vc cs'.toList:=by
  generalize ac0.eval fo=u at hfr;cases hfr with
  |fn _ l1 l2 l3 l4 h1 h2 h3 h4=>exact ⟨⟨l2⟩,⟨l4⟩,rfl,⟨h1,h2⟩,⟨h3,h4⟩⟩
 obtain ⟨fn,hfn,hbody,hname⟩:=hent;have hcall:=hc hs m F σc _ X6 hargs ι w (fs'++args.map ac0.eval++cs') hst.1 (by
  rw [du,du,bA];exact (hfs.append (Bo.TD fun x hx=>Jt hst.1 hst.2 (hop x (by simp [Op.operands,Call.operands];grind)))).append hcs)
 have hrun:(execOp ac0.eval ⟨dst,.call { callee:=.value fo,args:=args,argTypes:=aT },ty,pos,af,none⟩).run E.P w=.ok (.enter g (fs'++args.map ac0.eval++cs')) w:=by
  simp only [execOp,resolve,e1,Deferred.ofValue,Sem.run_bind,Sem.run_pure,Result.andThen_ok,invoke,callFunc,run_program,hfn,hname,Bool.false_eq_true,if_false];have:fn.body.isNone=false:=by cases hb:fn.body<;>simp_all
  simp [this]
 unfold wpListIn;unfold Oper.wpIn;rw [Oper.semAt_eq _ _ _ (fun c hc=>by grind),hrun];refine ⟨fun _ _=>trivial,?_⟩;refine ⟨(fun hh=>by cases hh),?_⟩;refine ((callsIn_wide (n:=0)).2 hcall).mono fun e w' he=>?_
 obtain ⟨v',rfl,r,H',nx',m',F',σ',v,ι',q,c1,c2,c3,x1,x2,x3⟩:=he;obtain ⟨σn,d1,d2,d3,_⟩:=hback v m' r H' nx' F' σ' c1 c2 c3;exact BD.step hs hok hB h1 h2 h3 hst hR (hq r H' nx' q) d1 d2 d3 x1 x2 x3
theorem AX.lZ {ops:Array Oper} (h:BD E n bn ops ops.toList L H nx (Q .normal)):AX E n bn (.region id ops false) L H nx Q:=by
 intro hs hok hfl B hB m F σ t h1 h2 h3 ι ac w hst R hR;simp only [codeOk,Bool.and_eq_true] at hok;refine wpIn_region_list (h hs (fun o ho=>bd.1 hok.1 o (by grind)) B hB m F σ t h1 h2 h3 ι ac w hst R fun L' H' nx' a' w' q hw=>hR .normal L' H' nx' a' w' q hw)
theorem AX.I5 {ops:Array Oper} (h:BD E n bn ops ops.toList L H nx fun L' H' nx'=>AX E n bn k L' H' nx' Q):AX E n bn (.seq (.region id ops false) k) L H nx Q:=AX.to (AX.lZ h)
end Go.Vm
