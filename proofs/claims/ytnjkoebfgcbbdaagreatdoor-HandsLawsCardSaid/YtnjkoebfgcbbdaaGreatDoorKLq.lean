/-
  Texts of a proof, merged (HanT, HanU, HanV, PieX, HanW, HanX, Wm6, HanZ, HanKd, HanLw). Conditions: in each statement.
-/
import Derived.Test.YtnjkoebfgcbbdaaGreatDoorKLp
set_option linter.unusedSimpArgs false
set_option linter.unusedVariables false
set_option linter.unusedSectionVars false
set_option maxRecDepth 100000
set_option maxHeartbeats 8000000
abbrev fL:=@List.perm_ext_iff_of_nodup
namespace Go.Proofs.YtnjkoebfgcbbdaaGreatDoor
open Go Go.Am Go.Vm Go.Pie Go.Sch
attribute [local irreducible] Aa Aj Ah Ad AP Ap Bd BL Bf Ag Vm.Done BA AB OT AX BD DW Ie FP Hold
attribute [local irreducible] Ce Ba DV DN En AZ CB
def IsB (q:Qu) (l:List Int):Prop:=l∈Hy q (A8 q.p).length∧∀ h∈Hy q (A8 q.p).length,dQ (l,GY q l) (h,GY q h)
theorem a4i {q:Qu} {a b:List Int} (ha:IsB q a) (hb:IsB q b):a=b:=congrArg Prod.fst (a4v (ha.2 b hb.1) (hb.2 a ha.1))
noncomputable def Ya (q:Qu):Option (List Int):=open Classical in if h:∃ l,IsB q l then some (Classical.choose h) else none
theorem Vl {q:Qu} {l:List Int} (h:IsB q l):Ya q=some l:=by
 unfold Ya;rw [dif_pos ⟨l,h⟩];exact congrArg some (a4i (Classical.choose_spec (p:=IsB q) ⟨l,h⟩) h)
theorem b2c {q:Qu} {l:List Int} (h:Ya q=some l):IsB q l:=by
 unfold Ya at h;split at h
 ·grind
 grind
theorem iR {q:Qu} (h:Hy q (A8 q.p).length=[]):Ya q=none:=by
 cases h1:Ya q with
 |none=>rfl
 |some l =>
  have:=(b2c h1).1;grind
def iw (q:Qu) (t:Nat) (m:List (J4×Way)):Prop:=qB (MJ q) (fQ q) (kQ q) (WM q) (Nk q) st0 (GV q) (KQ q) t m
theorem uH {es:List (J4×Way)} {V:List Nat} (h:∀ i,i∈V↔i<es.length) (d:J4×Way):d∈V.map (gi es)↔d∈es:=by
 rw [aR];constructor
 ·rintro ⟨i,h1,rfl⟩
  exact Es ((h i).1 h1)
 ·intro hd
  obtain ⟨i,h1,h2⟩:=Md hd;grind
theorem yh (q:Qu) (hq:Jy q) {t:Nat} (ht:t<(A8 q.p).length) {m:List (J4×Way)} (hm:iw q t m) {V:List Nat} (hV:∀ i,i∈V↔i<m.length):iw q (t+1) (RY q t m V) :=
 qB.step (Xl q hq) (b2p q) (Uc q) (b3m q) ht hm (uH hV)
theorem a1o (q:Qu) (hq:Jy q) {t:Nat} (ht:t<(A8 q.p).length) {m:List (J4×Way)} (hm:iw q t m):∀ e∈m,b9y q t e:=fun e he=>by
 obtain ⟨g1,g2,g3⟩:=hm.sub e he;obtain ⟨k1,k2,k3,k4⟩:=xO q hq e.2.1 t (by omega);have hT:=Kq q.p;have hn:=hq.p.notes;refine ⟨qL q hq ht ((Qq q hq (by omega) _).1 g1),?_,by grind,by grind⟩;omega
theorem a1i (q:Qu) (hq:Jy q) {m:List (J4×Way)} (hm:iw q (A8 q.p).length m):∀ e∈m,e.2.1.length=q.p.notes.length∧0≤e.2.2∧e.2.2≤1000000000000:=fun e he=>by
 obtain ⟨g1,g2,g3⟩:=hm.sub e he;obtain ⟨k1,k2,k3,k4⟩:=xO q hq e.2.1 (A8 q.p).length (ab _);have hT:=Kq q.p;have hn:=hq.p.notes;refine ⟨iE.len ((Qq q hq (ab _) _).1 g1),?_⟩;omega
def RN (es:List (J4×Way)) (V:List Nat):Option Way:=(V.map fun i=>(gi es i).2).foldl XB none
theorem a0u (q:Qu) {es:List (J4×Way)} (hm:iw q (A8 q.p).length es) {V:List Nat} (hV:∀ i,i∈V↔i<es.length):RN es V=(Ya q).map fun l=>(l,GY q l):=by
 have hmem:∀ w,w∈(V.map fun i=>(gi es i).2)↔∃ e∈es,e.2=w:=fun w=>by
  rw [aR];constructor
  ·rintro ⟨i,h1,rfl⟩
   exact ⟨_,Es ((hV i).1 h1),rfl⟩
  ·rintro ⟨e,h1,rfl⟩
   obtain ⟨i,h2,rfl⟩:=Md h1;grind
 have hw:∀ e∈es,e.2.2=GY q e.2.1:=fun e he=>by rw [(hm.sub e he).2.2];exact rZ q _
 unfold RN;rcases VE (V.map fun i=>(gi es i).2) none with ⟨_,h1,h2⟩|⟨w,h1,h2,h3,_⟩
 ·rw [h2]
  have:Hy q (A8 q.p).length=[]:=by
   cases h:Hy q (A8 q.p).length with
   |nil=>rfl
   |cons a l =>
    obtain ⟨o,ho,_⟩:=hm.best a (by show a∈Hy q _;grind);simp_all
  rw [iR this];rfl
 ·rcases h2 with h2|h2
  ·obtain ⟨e,he,rfl⟩:=(hmem w).1 h2
   have hc:=hw e he;have hB:IsB q e.2.1:=by
    refine ⟨(hm.sub e he).1,fun h hh=>?_⟩;obtain ⟨o,ho,hle⟩:=hm.best h hh;have e1:=rZ q h;rw [e1] at hle;rw [← hc];exact KC (h3 o ((hmem o).2 ⟨_,ho,rfl⟩)) hle
   rw [Vl hB];grind
  grind
def b8i:Option Way→PV
 |none=>.p (.val (.pointer none))
 |some w=>.p (.EP [.lst 3 (cells w.1) w.1.length,.int .i64 w.2])
def b4x:HB:=.box 41 [.p (.val (.slice none 0 0)),.p (.int .i64 0)]
noncomputable def bK (q:Qu):PV:=match Ya q with
 |none=>.D9 [.p (.agg [.val (.slice none 0 0),.int .i64 0]),.p (.int .i64 24)]
 |some l=>.D9 [.p (.agg [.lst 3 (cells l) l.length,.int .i64 (GY q l)]),.p (.int .i64 0)]
theorem kL:Am.Enters Tryz.prog 39:=⟨_,Tryz.func39,by rfl,by rfl⟩
theorem a0j (q:Qu) (hq:Jy q) (hM:∀ t,t<(A8 q.p).length→kQ q t≤12):Ie env 11 [.agg (Enc.enc q)] (bK q):=by
 have hc:=P9 q hq.o.sm hq.p.sm;rw [vV hq] at hc;have hcr:=UZ q hq;rw [YP hM] at hcr;have hbg:=YO q hq;have hsl:=IZ q hq;have hSl:=Kq q.p;have hn:=hq.p.notes;refine Ie.enter Tryz.func11 rfl (by kernel_rfl) (by kernel_rfl) (by simp [Tryz.ntmps11]) ?_
 repeat' (first|apply AX.Bz|apply DW.normal|apply AX.to|apply AX.block|apply AX.skip|(apply AX.cond_false;rfl)|(apply Aa.fn;rfl;rfl;exact hc;intro _;rfl)|(apply Aa.fn;rfl;rfl;exact hcr;intro _;rfl)|(apply Aa.fn;rfl;rfl;exact hbg;intro _;rfl)|(apply Aa.fn;rfl;rfl;exact hsl;intro _;rfl)|(apply c0w (m:=[]) (y:=st0) (Nk q,0);rfl;rfl;rfl;rfl;rfl)|refine go2 ?_|(apply b3t)|(apply Aa.int;rfl;rfl;rfl)|(apply Aa.build;rfl;rfl;rfl;rfl;rfl))
 all_goals try (exfalso;omega)
 all_goals try contradiction
 have hS2:∀ k,k<(A8 q.p).length→gi (A8 q.p) k=MZ q k:=fun k _=>rfl
 refine AX.DJ (fun s:Nat×List (J4×Way)=>[(1,.ref 0 0),(2,.ref 1 0),(5,.mref 2),(27,.p (.lst 81 (cells (A8 q.p)) (A8 q.p).length)),(28,.p (.int .i64 ((A8 q.p).length:Int))),(29,.p (.int .i64 (s.1:Int)))])
  (fun s=>[(0,dG q),(1,b4x),(2,LC s.2)]) 3 (fun s=>s.1≤(A8 q.p).length∧iw q s.1 s.2) (fun s=>(A8 q.p).length-s.1) (0,[(st0,(Nk q,0))]) (by decide) ⟨an _,qB.start⟩ ⟨by decide,?_,?_⟩ ?_
 ·exact C9
 ·repeat (first|exact BJ.nil|(refine BJ.cons (Bj rfl) ?_ rfl ?_ ?_;(first|exact CG _ _|exact CU _ _|exact HB.Az rfl|exact CS.Bg _ _|(simp [HB.under,CS.under,PV.under]));(first|exact JU.refl _|exact JU.vec (Ji.refl _) (by simp))))
 rintro ⟨k,m⟩ ⟨hk,hm⟩;simp only at hk hm ⊢;rcases aq k (A8 q.p).length with hkl|hkl
 ·have ha:=uF q hq k hkl (hM k hkl) m (a1o q hq hkl hm)
  unfold dG b4x
  repeat' (first|(refine AX.atEnd 10 ?_;apply AX.lZ)|((refine BD.HY 36 ?_;refine Hold.of ?_))|apply AX.Bz|apply DW.normal|apply AX.to|apply AX.block|apply AX.skip|(apply AX.Ar;rfl)|apply BD.one|apply Aj.nil|apply Aj.one|(apply Aa.move;rfl)|(apply Aa.int;rfl;rfl;rfl)|(apply Aa.Ak;rfl;rfl;rfl;omega;rfl)|(apply Aa.load;rfl;rfl)|(apply Aa.alloc;rfl)|(apply Aa.FI;rfl;rfl;rfl;trivial;rfl;rfl;exact Bj rfl;exact le_dec rfl)|(intro _;try (exfalso;omega)))
  all_goals try (exfalso;omega)
  refine Hold.go ?_;refine BD.b8j [2] ha kL rfl rfl (.of_eq rfl) (CS.Az rfl) ⟨⟨by decide,CG _ _⟩,trivial⟩ ⟨⟨_,rfl,by rw [YC];exact JU.refl _⟩,trivial⟩ (by decide) (by decide) ?_;rintro r H' nx' ⟨V,hV1,hV2,rfl,rfl,rfl⟩;have hms:=yh q hq hkl hm hV2
  repeat' (first|((refine AX.atEnd 11 ?_;refine Hold.of ?_))|apply DW.normal|apply BD.nil|apply BD.one|apply Bf.normal|(apply Aa.assign;rfl))
  refine Hold.go ?_;refine AX.swap 2 4 (by decide) (by decide) (by decide) (by decide) ?_
  repeat' (first|apply AX.region|refine go2 ?_|fail)
  all_goals try (exfalso;omega)
  refine Ag.normal ⟨(k+1,RY q k m V),⟨hkl,hms⟩,by show (A8 q.p).length-(k+1)<(A8 q.p).length-k;omega,⟨by decide,?_,?_⟩⟩
  ·dsimp only
   exact C9
  ·dsimp only
   repeat (first|exact BJ.nil|(refine BJ.cons (Bj rfl) ?_ rfl ?_ ?_;(first|exact CG _ _|exact HB.Az rfl);(first|exact JU.refl _|(rw [YC,YC];exact JU.refl _))))
 ·obtain rfl:k=(A8 q.p).length:=by omega
  repeat' (first|((refine AX.at 13 ?_;refine Hold.of ?_))|apply AX.Bz|apply DW.normal|apply DW.exit|apply AX.to|apply AX.exit|(apply AX.Ar;rfl)|refine go0 ?_|(intro _;try (exfalso;omega)))
  all_goals try (exfalso;omega)
  refine Hold.go ?_;have hfin:=a1i q hq hm;refine AX.jM (fun b:Option Way=>[(1,.ref 0 0),(2,.ref 1 0),(8,b8i b),(38,.mref 2)]) (fun b=>[(0,dG q),(1,b4x),(2,LC m)]) (fun V b=>b=RN m V∧∀ i∈V,i<m.length) none (Dp:=3) (b:=2) (ks:=(JI m).map fun x=>.agg (Enc.enc x.1)) (cs:=(JI m).map (·.2)) rfl rfl (by decide) rfl ⟨rfl,fun i h=>absurd h be⟩ ⟨by decide,?_,?_⟩ rfl (fun _=>⟨rfl,rfl,rfl⟩) (fun _ _ _=>rfl) (by simp) rfl (by kernel_rfl) (by kernel_rfl) (by decide) ?_ ?_
  ·exact C9
  ·repeat (first|exact BJ.nil|(refine BJ.cons (Bj rfl) ?_ rfl ?_ ?_;(first|exact CG _ _|exact CU _ _|exact HB.Az rfl|exact CS.Bg _ _|(simp [HB.under,CS.under,PV.under]));(first|exact JU.refl _|exact JU.vec (Ji.refl _) (by simp))))
  ·rintro V b i kk c ⟨hi,hV⟩ hnd hni hk hc
   subst hi;have hil:i<m.length:=by
    have:=(bu.1 hk).1;simpa [JI] using this
   have hei:m[i]?=some (gi m i):=by unfold gi;rw [ai hil];rfl
   have ec:c=.p (PS (gi m i).2):=by
    unfold JI at hc;rw [av,av,hei] at hc;simpa using hc.symm
   subst ec;have hpick:RN m (V++[i])=XB (RN m V) (gi m i).2:=by
    unfold RN;rw [bl,cX];rfl
   have hlen:∀ o,RN m V=some o→o.1.length=q.p.notes.length∧0≤o.2∧o.2≤1000000000000:=fun o ho=>by
    rcases VE (V.map fun i=>(gi m i).2) none with ⟨_,_,h⟩|⟨w,h1,h2,_,_⟩
    ·unfold RN at ho;rw [h] at ho;cases ho
    ·unfold RN at ho;rw [h1] at ho;cases ho
     rcases h2 with h2|h2
     ·obtain ⟨j,j1,rfl⟩:=aR.1 h2
      exact hfin _ (Es (hV j j1))
     ·cases h2
   rw [hpick];clear hpick;have hV':∀ j∈V++[i],j<m.length:=fun j hj=>by
    rcases bk.1 hj with h|h
    ·exact hV j h
    ·rw [aL] at h;omega
   obtain ⟨f1,f2⟩:=hfin _ (Es hil);generalize RN m V=b at *;generalize (gi m i).2=v at *;obtain ⟨l,cc⟩:=v;simp only at f1 f2;cases b with
   |none =>
    have ei:XB none (l,cc)=some (l,cc):=rfl;rw [ei]
    repeat' (first|(refine AX.atEnd 17 ?_;refine AX.ghost (Aw.eX 10 [.lst 3 (cells l) l.length,.int .i64 cc] rfl rfl rfl) ?_;first|apply AX.region|apply AX.Fg)|apply AX.Cm|(apply AX.cond_true;rfl)|apply BD.nil|apply BD.one|refine go1 ?_|(apply Ah.ZI;rfl;rfl)|(apply Aa.a5k;rfl;rfl;rfl))
    all_goals try (exfalso;omega)
    all_goals try contradiction
    refine Ag.normal ⟨some (l,cc),⟨rfl,hV'⟩,⟨by decide,?_,?_⟩⟩
    ·exact C9
    ·repeat (first|exact BJ.nil|(refine BJ.cons (Bj rfl) ?_ rfl ?_ ?_;(first|exact CG _ _|exact CU _ _|exact HB.Az rfl|exact CS.Bg _ _|(simp [HB.under,CS.under,PV.under]));(first|exact JU.refl _|exact JU.vec (Ji.refl _) (by simp))))
   |some o =>
    obtain ⟨ol,oc⟩:=o;obtain ⟨o1,o2⟩:=hlen _ rfl;simp only at o1 o2;have hcmp:=Rz l ol (by omega) (by omega);have ei:XB (some (ol,oc)) (l,cc)=if ltB (l,cc) (ol,oc)=true then some (l,cc) else some (ol,oc):=rfl
    have hb:ltB (l,cc) (ol,oc)=(decide (cc<oc)||(decide (cc=oc)&&decide (cmpL l ol<0))):=rfl;rw [hb] at ei;generalize cmpL l ol=cm at *;by_cases g1:cc<oc;all_goals by_cases g2:cc=oc
    all_goals by_cases g3:cm<0
    all_goals first|rw [decide_eq_true g1] at ei|rw [decide_eq_false g1] at ei
    all_goals first|rw [decide_eq_true g2] at ei|rw [decide_eq_false g2] at ei
    all_goals first|rw [decide_eq_true g3] at ei|rw [decide_eq_false g3] at ei
    all_goals simp only [Bool.true_or,Bool.false_or,Bool.true_and,Bool.false_and,Bool.false_eq_true,if_true,if_false] at ei
    all_goals rw [ei]
    all_goals
     repeat' (first|(refine AX.atEnd 17 ?_;refine AX.ghost (Aw.eX 10 [.lst 3 (cells l) l.length,.int .i64 cc] rfl rfl rfl) ?_;first|apply AX.region|apply AX.Fg)|apply AX.Cm|apply AX.skip|(apply AX.cond_true;rfl)|(apply AX.cond_false;rfl)|(apply AX.Ar;rfl)|apply BD.nil|apply BD.one|(apply Aa.fn;rfl;rfl;exact hcmp;intro _;rfl)|refine go1 ?_|(apply Ah.guard;rfl;rfl)|(apply Ah.ZI;rfl;rfl)|(apply Aa.a8r;rfl;rfl;rfl)|(apply Aa.zo;rfl)|(apply Aa.int;rfl;rfl;rfl)|(intro _;try (exfalso;omega)))
    all_goals try (exfalso;omega)
    all_goals try contradiction
    all_goals
     refine Ag.normal ⟨_,⟨rfl,hV'⟩,⟨by decide,?_,?_⟩⟩
     ·exact C9
     ·repeat (first|exact BJ.nil|(refine BJ.cons (Bj rfl) ?_ rfl ?_ ?_;(first|exact CG _ _|exact CU _ _|exact HB.Az rfl|exact CS.Bg _ _|(simp [HB.under,CS.under,PV.under]));(first|exact JU.refl _|exact JU.vec (Ji.refl _) (by simp))))
  ·rintro V b ⟨hi,hV⟩ hnd h1 h2
   subst hi;have hV2:∀ i,i∈V↔i<m.length:=fun i=>⟨hV i,fun h=>h1 i (by simpa [JI] using h)⟩
   rw [a0u q hm hV2];unfold bK;cases Ya q with
   |none =>
    show DW _ _ _ _ _ _ [(1,_),(2,_),(8,.p (.val (.pointer none))),(38,_)] _ _
    repeat' (first|apply AX.Bz|apply DW.normal|apply DW.ret|apply AX.to|apply AX.ret|(apply AX.cond_true;rfl)|refine go2 ?_|(apply Aa.a5k;rfl;rfl;rfl)|(apply Aa.build;rfl;rfl;rfl;rfl;rfl))
    all_goals try (exfalso;omega)
    all_goals try contradiction
    all_goals (refine Done.rt rfl rfl ⟨?_,rfl,rfl⟩;try rfl)
   |some l =>
    show DW _ _ _ _ _ _ [(1,_),(2,_),(8,.p (.EP [.lst 3 (cells l) l.length,.int .i64 (GY q l)])),(38,_)] _ _
    repeat' (first|apply AX.Bz|apply AX.Cm|apply DW.normal|apply AX.to|apply AX.ret|apply AX.skip|(apply AX.cond_false;rfl)|refine go2 ?_|(apply Aa.a8r;rfl;rfl;rfl)|(apply Aa.zo;rfl)|(apply Aa.build;rfl;rfl;rfl;rfl;rfl))
    all_goals try (exfalso;omega)
    all_goals try contradiction
    all_goals (refine Done.rt rfl rfl ⟨?_,rfl,rfl⟩;try rfl)
theorem b0c {a:Nat} (h:a<100000000000000000):Lib.nDigits a≤18:=by
 have h1:Lib.nDigits 100000000000000000=18:=Lib.nDigits_unique 17 _ (by decide) (by decide);rcases aq 18 (Lib.nDigits a) with h2|h2
 ·have:=Num.ND (a:=100000000000000000) (b:=a) (by omega)
  omega
 omega
theorem aO (a b:Nat) (ha:a<100000000000000000) (hb:b<100000000000000000):Ap env 43 [.str (bs (Lib.decDigits a)),.str (bs (Lib.decDigits b))] (st (Lib.decDigits (a+b))):=by
 have q1:Ap env 91 [.str (bs (Lib.decDigits a)),.int .i64 18] (.D9 [.p (.int .i64 (a:Int)),.p (.bool true)]):=by
  have:=NU a 18 (ab _);rw [if_pos (b0c ha),decide_eq_true (b0c ha)] at this;omega
 have q2:Ap env 91 [.str (bs (Lib.decDigits b)),.int .i64 18] (.D9 [.p (.int .i64 (b:Int)),.p (.bool true)]):=by
  have:=NU b 18 (ab _);rw [if_pos (b0c hb),decide_eq_true (b0c hb)] at this;omega
 have ho:Ap env 18 [.int .i64 ((a:Int)+(b:Int))] (st (Lib.decDigits (a+b))):=by
  have:=Yh ((a+b:Nat):Int) ⟨by omega,by omega⟩;assumption
 generalize Lib.decDigits b=y at *;refine Ap.enter (Ae (by decide)) Tryz.func43 rfl (by kernel_rfl) (by simp) ?_
 repeat' (first|(apply Aa.fn;rfl;rfl;exact q1;intro _;rfl)|(apply Aa.fn;rfl;rfl;exact q2;intro _;rfl)|(apply Aa.fn;rfl;rfl;exact ho;intro _;rfl)|refine go2 ?_|(apply Ad.AV;rfl))
 all_goals first|(exfalso;omega)|contradiction|(refine Done.rt rfl rfl ⟨?_,rfl,rfl⟩;try rfl)
abbrev Iy:=List Int×Nat
def O4 (w:Iy):FV:=.agg [.lst 3 (cells w.1) w.1.length,.str (bs (Lib.decDigits w.2))]
def Jr (es:List (List UInt8×Iy)):List (List UInt8×PV):=es.map fun e=>(e.1,.p (O4 e.2))
def SH (es:List (List UInt8×Iy)):HB:=MV (fun x:List UInt8=>.str (bs x)) (Jr es)
theorem CU (k:Nat) (es:List (List UInt8×Iy)):HB.under k (SH es):=by
 induction es with
 |nil=>exact trivial
 |cons e es ih=>exact ⟨trivial,ih⟩
theorem cvJ {k:Nat} {a b:Heap} (h:Vm.BJ k a b:=by repeat (first|exact BJ.nil|(refine BJ.cons (Bj rfl) ?_ rfl ?_ ?_;(first|exact CU _ _|exact CG _ _|exact HB.Az rfl|exact CS.Bg _ _|(simp [HB.under,CS.under,PV.under]));(first|exact JU.refl _|exact JU.vec (Ji.refl _) (by simp))))):Vm.BJ k a b:=h
theorem cvK {k:Nat} {a b:Heap} (h:Vm.BJ k a b:=by repeat (first|exact BJ.nil|(refine BJ.eq rfl (Bj rfl) ?_ ?_;(first|exact CU _ _|exact CG _ _|exact HB.Az rfl|exact CS.Bg _ _|(simp [HB.under,CS.under,PV.under];done)))|(refine BJ.cons (Bj rfl) ?_ rfl ?_ ?_;(first|exact CU _ _|exact CG _ _|exact HB.Az rfl|exact CS.Bg _ _|(simp [HB.under,CS.under,PV.under]));(first|exact JU.refl _|exact JU.vec (Ji.refl _) (by simp))))):Vm.BJ k a b:=h
theorem b0j (ρ:Nat→Nat) (es:List (List UInt8×Iy)):(SH es).rn ρ=SH es:=by
 show HB.JC _ (CS.rn ρ ((Jr es).map (·.2)))=HB.JC _ _;have:CS.rn ρ ((Jr es).map (·.2))=(Jr es).map (·.2):=by
  induction es with
  |nil=>rfl
  |cons e es ih =>
   show PV.rn ρ (PV.p (O4 e.2))::CS.rn ρ ((Jr es).map (·.2))=_;rw [ih];rfl
 grind
section
variable {L:Vm.Frame} {H:Vm.Heap} {nx:Nat} {Q:PV→Vm.Heap→Nat→Prop} {w:Bool} {dst:Option Tmp} {ty:TypeId} {pos:String} {af:Array Edge} {gd:Option (Nat×Bool)}
theorem b4h {t:TypeId} (q:Q (.mref nx) ((nx,SH [])::H) (nx+1)):Aa env w ⟨dst,.makeMap t none,ty,pos,af,gd⟩ L H nx Q:=Aa.Zt q
theorem b6n {t et:TypeId} {x k:Operand} {b:Nat} {m:List (List UInt8×Iy)} {y:List UInt8} (hl:BP m y=none) (hx:AU env.Γ L x=some (.mref b)) (hb:hget H b=some (SH m)) (hk:AU env.Γ L k=some (.p (.str (bs y))))
 (ht:env.P.underlying t=some (.map 9 et)) (hz:zeroOf env.P et=some (.agg #[.slice none 0 0,.string ⟨#[]⟩])) (q:Q (.D9 [.p (.agg [.val (.slice none 0 0),.str ⟨#[]⟩]),.p (.bool false)]) H nx):Aa env w ⟨dst,.lookup t x k true,ty,pos,af,gd⟩ L H nx Q:=by
 have h2:BP (Jr m) y=none:=by
  have:=Uu (fun w=>PV.p (O4 w)) y m;rw [hl] at this;exact this
 have hs:(BP (Jr m) y).isSome=false:=by grind
 rw [← hs] at q;exact Aa.lookupGo (z:=.agg #[.slice none 0 0,.string ⟨#[]⟩]) Yq hx hb hk ht hz rfl (KO.const h2 rfl) q
theorem b4s {t et:TypeId} {x k:Operand} {b:Nat} {m:List (List UInt8×Iy)} {y:List UInt8} {v:Iy} (hl:BP m y=some v) (hx:AU env.Γ L x=some (.mref b)) (hb:hget H b=some (SH m)) (hk:AU env.Γ L k=some (.p (.str (bs y))))
 (ht:env.P.underlying t=some (.map 9 et)) (hz:zeroOf env.P et=some (.agg #[.slice none 0 0,.string ⟨#[]⟩])) (q:Q (.D9 [.p (O4 v),.p (.bool true)]) H nx):Aa env w ⟨dst,.lookup t x k true,ty,pos,af,gd⟩ L H nx Q:=by
 have h2:BP (Jr m) y=some (.p (O4 v)):=by
  have:=Uu (fun w=>PV.p (O4 w)) y m;rw [hl] at this;exact this
 have hs:(BP (Jr m) y).isSome=true:=by grind
 rw [← hs] at q;exact Aa.lookupGo (z:=.agg #[.slice none 0 0,.string ⟨#[]⟩]) Yq hx hb hk ht hz rfl (.inl h2) q
theorem b7z {t et:TypeId} {x k y':Operand} {b:Nat} {m:List (List UInt8×Iy)} {y:List UInt8} (v:Iy) (hx:AU env.Γ L x=some (.mref b)) (hb:hget H b=some (SH m)) (hk:AU env.Γ L k=some (.p (.str (bs y)))) (hy:AU env.Γ L y'=some (.p (O4 v)))
 (ht:env.P.underlying t=some (.map 9 et)) (q:Q (.D9 []) (hput H b (SH (Cb m y v))) nx):Aa env true ⟨dst,.mapUpdate t x k y',ty,pos,af,gd⟩ L H nx Q :=
 Aa.yN Yq hx hb hk hy ht (by
  show hput H b (MV _ (Cb (Jr m) y (.p (O4 v))))=hput H b (MV _ (Jr (Cb m y v)));have:Cb (Jr m) y (PV.p (O4 v))=Jr (Cb m y v):=Uf (fun w=>PV.p (O4 w)) y v m;grind) q
theorem b8u {t et:TypeId} {x k y':Operand} {b:Nat} {m:List (List UInt8×Iy)} {y:List UInt8} (v:Iy) (hx:AU env.Γ L x=some (.mref b)) (hb:hget H b=some (SH m)) (hk:AU env.Γ L k=some (.p (.str (bs y)))) (hy:AU env.Γ L y'=some (.p (O4 v)))
 (ht:env.P.underlying t=some (.map 9 et)) (q:Q (.D9 []) (hput H b (SH (Cb m y v))) nx):Aa env true ⟨dst,.insert t x k y',ty,pos,af,gd⟩ L H nx Q :=
 Aa.zx Yq hx hb hk hy ht (by
  show hput H b (MV _ (Cb (Jr m) y (.p (O4 v))))=hput H b (MV _ (Jr (Cb m y v)));have:Cb (Jr m) y (PV.p (O4 v))=Jr (Cb m y v):=Uf (fun w=>PV.p (O4 w)) y v m;grind) q
end
instance:Inhabited (List UInt8×Iy):=⟨([],([],0))⟩
def wQ (q:Qu) (t:Nat) (e:List UInt8×Iy):List (List UInt8×Iy):=(kE q t e.2.1).map fun x=>(O9 (IY q t) x,(x,e.2.2))
def bf (q:Qu) (t:Nat) (es:List (List UInt8×Iy)) (V:List Nat):List (List UInt8×Iy):=((V.map (gi es)).flatMap (wQ q t)).foldl Rh []
def oH (q:Qu) (t:Nat) (m:List (List UInt8×Iy)):Prop:=X8 (MJ q) (fQ q) (kQ q) (WM q) (Nk q) [] (c1p q) t m
theorem WQ {α:Type} [Inhabited α] {es:List α} {V:List Nat} (hn:V.Nodup) (h:∀ i,i∈V↔i<es.length):(V.map (gi es)).Perm es:=by
 have h1:V.Perm (List.range es.length):=(fL hn gk).2 fun i=>by grind
 have h2:(List.range es.length).map (gi es)=es:=by
  refine Kt (by simp) fun i hi=>?_
  unfold gi;grind
 grind
theorem uq (q:Qu) (hq:Jy q) {t:Nat} (ht:t<(A8 q.p).length) {m:List (List UInt8×Iy)} (hm:oH q t m) {V:List Nat} (hn:V.Nodup) (hV:∀ i,i∈V↔i<m.length):oH q (t+1) (bf q t m V) :=
 X8.step (Xl q hq) (b0b q) (Uc q) (b3m q) ht hm (WQ hn hV)
theorem a2w (q:Qu) (hq:Jy q) {t:Nat} (ht:t≤(A8 q.p).length) {m:List (List UInt8×Iy)} (hm:oH q t m):∀ e∈m,b6v q t e.2.1∧e.2.2≤(Hy q t).length:=fun e he=>by
 obtain ⟨g1,g2,g3⟩:=hm.sub e he;refine ⟨(Qq q hq ht _).1 g1,?_⟩;rw [g3];exact List.countP_le_length
theorem qx {α:Type} (F:α→Nat):∀ l:List α,(∀ a∈l,1≤F a)→l.length≤sumF F l
 |[],_=>ab _
 |a::l,h=>by
  have:=qx F l fun b hb=>h b (ao _ hb)
  have:=h a (by simp);simp only [sumF,List.length_cons];omega
theorem a0s (q:Qu) {t:Nat} {m:List (List UInt8×Iy)} (hm:oH q t m):m.length≤(Hy q t).length:=by
 have h:=X8.total hm;refine am (qx (fun d:List UInt8×Iy=>d.2.2) m fun d hd=>?_) (Nat.le_of_eq h);obtain ⟨g1,g2,g3⟩:=hm.sub d hd;grind
theorem b0p {n c:Nat} {m:List (List UInt8×Iy)} {d:List UInt8×Iy} (hm:∀ e∈m,e.2.2≤n) (hd:d.2.2≤c):∀ e∈Rh m d,e.2.2≤n+c:=fun e he=>by
 have key:∀ w:Iy,w.2≤n+c→∀ e∈Cb m d.1 w,e.2.2≤n+c:=fun w hw e he=>by
  rcases Px he with h|h|h
  ·grind
  ·grind
  grind
 unfold Rh at he;split at he
 ·grind
 ·rename_i o ho
  have:=hm _ (KH ho);grind
theorem b7c:Lib.decDigits 0=[48]:=by rw [Lib.decDigits];rfl
theorem c5c:Lib.decDigits 1=[49]:=by rw [Lib.decDigits];rfl
def cbd (n:Nat):Nat:=n*4096000000
theorem b7q {n:Nat} (h:n≤1000000):cbd n≤4096000000000000:=by unfold cbd;omega
theorem a6m (n:Nat):cbd (n+1)=cbd n+4096000000:=by unfold cbd;omega
theorem jX (q:Qu) (hq:Jy q) (hM:∀ t,t<(A8 q.p).length→kQ q t≤12) (hP:∀ t,t≤(A8 q.p).length→(Hy q t).length≤1000000):Ie env 12 [.agg (Enc.enc q)] (.D9 [st (Lib.decDigits (Hy q (A8 q.p).length).length),.p (.int .i64 0)]):=by
 have hc:=P9 q hq.o.sm hq.p.sm;rw [vV hq] at hc;have hcr:=UZ q hq;rw [YP hM] at hcr;have hbg:=YO q hq;have hsl:=IZ q hq;have hSl:=Kq q.p;have hn:=hq.p.notes;have e1:(some (PV.p (.agg [.lst 3 (cells (Nk q)) (Nk q).length,.str ⟨#[49]⟩])))=some (PV.p (O4 (Nk q,1))):=by
  unfold O4;simp only [c5c];rfl
 refine Ie.enter Tryz.func12 rfl (by kernel_rfl) (by kernel_rfl) (by simp [Tryz.ntmps12]) ?_
 repeat' (first|apply AX.Bz|apply DW.normal|apply AX.to|apply AX.block|apply AX.skip|(apply AX.cond_false;rfl)|(apply Aa.fn;rfl;rfl;exact hc;intro _;rfl)|(apply Aa.fn;rfl;rfl;exact hcr;intro _;rfl)|(apply Aa.fn;rfl;rfl;exact hbg;intro _;rfl)|(apply Aa.fn;rfl;rfl;exact hsl;intro _;rfl)|(apply b8u (m:=[]) (y:=[]) (Nk q,1);rfl;rfl;rfl;exact e1;rfl)|refine go2 ?_|(apply b4h)|(apply Aa.int;rfl;rfl;rfl)|(apply Aa.build;rfl;rfl;rfl;rfl;rfl))
 all_goals try (exfalso;omega)
 all_goals try contradiction
 refine AX.DJ (fun s:Nat×List (List UInt8×Iy)=>[(1,.ref 0 0),(5,.mref 1),(32,.p (.lst 81 (cells (A8 q.p)) (A8 q.p).length)),(33,.p (.int .i64 ((A8 q.p).length:Int))),(34,.p (.int .i64 (s.1:Int)))])
  (fun s=>[(0,dG q),(1,SH s.2)]) 2 (fun s=>s.1≤(A8 q.p).length∧oH q s.1 s.2) (fun s=>(A8 q.p).length-s.1) (0,[([],(Nk q,1))]) (by decide) ⟨an _,X8.start⟩ ⟨by decide,?_,?_⟩ ?_
 ·exact C9
 ·exact cvJ
 rintro ⟨k,m⟩ ⟨hk,hm⟩;simp only at hk hm ⊢;have hml:=am (a0s q hm) (hP k hk);have hen:=a2w q hq hk hm;have hPk:=hP k hk;rcases aq k (A8 q.p).length with hkl|hkl
 ·unfold dG
  repeat' (first|((refine AX.at 11 ?_;refine Hold.of ?_))|apply AX.Bz|apply DW.normal|apply AX.to|apply AX.block|apply AX.skip|(apply AX.Ar;rfl)|(apply Aa.Ak;rfl;rfl;rfl;omega;rfl)|refine go0 ?_|(apply b4h)|(intro _;try (exfalso;omega)))
  all_goals try (exfalso;omega)
  refine Hold.go ?_;refine AX.jM (fun b:List (List UInt8×Iy)=>[(1,.ref 0 0),(7,.ref 2 0),(8,.mref 3),(32,.p (.lst 81 (cells (A8 q.p)) (A8 q.p).length)),(33,.p (.int .i64 ((A8 q.p).length:Int))),(34,.p (.int .i64 (k:Int))),(39,.mref 1)]) (fun b=>[(0,dG q),(1,SH m),(2,slB (MZ q k)),(3,SH b)]) (fun V b=>b=bf q k m V∧(∀ i∈V,i<m.length)∧∀ e∈b,e.2.2≤cbd V.length) [] (Dp:=4) (b:=1) (ks:=(Jr m).map fun x=>.str (bs x.1)) (cs:=(Jr m).map (·.2)) rfl rfl (by decide) rfl ⟨rfl,(fun i h=>absurd h be),fun e h=>absurd h be⟩ ⟨by decide,?_,?_⟩ rfl (fun _=>⟨rfl,rfl,rfl⟩) (fun _ _ _=>rfl) (by simp) rfl (by kernel_rfl) (by kernel_rfl) (by decide) ?_ ?_
  ·exact C9
  ·exact cvJ
  ·rintro V b i kk c ⟨hi,hV,hbl⟩ hnd hni hk' hc'
   subst hi;have hil:i<m.length:=by
    have:=(bu.1 hk').1;simpa [Jr] using this
   have hei:m[i]?=some (gi m i):=by unfold gi;rw [ai hil];rfl
   have ec:c=.p (O4 (gi m i).2):=by
    unfold Jr at hc';rw [av,av,hei] at hc';simpa using hc'.symm
   subst ec;have hfold:bf q k m (V++[i])=(wQ q k (gi m i)).foldl Rh (bf q k m V):=by
    unfold bf;rw [bl,hX,cX,List.map_singleton,gC]
   rw [hfold];clear hfold;have hV':∀ j∈V++[i],j<m.length:=fun j hj=>by
    rcases bk.1 hj with h|h
    ·exact hV j h
    ·rw [aL] at h;omega
   have hVl:=Il m.length V hnd hV;have hVs:(V++[i]).length=V.length+1:=by simp
   rw [hVs];have hcs:=a6m V.length;have hcl:=b7q (am hVl hml);obtain ⟨w1,w2⟩:=hen _ (Es hil);have w3:=qL q hq hkl w1;generalize bf q k m V=b0 at *;unfold wQ;generalize (gi m i).2=v at *;obtain ⟨l,cc⟩:=v;simp only at w1 w2 w3 ⊢;have hch:=Ub q hq k hkl (hM k hkl) l w3;have hwy:=fun y hy=>nH q hq hkl w3 (x:=y) hy
   have hLl:=sW q k (hM k hkl) l;generalize kE q k l=L at *;have hN:dH q (MZ q k).notes:=KZ hkl;have hNl:(MZ q k).notes.length≤1000:=Tc hq hkl;obtain ⟨G,hG⟩:∃ G:List Int→List UInt8×Iy,G=fun y=>(O9 (IY q k) y,(y,cc)):=⟨_,rfl⟩
   rw [← hG];rw [hcs];generalize cbd V.length=B at *;unfold dG slB
   repeat' (first|(refine AX.at 14 ?_;apply AX.I5)|(apply BD.fn;rfl;rfl;exact hch;exact Pj;intro _;rfl)|apply AX.block|apply BD.nil|apply BD.one|refine go1 ?_|fail)
   all_goals try (exfalso;omega)
   refine AX.og ?_;apply Ad.Ii (L.length) (fun k_=>∀ e∈((L.take k_).map G).foldl Rh b0,e.2.2≤B+k_*1000000) [(1,_),(7,_),(8,_),(10,_),(32,_),(33,_),(34,_),(39,_),(49,_),(50,_)] [(0,_),(1,_),(2,_),(4,_)] (fun k_ r=>(51,.p (.int .i64 (k_:Int)))::r) (fun k_ r=>(3,SH (((L.take k_).map G).foldl Rh b0))::r) 5
   ·first|omega|decide
   ·first|omega|decide
   ·exact Nl
   ·exact cvK
   ·first|(intro _ _;omega)|omega|trivial
   ·intro k_ hk_ hi
    obtain ⟨y1,y2⟩:=hwy _ (Es hk_);have e1:((L.take (k_+1)).map G).foldl Rh b0=Rh (((L.take k_).map G).foldl Rh b0) (G (gi L k_)):=by
     rw [DX hk_,bl,cX];rfl
    rw [e1];clear e1;generalize ((L.take k_).map G).foldl Rh b0=mm at *;have b3c:=sS q (MZ q k) hN hNl (gi L k_) y1 y2;have hGk:G (gi L k_)=(O9 (MZ q k).notes (gi L k_),(gi L k_,cc)):=by rw [hG];rfl
    rw [hGk];have hle:=b0p (c:=1000000) (d:=(O9 (MZ q k).notes (gi L k_),(gi L k_,cc))) hi (by show cc≤1000000;omega);have hle:∀ e∈Rh mm (O9 (MZ q k).notes (gi L k_),(gi L k_,cc)),e.2.2≤B+(k_+1)*1000000:=fun e he=>by have:=hle e he;omega
    generalize O9 (MZ q k).notes (gi L k_)=nn at *;have ei:Rh mm (nn,(gi L k_,cc))=match BP mm nn with|none=>Cb mm nn (gi L k_,0+cc)|some o=>Cb mm nn (o.1,o.2+cc):=rfl
    cases hl:BP mm nn with
    |none =>
     rw [hl] at ei;simp only at ei;rw [ei] at hle ⊢;have ha:=aO 0 cc (by omega) (by omega);rw [b7c] at ha
     repeat' (first|(apply Aa.fn;rfl;rfl;exact b3c;intro _;rfl)|(apply Aa.fn;rfl;rfl;exact ha;intro _;rfl)|(apply b6n (m:=mm) (y:=nn) hl;rfl;rfl;rfl;rfl;rfl)|(apply b7z (m:=mm) (y:=nn) (gi L k_,0+cc);rfl;rfl;rfl;rfl;rfl)|(apply Aa.Ak;rfl;rfl;rfl;omega;rfl)|refine go2 ?_|(apply Aa.int;rfl;rfl;rfl)|(apply Aa.build;rfl;rfl;rfl;rfl;rfl)|(apply Ad.AV;rfl)|(apply Ad.Ac;rfl)|(intro _;try (exfalso;omega)))
     all_goals try (exfalso;omega)
     all_goals try contradiction
     refine Ag.normal ⟨hle,by first|omega|decide,?_,?_⟩
     ·exact C9
     ·exact cvJ
    |some o =>
     obtain ⟨ol,oc⟩:=o;have hoc:=hi _ (KH hl);simp only at hoc;rw [hl] at ei;simp only at ei;rw [ei] at hle ⊢;have ha:=aO oc cc (by omega) (by omega)
     repeat' (first|(apply Aa.fn;rfl;rfl;exact b3c;intro _;rfl)|(apply Aa.fn;rfl;rfl;exact ha;intro _;rfl)|(apply b4s (m:=mm) (y:=nn) hl;rfl;rfl;rfl;rfl;rfl)|(apply b7z (m:=mm) (y:=nn) (ol,oc+cc);rfl;rfl;rfl;rfl;rfl)|(apply Aa.Ak;rfl;rfl;rfl;omega;rfl)|refine go2 ?_|(apply Aa.int;rfl;rfl;rfl)|(apply Ad.Ai;rfl)|(apply Ad.Ac;rfl)|(intro _;try (exfalso;omega)))
     all_goals try (exfalso;omega)
     all_goals try contradiction
     refine Ag.normal ⟨hle,by first|omega|decide,?_,?_⟩
     ·exact C9
     ·exact cvJ
   ·intro hi
    rw [co] at hi ⊢
    repeat' (first|refine IG ?_|(apply Ad.Ac;rfl)|(intro _;try (exfalso;omega)))
    all_goals try (exfalso;omega)
    refine Ag.normal ⟨_,⟨rfl,hV',fun e he=>by have:=hi e he;omega⟩,⟨by decide,?_,?_⟩⟩
    ·exact C9
    ·exact cvJ
  ·rintro V b ⟨hi,hV,_⟩ hnd h1 h2
   subst hi;have hV2:∀ i,i∈V↔i<m.length:=fun i=>⟨hV i,fun h=>h1 i (by simpa [Jr] using h)⟩
   have hms:=uq q hq hkl hm hnd hV2;refine DW.normal ?_;refine AX.swap 1 3 (by decide) (by decide) (by decide) (by decide) ?_
   repeat' (first|apply AX.region|apply DW.normal|refine go2 ?_|fail)
   all_goals try (exfalso;omega)
   refine Ag.normal ⟨(k+1,bf q k m V),⟨hkl,hms⟩,by show (A8 q.p).length-(k+1)<(A8 q.p).length-k;omega,⟨by decide,?_,?_⟩⟩
   ·dsimp only
    exact C9
   ·dsimp only
    repeat (first|exact BJ.nil|(refine BJ.cons (Bj rfl) ?_ rfl ?_ ?_;(first|exact CU _ _|exact HB.Az rfl);(first|exact JU.refl _|(rw [b0j];exact JU.refl _))))
 ·obtain rfl:k=(A8 q.p).length:=by omega
  repeat' (first|((refine AX.at 27 ?_;refine Hold.of ?_))|apply AX.Bz|apply DW.normal|apply DW.exit|apply AX.to|apply AX.exit|(apply AX.Ar;rfl)|refine go0 ?_|(intro _;try (exfalso;omega)))
  all_goals try (exfalso;omega)
  refine Hold.go ?_;have hsb:∀ V:List Nat,(∀ i∈V,i<m.length)→sumF (fun i=>(gi m i).2.2) V≤V.length*1000000:=fun V=>by
   induction V with
   |nil=>intro _;exact ab _
   |cons a V ih =>
    intro h;have h1:=ih fun i hi=>h i (ao _ hi)
    have h2:=(hen _ (Es (h a (by simp)))).2;simp only [sumF,List.length_cons];omega
  refine AX.jM (fun s:Nat=>[(16,.p (.str (bs (Lib.decDigits s)))),(81,.mref 1)]) (fun s=>[(1,SH m)]) (fun V s=>s=sumF (fun i=>(gi m i).2.2) V∧∀ i∈V,i<m.length) 0 (Dp:=2) (b:=1) (ks:=(Jr m).map fun x=>.str (bs x.1)) (cs:=(Jr m).map (·.2)) rfl rfl (by decide) rfl ⟨rfl,fun i h=>absurd h be⟩ ⟨by decide,?_,?_⟩ rfl (fun _=>⟨rfl,rfl,rfl⟩) (fun _ _ _=>rfl) (by simp) rfl (by kernel_rfl) (by kernel_rfl) (by decide) ?_ ?_
  ·rw [b7c]
   exact C9
  ·exact cvJ
  ·rintro V b i kk c ⟨hi,hV⟩ hnd hni hk' hc'
   subst hi;have hil:i<m.length:=by
    have:=(bu.1 hk').1;simpa [Jr] using this
   have hei:m[i]?=some (gi m i):=by unfold gi;rw [ai hil];rfl
   have ec:c=.p (O4 (gi m i).2):=by
    unfold Jr at hc';rw [av,av,hei] at hc';simpa using hc'.symm
   subst ec;have hV':∀ j∈V++[i],j<m.length:=fun j hj=>by
    rcases bk.1 hj with h|h
    ·exact hV j h
    ·rw [aL] at h;omega
   have hVl:=Il m.length V hnd hV;have hs:=hsb V hV;have w2:=(hen _ (Es hil)).2;have hsum:sumF (fun i=>(gi m i).2.2) (V++[i])=sumF (fun i=>(gi m i).2.2) V+(gi m i).2.2:=by
    rw [LH];simp [sumF]
   rw [hsum];generalize sumF (fun i=>(gi m i).2.2) V=sv at *;generalize (gi m i).2=v at *;obtain ⟨l,cc⟩:=v;simp only at w2 ⊢;have ha:=aO sv cc (by omega) (by omega)
   repeat' (first|apply AX.region|apply BD.nil|apply BD.one|(apply Aa.fn;rfl;rfl;exact ha;intro _;rfl)|refine go2 ?_|fail)
   all_goals try (exfalso;omega)
   refine Ag.normal ⟨_,⟨rfl,hV'⟩,⟨by decide,?_,?_⟩⟩
   ·exact C9
   ·exact cvJ
  ·rintro V s ⟨hi,hV⟩ hnd h1 h2
   subst hi;have hV2:∀ i,i∈V↔i<m.length:=fun i=>⟨hV i,fun h=>h1 i (by simpa [Jr] using h)⟩
   have ht:sumF (fun i=>(gi m i).2.2) V=(Hy q (A8 q.p).length).length:=by
    have h3:sumF (fun d:List UInt8×Iy=>d.2.2) m=(Hy q (A8 q.p).length).length:=X8.total hm;rw [← h3,← iO (fun d:List UInt8×Iy=>d.2.2) (WQ hnd hV2),Y2]
   rw [ht];refine DW.normal ?_
   repeat' (first|apply AX.Bz|apply AX.ret|refine go2 ?_|fail)
   all_goals (refine Done.rt rfl rfl ⟨?_,rfl,rfl⟩;try rfl)
theorem qc:∀ (n:Nat) (a b:List Int),a.length=n→b.length=n→(∀ x∈a,0≤x∧x≤2)→(∀ x∈b,0≤x∧x≤2)→a.foldr (fun x s=>x.toNat+3*s) 0=b.foldr (fun x s=>x.toNat+3*s) 0→a=b
 |0,a,b,ha,hb,_,_,_=>by rw [ar.1 ha,ar.1 hb]
 |n+1,[],_,ha,_,_,_,_=>by cases ha
 |n+1,_::_,[],_,hb,_,_,_=>by cases hb
 |n+1,x::a,y::b,ha,hb,h1,h2,he=>by
  simp only [List.foldr_cons] at he;have hx:=h1 x (by simp);have hy:=h2 y (by simp);have e1:x=y:=by omega
  rw [e1,qc n a b (by simpa using ha) (by simpa using hb) (fun z hz=>h1 z (ao _ hz)) (fun z hz=>h2 z (ao _ hz)) (by omega)]
theorem yU:∀ (a:List Int),(∀ x∈a,0≤x∧x≤2)→a.foldr (fun x s=>x.toNat+3*s) 0<3 ^ a.length
 |[],_=>by decide
 |x::a,h=>by
  have ih:=yU a fun z hz=>h z (ao _ hz)
  have hx:=h x (by simp);grind
theorem a2u (q:Qu) (hq:Jy q) (hn:q.p.notes.length≤12) {t:Nat} (ht:t≤(A8 q.p).length):(Hy q t).length≤1000000:=by
 have hr:∀ l∈Hy q t,l.length=q.p.notes.length∧∀ x∈l,0≤x∧x≤2:=fun l hl=>by
  have hi:=(Qq q hq ht l).1 hl;have hlen:l.length=q.p.notes.length:=iE.len hi;refine ⟨hlen,fun x hx=>?_⟩;obtain ⟨i,h1,rfl⟩:=Md hx;exact Yr (Uc q) hi (by omega)
 have h1:((Hy q t).map fun a=>a.foldr (fun (x:Int) s=>x.toNat+3*s) 0).Nodup:=by
  refine eI _ (R:=fun a b=>a∈Hy q t∧b∈Hy q t∧a≠b) (fun a b ⟨ha,hb,hne⟩ e=>hne ?_) ?_
  ·exact qc _ a b (hr a ha).1 (hr b hb).1 (hr a ha).2 (hr b hb).2 e
  ·exact gn (R:=(·≠·)) (fun {a b} ha hb h=>⟨ha,hb,h⟩) (ah q hq ht)
 have h2:=Il (3 ^ q.p.notes.length) _ h1 fun i hi=>by
  obtain ⟨a,ha,rfl⟩:=aR.1 hi;have:=yU a (hr a ha).2;grind
 rw [bh] at h2;have h3:3 ^ q.p.notes.length≤3 ^ 12:=az (by decide) hn;omega
theorem oJ (q:Qu) (hn:q.p.notes.length≤12):∀ t,t<(A8 q.p).length→kQ q t≤12:=fun t ht=>by
 refine am (dd _ _) ?_;rw [Y9 q ht];exact am (Ue q.p _ _) hn
theorem jR (q:Qu) (hq:Jy q) (l:List Int):YZ q l=0↔l∈Hy q (A8 q.p).length:=by
 rw [VI q hq];unfold YZ;constructor
 ·intro h
  by_cases hc:Vj q l=0
  ·rw [if_pos hc] at h
   have hlen:=bT hc;have hcf:¬ 0≤wM q l:=fun h1=>by omega
   have hk:∀ i,i<l.length→V4 q l i=true:=fun i hi=>by
    unfold Vj at hc;have h1:Et (fun i=>!V4 q l i) l.length=-1:=fY fun h1=>by omega
    cases h2:V4 q l i with
    |true=>rfl
    |false =>
     have:=TK (P:=fun i=>!V4 q l i) (n:=l.length) (k:=i) (by grind) l.length (ab _) (by omega) hi;unfold Et at h1;omega
   refine ⟨hlen,fun i hi=>?_,fun t ht=>?_⟩
   ·obtain ⟨g1,g2,g3⟩:=iq (hk i (by omega))
    grind
   ·cases h2:IW q (IY q t) l with
    |true=>rfl
    |false =>
     exact absurd (TK (P:=fun i=>!IW q (IY q i) l) (n:=(A8 q.p).length) (k:=t) (by grind) _ (ab _) (by omega) ht) hcf
  omega
 ·rintro ⟨h1,h2,h3⟩
  have hc:Vj q l=0:=by
   unfold Vj Et;rw [if_pos h1,UG (fun i hi=>?_) _ (ab _),if_pos rfl];have:=h2 i (by omega);unfold V4;by_cases hp:GR q i=true
   ·grind
   ·rw [if_neg hp] at this
    have hp':GR q i=false:=by grind
    rw [hp'];rcases this with e|e<;>rw [e]<;>rfl
  have hcf:wM q l=-1:=by
   unfold wM Et;exact UG (fun i hi=>by grind) _ (ab _)
  omega
theorem au (q:Qu) (hq:Jy q) (hn:q.p.notes.length≤12):Ie env 11 [.agg (Enc.enc q)] (bK q):=a0j q hq (oJ q hn)
theorem XO (q:Qu) (hq:Jy q) (hn:q.p.notes.length≤12):Ie env 12 [.agg (Enc.enc q)] (.D9 [st (Lib.decDigits (Hy q (A8 q.p).length).length),.p (.int .i64 0)]) :=
 jX q hq (oJ q hn) fun t ht=>a2u q hq hn ht
theorem a1j (x y:Way):dQ x y∨dQ y x:=by
 cases h:ltB x y with
 |true=>exact .inl (um h)
 |false=>exact .inr (l9 h)
theorem a5v (f:List Int→Int):∀ L:List (List Int),L≠[]→∃ l∈L,∀ h∈L,dQ (l,f l) (h,f h)
 |[],h=>absurd rfl h
 |a::L,_=>by
  by_cases hL:L=[]
  ·subst hL
   exact ⟨a,by simp,fun h hh=>by rw [aL] at hh;subst hh;exact IX _⟩
  ·obtain ⟨l,h1,h2⟩:=a5v f L hL
   rcases a1j (a,f a) (l,f l) with h3|h3
   ·refine ⟨a,by simp,fun h hh=>?_⟩
    rcases bj.1 hh with rfl|hh
    ·exact IX _
    ·exact KC h3 (h2 h hh)
   grind
theorem uY (q:Qu):(Hy q (A8 q.p).length=[]∧Ya q=none)∨∃ l,Ya q=some l∧IsB q l:=by
 by_cases h:Hy q (A8 q.p).length=[]
 ·exact .inl ⟨h,iR h⟩
 ·obtain ⟨l,h1,h2⟩:=a5v (GY q) _ h
  exact .inr ⟨l,Vl ⟨h1,h2⟩,h1,h2⟩
end Go.Proofs.YtnjkoebfgcbbdaaGreatDoor
namespace Go.Proofs.YtnjkoebfgcbbdaaGreatDoor
open Go Go.Am Go.Vm Go.Pie
attribute [local irreducible] Aa Aj Ah Ad AP Ap Bd BL Bf Ag Vm.Done BA AB
attribute [local irreducible] Ce Ba DV DN En AZ CB
open Go.Sch
attribute [local irreducible] OT AX BD DW Ie FP Hold
def thR:Hr:=⟨[79,112,101,110],[79,112,101,110],⟨8,1⟩,36,[1]⟩
def thD:mX:=⟨[71,114,101,97,116],false,36,72,[]⟩
def thO:Ia:=⟨[84,104,114,101,101],[thR],[thD],[]⟩
def thP:F7:=⟨[0,8],[⟨0,4,0,40⟩,⟨0,4,0,52⟩,⟨4,8,0,60⟩],[]⟩
def thY:bY:=⟨1,12,0,0⟩
def VA:Qu:=⟨thO,thP,thY⟩
theorem wF:Ap env 10 [] (.p (.agg (Enc.enc VA))):=by
 refine Ap.enter (Ae (by decide)) Tryz.func10 rfl (by kernel_rfl) (by simp [Tryz.ntmps10]) ?_
 repeat' (first|(refine Aj.HY 6 ?_;refine Aj.ghost (Aw.freeze 5 rfl rfl) ?_)|(refine Aj.HY 12 ?_;refine Aj.ghost (Aw.trans (Aw.freeze 8 rfl rfl) (Aw.freeze 11 rfl rfl)) ?_)|(refine Aj.HY 18 ?_;refine Aj.ghost (Aw.trans (Aw.freeze 13 rfl rfl) (Aw.freeze 17 rfl rfl)) ?_)|apply Ad.Bz|apply Ad.ret|apply Aj.nil|apply Aj.one|(apply Aa.load;rfl;rfl)|(apply Aa.alloc;rfl)|(apply Aa.FI;rfl;rfl;rfl;trivial;rfl;rfl;exact Bj rfl;exact le_dec rfl)|(apply Aa.build;rfl;rfl;rfl;rfl;rfl)|(apply Aa.buildSlice;rfl;rfl;rfl;decide;rfl;rfl;rfl))
 all_goals try (exfalso;omega)
 refine Done.ret rfl (.p (.agg ?_)) trivial BJ.nil (an _) (ab _) ⟨rfl,rfl,rfl⟩;exact .cons (.refl _) (.cons (.refl _) (.cons (.lst (.cons (.refl _) (.cons (.refl _) (.cons (.refl _) (.cons (.refl _) (.cons (.nil _) (.refl _))))))) (.cons (.nil _) (.cons (.refl _) (.cons (.refl _) (.cons (.nil _) (.refl _)))))))
theorem lt1 {i:Nat} (h:i<1):i=0 :=by omega
theorem b5n:Ce thR=0:=by
 unfold Ce;have h1:DF thR.name:=a3w [79,112,101,110] (by decide) (by decide) (by decide);have h3:Ri thR.Eb=0:=pk1 8 (.inl rfl);have hw:thR.EX=[1]:=rfl;rw [if_neg (by rintro (h|h);exact h h1;exact h h1),if_neg (fun h=>h h3),if_neg (by show ¬ ((36:Int)< -256∨(36:Int)>256);omega),hw,if_neg (by simp),if_neg (by simp)];unfold Ba;rw [if_pos];intro j hj;obtain rfl:=lt1 hj;decide
theorem a0a:V3 thO=0:=by
 have eR:thO.ranks=[thR]:=rfl;have eD:thO.Af=[thD]:=rfl;have eC:thO.II=[]:=rfl;have eN:thO.name=[84,104,114,101,101]:=rfl;unfold V3;rw [eR,eD,eC,eN];have hr:PI [thR] 0=0:=Vy (fun i hi=>by
  obtain rfl:=lt1 hi;exact ⟨b5n,by simp⟩) _ 0 rfl
 have hv:DN [thR] thD=0:=by
  unfold DN;exact SQ (fun i hi=>absurd hi (bo _)) _ 0 rfl
 have hd:GL [thR] [thD] 0=0:=Tm (fun i hi=>by
  obtain rfl:=lt1 hi;exact ⟨a3w [71,114,101,97,116] (by decide) (by decide) (by decide),by simp,hv⟩) _ 0 rfl
 rw [if_neg (fun h=>h (a3w [84,104,114,101,101] (by decide) (by decide) (by decide))),if_neg (by simp),if_neg (fun h=>h hr),if_neg (by simp),if_neg (by simp),if_neg (fun h=>h hd)];unfold En;rw [if_neg (by simp)];have hc:Tt ([thD].map fun d=>(⟨d.lo,d.hi⟩:mY)) 0=0:=Vu (fun i hi=>by
  obtain rfl:=lt1 hi;rfl) _ 0 rfl
 rw [if_neg (fun h=>h hc)];exact SX (fun i hi=>absurd hi (bo _)) _ 0 rfl
theorem b6l:TW thO:=by
 refine ⟨by decide,by decide,by decide,by decide,fun i hi=>?_,fun i hi=>?_,fun i hi=>absurd hi (bo _)⟩
 ·obtain rfl:=lt1 hi
  exact ⟨by decide,by decide,by decide⟩
 ·obtain rfl:=lt1 hi
  exact ⟨by decide,by decide,fun j hj=>absurd hj (bo _)⟩
theorem b9v:a3p thO:=b7r b6l a0a
theorem c1h (N:List LW) (h1:N.length≤1000) (h2:∀ i,i<N.length→(gi N i).d=0∧(36≤(gi N i).k∧(gi N i).k≤72)∧0≤(gi N i).s∧(gi N i).s<(gi N i).e∧(gi N i).e≤8) (h3:∀ i,i<N.length→∀ j,j<i→kW (gi N j) (gi N i)=false):xq thO ⟨[0,8],N,[]⟩:=by
 refine yH ⟨by simp,by grind,by simp,fun i hi=>absurd hi (bo _)⟩ ⟨by simp,by simp⟩ (fun i hi=>?_) h1 (fun i hi=>?_) (by simp) fun i hi=>absurd hi (bo _)
 ·rcases lt2 hi with rfl|rfl
  ·exact ⟨by show (0:Int)≤0∧(0:Int)≤100000;decide,fun h=>by omega⟩
  ·exact ⟨by show (0:Int)≤8∧(8:Int)≤100000;decide,fun _=>by show (0:Int)<8;decide⟩
 ·obtain ⟨g1,g2,g3,g4,g5⟩:=h2 i hi
  refine ⟨by show 0≤(gi N i).d∧(gi N i).d<((1:Nat):Int);omega,?_,by show (0:Int)≤(gi N i).s∧(gi N i).s<(gi N i).e∧(gi N i).e≤8;omega,h3 i hi⟩;rw [g1];exact g2
theorem b8f (N:List LW) (y:bY) (hy:y.Ok) (h:xq thO ⟨[0,8],N,[]⟩):Jy ⟨thO,⟨[0,8],N,[]⟩,y⟩ :=
 ⟨b9v,by unfold XV;rw [if_neg (fun h=>h a0a)];exact h.err,h,hy⟩
theorem Yk:Jy VA:=b8f _ thY ⟨by decide,by decide,by decide,by decide⟩ (c1h _ (by simp) (fun i hi=>by
 have:i=0∨i=1∨i=2:=by
  grind
 rcases this with rfl|rfl|rfl<;>decide) fun i hi j hj=>by
 have hi3:i=0∨i=1∨i=2:=by
  grind
 rcases hi3 with rfl|rfl|rfl
 ·omega
 ·obtain rfl:j=0:=by omega
  decide
 ·have hj2:j=0∨j=1:=by omega
  rcases hj2 with rfl|rfl<;>decide)
theorem b5l:Dy thP=[0,4,8]:=by
 refine zG (WJ (iU _)) (by unfold Inc;simp) fun x=>?_
 unfold Dy;rw [Qd,fy];have:TI thP thP.notes.length=[0,8,0,4,0,4,4,8]:=rfl;grind
theorem jv:A8 VA.p=[⟨0,4,[0,1]⟩,⟨4,8,[2]⟩]:=by
 show A8 thP=_;unfold A8;rw [b5l];rfl
theorem a6a:IY VA 0=[0,1]:=by unfold IY;rw [jv];rfl
theorem a7r:IY VA 1=[2]:=by unfold IY;rw [jv];rfl
def thL:List (List Int):=[[0,1,0],[0,1,1],[1,0,0],[1,0,1]]
theorem zD:∀ l∈([[0,0,0],[0,0,1],[0,1,0],[0,1,1],[1,0,0],[1,0,1],[1,1,0],[1,1,1]]:List (List Int)),(IW VA [0,1] l&&IW VA [2] l)=decide (l∈thL) :=by decide
theorem tC (l:List Int):l∈Hy VA (A8 VA.p).length↔l∈thL:=by
 rw [VI VA Yk,jv];have h8:∀ l:List Int,(l.length=3∧∀ i,i<3→gi l i=0∨gi l i=1)→l∈([[0,0,0],[0,0,1],[0,1,0],[0,1,1],[1,0,0],[1,0,1],[1,1,0],[1,1,1]]:List (List Int)):=by
  rintro l ⟨h1,h2⟩;obtain ⟨a,b,c,rfl⟩:∃ a b c,l=[a,b,c]:=by
   match l,h1 with
   |[a,b,c],_=>simp
  have ha:a=0∨a=1:=h2 0 (by decide);have hb:b=0∨b=1:=h2 1 (by decide);have hc:c=0∨c=1:=h2 2 (by decide);rcases ha with rfl|rfl<;>rcases hb with rfl|rfl<;>rcases hc with rfl|rfl<;>simp
 have hpd:∀ i,i<3→GR VA i=false:=fun i hi=>by
  have:i=0∨i=1∨i=2:=by omega
  rcases this with rfl|rfl|rfl<;>rfl
 constructor
 ·rintro ⟨h1,h2,h3⟩
  have hl:=h8 l ⟨h1,fun i hi=>by
   have:=h2 i hi;grind⟩
  have hp:=zD l hl;have p0:=h3 0 (by decide);have p1:=h3 1 (by decide);rw [a6a] at p0;rw [a7r] at p1;grind
 ·intro h
  have hl:l∈([[0,0,0],[0,0,1],[0,1,0],[0,1,1],[1,0,0],[1,0,1],[1,1,0],[1,1,1]]:List (List Int)):=by
   simp only [thL,List.mem_cons,List.not_mem_nil,or_false] at h;rcases h with rfl|rfl|rfl|rfl<;>simp
  have hp:=zD l hl;rw [decide_eq_true h,eQ] at hp;refine ⟨?_,fun i hi=>?_,fun t ht=>?_⟩
  ·simp only [thL,List.mem_cons,List.not_mem_nil,or_false] at h
   rcases h with rfl|rfl|rfl|rfl<;>rfl
  ·have hi:i<3:=hi
   rw [hpd i hi];have:i=0∨i=1∨i=2:=by omega
   simp only [thL,List.mem_cons,List.not_mem_nil,or_false] at h;rcases h with rfl|rfl|rfl|rfl<;>rcases this with rfl|rfl|rfl<;>decide
  ·rcases lt2 ht with rfl|rfl
   ·rw [a6a];exact hp.1
   ·rw [a7r];exact hp.2
theorem a5d:(Hy VA (A8 VA.p).length).length=4:=by
 have h:(Hy VA (A8 VA.p).length).Perm thL:=(fL (ah VA Yk (ab _)) (by decide)).2 tC;exact h.length_eq
theorem b3x (l:List Int) (h:Int):Dq VA l h 2=(let r0:=TG thP [0,1] l h 2;let r1:=TG thP [2] l h 1;let A:=if r0.1=true then [(⟨h,0,r0.2⟩:Pos)] else [];if r1.1=true then A++[⟨h,1,r1.2⟩] else A):=by
 have e0:Fh VA l h 0=TG thP [0,1] l h 2:=by unfold Fh;rw [a6a];rfl
 have e1:Fh VA l h 1=TG thP [2] l h 1:=by unfold Fh;rw [a7r];rfl
 unfold Dq Dq Dq;grind
def thC (l:List Int):Int :=
 let P:=fun h:Int=>(let r0:=TG thP [0,1] l h 2;let r1:=TG thP [2] l h 1;let A:=if r0.1=true then [(⟨h,0,r0.2⟩:Pos)] else [];if r1.1=true then A++[⟨h,1,r1.2⟩] else A)
 kN (P 0++P 1) ((P 0++P 1).length-1)
theorem lu (l:List Int):GY VA l=thC l:=by
 unfold GY TY;have:(A8 VA.p).length=2:=by rw [jv];rfl
 rw [this,b3x,b3x];rfl
theorem a5f:thL.map thC=[20,8,8,20] :=by decide
theorem y8:Ya VA=some [0,1,1]∧GY VA [0,1,1]=8:=by
 have c:=a5f;simp only [thL,List.map_cons,List.map_nil,List.cons.injEq,and_true] at c;obtain ⟨c0,c1,c2,c3⟩:=c;refine ⟨Vl ⟨(tC _).2 (by simp [thL]),fun h hh=>?_⟩,by rw [lu,c1]⟩;have:=(tC h).1 hh;rw [lu,lu,c1];simp only [thL,List.mem_cons,List.not_mem_nil,or_false] at this;rcases this with rfl|rfl|rfl|rfl
 ·exact .inl (by decide)
 ·exact IX _
 ·exact .inr ⟨rfl,by decide⟩
 ·exact .inl (by decide)
theorem LP:Am.Enters Tryz.prog 11:=⟨_,Tryz.func11,by rfl,by rfl⟩
theorem Kw:Am.Enters Tryz.prog 12:=⟨_,Tryz.func12,by rfl,by rfl⟩
theorem Jc:Am.Enters Tryz.prog 9:=⟨_,Tryz.func9,by rfl,by rfl⟩
theorem pI (a b:List Int) (ha:a.length<1000000) (hb:b.length<1000000):Ap env 21 [.lst 3 (cells a) a.length,.lst 3 (cells b) b.length] (.p (.bool (decide (a=b)))):=by
 by_cases hl:a.length=b.length
 ·refine Ap.enter (Ae (by decide)) Tryz.func21 rfl (by kernel_rfl) (by simp [Tryz.ntmps21]) ?_
  repeat' (first|refine IG ?_|(apply Ad.Ac;rfl)|(intro _;try (exfalso;omega)))
  all_goals try (exfalso;omega)
  apply Ad.Ii (a.length) (fun k=>∀ i,i<k→gi a i=gi b i) [(0,_),(1,_)] [] (fun k r=>(5,.p (.int .i64 (k:Int)))::r) (fun k r=>r) 0
  ·first|omega|decide
  ·first|omega|decide
  ·exact Nl
  ·exact O7
  ·first|(intro _ _;omega)|omega|trivial
  ·intro k hk hi
   by_cases h:gi a k=gi b k
   ·repeat' (first|(apply Aa.Ak;rfl;rfl;rfl;omega;rfl)|refine IG ?_|(apply Ad.Ac;rfl)|(apply Ad.Ar;rfl)|(intro _;try (exfalso;omega)))
    all_goals try (exfalso;omega)
    all_goals try contradiction
    refine Ag.normal ⟨(fun i hik=>by rcases aq i k with h1|h1;exact hi i h1;rw [show i=k by omega];exact h),by first|omega|decide,?_,?_⟩
    ·exact C9
    ·exact DT
   ·rw [decide_eq_false (fun e=>h (by rw [e]))]
    repeat' (first|(apply Aa.Ak;rfl;rfl;rfl;omega;rfl)|refine IG ?_|(apply Ad.Ac;rfl)|(apply Ad.Ar;rfl)|(intro _;try (exfalso;omega)))
    all_goals first|(exfalso;omega)|contradiction|(refine Done.rt rfl rfl ⟨?_,rfl,rfl⟩;try rfl)
  ·intro hi
   rw [decide_eq_true (Kt hl hi)]
   repeat' (first|refine IG ?_|(apply Ad.Ac;rfl)|(intro _;try (exfalso;omega)))
   all_goals first|(exfalso;omega)|contradiction|(refine Done.rt rfl rfl ⟨?_,rfl,rfl⟩;try rfl)
 ·rw [decide_eq_false (fun e=>hl (by rw [e]))]
  refine Ap.enter (Ae (by decide)) Tryz.func21 rfl (by kernel_rfl) (by simp [Tryz.ntmps21]) ?_
  repeat' (first|refine IG ?_|(apply Ad.Ac;rfl)|(intro _;try (exfalso;omega)))
  all_goals first|(exfalso;omega)|contradiction|(refine Done.rt rfl rfl ⟨?_,rfl,rfl⟩;try rfl)
theorem c4n:Lib.decDigits 4=[52]:=by rw [Lib.decDigits];rfl
theorem mQ:Ie env 9 [] (.p (.bool true)):=by
 have h3:=wF;have hB:=au VA Yk (by show 3≤12;decide);have hC:=XO VA Yk (by show 3≤12;decide);rw [a5d,c4n] at hC;have hR:bK VA=.D9 [.p (.agg [.lst 3 (cells ([0,1,1]:List Int)) 3,.int .i64 8]),.p (.int .i64 0)]:=by
  unfold bK;rw [y8.1];show PV.D9 [.p (.agg [.lst 3 (cells ([0,1,1]:List Int)) 3,.int .i64 (GY VA [0,1,1])]),.p (.int .i64 0)]=_;rw [y8.2]
 rw [hR] at hB;have hs:=pI [0,1,1] [0,1,1] (by show 3<1000000;decide) (by show 3<1000000;decide);rw [decide_eq_true rfl] at hs;refine Ie.enter Tryz.func9 rfl (by kernel_rfl) (by kernel_rfl) (by simp [Tryz.ntmps9]) ?_
 repeat' (first|(refine AX.at 1 ?_;apply AX.I5)|(refine AX.at 2 ?_;apply AX.I5)|(apply BD.fn;rfl;rfl;exact hB;exact LP;intro _;rfl)|(apply BD.fn;rfl;rfl;exact hC;exact Kw;intro _;rfl)|(refine Aj.HY 21 ?_;refine Aj.ghost (Aw.freeze 20 rfl rfl) ?_)|apply AX.Bz|apply AX.ret|apply BD.nil|apply BD.one|apply Aj.nil|apply Aj.one|(apply Aj.take;rfl;rfl)|(apply Aa.fn;rfl;rfl;exact h3;intro _;rfl)|(apply Aa.fn;rfl;rfl;exact hs;intro _;rfl)|(apply Aa.assign;rfl)|(apply Aa.move;rfl)|(apply Aa.int;rfl;rfl;rfl)|(apply Aa.load;rfl;rfl)|(apply Aa.Na;rfl;rfl)|(apply Aa.Ij;rfl;rfl;rfl)|(apply Aa.alloc;rfl)|(apply Aa.FI;rfl;rfl;rfl;trivial;rfl;rfl;exact Bj rfl;exact le_dec rfl)|(apply Aa.buildSlice;rfl;rfl;rfl;decide;rfl;rfl;rfl)|(apply Aa.eqS;rfl;rfl)|(apply Aa.extract;rfl;rfl))
 all_goals first|(exfalso;omega)|contradiction|(refine Done.rt rfl rfl ⟨?_,rfl,rfl⟩;try rfl)
end Go.Proofs.YtnjkoebfgcbbdaaGreatDoor
namespace Go.Vm
open Go.Am
variable {E:Env} {n bn:Nat} {L:Frame} {H:Heap} {nx:Nat}
theorem BD.og {ops:Array Oper} {l:List Oper} {R:Frame→Heap→Nat→Prop} (h:Aj E bn ops l L H nx R):BD E n bn ops l L H nx R:=by
 intro hs hok B hB m F σ t h1 h2 h3 ι ac w hst R' hR;obtain ⟨s',⟨K,hk⟩,L',H',nx',F',σ',q,c1,c2,c3⟩:=h B hB m F σ t h1 h2 h3;have hx:=hk K K (ab _) (ab _);have hcall:=Iq (N:=K) hs.o hs.mix K;have:=Oc (rf:=none) (nn:=0) (Q:=R') hcall l ⟨t,m⟩ s' ι ac w hok hx hst fun a' w' hr=>by
  obtain ⟨ι',he,hst'⟩:=hr;exact hR L' H' nx' a' w' q ⟨s'.m,F',σ',s'.t,ι',c1,c2,c3,he,hst',fun d hd=>Pz l _ _ hx hd⟩
 exact this
end Go.Vm
namespace Go.Proofs.YtnjkoebfgcbbdaaGreatDoor
open Go Go.Am Go.Vm Go.Pie Go.Sch
attribute [local irreducible] Aa Aj Ah Ad AP Ap Bd BL Bf Ag Vm.Done BA AB OT AX BD DW Ie FP Hold
attribute [local irreducible] Ce Ba DV DN En AZ CB
structure Rch where
 a:Nat
 b:Nat
 c:Nat
 d:Nat
def Rch.enc (y:Rch):List FV:=[.int .u8 (y.a:Int),.int .u8 (y.b:Int),.int .u8 (y.c:Int),.int .u8 (y.d:Int)]
structure Rch.Ok (y:Rch):Prop where
 a:y.a<256
 b:y.b<256
 c:y.c<256
 d:y.d<256
theorem a0x {j:Nat} {fs:List FV} (h:Fb Tryz.prog (j+2) 61 fs):∃ y:Rch,fs=y.enc∧y.Ok:=by
 obtain ⟨parts,rfl,hp⟩:=FD h Tryz.underlying61;obtain ⟨a,b,c,d,rfl,h1,h2,h3,h4⟩:=Jw hp;obtain ⟨m1,rfl,q1⟩:=EK (j:=j) h1;obtain ⟨m2,rfl,q2⟩:=EK (j:=j) h2;obtain ⟨m3,rfl,q3⟩:=EK (j:=j) h3;obtain ⟨m4,rfl,q4⟩:=EK (j:=j) h4;exact ⟨⟨m1,m2,m3,m4⟩,rfl,q1,q2,q3,q4⟩
def mkY (y:Rch):bY:=⟨(y.a:Int) % 5,(y.b:Int) % 16,(y.c:Int) % 4,(y.d:Int) % 16⟩
noncomputable def mkH (x:bZ) (y:Rch):Qu:=⟨aC x.org,mkP x,mkY y⟩
theorem oP (x:bZ) (hx:x.Ok) (hf:OW x) (y:Rch) (hy:y.Ok):Ap env 15 [.agg x.enc,.agg y.enc] (.p (.agg (Enc.enc (mkH x y)))):=by
 have hm:=pq x hx hf;obtain ⟨y1,y2,y3,y4⟩:=hy;unfold mkH mkY;generalize aC x.org=o at *;generalize mkP x=p at *;refine Ap.enter (Ae (by decide)) Tryz.func15 rfl (by kernel_rfl) (by simp [Tryz.ntmps15]) ?_
 repeat' (first|(apply Aa.fn;rfl;rfl;exact hm;intro _;rfl)|refine IE ?_|(apply Aa.build;rfl;rfl;rfl;rfl;rfl)|(apply Aa.Hw;rfl;rfl;rfl;rfl;omega))
 all_goals first|(exfalso;omega)|(refine Done.rt rfl rfl ⟨?_,rfl,rfl⟩;try rfl)
theorem b8h (x:bZ) (hx:x.Ok) (hf:OW x) (y:Rch):Jy (mkH x y):=by
 refine ⟨b7r (qQ x.org hx.org hf.1).sm (qQ x.org hx.org hf.1).ok,b0k x hx hf,b4k x hx hf,?_,?_,?_,?_⟩
 ·show 0≤(y.a:Int) % 5∧(y.a:Int) % 5≤10;omega
 ·show 0≤(y.c:Int) % 4∧(y.c:Int) % 4≤10;omega
 ·show 0≤(y.b:Int) % 16∧(y.b:Int) % 16≤127;omega
 ·show 0≤(y.d:Int) % 16∧(y.d:Int) % 16≤127;omega
theorem b9x (x:bZ) (hf:OW x) (y:Rch):(mkH x y).p.notes.length≤8:=by
 have h1:=P5 (aC x.org) (bM x.bars x.bars.length) x.notes x.notes.length;have h2:=hf.2.2.1;show (Hg (aC x.org) (bM x.bars x.bars.length) x.notes x.notes.length).length≤8;omega
def JM (p:F7) (N:List Int) (is:Nat→Bool):Nat→List Int
 |0=>[]
 |k+1=>if is (gi N k).toNat=true then JM p N is k++[(gi p.notes (gi N k).toNat).k] else JM p N is k
theorem jo {p:F7} {N:List Int} {is:Nat→Bool} {x:Int}:∀ k,x∈JM p N is k↔∃ i,i<k∧is (gi N i).toNat=true∧(gi p.notes (gi N i).toNat).k=x
 |0=>⟨fun h=>(by cases h),fun ⟨i,hi,_⟩=>absurd hi (bo _)⟩
 |k+1=>by
  have ih:=jo (p:=p) (N:=N) (is:=is) (x:=x) k;unfold JM;grind
theorem zK {p:F7} {N:List Int} {is:Nat→Bool} {d:Nat}:∀ {k i:Nat},i<k→is (gi N i).toNat=true→(gi p.notes (gi N i).toNat).d=(d:Int)→(gi p.notes (gi N i).toNat).k∈tq p N is d k
 |0,i,hi,_,_=>absurd hi (bo _)
 |k+1,i,hi,h1,h2=>by
  rw [Qi];rcases aq i k with h3|h3
  ·have ih:=zK (p:=p) h3 h1 h2
   grind
  grind
theorem mV {q:Qu} (hq:Jy q) {N:List Int} (hN:dH q N) {is:Nat→Bool} {k:Nat} (hk:k≤N.length):∀ i,i<(JM q.p N is k).length→0≤gi (JM q.p N is k) i∧gi (JM q.p N is k) i≤127:=fun i hi=>by
 obtain ⟨j,hj,_,h2⟩:=(jo k).1 (Es hi);have hn:=hN j (by omega);have hh:=hq.p.note (gi N j).toNat (by omega);have h1:=hq.o.cmp (i:=(gi q.p.notes (gi N j).toNat).d.toNat) (by have:=hh.d;omega);have:=hh.k;omega
theorem Uw (p:F7) (N:List Int) (is:Nat→Bool):∀ k,(JM p N is k).length≤k
 |0=>ab _
 |k+1=>by
  have ih:=Uw p N is k;unfold JM;grind
theorem uM (y:bY) (K:List Jk):∀ n,(hcK y K n).1=true→((∀ d,d<n→Ea (gi K d)=[])∧(hcK y K n).2=0)∨∃ d,d<n∧WH y (Ea (gi K d))∧(∀ e,e<n→e≠d→Ea (gi K e)=[])∧(hcK y K n).2≠0
 |0,_=>.inl ⟨fun d hd=>absurd hd (bo _),rfl⟩
 |n+1,h=>by
  unfold hcK at h ⊢;by_cases hm:Ea (gi K n)=[]
  ·rw [if_pos hm] at h ⊢
   rcases uM y K n h with ⟨h1,h2⟩|⟨d,h1,h2,h3,h4⟩
   ·grind
   grind
  ·rw [if_neg hm] at h ⊢
   simp only [Bool.and_eq_true,decide_eq_true_eq] at h;obtain ⟨⟨h1,h2⟩,h3⟩:=h;rcases uM y K n h1 with ⟨h4,_⟩|⟨d,_,_,_,h5⟩
   ·grind
   omega
theorem ZP {q:Qu} (hq:Jy q) {N:List Int} (hN:dH q N) {l:List Int} {h:Int} (hc:Vb q N l h=true):WH q.y (Ea (SE (JM q.p N (hasB l h) N.length) (JM q.p N (hasB l h) N.length).length)):=by
 have hA:=mV hq hN (is:=hasB l h) (ab N.length);have hmem:∀ x,x∈Ea (SE (JM q.p N (hasB l h) N.length) (JM q.p N (hasB l h) N.length).length)→∃ d,d<q.o.Af.length∧x∈Ea (gi (cu q N (hasB l h)) d):=fun x hx=>by
  obtain ⟨i,hi,h1,h2⟩:=(jo _).1 ((Uj hA).1 hx);have hn:=hN i hi;have hh:=hq.p.note (gi N i).toNat (by omega);have hd:=hh.d;obtain ⟨d,hdd⟩:∃ d:Nat,(gi q.p.notes (gi N i).toNat).d=(d:Int):=⟨(gi q.p.notes (gi N i).toNat).d.toNat,by omega⟩
  refine ⟨d,by omega,?_⟩;unfold cu;rw [D7 _ (by omega)];refine (Uj (U4 hq hN _ (ab _))).2 ?_;rw [← h2];exact zK hi h1 hdd
 have hy:=hq.y;obtain ⟨y1,y2,y3,y4⟩:=hy;unfold Vb at hc;rw [lM] at hc;rcases uM _ _ _ hc with ⟨h1,_⟩|⟨d,h1,h2,h3,_⟩
 ·have he:Ea (SE (JM q.p N (hasB l h) N.length) (JM q.p N (hasB l h) N.length).length)=[]:=by
   refine eZ.2 fun x hx=>?_
   grind
  rw [he];exact ⟨y1.1,y3.1⟩
 ·have hsub:∀ x,x∈Ea (SE (JM q.p N (hasB l h) N.length) (JM q.p N (hasB l h) N.length).length)→x∈Ea (gi (cu q N (hasB l h)) d):=fun x hx=>by
   grind
  have hl:=iC (a1v (YV _)) hsub;refine ⟨by have:=h2.1;omega,?_⟩;refine (a8b (YV _) y3.1).2 fun x hx z hz=>?_
  exact (a8b (YV _) y3.1).1 h2.2 x (hsub x hx) z (hsub z hz)
theorem YX (x:bZ) (hx:x.Ok) (y:Rch) (hy:y.Ok) (l:List Int) (hl:l.length≤maxLen):Ie env 6 [.agg x.enc,.agg y.enc,.lst 3 (cells l) l.length] (.p (.bool true)):=by
 have hkn:=mQ;have hf:=xZ x hx;by_cases hfit:OW x
 ·rw [decide_eq_true hfit] at hf
  by_cases hl9:9<l.length
  ·refine Ie.enter Tryz.func6 rfl (by kernel_rfl) (by kernel_rfl) (by simp [Tryz.ntmps6]) ?_
   repeat' (first|(refine AX.at 1 ?_;apply AX.I5)|(refine AX.at 2 ?_;apply AX.I5)|(apply BD.fn;rfl;rfl;exact hkn;exact Jc;intro _;rfl)|apply AX.Bz|apply DW.ret|apply AX.to|apply AX.ret|(apply AX.Ar;rfl)|apply BD.nil|apply BD.one|(apply Aa.fn;rfl;rfl;exact hf;intro _;rfl)|refine go1 ?_|(apply Aa.int;rfl;rfl;rfl)|(intro _;try (exfalso;omega))|(apply BD.og))
   all_goals first|(exfalso;omega)|contradiction|(refine Done.rt rfl rfl ⟨?_,rfl,rfl⟩;try rfl)
  ·have hm:=oP x hx hfit y hy
   have hk0:=b8h x hx hfit y;have hn:=b9x x hfit y;unfold mkH at *;generalize aC x.org=o at *;generalize mkP x=p at *;generalize mkY y=z at *;have hB:=au _ hk0 (by omega);have hC:=XO _ hk0 (by omega);have hL:=bF ⟨o,p,z⟩ hk0 l (by omega);rcases uY ⟨o,p,z⟩ with ⟨hE,e1⟩|⟨a,e1,hA⟩
   ·unfold bK at hB
    rw [e1] at hB;have hne:YZ ⟨o,p,z⟩ l≠0:=fun h=>by
     have:=(jR _ hk0 l).1 h;rw [show Hy ⟨o,p,z⟩ (A8 p).length=[] from hE] at this;cases this
    rw [show Hy ⟨o,p,z⟩ (A8 p).length=[] from hE] at hC;rw [show Lib.decDigits ([]:List (List Int)).length=[48] from b7c] at hC;generalize YZ ⟨o,p,z⟩ l=le at *;refine Ie.enter Tryz.func6 rfl (by kernel_rfl) (by kernel_rfl) (by simp [Tryz.ntmps6]) ?_
    repeat' (first|(refine AX.at 1 ?_;apply AX.I5)|(refine AX.at 4 ?_;apply AX.I5)|(refine AX.at 5 ?_;apply AX.I5)|(apply BD.fn;rfl;rfl;exact hkn;exact Jc;intro _;rfl)|(apply BD.fn;rfl;rfl;exact hB;exact LP;intro _;rfl)|(apply BD.fn;rfl;rfl;exact hC;exact Kw;intro _;rfl)|apply AX.Bz|apply DW.normal|apply DW.ret|apply AX.to|apply AX.ret|apply AX.skip|(apply AX.cond_true;rfl)|(apply AX.cond_false;rfl)|(apply AX.Ar;rfl)|apply BD.nil|apply BD.one|(apply Aa.fn;rfl;rfl;exact hf;intro _;rfl)|(apply Aa.fn;rfl;rfl;exact hm;intro _;rfl)|(apply Aa.fn;rfl;rfl;exact hL;intro _;rfl)|refine go1 ?_|(apply Aa.int;rfl;rfl;rfl)|(apply Aa.neS;rfl;rfl)|(apply Aa.neB;rfl;rfl;rfl)|(intro _;try (exfalso;omega))|(apply BD.og))
    all_goals first|(exfalso;omega)|contradiction|(refine Done.rt rfl rfl ⟨?_,rfl,rfl⟩;try rfl)
    all_goals first|exact PV.I8 (decide_eq_true (by omega))|exact PV.I8 (by simp;omega)
   ·have hB:Ie env 11 [.agg (Enc.enc (⟨o,p,z⟩:Qu))] (.D9 [.p (.agg [.lst 3 (cells a) a.length,.int .i64 (GY ⟨o,p,z⟩ a)]),.p (.int .i64 0)]):=by
     unfold bK at hB;rw [e1] at hB;exact hB
    have hfa:=(VI _ hk0 a).1 hA.1;have hal:a.length=p.notes.length:=hfa.1;have hlen:p.notes.length≤8:=hn;have b4g:=eY ⟨o,p,z⟩ hk0 a (by omega) ((jR _ hk0 a).2 hA.1);have hdec:decide (Lib.decDigits (Hy ⟨o,p,z⟩ (A8 p).length).length=[48])=false:=decide_eq_false fun h=>by
     have h1:=(qG _).1 h;have h2:=gA hA.1;have h2:0<(Hy ⟨o,p,z⟩ (A8 p).length).length:=h2;omega
    have hsl:=Xv hk0.o.sm hk0.e hk0.p;have hS:∀ k,k<(A8 p).length→dH ⟨o,p,z⟩ (gi (A8 p) k).notes∧(gi (A8 p) k).notes.length≤1000∧∀ h:Nat,h<2→Vb ⟨o,p,z⟩ (gi (A8 p) k).notes a (h:Int)=true:=fun k hk=>by
     refine ⟨KZ (q:=⟨o,p,z⟩) hk,Tc hk0 hk,fun h hh=>?_⟩;have h1:=hfa.2.2 k hk;unfold IW at h1;simp only [Bool.and_eq_true] at h1;obtain rfl|rfl:h=0∨h=1:=by omega
     ·exact h1.1.1
     ·exact h1.1.2
    have hSl:=Kq p;have hle:YZ ⟨o,p,z⟩ l=0→GY ⟨o,p,z⟩ a≤GY ⟨o,p,z⟩ l:=fun h=>by
     have h1:dQ (a,GY ⟨o,p,z⟩ a) (l,GY ⟨o,p,z⟩ l):=hA.2 l ((jR _ hk0 l).1 h);rcases h1 with h1|⟨h1,_⟩
     ·exact Int.le_of_lt h1
     ·exact Int.le_of_eq h1
    generalize Lib.decDigits (Hy ⟨o,p,z⟩ (A8 p).length).length=dg at *;by_cases hlg:YZ ⟨o,p,z⟩ l=0
    ·have hcl:=eY ⟨o,p,z⟩ hk0 l (by omega) hlg
     have hle:=hle hlg;generalize GY ⟨o,p,z⟩ a=ca at *;generalize GY ⟨o,p,z⟩ l=cl at *;generalize A8 p=S at *;refine Ie.enter Tryz.func6 rfl (by kernel_rfl) (by kernel_rfl) (by simp [Tryz.ntmps6]) ?_
     repeat' (first|(refine AX.at 1 ?_;apply AX.I5)|(refine AX.at 4 ?_;apply AX.I5)|(refine AX.at 5 ?_;apply AX.I5)|(apply BD.fn;rfl;rfl;exact hkn;exact Jc;intro _;rfl)|(apply BD.fn;rfl;rfl;exact hB;exact LP;intro _;rfl)|(apply BD.fn;rfl;rfl;exact hC;exact Kw;intro _;rfl)|((refine AX.at 17 ?_;refine Hold.of ?_))|apply AX.Bz|apply DW.normal|apply AX.to|apply AX.skip|(apply AX.cond_false;rfl)|(apply AX.Ar;rfl)|apply BD.nil|apply BD.one|(apply Aa.fn;rfl;rfl;exact hf;intro _;rfl)|(apply Aa.fn;rfl;rfl;exact hm;intro _;rfl)|(apply Aa.fn;rfl;rfl;exact b4g;intro _;rfl)|(apply Aa.fn;rfl;rfl;exact hcl;intro _;rfl)|(apply Aa.fn;rfl;rfl;exact hsl;intro _;rfl)|(apply Aa.c0t;rfl;rfl;exact hdec)|refine go1 ?_|(apply Aj.guard;rfl;rfl)|(apply Aa.int;rfl;rfl;rfl)|(apply Aa.neB;rfl;rfl;rfl)|(intro _;try (exfalso;omega))|(apply BD.og))
     all_goals try (exfalso;omega)
     all_goals try contradiction
     refine Hold.go ?_;refine AX.og ?_
     repeat' (first|refine go2 ?_|apply Ad.Hq)
     all_goals try (exfalso;omega)
     apply Ad.Fq (S.length) [(7,_),(8,_),(123,_),(124,_)] [(2,_),(3,_)] (fun k r=>(125,.p (.int .i64 (k:Int)))::r) (fun k r=>r) 4
     ·first|omega|decide
     ·first|omega|decide
     ·exact Nl
     ·exact O7
     ·intro k hk
      obtain ⟨hN,hNl,hcan⟩:=hS k hk
      repeat' (first|(apply Aa.Ak;rfl;rfl;rfl;omega;rfl)|refine IG ?_|apply Ad.Hq|(apply Ad.Ac;rfl)|(intro _;try (exfalso;omega)))
      all_goals try (exfalso;omega)
      apply Ad.Fq (2) [(7,_),(8,_),(19,_),(123,_),(124,_),(125,_)] [(2,_),(3,_),(4,_)] (fun k_ r=>(20,.p (.int .i64 (k_:Int)))::r) (fun k_ r=>r) 5
      ·first|omega|decide
      ·first|omega|decide
      ·exact Nl
      ·exact O7
      ·intro hd hhd
       have hca:=hcan hd hhd
       repeat' (first|(refine Ad.at 24 ?_;refine Ad.ghost (Aw.adopt 21 3 rfl) ?_;first|apply Ad.Bz|apply Ad.Cm)|refine go0 ?_|apply Ad.Bz|(apply Ad.Ac;rfl)|(intro _;try (exfalso;omega)))
       all_goals try (exfalso;omega)
       apply Ad.Fq ((gi S k).notes.length) [(7,_),(8,_),(19,_),(20,_),(123,_),(124,_),(125,_),(134,_),(135,_)] [(2,_),(3,_),(4,_)] (fun k_ r=>(136,.p (.int .i64 (k_:Int)))::(21,.vec 5 (JM p (gi S k).notes (hasB a (hd:Int)) k_).length 0 (JM p (gi S k).notes (hasB a (hd:Int)) k_).length)::r) (fun k_ r=>(5,.vec 3 (cells (JM p (gi S k).notes (hasB a (hd:Int)) k_)) (JM p (gi S k).notes (hasB a (hd:Int)) k_).length true)::r) 6
       ·first|omega|decide
       ·first|omega|decide
       ·exact Nl
       ·exact O7
       ·intro k_ hk_
        obtain ⟨g1,g2⟩:=hN k_ hk_;obtain ⟨m,hm⟩:∃ m:Nat,gi (gi S k).notes k_=(m:Int):=⟨(gi (gi S k).notes k_).toNat,by omega⟩
        have hmn:m<p.notes.length:=by omega
        have hmt:(gi (gi S k).notes k_).toNat=m:=by omega
        have hkl:=Uw p (gi S k).notes (hasB a (hd:Int)) k_;by_cases hh:gi a m=(hd:Int)
        ·have e2:JM p (gi S k).notes (hasB a (hd:Int)) (k_+1)=JM p (gi S k).notes (hasB a (hd:Int)) k_++[(gi p.notes m).k]:=by
          show (if hasB a (hd:Int) (gi (gi S k).notes k_).toNat=true then _ else _)=_;rw [hmt,if_pos (show hasB a (hd:Int) m=true from decide_eq_true hh)]
         have e3:(JM p (gi S k).notes (hasB a (hd:Int)) (k_+1)).length=(JM p (gi S k).notes (hasB a (hd:Int)) k_).length+1:=by rw [e2,aw];rfl
         rw [e3,e2];generalize JM p (gi S k).notes (hasB a (hd:Int)) k_=X at *
         repeat' (first|(apply Aa.Ak (l:=a) (i:=m);rfl;exact congrArg (fun b=>some (PV.p (.int .i64 b))) hm;rfl;omega;rfl)|(apply Aa.Ak (l:=p.notes) (i:=m);rfl;exact congrArg (fun b=>some (PV.p (.int .i64 b))) hm;rfl;omega;rfl)|(apply Aa.Dc (l:=X) (a:=(gi p.notes m).k);rfl;rfl;rfl;rfl;rfl;rfl;rfl;rfl;(intro _ h;cases h);rfl;rfl;rfl;decide;decide;omega)|(apply Aa.Ak;rfl;rfl;rfl;omega;rfl)|refine go2 ?_|(apply Aa.int;rfl;rfl;rfl)|(apply Aa.buildSlice;rfl;rfl;rfl;decide;rfl;rfl;rfl)|(apply Ad.Ac;rfl)|(apply Ad.Ar;rfl)|(intro _;try (exfalso;omega)))
         all_goals try (exfalso;omega)
         all_goals try contradiction
         refine Ag.normal ⟨by first|omega|decide,?_,?_⟩
         ·exact C9
         ·exact DT
        ·have e2:JM p (gi S k).notes (hasB a (hd:Int)) (k_+1)=JM p (gi S k).notes (hasB a (hd:Int)) k_:=by
          show (if hasB a (hd:Int) (gi (gi S k).notes k_).toNat=true then _ else _)=_;rw [hmt,if_neg (show ¬ hasB a (hd:Int) m=true from fun h=>hh (of_decide_eq_true h))]
         rw [e2];generalize JM p (gi S k).notes (hasB a (hd:Int)) k_=X at *
         repeat' (first|(apply Aa.Ak (l:=a) (i:=m);rfl;exact congrArg (fun b=>some (PV.p (.int .i64 b))) hm;rfl;omega;rfl)|(apply Aa.Ak;rfl;rfl;rfl;omega;rfl)|refine go2 ?_|(apply Aa.int;rfl;rfl;rfl)|(apply Ad.Ac;rfl)|(apply Ad.Ar;rfl)|(intro _;try (exfalso;omega)))
         all_goals try (exfalso;omega)
         all_goals try contradiction
         refine Ag.normal ⟨by first|omega|decide,?_,?_⟩
         ·exact C9
         ·exact DT
       ·have hA:=mV (q:=⟨o,p,z⟩) hk0 hN (is:=hasB a (hd:Int)) (ab (gi S k).notes.length)
        have hAl:=Uw p (gi S k).notes (hasB a (hd:Int)) (gi S k).notes.length;have ho1:=ZP (q:=⟨o,p,z⟩) hk0 hN hca;have ho1:WH z (Ea (SE (JM p (gi S k).notes (hasB a (hd:Int)) (gi S k).notes.length) (JM p (gi S k).notes (hasB a (hd:Int)) (gi S k).notes.length).length)):=ho1;have hA:∀ i,i<(JM p (gi S k).notes (hasB a (hd:Int)) (gi S k).notes.length).length→0≤gi (JM p (gi S k).notes (hasB a (hd:Int)) (gi S k).notes.length) i∧gi (JM p (gi S k).notes (hasB a (hd:Int)) (gi S k).notes.length) i≤127:=hA;generalize JM p (gi S k).notes (hasB a (hd:Int)) (gi S k).notes.length=X at *;have hof:=Ud X (by omega) hA;have hon:=Zv z hk0.y (SE X X.length) (SC hA X.length (ab _));rw [decide_eq_true ho1] at hon;generalize SE X X.length=W at *
        repeat' (first|(refine Aj.HY 160 ?_;refine Aj.ghost (Aw.freeze 159 rfl rfl) ?_)|apply Ad.Bz|apply Ad.region|apply Ad.EN|apply BL.normal|apply Bf.normal|apply Bf.exit|apply Ag.exit|apply Ad.skip|apply Aj.nil|apply Aj.one|(apply Aj.take;rfl;rfl)|(apply Aa.fn;rfl;rfl;exact hof;intro _;rfl)|(apply Aa.fn;rfl;rfl;exact hon;intro _;rfl)|(apply Aa.assign;rfl)|(apply Aa.move;rfl)|(apply Aa.LQ;rfl;rfl;omega)|(apply Aa.int;rfl;rfl;rfl)|(apply Aa.load;rfl;rfl)|(apply Aa.KT;rfl;rfl)|(apply Aa.Ij;rfl;rfl;rfl)|(apply Aa.alloc;rfl)|(apply Aa.FI;rfl;rfl;rfl;trivial;rfl;rfl;exact Bj rfl;exact le_dec rfl)|(apply Aa.not;rfl)|(apply Aa.extract;rfl;rfl)|(apply Ad.Ac;rfl)|(apply Ad.cond_false;rfl)|(intro _;try (exfalso;omega)))
        all_goals try (exfalso;omega)
        all_goals try contradiction
        refine Ag.normal ⟨by first|omega|decide,?_,?_⟩
        ·exact C9
        ·exact DT
      ·repeat' (first|refine IG ?_|(apply Ad.Ai;rfl))
       all_goals try (exfalso;omega)
       refine Ag.normal ⟨by first|omega|decide,?_,?_⟩
       ·exact C9
       ·exact DT
     ·repeat' (first|apply AX.Bz|apply DW.normal|apply AX.ret|refine IG ?_|(apply Ad.Ac;rfl)|(intro _;try (exfalso;omega)))
      all_goals first|(exfalso;omega)|contradiction|(refine Done.rt rfl rfl ⟨?_,rfl,rfl⟩;try rfl)
    ·have hcl:=yw ⟨o,p,z⟩ _ _ hlg hL
     clear hle;generalize YZ ⟨o,p,z⟩ l=le at *;generalize GY ⟨o,p,z⟩ a=ca at *;generalize A8 p=S at *;refine Ie.enter Tryz.func6 rfl (by kernel_rfl) (by kernel_rfl) (by simp [Tryz.ntmps6]) ?_
     repeat' (first|(refine AX.at 1 ?_;apply AX.I5)|(refine AX.at 4 ?_;apply AX.I5)|(refine AX.at 5 ?_;apply AX.I5)|(apply BD.fn;rfl;rfl;exact hkn;exact Jc;intro _;rfl)|(apply BD.fn;rfl;rfl;exact hB;exact LP;intro _;rfl)|(apply BD.fn;rfl;rfl;exact hC;exact Kw;intro _;rfl)|((refine AX.at 17 ?_;refine Hold.of ?_))|apply AX.Bz|apply DW.normal|apply AX.to|apply AX.skip|(apply AX.cond_false;rfl)|(apply AX.Ar;rfl)|apply BD.nil|apply BD.one|(apply Aa.fn;rfl;rfl;exact hf;intro _;rfl)|(apply Aa.fn;rfl;rfl;exact hm;intro _;rfl)|(apply Aa.fn;rfl;rfl;exact b4g;intro _;rfl)|(apply Aa.fn;rfl;rfl;exact hcl;intro _;rfl)|(apply Aa.fn;rfl;rfl;exact hsl;intro _;rfl)|(apply Aa.c0t;rfl;rfl;exact hdec)|refine go1 ?_|(apply Aj.guard;rfl;rfl)|(apply Aa.int;rfl;rfl;rfl)|(apply Aa.neB;rfl;rfl;rfl)|(intro _;try (exfalso;omega))|(apply BD.og))
     all_goals try (exfalso;omega)
     all_goals try contradiction
     refine Hold.go ?_;refine AX.og ?_
     repeat' (first|refine go2 ?_|apply Ad.Hq)
     all_goals try (exfalso;omega)
     apply Ad.Fq (S.length) [(7,_),(8,_),(123,_),(124,_)] [(2,_),(3,_)] (fun k r=>(125,.p (.int .i64 (k:Int)))::r) (fun k r=>r) 4
     ·first|omega|decide
     ·first|omega|decide
     ·exact Nl
     ·exact O7
     ·intro k hk
      obtain ⟨hN,hNl,hcan⟩:=hS k hk
      repeat' (first|(apply Aa.Ak;rfl;rfl;rfl;omega;rfl)|refine IG ?_|apply Ad.Hq|(apply Ad.Ac;rfl)|(intro _;try (exfalso;omega)))
      all_goals try (exfalso;omega)
      apply Ad.Fq (2) [(7,_),(8,_),(19,_),(123,_),(124,_),(125,_)] [(2,_),(3,_),(4,_)] (fun k_ r=>(20,.p (.int .i64 (k_:Int)))::r) (fun k_ r=>r) 5
      ·first|omega|decide
      ·first|omega|decide
      ·exact Nl
      ·exact O7
      ·intro hd hhd
       have hca:=hcan hd hhd
       repeat' (first|(refine Ad.at 24 ?_;refine Ad.ghost (Aw.adopt 21 3 rfl) ?_;first|apply Ad.Bz|apply Ad.Cm)|refine go0 ?_|apply Ad.Bz|(apply Ad.Ac;rfl)|(intro _;try (exfalso;omega)))
       all_goals try (exfalso;omega)
       apply Ad.Fq ((gi S k).notes.length) [(7,_),(8,_),(19,_),(20,_),(123,_),(124,_),(125,_),(134,_),(135,_)] [(2,_),(3,_),(4,_)] (fun k_ r=>(136,.p (.int .i64 (k_:Int)))::(21,.vec 5 (JM p (gi S k).notes (hasB a (hd:Int)) k_).length 0 (JM p (gi S k).notes (hasB a (hd:Int)) k_).length)::r) (fun k_ r=>(5,.vec 3 (cells (JM p (gi S k).notes (hasB a (hd:Int)) k_)) (JM p (gi S k).notes (hasB a (hd:Int)) k_).length true)::r) 6
       ·first|omega|decide
       ·first|omega|decide
       ·exact Nl
       ·exact O7
       ·intro k_ hk_
        obtain ⟨g1,g2⟩:=hN k_ hk_;obtain ⟨m,hm⟩:∃ m:Nat,gi (gi S k).notes k_=(m:Int):=⟨(gi (gi S k).notes k_).toNat,by omega⟩
        have hmn:m<p.notes.length:=by omega
        have hmt:(gi (gi S k).notes k_).toNat=m:=by omega
        have hkl:=Uw p (gi S k).notes (hasB a (hd:Int)) k_;by_cases hh:gi a m=(hd:Int)
        ·have e2:JM p (gi S k).notes (hasB a (hd:Int)) (k_+1)=JM p (gi S k).notes (hasB a (hd:Int)) k_++[(gi p.notes m).k]:=by
          show (if hasB a (hd:Int) (gi (gi S k).notes k_).toNat=true then _ else _)=_;rw [hmt,if_pos (show hasB a (hd:Int) m=true from decide_eq_true hh)]
         have e3:(JM p (gi S k).notes (hasB a (hd:Int)) (k_+1)).length=(JM p (gi S k).notes (hasB a (hd:Int)) k_).length+1:=by rw [e2,aw];rfl
         rw [e3,e2];generalize JM p (gi S k).notes (hasB a (hd:Int)) k_=X at *
         repeat' (first|(apply Aa.Ak (l:=a) (i:=m);rfl;exact congrArg (fun b=>some (PV.p (.int .i64 b))) hm;rfl;omega;rfl)|(apply Aa.Ak (l:=p.notes) (i:=m);rfl;exact congrArg (fun b=>some (PV.p (.int .i64 b))) hm;rfl;omega;rfl)|(apply Aa.Dc (l:=X) (a:=(gi p.notes m).k);rfl;rfl;rfl;rfl;rfl;rfl;rfl;rfl;(intro _ h;cases h);rfl;rfl;rfl;decide;decide;omega)|(apply Aa.Ak;rfl;rfl;rfl;omega;rfl)|refine go2 ?_|(apply Aa.int;rfl;rfl;rfl)|(apply Aa.buildSlice;rfl;rfl;rfl;decide;rfl;rfl;rfl)|(apply Ad.Ac;rfl)|(apply Ad.Ar;rfl)|(intro _;try (exfalso;omega)))
         all_goals try (exfalso;omega)
         all_goals try contradiction
         refine Ag.normal ⟨by first|omega|decide,?_,?_⟩
         ·exact C9
         ·exact DT
        ·have e2:JM p (gi S k).notes (hasB a (hd:Int)) (k_+1)=JM p (gi S k).notes (hasB a (hd:Int)) k_:=by
          show (if hasB a (hd:Int) (gi (gi S k).notes k_).toNat=true then _ else _)=_;rw [hmt,if_neg (show ¬ hasB a (hd:Int) m=true from fun h=>hh (of_decide_eq_true h))]
         rw [e2];generalize JM p (gi S k).notes (hasB a (hd:Int)) k_=X at *
         repeat' (first|(apply Aa.Ak (l:=a) (i:=m);rfl;exact congrArg (fun b=>some (PV.p (.int .i64 b))) hm;rfl;omega;rfl)|(apply Aa.Ak;rfl;rfl;rfl;omega;rfl)|refine go2 ?_|(apply Aa.int;rfl;rfl;rfl)|(apply Ad.Ac;rfl)|(apply Ad.Ar;rfl)|(intro _;try (exfalso;omega)))
         all_goals try (exfalso;omega)
         all_goals try contradiction
         refine Ag.normal ⟨by first|omega|decide,?_,?_⟩
         ·exact C9
         ·exact DT
       ·have hA:=mV (q:=⟨o,p,z⟩) hk0 hN (is:=hasB a (hd:Int)) (ab (gi S k).notes.length)
        have hAl:=Uw p (gi S k).notes (hasB a (hd:Int)) (gi S k).notes.length;have ho1:=ZP (q:=⟨o,p,z⟩) hk0 hN hca;have ho1:WH z (Ea (SE (JM p (gi S k).notes (hasB a (hd:Int)) (gi S k).notes.length) (JM p (gi S k).notes (hasB a (hd:Int)) (gi S k).notes.length).length)):=ho1;have hA:∀ i,i<(JM p (gi S k).notes (hasB a (hd:Int)) (gi S k).notes.length).length→0≤gi (JM p (gi S k).notes (hasB a (hd:Int)) (gi S k).notes.length) i∧gi (JM p (gi S k).notes (hasB a (hd:Int)) (gi S k).notes.length) i≤127:=hA;generalize JM p (gi S k).notes (hasB a (hd:Int)) (gi S k).notes.length=X at *;have hof:=Ud X (by omega) hA;have hon:=Zv z hk0.y (SE X X.length) (SC hA X.length (ab _));rw [decide_eq_true ho1] at hon;generalize SE X X.length=W at *
        repeat' (first|(refine Aj.HY 160 ?_;refine Aj.ghost (Aw.freeze 159 rfl rfl) ?_)|apply Ad.Bz|apply Ad.region|apply Ad.EN|apply BL.normal|apply Bf.normal|apply Bf.exit|apply Ag.exit|apply Ad.skip|apply Aj.nil|apply Aj.one|(apply Aj.take;rfl;rfl)|(apply Aa.fn;rfl;rfl;exact hof;intro _;rfl)|(apply Aa.fn;rfl;rfl;exact hon;intro _;rfl)|(apply Aa.assign;rfl)|(apply Aa.move;rfl)|(apply Aa.LQ;rfl;rfl;omega)|(apply Aa.int;rfl;rfl;rfl)|(apply Aa.load;rfl;rfl)|(apply Aa.KT;rfl;rfl)|(apply Aa.Ij;rfl;rfl;rfl)|(apply Aa.alloc;rfl)|(apply Aa.FI;rfl;rfl;rfl;trivial;rfl;rfl;exact Bj rfl;exact le_dec rfl)|(apply Aa.not;rfl)|(apply Aa.extract;rfl;rfl)|(apply Ad.Ac;rfl)|(apply Ad.cond_false;rfl)|(intro _;try (exfalso;omega)))
        all_goals try (exfalso;omega)
        all_goals try contradiction
        refine Ag.normal ⟨by first|omega|decide,?_,?_⟩
        ·exact C9
        ·exact DT
      ·repeat' (first|refine IG ?_|(apply Ad.Ai;rfl))
       all_goals try (exfalso;omega)
       refine Ag.normal ⟨by first|omega|decide,?_,?_⟩
       ·exact C9
       ·exact DT
     ·repeat' (first|apply AX.Bz|apply DW.normal|apply AX.ret|refine IG ?_|(apply Ad.Ac;rfl)|(intro _;try (exfalso;omega)))
      all_goals first|(exfalso;omega)|contradiction|(refine Done.rt rfl rfl ⟨?_,rfl,rfl⟩;try rfl)
 ·rw [decide_eq_false hfit] at hf
  refine Ie.enter Tryz.func6 rfl (by kernel_rfl) (by kernel_rfl) (by simp [Tryz.ntmps6]) ?_
  repeat' (first|(refine AX.at 1 ?_;apply AX.I5)|(refine AX.at 2 ?_;apply AX.I5)|(apply BD.fn;rfl;rfl;exact hkn;exact Jc;intro _;rfl)|apply AX.Bz|apply DW.ret|apply AX.to|apply AX.ret|(apply AX.cond_true;rfl)|apply BD.nil|apply BD.one|(apply Aa.fn;rfl;rfl;exact hf;intro _;rfl)|refine go1 ?_|(apply BD.og))
  all_goals first|(exfalso;omega)|contradiction|(refine Done.rt rfl rfl ⟨?_,rfl,rfl⟩;try rfl)
end Go.Proofs.YtnjkoebfgcbbdaaGreatDoor
