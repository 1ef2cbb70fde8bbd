/-
  Texts of a proof, merged (HanT, HanU, HanV, PieX, HanW, HanX, Wm6, HanZ, HanGr). Conditions: in each statement.
-/
import Derived.Test.YtnjkoebfgcbbdaaGreatDoorKGp
set_option linter.unusedSimpArgs false
set_option linter.unusedVariables false
set_option linter.unusedSectionVars false
set_option maxRecDepth 100000
set_option maxHeartbeats 8000000
abbrev fw:=@List.perm_ext_iff_of_nodup
namespace Go.Proofs.YtnjkoebfgcbbdaaGreatDoor
open Go Go.Am Go.Vm Go.Pie Go.Sch
attribute [local irreducible] Aa Ai Ag Ad AP Ak Bf BM Bq Ah Vm.Done BD AB Q7 AV Bz Ee Ic F9 Hold
attribute [local irreducible] Ci Ba DV DN Eo AZ CG
def IsB (q:Qu) (l:List Int):Prop:=l∈EL q (A8 q.p).length∧∀ h∈EL q (A8 q.p).length,bV (l,GV q l) (h,GV q h)
theorem a4c {q:Qu} {a b:List Int} (ha:IsB q a) (hb:IsB q b):a=b:=congrArg Prod.fst (a4z (ha.2 b hb.1) (hb.2 a ha.1))
noncomputable def XT (q:Qu):Option (List Int):=open Classical in if h:∃ l,IsB q l then some (Classical.choose h) else none
theorem V4 {q:Qu} {l:List Int} (h:IsB q l):XT q=some l:=by
 unfold XT;rw [dif_pos ⟨l,h⟩];exact congrArg some (a4c (Classical.choose_spec (p:=IsB q) ⟨l,h⟩) h)
theorem b1p {q:Qu} {l:List Int} (h:XT q=some l):IsB q l:=by
 unfold XT at h;split at h
 ·grind
 grind
theorem dO {q:Qu} (h:EL q (A8 q.p).length=[]):XT q=none:=by
 cases h1:XT q with
 |none=>rfl
 |some l =>
  have:=(b1p h1).1;grind
def fD (q:Qu) (t:Nat) (m:List (JY×Way)):Prop:=lW (MJ q) (fQ q) (kQ q) (Xo q) (Nu q) st0 (G8 q) (KZ q) t m
theorem wM {es:List (JY×Way)} {V:List Nat} (h:∀ i,i∈V↔i<es.length) (d:JY×Way):d∈V.map (gi es)↔d∈es:=by
 rw [bb];constructor
 ·rintro ⟨i,h1,rfl⟩
  exact EK ((h i).1 h1)
 ·intro hd
  obtain ⟨i,h1,h2⟩:=L9 hd;grind
theorem xG (q:Qu) (hq:JV q) {t:Nat} (ht:t<(A8 q.p).length) {m:List (JY×Way)} (hm:fD q t m) {V:List Nat} (hV:∀ i,i∈V↔i<m.length):fD q (t+1) (Rl q t m V) :=
 lW.step (Xq q hq) (b2c q) (UH q) (b2q q) ht hm (wM hV)
theorem a0d (q:Qu) (hq:JV q) {t:Nat} (ht:t<(A8 q.p).length) {m:List (JY×Way)} (hm:fD q t m):∀ e∈m,b8j q t e:=fun e he=>by
 obtain ⟨g1,g2,g3⟩:=hm.sub e he;obtain ⟨k1,k2,k3,k4⟩:=vW q hq e.2.1 t (by omega);have hT:=QF q.p;have hn:=hq.p.notes;refine ⟨mF q hq ht ((PK q hq (by omega) _).1 g1),?_,by grind,by grind⟩;omega
theorem a0t (q:Qu) (hq:JV q) {m:List (JY×Way)} (hm:fD q (A8 q.p).length m):∀ e∈m,e.2.1.length=q.p.notes.length∧0≤e.2.2∧e.2.2≤1000000000000:=fun e he=>by
 obtain ⟨g1,g2,g3⟩:=hm.sub e he;obtain ⟨k1,k2,k3,k4⟩:=vW q hq e.2.1 (A8 q.p).length (ab _);have hT:=QF q.p;have hn:=hq.p.notes;refine ⟨fO.len ((PK q hq (ab _) _).1 g1),?_⟩;omega
def Rk (es:List (JY×Way)) (V:List Nat):Option Way:=(V.map fun i=>(gi es i).2).foldl WM none
theorem a1p (q:Qu) {es:List (JY×Way)} (hm:fD q (A8 q.p).length es) {V:List Nat} (hV:∀ i,i∈V↔i<es.length):Rk es V=(XT q).map fun l=>(l,GV q l):=by
 have hmem:∀ w,w∈(V.map fun i=>(gi es i).2)↔∃ e∈es,e.2=w:=fun w=>by
  rw [bb];constructor
  ·rintro ⟨i,h1,rfl⟩
   exact ⟨_,EK ((hV i).1 h1),rfl⟩
  ·rintro ⟨e,h1,rfl⟩
   obtain ⟨i,h2,rfl⟩:=L9 h1;grind
 have hw:∀ e∈es,e.2.2=GV q e.2.1:=fun e he=>by rw [(hm.sub e he).2.2];exact rU q _
 unfold Rk;rcases Wi (V.map fun i=>(gi es i).2) none with ⟨_,h1,h2⟩|⟨w,h1,h2,h3,_⟩
 ·rw [h2]
  have:EL q (A8 q.p).length=[]:=by
   cases h:EL q (A8 q.p).length with
   |nil=>rfl
   |cons a l =>
    obtain ⟨o,ho,_⟩:=hm.best a (by show a∈EL q _;grind);simp_all
  rw [dO this];rfl
 ·rcases h2 with h2|h2
  ·obtain ⟨e,he,rfl⟩:=(hmem w).1 h2
   have hc:=hw e he;have hB:IsB q e.2.1:=by
    refine ⟨(hm.sub e he).1,fun h hh=>?_⟩;obtain ⟨o,ho,hle⟩:=hm.best h hh;have e1:=rU q h;rw [e1] at hle;rw [← hc];exact KE (h3 o ((hmem o).2 ⟨_,ho,rfl⟩)) hle
   rw [V4 hB];grind
  grind
def c0f:Option Way→PV
 |none=>.p (.val (.pointer none))
 |some w=>.p (.EN [.lst 3 (cells w.1) w.1.length,.int .i64 w.2])
def b4y:HB:=.box 41 [.p (.val (.slice none 0 0)),.p (.int .i64 0)]
noncomputable def gU (q:Qu):PV:=match XT q with
 |none=>.DX [.p (.agg [.val (.slice none 0 0),.int .i64 0]),.p (.int .i64 24)]
 |some l=>.DX [.p (.agg [.lst 3 (cells l) l.length,.int .i64 (GV q l)]),.p (.int .i64 0)]
theorem lq:Am.Enters Tryz.prog 39:=⟨_,Tryz.func39,by rfl,by rfl⟩
theorem a1y (q:Qu) (hq:JV q) (hM:∀ t,t<(A8 q.p).length→kQ q t≤12):Ic env 11 [.agg (Enc.enc q)] (gU q):=by
 have hc:=Pn q hq.o.sm hq.p.sm;rw [xE hq] at hc;have hcr:=TQ q hq;rw [YU hM] at hcr;have hbg:=Yx q hq;have hsl:=J9 q hq;have hSl:=QF q.p;have hn:=hq.p.notes;refine Ic.enter Tryz.func11 rfl (by kernel_rfl) (by kernel_rfl) (by simp [Tryz.ntmps11]) ?_
 repeat' (first|apply AV.BL|apply Ee.normal|apply AV.to|apply AV.block|apply AV.skip|(apply AV.cond_false;rfl)|(apply Aa.fn;rfl;rfl;exact hc;intro _;rfl)|(apply Aa.fn;rfl;rfl;exact hcr;intro _;rfl)|(apply Aa.fn;rfl;rfl;exact hbg;intro _;rfl)|(apply Aa.fn;rfl;rfl;exact hsl;intro _;rfl)|(apply b8b (m:=[]) (y:=st0) (Nu q,0);rfl;rfl;rfl;rfl;rfl)|refine go1 ?_|(apply b3h)|(apply Aa.int;rfl;rfl;rfl)|(apply Aa.build;rfl;rfl;rfl;rfl;rfl))
 all_goals try (exfalso;omega)
 all_goals try contradiction
 have hS2:∀ k,k<(A8 q.p).length→gi (A8 q.p) k=Ns q k:=fun k _=>rfl
 refine AV.DK (fun s:Nat×List (JY×Way)=>[(1,.ref 0 0),(2,.ref 1 0),(5,.mref 2),(27,.p (.lst 81 (cells (A8 q.p)) (A8 q.p).length)),(28,.p (.int .i64 ((A8 q.p).length:Int))),(29,.p (.int .i64 (s.1:Int)))])
  (fun s=>[(0,bP q),(1,b4y),(2,Lu s.2)]) 3 (fun s=>s.1≤(A8 q.p).length∧fD q s.1 s.2) (fun s=>(A8 q.p).length-s.1) (0,[(st0,(Nu q,0))]) (by decide) ⟨ao _,lW.start⟩ ⟨by decide,?_,?_⟩ ?_
 ·exact Dl
 ·repeat (first|exact BH.nil|(refine BH.cons (Bh rfl) ?_ rfl ?_ ?_;(first|exact Cm _ _|exact CU _ _|exact HB.Az rfl|exact CS.Bd _ _|(simp [HB.under,CS.under,PV.under]));(first|exact JH.refl _|exact JH.vec (Jg.refl _) (by simp))))
 rintro ⟨k,m⟩ ⟨hk,hm⟩;simp only at hk hm ⊢;rcases aq k (A8 q.p).length with hkl|hkl
 ·have ha:=uG q hq k hkl (hM k hkl) m (a0d q hq hkl hm)
  unfold bP b4y
  repeat' (first|(refine AV.atEnd 10 ?_;apply AV.jk)|((refine Bz.Je 36 ?_;refine Hold.of ?_))|apply AV.BL|apply Ee.normal|apply AV.to|apply AV.block|apply AV.skip|(apply AV.Au;rfl)|apply Bz.one|apply Ai.nil|apply Ai.one|(apply Aa.move;rfl)|(apply Aa.int;rfl;rfl;rfl)|(apply Aa.Ap;rfl;rfl;rfl;omega;rfl)|(apply Aa.load;rfl;rfl)|(apply Aa.alloc;rfl)|(apply Aa.FD;rfl;rfl;rfl;trivial;rfl;rfl;exact Bh rfl;exact le_dec rfl)|(intro _;try (exfalso;omega)))
  all_goals try (exfalso;omega)
  refine Hold.go ?_;refine Bz.b8a [2] ha lq rfl rfl (.of_eq rfl) (CS.Az rfl) ⟨⟨by decide,Cm _ _⟩,trivial⟩ ⟨⟨_,rfl,by rw [X6];exact JH.refl _⟩,trivial⟩ (by decide) (by decide) ?_;rintro r H' nx' ⟨V,hV1,hV2,rfl,rfl,rfl⟩;have hms:=xG q hq hkl hm hV2
  repeat' (first|((refine AV.atEnd 11 ?_;refine Hold.of ?_))|apply Ee.normal|apply Bz.nil|apply Bz.one|apply Bq.normal|(apply Aa.assign;rfl))
  refine Hold.go ?_;refine AV.swap 2 4 (by decide) (by decide) (by decide) (by decide) ?_
  repeat' (first|apply AV.region|refine go1 ?_|fail)
  all_goals try (exfalso;omega)
  refine Ah.normal ⟨(k+1,Rl q k m V),⟨hkl,hms⟩,by show (A8 q.p).length-(k+1)<(A8 q.p).length-k;omega,⟨by decide,?_,?_⟩⟩
  ·dsimp only
   exact Dl
  ·dsimp only
   repeat (first|exact BH.nil|(refine BH.cons (Bh rfl) ?_ rfl ?_ ?_;(first|exact Cm _ _|exact HB.Az rfl);(first|exact JH.refl _|(rw [X6,X6];exact JH.refl _))))
 ·obtain rfl:k=(A8 q.p).length:=by omega
  repeat' (first|((refine AV.at 13 ?_;refine Hold.of ?_))|apply AV.BL|apply Ee.normal|apply Ee.exit|apply AV.to|apply AV.exit|(apply AV.Au;rfl)|refine go0 ?_|(intro _;try (exfalso;omega)))
  all_goals try (exfalso;omega)
  refine Hold.go ?_;have hfin:=a0t q hq hm;refine AV.kD (fun b:Option Way=>[(1,.ref 0 0),(2,.ref 1 0),(8,c0f b),(38,.mref 2)]) (fun b=>[(0,bP q),(1,b4y),(2,Lu m)]) (fun V b=>b=Rk m V∧∀ i∈V,i<m.length) none (Dn:=3) (b:=2) (ks:=(JK m).map fun x=>.agg (Enc.enc x.1)) (cs:=(JK m).map (·.2)) rfl rfl (by decide) rfl ⟨rfl,fun i h=>absurd h bk⟩ ⟨by decide,?_,?_⟩ rfl (fun _=>⟨rfl,rfl,rfl⟩) (fun _ _ _=>rfl) (by simp) rfl (by kernel_rfl) (by kernel_rfl) (by decide) ?_ ?_
  ·exact Dl
  ·repeat (first|exact BH.nil|(refine BH.cons (Bh rfl) ?_ rfl ?_ ?_;(first|exact Cm _ _|exact CU _ _|exact HB.Az rfl|exact CS.Bd _ _|(simp [HB.under,CS.under,PV.under]));(first|exact JH.refl _|exact JH.vec (Jg.refl _) (by simp))))
  ·rintro V b i kk c ⟨hi,hV⟩ hnd hni hk hc
   subst hi;have hil:i<m.length:=by
    have:=(bt.1 hk).1;simpa [JK] using this
   have hei:m[i]?=some (gi m i):=by unfold gi;rw [ai hil];rfl
   have ec:c=.p (PO (gi m i).2):=by
    unfold JK at hc;rw [av,av,hei] at hc;simpa using hc.symm
   subst ec;have hpick:Rk m (V++[i])=WM (Rk m V) (gi m i).2:=by
    unfold Rk;rw [bj,cX];rfl
   have hlen:∀ o,Rk m V=some o→o.1.length=q.p.notes.length∧0≤o.2∧o.2≤1000000000000:=fun o ho=>by
    rcases Wi (V.map fun i=>(gi m i).2) none with ⟨_,_,h⟩|⟨w,h1,h2,_,_⟩
    ·unfold Rk at ho;rw [h] at ho;cases ho
    ·unfold Rk at ho;rw [h1] at ho;cases ho
     rcases h2 with h2|h2
     ·obtain ⟨j,j1,rfl⟩:=bb.1 h2
      exact hfin _ (EK (hV j j1))
     ·cases h2
   rw [hpick];clear hpick;have hV':∀ j∈V++[i],j<m.length:=fun j hj=>by
    rcases bm.1 hj with h|h
    ·exact hV j h
    ·rw [aL] at h;omega
   obtain ⟨f1,f2⟩:=hfin _ (EK hil);generalize Rk m V=b at *;generalize (gi m i).2=v at *;obtain ⟨l,cc⟩:=v;simp only at f1 f2;cases b with
   |none =>
    have ei:WM none (l,cc)=some (l,cc):=rfl;rw [ei]
    repeat' (first|(refine AV.atEnd 17 ?_;refine AV.ghost (Aw.iH 10 [.lst 3 (cells l) l.length,.int .i64 cc] rfl rfl rfl) ?_;first|apply AV.region|apply AV.Fe)|apply AV.CO|(apply AV.cond_true;rfl)|apply Bz.nil|apply Bz.one|refine Zm ?_|(apply Ag.Yz;rfl;rfl)|(apply Aa.a5r;rfl;rfl;rfl))
    all_goals try (exfalso;omega)
    all_goals try contradiction
    refine Ah.normal ⟨some (l,cc),⟨rfl,hV'⟩,⟨by decide,?_,?_⟩⟩
    ·exact Dl
    ·repeat (first|exact BH.nil|(refine BH.cons (Bh rfl) ?_ rfl ?_ ?_;(first|exact Cm _ _|exact CU _ _|exact HB.Az rfl|exact CS.Bd _ _|(simp [HB.under,CS.under,PV.under]));(first|exact JH.refl _|exact JH.vec (Jg.refl _) (by simp))))
   |some o =>
    obtain ⟨ol,oc⟩:=o;obtain ⟨o1,o2⟩:=hlen _ rfl;simp only at o1 o2;have hcmp:=RS l ol (by omega) (by omega);have ei:WM (some (ol,oc)) (l,cc)=if zH (l,cc) (ol,oc)=true then some (l,cc) else some (ol,oc):=rfl
    have hb:zH (l,cc) (ol,oc)=(decide (cc<oc)||(decide (cc=oc)&&decide (cmpL l ol<0))):=rfl;rw [hb] at ei;generalize cmpL l ol=cm at *;by_cases g1:cc<oc;all_goals by_cases g2:cc=oc
    all_goals by_cases g3:cm<0
    all_goals first|rw [decide_eq_true g1] at ei|rw [decide_eq_false g1] at ei
    all_goals first|rw [decide_eq_true g2] at ei|rw [decide_eq_false g2] at ei
    all_goals first|rw [decide_eq_true g3] at ei|rw [decide_eq_false g3] at ei
    all_goals simp only [Bool.true_or,Bool.false_or,Bool.true_and,Bool.false_and,Bool.false_eq_true,if_true,if_false] at ei
    all_goals rw [ei]
    all_goals
     repeat' (first|(refine AV.atEnd 17 ?_;refine AV.ghost (Aw.iH 10 [.lst 3 (cells l) l.length,.int .i64 cc] rfl rfl rfl) ?_;first|apply AV.region|apply AV.Fe)|apply AV.CO|apply AV.skip|(apply AV.cond_true;rfl)|(apply AV.cond_false;rfl)|(apply AV.Au;rfl)|apply Bz.nil|apply Bz.one|(apply Aa.fn;rfl;rfl;exact hcmp;intro _;rfl)|refine Zm ?_|(apply Ag.guard;rfl;rfl)|(apply Ag.Yz;rfl;rfl)|(apply Aa.a4d;rfl;rfl;rfl)|(apply Aa.yZ;rfl)|(apply Aa.int;rfl;rfl;rfl)|(intro _;try (exfalso;omega)))
    all_goals try (exfalso;omega)
    all_goals try contradiction
    all_goals
     refine Ah.normal ⟨_,⟨rfl,hV'⟩,⟨by decide,?_,?_⟩⟩
     ·exact Dl
     ·repeat (first|exact BH.nil|(refine BH.cons (Bh rfl) ?_ rfl ?_ ?_;(first|exact Cm _ _|exact CU _ _|exact HB.Az rfl|exact CS.Bd _ _|(simp [HB.under,CS.under,PV.under]));(first|exact JH.refl _|exact JH.vec (Jg.refl _) (by simp))))
  ·rintro V b ⟨hi,hV⟩ hnd h1 h2
   subst hi;have hV2:∀ i,i∈V↔i<m.length:=fun i=>⟨hV i,fun h=>h1 i (by simpa [JK] using h)⟩
   rw [a1p q hm hV2];unfold gU;cases XT q with
   |none =>
    show Ee _ _ _ _ _ _ [(1,_),(2,_),(8,.p (.val (.pointer none))),(38,_)] _ _
    repeat' (first|apply AV.BL|apply Ee.normal|apply Ee.ret|apply AV.to|apply AV.ret|(apply AV.cond_true;rfl)|refine go1 ?_|(apply Aa.a5r;rfl;rfl;rfl)|(apply Aa.build;rfl;rfl;rfl;rfl;rfl))
    all_goals try (exfalso;omega)
    all_goals try contradiction
    all_goals (refine Done.rt rfl rfl ⟨?_,rfl,rfl⟩;try rfl)
   |some l =>
    show Ee _ _ _ _ _ _ [(1,_),(2,_),(8,.p (.EN [.lst 3 (cells l) l.length,.int .i64 (GV q l)])),(38,_)] _ _
    repeat' (first|apply AV.BL|apply AV.CO|apply Ee.normal|apply AV.to|apply AV.ret|apply AV.skip|(apply AV.cond_false;rfl)|refine Zm ?_|(apply Aa.a4d;rfl;rfl;rfl)|(apply Aa.yZ;rfl)|(apply Aa.build;rfl;rfl;rfl;rfl;rfl))
    all_goals try (exfalso;omega)
    all_goals try contradiction
    all_goals (refine Done.rt rfl rfl ⟨?_,rfl,rfl⟩;try rfl)
theorem a5e {a:Nat} (h:a<100000000000000000):Lib.nDigits a≤18:=by
 have h1:Lib.nDigits 100000000000000000=18:=Lib.nDigits_unique 17 _ (by decide) (by decide);rcases aq 18 (Lib.nDigits a) with h2|h2
 ·have:=Num.N8 (a:=100000000000000000) (b:=a) (by omega)
  omega
 omega
theorem Zk (a b:Nat) (ha:a<100000000000000000) (hb:b<100000000000000000):Ak env 43 [.str (bs (Lib.decDigits a)),.str (bs (Lib.decDigits b))] (st (Lib.decDigits (a+b))):=by
 have q1:Ak env 91 [.str (bs (Lib.decDigits a)),.int .i64 18] (.DX [.p (.int .i64 (a:Int)),.p (.bool true)]):=by
  have:=NZ a 18 (ab _);rw [if_pos (a5e ha),decide_eq_true (a5e ha)] at this;omega
 have q2:Ak env 91 [.str (bs (Lib.decDigits b)),.int .i64 18] (.DX [.p (.int .i64 (b:Int)),.p (.bool true)]):=by
  have:=NZ b 18 (ab _);rw [if_pos (a5e hb),decide_eq_true (a5e hb)] at this;omega
 have ho:Ak env 18 [.int .i64 ((a:Int)+(b:Int))] (st (Lib.decDigits (a+b))):=by
  have:=Yr ((a+b:Nat):Int) ⟨by omega,by omega⟩;assumption
 generalize Lib.decDigits b=y at *;refine Ak.enter (Ae (by decide)) Tryz.func43 rfl (by kernel_rfl) (by simp) ?_
 repeat' (first|(apply Aa.fn;rfl;rfl;exact q1;intro _;rfl)|(apply Aa.fn;rfl;rfl;exact q2;intro _;rfl)|(apply Aa.fn;rfl;rfl;exact ho;intro _;rfl)|refine go1 ?_|(apply Ad.AX;rfl))
 all_goals first|(exfalso;omega)|contradiction|(refine Done.rt rfl rfl ⟨?_,rfl,rfl⟩;try rfl)
abbrev IG:=List Int×Nat
def OZ (w:IG):FV:=.agg [.lst 3 (cells w.1) w.1.length,.str (bs (Lib.decDigits w.2))]
def Jq (es:List (List UInt8×IG)):List (List UInt8×PV):=es.map fun e=>(e.1,.p (OZ e.2))
def SY (es:List (List UInt8×IG)):HB:=MK (fun x:List UInt8=>.str (bs x)) (Jq es)
theorem CU (k:Nat) (es:List (List UInt8×IG)):HB.under k (SY es):=by
 induction es with
 |nil=>exact trivial
 |cons e es ih=>exact ⟨trivial,ih⟩
theorem cvJ {k:Nat} {a b:Heap} (h:Vm.BH k a b:=by repeat (first|exact BH.nil|(refine BH.cons (Bh rfl) ?_ rfl ?_ ?_;(first|exact CU _ _|exact Cm _ _|exact HB.Az rfl|exact CS.Bd _ _|(simp [HB.under,CS.under,PV.under]));(first|exact JH.refl _|exact JH.vec (Jg.refl _) (by simp))))):Vm.BH k a b:=h
theorem cvK {k:Nat} {a b:Heap} (h:Vm.BH k a b:=by repeat (first|exact BH.nil|(refine BH.eq rfl (Bh rfl) ?_ ?_;(first|exact CU _ _|exact Cm _ _|exact HB.Az rfl|exact CS.Bd _ _|(simp [HB.under,CS.under,PV.under];done)))|(refine BH.cons (Bh rfl) ?_ rfl ?_ ?_;(first|exact CU _ _|exact Cm _ _|exact HB.Az rfl|exact CS.Bd _ _|(simp [HB.under,CS.under,PV.under]));(first|exact JH.refl _|exact JH.vec (Jg.refl _) (by simp))))):Vm.BH k a b:=h
theorem b1z (ρ:Nat→Nat) (es:List (List UInt8×IG)):(SY es).rn ρ=SY es:=by
 show HB.Js _ (CS.rn ρ ((Jq es).map (·.2)))=HB.Js _ _;have:CS.rn ρ ((Jq es).map (·.2))=(Jq es).map (·.2):=by
  induction es with
  |nil=>rfl
  |cons e es ih =>
   show PV.rn ρ (PV.p (OZ e.2))::CS.rn ρ ((Jq es).map (·.2))=_;rw [ih];rfl
 grind
section
variable {L:Vm.Frame} {H:Vm.Heap} {nx:Nat} {Q:PV→Vm.Heap→Nat→Prop} {w:Bool} {dst:Option Tmp} {ty:TypeId} {pos:String} {af:Array Edge} {gd:Option (Nat×Bool)}
theorem b3x {t:TypeId} (q:Q (.mref nx) ((nx,SY [])::H) (nx+1)):Aa env w ⟨dst,.makeMap t none,ty,pos,af,gd⟩ L H nx Q:=Aa.Zq q
theorem b6e {t et:TypeId} {x k:Operand} {b:Nat} {m:List (List UInt8×IG)} {y:List UInt8} (hl:BN m y=none) (hx:AU env.Γ L x=some (.mref b)) (hb:hget H b=some (SY m)) (hk:AU env.Γ L k=some (.p (.str (bs y))))
 (ht:env.P.underlying t=some (.map 9 et)) (hz:zeroOf env.P et=some (.agg #[.slice none 0 0,.string ⟨#[]⟩])) (q:Q (.DX [.p (.agg [.val (.slice none 0 0),.str ⟨#[]⟩]),.p (.bool false)]) H nx):Aa env w ⟨dst,.lookup t x k true,ty,pos,af,gd⟩ L H nx Q:=by
 have h2:BN (Jq m) y=none:=by
  have:=UN (fun w=>PV.p (OZ w)) y m;rw [hl] at this;exact this
 have hs:(BN (Jq m) y).isSome=false:=by grind
 rw [← hs] at q;exact Aa.lookupGo (z:=.agg #[.slice none 0 0,.string ⟨#[]⟩]) Yi hx hb hk ht hz rfl (KT.const h2 rfl) q
theorem b6j {t et:TypeId} {x k:Operand} {b:Nat} {m:List (List UInt8×IG)} {y:List UInt8} {v:IG} (hl:BN m y=some v) (hx:AU env.Γ L x=some (.mref b)) (hb:hget H b=some (SY m)) (hk:AU env.Γ L k=some (.p (.str (bs y))))
 (ht:env.P.underlying t=some (.map 9 et)) (hz:zeroOf env.P et=some (.agg #[.slice none 0 0,.string ⟨#[]⟩])) (q:Q (.DX [.p (OZ v),.p (.bool true)]) H nx):Aa env w ⟨dst,.lookup t x k true,ty,pos,af,gd⟩ L H nx Q:=by
 have h2:BN (Jq m) y=some (.p (OZ v)):=by
  have:=UN (fun w=>PV.p (OZ w)) y m;rw [hl] at this;exact this
 have hs:(BN (Jq m) y).isSome=true:=by grind
 rw [← hs] at q;exact Aa.lookupGo (z:=.agg #[.slice none 0 0,.string ⟨#[]⟩]) Yi hx hb hk ht hz rfl (.inl h2) q
theorem b8u {t et:TypeId} {x k y':Operand} {b:Nat} {m:List (List UInt8×IG)} {y:List UInt8} (v:IG) (hx:AU env.Γ L x=some (.mref b)) (hb:hget H b=some (SY m)) (hk:AU env.Γ L k=some (.p (.str (bs y)))) (hy:AU env.Γ L y'=some (.p (OZ v)))
 (ht:env.P.underlying t=some (.map 9 et)) (q:Q (.DX []) (hput H b (SY (BZ m y v))) nx):Aa env true ⟨dst,.mapUpdate t x k y',ty,pos,af,gd⟩ L H nx Q :=
 Aa.zh Yi hx hb hk hy ht (by
  show hput H b (MK _ (BZ (Jq m) y (.p (OZ v))))=hput H b (MK _ (Jq (BZ m y v)));have:BZ (Jq m) y (PV.p (OZ v))=Jq (BZ m y v):=UO (fun w=>PV.p (OZ w)) y v m;grind) q
theorem b7n {t et:TypeId} {x k y':Operand} {b:Nat} {m:List (List UInt8×IG)} {y:List UInt8} (v:IG) (hx:AU env.Γ L x=some (.mref b)) (hb:hget H b=some (SY m)) (hk:AU env.Γ L k=some (.p (.str (bs y)))) (hy:AU env.Γ L y'=some (.p (OZ v)))
 (ht:env.P.underlying t=some (.map 9 et)) (q:Q (.DX []) (hput H b (SY (BZ m y v))) nx):Aa env true ⟨dst,.insert t x k y',ty,pos,af,gd⟩ L H nx Q :=
 Aa.x9 Yi hx hb hk hy ht (by
  show hput H b (MK _ (BZ (Jq m) y (.p (OZ v))))=hput H b (MK _ (Jq (BZ m y v)));have:BZ (Jq m) y (PV.p (OZ v))=Jq (BZ m y v):=UO (fun w=>PV.p (OZ w)) y v m;grind) q
end
instance:Inhabited (List UInt8×IG):=⟨([],([],0))⟩
def xk (q:Qu) (t:Nat) (e:List UInt8×IG):List (List UInt8×IG):=(jh q t e.2.1).map fun x=>(OT (Jd q t) x,(x,e.2.2))
def aF (q:Qu) (t:Nat) (es:List (List UInt8×IG)) (V:List Nat):List (List UInt8×IG):=((V.map (gi es)).flatMap (xk q t)).foldl Ri []
def rG (q:Qu) (t:Nat) (m:List (List UInt8×IG)):Prop:=XP (MJ q) (fQ q) (kQ q) (Xo q) (Nu q) [] (b7q q) t m
theorem Wv {α:Type} [Inhabited α] {es:List α} {V:List Nat} (hn:V.Nodup) (h:∀ i,i∈V↔i<es.length):(V.map (gi es)).Perm es:=by
 have h1:V.Perm (List.range es.length):=(fw hn gg).2 fun i=>by grind
 have h2:(List.range es.length).map (gi es)=es:=by
  refine Ku (by simp) fun i hi=>?_
  unfold gi;grind
 grind
theorem vY (q:Qu) (hq:JV q) {t:Nat} (ht:t<(A8 q.p).length) {m:List (List UInt8×IG)} (hm:rG q t m) {V:List Nat} (hn:V.Nodup) (hV:∀ i,i∈V↔i<m.length):rG q (t+1) (aF q t m V) :=
 XP.step (Xq q hq) (b1r q) (UH q) (b2q q) ht hm (Wv hn hV)
theorem a0o (q:Qu) (hq:JV q) {t:Nat} (ht:t≤(A8 q.p).length) {m:List (List UInt8×IG)} (hm:rG q t m):∀ e∈m,b5m q t e.2.1∧e.2.2≤(EL q t).length:=fun e he=>by
 obtain ⟨g1,g2,g3⟩:=hm.sub e he;refine ⟨(PK q hq ht _).1 g1,?_⟩;rw [g3];exact List.countP_le_length
theorem pO {α:Type} (F:α→Nat):∀ l:List α,(∀ a∈l,1≤F a)→l.length≤sumF F l
 |[],_=>ab _
 |a::l,h=>by
  have:=pO F l fun b hb=>h b (an _ hb)
  have:=h a (by simp);simp only [sumF,List.length_cons];omega
theorem a0a (q:Qu) {t:Nat} {m:List (List UInt8×IG)} (hm:rG q t m):m.length≤(EL q t).length:=by
 have h:=XP.total hm;refine am (pO (fun d:List UInt8×IG=>d.2.2) m fun d hd=>?_) (Nat.le_of_eq h);obtain ⟨g1,g2,g3⟩:=hm.sub d hd;grind
theorem a9o {n c:Nat} {m:List (List UInt8×IG)} {d:List UInt8×IG} (hm:∀ e∈m,e.2.2≤n) (hd:d.2.2≤c):∀ e∈Ri m d,e.2.2≤n+c:=fun e he=>by
 have key:∀ w:IG,w.2≤n+c→∀ e∈BZ m d.1 w,e.2.2≤n+c:=fun w hw e he=>by
  rcases PZ he with h|h|h
  ·grind
  ·grind
  grind
 unfold Ri at he;split at he
 ·grind
 ·rename_i o ho
  have:=hm _ (KG ho);grind
theorem b8n:Lib.decDigits 0=[48]:=by rw [Lib.decDigits];rfl
theorem c4o:Lib.decDigits 1=[49]:=by rw [Lib.decDigits];rfl
def cbd (n:Nat):Nat:=n*4096000000
theorem b4l {n:Nat} (h:n≤1000000):cbd n≤4096000000000000:=by unfold cbd;omega
theorem a7y (n:Nat):cbd (n+1)=cbd n+4096000000:=by unfold cbd;omega
theorem lD (q:Qu) (hq:JV q) (hM:∀ t,t<(A8 q.p).length→kQ q t≤12) (hP:∀ t,t≤(A8 q.p).length→(EL q t).length≤1000000):Ic env 12 [.agg (Enc.enc q)] (.DX [st (Lib.decDigits (EL q (A8 q.p).length).length),.p (.int .i64 0)]):=by
 have hc:=Pn q hq.o.sm hq.p.sm;rw [xE hq] at hc;have hcr:=TQ q hq;rw [YU hM] at hcr;have hbg:=Yx q hq;have hsl:=J9 q hq;have hSl:=QF q.p;have hn:=hq.p.notes;have e1:(some (PV.p (.agg [.lst 3 (cells (Nu q)) (Nu q).length,.str ⟨#[49]⟩])))=some (PV.p (OZ (Nu q,1))):=by
  unfold OZ;simp only [c4o];rfl
 refine Ic.enter Tryz.func12 rfl (by kernel_rfl) (by kernel_rfl) (by simp [Tryz.ntmps12]) ?_
 repeat' (first|apply AV.BL|apply Ee.normal|apply AV.to|apply AV.block|apply AV.skip|(apply AV.cond_false;rfl)|(apply Aa.fn;rfl;rfl;exact hc;intro _;rfl)|(apply Aa.fn;rfl;rfl;exact hcr;intro _;rfl)|(apply Aa.fn;rfl;rfl;exact hbg;intro _;rfl)|(apply Aa.fn;rfl;rfl;exact hsl;intro _;rfl)|(apply b7n (m:=[]) (y:=[]) (Nu q,1);rfl;rfl;rfl;exact e1;rfl)|refine go1 ?_|(apply b3x)|(apply Aa.int;rfl;rfl;rfl)|(apply Aa.build;rfl;rfl;rfl;rfl;rfl))
 all_goals try (exfalso;omega)
 all_goals try contradiction
 refine AV.DK (fun s:Nat×List (List UInt8×IG)=>[(1,.ref 0 0),(5,.mref 1),(32,.p (.lst 81 (cells (A8 q.p)) (A8 q.p).length)),(33,.p (.int .i64 ((A8 q.p).length:Int))),(34,.p (.int .i64 (s.1:Int)))])
  (fun s=>[(0,bP q),(1,SY s.2)]) 2 (fun s=>s.1≤(A8 q.p).length∧rG q s.1 s.2) (fun s=>(A8 q.p).length-s.1) (0,[([],(Nu q,1))]) (by decide) ⟨ao _,XP.start⟩ ⟨by decide,?_,?_⟩ ?_
 ·exact Dl
 ·exact cvJ
 rintro ⟨k,m⟩ ⟨hk,hm⟩;simp only at hk hm ⊢;have hml:=am (a0a q hm) (hP k hk);have hen:=a0o q hq hk hm;have hPk:=hP k hk;rcases aq k (A8 q.p).length with hkl|hkl
 ·unfold bP
  repeat' (first|((refine AV.at 11 ?_;refine Hold.of ?_))|apply AV.BL|apply Ee.normal|apply AV.to|apply AV.block|apply AV.skip|(apply AV.Au;rfl)|(apply Aa.Ap;rfl;rfl;rfl;omega;rfl)|refine go0 ?_|(apply b3x)|(intro _;try (exfalso;omega)))
  all_goals try (exfalso;omega)
  refine Hold.go ?_;refine AV.kD (fun b:List (List UInt8×IG)=>[(1,.ref 0 0),(7,.ref 2 0),(8,.mref 3),(32,.p (.lst 81 (cells (A8 q.p)) (A8 q.p).length)),(33,.p (.int .i64 ((A8 q.p).length:Int))),(34,.p (.int .i64 (k:Int))),(39,.mref 1)]) (fun b=>[(0,bP q),(1,SY m),(2,slB (Ns q k)),(3,SY b)]) (fun V b=>b=aF q k m V∧(∀ i∈V,i<m.length)∧∀ e∈b,e.2.2≤cbd V.length) [] (Dn:=4) (b:=1) (ks:=(Jq m).map fun x=>.str (bs x.1)) (cs:=(Jq m).map (·.2)) rfl rfl (by decide) rfl ⟨rfl,(fun i h=>absurd h bk),fun e h=>absurd h bk⟩ ⟨by decide,?_,?_⟩ rfl (fun _=>⟨rfl,rfl,rfl⟩) (fun _ _ _=>rfl) (by simp) rfl (by kernel_rfl) (by kernel_rfl) (by decide) ?_ ?_
  ·exact Dl
  ·exact cvJ
  ·rintro V b i kk c ⟨hi,hV,hbl⟩ hnd hni hk' hc'
   subst hi;have hil:i<m.length:=by
    have:=(bt.1 hk').1;simpa [Jq] using this
   have hei:m[i]?=some (gi m i):=by unfold gi;rw [ai hil];rfl
   have ec:c=.p (OZ (gi m i).2):=by
    unfold Jq at hc';rw [av,av,hei] at hc';simpa using hc'.symm
   subst ec;have hfold:aF q k m (V++[i])=(xk q k (gi m i)).foldl Ri (aF q k m V):=by
    unfold aF;rw [bj,gP,cX,List.map_singleton,gx]
   rw [hfold];clear hfold;have hV':∀ j∈V++[i],j<m.length:=fun j hj=>by
    rcases bm.1 hj with h|h
    ·exact hV j h
    ·rw [aL] at h;omega
   have hVl:=Iw m.length V hnd hV;have hVs:(V++[i]).length=V.length+1:=by simp
   rw [hVs];have hcs:=a7y V.length;have hcl:=b4l (am hVl hml);obtain ⟨w1,w2⟩:=hen _ (EK hil);have w3:=mF q hq hkl w1;generalize aF q k m V=b0 at *;unfold xk;generalize (gi m i).2=v at *;obtain ⟨l,cc⟩:=v;simp only at w1 w2 w3 ⊢;have hch:=TS q hq k hkl (hM k hkl) l w3;have hwy:=fun y hy=>qc q hq hkl w3 (x:=y) hy
   have hLl:=qy q k (hM k hkl) l;generalize jh q k l=L at *;have hN:mW q (Ns q k).notes:=Qn hkl;have hNl:(Ns q k).notes.length≤1000:=YG hq hkl;obtain ⟨G,hG⟩:∃ G:List Int→List UInt8×IG,G=fun y=>(OT (Jd q k) y,(y,cc)):=⟨_,rfl⟩
   rw [← hG];rw [hcs];generalize cbd V.length=B at *;unfold bP slB
   repeat' (first|(refine AV.at 14 ?_;apply AV.Gm)|(apply Bz.fn;rfl;rfl;exact hch;exact PY;intro _;rfl)|apply AV.block|apply Bz.nil|apply Bz.one|refine Zm ?_|fail)
   all_goals try (exfalso;omega)
   refine AV.yR ?_;apply Ad.Il (L.length) (fun k_=>∀ e∈((L.take k_).map G).foldl Ri b0,e.2.2≤B+k_*1000000) [(1,_),(7,_),(8,_),(10,_),(32,_),(33,_),(34,_),(39,_),(49,_),(50,_)] [(0,_),(1,_),(2,_),(4,_)] (fun k_ r=>(51,.p (.int .i64 (k_:Int)))::r) (fun k_ r=>(3,SY (((L.take k_).map G).foldl Ri b0))::r) 5
   ·first|omega|decide
   ·first|omega|decide
   ·exact RH
   ·exact cvK
   ·first|(intro _ _;omega)|omega|trivial
   ·intro k_ hk_ hi
    obtain ⟨y1,y2⟩:=hwy _ (EK hk_);have e1:((L.take (k_+1)).map G).foldl Ri b0=Ri (((L.take k_).map G).foldl Ri b0) (G (gi L k_)):=by
     rw [Em hk_,bj,cX];rfl
    rw [e1];clear e1;generalize ((L.take k_).map G).foldl Ri b0=mm at *;have b0w:=oH q (Ns q k) hN hNl (gi L k_) y1 y2;have hGk:G (gi L k_)=(OT (Ns q k).notes (gi L k_),(gi L k_,cc)):=by rw [hG];rfl
    rw [hGk];have hle:=a9o (c:=1000000) (d:=(OT (Ns q k).notes (gi L k_),(gi L k_,cc))) hi (by show cc≤1000000;omega);have hle:∀ e∈Ri mm (OT (Ns q k).notes (gi L k_),(gi L k_,cc)),e.2.2≤B+(k_+1)*1000000:=fun e he=>by have:=hle e he;omega
    generalize OT (Ns q k).notes (gi L k_)=nn at *;have ei:Ri mm (nn,(gi L k_,cc))=match BN mm nn with|none=>BZ mm nn (gi L k_,0+cc)|some o=>BZ mm nn (o.1,o.2+cc):=rfl
    cases hl:BN mm nn with
    |none =>
     rw [hl] at ei;simp only at ei;rw [ei] at hle ⊢;have ha:=Zk 0 cc (by omega) (by omega);rw [b8n] at ha
     repeat' (first|(apply Aa.fn;rfl;rfl;exact b0w;intro _;rfl)|(apply Aa.fn;rfl;rfl;exact ha;intro _;rfl)|(apply b6e (m:=mm) (y:=nn) hl;rfl;rfl;rfl;rfl;rfl)|(apply b8u (m:=mm) (y:=nn) (gi L k_,0+cc);rfl;rfl;rfl;rfl;rfl)|(apply Aa.Ap;rfl;rfl;rfl;omega;rfl)|refine go1 ?_|(apply Aa.int;rfl;rfl;rfl)|(apply Aa.build;rfl;rfl;rfl;rfl;rfl)|(apply Ad.AX;rfl)|(apply Ad.Ac;rfl)|(intro _;try (exfalso;omega)))
     all_goals try (exfalso;omega)
     all_goals try contradiction
     refine Ah.normal ⟨hle,by first|omega|decide,?_,?_⟩
     ·exact Dl
     ·exact cvJ
    |some o =>
     obtain ⟨ol,oc⟩:=o;have hoc:=hi _ (KG hl);simp only at hoc;rw [hl] at ei;simp only at ei;rw [ei] at hle ⊢;have ha:=Zk oc cc (by omega) (by omega)
     repeat' (first|(apply Aa.fn;rfl;rfl;exact b0w;intro _;rfl)|(apply Aa.fn;rfl;rfl;exact ha;intro _;rfl)|(apply b6j (m:=mm) (y:=nn) hl;rfl;rfl;rfl;rfl;rfl)|(apply b8u (m:=mm) (y:=nn) (ol,oc+cc);rfl;rfl;rfl;rfl;rfl)|(apply Aa.Ap;rfl;rfl;rfl;omega;rfl)|refine go1 ?_|(apply Aa.int;rfl;rfl;rfl)|(apply Ad.Aj;rfl)|(apply Ad.Ac;rfl)|(intro _;try (exfalso;omega)))
     all_goals try (exfalso;omega)
     all_goals try contradiction
     refine Ah.normal ⟨hle,by first|omega|decide,?_,?_⟩
     ·exact Dl
     ·exact cvJ
   ·intro hi
    rw [cB] at hi ⊢
    repeat' (first|refine go2 ?_|(apply Ad.Ac;rfl)|(intro _;try (exfalso;omega)))
    all_goals try (exfalso;omega)
    refine Ah.normal ⟨_,⟨rfl,hV',fun e he=>by have:=hi e he;omega⟩,⟨by decide,?_,?_⟩⟩
    ·exact Dl
    ·exact cvJ
  ·rintro V b ⟨hi,hV,_⟩ hnd h1 h2
   subst hi;have hV2:∀ i,i∈V↔i<m.length:=fun i=>⟨hV i,fun h=>h1 i (by simpa [Jq] using h)⟩
   have hms:=vY q hq hkl hm hnd hV2;refine Ee.normal ?_;refine AV.swap 1 3 (by decide) (by decide) (by decide) (by decide) ?_
   repeat' (first|apply AV.region|apply Ee.normal|refine go1 ?_|fail)
   all_goals try (exfalso;omega)
   refine Ah.normal ⟨(k+1,aF q k m V),⟨hkl,hms⟩,by show (A8 q.p).length-(k+1)<(A8 q.p).length-k;omega,⟨by decide,?_,?_⟩⟩
   ·dsimp only
    exact Dl
   ·dsimp only
    repeat (first|exact BH.nil|(refine BH.cons (Bh rfl) ?_ rfl ?_ ?_;(first|exact CU _ _|exact HB.Az rfl);(first|exact JH.refl _|(rw [b1z];exact JH.refl _))))
 ·obtain rfl:k=(A8 q.p).length:=by omega
  repeat' (first|((refine AV.at 27 ?_;refine Hold.of ?_))|apply AV.BL|apply Ee.normal|apply Ee.exit|apply AV.to|apply AV.exit|(apply AV.Au;rfl)|refine go0 ?_|(intro _;try (exfalso;omega)))
  all_goals try (exfalso;omega)
  refine Hold.go ?_;have hsb:∀ V:List Nat,(∀ i∈V,i<m.length)→sumF (fun i=>(gi m i).2.2) V≤V.length*1000000:=fun V=>by
   induction V with
   |nil=>intro _;exact ab _
   |cons a V ih =>
    intro h;have h1:=ih fun i hi=>h i (an _ hi)
    have h2:=(hen _ (EK (h a (by simp)))).2;simp only [sumF,List.length_cons];omega
  refine AV.kD (fun s:Nat=>[(16,.p (.str (bs (Lib.decDigits s)))),(81,.mref 1)]) (fun s=>[(1,SY m)]) (fun V s=>s=sumF (fun i=>(gi m i).2.2) V∧∀ i∈V,i<m.length) 0 (Dn:=2) (b:=1) (ks:=(Jq m).map fun x=>.str (bs x.1)) (cs:=(Jq m).map (·.2)) rfl rfl (by decide) rfl ⟨rfl,fun i h=>absurd h bk⟩ ⟨by decide,?_,?_⟩ rfl (fun _=>⟨rfl,rfl,rfl⟩) (fun _ _ _=>rfl) (by simp) rfl (by kernel_rfl) (by kernel_rfl) (by decide) ?_ ?_
  ·rw [b8n]
   exact Dl
  ·exact cvJ
  ·rintro V b i kk c ⟨hi,hV⟩ hnd hni hk' hc'
   subst hi;have hil:i<m.length:=by
    have:=(bt.1 hk').1;simpa [Jq] using this
   have hei:m[i]?=some (gi m i):=by unfold gi;rw [ai hil];rfl
   have ec:c=.p (OZ (gi m i).2):=by
    unfold Jq at hc';rw [av,av,hei] at hc';simpa using hc'.symm
   subst ec;have hV':∀ j∈V++[i],j<m.length:=fun j hj=>by
    rcases bm.1 hj with h|h
    ·exact hV j h
    ·rw [aL] at h;omega
   have hVl:=Iw m.length V hnd hV;have hs:=hsb V hV;have w2:=(hen _ (EK hil)).2;have hsum:sumF (fun i=>(gi m i).2.2) (V++[i])=sumF (fun i=>(gi m i).2.2) V+(gi m i).2.2:=by
    rw [LU];simp [sumF]
   rw [hsum];generalize sumF (fun i=>(gi m i).2.2) V=sv at *;generalize (gi m i).2=v at *;obtain ⟨l,cc⟩:=v;simp only at w2 ⊢;have ha:=Zk sv cc (by omega) (by omega)
   repeat' (first|apply AV.region|apply Bz.nil|apply Bz.one|(apply Aa.fn;rfl;rfl;exact ha;intro _;rfl)|refine go1 ?_|fail)
   all_goals try (exfalso;omega)
   refine Ah.normal ⟨_,⟨rfl,hV'⟩,⟨by decide,?_,?_⟩⟩
   ·exact Dl
   ·exact cvJ
  ·rintro V s ⟨hi,hV⟩ hnd h1 h2
   subst hi;have hV2:∀ i,i∈V↔i<m.length:=fun i=>⟨hV i,fun h=>h1 i (by simpa [Jq] using h)⟩
   have ht:sumF (fun i=>(gi m i).2.2) V=(EL q (A8 q.p).length).length:=by
    have h3:sumF (fun d:List UInt8×IG=>d.2.2) m=(EL q (A8 q.p).length).length:=XP.total hm;rw [← h3,← dW (fun d:List UInt8×IG=>d.2.2) (Wv hnd hV2),Zh]
   rw [ht];refine Ee.normal ?_
   repeat' (first|apply AV.BL|apply AV.ret|refine go1 ?_|fail)
   all_goals (refine Done.rt rfl rfl ⟨?_,rfl,rfl⟩;try rfl)
theorem rC:∀ (n:Nat) (a b:List Int),a.length=n→b.length=n→(∀ x∈a,0≤x∧x≤2)→(∀ x∈b,0≤x∧x≤2)→a.foldr (fun x s=>x.toNat+3*s) 0=b.foldr (fun x s=>x.toNat+3*s) 0→a=b
 |0,a,b,ha,hb,_,_,_=>by rw [ar.1 ha,ar.1 hb]
 |n+1,[],_,ha,_,_,_,_=>by cases ha
 |n+1,_::_,[],_,hb,_,_,_=>by cases hb
 |n+1,x::a,y::b,ha,hb,h1,h2,he=>by
  simp only [List.foldr_cons] at he;have hx:=h1 x (by simp);have hy:=h2 y (by simp);have e1:x=y:=by omega
  rw [e1,rC n a b (by simpa using ha) (by simpa using hb) (fun z hz=>h1 z (an _ hz)) (fun z hz=>h2 z (an _ hz)) (by omega)]
theorem xW:∀ (a:List Int),(∀ x∈a,0≤x∧x≤2)→a.foldr (fun x s=>x.toNat+3*s) 0<3 ^ a.length
 |[],_=>by decide
 |x::a,h=>by
  have ih:=xW a fun z hz=>h z (an _ hz)
  have hx:=h x (by simp);grind
theorem VA (q:Qu) (hq:JV q) (hn:q.p.notes.length≤12) {t:Nat} (ht:t≤(A8 q.p).length):(EL q t).length≤1000000:=by
 have hr:∀ l∈EL q t,l.length=q.p.notes.length∧∀ x∈l,0≤x∧x≤2:=fun l hl=>by
  have hi:=(PK q hq ht l).1 hl;have hlen:l.length=q.p.notes.length:=fO.len hi;refine ⟨hlen,fun x hx=>?_⟩;obtain ⟨i,h1,rfl⟩:=L9 hx;exact Yh (UH q) hi (by omega)
 have h1:((EL q t).map fun a=>a.foldr (fun (x:Int) s=>x.toNat+3*s) 0).Nodup:=by
  refine List.Pairwise.map _ (R:=fun a b=>a∈EL q t∧b∈EL q t∧a≠b) (fun a b ⟨ha,hb,hne⟩ e=>hne ?_) ?_
  ·exact rC _ a b (hr a ha).1 (hr b hb).1 (hr a ha).2 (hr b hb).2 e
  ·exact gj (R:=(·≠·)) (fun {a b} ha hb h=>⟨ha,hb,h⟩) (Td q hq ht)
 have h2:=Iw (3 ^ q.p.notes.length) _ h1 fun i hi=>by
  obtain ⟨a,ha,rfl⟩:=bb.1 hi;have:=xW a (hr a ha).2;grind
 rw [bd] at h2;have h3:3 ^ q.p.notes.length≤3 ^ 12:=ax (by decide) hn;omega
theorem qw (q:Qu) (hn:q.p.notes.length≤12):∀ t,t<(A8 q.p).length→kQ q t≤12:=fun t ht=>by
 refine am (dd _ _) ?_;rw [YZ q ht];exact am (Ut q.p _ _) hn
theorem a9k (q:Qu) (hq:JV q) (l:List Int):a9c q l=0↔l∈EL q (A8 q.p).length:=by
 rw [Nl q hq];unfold a9c;constructor
 ·intro h
  by_cases hc:XC q l=0
  ·rw [if_pos hc] at h
   have hlen:=qB hc;have hcf:¬ 0≤vK q l:=fun h1=>by omega
   have hk:∀ i,i<l.length→Vl q l i=true:=fun i hi=>by
    unfold XC at hc;have h1:Ep (fun i=>!Vl q l i) l.length=-1:=fT fun h1=>by omega
    cases h2:Vl q l i with
    |true=>rfl
    |false =>
     have:=Ul (P:=fun i=>!Vl q l i) (n:=l.length) (k:=i) (by grind) l.length (ab _) (by omega) hi;unfold Ep at h1;omega
   refine ⟨hlen,fun i hi=>?_,fun t ht=>?_⟩
   ·obtain ⟨g1,g2,g3⟩:=iq (hk i (by omega))
    grind
   ·cases h2:H7 q (Jd q t) l with
    |true=>rfl
    |false =>
     exact absurd (Ul (P:=fun i=>!H7 q (Jd q i) l) (n:=(A8 q.p).length) (k:=t) (by grind) _ (ab _) (by omega) ht) hcf
  omega
 ·rintro ⟨h1,h2,h3⟩
  have hc:XC q l=0:=by
   unfold XC Ep;rw [if_pos h1,UA (fun i hi=>?_) _ (ab _),if_pos rfl];have:=h2 i (by omega);unfold Vl;by_cases hp:GZ q i=true
   ·grind
   ·rw [if_neg hp] at this
    have hp':GZ q i=false:=by grind
    rw [hp'];rcases this with e|e<;>rw [e]<;>rfl
  have hcf:vK q l=-1:=by
   unfold vK Ep;exact UA (fun i hi=>by grind) _ (ab _)
  omega
theorem RZ (q:Qu) (hq:JV q) (hn:q.p.notes.length≤12):Ic env 11 [.agg (Enc.enc q)] (gU q):=a1y q hq (qw q hn)
theorem Qb (q:Qu) (hq:JV q) (hn:q.p.notes.length≤12):Ic env 12 [.agg (Enc.enc q)] (.DX [st (Lib.decDigits (EL q (A8 q.p).length).length),.p (.int .i64 0)]) :=
 lD q hq (qw q hn) fun t ht=>VA q hq hn ht
theorem zO (x y:Way):bV x y∨bV y x:=by
 cases h:zH x y with
 |true=>exact .inl (wz h)
 |false=>exact .inr (jr h)
theorem a4x (f:List Int→Int):∀ L:List (List Int),L≠[]→∃ l∈L,∀ h∈L,bV (l,f l) (h,f h)
 |[],h=>absurd rfl h
 |a::L,_=>by
  by_cases hL:L=[]
  ·subst hL
   exact ⟨a,by simp,fun h hh=>by rw [aL] at hh;subst hh;exact Jc _⟩
  ·obtain ⟨l,h1,h2⟩:=a4x f L hL
   rcases zO (a,f a) (l,f l) with h3|h3
   ·refine ⟨a,by simp,fun h hh=>?_⟩
    rcases be.1 hh with rfl|hh
    ·exact Jc _
    ·exact KE h3 (h2 h hh)
   grind
theorem Y2 (q:Qu):(EL q (A8 q.p).length=[]∧XT q=none)∨∃ l,XT q=some l∧IsB q l:=by
 by_cases h:EL q (A8 q.p).length=[]
 ·exact .inl ⟨h,dO h⟩
 ·obtain ⟨l,h1,h2⟩:=a4x (GV q) _ h
  exact .inr ⟨l,V4 ⟨h1,h2⟩,h1,h2⟩
end Go.Proofs.YtnjkoebfgcbbdaaGreatDoor
namespace Go.Proofs.YtnjkoebfgcbbdaaGreatDoor
open Go Go.Am Go.Vm Go.Pie
attribute [local irreducible] Aa Ai Ag Ad AP Ak Bf BM Bq Ah Vm.Done BD AB
attribute [local irreducible] Ci Ba DV DN Eo AZ CG
open Go.Sch
attribute [local irreducible] Q7 AV Bz Ee Ic F9 Hold
def thR:Ho:=⟨[79,112,101,110],[79,112,101,110],⟨8,1⟩,36,[1]⟩
def thD:lT:=⟨[71,114,101,97,116],false,36,72,[]⟩
def thO:He:=⟨[84,104,114,101,101],[thR],[thD],[]⟩
def thP:F7:=⟨[0,8],[⟨0,4,0,40⟩,⟨0,4,0,52⟩,⟨4,8,0,60⟩],[]⟩
def thY:VK:=⟨1,12,0,0⟩
def V7:Qu:=⟨thO,thP,thY⟩
theorem uI:Ak env 10 [] (.p (.agg (Enc.enc V7))):=by
 refine Ak.enter (Ae (by decide)) Tryz.func10 rfl (by kernel_rfl) (by simp [Tryz.ntmps10]) ?_
 repeat' (first|(refine Ai.Je 6 ?_;refine Ai.ghost (Aw.freeze 5 rfl rfl) ?_)|(refine Ai.Je 12 ?_;refine Ai.ghost (Aw.trans (Aw.freeze 8 rfl rfl) (Aw.freeze 11 rfl rfl)) ?_)|(refine Ai.Je 18 ?_;refine Ai.ghost (Aw.trans (Aw.freeze 13 rfl rfl) (Aw.freeze 17 rfl rfl)) ?_)|apply Ad.BL|apply Ad.ret|apply Ai.nil|apply Ai.one|(apply Aa.load;rfl;rfl)|(apply Aa.alloc;rfl)|(apply Aa.FD;rfl;rfl;rfl;trivial;rfl;rfl;exact Bh rfl;exact le_dec rfl)|(apply Aa.build;rfl;rfl;rfl;rfl;rfl)|(apply Aa.buildSlice;rfl;rfl;rfl;decide;rfl;rfl;rfl))
 all_goals try (exfalso;omega)
 refine Done.ret rfl (.p (.agg ?_)) trivial BH.nil (ao _) (ab _) ⟨rfl,rfl,rfl⟩;exact .cons (.refl _) (.cons (.refl _) (.cons (.lst (.cons (.refl _) (.cons (.refl _) (.cons (.refl _) (.cons (.refl _) (.cons (.nil _) (.refl _))))))) (.cons (.nil _) (.cons (.refl _) (.cons (.refl _) (.cons (.nil _) (.refl _)))))))
theorem lt1 {i:Nat} (h:i<1):i=0 :=by omega
theorem b6p:Ci thR=0:=by
 unfold Ci;have h1:Dy thR.name:=a3z [79,112,101,110] (by decide) (by decide) (by decide);have h3:Rh thR.D5=0:=pk1 8 (.inl rfl);have hw:thR.EU=[1]:=rfl;rw [if_neg (by rintro (h|h);exact h h1;exact h h1),if_neg (fun h=>h h3),if_neg (by show ¬ ((36:Int)< -256∨(36:Int)>256);omega),hw,if_neg (by simp),if_neg (by simp)];unfold Ba;rw [if_pos];intro j hj;obtain rfl:=lt1 hj;decide
theorem zA:Vs thO=0:=by
 have eR:thO.ranks=[thR]:=rfl;have eD:thO.Af=[thD]:=rfl;have eC:thO.IK=[]:=rfl;have eN:thO.name=[84,104,114,101,101]:=rfl;unfold Vs;rw [eR,eD,eC,eN];have hr:P6 [thR] 0=0:=VI (fun i hi=>by
  obtain rfl:=lt1 hi;exact ⟨b6p,by simp⟩) _ 0 rfl
 have hv:DN [thR] thD=0:=by
  unfold DN;exact Tv (fun i hi=>absurd hi (bB _)) _ 0 rfl
 have hd:GI [thR] [thD] 0=0:=Tf (fun i hi=>by
  obtain rfl:=lt1 hi;exact ⟨a3z [71,114,101,97,116] (by decide) (by decide) (by decide),by simp,hv⟩) _ 0 rfl
 rw [if_neg (fun h=>h (a3z [84,104,114,101,101] (by decide) (by decide) (by decide))),if_neg (by simp),if_neg (fun h=>h hr),if_neg (by simp),if_neg (by simp),if_neg (fun h=>h hd)];unfold Eo;rw [if_neg (by simp)];have hc:Tn ([thD].map fun d=>(⟨d.lo,d.hi⟩:lM)) 0=0:=VD (fun i hi=>by
  obtain rfl:=lt1 hi;rfl) _ 0 rfl
 rw [if_neg (fun h=>h hc)];exact S9 (fun i hi=>absurd hi (bB _)) _ 0 rfl
theorem b5e:UF thO:=by
 refine ⟨by decide,by decide,by decide,by decide,fun i hi=>?_,fun i hi=>?_,fun i hi=>absurd hi (bB _)⟩
 ·obtain rfl:=lt1 hi
  exact ⟨by decide,by decide,by decide⟩
 ·obtain rfl:=lt1 hi
  exact ⟨by decide,by decide,fun j hj=>absurd hj (bB _)⟩
theorem b7u:a1i thO:=b4i b5e zA
theorem b9p (N:List LW) (h1:N.length≤1000) (h2:∀ i,i<N.length→(gi N i).d=0∧(36≤(gi N i).k∧(gi N i).k≤72)∧0≤(gi N i).s∧(gi N i).s<(gi N i).e∧(gi N i).e≤8) (h3:∀ i,i<N.length→∀ j,j<i→lu (gi N j) (gi N i)=false):um thO ⟨[0,8],N,[]⟩:=by
 refine yT ⟨by simp,by grind,by simp,fun i hi=>absurd hi (bB _)⟩ ⟨by simp,by simp⟩ (fun i hi=>?_) h1 (fun i hi=>?_) (by simp) fun i hi=>absurd hi (bB _)
 ·rcases lt2 hi with rfl|rfl
  ·exact ⟨by show (0:Int)≤0∧(0:Int)≤100000;decide,fun h=>by omega⟩
  ·exact ⟨by show (0:Int)≤8∧(8:Int)≤100000;decide,fun _=>by show (0:Int)<8;decide⟩
 ·obtain ⟨g1,g2,g3,g4,g5⟩:=h2 i hi
  refine ⟨by show 0≤(gi N i).d∧(gi N i).d<((1:Nat):Int);omega,?_,by show (0:Int)≤(gi N i).s∧(gi N i).s<(gi N i).e∧(gi N i).e≤8;omega,h3 i hi⟩;rw [g1];exact g2
theorem c0i (N:List LW) (y:VK) (hy:y.Ok) (h:um thO ⟨[0,8],N,[]⟩):JV ⟨thO,⟨[0,8],N,[]⟩,y⟩ :=
 ⟨b7u,by unfold XJ;rw [if_neg (fun h=>h zA)];exact h.err,h,hy⟩
theorem X4:JV V7:=c0i _ thY ⟨by decide,by decide,by decide,by decide⟩ (b9p _ (by simp) (fun i hi=>by
 have:i=0∨i=1∨i=2:=by
  grind
 rcases this with rfl|rfl|rfl<;>decide) fun i hi j hj=>by
 have hi3:i=0∨i=1∨i=2:=by
  grind
 rcases hi3 with rfl|rfl|rfl
 ·omega
 ·obtain rfl:j=0:=by omega
  decide
 ·have hj2:j=0∨j=1:=by omega
  rcases hj2 with rfl|rfl<;>decide)
theorem b6w:Dx thP=[0,4,8]:=by
 refine xZ (Xe (dX _)) (by unfold Inc;simp) fun x=>?_
 unfold Dx;rw [PE,ft];have:Tz thP thP.notes.length=[0,8,0,4,0,4,4,8]:=rfl;grind
theorem ji:A8 V7.p=[⟨0,4,[0,1]⟩,⟨4,8,[2]⟩]:=by
 show A8 thP=_;unfold A8;rw [b6w];rfl
theorem a5p:Jd V7 0=[0,1]:=by unfold Jd;rw [ji];rfl
theorem a6l:Jd V7 1=[2]:=by unfold Jd;rw [ji];rfl
def thL:List (List Int):=[[0,1,0],[0,1,1],[1,0,0],[1,0,1]]
theorem zF:∀ l∈([[0,0,0],[0,0,1],[0,1,0],[0,1,1],[1,0,0],[1,0,1],[1,1,0],[1,1,1]]:List (List Int)),(H7 V7 [0,1] l&&H7 V7 [2] l)=decide (l∈thL) :=by decide
theorem wu (l:List Int):l∈EL V7 (A8 V7.p).length↔l∈thL:=by
 rw [Nl V7 X4,ji];have h8:∀ l:List Int,(l.length=3∧∀ i,i<3→gi l i=0∨gi l i=1)→l∈([[0,0,0],[0,0,1],[0,1,0],[0,1,1],[1,0,0],[1,0,1],[1,1,0],[1,1,1]]:List (List Int)):=by
  rintro l ⟨h1,h2⟩;obtain ⟨a,b,c,rfl⟩:∃ a b c,l=[a,b,c]:=by
   match l,h1 with
   |[a,b,c],_=>simp
  have ha:a=0∨a=1:=h2 0 (by decide);have hb:b=0∨b=1:=h2 1 (by decide);have hc:c=0∨c=1:=h2 2 (by decide);rcases ha with rfl|rfl<;>rcases hb with rfl|rfl<;>rcases hc with rfl|rfl<;>simp
 have hpd:∀ i,i<3→GZ V7 i=false:=fun i hi=>by
  have:i=0∨i=1∨i=2:=by omega
  rcases this with rfl|rfl|rfl<;>rfl
 constructor
 ·rintro ⟨h1,h2,h3⟩
  have hl:=h8 l ⟨h1,fun i hi=>by
   have:=h2 i hi;grind⟩
  have hp:=zF l hl;have p0:=h3 0 (by decide);have p1:=h3 1 (by decide);rw [a5p] at p0;rw [a6l] at p1;grind
 ·intro h
  have hl:l∈([[0,0,0],[0,0,1],[0,1,0],[0,1,1],[1,0,0],[1,0,1],[1,1,0],[1,1,1]]:List (List Int)):=by
   simp only [thL,List.mem_cons,List.not_mem_nil,or_false] at h;rcases h with rfl|rfl|rfl|rfl<;>simp
  have hp:=zF l hl;rw [decide_eq_true h,eK] at hp;refine ⟨?_,fun i hi=>?_,fun t ht=>?_⟩
  ·simp only [thL,List.mem_cons,List.not_mem_nil,or_false] at h
   rcases h with rfl|rfl|rfl|rfl<;>rfl
  ·have hi:i<3:=hi
   rw [hpd i hi];have:i=0∨i=1∨i=2:=by omega
   simp only [thL,List.mem_cons,List.not_mem_nil,or_false] at h;rcases h with rfl|rfl|rfl|rfl<;>rcases this with rfl|rfl|rfl<;>decide
  ·rcases lt2 ht with rfl|rfl
   ·rw [a5p];exact hp.1
   ·rw [a6l];exact hp.2
theorem a5b:(EL V7 (A8 V7.p).length).length=4:=by
 have h:(EL V7 (A8 V7.p).length).Perm thL:=(fw (Td V7 X4 (ab _)) (by decide)).2 wu;exact h.length_eq
theorem b2u (l:List Int) (h:Int):H8 V7 l h 2=(let r0:=U1 thP [0,1] l h 2;let r1:=U1 thP [2] l h 1;let A:=if r0.1=true then [(⟨h,0,r0.2⟩:Pos)] else [];if r1.1=true then A++[⟨h,1,r1.2⟩] else A):=by
 have e0:FY V7 l h 0=U1 thP [0,1] l h 2:=by unfold FY;rw [a5p];rfl
 have e1:FY V7 l h 1=U1 thP [2] l h 1:=by unfold FY;rw [a6l];rfl
 unfold H8 H8 H8;grind
def thC (l:List Int):Int :=
 let P:=fun h:Int=>(let r0:=U1 thP [0,1] l h 2;let r1:=U1 thP [2] l h 1;let A:=if r0.1=true then [(⟨h,0,r0.2⟩:Pos)] else [];if r1.1=true then A++[⟨h,1,r1.2⟩] else A)
 csK (P 0++P 1) ((P 0++P 1).length-1)
theorem iZ (l:List Int):GV V7 l=thC l:=by
 unfold GV a9w;have:(A8 V7.p).length=2:=by rw [ji];rfl
 rw [this,b2u,b2u];rfl
theorem a5u:thL.map thC=[20,8,8,20] :=by decide
theorem yS:XT V7=some [0,1,1]∧GV V7 [0,1,1]=8:=by
 have c:=a5u;simp only [thL,List.map_cons,List.map_nil,List.cons.injEq,and_true] at c;obtain ⟨c0,c1,c2,c3⟩:=c;refine ⟨V4 ⟨(wu _).2 (by simp [thL]),fun h hh=>?_⟩,by rw [iZ,c1]⟩;have:=(wu h).1 hh;rw [iZ,iZ,c1];simp only [thL,List.mem_cons,List.not_mem_nil,or_false] at this;rcases this with rfl|rfl|rfl|rfl
 ·exact .inl (by decide)
 ·exact Jc _
 ·exact .inr ⟨rfl,by decide⟩
 ·exact .inl (by decide)
theorem Gy:Am.Enters Tryz.prog 11:=⟨_,Tryz.func11,by rfl,by rfl⟩
theorem FC:Am.Enters Tryz.prog 12:=⟨_,Tryz.func12,by rfl,by rfl⟩
theorem Kw:Am.Enters Tryz.prog 9:=⟨_,Tryz.func9,by rfl,by rfl⟩
theorem qA (a b:List Int) (ha:a.length<1000000) (hb:b.length<1000000):Ak env 21 [.lst 3 (cells a) a.length,.lst 3 (cells b) b.length] (.p (.bool (decide (a=b)))):=by
 by_cases hl:a.length=b.length
 ·refine Ak.enter (Ae (by decide)) Tryz.func21 rfl (by kernel_rfl) (by simp [Tryz.ntmps21]) ?_
  repeat' (first|refine go2 ?_|(apply Ad.Ac;rfl)|(intro _;try (exfalso;omega)))
  all_goals try (exfalso;omega)
  apply Ad.Il (a.length) (fun k=>∀ i,i<k→gi a i=gi b i) [(0,_),(1,_)] [] (fun k r=>(5,.p (.int .i64 (k:Int)))::r) (fun k r=>r) 0
  ·first|omega|decide
  ·first|omega|decide
  ·exact RH
  ·exact U0
  ·first|(intro _ _;omega)|omega|trivial
  ·intro k hk hi
   by_cases h:gi a k=gi b k
   ·repeat' (first|(apply Aa.Ap;rfl;rfl;rfl;omega;rfl)|refine JA ?_|(apply Ad.Ac;rfl)|(apply Ad.Au;rfl)|(intro _;try (exfalso;omega)))
    all_goals try (exfalso;omega)
    all_goals try contradiction
    refine Ah.normal ⟨(fun i hik=>by rcases aq i k with h1|h1;exact hi i h1;rw [show i=k by omega];exact h),by first|omega|decide,?_,?_⟩
    ·exact Dl
    ·exact Eh
   ·rw [decide_eq_false (fun e=>h (by rw [e]))]
    repeat' (first|(apply Aa.Ap;rfl;rfl;rfl;omega;rfl)|refine JA ?_|(apply Ad.Ac;rfl)|(apply Ad.Au;rfl)|(intro _;try (exfalso;omega)))
    all_goals first|(exfalso;omega)|contradiction|(refine Done.rt rfl rfl ⟨?_,rfl,rfl⟩;try rfl)
  ·intro hi
   rw [decide_eq_true (Ku hl hi)]
   repeat' (first|refine go2 ?_|(apply Ad.Ac;rfl)|(intro _;try (exfalso;omega)))
   all_goals first|(exfalso;omega)|contradiction|(refine Done.rt rfl rfl ⟨?_,rfl,rfl⟩;try rfl)
 ·rw [decide_eq_false (fun e=>hl (by rw [e]))]
  refine Ak.enter (Ae (by decide)) Tryz.func21 rfl (by kernel_rfl) (by simp [Tryz.ntmps21]) ?_
  repeat' (first|refine go2 ?_|(apply Ad.Ac;rfl)|(intro _;try (exfalso;omega)))
  all_goals first|(exfalso;omega)|contradiction|(refine Done.rt rfl rfl ⟨?_,rfl,rfl⟩;try rfl)
theorem c4r:Lib.decDigits 4=[52]:=by rw [Lib.decDigits];rfl
theorem lG:Ic env 9 [] (.p (.bool true)):=by
 have h3:=uI;have hB:=RZ V7 X4 (by show 3≤12;decide);have hC:=Qb V7 X4 (by show 3≤12;decide);rw [a5b,c4r] at hC;have hR:gU V7=.DX [.p (.agg [.lst 3 (cells ([0,1,1]:List Int)) 3,.int .i64 8]),.p (.int .i64 0)]:=by
  unfold gU;rw [yS.1];show PV.DX [.p (.agg [.lst 3 (cells ([0,1,1]:List Int)) 3,.int .i64 (GV V7 [0,1,1])]),.p (.int .i64 0)]=_;rw [yS.2]
 rw [hR] at hB;have hs:=qA [0,1,1] [0,1,1] (by show 3<1000000;decide) (by show 3<1000000;decide);rw [decide_eq_true rfl] at hs;refine Ic.enter Tryz.func9 rfl (by kernel_rfl) (by kernel_rfl) (by simp [Tryz.ntmps9]) ?_
 repeat' (first|(refine AV.at 1 ?_;apply AV.Gm)|(refine AV.at 2 ?_;apply AV.Gm)|(apply Bz.fn;rfl;rfl;exact hB;exact Gy;intro _;rfl)|(apply Bz.fn;rfl;rfl;exact hC;exact FC;intro _;rfl)|(refine Ai.Je 21 ?_;refine Ai.ghost (Aw.freeze 20 rfl rfl) ?_)|apply AV.BL|apply AV.ret|apply Bz.nil|apply Bz.one|apply Ai.nil|apply Ai.one|(apply Ai.take;rfl;rfl)|(apply Aa.fn;rfl;rfl;exact h3;intro _;rfl)|(apply Aa.fn;rfl;rfl;exact hs;intro _;rfl)|(apply Aa.assign;rfl)|(apply Aa.move;rfl)|(apply Aa.int;rfl;rfl;rfl)|(apply Aa.load;rfl;rfl)|(apply Aa.IC;rfl;rfl)|(apply Aa.Ii;rfl;rfl;rfl)|(apply Aa.alloc;rfl)|(apply Aa.FD;rfl;rfl;rfl;trivial;rfl;rfl;exact Bh rfl;exact le_dec rfl)|(apply Aa.buildSlice;rfl;rfl;rfl;decide;rfl;rfl;rfl)|(apply Aa.eqS;rfl;rfl)|(apply Aa.extract;rfl;rfl))
 all_goals first|(exfalso;omega)|contradiction|(refine Done.rt rfl rfl ⟨?_,rfl,rfl⟩;try rfl)
end Go.Proofs.YtnjkoebfgcbbdaaGreatDoor
namespace Go.Vm
open Go.Am
variable {E:Env} {n bn:Nat} {L:Frame} {H:Heap} {nx:Nat}
theorem Bz.yR {ops:Array Oper} {l:List Oper} {R:Frame→Heap→Nat→Prop} (h:Ai E bn ops l L H nx R):Bz E n bn ops l L H nx R:=by
 intro hs hok B hB m F σ t h1 h2 h3 ι ac w hst R' hR;obtain ⟨s',⟨K,hk⟩,L',H',nx',F',σ',q,c1,c2,c3⟩:=h B hB m F σ t h1 h2 h3;have hx:=hk K K (ab _) (ab _);have hcall:=Iz (N:=K) hs.o hs.mix K;have:=Ox (rf:=none) (nn:=0) (Q:=R') hcall l ⟨t,m⟩ s' ι ac w hok hx hst fun a' w' hr=>by
  obtain ⟨ι',he,hst'⟩:=hr;exact hR L' H' nx' a' w' q ⟨s'.m,F',σ',s'.t,ι',c1,c2,c3,he,hst',fun d hd=>Ph l _ _ hx hd⟩
 exact this
end Go.Vm
namespace Go.Proofs.YtnjkoebfgcbbdaaGreatDoor
open Go Go.Am Go.Vm Go.Pie Go.Sch
attribute [local irreducible] Aa Ai Ag Ad AP Ak Bf BM Bq Ah Vm.Done BD AB Q7 AV Bz Ee Ic F9 Hold
attribute [local irreducible] Ci Ba DV DN Eo AZ CG
structure Rch where
 a:Nat
 b:Nat
 c:Nat
 d:Nat
def Rch.enc (y:Rch):List FV:=[.int .u8 (y.a:Int),.int .u8 (y.b:Int),.int .u8 (y.c:Int),.int .u8 (y.d:Int)]
structure Rch.Ok (y:Rch):Prop where
 a:y.a<256
 b:y.b<256
 c:y.c<256
 d:y.d<256
theorem a2p {j:Nat} {fs:List FV} (h:EW Tryz.prog (j+2) 61 fs):∃ y:Rch,fs=y.enc∧y.Ok:=by
 obtain ⟨parts,rfl,hp⟩:=Fq h Tryz.underlying61;obtain ⟨a,b,c,d,rfl,h1,h2,h3,h4⟩:=Jo hp;obtain ⟨m1,rfl,q1⟩:=Ef (j:=j) h1;obtain ⟨m2,rfl,q2⟩:=Ef (j:=j) h2;obtain ⟨m3,rfl,q3⟩:=Ef (j:=j) h3;obtain ⟨m4,rfl,q4⟩:=Ef (j:=j) h4;exact ⟨⟨m1,m2,m3,m4⟩,rfl,q1,q2,q3,q4⟩
theorem a3e {j:Nat} {fs:List FV} (h:EW Tryz.prog (j+2) 75 fs):∃ a b:Nat,fs=[.int .u8 (a:Int),.int .u8 (b:Int)]∧a<256∧b<256:=by
 obtain ⟨L,rfl,hl,hL⟩:=EW.array h Tryz.underlying75;obtain ⟨a,b,rfl⟩:∃ a b,L=[a,b]:=by
  match L,hl with
  |[a,b],_=>simp
 obtain ⟨x,rfl,q1⟩:=Ef (j:=j) (hL a (by simp));obtain ⟨y,rfl,q2⟩:=Ef (j:=j) (hL b (by simp));grind
def LC (y:Rch):VK:=⟨(y.a:Int) % 5,(y.b:Int) % 16,(y.c:Int) % 4,(y.d:Int) % 16⟩
noncomputable def mkH (x:bD) (y:Rch):Qu:=⟨YF x.org,mkP x,LC y⟩
theorem nJ (x:bD) (hx:x.Ok) (hf:OL x) (y:Rch) (hy:y.Ok):Ak env 15 [.agg x.enc,.agg y.enc] (.p (.agg (Enc.enc (mkH x y)))):=by
 have hm:=pU x hx hf;obtain ⟨y1,y2,y3,y4⟩:=hy;unfold mkH LC;generalize YF x.org=o at *;generalize mkP x=p at *;refine Ak.enter (Ae (by decide)) Tryz.func15 rfl (by kernel_rfl) (by simp [Tryz.ntmps15]) ?_
 repeat' (first|(apply Aa.fn;rfl;rfl;exact hm;intro _;rfl)|refine FT ?_|(apply Aa.build;rfl;rfl;rfl;rfl;rfl)|(apply Aa.Gh;rfl;rfl;rfl;rfl;omega))
 all_goals first|(exfalso;omega)|(refine Done.rt rfl rfl ⟨?_,rfl,rfl⟩;try rfl)
theorem b8w (x:bD) (hx:x.Ok) (hf:OL x) (y:Rch):JV (mkH x y):=by
 refine ⟨b4i (pY x.org hx.org hf.1).sm (pY x.org hx.org hf.1).ok,b0s x hx hf,b2w x hx hf,?_,?_,?_,?_⟩
 ·show 0≤(y.a:Int) % 5∧(y.a:Int) % 5≤10;omega
 ·show 0≤(y.c:Int) % 4∧(y.c:Int) % 4≤10;omega
 ·show 0≤(y.b:Int) % 16∧(y.b:Int) % 16≤127;omega
 ·show 0≤(y.d:Int) % 16∧(y.d:Int) % 16≤127;omega
theorem b9x (x:bD) (hf:OL x) (y:Rch):(mkH x y).p.notes.length≤8:=by
 have h1:=Qh (YF x.org) (bM x.bars x.bars.length) x.notes x.notes.length;have h2:=hf.2.2.1;show (H6 (YF x.org) (bM x.bars x.bars.length) x.notes x.notes.length).length≤8;omega
theorem Yw {y z:VK} (h1:y.hn≤z.hn) (h2:y.hs≤z.hs) (K:List JZ):∀ k,(hcK y K k).2=(hcK z K k).2∧((hcK y K k).1=true→(hcK z K k).1=true)
 |0=>⟨rfl,fun h=>h⟩
 |k+1=>by
  obtain ⟨i1,i2⟩:=Yw h1 h2 K k;unfold hcK;by_cases h:Fv (gi K k)=[]
  ·grind
  ·rw [if_neg h,if_neg h]
   refine ⟨by rw [i1],fun h3=>?_⟩;simp only [Bool.and_eq_true,decide_eq_true_eq] at h3 ⊢;obtain ⟨⟨h4,h5⟩,h6,h7⟩:=h3;exact ⟨⟨i2 h4,by omega⟩,by omega,by omega⟩
theorem uJ {o:He} {p:F7} {y z:VK} (h1:y.hn≤z.hn) (h2:y.hs≤z.hs) (h3:y.fn=z.fn) (h4:y.fs=z.fs) {N l:List Int} (h:H7 ⟨o,p,y⟩ N l=true):H7 ⟨o,p,z⟩ N l=true:=by
 unfold H7 at h ⊢;simp only [Bool.and_eq_true] at h ⊢;obtain ⟨⟨g1,g2⟩,g3⟩:=h;refine ⟨⟨(Yw h1 h2 _ _).2 g1,(Yw h1 h2 _ _).2 g2⟩,?_⟩;have g3:=of_decide_eq_true g3;refine decide_eq_true ?_;unfold Zd at g3 ⊢;rw [← h3,← h4];exact g3
theorem a3v {o:He} {p:F7} {y z:VK} (hq:JV ⟨o,p,y⟩) (hz:JV ⟨o,p,z⟩) (h1:y.hn≤z.hn) (h2:y.hs≤z.hs) (h3:y.fn=z.fn) (h4:y.fs=z.fs) {l:List Int} (h:l∈EL ⟨o,p,y⟩ (A8 p).length):l∈EL ⟨o,p,z⟩ (A8 p).length:=by
 have h:=(Nl _ hq l).1 h;exact (Nl _ hz l).2 ⟨h.1,h.2.1,fun t ht=>uJ h1 h2 h3 h4 (h.2.2 t ht)⟩
theorem ZH:∀ {l r:List (List Int)},l.Nodup→(∀ x∈l,x∈r)→l.length≤r.length
 |[],_,_,_=>ao _
 |a::l,r,hn,h=>by
  obtain ⟨hn1,hn2⟩:=cU.1 hn;have h1:=ZH (r:=r.erase a) hn2 fun x hx=>(List.mem_erase_of_ne (fun e=>hn1 (by grind))).2 (h x (an _ hx))
  grind
theorem ug (o:He) (p:F7) (y z:VK) (l:List Int) (h:Int):∀ k,H8 ⟨o,p,y⟩ l h k=H8 ⟨o,p,z⟩ l h k
 |0=>rfl
 |k+1=>by
  have e:FY ⟨o,p,y⟩ l h k=FY ⟨o,p,z⟩ l h k:=rfl;unfold H8;rw [e,ug o p y z l h k]
theorem b0k (o:He) (p:F7) (y z:VK) (l:List Int):GV ⟨o,p,y⟩ l=GV ⟨o,p,z⟩ l:=by
 unfold GV a9w;rw [ug o p y z,ug o p y z]
theorem b2p {a:Nat} (h:a≤1000000):Lib.nDigits a<400000:=cn (a5e (a:=a) (by omega)) (by decide)
theorem XW (x:bD) (hx:x.Ok) (y:Rch) (hy:y.Ok) (m1 m2:Nat) (hm1:m1<256) (hm2:m2<256):Ic env 5 [.agg x.enc,.agg y.enc,.agg [.int .u8 (m1:Int),.int .u8 (m2:Int)]] (.p (.bool true)):=by
 have hkn:=lG;have hf:=wH x hx;by_cases hfit:OL x
 ·rw [decide_eq_true hfit] at hf
  have hm:=nJ x hx hfit y hy;have hk:=b8w x hx hfit y;have hn:=b9x x hfit y;unfold mkH at *;generalize YF x.org=o at *;generalize mkP x=p at *;obtain ⟨y1,y2,y3,y4⟩:=hy;obtain ⟨z,hzd⟩:∃ z:VK,z=⟨(LC y).hn+(m1:Int) % 4,(LC y).hs+(m2:Int) % 8,(LC y).fn,(LC y).fs⟩:=⟨_,rfl⟩
  have yb:0≤(LC y).hn∧(LC y).hn≤4∧0≤(LC y).hs∧(LC y).hs≤15:=by
   show 0≤(y.a:Int) % 5∧(y.a:Int) % 5≤4∧0≤(y.b:Int) % 16∧(y.b:Int) % 16≤15;omega
  have hyo:=hk.y;have hz:JV ⟨o,p,z⟩:=by
   obtain ⟨k1,k2,k3,k4⟩:=hyo;refine ⟨hk.o,hk.e,hk.p,?_,?_,?_,?_⟩
   ·rw [hzd];show 0≤(LC y).hn+(m1:Int) % 4∧(LC y).hn+(m1:Int) % 4≤10;omega
   ·rw [hzd];exact k2
   ·rw [hzd];show 0≤(LC y).hs+(m2:Int) % 8∧(LC y).hs+(m2:Int) % 8≤127;omega
   ·rw [hzd];exact k4
  have hmon:∀ l,l∈EL ⟨o,p,LC y⟩ (A8 p).length→l∈EL ⟨o,p,z⟩ (A8 p).length:=fun l hl=>a3v hk hz (by rw [hzd];show (LC y).hn≤(LC y).hn+(m1:Int) % 4;omega) (by rw [hzd];show (LC y).hs≤(LC y).hs+(m2:Int) % 8;omega) (by rw [hzd]) (by rw [hzd]) hl
  have hB1:=RZ _ hk (by omega);have hC1:=Qb _ hk (by omega);have hB2:=RZ _ hz (by have:p.notes.length≤8:=hn;show p.notes.length≤12;omega);have hC2:=Qb _ hz (by have:p.notes.length≤8:=hn;show p.notes.length≤12;omega);have hb1:=VA _ hk (by omega) (t:=(A8 p).length) (ab _);have hb2:=VA _ hz (by have:p.notes.length≤8:=hn;show p.notes.length≤12;omega) (t:=(A8 p).length) (ab _);have hle:=ZH (Td _ hk (t:=(A8 p).length) (ab _)) hmon;have hcmp:=UW (EL ⟨o,p,LC y⟩ (A8 p).length).length (EL ⟨o,p,z⟩ (A8 p).length).length (b2p hb1) (b2p hb2);have hcI:Vf (EL ⟨o,p,LC y⟩ (A8 p).length).length (EL ⟨o,p,z⟩ (A8 p).length).length≤0:=by
   unfold Vf;split
   ·omega
   ·split
    ·omega
    ·omega
  generalize Vf (EL ⟨o,p,LC y⟩ (A8 p).length).length (EL ⟨o,p,z⟩ (A8 p).length).length=ci at *;have hC1:Ic env 12 [.agg (Enc.enc (⟨o,p,LC y⟩:Qu))] (.DX [st (Lib.decDigits (EL ⟨o,p,LC y⟩ (A8 p).length).length),.p (.int .i64 0)]):=hC1;have hC2:Ic env 12 [.agg (Enc.enc (⟨o,p,z⟩:Qu))] (.DX [st (Lib.decDigits (EL ⟨o,p,z⟩ (A8 p).length).length),.p (.int .i64 0)]):=hC2;rcases Y2 ⟨o,p,LC y⟩ with ⟨_,e1⟩|⟨a,e1,hA⟩
  all_goals rcases Y2 ⟨o,p,z⟩ with ⟨hE,e2⟩|⟨b,e2,hBb⟩
  all_goals unfold gU at hB1 hB2
  all_goals rw [e1] at hB1
  all_goals rw [e2] at hB2
  ·skip
   generalize Lib.decDigits (EL ⟨o,p,LC y⟩ (A8 p).length).length=d1 at *;generalize Lib.decDigits (EL ⟨o,p,z⟩ (A8 p).length).length=d2 at *;refine Ic.enter Tryz.func5 rfl (by kernel_rfl) (by kernel_rfl) (by simp [Tryz.ntmps5]) ?_;subst hzd;have yb2:0≤(⟨o,p,LC y⟩:Qu).y.hn∧(⟨o,p,LC y⟩:Qu).y.hn≤4∧0≤(⟨o,p,LC y⟩:Qu).y.hs∧(⟨o,p,LC y⟩:Qu).y.hs≤15:=yb
   repeat' (first|(refine AV.at 1 ?_;apply AV.Gm)|(refine AV.at 6 ?_;apply AV.Gm)|(refine AV.at 7 ?_;apply AV.Gm)|(refine AV.at 8 ?_;apply AV.Gm)|(refine AV.at 9 ?_;apply AV.Gm)|(apply Bz.fn;rfl;rfl;exact hkn;exact Kw;intro _;rfl)|(apply Bz.fn;rfl;rfl;exact hB1;exact Gy;intro _;rfl)|(apply Bz.fn;rfl;rfl;exact hB2;exact Gy;intro _;rfl)|(apply Bz.fn;rfl;rfl;exact hC1;exact FC;intro _;rfl)|(apply Bz.fn;rfl;rfl;exact hC2;exact FC;intro _;rfl)|(refine Ag.atIdx 18 ?_;apply Ag.weak [.tmp 38,.tmp 40];decide +kernel;rfl;rfl;(first|exact Ll.ref rfl|exact Ll.vec rfl|exact Ll.EZ rfl);decide +kernel;rfl)|apply AV.BL|apply AV.CO|apply Ee.normal|apply Ee.ret|apply AV.to|apply AV.ret|apply AV.skip|(apply AV.cond_true;rfl)|(apply AV.cond_false;rfl)|(apply AV.Au;rfl)|apply Bz.nil|apply Bz.one|apply Ai.nil|apply Ag.nil|apply Ai.one|(apply Ag.bar;decide +kernel)|apply Ag.quiet|(apply Ai.take;rfl;rfl)|(apply Aa.fn;rfl;rfl;exact hf;intro _;rfl)|(apply Aa.fn;rfl;rfl;exact hm;intro _;rfl)|(apply Aa.fn;rfl;rfl;exact hcmp;intro _;rfl)|(apply Aa.LZ;rfl;rfl;rfl;rfl;rfl;decide)|(apply Aa.assign;rfl)|(apply Aa.move;rfl)|(apply Aa.LV;rfl;rfl;omega)|(apply Aa.bJ;rfl;rfl;omega;omega)|(apply Aa.int;rfl;rfl;rfl)|(apply Aa.load;rfl;rfl)|(apply Aa.IC;rfl;rfl)|(apply Aa.JD;rfl;rfl)|(apply Aa.Ii;rfl;rfl;rfl)|(apply Aa.box;rfl;trivial)|(apply Aa.alloc;rfl)|(apply Aa.FD;rfl;rfl;rfl;trivial;rfl;rfl;exact Bh rfl;exact le_dec rfl)|(apply Aa.not;rfl)|(apply Aa.extract;rfl;rfl)|(apply Aa.Gh;rfl;rfl;rfl;rfl;omega)|(intro _;try (exfalso;omega))|(apply Bz.yR))
   all_goals first|(exfalso;omega)|contradiction|(refine Done.rt rfl rfl ⟨?_,rfl,rfl⟩;try rfl)
   all_goals first|exact PV.FB (decide_eq_true (by omega))|exact PV.FB (by simp;omega)
  ·skip
   generalize Lib.decDigits (EL ⟨o,p,LC y⟩ (A8 p).length).length=d1 at *;generalize Lib.decDigits (EL ⟨o,p,z⟩ (A8 p).length).length=d2 at *;refine Ic.enter Tryz.func5 rfl (by kernel_rfl) (by kernel_rfl) (by simp [Tryz.ntmps5]) ?_;subst hzd;have yb2:0≤(⟨o,p,LC y⟩:Qu).y.hn∧(⟨o,p,LC y⟩:Qu).y.hn≤4∧0≤(⟨o,p,LC y⟩:Qu).y.hs∧(⟨o,p,LC y⟩:Qu).y.hs≤15:=yb
   repeat' (first|(refine AV.at 1 ?_;apply AV.Gm)|(refine AV.at 6 ?_;apply AV.Gm)|(refine AV.at 7 ?_;apply AV.Gm)|(refine AV.at 8 ?_;apply AV.Gm)|(refine AV.at 9 ?_;apply AV.Gm)|(apply Bz.fn;rfl;rfl;exact hkn;exact Kw;intro _;rfl)|(apply Bz.fn;rfl;rfl;exact hB1;exact Gy;intro _;rfl)|(apply Bz.fn;rfl;rfl;exact hB2;exact Gy;intro _;rfl)|(apply Bz.fn;rfl;rfl;exact hC1;exact FC;intro _;rfl)|(apply Bz.fn;rfl;rfl;exact hC2;exact FC;intro _;rfl)|(refine Ag.atIdx 18 ?_;apply Ag.weak [.tmp 38,.tmp 40];decide +kernel;rfl;rfl;(first|exact Ll.ref rfl|exact Ll.vec rfl|exact Ll.EZ rfl);decide +kernel;rfl)|apply AV.BL|apply AV.CO|apply Ee.normal|apply Ee.ret|apply AV.to|apply AV.ret|apply AV.skip|(apply AV.cond_true;rfl)|(apply AV.cond_false;rfl)|(apply AV.Au;rfl)|apply Bz.nil|apply Bz.one|apply Ai.nil|apply Ag.nil|apply Ai.one|(apply Ag.bar;decide +kernel)|apply Ag.quiet|(apply Ai.take;rfl;rfl)|(apply Ai.drop;rfl;rfl;rfl)|(apply Aa.fn;rfl;rfl;exact hf;intro _;rfl)|(apply Aa.fn;rfl;rfl;exact hm;intro _;rfl)|(apply Aa.fn;rfl;rfl;exact hcmp;intro _;rfl)|(apply Aa.LZ;rfl;rfl;rfl;rfl;rfl;decide)|(apply Aa.assign;rfl)|(apply Aa.move;rfl)|(apply Aa.LV;rfl;rfl;omega)|(apply Aa.bJ;rfl;rfl;omega;omega)|(apply Aa.int;rfl;rfl;rfl)|(apply Aa.load;rfl;rfl)|(apply Aa.IC;rfl;rfl)|(apply Aa.JD;rfl;rfl)|(apply Aa.Ii;rfl;rfl;rfl)|(apply Aa.box;rfl;trivial)|(apply Aa.alloc;rfl)|(apply Aa.FD;rfl;rfl;rfl;trivial;rfl;rfl;exact Bh rfl;exact le_dec rfl)|(apply Aa.not;rfl)|(apply Aa.extract;rfl;rfl)|(apply Aa.Gh;rfl;rfl;rfl;rfl;omega)|(intro _;try (exfalso;omega))|(apply Bz.yR))
   all_goals first|(exfalso;omega)|contradiction|(refine Done.rt rfl rfl ⟨?_,rfl,rfl⟩;try rfl)
   all_goals first|exact PV.FB (decide_eq_true (by omega))|exact PV.FB (by simp;omega)
  ·have:=hmon a hA.1
   have hE:EL ⟨o,p,z⟩ (A8 p).length=[]:=hE;rw [hE] at this;cases this
  ·have haz:=hmon a hA.1
   have hL:=uN ⟨o,p,z⟩ hz a (by
    have h1:a.length=p.notes.length:=((Nl _ hk a).1 hA.1).1;have h2:p.notes.length≤8:=hn;omega)
   rw [(a9k _ hz a).2 haz] at hL;have c5y:GV ⟨o,p,z⟩ b≤GV ⟨o,p,LC y⟩ a:=by
    have h1:bV (b,GV ⟨o,p,z⟩ b) (a,GV ⟨o,p,z⟩ a):=hBb.2 a haz;rw [b0k o p z (LC y) a] at h1;rcases h1 with h1|⟨h1,_⟩
    ·exact Int.le_of_lt h1
    ·exact Int.le_of_eq h1
   have hB1:Ic env 11 [.agg (Enc.enc (⟨o,p,LC y⟩:Qu))] (.DX [.p (.agg [.lst 3 (cells a) a.length,.int .i64 (GV ⟨o,p,LC y⟩ a)]),.p (.int .i64 0)]):=hB1;have hB2:Ic env 11 [.agg (Enc.enc (⟨o,p,z⟩:Qu))] (.DX [.p (.agg [.lst 3 (cells b) b.length,.int .i64 (GV ⟨o,p,z⟩ b)]),.p (.int .i64 0)]):=hB2;generalize GV ⟨o,p,z⟩ b=cb at *;generalize GV ⟨o,p,LC y⟩ a=ca at *;generalize Lib.decDigits (EL ⟨o,p,LC y⟩ (A8 p).length).length=d1 at *;generalize Lib.decDigits (EL ⟨o,p,z⟩ (A8 p).length).length=d2 at *;refine Ic.enter Tryz.func5 rfl (by kernel_rfl) (by kernel_rfl) (by simp [Tryz.ntmps5]) ?_;subst hzd;have yb2:0≤(⟨o,p,LC y⟩:Qu).y.hn∧(⟨o,p,LC y⟩:Qu).y.hn≤4∧0≤(⟨o,p,LC y⟩:Qu).y.hs∧(⟨o,p,LC y⟩:Qu).y.hs≤15:=yb
   repeat' (first|(refine AV.at 1 ?_;apply AV.Gm)|(refine AV.at 6 ?_;apply AV.Gm)|(refine AV.at 7 ?_;apply AV.Gm)|(refine AV.at 8 ?_;apply AV.Gm)|(refine AV.at 9 ?_;apply AV.Gm)|(apply Bz.fn;rfl;rfl;exact hkn;exact Kw;intro _;rfl)|(apply Bz.fn;rfl;rfl;exact hB1;exact Gy;intro _;rfl)|(apply Bz.fn;rfl;rfl;exact hB2;exact Gy;intro _;rfl)|(apply Bz.fn;rfl;rfl;exact hC1;exact FC;intro _;rfl)|(apply Bz.fn;rfl;rfl;exact hC2;exact FC;intro _;rfl)|(refine Ag.atIdx 18 ?_;apply Ag.weak [.tmp 38,.tmp 40];decide +kernel;rfl;rfl;(first|exact Ll.ref rfl|exact Ll.vec rfl|exact Ll.EZ rfl);decide +kernel;rfl)|apply AV.BL|apply AV.CO|apply Ee.normal|apply AV.to|apply AV.ret|apply AV.skip|(apply AV.cond_false;rfl)|(apply AV.Au;rfl)|apply Bz.nil|apply Bz.one|apply Ai.nil|apply Ag.nil|apply Ai.one|(apply Ag.bar;decide +kernel)|apply Ag.quiet|(apply Ai.take;rfl;rfl)|(apply Ai.guard;rfl;rfl)|(apply Aa.fn;rfl;rfl;exact hf;intro _;rfl)|(apply Aa.fn;rfl;rfl;exact hm;intro _;rfl)|(apply Aa.fn;rfl;rfl;exact hcmp;intro _;rfl)|(apply Aa.fn;rfl;rfl;exact hL;intro _;rfl)|(apply Aa.LZ;rfl;rfl;rfl;rfl;rfl;decide)|(apply Aa.assign;rfl)|(apply Aa.move;rfl)|(apply Aa.LV;rfl;rfl;omega)|(apply Aa.bJ;rfl;rfl;omega;omega)|(apply Aa.int;rfl;rfl;rfl)|(apply Aa.load;rfl;rfl)|(apply Aa.IC;rfl;rfl)|(apply Aa.JD;rfl;rfl)|(apply Aa.Ii;rfl;rfl;rfl)|(apply Aa.box;rfl;trivial)|(apply Aa.alloc;rfl)|(apply Aa.FD;rfl;rfl;rfl;trivial;rfl;rfl;exact Bh rfl;exact le_dec rfl)|(apply Aa.not;rfl)|(apply Aa.extract;rfl;rfl)|(apply Aa.Gh;rfl;rfl;rfl;rfl;omega)|(intro _;try (exfalso;omega))|(apply Bz.yR))
   all_goals first|(exfalso;omega)|contradiction|(refine Done.rt rfl rfl ⟨?_,rfl,rfl⟩;try rfl)
   all_goals first|exact PV.FB (decide_eq_true (by omega))|exact PV.FB (by simp;omega)
 ·rw [decide_eq_false hfit] at hf
  refine Ic.enter Tryz.func5 rfl (by kernel_rfl) (by kernel_rfl) (by simp [Tryz.ntmps5]) ?_
  repeat' (first|(refine AV.at 1 ?_;apply AV.Gm)|(refine AV.at 2 ?_;apply AV.Gm)|(apply Bz.fn;rfl;rfl;exact hkn;exact Kw;intro _;rfl)|apply AV.BL|apply Ee.ret|apply AV.to|apply AV.ret|(apply AV.cond_true;rfl)|apply Bz.nil|apply Bz.one|(apply Aa.fn;rfl;rfl;exact hf;intro _;rfl)|refine Zm ?_|(apply Bz.yR))
  all_goals first|(exfalso;omega)|contradiction|(refine Done.rt rfl rfl ⟨?_,rfl,rfl⟩;try rfl)
end Go.Proofs.YtnjkoebfgcbbdaaGreatDoor
