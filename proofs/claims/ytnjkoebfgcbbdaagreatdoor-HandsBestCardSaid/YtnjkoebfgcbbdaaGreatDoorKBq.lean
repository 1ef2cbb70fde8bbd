/-
  Texts of a proof, merged (HanV, PieX, HanW, HanX, Wm6, HanZ, HanKd, HanBp, HanBe). Conditions: in each statement.
-/
import Derived.Test.YtnjkoebfgcbbdaaGreatDoorKBp
set_option linter.unusedSimpArgs false
set_option linter.unusedVariables false
set_option linter.unusedSectionVars false
set_option maxRecDepth 100000
set_option maxHeartbeats 8000000
namespace Go.Proofs.YtnjkoebfgcbbdaaGreatDoor
open Go Go.Am Go.Vm Go.Pie Go.Sch
attribute [local irreducible] Aa Ai Ag Ad AO Ap Bc BK Bh Ah Vm.Done Bv AB Pv A8 BM Et IG FX Hold
attribute [local irreducible] Ce Ba DX DJ En AZ CB
theorem qV:∀ (n:Nat) (a b:List Int),a.length=n→b.length=n→(∀ x∈a,0≤x∧x≤2)→(∀ x∈b,0≤x∧x≤2)→a.foldr (fun x s=>x.toNat+3*s) 0=b.foldr (fun x s=>x.toNat+3*s) 0→a=b
 |0,a,b,ha,hb,_,_,_=>by rw [av.1 ha,av.1 hb]
 |n+1,[],_,ha,_,_,_,_=>by cases ha
 |n+1,_::_,[],_,hb,_,_,_=>by cases hb
 |n+1,x::a,y::b,ha,hb,h1,h2,he=>by
  simp only [List.foldr_cons] at he;have hx:=h1 x (by simp);have hy:=h2 y (by simp);have e1:x=y:=by omega
  rw [e1,qV n a b (by simpa using ha) (by simpa using hb) (fun z hz=>h1 z (aq _ hz)) (fun z hz=>h2 z (aq _ hz)) (by omega)]
theorem zO:∀ (a:List Int),(∀ x∈a,0≤x∧x≤2)→a.foldr (fun x s=>x.toNat+3*s) 0<3 ^ a.length
 |[],_=>by decide
 |x::a,h=>by
  have ih:=zO a fun z hz=>h z (aq _ hz)
  have hx:=h x (by simp);grind
theorem iC (q:Qu) (hq:IK q) (hn:q.p.notes.length≤12) {t:Nat} (ht:t≤(AY q.p).length):(Ho q t).length≤1000000:=by
 have hr:∀ l∈Ho q t,l.length=q.p.notes.length∧∀ x∈l,0≤x∧x≤2:=fun l hl=>by
  have hi:=(P7 q hq ht l).1 hl;have hlen:l.length=q.p.notes.length:=jQ.len hi;refine ⟨hlen,fun x hx=>?_⟩;obtain ⟨i,h1,rfl⟩:=Ky hx;exact YJ (UG q) hi (by omega)
 have h1:((Ho q t).map fun a=>a.foldr (fun (x:Int) s=>x.toNat+3*s) 0).Nodup:=by
  refine eV _ (R:=fun a b=>a∈Ho q t∧b∈Ho q t∧a≠b) (fun a b ⟨ha,hb,hne⟩ e=>hne ?_) ?_
  ·exact qV _ a b (hr a ha).1 (hr b hb).1 (hr a ha).2 (hr b hb).2 e
  ·exact gm (R:=(·≠·)) (fun {a b} ha hb h=>⟨ha,hb,h⟩) (TB q hq ht)
 have h2:=Ip (3 ^ q.p.notes.length) _ h1 fun i hi=>by
  obtain ⟨a,ha,rfl⟩:=ba.1 hi;have:=zO a (hr a ha).2;grind
 rw [bk] at h2;have h3:3 ^ q.p.notes.length≤3 ^ 12:=aw (by decide) hn;omega
theorem tJ (q:Qu) (hn:q.p.notes.length≤12):∀ t,t<(AY q.p).length→kQ q t≤12:=fun t ht=>by
 refine am (dr _ _) ?_;rw [V8 q ht];exact am (UM q.p _ _) hn
theorem bF (q:Qu) (hq:IK q) (hn:q.p.notes.length≤12):IG env 11 [.agg (Enc.enc q)] (ZM q):=a2f q hq (tJ q hn)
theorem Xv (q:Qu) (hq:IK q) (hn:q.p.notes.length≤12):IG env 12 [.agg (Enc.enc q)] (.Eb [st (Lib.decDigits (Ho q (AY q.p).length).length),.p (.int .i64 0)]) :=
 nT q hq (tJ q hn) fun t ht=>iC q hq hn ht
theorem a2a (x y:Way):iY x y∨iY y x:=by
 cases h:ltB x y with
 |true=>exact .inl (xI h)
 |false=>exact .inr (lK h)
theorem a7q (f:List Int→Int):∀ L:List (List Int),L≠[]→∃ l∈L,∀ h∈L,iY (l,f l) (h,f h)
 |[],h=>absurd rfl h
 |a::L,_=>by
  by_cases hL:L=[]
  ·subst hL
   exact ⟨a,by simp,fun h hh=>by rw [aL] at hh;subst hh;exact Jg _⟩
  ·obtain ⟨l,h1,h2⟩:=a7q f L hL
   rcases a2a (a,f a) (l,f l) with h3|h3
   ·refine ⟨a,by simp,fun h hh=>?_⟩
    rcases bl.1 hh with rfl|hh
    ·exact Jg _
    ·exact KI h3 (h2 h hh)
   grind
theorem wB (q:Qu):(Ho q (AY q.p).length=[]∧Yo q=none)∨∃ l,Yo q=some l∧IsB q l:=by
 by_cases h:Ho q (AY q.p).length=[]
 ·exact .inl ⟨h,jc h⟩
 ·obtain ⟨l,h1,h2⟩:=a7q (Dz q) _ h
  exact .inr ⟨l,Wj ⟨h1,h2⟩,h1,h2⟩
end Go.Proofs.YtnjkoebfgcbbdaaGreatDoor
namespace Go.Proofs.YtnjkoebfgcbbdaaGreatDoor
open Go Go.Am Go.Vm Go.Pie
attribute [local irreducible] Aa Ai Ag Ad AO Ap Bc BK Bh Ah Vm.Done Bv AB
attribute [local irreducible] Ce Ba DX DJ En AZ CB
open Go.Sch
attribute [local irreducible] Pv A8 BM Et IG FX Hold
def thR:Hu:=⟨[79,112,101,110],[79,112,101,110],⟨8,1⟩,36,[1]⟩
def thD:oh:=⟨[71,114,101,97,116],false,36,72,[]⟩
def thO:Ic:=⟨[84,104,114,101,101],[thR],[thD],[]⟩
def thP:Fv:=⟨[0,8],[⟨0,4,0,40⟩,⟨0,4,0,52⟩,⟨4,8,0,60⟩],[]⟩
def thY:Zj:=⟨1,12,0,0⟩
def WH:Qu:=⟨thO,thP,thY⟩
theorem vK:Ap env 10 [] (.p (.agg (Enc.enc WH))):=by
 refine Ap.enter (Af (by decide)) Tryz.func10 rfl (by kernel_rfl) (by simp [Tryz.ntmps10]) ?_
 repeat' (first|(refine Ai.IL 6 ?_;refine Ai.ghost (Aw.freeze 5 rfl rfl) ?_)|(refine Ai.IL 12 ?_;refine Ai.ghost (Aw.trans (Aw.freeze 8 rfl rfl) (Aw.freeze 11 rfl rfl)) ?_)|(refine Ai.IL 18 ?_;refine Ai.ghost (Aw.trans (Aw.freeze 13 rfl rfl) (Aw.freeze 17 rfl rfl)) ?_)|apply Ad.BD|apply Ad.ret|apply Ai.nil|apply Ai.one|(apply Aa.load;rfl;rfl)|(apply Aa.alloc;rfl)|(apply Aa.FT;rfl;rfl;rfl;trivial;rfl;rfl;exact Bj rfl;exact le_dec rfl)|(apply Aa.build;rfl;rfl;rfl;rfl;rfl)|(apply Aa.buildSlice;rfl;rfl;rfl;decide;rfl;rfl;rfl))
 all_goals try (exfalso;omega)
 refine Done.ret rfl (.p (.agg ?_)) trivial BI.nil (ao _) (ab _) ⟨rfl,rfl,rfl⟩;exact .cons (.refl _) (.cons (.refl _) (.cons (.lst (.cons (.refl _) (.cons (.refl _) (.cons (.refl _) (.cons (.refl _) (.cons (.nil _) (.refl _))))))) (.cons (.nil _) (.cons (.refl _) (.cons (.refl _) (.cons (.nil _) (.refl _)))))))
theorem lt1 {i:Nat} (h:i<1):i=0 :=by omega
theorem b6z:Ce thR=0:=by
 unfold Ce;have h1:DF thR.name:=a9r [79,112,101,110] (by decide) (by decide) (by decide);have h3:RN thR.Ec=0:=pk1 8 (.inl rfl);have hw:thR.E5=[1]:=rfl;rw [if_neg (by rintro (h|h);exact h h1;exact h h1),if_neg (fun h=>h h3),if_neg (by show ¬ ((36:Int)< -256∨(36:Int)>256);omega),hw,if_neg (by simp),if_neg (by simp)];unfold Ba;rw [if_pos];intro j hj;obtain rfl:=lt1 hj;decide
theorem zY:WU thO=0:=by
 have eR:thO.ranks=[thR]:=rfl;have eD:thO.Ae=[thD]:=rfl;have eC:thO.I8=[]:=rfl;have eN:thO.name=[84,104,114,101,101]:=rfl;unfold WU;rw [eR,eD,eC,eN];have hr:Qd [thR] 0=0:=WM (fun i hi=>by
  obtain rfl:=lt1 hi;exact ⟨b6z,by simp⟩) _ 0 rfl
 have hv:DJ [thR] thD=0:=by
  unfold DJ;exact TU (fun i hi=>absurd hi (aM _)) _ 0 rfl
 have hd:Gt [thR] [thD] 0=0:=TV (fun i hi=>by
  obtain rfl:=lt1 hi;exact ⟨a9r [71,114,101,97,116] (by decide) (by decide) (by decide),by simp,hv⟩) _ 0 rfl
 rw [if_neg (fun h=>h (a9r [84,104,114,101,101] (by decide) (by decide) (by decide))),if_neg (by simp),if_neg (fun h=>h hr),if_neg (by simp),if_neg (by simp),if_neg (fun h=>h hd)];unfold En;rw [if_neg (by simp)];have hc:TN ([thD].map fun d=>(⟨d.lo,d.hi⟩:oq)) 0=0:=VI (fun i hi=>by
  obtain rfl:=lt1 hi;rfl) _ 0 rfl
 rw [if_neg (fun h=>h hc)];exact Ti (fun i hi=>absurd hi (aM _)) _ 0 rfl
theorem b9f:Vh thO:=by
 refine ⟨by decide,by decide,by decide,by decide,fun i hi=>?_,fun i hi=>?_,fun i hi=>absurd hi (aM _)⟩
 ·obtain rfl:=lt1 hi
  exact ⟨by decide,by decide,by decide⟩
 ·obtain rfl:=lt1 hi
  exact ⟨by decide,by decide,fun j hj=>absurd hj (aM _)⟩
theorem c0r:a4q thO:=b8z b9f zY
theorem c0t (N:List LH) (h1:N.length≤1000) (h2:∀ i,i<N.length→(gi N i).d=0∧(36≤(gi N i).k∧(gi N i).k≤72)∧0≤(gi N i).s∧(gi N i).s<(gi N i).e∧(gi N i).e≤8) (h3:∀ i,i<N.length→∀ j,j<i→jo (gi N j) (gi N i)=false):xk thO ⟨[0,8],N,[]⟩:=by
 refine zJ ⟨by simp,by grind,by simp,fun i hi=>absurd hi (aM _)⟩ ⟨by simp,by simp⟩ (fun i hi=>?_) h1 (fun i hi=>?_) (by simp) fun i hi=>absurd hi (aM _)
 ·rcases lt2 hi with rfl|rfl
  ·exact ⟨by show (0:Int)≤0∧(0:Int)≤100000;decide,fun h=>by omega⟩
  ·exact ⟨by show (0:Int)≤8∧(8:Int)≤100000;decide,fun _=>by show (0:Int)<8;decide⟩
 ·obtain ⟨g1,g2,g3,g4,g5⟩:=h2 i hi
  refine ⟨by show 0≤(gi N i).d∧(gi N i).d<((1:Nat):Int);omega,?_,by show (0:Int)≤(gi N i).s∧(gi N i).s<(gi N i).e∧(gi N i).e≤8;omega,h3 i hi⟩;rw [g1];exact g2
theorem c0q (N:List LH) (y:Zj) (hy:y.Ok) (h:xk thO ⟨[0,8],N,[]⟩):IK ⟨thO,⟨[0,8],N,[]⟩,y⟩ :=
 ⟨c0r,by unfold Yi;rw [if_neg (fun h=>h zY)];exact h.err,h,hy⟩
theorem Y1:IK WH:=c0q _ thY ⟨by decide,by decide,by decide,by decide⟩ (c0t _ (by simp) (fun i hi=>by
 have:i=0∨i=1∨i=2:=by
  grind
 rcases this with rfl|rfl|rfl<;>decide) fun i hi j hj=>by
 have hi3:i=0∨i=1∨i=2:=by
  grind
 rcases hi3 with rfl|rfl|rfl
 ·omega
 ·obtain rfl:j=0:=by omega
  decide
 ·have hj2:j=0∨j=1:=by omega
  rcases hj2 with rfl|rfl<;>decide)
theorem b8w:Dx thP=[0,4,8]:=by
 refine a0d (Xk (fZ _)) (by unfold Inc;simp) fun x=>?_
 unfold Dx;rw [QI,fL];have:Ud thP thP.notes.length=[0,8,0,4,0,4,4,8]:=rfl;grind
theorem nS:AY WH.p=[⟨0,4,[0,1]⟩,⟨4,8,[2]⟩]:=by
 show AY thP=_;unfold AY;rw [b8w];rfl
theorem a8p:Fp WH 0=[0,1]:=by unfold Fp;rw [nS];rfl
theorem a8s:Fp WH 1=[2]:=by unfold Fp;rw [nS];rfl
def thL:List (List Int):=[[0,1,0],[0,1,1],[1,0,0],[1,0,1]]
theorem a1a:∀ l∈([[0,0,0],[0,0,1],[0,1,0],[0,1,1],[1,0,0],[1,0,1],[1,1,0],[1,1,1]]:List (List Int)),(Lr WH [0,1] l&&Lr WH [2] l)=decide (l∈thL) :=by decide
theorem wK (l:List Int):l∈Ho WH (AY WH.p).length↔l∈thL:=by
 rw [MW WH Y1,nS];have h8:∀ l:List Int,(l.length=3∧∀ i,i<3→gi l i=0∨gi l i=1)→l∈([[0,0,0],[0,0,1],[0,1,0],[0,1,1],[1,0,0],[1,0,1],[1,1,0],[1,1,1]]:List (List Int)):=by
  rintro l ⟨h1,h2⟩;obtain ⟨a,b,c,rfl⟩:∃ a b c,l=[a,b,c]:=by
   match l,h1 with
   |[a,b,c],_=>simp
  have ha:a=0∨a=1:=h2 0 (by decide);have hb:b=0∨b=1:=h2 1 (by decide);have hc:c=0∨c=1:=h2 2 (by decide);rcases ha with rfl|rfl<;>rcases hb with rfl|rfl<;>rcases hc with rfl|rfl<;>simp
 have hpd:∀ i,i<3→Ed WH i=false:=fun i hi=>by
  have:i=0∨i=1∨i=2:=by omega
  rcases this with rfl|rfl|rfl<;>rfl
 constructor
 ·rintro ⟨h1,h2,h3⟩
  have hl:=h8 l ⟨h1,fun i hi=>by
   have:=h2 i hi;grind⟩
  have hp:=a1a l hl;have p0:=h3 0 (by decide);have p1:=h3 1 (by decide);rw [a8p] at p0;rw [a8s] at p1;grind
 ·intro h
  have hl:l∈([[0,0,0],[0,0,1],[0,1,0],[0,1,1],[1,0,0],[1,0,1],[1,1,0],[1,1,1]]:List (List Int)):=by
   simp only [thL,List.mem_cons,List.not_mem_nil,or_false] at h;rcases h with rfl|rfl|rfl|rfl<;>simp
  have hp:=a1a l hl;rw [decide_eq_true h,cX] at hp;refine ⟨?_,fun i hi=>?_,fun t ht=>?_⟩
  ·simp only [thL,List.mem_cons,List.not_mem_nil,or_false] at h
   rcases h with rfl|rfl|rfl|rfl<;>rfl
  ·have hi:i<3:=hi
   rw [hpd i hi];have:i=0∨i=1∨i=2:=by omega
   simp only [thL,List.mem_cons,List.not_mem_nil,or_false] at h;rcases h with rfl|rfl|rfl|rfl<;>rcases this with rfl|rfl|rfl<;>decide
  ·rcases lt2 ht with rfl|rfl
   ·rw [a8p];exact hp.1
   ·rw [a8s];exact hp.2
theorem a7g:(Ho WH (AY WH.p).length).length=4:=by
 have h:(Ho WH (AY WH.p).length).Perm thL:=(fR (TB WH Y1 (ab _)) (by decide)).2 wK;exact h.length_eq
theorem b6b (l:List Int) (h:Int):Eo WH l h 2=(let r0:=Ru thP [0,1] l h 2;let r1:=Ru thP [2] l h 1;let A:=if r0.1=true then [(⟨h,0,r0.2⟩:Pos)] else [];if r1.1=true then A++[⟨h,1,r1.2⟩] else A):=by
 have e0:FY WH l h 0=Ru thP [0,1] l h 2:=by unfold FY;rw [a8p];rfl
 have e1:FY WH l h 1=Ru thP [2] l h 1:=by unfold FY;rw [a8s];rfl
 unfold Eo Eo Eo;grind
def thC (l:List Int):Int :=
 let P:=fun h:Int=>(let r0:=Ru thP [0,1] l h 2;let r1:=Ru thP [2] l h 1;let A:=if r0.1=true then [(⟨h,0,r0.2⟩:Pos)] else [];if r1.1=true then A++[⟨h,1,r1.2⟩] else A)
 jC (P 0++P 1) ((P 0++P 1).length-1)
theorem ng (l:List Int):Dz WH l=thC l:=by
 unfold Dz Qq;have:(AY WH.p).length=2:=by rw [nS];rfl
 rw [this,b6b,b6b];rfl
theorem a7e:thL.map thC=[20,8,8,20] :=by decide
theorem zN:Yo WH=some [0,1,1]∧Dz WH [0,1,1]=8:=by
 have c:=a7e;simp only [thL,List.map_cons,List.map_nil,List.cons.injEq,and_true] at c;obtain ⟨c0,c1,c2,c3⟩:=c;refine ⟨Wj ⟨(wK _).2 (by simp [thL]),fun h hh=>?_⟩,by rw [ng,c1]⟩;have:=(wK h).1 hh;rw [ng,ng,c1];simp only [thL,List.mem_cons,List.not_mem_nil,or_false] at this;rcases this with rfl|rfl|rfl|rfl
 ·exact .inl (by decide)
 ·exact Jg _
 ·exact .inr ⟨rfl,by decide⟩
 ·exact .inl (by decide)
theorem Qy:Am.Enters Tryz.prog 11:=⟨_,Tryz.func11,by rfl,by rfl⟩
theorem Oq:Am.Enters Tryz.prog 12:=⟨_,Tryz.func12,by rfl,by rfl⟩
theorem Ob:Am.Enters Tryz.prog 9:=⟨_,Tryz.func9,by rfl,by rfl⟩
theorem Xn (a b:List Int) (ha:a.length<1000000) (hb:b.length<1000000):Ap env 21 [.lst 3 (cells a) a.length,.lst 3 (cells b) b.length] (.p (.bool (decide (a=b)))):=by
 by_cases hl:a.length=b.length
 ·refine Ap.enter (Af (by decide)) Tryz.func21 rfl (by kernel_rfl) (by simp [Tryz.ntmps21]) ?_
  repeat' (first|refine Eu ?_|(apply Ad.Ac;rfl)|(intro _;try (exfalso;omega)))
  all_goals try (exfalso;omega)
  apply Ad.Ht (a.length) (fun k=>∀ i,i<k→gi a i=gi b i) [(0,_),(1,_)] [] (fun k r=>(5,.p (.int .i64 (k:Int)))::r) (fun k r=>r) 0
  ·first|omega|decide
  ·first|omega|decide
  ·exact NI
  ·exact Px
  ·first|(intro _ _;omega)|omega|trivial
  ·intro k hk hi
   by_cases h:gi a k=gi b k
   ·repeat' (first|(apply Aa.Aj;rfl;rfl;rfl;omega;rfl)|refine Eu ?_|(apply Ad.Ac;rfl)|(apply Ad.Aq;rfl)|(intro _;try (exfalso;omega)))
    all_goals try (exfalso;omega)
    all_goals try contradiction
    refine Ah.normal ⟨(fun i hik=>by rcases an i k with h1|h1;exact hi i h1;rw [show i=k by omega];exact h),by first|omega|decide,?_,?_⟩
    ·exact C9
    ·exact DR
   ·rw [decide_eq_false (fun e=>h (by rw [e]))]
    repeat' (first|(apply Aa.Aj;rfl;rfl;rfl;omega;rfl)|refine Eu ?_|(apply Ad.Ac;rfl)|(apply Ad.Aq;rfl)|(intro _;try (exfalso;omega)))
    all_goals first|(exfalso;omega)|contradiction|(refine Done.rt rfl rfl ⟨?_,rfl,rfl⟩;try rfl)
  ·intro hi
   rw [decide_eq_true (JF hl hi)]
   repeat' (first|refine Eu ?_|(apply Ad.Ac;rfl)|(intro _;try (exfalso;omega)))
   all_goals first|(exfalso;omega)|contradiction|(refine Done.rt rfl rfl ⟨?_,rfl,rfl⟩;try rfl)
 ·rw [decide_eq_false (fun e=>hl (by rw [e]))]
  refine Ap.enter (Af (by decide)) Tryz.func21 rfl (by kernel_rfl) (by simp [Tryz.ntmps21]) ?_
  repeat' (first|refine Eu ?_|(apply Ad.Ac;rfl)|(intro _;try (exfalso;omega)))
  all_goals first|(exfalso;omega)|contradiction|(refine Done.rt rfl rfl ⟨?_,rfl,rfl⟩;try rfl)
theorem c6q:Lib.decDigits 4=[52]:=by rw [Lib.decDigits];rfl
theorem lX:IG env 9 [] (.p (.bool true)):=by
 have h3:=vK;have hB:=bF WH Y1 (by show 3≤12;decide);have hC:=Xv WH Y1 (by show 3≤12;decide);rw [a7g,c6q] at hC;have hR:ZM WH=.Eb [.p (.agg [.lst 3 (cells ([0,1,1]:List Int)) 3,.int .i64 8]),.p (.int .i64 0)]:=by
  unfold ZM;rw [zN.1];show PV.Eb [.p (.agg [.lst 3 (cells ([0,1,1]:List Int)) 3,.int .i64 (Dz WH [0,1,1])]),.p (.int .i64 0)]=_;rw [zN.2]
 rw [hR] at hB;have hs:=Xn [0,1,1] [0,1,1] (by show 3<1000000;decide) (by show 3<1000000;decide);rw [decide_eq_true rfl] at hs;refine IG.enter Tryz.func9 rfl (by kernel_rfl) (by kernel_rfl) (by simp [Tryz.ntmps9]) ?_
 repeat' (first|(refine A8.at 1 ?_;apply A8.LZ)|(refine A8.at 2 ?_;apply A8.LZ)|(apply BM.fn;rfl;rfl;exact hB;exact Qy;intro _;rfl)|(apply BM.fn;rfl;rfl;exact hC;exact Oq;intro _;rfl)|(refine Ai.IL 21 ?_;refine Ai.ghost (Aw.freeze 20 rfl rfl) ?_)|apply A8.BD|apply A8.ret|apply BM.nil|apply BM.one|apply Ai.nil|apply Ai.one|(apply Ai.take;rfl;rfl)|(apply Aa.fn;rfl;rfl;exact h3;intro _;rfl)|(apply Aa.fn;rfl;rfl;exact hs;intro _;rfl)|(apply Aa.assign;rfl)|(apply Aa.move;rfl)|(apply Aa.int;rfl;rfl;rfl)|(apply Aa.load;rfl;rfl)|(apply Aa.KG;rfl;rfl)|(apply Aa.Ih;rfl;rfl;rfl)|(apply Aa.alloc;rfl)|(apply Aa.FT;rfl;rfl;rfl;trivial;rfl;rfl;exact Bj rfl;exact le_dec rfl)|(apply Aa.buildSlice;rfl;rfl;rfl;decide;rfl;rfl;rfl)|(apply Aa.eqS;rfl;rfl)|(apply Aa.extract;rfl;rfl))
 all_goals first|(exfalso;omega)|contradiction|(refine Done.rt rfl rfl ⟨?_,rfl,rfl⟩;try rfl)
end Go.Proofs.YtnjkoebfgcbbdaaGreatDoor
namespace Go.Vm
open Go.Am
variable {E:Env} {n bn:Nat} {L:Frame} {H:Heap} {nx:Nat}
theorem BM.ofV {ops:Array Oper} {l:List Oper} {R:Frame→Heap→Nat→Prop} (h:Ai E bn ops l L H nx R):BM E n bn ops l L H nx R:=by
 intro hs hok B hB m F σ t h1 h2 h3 ι ac w hst R' hR;obtain ⟨s',⟨K,hk⟩,L',H',nx',F',σ',q,c1,c2,c3⟩:=h B hB m F σ t h1 h2 h3;have hx:=hk K K (ab _) (ab _);have hcall:=Iu (N:=K) hs.o hs.mix K;have:=Ou (rf:=none) (nn:=0) (Q:=R') hcall l ⟨t,m⟩ s' ι ac w hok hx hst fun a' w' hr=>by
  obtain ⟨ι',he,hst'⟩:=hr;exact hR L' H' nx' a' w' q ⟨s'.m,F',σ',s'.t,ι',c1,c2,c3,he,hst',fun d hd=>QL l _ _ hx hd⟩
 exact this
end Go.Vm
namespace Go.Proofs.YtnjkoebfgcbbdaaGreatDoor
open Go Go.Am Go.Vm Go.Pie Go.Sch
attribute [local irreducible] Aa Ai Ag Ad AO Ap Bc BK Bh Ah Vm.Done Bv AB Pv A8 BM Et IG FX Hold
attribute [local irreducible] Ce Ba DX DJ En AZ CB
structure Rch where
 a:Nat
 b:Nat
 c:Nat
 d:Nat
def Rch.enc (y:Rch):List FV:=[.int .u8 (y.a:Int),.int .u8 (y.b:Int),.int .u8 (y.c:Int),.int .u8 (y.d:Int)]
structure Rch.Ok (y:Rch):Prop where
 a:y.a<256
 b:y.b<256
 c:y.c<256
 d:y.d<256
theorem a3u {j:Nat} {fs:List FV} (h:FD Tryz.prog (j+2) 61 fs):∃ y:Rch,fs=y.enc∧y.Ok:=by
 obtain ⟨parts,rfl,hp⟩:=FK h Tryz.underlying61;obtain ⟨a,b,c,d,rfl,h1,h2,h3,h4⟩:=Jv hp;obtain ⟨m1,rfl,q1⟩:=EM (j:=j) h1;obtain ⟨m2,rfl,q2⟩:=EM (j:=j) h2;obtain ⟨m3,rfl,q3⟩:=EM (j:=j) h3;obtain ⟨m4,rfl,q4⟩:=EM (j:=j) h4;exact ⟨⟨m1,m2,m3,m4⟩,rfl,q1,q2,q3,q4⟩
def mkY (y:Rch):Zj:=⟨(y.a:Int) % 5,(y.b:Int) % 16,(y.c:Int) % 4,(y.d:Int) % 16⟩
noncomputable def mkH (x:dW) (y:Rch):Qu:=⟨Zh x.org,mkP x,mkY y⟩
theorem oH (x:dW) (hx:x.Ok) (hf:OY x) (y:Rch) (hy:y.Ok):Ap env 15 [.agg x.enc,.agg y.enc] (.p (.agg (Enc.enc (mkH x y)))):=by
 have hm:=rG x hx hf;obtain ⟨y1,y2,y3,y4⟩:=hy;unfold mkH mkY;generalize Zh x.org=o at *;generalize mkP x=p at *;refine Ap.enter (Af (by decide)) Tryz.func15 rfl (by kernel_rfl) (by simp [Tryz.ntmps15]) ?_
 repeat' (first|(apply Aa.fn;rfl;rfl;exact hm;intro _;rfl)|refine Ij ?_|(apply Aa.build;rfl;rfl;rfl;rfl;rfl)|(apply Aa.Ia;rfl;rfl;rfl;rfl;omega))
 all_goals first|(exfalso;omega)|(refine Done.rt rfl rfl ⟨?_,rfl,rfl⟩;try rfl)
theorem c2n (x:dW) (hx:x.Ok) (hf:OY x) (y:Rch):IK (mkH x y):=by
 refine ⟨b8z (oz x.org hx.org hf.1).sm (oz x.org hx.org hf.1).ok,b1i x hx hf,b6g x hx hf,?_,?_,?_,?_⟩
 ·show 0≤(y.a:Int) % 5∧(y.a:Int) % 5≤10;omega
 ·show 0≤(y.c:Int) % 4∧(y.c:Int) % 4≤10;omega
 ·show 0≤(y.b:Int) % 16∧(y.b:Int) % 16≤127;omega
 ·show 0≤(y.d:Int) % 16∧(y.d:Int) % 16≤127;omega
theorem c3j (x:dW) (hf:OY x) (y:Rch):(mkH x y).p.notes.length≤8:=by
 have h1:=QJ (Zh x.org) (bM x.bars x.bars.length) x.notes x.notes.length;have h2:=hf.2.2.1;show (Hz (Zh x.org) (bM x.bars x.bars.length) x.notes x.notes.length).length≤8;omega
def QD (p:Fv) (N:List Int) (is:Nat→Bool):Nat→List Int
 |0=>[]
 |k+1=>if is (gi N k).toNat=true then QD p N is k++[(gi p.notes (gi N k).toNat).k] else QD p N is k
theorem Ug {p:Fv} {N:List Int} {is:Nat→Bool} {x:Int}:∀ k,x∈QD p N is k↔∃ i,i<k∧is (gi N i).toNat=true∧(gi p.notes (gi N i).toNat).k=x
 |0=>⟨fun h=>(by cases h),fun ⟨i,hi,_⟩=>absurd hi (aM _)⟩
 |k+1=>by
  have ih:=Ug (p:=p) (N:=N) (is:=is) (x:=x) k;unfold QD;grind
theorem a0j {p:Fv} {N:List Int} {is:Nat→Bool} {d:Nat}:∀ {k i:Nat},i<k→is (gi N i).toNat=true→(gi p.notes (gi N i).toNat).d=(d:Int)→(gi p.notes (gi N i).toNat).k∈Yh p N is d k
 |0,i,hi,_,_=>absurd hi (aM _)
 |k+1,i,hi,h1,h2=>by
  rw [Gu];rcases an i k with h3|h3
  ·have ih:=a0j (p:=p) h3 h1 h2
   grind
  grind
theorem y8 (y:Zj) (K:List Iq):∀ n,(hcK y K n).1=true→((∀ d,d<n→DT (gi K d)=[])∧(hcK y K n).2=0)∨∃ d,d<n∧VJ y (DT (gi K d))∧(∀ e,e<n→e≠d→DT (gi K e)=[])∧(hcK y K n).2≠0
 |0,_=>.inl ⟨fun d hd=>absurd hd (aM _),rfl⟩
 |n+1,h=>by
  unfold hcK at h ⊢;by_cases hm:DT (gi K n)=[]
  ·rw [if_pos hm] at h ⊢
   rcases y8 y K n h with ⟨h1,h2⟩|⟨d,h1,h2,h3,h4⟩
   ·grind
   grind
  ·rw [if_neg hm] at h ⊢
   simp only [Bool.and_eq_true,decide_eq_true_eq] at h;obtain ⟨⟨h1,h2⟩,h3⟩:=h;rcases y8 y K n h1 with ⟨h4,_⟩|⟨d,_,_,_,h5⟩
   ·grind
   omega
end Go.Proofs.YtnjkoebfgcbbdaaGreatDoor
namespace Go.Proofs.YtnjkoebfgcbbdaaGreatDoor
open Go Go.Am Go.Vm Go.Pie Go.Sch
structure Hs where
 c:Int
 lo:Int
 hi:Int
 d:Int
def hsB (r:Hs) (n:LH):Hs:=if r.c=0 then ⟨r.c,n.k,n.k,n.d⟩ else r
def hsS (r:Hs) (n:LH):Hs:=⟨(hsB r n).c+1,min (hsB r n).lo n.k,max (hsB r n).hi n.k,(hsB r n).d⟩
def NJ (p:Fv) (N l:List Int) (h:Int):Nat→Hs
 |0=>⟨0,0,0,-1⟩
 |k+1=>if gi l (gi N k).toNat=h then hsS (NJ p N l h k) (gi p.notes (gi N k).toNat) else NJ p N l h k
def Uu (p:Fv) (N l:List Int) (h:Int) (k:Nat):Bool:=decide (h<2)&&(decide (gi l (gi N k).toNat=h)&&decide ((gi p.notes (gi N k).toNat).d≠(hsB (NJ p N l h k) (gi p.notes (gi N k).toNat)).d))
def kV (q:Qu) (N l:List Int) (h:Int):Bool:=decide (D9 (Uu q.p N l h) N.length=-1)&&(decide ((NJ q.p N l h N.length).c≤if h=2 then q.y.fn else q.y.hn)&&decide ((NJ q.p N l h N.length).hi-(NJ q.p N l h N.length).lo≤if h=2 then q.y.fs else q.y.hs))
def UF (q:Qu) (N l:List Int):Bool:=decide (D9 (fun h=>!kV q N l (h:Int)) 3=-1)
theorem JQ {P:Nat→Bool} {n:Nat}:D9 P n=-1↔∀ i,i<n→P i=false:=by
 constructor
 ·intro h i hi
  cases hp:P i with
  |false=>rfl
  |true =>
   have h1:=ZL (P:=P) hp n (ab _) (by omega) hi;have h2:Vw P n n=-1:=h;omega
 ·exact fun h=>bH h n (ab _)
section
variable {p:Fv} {N l:List Int} {h:Int}
theorem PY (is:Nat→Bool) (k:Nat):QD p N is (k+1)=if is (gi N k).toNat=true then QD p N is k++[(gi p.notes (gi N k).toNat).k] else QD p N is k:=rfl
theorem UR:∀ k,(NJ p N l h k).c=((QD p N (hasB l h) k).length:Int)∧(QD p N (hasB l h) k=[]→(NJ p N l h k).hi-(NJ p N l h k).lo=0)∧(QD p N (hasB l h) k≠[]→(NJ p N l h k).lo∈QD p N (hasB l h) k∧(NJ p N l h k).hi∈QD p N (hasB l h) k∧(∀ x∈QD p N (hasB l h) k,(NJ p N l h k).lo≤x∧x≤(NJ p N l h k).hi)∧∃ i,i<k∧gi l (gi N i).toNat=h∧(gi p.notes (gi N i).toNat).d=(NJ p N l h k).d)
 |0=>⟨rfl,fun _=>rfl,fun h=>absurd rfl h⟩
 |k+1=>by
  obtain ⟨i1,i2,i3⟩:=UR k;rw [PY];unfold NJ hasB;unfold hasB at i1 i2 i3;by_cases hs:gi l (gi N k).toNat=h
  ·rw [if_pos hs,if_pos (decide_eq_true hs)]
   generalize QD p N (fun i=>decide (gi l i=h)) k=A at *;generalize hn:gi p.notes (gi N k).toNat=n at *;generalize NJ p N l h k=r at *;unfold hsS hsB;by_cases h0:r.c=0
   ·grind
   ·have hA:A≠[]:=fun e=>by rw [e] at i1;exact h0 i1
    obtain ⟨j1,j2,j3,i,j4,j5,j6⟩:=i3 hA;rw [if_neg h0];refine ⟨by rw [ar,i1];rfl,fun e=>by simp at e,fun _=>⟨?_,?_,fun x hx=>?_,i,by omega,j5,j6⟩⟩
    ·rcases Int.le_total r.lo n.k with g|g
     ·rw [Int.min_eq_left g];exact bO _ j1
     ·rw [Int.min_eq_right g];simp
    ·show max r.hi n.k∈_
     rcases Int.le_total r.hi n.k with g|g
     ·rw [Int.max_eq_right g];simp
     ·rw [Int.max_eq_left g];exact bO _ j2
    ·show min r.lo n.k≤x∧x≤max r.hi n.k
     rcases bj.1 hx with hx|hx
     ·have:=j3 x hx;omega
     ·rw [aL] at hx;omega
  grind
theorem a0p (hh:h<2):∀ k,(∀ j,j<k→Uu p N l h j=false)↔∀ i j,i<k→j<k→gi l (gi N i).toNat=h→gi l (gi N j).toNat=h→(gi p.notes (gi N i).toNat).d=(gi p.notes (gi N j).toNat).d
 |0=>⟨fun _ i _ hi=>absurd hi (aM _),fun _ j hj=>absurd hj (aM _)⟩
 |k+1=>by
  have ih:=a0p hh k;have hi:=UR (p:=p) (N:=N) (l:=l) (h:=h) k;have hz:(NJ p N l h k).c=0→∀ i,i<k→gi l (gi N i).toNat≠h:=fun h0 i hik e=>by
   have h1:(gi p.notes (gi N i).toNat).k∈QD p N (hasB l h) k:=(Ug k).2 ⟨i,hik,decide_eq_true e,rfl⟩;grind
  have hn:(NJ p N l h k).c≠0→∃ i,i<k∧gi l (gi N i).toNat=h∧(gi p.notes (gi N i).toNat).d=(NJ p N l h k).d:=fun h0=>by
   simp_all
  have hb:Uu p N l h k=false↔(gi l (gi N k).toNat=h→(NJ p N l h k).c≠0→(gi p.notes (gi N k).toNat).d=(NJ p N l h k).d):=by
   unfold Uu hsB;grind
  constructor
  ·grind
  grind
theorem tC {s:Int} (hs:0≤s) (k:Nat):(NJ p N l h k).hi-(NJ p N l h k).lo≤s↔∀ x∈QD p N (hasB l h) k,∀ y∈QD p N (hasB l h) k,x-y≤s:=by
 obtain ⟨_,i2,i3⟩:=UR (p:=p) (N:=N) (l:=l) (h:=h) k;by_cases hA:QD p N (hasB l h) k=[]
 ·grind
 grind
end
def Apart (p:Fv) (N:List Int):Prop:=∀ i j,i<N.length→j<N.length→i≠j→(gi p.notes (gi N i).toNat).d=(gi p.notes (gi N j).toNat).d→(gi p.notes (gi N i).toNat).k≠(gi p.notes (gi N j).toNat).k
theorem RG {p:Fv} {N:List Int} {is:Nat→Bool} {d:Nat} {x:Int}:∀ k,x∈Yh p N is d k↔∃ i,i<k∧is (gi N i).toNat=true∧(gi p.notes (gi N i).toNat).d=(d:Int)∧(gi p.notes (gi N i).toNat).k=x
 |0=>⟨fun h=>(by cases h),fun ⟨i,hi,_⟩=>absurd hi (aM _)⟩
 |k+1=>by
  have ih:=RG (p:=p) (N:=N) (is:=is) (d:=d) (x:=x) k;rw [Gu];grind
theorem gX {p:Fv} {N:List Int} (ha:Apart p N) {is:Nat→Bool} {d:Nat}:∀ k,k≤N.length→(Yh p N is d k).Nodup
 |0,_=>cA
 |k+1,hk=>by
  have ih:=gX ha (is:=is) (d:=d) k (by omega);rw [Gu];split
  ·rename_i c
   refine dp.2 ⟨ih,by simp,fun a h1 b h2 e=>?_⟩;rw [aL] at h2;obtain ⟨i,g1,_,g2,g3⟩:=(RG k).1 h1;exact ha i k (by omega) (by omega) (by omega) (by omega) (by omega)
  omega
theorem a0f {p:Fv} {N:List Int} {is:Nat→Bool} {d:Nat}:∀ k,(∀ i,i<k→is (gi N i).toNat=true→(gi p.notes (gi N i).toNat).d=(d:Int))→Yh p N is d k=QD p N is k
 |0,_=>rfl
 |k+1,h=>by
  rw [Gu,PY,a0f k fun i hi=>h i (by omega)];grind
theorem Kv {q:Qu} (hq:IK q) {N:List Int} (hN:YP q N) {is:Nat→Bool} {d:Nat} (hd:d<q.o.Ae.length) {x:Int}:x∈DT (gi (UQ q N is) d)↔x∈Yh q.p N is d N.length:=by
 unfold UQ;rw [DW _ hd];exact N8 (Ro hq hN _ (ab _))
theorem qN {q:Qu} (hq:IK q) {N:List Int} (hN:YP q N) (ha:Apart q.p N) {is:Nat→Bool} {d:Nat} (hd:d<q.o.Ae.length):(DT (gi (UQ q N is) d)).length=(Yh q.p N is d N.length).length:=by
 unfold UQ;rw [DW _ hd];exact nU (Ro hq hN _ (ab _)) (gX ha _ (ab _))
theorem zq {y:Zj} {K:List Iq} {dv:Nat} (ho:VJ y (DT (gi K dv))):∀ n,(∀ e,e<n→e≠dv→DT (gi K e)=[])→(hcK y K n).1=true∧(n≤dv→(hcK y K n).2=0)
 |0,_=>⟨rfl,fun _=>rfl⟩
 |n+1,h=>by
  obtain ⟨i1,i2⟩:=zq ho n fun e he=>h e (by omega)
  unfold hcK;grind
theorem b4h {q:Qu} (hq:IK q) {N:List Int} (hN:YP q N) (ha:Apart q.p N) {l:List Int} {h:Int}:Yq q N l h=true↔(∀ i j,i<N.length→j<N.length→gi l (gi N i).toNat=h→gi l (gi N j).toNat=h→(gi q.p.notes (gi N i).toNat).d=(gi q.p.notes (gi N j).toNat).d)∧((QD q.p N (hasB l h) N.length).length:Int)≤q.y.hn∧∀ x∈QD q.p N (hasB l h) N.length,∀ y∈QD q.p N (hasB l h) N.length,x-y≤q.y.hs:=by
 have hy:=hq.y;obtain ⟨y1,y2,y3,y4⟩:=hy;have hdv:∀ i,i<N.length→∃ d:Nat,d<q.o.Ae.length∧(gi q.p.notes (gi N i).toNat).d=(d:Int):=fun i hi=>by
  have hn:=hN i hi;have hd:=(hq.p.note (gi N i).toNat (by omega)).d;exact ⟨(gi q.p.notes (gi N i).toNat).d.toNat,by omega,by omega⟩
 have hem:∀ {d:Nat},d<q.o.Ae.length→DT (gi (UQ q N (hasB l h)) d)=[]→∀ i,i<N.length→gi l (gi N i).toNat=h→(gi q.p.notes (gi N i).toNat).d≠(d:Int):=fun hd he i hi s1 e=>by
  have:=(Kv hq hN hd).2 (a0j (is:=hasB l h) hi (decide_eq_true s1) e);grind
 have hone:∀ {d:Nat},d<q.o.Ae.length→(∀ i,i<N.length→gi l (gi N i).toNat=h→(gi q.p.notes (gi N i).toNat).d=(d:Int))→(VJ q.y (DT (gi (UQ q N (hasB l h)) d))↔((QD q.p N (hasB l h) N.length).length:Int)≤q.y.hn∧∀ x∈QD q.p N (hasB l h) N.length,∀ y∈QD q.p N (hasB l h) N.length,x-y≤q.y.hs):=fun hd hall=>by
  have e1:=a0f (is:=hasB l h) N.length fun i hi s1=>hall i hi (of_decide_eq_true s1)
  have e2:=qN hq hN ha (is:=hasB l h) hd;unfold VJ;rw [a9p (dQ _) y3.1,e2,e1];refine and_congr Iff.rfl ⟨fun g x hx y hy=>?_,fun g x hx y hy=>?_⟩
  ·exact g x ((Kv hq hN hd).2 (by rw [e1];exact hx)) y ((Kv hq hN hd).2 (by rw [e1];exact hy))
  ·exact g x (by rw [← e1];exact (Kv hq hN hd).1 hx) y (by rw [← e1];exact (Kv hq hN hd).1 hy)
 unfold Yq;rw [YV];constructor
 ·intro hc
  rcases y8 _ _ _ hc with ⟨h1,_⟩|⟨d,h1,h2,h3,_⟩
  ·have hno:∀ i,i<N.length→gi l (gi N i).toNat≠h:=fun i hi s1=>by
    obtain ⟨d,hd,e⟩:=hdv i hi;exact hem hd (h1 d hd) i hi s1 e
   have hA:QD q.p N (hasB l h) N.length=[]:=by
    refine cE.2 fun x hx=>?_
    obtain ⟨i,hi,g,_⟩:=(Ug _).1 hx;exact hno i hi (of_decide_eq_true g)
   rw [hA];exact ⟨fun i j hi _ s1=>absurd s1 (hno i hi),y1.1,fun x hx=>absurd hx be⟩
  ·have hall:∀ i,i<N.length→gi l (gi N i).toNat=h→(gi q.p.notes (gi N i).toNat).d=(d:Int):=fun i hi s1=>by
    obtain ⟨e,he,g⟩:=hdv i hi;by_cases hed:e=d
    ·rw [← hed];exact g
    ·exact absurd g (hem he (h3 e he hed) i hi s1)
   exact ⟨fun i j hi hj s1 s2=>by rw [hall i hi s1,hall j hj s2],(hone h1 hall).1 h2⟩
 ·rintro ⟨g1,g2⟩
  by_cases hx:∃ i,i<N.length∧gi l (gi N i).toNat=h
  ·obtain ⟨i,hi,s1⟩:=hx
   obtain ⟨d,hd,e⟩:=hdv i hi;have hall:∀ j,j<N.length→gi l (gi N j).toNat=h→(gi q.p.notes (gi N j).toNat).d=(d:Int):=fun j hj s2=>by rw [g1 j i hj hi s2 s1,e]
   refine (zq ((hone hd hall).2 g2) _ fun e' he' hne=>?_).1;refine cE.2 fun x hx=>?_
   obtain ⟨j,hj,b1,b2,_⟩:=(RG _).1 ((Kv hq hN he').1 hx);have:=hall j hj (of_decide_eq_true b1);omega
  ·have hn:∀ e,e<q.o.Ae.length→DT (gi (UQ q N (hasB l h)) e)=[]:=fun e he=>by
    refine cE.2 fun x hx'=>?_
    obtain ⟨j,hj,b1,_⟩:=(RG _).1 ((Kv hq hN he).1 hx');exact hx ⟨j,hj,of_decide_eq_true b1⟩
   have:∀ n,n≤q.o.Ae.length→hcK q.y (UQ q N (hasB l h)) n=(true,0):=fun n=>by
    induction n with
    |zero=>exact fun _=>rfl
    |succ n ih =>
     intro hn';unfold hcK;rw [if_pos (hn n (by omega)),ih (by omega)]
   rw [this _ (ab _)]
def sumF (f:Nat→Nat):Nat→Nat
 |0=>0
 |k+1=>sumF f k+f k
theorem Jr {f:Nat→Nat}:∀ n,(∀ d,d<n→f d=0)→sumF f n=0
 |0,_=>rfl
 |n+1,h=>by
  show sumF f n+f n=0;rw [Jr n fun d hd=>h d (by omega),h n (by omega)]
theorem Qb {f g:Nat→Nat} {d0:Nat} (h0:g d0=f d0+1) (h:∀ d,d≠d0→g d=f d):∀ n,sumF g n=sumF f n+if d0<n then 1 else 0
 |0=>by rfl
 |n+1=>by
  have ih:=Qb h0 h n;show sumF g n+g n=sumF f n+f n+_;grind
theorem zG {p:Fv} {N:List Int} {is:Nat→Bool} {n:Nat}:∀ k,(∀ i,i<k→0≤(gi p.notes (gi N i).toNat).d∧(gi p.notes (gi N i).toNat).d<n)→(QD p N is k).length=sumF (fun d=>(Yh p N is d k).length) n
 |0,_=>(Jr n fun _ _=>rfl).symm
 |k+1,h=>by
  have ih:=zG (is:=is) k fun i hi=>h i (by omega)
  have hk:=h k (by omega);rw [PY];by_cases c:is (gi N k).toNat=true
  ·have:=Qb (f:=fun d=>(Yh p N is d k).length) (g:=fun d=>(Yh p N is d (k+1)).length) (d0:=(gi p.notes (gi N k).toNat).d.toNat) (by
    rw [Gu,if_pos ⟨c,by omega⟩,ar];rfl) (fun d hd=>by
    rw [Gu,if_neg (fun e=>hd (by omega))]) n
   grind
  ·rw [if_neg c,ih]
   congr 1
   funext d
   rw [Gu,if_neg (fun e=>c e.1)]
theorem oJ {K:List Iq} {x:Int}:∀ k,x∈DT (Pj K k)↔∃ d,d<k∧x∈DT (gi K d)
 |0=>by
  constructor
  ·intro h
   obtain ⟨n,_,_,h3⟩:=Gz.1 h;simp [Pj,Iq.has] at h3
  simp
 |k+1=>by
  have ih:=oJ (K:=K) (x:=x) k;constructor
  ·intro h
   obtain ⟨n,h1,h2,h3⟩:=Gz.1 h;rw [show Pj K (k+1)=dS (Pj K k) (gi K k) from rfl,Zc,Bool.or_eq_true] at h3;rcases h3 with h3|h3
   ·obtain ⟨d,hd,g⟩:=ih.1 (Gz.2 ⟨n,h1,h2,h3⟩)
    grind
   ·exact ⟨k,by omega,Gz.2 ⟨n,h1,h2,h3⟩⟩
  ·rintro ⟨d,hd,g⟩
   rw [show Pj K (k+1)=dS (Pj K k) (gi K k) from rfl];rcases an d k with h1|h1
   ·obtain ⟨n,g1,g2,g3⟩:=Gz.1 (ih.2 ⟨d,h1,g⟩)
    exact Gz.2 ⟨n,g1,g2,by rw [Zc,g3];rfl⟩
   ·obtain rfl:d=k:=by omega
    obtain ⟨n,g1,g2,g3⟩:=Gz.1 g;exact Gz.2 ⟨n,g1,g2,by rw [Zc,g3,Bool.or_true]⟩
theorem pz {K:List Iq} {f:Nat→Nat}:∀ n,(∀ d,d<n→(DT (gi K d)).length=f d)→bD K n=(sumF f n:Int)
 |0,_=>rfl
 |n+1,h=>by
  show bD K n+((DT (gi K n)).length:Int)=((sumF f n+f n:Nat):Int)
  rw [pz n fun d hd=>h d (by omega),h n (by omega)];omega
theorem a8u {q:Qu} (hq:IK q) {N:List Int} (hN:YP q N) (ha:Apart q.p N) {is:Nat→Bool}:XB q.y (UQ q N is)↔((QD q.p N is N.length).length:Int)≤q.y.fn∧∀ x∈QD q.p N is N.length,∀ y∈QD q.p N is N.length,x-y≤q.y.fs:=by
 have hy:=hq.y;obtain ⟨y1,y2,y3,y4⟩:=hy;have hd:∀ i,i<N.length→0≤(gi q.p.notes (gi N i).toNat).d∧(gi q.p.notes (gi N i).toNat).d<(q.o.Ae.length:Int):=fun i hi=>by
  have hn:=hN i hi;have hd:=(hq.p.note (gi N i).toNat (by omega)).d;omega
 have hm:∀ x,x∈DT (Pj (UQ q N is) q.o.Ae.length)↔x∈QD q.p N is N.length:=fun x=>by
  rw [oJ];constructor
  ·rintro ⟨d,h1,h2⟩
   obtain ⟨i,g1,g2,_,g4⟩:=(RG _).1 ((Kv hq hN h1).1 h2);exact (Ug _).2 ⟨i,g1,g2,g4⟩
  ·intro h
   obtain ⟨i,g1,g2,g3⟩:=(Ug _).1 h;have:=hd i g1;obtain ⟨d,e⟩:∃ d:Nat,(gi q.p.notes (gi N i).toNat).d=(d:Int):=⟨_,(cx this.1).symm⟩
   exact ⟨d,by omega,(Kv hq hN (by omega)).2 ((RG _).2 ⟨i,g1,g2,e,g3⟩)⟩
 unfold XB;rw [YV,pz (f:=fun d=>(Yh q.p N is d N.length).length) _ fun d hd=>qN hq hN ha hd,← zG (is:=is) N.length hd,a9p (dQ _) y4.1];grind
theorem a1w {q:Qu} (hq:IK q) {t:Nat} (ht:t<(AY q.p).length):Apart q.p (Fp q t):=fun i j hi hj hij hd hk=>by
 have hN:=J5 (q:=q) ht;have e1:=hN i hi;have e2:=hN j hj;have nd:(Fp q t).Nodup:=by rw [V8 q ht];exact Tn _ _ _
 have hne:gi (Fp q t) i≠gi (Fp q t) j:=fun e=>hij (tq nd hi hj e)
 have s1:=(Tq q ht (gi (Fp q t) i).toNat).1 (by show ((gi (Fp q t) i).toNat:Int)∈_;rw [cx e1.1];exact DV hi);have s2:=(Tq q ht (gi (Fp q t) j).toNat).1 (by show ((gi (Fp q t) j).toNat:Int)∈_;rw [cx e2.1];exact DV hj);have key:∀ a b:Nat,a<b→b<q.p.notes.length→(gi q.p.notes a).d=(gi q.p.notes b).d→(gi q.p.notes a).k=(gi q.p.notes b).k→(gi q.p.notes a).s<(gi q.p.notes b).e→(gi q.p.notes b).s<(gi q.p.notes a).e→False:=fun a b h1 h2 g1 g2 g3 g4=>by
  have:=(hq.p.note b h2).c a h1;unfold jo at this;rw [decide_eq_true g1,decide_eq_true g2,decide_eq_true g3,decide_eq_true g4] at this;cases this
 rcases an (gi (Fp q t) i).toNat (gi (Fp q t) j).toNat with g|g
 ·exact key _ _ g s2.1 hd hk (by omega) (by omega)
 ·exact key _ _ (by omega) s1.1 hd.symm hk.symm (by omega) (by omega)
theorem iH {q:Qu} (hq:IK q) {t:Nat} (ht:t<(AY q.p).length) {l:List Int} (hk:∀ i,i<q.p.notes.length→(Ed q i=true↔gi l i=2)):UF q (Fp q t) l=Lr q (Fp q t) l:=by
 have hN:=J5 (q:=q) ht;have ha:=a1w hq ht;obtain ⟨y1,y2,y3,y4⟩:=hq.y;have e2:QD q.p (Fp q t) (hasB l 2) (Fp q t).length=QD q.p (Fp q t) (Ed q) (Fp q t).length:=by
  have:∀ k,k≤(Fp q t).length→QD q.p (Fp q t) (hasB l 2) k=QD q.p (Fp q t) (Ed q) k:=fun k=>by
   induction k with
   |zero=>exact fun _=>rfl
   |succ k ih =>
    intro hk';have hn:=hN k (by omega);have hh:hasB l 2 (gi (Fp q t) k).toNat=Ed q (gi (Fp q t) k).toNat:=by
     unfold hasB;grind
    rw [PY,PY,hh,ih (by omega)]
  grind
 have hc:∀ h:Int,h<2→(kV q (Fp q t) l h=true↔Yq q (Fp q t) l h=true):=fun h hh=>by
  rw [b4h hq hN ha];unfold kV;rw [if_neg (by omega),if_neg (by omega)];simp only [Bool.and_eq_true,decide_eq_true_eq];rw [JQ,a0p hh,(UR _).1,tC y3.1]
 have hf:kV q (Fp q t) l 2=true↔jJ q (Fp q t)=true:=by
  unfold jJ kV;rw [if_pos rfl,if_pos rfl];simp only [Bool.and_eq_true,decide_eq_true_eq];rw [a8u hq hN ha,JQ,(UR _).1,tC y4.1,e2];exact ⟨fun h=>h.2,fun h=>⟨fun i _=>rfl,h⟩⟩
 rw [eh];unfold UF Lr;rw [decide_eq_true_eq,JQ,cX,cX];grind
def og (n b i:Nat):Nat:=b / 2 ^ (n-1-i) % 2
def Ue (q:Qu) (n b:Nat):Nat→List Int
 |0=>[]
 |k+1=>Ue q n b k++[if Ed q k=true then 2 else (og n b k:Int)]
def uQ (q:Qu) (n b:Nat):Nat→Bool
 |0=>true
 |k+1=>if Ed q k=true then uQ q n b k&&decide ((og n b k:Int)=0) else uQ q n b k
def dI (q:Qu) (l:List Int):Int:=D9 (fun i=>!UF q (Fp q i) l) (AY q.p).length
def GX (q:Qu):Nat→List (List Int)
 |0=>[]
 |b+1=>if uQ q q.p.notes.length b q.p.notes.length=true∧dI q (Ue q q.p.notes.length b q.p.notes.length)<0 then GX q b++[Ue q q.p.notes.length b q.p.notes.length] else GX q b
theorem JG (q:Qu) (n b:Nat):∀ k,(Ue q n b k).length=k
 |0=>rfl
 |k+1=>by
  show (Ue q n b k++[_]).length=_;rw [ar,JG q n b k];rfl
theorem yD (q:Qu) (n b:Nat):∀ k i,i<k→gi (Ue q n b k) i=if Ed q i=true then 2 else (og n b i:Int)
 |0,i,hi=>absurd hi (aM _)
 |k+1,i,hi=>by
  show gi (Ue q n b k++[_]) i=_;rcases an i k with h|h
  ·rw [Q8 (by rw [JG];exact h),yD q n b k i h]
  ·obtain rfl:i=k:=by omega
   have:=Uw (l:=Ue q n b i) (x:=if Ed q i=true then 2 else (og n b i:Int));rw [JG] at this;omega
theorem QN (q:Qu) (n b:Nat):∀ k,uQ q n b k=true↔∀ i,i<k→Ed q i=true→og n b i=0
 |0=>⟨fun _ i hi=>absurd hi (aM _),fun _=>rfl⟩
 |k+1=>by
  have ih:=QN q n b k;unfold uQ;grind
theorem a0v:∀ (n:Nat) (f:Nat→Nat),(∀ i,f i≤1)→∃ b,b<2 ^ n∧∀ i,i<n→og n b i=f i
 |0,_,_=>⟨0,by decide,fun i hi=>absurd hi (aM _)⟩
 |n+1,f,hf=>by
  obtain ⟨b,hb,h⟩:=a0v n f hf;have h1:=hf n;refine ⟨2*b+f n,by omega,fun i hi=>?_⟩;unfold og at h ⊢;rcases an i n with g|g
  ·rw [← h i g,show n+1-1-i=(n-1-i)+1 by omega,bA,dd (2 ^ _) 2,← cJ,show (2*b+f n) / 2=b by omega]
  grind
theorem bW (q:Qu) {l:List Int}:∀ B,l∈GX q B↔∃ b,b<B∧l=Ue q q.p.notes.length b q.p.notes.length∧uQ q q.p.notes.length b q.p.notes.length=true∧dI q l<0
 |0=>⟨fun h=>(by cases h),fun ⟨b,hb,_⟩=>absurd hb (aM _)⟩
 |B+1=>by
  have ih:=bW q (l:=l) B;unfold GX;grind
theorem qj {q:Qu} (hq:IK q) {l:List Int} (hk:∀ i,i<q.p.notes.length→(Ed q i=true↔gi l i=2)):dI q l<0↔∀ t,t<(AY q.p).length→Lr q (Fp q t) l=true:=by
 have h1:dI q l<0↔dI q l=-1:=by
  have:=(kR (fun i=>!UF q (Fp q i) l) (AY q.p).length (AY q.p).length (ab _)).1;have:-1≤dI q l:=this;omega
 rw [h1];unfold dI;rw [JQ];refine ⟨fun h t ht=>?_,fun h t ht=>?_⟩
 ·have:=h t ht
  rw [iH hq ht hk] at this;grind
 ·rw [iH hq ht hk,h t ht];rfl
theorem Qi (q:Qu) (hq:IK q) (l:List Int):l∈GX q (2 ^ q.p.notes.length)↔l∈Ho q (AY q.p).length:=by
 rw [bW,MW q hq];constructor
 ·rintro ⟨b,hb,h1,h2,h3⟩
  have hg:∀ i,i<q.p.notes.length→gi l i=if Ed q i=true then 2 else (og q.p.notes.length b i:Int):=fun i hi=>by rw [h1,yD _ _ _ _ i hi]
  have hb2:∀ i,og q.p.notes.length b i<2:=fun i=>bc _ (by omega)
  have hk:∀ i,i<q.p.notes.length→(Ed q i=true↔gi l i=2):=fun i hi=>by
   grind
  refine ⟨by rw [h1,JG],fun i hi=>?_,(qj hq hk).1 h3⟩;grind
 ·rintro ⟨h1,h2,h3⟩
  have hk:∀ i,i<q.p.notes.length→(Ed q i=true↔gi l i=2):=fun i hi=>by
   grind
  obtain ⟨b,hb,hbi⟩:=a0v q.p.notes.length (fun i=>if gi l i=1 then 1 else 0) (fun i=>by split<;>omega);refine ⟨b,hb,?_,?_,(qj hq hk).2 h3⟩
  ·refine JF (by rw [JG,h1]) fun i hi=>?_
   rw [yD _ _ _ _ i (by omega),hbi i (by omega)];grind
  ·refine (QN _ _ _ _).2 fun i hi hp=>?_
   grind
theorem gI:∀ {a b:List Int} {x y:Int},a.length=b.length→(cmpL a b=-1→cmpL (a++[x]) (b++[y])=-1)∧(cmpL a b=0→cmpL (a++[x]) (b++[y])=if x<y then -1 else if y<x then 1 else 0)
 |[],[],x,y,_=>⟨fun h=>(by cases h),fun _=>rfl⟩
 |[],_::_,_,_,h=>by cases h
 |_::_,[],_,_,h=>by cases h
 |u::a,v::b,x,y,h=>by
  obtain ⟨i1,i2⟩:=gI (a:=a) (b:=b) (x:=x) (y:=y) (by grind);have e1:cmpL (u::a) (v::b)=if u<v then -1 else if v<u then 1 else cmpL a b:=rfl
  have e2:cmpL (u::a++[x]) (v::b++[y])=if u<v then -1 else if v<u then 1 else cmpL (a++[x]) (b++[y]):=rfl
  omega
theorem a0t (q:Qu) (n b c:Nat) (hb:b<2 ^ n) (hc:c<2 ^ n):∀ k,k≤n→uQ q n b k=true→uQ q n c k=true→(b / 2 ^ (n-k)<c / 2 ^ (n-k)→cmpL (Ue q n b k) (Ue q n c k)=-1)∧(b / 2 ^ (n-k)=c / 2 ^ (n-k)→cmpL (Ue q n b k) (Ue q n c k)=0)
 |0,_,_,_=>by
  rw [Nat.sub_zero,dc hb,dc hc];exact ⟨fun h=>absurd h (cv _),fun _=>rfl⟩
 |k+1,hk,h1,h2=>by
  have f1:=(QN q n b (k+1)).1 h1;have f2:=(QN q n c (k+1)).1 h2;have ih:=a0t q n b c hb hc k (by omega) ((QN q n b k).2 fun i hi=>f1 i (by omega)) ((QN q n c k).2 fun i hi=>f2 i (by omega));have p2:=f2 k (by omega);have hs:=gI (a:=Ue q n b k) (b:=Ue q n c k) (x:=if Ed q k=true then 2 else (og n b k:Int)) (y:=if Ed q k=true then 2 else (og n c k:Int)) (by rw [JG,JG]);have e1:Ue q n b (k+1)=Ue q n b k++[if Ed q k=true then 2 else (og n b k:Int)]:=rfl;have e2:Ue q n c (k+1)=Ue q n c k++[if Ed q k=true then 2 else (og n c k:Int)]:=rfl;rw [e1,e2];have d:∀ a:Nat,a / 2 ^ (n-k)=a / 2 ^ (n-(k+1)) / 2:=fun a=>by
   rw [show n-k=n-(k+1)+1 by omega,bA,cJ]
  have m:∀ a:Nat,og n a k=a / 2 ^ (n-(k+1)) % 2:=fun a=>by
   unfold og;grind
  grind
theorem Qh (q:Qu):∀ B,B≤2 ^ q.p.notes.length→(GX q B).Pairwise fun a b=>cmpL a b=-1
 |0,_=>List.Pairwise.nil
 |B+1,hB=>by
  have ih:=Qh q B (by omega);unfold GX;split
  ·rename_i c
   refine fp.2 ⟨ih,gt _ _,fun a ha x hx=>?_⟩;rw [aL] at hx;obtain ⟨b,hb,g1,g2,_⟩:=(bW q B).1 ha;rw [hx,g1];refine (a0t q _ b B (by omega) (by omega) _ (ab _) g2 c.1).1 ?_;grind
  omega
theorem wE (q:Qu):(GX q (2 ^ q.p.notes.length)).Nodup:=(Qh q _ (ab _)).imp fun h e=>by
 rw [e,QZ] at h;cases h
theorem VR:∀ {l r:List (List Int)},l.Nodup→(∀ x∈l,x∈r)→l.length≤r.length
 |[],_,_,_=>ao _
 |a::l,r,hn,h=>by
  obtain ⟨hn1,hn2⟩:=cP.1 hn;have h1:=VR (r:=r.erase a) hn2 fun x hx=>(List.mem_erase_of_ne (fun e=>hn1 (by grind))).2 (h x (aq _ hx))
  grind
theorem a3a (q:Qu) (hq:IK q):(GX q (2 ^ q.p.notes.length)).length=(Ho q (AY q.p).length).length :=
 Nat.le_antisymm (VR (wE q) fun x hx=>(Qi q hq x).1 hx) (VR (TB q hq (ab _)) fun x hx=>(Qi q hq x).2 hx)
def JZ (f:Nat→Int):Nat→Nat
 |0=>0
 |k+1=>if f (k+1)<f (JZ f k) then k+1 else JZ f k
theorem YK (f:Nat→Int):∀ k,JZ f k≤k
 |0=>ab _
 |k+1=>by
  have:=YK f k;unfold JZ;split<;>omega
theorem bG (f:Nat→Int):∀ k j,j≤k→f (JZ f k)<f j∨f (JZ f k)=f j∧JZ f k≤j
 |0,j,hj=>.inr ⟨by rw [show j=0 by omega];rfl,ao _⟩
 |k+1,j,hj=>by
  have hl:=YK f k;unfold JZ;split
  ·rename_i c
   rcases an k j with h|h
   ·grind
   ·rcases bG f k j h with g|⟨g,_⟩
    ·omega
    omega
  ·rename_i c
   rcases an k j with h|h
   ·grind
   ·exact bG f k j h
theorem a6t (q:Qu) (hq:IK q) {n:Nat} (hn:(GX q (2 ^ q.p.notes.length)).length=n+1):IsB q (gi (GX q (2 ^ q.p.notes.length)) (JZ (fun i=>Dz q (gi (GX q (2 ^ q.p.notes.length)) i)) n)):=by
 have hl:=YK (fun i=>Dz q (gi (GX q (2 ^ q.p.notes.length)) i)) n;have hm:=bG (fun i=>Dz q (gi (GX q (2 ^ q.p.notes.length)) i)) n;generalize JZ (fun i=>Dz q (gi (GX q (2 ^ q.p.notes.length)) i)) n=m at *;refine ⟨(Qi q hq _).1 (DV (by omega)),fun h hh=>?_⟩;obtain ⟨j,hj,e⟩:=Ky ((Qi q hq h).2 hh);subst e;rcases hm j (by omega) with g|⟨g1,g2⟩
 ·exact .inl g
 ·refine .inr ⟨g1,?_⟩
  rcases an m j with h1|h1
  ·have:=cT.1 (Qh q _ (ab _)) m j (by omega) hj h1
   unfold gi;grind
  ·obtain rfl:m=j:=by omega
   rw [QZ];omega
end Go.Proofs.YtnjkoebfgcbbdaaGreatDoor
namespace Go.Vm
open Go.Am
variable {E:Env} {L:Frame} {H:Heap} {nx:Nat} {Q:PV→Heap→Nat→Prop} {dst:Option Tmp} {ty:TypeId} {pos:String} {af:Array Edge} {gd:Option (Nat×Bool)} {w:Bool}
theorem Aa.b4q {t t2:TypeId} {x y:Operand} {k':IntKind} {n r:Nat} (he:2 ^ n=r) (hx:AU E.Γ L x=some (.p (.int .i64 1))) (hy:AU E.Γ L y=some (.p (.int k' (n:Int)))) (hn:n≤62) (q:Q (.p (.int .i64 (r:Int))) H nx) :
 Aa E w ⟨dst,.binOp .shl t x y t2,ty,pos,af,gd⟩ L H nx Q:=Aa.a9v hx hy hn (by grind)
theorem Aa.c2s {t t2:TypeId} {x y:Operand} {k k':IntKind} {m:Nat} {b:Int} (n:Nat) (hb:b=n) (hx:AU E.Γ L x=some (.p (.int k (m:Int)))) (hy:AU E.Γ L y=some (.p (.int k' b))) {r:Nat} (hn:n≤k.bits) (he:m / 2 ^ n=r) (q:Q (.p (.int k (r:Int))) H nx) :
 Aa E w ⟨dst,.binOp .shr t x y t2,ty,pos,af,gd⟩ L H nx Q:=by
 subst hb;subst he;exact Aa.fH hx hy hn q
end Go.Vm
namespace Go.Proofs.YtnjkoebfgcbbdaaGreatDoor
open Go Go.Am Go.Vm Go.Pie Go.Sch
attribute [local irreducible] Aa Ai Ag Ad AO Ap Bc BK Bh Ah Vm.Done Bv AB Pv
attribute [local irreducible] Ce Ba DX DJ En AZ CB
theorem lZ {q:Qu} (hq:IK q) {N:List Int} (hN:YP q N) (l:List Int) (h:Int):∀ k,k≤N.length→(0≤(NJ q.p N l h k).c∧(NJ q.p N l h k).c≤k)∧(0≤(NJ q.p N l h k).lo∧(NJ q.p N l h k).lo≤127)∧0≤(NJ q.p N l h k).hi∧(NJ q.p N l h k).hi≤127
 |0,_=>⟨⟨bb _,bb _⟩,by show (0:Int)≤0∧(0:Int)≤127;omega,by show (0:Int)≤0∧(0:Int)≤127;omega⟩
 |k+1,hk=>by
  have ih:=lZ hq hN l h k (by omega);obtain ⟨g1,g2⟩:=hN k (by omega);have hh:=hq.p.note (gi N k).toNat (by omega);have h1:=hq.o.cmp (i:=(gi q.p.notes (gi N k).toNat).d.toNat) (by have:=hh.d;omega);have h2:=hh.k;unfold NJ;split
  ·unfold hsS hsB
   grind
  omega
theorem xQ (q:Qu) (hq:IK q) (N:List Int) (hN:YP q N) (hNl:N.length≤1000) (l:List Int) (hl:l.length=q.p.notes.length):Ap env 101 [.agg (Enc.enc q),.lst 3 (cells l) l.length,.lst 3 (cells N) N.length] (.p (.bool (UF q N l))):=by
 obtain ⟨y1,y2,y3,y4⟩:=hq.y;unfold UF;generalize hP:(fun h:Nat=>!kV q N l (h:Int))=P at *;have hPk:∀ k,P k=!kV q N l (k:Int):=fun k=>by rw [← hP]
 refine Ap.enter (Af (by decide)) Tryz.func101 rfl (by kernel_rfl) (by simp [Tryz.ntmps101]) ?_
 repeat' (first|refine go1 ?_|fail)
 all_goals try (exfalso;omega)
 apply Ad.Ht (3) (fun k=>Vw P 3 (3-k)=D9 P 3) [(1,_),(2,_),(3,_)] [(0,_)] (fun k r=>(7,.p (.int .i64 (k:Int)))::r) (fun k r=>r) 1
 ·first|omega|decide
 ·first|omega|decide
 ·exact NI
 ·exact Px
 ·first|(intro _ _;omega)|omega|trivial
 ·intro k hk hi
  have hret:P k=true→decide (D9 P 3=-1)=false:=fun hp=>decide_eq_false (by rw [← hi,YO hk hp];omega)
  have hbad:∀ j,j<N.length→Uu q.p N l (k:Int) j=true→P k=true:=fun j hj hb=>by
   rw [hPk];unfold kV;rw [decide_eq_false (fun e=>by rw [JQ.1 e j hj] at hb;cases hb)];rfl
  repeat' (first|refine Eu ?_|(apply Ad.Ac;rfl)|(intro _;try (exfalso;omega)))
  all_goals try (exfalso;omega)
  apply Ad.Ht (N.length) (fun k_=>Vw (Uu q.p N l (k:Int)) N.length (N.length-k_)=D9 (Uu q.p N l (k:Int)) N.length) [(1,_),(2,_),(3,_),(7,_),(21,_),(22,_)] [(0,_)] (fun k_ r=>(23,.p (.int .i64 (k_:Int)))::(8,.p (.int .i64 (NJ q.p N l (k:Int) k_).c))::(9,.p (.int .i64 (NJ q.p N l (k:Int) k_).lo))::(10,.p (.int .i64 (NJ q.p N l (k:Int) k_).hi))::(11,.p (.int .i64 (NJ q.p N l (k:Int) k_).d))::r) (fun k_ r=>r) 1
  ·first|omega|decide
  ·first|omega|decide
  ·exact NI
  ·exact Px
  ·first|(intro _ _;omega)|omega|trivial
  ·intro k_ hk_ hj
   obtain ⟨g1,g2⟩:=hN k_ hk_;obtain ⟨m,hm⟩:∃ m:Nat,gi N k_=(m:Int):=⟨(gi N k_).toNat,by omega⟩
   have hm2:m<q.p.notes.length:=by omega
   have hmt:(gi N k_).toNat=m:=by omega
   have hr:=lZ hq hN l (k:Int) k_ (by omega);have eb:Uu q.p N l (k:Int) k_=(decide ((k:Int)<2)&&(decide (gi l m=(k:Int))&&decide ((gi q.p.notes m).d≠(hsB (NJ q.p N l (k:Int) k_) (gi q.p.notes m)).d))):=by unfold Uu;rw [hmt]
   have es:NJ q.p N l (k:Int) (k_+1)=if gi l m=(k:Int) then hsS (NJ q.p N l (k:Int) k_) (gi q.p.notes m) else NJ q.p N l (k:Int) k_:=by
    show (if gi l (gi N k_).toNat=_ then _ else _)=_;rw [hmt]
   have hbt:=hbad k_ hk_;rw [es];clear es hbad;generalize NJ q.p N l (k:Int) k_=r at *;by_cases hs:gi l m=(k:Int)
   ·rw [if_pos hs]
    rw [decide_eq_true hs,cy] at eb;unfold hsS;by_cases h0:r.c=0
    ·have e0:hsB r (gi q.p.notes m)=⟨r.c,(gi q.p.notes m).k,(gi q.p.notes m).k,(gi q.p.notes m).d⟩:=if_pos h0
     rw [e0] at eb ⊢;have hb:Uu q.p N l (k:Int) k_=false:=by rw [eb];simp
     clear eb e0 hbt;by_cases hk2:(k:Int)<2;all_goals
      repeat' (first|(apply Aa.Aj (l:=q.p.notes) (i:=m);rfl;exact congrArg (fun b=>some (PV.p (.int .i64 b))) hm;rfl;omega;rfl)|(apply Aa.Aj (l:=l) (i:=m);rfl;exact congrArg (fun b=>some (PV.p (.int .i64 b))) hm;rfl;omega;rfl)|(apply Aa.Aj;rfl;rfl;rfl;omega;rfl)|refine Ij ?_|(apply Ai.guard;rfl;rfl)|(apply Aa.int;rfl;rfl;rfl)|(apply Aa.yO;rfl;rfl)|(apply Aa.a6k;rfl;rfl)|(apply Ad.Ak;rfl)|(apply Ad.Ac;rfl)|(intro _;try (exfalso;omega)))
     all_goals try (exfalso;omega)
     all_goals try contradiction
     all_goals
      refine Ah.normal ⟨((JX hk_ hb).symm.trans hj),by first|omega|decide,?_,?_⟩
      ·exact C9
      ·exact DR
    ·have e0:hsB r (gi q.p.notes m)=r:=if_neg h0
     rw [e0] at eb ⊢;clear e0;by_cases hk2:(k:Int)<2;all_goals by_cases hd:(gi q.p.notes m).d=r.d
     case neg =>
      have hb:Uu q.p N l (k:Int) k_=true:=by rw [eb,decide_eq_true hk2];simp [hd]
      rw [hret (hbt hb)]
      repeat' (first|(apply Aa.Aj (l:=q.p.notes) (i:=m);rfl;exact congrArg (fun b=>some (PV.p (.int .i64 b))) hm;rfl;omega;rfl)|(apply Aa.Aj (l:=l) (i:=m);rfl;exact congrArg (fun b=>some (PV.p (.int .i64 b))) hm;rfl;omega;rfl)|(apply Aa.Aj;rfl;rfl;rfl;omega;rfl)|refine Ij ?_|(apply Ai.guard;rfl;rfl)|(apply Aa.int;rfl;rfl;rfl)|(apply Ad.Ac;rfl)|(intro _;try (exfalso;omega)))
      all_goals first|(exfalso;omega)|contradiction|(refine Done.rt rfl rfl ⟨?_,rfl,rfl⟩;try rfl)
     all_goals have hb:Uu q.p N l (k:Int) k_=false:=by rw [eb];simp [hd,hk2]
     all_goals clear eb hbt
     all_goals
      repeat' (first|(apply Aa.Aj (l:=q.p.notes) (i:=m);rfl;exact congrArg (fun b=>some (PV.p (.int .i64 b))) hm;rfl;omega;rfl)|(apply Aa.Aj (l:=l) (i:=m);rfl;exact congrArg (fun b=>some (PV.p (.int .i64 b))) hm;rfl;omega;rfl)|(apply Aa.Aj;rfl;rfl;rfl;omega;rfl)|refine Ij ?_|(apply Ai.guard;rfl;rfl)|(apply Aa.int;rfl;rfl;rfl)|(apply Aa.yO;rfl;rfl)|(apply Aa.a6k;rfl;rfl)|(apply Ad.Ak;rfl)|(apply Ad.Ac;rfl)|(intro _;try (exfalso;omega)))
     all_goals try (exfalso;omega)
     all_goals try contradiction
     all_goals
      refine Ah.normal ⟨((JX hk_ hb).symm.trans hj),by first|omega|decide,?_,?_⟩
      ·exact C9
      ·exact DR
   ·rw [if_neg hs]
    have hb:Uu q.p N l (k:Int) k_=false:=by rw [eb,decide_eq_false hs];simp
    clear eb hbt
    repeat' (first|(apply Aa.Aj (l:=l) (i:=m);rfl;exact congrArg (fun b=>some (PV.p (.int .i64 b))) hm;rfl;omega;rfl)|(apply Aa.Aj;rfl;rfl;rfl;omega;rfl)|(apply Aa.MK;rfl;rfl;rfl;omega;omega;rfl)|refine Ij ?_|(apply Aa.int;rfl;rfl;rfl)|(apply Ad.Ac;rfl)|(intro _;try (exfalso;omega)))
    all_goals try (exfalso;omega)
    all_goals try contradiction
    refine Ah.normal ⟨((JX hk_ hb).symm.trans hj),by first|omega|decide,?_,?_⟩
    ·exact C9
    ·exact DR
  ·intro hj
   have hfb:D9 (Uu q.p N l (k:Int)) N.length=-1:=by rw [← hj,cY];rfl
   have hr:=lZ hq hN l (k:Int) N.length (ab _);have hPe:=hPk k;unfold kV at hPe;rw [hfb,decide_eq_true rfl,cy] at hPe;clear hbad hfb hj;generalize NJ q.p N l (k:Int) N.length=r at *;by_cases k2:(k:Int)=2;all_goals first|rw [if_pos k2,if_pos k2] at hPe|rw [if_neg k2,if_neg k2] at hPe
   ·by_cases h1:r.c≤q.y.fn
    all_goals by_cases h2:r.hi-r.lo≤q.y.fs
    ·rw [decide_eq_true h1,decide_eq_true h2] at hPe
     repeat' (first|refine Eu ?_|(apply Ai.guard;rfl;rfl)|(apply Ad.Ac;rfl)|(apply Ad.Aq;rfl)|(intro _;try (exfalso;omega)))
     all_goals try (exfalso;omega)
     all_goals try contradiction
     refine Ah.normal ⟨((JX hk hPe).symm.trans hi),by first|omega|decide,?_,?_⟩
     ·exact C9
     ·exact DR
    all_goals rw [hret (by rw [hPe];simp [h1,h2])]
    all_goals
     repeat' (first|refine Eu ?_|(apply Ai.guard;rfl;rfl)|(apply Ad.Ac;rfl)|(apply Ad.cond_true;rfl)|(apply Ad.Aq;rfl)|(intro _;try (exfalso;omega)))
    all_goals first|(exfalso;omega)|contradiction|(refine Done.rt rfl rfl ⟨?_,rfl,rfl⟩;try rfl)
   ·by_cases h1:r.c≤q.y.hn
    all_goals by_cases h2:r.hi-r.lo≤q.y.hs
    ·rw [decide_eq_true h1,decide_eq_true h2] at hPe
     repeat' (first|refine Eu ?_|(apply Ai.guard;rfl;rfl)|(apply Ad.Ac;rfl)|(apply Ad.Aq;rfl)|(intro _;try (exfalso;omega)))
     all_goals try (exfalso;omega)
     all_goals try contradiction
     refine Ah.normal ⟨((JX hk hPe).symm.trans hi),by first|omega|decide,?_,?_⟩
     ·exact C9
     ·exact DR
    all_goals rw [hret (by rw [hPe];simp [h1,h2])]
    all_goals
     repeat' (first|refine Eu ?_|(apply Ai.guard;rfl;rfl)|(apply Ad.Ac;rfl)|(apply Ad.cond_true;rfl)|(apply Ad.Aq;rfl)|(intro _;try (exfalso;omega)))
    all_goals first|(exfalso;omega)|contradiction|(refine Done.rt rfl rfl ⟨?_,rfl,rfl⟩;try rfl)
 ·intro hi
  have e1:D9 P 3=-1:=by rw [← hi,cY];rfl
  rw [decide_eq_true e1]
  repeat' (first|refine Eu ?_|(apply Ad.Ak;rfl))
  all_goals first|(exfalso;omega)|(refine Done.rt rfl rfl ⟨?_,rfl,rfl⟩;try rfl)
theorem dL (q:Qu) (hq:IK q) (l:List Int) (hl:l.length=q.p.notes.length):Ap env 51 [.agg (Enc.enc q),.lst 3 (cells l) l.length,.lst 81 (cells (AY q.p)) (AY q.p).length] (.p (.int .i64 (dI q l))):=by
 have hSl:=LY q.p;have hn:=hq.p.notes;have hM:∀ k,k<(AY q.p).length→Ap env 101 [.agg (Enc.enc q),.lst 3 (cells l) l.length,.lst 3 (cells (gi (AY q.p) k).notes) (gi (AY q.p) k).notes.length] (.p (.bool (UF q (Fp q k) l))):=fun k hk=>xQ q hq _ (J5 hk) (VA hq hk) l hl
 unfold dI;generalize hP:(fun i=>!UF q (Fp q i) l)=P at *;have hPk:∀ k,UF q (Fp q k) l=!P k:=fun k=>by rw [← hP];simp
 generalize AY q.p=S at *;refine Ap.enter (Af (by decide)) Tryz.func51 rfl (by kernel_rfl) (by simp [Tryz.ntmps51]) ?_
 repeat' (first|refine go1 ?_|fail)
 all_goals try (exfalso;omega)
 apply Ad.Ht (S.length) (fun k=>Vw P S.length (S.length-k)=D9 P S.length) [(1,_),(3,_),(9,_),(10,_)] [(0,_)] (fun k r=>(11,.p (.int .i64 (k:Int)))::r) (fun k r=>r) 1
 ·first|omega|decide
 ·first|omega|decide
 ·exact NI
 ·exact Px
 ·first|(intro _ _;omega)|omega|trivial
 ·intro k hk hi
  have hC:=hM k hk;rw [hPk] at hC;by_cases hp:P k=true
  ·rw [hp] at hC
   have e1:D9 P S.length=(k:Int):=by rw [← hi,YO hk hp]
   rw [e1]
   repeat' (first|(apply Aa.fn;rfl;rfl;exact hC;intro _;rfl)|(apply Aa.Aj;rfl;rfl;rfl;omega;rfl)|refine go1 ?_|(apply Aa.int;rfl;rfl;rfl)|(apply Ad.Ac;rfl)|(apply Ad.cond_true;rfl)|(intro _;try (exfalso;omega)))
   all_goals first|(exfalso;omega)|contradiction|(refine Done.rt rfl rfl ⟨?_,rfl,rfl⟩;try rfl)
  ·have hp':P k=false:=by simpa using hp
   rw [hp'] at hC
   repeat' (first|(apply Aa.fn;rfl;rfl;exact hC;intro _;rfl)|(apply Aa.Aj;rfl;rfl;rfl;omega;rfl)|refine go1 ?_|(apply Aa.int;rfl;rfl;rfl)|(apply Ad.Ac;rfl)|(apply Ad.cond_false;rfl)|(intro _;try (exfalso;omega)))
   all_goals try (exfalso;omega)
   all_goals try contradiction
   refine Ah.normal ⟨((JX hk hp').symm.trans hi),by first|omega|decide,?_,?_⟩
   ·exact C9
   ·exact DR
 ·intro hi
  have e1:D9 P S.length=-1:=by rw [← hi,cY];rfl
  rw [e1]
  repeat' (first|refine Eu ?_|(apply Ad.Ac;rfl)|(intro _;try (exfalso;omega)))
  all_goals first|(exfalso;omega)|(refine Done.rt rfl rfl ⟨?_,rfl,rfl⟩;try rfl)
def lQ (p:Fv) (N l:List Int) (h:Int):Nat→Int
 |0=>-1
 |k+1=>if gi l (gi N k).toNat=h∧(lQ p N l h k<0∨(gi p.notes (gi N k).toNat).k<(gi p.notes (lQ p N l h k).toNat).k) then gi N k else lQ p N l h k
theorem a7h {q:Qu} {N:List Int} (hN:YP q N) (l:List Int) (h:Int):∀ k,k≤N.length→(-1≤lQ q.p N l h k∧lQ q.p N l h k<q.p.notes.length)∧Ru q.p N l h k=if lQ q.p N l h k<0 then (false,⟨0,0⟩) else (true,⟨(gi q.p.notes (lQ q.p N l h k).toNat).d,(gi q.p.notes (lQ q.p N l h k).toNat).k⟩)
 |0,_=>⟨⟨by show (-1:Int)≤-1;omega,by show (-1:Int)<_;omega⟩,rfl⟩
 |k+1,hk=>by
  obtain ⟨i1,i2⟩:=a7h hN l h k (by omega);obtain ⟨g1,g2⟩:=hN k (by omega);have e1:lQ q.p N l h (k+1)=if gi l (gi N k).toNat=h∧(lQ q.p N l h k<0∨(gi q.p.notes (gi N k).toNat).k<(gi q.p.notes (lQ q.p N l h k).toNat).k) then gi N k else lQ q.p N l h k:=rfl
  have e2:Ru q.p N l h (k+1)=if gi l (gi N k).toNat=h∧((Ru q.p N l h k).1=false∨(gi q.p.notes (gi N k).toNat).k<(Ru q.p N l h k).2.k) then (true,⟨(gi q.p.notes (gi N k).toNat).d,(gi q.p.notes (gi N k).toNat).k⟩) else Ru q.p N l h k:=rfl
  grind
def SE (q:Qu) (l:List Int):Nat→List Pos
 |0=>[]
 |h+1=>SE q l h++Eo q l (h:Int) (AY q.p).length
theorem Yr (q:Qu) (hq:IK q) (l:List Int) (hl:l.length=q.p.notes.length):Ap env 20 [.agg (Enc.enc q),.lst 3 (cells l) l.length,.lst 81 (cells (AY q.p)) (AY q.p).length] (.p (.lst 151 (cells (Qq q l)) (Qq q l).length)):=by
 have hSl:=LY q.p;have hn:=hq.p.notes;have hIn:∀ k,k<(AY q.p).length→YP q (gi (AY q.p) k).notes∧(gi (AY q.p) k).notes.length≤1000:=fun k hk=>⟨J5 hk,VA hq hk⟩
 have hP0:=Nq q l 0 (AY q.p).length;have ePos:Qq q l=SE q l 2:=by
  show Eo q l 0 _++Eo q l 1 _=([]++Eo q l ((0:Nat):Int) _)++Eo q l ((1:Nat):Int) _;rw [fe];rfl
 have hstep:∀ h,SE q l (h+1)=SE q l h++Eo q l (h:Int) (AY q.p).length:=fun h=>rfl
 have hpl:∀ h,h≤2→(SE q l h).length≤h*(AY q.p).length:=fun h=>by
  induction h with
  |zero=>exact fun _=>ao _
  |succ h ih =>
   intro hh;have h1:=ih (by omega);have h2:=Nq q l (h:Int) (AY q.p).length;rw [hstep,ar,fb];omega
 rw [ePos];obtain ⟨S,hSe⟩:∃ S,S=AY q.p:=⟨_,rfl⟩
 rw [← hSe] at hSl hIn hP0 hstep hpl ⊢;refine Ap.enter (Af (by decide)) Tryz.func20 rfl (by kernel_rfl) (by simp [Tryz.ntmps20]) ?_
 repeat' (first|(refine Ad.at 2 ?_;refine Ad.ghost (Aw.adopt 7 151 rfl) ?_;first|apply Ad.BD|apply Ad.Cj)|refine go2 ?_|apply Ad.BD)
 all_goals try (exfalso;omega)
 apply Ad.F5 (2) [(1,_),(2,_),(3,_)] [(0,_)] (fun k r=>(8,.p (.int .i64 (k:Int)))::(7,.vec 1 (SE q l k).length 0 (SE q l k).length)::r) (fun k r=>(1,.vec 151 (cells (SE q l k)) (SE q l k).length true)::r) 2
 ·first|omega|decide
 ·first|omega|decide
 ·exact NI
 ·exact Px
 ·intro h hh
  have hlh:=hpl h (by omega);have d0j:h*S.length≤2001:=by
   have:h*S.length≤1*S.length:=bp _ (by omega);omega
  rw [hstep];generalize SE q l h=PRE at *;obtain ⟨Z,e0⟩:∃ Z,Z=PRE++Eo q l (h:Int) S.length:=⟨_,rfl⟩
  rw [← e0,show PRE=PRE++Eo q l (h:Int) 0 from (cN _).symm]
  repeat' (first|refine Eu ?_|apply Ad.KO|(apply Ad.Ac;rfl)|(intro _;try (exfalso;omega)))
  all_goals try (exfalso;omega)
  apply Ad.F5 (S.length) [(1,_),(2,_),(3,_),(8,_),(19,_),(20,_)] [(0,_)] (fun k_ r=>(21,.p (.int .i64 (k_:Int)))::(7,.vec 1 (PRE++Eo q l (h:Int) k_).length 0 (PRE++Eo q l (h:Int) k_).length)::r) (fun k_ r=>(1,.vec 151 (cells (PRE++Eo q l (h:Int) k_)) (PRE++Eo q l (h:Int) k_).length true)::r) 2
  ·first|omega|decide
  ·first|omega|decide
  ·exact NI
  ·exact Px
  ·intro i hi
   obtain ⟨hNi,d1b⟩:=hIn i hi;have hb:=fun k hk=>a7h hNi l (h:Int) k hk
   have e1:Eo q l (h:Int) (i+1)=if (FY q l (h:Int) i).1=true then Eo q l (h:Int) i++[⟨(h:Int),i,(FY q l (h:Int) i).2⟩] else Eo q l (h:Int) i:=rfl
   have hat:Ru q.p (gi S i).notes l (h:Int) (gi S i).notes.length=FY q l (h:Int) i:=by unfold FY Fp;rw [hSe]
   have hpl2:=Nq q l (h:Int) i;rw [e1,← hat,(hb _ (ab _)).2];clear e1 hat;generalize Eo q l (h:Int) i=X at *;have e4:(PRE++X).length≤10000:=by rw [ar];omega
   repeat' (first|(apply Aa.Aj;rfl;rfl;rfl;omega;rfl)|refine Eu ?_|(apply Ad.Ac;rfl)|(intro _;try (exfalso;omega)))
   all_goals try (exfalso;omega)
   apply Ad.F5 ((gi S i).notes.length) [(1,_),(2,_),(3,_),(7,_),(8,_),(9,_),(19,_),(20,_),(21,_),(27,_),(28,_)] [(0,_),(1,_),(2,_)] (fun k_ r=>(29,.p (.int .i64 (k_:Int)))::(11,.p (.int .i64 (lQ q.p (gi S i).notes l (h:Int) k_)))::r) (fun k_ r=>r) 3
   ·first|omega|decide
   ·first|omega|decide
   ·exact NI
   ·exact Px
   ·intro j hj
    obtain ⟨g1,g2⟩:=hNi j hj;obtain ⟨m,hm⟩:∃ m:Nat,gi (gi S i).notes j=(m:Int):=⟨(gi (gi S i).notes j).toNat,by omega⟩
    have hm2:m<q.p.notes.length:=by omega
    have hbj:=(hb j (by omega)).1;have e1:lQ q.p (gi S i).notes l (h:Int) (j+1)=if gi l (gi (gi S i).notes j).toNat=(h:Int)∧(lQ q.p (gi S i).notes l (h:Int) j<0∨(gi q.p.notes (gi (gi S i).notes j).toNat).k<(gi q.p.notes (lQ q.p (gi S i).notes l (h:Int) j).toNat).k) then gi (gi S i).notes j else lQ q.p (gi S i).notes l (h:Int) j:=rfl
    rw [e1];clear e1 hb;generalize lQ q.p (gi S i).notes l (h:Int) j=b at *;have e3:(gi (gi S i).notes j).toNat=m:=by omega
    rw [e3];obtain ⟨b',hb'⟩:∃ b':Nat,b.toNat=b':=⟨_,rfl⟩
    rw [hb'];by_cases h1:gi l m=(h:Int)
    all_goals by_cases h2:b<0
    all_goals by_cases h3:(gi q.p.notes m).k<(gi q.p.notes b').k
    all_goals first|rw [if_pos (And.intro h1 (Or.inl h2))]|rw [if_pos (And.intro h1 (Or.inr h3))]|rw [if_neg (fun e=>h1 e.1)]|rw [if_neg (fun e=>e.2.elim h2 h3)]
    all_goals try (have hbb:b=(b':Int):=by omega)
    all_goals
     repeat' (first|(apply Aa.Aj (l:=q.p.notes) (i:=m);rfl;exact congrArg (fun b=>some (PV.p (.int .i64 b))) hm;rfl;omega;rfl)|(apply Aa.Aj (l:=q.p.notes) (i:=b');rfl;exact congrArg (fun b=>some (PV.p (.int .i64 b))) hbb;rfl;omega;rfl)|(apply Aa.Aj (l:=l) (i:=m);rfl;exact congrArg (fun b=>some (PV.p (.int .i64 b))) hm;rfl;omega;rfl)|(apply Aa.Aj;rfl;rfl;rfl;omega;rfl)|refine fP ?_|(apply Ag.guard;rfl;rfl)|(apply Ag.Xc;rfl;rfl)|(apply Aa.int;rfl;rfl;rfl)|(apply Ad.Ac;rfl)|(apply Ad.cond_true;rfl)|(apply Ad.cond_false;rfl)|(apply Ad.Aq;rfl)|(intro _;try (exfalso;omega)))
    all_goals try (exfalso;omega)
    all_goals try contradiction
    all_goals
     refine Ah.normal ⟨by first|omega|decide,?_,?_⟩
     ·exact C9
     ·exact DR
   ·have hbl:=(hb (gi S i).notes.length (ab _)).1
    clear hb;generalize lQ q.p (gi S i).notes l (h:Int) (gi S i).notes.length=b at *;by_cases h2:b<0
    ·rw [if_pos h2]
     simp only [Bool.false_eq_true,if_false]
     repeat' (first|refine Eu ?_|(apply Ad.Ac;rfl)|(apply Ad.Aq;rfl)|(intro _;try (exfalso;omega)))
     all_goals try (exfalso;omega)
     all_goals try contradiction
     refine Ah.normal ⟨by first|omega|decide,?_,?_⟩
     ·exact C9
     ·exact DR
    ·rw [if_neg h2]
     simp only [if_true];obtain ⟨m,hm⟩:∃ m:Nat,b=(m:Int):=⟨b.toNat,by omega⟩
     have hmt:b.toNat=m:=by omega
     rw [hmt];have e2:PRE++(X++[(⟨(h:Int),i,⟨(gi q.p.notes m).d,(gi q.p.notes m).k⟩⟩:Pos)])=(PRE++X)++[⟨(h:Int),i,⟨(gi q.p.notes m).d,(gi q.p.notes m).k⟩⟩]:=(cw _ _ _).symm;have e3:(PRE++X++[(⟨(h:Int),i,⟨(gi q.p.notes m).d,(gi q.p.notes m).k⟩⟩:Pos)]).length=(PRE++X).length+1:=by rw [ar];rfl
     rw [e2,e3];generalize PRE++X=Y at *
     repeat' (first|(apply Aa.Aj (l:=q.p.notes) (i:=m);rfl;exact congrArg (fun b=>some (PV.p (.int .i64 b))) hm;rfl;omega;rfl)|(apply Aa.CW (l:=Y) (a:=(⟨(h:Int),i,⟨(gi q.p.notes m).d,(gi q.p.notes m).k⟩⟩:Pos));rfl;rfl;rfl;rfl;rfl;rfl;rfl;rfl;(intro _ h;cases h);rfl;rfl;rfl;decide;decide;omega)|refine Ij ?_|(apply Aa.int;rfl;rfl;rfl)|(apply Aa.build;rfl;rfl;rfl;rfl;rfl)|(apply Aa.buildSlice;rfl;rfl;rfl;decide;rfl;rfl;rfl)|(apply Ad.Ac;rfl)|(apply Ad.Aq;rfl)|(intro _;try (exfalso;omega)))
     all_goals try (exfalso;omega)
     all_goals try contradiction
     refine Ah.normal ⟨by first|omega|decide,?_,?_⟩
     ·exact C9
     ·exact DR
  ·rw [← e0]
   repeat' (first|refine Eu ?_|(apply Ad.Ac;rfl)|(intro _;try (exfalso;omega)))
   all_goals try (exfalso;omega)
   refine Ah.normal ⟨by first|omega|decide,?_,?_⟩
   ·exact C9
   ·exact DR
 ·repeat' (first|(refine Ai.IL 82 ?_;refine Ai.ghost (Aw.freeze 7 rfl rfl) ?_)|apply Ad.assoc|apply Ad.BD|apply Ad.Fa|apply BK.normal|apply Bh.exit|apply Ah.exit|apply Ad.ret|apply Ai.nil|apply Ai.one|(apply Aa.assign;rfl)|(apply Aa.move;rfl)|(apply Aa.int;rfl;rfl;rfl)|(apply Ad.Ak;rfl))
  all_goals first|(exfalso;omega)|contradiction|(refine Done.rt rfl rfl ⟨?_,rfl,rfl⟩;try rfl)
theorem uT (L:List Pos) (hok:∀ i,i<L.length→(gi L i).c.Ok) (hle:L.length≤4002):Ap env 19 [.lst 151 (cells L) L.length] (.p (.int .i64 (jC L (L.length-1)))):=by
 rcases bo L.length with h0|h0
 ·have e0:jC L (L.length-1)=0:=by rw [h0];rfl
  rw [e0];refine Ap.enter (Af (by decide)) Tryz.func19 rfl (by kernel_rfl) (by simp [Tryz.ntmps19]) ?_
  repeat' (first|refine go1 ?_|fail)
  all_goals try (exfalso;omega)
  all_goals try contradiction
  refine Ad.a8t 0 ?_
  repeat' (first|refine Eu ?_|(apply Pv.zero)|(apply Ad.Ac;rfl)|(intro _;try (exfalso;omega)))
  all_goals first|(exfalso;omega)|contradiction|(refine Done.rt rfl rfl ⟨?_,rfl,rfl⟩;try rfl)
 ·refine Ap.enter (Af (by decide)) Tryz.func19 rfl (by kernel_rfl) (by simp [Tryz.ntmps19]) ?_
  repeat' (first|refine go1 ?_|fail)
  all_goals try (exfalso;omega)
  all_goals try contradiction
  apply Ad.F5 ((L.length-1)) [(0,_)] [] (fun k r=>(4,.p (.int .i64 ((k:Int)+1)))::(3,.p (.int .i64 (jC L k)))::r) (fun k r=>r) 0
  ·first|omega|decide
  ·first|omega|decide
  ·exact NI
  ·exact Px
  ·intro k hk
   have hr:=a0h hok k (by omega);obtain ⟨c1,c2⟩:=hok k (by omega);obtain ⟨c3,c4⟩:=hok (k+1) (by omega);have e1:jC L (k+1)=if (gi L (k+1)).h=(gi L k).h then jC L k+mvC (gi L k).c (gi L (k+1)).c else jC L k:=rfl
   rw [e1];have hx:((k:Int)+1)=((k+1:Nat):Int):=by omega
   have hx2:((k:Int)+1-1)=((k:Nat):Int):=by omega
   unfold mvC;by_cases h:(gi L (k+1)).h=(gi L k).h
   ·rw [if_pos h]
    by_cases hd:(gi L k).c.d=(gi L (k+1)).c.d;all_goals first|rw [if_pos hd,Int.add_zero]|rw [if_neg hd,← Int.add_assoc]
    all_goals
     repeat' (first|(refine Ag.atIdx 11 ?_;apply Ag.weak [.tmp 20];decide +kernel;rfl;rfl;(first|exact NG.ref rfl|exact NG.vec rfl|exact NG.Fj rfl);decide +kernel;rfl)|apply Ad.assoc|apply Ad.BD|apply Ad.Cj|apply Ad.region|apply Ad.FN|apply Ad.E8|apply BK.normal|apply Bh.normal|apply Ad.skip|apply Ai.nil|apply Ag.nil|apply Ai.one|(apply Ag.bar;decide +kernel)|apply Ag.quiet|(apply Aa.Aj (l:=L) (i:=k+1);rfl;exact congrArg (fun b=>some (PV.p (.int .i64 b))) hx;rfl;omega;rfl)|(apply Aa.Aj (l:=L) (i:=k);rfl;exact congrArg (fun b=>some (PV.p (.int .i64 b))) hx2;rfl;omega;rfl)|(apply Aa.assign;rfl)|(apply Aa.move;rfl)|(apply Aa.Nl;rfl;rfl;omega)|(apply Aa.Zd;rfl;rfl;omega)|(apply Aa.int;rfl;rfl;rfl)|(apply Aa.load;rfl;rfl)|(apply Aa.lG;rfl;rfl)|(apply Aa.Ih;rfl;rfl;rfl)|(apply Aa.alloc;rfl)|(apply Aa.FT;rfl;rfl;rfl;trivial;rfl;rfl;exact Bj rfl;exact le_dec rfl)|(apply Aa.yO;rfl;rfl)|(apply Ad.Ac;rfl)|(apply Ad.Aq;rfl)|(intro _;try (exfalso;omega)))
    all_goals try (exfalso;omega)
    all_goals try contradiction
    all_goals
     refine Ah.normal ⟨by first|omega|decide,?_,?_⟩
     ·exact C9
     ·exact DR
   ·rw [if_neg h]
    repeat' (first|(refine Ag.atIdx 11 ?_;apply Ag.weak [.tmp 20];decide +kernel;rfl;rfl;(first|exact NG.ref rfl|exact NG.vec rfl|exact NG.Fj rfl);decide +kernel;rfl)|apply Ad.assoc|apply Ad.BD|apply Ad.Cj|apply Ad.region|apply Ad.FN|apply Ad.Fa|apply Ad.E8|apply BK.normal|apply Bh.exit|apply Ai.nil|apply Ag.nil|apply Ai.one|(apply Ag.bar;decide +kernel)|apply Ag.quiet|(apply Aa.Aj (l:=L) (i:=k+1);rfl;exact congrArg (fun b=>some (PV.p (.int .i64 b))) hx;rfl;omega;rfl)|(apply Aa.Aj (l:=L) (i:=k);rfl;exact congrArg (fun b=>some (PV.p (.int .i64 b))) hx2;rfl;omega;rfl)|(apply Aa.assign;rfl)|(apply Aa.move;rfl)|(apply Aa.Nl;rfl;rfl;omega)|(apply Aa.Zd;rfl;rfl;omega)|(apply Aa.int;rfl;rfl;rfl)|(apply Aa.load;rfl;rfl)|(apply Aa.lG;rfl;rfl)|(apply Aa.Ih;rfl;rfl;rfl)|(apply Aa.alloc;rfl)|(apply Aa.FT;rfl;rfl;rfl;trivial;rfl;rfl;exact Bj rfl;exact le_dec rfl)|(apply Ad.Ac;rfl)|(intro _;try (exfalso;omega)))
    all_goals try (exfalso;omega)
    all_goals try contradiction
    refine Ah.normal ⟨by first|omega|decide,?_,?_⟩
    ·exact C9
    ·exact DR
  ·repeat' (first|refine Eu ?_|(apply Ad.Ac;rfl)|(intro _;try (exfalso;omega)))
   all_goals first|(exfalso;omega)|contradiction|(refine Done.rt rfl rfl ⟨?_,rfl,rfl⟩;try rfl)
theorem a1d (q:Qu):∀ B,(GX q B).length≤B
 |0=>ab _
 |B+1=>by
  have:=a1d q B;unfold GX;grind
theorem b0c (q:Qu) (hq:IK q) (hn:q.p.notes.length≤8):Ap env 17 [.agg (Enc.enc q),.lst 81 (cells (AY q.p)) (AY q.p).length] (.p (.lst 28 (cells (GX q (2 ^ q.p.notes.length))) (GX q (2 ^ q.p.notes.length)).length)):=by
 have hcf:=fun b=>dL q hq (Ue q q.p.notes.length b q.p.notes.length) (JG _ _ _ _)
 have hle:=a1d q;have hpd:∀ k,k<q.p.notes.length→∃ j:Nat,(gi q.p.notes k).d=(j:Int)∧j<q.o.Ae.length∧(gi q.o.Ae j).QK=Ed q k:=fun k hk=>by
  have hN:=(hq.p.note k hk).d;refine ⟨(gi q.p.notes k).d.toNat,by omega,by omega,rfl⟩
 have hB8:2 ^ q.p.notes.length≤256:=aw (by decide) hn;generalize hB:2 ^ q.p.notes.length=B at *;refine Ap.enter (Af (by decide)) Tryz.func17 rfl (by kernel_rfl) (by simp [Tryz.ntmps17]) ?_
 repeat' (first|(refine Ad.at 2 ?_;refine Ad.ghost (Aw.adopt 5 28 rfl) ?_;first|apply Ad.BD|apply Ad.Cj)|refine go2 ?_|apply Ad.BD)
 all_goals try (exfalso;omega)
 apply Ad.F5 (B) [(1,_),(2,_),(6,_)] [(0,_)] (fun k r=>(7,.p (.int .i64 (k:Int)))::(5,.vec 1 (GX q k).length 0 (GX q k).length)::r) (fun k r=>(1,.vec 28 (cells (GX q k)) (GX q k).length true)::r) 2
 ·first|omega|decide
 ·first|omega|decide
 ·exact NI
 ·exact Px
 ·intro b hb
  have hlb:=hle b;have hcb:=hcf b;have e1:GX q (b+1)=if uQ q q.p.notes.length b q.p.notes.length=true∧dI q (Ue q q.p.notes.length b q.p.notes.length)<0 then GX q b++[Ue q q.p.notes.length b q.p.notes.length] else GX q b:=rfl
  rw [e1];generalize GX q b=A at *
  repeat' (first|(refine Ad.at 8 ?_;refine Ad.ghost (Aw.adopt 8 3 rfl) ?_;first|apply Ad.BD|apply Ad.Cj)|refine go2 ?_|apply Ad.BD|(apply Aa.b4q hB;rfl;rfl;omega)|(apply Aa.int;rfl;rfl;rfl)|(apply Ad.Ac;rfl)|(intro _;try (exfalso;omega)))
  all_goals try (exfalso;omega)
  apply Ad.F5 (q.p.notes.length) [(1,_),(2,_),(5,_),(6,_),(7,_)] [(0,_),(1,_)] (fun k_ r=>(10,.p (.int .i64 (k_:Int)))::(8,.vec 2 (Ue q q.p.notes.length b k_).length 0 (Ue q q.p.notes.length b k_).length)::(9,.p (.bool (uQ q q.p.notes.length b k_)))::r) (fun k_ r=>(2,.vec 3 (cells (Ue q q.p.notes.length b k_)) (Ue q q.p.notes.length b k_).length true)::r) 3
  ·first|omega|decide
  ·first|omega|decide
  ·exact NI
  ·exact Px
  ·intro k hk
   obtain ⟨j,hj1,hj2,hj3⟩:=hpd k hk;have hbt:og q.p.notes.length b k=b / 2 ^ (q.p.notes.length-1-k) % 2:=rfl;have e2:Ue q q.p.notes.length b (k+1)=Ue q q.p.notes.length b k++[if Ed q k=true then 2 else (og q.p.notes.length b k:Int)]:=rfl;have e3:uQ q q.p.notes.length b (k+1)=if Ed q k=true then uQ q q.p.notes.length b k&&decide ((og q.p.notes.length b k:Int)=0) else uQ q q.p.notes.length b k:=rfl
   have hsh:((q.p.notes.length:Int)-1-k)=((q.p.notes.length-1-k:Nat):Int):=by omega
   have hlen:=JG q q.p.notes.length b k;rw [e2,e3,hbt];clear e2 e3 hbt;have hbs:b / 2 ^ (q.p.notes.length-1-k)≤b:=gv _ _;have hz:q.p.notes.length-1-k≤8:=by omega
   generalize q.p.notes.length-1-k=z at *;generalize uQ q q.p.notes.length b k=f at *;generalize Ue q q.p.notes.length b k=X at *;generalize hbv:b / 2 ^ z=bv at *;by_cases hp:Ed q k=true
   ·rw [if_pos hp,if_pos hp]
    rw [hp] at hj3;have e4:(X++[(2:Int)]).length=X.length+1:=by rw [ar];rfl
    rw [e4];cases f;all_goals first|rw [cy]|rw [dt]
    all_goals
     repeat' (first|(apply Aa.c2s z hsh;rfl;rfl;(simp only [IntKind.bits];omega);exact hbv)|(apply Aa.Aj (l:=q.p.notes) (i:=k);rfl;rfl;rfl;omega;rfl)|(apply Aa.Aj (l:=q.o.Ae) (i:=j);rfl;exact congrArg (fun b=>some (PV.p (.int .i64 b))) hj1;rfl;omega;rfl)|(apply Aa.CW (l:=X) (a:=(2:Int));rfl;rfl;rfl;rfl;rfl;rfl;rfl;rfl;(intro _ h;cases h);rfl;rfl;rfl;decide;decide;omega)|(apply Aa.CW;rfl;rfl;rfl;rfl;rfl;rfl;rfl;rfl;(intro _ h;cases h);rfl;rfl;rfl;decide;decide;(first|omega|(simp only [List.length_take,List.length_drop,List.length_append,List.length_singleton,List.length_cons,List.length_nil]<;>omega)))|refine fP ?_|(apply Aa.int;rfl;rfl;rfl)|(apply Aa.buildSlice;rfl;rfl;rfl;decide;rfl;rfl;rfl)|(apply Ad.Ac;rfl)|(apply Ad.LP;rfl)|(intro _;try (exfalso;omega)))
    all_goals try (exfalso;omega)
    all_goals try contradiction
    all_goals try exact absurd (hj3.symm.trans ‹(gi q.o.Ae j).QK=false›) (by decide)
    all_goals
     refine Ah.normal ⟨by first|omega|decide,?_,?_⟩
     ·exact C9
     ·exact DR
   ·rw [if_neg hp,if_neg hp]
    rw [show Ed q k=false by simpa using hp] at hj3;have e4:(X++[((bv % 2:Nat):Int)]).length=X.length+1:=by rw [ar];rfl
    rw [e4]
    repeat' (first|(apply Aa.c2s z hsh;rfl;rfl;(simp only [IntKind.bits];omega);exact hbv)|(apply Aa.Aj (l:=q.p.notes) (i:=k);rfl;rfl;rfl;omega;rfl)|(apply Aa.Aj (l:=q.o.Ae) (i:=j);rfl;exact congrArg (fun b=>some (PV.p (.int .i64 b))) hj1;rfl;omega;rfl)|(apply Aa.CW (l:=X) (a:=((bv % 2:Nat):Int));rfl;rfl;rfl;rfl;rfl;rfl;rfl;rfl;(intro _ h;cases h);rfl;rfl;rfl;decide;decide;omega)|(apply Aa.CW;rfl;rfl;rfl;rfl;rfl;rfl;rfl;rfl;(intro _ h;cases h);rfl;rfl;rfl;decide;decide;(first|omega|(simp only [List.length_take,List.length_drop,List.length_append,List.length_singleton,List.length_cons,List.length_nil]<;>omega)))|refine fP ?_|(apply Ai.b6m;rfl;rfl)|(apply Aa.int;rfl;rfl;rfl)|(apply Aa.buildSlice;rfl;rfl;rfl;decide;rfl;rfl;rfl)|(apply Ad.Ac;rfl)|(apply Ad.LP;rfl)|(intro _;try (exfalso;omega)))
    all_goals try (exfalso;omega)
    all_goals try contradiction
    all_goals try exact absurd (hj3.symm.trans ‹(gi q.o.Ae j).QK=true›) (by decide)
    refine Ah.normal ⟨by first|omega|decide,?_,?_⟩
    ·exact C9
    ·exact DR
  ·generalize uQ q q.p.notes.length b q.p.notes.length=f at *
   have hZl:=JG q q.p.notes.length b q.p.notes.length;generalize Ue q q.p.notes.length b q.p.notes.length=Z at *;have e5:(A++[Z]).length=A.length+1:=by rw [ar];rfl
   generalize dI q Z=cf at *;cases f;all_goals by_cases h0:cf<0
   all_goals first|rw [if_pos (And.intro rfl h0),e5]|rw [if_neg (not_and_of_not_left _ Bool.false_ne_true)]|rw [if_neg (not_and_of_not_right _ h0)]
   all_goals
    repeat' (first|(refine Ad.at 16 ?_;refine Ad.ghost (Aw.freeze 8 rfl rfl) ?_;first|apply Ad.BD|apply Ad.Cj)|(apply Aa.fn;rfl;rfl;exact hcb;intro _;rfl)|(apply Aa.CW (l:=A) (a:=Z);rfl;rfl;rfl;rfl;rfl;rfl;rfl;rfl;(intro _ h;cases h);rfl;rfl;rfl;decide;decide;omega)|refine go2 ?_|apply Ad.BD|apply Ad.region|(apply Aa.int;rfl;rfl;rfl)|(apply Aa.buildSlice;rfl;rfl;rfl;decide;rfl;rfl;rfl)|(apply Ad.Ac;rfl)|(apply Ad.cond_false;rfl)|(apply Ad.Aq;rfl)|(intro _;try (exfalso;omega)))
   all_goals try (exfalso;omega)
   all_goals try contradiction
   all_goals
    refine Ah.normal ⟨by first|omega|decide,?_,?_⟩
    ·exact C9
    ·exact DR
 ·repeat' (first|(refine Ai.IL 68 ?_;refine Ai.ghost (Aw.freeze 5 rfl rfl) ?_)|apply Ad.assoc|apply Ad.BD|apply Ad.Fa|apply BK.normal|apply Bh.exit|apply Ah.exit|apply Ad.ret|apply Ai.nil|apply Ai.one|(apply Aa.assign;rfl)|(apply Aa.move;rfl)|(apply Aa.int;rfl;rfl;rfl)|(apply Aa.a9v;rfl;rfl;omega)|(apply Ad.Ac;rfl)|(intro _;try (exfalso;omega)))
  all_goals first|(exfalso;omega)|contradiction|(refine Done.rt rfl rfl ⟨?_,rfl,rfl⟩;try rfl)
end Go.Proofs.YtnjkoebfgcbbdaaGreatDoor
