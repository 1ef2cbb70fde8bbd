/-
  Texts of a proof, merged (HanV, PieX, HanW, HanX, Wm6, HanZ, PieZ, PieTr, OrR, PieCh, PieCia, PieCib, PieCic, PieCid, PieCie, PieCj, PieCk, HanCk). Conditions: in each statement.
-/
import Derived.Test.YtnjkoebfgcbbdaaGreatDoorKCp
set_option linter.unusedSimpArgs false
set_option linter.unusedVariables false
set_option linter.unusedSectionVars false
set_option maxRecDepth 100000
set_option maxHeartbeats 8000000
namespace Go.Proofs.YtnjkoebfgcbbdaaGreatDoor
open Go Go.Am Go.Vm Go.Pie Go.Sch
attribute [local irreducible] Aa Ah Af Ad Az Ai Ba Bq Bd Aj Vm.Done Bg AB RN Bc BX Ew Jj Gp Hold
attribute [local irreducible] BR A8 DJ Dx DX AV Cc
theorem oh:∀ (n:Nat) (a b:List Int),a.length=n→b.length=n→(∀ x∈a,0≤x∧x≤2)→(∀ x∈b,0≤x∧x≤2)→a.foldr (fun x s=>x.toNat+3*s) 0=b.foldr (fun x s=>x.toNat+3*s) 0→a=b
 |0,a,b,ha,hb,_,_,_=>by rw [ar.1 ha,ar.1 hb]
 |n+1,[],_,ha,_,_,_,_=>by cases ha
 |n+1,_::_,[],_,hb,_,_,_=>by cases hb
 |n+1,x::a,y::b,ha,hb,h1,h2,he=>by
  simp only [List.foldr_cons] at he;have hx:=h1 x (by simp);have hy:=h2 y (by simp);have e1:x=y:=by omega
  rw [e1,oh n a b (by simpa using ha) (by simpa using hb) (fun z hz=>h1 z (av _ hz)) (fun z hz=>h2 z (av _ hz)) (by omega)]
theorem yP:∀ (a:List Int),(∀ x∈a,0≤x∧x≤2)→a.foldr (fun x s=>x.toNat+3*s) 0<3 ^ a.length
 |[],_=>by decide
 |x::a,h=>by
  have ih:=yP a fun z hz=>h z (av _ hz)
  have hx:=h x (by simp);grind
theorem a1y (q:Qu) (hq:Na q) (hn:q.p.notes.length≤12) {t:Nat} (ht:t≤(BN q.p).length):(KN q t).length≤1000000:=by
 have hr:∀ l∈KN q t,l.length=q.p.notes.length∧∀ x∈l,0≤x∧x≤2:=fun l hl=>by
  have hi:=(Ql q hq ht l).1 hl;have hlen:l.length=q.p.notes.length:=iw.len hi;refine ⟨hlen,fun x hx=>?_⟩;obtain ⟨i,h1,rfl⟩:=MB hx;exact Yk (Ua q) hi (by omega)
 have h1:((KN q t).map fun a=>a.foldr (fun (x:Int) s=>x.toNat+3*s) 0).Nodup:=by
  refine List.Pairwise.map _ (R:=fun a b=>a∈KN q t∧b∈KN q t∧a≠b) (fun a b ⟨ha,hb,hne⟩ e=>hne ?_) ?_
  ·exact oh _ a b (hr a ha).1 (hr b hb).1 (hr a ha).2 (hr b hb).2 e
  ·exact gm (R:=(·≠·)) (fun {a b} ha hb h=>⟨ha,hb,h⟩) (Z7 q hq ht)
 have h2:=Iz (3 ^ q.p.notes.length) _ h1 fun i hi=>by
  obtain ⟨a,ha,rfl⟩:=be.1 hi;have:=yP a (hr a ha).2;grind
 rw [bc] at h2;have h3:3 ^ q.p.notes.length≤3 ^ 12:=aE (by decide) hn;omega
theorem nI (q:Qu) (hn:q.p.notes.length≤12):∀ t,t<(BN q.p).length→kQ q t≤12:=fun t ht=>by
 refine an (dd _ _) ?_;rw [Z5 q ht];exact an (Vd q.p _ _) hn
theorem ZH (q:Qu) (ho:LQ q.o) (hp:NJ q.p) (hE:hcE q≠0):Ai env 11 [.agg (Enc.enc q)] (.Eb [.p (.agg [.val (.slice none 0 0),.int .i64 0]),.p (.int .i64 (hcE q))]):=by
 have hc:=GZ q ho hp;generalize hcE q=e1 at *;refine Ai.enter (Ae (by decide)) Tryz.func11 rfl (by kernel_rfl) (by simp [Tryz.ntmps11]) ?_
 repeat' (first|(apply Aa.fn;rfl;rfl;exact hc;intro _;rfl)|refine Cb ?_|(apply Aa.int;rfl;rfl;rfl)|(apply Aa.build;rfl;rfl;rfl;rfl;rfl)|(apply Ad.Ac;rfl)|(intro _;try (exfalso;omega)))
 all_goals first|(exfalso;omega)|contradiction|(refine Done.rt rfl rfl ⟨?_,rfl,rfl⟩;try rfl)
theorem WS (q:Qu) (ho:LQ q.o) (hp:NJ q.p) (hE:hcE q≠0):Ai env 12 [.agg (Enc.enc q)] (.Eb [.p (.str ⟨#[]⟩),.p (.int .i64 (hcE q))]):=by
 have hc:=GZ q ho hp;generalize hcE q=e1 at *;refine Ai.enter (Ae (by decide)) Tryz.func12 rfl (by kernel_rfl) (by simp [Tryz.ntmps12]) ?_
 repeat' (first|(apply Aa.fn;rfl;rfl;exact hc;intro _;rfl)|refine Cb ?_|(apply Aa.int;rfl;rfl;rfl)|(apply Ad.Ac;rfl)|(intro _;try (exfalso;omega)))
 all_goals first|(exfalso;omega)|contradiction|(refine Done.rt rfl rfl ⟨?_,rfl,rfl⟩;try rfl)
theorem uD (q:Qu) (hq:Na q) (hn:q.p.notes.length≤12):Jj env 11 [.agg (Enc.enc q)] (nH q):=a1n q hq (nI q hn)
theorem rV (q:Qu) (hq:Na q) (hn:q.p.notes.length≤12):Jj env 12 [.agg (Enc.enc q)] (.Eb [st (Lib.decDigits (KN q (BN q.p).length).length),.p (.int .i64 0)]) :=
 mG q hq (nI q hn) fun t ht=>a1y q hq hn ht
end Go.Proofs.YtnjkoebfgcbbdaaGreatDoor
namespace Go.Proofs.YtnjkoebfgcbbdaaGreatDoor
open Go Go.Am Go.Vm Go.Pie
attribute [local irreducible] Aa Ah Af Ad Az Ai Ba Bq Bd Aj Vm.Done Bg AB
attribute [local irreducible] BR A8 DJ Dx DX AV Cc
open Go.Sch
attribute [local irreducible] RN Bc BX Ew Jj Gp Hold
def thR:Hw:=⟨[79,112,101,110],[79,112,101,110],⟨8,1⟩,36,[1]⟩
def thD:iW:=⟨[71,114,101,97,116],false,36,72,[]⟩
def thO:Ho:=⟨[84,104,114,101,101],[thR],[thD],[]⟩
def thP:Ef:=⟨[0,8],[⟨0,4,0,40⟩,⟨0,4,0,52⟩,⟨4,8,0,60⟩],[]⟩
def thY:Zc:=⟨1,12,0,0⟩
def WH:Qu:=⟨thO,thP,thY⟩
theorem vJ:Ai env 10 [] (.p (.agg (Enc.enc WH))):=by
 refine Ai.enter (Ae (by decide)) Tryz.func10 rfl (by kernel_rfl) (by simp [Tryz.ntmps10]) ?_
 repeat' (first|(refine Ah.Gz 6 ?_;refine Ah.ghost (Ar.freeze 5 rfl rfl) ?_)|(refine Ah.Gz 12 ?_;refine Ah.ghost (Ar.trans (Ar.freeze 8 rfl rfl) (Ar.freeze 11 rfl rfl)) ?_)|(refine Ah.Gz 18 ?_;refine Ah.ghost (Ar.trans (Ar.freeze 13 rfl rfl) (Ar.freeze 17 rfl rfl)) ?_)|apply Ad.Bf|apply Ad.ret|apply Ah.nil|apply Ah.one|(apply Aa.load;rfl;rfl)|(apply Aa.alloc;rfl)|(apply Aa.Dz;rfl;rfl;rfl;trivial;rfl;rfl;exact AY rfl;exact le_dec rfl)|(apply Aa.build;rfl;rfl;rfl;rfl;rfl)|(apply Aa.buildSlice;rfl;rfl;rfl;decide;rfl;rfl;rfl))
 all_goals try (exfalso;omega)
 refine Done.ret rfl (.p (.agg ?_)) trivial BG.nil (aq _) (ab _) ⟨rfl,rfl,rfl⟩;exact .cons (.refl _) (.cons (.refl _) (.cons (.lst (.cons (.refl _) (.cons (.refl _) (.cons (.refl _) (.cons (.refl _) (.cons (.nil _) (.refl _))))))) (.cons (.nil _) (.cons (.refl _) (.cons (.refl _) (.cons (.nil _) (.refl _)))))))
theorem lt1 {i:Nat} (h:i<1):i=0 :=by omega
theorem b6w:BR thR=0:=by
 unfold BR;have h1:DV thR.name:=a4s [79,112,101,110] (by decide) (by decide) (by decide);have h3:RJ thR.Ej=0:=pk1 8 (.inl rfl);have hw:thR.Fj=[1]:=rfl;rw [if_neg (by rintro (h|h);exact h h1;exact h h1),if_neg (fun h=>h h3),if_neg (by show ¬ ((36:Int)< -256∨(36:Int)>256);omega),hw,if_neg (by simp),if_neg (by simp)];unfold A8;rw [if_pos];intro j hj;obtain rfl:=lt1 hj;decide
theorem yx:V6 thO=0:=by
 have eR:thO.ranks=[thR]:=rfl;have eD:thO.Ag=[thD]:=rfl;have eC:thO.Io=[]:=rfl;have eN:thO.name=[84,104,114,101,101]:=rfl;unfold V6;rw [eR,eD,eC,eN];have hr:QA [thR] 0=0:=Vo (fun i hi=>by
  obtain rfl:=lt1 hi;exact ⟨b6w,by simp⟩) _ 0 rfl
 have hv:Dx [thR] thD=0:=by
  unfold Dx;exact SX (fun i hi=>absurd hi (bL _)) _ 0 rfl
 have hd:GK [thR] [thD] 0=0:=TU (fun i hi=>by
  obtain rfl:=lt1 hi;exact ⟨a4s [71,114,101,97,116] (by decide) (by decide) (by decide),by simp,hv⟩) _ 0 rfl
 rw [if_neg (fun h=>h (a4s [84,104,114,101,101] (by decide) (by decide) (by decide))),if_neg (by simp),if_neg (fun h=>h hr),if_neg (by simp),if_neg (by simp),if_neg (fun h=>h hd)];unfold DX;rw [if_neg (by simp)];have hc:TD ([thD].map fun d=>(⟨d.lo,d.hi⟩:lC)) 0=0:=V8 (fun i hi=>by
  obtain rfl:=lt1 hi;rfl) _ 0 rfl
 rw [if_neg (fun h=>h hc)];exact SL (fun i hi=>absurd hi (bL _)) _ 0 rfl
theorem b6d:LQ thO:=by
 refine ⟨by decide,by decide,by decide,by decide,fun i hi=>?_,fun i hi=>?_,fun i hi=>absurd hi (bL _)⟩
 ·obtain rfl:=lt1 hi
  exact ⟨by decide,by decide,by decide⟩
 ·obtain rfl:=lt1 hi
  exact ⟨by decide,by decide,fun j hj=>absurd hj (bL _)⟩
theorem b9c:tC thO:=b6h b6d yx
theorem c0y (N:List GI) (h1:N.length≤1000) (h2:∀ i,i<N.length→(gi N i).d=0∧(36≤(gi N i).k∧(gi N i).k≤72)∧0≤(gi N i).s∧(gi N i).s<(gi N i).e∧(gi N i).e≤8) (h3:∀ i,i<N.length→∀ j,j<i→kL (gi N j) (gi N i)=false):jA thO ⟨[0,8],N,[]⟩:=by
 refine yO ⟨by simp,by grind,by simp,fun i hi=>absurd hi (bL _)⟩ ⟨by simp,by simp⟩ (fun i hi=>?_) h1 (fun i hi=>?_) (by simp) fun i hi=>absurd hi (bL _)
 ·rcases lt2 hi with rfl|rfl
  ·exact ⟨by show (0:Int)≤0∧(0:Int)≤100000;decide,fun h=>by omega⟩
  ·exact ⟨by show (0:Int)≤8∧(8:Int)≤100000;decide,fun _=>by show (0:Int)<8;decide⟩
 ·obtain ⟨g1,g2,g3,g4,g5⟩:=h2 i hi
  refine ⟨by show 0≤(gi N i).d∧(gi N i).d<((1:Nat):Int);omega,?_,by show (0:Int)≤(gi N i).s∧(gi N i).s<(gi N i).e∧(gi N i).e≤8;omega,h3 i hi⟩;rw [g1];exact g2
theorem c0t (N:List GI) (y:Zc) (hy:y.Ok) (h:jA thO ⟨[0,8],N,[]⟩):Na ⟨thO,⟨[0,8],N,[]⟩,y⟩ :=
 ⟨b9c,by unfold VB;rw [if_neg (fun h=>h yx)];exact h.err,h,hy⟩
theorem Yr:Na WH:=c0t _ thY ⟨by decide,by decide,by decide,by decide⟩ (c0y _ (by simp) (fun i hi=>by
 have:i=0∨i=1∨i=2:=by
  grind
 rcases this with rfl|rfl|rfl<;>decide) fun i hi j hj=>by
 have hi3:i=0∨i=1∨i=2:=by
  grind
 rcases hi3 with rfl|rfl|rfl
 ·omega
 ·obtain rfl:j=0:=by omega
  decide
 ·have hj2:j=0∨j=1:=by omega
  rcases hj2 with rfl|rfl<;>decide)
theorem b7l:DT thP=[0,4,8]:=by
 refine yS (XR (gV _)) (by unfold Inc;simp) fun x=>?_
 unfold DT;rw [QB,fw];have:TY thP thP.notes.length=[0,8,0,4,0,4,4,8]:=rfl;grind
theorem jM:BN WH.p=[⟨0,4,[0,1]⟩,⟨4,8,[2]⟩]:=by
 show BN thP=_;unfold BN;rw [b7l];rfl
theorem a3q:J6 WH 0=[0,1]:=by unfold J6;rw [jM];rfl
theorem a8b:J6 WH 1=[2]:=by unfold J6;rw [jM];rfl
def thL:List (List Int):=[[0,1,0],[0,1,1],[1,0,0],[1,0,1]]
theorem yI:∀ l∈([[0,0,0],[0,0,1],[0,1,0],[0,1,1],[1,0,0],[1,0,1],[1,1,0],[1,1,1]]:List (List Int)),(Po WH [0,1] l&&Po WH [2] l)=decide (l∈thL) :=by decide
theorem um (l:List Int):l∈KN WH (BN WH.p).length↔l∈thL:=by
 rw [a1a WH Yr,jM];have h8:∀ l:List Int,(l.length=3∧∀ i,i<3→gi l i=0∨gi l i=1)→l∈([[0,0,0],[0,0,1],[0,1,0],[0,1,1],[1,0,0],[1,0,1],[1,1,0],[1,1,1]]:List (List Int)):=by
  rintro l ⟨h1,h2⟩;obtain ⟨a,b,c,rfl⟩:∃ a b c,l=[a,b,c]:=by
   match l,h1 with
   |[a,b,c],_=>simp
  have ha:a=0∨a=1:=h2 0 (by decide);have hb:b=0∨b=1:=h2 1 (by decide);have hc:c=0∨c=1:=h2 2 (by decide);rcases ha with rfl|rfl<;>rcases hb with rfl|rfl<;>rcases hc with rfl|rfl<;>simp
 have hpd:∀ i,i<3→IK WH i=false:=fun i hi=>by
  have:i=0∨i=1∨i=2:=by omega
  rcases this with rfl|rfl|rfl<;>rfl
 constructor
 ·rintro ⟨h1,h2,h3⟩
  have hl:=h8 l ⟨h1,fun i hi=>by
   have:=h2 i hi;grind⟩
  have hp:=yI l hl;have p0:=h3 0 (by decide);have p1:=h3 1 (by decide);rw [a3q] at p0;rw [a8b] at p1;grind
 ·intro h
  have hl:l∈([[0,0,0],[0,0,1],[0,1,0],[0,1,1],[1,0,0],[1,0,1],[1,1,0],[1,1,1]]:List (List Int)):=by
   simp only [thL,List.mem_cons,List.not_mem_nil,or_false] at h;rcases h with rfl|rfl|rfl|rfl<;>simp
  have hp:=yI l hl;rw [decide_eq_true h,eJ] at hp;refine ⟨?_,fun i hi=>?_,fun t ht=>?_⟩
  ·simp only [thL,List.mem_cons,List.not_mem_nil,or_false] at h
   rcases h with rfl|rfl|rfl|rfl<;>rfl
  ·have hi:i<3:=hi
   rw [hpd i hi];have:i=0∨i=1∨i=2:=by omega
   simp only [thL,List.mem_cons,List.not_mem_nil,or_false] at h;rcases h with rfl|rfl|rfl|rfl<;>rcases this with rfl|rfl|rfl<;>decide
  ·rcases lt2 ht with rfl|rfl
   ·rw [a3q];exact hp.1
   ·rw [a8b];exact hp.2
theorem a9i:(KN WH (BN WH.p).length).length=4:=by
 have h:(KN WH (BN WH.p).length).Perm thL:=(fy (Z7 WH Yr (ab _)) (by decide)).2 um;exact h.length_eq
theorem b4n (l:List Int) (h:Int):IV WH l h 2=(let r0:=Vh thP [0,1] l h 2;let r1:=Vh thP [2] l h 1;let A:=if r0.1=true then [(⟨h,0,r0.2⟩:Pos)] else [];if r1.1=true then A++[⟨h,1,r1.2⟩] else A):=by
 have e0:Gv WH l h 0=Vh thP [0,1] l h 2:=by unfold Gv;rw [a3q];rfl
 have e1:Gv WH l h 1=Vh thP [2] l h 1:=by unfold Gv;rw [a8b];rfl
 unfold IV IV IV;grind
def thC (l:List Int):Int :=
 let P:=fun h:Int=>(let r0:=Vh thP [0,1] l h 2;let r1:=Vh thP [2] l h 1;let A:=if r0.1=true then [(⟨h,0,r0.2⟩:Pos)] else [];if r1.1=true then A++[⟨h,1,r1.2⟩] else A)
 csK (P 0++P 1) ((P 0++P 1).length-1)
theorem l7 (l:List Int):QL WH l=thC l:=by
 unfold QL b5x;have:(BN WH.p).length=2:=by rw [jM];rfl
 rw [this,b4n,b4n];rfl
theorem a5u:thL.map thC=[20,8,8,20] :=by decide
theorem yH:dD WH=some [0,1,1]∧QL WH [0,1,1]=8:=by
 have c:=a5u;simp only [thL,List.map_cons,List.map_nil,List.cons.injEq,and_true] at c;obtain ⟨c0,c1,c2,c3⟩:=c;refine ⟨iO ⟨(um _).2 (by simp [thL]),fun h hh=>?_⟩,by rw [l7,c1]⟩;have:=(um h).1 hh;rw [l7,l7,c1];simp only [thL,List.mem_cons,List.not_mem_nil,or_false] at this;rcases this with rfl|rfl|rfl|rfl
 ·exact .inl (by decide)
 ·exact LD _
 ·exact .inr ⟨rfl,by decide⟩
 ·exact .inl (by decide)
theorem sO:Am.Enters Tryz.prog 11:=⟨_,Tryz.func11,by rfl,by rfl⟩
theorem kN:Am.Enters Tryz.prog 12:=⟨_,Tryz.func12,by rfl,by rfl⟩
theorem KJ:Am.Enters Tryz.prog 9:=⟨_,Tryz.func9,by rfl,by rfl⟩
theorem sN (a b:List Int) (ha:a.length<1000000) (hb:b.length<1000000):Ai env 21 [.lst 3 (cells a) a.length,.lst 3 (cells b) b.length] (.p (.bool (decide (a=b)))):=by
 by_cases hl:a.length=b.length
 ·refine Ai.enter (Ae (by decide)) Tryz.func21 rfl (by kernel_rfl) (by simp [Tryz.ntmps21]) ?_
  repeat' (first|refine go2 ?_|(apply Ad.Ac;rfl)|(intro _;try (exfalso;omega)))
  all_goals try (exfalso;omega)
  apply Ad.Jq (a.length) (fun k=>∀ i,i<k→gi a i=gi b i) [(0,_),(1,_)] [] (fun k r=>(5,.p (.int .i64 (k:Int)))::r) (fun k r=>r) 0
  ·first|omega|decide
  ·first|omega|decide
  ·exact SS
  ·exact Ws
  ·first|(intro _ _;omega)|omega|trivial
  ·intro k hk hi
   by_cases h:gi a k=gi b k
   ·repeat' (first|(apply Aa.Ap;rfl;rfl;rfl;omega;rfl)|refine go2 ?_|(apply Ad.Ac;rfl)|(apply Ad.Aq;rfl)|(intro _;try (exfalso;omega)))
    all_goals try (exfalso;omega)
    all_goals try contradiction
    refine Aj.normal ⟨(fun i hik=>by rcases ax i k with h1|h1;exact hi i h1;rw [show i=k by omega];exact h),by first|omega|decide,?_,?_⟩
    ·exact Dy
    ·exact Ey
   ·rw [decide_eq_false (fun e=>h (by rw [e]))]
    repeat' (first|(apply Aa.Ap;rfl;rfl;rfl;omega;rfl)|refine go2 ?_|(apply Ad.Ac;rfl)|(apply Ad.Aq;rfl)|(intro _;try (exfalso;omega)))
    all_goals first|(exfalso;omega)|contradiction|(refine Done.rt rfl rfl ⟨?_,rfl,rfl⟩;try rfl)
  ·intro hi
   rw [decide_eq_true (KO hl hi)]
   repeat' (first|refine go2 ?_|(apply Ad.Ac;rfl)|(intro _;try (exfalso;omega)))
   all_goals first|(exfalso;omega)|contradiction|(refine Done.rt rfl rfl ⟨?_,rfl,rfl⟩;try rfl)
 ·rw [decide_eq_false (fun e=>hl (by rw [e]))]
  refine Ai.enter (Ae (by decide)) Tryz.func21 rfl (by kernel_rfl) (by simp [Tryz.ntmps21]) ?_
  repeat' (first|refine go2 ?_|(apply Ad.Ac;rfl)|(intro _;try (exfalso;omega)))
  all_goals first|(exfalso;omega)|contradiction|(refine Done.rt rfl rfl ⟨?_,rfl,rfl⟩;try rfl)
theorem c6b:Lib.decDigits 4=[52]:=by rw [Lib.decDigits];rfl
theorem jZ:Jj env 9 [] (.p (.bool true)):=by
 have h3:=vJ;have hB:=uD WH Yr (by show 3≤12;decide);have hC:=rV WH Yr (by show 3≤12;decide);rw [a9i,c6b] at hC;have hR:nH WH=.Eb [.p (.agg [.lst 3 (cells ([0,1,1]:List Int)) 3,.int .i64 8]),.p (.int .i64 0)]:=by
  unfold nH;rw [yH.1];show PV.Eb [.p (.agg [.lst 3 (cells ([0,1,1]:List Int)) 3,.int .i64 (QL WH [0,1,1])]),.p (.int .i64 0)]=_;rw [yH.2]
 rw [hR] at hB;have hs:=sN [0,1,1] [0,1,1] (by show 3<1000000;decide) (by show 3<1000000;decide);rw [decide_eq_true rfl] at hs;refine Jj.enter Tryz.func9 rfl (by kernel_rfl) (by kernel_rfl) (by simp [Tryz.ntmps9]) ?_
 repeat' (first|(refine Bc.at 1 ?_;apply Bc.Qk)|(refine Bc.at 2 ?_;apply Bc.Qk)|(apply BX.fn;rfl;rfl;exact hB;exact sO;intro _;rfl)|(apply BX.fn;rfl;rfl;exact hC;exact kN;intro _;rfl)|(refine Ah.Gz 21 ?_;refine Ah.ghost (Ar.freeze 20 rfl rfl) ?_)|apply Bc.Bf|apply Bc.ret|apply BX.nil|apply BX.one|apply Ah.nil|apply Ah.one|(apply Ah.take;rfl;rfl)|(apply Aa.fn;rfl;rfl;exact h3;intro _;rfl)|(apply Aa.fn;rfl;rfl;exact hs;intro _;rfl)|(apply Aa.assign;rfl)|(apply Aa.move;rfl)|(apply Aa.int;rfl;rfl;rfl)|(apply Aa.load;rfl;rfl)|(apply Aa.ND;rfl;rfl)|(apply Aa.D8;rfl;rfl;rfl)|(apply Aa.alloc;rfl)|(apply Aa.Dz;rfl;rfl;rfl;trivial;rfl;rfl;exact AY rfl;exact le_dec rfl)|(apply Aa.buildSlice;rfl;rfl;rfl;decide;rfl;rfl;rfl)|(apply Aa.eqS;rfl;rfl)|(apply Aa.extract;rfl;rfl))
 all_goals first|(exfalso;omega)|contradiction|(refine Done.rt rfl rfl ⟨?_,rfl,rfl⟩;try rfl)
end Go.Proofs.YtnjkoebfgcbbdaaGreatDoor
namespace Go.Vm
open Go.Am
variable {E:Env} {n bn:Nat} {L:Frame} {H:Heap} {nx:Nat}
theorem BX.zB {ops:Array Oper} {l:List Oper} {R:Frame→Heap→Nat→Prop} (h:Ah E bn ops l L H nx R):BX E n bn ops l L H nx R:=by
 intro hs hok B hB m F σ t h1 h2 h3 ι ac w hst R' hR;obtain ⟨s',⟨K,hk⟩,L',H',nx',F',σ',q,c1,c2,c3⟩:=h B hB m F σ t h1 h2 h3;have hx:=hk K K (ab _) (ab _);have hcall:=II (N:=K) hs.o hs.mix K;have:=O7 (rf:=none) (nn:=0) (Q:=R') hcall l ⟨t,m⟩ s' ι ac w hok hx hst fun a' w' hr=>by
  obtain ⟨ι',he,hst'⟩:=hr;exact hR L' H' nx' a' w' q ⟨s'.m,F',σ',s'.t,ι',c1,c2,c3,he,hst',fun d hd=>PY l _ _ hx hd⟩
 exact this
end Go.Vm
namespace Go.Proofs.YtnjkoebfgcbbdaaGreatDoor
open Go Go.Am Go.Vm Go.Pie Go.Sch
attribute [local irreducible] Aa Ah Af Ad Az Ai Ba Bq Bd Aj Vm.Done Bg AB RN Bc BX Ew Jj Gp Hold
attribute [local irreducible] BR A8 DJ Dx DX AV Cc
structure Rch where
 a:Nat
 b:Nat
 c:Nat
 d:Nat
def Rch.enc (y:Rch):List FV:=[.int .u8 (y.a:Int),.int .u8 (y.b:Int),.int .u8 (y.c:Int),.int .u8 (y.d:Int)]
structure Rch.Ok (y:Rch):Prop where
 a:y.a<256
 b:y.b<256
 c:y.c<256
 d:y.d<256
theorem b2j {j:Nat} {fs:List FV} (h:FC Tryz.prog (j+2) 34 fs):∃ y:Zc,fs=Enc.enc y:=by
 obtain ⟨parts,rfl,hp⟩:=Fh h Tryz.underlying34;obtain ⟨a,b,c,d,rfl,h1,h2,h3,h4⟩:=JE hp;obtain ⟨m1,rfl,q1⟩:=YH (j:=j) h1;obtain ⟨m2,rfl,q2⟩:=YH (j:=j) h2;obtain ⟨m3,rfl,q3⟩:=YH (j:=j) h3;obtain ⟨m4,rfl,q4⟩:=YH (j:=j) h4;exact ⟨⟨m1,m2,m3,m4⟩,rfl⟩
def mkY (y:Rch):Zc:=⟨(y.a:Int) % 5,(y.b:Int) % 16,(y.c:Int) % 4,(y.d:Int) % 16⟩
noncomputable def mkH (x:mJ) (y:Rch):Qu:=⟨lq x.org,mkP x,mkY y⟩
end Go.Proofs.YtnjkoebfgcbbdaaGreatDoor
namespace Go.Proofs.YtnjkoebfgcbbdaaGreatDoor
open Go Go.Am Go.Vm Go.Pie
attribute [local irreducible] Aa Ah Af Ad Az Ai Ba Bq Bd Aj Vm.Done Bg AB
attribute [local irreducible] BR A8 DJ Dx DX AV Cc
def mvN (b:Int) (n:GI):GI:=⟨n.s,n.e,n.d,n.k+b⟩
def trK (b:Int) (l:List GI) (k:Nat):List GI:=BD (fun i=>if i<k then mvN b (gi l i) else gi l i) l.length
def trP (b:Int) (p:Ef):Ef:=⟨p.bars,trK b p.notes p.notes.length,p.sets⟩
def c5b (o:Ho) (p:Ef) (b:Int) (i:Nat):Prop:=(gi o.Ag (gi p.notes i).d.toNat).lo≤(gi p.notes i).k+b∧(gi p.notes i).k+b≤(gi o.Ag (gi p.notes i).d.toNat).hi
def c4n (o:Ho) (p:Ef) (b:Int):Prop:=∀ i,i<p.notes.length→c5b o p b i
noncomputable instance (o:Ho) (p:Ef) (b:Int):Decidable (c4n o p b):=Classical.propDecidable _
theorem JR (l:List GI) (h0:0<l.length) (h1:l.length<1000000):Ba env 76 [.lst 39 (cells l) l.length] 39 (cells l) l.length false:=by
 refine Ba.enter (Ae (by decide)) Tryz.func76 rfl (by kernel_rfl) (by simp) ?_
 repeat' (first|(apply Aa.TW;rfl;rfl;rfl;exact h0)|(apply Aa.FM;rfl;rfl;rfl;(first|rfl|omega|(simp only [List.length_take,List.length_drop,List.length_append,List.length_singleton,List.length_cons,List.length_nil]<;>omega));rfl;rfl;(intro _ h;cases h);rfl;rfl;rfl;decide;decide;(first|omega|(simp only [List.length_take,List.length_drop,List.length_append,List.length_singleton,List.length_cons,List.length_nil]<;>omega)))|refine Cb ?_|(apply Aa.buildSlice;rfl;rfl;rfl;decide;rfl;rfl;rfl)|(apply Ad.Ak;rfl))
 exact Bg.ret rfl rfl rfl rfl
theorem bG:Ai env 76 [.lst 39 (cells ([]:List GI)) 0] (.p (.lst 39 (cells ([]:List GI)) 0)):=by
 refine Ai.enter (Ae (by decide)) Tryz.func76 rfl (by kernel_rfl) (by simp) ?_
 repeat' (first|(refine Ah.Gz 2 ?_;refine Ah.ghost (Ar.freeze 7 rfl rfl) ?_)|apply Ad.assoc|apply Ad.Bf|apply Ad.CO|apply Ad.Fq|apply Ad.ret|apply Ah.nil|apply Ah.one|(apply Aa.eqNil;rfl;rfl;rfl)|(apply Aa.assign;rfl)|(apply Aa.move;rfl)|(apply Aa.buildSlice;rfl;rfl;rfl;decide;rfl;rfl;rfl)|(apply Aa.FM;rfl;rfl;rfl;(first|rfl|omega|(simp only [List.length_take,List.length_drop,List.length_append,List.length_singleton,List.length_cons,List.length_nil]<;>omega));rfl;rfl;(intro _ h;cases h);rfl;rfl;rfl;decide;decide;(first|omega|(simp only [List.length_take,List.length_drop,List.length_append,List.length_singleton,List.length_cons,List.length_nil]<;>omega)))|(apply Ad.JO;rfl)|(intro _))
 all_goals first|(omega)|(refine Done.ret rfl (.p (.nil _)) trivial BG.nil (aq _) (ab _) ⟨rfl,rfl,rfl⟩;done)|(refine Done.rt rfl rfl ⟨?_,rfl,rfl⟩;try rfl)
end Go.Proofs.YtnjkoebfgcbbdaaGreatDoor
namespace Go.Proofs.YtnjkoebfgcbbdaaGreatDoor
open Go Go.Am Go.Vm
attribute [local irreducible] Aa Ah Af Ad Az Ai Ba Bq Bd Aj Vm.Done Bg AB
structure Slp where
 kind:Nat
 at_:Nat
instance:Enc Slp:={ default:=⟨0,0⟩,enc:=fun x=>[.int .u8 (x.kind:Int),.int .u8 (x.at_:Int)],size:=2,len:=fun _=>rfl }
structure Slp.Ok (x:Slp):Prop where
 kind:x.kind<256
 at_:x.at_<256
structure c8w (n:Nat) (o:Ho):Prop where
 sm:LQ o
 ranks:o.ranks.length≤n
 Ag:o.Ag.length≤n
 Io:o.Io.length≤n
 stops:∀ i,i<o.Ag.length→(gi o.Ag i).stops.length≤n
def chA:List (List UInt8):=[[],[55],[97,32,98],[70,105,110,101]]
def chB:List (List UInt8):=[[],[82,48],[82,57]]
def chC:List (List UInt8):=[[],[68,48],[68,49],[83,111,108,111]]
def chD:List (List UInt8):=[[],[83,49],[84],[83,50]]
def chE:List (List UInt8):=[[],[67,48],[68,48]]
def cpA:List lC:=[⟨-1,40⟩,⟨50,40⟩,⟨0,128⟩,⟨0,127⟩]
def Gj {α:Type} (f:List α→α) (l:List α):Nat→List α
 |0=>l
 |k+1=>Gj f l k++[f (Gj f l k)]
theorem Np {α:Type} (f:List α→α) (l:List α):∀ k,(Gj f l k).length=l.length+k
 |0=>rfl
 |k+1=>by simp [Gj,Np f l k];omega
def c3s (nm:List UInt8) (R:List Hw) (nr:Nat) (D:List iW) (nd:Nat) (C:List lM) (nc:Nat):List FV:=[.str (bs nm),.lst 113 (cells R) nr,.lst 118 (cells D) nd,.lst 236 (cells C) nc]
open Go.Pie
attribute [local irreducible] BR A8 DJ Dx DX AV Cc
structure Gx (p:Ef) (n:Nat):Prop where
 lb:p.bars.length≤n
 ln:p.notes.length≤n
 ls:p.sets.length≤n
 bars:∀ i,i<p.bars.length→-(n:Int)≤gi p.bars i∧gi p.bars i≤n
 notes:∀ i,i<p.notes.length→(-(n:Int)≤(gi p.notes i).s∧(gi p.notes i).s≤n)∧(-(n:Int)≤(gi p.notes i).e∧(gi p.notes i).e≤n)∧(-(n:Int)≤(gi p.notes i).d∧(gi p.notes i).d≤n)∧(-(n:Int)≤(gi p.notes i).k∧(gi p.notes i).k≤n)
 sets:∀ i,i<p.sets.length→(-(n:Int)≤(gi p.sets i).bar∧(gi p.sets i).bar≤n)∧(gi p.sets i).reg.Ok
def Dp (B:List Int) (nb:Nat) (N:List GI) (nn:Nat) (S:List Ny) (ns:Nat):List FV:=[.lst 3 (cells B) nb,.lst 39 (cells N) nn,.lst 182 (cells S) ns]
theorem Jy {B:List Int} {nb:Nat} {N:List GI} {nn:Nat} {S:List Ny} {ns:Nat} (h1:B.length=nb) (h2:N.length=nn) (h3:S.length=ns):Enc.enc (⟨B,N,S⟩:Ef)=Dp B nb N nn S ns:=by subst h1;subst h2;subst h3;rfl
theorem DK (l:List Int) (h1:l.length<1000000):Ai env 75 [.lst 3 (cells l) l.length] (.p (.lst 3 (cells l) l.length)):=by
 rcases am l.length with h0|h0
 ·obtain rfl:l=[]:=ar.1 h0
  refine Ai.enter (Ae (by decide)) Tryz.func75 rfl (by kernel_rfl) (by simp [Tryz.ntmps75]) ?_
  repeat' (first|(refine Ah.Gz 2 ?_;refine Ah.ghost (Ar.freeze 7 rfl rfl) ?_)|apply Ad.assoc|apply Ad.Bf|apply Ad.CO|apply Ad.Fq|apply Ad.ret|apply Ah.nil|apply Ah.one|(apply Aa.eqNil;rfl;rfl;rfl)|(apply Aa.assign;rfl)|(apply Aa.move;rfl)|(apply Aa.buildSlice;rfl;rfl;rfl;decide;rfl;rfl;rfl)|(apply Aa.FM;rfl;rfl;rfl;(first|rfl|omega|(simp only [List.length_take,List.length_drop,List.length_append,List.length_singleton,List.length_cons,List.length_nil]<;>omega));rfl;rfl;(intro _ h;cases h);rfl;rfl;rfl;decide;decide;(first|omega|(simp only [List.length_take,List.length_drop,List.length_append,List.length_singleton,List.length_cons,List.length_nil]<;>omega)))|(apply Ad.JO;rfl)|(intro _;try (exfalso;omega)))
  all_goals first|(exfalso;omega)|(refine Done.ret rfl (.p (.nil _)) trivial BG.nil (aq _) (ab _) ⟨rfl,rfl,rfl⟩;done)|(refine Done.rt rfl rfl ⟨?_,rfl,rfl⟩;try rfl)
 ·refine Ai.enter (Ae (by decide)) Tryz.func75 rfl (by kernel_rfl) (by simp [Tryz.ntmps75]) ?_
  repeat' (first|(refine Ah.Gz 2 ?_;refine Ah.ghost (Ar.freeze 7 rfl rfl) ?_)|apply Ad.assoc|apply Ad.Bf|apply Ad.CO|apply Ad.ret|apply Ah.nil|apply Ah.one|(apply Aa.TW;rfl;rfl;rfl;exact h0)|(apply Aa.assign;rfl)|(apply Aa.move;rfl)|(apply Aa.buildSlice;rfl;rfl;rfl;decide;rfl;rfl;rfl)|(apply Aa.FM;rfl;rfl;rfl;(first|rfl|omega|(simp only [List.length_take,List.length_drop,List.length_append,List.length_singleton,List.length_cons,List.length_nil]<;>omega));rfl;rfl;(intro _ h;cases h);rfl;rfl;rfl;decide;decide;(first|omega|(simp only [List.length_take,List.length_drop,List.length_append,List.length_singleton,List.length_cons,List.length_nil]<;>omega)))|(apply Ad.Ak;rfl))
  all_goals first|(exfalso;omega)|(refine Done.rt rfl rfl ⟨?_,rfl,rfl⟩;try rfl)
theorem DW (l:List GI) (h1:l.length<1000000):Ai env 76 [.lst 39 (cells l) l.length] (.p (.lst 39 (cells l) l.length)):=by
 rcases am l.length with h0|h0
 ·obtain rfl:l=[]:=ar.1 h0
  exact bG
 ·refine Ai.enter (Ae (by decide)) Tryz.func76 rfl (by kernel_rfl) (by simp [Tryz.ntmps76]) ?_
  repeat' (first|(refine Ah.Gz 2 ?_;refine Ah.ghost (Ar.freeze 7 rfl rfl) ?_)|apply Ad.assoc|apply Ad.Bf|apply Ad.CO|apply Ad.ret|apply Ah.nil|apply Ah.one|(apply Aa.TW;rfl;rfl;rfl;exact h0)|(apply Aa.assign;rfl)|(apply Aa.move;rfl)|(apply Aa.buildSlice;rfl;rfl;rfl;decide;rfl;rfl;rfl)|(apply Aa.FM;rfl;rfl;rfl;(first|rfl|omega|(simp only [List.length_take,List.length_drop,List.length_append,List.length_singleton,List.length_cons,List.length_nil]<;>omega));rfl;rfl;(intro _ h;cases h);rfl;rfl;rfl;decide;decide;(first|omega|(simp only [List.length_take,List.length_drop,List.length_append,List.length_singleton,List.length_cons,List.length_nil]<;>omega)))|(apply Ad.Ak;rfl))
  all_goals first|(exfalso;omega)|(refine Done.rt rfl rfl ⟨?_,rfl,rfl⟩;try rfl)
theorem DZ (l:List Ny) (h1:l.length<1000000):Ai env 77 [.lst 182 (cells l) l.length] (.p (.lst 182 (cells l) l.length)):=by
 rcases am l.length with h0|h0
 ·obtain rfl:l=[]:=ar.1 h0
  refine Ai.enter (Ae (by decide)) Tryz.func77 rfl (by kernel_rfl) (by simp [Tryz.ntmps77]) ?_
  repeat' (first|(refine Ah.Gz 2 ?_;refine Ah.ghost (Ar.freeze 7 rfl rfl) ?_)|apply Ad.assoc|apply Ad.Bf|apply Ad.CO|apply Ad.Fq|apply Ad.ret|apply Ah.nil|apply Ah.one|(apply Aa.eqNil;rfl;rfl;rfl)|(apply Aa.assign;rfl)|(apply Aa.move;rfl)|(apply Aa.buildSlice;rfl;rfl;rfl;decide;rfl;rfl;rfl)|(apply Aa.FM;rfl;rfl;rfl;(first|rfl|omega|(simp only [List.length_take,List.length_drop,List.length_append,List.length_singleton,List.length_cons,List.length_nil]<;>omega));rfl;rfl;(intro _ h;cases h);rfl;rfl;rfl;decide;decide;(first|omega|(simp only [List.length_take,List.length_drop,List.length_append,List.length_singleton,List.length_cons,List.length_nil]<;>omega)))|(apply Ad.JO;rfl)|(intro _;try (exfalso;omega)))
  all_goals first|(exfalso;omega)|(refine Done.ret rfl (.p (.nil _)) trivial BG.nil (aq _) (ab _) ⟨rfl,rfl,rfl⟩;done)|(refine Done.rt rfl rfl ⟨?_,rfl,rfl⟩;try rfl)
 ·refine Ai.enter (Ae (by decide)) Tryz.func77 rfl (by kernel_rfl) (by simp [Tryz.ntmps77]) ?_
  repeat' (first|(refine Ah.Gz 2 ?_;refine Ah.ghost (Ar.freeze 7 rfl rfl) ?_)|apply Ad.assoc|apply Ad.Bf|apply Ad.CO|apply Ad.ret|apply Ah.nil|apply Ah.one|(apply Aa.TW;rfl;rfl;rfl;exact h0)|(apply Aa.assign;rfl)|(apply Aa.move;rfl)|(apply Aa.buildSlice;rfl;rfl;rfl;decide;rfl;rfl;rfl)|(apply Aa.FM;rfl;rfl;rfl;(first|rfl|omega|(simp only [List.length_take,List.length_drop,List.length_append,List.length_singleton,List.length_cons,List.length_nil]<;>omega));rfl;rfl;(intro _ h;cases h);rfl;rfl;rfl;decide;decide;(first|omega|(simp only [List.length_take,List.length_drop,List.length_append,List.length_singleton,List.length_cons,List.length_nil]<;>omega)))|(apply Ad.Ak;rfl))
  all_goals first|(exfalso;omega)|(refine Done.rt rfl rfl ⟨?_,rfl,rfl⟩;try rfl)
theorem NW (l:List Ny) (h0:0<l.length) (h1:l.length<1000000):Ba env 77 [.lst 182 (cells l) l.length] 182 (cells l) l.length false:=by
 refine Ba.enter (Ae (by decide)) Tryz.func77 rfl (by kernel_rfl) (by simp [Tryz.ntmps77]) ?_
 repeat' (first|(apply Aa.TW;rfl;rfl;rfl;exact h0)|(apply Aa.FM;rfl;rfl;rfl;(first|rfl|omega|(simp only [List.length_take,List.length_drop,List.length_append,List.length_singleton,List.length_cons,List.length_nil]<;>omega));rfl;rfl;(intro _ h;cases h);rfl;rfl;rfl;decide;decide;(first|omega|(simp only [List.length_take,List.length_drop,List.length_append,List.length_singleton,List.length_cons,List.length_nil]<;>omega)))|refine Cb ?_|(apply Aa.buildSlice;rfl;rfl;rfl;decide;rfl;rfl;rfl)|(apply Ad.Ak;rfl))
 exact Bg.ret rfl rfl rfl rfl
def FY (K A:Nat) (B:Int):List FV:=[.int .u8 (K:Int),.int .u8 (A:Int),.int .i8 B]
theorem a3w (p:Ef) (n:Nat) (hn:n≤400000) (h:Gx p n) (h0:0<p.bars.length) (K A:Nat) (B:Int) (hK:K<256) (hA:A<256) (hB:-128≤B∧B≤127) (hk:K % 12=0):Ai env 30 [.agg (Enc.enc p),.agg (FY K A B)] (.p (.agg (Dp p.bars p.bars.length p.notes p.notes.length p.sets p.sets.length))):=by
 have b1:=h.lb;have b2:=h.ln;have b3:=h.ls;have hb:=DK p.bars (by omega);have hc:=DW p.notes (by omega);have hs:=DZ p.sets (by omega);unfold FY Dp;rcases am p.sets.length with c1|c1
 all_goals rcases am p.notes.length with c2|c2
 all_goals
  refine Ai.enter (Ae (by decide)) Tryz.func30 rfl (by kernel_rfl) (by simp [Tryz.ntmps30]) ?_
 all_goals
  repeat' (first|apply Ad.assoc|apply Ad.Bf|apply Ad.Bl|apply Ad.CO|apply Ad.Fq|apply Ad.CW|apply Bq.normal|apply Bd.normal|apply Ad.ret|apply Ad.skip|apply Ah.nil|apply Af.nil|apply Ah.one|(apply Af.bar;decide +kernel)|apply Af.quiet|(apply Aa.fn;rfl;rfl;exact hb;intro _;rfl)|(apply Aa.fn;rfl;rfl;exact hc;intro _;rfl)|(apply Aa.fn;rfl;rfl;exact hs;intro _;rfl)|(apply Aa.Qv;rfl;rfl;omega)|(apply Aa.Ap (l:=p.sets) (i:=A % p.sets.length);rfl;rfl;rfl;exact ao _ (by omega);rfl)|(apply Aa.Ap (l:=p.notes) (i:=A % p.notes.length);rfl;rfl;rfl;exact ao _ (by omega);rfl)|(apply Aa.assign;rfl)|(apply Aa.KL;rfl;rfl;omega;omega)|(apply Aa.int;rfl;rfl;rfl)|(apply Aa.load;rfl;rfl)|(apply Aa.Nk;rfl;rfl)|(apply Aa.D8;rfl;rfl;rfl)|(apply Aa.box;rfl;trivial)|(apply Aa.alloc;rfl)|(apply Aa.Dz;rfl;rfl;rfl;trivial;rfl;rfl;exact AY rfl;exact le_dec rfl)|(apply Aa.Ea;rfl;rfl;rfl;rfl;omega)|(apply Ad.Ac;rfl)|(apply Ad.Aq;rfl)|(intro _;try (exfalso;omega)))
 all_goals first|(exfalso;omega)|contradiction|(refine Done.rt rfl rfl ⟨?_,rfl,rfl⟩;try rfl)
theorem a7k (p:Ef) (n:Nat) (hn:n≤400000) (h:Gx p n) (h0:0<p.bars.length) (K A:Nat) (B:Int) (hK:K<256) (hA:A<256) (hB:-128≤B∧B≤127) (hk:K % 12=1):Ai env 30 [.agg (Enc.enc p),.agg (FY K A B)] (.p (.agg (Dp (p.bars.set (A % p.bars.length) (gi p.bars (A % p.bars.length)+B)) p.bars.length p.notes p.notes.length p.sets p.sets.length))):=by
 have b1:=h.lb;have b2:=h.ln;have b3:=h.ls;have hb:=J4 p.bars h0 (by omega);have hc:=DW p.notes (by omega);have hs:=DZ p.sets (by omega);have hx:A % p.bars.length<p.bars.length:=ao _ h0;have hbb:=h.bars (A % p.bars.length) hx;unfold FY Dp;rcases am p.sets.length with c1|c1
 all_goals rcases am p.notes.length with c2|c2
 all_goals
  refine Ai.enter (Ae (by decide)) Tryz.func30 rfl (by kernel_rfl) (by simp [Tryz.ntmps30]) ?_
 all_goals
  repeat' (first|(refine Ad.at 15 ?_;refine Ad.ghost (Ar.BI 0 0 rfl rfl rfl) ?_;first|apply Ad.Bf|apply Ad.Bl)|apply Ad.assoc|apply Ad.Bf|apply Ad.Bl|apply Ad.Dq|apply Ad.CO|apply Ad.Fq|apply Ad.CW|apply Bq.normal|apply Bd.normal|apply Ad.ret|apply Ad.skip|apply Ah.nil|apply Af.nil|apply Ah.one|(apply Af.bar;decide +kernel)|apply Af.quiet|(apply Aa.fv;rfl;rfl;exact hb)|(apply Aa.fn;rfl;rfl;exact hc;intro _;rfl)|(apply Aa.fn;rfl;rfl;exact hs;intro _;rfl)|(apply Aa.Qv;rfl;rfl;omega)|(apply Aa.Di (l:=p.bars) (i:=A % p.bars.length);rfl;rfl;rfl;rfl;exact hx)|(apply Aa.Oo (l:=p.bars) (i:=A % p.bars.length);rfl;rfl;exact hx;rfl)|(apply Aa.JQ (l:=p.bars) (i:=A % p.bars.length) (y:=gi p.bars (A % p.bars.length)+B);rfl;rfl;rfl;trivial;rfl;rfl;rfl;decide;exact hx)|(apply Aa.Ap (l:=p.sets) (i:=A % p.sets.length);rfl;rfl;rfl;exact ao _ (by omega);rfl)|(apply Aa.Ap (l:=p.notes) (i:=A % p.notes.length);rfl;rfl;rfl;exact ao _ (by omega);rfl)|(apply Aa.assign;rfl)|(apply Aa.move;rfl)|(apply Aa.Jl;rfl;rfl;omega)|(apply Aa.KL;rfl;rfl;omega;omega)|(apply Aa.int;rfl;rfl;rfl)|(apply Aa.load;rfl;rfl)|(apply Aa.Nk;rfl;rfl)|(apply Aa.lenV;rfl;rfl;rfl)|(apply Aa.D8;rfl;rfl;rfl)|(apply Aa.box;rfl;trivial)|(apply Aa.alloc;rfl)|(apply Aa.Dz;rfl;rfl;rfl;trivial;rfl;rfl;exact AY rfl;exact le_dec rfl)|(apply Aa.Ea;rfl;rfl;rfl;rfl;omega)|(apply Ad.Ac;rfl)|(apply Ad.Aq;rfl)|(intro _;try (exfalso;omega)))
 all_goals first|(exfalso;omega)|contradiction|(refine Done.rt rfl rfl ⟨?_,rfl,rfl⟩;try rfl)
theorem a7e (p:Ef) (n:Nat) (hn:n≤400000) (h:Gx p n) (h0:0<p.bars.length) (K A:Nat) (B:Int) (hK:K<256) (hA:A<256) (hB:-128≤B∧B≤127) (hk:K % 12=2):Ai env 30 [.agg (Enc.enc p),.agg (FY K A B)] (.p (.agg (Dp (p.bars.take (A % p.bars.length)) (A % p.bars.length) p.notes p.notes.length p.sets p.sets.length))):=by
 have b1:=h.lb;have b2:=h.ln;have b3:=h.ls;have hb:=DK p.bars (by omega);have hc:=DW p.notes (by omega);have hs:=DZ p.sets (by omega);have hx:A % p.bars.length<p.bars.length:=ao _ h0;have hbb:=h.bars (A % p.bars.length) hx;unfold FY Dp;rcases am p.sets.length with c1|c1
 all_goals rcases am p.notes.length with c2|c2
 all_goals
  refine Ai.enter (Ae (by decide)) Tryz.func30 rfl (by kernel_rfl) (by simp [Tryz.ntmps30]) ?_
 all_goals
  repeat' (first|apply Ad.assoc|apply Ad.Bf|apply Ad.Bl|apply Ad.region|apply Ad.CO|apply Ad.Fq|apply Ad.CW|apply Bq.normal|apply Bd.normal|apply Ad.ret|apply Ad.skip|apply Ah.nil|apply Af.nil|apply Ah.one|(apply Af.bar;decide +kernel)|apply Af.quiet|(apply Aa.fn;rfl;rfl;exact hb;intro _;rfl)|(apply Aa.fn;rfl;rfl;exact hc;intro _;rfl)|(apply Aa.fn;rfl;rfl;exact hs;intro _;rfl)|(apply Aa.Qv;rfl;rfl;omega)|(apply Aa.sliceTo (l:=p.bars) (b:=A % p.bars.length);rfl;rfl;rfl;rfl;rfl;rfl;exact gk hx)|(apply Aa.Ap (l:=p.sets) (i:=A % p.sets.length);rfl;rfl;rfl;exact ao _ (by omega);rfl)|(apply Aa.Ap (l:=p.notes) (i:=A % p.notes.length);rfl;rfl;rfl;exact ao _ (by omega);rfl)|(apply Aa.assign;rfl)|(apply Aa.move;rfl)|(apply Aa.KL;rfl;rfl;omega;omega)|(apply Aa.int;rfl;rfl;rfl)|(apply Aa.load;rfl;rfl)|(apply Aa.Nk;rfl;rfl)|(apply Aa.D8;rfl;rfl;rfl)|(apply Aa.box;rfl;trivial)|(apply Aa.alloc;rfl)|(apply Aa.Dz;rfl;rfl;rfl;trivial;rfl;rfl;exact AY rfl;exact le_dec rfl)|(apply Aa.Ea;rfl;rfl;rfl;rfl;omega)|(apply Ad.Ac;rfl)|(apply Ad.Aq;rfl)|(intro _;try (exfalso;omega)))
 all_goals first|(exfalso;omega)|contradiction|(refine Done.rt rfl rfl ⟨?_,rfl,rfl⟩;try rfl)
theorem a5d (p:Ef) (n:Nat) (hn:n≤400000) (h:Gx p n) (h0:0<p.bars.length) (K A:Nat) (B:Int) (hK:K<256) (hA:A<256) (hB:-128≤B∧B≤127) (hk:K % 12=4):Ai env 30 [.agg (Enc.enc p),.agg (FY K A B)] (.p (.agg (Dp (p.bars++[99998+((A % 5:Nat):Int)]) (p.bars.length+1) p.notes p.notes.length p.sets p.sets.length))):=by
 have b1:=h.lb;have b2:=h.ln;have b3:=h.ls;have hb:=J4 p.bars h0 (by omega);have hc:=DW p.notes (by omega);have hs:=DZ p.sets (by omega);unfold FY Dp;rcases am p.sets.length with c1|c1
 all_goals rcases am p.notes.length with c2|c2
 all_goals
  refine Ai.enter (Ae (by decide)) Tryz.func30 rfl (by kernel_rfl) (by simp [Tryz.ntmps30]) ?_
 all_goals
  repeat' (first|(refine Ad.at 15 ?_;refine Ad.ghost (Ar.BI 0 0 rfl rfl rfl) ?_;first|apply Ad.Bf|apply Ad.Bl)|apply Ad.assoc|apply Ad.Bf|apply Ad.Bl|apply Ad.region|apply Ad.CO|apply Ad.Fq|apply Ad.CW|apply Bq.normal|apply Bd.normal|apply Ad.ret|apply Ad.skip|apply Ah.nil|apply Af.nil|apply Ah.one|(apply Af.bar;decide +kernel)|apply Af.quiet|(apply Aa.fv;rfl;rfl;exact hb)|(apply Aa.fn;rfl;rfl;exact hc;intro _;rfl)|(apply Aa.fn;rfl;rfl;exact hs;intro _;rfl)|(apply Aa.Qv;rfl;rfl;omega)|(apply Aa.Dk (a:=(99998+((A % 5:Nat):Int):Int));rfl;rfl;rfl;rfl;rfl;rfl;rfl;rfl;(intro _ h;cases h);rfl;rfl;rfl;decide;decide;(first|omega|(simp only [List.length_take,List.length_drop,List.length_append,List.length_singleton,List.length_cons,List.length_nil]<;>omega)))|(apply Aa.Ap (l:=p.sets) (i:=A % p.sets.length);rfl;rfl;rfl;exact ao _ (by omega);rfl)|(apply Aa.Ap (l:=p.notes) (i:=A % p.notes.length);rfl;rfl;rfl;exact ao _ (by omega);rfl)|(apply Aa.assign;rfl)|(apply Aa.Jl;rfl;rfl;omega)|(apply Aa.KL;rfl;rfl;omega;omega)|(apply Aa.int;rfl;rfl;rfl)|(apply Aa.load;rfl;rfl)|(apply Aa.Nk;rfl;rfl)|(apply Aa.lenV;rfl;rfl;rfl)|(apply Aa.D8;rfl;rfl;rfl)|(apply Aa.box;rfl;trivial)|(apply Aa.alloc;rfl)|(apply Aa.Dz;rfl;rfl;rfl;trivial;rfl;rfl;exact AY rfl;exact le_dec rfl)|(apply Aa.buildSlice;rfl;rfl;rfl;decide;rfl;rfl;rfl)|(apply Aa.Ea;rfl;rfl;rfl;rfl;omega)|(apply Ad.Ac;rfl)|(apply Ad.Aq;rfl)|(intro _;try (exfalso;omega)))
 all_goals first|(exfalso;omega)|contradiction|(refine Done.rt rfl rfl ⟨?_,rfl,rfl⟩;try rfl)
theorem a4t (p:Ef) (n:Nat) (hn:n≤400000) (h:Gx p n) (h0:0<p.bars.length) (hz:0<p.sets.length) (K A:Nat) (B:Int) (hK:K<256) (hA:A<256) (hB:-128≤B∧B≤127) (hk:K % 12=6):Ai env 30 [.agg (Enc.enc p),.agg (FY K A B)] (.p (.agg (Dp p.bars p.bars.length p.notes p.notes.length (p.sets.set (A % p.sets.length) (⟨(gi p.sets (A % p.sets.length)).bar+B,(gi p.sets (A % p.sets.length)).reg⟩:Ny)) p.sets.length))):=by
 have b1:=h.lb;have b2:=h.ln;have b3:=h.ls;have hb:=DK p.bars (by omega);have hc:=DW p.notes (by omega);have hs:=NW p.sets hz (by omega);have hx:A % p.sets.length<p.sets.length:=ao _ hz;have hbb:=(h.sets (A % p.sets.length) hx).1;have hrr:=(h.sets (A % p.sets.length) hx).2;have hr1:=hrr.cp;unfold FY Dp;all_goals rcases am p.notes.length with c2|c2
 all_goals
  refine Ai.enter (Ae (by decide)) Tryz.func30 rfl (by kernel_rfl) (by simp [Tryz.ntmps30]) ?_
 all_goals
  repeat' (first|(refine Ad.at 22 ?_;refine Ad.ghost (Ar.BI 0 2 rfl rfl rfl) ?_;first|apply Ad.Bf|apply Ad.Bl)|apply Ad.assoc|apply Ad.Bf|apply Ad.Bl|apply Ad.Dq|apply Ad.CO|apply Ad.Fq|apply Ad.CW|apply Bq.normal|apply Bd.normal|apply Ad.ret|apply Ad.skip|apply Ah.nil|apply Af.nil|apply Ah.one|(apply Af.bar;decide +kernel)|apply Af.quiet|(apply Aa.fn;rfl;rfl;exact hb;intro _;rfl)|(apply Aa.fn;rfl;rfl;exact hc;intro _;rfl)|(apply Aa.fv;rfl;rfl;exact hs)|(apply Aa.Qv;rfl;rfl;omega)|(apply Aa.Di (l:=p.sets) (i:=A % p.sets.length);rfl;rfl;rfl;rfl;exact hx)|(apply Aa.RD;rfl;rfl)|(apply Aa.VJ;rfl;rfl;rfl)|(apply Aa.V3 (α:=Ny) (l:=p.sets) (i:=A % p.sets.length) (f:=0);rfl;rfl;exact hx;decide;rfl)|(apply Aa.Rz (α:=Ny) (l:=p.sets) (i:=A % p.sets.length) (f:=0) (y:=(⟨(gi p.sets (A % p.sets.length)).bar+B,(gi p.sets (A % p.sets.length)).reg⟩:Ny)) (fs:=[.int .i64 ((gi p.sets (A % p.sets.length)).bar+B)]);rfl;rfl;rfl;trivial;rfl;rfl;rfl;decide;exact hx;decide;exact .refl _)|(apply Aa.Ap (l:=p.notes) (i:=A % p.notes.length);rfl;rfl;rfl;exact ao _ (by omega);rfl)|(apply Aa.assign;rfl)|(apply Aa.move;rfl)|(apply Aa.Jl;rfl;rfl;omega)|(apply Aa.KL;rfl;rfl;omega;omega)|(apply Aa.int;rfl;rfl;rfl)|(apply Aa.load;rfl;rfl)|(apply Aa.Nk;rfl;rfl)|(apply Aa.lenV;rfl;rfl;rfl)|(apply Aa.D8;rfl;rfl;rfl)|(apply Aa.box;rfl;trivial)|(apply Aa.alloc;rfl)|(apply Aa.Dz;rfl;rfl;rfl;trivial;rfl;rfl;exact AY rfl;exact le_dec rfl)|(apply Aa.Ea;rfl;rfl;rfl;rfl;omega)|(apply Ad.Ac;rfl)|(apply Ad.Aq;rfl)|(intro _;try (exfalso;omega)))
 all_goals first|(exfalso;omega)|contradiction|(refine Done.rt rfl rfl ⟨?_,rfl,rfl⟩;try rfl)
theorem a5z (p:Ef) (n:Nat) (hn:n≤400000) (h:Gx p n) (h0:0<p.bars.length) (hz:0<p.sets.length) (K A:Nat) (B:Int) (hK:K<256) (hA:A<256) (hB:-128≤B∧B≤127) (hk:K % 12=7):Ai env 30 [.agg (Enc.enc p),.agg (FY K A B)] (.p (.agg (Dp p.bars p.bars.length p.notes p.notes.length (p.sets.set (A % p.sets.length) (⟨(gi p.sets (A % p.sets.length)).bar,⟨(gi p.sets (A % p.sets.length)).reg.stops,(gi p.sets (A % p.sets.length)).reg.cp ||| 2 ^ (A % 64),(gi p.sets (A % p.sets.length)).reg.off⟩⟩:Ny)) p.sets.length))):=by
 have b1:=h.lb;have b2:=h.ln;have b3:=h.ls;have hb:=DK p.bars (by omega);have hc:=DW p.notes (by omega);have hs:=NW p.sets hz (by omega);have hx:A % p.sets.length<p.sets.length:=ao _ hz;have hbb:=(h.sets (A % p.sets.length) hx).1;have hrr:=(h.sets (A % p.sets.length) hx).2;have hr1:=hrr.cp;have hq:A % 64<64:=ao _ (by decide);have p1:2 ^ (A % 64)<2 ^ 64:=cz (by omega) hq;unfold FY Dp;all_goals rcases am p.notes.length with c2|c2
 all_goals
  refine Ai.enter (Ae (by decide)) Tryz.func30 rfl (by kernel_rfl) (by simp [Tryz.ntmps30]) ?_
 all_goals
  repeat' (first|(refine Ad.at 22 ?_;refine Ad.ghost (Ar.BI 0 2 rfl rfl rfl) ?_;first|apply Ad.Bf|apply Ad.Bl)|apply Ad.assoc|apply Ad.Bf|apply Ad.Bl|apply Ad.Dq|apply Ad.CO|apply Ad.Fq|apply Ad.CW|apply Bq.normal|apply Bd.normal|apply Ad.ret|apply Ad.skip|apply Ah.nil|apply Af.nil|apply Ah.one|(apply Af.bar;decide +kernel)|apply Af.quiet|(apply Aa.fn;rfl;rfl;exact hb;intro _;rfl)|(apply Aa.fn;rfl;rfl;exact hc;intro _;rfl)|(apply Aa.fv;rfl;rfl;exact hs)|(apply Aa.Qv;rfl;rfl;omega)|(apply Aa.Di (l:=p.sets) (i:=A % p.sets.length);rfl;rfl;rfl;rfl;exact hx)|(apply Aa.RD;rfl;rfl)|(apply Aa.VJ;rfl;rfl;rfl)|(apply Aa.V3 (α:=Ny) (l:=p.sets) (i:=A % p.sets.length) (f:=2);rfl;rfl;exact hx;decide;rfl)|(apply b5m (A % 64);rfl;rfl;omega)|(apply Aa.Rz (α:=Ny) (l:=p.sets) (i:=A % p.sets.length) (f:=2) (y:=(⟨(gi p.sets (A % p.sets.length)).bar,⟨(gi p.sets (A % p.sets.length)).reg.stops,(gi p.sets (A % p.sets.length)).reg.cp ||| 2 ^ (A % 64),(gi p.sets (A % p.sets.length)).reg.off⟩⟩:Ny)) (fs:=[.int .u64 ((((gi p.sets (A % p.sets.length)).reg.cp ||| 2 ^ (A % 64):Nat):Int))]);rfl;rfl;rfl;trivial;rfl;rfl;rfl;decide;exact hx;decide;exact .refl _)|(apply Aa.Ap (l:=p.notes) (i:=A % p.notes.length);rfl;rfl;rfl;exact ao _ (by omega);rfl)|(apply Aa.assign;rfl)|(apply Aa.move;rfl)|(apply Aa.orU;rfl;rfl;omega;omega)|(apply Aa.KL;rfl;rfl;omega;omega)|(apply Aa.int;rfl;rfl;rfl)|(apply Aa.load;rfl;rfl)|(apply Aa.Nk;rfl;rfl)|(apply Aa.lenV;rfl;rfl;rfl)|(apply Aa.D8;rfl;rfl;rfl)|(apply Aa.box;rfl;trivial)|(apply Aa.alloc;rfl)|(apply Aa.Dz;rfl;rfl;rfl;trivial;rfl;rfl;exact AY rfl;exact le_dec rfl)|(apply Aa.Ea;rfl;rfl;rfl;rfl;omega)|(apply Ad.Ac;rfl)|(apply Ad.Aq;rfl)|(intro _;try (exfalso;omega)))
 all_goals first|(exfalso;omega)|contradiction|(refine Done.rt rfl rfl ⟨?_,rfl,rfl⟩;try rfl)
theorem a0c (p:Ef) (n:Nat) (hn:n≤400000) (h:Gx p n) (h0:0<p.bars.length) (hz:p.sets.length=0) (K A:Nat) (B:Int) (hK:K<256) (hA:A<256) (hB:-128≤B∧B≤127) (hk:K % 12=6∨K % 12=7):Ai env 30 [.agg (Enc.enc p),.agg (FY K A B)] (.p (.agg (Dp p.bars p.bars.length p.notes p.notes.length p.sets p.sets.length))):=by
 have b1:=h.lb;have b2:=h.ln;have b3:=h.ls;have hb:=DK p.bars (by omega);have hc:=DW p.notes (by omega);have hs:=DZ p.sets (by omega);unfold FY Dp;all_goals rcases am p.notes.length with c2|c2
 all_goals
  refine Ai.enter (Ae (by decide)) Tryz.func30 rfl (by kernel_rfl) (by simp [Tryz.ntmps30]) ?_
 all_goals
  repeat' (first|apply Ad.assoc|apply Ad.Bf|apply Ad.Bl|apply Ad.CO|apply Ad.Fq|apply Ad.CW|apply Bq.normal|apply Bd.normal|apply Ad.ret|apply Ad.skip|apply Ah.nil|apply Af.nil|apply Ah.one|(apply Af.bar;decide +kernel)|apply Af.quiet|(apply Aa.fn;rfl;rfl;exact hb;intro _;rfl)|(apply Aa.fn;rfl;rfl;exact hc;intro _;rfl)|(apply Aa.fn;rfl;rfl;exact hs;intro _;rfl)|(apply Aa.Qv;rfl;rfl;omega)|(apply Aa.Ap (l:=p.notes) (i:=A % p.notes.length);rfl;rfl;rfl;exact ao _ (by omega);rfl)|(apply Aa.assign;rfl)|(apply Aa.KL;rfl;rfl;omega;omega)|(apply Aa.int;rfl;rfl;rfl)|(apply Aa.load;rfl;rfl)|(apply Aa.Nk;rfl;rfl)|(apply Aa.D8;rfl;rfl;rfl)|(apply Aa.box;rfl;trivial)|(apply Aa.alloc;rfl)|(apply Aa.Dz;rfl;rfl;rfl;trivial;rfl;rfl;exact AY rfl;exact le_dec rfl)|(apply Aa.Ea;rfl;rfl;rfl;rfl;omega)|(apply Ad.Ac;rfl)|(apply Ad.Aq;rfl)|(intro _;try (exfalso;omega)))
 all_goals first|(exfalso;omega)|contradiction|(refine Done.rt rfl rfl ⟨?_,rfl,rfl⟩;try rfl)
theorem a3c (p:Ef) (n:Nat) (hn:n≤400000) (h:Gx p n) (h0:0<p.bars.length) (hz:p.notes.length=0) (K A:Nat) (B:Int) (hK:K<256) (hA:A<256) (hB:-128≤B∧B≤127) (hk:8≤K % 12):Ai env 30 [.agg (Enc.enc p),.agg (FY K A B)] (.p (.agg (Dp p.bars p.bars.length p.notes p.notes.length p.sets p.sets.length))):=by
 have b1:=h.lb;have b2:=h.ln;have b3:=h.ls;have hb:=DK p.bars (by omega);have hc:=DW p.notes (by omega);have hs:=DZ p.sets (by omega);unfold FY Dp;rcases am p.sets.length with c1|c1
 all_goals
  refine Ai.enter (Ae (by decide)) Tryz.func30 rfl (by kernel_rfl) (by simp [Tryz.ntmps30]) ?_
 all_goals
  repeat' (first|apply Ad.assoc|apply Ad.Bf|apply Ad.Bl|apply Ad.CO|apply Ad.Fq|apply Ad.CW|apply Bq.normal|apply Bd.normal|apply Ad.skip|apply Ah.nil|apply Af.nil|apply Ah.one|(apply Af.bar;decide +kernel)|apply Af.quiet|(apply Aa.fn;rfl;rfl;exact hb;intro _;rfl)|(apply Aa.fn;rfl;rfl;exact hc;intro _;rfl)|(apply Aa.fn;rfl;rfl;exact hs;intro _;rfl)|(apply Aa.Qv;rfl;rfl;omega)|(apply Aa.Ap (l:=p.sets) (i:=A % p.sets.length);rfl;rfl;rfl;exact ao _ (by omega);rfl)|(apply Aa.assign;rfl)|(apply Aa.KL;rfl;rfl;omega;omega)|(apply Aa.int;rfl;rfl;rfl)|(apply Aa.load;rfl;rfl)|(apply Aa.Nk;rfl;rfl)|(apply Aa.D8;rfl;rfl;rfl)|(apply Aa.box;rfl;trivial)|(apply Aa.alloc;rfl)|(apply Aa.Dz;rfl;rfl;rfl;trivial;rfl;rfl;exact AY rfl;exact le_dec rfl)|(apply Aa.Ea;rfl;rfl;rfl;rfl;omega)|(apply Ad.Ac;rfl)|(apply Ad.Aq;rfl)|(intro _;try (exfalso;omega)))
 all_goals first|(exfalso;omega)|contradiction|(refine Done.rt rfl rfl ⟨?_,rfl,rfl⟩;try rfl)
theorem a9b (p:Ef) (n:Nat) (hn:n≤400000) (h:Gx p n) (h0:0<p.bars.length) (hz:0<p.notes.length) (K A:Nat) (B:Int) (hK:K<256) (hA:A<256) (hB:-128≤B∧B≤127) (hk:K % 12=8):Ai env 30 [.agg (Enc.enc p),.agg (FY K A B)] (.p (.agg (Dp p.bars p.bars.length (p.notes.set (A % p.notes.length) (⟨(gi p.notes (A % p.notes.length)).s,(gi p.notes (A % p.notes.length)).e,(gi p.notes (A % p.notes.length)).d+B,(gi p.notes (A % p.notes.length)).k⟩:GI)) p.notes.length p.sets p.sets.length))):=by
 have b1:=h.lb;have b2:=h.ln;have b3:=h.ls;have hb:=DK p.bars (by omega);have hc:=JR p.notes hz (by omega);have hs:=DZ p.sets (by omega);have hx:A % p.notes.length<p.notes.length:=ao _ hz;have hbb:=h.notes (A % p.notes.length) hx;unfold FY Dp;rcases am p.sets.length with c1|c1
 all_goals
  refine Ai.enter (Ae (by decide)) Tryz.func30 rfl (by kernel_rfl) (by simp [Tryz.ntmps30]) ?_
 all_goals
  repeat' (first|(refine Ad.at 34 ?_;refine Ad.ghost (Ar.BI 0 1 rfl rfl rfl) ?_;first|apply Ad.Bf|apply Ad.Bl)|apply Ad.assoc|apply Ad.Bf|apply Ad.Bl|apply Ad.Dq|apply Ad.CO|apply Ad.CW|apply Bq.normal|apply Bd.normal|apply Ad.ret|apply Ad.skip|apply Ah.nil|apply Af.nil|apply Ah.one|(apply Af.bar;decide +kernel)|apply Af.quiet|(apply Aa.fn;rfl;rfl;exact hb;intro _;rfl)|(apply Aa.fv;rfl;rfl;exact hc)|(apply Aa.fn;rfl;rfl;exact hs;intro _;rfl)|(apply Aa.Qv;rfl;rfl;omega)|(apply Aa.Di (l:=p.notes) (i:=A % p.notes.length);rfl;rfl;rfl;rfl;exact hx)|(apply Aa.RD;rfl;rfl)|(apply Aa.VJ;rfl;rfl;rfl)|(apply Aa.V3 (α:=GI) (l:=p.notes) (i:=A % p.notes.length) (f:=2);rfl;rfl;exact hx;decide;rfl)|(apply Aa.Rz (α:=GI) (l:=p.notes) (i:=A % p.notes.length) (f:=2) (y:=(⟨(gi p.notes (A % p.notes.length)).s,(gi p.notes (A % p.notes.length)).e,(gi p.notes (A % p.notes.length)).d+B,(gi p.notes (A % p.notes.length)).k⟩:GI)) (fs:=[.int .i64 ((gi p.notes (A % p.notes.length)).d+B)]);rfl;rfl;rfl;trivial;rfl;rfl;rfl;decide;exact hx;decide;exact .refl _)|(apply Aa.Ap (l:=p.sets) (i:=A % p.sets.length);rfl;rfl;rfl;exact ao _ (by omega);rfl)|(apply Aa.assign;rfl)|(apply Aa.move;rfl)|(apply Aa.Jl;rfl;rfl;omega)|(apply Aa.KL;rfl;rfl;omega;omega)|(apply Aa.int;rfl;rfl;rfl)|(apply Aa.load;rfl;rfl)|(apply Aa.Nk;rfl;rfl)|(apply Aa.lenV;rfl;rfl;rfl)|(apply Aa.D8;rfl;rfl;rfl)|(apply Aa.box;rfl;trivial)|(apply Aa.alloc;rfl)|(apply Aa.Dz;rfl;rfl;rfl;trivial;rfl;rfl;exact AY rfl;exact le_dec rfl)|(apply Aa.Ea;rfl;rfl;rfl;rfl;omega)|(apply Ad.Ac;rfl)|(apply Ad.Aq;rfl)|(intro _;try (exfalso;omega)))
 all_goals first|(exfalso;omega)|contradiction|(refine Done.rt rfl rfl ⟨?_,rfl,rfl⟩;try rfl)
theorem a9p (p:Ef) (n:Nat) (hn:n≤400000) (h:Gx p n) (h0:0<p.bars.length) (hz:0<p.notes.length) (K A:Nat) (B:Int) (hK:K<256) (hA:A<256) (hB:-128≤B∧B≤127) (hk:K % 12=9):Ai env 30 [.agg (Enc.enc p),.agg (FY K A B)] (.p (.agg (Dp p.bars p.bars.length (p.notes.set (A % p.notes.length) (⟨(gi p.notes (A % p.notes.length)).s,(gi p.notes (A % p.notes.length)).e,(gi p.notes (A % p.notes.length)).d,(gi p.notes (A % p.notes.length)).k+B⟩:GI)) p.notes.length p.sets p.sets.length))):=by
 have b1:=h.lb;have b2:=h.ln;have b3:=h.ls;have hb:=DK p.bars (by omega);have hc:=JR p.notes hz (by omega);have hs:=DZ p.sets (by omega);have hx:A % p.notes.length<p.notes.length:=ao _ hz;have hbb:=h.notes (A % p.notes.length) hx;unfold FY Dp;rcases am p.sets.length with c1|c1
 all_goals
  refine Ai.enter (Ae (by decide)) Tryz.func30 rfl (by kernel_rfl) (by simp [Tryz.ntmps30]) ?_
 all_goals
  repeat' (first|(refine Ad.at 34 ?_;refine Ad.ghost (Ar.BI 0 1 rfl rfl rfl) ?_;first|apply Ad.Bf|apply Ad.Bl)|apply Ad.assoc|apply Ad.Bf|apply Ad.Bl|apply Ad.Dq|apply Ad.CO|apply Ad.CW|apply Bq.normal|apply Bd.normal|apply Ad.ret|apply Ad.skip|apply Ah.nil|apply Af.nil|apply Ah.one|(apply Af.bar;decide +kernel)|apply Af.quiet|(apply Aa.fn;rfl;rfl;exact hb;intro _;rfl)|(apply Aa.fv;rfl;rfl;exact hc)|(apply Aa.fn;rfl;rfl;exact hs;intro _;rfl)|(apply Aa.Qv;rfl;rfl;omega)|(apply Aa.Di (l:=p.notes) (i:=A % p.notes.length);rfl;rfl;rfl;rfl;exact hx)|(apply Aa.RD;rfl;rfl)|(apply Aa.VJ;rfl;rfl;rfl)|(apply Aa.V3 (α:=GI) (l:=p.notes) (i:=A % p.notes.length) (f:=3);rfl;rfl;exact hx;decide;rfl)|(apply Aa.Rz (α:=GI) (l:=p.notes) (i:=A % p.notes.length) (f:=3) (y:=(⟨(gi p.notes (A % p.notes.length)).s,(gi p.notes (A % p.notes.length)).e,(gi p.notes (A % p.notes.length)).d,(gi p.notes (A % p.notes.length)).k+B⟩:GI)) (fs:=[.int .i64 ((gi p.notes (A % p.notes.length)).k+B)]);rfl;rfl;rfl;trivial;rfl;rfl;rfl;decide;exact hx;decide;exact .refl _)|(apply Aa.Ap (l:=p.sets) (i:=A % p.sets.length);rfl;rfl;rfl;exact ao _ (by omega);rfl)|(apply Aa.assign;rfl)|(apply Aa.move;rfl)|(apply Aa.Jl;rfl;rfl;omega)|(apply Aa.KL;rfl;rfl;omega;omega)|(apply Aa.int;rfl;rfl;rfl)|(apply Aa.load;rfl;rfl)|(apply Aa.Nk;rfl;rfl)|(apply Aa.lenV;rfl;rfl;rfl)|(apply Aa.D8;rfl;rfl;rfl)|(apply Aa.box;rfl;trivial)|(apply Aa.alloc;rfl)|(apply Aa.Dz;rfl;rfl;rfl;trivial;rfl;rfl;exact AY rfl;exact le_dec rfl)|(apply Aa.Ea;rfl;rfl;rfl;rfl;omega)|(apply Ad.Ac;rfl)|(apply Ad.Aq;rfl)|(intro _;try (exfalso;omega)))
 all_goals first|(exfalso;omega)|contradiction|(refine Done.rt rfl rfl ⟨?_,rfl,rfl⟩;try rfl)
theorem a1l (p:Ef) (n:Nat) (hn:n≤400000) (h:Gx p n) (h0:0<p.bars.length) (hz:0<p.notes.length) (K A:Nat) (B:Int) (hK:K<256) (hA:A<256) (hB:-128≤B∧B≤127) (hk:K % 12=10):Ai env 30 [.agg (Enc.enc p),.agg (FY K A B)] (.p (.agg (Dp p.bars p.bars.length (p.notes.set (A % p.notes.length) (⟨(gi p.notes (A % p.notes.length)).s+B,(gi p.notes (A % p.notes.length)).e,(gi p.notes (A % p.notes.length)).d,(gi p.notes (A % p.notes.length)).k⟩:GI)) p.notes.length p.sets p.sets.length))):=by
 have b1:=h.lb;have b2:=h.ln;have b3:=h.ls;have hb:=DK p.bars (by omega);have hc:=JR p.notes hz (by omega);have hs:=DZ p.sets (by omega);have hx:A % p.notes.length<p.notes.length:=ao _ hz;have hbb:=h.notes (A % p.notes.length) hx;unfold FY Dp;rcases am p.sets.length with c1|c1
 all_goals
  refine Ai.enter (Ae (by decide)) Tryz.func30 rfl (by kernel_rfl) (by simp [Tryz.ntmps30]) ?_
 all_goals
  repeat' (first|(refine Ad.at 34 ?_;refine Ad.ghost (Ar.BI 0 1 rfl rfl rfl) ?_;first|apply Ad.Bf|apply Ad.Bl)|apply Ad.assoc|apply Ad.Bf|apply Ad.Bl|apply Ad.Dq|apply Ad.CO|apply Ad.CW|apply Bq.normal|apply Bd.normal|apply Ad.ret|apply Ad.skip|apply Ah.nil|apply Af.nil|apply Ah.one|(apply Af.bar;decide +kernel)|apply Af.quiet|(apply Aa.fn;rfl;rfl;exact hb;intro _;rfl)|(apply Aa.fv;rfl;rfl;exact hc)|(apply Aa.fn;rfl;rfl;exact hs;intro _;rfl)|(apply Aa.Qv;rfl;rfl;omega)|(apply Aa.Di (l:=p.notes) (i:=A % p.notes.length);rfl;rfl;rfl;rfl;exact hx)|(apply Aa.RD;rfl;rfl)|(apply Aa.VJ;rfl;rfl;rfl)|(apply Aa.V3 (α:=GI) (l:=p.notes) (i:=A % p.notes.length) (f:=0);rfl;rfl;exact hx;decide;rfl)|(apply Aa.Rz (α:=GI) (l:=p.notes) (i:=A % p.notes.length) (f:=0) (y:=(⟨(gi p.notes (A % p.notes.length)).s+B,(gi p.notes (A % p.notes.length)).e,(gi p.notes (A % p.notes.length)).d,(gi p.notes (A % p.notes.length)).k⟩:GI)) (fs:=[.int .i64 ((gi p.notes (A % p.notes.length)).s+B)]);rfl;rfl;rfl;trivial;rfl;rfl;rfl;decide;exact hx;decide;exact .refl _)|(apply Aa.Ap (l:=p.sets) (i:=A % p.sets.length);rfl;rfl;rfl;exact ao _ (by omega);rfl)|(apply Aa.assign;rfl)|(apply Aa.move;rfl)|(apply Aa.Jl;rfl;rfl;omega)|(apply Aa.KL;rfl;rfl;omega;omega)|(apply Aa.int;rfl;rfl;rfl)|(apply Aa.load;rfl;rfl)|(apply Aa.Nk;rfl;rfl)|(apply Aa.lenV;rfl;rfl;rfl)|(apply Aa.D8;rfl;rfl;rfl)|(apply Aa.box;rfl;trivial)|(apply Aa.alloc;rfl)|(apply Aa.Dz;rfl;rfl;rfl;trivial;rfl;rfl;exact AY rfl;exact le_dec rfl)|(apply Aa.Ea;rfl;rfl;rfl;rfl;omega)|(apply Ad.Ac;rfl)|(apply Ad.Aq;rfl)|(intro _;try (exfalso;omega)))
 all_goals first|(exfalso;omega)|contradiction|(refine Done.rt rfl rfl ⟨?_,rfl,rfl⟩;try rfl)
theorem a0k (p:Ef) (n:Nat) (hn:n≤400000) (h:Gx p n) (h0:0<p.bars.length) (hz:0<p.notes.length) (K A:Nat) (B:Int) (hK:K<256) (hA:A<256) (hB:-128≤B∧B≤127) (hk:K % 12=11):Ai env 30 [.agg (Enc.enc p),.agg (FY K A B)] (.p (.agg (Dp p.bars p.bars.length (p.notes.set (A % p.notes.length) (⟨(gi p.notes (A % p.notes.length)).s,(gi p.notes (A % p.notes.length)).e+B,(gi p.notes (A % p.notes.length)).d,(gi p.notes (A % p.notes.length)).k⟩:GI)) p.notes.length p.sets p.sets.length))):=by
 have b1:=h.lb;have b2:=h.ln;have b3:=h.ls;have hb:=DK p.bars (by omega);have hc:=JR p.notes hz (by omega);have hs:=DZ p.sets (by omega);have hx:A % p.notes.length<p.notes.length:=ao _ hz;have hbb:=h.notes (A % p.notes.length) hx;unfold FY Dp;rcases am p.sets.length with c1|c1
 all_goals
  refine Ai.enter (Ae (by decide)) Tryz.func30 rfl (by kernel_rfl) (by simp [Tryz.ntmps30]) ?_
 all_goals
  repeat' (first|(refine Ad.at 34 ?_;refine Ad.ghost (Ar.BI 0 1 rfl rfl rfl) ?_;first|apply Ad.Bf|apply Ad.Bl)|apply Ad.assoc|apply Ad.Bf|apply Ad.Bl|apply Ad.Dq|apply Ad.CO|apply Ad.CW|apply Bq.normal|apply Bd.normal|apply Ad.ret|apply Ad.skip|apply Ah.nil|apply Af.nil|apply Ah.one|(apply Af.bar;decide +kernel)|apply Af.quiet|(apply Aa.fn;rfl;rfl;exact hb;intro _;rfl)|(apply Aa.fv;rfl;rfl;exact hc)|(apply Aa.fn;rfl;rfl;exact hs;intro _;rfl)|(apply Aa.Qv;rfl;rfl;omega)|(apply Aa.Di (l:=p.notes) (i:=A % p.notes.length);rfl;rfl;rfl;rfl;exact hx)|(apply Aa.RD;rfl;rfl)|(apply Aa.VJ;rfl;rfl;rfl)|(apply Aa.V3 (α:=GI) (l:=p.notes) (i:=A % p.notes.length) (f:=1);rfl;rfl;exact hx;decide;rfl)|(apply Aa.Rz (α:=GI) (l:=p.notes) (i:=A % p.notes.length) (f:=1) (y:=(⟨(gi p.notes (A % p.notes.length)).s,(gi p.notes (A % p.notes.length)).e+B,(gi p.notes (A % p.notes.length)).d,(gi p.notes (A % p.notes.length)).k⟩:GI)) (fs:=[.int .i64 ((gi p.notes (A % p.notes.length)).e+B)]);rfl;rfl;rfl;trivial;rfl;rfl;rfl;decide;exact hx;decide;exact .refl _)|(apply Aa.Ap (l:=p.sets) (i:=A % p.sets.length);rfl;rfl;rfl;exact ao _ (by omega);rfl)|(apply Aa.assign;rfl)|(apply Aa.move;rfl)|(apply Aa.Jl;rfl;rfl;omega)|(apply Aa.KL;rfl;rfl;omega;omega)|(apply Aa.int;rfl;rfl;rfl)|(apply Aa.load;rfl;rfl)|(apply Aa.Nk;rfl;rfl)|(apply Aa.lenV;rfl;rfl;rfl)|(apply Aa.D8;rfl;rfl;rfl)|(apply Aa.box;rfl;trivial)|(apply Aa.alloc;rfl)|(apply Aa.Dz;rfl;rfl;rfl;trivial;rfl;rfl;exact AY rfl;exact le_dec rfl)|(apply Aa.Ea;rfl;rfl;rfl;rfl;omega)|(apply Ad.Ac;rfl)|(apply Ad.Aq;rfl)|(intro _;try (exfalso;omega)))
 all_goals first|(exfalso;omega)|contradiction|(refine Done.rt rfl rfl ⟨?_,rfl,rfl⟩;try rfl)
theorem a8a (p:Ef) (n:Nat) (hn:n≤400000) (h:Gx p n) (h0:0<p.bars.length) (hz:0<p.sets.length) (K A:Nat) (B:Int) (hK:K<256) (hA:A<256) (hB:-128≤B∧B≤127) (hk:K % 12=5):Ai env 30 [.agg (Enc.enc p),.agg (FY K A B)] (.p (.agg (Dp p.bars p.bars.length p.notes p.notes.length (p.sets++[(⟨B,⟨List.replicate (A % 5) 0,0,0⟩⟩:Ny)]) (p.sets.length+1)))):=by
 have b1:=h.lb;have b2:=h.ln;have b3:=h.ls;have hb:=DK p.bars (by omega);have hc:=DW p.notes (by omega);have hs:=NW p.sets hz (by omega);have hl5:(List.replicate (A % 5) (0:Nat)).length=A % 5:=dc;have b5w:tK (.p (.lst 82 (cells (List.replicate (A % 5) (0:Nat))) (A % 5))) (.p (.lst 82 (cells (List.replicate (A % 5) (0:Nat))) (List.replicate (A % 5) (0:Nat)).length)):=.of_eq (by rw [hl5]);unfold FY Dp;all_goals rcases am p.notes.length with c2|c2
 all_goals
  refine Ai.enter (Ae (by decide)) Tryz.func30 rfl (by kernel_rfl) (by simp [Tryz.ntmps30]) ?_
 all_goals
  repeat' (first|(refine Ad.at 15 ?_;refine Ad.ghost (Ar.BI 0 2 rfl rfl rfl) ?_;first|apply Ad.Bf|apply Ad.Bl)|(refine Af.Gz 97 ?_;refine Af.ghost (Ar.trans (Ar.freeze 96 rfl rfl) (Ar.le 96 rfl b5w)) ?_)|apply Ad.assoc|apply Ad.Bf|apply Ad.Bl|apply Ad.Dq|apply Ad.CO|apply Ad.Fq|apply Ad.CW|apply Bq.normal|apply Bd.normal|apply Ad.ret|apply Ad.skip|apply Ah.nil|apply Af.nil|apply Ah.one|(apply Af.bar;decide +kernel)|apply Af.quiet|(apply Aa.fn;rfl;rfl;exact hb;intro _;rfl)|(apply Aa.fn;rfl;rfl;exact hc;intro _;rfl)|(apply Aa.fv;rfl;rfl;exact hs)|(apply Aa.Qv;rfl;rfl;omega)|(apply Aa.Jt (A % 5) (0:Nat);rfl;rfl;rfl;rfl;rfl;rfl;rfl;omega;decide;decide;rfl)|(apply Aa.Dk (a:=(⟨B,⟨List.replicate (A % 5) 0,0,0⟩⟩:Ny));rfl;rfl;rfl;rfl;rfl;rfl;rfl;rfl;(intro _ h;cases h);rfl;rfl;rfl;decide;decide;(first|omega|(simp only [List.length_take,List.length_drop,List.length_append,List.length_singleton,List.length_cons,List.length_nil]<;>omega)))|(apply Aa.Ap (l:=p.sets++[(⟨B,⟨List.replicate (A % 5) 0,0,0⟩⟩:Ny)]) (i:=A % (p.sets.length+1));rfl;rfl;rfl;(rw [az];exact ao _ (Nat.succ_pos _));(rw [az];rfl))|(apply Aa.Ap (l:=p.notes) (i:=A % p.notes.length);rfl;rfl;rfl;exact ao _ (by omega);rfl)|(apply Aa.assign;rfl)|(apply Aa.KL;rfl;rfl;omega;omega)|(apply Aa.int;rfl;rfl;rfl)|(apply Aa.load;rfl;rfl)|(apply Aa.Nk;rfl;rfl)|(apply Aa.D8;rfl;rfl;rfl)|(apply Aa.box;rfl;trivial)|(apply Aa.alloc;rfl)|(apply Aa.Dz;rfl;rfl;rfl;trivial;rfl;rfl;exact AY rfl;exact le_dec rfl)|(apply Aa.build;rfl;rfl;rfl;rfl;rfl)|(apply Aa.buildSlice;rfl;rfl;rfl;decide;rfl;rfl;rfl)|(apply Aa.Ea;rfl;rfl;rfl;rfl;omega)|(apply Ad.Ac;rfl)|(apply Ad.Aq;rfl)|(intro _;try (exfalso;omega)))
 all_goals first|(exfalso;omega)|contradiction|(refine Done.rt rfl rfl ⟨?_,rfl,rfl⟩;try rfl)
theorem b0k:Az env 77 ([FV.lst 182 (cells ([]:List Ny)) 0].map .p) [] 0 (fun r H' nx'=>(r=.p (.val (.slice none 0 0))∧H'=[]∧nx'=0)∨(r=.vec 1 0 0 0∧H'=[(1,.vec 182 [] 0 false)]∧nx'=2)):=by
 refine Az.enter (Ae (by decide)) Tryz.func77 rfl (by kernel_rfl) (by simp [Tryz.ntmps77]) ?_
 repeat' (first|apply Ad.assoc|apply Ad.Bf|apply Ad.CO|apply Ad.Fq|apply Ad.ret|apply Ah.nil|apply Ah.one|(apply Aa.eqNil;rfl;rfl;rfl)|(apply Aa.assign;rfl)|(apply Aa.move;rfl)|(apply Aa.buildSlice;rfl;rfl;rfl;decide;rfl;rfl;rfl)|(apply Aa.FM;rfl;rfl;rfl;(first|rfl|omega|(simp only [List.length_take,List.length_drop,List.length_append,List.length_singleton,List.length_cons,List.length_nil]<;>omega));rfl;rfl;(intro _ h;cases h);rfl;rfl;rfl;decide;decide;(first|omega|(simp only [List.length_take,List.length_drop,List.length_append,List.length_singleton,List.length_cons,List.length_nil]<;>omega)))|(apply Ad.JO;rfl)|(intro _;try (exfalso;omega)))
 all_goals first|(exfalso;omega)|(refine Done.ret rfl (.refl _) trivial BG.nil (aq _) (ab _) (.inl ⟨rfl,rfl,rfl⟩);done)|(refine Done.ret (Dw:=2) (H0:=[(1,.vec 182 [] 0 false)]) rfl (.refl _) (AY rfl) ?_ (ab _) (aq _) (.inr ⟨rfl,rfl,rfl⟩);exact Ey)
theorem a1k (p:Ef) (n:Nat) (hn:n≤400000) (h:Gx p n) (h0:0<p.bars.length) (hz:p.sets.length=0) (K A:Nat) (B:Int) (hK:K<256) (hA:A<256) (hB:-128≤B∧B≤127) (hk:K % 12=5):Ai env 30 [.agg (Enc.enc p),.agg (FY K A B)] (.p (.agg (Dp p.bars p.bars.length p.notes p.notes.length (p.sets++[(⟨B,⟨List.replicate (A % 5) 0,0,0⟩⟩:Ny)]) (p.sets.length+1)))):=by
 have b1:=h.lb;have b2:=h.ln;have hb:=DK p.bars (by omega);have hc:=DW p.notes (by omega);have hs:=b0k;have hl5:(List.replicate (A % 5) (0:Nat)).length=A % 5:=dc;have b5w:tK (.p (.lst 82 (cells (List.replicate (A % 5) (0:Nat))) (A % 5))) (.p (.lst 82 (cells (List.replicate (A % 5) (0:Nat))) (List.replicate (A % 5) (0:Nat)).length)):=.of_eq (by rw [hl5]);obtain ⟨B0,N0,S0⟩:=p;obtain rfl:S0=[]:=ar.1 hz;clear hz;dsimp only at *;rw [fa];unfold FY Dp;rcases am N0.length with c2|c2
 all_goals
  refine Ai.enter (Ae (by decide)) Tryz.func30 rfl (by kernel_rfl) (by simp [Tryz.ntmps30]) ?_
 all_goals
  repeat' (first|(refine Ad.atEnd 14 ?_;refine Ad.ghost (Ar.EO 0 2 182 rfl rfl) ?_;first|apply Ad.region|apply Ad.Dq)|(refine Ad.at 15 ?_;refine Ad.ghost (Ar.BI 0 2 rfl rfl rfl) ?_;first|apply Ad.Bf|apply Ad.Bl)|(refine Af.Gz 97 ?_;refine Af.ghost (Ar.trans (Ar.freeze 96 rfl rfl) (Ar.le 96 rfl b5w)) ?_)|apply Ad.assoc|apply Ad.Bf|apply Ad.Bl|apply Ad.Dq|apply Ad.CO|apply Ad.Fq|apply Ad.CW|apply Bq.normal|apply Bd.normal|apply Ad.ret|apply Ad.skip|apply Ah.nil|apply Af.nil|apply Ah.one|(apply Af.bar;decide +kernel)|apply Af.quiet|(apply Aa.fn;rfl;rfl;exact hb;intro _;rfl)|(apply Aa.fn;rfl;rfl;exact hc;intro _;rfl)|(apply Aa.qg (hc:=hs);rfl;rfl;exact .of_eq rfl;rintro _ _ _ (⟨rfl,rfl,rfl⟩|⟨rfl,rfl,rfl⟩))|(apply Aa.Qv;rfl;rfl;omega)|(apply Aa.Jt (A % 5) (0:Nat);rfl;rfl;rfl;rfl;rfl;rfl;rfl;omega;decide;decide;rfl)|(apply Aa.Dk (l:=[]) (a:=(⟨B,⟨List.replicate (A % 5) 0,0,0⟩⟩:Ny));rfl;rfl;rfl;rfl;rfl;rfl;rfl;rfl;(intro _ h;cases h);rfl;rfl;rfl;decide;decide;(first|omega|(simp only [List.length_take,List.length_drop,List.length_append,List.length_singleton,List.length_cons,List.length_nil]<;>omega)))|(apply Aa.Ap (l:=[(⟨B,⟨List.replicate (A % 5) 0,0,0⟩⟩:Ny)]) (i:=0);rfl;(refine congrArg (fun b=>some (PV.p (.int .i64 b))) ?_;show ((A:Int) % 1:Int)=0;omega);rfl;exact Nat.zero_lt_one;rfl)|(apply Aa.Ap (l:=N0) (i:=A % N0.length);rfl;rfl;rfl;exact ao _ (by omega);rfl)|(apply Aa.assign;rfl)|(apply Aa.KL;rfl;rfl;omega;omega)|(apply Aa.int;rfl;rfl;rfl)|(apply Aa.load;rfl;rfl)|(apply Aa.Nk;rfl;rfl)|(apply Aa.D8;rfl;rfl;rfl)|(apply Aa.box;rfl;trivial)|(apply Aa.alloc;rfl)|(apply Aa.Dz;rfl;rfl;rfl;trivial;rfl;rfl;exact AY rfl;exact le_dec rfl)|(apply Aa.build;rfl;rfl;rfl;rfl;rfl)|(apply Aa.buildSlice;rfl;rfl;rfl;decide;rfl;rfl;rfl)|(apply Aa.Ea;rfl;rfl;rfl;rfl;omega)|(apply Ad.AX;rfl)|(apply Ad.Ac;rfl)|(apply Ad.Aq;rfl)|(intro _;try (exfalso;omega)))
 all_goals first|(exfalso;omega)|contradiction|(refine Done.rt rfl rfl ⟨?_,rfl,rfl⟩;try rfl)
def FX (l:List Int):Int:=gi l (l.length-1)+1
theorem kE {l:List Int} {n:Nat} (h0:0<l.length) (h:∀ i,i<l.length→-(n:Int)≤gi l i∧gi l i≤n):∀ k,∀ i,i<(Gj FX l k).length→-(n:Int)≤gi (Gj FX l k) i∧gi (Gj FX l k) i≤n+k
 |0,i,hi=>by have:=h i hi;assumption
 |k+1,i,hi=>by
  have ih:=kE h0 h k;have hl:=Np FX l k;have e1:Gj FX l (k+1)=Gj FX l k++[gi (Gj FX l k) ((Gj FX l k).length-1)+1]:=rfl;rw [e1] at hi ⊢;rw [az] at hi;have hi:i<(Gj FX l k).length+1:=hi;by_cases e:i<(Gj FX l k).length
  ·rw [NZ e];grind
  ·obtain rfl:i=(Gj FX l k).length:=by omega
   rw [Qm];grind
theorem a7o (p:Ef) (n:Nat) (hn:n≤400000) (h:Gx p n) (h0:0<p.bars.length) (K A:Nat) (B:Int) (hK:K<256) (hA:A<256) (hB:-128≤B∧B≤127) (hk:K % 12=3):Ai env 30 [.agg (Enc.enc p),.agg (FY K A B)] (.p (.agg (Dp (Gj FX p.bars ((200+A % 4)-p.bars.length)) (Gj FX p.bars ((200+A % 4)-p.bars.length)).length p.notes p.notes.length p.sets p.sets.length))):=by
 have b1:=h.lb;have b2:=h.ln;have b3:=h.ls;have hb:=J4 p.bars h0 (by omega);have hc:=DW p.notes (by omega);have hs:=DZ p.sets (by omega);have hlast:∀ k,-(n:Int)≤gi (Gj FX p.bars k) ((Gj FX p.bars k).length-1)∧gi (Gj FX p.bars k) ((Gj FX p.bars k).length-1)≤n+k:=fun k=>kE h0 h.bars k _ (by have:=Np FX p.bars k;omega)
 unfold FY Dp;rcases am p.sets.length with c1|c1
 all_goals rcases am p.notes.length with c2|c2
 all_goals
  refine Ai.enter (Ae (by decide)) Tryz.func30 rfl (by kernel_rfl) (by simp [Tryz.ntmps30]) ?_
 all_goals
  repeat' (first|apply Ad.assoc|apply Ad.Bf|apply Ad.Bl|apply Ad.CW|apply Ad.J9|apply Ah.nil|apply Af.nil|apply Ah.one|(apply Af.bar;decide +kernel)|apply Af.quiet|(apply Aa.fv;rfl;rfl;exact hb)|(apply Aa.fn;rfl;rfl;exact hc;intro _;rfl)|(apply Aa.fn;rfl;rfl;exact hs;intro _;rfl)|(apply Aa.Qv;rfl;rfl;omega)|(apply Aa.assign;rfl)|(apply Aa.KL;rfl;rfl;omega;omega)|(apply Aa.int;rfl;rfl;rfl)|(apply Aa.load;rfl;rfl)|(apply Aa.lenV;rfl;rfl;rfl)|(apply Aa.D8;rfl;rfl;rfl)|(apply Aa.box;rfl;trivial)|(apply Aa.alloc;rfl)|(apply Aa.Dz;rfl;rfl;rfl;trivial;rfl;rfl;exact AY rfl;exact le_dec rfl)|(apply Aa.Ea;rfl;rfl;rfl;rfl;omega)|(apply Ad.Aq;rfl)|(intro _;try (exfalso;omega)))
 all_goals try (exfalso;omega)
 all_goals try contradiction
 all_goals
  apply Ad.Je ((200+A % 4)-p.bars.length) [(2,_),(3,_),(4,_)] [(1,_),(2,_)] (fun k r=>r) (fun k r=>(3,.vec 3 (cells (Gj FX p.bars k)) (Gj FX p.bars k).length false)::(0,.box 32 [.vec 3 (Gj FX p.bars k).length 0 (Gj FX p.bars k).length,.p (.lst 39 (cells p.notes) p.notes.length),.p (.lst 182 (cells p.sets) p.sets.length)])::r) 4
  ·first|omega|decide
  ·first|omega|decide
  ·exact SS
  ·exact Ws
  ·intro k hk
   have hl2:=Np FX p.bars k;have hbd:=hlast k;have e1:Gj FX p.bars (k+1)=Gj FX p.bars k++[gi (Gj FX p.bars k) ((Gj FX p.bars k).length-1)+1]:=rfl;have e2:(Gj FX p.bars (k+1)).length=(Gj FX p.bars k).length+1:=by rw [e1];simp
   have hi:((Gj FX p.bars k).length:Int)-1=(((Gj FX p.bars k).length-1:Nat):Int):=by omega
   generalize Gj FX p.bars k=W at *
   repeat' (first|apply Ad.assoc|apply Ad.Bf|apply Ad.Dq|apply Ad.CO|apply Bd.normal|apply Ad.J9|apply Ah.nil|apply Af.nil|apply Ah.one|(apply Af.bar;decide +kernel)|apply Af.quiet|(apply Aa.Di (l:=W) (i:=W.length-1);rfl;rfl;exact congrArg (fun b=>some (PV.p (.int .i64 b))) hi;rfl;omega)|(apply Aa.Oo (l:=W) (i:=W.length-1);rfl;rfl;omega;rfl)|(apply Aa.Dk (a:=(gi W (W.length-1)+1:Int));rfl;rfl;rfl;rfl;rfl;rfl;rfl;rfl;(intro _ h;cases h);rfl;rfl;rfl;decide;decide;(first|omega|(simp only [List.length_take,List.length_drop,List.length_append,List.length_singleton,List.length_cons,List.length_nil]<;>omega)))|(apply Aa.Jl;rfl;rfl;omega)|(apply Aa.qY;rfl;rfl;omega)|(apply Aa.KL;rfl;rfl;omega;omega)|(apply Aa.int;rfl;rfl;rfl)|(apply Aa.load;rfl;rfl)|(apply Aa.lenV;rfl;rfl;rfl)|(apply Aa.D8;rfl;rfl;rfl)|(apply Aa.Dz;rfl;rfl;rfl;trivial;rfl;rfl;exact AY rfl;exact le_dec rfl)|(apply Aa.buildSlice;rfl;rfl;rfl;decide;rfl;rfl;rfl)|(apply Aa.Ea;rfl;rfl;rfl;rfl;omega)|(apply Ad.Ac;rfl)|(intro _;try (exfalso;omega)))
   all_goals try (exfalso;omega)
   refine Aj.normal ⟨by first|omega|decide,?_,?_⟩
   ·try (rw [e2,e1])
    exact Dy
   ·rw [e2,e1]
    exact Ey
  ·have hl2:=Np FX p.bars ((200+A % 4)-p.bars.length)
   generalize Gj FX p.bars ((200+A % 4)-p.bars.length)=W at *
   repeat' (first|(refine Ad.at 15 ?_;refine Ad.ghost (Ar.BI 0 0 rfl rfl rfl) ?_;first|apply Ad.Bf|apply Ad.Bl)|apply Ad.assoc|apply Ad.Bf|apply Ad.Bl|apply Ad.CO|apply Ad.Fq|apply Ad.Gw|apply Ad.CW|apply Bq.normal|apply Bd.normal|apply Bd.exit|apply Aj.exit|apply Ad.ret|apply Ad.skip|apply Ah.nil|apply Af.nil|apply Ah.one|(apply Af.bar;decide +kernel)|apply Af.quiet|(apply Aa.Qv;rfl;rfl;omega)|(apply Aa.Ap (l:=p.sets) (i:=A % p.sets.length);rfl;rfl;rfl;exact ao _ (by omega);rfl)|(apply Aa.Ap (l:=p.notes) (i:=A % p.notes.length);rfl;rfl;rfl;exact ao _ (by omega);rfl)|(apply Aa.assign;rfl)|(apply Aa.Jl;rfl;rfl;omega)|(apply Aa.KL;rfl;rfl;omega;omega)|(apply Aa.int;rfl;rfl;rfl)|(apply Aa.load;rfl;rfl)|(apply Aa.Nk;rfl;rfl)|(apply Aa.lenV;rfl;rfl;rfl)|(apply Aa.D8;rfl;rfl;rfl)|(apply Aa.Dz;rfl;rfl;rfl;trivial;rfl;rfl;exact AY rfl;exact le_dec rfl)|(apply Aa.Ea;rfl;rfl;rfl;rfl;omega)|(apply Ad.Ac;rfl)|(apply Ad.Aq;rfl)|(intro _;try (exfalso;omega)))
   all_goals first|(exfalso;omega)|contradiction|(refine Done.rt rfl rfl ⟨?_,rfl,rfl⟩;try rfl)
theorem KX {f:FuncId} {a:List FV} {q:Ef} {xs:List FV} (he:Enc.enc q=xs) (c:Ai env f a (.p (.agg xs))):Ai env f a (.p (.agg (Enc.enc q))) :=by grind
theorem b8d {p:Ef} {n:Nat} (hn:n<1000000) (h:Gx p n):NJ p :=
 ⟨by have:=h.lb;omega,by have:=h.ln;omega,by have:=h.ls;omega,fun i hi=>(h.sets i hi).2⟩
theorem Vf {α:Type} [Inhabited α] {P:α→Prop} {l:List α} {i:Nat} {a:α} (h:∀ j,j<l.length→P (gi l j)) (ha:P a):∀ j,j<(l.set i a).length→P (gi (l.set i a) j):=fun j hj=>by
 rw [Gt];grind
theorem qW {α:Type} [Inhabited α] {P:α→Prop} {l:List α} {a:α} (h:∀ j,j<l.length→P (gi l j)) (ha:P a):∀ j,j<(l++[a]).length→P (gi (l++[a]) j):=fun j hj=>by
 rw [az] at hj;have hj:j<l.length+1:=hj;by_cases e:j<l.length
 ·rw [NZ e];grind
 ·obtain rfl:j=l.length:=by omega
  rw [Qm];omega
theorem Gx.mono {p:Ef} {n m:Nat} (h:Gx p n) (hm:n≤m):Gx p m :=
 ⟨by have:=h.lb;omega,by have:=h.ln;omega,by have:=h.ls;omega,fun i hi=>by have:=h.bars i hi;omega,fun i hi=>by have:=h.notes i hi;omega,fun i hi=>⟨by have:=(h.sets i hi).1;omega,(h.sets i hi).2⟩⟩
theorem b7c (p:Ef) (n:Nat) (hn:n≤400000) (h:Gx p n) (h0:0<p.bars.length) (K A:Nat) (B:Int) (hK:K<256) (hA:A<256) (hB:-128≤B∧B≤127) :
 ∃ q:Ef,Ai env 30 [.agg (Enc.enc p),.agg (FY K A B)] (.p (.agg (Enc.enc q)))∧Gx q (n+110000):=by
 have hm:=h.mono (show n≤n+110000 by omega);have l1:=h.lb;have l2:=h.ln;have l3:=h.ls;obtain ⟨m1,m2,m3,m4,m5,m6⟩:=hm;have s12:K % 12<12:=ao _ (by decide);have same:Ai env 30 [.agg (Enc.enc p),.agg (FY K A B)] (.p (.agg (Dp p.bars p.bars.length p.notes p.notes.length p.sets p.sets.length)))→∃ q:Ef,Ai env 30 [.agg (Enc.enc p),.agg (FY K A B)] (.p (.agg (Enc.enc q)))∧Gx q (n+110000):=fun hv=>⟨p,hv,⟨m1,m2,m3,m4,m5,m6⟩⟩
 by_cases k0:K % 12=0
 ·exact same (a3w p n hn h h0 K A B hK hA hB k0)
 by_cases k1:K % 12=1
 ·have c:=a7k p n hn h h0 K A B hK hA hB k1
  have hx:A % p.bars.length<p.bars.length:=ao _ h0;have hbb:=h.bars (A % p.bars.length) hx;refine ⟨(⟨p.bars.set (A % p.bars.length) (gi p.bars (A % p.bars.length)+B),p.notes,p.sets⟩:Ef),?_,?_⟩
  ·exact KX (Jy (nb:=p.bars.length) (nn:=p.notes.length) (ns:=p.sets.length) bo rfl rfl) c
  ·exact ⟨by show (p.bars.set _ _).length≤_;rw [bo];exact m1,m2,m3,Vf (P:=fun b=>-((n+110000:Nat):Int)≤b∧b≤((n+110000:Nat):Int)) m4 (by omega),m5,m6⟩
 by_cases k2:K % 12=2
 ·have c:=a7e p n hn h h0 K A B hK hA hB k2
  have hx:A % p.bars.length<p.bars.length:=ao _ h0;have hl:(p.bars.take (A % p.bars.length)).length=A % p.bars.length:=by rw [aw];omega
  refine ⟨(⟨p.bars.take (A % p.bars.length),p.notes,p.sets⟩:Ef),?_,?_⟩
  ·exact KX (Jy (nb:=A % p.bars.length) (nn:=p.notes.length) (ns:=p.sets.length) hl rfl rfl) c
  ·refine ⟨by show (p.bars.take _).length≤_;rw [hl];omega,m2,m3,fun i hi=>?_,m5,m6⟩
   have hi:i<(p.bars.take (A % p.bars.length)).length:=hi;have e:gi (p.bars.take (A % p.bars.length)) i=gi p.bars i:=by
    unfold gi;rw [cR,if_pos (by omega)]
   show _≤gi (p.bars.take (A % p.bars.length)) i∧gi (p.bars.take (A % p.bars.length)) i≤_;rw [e];exact m4 i (by omega)
 by_cases k3:K % 12=3
 ·have c:=a7o p n hn h h0 K A B hK hA hB k3
  have hl:=Np FX p.bars ((200+A % 4)-p.bars.length);have hb:=kE h0 h.bars ((200+A % 4)-p.bars.length);refine ⟨(⟨Gj FX p.bars ((200+A % 4)-p.bars.length),p.notes,p.sets⟩:Ef),c,⟨?_,m2,m3,fun i hi=>?_,m5,m6⟩⟩
  ·show (Gj FX p.bars ((200+A % 4)-p.bars.length)).length≤_
   omega
  ·have:=hb i hi
   show _≤gi (Gj FX p.bars ((200+A % 4)-p.bars.length)) i∧gi (Gj FX p.bars ((200+A % 4)-p.bars.length)) i≤_;omega
 by_cases k4:K % 12=4
 ·have c:=a5d p n hn h h0 K A B hK hA hB k4
  refine ⟨(⟨p.bars++[99998+((A % 5:Nat):Int)],p.notes,p.sets⟩:Ef),?_,?_⟩
  ·exact KX (Jy (nb:=p.bars.length+1) (nn:=p.notes.length) (ns:=p.sets.length) (by rw [az];rfl) rfl rfl) c
  ·exact ⟨by show (p.bars++_).length≤_;rw [az];show p.bars.length+1≤_;omega,m2,m3,qW (P:=fun b=>-((n+110000:Nat):Int)≤b∧b≤((n+110000:Nat):Int)) m4 (by omega),m5,m6⟩
 by_cases k5:K % 12=5
 ·have ok5:(⟨List.replicate (A % 5) 0,0,0⟩:Rgs).Ok:=by
   refine ⟨fun i hi=>?_,by show 0<_;decide,by show 0<_;decide,by show (List.replicate (A % 5) 0).length<_;rw [dc];omega⟩;show gi (List.replicate (A % 5) 0) i<_;unfold gi;rw [gr];split<;>decide
  have c:Ai env 30 [.agg (Enc.enc p),.agg (FY K A B)] (.p (.agg (Dp p.bars p.bars.length p.notes p.notes.length (p.sets++[(⟨B,⟨List.replicate (A % 5) 0,0,0⟩⟩:Ny)]) (p.sets.length+1)))):=by
   rcases am p.sets.length with hz|hz
   ·exact a1k p n hn h h0 hz K A B hK hA hB k5
   ·exact a8a p n hn h h0 hz K A B hK hA hB k5
  refine ⟨(⟨p.bars,p.notes,p.sets++[(⟨B,⟨List.replicate (A % 5) 0,0,0⟩⟩:Ny)]⟩:Ef),?_,?_⟩
  ·exact KX (Jy (nb:=p.bars.length) (nn:=p.notes.length) (ns:=p.sets.length+1) rfl rfl (by rw [az];rfl)) c
  ·exact ⟨m1,m2,by show (p.sets++_).length≤_;rw [az];show p.sets.length+1≤_;omega,m4,m5,qW (P:=fun s:Ny=>(-((n+110000:Nat):Int)≤s.bar∧s.bar≤((n+110000:Nat):Int))∧s.reg.Ok) m6 ⟨by show _≤B∧B≤_;omega,ok5⟩⟩
 by_cases k67:K % 12=6∨K % 12=7
 ·rcases am p.sets.length with hz|hz
  ·exact same (a0c p n hn h h0 hz K A B hK hA hB k67)
  have hx:A % p.sets.length<p.sets.length:=ao _ hz;have hbb:=h.sets (A % p.sets.length) hx;by_cases k6:K % 12=6
  ·have c:=a4t p n hn h h0 hz K A B hK hA hB k6
   refine ⟨(⟨p.bars,p.notes,p.sets.set (A % p.sets.length) (⟨(gi p.sets (A % p.sets.length)).bar+B,(gi p.sets (A % p.sets.length)).reg⟩:Ny)⟩:Ef),?_,?_⟩
   ·exact KX (Jy (nb:=p.bars.length) (nn:=p.notes.length) (ns:=p.sets.length) rfl rfl bo) c
   ·exact ⟨m1,m2,by show (p.sets.set _ _).length≤_;rw [bo];exact m3,m4,m5,Vf (P:=fun s:Ny=>(-((n+110000:Nat):Int)≤s.bar∧s.bar≤((n+110000:Nat):Int))∧s.reg.Ok) m6 ⟨by show _≤(gi p.sets (A % p.sets.length)).bar+B∧(gi p.sets (A % p.sets.length)).bar+B≤_;omega,hbb.2⟩⟩
  ·have c:=a5z p n hn h h0 hz K A B hK hA hB (by omega)
   have p1:2 ^ (A % 64)<2 ^ 64:=cz (by omega) (ao _ (by decide));have p2:(gi p.sets (A % p.sets.length)).reg.cp ||| 2 ^ (A % 64)<2 ^ 64:=cW hbb.2.cp p1
   refine ⟨(⟨p.bars,p.notes,p.sets.set (A % p.sets.length) (⟨(gi p.sets (A % p.sets.length)).bar,⟨(gi p.sets (A % p.sets.length)).reg.stops,(gi p.sets (A % p.sets.length)).reg.cp ||| 2 ^ (A % 64),(gi p.sets (A % p.sets.length)).reg.off⟩⟩:Ny)⟩:Ef),?_,?_⟩
   ·exact KX (Jy (nb:=p.bars.length) (nn:=p.notes.length) (ns:=p.sets.length) rfl rfl bo) c
   ·exact ⟨m1,m2,by show (p.sets.set _ _).length≤_;rw [bo];exact m3,m4,m5,Vf (P:=fun s:Ny=>(-((n+110000:Nat):Int)≤s.bar∧s.bar≤((n+110000:Nat):Int))∧s.reg.Ok) m6 ⟨by show _≤(gi p.sets (A % p.sets.length)).bar∧(gi p.sets (A % p.sets.length)).bar≤_;omega,⟨hbb.2.stops,p2,hbb.2.off,hbb.2.len⟩⟩⟩
 rcases am p.notes.length with hz|hz
 ·exact same (a3c p n hn h h0 hz K A B hK hA hB (by omega))
 have hx:A % p.notes.length<p.notes.length:=ao _ hz;have hbb:=h.notes (A % p.notes.length) hx;have fin:∀ y:GI,((-((n+110000:Nat):Int)≤y.s∧y.s≤((n+110000:Nat):Int))∧(-((n+110000:Nat):Int)≤y.e∧y.e≤((n+110000:Nat):Int))∧(-((n+110000:Nat):Int)≤y.d∧y.d≤((n+110000:Nat):Int))∧(-((n+110000:Nat):Int)≤y.k∧y.k≤((n+110000:Nat):Int))) →
  Ai env 30 [.agg (Enc.enc p),.agg (FY K A B)] (.p (.agg (Dp p.bars p.bars.length (p.notes.set (A % p.notes.length) y) p.notes.length p.sets p.sets.length)))→∃ q:Ef,Ai env 30 [.agg (Enc.enc p),.agg (FY K A B)] (.p (.agg (Enc.enc q)))∧Gx q (n+110000):=fun y hy hv=>by
  refine ⟨⟨p.bars,p.notes.set (A % p.notes.length) y,p.sets⟩,?_,?_⟩
  ·exact KX (Jy (nb:=p.bars.length) (nn:=p.notes.length) (ns:=p.sets.length) rfl bo rfl) hv
  ·exact ⟨m1,by show (p.notes.set _ _).length≤_;rw [bo];exact m2,m3,m4,Vf (P:=fun y:GI=>(-((n+110000:Nat):Int)≤y.s∧y.s≤((n+110000:Nat):Int))∧(-((n+110000:Nat):Int)≤y.e∧y.e≤((n+110000:Nat):Int))∧(-((n+110000:Nat):Int)≤y.d∧y.d≤((n+110000:Nat):Int))∧(-((n+110000:Nat):Int)≤y.k∧y.k≤((n+110000:Nat):Int))) m5 hy,m6⟩
 by_cases k8:K % 12=8
 ·exact fin _ (by dsimp only;omega) (a9b p n hn h h0 hz K A B hK hA hB k8)
 by_cases k9:K % 12=9
 ·exact fin _ (by dsimp only;omega) (a9p p n hn h h0 hz K A B hK hA hB k9)
 by_cases k10:K % 12=10
 ·exact fin _ (by dsimp only;omega) (a1l p n hn h h0 hz K A B hK hA hB k10)
 ·exact fin _ (by dsimp only;omega) (a0k p n hn h h0 hz K A B hK hA hB (by omega))
theorem jA.bd {o:Ho} {p:Ef} (ho:tC o) (h:jA o p):Gx p 100000:=by
 have b:=h.bars;have n1:=h.notes;have s1:=h.sets;have d1:=ho.Ag;have f1:=(h.bar 0 (by omega)).1;have f2:=(h.bar (p.bars.length-1) (by omega)).1;refine ⟨by omega,by omega,by omega,fun i hi=>by have:=(h.bar i hi).1;omega,fun i hi=>?_,fun i hi=>⟨by have:=(h.set i hi).1;omega,h.sm.reg i hi⟩⟩;obtain ⟨q1,q2,q3,_⟩:=h.note i hi;have q4:=ho.cmp (i:=(gi p.notes i).d.toNat) (by omega);have e1:OX p=gi p.bars 0:=rfl;have e2:PD p=gi p.bars (p.bars.length-1):=rfl;omega
theorem a3s (K A:Nat) (B:Int):FY K A B=[.int .u8 (K:Int),.int .u8 (A:Int),.int .i8 B]:=rfl
open Go.Sch
attribute [local irreducible] RN Bc BX Ew Jj Gp Hold
theorem iH (q:Qu) (ho:LQ q.o) (hp:NJ q.p) (hE:hcE q≠0):Ai env 26 [.agg (Enc.enc q)] (.Eb [.p (.int .i64 0),.p (.bool false),.p (.int .i64 (hcE q))]):=by
 have hc:=GZ q ho hp;generalize hcE q=e1 at *;refine Ai.enter (Ae (by decide)) Tryz.func26 rfl (by kernel_rfl) (by simp [Tryz.ntmps26]) ?_
 repeat' (first|(apply Aa.fn;rfl;rfl;exact hc;intro _;rfl)|refine Cb ?_|(apply Aa.int;rfl;rfl;rfl)|(apply Ad.Ac;rfl)|(intro _;try (exfalso;omega)))
 all_goals first|(exfalso;omega)|contradiction|(refine Done.rt rfl rfl ⟨?_,rfl,rfl⟩;try rfl)
theorem VP (x:mJ) (hx:x.Ok) (K A:Nat) (B:Int) (hK:K<256) (hA:A<256) (hB:-128≤B∧B≤127) (z:Zc):Jj env 8 [.agg x.enc,.agg (FY K A B),.agg (Enc.enc z)] (.p (.bool true)):=by
 have hkn:=jZ;have hf:=wE x hx;by_cases hfit:Xh x
 ·rw [decide_eq_true hfit] at hf
  have hm:=og x hx hfit;have oT:=a5x x.org hx.org hfit.1;have pK:=b8o x hx hfit;have hbd:=pK.bd oT.k;have b2:=pK.bars;generalize lq x.org=o at *;generalize mkP x=p at *;obtain ⟨q0,hq,sq⟩:=b7c p 100000 (by omega) hbd (by omega) K A B hK hA hB;have sm:=b8d (by omega) sq;have hpc:=MR o q0 oT.k.sm sm;have hsp:=Ji z;have hck:=GZ ⟨o,q0,z⟩ oT.k.sm sm;rw [a3s] at *;by_cases e1:VB o q0=0
  ·rw [e1] at hpc
   by_cases e2:oU z=0
   ·rw [e2] at hsp
    have e3:hcE ⟨o,q0,z⟩=0:=by unfold hcE;rw [if_pos e1];exact e2
    rw [e3] at hck;refine Jj.enter Tryz.func8 rfl (by kernel_rfl) (by kernel_rfl) (by simp [Tryz.ntmps8]) ?_
    repeat' (first|(refine Bc.at 1 ?_;apply Bc.Qk)|(apply BX.fn;rfl;rfl;exact hkn;exact KJ;intro _;rfl)|apply Bc.Bf|apply Bc.Bl|apply Bc.region|apply Ew.normal|apply Ew.ret|apply Bc.to|apply Bc.ret|apply Bc.skip|(apply Bc.cond_true;rfl)|(apply Bc.cond_false;rfl)|apply BX.one|(apply Aa.fn;rfl;rfl;exact hf;intro _;rfl)|(apply Aa.fn;rfl;rfl;exact hm;intro _;rfl)|(apply Aa.fn;rfl;rfl;exact hq;intro _;rfl)|(apply Aa.fn;rfl;rfl;exact hpc;intro _;rfl)|(apply Aa.fn;rfl;rfl;exact hsp;intro _;rfl)|(apply Aa.fn;rfl;rfl;exact hck;intro _;rfl)|refine go1 ?_|(apply Aa.int;rfl;rfl;rfl)|(apply Aa.build;rfl;rfl;rfl;rfl;rfl)|(apply BX.zB))
    all_goals first|(exfalso;omega)|contradiction|(refine Done.rt rfl rfl ⟨?_,rfl,rfl⟩;try rfl)
    all_goals first|exact PV.FZ (decide_eq_true rfl)|exact PV.FZ (by simp)
   ·have e3:hcE ⟨o,q0,z⟩=oU z:=by unfold hcE;rw [if_pos e1]
    have hne:hcE ⟨o,q0,z⟩≠0:=by rw [e3];exact e2
    have f1:=P5 ⟨o,q0,z⟩ (.val (.slice none 0 0)) _ hne (Nl ⟨o,q0,z⟩ oT.k.sm sm hne _);have f2:=Pq ⟨o,q0,z⟩ (.val (.slice none 0 0)) _ hne (Nl ⟨o,q0,z⟩ oT.k.sm sm hne _);have f3:=Zy ⟨o,q0,z⟩ (.val (.slice none 0 0)) _ hne (MF ⟨o,q0,z⟩ oT.k.sm sm hne _);have f4:=iH ⟨o,q0,z⟩ oT.k.sm sm hne;have f5:=ZH ⟨o,q0,z⟩ oT.k.sm sm hne;have f6:=WS ⟨o,q0,z⟩ oT.k.sm sm hne;have f7:=MF ⟨o,q0,z⟩ oT.k.sm sm hne (.val (.slice none 0 0));rw [e3] at hck hne f1 f2 f3 f4 f5 f6 f7;clear e3;generalize oU z=E at *;refine Jj.enter Tryz.func8 rfl (by kernel_rfl) (by kernel_rfl) (by simp [Tryz.ntmps8]) ?_
    repeat' (first|(refine Bc.at 1 ?_;apply Bc.Qk)|(apply BX.fn;rfl;rfl;exact hkn;exact KJ;intro _;rfl)|apply Bc.Bf|apply Bc.Bl|apply Bc.region|apply Ew.normal|apply Bc.to|apply Bc.ret|apply Bc.skip|(apply Bc.cond_true;rfl)|(apply Bc.cond_false;rfl)|(apply Bc.Aq;rfl)|apply BX.one|(apply Aa.fn;rfl;rfl;exact hf;intro _;rfl)|(apply Aa.fn;rfl;rfl;exact hm;intro _;rfl)|(apply Aa.fn;rfl;rfl;exact hq;intro _;rfl)|(apply Aa.fn;rfl;rfl;exact hpc;intro _;rfl)|(apply Aa.fn;rfl;rfl;exact hsp;intro _;rfl)|(apply Aa.fn;rfl;rfl;exact hck;intro _;rfl)|(apply Aa.fn;rfl;rfl;exact f1;intro _;rfl)|(apply Aa.fn;rfl;rfl;exact f2;intro _;rfl)|(apply Aa.fn;rfl;rfl;exact f3;intro _;rfl)|(apply Aa.fn;rfl;rfl;exact f4;intro _;rfl)|(apply Aa.fn;rfl;rfl;exact f5;intro _;rfl)|(apply Aa.fn;rfl;rfl;exact f6;intro _;rfl)|(apply Aa.fn;rfl;rfl;exact f7;intro _;rfl)|(apply Aa.a6p;rfl;rfl)|refine go1 ?_|(apply Ah.guard;rfl;rfl)|(apply Aa.int;rfl;rfl;rfl)|(apply Aa.build;rfl;rfl;rfl;rfl;rfl)|(apply Aa.eqS;rfl;rfl)|(intro _;try (exfalso;omega))|(apply BX.zB))
    all_goals first|(exfalso;omega)|contradiction|(refine Done.rt rfl rfl ⟨?_,rfl,rfl⟩;try rfl)
    all_goals first|exact PV.FZ (decide_eq_true rfl)|exact PV.FZ (by simp)
  ·have e3:hcE ⟨o,q0,z⟩=VB o q0:=by unfold hcE;rw [if_neg e1]
   have hne:hcE ⟨o,q0,z⟩≠0:=by rw [e3];exact e1
   have f1:=P5 ⟨o,q0,z⟩ (.val (.slice none 0 0)) _ hne (Nl ⟨o,q0,z⟩ oT.k.sm sm hne _);have f2:=Pq ⟨o,q0,z⟩ (.val (.slice none 0 0)) _ hne (Nl ⟨o,q0,z⟩ oT.k.sm sm hne _);have f3:=Zy ⟨o,q0,z⟩ (.val (.slice none 0 0)) _ hne (MF ⟨o,q0,z⟩ oT.k.sm sm hne _);have f4:=iH ⟨o,q0,z⟩ oT.k.sm sm hne;have f5:=ZH ⟨o,q0,z⟩ oT.k.sm sm hne;have f6:=WS ⟨o,q0,z⟩ oT.k.sm sm hne;have f7:=MF ⟨o,q0,z⟩ oT.k.sm sm hne (.val (.slice none 0 0));rw [e3] at hck hne f1 f2 f3 f4 f5 f6 f7;clear e3;generalize VB o q0=E at *;refine Jj.enter Tryz.func8 rfl (by kernel_rfl) (by kernel_rfl) (by simp [Tryz.ntmps8]) ?_
   repeat' (first|(refine Bc.at 1 ?_;apply Bc.Qk)|(apply BX.fn;rfl;rfl;exact hkn;exact KJ;intro _;rfl)|apply Bc.Bf|apply Bc.Bl|apply Ew.normal|apply Bc.to|apply Bc.ret|apply Bc.skip|(apply Bc.cond_false;rfl)|(apply Bc.Aq;rfl)|apply BX.one|(apply Aa.fn;rfl;rfl;exact hf;intro _;rfl)|(apply Aa.fn;rfl;rfl;exact hm;intro _;rfl)|(apply Aa.fn;rfl;rfl;exact hq;intro _;rfl)|(apply Aa.fn;rfl;rfl;exact hpc;intro _;rfl)|(apply Aa.fn;rfl;rfl;exact hck;intro _;rfl)|(apply Aa.fn;rfl;rfl;exact f1;intro _;rfl)|(apply Aa.fn;rfl;rfl;exact f2;intro _;rfl)|(apply Aa.fn;rfl;rfl;exact f3;intro _;rfl)|(apply Aa.fn;rfl;rfl;exact f4;intro _;rfl)|(apply Aa.fn;rfl;rfl;exact f5;intro _;rfl)|(apply Aa.fn;rfl;rfl;exact f6;intro _;rfl)|(apply Aa.fn;rfl;rfl;exact f7;intro _;rfl)|(apply Aa.a6p;rfl;rfl)|refine go1 ?_|(apply Ah.guard;rfl;rfl)|(apply Aa.int;rfl;rfl;rfl)|(apply Aa.build;rfl;rfl;rfl;rfl;rfl)|(apply Aa.eqS;rfl;rfl)|(intro _;try (exfalso;omega))|(apply BX.zB))
   all_goals first|(exfalso;omega)|contradiction|(refine Done.rt rfl rfl ⟨?_,rfl,rfl⟩;try rfl)
   all_goals first|exact PV.FZ (decide_eq_true rfl)|exact PV.FZ (by simp)
 ·rw [decide_eq_false hfit] at hf
  unfold FY;refine Jj.enter Tryz.func8 rfl (by kernel_rfl) (by kernel_rfl) (by simp [Tryz.ntmps8]) ?_
  repeat' (first|(refine Bc.at 1 ?_;apply Bc.Qk)|(refine Bc.at 2 ?_;apply Bc.Qk)|(apply BX.fn;rfl;rfl;exact hkn;exact KJ;intro _;rfl)|apply Bc.Bf|apply Ew.ret|apply Bc.to|apply Bc.ret|(apply Bc.cond_true;rfl)|apply BX.nil|apply BX.one|(apply Aa.fn;rfl;rfl;exact hf;intro _;rfl)|refine go1 ?_|(apply BX.zB))
  all_goals first|(exfalso;omega)|contradiction|(refine Done.rt rfl rfl ⟨?_,rfl,rfl⟩;try rfl)
end Go.Proofs.YtnjkoebfgcbbdaaGreatDoor
