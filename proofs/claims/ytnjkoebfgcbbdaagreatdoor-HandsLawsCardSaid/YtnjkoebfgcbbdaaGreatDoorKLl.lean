/-
  Texts of a proof, merged (PieB, PieC, PieD, PieE, PieF, OrO, PieG, OrKa, Vm43, PieH, PieI, Pop, Vm39, Vm44). Conditions: in each statement.
-/
import Derived.Test.YtnjkoebfgcbbdaaGreatDoorKLk
set_option linter.unusedSimpArgs false
set_option linter.unusedVariables false
set_option linter.unusedSectionVars false
set_option maxRecDepth 100000
set_option maxHeartbeats 8000000
abbrev cS:=@Bool.true_and
abbrev dm:=@Nat.pow_lt_pow_right
abbrev ew:=@Bool.false_and
abbrev eE:=@Nat.or_lt_two_pow
abbrev fm:=@Nat.and_two_pow_sub_one_eq_mod
abbrev fy:=@List.mem_mergeSort
abbrev gL:=@List.length_mergeSort
namespace Go.Proofs.YtnjkoebfgcbbdaaGreatDoor
open Go Go.Am Go.Vm Go.Pie
attribute [local irreducible] Aa Aj Ah Ad AP Ap Bd BL Bf Ag Vm.Done BA AB
attribute [local irreducible] Ce Ba DV DN En AZ
theorem a1m (l:List Int) (hl:l.length<1000000):Ap env 79 [.lst 3 (cells l) l.length] (.p (.int .i64 (RV l))):=by
 obtain ⟨E,hE⟩:∃ E,E=X5 l 0:=⟨_,rfl⟩
 unfold RV;rw [← hE];refine Ap.enter (Ae (by decide)) Tryz.func79 rfl (by kernel_rfl) (by simp [Tryz.ntmps79]) ?_;by_cases c1:l.length<2
 ·rw [if_pos c1]
  repeat' (first|refine IG ?_|(apply Ad.Ar;rfl)|(intro _;try (exfalso;omega)))
  all_goals first|(exfalso;omega)|(refine Done.rt rfl rfl ⟨?_,rfl,rfl⟩;try rfl)
 rw [if_neg c1];by_cases c2:l.length>201
 ·rw [if_pos c2]
  repeat' (first|refine IG ?_|(apply Ad.Ar;rfl)|(intro _;try (exfalso;omega)))
  all_goals first|(exfalso;omega)|(refine Done.rt rfl rfl ⟨?_,rfl,rfl⟩;try rfl)
 rw [if_neg c2]
 repeat' (first|refine IG ?_|(apply Ad.Ar;rfl)|(intro _;try (exfalso;omega)))
 all_goals try (exfalso;omega)
 apply Ad.Ii (l.length) (fun k=>X5 l k=E) [(0,_),(2,_),(13,_),(14,_)] [] (fun k r=>(15,.p (.int .i64 (k:Int)))::r) (fun k r=>r) 0
 ·first|omega|decide
 ·first|omega|decide
 ·exact Nl
 ·exact O7
 ·first|(intro _ _;omega)|omega|trivial
 ·intro k hk hi
  have e:=mG hk;have hk1:((k:Int)-1).toNat=k-1:=by omega
  have hkc:0<k→(k:Int)-1=((k-1:Nat):Int):=fun h=>by omega
  by_cases h1:gi l k<0∨gi l k>100000
  ·rw [if_pos h1] at e
   rw [← hi,e]
   repeat' (first|(apply Aa.Ak;rfl;rfl;rfl;omega;rfl)|refine O8 ?_|apply Ad.Hq|(apply Aj.guard;rfl;rfl)|(apply Ad.Ac;rfl)|(apply Ad.cond_true;rfl)|(apply Ad.Ar;rfl)|(intro _;try (exfalso;omega)))
   all_goals first|(exfalso;omega)|(refine Done.rt rfl rfl ⟨?_,rfl,rfl⟩;try rfl)
  rw [if_neg h1] at e;by_cases h2:0<k∧gi l k≤gi l (k-1)
  ·rw [if_pos h2] at e
   rw [← hi,e]
   repeat' (first|(apply Aa.Ak (l:=l) (i:=k-1);rfl;exact congrArg (fun b=>some (PV.p (.int .i64 b))) (hkc h2.1);rfl;omega;rfl)|(apply Aa.Ak;rfl;rfl;rfl;omega;rfl)|refine IE ?_|apply Ad.Hq|(apply Aj.guard;rfl;rfl)|(apply Aa.int;rfl;rfl;rfl)|(apply Ad.Ac;rfl)|(apply Ad.Ar;rfl)|(intro _;try (exfalso;omega)))
   all_goals first|(exfalso;omega)|(refine Done.rt rfl rfl ⟨?_,rfl,rfl⟩;try rfl)
  rw [if_neg h2] at e;by_cases h0:k=0
  ·repeat' (first|(apply Aa.Ak;rfl;rfl;rfl;omega;rfl)|refine O8 ?_|apply Ad.Hq|(apply Aj.guard;rfl;rfl)|(apply Ad.Ac;rfl)|(apply Ad.cond_false;rfl)|(apply Ad.Ar;rfl)|(intro _;try (exfalso;omega)))
   all_goals try (exfalso;omega)
   refine Ag.normal ⟨(e.symm.trans hi),by first|omega|decide,?_,?_⟩
   ·exact C9
   ·exact DT
  ·repeat' (first|(apply Aa.Ak (l:=l) (i:=k-1);rfl;exact congrArg (fun b=>some (PV.p (.int .i64 b))) (hkc (by omega));rfl;omega;rfl)|(apply Aa.Ak;rfl;rfl;rfl;omega;rfl)|refine IE ?_|apply Ad.Hq|(apply Aj.guard;rfl;rfl)|(apply Aa.int;rfl;rfl;rfl)|(apply Ad.Ac;rfl)|(apply Ad.Ar;rfl)|(intro _;try (exfalso;omega)))
   all_goals try (exfalso;omega)
   refine Ag.normal ⟨(e.symm.trans hi),by first|omega|decide,?_,?_⟩
   ·exact C9
   ·exact DT
 ·intro hi
  rw [a8z] at hi;rw [← hi]
  repeat' (first|refine IG ?_|(apply Ad.Ac;rfl)|(intro _;try (exfalso;omega)))
  all_goals first|(exfalso;omega)|(refine Done.rt rfl rfl ⟨?_,rfl,rfl⟩;try rfl)
theorem gq (p:F7) (h0:0<p.bars.length) (hl:p.bars.length<1000000):Ap env 47 [.agg (Enc.enc p)] (.D9 [.p (.int .i64 (O6 p)),.p (.int .i64 (Pn p))]):=by
 have hkc:(p.bars.length:Int)-1=((p.bars.length-1:Nat):Int):=by omega
 refine Ap.enter (Ae (by decide)) Tryz.func47 rfl (by kernel_rfl) (by simp) ?_
 repeat' (first|(apply Aa.Ak (l:=p.bars) (i:=p.bars.length-1);rfl;exact congrArg (fun b=>some (PV.p (.int .i64 b))) hkc;rfl;omega;rfl)|(apply Aa.Ak (l:=p.bars) (i:=0);rfl;rfl;rfl;omega;rfl)|refine IE ?_|fail)
 all_goals first|(omega)|(refine Done.rt rfl rfl ⟨?_,rfl,rfl⟩;try rfl)
abbrev a1x (n:LW):HB:=.box 39 ((Enc.enc n).map .p)
theorem b5a (f:FuncId) (n:LW) (l:List LW) (z:Bool) (P:Nat→Bool) (hl:l.length<1000000) (hM:∀ k,Eh env f ([.p (.agg (Enc.enc (gi l k)))]++[.ref 0 0]) [(0,a1x n)] 1 (.bool (P k))) :
 Eh env 116 [.vec 1 l.length 0 l.length,.clo f [] [.ref 0 0]] [(0,a1x n),(1,.vec 39 (cells l) l.length z)] 2 (.int .i64 (Et P l.length)):=by
 refine Eh.enter (Ae (by decide)) Tryz.func116 rfl (by kernel_rfl) (by simp [Tryz.ntmps116]) ?_
 repeat' (first|(apply Aa.lenV;rfl;rfl;rfl)|refine go2 ?_|fail)
 all_goals try (exfalso;omega)
 apply Ad.Ii (l.length) (fun k=>Xw P l.length (l.length-k)=Et P l.length) [(0,_),(1,_),(7,_)] [(0,_),(1,_)] (fun k r=>(8,.p (.int .i64 (k:Int)))::r) (fun k r=>r) 2
 ·first|omega|decide
 ·first|omega|decide
 ·exact Nl
 ·exact O7
 ·first|(intro _ _;omega)|omega|trivial
 ·intro k hk hi
  have hC:=hM k;by_cases hp:P k=true
  ·rw [hp] at hC
   have e1:Et P l.length=(k:Int):=by rw [← hi,Yi hk hp]
   rw [e1]
   repeat' (first|(apply Aa.read [0] hC;rfl;rfl;exact .of_eq rfl;exact CS.Az rfl;exact CX rfl;(repeat (first|exact trivial|refine ⟨⟨_,rfl,.of_eq rfl⟩,?_⟩));decide;(intro _ hb;simp at hb<;>omega);rfl)|(apply Aa.D5;rfl;rfl;rfl;rfl;omega)|refine go2 ?_|(apply Aa.int;rfl;rfl;rfl)|(apply Ad.Ac;rfl)|(apply Ad.cond_true;rfl)|(intro _;try (exfalso;omega)))
   all_goals first|(exfalso;omega)|contradiction|(refine Done.ret rfl (.refl _) trivial ?_ (by omega) (ab _) ⟨?_,rfl,rfl⟩;exact DT;try rfl)
  ·have hp':P k=false:=by simpa using hp
   rw [hp'] at hC
   repeat' (first|(apply Aa.read [0] hC;rfl;rfl;exact .of_eq rfl;exact CS.Az rfl;exact CX rfl;(repeat (first|exact trivial|refine ⟨⟨_,rfl,.of_eq rfl⟩,?_⟩));decide;(intro _ hb;simp at hb<;>omega);rfl)|(apply Aa.D5;rfl;rfl;rfl;rfl;omega)|refine go2 ?_|(apply Aa.int;rfl;rfl;rfl)|(apply Ad.Ac;rfl)|(apply Ad.cond_false;rfl)|(intro _;try (exfalso;omega)))
   all_goals try (exfalso;omega)
   all_goals try contradiction
   refine Ag.normal ⟨((TV hk hp').symm.trans hi),by first|omega|decide,?_,?_⟩
   ·exact C9
   ·exact DT
 ·intro hi
  have e1:Et P l.length=-1:=by rw [← hi,cY];rfl
  rw [e1]
  repeat' (first|refine IG ?_|(apply Ad.Ac;rfl)|(intro _;try (exfalso;omega)))
  all_goals first|(exfalso;omega)|(refine Done.ret rfl (.refl _) trivial ?_ (by omega) (ab _) ⟨?_,rfl,rfl⟩;exact DT;try rfl)
theorem uy {α:Type} [Inhabited α] (f:α→Bool) (l:List α):decide (0≤Et (fun k=>f (gi l k)) l.length)=l.any f:=by
 rw [fa,decide_eq_true_iff,List.any_eq_true];constructor
 ·intro h
  have h1:=qW (P:=fun k=>f (gi l k)) l.length (ab _) h;have h2:=(zC (fun k=>f (gi l k)) l.length l.length (ab _)).2;refine ⟨_,?_,h1⟩;have h3:Xw (fun k=>f (gi l k)) l.length l.length=Et (fun k=>f (gi l k)) l.length:=rfl;generalize Xw (fun k=>f (gi l k)) l.length l.length=u at *;unfold gi;grind
 ·rintro ⟨x,hx,hf⟩
  obtain ⟨k,hk,rfl⟩:=bL.1 hx;refine TK (P:=fun k=>f (gi l k)) (k:=k) ?_ l.length (ab _) (by omega) hk;unfold gi;grind
theorem yE (f:FuncId) (n:LW) (l:List LW) (z:Bool) (g:LW→Bool) (hl:l.length<1000000) (hM:∀ m,Eh env f ([.p (.agg (Enc.enc m))]++[.ref 0 0]) [(0,a1x n)] 1 (.bool (g m))) :
 Eh env 71 [.vec 1 l.length 0 l.length,.clo f [] [.ref 0 0]] [(0,a1x n),(1,.vec 39 (cells l) l.length z)] 2 (.bool (l.any g)):=by
 have hi:=b5a f n l z (fun k=>g (gi l k)) hl (fun k=>hM _);rw [← uy g l];generalize Et (fun k=>g (gi l k)) l.length=F at *;refine Eh.enter (Ae (by decide)) Tryz.func71 rfl (by kernel_rfl) (by simp) ?_
 repeat' (first|(apply Aa.read [0,1] hi;rfl;rfl;exact .of_eq rfl;exact CS.Az rfl;exact CX rfl;(repeat (first|exact trivial|refine ⟨⟨_,rfl,.of_eq rfl⟩,?_⟩));decide;(intro _ hb;simp at hb<;>omega);rfl)|refine go2 ?_|(apply Aa.int;rfl;rfl;rfl))
 all_goals first|(exfalso;omega)|(refine Done.ret rfl (.refl _) trivial ?_ (by omega) (ab _) ⟨?_,rfl,rfl⟩;exact DT;try rfl)
def clash (n m:LW):Bool:=decide (n.s<m.e)&&decide (m.s<n.e)
theorem x9 (n m:LW):Eh env 122 ([.p (.agg (Enc.enc m))]++[.ref 0 0]) [(0,a1x n)] 1 (.bool (clash n m)):=by
 unfold clash;refine Eh.enter (Ae (by decide)) Tryz.func122 rfl (by kernel_rfl) (by simp [Tryz.ntmps122]) ?_;by_cases h1:n.s<m.e
 ·rw [decide_eq_true h1,cS]
  repeat' (first|refine O8 ?_|(apply Aj.guard;rfl;rfl)|(intro _;try (exfalso;omega)))
  all_goals first|(exfalso;omega)|contradiction|(refine Done.ret rfl (.refl _) trivial ?_ (by omega) (ab _) ⟨?_,rfl,rfl⟩;exact DT;try rfl)
 ·rw [decide_eq_false h1,ew]
  repeat' (first|refine O8 ?_|(apply Aj.guard;rfl;rfl)|(intro _;try (exfalso;omega)))
  all_goals first|(exfalso;omega)|contradiction|(refine Done.ret rfl (.refl _) trivial ?_ (by omega) (ab _) ⟨?_,rfl,rfl⟩;exact DT;try rfl)
end Go.Proofs.YtnjkoebfgcbbdaaGreatDoor
namespace Go.Proofs.YtnjkoebfgcbbdaaGreatDoor
open Go Go.Am Go.Vm Go.Pie
abbrev wC:=List ((Int×Int)×List LW)
def MX (n:LW):Int×Int:=(n.d,n.k)
def a2c (gs:wC) (n:LW):wC:=Cb gs (MX n) ((BP gs (MX n)).getD []++[n])
def PW (l:List LW):Nat→wC
 |0=>[]
 |k+1=>a2c (PW l k) (gi l k)
def kR (gs:wC) (i:Nat):List LW:=((gs[i]?).map (·.2)).getD []
def SK (s:Nat):wC→List ((Int×Int)×PV)
 |[]=>[]
 |x::gs=>(x.1,.vec s x.2.length 0 x.2.length)::SK (s+1) gs
def tlG (gs:wC) (j:Nat):HB:=.vec 39 (cells (kR gs j)) (kR gs j).length true
theorem V7:∀ {s:Nat} {gs:wC} {a:Int×Int},BP (SK s gs) a=(BP gs a).map fun l=>.vec (s+Fj gs a) l.length 0 l.length
 |s,[],a=>rfl
 |s,x::gs,a=>by
  unfold SK BP Fj;by_cases h:a=x.1
  ·grind
  ·rw [V7]
   grind
theorem rJ:∀ {s:Nat} {gs:wC} {a:Int×Int} {l:List LW},Cb (SK s gs) a (.vec (s+Fj gs a) l.length 0 l.length)=SK s (Cb gs a l)
 |s,[],a,l=>rfl
 |s,x::gs,a,l=>by
  unfold SK Cb Fj;by_cases h:a=x.1
  ·grind
  ·simp only [if_neg h,SK]
   rw [show s+(Fj gs a+1)=s+1+Fj gs a by omega,rJ]
theorem Qp:∀ {gs:wC} {a:Int×Int},kR gs (Fj gs a)=(BP gs a).getD []
 |[],a=>rfl
 |x::gs,a=>by
  unfold Fj BP;by_cases h:a=x.1
  ·simp only [if_pos h];rfl
  ·simp only [if_neg h]
   exact Qp (gs:=gs)
theorem qY:∀ {gs:wC} {a:Int×Int} {l:List LW} {j:Nat},kR (Cb gs a l) j=if j=Fj gs a then l else kR gs j
 |[],a,l,j=>by
  match j with
  |0=>rfl
  |j+1=>rfl
 |x::gs,a,l,j=>by
  unfold Cb Fj;by_cases h:a=x.1
  ·simp only [if_pos h]
   match j with
   |0=>rfl
   |j+1=>rfl
  ·simp only [if_neg h]
   match j with
   |0=>rfl
   |j+1 =>
    have:=qY (gs:=gs) (a:=a) (l:=l) (j:=j);simp only [Nat.add_right_cancel_iff];exact this
theorem WZ {α β:Type} [DecidableEq α]:∀ {es:List (α×β)} {a:α} {b:β},(Cb es a b).length≤es.length+1
 |[],a,b=>by simp [Cb]
 |x::es,a,b=>by
  unfold Cb;split
  ·simp
  ·have:=WZ (es:=es) (a:=a) (b:=b)
   grind
theorem Ve (l:List LW):∀ k,(PW l k).length≤k
 |0=>ab _
 |k+1=>by
  have:=Ve l k;have:=WZ (es:=PW l k) (a:=MX (gi l k)) (b:=(BP (PW l k) (MX (gi l k))).getD []++[gi l k]);show (Cb _ _ _).length≤_;omega
theorem fD {α β:Type} [DecidableEq α]:∀ {es:List (α×β)} {a c:α} {b:β},BP (Cb es a b) c=if c=a then some b else BP es c
 |[],a,c,b=>rfl
 |x::es,a,c,b=>by
  unfold Cb;by_cases h:a=x.1
  ·unfold BP
   grind
  ·rw [if_neg h]
   unfold BP;by_cases h2:c=x.1
   ·grind
   ·rw [if_neg h2,if_neg h2,fD]
theorem VO (l:List LW) (c:Int×Int):∀ k,k≤l.length→(BP (PW l k) c).getD []=(l.take k).filter fun m=>decide (MX m=c)
 |0,_=>rfl
 |k+1,hk=>by
  have ih:=VO l c k (by omega);have et:l.take (k+1)=l.take k++[gi l k]:=by
   rw [List.take_add_one];unfold gi;grind
  show (BP (Cb _ _ _) c).getD []=_;rw [fD];grind
theorem a1l (l:List LW) (n:LW) (k:Nat) (hk:k≤l.length):((BP (PW l k) (MX n)).getD []).any (clash n)=(l.take k).any fun m=>kW m n:=by
 rw [VO l (MX n) k hk,List.any_filter];congr 1
 funext m
 unfold clash kW MX;by_cases h1:m.d=n.d<;>by_cases h2:m.k=n.k<;>by_cases h3:n.s<m.e<;>by_cases h4:m.s<n.e<;>simp [h1,h2,h3,h4]
def kfC (a:Int×Int):List FV:=[.int .i64 a.1,.int .i64 a.2]
def kvC (a:Int×Int):List Value:=[.int .i64 a.1,.int .i64 a.2]
theorem jO:IsKey Tryz.prog 120 kfC kvC:=by
 obtain ⟨fs,hu⟩:∃ fs,Tryz.prog.underlying 120=some (.struct fs):=⟨_,rfl⟩
 refine IsKey.of_struct hu (by kernel_rfl) (fun a=>rfl) (fun a b=>?_) (fun a=>?_)
 ·have hu2:some (TypeDesc.struct fs)=Tryz.prog.underlying 120:=hu.symm
  cases hu2;show some (decide (a.1=b.1)&&(decide (a.2=b.2)&&true))=_;obtain ⟨a1,a2⟩:=a;obtain ⟨b1,b2⟩:=b;by_cases h1:a1=b1<;>by_cases h2:a2=b2<;>simp [h1,h2]
 ·have hu2:some (TypeDesc.struct fs)=Tryz.prog.underlying 120:=hu.symm
  cases hu2;rfl
theorem iH {k:Nat}:∀ {s:Nat} {gs:wC},s+gs.length≤k→CS.under k ((SK s gs).map (·.2))
 |s,[],_=>trivial
 |s,x::gs,h=>by
  simp only [List.length_cons] at h;exact ⟨by show s<k;omega,iH (s:=s+1) (gs:=gs) (by omega)⟩
theorem tK {E:Env} {H:Heap} {nx s:Nat} {gs:wC} {a:Int×Int} {g:List LW} {i:Nat} (hi:i=Fj gs a) (hgl:g=kR gs i) (hg:hget H (s+i)=some (.vec 39 (cells g) g.length true)):KO E H nx (SK s gs) a Du (.vec (s+i) g.length 0 g.length):=by
 subst hi;subst hgl;have e:=Qp (gs:=gs) (a:=a);cases hl:BP gs a with
 |some l =>
  rw [e];exact .inl (by rw [V7,hl];rfl)
 |none =>
  rw [hl] at e;rw [e] at hg ⊢;exact KO.b6c (by rw [V7,hl];rfl) hg
theorem a9x {s:Nat} {gs:wC} {n:LW} {g:List LW} {i:Nat} (hi:i=Fj gs (MX n)) (hgl:g=kR gs i):Cb (SK s gs) (MX n) (.vec (s+i) (g.length+1) 0 (g.length+1))=SK s (a2c gs n):=by
 subst hi;subst hgl;unfold a2c;rw [← rJ,Qp];simp
theorem b5d {gs:wC} {n:LW} {g:List LW} {i:Nat} (hi:i=Fj gs (MX n)) (hgl:g=kR gs i) (j:Nat):(if j=i then .vec 39 (cells (g++[n])) (g.length+1) true else tlG gs j)=tlG (a2c gs n) j:=by
 subst hi;subst hgl;unfold tlG a2c;rw [qY];by_cases h:j=Fj gs (MX n)
 ·rw [if_pos h,if_pos h,Qp]
  simp
 grind
attribute [local irreducible] Aa Aj Ah Ad AP Ap Bd BL Bf Ag Vm.Done BA AB Ce Ba DV DN En AZ CB
def b2o (o:Ia) (p:F7) (G:wC):Heap:=(2,Vk kfC (SK 3 G))::(1,.box 32 ((Enc.enc p).map .p))::(0,.box 27 ((Enc.enc o).map .p))::CB 3 1000 (tlG G)
theorem wE (o:Ia) (p:F7) (hs:bH p) (h2:2≤p.bars.length) (ho:o.Af.length<1000000):Ap env 80 [.agg (Enc.enc o),.agg (Enc.enc p)] (.p (.int .i64 (if p.notes.length>1000 then 4 else G6 o (O6 p) (Pn p) p.notes 0))):=by
 have b1:=hs.notes;have hen:=gq p (by omega) hs.bars;refine Ap.enter (Ae (by decide)) Tryz.func80 rfl (by kernel_rfl) (by simp [Tryz.ntmps80]) ?_;by_cases c1:p.notes.length>1000
 ·rw [if_pos c1]
  repeat' (first|refine IG ?_|(apply Ad.Ac;rfl)|(intro _;try (exfalso;omega)))
  all_goals first|(exfalso;omega)|(refine Done.rt rfl rfl ⟨?_,rfl,rfl⟩;try rfl)
 rw [if_neg c1];obtain ⟨E,hE⟩:∃ E,E=G6 o (O6 p) (Pn p) p.notes 0:=⟨_,rfl⟩
 rw [← hE]
 repeat' (first|(apply Aa.fn;rfl;rfl;exact hen;intro _;rfl)|(apply Aa.Zt)|refine go2 ?_|(apply Aa.int;rfl;rfl;rfl)|(apply Ad.Ac;rfl)|(intro _;try (exfalso;omega)))
 all_goals try (exfalso;omega)
 refine Ad.ghost (Aw.b6x 39 1000 (Zq (by decide) (Zq (by decide) (Zq (by decide) b1k)))) ?_;apply Ad.Ii (p.notes.length) (fun k=>G6 o (O6 p) (Pn p) p.notes k=E) [(2,_),(3,_),(5,_),(6,_),(7,_),(23,_),(24,_)] [] (fun k r=>(25,.p (.int .i64 (k:Int)))::r) (fun k _=>b2o o p (PW p.notes k)) 1003
 ·first|omega|decide
 ·first|omega|decide
 ·exact Nl
 ·refine ⟨⟨Bj rfl,trivial,_,rfl,.refl _⟩,⟨Bj rfl,CS.Bg _ _,_,rfl,.refl _⟩,⟨Bj rfl,CS.Bg _ _,_,rfl,.refl _⟩,BJ.tail (fun j hj=>?_) (by omega) (fun j hj=>trivial)⟩
  refine ED (by omega) (ED (by omega) (ED (by omega) ?_));exact QC hj
 ·exact hE.symm
 ·intro k hk hi
  have e:=Wh (o:=o) (a:=O6 p) (z:=Pn p) hk;have hca:=a1l p.notes (gi p.notes k) k (by omega);have hgl:=Ve p.notes k;have c3a:=Ve p.notes (k+1);have hLk:=VO p.notes (MX (gi p.notes k)) k (by omega);have hGs:a2c (PW p.notes k) (gi p.notes k)=PW p.notes (k+1):=rfl;unfold TU at e;generalize PW p.notes k=G at *;obtain ⟨i,hii⟩:∃ i,i=Fj G (MX (gi p.notes k)):=⟨_,rfl⟩
  obtain ⟨g,hg⟩:∃ g,g=kR G i:=⟨_,rfl⟩
  have hi1:i<1000:=by have:=(ig (es:=G) (a:=MX (gi p.notes k))).1;omega
  have hgt:hget (b2o o p G) (3+i)=some (.vec 39 (cells g) g.length true):=ED (by omega) (ED (by omega) (ED (by omega) (by rw [QC hi1,hg];rfl)));have hpt:∀ y,hput (b2o o p G) (3+i) y=(2,Vk kfC (SK 3 G))::(1,.box 32 ((Enc.enc p).map .p))::(0,.box 27 ((Enc.enc o).map .p))::CB 3 1000 (fun j=>if j=i then y else tlG G j):=fun y=>Q7 (by omega) (Q7 (by omega) (Q7 (by omega) (fZ hi1)))
  have hgg:g=(BP G (MX (gi p.notes k))).getD []:=by rw [hg,hii,Qp]
  have hgn:g.length≤k:=by
   rw [hgg,hLk];exact am (dd _ _) (by rw [ax];omega)
  rw [← hgg] at hca;have hcl:=yE 122 (gi p.notes k) g true (clash (gi p.notes k)) (by omega) (x9 (gi p.notes k));rw [hca] at hcl;by_cases h1:(gi p.notes k).d<0∨(gi p.notes k).d≥o.Af.length
  ·rw [if_pos h1,if_pos (by decide)] at e
   rw [← hi,e]
   repeat' (first|(apply Aa.Ak;rfl;rfl;rfl;omega;rfl)|refine O8 ?_|(apply Aj.guard;rfl;rfl)|(apply Ad.AV;rfl)|(apply Ad.Ac;rfl)|(intro _;try (exfalso;omega)))
   all_goals first|(exfalso;omega)|(refine Done.rt rfl rfl ⟨?_,rfl,rfl⟩;try rfl)
  rw [if_neg h1] at e;by_cases h2:(gi p.notes k).k<(gi o.Af (gi p.notes k).d.toNat).lo∨(gi p.notes k).k>(gi o.Af (gi p.notes k).d.toNat).hi
  ·rw [if_pos h2,if_pos (by decide)] at e
   rw [← hi,e]
   repeat' (first|(apply Aa.Ak;rfl;rfl;rfl;omega;rfl)|(apply Aa.NJ;rfl;rfl;rfl;omega;omega;rfl)|refine O8 ?_|(apply Aj.guard;rfl;rfl)|(apply Aa.build;rfl;rfl;rfl;rfl;rfl)|(apply Ad.Ac;rfl)|(apply Ad.cond_true;rfl)|(apply Ad.Ar;rfl)|(intro _;try (exfalso;omega)))
   all_goals first|(exfalso;omega)|(refine Done.rt rfl rfl ⟨?_,rfl,rfl⟩;try rfl)
  rw [if_neg h2] at e;by_cases h3:(gi p.notes k).s<O6 p∨(gi p.notes k).e>Pn p
  ·rw [if_pos h3,if_pos (by decide)] at e
   rw [← hi,e]
   repeat' (first|(apply Aa.Ak;rfl;rfl;rfl;omega;rfl)|(apply Aa.NJ;rfl;rfl;rfl;omega;omega;rfl)|refine O8 ?_|(apply Aj.guard;rfl;rfl)|(apply Aa.build;rfl;rfl;rfl;rfl;rfl)|(apply Ad.Ac;rfl)|(apply Ad.cond_true;rfl)|(apply Ad.Ar;rfl)|(intro _;try (exfalso;omega)))
   all_goals first|(exfalso;omega)|(refine Done.rt rfl rfl ⟨?_,rfl,rfl⟩;try rfl)
  rw [if_neg h3] at e;by_cases h4:(gi p.notes k).s≥(gi p.notes k).e
  ·rw [if_pos h4,if_pos (by decide)] at e
   rw [← hi,e]
   repeat' (first|(apply Aa.Ak;rfl;rfl;rfl;omega;rfl)|(apply Aa.NJ;rfl;rfl;rfl;omega;omega;rfl)|refine O8 ?_|(apply Aj.guard;rfl;rfl)|(apply Aa.build;rfl;rfl;rfl;rfl;rfl)|(apply Ad.Ac;rfl)|(apply Ad.Ar;rfl)|(intro _;try (exfalso;omega)))
   all_goals first|(exfalso;omega)|(refine Done.rt rfl rfl ⟨?_,rfl,rfl⟩;try rfl)
  rw [if_neg h4] at e;by_cases h5:(p.notes.take k).any (fun m=>kW m (gi p.notes k))=true
  ·rw [if_pos h5,if_pos (by decide)] at e
   rw [h5] at hcl;rw [← hi,e]
   repeat' (first|(apply Aa.zQ (a:=MX (gi p.notes k)) (z:=Du) jO;rfl;rfl;rfl;rfl;rfl;rfl;exact tK hii hg (by (repeat (first|exact hgt|(refine Gq (by omega) ?_)|(refine ED (by omega) ?_)))))|(apply Aa.b3n [1003,3+i] hcl;rfl;rfl;exact .of_eq rfl;exact CS.Az rfl;exact CX rfl;exact ⟨rfl,(show hget _ (3+i)=some (HB.vec 39 (cells g) g.length true) from by (repeat (first|exact hgt|(refine Gq (by omega) ?_)|(refine ED (by omega) ?_)))),trivial⟩;rfl;(simp;omega);(intro _ hb;simp at hb;omega))|(apply Aa.makeFunc;rfl;rfl)|(apply Aa.Ak;rfl;rfl;rfl;omega;rfl)|(apply Aa.NJ;rfl;rfl;rfl;omega;omega;rfl)|refine IE ?_|(apply Aj.guard;rfl;rfl)|(apply Aa.int;rfl;rfl;rfl)|(apply Aa.build;rfl;rfl;rfl;rfl;rfl)|(apply Ad.Ac;rfl)|(apply Ad.cond_true;rfl)|(apply Ad.Ar;rfl)|(intro _;try (exfalso;omega)))
   all_goals first|(exfalso;omega)|(refine Done.rt rfl rfl ⟨?_,rfl,rfl⟩;try rfl)
  have h5:(p.notes.take k).any (fun m=>kW m (gi p.notes k))=false:=by simpa using h5
  rw [h5,if_neg (by decide)] at e;rw [h5] at hcl
  repeat' (first|(apply Aa.zQ (a:=MX (gi p.notes k)) (z:=Du) jO;rfl;rfl;rfl;rfl;rfl;rfl;exact tK hii hg (by (repeat (first|exact hgt|(refine Gq (by omega) ?_)|(refine ED (by omega) ?_)))))|(apply Aa.b3n [1003,3+i] hcl;rfl;rfl;exact .of_eq rfl;exact CS.Az rfl;exact CX rfl;exact ⟨rfl,(show hget _ (3+i)=some (HB.vec 39 (cells g) g.length true) from by (repeat (first|exact hgt|(refine Gq (by omega) ?_)|(refine ED (by omega) ?_)))),trivial⟩;rfl;(simp;omega);(intro _ hb;simp at hb;omega))|(apply Aa.makeFunc;rfl;rfl)|(apply Aa.b6u (a:=MX (gi p.notes k)) (es:=SK 3 G) (z:=Du) jO;rfl;rfl;rfl;rfl;rfl;rfl;exact tK hii hg (by (repeat (first|exact hgt|(refine Gq (by omega) ?_)|(refine ED (by omega) ?_))));rfl)|(apply Aa.a4d (l:=g) (a:=gi p.notes k);rfl;((repeat (first|exact hgt|(refine Gq (by omega) ?_)|(refine ED (by omega) ?_))));rfl;rfl;rfl;rfl;rfl;rfl;(intro _ h;cases h);rfl;rfl;rfl;decide;decide;omega;((repeat (first|exact hpt _|(apply oL;omega)|(apply Q7;omega)))))|(apply Aa.a1a (a:=MX (gi p.notes k)) (es:=SK 3 G) jO;rfl;rfl;rfl;rfl;rfl)|(apply Aa.Ak;rfl;rfl;rfl;omega;rfl)|(apply Aa.NJ;rfl;rfl;rfl;omega;omega;rfl)|refine IE ?_|(apply Aj.guard;rfl;rfl)|(apply Aa.int;rfl;rfl;rfl)|(apply Aa.build;rfl;rfl;rfl;rfl;rfl)|(apply Aa.buildSlice;rfl;rfl;rfl;decide;rfl;rfl;rfl)|(apply Ad.Ac;rfl)|(apply Ad.cond_false;rfl)|(apply Ad.Ar;rfl)|(intro _;try (exfalso;omega)))
  all_goals try (exfalso;omega)
  refine Ag.normal ⟨e.symm.trans hi,by first|omega|decide,?_,?_⟩
  ·exact C9
  ·show BJ 1003 (b2o o p (PW p.notes (k+1))) _
   rw [← hGs] at c3a ⊢;refine ⟨⟨Bj rfl,iH (by omega),_,rfl,.of_eq (congrArg (Vk kfC) (a9x hii hg))⟩,⟨Bj rfl,CS.Bg _ _,_,rfl,.refl _⟩,⟨Bj rfl,CS.Bg _ _,_,rfl,.refl _⟩,BJ.tail (fun j hj=>?_) (by omega) (fun j hj=>trivial)⟩;repeat (first|(refine Gq (by omega) ?_)|(refine ED (by omega) ?_))
   rw [QC hj];exact congrArg some (b5d hii hg j)
 ·intro hi
  rw [vC] at hi;rw [← hi]
  repeat' (first|refine IG ?_|(apply Ad.Ac;rfl)|(intro _;try (exfalso;omega)))
  all_goals first|(exfalso;omega)|(refine Done.rt rfl rfl ⟨?_,rfl,rfl⟩;try rfl)
end Go.Proofs.YtnjkoebfgcbbdaaGreatDoor
namespace Go.Proofs.YtnjkoebfgcbbdaaGreatDoor
open Go Go.Am Go.Vm Go.Pie
attribute [local irreducible] Aa Aj Ah Ad AP Ap Bd BL Bf Ag Vm.Done BA AB
attribute [local irreducible] Ce Ba DV DN En AZ
theorem a2q (o:Ia) (ho:a3p o) (r:Rgs) (hr:r.Ok):Ap env 81 [.agg (Enc.enc o),.agg (Enc.enc r)] (.p (.int .i64 (Wx o r))):=by
 have r2:=ho.Af;have r3:=ho.II;have c1:=hr.cp;have c2:=hr.off;have c3:=hr.len;have hc:=WU o ho.sm;rw [ho.err] at hc;refine Ap.enter (Ae (by decide)) Tryz.func81 rfl (by kernel_rfl) (by simp [Tryz.ntmps81]) ?_;by_cases h1:r.stops.length=o.Af.length
 case neg =>
  rw [a5y h1]
  repeat' (first|(apply Aa.fn;rfl;rfl;exact hc;intro _;rfl)|refine go2 ?_|(apply Aa.int;rfl;rfl;rfl)|(apply Ad.Ai;rfl)|(apply Ad.Ac;rfl)|(intro _;try (exfalso;omega)))
  all_goals first|(exfalso;omega)|contradiction|(refine Done.rt rfl rfl ⟨?_,rfl,rfl⟩;try rfl)
 by_cases h2:∀ i,i<r.stops.length→gi r.stops i / 2 ^ (gi o.Af i).stops.length=0
 case neg =>
  obtain ⟨i,hi⟩:=df.1 h2;obtain ⟨hi,h3⟩:=Classical.not_imp.1 hi;rw [a8g h1 hi h3];clear h2
  repeat' (first|(apply Aa.fn;rfl;rfl;exact hc;intro _;rfl)|refine go2 ?_|(apply Aa.int;rfl;rfl;rfl)|(apply Ad.Ai;rfl)|(apply Ad.Ac;rfl)|(intro _;try (exfalso;omega)))
  all_goals try (exfalso;omega)
  all_goals try contradiction
  apply Ad.Ii (o.Af.length) (fun k=>∀ i,i<k→gi r.stops i / 2 ^ (gi o.Af i).stops.length=0) [(2,_),(3,_),(21,_),(22,_)] [(0,_),(1,_)] (fun k r=>(23,.p (.int .i64 (k:Int)))::r) (fun k r=>r) 2
  ·first|omega|decide
  ·first|omega|decide
  ·exact Nl
  ·exact O7
  ·first|(intro _ _;omega)|omega|trivial
  ·intro k hk hok
   have s3:=ho.stops k (by omega);have rk:=hr.stops k (by omega);by_cases hb:gi r.stops k / 2 ^ (gi o.Af k).stops.length=0
   ·repeat' (first|(apply Aa.Ak;rfl;rfl;rfl;omega;rfl)|refine IG ?_|(apply Aa.jK;rfl;rfl;(simp only [IntKind.bits];omega))|(apply Ad.Ac;rfl)|(apply Ad.Ar;rfl)|(intro _;try (exfalso;omega)))
    all_goals try (exfalso;omega)
    all_goals try contradiction
    refine Ag.normal ⟨(all_succ hok hb),by first|omega|decide,?_,?_⟩
    ·exact C9
    ·exact DT
   ·repeat' (first|(apply Aa.Ak;rfl;rfl;rfl;omega;rfl)|refine IG ?_|(apply Aa.jK;rfl;rfl;(simp only [IntKind.bits];omega))|(apply Ad.Ac;rfl)|(apply Ad.Ar;rfl)|(intro _;try (exfalso;omega)))
    all_goals first|(exfalso;omega)|contradiction|(refine Done.rt rfl rfl ⟨?_,rfl,rfl⟩;try rfl)
  ·intro hok
   exact absurd (hok i (by omega)) h3
 rw [iW h1 h2]
 repeat' (first|(apply Aa.fn;rfl;rfl;exact hc;intro _;rfl)|refine go2 ?_|(apply Aa.int;rfl;rfl;rfl)|(apply Ad.Ai;rfl)|(apply Ad.Ac;rfl)|(intro _;try (exfalso;omega)))
 all_goals try (exfalso;omega)
 all_goals try contradiction
 apply Ad.Ii (o.Af.length) (fun k=>∀ i,i<k→gi r.stops i / 2 ^ (gi o.Af i).stops.length=0) [(2,_),(3,_),(21,_),(22,_)] [(0,_),(1,_)] (fun k r=>(23,.p (.int .i64 (k:Int)))::r) (fun k r=>r) 2
 ·first|omega|decide
 ·first|omega|decide
 ·exact Nl
 ·exact O7
 ·first|(intro _ _;omega)|omega|trivial
 ·intro k hk hok
  have s3:=ho.stops k (by omega);have rk:=hr.stops k (by omega);have hb:=h2 k (by omega)
  repeat' (first|(apply Aa.Ak;rfl;rfl;rfl;omega;rfl)|refine IG ?_|(apply Aa.jK;rfl;rfl;(simp only [IntKind.bits];omega))|(apply Ad.Ac;rfl)|(apply Ad.Ar;rfl)|(intro _;try (exfalso;omega)))
  all_goals try (exfalso;omega)
  all_goals try contradiction
  refine Ag.normal ⟨(fun j hj=>h2 j (by omega)),by first|omega|decide,?_,?_⟩
  ·exact C9
  ·exact DT
 ·intro hok
  by_cases h4:r.cp / 2 ^ o.II.length=0
  ·by_cases h5:r.off / 2 ^ o.Af.length=0
   ·rw [if_neg (by omega)]
    repeat' (first|refine O8 ?_|(apply Aj.guard;rfl;rfl)|(apply Aa.jK;rfl;rfl;(simp only [IntKind.bits];omega))|(apply Ad.Ac;rfl)|(intro _;try (exfalso;omega)))
    all_goals first|(exfalso;omega)|contradiction|(refine Done.rt rfl rfl ⟨?_,rfl,rfl⟩;try rfl)
   ·rw [if_pos (.inr h5)]
    repeat' (first|refine O8 ?_|(apply Aj.guard;rfl;rfl)|(apply Aa.jK;rfl;rfl;(simp only [IntKind.bits];omega))|(apply Ad.Ac;rfl)|(intro _;try (exfalso;omega)))
    all_goals first|(exfalso;omega)|contradiction|(refine Done.rt rfl rfl ⟨?_,rfl,rfl⟩;try rfl)
  ·rw [if_pos (.inl h4)]
   repeat' (first|refine O8 ?_|(apply Aj.guard;rfl;rfl)|(apply Aa.jK;rfl;rfl;(simp only [IntKind.bits];omega))|(apply Ad.AV;rfl)|(apply Ad.Ac;rfl)|(intro _;try (exfalso;omega)))
   all_goals first|(exfalso;omega)|contradiction|(refine Done.rt rfl rfl ⟨?_,rfl,rfl⟩;try rfl)
theorem a0m {l:List Int} (h:RV l=0):2≤l.length:=by
 unfold RV at h;omega
theorem RJ (o:Ia) (p:F7) (ho:TW o) (hp:bH p):Ap env 31 [.agg (Enc.enc o),.agg (Enc.enc p)] (.p (.int .i64 (XV o p))):=by
 have hc:=WU o ho;have hb:=a1m p.bars hp.bars;have b3:=hp.sets;unfold XV iY;refine Ap.enter (Ae (by decide)) Tryz.func31 rfl (by kernel_rfl) (by simp [Tryz.ntmps31]) ?_;by_cases e1:V3 o=0
 case neg =>
  rw [if_pos e1]
  repeat' (first|(apply Aa.fn;rfl;rfl;exact hc;intro _;rfl)|refine go2 ?_|(apply Aa.int;rfl;rfl;rfl)|(apply Ad.Ac;rfl)|(intro _;try (exfalso;omega)))
  all_goals first|(exfalso;omega)|contradiction|(refine Done.rt rfl rfl ⟨?_,rfl,rfl⟩;try rfl)
 rw [if_neg (fun h=>h e1)];rw [e1] at hc;have k1:=b7r ho e1;have d1:=k1.Af;by_cases e2:RV p.bars=0
 case neg =>
  rw [if_pos e2]
  repeat' (first|(apply Aa.fn;rfl;rfl;exact hc;intro _;rfl)|(apply Aa.fn;rfl;rfl;exact hb;intro _;rfl)|refine go2 ?_|(apply Aa.int;rfl;rfl;rfl)|(apply Ad.Ai;rfl)|(apply Ad.Ac;rfl)|(intro _;try (exfalso;omega)))
  all_goals first|(exfalso;omega)|contradiction|(refine Done.rt rfl rfl ⟨?_,rfl,rfl⟩;try rfl)
 rw [if_neg (fun h=>h e2)];rw [e2] at hb;have h2:=a0m e2;have hn:=wE o p hp h2 (by omega);by_cases e3:p.notes.length>1000
 ·rw [if_pos e3] at hn
  rw [if_pos e3]
  repeat' (first|(apply Aa.fn;rfl;rfl;exact hc;intro _;rfl)|(apply Aa.fn;rfl;rfl;exact hb;intro _;rfl)|(apply Aa.fn;rfl;rfl;exact hn;intro _;rfl)|refine go2 ?_|(apply Aa.int;rfl;rfl;rfl)|(apply Ad.AV;rfl)|(apply Ad.Ai;rfl))
  all_goals first|(exfalso;omega)|contradiction|(refine Done.rt rfl rfl ⟨?_,rfl,rfl⟩;try rfl)
 rw [if_neg e3] at hn;rw [if_neg e3];by_cases e4:G6 o (O6 p) (Pn p) p.notes 0=0
 case neg =>
  rw [if_pos e4]
  repeat' (first|(apply Aa.fn;rfl;rfl;exact hc;intro _;rfl)|(apply Aa.fn;rfl;rfl;exact hb;intro _;rfl)|(apply Aa.fn;rfl;rfl;exact hn;intro _;rfl)|refine go2 ?_|(apply Aa.int;rfl;rfl;rfl)|(apply Ad.Ai;rfl)|(apply Ad.Ac;rfl)|(intro _;try (exfalso;omega)))
  all_goals first|(exfalso;omega)|contradiction|(refine Done.rt rfl rfl ⟨?_,rfl,rfl⟩;try rfl)
 rw [if_neg (fun h=>h e4)];rw [e4] at hn;by_cases e5:p.sets.length>100
 ·rw [if_pos e5]
  repeat' (first|(apply Aa.fn;rfl;rfl;exact hc;intro _;rfl)|(apply Aa.fn;rfl;rfl;exact hb;intro _;rfl)|(apply Aa.fn;rfl;rfl;exact hn;intro _;rfl)|refine go2 ?_|(apply Aa.int;rfl;rfl;rfl)|(apply Ad.Ai;rfl)|(apply Ad.Ac;rfl)|(intro _;try (exfalso;omega)))
  all_goals first|(exfalso;omega)|contradiction|(refine Done.rt rfl rfl ⟨?_,rfl,rfl⟩;try rfl)
 rw [if_neg e5];have b1:=hp.bars;obtain ⟨E,hE⟩:∃ E,E=OQ o p.bars.length p.sets 0:=⟨_,rfl⟩
 rw [← hE]
 repeat' (first|(apply Aa.fn;rfl;rfl;exact hc;intro _;rfl)|(apply Aa.fn;rfl;rfl;exact hb;intro _;rfl)|(apply Aa.fn;rfl;rfl;exact hn;intro _;rfl)|refine go2 ?_|(apply Aa.int;rfl;rfl;rfl)|(apply Ad.Ai;rfl)|(apply Ad.Ac;rfl)|(intro _;try (exfalso;omega)))
 all_goals try (exfalso;omega)
 all_goals try contradiction
 apply Ad.Ii (p.sets.length) (fun k=>OQ o p.bars.length p.sets k=E) [(2,_),(3,_),(33,_),(34,_)] [(0,_),(1,_)] (fun k r=>(35,.p (.int .i64 (k:Int)))::r) (fun k r=>r) 2
 ·first|omega|decide
 ·first|omega|decide
 ·exact Nl
 ·exact O7
 ·first|(intro _ _;omega)|omega|trivial
 ·intro k hk hi
  have e:=YU (o:=o) (nb:=p.bars.length) hk;have hr:=a2q o k1 (gi p.sets k).reg (hp.reg k hk);have hkc:0<k→(k:Int)-1=((k-1:Nat):Int):=fun h=>by omega
  unfold Nc at e;by_cases h1:(gi p.sets k).bar<0∨(gi p.sets k).bar≥(p.bars.length:Int)-1
  ·rw [if_pos h1,if_pos (by decide)] at e
   rw [← hi,e]
   repeat' (first|(apply Aa.Ak;rfl;rfl;rfl;omega;rfl)|refine O8 ?_|(apply Aj.guard;rfl;rfl)|(apply Ad.Ac;rfl)|(apply Ad.cond_true;rfl)|(apply Ad.Ar;rfl)|(intro _;try (exfalso;omega)))
   all_goals first|(exfalso;omega)|(refine Done.rt rfl rfl ⟨?_,rfl,rfl⟩;try rfl)
  rw [if_neg h1] at e;by_cases h3:0<k∧(gi p.sets k).bar=(gi p.sets (k-1)).bar
  ·rw [if_pos h3,if_pos (by decide)] at e
   rw [← hi,e]
   repeat' (first|(apply Aa.Ak (l:=p.sets) (i:=k-1);rfl;exact congrArg (fun b=>some (PV.p (.int .i64 b))) (hkc h3.1);rfl;omega;rfl)|(apply Aa.Ak;rfl;rfl;rfl;omega;rfl)|refine IE ?_|(apply Aj.guard;rfl;rfl)|(apply Ah.guard;rfl;rfl)|(apply Aa.int;rfl;rfl;rfl)|(apply Ad.Ac;rfl)|(apply Ad.Ar;rfl)|(intro _;try (exfalso;omega)))
   all_goals first|(exfalso;omega)|(refine Done.rt rfl rfl ⟨?_,rfl,rfl⟩;try rfl)
  rw [if_neg h3] at e;by_cases h4:0<k∧(gi p.sets k).bar<(gi p.sets (k-1)).bar
  ·rw [if_pos h4,if_pos (by decide)] at e
   rw [← hi,e]
   repeat' (first|(apply Aa.Ak (l:=p.sets) (i:=k-1);rfl;exact congrArg (fun b=>some (PV.p (.int .i64 b))) (hkc h4.1);rfl;omega;rfl)|(apply Aa.Ak;rfl;rfl;rfl;omega;rfl)|refine IE ?_|(apply Aj.guard;rfl;rfl)|(apply Ah.guard;rfl;rfl)|(apply Aa.int;rfl;rfl;rfl)|(apply Ad.Ac;rfl)|(apply Ad.Ar;rfl)|(intro _;try (exfalso;omega)))
   all_goals first|(exfalso;omega)|(refine Done.rt rfl rfl ⟨?_,rfl,rfl⟩;try rfl)
  rw [if_neg h4] at e;by_cases h5:Wx o (gi p.sets k).reg=0
  case neg =>
   rw [if_pos h5] at e;rw [← hi,e];by_cases h0:k=0
   ·repeat' (first|(apply Aa.fn;rfl;rfl;exact hr;intro _;rfl)|(apply Aa.Ak;rfl;rfl;rfl;omega;rfl)|refine IE ?_|(apply Aj.guard;rfl;rfl)|(apply Ah.guard;rfl;rfl)|(apply Aa.int;rfl;rfl;rfl)|(apply Ad.Ac;rfl)|(apply Ad.cond_false;rfl)|(apply Ad.Ar;rfl)|(intro _;try (exfalso;omega)))
    all_goals first|(exfalso;omega)|contradiction|(refine Done.rt rfl rfl ⟨?_,rfl,rfl⟩;try rfl)
   ·repeat' (first|(apply Aa.fn;rfl;rfl;exact hr;intro _;rfl)|(apply Aa.Ak (l:=p.sets) (i:=k-1);rfl;exact congrArg (fun b=>some (PV.p (.int .i64 b))) (hkc (by omega));rfl;omega;rfl)|(apply Aa.Ak;rfl;rfl;rfl;omega;rfl)|refine IE ?_|(apply Aj.guard;rfl;rfl)|(apply Ah.guard;rfl;rfl)|(apply Aa.int;rfl;rfl;rfl)|(apply Ad.Ac;rfl)|(apply Ad.Ar;rfl)|(intro _;try (exfalso;omega)))
    all_goals first|(exfalso;omega)|contradiction|(refine Done.rt rfl rfl ⟨?_,rfl,rfl⟩;try rfl)
  rw [if_neg (fun h=>h h5)] at e;rw [h5] at hr;by_cases h0:k=0
  ·repeat' (first|(apply Aa.fn;rfl;rfl;exact hr;intro _;rfl)|(apply Aa.Ak;rfl;rfl;rfl;omega;rfl)|refine IE ?_|(apply Aj.guard;rfl;rfl)|(apply Ah.guard;rfl;rfl)|(apply Aa.int;rfl;rfl;rfl)|(apply Ad.Ac;rfl)|(apply Ad.cond_false;rfl)|(apply Ad.Ar;rfl)|(intro _;try (exfalso;omega)))
   all_goals try (exfalso;omega)
   all_goals try contradiction
   refine Ag.normal ⟨(e.symm.trans hi),by first|omega|decide,?_,?_⟩
   ·exact C9
   ·exact DT
  ·repeat' (first|(apply Aa.fn;rfl;rfl;exact hr;intro _;rfl)|(apply Aa.Ak (l:=p.sets) (i:=k-1);rfl;exact congrArg (fun b=>some (PV.p (.int .i64 b))) (hkc (by omega));rfl;omega;rfl)|(apply Aa.Ak;rfl;rfl;rfl;omega;rfl)|refine IE ?_|(apply Aj.guard;rfl;rfl)|(apply Ah.guard;rfl;rfl)|(apply Aa.int;rfl;rfl;rfl)|(apply Ad.Ac;rfl)|(apply Ad.cond_false;rfl)|(apply Ad.Ar;rfl)|(intro _;try (exfalso;omega)))
   all_goals try (exfalso;omega)
   all_goals try contradiction
   refine Ag.normal ⟨(e.symm.trans hi),by first|omega|decide,?_,?_⟩
   ·exact C9
   ·exact DT
 ·intro hi
  rw [a0v] at hi;rw [← hi]
  repeat' (first|refine IG ?_|(apply Ad.Ac;rfl)|(intro _;try (exfalso;omega)))
  all_goals first|(exfalso;omega)|(refine Done.rt rfl rfl ⟨?_,rfl,rfl⟩;try rfl)
noncomputable def atE (o:Ia) (p:F7) (t:Int):Int:=if XV o p≠0 then XV o p else if t<O6 p∨t≥Pn p then 3 else 0
end Go.Proofs.YtnjkoebfgcbbdaaGreatDoor
namespace Go.Proofs.YtnjkoebfgcbbdaaGreatDoor
open Go Go.Am Go.Vm
attribute [local irreducible] Aa Aj Ah Ad AP Ap Bd BL Bf Ag Vm.Done BA AB
def b8w (o:Ia):Rgs:=⟨List.replicate o.Af.length 0,0,0⟩
def c0y (o:Ia) (k:Nat):Nat:=2 ^ (gi o.Af k).stops.length-1
def c6l (o:Ia):Rgs:=⟨b7d (c0y o) (List.replicate o.Af.length 0) o.Af.length,2 ^ o.II.length-1,0⟩
def c6q (r:Rgs) (d s:Nat):Rgs:=⟨r.stops.set d (gi r.stops d ||| 2 ^ s),r.cp,r.off⟩
def b5i (a b:Rgs) (k:Nat):Nat:=gi a.stops k ||| gi b.stops k
def c3k (a b:Rgs):Rgs:=⟨b7d (b5i a b) a.stops a.stops.length,a.cp ||| b.cp,a.off ||| b.off⟩
open Go.Pie
attribute [local irreducible] Ce Ba DV DN En AZ
def aP (p:F7) (t:Int) (i:Nat):Bool:=decide ((gi p.notes i).s≤t)&&decide (t<(gi p.notes i).e)
def KN (p:F7) (t:Int):Nat→List Int
 |0=>[]
 |k+1=>if aP p t k=true then KN p t k++[(k:Int)] else KN p t k
def snd (p:F7) (t:Int):List Int:=KN p t p.notes.length
theorem Ue (p:F7) (t:Int):∀ k,(KN p t k).length≤k
 |0=>ab _
 |k+1=>by
  have:=Ue p t k;unfold KN;grind
theorem qI (p:F7) (hp:bH p) (t:Int):Bd env 50 [.agg (Enc.enc p),.int .i64 t] 3 (cells (snd p t)) (snd p t).length true:=by
 refine Bd.enter (Ae (by decide)) Tryz.func50 rfl (by kernel_rfl) (by simp [Tryz.ntmps50]) ?_;have b1:=hp.notes
 repeat' (first|refine go2 ?_|fail)
 all_goals try (exfalso;omega)
 refine Ad.ghost (Aw.adopt 5 3 rfl) ?_;apply Ad.Fq (p.notes.length) [(1,_),(9,_),(10,_)] [(0,_)] (fun k r=>(11,.p (.int .i64 (k:Int)))::(5,.vec 1 (KN p t k).length 0 (KN p t k).length)::r) (fun k r=>(1,.vec 3 (cells (KN p t k)) (KN p t k).length true)::r) 2
 ·first|omega|decide
 ·first|omega|decide
 ·exact Nl
 ·exact O7
 ·intro k hk
  have hl:=Ue p t k;have e1:KN p t (k+1)=if aP p t k=true then KN p t k++[(k:Int)] else KN p t k:=rfl
  by_cases h1:(gi p.notes k).s≤t∧t<(gi p.notes k).e
  ·have hb:aP p t k=true:=by unfold aP;rw [decide_eq_true h1.1,decide_eq_true h1.2];rfl
   rw [if_pos hb] at e1;have e2:(KN p t (k+1)).length=(KN p t k).length+1:=by rw [e1];simp
   repeat' (first|(apply Aa.Dc (a:=(k:Int));rfl;rfl;rfl;rfl;rfl;rfl;rfl;rfl;(intro _ h;cases h);rfl;rfl;rfl;decide;decide;(first|omega|(simp only [List.length_take,List.length_drop,List.length_append,List.length_singleton,List.length_cons,List.length_nil]<;>omega)))|(apply Aa.Ak;rfl;rfl;rfl;omega;rfl)|refine IE ?_|(apply Aj.guard;rfl;rfl)|(apply Aa.int;rfl;rfl;rfl)|(apply Aa.buildSlice;rfl;rfl;rfl;decide;rfl;rfl;rfl)|(apply Ad.Ac;rfl)|(apply Ad.Ar;rfl)|(intro _;try (exfalso;omega)))
   all_goals try (exfalso;omega)
   refine Ag.normal ⟨by first|omega|decide,?_,?_⟩
   ·try (first|rw [e2,e1]|rw [e2])
    exact C9
   ·first|rw [e2,e1]|rw [e2]
    exact DT
  ·have hb:¬ aP p t k=true:=by
    unfold aP;intro h;rw [eQ,decide_eq_true_iff,decide_eq_true_iff] at h;exact h1 h
   rw [if_neg hb] at e1
   repeat' (first|(apply Aa.Ak;rfl;rfl;rfl;omega;rfl)|refine O8 ?_|(apply Aj.guard;rfl;rfl)|(apply Ad.Ac;rfl)|(apply Ad.cond_false;rfl)|(apply Ad.Ar;rfl)|(intro _;try (exfalso;omega)))
   all_goals try (exfalso;omega)
   all_goals
    refine Ag.normal ⟨by first|omega|decide,?_,?_⟩
    ·try (rw [e1])
     exact C9
    ·rw [e1]
     exact DT
 ·repeat' (first|refine IG ?_|(apply Ad.Ac;rfl)|(intro _;try (exfalso;omega)))
  all_goals first|(exfalso;omega)|exact BA.ret rfl rfl rfl rfl
def c0e (p:F7) (t:Int):Nat→Int
 |0=>-1
 |k+1=>if gi p.bars (gi p.sets k).bar.toNat≤t then (k:Int) else c0e p t k
def wan (p:F7) (t:Int):Int:=c0e p t p.sets.length
def c7d (o:Ia) (p:F7) (t:Int):Rgs:=if wan p t<0 then b8w o else (gi p.sets (wan p t).toNat).reg
end Go.Proofs.YtnjkoebfgcbbdaaGreatDoor
namespace Go.Proofs.YtnjkoebfgcbbdaaGreatDoor
open Go Go.Am Go.Vm
attribute [local irreducible] Aa Aj Ah Ad AP Ap Bd BL Bf Ag Vm.Done BA AB
structure Jk where
 lo:Nat
 hi:Nat
instance:Enc Jk:={ default:=⟨0,0⟩,enc:=fun x=>[.int .u64 (x.lo:Int),.int .u64 (x.hi:Int)],size:=2,len:=fun _=>rfl }
structure Jk.Ok (s:Jk):Prop where
 lo:s.lo<2 ^ 64
 hi:s.hi<2 ^ 64
def Jk.has (s:Jk) (n:Nat):Bool:=if n<64 then s.lo.testBit n else s.hi.testBit (n-64)
def FW (s:Jk) (n:Nat):Jk:=if n<64 then ⟨s.lo ||| 2 ^ n,s.hi⟩ else ⟨s.lo,s.hi ||| 2 ^ (n-64)⟩
def uV (a b:Jk):Jk:=⟨a.lo ||| b.lo,a.hi ||| b.hi⟩
def c9x (a b:Jk):Bool:=decide (a.lo ^^^ (a.lo &&& b.lo)=0)&&decide (a.hi ^^^ (a.hi &&& b.hi)=0)
def SE (l:List Int):Nat→Jk
 |0=>⟨0,0⟩
 |k+1=>FW (SE l k) (gi l k).toNat
def c3j (a:Nat):Nat→Jk
 |0=>⟨0,0⟩
 |k+1=>FW (c3j a k) (a+k)
theorem a0f (s:Jk) {n m:Nat} (hn:n<128) (hm:m<128):(FW s n).has m=(s.has m||decide (m=n)):=by
 unfold FW Jk.has;by_cases h1:n<64<;>by_cases h2:m<64
 ·grind
 ·grind
 ·grind
 grind
theorem ak {s:Jk} (h:s.Ok) {n:Nat} (hn:n<128):(FW s n).Ok:=by
 unfold FW;split
 ·exact ⟨eE h.lo (dm (by omega) (by omega)),h.hi⟩
 ·exact ⟨h.lo,eE h.hi (dm (by omega) (by omega))⟩
theorem b1u {a b:Jk} (ha:a.Ok) (hb:b.Ok):(uV a b).Ok:=⟨eE ha.lo hb.lo,eE ha.hi hb.hi⟩
theorem a2o (m:Nat):(⟨0,0⟩:Jk).has m=false:=by simp [Jk.has]
theorem TN:(⟨0,0⟩:Jk).Ok:=⟨by simp,by simp⟩
theorem SC {l:List Int} (h:∀ i,i<l.length→0≤gi l i∧gi l i≤127):∀ k,k≤l.length→(SE l k).Ok
 |0,_=>TN
 |k+1,hk=>ak (SC h k (by omega)) (by grind)
theorem lY {l:List Int} (h:∀ i,i<l.length→0≤gi l i∧gi l i≤127) (m:Nat) (hm:m<128):∀ k,k≤l.length→(SE l k).has m=decide ((m:Int)∈l.take k)
 |0,_=>by simp [SE,a2o]
 |k+1,hk=>by
  have h1:=h k (by omega);simp only [SE];rw [a0f _ (by omega) hm,lY h m hm k (by omega),DX (by omega)];grind
section
variable {E:Env} {L:Vm.Frame} {H:Vm.Heap} {nx:Nat} {Q:PV→Heap→Nat→Prop} {w:Bool} {dst:Option Tmp} {ty:TypeId} {pos:String} {af:Array Edge} {gd:Option (Nat×Bool)}
theorem c0i {t t2:TypeId} {x y:Operand} {k':IntKind} {n:Int} (m:Nat) (hx:AU E.Γ L x=some (.p (.int .u64 1))) (hy:AU E.Γ L y=some (.p (.int k' n))) (hn:n=m∧m<64) (q:Q (.p (.int .u64 ((2 ^ m:Nat):Int))) H nx) :
 Aa E w ⟨dst,.binOp .shl t x y t2,ty,pos,af,gd⟩ L H nx Q:=by
 obtain ⟨rfl,hn⟩:=hn;exact Aa.jF hx hy hn q
end
theorem oD (n:Int):Ap env 58 [.int .i64 n] (.p (.bool (decide (0≤n∧n≤127)))):=by
 refine Ap.enter (Ae (by decide)) Tryz.func58 rfl (by kernel_rfl) (by simp) ?_
 repeat' (first|refine O8 ?_|(apply Aj.guard;rfl;rfl)|(intro _))
 all_goals (refine Done.rt rfl rfl ⟨?_,rfl,rfl⟩;grind)
theorem Pq (a b:Jk) (ha:a.Ok) (hb:b.Ok):Ap env 109 [.agg (Enc.enc a),.agg (Enc.enc b)] (.p (.agg (Enc.enc (uV a b)))):=by
 have a1:=ha.lo;have a2:=ha.hi;have b1:=hb.lo;have b2:=hb.hi;refine Ap.enter (Ae (by decide)) Tryz.func109 rfl (by kernel_rfl) (by simp) ?_
 repeat' (first|refine IE ?_|(apply Aa.build;rfl;rfl;rfl;rfl;rfl))
 all_goals (refine Done.rt rfl rfl ⟨?_,rfl,rfl⟩;try rfl)
theorem wS (s:Jk) (hs:s.Ok) (n:Nat) (hn:n<128):Ap env 59 [.agg (Enc.enc s),.int .i64 (n:Int)] (.p (.agg (Enc.enc (FW s n)))):=by
 have s1:=hs.lo;have s2:=hs.hi;unfold FW;by_cases h:n<64
 ·have p1:2 ^ n<2 ^ 64:=dm (by omega) h
  rw [if_pos h];refine Ap.enter (Ae (by decide)) Tryz.func59 rfl (by kernel_rfl) (by simp [Tryz.ntmps59]) ?_
  repeat' (first|refine O8 ?_|(apply c0i n;rfl;rfl;omega)|(apply Ad.Ac;rfl)|(intro _;try (exfalso;omega)))
  all_goals first|(exfalso;omega)|(refine Done.rt rfl rfl ⟨?_,rfl,rfl⟩;try rfl)
 ·have p1:2 ^ (n-64)<2 ^ 64:=dm (by omega) (by omega)
  rw [if_neg h];refine Ap.enter (Ae (by decide)) Tryz.func59 rfl (by kernel_rfl) (by simp [Tryz.ntmps59]) ?_
  repeat' (first|refine O8 ?_|(apply c0i (n-64);rfl;rfl;omega)|(apply Ad.Ac;rfl)|(intro _;try (exfalso;omega)))
  all_goals first|(exfalso;omega)|(refine Done.rt rfl rfl ⟨?_,rfl,rfl⟩;try rfl)
theorem Ud (l:List Int) (hl:l.length<1000000) (h:∀ i,i<l.length→0≤gi l i∧gi l i≤127):Ap env 24 [.lst 3 (cells l) l.length] (.D9 [.p (.agg (Enc.enc (SE l l.length))),.p (.int .i64 0)]):=by
 refine Ap.enter (Ae (by decide)) Tryz.func24 rfl (by kernel_rfl) (by simp [Tryz.ntmps24]) ?_
 repeat' (first|refine go2 ?_|fail)
 apply Ad.Fq (l.length) [(2,_),(4,_),(7,_),(8,_)] [(0,_)] (fun k r=>(9,.p (.int .i64 (k:Int)))::r) (fun k r=>(1,.box 84 ((Enc.enc (SE l k)).map .p))::r) 2
 ·first|omega|decide
 ·first|omega|decide
 ·exact Nl
 ·exact O7
 ·intro k hk
  have h0:=h k hk;have h1:=oD (gi l k);rw [decide_eq_true h0] at h1;have h2:=wS (SE l k) (SC h k (by omega)) (gi l k).toNat (by omega);rw [dx h0.1] at h2
  repeat' (first|(apply Aa.fn;rfl;rfl;exact h1;intro _;rfl)|(apply Aa.fn;rfl;rfl;exact h2;intro _;rfl)|(apply Aa.Ak;rfl;rfl;rfl;omega;rfl)|refine go2 ?_|(apply Aa.int;rfl;rfl;rfl)|(apply Ad.Ai;rfl)|(apply Ad.Ac;rfl)|(intro _;try (exfalso;omega)))
  all_goals try (exfalso;omega)
  refine Ag.normal ⟨by first|omega|decide,?_,?_⟩
  ·exact C9
  ·exact DT
 ·repeat' (first|refine IG ?_|(apply Ad.Ac;rfl)|(intro _;try (exfalso;omega)))
  all_goals first|(exfalso;omega)|(refine Done.rt rfl rfl ⟨?_,rfl,rfl⟩;try rfl)
end Go.Proofs.YtnjkoebfgcbbdaaGreatDoor
namespace Go.Vm
open Go.Am
structure c4t where
instance:Enc c4t:={ default:=⟨⟩,enc:=fun _=>[.val (.slice none 0 0)],size:=1,len:=fun _=>rfl }
section
variable {E:Env} {L:Frame} {H:Heap} {nx:Nat}
variable {Q:PV→Heap→Nat→Prop} {dst:Option Tmp} {ty:TypeId} {pos:String} {af:Array Edge} {gd:Option (Nat×Bool)}
theorem Aa.b1d {α:Type} {_:Enc α} {l:List α} (a1 a2:α) {s x:Operand} {sT xT e e2:TypeId} {xd:TypeDesc} {i:TypeInfo} {b b2 n:Nat} {xs:List FV} {z z2:Bool} (hs:AU E.Γ L s=some (.vec b n 0 n)) (hb:hget H b=some (.vec e (cells l) n z))
 (hx:AU E.Γ L x=some (.vec b2 2 0 2)) (hb2:hget H b2=some (.vec e2 xs 2 z2)) (hxs:xs=Enc.enc a1++Enc.enc a2) (hn:l.length=n) (uO:E.P.underlying sT=some (.slice e)) (hxT:E.P.underlying xT=some xd) (hd:∀ k,xd≠.int k) (hi:E.P.info? e=some i)
 (hsz:Enc.size α=i.size) (hzs:Ej i=true) (h0:0<i.size) (hby:i.bytes<1000000) (hlen:l.length<900000) (q:Q (.vec b (l.length+2) 0 (l.length+2)) (hput H b (.vec e (cells (l++[a1,a2])) (l.length+2) z)) nx) :
 Aa E true ⟨dst,.call { callee:=.builtin .append,args:=#[s,x],argTypes:=#[sT,xT] },ty,pos,af,gd⟩ L H nx Q:=by
 subst hn;have hroom:(l.length+2)*(i.bytes+1)≤room:=am (cP (by omega:l.length+2≤1000000) (by omega:i.bytes+1≤1000000)) (by decide);refine Aa.append (i:=i) hs hb (pW.all hx hb2 (by rw [hxs,aw,Enc.len,Enc.len,← hsz];omega)) uO hxT hd hi hzs (by omega) hroom (by rw [CZ,hsz]) h0 ?_;have:cells (l++[a1,a2])=cells l++xs:=by rw [FH,hxs];simp [cells,encs]
 grind
end
end Go.Vm
namespace Go.Proofs.YtnjkoebfgcbbdaaGreatDoor
open Go Go.Am Go.Vm Go.Pie
attribute [local irreducible] Aa Aj Ah Ad AP Ap Bd BL Bf Ag Vm.Done BA AB
attribute [local irreducible] Ce Ba DV DN En AZ CB
instance:Enc (List Int):={ default:=[],enc:=fun l=>[.lst 3 (cells l) l.length],size:=1,len:=fun _=>rfl }
def kdK (p:F7) (L:List Int) (d:Nat):Nat→List Int
 |0=>[]
 |k+1=>if (gi p.notes (gi L k).toNat).d=(d:Int) then kdK p L d k++[(gi p.notes (gi L k).toNat).k] else kdK p L d k
theorem Yl {p:F7} {t:Int}:∀ {k:Nat} {x:Int},x∈KN p t k→0≤x∧x<k
 |0,x,h=>by cases h
 |k+1,x,h=>by
  unfold KN at h;split at h
  ·rcases bk.1 h with h|h
   ·have:=Yl h;omega
   grind
  ·have:=Yl h;omega
theorem gi_mem' {l:List Int} {i:Nat} (h:i<l.length):gi l i∈l:=by
 unfold gi;grind
theorem b5r {p:F7} {t:Int} {i:Nat} (h:i<(snd p t).length):0≤gi (snd p t) i∧gi (snd p t) i<p.notes.length:=Yl (gi_mem' h)
theorem a3p.cmp {o:Ia} (h:a3p o) {i:Nat} (hi:i<o.Af.length):0≤(gi o.Af i).lo∧(gi o.Af i).hi≤127:=by
 have h0:=h.err;unfold V3 at h0;split at h0
 ·omega
 split at h0
 ·omega
 split at h0
 ·omega
 split at h0
 ·omega
 split at h0
 ·omega
 split at h0
 ·omega
 rename_i d3;have d3:GL o.ranks o.Af 0=0:=cM d3;have:=Vf _ 0 rfl d3 i (an _) hi;unfold DN at this;split at this
 ·omega
 rename_i h1;unfold X3 at h1;omega
def tlK (p:F7) (L:List Int) (k:Nat) (j:Nat):HB:=.vec 3 (cells (kdK p L j k)) (kdK p L j k).length true
def kdV (p:F7) (L:List Int) (nd k:Nat):HB:=.P8 28 ((List.range nd).map fun j=>.vec (4+j) (kdK p L j k).length 0 (kdK p L j k).length) nd
noncomputable def c6c (o:Ia) (p:F7) (t:Int):List Jk:=Bv (fun d=>SE (kdK p (snd p t) d (snd p t).length) (kdK p (snd p t) d (snd p t).length).length) o.Af.length
instance:Enc iT:={ default:=⟨0,0,[]⟩,enc:=fun x=>[.int .i64 x.s,.int .i64 x.e,.lst 3 (cells x.notes) x.notes.length],size:=3,len:=fun _=>rfl }
def TI (p:F7):Nat→List Int
 |0=>[O6 p,Pn p]
 |k+1=>TI p k++[(gi p.notes k).s,(gi p.notes k).e]
theorem Yo (p:F7):∀ k,(TI p k).length=2*k+2
 |0=>rfl
 |k+1=>by
  have:=Yo p k;unfold TI;grind
def Dy (p:F7):List Int:=Lib.compact ((TI p p.notes.length).mergeSort fun x y=>decide (x≤y))
theorem Xm (zs:List Int):(Lib.compact zs).length≤zs.length:=by
 unfold Lib.compact Lib.compactUpTo;grind
theorem zk (p:F7):0<(Dy p).length:=by
 have h0:O6 p∈Dy p:=by
  unfold Dy;rw [Qd,fy];have:∀ k,O6 p∈TI p k:=by
   intro k
   induction k with
   |zero=>simp [TI]
   |succ k ih=>exact cA _ ih
  grind
 grind
theorem b8g:∀ (m:Mem) (F:Nat→Prop) (us:List Value),Dh m F [] us→us=[]:=fun m F us h=>by cases h;rfl
def A8 (p:F7):List iT:=a6w (snd p) (Dy p)
theorem Xv {o:Ia} {p:F7} (ho:TW o) (hE:XV o p=0) (h:xq o p):Ap env 16 [.agg (Enc.enc o),.agg (Enc.enc p)] (.D9 [.p (.lst 81 (cells (A8 p)) (A8 p).length),.p (.int .i64 0)]):=by
 have ha:=RJ o p ho h.sm;rw [hE] at ha;have hen:=gq p (by have:=h.bars;omega) h.sm.bars;have n1:=h.notes;have hsn:=qI p h.sm;refine Ap.enter (Ae (by decide)) Tryz.func16 rfl (by kernel_rfl) (by simp [Tryz.ntmps16]) ?_
 repeat' (first|(apply Aa.fn;rfl;rfl;exact ha;intro _;rfl)|(apply Aa.fn;rfl;rfl;exact hen;intro _;rfl)|refine go2 ?_|(apply Aa.int;rfl;rfl;rfl)|(apply Aa.buildSlice;rfl;rfl;rfl;decide;rfl;rfl;rfl)|(apply Ad.Ai;rfl))
 all_goals try (exfalso;omega)
 all_goals try contradiction
 apply Ad.Fq (p.notes.length) [(3,_),(30,_),(31,_)] [(1,_)] (fun k r=>(32,.p (.int .i64 (k:Int)))::(9,.vec 2 (TI p k).length 0 (TI p k).length)::r) (fun k r=>(2,.vec 3 (cells (TI p k)) (TI p k).length false)::r) 3
 ·first|omega|decide
 ·first|omega|decide
 ·exact Nl
 ·exact O7
 ·intro k hk
  have hl:=Yo p k;have e1:TI p (k+1)=TI p k++[(gi p.notes k).s,(gi p.notes k).e]:=rfl;have e2:(TI p (k+1)).length=(TI p k).length+2:=by rw [e1];simp
  repeat' (first|(apply Aa.b1d (l:=TI p k) (gi p.notes k).s (gi p.notes k).e;rfl;rfl;rfl;rfl;rfl;rfl;rfl;rfl;(intro _ h;cases h);rfl;rfl;rfl;decide;decide;omega)|(apply Aa.Ak;rfl;rfl;rfl;omega;rfl)|refine go2 ?_|(apply Aa.int;rfl;rfl;rfl)|(apply Aa.buildSlice;rfl;rfl;rfl;decide;rfl;rfl;rfl)|(apply Ad.Ac;rfl)|(intro _;try (exfalso;omega)))
  all_goals try (exfalso;omega)
  refine Ag.normal ⟨by first|omega|decide,?_,?_⟩
  ·try (first|rw [e2,e1]|rw [e2])
   exact C9
  ·first|rw [e2,e1]|rw [e2]
   exact DT
 ·have hl:=Yo p p.notes.length
  obtain ⟨zs,hzs⟩:∃ zs,zs=TI p p.notes.length:=⟨_,rfl⟩
  have hcl:=Xm ((TI p p.notes.length).mergeSort fun x y=>decide (x≤y));have hml:((TI p p.notes.length).mergeSort fun x y=>decide (x≤y)).length=(TI p p.notes.length).length:=gL _;have htp:=zk p;have htc:((Dy p).length:Int)-1=(((Dy p).length-1:Nat):Int):=by omega
  rw [show Lib.compact ((TI p p.notes.length).mergeSort fun x y=>decide (x≤y))=Dy p from rfl] at hcl
  repeat' (first|(refine Ad.at 14 ?_;refine Ad.ghost (Aw.freeze 9 rfl rfl) ?_;first|apply Ad.Bz|apply Ad.Cm)|((refine Aa.b8m (Fn:=iQ) (zs':=(TI p p.notes.length).mergeSort fun x y=>decide (x≤y)) b2l rfl rfl rfl (rest:=[]) (rv:=[]) b8g rfl rfl (by omega) ?_ (by omega) ?_;(simp only [iQ];rw [if_pos (by omega)])))|((refine Aa.b8t (Fn:=gK) (zs:=(TI p p.notes.length).mergeSort fun x y=>decide (x≤y)) (zs':=Dy p++List.replicate ((TI p p.notes.length).length-(Dy p).length) 0) (k:=(Dy p).length) b3b rfl rfl rfl (rest:=[]) (rv:=[]) b8g rfl hml (by omega) ?_ (by simp;omega) (by omega) ?_;(simp only [gK];rw [if_pos (by omega),hml];rfl);rw [List.take_left]))|(apply Aa.sliceTo (b:=(Dy p).length-1);rfl;exact congrArg (fun b=>some (PV.p (.int .i64 b))) htc;rfl;rfl;rfl;rfl;omega)|refine go1 ?_|apply Ad.Bz|(apply Aa.int;rfl;rfl;rfl)|(apply Ad.Ac;rfl)|(intro _;try (exfalso;omega)))
  all_goals try (exfalso;omega)
  refine Ad.ghost (Aw.adopt 12 81 rfl) ?_;obtain ⟨F,hF⟩:∃ F:Nat→iT,F=fun i=>⟨gi (Dy p) i,gi (Dy p) (i+1),snd p (gi (Dy p) i)⟩:=⟨_,rfl⟩
  have hR:A8 p=Bv F ((Dy p).length-1):=by rw [hF];rfl
  rw [hR];apply Ad.Fq ((Dy p).length-1) [(3,_),(9,_),(52,_),(53,_)] [(1,_)] (fun k r=>(54,.p (.int .i64 (k:Int)))::(12,.vec 4 (Bv F k).length 0 (Bv F k).length)::r) (fun k r=>(4,.vec 81 (cells (Bv F k)) (Bv F k).length true)::r) 5
  ·first|omega|decide
  ·first|omega|decide
  ·exact Nl
  ·exact O7
  ·intro k hk
   have hlF:=Cj F k;have hFk:F k=⟨gi (Dy p) k,gi (Dy p) (k+1),snd p (gi (Dy p) k)⟩:=by rw [hF]
   have e1:Bv F (k+1)=Bv F k++[⟨gi (Dy p) k,gi (Dy p) (k+1),snd p (gi (Dy p) k)⟩]:=by rw [← hFk];rfl
   have e2:(Bv F (k+1)).length=(Bv F k).length+1:=by rw [e1];simp
   have hg:gi ((Dy p).take ((Dy p).length-1)) k=gi (Dy p) k:=Yv hk;have hk1:(k:Int)+1=((k+1:Nat):Int):=by omega
   have hs:=hsn (gi (Dy p) k)
   repeat' (first|(refine Ah.atIdx 10 ?_;refine Ah.ghost (Aw.freeze 68 rfl rfl) ?_)|(refine Ah.atIdx 9 ?_;apply Ah.b8q [.tmp 64];decide +kernel;decide +kernel;rfl)|apply Ad.Bz|apply Ad.region|apply Ad.Fg|apply Ad.Gg|apply Ad.Fz|apply BL.normal|apply Bf.normal|apply Aj.nil|apply Ah.nil|apply Aj.one|(apply Ah.bar;decide +kernel)|apply Ah.quiet|(apply Aa.fv;rfl;rfl;exact hs)|(apply Aa.Ak (l:=(Dy p).take ((Dy p).length-1)) (i:=k);rfl;rfl;rfl;(rw [ax];omega);(rw [ax];omega))|(apply Aa.load (r:=.p (.int .i64 (gi (Dy p) k)));rfl;exact (congrArg (fun b=>some (PV.p (FV.int .i64 b))) hg))|(apply Aa.Ak (l:=Dy p) (i:=k+1);rfl;exact congrArg (fun b=>some (PV.p (.int .i64 b))) hk1;rfl;omega;rfl)|(apply Aa.Dc (a:=(⟨gi (Dy p) k,gi (Dy p) (k+1),snd p (gi (Dy p) k)⟩:iT));rfl;rfl;rfl;rfl;rfl;rfl;rfl;rfl;(intro _ h;cases h);rfl;rfl;rfl;decide;decide;(first|omega|(simp only [List.length_take,List.length_drop,List.length_append,List.length_singleton,List.length_cons,List.length_nil]<;>omega)))|(apply Aa.assign;rfl)|(apply Aa.move;rfl)|(apply Aa.LQ;rfl;rfl;omega)|(apply Aa.int;rfl;rfl;rfl)|(apply Aa.load;rfl;rfl)|(apply Aa.build;rfl;rfl;rfl;rfl;rfl)|(apply Aa.buildSlice;rfl;rfl;rfl;decide;rfl;rfl;rfl)|(apply Ad.Ac;rfl)|(intro _;try (exfalso;omega)))
   all_goals try (exfalso;omega)
   refine Ag.normal ⟨by first|omega|decide,?_,?_⟩
   ·try (first|rw [e2,e1]|rw [e2])
    exact C9
   ·first|rw [e2,e1]|rw [e2]
    exact DT
  ·repeat' (first|(refine Aj.HY 4 ?_;refine Aj.ghost (Aw.freeze 73 rfl rfl) ?_)|apply Ad.Bz|apply Ad.EN|apply BL.normal|apply Bf.exit|apply Ag.exit|apply Ad.ret|apply Aj.nil|apply Aj.one|(apply Aa.assign;rfl)|(apply Aa.move;rfl)|(apply Aa.int;rfl;rfl;rfl)|(apply Ad.Ac;rfl)|(intro _;try (exfalso;omega)))
   all_goals first|(exfalso;omega)|(refine Done.rt rfl rfl ⟨?_,rfl,rfl⟩;try rfl)
end Go.Proofs.YtnjkoebfgcbbdaaGreatDoor
namespace Go.Pop
def QE:List Nat→Nat
 |[]=>0
 |r::l=>256*QE l+r
def yR (s:Nat):Nat→Nat
 |0=>0
 |n+1=>256*yR s n+s
theorem and_split {q r M s:Nat} (hr:r<256) (hs:s<256):(256*q+r) &&& (256*M+s)=256*(q &&& M)+(r &&& s):=by
 have h1:((256*q+r) &&& (256*M+s)) / 2 ^ 8=(256*q+r) / 2 ^ 8 &&& (256*M+s) / 2 ^ 8:=Nat.and_div_two_pow;have h2:((256*q+r) &&& (256*M+s)) % 2 ^ 8=((256*q+r) % 2 ^ 8) &&& ((256*M+s) % 2 ^ 8):=Nat.and_mod_two_pow;rw [show (256*q+r) / 256=q by omega,show (256*M+s) / 256=M by omega] at h1;rw [show (256*q+r) % 256=r by omega,show (256*M+s) % 256=s by omega] at h2;omega
def b1 (r:Nat):Nat:=(r / 2 &&& 85)+(r &&& 85)
def b2 (r:Nat):Nat:=(r / 4 &&& 51)+(r &&& 51)
def b3 (r:Nat):Nat:=(r / 16+r) &&& 15
theorem f1:∀ b,b<2→∀ r,r<256→(128*b+r / 2) &&& 85=r / 2 &&& 85:=by decide +kernel
theorem f2:∀ b,b<4→∀ r,r<256→(64*b+r / 4) &&& 51=r / 4 &&& 51:=by decide +kernel
theorem s1 {q r M:Nat} (hr:r<256):((256*q+r) / 2 &&& (256*M+85))+((256*q+r) &&& (256*M+85))=256*((q / 2 &&& M)+(q &&& M))+b1 r:=by
 rw [show (256*q+r) / 2=256*(q / 2)+(128*(q % 2)+r / 2) by omega,and_split (by omega) (by decide),and_split hr (by decide),f1 _ (by omega) _ hr];unfold b1;omega
theorem s2 {q r M:Nat} (hr:r<256):((256*q+r) / 4 &&& (256*M+51))+((256*q+r) &&& (256*M+51))=256*((q / 4 &&& M)+(q &&& M))+b2 r:=by
 rw [show (256*q+r) / 4=256*(q / 4)+(64*(q % 4)+r / 4) by omega,and_split (by omega) (by decide),and_split hr (by decide),f2 _ (by omega) _ hr];unfold b2;omega
theorem b4j (x:Nat):x &&& 15=x % 16:=by
 have:=fm x 4;omega
theorem s3 {q r M:Nat} (hr:r % 16≤4∧r / 16≤4) (hq:q % 16≤4):((256*q+r) / 16+(256*q+r)) &&& (256*M+15)=256*((q / 16+q) &&& M)+b3 r:=by
 rw [show (256*q+r) / 16+(256*q+r)=256*(q / 16+q)+(16*(q % 16)+r / 16+r) by omega,and_split (by omega) (by decide)];unfold b3;rw [b4j,b4j];omega
theorem m1:∀ l:List Nat,(∀ r∈l,r<256)→(QE l / 2 &&& yR 85 l.length)+(QE l &&& yR 85 l.length)=QE (l.map b1)
 |[],_=>rfl
 |r::l,h=>by
  show ((256*QE l+r) / 2 &&& (256*yR 85 l.length+85))+((256*QE l+r) &&& (256*yR 85 l.length+85))=256*QE (l.map b1)+b1 r;rw [s1 (h r (by simp)),m1 l fun x hx=>h x (by grind)]
theorem m2:∀ l:List Nat,(∀ r∈l,r<256)→(QE l / 4 &&& yR 51 l.length)+(QE l &&& yR 51 l.length)=QE (l.map b2)
 |[],_=>rfl
 |r::l,h=>by
  show ((256*QE l+r) / 4 &&& (256*yR 51 l.length+51))+((256*QE l+r) &&& (256*yR 51 l.length+51))=256*QE (l.map b2)+b2 r;rw [s2 (h r (by simp)),m2 l fun x hx=>h x (by grind)]
theorem b0m:∀ l:List Nat,(∀ r∈l,r % 16≤4∧r / 16≤4)→QE l % 16≤4
 |[],_=>by decide
 |r::l,h=>by
  have:=(h r (by simp)).1;show (256*QE l+r) % 16≤4;omega
theorem m3:∀ l:List Nat,(∀ r∈l,r % 16≤4∧r / 16≤4)→(QE l / 16+QE l) &&& yR 15 l.length=QE (l.map b3)
 |[],_=>rfl
 |r::l,h=>by
  have hl:=fun x hx=>h x (ao r hx)
  show ((256*QE l+r) / 16+(256*QE l+r)) &&& (256*yR 15 l.length+15)=256*QE (l.map b3)+b3 r;rw [s3 (h r (by simp)) (b0m l hl),m3 l hl]
def XZ (p:Nat):Nat:=p % 2+p / 2 % 2+p / 4 % 2+p / 8 % 2+p / 16 % 2+p / 32 % 2+p / 64 % 2+p / 128 % 2
theorem k1:∀ r,r<256→b1 r<256∧(b2 (b1 r) % 16≤4∧b2 (b1 r) / 16≤4)∧b3 (b2 (b1 r))=XZ r∧XZ r≤8:=by decide +kernel
def swA (x:Nat):Nat:=(x / 2 &&& 6148914691236517205)+(x &&& 6148914691236517205)
def swB (x:Nat):Nat:=(x / 4 &&& 3689348814741910323)+(x &&& 3689348814741910323)
def swC (x:Nat):Nat:=(x / 16+x) &&& 1085102592571150095
def swD (x:Nat):Nat:=x+x / 256
def swE (x:Nat):Nat:=x+x / 65536
def swF (x:Nat):Nat:=x+x / 4294967296
def sw (x:Nat):Nat:=swF (swE (swD (swC (swB (swA x))))) &&& 127
def bytesOf (x:Nat):List Nat:=[x % 256,x / 256 % 256,x / 65536 % 256,x / 16777216 % 256,x / 4294967296 % 256,x / 1099511627776 % 256,x / 281474976710656 % 256,x / 72057594037927936 % 256]
theorem a2l {x:Nat} (h:x<18446744073709551616):QE (bytesOf x)=x:=by
 simp only [bytesOf,QE];omega
theorem qA (x:Nat):∀ r∈bytesOf x,r<256:=by
 intro r hr;simp only [bytesOf,List.mem_cons,List.not_mem_nil,or_false] at hr;omega
theorem b6p (x:Nat):x &&& 127=x % 128:=by
 have:=fm x 7;omega
theorem Q9 {f:Nat→Nat} {P:Nat→Prop} {l:List Nat} (h:∀ r∈l,P (f r)):∀ r∈l.map f,P r :=by grind
theorem k85:yR 85 8=6148914691236517205 :=by decide
theorem k51:yR 51 8=3689348814741910323 :=by decide
theorem k15:yR 15 8=1085102592571150095 :=by decide
theorem Vq (x:Nat):(bytesOf x).length=8:=rfl
theorem abc {x:Nat} (h:x<18446744073709551616):swC (swB (swA x))=QE ((bytesOf x).map XZ)∧swA x=QE ((bytesOf x).map b1)∧swB (swA x)=QE (((bytesOf x).map b1).map b2):=by
 have hb:=qA x;have e1:swA x=QE ((bytesOf x).map b1):=by
  have:=m1 (bytesOf x) hb;rw [a2l h,Vq,k85] at this;assumption
 have e2:swB (swA x)=QE (((bytesOf x).map b1).map b2):=by
  rw [e1];have:=m2 ((bytesOf x).map b1) (Q9 fun r hr=>(k1 r (hb r hr)).1);rw [bh,Vq,k51] at this;assumption
 refine ⟨?_,e1,e2⟩;rw [e2];have h3:=m3 (((bytesOf x).map b1).map b2) (Q9 (Q9 (P:=fun y=>b2 y % 16≤4∧b2 y / 16≤4) fun r hr=>(k1 r (hb r hr)).2.1));have e3:(((bytesOf x).map b1).map b2).map b3=(bytesOf x).map XZ:=by
  exact ft fun r hr=>(k1 r (hb r hr)).2.2.1
 rw [e3,bh,bh,Vq,k15] at h3;assumption
theorem nJ {x:Nat} (h:x<18446744073709551616):sw x=(XZ (x % 256)+XZ (x / 256 % 256)+XZ (x / 65536 % 256)+XZ (x / 16777216 % 256)+XZ (x / 4294967296 % 256)+XZ (x / 1099511627776 % 256)+XZ (x / 281474976710656 % 256)+XZ (x / 72057594037927936 % 256)) ∧
 swC (swB (swA x))<1157442765409226760∧swA x<18446744073709551616∧swB (swA x)≤4919131752989213764:=by
 obtain ⟨e,eA,eB⟩:=abc h;have hk:=fun r (hr:r<256)=>(k1 r hr).2.2.2
 have c0:=hk (x % 256) (by omega);have c1:=hk (x / 256 % 256) (by omega);have c2:=hk (x / 65536 % 256) (by omega);have c3:=hk (x / 16777216 % 256) (by omega);have c4:=hk (x / 4294967296 % 256) (by omega);have c5:=hk (x / 1099511627776 % 256) (by omega);have c6:=hk (x / 281474976710656 % 256) (by omega);have c7:=hk (x / 72057594037927936 % 256) (by omega);have hlt:∀ l:List Nat,l.length=8→(∀ r∈l,r<256)→QE l<18446744073709551616:=by
  intro l hl hr
  match l,hl with
  |[y0,y1,y2,y3,y4,y5,y6,y7],_ =>
   have h0:=hr y0 (by simp);have h1:=hr y1 (by simp);have h2:=hr y2 (by simp);have h3:=hr y3 (by simp);have h4:=hr y4 (by simp);have h5:=hr y5 (by simp);have h6:=hr y6 (by simp);have h7:=hr y7 (by simp);simp only [QE];omega
 have hlt2:∀ l:List Nat,l.length=8→(∀ r∈l,r≤68)→QE l≤4919131752989213764:=by
  intro l hl hr
  match l,hl with
  |[y0,y1,y2,y3,y4,y5,y6,y7],_ =>
   have h0:=hr y0 (by simp);have h1:=hr y1 (by simp);have h2:=hr y2 (by simp);have h3:=hr y3 (by simp);have h4:=hr y4 (by simp);have h5:=hr y5 (by simp);have h6:=hr y6 (by simp);have h7:=hr y7 (by simp);simp only [QE];omega
 have hb:=qA x;refine ⟨?_,?_,by rw [eA];exact hlt _ rfl (Q9 fun r hr=>(k1 r (hb r hr)).1),by rw [eB];exact hlt2 _ rfl (Q9 (Q9 (P:=fun y=>b2 y≤68) fun r hr=>by have:=(k1 r (hb r hr)).2.1;omega))⟩
 ·unfold sw
  rw [e,b6p];simp only [bytesOf,List.map_cons,List.map_nil,QE,swD,swE,swF];generalize XZ (x % 256)=y0 at *;generalize XZ (x / 256 % 256)=y1 at *;generalize XZ (x / 65536 % 256)=y2 at *;generalize XZ (x / 16777216 % 256)=y3 at *;generalize XZ (x / 4294967296 % 256)=y4 at *;generalize XZ (x / 1099511627776 % 256)=y5 at *;generalize XZ (x / 281474976710656 % 256)=y6 at *;generalize XZ (x / 72057594037927936 % 256)=y7 at *;clear e eA eB hk hb hlt hlt2 h;have d1:(256*(256*(256*(256*(256*(256*(256*(256*0+y7)+y6)+y5)+y4)+y3)+y2)+y1)+y0) / 256=256*(256*(256*(256*(256*(256*y7+y6)+y5)+y4)+y3)+y2)+y1:=by omega
  rw [d1];clear d1;have d2:(256*(256*(256*(256*(256*(256*(256*(256*0+y7)+y6)+y5)+y4)+y3)+y2)+y1)+y0+(256*(256*(256*(256*(256*(256*y7+y6)+y5)+y4)+y3)+y2)+y1)) / 65536=256*(256*(256*(256*(256*y7+(y6+y7))+(y5+y6))+(y4+y5))+(y3+y4))+(y2+y3):=by omega
  rw [d2];clear d2;have d3:(256*(256*(256*(256*(256*(256*(256*(256*0+y7)+y6)+y5)+y4)+y3)+y2)+y1)+y0+(256*(256*(256*(256*(256*(256*y7+y6)+y5)+y4)+y3)+y2)+y1)+(256*(256*(256*(256*(256*y7+(y6+y7))+(y5+y6))+(y4+y5))+(y3+y4))+(y2+y3))) / 4294967296=256*(256*(256*y7+(y6+y7))+(y5+y6+y7))+(y4+y5+y6+y7):=by omega
  rw [d3];clear d3;omega
 ·rw [e]
  simp only [bytesOf,List.map_cons,List.map_nil,QE];omega
def cnt (n p:Nat):Nat:=((List.range n).filter p.testBit).length
theorem JR (n p:Nat):cnt (n+1) p=p % 2+cnt n (p / 2):=by
 unfold cnt;rw [gw,di];have e:((List.map Nat.succ (List.range n)).filter p.testBit).length=((List.range n).filter (p / 2).testBit).length:=by
  rw [List.filter_map,bh];congr 1
  refine fN fun i _=>?_
  grind
 grind
theorem Xx (n p:Nat):cnt (n+8) p=XZ p+cnt n (p / 256):=by
 rw [show n+8=n+7+1 from rfl,JR,show n+7=n+6+1 from rfl,JR,show n+6=n+5+1 from rfl,JR,show n+5=n+4+1 from rfl,JR,show n+4=n+3+1 from rfl,JR,show n+3=n+2+1 from rfl,JR,show n+2=n+1+1 from rfl,JR,JR];unfold XZ;simp only [Nat.div_div_eq_div_mul,Nat.reduceMul];omega
theorem a9v (p:Nat):XZ (p % 256)=XZ p:=by unfold XZ;omega
theorem b5u {x:Nat} (h:x<18446744073709551616):sw x=cnt 64 x:=by
 rw [(nJ h).1];simp only [a9v];rw [show (64:Nat)=56+8 from rfl,Xx,show (56:Nat)=48+8 from rfl,Xx,show (48:Nat)=40+8 from rfl,Xx,show (40:Nat)=32+8 from rfl,Xx,show (32:Nat)=24+8 from rfl,Xx,show (24:Nat)=16+8 from rfl,Xx,show (16:Nat)=8+8 from rfl,Xx,show (8:Nat)=0+8 from rfl,Xx];simp only [Nat.div_div_eq_div_mul,Nat.reduceMul];show _=_+(_+(_+(_+(_+(_+(_+(_+0)))))));omega
end Go.Pop
namespace Go.Proofs.YtnjkoebfgcbbdaaGreatDoor
theorem b1w {x:Nat} (h:x<18446744073709551616):Go.Pop.sw x=(Gi x).length:=Go.Pop.b5u h
end Go.Proofs.YtnjkoebfgcbbdaaGreatDoor
namespace Go.Vm
open Go.Am
section
variable {E:Env} {L:Frame} {H:Heap} {nx:Nat} {Q:PV→Heap→Nat→Prop} {w:Bool}
variable {dst:Option Tmp} {ty:TypeId} {pos:String} {af:Array Edge} {gd:Option (Nat×Bool)}
variable {bn:Nat} {ops:Array Oper} {op:Op} {l:List Oper} {i:Nat} {R:Frame→Heap→Nat→Prop}
def c5m (E:Env) (bn d:Nat) (ops:Array Oper) (i:Nat) (l:List Oper) (L:Frame) (H:Heap) (nx:Nat) (Q:Frame→Heap→Nat→Prop):Prop :=
 ∀ (B:Base),B.nx=bn→∀ m F σ t,Ctx E.Γ m F σ H nx→RL m F (htag H) σ nx L t→BZ t d=.slice emptyAt 0 0→B.to m F σ H nx →
  Jf E.P E.O E.G ops i l ⟨t,m⟩ fun s'=>∃ L' H' nx' F' σ',Q L' H' nx'∧Ctx E.Γ s'.m F' σ' H' nx'∧RL s'.m F' (htag H') σ' nx' L' s'.t∧B.to s'.m F' σ' H' nx'
end
variable {E:Env} {L:Frame} {H:Heap} {nx:Nat}
section
variable {Q:PV→Heap→Nat→Prop} {w:Bool} {dst:Option Tmp} {ty:TypeId} {pos:String} {af:Array Edge} {gd:Option (Nat×Bool)}
end
end Go.Vm
