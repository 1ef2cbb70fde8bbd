/-
  Texts of a proof, merged (PieB, PieC, PieD, PieE, PieF, OrO, PieG, OrKa, Vm43, PieH, PieI, Pop, Vm39, Vm44). Conditions: in each statement.
-/
import Derived.Test.YtnjkoebfgcbbdaaGreatDoorKBk
set_option linter.unusedSimpArgs false
set_option linter.unusedVariables false
set_option linter.unusedSectionVars false
set_option maxRecDepth 100000
set_option maxHeartbeats 8000000
abbrev cy:=@Bool.true_and
abbrev dt:=@Bool.false_and
abbrev dz:=@Nat.pow_lt_pow_right
abbrev eT:=@Nat.or_lt_two_pow
abbrev fq:=@Nat.and_two_pow_sub_one_eq_mod
abbrev fL:=@List.mem_mergeSort
abbrev gM:=@List.length_mergeSort
namespace Go.Proofs.YtnjkoebfgcbbdaaGreatDoor
open Go Go.Am Go.Vm Go.Pie
attribute [local irreducible] Aa Ai Ag Ad AO Ap Bc BK Bh Ah Vm.Done Bv AB
attribute [local irreducible] Ce Ba DX DJ En AZ
theorem a4c (l:List Int) (hl:l.length<1000000):Ap env 79 [.lst 3 (cells l) l.length] (.p (.int .i64 (SH l))):=by
 obtain ⟨E,hE⟩:∃ E,E=Yf l 0:=⟨_,rfl⟩
 unfold SH;rw [← hE];refine Ap.enter (Af (by decide)) Tryz.func79 rfl (by kernel_rfl) (by simp [Tryz.ntmps79]) ?_;by_cases c1:l.length<2
 ·rw [if_pos c1]
  repeat' (first|refine Eu ?_|(apply Ad.Aq;rfl)|(intro _;try (exfalso;omega)))
  all_goals first|(exfalso;omega)|(refine Done.rt rfl rfl ⟨?_,rfl,rfl⟩;try rfl)
 rw [if_neg c1];by_cases c2:l.length>201
 ·rw [if_pos c2]
  repeat' (first|refine Eu ?_|(apply Ad.Aq;rfl)|(intro _;try (exfalso;omega)))
  all_goals first|(exfalso;omega)|(refine Done.rt rfl rfl ⟨?_,rfl,rfl⟩;try rfl)
 rw [if_neg c2]
 repeat' (first|refine Eu ?_|(apply Ad.Aq;rfl)|(intro _;try (exfalso;omega)))
 all_goals try (exfalso;omega)
 apply Ad.Ht (l.length) (fun k=>Yf l k=E) [(0,_),(2,_),(13,_),(14,_)] [] (fun k r=>(15,.p (.int .i64 (k:Int)))::r) (fun k r=>r) 0
 ·first|omega|decide
 ·first|omega|decide
 ·exact NI
 ·exact Px
 ·first|(intro _ _;omega)|omega|trivial
 ·intro k hk hi
  have e:=lJ hk;have hk1:((k:Int)-1).toNat=k-1:=by omega
  have hkc:0<k→(k:Int)-1=((k-1:Nat):Int):=fun h=>by omega
  by_cases h1:gi l k<0∨gi l k>100000
  ·rw [if_pos h1] at e
   rw [← hi,e]
   repeat' (first|(apply Aa.Aj;rfl;rfl;rfl;omega;rfl)|refine Eu ?_|apply Ad.KO|(apply Ai.guard;rfl;rfl)|(apply Ad.Ac;rfl)|(apply Ad.cond_true;rfl)|(apply Ad.Aq;rfl)|(intro _;try (exfalso;omega)))
   all_goals first|(exfalso;omega)|(refine Done.rt rfl rfl ⟨?_,rfl,rfl⟩;try rfl)
  rw [if_neg h1] at e;by_cases h2:0<k∧gi l k≤gi l (k-1)
  ·rw [if_pos h2] at e
   rw [← hi,e]
   repeat' (first|(apply Aa.Aj (l:=l) (i:=k-1);rfl;exact congrArg (fun b=>some (PV.p (.int .i64 b))) (hkc h2.1);rfl;omega;rfl)|(apply Aa.Aj;rfl;rfl;rfl;omega;rfl)|refine Ij ?_|apply Ad.KO|(apply Ai.guard;rfl;rfl)|(apply Aa.int;rfl;rfl;rfl)|(apply Ad.Ac;rfl)|(apply Ad.Aq;rfl)|(intro _;try (exfalso;omega)))
   all_goals first|(exfalso;omega)|(refine Done.rt rfl rfl ⟨?_,rfl,rfl⟩;try rfl)
  rw [if_neg h2] at e;by_cases h0:k=0
  ·repeat' (first|(apply Aa.Aj;rfl;rfl;rfl;omega;rfl)|refine Eu ?_|apply Ad.KO|(apply Ai.guard;rfl;rfl)|(apply Ad.Ac;rfl)|(apply Ad.cond_false;rfl)|(apply Ad.Aq;rfl)|(intro _;try (exfalso;omega)))
   all_goals try (exfalso;omega)
   refine Ah.normal ⟨(e.symm.trans hi),by first|omega|decide,?_,?_⟩
   ·exact C9
   ·exact DR
  ·repeat' (first|(apply Aa.Aj (l:=l) (i:=k-1);rfl;exact congrArg (fun b=>some (PV.p (.int .i64 b))) (hkc (by omega));rfl;omega;rfl)|(apply Aa.Aj;rfl;rfl;rfl;omega;rfl)|refine Ij ?_|apply Ad.KO|(apply Ai.guard;rfl;rfl)|(apply Aa.int;rfl;rfl;rfl)|(apply Ad.Ac;rfl)|(apply Ad.Aq;rfl)|(intro _;try (exfalso;omega)))
   all_goals try (exfalso;omega)
   refine Ah.normal ⟨(e.symm.trans hi),by first|omega|decide,?_,?_⟩
   ·exact C9
   ·exact DR
 ·intro hi
  rw [a9w] at hi;rw [← hi]
  repeat' (first|refine Eu ?_|(apply Ad.Ac;rfl)|(intro _;try (exfalso;omega)))
  all_goals first|(exfalso;omega)|(refine Done.rt rfl rfl ⟨?_,rfl,rfl⟩;try rfl)
theorem gV (p:Fv) (h0:0<p.bars.length) (hl:p.bars.length<1000000):Ap env 47 [.agg (Enc.enc p)] (.Eb [.p (.int .i64 (Pq p)),.p (.int .i64 (Qm p))]):=by
 have hkc:(p.bars.length:Int)-1=((p.bars.length-1:Nat):Int):=by omega
 refine Ap.enter (Af (by decide)) Tryz.func47 rfl (by kernel_rfl) (by simp) ?_
 repeat' (first|(apply Aa.Aj (l:=p.bars) (i:=p.bars.length-1);rfl;exact congrArg (fun b=>some (PV.p (.int .i64 b))) hkc;rfl;omega;rfl)|(apply Aa.Aj (l:=p.bars) (i:=0);rfl;rfl;rfl;omega;rfl)|refine Ij ?_|fail)
 all_goals first|(omega)|(refine Done.rt rfl rfl ⟨?_,rfl,rfl⟩;try rfl)
abbrev a4r (n:LH):HB:=.box 39 ((Enc.enc n).map .p)
theorem b6l (f:FuncId) (n:LH) (l:List LH) (z:Bool) (P:Nat→Bool) (hl:l.length<1000000) (hM:∀ k,ER env f ([.p (.agg (Enc.enc (gi l k)))]++[.ref 0 0]) [(0,a4r n)] 1 (.bool (P k))) :
 ER env 116 [.vec 1 l.length 0 l.length,.clo f [] [.ref 0 0]] [(0,a4r n),(1,.vec 39 (cells l) l.length z)] 2 (.int .i64 (D9 P l.length)):=by
 refine ER.enter (Af (by decide)) Tryz.func116 rfl (by kernel_rfl) (by simp [Tryz.ntmps116]) ?_
 repeat' (first|(apply Aa.lenV;rfl;rfl;rfl)|refine go1 ?_|fail)
 all_goals try (exfalso;omega)
 apply Ad.Ht (l.length) (fun k=>Vw P l.length (l.length-k)=D9 P l.length) [(0,_),(1,_),(7,_)] [(0,_),(1,_)] (fun k r=>(8,.p (.int .i64 (k:Int)))::r) (fun k r=>r) 2
 ·first|omega|decide
 ·first|omega|decide
 ·exact NI
 ·exact Px
 ·first|(intro _ _;omega)|omega|trivial
 ·intro k hk hi
  have hC:=hM k;by_cases hp:P k=true
  ·rw [hp] at hC
   have e1:D9 P l.length=(k:Int):=by rw [← hi,YO hk hp]
   rw [e1]
   repeat' (first|(apply Aa.read [0] hC;rfl;rfl;exact .of_eq rfl;exact CU.Az rfl;exact Di rfl;(repeat (first|exact trivial|refine ⟨⟨_,rfl,.of_eq rfl⟩,?_⟩));decide;(intro _ hb;simp at hb<;>omega);rfl)|(apply Aa.D5;rfl;rfl;rfl;rfl;omega)|refine go1 ?_|(apply Aa.int;rfl;rfl;rfl)|(apply Ad.Ac;rfl)|(apply Ad.cond_true;rfl)|(intro _;try (exfalso;omega)))
   all_goals first|(exfalso;omega)|contradiction|(refine Done.ret rfl (.refl _) trivial ?_ (by omega) (ab _) ⟨?_,rfl,rfl⟩;exact DR;try rfl)
  ·have hp':P k=false:=by simpa using hp
   rw [hp'] at hC
   repeat' (first|(apply Aa.read [0] hC;rfl;rfl;exact .of_eq rfl;exact CU.Az rfl;exact Di rfl;(repeat (first|exact trivial|refine ⟨⟨_,rfl,.of_eq rfl⟩,?_⟩));decide;(intro _ hb;simp at hb<;>omega);rfl)|(apply Aa.D5;rfl;rfl;rfl;rfl;omega)|refine go1 ?_|(apply Aa.int;rfl;rfl;rfl)|(apply Ad.Ac;rfl)|(apply Ad.cond_false;rfl)|(intro _;try (exfalso;omega)))
   all_goals try (exfalso;omega)
   all_goals try contradiction
   refine Ah.normal ⟨((JX hk hp').symm.trans hi),by first|omega|decide,?_,?_⟩
   ·exact C9
   ·exact DR
 ·intro hi
  have e1:D9 P l.length=-1:=by rw [← hi,cY];rfl
  rw [e1]
  repeat' (first|refine Eu ?_|(apply Ad.Ac;rfl)|(intro _;try (exfalso;omega)))
  all_goals first|(exfalso;omega)|(refine Done.ret rfl (.refl _) trivial ?_ (by omega) (ab _) ⟨?_,rfl,rfl⟩;exact DR;try rfl)
theorem xU {α:Type} [Inhabited α] (f:α→Bool) (l:List α):decide (0≤D9 (fun k=>f (gi l k)) l.length)=l.any f:=by
 rw [eh,decide_eq_true_iff,List.any_eq_true];constructor
 ·intro h
  have h1:=pX (P:=fun k=>f (gi l k)) l.length (ab _) h;have h2:=(kR (fun k=>f (gi l k)) l.length l.length (ab _)).2;refine ⟨_,?_,h1⟩;have h3:Vw (fun k=>f (gi l k)) l.length l.length=D9 (fun k=>f (gi l k)) l.length:=rfl;generalize Vw (fun k=>f (gi l k)) l.length l.length=u at *;unfold gi;grind
 ·rintro ⟨x,hx,hf⟩
  obtain ⟨k,hk,rfl⟩:=bR.1 hx;refine ZL (P:=fun k=>f (gi l k)) (k:=k) ?_ l.length (ab _) (by omega) hk;unfold gi;grind
theorem zB (f:FuncId) (n:LH) (l:List LH) (z:Bool) (g:LH→Bool) (hl:l.length<1000000) (hM:∀ m,ER env f ([.p (.agg (Enc.enc m))]++[.ref 0 0]) [(0,a4r n)] 1 (.bool (g m))) :
 ER env 71 [.vec 1 l.length 0 l.length,.clo f [] [.ref 0 0]] [(0,a4r n),(1,.vec 39 (cells l) l.length z)] 2 (.bool (l.any g)):=by
 have hi:=b6l f n l z (fun k=>g (gi l k)) hl (fun k=>hM _);rw [← xU g l];generalize D9 (fun k=>g (gi l k)) l.length=F at *;refine ER.enter (Af (by decide)) Tryz.func71 rfl (by kernel_rfl) (by simp) ?_
 repeat' (first|(apply Aa.read [0,1] hi;rfl;rfl;exact .of_eq rfl;exact CU.Az rfl;exact Di rfl;(repeat (first|exact trivial|refine ⟨⟨_,rfl,.of_eq rfl⟩,?_⟩));decide;(intro _ hb;simp at hb<;>omega);rfl)|refine go1 ?_|(apply Aa.int;rfl;rfl;rfl))
 all_goals first|(exfalso;omega)|(refine Done.ret rfl (.refl _) trivial ?_ (by omega) (ab _) ⟨?_,rfl,rfl⟩;exact DR;try rfl)
def clash (n m:LH):Bool:=decide (n.s<m.e)&&decide (m.s<n.e)
theorem xg (n m:LH):ER env 122 ([.p (.agg (Enc.enc m))]++[.ref 0 0]) [(0,a4r n)] 1 (.bool (clash n m)):=by
 unfold clash;refine ER.enter (Af (by decide)) Tryz.func122 rfl (by kernel_rfl) (by simp [Tryz.ntmps122]) ?_;by_cases h1:n.s<m.e
 ·rw [decide_eq_true h1,cy]
  repeat' (first|refine Eu ?_|(apply Ai.guard;rfl;rfl)|(intro _;try (exfalso;omega)))
  all_goals first|(exfalso;omega)|contradiction|(refine Done.ret rfl (.refl _) trivial ?_ (by omega) (ab _) ⟨?_,rfl,rfl⟩;exact DR;try rfl)
 ·rw [decide_eq_false h1,dt]
  repeat' (first|refine Eu ?_|(apply Ai.guard;rfl;rfl)|(intro _;try (exfalso;omega)))
  all_goals first|(exfalso;omega)|contradiction|(refine Done.ret rfl (.refl _) trivial ?_ (by omega) (ab _) ⟨?_,rfl,rfl⟩;exact DR;try rfl)
end Go.Proofs.YtnjkoebfgcbbdaaGreatDoor
namespace Go.Proofs.YtnjkoebfgcbbdaaGreatDoor
open Go Go.Am Go.Vm Go.Pie
abbrev wF:=List ((Int×Int)×List LH)
def ND (n:LH):Int×Int:=(n.d,n.k)
def a1m (gs:wF) (n:LH):wF:=Cb gs (ND n) ((BO gs (ND n)).getD []++[n])
def PD (l:List LH):Nat→wF
 |0=>[]
 |k+1=>a1m (PD l k) (gi l k)
def jX (gs:wF) (i:Nat):List LH:=((gs[i]?).map (·.2)).getD []
def Tz (s:Nat):wF→List ((Int×Int)×PV)
 |[]=>[]
 |x::gs=>(x.1,.vec s x.2.length 0 x.2.length)::Tz (s+1) gs
def tlG (gs:wF) (j:Nat):HB:=.vec 39 (cells (jX gs j)) (jX gs j).length true
theorem WV:∀ {s:Nat} {gs:wF} {a:Int×Int},BO (Tz s gs) a=(BO gs a).map fun l=>.vec (s+FH gs a) l.length 0 l.length
 |s,[],a=>rfl
 |s,x::gs,a=>by
  unfold Tz BO FH;by_cases h:a=x.1
  ·grind
  ·rw [WV]
   grind
theorem qg:∀ {s:Nat} {gs:wF} {a:Int×Int} {l:List LH},Cb (Tz s gs) a (.vec (s+FH gs a) l.length 0 l.length)=Tz s (Cb gs a l)
 |s,[],a,l=>rfl
 |s,x::gs,a,l=>by
  unfold Tz Cb FH;by_cases h:a=x.1
  ·grind
  ·simp only [if_neg h,Tz]
   rw [show s+(FH gs a+1)=s+1+FH gs a by omega,qg]
theorem Py:∀ {gs:wF} {a:Int×Int},jX gs (FH gs a)=(BO gs a).getD []
 |[],a=>rfl
 |x::gs,a=>by
  unfold FH BO;by_cases h:a=x.1
  ·simp only [if_pos h];rfl
  ·simp only [if_neg h]
   exact Py (gs:=gs)
theorem pq:∀ {gs:wF} {a:Int×Int} {l:List LH} {j:Nat},jX (Cb gs a l) j=if j=FH gs a then l else jX gs j
 |[],a,l,j=>by
  match j with
  |0=>rfl
  |j+1=>rfl
 |x::gs,a,l,j=>by
  unfold Cb FH;by_cases h:a=x.1
  ·simp only [if_pos h]
   match j with
   |0=>rfl
   |j+1=>rfl
  ·simp only [if_neg h]
   match j with
   |0=>rfl
   |j+1 =>
    have:=pq (gs:=gs) (a:=a) (l:=l) (j:=j);simp only [Nat.add_right_cancel_iff];exact this
theorem Ya {α β:Type} [DecidableEq α]:∀ {es:List (α×β)} {a:α} {b:β},(Cb es a b).length≤es.length+1
 |[],a,b=>by simp [Cb]
 |x::es,a,b=>by
  unfold Cb;split
  ·simp
  ·have:=Ya (es:=es) (a:=a) (b:=b)
   grind
theorem Vz (l:List LH):∀ k,(PD l k).length≤k
 |0=>ab _
 |k+1=>by
  have:=Vz l k;have:=Ya (es:=PD l k) (a:=ND (gi l k)) (b:=(BO (PD l k) (ND (gi l k))).getD []++[gi l k]);show (Cb _ _ _).length≤_;omega
theorem ig {α β:Type} [DecidableEq α]:∀ {es:List (α×β)} {a c:α} {b:β},BO (Cb es a b) c=if c=a then some b else BO es c
 |[],a,c,b=>rfl
 |x::es,a,c,b=>by
  unfold Cb;by_cases h:a=x.1
  ·unfold BO
   grind
  ·rw [if_neg h]
   unfold BO;by_cases h2:c=x.1
   ·grind
   ·rw [if_neg h2,if_neg h2,ig]
theorem VD (l:List LH) (c:Int×Int):∀ k,k≤l.length→(BO (PD l k) c).getD []=(l.take k).filter fun m=>decide (ND m=c)
 |0,_=>rfl
 |k+1,hk=>by
  have ih:=VD l c k (by omega);have et:l.take (k+1)=l.take k++[gi l k]:=by
   rw [List.take_add_one];unfold gi;grind
  show (BO (Cb _ _ _) c).getD []=_;rw [ig];grind
theorem a4a (l:List LH) (n:LH) (k:Nat) (hk:k≤l.length):((BO (PD l k) (ND n)).getD []).any (clash n)=(l.take k).any fun m=>jo m n:=by
 rw [VD l (ND n) k hk,List.any_filter];congr 1
 funext m
 unfold clash jo ND;by_cases h1:m.d=n.d<;>by_cases h2:m.k=n.k<;>by_cases h3:n.s<m.e<;>by_cases h4:m.s<n.e<;>simp [h1,h2,h3,h4]
def kfC (a:Int×Int):List FV:=[.int .i64 a.1,.int .i64 a.2]
def kvC (a:Int×Int):List Value:=[.int .i64 a.1,.int .i64 a.2]
theorem jY:IsKey Tryz.prog 120 kfC kvC:=by
 obtain ⟨fs,hu⟩:∃ fs,Tryz.prog.underlying 120=some (.struct fs):=⟨_,rfl⟩
 refine IsKey.of_struct hu (by kernel_rfl) (fun a=>rfl) (fun a b=>?_) (fun a=>?_)
 ·have hu2:some (TypeDesc.struct fs)=Tryz.prog.underlying 120:=hu.symm
  cases hu2;show some (decide (a.1=b.1)&&(decide (a.2=b.2)&&true))=_;obtain ⟨a1,a2⟩:=a;obtain ⟨b1,b2⟩:=b;by_cases h1:a1=b1<;>by_cases h2:a2=b2<;>simp [h1,h2]
 ·have hu2:some (TypeDesc.struct fs)=Tryz.prog.underlying 120:=hu.symm
  cases hu2;rfl
theorem jM {k:Nat}:∀ {s:Nat} {gs:wF},s+gs.length≤k→CU.under k ((Tz s gs).map (·.2))
 |s,[],_=>trivial
 |s,x::gs,h=>by
  simp only [List.length_cons] at h;exact ⟨by show s<k;omega,jM (s:=s+1) (gs:=gs) (by omega)⟩
theorem vk {E:Env} {H:Heap} {nx s:Nat} {gs:wF} {a:Int×Int} {g:List LH} {i:Nat} (hi:i=FH gs a) (hgl:g=jX gs i) (hg:hget H (s+i)=some (.vec 39 (cells g) g.length true)):Lj E H nx (Tz s gs) a Dq (.vec (s+i) g.length 0 g.length):=by
 subst hi;subst hgl;have e:=Py (gs:=gs) (a:=a);cases hl:BO gs a with
 |some l =>
  rw [e];exact .inl (by rw [WV,hl];rfl)
 |none =>
  rw [hl] at e;rw [e] at hg ⊢;exact Lj.b7q (by rw [WV,hl];rfl) hg
theorem b4e {s:Nat} {gs:wF} {n:LH} {g:List LH} {i:Nat} (hi:i=FH gs (ND n)) (hgl:g=jX gs i):Cb (Tz s gs) (ND n) (.vec (s+i) (g.length+1) 0 (g.length+1))=Tz s (a1m gs n):=by
 subst hi;subst hgl;unfold a1m;rw [← qg,Py];simp
theorem b7l {gs:wF} {n:LH} {g:List LH} {i:Nat} (hi:i=FH gs (ND n)) (hgl:g=jX gs i) (j:Nat):(if j=i then .vec 39 (cells (g++[n])) (g.length+1) true else tlG gs j)=tlG (a1m gs n) j:=by
 subst hi;subst hgl;unfold tlG a1m;rw [pq];by_cases h:j=FH gs (ND n)
 ·rw [if_pos h,if_pos h,Py]
  simp
 grind
attribute [local irreducible] Aa Ai Ag Ad AO Ap Bc BK Bh Ah Vm.Done Bv AB Ce Ba DX DJ En AZ CB
def b2a (o:Ic) (p:Fv) (G:wF):Heap:=(2,VU kfC (Tz 3 G))::(1,.box 32 ((Enc.enc p).map .p))::(0,.box 27 ((Enc.enc o).map .p))::CB 3 1000 (tlG G)
theorem xY (o:Ic) (p:Fv) (hs:aJ p) (h2:2≤p.bars.length) (ho:o.Ae.length<1000000):Ap env 80 [.agg (Enc.enc o),.agg (Enc.enc p)] (.p (.int .i64 (if p.notes.length>1000 then 4 else Hq o (Pq p) (Qm p) p.notes 0))):=by
 have b1:=hs.notes;have hen:=gV p (by omega) hs.bars;refine Ap.enter (Af (by decide)) Tryz.func80 rfl (by kernel_rfl) (by simp [Tryz.ntmps80]) ?_;by_cases c1:p.notes.length>1000
 ·rw [if_pos c1]
  repeat' (first|refine Eu ?_|(apply Ad.Ac;rfl)|(intro _;try (exfalso;omega)))
  all_goals first|(exfalso;omega)|(refine Done.rt rfl rfl ⟨?_,rfl,rfl⟩;try rfl)
 rw [if_neg c1];obtain ⟨E,hE⟩:∃ E,E=Hq o (Pq p) (Qm p) p.notes 0:=⟨_,rfl⟩
 rw [← hE]
 repeat' (first|(apply Aa.fn;rfl;rfl;exact hen;intro _;rfl)|(apply Aa.aG)|refine go1 ?_|(apply Aa.int;rfl;rfl;rfl)|(apply Ad.Ac;rfl)|(intro _;try (exfalso;omega)))
 all_goals try (exfalso;omega)
 refine Ad.ghost (Aw.b6t 39 1000 (Zi (by decide) (Zi (by decide) (Zi (by decide) b4k)))) ?_;apply Ad.Ht (p.notes.length) (fun k=>Hq o (Pq p) (Qm p) p.notes k=E) [(2,_),(3,_),(5,_),(6,_),(7,_),(23,_),(24,_)] [] (fun k r=>(25,.p (.int .i64 (k:Int)))::r) (fun k _=>b2a o p (PD p.notes k)) 1003
 ·first|omega|decide
 ·first|omega|decide
 ·exact NI
 ·refine ⟨⟨Bj rfl,trivial,_,rfl,.refl _⟩,⟨Bj rfl,CU.Bf _ _,_,rfl,.refl _⟩,⟨Bj rfl,CU.Bf _ _,_,rfl,.refl _⟩,BI.tail (fun j hj=>?_) (by omega) (fun j hj=>trivial)⟩
  refine EG (by omega) (EG (by omega) (EG (by omega) ?_));exact Rq hj
 ·exact hE.symm
 ·intro k hk hi
  have e:=WO (o:=o) (a:=Pq p) (z:=Qm p) hk;have hca:=a4a p.notes (gi p.notes k) k (by omega);have hgl:=Vz p.notes k;have c6s:=Vz p.notes (k+1);have hLk:=VD p.notes (ND (gi p.notes k)) k (by omega);have hGs:a1m (PD p.notes k) (gi p.notes k)=PD p.notes (k+1):=rfl;unfold UD at e;generalize PD p.notes k=G at *;obtain ⟨i,hii⟩:∃ i,i=FH G (ND (gi p.notes k)):=⟨_,rfl⟩
  obtain ⟨g,hg⟩:∃ g,g=jX G i:=⟨_,rfl⟩
  have hi1:i<1000:=by have:=(gu (es:=G) (a:=ND (gi p.notes k))).1;omega
  have hgt:hget (b2a o p G) (3+i)=some (.vec 39 (cells g) g.length true):=EG (by omega) (EG (by omega) (EG (by omega) (by rw [Rq hi1,hg];rfl)));have hpt:∀ y,hput (b2a o p G) (3+i) y=(2,VU kfC (Tz 3 G))::(1,.box 32 ((Enc.enc p).map .p))::(0,.box 27 ((Enc.enc o).map .p))::CB 3 1000 (fun j=>if j=i then y else tlG G j):=fun y=>RD (by omega) (RD (by omega) (RD (by omega) (jO hi1)))
  have hgg:g=(BO G (ND (gi p.notes k))).getD []:=by rw [hg,hii,Py]
  have hgn:g.length≤k:=by
   rw [hgg,hLk];exact am (dr _ _) (by rw [az];omega)
  rw [← hgg] at hca;have hcl:=zB 122 (gi p.notes k) g true (clash (gi p.notes k)) (by omega) (xg (gi p.notes k));rw [hca] at hcl;by_cases h1:(gi p.notes k).d<0∨(gi p.notes k).d≥o.Ae.length
  ·rw [if_pos h1,if_pos (by decide)] at e
   rw [← hi,e]
   repeat' (first|(apply Aa.Aj;rfl;rfl;rfl;omega;rfl)|refine Eu ?_|(apply Ai.guard;rfl;rfl)|(apply Ad.AX;rfl)|(apply Ad.Ac;rfl)|(intro _;try (exfalso;omega)))
   all_goals first|(exfalso;omega)|(refine Done.rt rfl rfl ⟨?_,rfl,rfl⟩;try rfl)
  rw [if_neg h1] at e;by_cases h2:(gi p.notes k).k<(gi o.Ae (gi p.notes k).d.toNat).lo∨(gi p.notes k).k>(gi o.Ae (gi p.notes k).d.toNat).hi
  ·rw [if_pos h2,if_pos (by decide)] at e
   rw [← hi,e]
   repeat' (first|(apply Aa.Aj;rfl;rfl;rfl;omega;rfl)|(apply Aa.MK;rfl;rfl;rfl;omega;omega;rfl)|refine Eu ?_|(apply Ai.guard;rfl;rfl)|(apply Aa.build;rfl;rfl;rfl;rfl;rfl)|(apply Ad.Ac;rfl)|(apply Ad.cond_true;rfl)|(apply Ad.Aq;rfl)|(intro _;try (exfalso;omega)))
   all_goals first|(exfalso;omega)|(refine Done.rt rfl rfl ⟨?_,rfl,rfl⟩;try rfl)
  rw [if_neg h2] at e;by_cases h3:(gi p.notes k).s<Pq p∨(gi p.notes k).e>Qm p
  ·rw [if_pos h3,if_pos (by decide)] at e
   rw [← hi,e]
   repeat' (first|(apply Aa.Aj;rfl;rfl;rfl;omega;rfl)|(apply Aa.MK;rfl;rfl;rfl;omega;omega;rfl)|refine Eu ?_|(apply Ai.guard;rfl;rfl)|(apply Aa.build;rfl;rfl;rfl;rfl;rfl)|(apply Ad.Ac;rfl)|(apply Ad.cond_true;rfl)|(apply Ad.Aq;rfl)|(intro _;try (exfalso;omega)))
   all_goals first|(exfalso;omega)|(refine Done.rt rfl rfl ⟨?_,rfl,rfl⟩;try rfl)
  rw [if_neg h3] at e;by_cases h4:(gi p.notes k).s≥(gi p.notes k).e
  ·rw [if_pos h4,if_pos (by decide)] at e
   rw [← hi,e]
   repeat' (first|(apply Aa.Aj;rfl;rfl;rfl;omega;rfl)|(apply Aa.MK;rfl;rfl;rfl;omega;omega;rfl)|refine Eu ?_|(apply Ai.guard;rfl;rfl)|(apply Aa.build;rfl;rfl;rfl;rfl;rfl)|(apply Ad.Ac;rfl)|(apply Ad.Aq;rfl)|(intro _;try (exfalso;omega)))
   all_goals first|(exfalso;omega)|(refine Done.rt rfl rfl ⟨?_,rfl,rfl⟩;try rfl)
  rw [if_neg h4] at e;by_cases h5:(p.notes.take k).any (fun m=>jo m (gi p.notes k))=true
  ·rw [if_pos h5,if_pos (by decide)] at e
   rw [h5] at hcl;rw [← hi,e]
   repeat' (first|(apply Aa.zu (a:=ND (gi p.notes k)) (z:=Dq) jY;rfl;rfl;rfl;rfl;rfl;rfl;exact vk hii hg (by (repeat (first|exact hgt|(refine GZ (by omega) ?_)|(refine EG (by omega) ?_)))))|(apply Aa.b5j [1003,3+i] hcl;rfl;rfl;exact .of_eq rfl;exact CU.Az rfl;exact Di rfl;exact ⟨rfl,(show hget _ (3+i)=some (HB.vec 39 (cells g) g.length true) from by (repeat (first|exact hgt|(refine GZ (by omega) ?_)|(refine EG (by omega) ?_)))),trivial⟩;rfl;(simp;omega);(intro _ hb;simp at hb;omega))|(apply Aa.makeFunc;rfl;rfl)|(apply Aa.Aj;rfl;rfl;rfl;omega;rfl)|(apply Aa.MK;rfl;rfl;rfl;omega;omega;rfl)|refine Ij ?_|(apply Ai.guard;rfl;rfl)|(apply Aa.int;rfl;rfl;rfl)|(apply Aa.build;rfl;rfl;rfl;rfl;rfl)|(apply Ad.Ac;rfl)|(apply Ad.cond_true;rfl)|(apply Ad.Aq;rfl)|(intro _;try (exfalso;omega)))
   all_goals first|(exfalso;omega)|(refine Done.rt rfl rfl ⟨?_,rfl,rfl⟩;try rfl)
  have h5:(p.notes.take k).any (fun m=>jo m (gi p.notes k))=false:=by simpa using h5
  rw [h5,if_neg (by decide)] at e;rw [h5] at hcl
  repeat' (first|(apply Aa.zu (a:=ND (gi p.notes k)) (z:=Dq) jY;rfl;rfl;rfl;rfl;rfl;rfl;exact vk hii hg (by (repeat (first|exact hgt|(refine GZ (by omega) ?_)|(refine EG (by omega) ?_)))))|(apply Aa.b5j [1003,3+i] hcl;rfl;rfl;exact .of_eq rfl;exact CU.Az rfl;exact Di rfl;exact ⟨rfl,(show hget _ (3+i)=some (HB.vec 39 (cells g) g.length true) from by (repeat (first|exact hgt|(refine GZ (by omega) ?_)|(refine EG (by omega) ?_)))),trivial⟩;rfl;(simp;omega);(intro _ hb;simp at hb;omega))|(apply Aa.makeFunc;rfl;rfl)|(apply Aa.b7j (a:=ND (gi p.notes k)) (es:=Tz 3 G) (z:=Dq) jY;rfl;rfl;rfl;rfl;rfl;rfl;exact vk hii hg (by (repeat (first|exact hgt|(refine GZ (by omega) ?_)|(refine EG (by omega) ?_))));rfl)|(apply Aa.a9q (l:=g) (a:=gi p.notes k);rfl;((repeat (first|exact hgt|(refine GZ (by omega) ?_)|(refine EG (by omega) ?_))));rfl;rfl;rfl;rfl;rfl;rfl;(intro _ h;cases h);rfl;rfl;rfl;decide;decide;omega;((repeat (first|exact hpt _|(apply qF;omega)|(apply RD;omega)))))|(apply Aa.a3j (a:=ND (gi p.notes k)) (es:=Tz 3 G) jY;rfl;rfl;rfl;rfl;rfl)|(apply Aa.Aj;rfl;rfl;rfl;omega;rfl)|(apply Aa.MK;rfl;rfl;rfl;omega;omega;rfl)|refine Ij ?_|(apply Ai.guard;rfl;rfl)|(apply Aa.int;rfl;rfl;rfl)|(apply Aa.build;rfl;rfl;rfl;rfl;rfl)|(apply Aa.buildSlice;rfl;rfl;rfl;decide;rfl;rfl;rfl)|(apply Ad.Ac;rfl)|(apply Ad.cond_false;rfl)|(apply Ad.Aq;rfl)|(intro _;try (exfalso;omega)))
  all_goals try (exfalso;omega)
  refine Ah.normal ⟨e.symm.trans hi,by first|omega|decide,?_,?_⟩
  ·exact C9
  ·show BI 1003 (b2a o p (PD p.notes (k+1))) _
   rw [← hGs] at c6s ⊢;refine ⟨⟨Bj rfl,jM (by omega),_,rfl,.of_eq (congrArg (VU kfC) (b4e hii hg))⟩,⟨Bj rfl,CU.Bf _ _,_,rfl,.refl _⟩,⟨Bj rfl,CU.Bf _ _,_,rfl,.refl _⟩,BI.tail (fun j hj=>?_) (by omega) (fun j hj=>trivial)⟩;repeat (first|(refine GZ (by omega) ?_)|(refine EG (by omega) ?_))
   rw [Rq hj];exact congrArg some (b7l hii hg j)
 ·intro hi
  rw [wH] at hi;rw [← hi]
  repeat' (first|refine Eu ?_|(apply Ad.Ac;rfl)|(intro _;try (exfalso;omega)))
  all_goals first|(exfalso;omega)|(refine Done.rt rfl rfl ⟨?_,rfl,rfl⟩;try rfl)
end Go.Proofs.YtnjkoebfgcbbdaaGreatDoor
namespace Go.Proofs.YtnjkoebfgcbbdaaGreatDoor
open Go Go.Am Go.Vm Go.Pie
attribute [local irreducible] Aa Ai Ag Ad AO Ap Bc BK Bh Ah Vm.Done Bv AB
attribute [local irreducible] Ce Ba DX DJ En AZ
theorem a2i (o:Ic) (ho:a4q o) (r:Rgs) (hr:r.Ok):Ap env 81 [.agg (Enc.enc o),.agg (Enc.enc r)] (.p (.int .i64 (VQ o r))):=by
 have r2:=ho.Ae;have r3:=ho.I8;have c1:=hr.cp;have c2:=hr.off;have c3:=hr.len;have hc:=XM o ho.sm;rw [ho.err] at hc;refine Ap.enter (Af (by decide)) Tryz.func81 rfl (by kernel_rfl) (by simp [Tryz.ntmps81]) ?_;by_cases h1:r.stops.length=o.Ae.length
 case neg =>
  rw [a8i h1]
  repeat' (first|(apply Aa.fn;rfl;rfl;exact hc;intro _;rfl)|refine go1 ?_|(apply Aa.int;rfl;rfl;rfl)|(apply Ad.Ak;rfl)|(apply Ad.Ac;rfl)|(intro _;try (exfalso;omega)))
  all_goals first|(exfalso;omega)|contradiction|(refine Done.rt rfl rfl ⟨?_,rfl,rfl⟩;try rfl)
 by_cases h2:∀ i,i<r.stops.length→gi r.stops i / 2 ^ (gi o.Ae i).stops.length=0
 case neg =>
  obtain ⟨i,hi⟩:=du.1 h2;obtain ⟨hi,h3⟩:=Classical.not_imp.1 hi;rw [a9i h1 hi h3];clear h2
  repeat' (first|(apply Aa.fn;rfl;rfl;exact hc;intro _;rfl)|refine go1 ?_|(apply Aa.int;rfl;rfl;rfl)|(apply Ad.Ak;rfl)|(apply Ad.Ac;rfl)|(intro _;try (exfalso;omega)))
  all_goals try (exfalso;omega)
  all_goals try contradiction
  apply Ad.Ht (o.Ae.length) (fun k=>∀ i,i<k→gi r.stops i / 2 ^ (gi o.Ae i).stops.length=0) [(2,_),(3,_),(21,_),(22,_)] [(0,_),(1,_)] (fun k r=>(23,.p (.int .i64 (k:Int)))::r) (fun k r=>r) 2
  ·first|omega|decide
  ·first|omega|decide
  ·exact NI
  ·exact Px
  ·first|(intro _ _;omega)|omega|trivial
  ·intro k hk hok
   have s3:=ho.stops k (by omega);have rk:=hr.stops k (by omega);by_cases hb:gi r.stops k / 2 ^ (gi o.Ae k).stops.length=0
   ·repeat' (first|(apply Aa.Aj;rfl;rfl;rfl;omega;rfl)|refine Eu ?_|(apply Aa.fH;rfl;rfl;(simp only [IntKind.bits];omega))|(apply Ad.Ac;rfl)|(apply Ad.Aq;rfl)|(intro _;try (exfalso;omega)))
    all_goals try (exfalso;omega)
    all_goals try contradiction
    refine Ah.normal ⟨(all_succ hok hb),by first|omega|decide,?_,?_⟩
    ·exact C9
    ·exact DR
   ·repeat' (first|(apply Aa.Aj;rfl;rfl;rfl;omega;rfl)|refine Eu ?_|(apply Aa.fH;rfl;rfl;(simp only [IntKind.bits];omega))|(apply Ad.Ac;rfl)|(apply Ad.Aq;rfl)|(intro _;try (exfalso;omega)))
    all_goals first|(exfalso;omega)|contradiction|(refine Done.rt rfl rfl ⟨?_,rfl,rfl⟩;try rfl)
  ·intro hok
   exact absurd (hok i (by omega)) h3
 rw [iE h1 h2]
 repeat' (first|(apply Aa.fn;rfl;rfl;exact hc;intro _;rfl)|refine go1 ?_|(apply Aa.int;rfl;rfl;rfl)|(apply Ad.Ak;rfl)|(apply Ad.Ac;rfl)|(intro _;try (exfalso;omega)))
 all_goals try (exfalso;omega)
 all_goals try contradiction
 apply Ad.Ht (o.Ae.length) (fun k=>∀ i,i<k→gi r.stops i / 2 ^ (gi o.Ae i).stops.length=0) [(2,_),(3,_),(21,_),(22,_)] [(0,_),(1,_)] (fun k r=>(23,.p (.int .i64 (k:Int)))::r) (fun k r=>r) 2
 ·first|omega|decide
 ·first|omega|decide
 ·exact NI
 ·exact Px
 ·first|(intro _ _;omega)|omega|trivial
 ·intro k hk hok
  have s3:=ho.stops k (by omega);have rk:=hr.stops k (by omega);have hb:=h2 k (by omega)
  repeat' (first|(apply Aa.Aj;rfl;rfl;rfl;omega;rfl)|refine Eu ?_|(apply Aa.fH;rfl;rfl;(simp only [IntKind.bits];omega))|(apply Ad.Ac;rfl)|(apply Ad.Aq;rfl)|(intro _;try (exfalso;omega)))
  all_goals try (exfalso;omega)
  all_goals try contradiction
  refine Ah.normal ⟨(fun j hj=>h2 j (by omega)),by first|omega|decide,?_,?_⟩
  ·exact C9
  ·exact DR
 ·intro hok
  by_cases h4:r.cp / 2 ^ o.I8.length=0
  ·by_cases h5:r.off / 2 ^ o.Ae.length=0
   ·rw [if_neg (by omega)]
    repeat' (first|refine Eu ?_|(apply Ai.guard;rfl;rfl)|(apply Aa.fH;rfl;rfl;(simp only [IntKind.bits];omega))|(apply Ad.Ac;rfl)|(intro _;try (exfalso;omega)))
    all_goals first|(exfalso;omega)|contradiction|(refine Done.rt rfl rfl ⟨?_,rfl,rfl⟩;try rfl)
   ·rw [if_pos (.inr h5)]
    repeat' (first|refine Eu ?_|(apply Ai.guard;rfl;rfl)|(apply Aa.fH;rfl;rfl;(simp only [IntKind.bits];omega))|(apply Ad.Ac;rfl)|(intro _;try (exfalso;omega)))
    all_goals first|(exfalso;omega)|contradiction|(refine Done.rt rfl rfl ⟨?_,rfl,rfl⟩;try rfl)
  ·rw [if_pos (.inl h4)]
   repeat' (first|refine Eu ?_|(apply Ai.guard;rfl;rfl)|(apply Aa.fH;rfl;rfl;(simp only [IntKind.bits];omega))|(apply Ad.AX;rfl)|(apply Ad.Ac;rfl)|(intro _;try (exfalso;omega)))
   all_goals first|(exfalso;omega)|contradiction|(refine Done.rt rfl rfl ⟨?_,rfl,rfl⟩;try rfl)
theorem a4m {l:List Int} (h:SH l=0):2≤l.length:=by
 unfold SH at h;omega
theorem SG (o:Ic) (p:Fv) (ho:Vh o) (hp:aJ p):Ap env 31 [.agg (Enc.enc o),.agg (Enc.enc p)] (.p (.int .i64 (Yi o p))):=by
 have hc:=XM o ho;have hb:=a4c p.bars hp.bars;have b3:=hp.sets;unfold Yi iF;refine Ap.enter (Af (by decide)) Tryz.func31 rfl (by kernel_rfl) (by simp [Tryz.ntmps31]) ?_;by_cases e1:WU o=0
 case neg =>
  rw [if_pos e1]
  repeat' (first|(apply Aa.fn;rfl;rfl;exact hc;intro _;rfl)|refine go1 ?_|(apply Aa.int;rfl;rfl;rfl)|(apply Ad.Ac;rfl)|(intro _;try (exfalso;omega)))
  all_goals first|(exfalso;omega)|contradiction|(refine Done.rt rfl rfl ⟨?_,rfl,rfl⟩;try rfl)
 rw [if_neg (fun h=>h e1)];rw [e1] at hc;have k1:=b8z ho e1;have d1:=k1.Ae;by_cases e2:SH p.bars=0
 case neg =>
  rw [if_pos e2]
  repeat' (first|(apply Aa.fn;rfl;rfl;exact hc;intro _;rfl)|(apply Aa.fn;rfl;rfl;exact hb;intro _;rfl)|refine go1 ?_|(apply Aa.int;rfl;rfl;rfl)|(apply Ad.Ak;rfl)|(apply Ad.Ac;rfl)|(intro _;try (exfalso;omega)))
  all_goals first|(exfalso;omega)|contradiction|(refine Done.rt rfl rfl ⟨?_,rfl,rfl⟩;try rfl)
 rw [if_neg (fun h=>h e2)];rw [e2] at hb;have h2:=a4m e2;have hn:=xY o p hp h2 (by omega);by_cases e3:p.notes.length>1000
 ·rw [if_pos e3] at hn
  rw [if_pos e3]
  repeat' (first|(apply Aa.fn;rfl;rfl;exact hc;intro _;rfl)|(apply Aa.fn;rfl;rfl;exact hb;intro _;rfl)|(apply Aa.fn;rfl;rfl;exact hn;intro _;rfl)|refine go1 ?_|(apply Aa.int;rfl;rfl;rfl)|(apply Ad.AX;rfl)|(apply Ad.Ak;rfl))
  all_goals first|(exfalso;omega)|contradiction|(refine Done.rt rfl rfl ⟨?_,rfl,rfl⟩;try rfl)
 rw [if_neg e3] at hn;rw [if_neg e3];by_cases e4:Hq o (Pq p) (Qm p) p.notes 0=0
 case neg =>
  rw [if_pos e4]
  repeat' (first|(apply Aa.fn;rfl;rfl;exact hc;intro _;rfl)|(apply Aa.fn;rfl;rfl;exact hb;intro _;rfl)|(apply Aa.fn;rfl;rfl;exact hn;intro _;rfl)|refine go1 ?_|(apply Aa.int;rfl;rfl;rfl)|(apply Ad.Ak;rfl)|(apply Ad.Ac;rfl)|(intro _;try (exfalso;omega)))
  all_goals first|(exfalso;omega)|contradiction|(refine Done.rt rfl rfl ⟨?_,rfl,rfl⟩;try rfl)
 rw [if_neg (fun h=>h e4)];rw [e4] at hn;by_cases e5:p.sets.length>100
 ·rw [if_pos e5]
  repeat' (first|(apply Aa.fn;rfl;rfl;exact hc;intro _;rfl)|(apply Aa.fn;rfl;rfl;exact hb;intro _;rfl)|(apply Aa.fn;rfl;rfl;exact hn;intro _;rfl)|refine go1 ?_|(apply Aa.int;rfl;rfl;rfl)|(apply Ad.Ak;rfl)|(apply Ad.Ac;rfl)|(intro _;try (exfalso;omega)))
  all_goals first|(exfalso;omega)|contradiction|(refine Done.rt rfl rfl ⟨?_,rfl,rfl⟩;try rfl)
 rw [if_neg e5];have b1:=hp.bars;obtain ⟨E,hE⟩:∃ E,E=OV o p.bars.length p.sets 0:=⟨_,rfl⟩
 rw [← hE]
 repeat' (first|(apply Aa.fn;rfl;rfl;exact hc;intro _;rfl)|(apply Aa.fn;rfl;rfl;exact hb;intro _;rfl)|(apply Aa.fn;rfl;rfl;exact hn;intro _;rfl)|refine go1 ?_|(apply Aa.int;rfl;rfl;rfl)|(apply Ad.Ak;rfl)|(apply Ad.Ac;rfl)|(intro _;try (exfalso;omega)))
 all_goals try (exfalso;omega)
 all_goals try contradiction
 apply Ad.Ht (p.sets.length) (fun k=>OV o p.bars.length p.sets k=E) [(2,_),(3,_),(33,_),(34,_)] [(0,_),(1,_)] (fun k r=>(35,.p (.int .i64 (k:Int)))::r) (fun k r=>r) 2
 ·first|omega|decide
 ·first|omega|decide
 ·exact NI
 ·exact Px
 ·first|(intro _ _;omega)|omega|trivial
 ·intro k hk hi
  have e:=ZV (o:=o) (nb:=p.bars.length) hk;have hr:=a2i o k1 (gi p.sets k).reg (hp.reg k hk);have hkc:0<k→(k:Int)-1=((k-1:Nat):Int):=fun h=>by omega
  unfold Nz at e;by_cases h1:(gi p.sets k).bar<0∨(gi p.sets k).bar≥(p.bars.length:Int)-1
  ·rw [if_pos h1,if_pos (by decide)] at e
   rw [← hi,e]
   repeat' (first|(apply Aa.Aj;rfl;rfl;rfl;omega;rfl)|refine Eu ?_|(apply Ai.guard;rfl;rfl)|(apply Ad.Ac;rfl)|(apply Ad.cond_true;rfl)|(apply Ad.Aq;rfl)|(intro _;try (exfalso;omega)))
   all_goals first|(exfalso;omega)|(refine Done.rt rfl rfl ⟨?_,rfl,rfl⟩;try rfl)
  rw [if_neg h1] at e;by_cases h3:0<k∧(gi p.sets k).bar=(gi p.sets (k-1)).bar
  ·rw [if_pos h3,if_pos (by decide)] at e
   rw [← hi,e]
   repeat' (first|(apply Aa.Aj (l:=p.sets) (i:=k-1);rfl;exact congrArg (fun b=>some (PV.p (.int .i64 b))) (hkc h3.1);rfl;omega;rfl)|(apply Aa.Aj;rfl;rfl;rfl;omega;rfl)|refine fP ?_|(apply Ai.guard;rfl;rfl)|(apply Ag.guard;rfl;rfl)|(apply Aa.int;rfl;rfl;rfl)|(apply Ad.Ac;rfl)|(apply Ad.Aq;rfl)|(intro _;try (exfalso;omega)))
   all_goals first|(exfalso;omega)|(refine Done.rt rfl rfl ⟨?_,rfl,rfl⟩;try rfl)
  rw [if_neg h3] at e;by_cases h4:0<k∧(gi p.sets k).bar<(gi p.sets (k-1)).bar
  ·rw [if_pos h4,if_pos (by decide)] at e
   rw [← hi,e]
   repeat' (first|(apply Aa.Aj (l:=p.sets) (i:=k-1);rfl;exact congrArg (fun b=>some (PV.p (.int .i64 b))) (hkc h4.1);rfl;omega;rfl)|(apply Aa.Aj;rfl;rfl;rfl;omega;rfl)|refine fP ?_|(apply Ai.guard;rfl;rfl)|(apply Ag.guard;rfl;rfl)|(apply Aa.int;rfl;rfl;rfl)|(apply Ad.Ac;rfl)|(apply Ad.Aq;rfl)|(intro _;try (exfalso;omega)))
   all_goals first|(exfalso;omega)|(refine Done.rt rfl rfl ⟨?_,rfl,rfl⟩;try rfl)
  rw [if_neg h4] at e;by_cases h5:VQ o (gi p.sets k).reg=0
  case neg =>
   rw [if_pos h5] at e;rw [← hi,e];by_cases h0:k=0
   ·repeat' (first|(apply Aa.fn;rfl;rfl;exact hr;intro _;rfl)|(apply Aa.Aj;rfl;rfl;rfl;omega;rfl)|refine fP ?_|(apply Ai.guard;rfl;rfl)|(apply Ag.guard;rfl;rfl)|(apply Aa.int;rfl;rfl;rfl)|(apply Ad.Ac;rfl)|(apply Ad.cond_false;rfl)|(apply Ad.Aq;rfl)|(intro _;try (exfalso;omega)))
    all_goals first|(exfalso;omega)|contradiction|(refine Done.rt rfl rfl ⟨?_,rfl,rfl⟩;try rfl)
   ·repeat' (first|(apply Aa.fn;rfl;rfl;exact hr;intro _;rfl)|(apply Aa.Aj (l:=p.sets) (i:=k-1);rfl;exact congrArg (fun b=>some (PV.p (.int .i64 b))) (hkc (by omega));rfl;omega;rfl)|(apply Aa.Aj;rfl;rfl;rfl;omega;rfl)|refine fP ?_|(apply Ai.guard;rfl;rfl)|(apply Ag.guard;rfl;rfl)|(apply Aa.int;rfl;rfl;rfl)|(apply Ad.Ac;rfl)|(apply Ad.Aq;rfl)|(intro _;try (exfalso;omega)))
    all_goals first|(exfalso;omega)|contradiction|(refine Done.rt rfl rfl ⟨?_,rfl,rfl⟩;try rfl)
  rw [if_neg (fun h=>h h5)] at e;rw [h5] at hr;by_cases h0:k=0
  ·repeat' (first|(apply Aa.fn;rfl;rfl;exact hr;intro _;rfl)|(apply Aa.Aj;rfl;rfl;rfl;omega;rfl)|refine fP ?_|(apply Ai.guard;rfl;rfl)|(apply Ag.guard;rfl;rfl)|(apply Aa.int;rfl;rfl;rfl)|(apply Ad.Ac;rfl)|(apply Ad.cond_false;rfl)|(apply Ad.Aq;rfl)|(intro _;try (exfalso;omega)))
   all_goals try (exfalso;omega)
   all_goals try contradiction
   refine Ah.normal ⟨(e.symm.trans hi),by first|omega|decide,?_,?_⟩
   ·exact C9
   ·exact DR
  ·repeat' (first|(apply Aa.fn;rfl;rfl;exact hr;intro _;rfl)|(apply Aa.Aj (l:=p.sets) (i:=k-1);rfl;exact congrArg (fun b=>some (PV.p (.int .i64 b))) (hkc (by omega));rfl;omega;rfl)|(apply Aa.Aj;rfl;rfl;rfl;omega;rfl)|refine fP ?_|(apply Ai.guard;rfl;rfl)|(apply Ag.guard;rfl;rfl)|(apply Aa.int;rfl;rfl;rfl)|(apply Ad.Ac;rfl)|(apply Ad.cond_false;rfl)|(apply Ad.Aq;rfl)|(intro _;try (exfalso;omega)))
   all_goals try (exfalso;omega)
   all_goals try contradiction
   refine Ah.normal ⟨(e.symm.trans hi),by first|omega|decide,?_,?_⟩
   ·exact C9
   ·exact DR
 ·intro hi
  rw [a3y] at hi;rw [← hi]
  repeat' (first|refine Eu ?_|(apply Ad.Ac;rfl)|(intro _;try (exfalso;omega)))
  all_goals first|(exfalso;omega)|(refine Done.rt rfl rfl ⟨?_,rfl,rfl⟩;try rfl)
noncomputable def atE (o:Ic) (p:Fv) (t:Int):Int:=if Yi o p≠0 then Yi o p else if t<Pq p∨t≥Qm p then 3 else 0
end Go.Proofs.YtnjkoebfgcbbdaaGreatDoor
namespace Go.Proofs.YtnjkoebfgcbbdaaGreatDoor
open Go Go.Am Go.Vm
attribute [local irreducible] Aa Ai Ag Ad AO Ap Bc BK Bh Ah Vm.Done Bv AB
def c3e (o:Ic):Rgs:=⟨List.replicate o.Ae.length 0,0,0⟩
def c2p (o:Ic) (k:Nat):Nat:=2 ^ (gi o.Ae k).stops.length-1
def c8o (o:Ic):Rgs:=⟨b8d (c2p o) (List.replicate o.Ae.length 0) o.Ae.length,2 ^ o.I8.length-1,0⟩
def c8c (r:Rgs) (d s:Nat):Rgs:=⟨r.stops.set d (gi r.stops d ||| 2 ^ s),r.cp,r.off⟩
def b6s (a b:Rgs) (k:Nat):Nat:=gi a.stops k ||| gi b.stops k
def c5f (a b:Rgs):Rgs:=⟨b8d (b6s a b) a.stops a.stops.length,a.cp ||| b.cp,a.off ||| b.off⟩
open Go.Pie
attribute [local irreducible] Ce Ba DX DJ En AZ
def dD (p:Fv) (t:Int) (i:Nat):Bool:=decide ((gi p.notes i).s≤t)&&decide (t<(gi p.notes i).e)
def LG (p:Fv) (t:Int):Nat→List Int
 |0=>[]
 |k+1=>if dD p t k=true then LG p t k++[(k:Int)] else LG p t k
def snd (p:Fv) (t:Int):List Int:=LG p t p.notes.length
theorem UM (p:Fv) (t:Int):∀ k,(LG p t k).length≤k
 |0=>ab _
 |k+1=>by
  have:=UM p t k;unfold LG;grind
theorem o8 (p:Fv) (hp:aJ p) (t:Int):Bc env 50 [.agg (Enc.enc p),.int .i64 t] 3 (cells (snd p t)) (snd p t).length true:=by
 refine Bc.enter (Af (by decide)) Tryz.func50 rfl (by kernel_rfl) (by simp [Tryz.ntmps50]) ?_;have b1:=hp.notes
 repeat' (first|refine go1 ?_|fail)
 all_goals try (exfalso;omega)
 refine Ad.ghost (Aw.adopt 5 3 rfl) ?_;apply Ad.F5 (p.notes.length) [(1,_),(9,_),(10,_)] [(0,_)] (fun k r=>(11,.p (.int .i64 (k:Int)))::(5,.vec 1 (LG p t k).length 0 (LG p t k).length)::r) (fun k r=>(1,.vec 3 (cells (LG p t k)) (LG p t k).length true)::r) 2
 ·first|omega|decide
 ·first|omega|decide
 ·exact NI
 ·exact Px
 ·intro k hk
  have hl:=UM p t k;have e1:LG p t (k+1)=if dD p t k=true then LG p t k++[(k:Int)] else LG p t k:=rfl
  by_cases h1:(gi p.notes k).s≤t∧t<(gi p.notes k).e
  ·have hb:dD p t k=true:=by unfold dD;rw [decide_eq_true h1.1,decide_eq_true h1.2];rfl
   rw [if_pos hb] at e1;have e2:(LG p t (k+1)).length=(LG p t k).length+1:=by rw [e1];simp
   repeat' (first|(apply Aa.CW (a:=(k:Int));rfl;rfl;rfl;rfl;rfl;rfl;rfl;rfl;(intro _ h;cases h);rfl;rfl;rfl;decide;decide;(first|omega|(simp only [List.length_take,List.length_drop,List.length_append,List.length_singleton,List.length_cons,List.length_nil]<;>omega)))|(apply Aa.Aj;rfl;rfl;rfl;omega;rfl)|refine Ij ?_|(apply Ai.guard;rfl;rfl)|(apply Aa.int;rfl;rfl;rfl)|(apply Aa.buildSlice;rfl;rfl;rfl;decide;rfl;rfl;rfl)|(apply Ad.Ac;rfl)|(apply Ad.Aq;rfl)|(intro _;try (exfalso;omega)))
   all_goals try (exfalso;omega)
   refine Ah.normal ⟨by first|omega|decide,?_,?_⟩
   ·try (first|rw [e2,e1]|rw [e2])
    exact C9
   ·first|rw [e2,e1]|rw [e2]
    exact DR
  ·have hb:¬ dD p t k=true:=by
    unfold dD;intro h;rw [cX,decide_eq_true_iff,decide_eq_true_iff] at h;exact h1 h
   rw [if_neg hb] at e1
   repeat' (first|(apply Aa.Aj;rfl;rfl;rfl;omega;rfl)|refine Eu ?_|(apply Ai.guard;rfl;rfl)|(apply Ad.Ac;rfl)|(apply Ad.cond_false;rfl)|(apply Ad.Aq;rfl)|(intro _;try (exfalso;omega)))
   all_goals try (exfalso;omega)
   all_goals
    refine Ah.normal ⟨by first|omega|decide,?_,?_⟩
    ·try (rw [e1])
     exact C9
    ·rw [e1]
     exact DR
 ·repeat' (first|refine Eu ?_|(apply Ad.Ac;rfl)|(intro _;try (exfalso;omega)))
  all_goals first|(exfalso;omega)|exact Bv.ret rfl rfl rfl rfl
def c3l (p:Fv) (t:Int):Nat→Int
 |0=>-1
 |k+1=>if gi p.bars (gi p.sets k).bar.toNat≤t then (k:Int) else c3l p t k
def wan (p:Fv) (t:Int):Int:=c3l p t p.sets.length
def d2c (o:Ic) (p:Fv) (t:Int):Rgs:=if wan p t<0 then c3e o else (gi p.sets (wan p t).toNat).reg
end Go.Proofs.YtnjkoebfgcbbdaaGreatDoor
namespace Go.Proofs.YtnjkoebfgcbbdaaGreatDoor
open Go Go.Am Go.Vm
attribute [local irreducible] Aa Ai Ag Ad AO Ap Bc BK Bh Ah Vm.Done Bv AB
structure Iq where
 lo:Nat
 hi:Nat
instance:Enc Iq:={ default:=⟨0,0⟩,enc:=fun x=>[.int .u64 (x.lo:Int),.int .u64 (x.hi:Int)],size:=2,len:=fun _=>rfl }
structure Iq.Ok (s:Iq):Prop where
 lo:s.lo<2 ^ 64
 hi:s.hi<2 ^ 64
def Iq.has (s:Iq) (n:Nat):Bool:=if n<64 then s.lo.testBit n else s.hi.testBit (n-64)
def Gf (s:Iq) (n:Nat):Iq:=if n<64 then ⟨s.lo ||| 2 ^ n,s.hi⟩ else ⟨s.lo,s.hi ||| 2 ^ (n-64)⟩
def dS (a b:Iq):Iq:=⟨a.lo ||| b.lo,a.hi ||| b.hi⟩
def d1x (a b:Iq):Bool:=decide (a.lo ^^^ (a.lo &&& b.lo)=0)&&decide (a.hi ^^^ (a.hi &&& b.hi)=0)
def dX (l:List Int):Nat→Iq
 |0=>⟨0,0⟩
 |k+1=>Gf (dX l k) (gi l k).toNat
def c5u (a:Nat):Nat→Iq
 |0=>⟨0,0⟩
 |k+1=>Gf (c5u a k) (a+k)
theorem a2e (s:Iq) {n m:Nat} (hn:n<128) (hm:m<128):(Gf s n).has m=(s.has m||decide (m=n)):=by
 unfold Gf Iq.has;by_cases h1:n<64<;>by_cases h2:m<64
 ·grind
 ·grind
 ·grind
 grind
theorem Zo {s:Iq} (h:s.Ok) {n:Nat} (hn:n<128):(Gf s n).Ok:=by
 unfold Gf;split
 ·exact ⟨eT h.lo (dz (by omega) (by omega)),h.hi⟩
 ·exact ⟨h.lo,eT h.hi (dz (by omega) (by omega))⟩
theorem b3j {a b:Iq} (ha:a.Ok) (hb:b.Ok):(dS a b).Ok:=⟨eT ha.lo hb.lo,eT ha.hi hb.hi⟩
theorem Zc (a b:Iq) (m:Nat):(dS a b).has m=(a.has m||b.has m):=by
 unfold dS Iq.has;split<;>simp [Nat.testBit_or]
theorem a3t (m:Nat):(⟨0,0⟩:Iq).has m=false:=by simp [Iq.has]
theorem Vs:(⟨0,0⟩:Iq).Ok:=⟨by simp,by simp⟩
theorem ah {l:List Int} (h:∀ i,i<l.length→0≤gi l i∧gi l i≤127):∀ k,k≤l.length→(dX l k).Ok
 |0,_=>Vs
 |k+1,hk=>Zo (ah h k (by omega)) (by grind)
theorem lq {l:List Int} (h:∀ i,i<l.length→0≤gi l i∧gi l i≤127) (m:Nat) (hm:m<128):∀ k,k≤l.length→(dX l k).has m=decide ((m:Int)∈l.take k)
 |0,_=>by simp [dX,a3t]
 |k+1,hk=>by
  have h1:=h k (by omega);simp only [dX];rw [a2e _ (by omega) hm,lq h m hm k (by omega),DZ (by omega)];grind
section
variable {E:Env} {L:Vm.Frame} {H:Vm.Heap} {nx:Nat} {Q:PV→Heap→Nat→Prop} {w:Bool} {dst:Option Tmp} {ty:TypeId} {pos:String} {af:Array Edge} {gd:Option (Nat×Bool)}
theorem c2u {t t2:TypeId} {x y:Operand} {k':IntKind} {n:Int} (m:Nat) (hx:AU E.Γ L x=some (.p (.int .u64 1))) (hy:AU E.Γ L y=some (.p (.int k' n))) (hn:n=m∧m<64) (q:Q (.p (.int .u64 ((2 ^ m:Nat):Int))) H nx) :
 Aa E w ⟨dst,.binOp .shl t x y t2,ty,pos,af,gd⟩ L H nx Q:=by
 obtain ⟨rfl,hn⟩:=hn;exact Aa.mM hx hy hn q
end
theorem oV (n:Int):Ap env 58 [.int .i64 n] (.p (.bool (decide (0≤n∧n≤127)))):=by
 refine Ap.enter (Af (by decide)) Tryz.func58 rfl (by kernel_rfl) (by simp) ?_
 repeat' (first|refine Eu ?_|(apply Ai.guard;rfl;rfl)|(intro _))
 all_goals (refine Done.rt rfl rfl ⟨?_,rfl,rfl⟩;grind)
theorem QE (a b:Iq) (ha:a.Ok) (hb:b.Ok):Ap env 109 [.agg (Enc.enc a),.agg (Enc.enc b)] (.p (.agg (Enc.enc (dS a b)))):=by
 have a1:=ha.lo;have a2:=ha.hi;have b1:=hb.lo;have b2:=hb.hi;refine Ap.enter (Af (by decide)) Tryz.func109 rfl (by kernel_rfl) (by simp) ?_
 repeat' (first|refine Ij ?_|(apply Aa.build;rfl;rfl;rfl;rfl;rfl))
 all_goals (refine Done.rt rfl rfl ⟨?_,rfl,rfl⟩;try rfl)
theorem uX (s:Iq) (hs:s.Ok) (n:Nat) (hn:n<128):Ap env 59 [.agg (Enc.enc s),.int .i64 (n:Int)] (.p (.agg (Enc.enc (Gf s n)))):=by
 have s1:=hs.lo;have s2:=hs.hi;unfold Gf;by_cases h:n<64
 ·have p1:2 ^ n<2 ^ 64:=dz (by omega) h
  rw [if_pos h];refine Ap.enter (Af (by decide)) Tryz.func59 rfl (by kernel_rfl) (by simp [Tryz.ntmps59]) ?_
  repeat' (first|refine Eu ?_|(apply c2u n;rfl;rfl;omega)|(apply Ad.Ac;rfl)|(intro _;try (exfalso;omega)))
  all_goals first|(exfalso;omega)|(refine Done.rt rfl rfl ⟨?_,rfl,rfl⟩;try rfl)
 ·have p1:2 ^ (n-64)<2 ^ 64:=dz (by omega) (by omega)
  rw [if_neg h];refine Ap.enter (Af (by decide)) Tryz.func59 rfl (by kernel_rfl) (by simp [Tryz.ntmps59]) ?_
  repeat' (first|refine Eu ?_|(apply c2u (n-64);rfl;rfl;omega)|(apply Ad.Ac;rfl)|(intro _;try (exfalso;omega)))
  all_goals first|(exfalso;omega)|(refine Done.rt rfl rfl ⟨?_,rfl,rfl⟩;try rfl)
theorem qc (l:List Int) (hl:l.length<1000000) (h:∀ i,i<l.length→0≤gi l i∧gi l i≤127):Ap env 24 [.lst 3 (cells l) l.length] (.Eb [.p (.agg (Enc.enc (dX l l.length))),.p (.int .i64 0)]):=by
 refine Ap.enter (Af (by decide)) Tryz.func24 rfl (by kernel_rfl) (by simp [Tryz.ntmps24]) ?_
 repeat' (first|refine go1 ?_|fail)
 apply Ad.F5 (l.length) [(2,_),(4,_),(7,_),(8,_)] [(0,_)] (fun k r=>(9,.p (.int .i64 (k:Int)))::r) (fun k r=>(1,.box 84 ((Enc.enc (dX l k)).map .p))::r) 2
 ·first|omega|decide
 ·first|omega|decide
 ·exact NI
 ·exact Px
 ·intro k hk
  have h0:=h k hk;have h1:=oV (gi l k);rw [decide_eq_true h0] at h1;have h2:=uX (dX l k) (ah h k (by omega)) (gi l k).toNat (by omega);rw [cx h0.1] at h2
  repeat' (first|(apply Aa.fn;rfl;rfl;exact h1;intro _;rfl)|(apply Aa.fn;rfl;rfl;exact h2;intro _;rfl)|(apply Aa.Aj;rfl;rfl;rfl;omega;rfl)|refine go1 ?_|(apply Aa.int;rfl;rfl;rfl)|(apply Ad.Ak;rfl)|(apply Ad.Ac;rfl)|(intro _;try (exfalso;omega)))
  all_goals try (exfalso;omega)
  refine Ah.normal ⟨by first|omega|decide,?_,?_⟩
  ·exact C9
  ·exact DR
 ·repeat' (first|refine Eu ?_|(apply Ad.Ac;rfl)|(intro _;try (exfalso;omega)))
  all_goals first|(exfalso;omega)|(refine Done.rt rfl rfl ⟨?_,rfl,rfl⟩;try rfl)
end Go.Proofs.YtnjkoebfgcbbdaaGreatDoor
namespace Go.Vm
open Go.Am
structure c4l where
instance:Enc c4l:={ default:=⟨⟩,enc:=fun _=>[.val (.slice none 0 0)],size:=1,len:=fun _=>rfl }
section
variable {E:Env} {L:Frame} {H:Heap} {nx:Nat}
variable {Q:PV→Heap→Nat→Prop} {dst:Option Tmp} {ty:TypeId} {pos:String} {af:Array Edge} {gd:Option (Nat×Bool)}
theorem Aa.b1m {α:Type} {_:Enc α} {l:List α} (a1 a2:α) {s x:Operand} {sT xT e e2:TypeId} {xd:TypeDesc} {i:TypeInfo} {b b2 n:Nat} {xs:List FV} {z z2:Bool} (hs:AU E.Γ L s=some (.vec b n 0 n)) (hb:hget H b=some (.vec e (cells l) n z))
 (hx:AU E.Γ L x=some (.vec b2 2 0 2)) (hb2:hget H b2=some (.vec e2 xs 2 z2)) (hxs:xs=Enc.enc a1++Enc.enc a2) (hn:l.length=n) (wu:E.P.underlying sT=some (.slice e)) (hxT:E.P.underlying xT=some xd) (hd:∀ k,xd≠.int k) (hi:E.P.info? e=some i)
 (hsz:Enc.size α=i.size) (hzs:Ee i=true) (h0:0<i.size) (hby:i.bytes<1000000) (hlen:l.length<900000) (q:Q (.vec b (l.length+2) 0 (l.length+2)) (hput H b (.vec e (cells (l++[a1,a2])) (l.length+2) z)) nx) :
 Aa E true ⟨dst,.call { callee:=.builtin .append,args:=#[s,x],argTypes:=#[sT,xT] },ty,pos,af,gd⟩ L H nx Q:=by
 subst hn;have hroom:(l.length+2)*(i.bytes+1)≤room:=am (cV (by omega:l.length+2≤1000000) (by omega:i.bytes+1≤1000000)) (by decide);refine Aa.append (i:=i) hs hb (sS.all hx hb2 (by rw [hxs,ar,Enc.len,Enc.len,← hsz];omega)) wu hxT hd hi hzs (by omega) hroom (by rw [CZ,hsz]) h0 ?_;have:cells (l++[a1,a2])=cells l++xs:=by rw [FU,hxs];simp [cells,encs]
 grind
end
end Go.Vm
namespace Go.Proofs.YtnjkoebfgcbbdaaGreatDoor
open Go Go.Am Go.Vm Go.Pie
attribute [local irreducible] Aa Ai Ag Ad AO Ap Bc BK Bh Ah Vm.Done Bv AB
attribute [local irreducible] Ce Ba DX DJ En AZ CB
instance:Enc (List Int):={ default:=[],enc:=fun l=>[.lst 3 (cells l) l.length],size:=1,len:=fun _=>rfl }
def kdK (p:Fv) (L:List Int) (d:Nat):Nat→List Int
 |0=>[]
 |k+1=>if (gi p.notes (gi L k).toNat).d=(d:Int) then kdK p L d k++[(gi p.notes (gi L k).toNat).k] else kdK p L d k
theorem Yz {p:Fv} {t:Int}:∀ {k:Nat} {x:Int},x∈LG p t k→0≤x∧x<k
 |0,x,h=>by cases h
 |k+1,x,h=>by
  unfold LG at h;split at h
  ·rcases bj.1 h with h|h
   ·have:=Yz h;omega
   grind
  ·have:=Yz h;omega
theorem gi_mem' {l:List Int} {i:Nat} (h:i<l.length):gi l i∈l:=by
 unfold gi;grind
theorem b8t {p:Fv} {t:Int} {i:Nat} (h:i<(snd p t).length):0≤gi (snd p t) i∧gi (snd p t) i<p.notes.length:=Yz (gi_mem' h)
theorem a4q.cmp {o:Ic} (h:a4q o) {i:Nat} (hi:i<o.Ae.length):0≤(gi o.Ae i).lo∧(gi o.Ae i).hi≤127:=by
 have h0:=h.err;unfold WU at h0;split at h0
 ·omega
 split at h0
 ·omega
 split at h0
 ·omega
 split at h0
 ·omega
 split at h0
 ·omega
 split at h0
 ·omega
 rename_i d3;have d3:Gt o.ranks o.Ae 0=0:=cS d3;have:=WL _ 0 rfl d3 i (ao _) hi;unfold DJ at this;split at this
 ·omega
 rename_i h1;unfold Yn at h1;omega
def tlK (p:Fv) (L:List Int) (k:Nat) (j:Nat):HB:=.vec 3 (cells (kdK p L j k)) (kdK p L j k).length true
def kdV (p:Fv) (L:List Int) (nd k:Nat):HB:=.Qv 28 ((List.range nd).map fun j=>.vec (4+j) (kdK p L j k).length 0 (kdK p L j k).length) nd
noncomputable def c7m (o:Ic) (p:Fv) (t:Int):List Iq:=Bz (fun d=>dX (kdK p (snd p t) d (snd p t).length) (kdK p (snd p t) d (snd p t).length).length) o.Ae.length
instance:Enc mD:={ default:=⟨0,0,[]⟩,enc:=fun x=>[.int .i64 x.s,.int .i64 x.e,.lst 3 (cells x.notes) x.notes.length],size:=3,len:=fun _=>rfl }
def Ud (p:Fv):Nat→List Int
 |0=>[Pq p,Qm p]
 |k+1=>Ud p k++[(gi p.notes k).s,(gi p.notes k).e]
theorem YA (p:Fv):∀ k,(Ud p k).length=2*k+2
 |0=>rfl
 |k+1=>by
  have:=YA p k;unfold Ud;grind
def Dx (p:Fv):List Int:=Lib.compact ((Ud p p.notes.length).mergeSort fun x y=>decide (x≤y))
theorem X0 (zs:List Int):(Lib.compact zs).length≤zs.length:=by
 unfold Lib.compact Lib.compactUpTo;grind
theorem zQ (p:Fv):0<(Dx p).length:=by
 have h0:Pq p∈Dx p:=by
  unfold Dx;rw [QI,fL];have:∀ k,Pq p∈Ud p k:=by
   intro k
   induction k with
   |zero=>simp [Ud]
   |succ k ih=>exact bO _ ih
  grind
 grind
theorem c0j:∀ (m:Mem) (F:Nat→Prop) (us:List Value),Df m F [] us→us=[]:=fun m F us h=>by cases h;rfl
def AY (p:Fv):List mD:=a5f (snd p) (Dx p)
theorem Xo {o:Ic} {p:Fv} (ho:Vh o) (hE:Yi o p=0) (h:xk o p):Ap env 16 [.agg (Enc.enc o),.agg (Enc.enc p)] (.Eb [.p (.lst 81 (cells (AY p)) (AY p).length),.p (.int .i64 0)]):=by
 have ha:=SG o p ho h.sm;rw [hE] at ha;have hen:=gV p (by have:=h.bars;omega) h.sm.bars;have n1:=h.notes;have hsn:=o8 p h.sm;refine Ap.enter (Af (by decide)) Tryz.func16 rfl (by kernel_rfl) (by simp [Tryz.ntmps16]) ?_
 repeat' (first|(apply Aa.fn;rfl;rfl;exact ha;intro _;rfl)|(apply Aa.fn;rfl;rfl;exact hen;intro _;rfl)|refine go1 ?_|(apply Aa.int;rfl;rfl;rfl)|(apply Aa.buildSlice;rfl;rfl;rfl;decide;rfl;rfl;rfl)|(apply Ad.Ak;rfl))
 all_goals try (exfalso;omega)
 all_goals try contradiction
 apply Ad.F5 (p.notes.length) [(3,_),(30,_),(31,_)] [(1,_)] (fun k r=>(32,.p (.int .i64 (k:Int)))::(9,.vec 2 (Ud p k).length 0 (Ud p k).length)::r) (fun k r=>(2,.vec 3 (cells (Ud p k)) (Ud p k).length false)::r) 3
 ·first|omega|decide
 ·first|omega|decide
 ·exact NI
 ·exact Px
 ·intro k hk
  have hl:=YA p k;have e1:Ud p (k+1)=Ud p k++[(gi p.notes k).s,(gi p.notes k).e]:=rfl;have e2:(Ud p (k+1)).length=(Ud p k).length+2:=by rw [e1];simp
  repeat' (first|(apply Aa.b1m (l:=Ud p k) (gi p.notes k).s (gi p.notes k).e;rfl;rfl;rfl;rfl;rfl;rfl;rfl;rfl;(intro _ h;cases h);rfl;rfl;rfl;decide;decide;omega)|(apply Aa.Aj;rfl;rfl;rfl;omega;rfl)|refine go1 ?_|(apply Aa.int;rfl;rfl;rfl)|(apply Aa.buildSlice;rfl;rfl;rfl;decide;rfl;rfl;rfl)|(apply Ad.Ac;rfl)|(intro _;try (exfalso;omega)))
  all_goals try (exfalso;omega)
  refine Ah.normal ⟨by first|omega|decide,?_,?_⟩
  ·try (first|rw [e2,e1]|rw [e2])
   exact C9
  ·first|rw [e2,e1]|rw [e2]
   exact DR
 ·have hl:=YA p p.notes.length
  obtain ⟨zs,hzs⟩:∃ zs,zs=Ud p p.notes.length:=⟨_,rfl⟩
  have hcl:=X0 ((Ud p p.notes.length).mergeSort fun x y=>decide (x≤y));have hml:((Ud p p.notes.length).mergeSort fun x y=>decide (x≤y)).length=(Ud p p.notes.length).length:=gM _;have htp:=zQ p;have htc:((Dx p).length:Int)-1=(((Dx p).length-1:Nat):Int):=by omega
  rw [show Lib.compact ((Ud p p.notes.length).mergeSort fun x y=>decide (x≤y))=Dx p from rfl] at hcl
  repeat' (first|(refine Ad.at 14 ?_;refine Ad.ghost (Aw.freeze 9 rfl rfl) ?_;first|apply Ad.BD|apply Ad.Cj)|((refine Aa.c2o (Fn:=je) (zs':=(Ud p p.notes.length).mergeSort fun x y=>decide (x≤y)) b1t rfl rfl rfl (rest:=[]) (rv:=[]) c0j rfl rfl (by omega) ?_ (by omega) ?_;(simp only [je];rw [if_pos (by omega)])))|((refine Aa.c1u (Fn:=jG) (zs:=(Ud p p.notes.length).mergeSort fun x y=>decide (x≤y)) (zs':=Dx p++List.replicate ((Ud p p.notes.length).length-(Dx p).length) 0) (k:=(Dx p).length) b3p rfl rfl rfl (rest:=[]) (rv:=[]) c0j rfl hml (by omega) ?_ (by simp;omega) (by omega) ?_;(simp only [jG];rw [if_pos (by omega),hml];rfl);rw [List.take_left]))|(apply Aa.sliceTo (b:=(Dx p).length-1);rfl;exact congrArg (fun b=>some (PV.p (.int .i64 b))) htc;rfl;rfl;rfl;rfl;omega)|refine go2 ?_|apply Ad.BD|(apply Aa.int;rfl;rfl;rfl)|(apply Ad.Ac;rfl)|(intro _;try (exfalso;omega)))
  all_goals try (exfalso;omega)
  refine Ad.ghost (Aw.adopt 12 81 rfl) ?_;obtain ⟨F,hF⟩:∃ F:Nat→mD,F=fun i=>⟨gi (Dx p) i,gi (Dx p) (i+1),snd p (gi (Dx p) i)⟩:=⟨_,rfl⟩
  have hR:AY p=Bz F ((Dx p).length-1):=by rw [hF];rfl
  rw [hR];apply Ad.F5 ((Dx p).length-1) [(3,_),(9,_),(52,_),(53,_)] [(1,_)] (fun k r=>(54,.p (.int .i64 (k:Int)))::(12,.vec 4 (Bz F k).length 0 (Bz F k).length)::r) (fun k r=>(4,.vec 81 (cells (Bz F k)) (Bz F k).length true)::r) 5
  ·first|omega|decide
  ·first|omega|decide
  ·exact NI
  ·exact Px
  ·intro k hk
   have hlF:=Cm F k;have hFk:F k=⟨gi (Dx p) k,gi (Dx p) (k+1),snd p (gi (Dx p) k)⟩:=by rw [hF]
   have e1:Bz F (k+1)=Bz F k++[⟨gi (Dx p) k,gi (Dx p) (k+1),snd p (gi (Dx p) k)⟩]:=by rw [← hFk];rfl
   have e2:(Bz F (k+1)).length=(Bz F k).length+1:=by rw [e1];simp
   have hg:gi ((Dx p).take ((Dx p).length-1)) k=gi (Dx p) k:=YH hk;have hk1:(k:Int)+1=((k+1:Nat):Int):=by omega
   have hs:=hsn (gi (Dx p) k)
   repeat' (first|(refine Ag.atIdx 10 ?_;refine Ag.ghost (Aw.freeze 68 rfl rfl) ?_)|(refine Ag.atIdx 9 ?_;apply Ag.c2j [.tmp 64];decide +kernel;decide +kernel;rfl)|apply Ad.BD|apply Ad.region|apply Ad.Fz|apply Ad.FN|apply Ad.E8|apply BK.normal|apply Bh.normal|apply Ai.nil|apply Ag.nil|apply Ai.one|(apply Ag.bar;decide +kernel)|apply Ag.quiet|(apply Aa.fv;rfl;rfl;exact hs)|(apply Aa.Aj (l:=(Dx p).take ((Dx p).length-1)) (i:=k);rfl;rfl;rfl;(rw [az];omega);(rw [az];omega))|(apply Aa.load (r:=.p (.int .i64 (gi (Dx p) k)));rfl;exact (congrArg (fun b=>some (PV.p (FV.int .i64 b))) hg))|(apply Aa.Aj (l:=Dx p) (i:=k+1);rfl;exact congrArg (fun b=>some (PV.p (.int .i64 b))) hk1;rfl;omega;rfl)|(apply Aa.CW (a:=(⟨gi (Dx p) k,gi (Dx p) (k+1),snd p (gi (Dx p) k)⟩:mD));rfl;rfl;rfl;rfl;rfl;rfl;rfl;rfl;(intro _ h;cases h);rfl;rfl;rfl;decide;decide;(first|omega|(simp only [List.length_take,List.length_drop,List.length_append,List.length_singleton,List.length_cons,List.length_nil]<;>omega)))|(apply Aa.assign;rfl)|(apply Aa.move;rfl)|(apply Aa.Nl;rfl;rfl;omega)|(apply Aa.int;rfl;rfl;rfl)|(apply Aa.load;rfl;rfl)|(apply Aa.build;rfl;rfl;rfl;rfl;rfl)|(apply Aa.buildSlice;rfl;rfl;rfl;decide;rfl;rfl;rfl)|(apply Ad.Ac;rfl)|(intro _;try (exfalso;omega)))
   all_goals try (exfalso;omega)
   refine Ah.normal ⟨by first|omega|decide,?_,?_⟩
   ·try (first|rw [e2,e1]|rw [e2])
    exact C9
   ·first|rw [e2,e1]|rw [e2]
    exact DR
  ·repeat' (first|(refine Ai.IL 4 ?_;refine Ai.ghost (Aw.freeze 73 rfl rfl) ?_)|apply Ad.BD|apply Ad.Fa|apply BK.normal|apply Bh.exit|apply Ah.exit|apply Ad.ret|apply Ai.nil|apply Ai.one|(apply Aa.assign;rfl)|(apply Aa.move;rfl)|(apply Aa.int;rfl;rfl;rfl)|(apply Ad.Ac;rfl)|(intro _;try (exfalso;omega)))
   all_goals first|(exfalso;omega)|(refine Done.rt rfl rfl ⟨?_,rfl,rfl⟩;try rfl)
end Go.Proofs.YtnjkoebfgcbbdaaGreatDoor
namespace Go.Pop
def QU:List Nat→Nat
 |[]=>0
 |r::l=>256*QU l+r
def msk (s:Nat):Nat→Nat
 |0=>0
 |n+1=>256*msk s n+s
theorem and_split {q r M s:Nat} (hr:r<256) (hs:s<256):(256*q+r) &&& (256*M+s)=256*(q &&& M)+(r &&& s):=by
 have h1:((256*q+r) &&& (256*M+s)) / 2 ^ 8=(256*q+r) / 2 ^ 8 &&& (256*M+s) / 2 ^ 8:=Nat.and_div_two_pow;have h2:((256*q+r) &&& (256*M+s)) % 2 ^ 8=((256*q+r) % 2 ^ 8) &&& ((256*M+s) % 2 ^ 8):=Nat.and_mod_two_pow;rw [show (256*q+r) / 256=q by omega,show (256*M+s) / 256=M by omega] at h1;rw [show (256*q+r) % 256=r by omega,show (256*M+s) % 256=s by omega] at h2;omega
def b1 (r:Nat):Nat:=(r / 2 &&& 85)+(r &&& 85)
def b2 (r:Nat):Nat:=(r / 4 &&& 51)+(r &&& 51)
def b3 (r:Nat):Nat:=(r / 16+r) &&& 15
theorem f1:∀ b,b<2→∀ r,r<256→(128*b+r / 2) &&& 85=r / 2 &&& 85:=by decide +kernel
theorem f2:∀ b,b<4→∀ r,r<256→(64*b+r / 4) &&& 51=r / 4 &&& 51:=by decide +kernel
theorem s1 {q r M:Nat} (hr:r<256):((256*q+r) / 2 &&& (256*M+85))+((256*q+r) &&& (256*M+85))=256*((q / 2 &&& M)+(q &&& M))+b1 r:=by
 rw [show (256*q+r) / 2=256*(q / 2)+(128*(q % 2)+r / 2) by omega,and_split (by omega) (by decide),and_split hr (by decide),f1 _ (by omega) _ hr];unfold b1;omega
theorem s2 {q r M:Nat} (hr:r<256):((256*q+r) / 4 &&& (256*M+51))+((256*q+r) &&& (256*M+51))=256*((q / 4 &&& M)+(q &&& M))+b2 r:=by
 rw [show (256*q+r) / 4=256*(q / 4)+(64*(q % 4)+r / 4) by omega,and_split (by omega) (by decide),and_split hr (by decide),f2 _ (by omega) _ hr];unfold b2;omega
theorem b5r (x:Nat):x &&& 15=x % 16:=by
 have:=fq x 4;omega
theorem s3 {q r M:Nat} (hr:r % 16≤4∧r / 16≤4) (hq:q % 16≤4):((256*q+r) / 16+(256*q+r)) &&& (256*M+15)=256*((q / 16+q) &&& M)+b3 r:=by
 rw [show (256*q+r) / 16+(256*q+r)=256*(q / 16+q)+(16*(q % 16)+r / 16+r) by omega,and_split (by omega) (by decide)];unfold b3;rw [b5r,b5r];omega
theorem m1:∀ l:List Nat,(∀ r∈l,r<256)→(QU l / 2 &&& msk 85 l.length)+(QU l &&& msk 85 l.length)=QU (l.map b1)
 |[],_=>rfl
 |r::l,h=>by
  show ((256*QU l+r) / 2 &&& (256*msk 85 l.length+85))+((256*QU l+r) &&& (256*msk 85 l.length+85))=256*QU (l.map b1)+b1 r;rw [s1 (h r (by simp)),m1 l fun x hx=>h x (by grind)]
theorem m2:∀ l:List Nat,(∀ r∈l,r<256)→(QU l / 4 &&& msk 51 l.length)+(QU l &&& msk 51 l.length)=QU (l.map b2)
 |[],_=>rfl
 |r::l,h=>by
  show ((256*QU l+r) / 4 &&& (256*msk 51 l.length+51))+((256*QU l+r) &&& (256*msk 51 l.length+51))=256*QU (l.map b2)+b2 r;rw [s2 (h r (by simp)),m2 l fun x hx=>h x (by grind)]
theorem b3e:∀ l:List Nat,(∀ r∈l,r % 16≤4∧r / 16≤4)→QU l % 16≤4
 |[],_=>by decide
 |r::l,h=>by
  have:=(h r (by simp)).1;show (256*QU l+r) % 16≤4;omega
theorem m3:∀ l:List Nat,(∀ r∈l,r % 16≤4∧r / 16≤4)→(QU l / 16+QU l) &&& msk 15 l.length=QU (l.map b3)
 |[],_=>rfl
 |r::l,h=>by
  have hl:=fun x hx=>h x (aq r hx)
  show ((256*QU l+r) / 16+(256*QU l+r)) &&& (256*msk 15 l.length+15)=256*QU (l.map b3)+b3 r;rw [s3 (h r (by simp)) (b3e l hl),m3 l hl]
def Yg (p:Nat):Nat:=p % 2+p / 2 % 2+p / 4 % 2+p / 8 % 2+p / 16 % 2+p / 32 % 2+p / 64 % 2+p / 128 % 2
theorem k1:∀ r,r<256→b1 r<256∧(b2 (b1 r) % 16≤4∧b2 (b1 r) / 16≤4)∧b3 (b2 (b1 r))=Yg r∧Yg r≤8:=by decide +kernel
def swA (x:Nat):Nat:=(x / 2 &&& 6148914691236517205)+(x &&& 6148914691236517205)
def swB (x:Nat):Nat:=(x / 4 &&& 3689348814741910323)+(x &&& 3689348814741910323)
def swC (x:Nat):Nat:=(x / 16+x) &&& 1085102592571150095
def swD (x:Nat):Nat:=x+x / 256
def swE (x:Nat):Nat:=x+x / 65536
def swF (x:Nat):Nat:=x+x / 4294967296
def sw (x:Nat):Nat:=swF (swE (swD (swC (swB (swA x))))) &&& 127
def bytesOf (x:Nat):List Nat:=[x % 256,x / 256 % 256,x / 65536 % 256,x / 16777216 % 256,x / 4294967296 % 256,x / 1099511627776 % 256,x / 281474976710656 % 256,x / 72057594037927936 % 256]
theorem a2z {x:Nat} (h:x<18446744073709551616):QU (bytesOf x)=x:=by
 simp only [bytesOf,QU];omega
theorem oD (x:Nat):∀ r∈bytesOf x,r<256:=by
 intro r hr;simp only [bytesOf,List.mem_cons,List.not_mem_nil,or_false] at hr;omega
theorem b8f (x:Nat):x &&& 127=x % 128:=by
 have:=fq x 7;omega
theorem QW {f:Nat→Nat} {P:Nat→Prop} {l:List Nat} (h:∀ r∈l,P (f r)):∀ r∈l.map f,P r :=by grind
theorem k85:msk 85 8=6148914691236517205 :=by decide
theorem k51:msk 51 8=3689348814741910323 :=by decide
theorem k15:msk 15 8=1085102592571150095 :=by decide
theorem VW (x:Nat):(bytesOf x).length=8:=rfl
theorem abc {x:Nat} (h:x<18446744073709551616):swC (swB (swA x))=QU ((bytesOf x).map Yg)∧swA x=QU ((bytesOf x).map b1)∧swB (swA x)=QU (((bytesOf x).map b1).map b2):=by
 have hb:=oD x;have e1:swA x=QU ((bytesOf x).map b1):=by
  have:=m1 (bytesOf x) hb;rw [a2z h,VW,k85] at this;assumption
 have e2:swB (swA x)=QU (((bytesOf x).map b1).map b2):=by
  rw [e1];have:=m2 ((bytesOf x).map b1) (QW fun r hr=>(k1 r (hb r hr)).1);rw [bk,VW,k51] at this;assumption
 refine ⟨?_,e1,e2⟩;rw [e2];have h3:=m3 (((bytesOf x).map b1).map b2) (QW (QW (P:=fun y=>b2 y % 16≤4∧b2 y / 16≤4) fun r hr=>(k1 r (hb r hr)).2.1));have e3:(((bytesOf x).map b1).map b2).map b3=(bytesOf x).map Yg:=by
  exact fw fun r hr=>(k1 r (hb r hr)).2.2.1
 rw [e3,bk,bk,VW,k15] at h3;assumption
theorem qw {x:Nat} (h:x<18446744073709551616):sw x=(Yg (x % 256)+Yg (x / 256 % 256)+Yg (x / 65536 % 256)+Yg (x / 16777216 % 256)+Yg (x / 4294967296 % 256)+Yg (x / 1099511627776 % 256)+Yg (x / 281474976710656 % 256)+Yg (x / 72057594037927936 % 256)) ∧
 swC (swB (swA x))<1157442765409226760∧swA x<18446744073709551616∧swB (swA x)≤4919131752989213764:=by
 obtain ⟨e,eA,eB⟩:=abc h;have hk:=fun r (hr:r<256)=>(k1 r hr).2.2.2
 have c0:=hk (x % 256) (by omega);have c1:=hk (x / 256 % 256) (by omega);have c2:=hk (x / 65536 % 256) (by omega);have c3:=hk (x / 16777216 % 256) (by omega);have c4:=hk (x / 4294967296 % 256) (by omega);have c5:=hk (x / 1099511627776 % 256) (by omega);have c6:=hk (x / 281474976710656 % 256) (by omega);have c7:=hk (x / 72057594037927936 % 256) (by omega);have hlt:∀ l:List Nat,l.length=8→(∀ r∈l,r<256)→QU l<18446744073709551616:=by
  intro l hl hr
  match l,hl with
  |[y0,y1,y2,y3,y4,y5,y6,y7],_ =>
   have h0:=hr y0 (by simp);have h1:=hr y1 (by simp);have h2:=hr y2 (by simp);have h3:=hr y3 (by simp);have h4:=hr y4 (by simp);have h5:=hr y5 (by simp);have h6:=hr y6 (by simp);have h7:=hr y7 (by simp);simp only [QU];omega
 have hlt2:∀ l:List Nat,l.length=8→(∀ r∈l,r≤68)→QU l≤4919131752989213764:=by
  intro l hl hr
  match l,hl with
  |[y0,y1,y2,y3,y4,y5,y6,y7],_ =>
   have h0:=hr y0 (by simp);have h1:=hr y1 (by simp);have h2:=hr y2 (by simp);have h3:=hr y3 (by simp);have h4:=hr y4 (by simp);have h5:=hr y5 (by simp);have h6:=hr y6 (by simp);have h7:=hr y7 (by simp);simp only [QU];omega
 have hb:=oD x;refine ⟨?_,?_,by rw [eA];exact hlt _ rfl (QW fun r hr=>(k1 r (hb r hr)).1),by rw [eB];exact hlt2 _ rfl (QW (QW (P:=fun y=>b2 y≤68) fun r hr=>by have:=(k1 r (hb r hr)).2.1;omega))⟩
 ·unfold sw
  rw [e,b8f];simp only [bytesOf,List.map_cons,List.map_nil,QU,swD,swE,swF];generalize Yg (x % 256)=y0 at *;generalize Yg (x / 256 % 256)=y1 at *;generalize Yg (x / 65536 % 256)=y2 at *;generalize Yg (x / 16777216 % 256)=y3 at *;generalize Yg (x / 4294967296 % 256)=y4 at *;generalize Yg (x / 1099511627776 % 256)=y5 at *;generalize Yg (x / 281474976710656 % 256)=y6 at *;generalize Yg (x / 72057594037927936 % 256)=y7 at *;clear e eA eB hk hb hlt hlt2 h;have d1:(256*(256*(256*(256*(256*(256*(256*(256*0+y7)+y6)+y5)+y4)+y3)+y2)+y1)+y0) / 256=256*(256*(256*(256*(256*(256*y7+y6)+y5)+y4)+y3)+y2)+y1:=by omega
  rw [d1];clear d1;have d2:(256*(256*(256*(256*(256*(256*(256*(256*0+y7)+y6)+y5)+y4)+y3)+y2)+y1)+y0+(256*(256*(256*(256*(256*(256*y7+y6)+y5)+y4)+y3)+y2)+y1)) / 65536=256*(256*(256*(256*(256*y7+(y6+y7))+(y5+y6))+(y4+y5))+(y3+y4))+(y2+y3):=by omega
  rw [d2];clear d2;have d3:(256*(256*(256*(256*(256*(256*(256*(256*0+y7)+y6)+y5)+y4)+y3)+y2)+y1)+y0+(256*(256*(256*(256*(256*(256*y7+y6)+y5)+y4)+y3)+y2)+y1)+(256*(256*(256*(256*(256*y7+(y6+y7))+(y5+y6))+(y4+y5))+(y3+y4))+(y2+y3))) / 4294967296=256*(256*(256*y7+(y6+y7))+(y5+y6+y7))+(y4+y5+y6+y7):=by omega
  rw [d3];clear d3;omega
 ·rw [e]
  simp only [bytesOf,List.map_cons,List.map_nil,QU];omega
def cnt (n p:Nat):Nat:=((List.range n).filter p.testBit).length
theorem JK (n p:Nat):cnt (n+1) p=p % 2+cnt n (p / 2):=by
 unfold cnt;rw [gx,dx];have e:((List.map Nat.succ (List.range n)).filter p.testBit).length=((List.range n).filter (p / 2).testBit).length:=by
  rw [List.filter_map,bk];congr 1
  refine fS fun i _=>?_
  grind
 grind
theorem XW (n p:Nat):cnt (n+8) p=Yg p+cnt n (p / 256):=by
 rw [show n+8=n+7+1 from rfl,JK,show n+7=n+6+1 from rfl,JK,show n+6=n+5+1 from rfl,JK,show n+5=n+4+1 from rfl,JK,show n+4=n+3+1 from rfl,JK,show n+3=n+2+1 from rfl,JK,show n+2=n+1+1 from rfl,JK,JK];unfold Yg;simp only [Nat.div_div_eq_div_mul,Nat.reduceMul];omega
theorem b1w (p:Nat):Yg (p % 256)=Yg p:=by unfold Yg;omega
theorem b7y {x:Nat} (h:x<18446744073709551616):sw x=cnt 64 x:=by
 rw [(qw h).1];simp only [b1w];rw [show (64:Nat)=56+8 from rfl,XW,show (56:Nat)=48+8 from rfl,XW,show (48:Nat)=40+8 from rfl,XW,show (40:Nat)=32+8 from rfl,XW,show (32:Nat)=24+8 from rfl,XW,show (24:Nat)=16+8 from rfl,XW,show (16:Nat)=8+8 from rfl,XW,show (8:Nat)=0+8 from rfl,XW];simp only [Nat.div_div_eq_div_mul,Nat.reduceMul];show _=_+(_+(_+(_+(_+(_+(_+(_+0)))))));omega
end Go.Pop
namespace Go.Proofs.YtnjkoebfgcbbdaaGreatDoor
theorem b3r {x:Nat} (h:x<18446744073709551616):Go.Pop.sw x=(Gn x).length:=Go.Pop.b7y h
end Go.Proofs.YtnjkoebfgcbbdaaGreatDoor
namespace Go.Vm
open Go.Am
section
variable {E:Env} {L:Frame} {H:Heap} {nx:Nat} {Q:PV→Heap→Nat→Prop} {w:Bool}
variable {dst:Option Tmp} {ty:TypeId} {pos:String} {af:Array Edge} {gd:Option (Nat×Bool)}
variable {bn:Nat} {ops:Array Oper} {op:Op} {l:List Oper} {i:Nat} {R:Frame→Heap→Nat→Prop}
def c6h (E:Env) (bn d:Nat) (ops:Array Oper) (i:Nat) (l:List Oper) (L:Frame) (H:Heap) (nx:Nat) (Q:Frame→Heap→Nat→Prop):Prop :=
 ∀ (B:Base),B.nx=bn→∀ m F σ t,Ctx E.Γ m F σ H nx→RL m F (htag H) σ nx L t→BZ t d=.slice emptyAt 0 0→B.to m F σ H nx →
  IZ E.P E.O E.G ops i l ⟨t,m⟩ fun s'=>∃ L' H' nx' F' σ',Q L' H' nx'∧Ctx E.Γ s'.m F' σ' H' nx'∧RL s'.m F' (htag H') σ' nx' L' s'.t∧B.to s'.m F' σ' H' nx'
end
variable {E:Env} {L:Frame} {H:Heap} {nx:Nat}
section
variable {Q:PV→Heap→Nat→Prop} {w:Bool} {dst:Option Tmp} {ty:TypeId} {pos:String} {af:Array Edge} {gd:Option (Nat×Bool)}
end
end Go.Vm
