/-
  Texts of a proof, merged (PieB, PieC, PieD, PieE, PieF, OrO, PieG, OrKa, Vm43, PieH, PieI, Pop, Vm39, Vm44). Conditions: in each statement.
-/
import Derived.Test.YtnjkoebfgcbbdaaGreatDoorKCk
set_option linter.unusedSimpArgs false
set_option linter.unusedVariables false
set_option linter.unusedSectionVars false
set_option maxRecDepth 100000
set_option maxHeartbeats 8000000
abbrev cz:=@Nat.pow_lt_pow_right
abbrev cQ:=@Bool.true_and
abbrev cW:=@Nat.or_lt_two_pow
abbrev er:=@Bool.false_and
abbrev fj:=@Nat.and_two_pow_sub_one_eq_mod
abbrev fw:=@List.mem_mergeSort
abbrev gE:=@List.length_mergeSort
namespace Go.Proofs.YtnjkoebfgcbbdaaGreatDoor
open Go Go.Am Go.Vm Go.Pie
attribute [local irreducible] Aa Ah Af Ad Az Ai Ba Bq Bd Aj Vm.Done Bg AB
attribute [local irreducible] BR A8 DJ Dx DX AV
theorem a1m (l:List Int) (hl:l.length<1000000):Ai env 79 [.lst 3 (cells l) l.length] (.p (.int .i64 (RZ l))):=by
 obtain ⟨E,hE⟩:∃ E,E=XV l 0:=⟨_,rfl⟩
 unfold RZ;rw [← hE];refine Ai.enter (Ae (by decide)) Tryz.func79 rfl (by kernel_rfl) (by simp [Tryz.ntmps79]) ?_;by_cases c1:l.length<2
 ·rw [if_pos c1]
  repeat' (first|refine go2 ?_|(apply Ad.Aq;rfl)|(intro _;try (exfalso;omega)))
  all_goals first|(exfalso;omega)|(refine Done.rt rfl rfl ⟨?_,rfl,rfl⟩;try rfl)
 rw [if_neg c1];by_cases c2:l.length>201
 ·rw [if_pos c2]
  repeat' (first|refine go2 ?_|(apply Ad.Aq;rfl)|(intro _;try (exfalso;omega)))
  all_goals first|(exfalso;omega)|(refine Done.rt rfl rfl ⟨?_,rfl,rfl⟩;try rfl)
 rw [if_neg c2]
 repeat' (first|refine go2 ?_|(apply Ad.Aq;rfl)|(intro _;try (exfalso;omega)))
 all_goals try (exfalso;omega)
 apply Ad.Jq (l.length) (fun k=>XV l k=E) [(0,_),(2,_),(13,_),(14,_)] [] (fun k r=>(15,.p (.int .i64 (k:Int)))::r) (fun k r=>r) 0
 ·first|omega|decide
 ·first|omega|decide
 ·exact SS
 ·exact Ws
 ·first|(intro _ _;omega)|omega|trivial
 ·intro k hk hi
  have e:=lZ hk;have hk1:((k:Int)-1).toNat=k-1:=by omega
  have hkc:0<k→(k:Int)-1=((k-1:Nat):Int):=fun h=>by omega
  by_cases h1:gi l k<0∨gi l k>100000
  ·rw [if_pos h1] at e
   rw [← hi,e]
   repeat' (first|(apply Aa.Ap;rfl;rfl;rfl;omega;rfl)|refine go2 ?_|apply Ad.J9|(apply Ah.guard;rfl;rfl)|(apply Ad.Ac;rfl)|(apply Ad.cond_true;rfl)|(apply Ad.Aq;rfl)|(intro _;try (exfalso;omega)))
   all_goals first|(exfalso;omega)|(refine Done.rt rfl rfl ⟨?_,rfl,rfl⟩;try rfl)
  rw [if_neg h1] at e;by_cases h2:0<k∧gi l k≤gi l (k-1)
  ·rw [if_pos h2] at e
   rw [← hi,e]
   repeat' (first|(apply Aa.Ap (l:=l) (i:=k-1);rfl;exact congrArg (fun b=>some (PV.p (.int .i64 b))) (hkc h2.1);rfl;omega;rfl)|(apply Aa.Ap;rfl;rfl;rfl;omega;rfl)|refine Cb ?_|apply Ad.J9|(apply Ah.guard;rfl;rfl)|(apply Aa.int;rfl;rfl;rfl)|(apply Ad.Ac;rfl)|(apply Ad.Aq;rfl)|(intro _;try (exfalso;omega)))
   all_goals first|(exfalso;omega)|(refine Done.rt rfl rfl ⟨?_,rfl,rfl⟩;try rfl)
  rw [if_neg h2] at e;by_cases h0:k=0
  ·repeat' (first|(apply Aa.Ap;rfl;rfl;rfl;omega;rfl)|refine go2 ?_|apply Ad.J9|(apply Ah.guard;rfl;rfl)|(apply Ad.Ac;rfl)|(apply Ad.cond_false;rfl)|(apply Ad.Aq;rfl)|(intro _;try (exfalso;omega)))
   all_goals try (exfalso;omega)
   refine Aj.normal ⟨(e.symm.trans hi),by first|omega|decide,?_,?_⟩
   ·exact Dy
   ·exact Ey
  ·repeat' (first|(apply Aa.Ap (l:=l) (i:=k-1);rfl;exact congrArg (fun b=>some (PV.p (.int .i64 b))) (hkc (by omega));rfl;omega;rfl)|(apply Aa.Ap;rfl;rfl;rfl;omega;rfl)|refine Cb ?_|apply Ad.J9|(apply Ah.guard;rfl;rfl)|(apply Aa.int;rfl;rfl;rfl)|(apply Ad.Ac;rfl)|(apply Ad.Aq;rfl)|(intro _;try (exfalso;omega)))
   all_goals try (exfalso;omega)
   refine Aj.normal ⟨(e.symm.trans hi),by first|omega|decide,?_,?_⟩
   ·exact Dy
   ·exact Ey
 ·intro hi
  rw [a4a] at hi;rw [← hi]
  repeat' (first|refine go2 ?_|(apply Ad.Ac;rfl)|(intro _;try (exfalso;omega)))
  all_goals first|(exfalso;omega)|(refine Done.rt rfl rfl ⟨?_,rfl,rfl⟩;try rfl)
theorem iF (p:Ef) (h0:0<p.bars.length) (hl:p.bars.length<1000000):Ai env 47 [.agg (Enc.enc p)] (.Eb [.p (.int .i64 (OX p)),.p (.int .i64 (PD p))]):=by
 have hkc:(p.bars.length:Int)-1=((p.bars.length-1:Nat):Int):=by omega
 refine Ai.enter (Ae (by decide)) Tryz.func47 rfl (by kernel_rfl) (by simp) ?_
 repeat' (first|(apply Aa.Ap (l:=p.bars) (i:=p.bars.length-1);rfl;exact congrArg (fun b=>some (PV.p (.int .i64 b))) hkc;rfl;omega;rfl)|(apply Aa.Ap (l:=p.bars) (i:=0);rfl;rfl;rfl;omega;rfl)|refine Cb ?_|fail)
 all_goals first|(omega)|(refine Done.rt rfl rfl ⟨?_,rfl,rfl⟩;try rfl)
abbrev a2n (n:GI):HB:=.box 39 ((Enc.enc n).map .p)
theorem b7k (f:FuncId) (n:GI) (l:List GI) (z:Bool) (P:Nat→Bool) (hl:l.length<1000000) (hM:∀ k,EZ env f ([.p (.agg (Enc.enc (gi l k)))]++[.ref 0 0]) [(0,a2n n)] 1 (.bool (P k))) :
 EZ env 116 [.vec 1 l.length 0 l.length,.clo f [] [.ref 0 0]] [(0,a2n n),(1,.vec 39 (cells l) l.length z)] 2 (.int .i64 (I5 P l.length)):=by
 refine EZ.enter (Ae (by decide)) Tryz.func116 rfl (by kernel_rfl) (by simp [Tryz.ntmps116]) ?_
 repeat' (first|(apply Aa.lenV;rfl;rfl;rfl)|refine Cb ?_|fail)
 all_goals try (exfalso;omega)
 apply Ad.Jq (l.length) (fun k=>YG P l.length (l.length-k)=I5 P l.length) [(0,_),(1,_),(7,_)] [(0,_),(1,_)] (fun k r=>(8,.p (.int .i64 (k:Int)))::r) (fun k r=>r) 2
 ·first|omega|decide
 ·first|omega|decide
 ·exact SS
 ·exact Ws
 ·first|(intro _ _;omega)|omega|trivial
 ·intro k hk hi
  have hC:=hM k;by_cases hp:P k=true
  ·rw [hp] at hC
   have e1:I5 P l.length=(k:Int):=by rw [← hi,zF hk hp]
   rw [e1]
   repeat' (first|(apply Aa.read [0] hC;rfl;rfl;exact .of_eq rfl;exact C9.AA rfl;exact Dn rfl;(repeat (first|exact trivial|refine ⟨⟨_,rfl,.of_eq rfl⟩,?_⟩));decide;(intro _ hb;simp at hb<;>omega);rfl)|(apply Aa.Di;rfl;rfl;rfl;rfl;omega)|refine Cb ?_|(apply Aa.int;rfl;rfl;rfl)|(apply Ad.Ac;rfl)|(apply Ad.cond_true;rfl)|(intro _;try (exfalso;omega)))
   all_goals first|(exfalso;omega)|contradiction|(refine Done.ret rfl (.refl _) trivial ?_ (by omega) (ab _) ⟨?_,rfl,rfl⟩;exact Ey;try rfl)
  ·have hp':P k=false:=by simpa using hp
   rw [hp'] at hC
   repeat' (first|(apply Aa.read [0] hC;rfl;rfl;exact .of_eq rfl;exact C9.AA rfl;exact Dn rfl;(repeat (first|exact trivial|refine ⟨⟨_,rfl,.of_eq rfl⟩,?_⟩));decide;(intro _ hb;simp at hb<;>omega);rfl)|(apply Aa.Di;rfl;rfl;rfl;rfl;omega)|refine Cb ?_|(apply Aa.int;rfl;rfl;rfl)|(apply Ad.Ac;rfl)|(apply Ad.cond_false;rfl)|(intro _;try (exfalso;omega)))
   all_goals try (exfalso;omega)
   all_goals try contradiction
   refine Aj.normal ⟨((qc hk hp').symm.trans hi),by first|omega|decide,?_,?_⟩
   ·exact Dy
   ·exact Ey
 ·intro hi
  have e1:I5 P l.length=-1:=by rw [← hi,ef];rfl
  rw [e1]
  repeat' (first|refine go2 ?_|(apply Ad.Ac;rfl)|(intro _;try (exfalso;omega)))
  all_goals first|(exfalso;omega)|(refine Done.ret rfl (.refl _) trivial ?_ (by omega) (ab _) ⟨?_,rfl,rfl⟩;exact Ey;try rfl)
theorem uQ {α:Type} [Inhabited α] (f:α→Bool) (l:List α):decide (0≤I5 (fun k=>f (gi l k)) l.length)=l.any f:=by
 rw [eW,decide_eq_true_iff,List.any_eq_true];constructor
 ·intro h
  have h1:=oW (P:=fun k=>f (gi l k)) l.length (ab _) h;have h2:=(zG (fun k=>f (gi l k)) l.length l.length (ab _)).2;refine ⟨_,?_,h1⟩;have h3:YG (fun k=>f (gi l k)) l.length l.length=I5 (fun k=>f (gi l k)) l.length:=rfl;generalize YG (fun k=>f (gi l k)) l.length l.length=u at *;unfold gi;grind
 ·rintro ⟨x,hx,hf⟩
  obtain ⟨k,hk,rfl⟩:=cK.1 hx;refine nV (P:=fun k=>f (gi l k)) (k:=k) ?_ l.length (ab _) (by omega) hk;unfold gi;grind
theorem zl (f:FuncId) (n:GI) (l:List GI) (z:Bool) (g:GI→Bool) (hl:l.length<1000000) (hM:∀ m,EZ env f ([.p (.agg (Enc.enc m))]++[.ref 0 0]) [(0,a2n n)] 1 (.bool (g m))) :
 EZ env 71 [.vec 1 l.length 0 l.length,.clo f [] [.ref 0 0]] [(0,a2n n),(1,.vec 39 (cells l) l.length z)] 2 (.bool (l.any g)):=by
 have hi:=b7k f n l z (fun k=>g (gi l k)) hl (fun k=>hM _);rw [← uQ g l];generalize I5 (fun k=>g (gi l k)) l.length=F at *;refine EZ.enter (Ae (by decide)) Tryz.func71 rfl (by kernel_rfl) (by simp) ?_
 repeat' (first|(apply Aa.read [0,1] hi;rfl;rfl;exact .of_eq rfl;exact C9.AA rfl;exact Dn rfl;(repeat (first|exact trivial|refine ⟨⟨_,rfl,.of_eq rfl⟩,?_⟩));decide;(intro _ hb;simp at hb<;>omega);rfl)|refine Cb ?_|(apply Aa.int;rfl;rfl;rfl))
 all_goals first|(exfalso;omega)|(refine Done.ret rfl (.refl _) trivial ?_ (by omega) (ab _) ⟨?_,rfl,rfl⟩;exact Ey;try rfl)
def clash (n m:GI):Bool:=decide (n.s<m.e)&&decide (m.s<n.e)
theorem wO (n m:GI):EZ env 122 ([.p (.agg (Enc.enc m))]++[.ref 0 0]) [(0,a2n n)] 1 (.bool (clash n m)):=by
 unfold clash;refine EZ.enter (Ae (by decide)) Tryz.func122 rfl (by kernel_rfl) (by simp [Tryz.ntmps122]) ?_;by_cases h1:n.s<m.e
 ·rw [decide_eq_true h1,cQ]
  repeat' (first|refine go2 ?_|(apply Ah.guard;rfl;rfl)|(intro _;try (exfalso;omega)))
  all_goals first|(exfalso;omega)|contradiction|(refine Done.ret rfl (.refl _) trivial ?_ (by omega) (ab _) ⟨?_,rfl,rfl⟩;exact Ey;try rfl)
 ·rw [decide_eq_false h1,er]
  repeat' (first|refine go2 ?_|(apply Ah.guard;rfl;rfl)|(intro _;try (exfalso;omega)))
  all_goals first|(exfalso;omega)|contradiction|(refine Done.ret rfl (.refl _) trivial ?_ (by omega) (ab _) ⟨?_,rfl,rfl⟩;exact Ey;try rfl)
end Go.Proofs.YtnjkoebfgcbbdaaGreatDoor
namespace Go.Proofs.YtnjkoebfgcbbdaaGreatDoor
open Go Go.Am Go.Vm Go.Pie
abbrev wU:=List ((Int×Int)×List GI)
def Nh (n:GI):Int×Int:=(n.d,n.k)
def a1f (gs:wU) (n:GI):wU:=Cm gs (Nh n) ((BZ gs (Nh n)).getD []++[n])
def P8 (l:List GI):Nat→wU
 |0=>[]
 |k+1=>a1f (P8 l k) (gi l k)
def kX (gs:wU) (i:Nat):List GI:=((gs[i]?).map (·.2)).getD []
def Tn (s:Nat):wU→List ((Int×Int)×PV)
 |[]=>[]
 |x::gs=>(x.1,.vec s x.2.length 0 x.2.length)::Tn (s+1) gs
def tlG (gs:wU) (j:Nat):HB:=.vec 39 (cells (kX gs j)) (kX gs j).length true
theorem Wv:∀ {s:Nat} {gs:wU} {a:Int×Int},BZ (Tn s gs) a=(BZ gs a).map fun l=>.vec (s+FP gs a) l.length 0 l.length
 |s,[],a=>rfl
 |s,x::gs,a=>by
  unfold Tn BZ FP;by_cases h:a=x.1
  ·grind
  ·rw [Wv]
   grind
theorem rG:∀ {s:Nat} {gs:wU} {a:Int×Int} {l:List GI},Cm (Tn s gs) a (.vec (s+FP gs a) l.length 0 l.length)=Tn s (Cm gs a l)
 |s,[],a,l=>rfl
 |s,x::gs,a,l=>by
  unfold Tn Cm FP;by_cases h:a=x.1
  ·grind
  ·simp only [if_neg h,Tn]
   rw [show s+(FP gs a+1)=s+1+FP gs a by omega,rG]
theorem QC:∀ {gs:wU} {a:Int×Int},kX gs (FP gs a)=(BZ gs a).getD []
 |[],a=>rfl
 |x::gs,a=>by
  unfold FP BZ;by_cases h:a=x.1
  ·simp only [if_pos h];rfl
  ·simp only [if_neg h]
   exact QC (gs:=gs)
theorem tq:∀ {gs:wU} {a:Int×Int} {l:List GI} {j:Nat},kX (Cm gs a l) j=if j=FP gs a then l else kX gs j
 |[],a,l,j=>by
  match j with
  |0=>rfl
  |j+1=>rfl
 |x::gs,a,l,j=>by
  unfold Cm FP;by_cases h:a=x.1
  ·simp only [if_pos h]
   match j with
   |0=>rfl
   |j+1=>rfl
  ·simp only [if_neg h]
   match j with
   |0=>rfl
   |j+1 =>
    have:=tq (gs:=gs) (a:=a) (l:=l) (j:=j);simp only [Nat.add_right_cancel_iff];exact this
theorem XD {α β:Type} [DecidableEq α]:∀ {es:List (α×β)} {a:α} {b:β},(Cm es a b).length≤es.length+1
 |[],a,b=>by simp [Cm]
 |x::es,a,b=>by
  unfold Cm;split
  ·simp
  ·have:=XD (es:=es) (a:=a) (b:=b)
   grind
theorem Vx (l:List GI):∀ k,(P8 l k).length≤k
 |0=>ab _
 |k+1=>by
  have:=Vx l k;have:=XD (es:=P8 l k) (a:=Nh (gi l k)) (b:=(BZ (P8 l k) (Nh (gi l k))).getD []++[gi l k]);show (Cm _ _ _).length≤_;omega
theorem dR {α β:Type} [DecidableEq α]:∀ {es:List (α×β)} {a c:α} {b:β},BZ (Cm es a b) c=if c=a then some b else BZ es c
 |[],a,c,b=>rfl
 |x::es,a,c,b=>by
  unfold Cm;by_cases h:a=x.1
  ·unfold BZ
   grind
  ·rw [if_neg h]
   unfold BZ;by_cases h2:c=x.1
   ·grind
   ·rw [if_neg h2,if_neg h2,dR]
theorem Wy (l:List GI) (c:Int×Int):∀ k,k≤l.length→(BZ (P8 l k) c).getD []=(l.take k).filter fun m=>decide (Nh m=c)
 |0,_=>rfl
 |k+1,hk=>by
  have ih:=Wy l c k (by omega);have et:l.take (k+1)=l.take k++[gi l k]:=by
   rw [List.take_add_one];unfold gi;grind
  show (BZ (Cm _ _ _) c).getD []=_;rw [dR];grind
theorem a0h (l:List GI) (n:GI) (k:Nat) (hk:k≤l.length):((BZ (P8 l k) (Nh n)).getD []).any (clash n)=(l.take k).any fun m=>kL m n:=by
 rw [Wy l (Nh n) k hk,List.any_filter];congr 1
 funext m
 unfold clash kL Nh;by_cases h1:m.d=n.d<;>by_cases h2:m.k=n.k<;>by_cases h3:n.s<m.e<;>by_cases h4:m.s<n.e<;>simp [h1,h2,h3,h4]
def kfC (a:Int×Int):List FV:=[.int .i64 a.1,.int .i64 a.2]
def kvC (a:Int×Int):List Value:=[.int .i64 a.1,.int .i64 a.2]
theorem lU:IsKey Tryz.prog 120 kfC kvC:=by
 obtain ⟨fs,hu⟩:∃ fs,Tryz.prog.underlying 120=some (.struct fs):=⟨_,rfl⟩
 refine IsKey.of_struct hu (by kernel_rfl) (fun a=>rfl) (fun a b=>?_) (fun a=>?_)
 ·have hu2:some (TypeDesc.struct fs)=Tryz.prog.underlying 120:=hu.symm
  cases hu2;show some (decide (a.1=b.1)&&(decide (a.2=b.2)&&true))=_;obtain ⟨a1,a2⟩:=a;obtain ⟨b1,b2⟩:=b;by_cases h1:a1=b1<;>by_cases h2:a2=b2<;>simp [h1,h2]
 ·have hu2:some (TypeDesc.struct fs)=Tryz.prog.underlying 120:=hu.symm
  cases hu2;rfl
theorem dX {k:Nat}:∀ {s:Nat} {gs:wU},s+gs.length≤k→C9.under k ((Tn s gs).map (·.2))
 |s,[],_=>trivial
 |s,x::gs,h=>by
  simp only [List.length_cons] at h;exact ⟨by show s<k;omega,dX (s:=s+1) (gs:=gs) (by omega)⟩
theorem vg {E:Env} {H:Heap} {nx s:Nat} {gs:wU} {a:Int×Int} {g:List GI} {i:Nat} (hi:i=FP gs a) (hgl:g=kX gs i) (hg:hget H (s+i)=some (.vec 39 (cells g) g.length true)):Lr E H nx (Tn s gs) a DC (.vec (s+i) g.length 0 g.length):=by
 subst hi;subst hgl;have e:=QC (gs:=gs) (a:=a);cases hl:BZ gs a with
 |some l =>
  rw [e];exact .inl (by rw [Wv,hl];rfl)
 |none =>
  rw [hl] at e;rw [e] at hg ⊢;exact Lr.b7m (by rw [Wv,hl];rfl) hg
theorem b2d {s:Nat} {gs:wU} {n:GI} {g:List GI} {i:Nat} (hi:i=FP gs (Nh n)) (hgl:g=kX gs i):Cm (Tn s gs) (Nh n) (.vec (s+i) (g.length+1) 0 (g.length+1))=Tn s (a1f gs n):=by
 subst hi;subst hgl;unfold a1f;rw [← rG,QC];simp
theorem b6j {gs:wU} {n:GI} {g:List GI} {i:Nat} (hi:i=FP gs (Nh n)) (hgl:g=kX gs i) (j:Nat):(if j=i then .vec 39 (cells (g++[n])) (g.length+1) true else tlG gs j)=tlG (a1f gs n) j:=by
 subst hi;subst hgl;unfold tlG a1f;rw [tq];by_cases h:j=FP gs (Nh n)
 ·rw [if_pos h,if_pos h,QC]
  simp
 grind
attribute [local irreducible] Aa Ah Af Ad Az Ai Ba Bq Bd Aj Vm.Done Bg AB BR A8 DJ Dx DX AV Cc
def b2h (o:Ho) (p:Ef) (G:wU):Heap:=(2,WJ kfC (Tn 3 G))::(1,.box 32 ((Enc.enc p).map .p))::(0,.box 27 ((Enc.enc o).map .p))::Cc 3 1000 (tlG G)
theorem wF (o:Ho) (p:Ef) (hs:NJ p) (h2:2≤p.bars.length) (ho:o.Ag.length<1000000):Ai env 80 [.agg (Enc.enc o),.agg (Enc.enc p)] (.p (.int .i64 (if p.notes.length>1000 then 4 else HY o (OX p) (PD p) p.notes 0))):=by
 have b1:=hs.notes;have hen:=iF p (by omega) hs.bars;refine Ai.enter (Ae (by decide)) Tryz.func80 rfl (by kernel_rfl) (by simp [Tryz.ntmps80]) ?_;by_cases c1:p.notes.length>1000
 ·rw [if_pos c1]
  repeat' (first|refine go2 ?_|(apply Ad.Ac;rfl)|(intro _;try (exfalso;omega)))
  all_goals first|(exfalso;omega)|(refine Done.rt rfl rfl ⟨?_,rfl,rfl⟩;try rfl)
 rw [if_neg c1];obtain ⟨E,hE⟩:∃ E,E=HY o (OX p) (PD p) p.notes 0:=⟨_,rfl⟩
 rw [← hE]
 repeat' (first|(apply Aa.fn;rfl;rfl;exact hen;intro _;rfl)|(apply Aa.Zx)|refine Cb ?_|(apply Aa.int;rfl;rfl;rfl)|(apply Ad.Ac;rfl)|(intro _;try (exfalso;omega)))
 all_goals try (exfalso;omega)
 refine Ad.ghost (Ar.b5e 39 1000 (Zl (by decide) (Zl (by decide) (Zl (by decide) b2n)))) ?_;apply Ad.Jq (p.notes.length) (fun k=>HY o (OX p) (PD p) p.notes k=E) [(2,_),(3,_),(5,_),(6,_),(7,_),(23,_),(24,_)] [] (fun k r=>(25,.p (.int .i64 (k:Int)))::r) (fun k _=>b2h o p (P8 p.notes k)) 1003
 ·first|omega|decide
 ·first|omega|decide
 ·exact SS
 ·refine ⟨⟨AY rfl,trivial,_,rfl,.refl _⟩,⟨AY rfl,C9.Bj _ _,_,rfl,.refl _⟩,⟨AY rfl,C9.Bj _ _,_,rfl,.refl _⟩,BG.tail (fun j hj=>?_) (by omega) (fun j hj=>trivial)⟩
  refine EN (by omega) (EN (by omega) (EN (by omega) ?_));exact Rw hj
 ·exact hE.symm
 ·intro k hk hi
  have e:=WI (o:=o) (a:=OX p) (z:=PD p) hk;have hca:=a0h p.notes (gi p.notes k) k (by omega);have hgl:=Vx p.notes k;have c3u:=Vx p.notes (k+1);have hLk:=Wy p.notes (Nh (gi p.notes k)) k (by omega);have hGs:a1f (P8 p.notes k) (gi p.notes k)=P8 p.notes (k+1):=rfl;unfold Ub at e;generalize P8 p.notes k=G at *;obtain ⟨i,hii⟩:∃ i,i=FP G (Nh (gi p.notes k)):=⟨_,rfl⟩
  obtain ⟨g,hg⟩:∃ g,g=kX G i:=⟨_,rfl⟩
  have hi1:i<1000:=by have:=(gq (es:=G) (a:=Nh (gi p.notes k))).1;omega
  have hgt:hget (b2h o p G) (3+i)=some (.vec 39 (cells g) g.length true):=EN (by omega) (EN (by omega) (EN (by omega) (by rw [Rw hi1,hg];rfl)));have hpt:∀ y,hput (b2h o p G) (3+i) y=(2,WJ kfC (Tn 3 G))::(1,.box 32 ((Enc.enc p).map .p))::(0,.box 27 ((Enc.enc o).map .p))::Cc 3 1000 (fun j=>if j=i then y else tlG G j):=fun y=>Rx (by omega) (Rx (by omega) (Rx (by omega) (fV hi1)))
  have hgg:g=(BZ G (Nh (gi p.notes k))).getD []:=by rw [hg,hii,QC]
  have hgn:g.length≤k:=by
   rw [hgg,hLk];exact an (dd _ _) (by rw [aw];omega)
  rw [← hgg] at hca;have hcl:=zl 122 (gi p.notes k) g true (clash (gi p.notes k)) (by omega) (wO (gi p.notes k));rw [hca] at hcl;by_cases h1:(gi p.notes k).d<0∨(gi p.notes k).d≥o.Ag.length
  ·rw [if_pos h1,if_pos (by decide)] at e
   rw [← hi,e]
   repeat' (first|(apply Aa.Ap;rfl;rfl;rfl;omega;rfl)|refine go2 ?_|(apply Ah.guard;rfl;rfl)|(apply Ad.AX;rfl)|(apply Ad.Ac;rfl)|(intro _;try (exfalso;omega)))
   all_goals first|(exfalso;omega)|(refine Done.rt rfl rfl ⟨?_,rfl,rfl⟩;try rfl)
  rw [if_neg h1] at e;by_cases h2:(gi p.notes k).k<(gi o.Ag (gi p.notes k).d.toNat).lo∨(gi p.notes k).k>(gi o.Ag (gi p.notes k).d.toNat).hi
  ·rw [if_pos h2,if_pos (by decide)] at e
   rw [← hi,e]
   repeat' (first|(apply Aa.Ap;rfl;rfl;rfl;omega;rfl)|(apply Aa.OH;rfl;rfl;rfl;omega;omega;rfl)|refine go2 ?_|(apply Ah.guard;rfl;rfl)|(apply Aa.build;rfl;rfl;rfl;rfl;rfl)|(apply Ad.Ac;rfl)|(apply Ad.cond_true;rfl)|(apply Ad.Aq;rfl)|(intro _;try (exfalso;omega)))
   all_goals first|(exfalso;omega)|(refine Done.rt rfl rfl ⟨?_,rfl,rfl⟩;try rfl)
  rw [if_neg h2] at e;by_cases h3:(gi p.notes k).s<OX p∨(gi p.notes k).e>PD p
  ·rw [if_pos h3,if_pos (by decide)] at e
   rw [← hi,e]
   repeat' (first|(apply Aa.Ap;rfl;rfl;rfl;omega;rfl)|(apply Aa.OH;rfl;rfl;rfl;omega;omega;rfl)|refine go2 ?_|(apply Ah.guard;rfl;rfl)|(apply Aa.build;rfl;rfl;rfl;rfl;rfl)|(apply Ad.Ac;rfl)|(apply Ad.cond_true;rfl)|(apply Ad.Aq;rfl)|(intro _;try (exfalso;omega)))
   all_goals first|(exfalso;omega)|(refine Done.rt rfl rfl ⟨?_,rfl,rfl⟩;try rfl)
  rw [if_neg h3] at e;by_cases h4:(gi p.notes k).s≥(gi p.notes k).e
  ·rw [if_pos h4,if_pos (by decide)] at e
   rw [← hi,e]
   repeat' (first|(apply Aa.Ap;rfl;rfl;rfl;omega;rfl)|(apply Aa.OH;rfl;rfl;rfl;omega;omega;rfl)|refine go2 ?_|(apply Ah.guard;rfl;rfl)|(apply Aa.build;rfl;rfl;rfl;rfl;rfl)|(apply Ad.Ac;rfl)|(apply Ad.Aq;rfl)|(intro _;try (exfalso;omega)))
   all_goals first|(exfalso;omega)|(refine Done.rt rfl rfl ⟨?_,rfl,rfl⟩;try rfl)
  rw [if_neg h4] at e;by_cases h5:(p.notes.take k).any (fun m=>kL m (gi p.notes k))=true
  ·rw [if_pos h5,if_pos (by decide)] at e
   rw [h5] at hcl;rw [← hi,e]
   repeat' (first|(apply Aa.yQ (a:=Nh (gi p.notes k)) (z:=DC) lU;rfl;rfl;rfl;rfl;rfl;rfl;exact vg hii hg (by (repeat (first|exact hgt|(refine GR (by omega) ?_)|(refine EN (by omega) ?_)))))|(apply Aa.b3q [1003,3+i] hcl;rfl;rfl;exact .of_eq rfl;exact C9.AA rfl;exact Dn rfl;exact ⟨rfl,(show hget _ (3+i)=some (HB.vec 39 (cells g) g.length true) from by (repeat (first|exact hgt|(refine GR (by omega) ?_)|(refine EN (by omega) ?_)))),trivial⟩;rfl;(simp;omega);(intro _ hb;simp at hb;omega))|(apply Aa.makeFunc;rfl;rfl)|(apply Aa.Ap;rfl;rfl;rfl;omega;rfl)|(apply Aa.OH;rfl;rfl;rfl;omega;omega;rfl)|refine Cb ?_|(apply Ah.guard;rfl;rfl)|(apply Aa.int;rfl;rfl;rfl)|(apply Aa.build;rfl;rfl;rfl;rfl;rfl)|(apply Ad.Ac;rfl)|(apply Ad.cond_true;rfl)|(apply Ad.Aq;rfl)|(intro _;try (exfalso;omega)))
   all_goals first|(exfalso;omega)|(refine Done.rt rfl rfl ⟨?_,rfl,rfl⟩;try rfl)
  have h5:(p.notes.take k).any (fun m=>kL m (gi p.notes k))=false:=by simpa using h5
  rw [h5,if_neg (by decide)] at e;rw [h5] at hcl
  repeat' (first|(apply Aa.yQ (a:=Nh (gi p.notes k)) (z:=DC) lU;rfl;rfl;rfl;rfl;rfl;rfl;exact vg hii hg (by (repeat (first|exact hgt|(refine GR (by omega) ?_)|(refine EN (by omega) ?_)))))|(apply Aa.b3q [1003,3+i] hcl;rfl;rfl;exact .of_eq rfl;exact C9.AA rfl;exact Dn rfl;exact ⟨rfl,(show hget _ (3+i)=some (HB.vec 39 (cells g) g.length true) from by (repeat (first|exact hgt|(refine GR (by omega) ?_)|(refine EN (by omega) ?_)))),trivial⟩;rfl;(simp;omega);(intro _ hb;simp at hb;omega))|(apply Aa.makeFunc;rfl;rfl)|(apply Aa.b7a (a:=Nh (gi p.notes k)) (es:=Tn 3 G) (z:=DC) lU;rfl;rfl;rfl;rfl;rfl;rfl;exact vg hii hg (by (repeat (first|exact hgt|(refine GR (by omega) ?_)|(refine EN (by omega) ?_))));rfl)|(apply Aa.a6i (l:=g) (a:=gi p.notes k);rfl;((repeat (first|exact hgt|(refine GR (by omega) ?_)|(refine EN (by omega) ?_))));rfl;rfl;rfl;rfl;rfl;rfl;(intro _ h;cases h);rfl;rfl;rfl;decide;decide;omega;((repeat (first|exact hpt _|(apply qH;omega)|(apply Rx;omega)))))|(apply Aa.a2w (a:=Nh (gi p.notes k)) (es:=Tn 3 G) lU;rfl;rfl;rfl;rfl;rfl)|(apply Aa.Ap;rfl;rfl;rfl;omega;rfl)|(apply Aa.OH;rfl;rfl;rfl;omega;omega;rfl)|refine Cb ?_|(apply Ah.guard;rfl;rfl)|(apply Aa.int;rfl;rfl;rfl)|(apply Aa.build;rfl;rfl;rfl;rfl;rfl)|(apply Aa.buildSlice;rfl;rfl;rfl;decide;rfl;rfl;rfl)|(apply Ad.Ac;rfl)|(apply Ad.cond_false;rfl)|(apply Ad.Aq;rfl)|(intro _;try (exfalso;omega)))
  all_goals try (exfalso;omega)
  refine Aj.normal ⟨e.symm.trans hi,by first|omega|decide,?_,?_⟩
  ·exact Dy
  ·show BG 1003 (b2h o p (P8 p.notes (k+1))) _
   rw [← hGs] at c3u ⊢;refine ⟨⟨AY rfl,dX (by omega),_,rfl,.of_eq (congrArg (WJ kfC) (b2d hii hg))⟩,⟨AY rfl,C9.Bj _ _,_,rfl,.refl _⟩,⟨AY rfl,C9.Bj _ _,_,rfl,.refl _⟩,BG.tail (fun j hj=>?_) (by omega) (fun j hj=>trivial)⟩;repeat (first|(refine GR (by omega) ?_)|(refine EN (by omega) ?_))
   rw [Rw hj];exact congrArg some (b6j hii hg j)
 ·intro hi
  rw [vG] at hi;rw [← hi]
  repeat' (first|refine go2 ?_|(apply Ad.Ac;rfl)|(intro _;try (exfalso;omega)))
  all_goals first|(exfalso;omega)|(refine Done.rt rfl rfl ⟨?_,rfl,rfl⟩;try rfl)
end Go.Proofs.YtnjkoebfgcbbdaaGreatDoor
namespace Go.Proofs.YtnjkoebfgcbbdaaGreatDoor
open Go Go.Am Go.Vm Go.Pie
attribute [local irreducible] Aa Ah Af Ad Az Ai Ba Bq Bd Aj Vm.Done Bg AB
attribute [local irreducible] BR A8 DJ Dx DX AV
theorem a2v (o:Ho) (ho:tC o) (r:Rgs) (hr:r.Ok):Ai env 81 [.agg (Enc.enc o),.agg (Enc.enc r)] (.p (.int .i64 (VZ o r))):=by
 have r2:=ho.Ag;have r3:=ho.Io;have c1:=hr.cp;have c2:=hr.off;have c3:=hr.len;have hc:=WW o ho.sm;rw [ho.err] at hc;refine Ai.enter (Ae (by decide)) Tryz.func81 rfl (by kernel_rfl) (by simp [Tryz.ntmps81]) ?_;by_cases h1:r.stops.length=o.Ag.length
 case neg =>
  rw [a6x h1]
  repeat' (first|(apply Aa.fn;rfl;rfl;exact hc;intro _;rfl)|refine Cb ?_|(apply Aa.int;rfl;rfl;rfl)|(apply Ad.Ak;rfl)|(apply Ad.Ac;rfl)|(intro _;try (exfalso;omega)))
  all_goals first|(exfalso;omega)|contradiction|(refine Done.rt rfl rfl ⟨?_,rfl,rfl⟩;try rfl)
 by_cases h2:∀ i,i<r.stops.length→gi r.stops i / 2 ^ (gi o.Ag i).stops.length=0
 case neg =>
  obtain ⟨i,hi⟩:=df.1 h2;obtain ⟨hi,h3⟩:=Classical.not_imp.1 hi;rw [a5c h1 hi h3];clear h2
  repeat' (first|(apply Aa.fn;rfl;rfl;exact hc;intro _;rfl)|refine Cb ?_|(apply Aa.int;rfl;rfl;rfl)|(apply Ad.Ak;rfl)|(apply Ad.Ac;rfl)|(intro _;try (exfalso;omega)))
  all_goals try (exfalso;omega)
  all_goals try contradiction
  apply Ad.Jq (o.Ag.length) (fun k=>∀ i,i<k→gi r.stops i / 2 ^ (gi o.Ag i).stops.length=0) [(2,_),(3,_),(21,_),(22,_)] [(0,_),(1,_)] (fun k r=>(23,.p (.int .i64 (k:Int)))::r) (fun k r=>r) 2
  ·first|omega|decide
  ·first|omega|decide
  ·exact SS
  ·exact Ws
  ·first|(intro _ _;omega)|omega|trivial
  ·intro k hk hok
   have s3:=ho.stops k (by omega);have rk:=hr.stops k (by omega);by_cases hb:gi r.stops k / 2 ^ (gi o.Ag k).stops.length=0
   ·repeat' (first|(apply Aa.Ap;rfl;rfl;rfl;omega;rfl)|refine go2 ?_|(apply Aa.lD;rfl;rfl;(simp only [IntKind.bits];omega))|(apply Ad.Ac;rfl)|(apply Ad.Aq;rfl)|(intro _;try (exfalso;omega)))
    all_goals try (exfalso;omega)
    all_goals try contradiction
    refine Aj.normal ⟨(all_succ hok hb),by first|omega|decide,?_,?_⟩
    ·exact Dy
    ·exact Ey
   ·repeat' (first|(apply Aa.Ap;rfl;rfl;rfl;omega;rfl)|refine go2 ?_|(apply Aa.lD;rfl;rfl;(simp only [IntKind.bits];omega))|(apply Ad.Ac;rfl)|(apply Ad.Aq;rfl)|(intro _;try (exfalso;omega)))
    all_goals first|(exfalso;omega)|contradiction|(refine Done.rt rfl rfl ⟨?_,rfl,rfl⟩;try rfl)
  ·intro hok
   exact absurd (hok i (by omega)) h3
 rw [fH h1 h2]
 repeat' (first|(apply Aa.fn;rfl;rfl;exact hc;intro _;rfl)|refine Cb ?_|(apply Aa.int;rfl;rfl;rfl)|(apply Ad.Ak;rfl)|(apply Ad.Ac;rfl)|(intro _;try (exfalso;omega)))
 all_goals try (exfalso;omega)
 all_goals try contradiction
 apply Ad.Jq (o.Ag.length) (fun k=>∀ i,i<k→gi r.stops i / 2 ^ (gi o.Ag i).stops.length=0) [(2,_),(3,_),(21,_),(22,_)] [(0,_),(1,_)] (fun k r=>(23,.p (.int .i64 (k:Int)))::r) (fun k r=>r) 2
 ·first|omega|decide
 ·first|omega|decide
 ·exact SS
 ·exact Ws
 ·first|(intro _ _;omega)|omega|trivial
 ·intro k hk hok
  have s3:=ho.stops k (by omega);have rk:=hr.stops k (by omega);have hb:=h2 k (by omega)
  repeat' (first|(apply Aa.Ap;rfl;rfl;rfl;omega;rfl)|refine go2 ?_|(apply Aa.lD;rfl;rfl;(simp only [IntKind.bits];omega))|(apply Ad.Ac;rfl)|(apply Ad.Aq;rfl)|(intro _;try (exfalso;omega)))
  all_goals try (exfalso;omega)
  all_goals try contradiction
  refine Aj.normal ⟨(fun j hj=>h2 j (by omega)),by first|omega|decide,?_,?_⟩
  ·exact Dy
  ·exact Ey
 ·intro hok
  by_cases h4:r.cp / 2 ^ o.Io.length=0
  ·by_cases h5:r.off / 2 ^ o.Ag.length=0
   ·rw [if_neg (by omega)]
    repeat' (first|refine go2 ?_|(apply Ah.guard;rfl;rfl)|(apply Aa.lD;rfl;rfl;(simp only [IntKind.bits];omega))|(apply Ad.Ac;rfl)|(intro _;try (exfalso;omega)))
    all_goals first|(exfalso;omega)|contradiction|(refine Done.rt rfl rfl ⟨?_,rfl,rfl⟩;try rfl)
   ·rw [if_pos (.inr h5)]
    repeat' (first|refine go2 ?_|(apply Ah.guard;rfl;rfl)|(apply Aa.lD;rfl;rfl;(simp only [IntKind.bits];omega))|(apply Ad.Ac;rfl)|(intro _;try (exfalso;omega)))
    all_goals first|(exfalso;omega)|contradiction|(refine Done.rt rfl rfl ⟨?_,rfl,rfl⟩;try rfl)
  ·rw [if_pos (.inl h4)]
   repeat' (first|refine go2 ?_|(apply Ah.guard;rfl;rfl)|(apply Aa.lD;rfl;rfl;(simp only [IntKind.bits];omega))|(apply Ad.AX;rfl)|(apply Ad.Ac;rfl)|(intro _;try (exfalso;omega)))
   all_goals first|(exfalso;omega)|contradiction|(refine Done.rt rfl rfl ⟨?_,rfl,rfl⟩;try rfl)
theorem a2c {l:List Int} (h:RZ l=0):2≤l.length:=by
 unfold RZ at h;omega
theorem MR (o:Ho) (p:Ef) (ho:LQ o) (hp:NJ p):Ai env 31 [.agg (Enc.enc o),.agg (Enc.enc p)] (.p (.int .i64 (VB o p))):=by
 have hc:=WW o ho;have hb:=a1m p.bars hp.bars;have b3:=hp.sets;unfold VB gI;refine Ai.enter (Ae (by decide)) Tryz.func31 rfl (by kernel_rfl) (by simp [Tryz.ntmps31]) ?_;by_cases e1:V6 o=0
 case neg =>
  rw [if_pos e1]
  repeat' (first|(apply Aa.fn;rfl;rfl;exact hc;intro _;rfl)|refine Cb ?_|(apply Aa.int;rfl;rfl;rfl)|(apply Ad.Ac;rfl)|(intro _;try (exfalso;omega)))
  all_goals first|(exfalso;omega)|contradiction|(refine Done.rt rfl rfl ⟨?_,rfl,rfl⟩;try rfl)
 rw [if_neg (fun h=>h e1)];rw [e1] at hc;have k1:=b6h ho e1;have d1:=k1.Ag;by_cases e2:RZ p.bars=0
 case neg =>
  rw [if_pos e2]
  repeat' (first|(apply Aa.fn;rfl;rfl;exact hc;intro _;rfl)|(apply Aa.fn;rfl;rfl;exact hb;intro _;rfl)|refine Cb ?_|(apply Aa.int;rfl;rfl;rfl)|(apply Ad.Ak;rfl)|(apply Ad.Ac;rfl)|(intro _;try (exfalso;omega)))
  all_goals first|(exfalso;omega)|contradiction|(refine Done.rt rfl rfl ⟨?_,rfl,rfl⟩;try rfl)
 rw [if_neg (fun h=>h e2)];rw [e2] at hb;have h2:=a2c e2;have hn:=wF o p hp h2 (by omega);by_cases e3:p.notes.length>1000
 ·rw [if_pos e3] at hn
  rw [if_pos e3]
  repeat' (first|(apply Aa.fn;rfl;rfl;exact hc;intro _;rfl)|(apply Aa.fn;rfl;rfl;exact hb;intro _;rfl)|(apply Aa.fn;rfl;rfl;exact hn;intro _;rfl)|refine Cb ?_|(apply Aa.int;rfl;rfl;rfl)|(apply Ad.AX;rfl)|(apply Ad.Ak;rfl))
  all_goals first|(exfalso;omega)|contradiction|(refine Done.rt rfl rfl ⟨?_,rfl,rfl⟩;try rfl)
 rw [if_neg e3] at hn;rw [if_neg e3];by_cases e4:HY o (OX p) (PD p) p.notes 0=0
 case neg =>
  rw [if_pos e4]
  repeat' (first|(apply Aa.fn;rfl;rfl;exact hc;intro _;rfl)|(apply Aa.fn;rfl;rfl;exact hb;intro _;rfl)|(apply Aa.fn;rfl;rfl;exact hn;intro _;rfl)|refine Cb ?_|(apply Aa.int;rfl;rfl;rfl)|(apply Ad.Ak;rfl)|(apply Ad.Ac;rfl)|(intro _;try (exfalso;omega)))
  all_goals first|(exfalso;omega)|contradiction|(refine Done.rt rfl rfl ⟨?_,rfl,rfl⟩;try rfl)
 rw [if_neg (fun h=>h e4)];rw [e4] at hn;by_cases e5:p.sets.length>100
 ·rw [if_pos e5]
  repeat' (first|(apply Aa.fn;rfl;rfl;exact hc;intro _;rfl)|(apply Aa.fn;rfl;rfl;exact hb;intro _;rfl)|(apply Aa.fn;rfl;rfl;exact hn;intro _;rfl)|refine Cb ?_|(apply Aa.int;rfl;rfl;rfl)|(apply Ad.Ak;rfl)|(apply Ad.Ac;rfl)|(intro _;try (exfalso;omega)))
  all_goals first|(exfalso;omega)|contradiction|(refine Done.rt rfl rfl ⟨?_,rfl,rfl⟩;try rfl)
 rw [if_neg e5];have b1:=hp.bars;obtain ⟨E,hE⟩:∃ E,E=Pg o p.bars.length p.sets 0:=⟨_,rfl⟩
 rw [← hE]
 repeat' (first|(apply Aa.fn;rfl;rfl;exact hc;intro _;rfl)|(apply Aa.fn;rfl;rfl;exact hb;intro _;rfl)|(apply Aa.fn;rfl;rfl;exact hn;intro _;rfl)|refine Cb ?_|(apply Aa.int;rfl;rfl;rfl)|(apply Ad.Ak;rfl)|(apply Ad.Ac;rfl)|(intro _;try (exfalso;omega)))
 all_goals try (exfalso;omega)
 all_goals try contradiction
 apply Ad.Jq (p.sets.length) (fun k=>Pg o p.bars.length p.sets k=E) [(2,_),(3,_),(33,_),(34,_)] [(0,_),(1,_)] (fun k r=>(35,.p (.int .i64 (k:Int)))::r) (fun k r=>r) 2
 ·first|omega|decide
 ·first|omega|decide
 ·exact SS
 ·exact Ws
 ·first|(intro _ _;omega)|omega|trivial
 ·intro k hk hi
  have e:=YN (o:=o) (nb:=p.bars.length) hk;have hr:=a2v o k1 (gi p.sets k).reg (hp.reg k hk);have hkc:0<k→(k:Int)-1=((k-1:Nat):Int):=fun h=>by omega
  unfold NT at e;by_cases h1:(gi p.sets k).bar<0∨(gi p.sets k).bar≥(p.bars.length:Int)-1
  ·rw [if_pos h1,if_pos (by decide)] at e
   rw [← hi,e]
   repeat' (first|(apply Aa.Ap;rfl;rfl;rfl;omega;rfl)|refine go2 ?_|(apply Ah.guard;rfl;rfl)|(apply Ad.Ac;rfl)|(apply Ad.cond_true;rfl)|(apply Ad.Aq;rfl)|(intro _;try (exfalso;omega)))
   all_goals first|(exfalso;omega)|(refine Done.rt rfl rfl ⟨?_,rfl,rfl⟩;try rfl)
  rw [if_neg h1] at e;by_cases h3:0<k∧(gi p.sets k).bar=(gi p.sets (k-1)).bar
  ·rw [if_pos h3,if_pos (by decide)] at e
   rw [← hi,e]
   repeat' (first|(apply Aa.Ap (l:=p.sets) (i:=k-1);rfl;exact congrArg (fun b=>some (PV.p (.int .i64 b))) (hkc h3.1);rfl;omega;rfl)|(apply Aa.Ap;rfl;rfl;rfl;omega;rfl)|refine Cb ?_|(apply Ah.guard;rfl;rfl)|(apply Af.guard;rfl;rfl)|(apply Aa.int;rfl;rfl;rfl)|(apply Ad.Ac;rfl)|(apply Ad.Aq;rfl)|(intro _;try (exfalso;omega)))
   all_goals first|(exfalso;omega)|(refine Done.rt rfl rfl ⟨?_,rfl,rfl⟩;try rfl)
  rw [if_neg h3] at e;by_cases h4:0<k∧(gi p.sets k).bar<(gi p.sets (k-1)).bar
  ·rw [if_pos h4,if_pos (by decide)] at e
   rw [← hi,e]
   repeat' (first|(apply Aa.Ap (l:=p.sets) (i:=k-1);rfl;exact congrArg (fun b=>some (PV.p (.int .i64 b))) (hkc h4.1);rfl;omega;rfl)|(apply Aa.Ap;rfl;rfl;rfl;omega;rfl)|refine Cb ?_|(apply Ah.guard;rfl;rfl)|(apply Af.guard;rfl;rfl)|(apply Aa.int;rfl;rfl;rfl)|(apply Ad.Ac;rfl)|(apply Ad.Aq;rfl)|(intro _;try (exfalso;omega)))
   all_goals first|(exfalso;omega)|(refine Done.rt rfl rfl ⟨?_,rfl,rfl⟩;try rfl)
  rw [if_neg h4] at e;by_cases h5:VZ o (gi p.sets k).reg=0
  case neg =>
   rw [if_pos h5] at e;rw [← hi,e];by_cases h0:k=0
   ·repeat' (first|(apply Aa.fn;rfl;rfl;exact hr;intro _;rfl)|(apply Aa.Ap;rfl;rfl;rfl;omega;rfl)|refine Cb ?_|(apply Ah.guard;rfl;rfl)|(apply Af.guard;rfl;rfl)|(apply Aa.int;rfl;rfl;rfl)|(apply Ad.Ac;rfl)|(apply Ad.cond_false;rfl)|(apply Ad.Aq;rfl)|(intro _;try (exfalso;omega)))
    all_goals first|(exfalso;omega)|contradiction|(refine Done.rt rfl rfl ⟨?_,rfl,rfl⟩;try rfl)
   ·repeat' (first|(apply Aa.fn;rfl;rfl;exact hr;intro _;rfl)|(apply Aa.Ap (l:=p.sets) (i:=k-1);rfl;exact congrArg (fun b=>some (PV.p (.int .i64 b))) (hkc (by omega));rfl;omega;rfl)|(apply Aa.Ap;rfl;rfl;rfl;omega;rfl)|refine Cb ?_|(apply Ah.guard;rfl;rfl)|(apply Af.guard;rfl;rfl)|(apply Aa.int;rfl;rfl;rfl)|(apply Ad.Ac;rfl)|(apply Ad.Aq;rfl)|(intro _;try (exfalso;omega)))
    all_goals first|(exfalso;omega)|contradiction|(refine Done.rt rfl rfl ⟨?_,rfl,rfl⟩;try rfl)
  rw [if_neg (fun h=>h h5)] at e;rw [h5] at hr;by_cases h0:k=0
  ·repeat' (first|(apply Aa.fn;rfl;rfl;exact hr;intro _;rfl)|(apply Aa.Ap;rfl;rfl;rfl;omega;rfl)|refine Cb ?_|(apply Ah.guard;rfl;rfl)|(apply Af.guard;rfl;rfl)|(apply Aa.int;rfl;rfl;rfl)|(apply Ad.Ac;rfl)|(apply Ad.cond_false;rfl)|(apply Ad.Aq;rfl)|(intro _;try (exfalso;omega)))
   all_goals try (exfalso;omega)
   all_goals try contradiction
   refine Aj.normal ⟨(e.symm.trans hi),by first|omega|decide,?_,?_⟩
   ·exact Dy
   ·exact Ey
  ·repeat' (first|(apply Aa.fn;rfl;rfl;exact hr;intro _;rfl)|(apply Aa.Ap (l:=p.sets) (i:=k-1);rfl;exact congrArg (fun b=>some (PV.p (.int .i64 b))) (hkc (by omega));rfl;omega;rfl)|(apply Aa.Ap;rfl;rfl;rfl;omega;rfl)|refine Cb ?_|(apply Ah.guard;rfl;rfl)|(apply Af.guard;rfl;rfl)|(apply Aa.int;rfl;rfl;rfl)|(apply Ad.Ac;rfl)|(apply Ad.cond_false;rfl)|(apply Ad.Aq;rfl)|(intro _;try (exfalso;omega)))
   all_goals try (exfalso;omega)
   all_goals try contradiction
   refine Aj.normal ⟨(e.symm.trans hi),by first|omega|decide,?_,?_⟩
   ·exact Dy
   ·exact Ey
 ·intro hi
  rw [a0b] at hi;rw [← hi]
  repeat' (first|refine go2 ?_|(apply Ad.Ac;rfl)|(intro _;try (exfalso;omega)))
  all_goals first|(exfalso;omega)|(refine Done.rt rfl rfl ⟨?_,rfl,rfl⟩;try rfl)
noncomputable def atE (o:Ho) (p:Ef) (t:Int):Int:=if VB o p≠0 then VB o p else if t<OX p∨t≥PD p then 3 else 0
end Go.Proofs.YtnjkoebfgcbbdaaGreatDoor
namespace Go.Proofs.YtnjkoebfgcbbdaaGreatDoor
open Go Go.Am Go.Vm
attribute [local irreducible] Aa Ah Af Ad Az Ai Ba Bq Bd Aj Vm.Done Bg AB
def b8q (o:Ho):Rgs:=⟨List.replicate o.Ag.length 0,0,0⟩
def b9x (o:Ho) (k:Nat):Nat:=2 ^ (gi o.Ag k).stops.length-1
def c7d (o:Ho):Rgs:=⟨b7n (b9x o) (List.replicate o.Ag.length 0) o.Ag.length,2 ^ o.Io.length-1,0⟩
def c6x (r:Rgs) (d s:Nat):Rgs:=⟨r.stops.set d (gi r.stops d ||| 2 ^ s),r.cp,r.off⟩
def b7f (a b:Rgs) (k:Nat):Nat:=gi a.stops k ||| gi b.stops k
def c4z (a b:Rgs):Rgs:=⟨b7n (b7f a b) a.stops a.stops.length,a.cp ||| b.cp,a.off ||| b.off⟩
open Go.Pie
attribute [local irreducible] BR A8 DJ Dx DX AV
def Y9 (p:Ef) (t:Int) (i:Nat):Bool:=decide ((gi p.notes i).s≤t)&&decide (t<(gi p.notes i).e)
def Ls (p:Ef) (t:Int):Nat→List Int
 |0=>[]
 |k+1=>if Y9 p t k=true then Ls p t k++[(k:Int)] else Ls p t k
def snd (p:Ef) (t:Int):List Int:=Ls p t p.notes.length
theorem Vd (p:Ef) (t:Int):∀ k,(Ls p t k).length≤k
 |0=>ab _
 |k+1=>by
  have:=Vd p t k;unfold Ls;grind
theorem mZ (p:Ef) (hp:NJ p) (t:Int):Ba env 50 [.agg (Enc.enc p),.int .i64 t] 3 (cells (snd p t)) (snd p t).length true:=by
 refine Ba.enter (Ae (by decide)) Tryz.func50 rfl (by kernel_rfl) (by simp [Tryz.ntmps50]) ?_;have b1:=hp.notes
 repeat' (first|refine Cb ?_|fail)
 all_goals try (exfalso;omega)
 refine Ad.ghost (Ar.adopt 5 3 rfl) ?_;apply Ad.Je (p.notes.length) [(1,_),(9,_),(10,_)] [(0,_)] (fun k r=>(11,.p (.int .i64 (k:Int)))::(5,.vec 1 (Ls p t k).length 0 (Ls p t k).length)::r) (fun k r=>(1,.vec 3 (cells (Ls p t k)) (Ls p t k).length true)::r) 2
 ·first|omega|decide
 ·first|omega|decide
 ·exact SS
 ·exact Ws
 ·intro k hk
  have hl:=Vd p t k;have e1:Ls p t (k+1)=if Y9 p t k=true then Ls p t k++[(k:Int)] else Ls p t k:=rfl
  by_cases h1:(gi p.notes k).s≤t∧t<(gi p.notes k).e
  ·have hb:Y9 p t k=true:=by unfold Y9;rw [decide_eq_true h1.1,decide_eq_true h1.2];rfl
   rw [if_pos hb] at e1;have e2:(Ls p t (k+1)).length=(Ls p t k).length+1:=by rw [e1];simp
   repeat' (first|(apply Aa.Dk (a:=(k:Int));rfl;rfl;rfl;rfl;rfl;rfl;rfl;rfl;(intro _ h;cases h);rfl;rfl;rfl;decide;decide;(first|omega|(simp only [List.length_take,List.length_drop,List.length_append,List.length_singleton,List.length_cons,List.length_nil]<;>omega)))|(apply Aa.Ap;rfl;rfl;rfl;omega;rfl)|refine Cb ?_|(apply Ah.guard;rfl;rfl)|(apply Aa.int;rfl;rfl;rfl)|(apply Aa.buildSlice;rfl;rfl;rfl;decide;rfl;rfl;rfl)|(apply Ad.Ac;rfl)|(apply Ad.Aq;rfl)|(intro _;try (exfalso;omega)))
   all_goals try (exfalso;omega)
   refine Aj.normal ⟨by first|omega|decide,?_,?_⟩
   ·try (first|rw [e2,e1]|rw [e2])
    exact Dy
   ·first|rw [e2,e1]|rw [e2]
    exact Ey
  ·have hb:¬ Y9 p t k=true:=by
    unfold Y9;intro h;rw [eJ,decide_eq_true_iff,decide_eq_true_iff] at h;exact h1 h
   rw [if_neg hb] at e1
   repeat' (first|(apply Aa.Ap;rfl;rfl;rfl;omega;rfl)|refine go2 ?_|(apply Ah.guard;rfl;rfl)|(apply Ad.Ac;rfl)|(apply Ad.cond_false;rfl)|(apply Ad.Aq;rfl)|(intro _;try (exfalso;omega)))
   all_goals try (exfalso;omega)
   all_goals
    refine Aj.normal ⟨by first|omega|decide,?_,?_⟩
    ·try (rw [e1])
     exact Dy
    ·rw [e1]
     exact Ey
 ·repeat' (first|refine go2 ?_|(apply Ad.Ac;rfl)|(intro _;try (exfalso;omega)))
  all_goals first|(exfalso;omega)|exact Bg.ret rfl rfl rfl rfl
def c1i (p:Ef) (t:Int):Nat→Int
 |0=>-1
 |k+1=>if gi p.bars (gi p.sets k).bar.toNat≤t then (k:Int) else c1i p t k
def wan (p:Ef) (t:Int):Int:=c1i p t p.sets.length
def c7i (o:Ho) (p:Ef) (t:Int):Rgs:=if wan p t<0 then b8q o else (gi p.sets (wan p t).toNat).reg
end Go.Proofs.YtnjkoebfgcbbdaaGreatDoor
namespace Go.Proofs.YtnjkoebfgcbbdaaGreatDoor
open Go Go.Am Go.Vm
attribute [local irreducible] Aa Ah Af Ad Az Ai Ba Bq Bd Aj Vm.Done Bg AB
structure KA where
 lo:Nat
 hi:Nat
instance:Enc KA:={ default:=⟨0,0⟩,enc:=fun x=>[.int .u64 (x.lo:Int),.int .u64 (x.hi:Int)],size:=2,len:=fun _=>rfl }
structure KA.Ok (s:KA):Prop where
 lo:s.lo<2 ^ 64
 hi:s.hi<2 ^ 64
def KA.has (s:KA) (n:Nat):Bool:=if n<64 then s.lo.testBit n else s.hi.testBit (n-64)
def Hg (s:KA) (n:Nat):KA:=if n<64 then ⟨s.lo ||| 2 ^ n,s.hi⟩ else ⟨s.lo,s.hi ||| 2 ^ (n-64)⟩
def tY (a b:KA):KA:=⟨a.lo ||| b.lo,a.hi ||| b.hi⟩
def c7s (a b:KA):Bool:=decide (a.lo ^^^ (a.lo &&& b.lo)=0)&&decide (a.hi ^^^ (a.hi &&& b.hi)=0)
def oP (l:List Int):Nat→KA
 |0=>⟨0,0⟩
 |k+1=>Hg (oP l k) (gi l k).toNat
def c3r (a:Nat):Nat→KA
 |0=>⟨0,0⟩
 |k+1=>Hg (c3r a k) (a+k)
theorem aG {s:KA} (h:s.Ok) {n:Nat} (hn:n<128):(Hg s n).Ok:=by
 unfold Hg;split
 ·exact ⟨cW h.lo (cz (by omega) (by omega)),h.hi⟩
 ·exact ⟨h.lo,cW h.hi (cz (by omega) (by omega))⟩
theorem b0w {a b:KA} (ha:a.Ok) (hb:b.Ok):(tY a b).Ok:=⟨cW ha.lo hb.lo,cW ha.hi hb.hi⟩
theorem Vg:(⟨0,0⟩:KA).Ok:=⟨by simp,by simp⟩
theorem Zo {l:List Int} (h:∀ i,i<l.length→0≤gi l i∧gi l i≤127):∀ k,k≤l.length→(oP l k).Ok
 |0,_=>Vg
 |k+1,hk=>aG (Zo h k (by omega)) (by grind)
section
variable {E:Env} {L:Vm.Frame} {H:Vm.Heap} {nx:Nat} {Q:PV→Heap→Nat→Prop} {w:Bool} {dst:Option Tmp} {ty:TypeId} {pos:String} {af:Array Edge} {gd:Option (Nat×Bool)}
theorem b5m {t t2:TypeId} {x y:Operand} {k':IntKind} {n:Int} (m:Nat) (hx:AU E.Γ L x=some (.p (.int .u64 1))) (hy:AU E.Γ L y=some (.p (.int k' n))) (hn:n=m∧m<64) (q:Q (.p (.int .u64 ((2 ^ m:Nat):Int))) H nx) :
 Aa E w ⟨dst,.binOp .shl t x y t2,ty,pos,af,gd⟩ L H nx Q:=by
 obtain ⟨rfl,hn⟩:=hn;exact Aa.lW hx hy hn q
end
theorem qy (n:Int):Ai env 58 [.int .i64 n] (.p (.bool (decide (0≤n∧n≤127)))):=by
 refine Ai.enter (Ae (by decide)) Tryz.func58 rfl (by kernel_rfl) (by simp) ?_
 repeat' (first|refine go2 ?_|(apply Ah.guard;rfl;rfl)|(intro _))
 all_goals (refine Done.rt rfl rfl ⟨?_,rfl,rfl⟩;grind)
theorem PU (a b:KA) (ha:a.Ok) (hb:b.Ok):Ai env 109 [.agg (Enc.enc a),.agg (Enc.enc b)] (.p (.agg (Enc.enc (tY a b)))):=by
 have a1:=ha.lo;have a2:=ha.hi;have b1:=hb.lo;have b2:=hb.hi;refine Ai.enter (Ae (by decide)) Tryz.func109 rfl (by kernel_rfl) (by simp) ?_
 repeat' (first|refine Cb ?_|(apply Aa.build;rfl;rfl;rfl;rfl;rfl))
 all_goals (refine Done.rt rfl rfl ⟨?_,rfl,rfl⟩;try rfl)
theorem xw (s:KA) (hs:s.Ok) (n:Nat) (hn:n<128):Ai env 59 [.agg (Enc.enc s),.int .i64 (n:Int)] (.p (.agg (Enc.enc (Hg s n)))):=by
 have s1:=hs.lo;have s2:=hs.hi;unfold Hg;by_cases h:n<64
 ·have p1:2 ^ n<2 ^ 64:=cz (by omega) h
  rw [if_pos h];refine Ai.enter (Ae (by decide)) Tryz.func59 rfl (by kernel_rfl) (by simp [Tryz.ntmps59]) ?_
  repeat' (first|refine go2 ?_|(apply b5m n;rfl;rfl;omega)|(apply Ad.Ac;rfl)|(intro _;try (exfalso;omega)))
  all_goals first|(exfalso;omega)|(refine Done.rt rfl rfl ⟨?_,rfl,rfl⟩;try rfl)
 ·have p1:2 ^ (n-64)<2 ^ 64:=cz (by omega) (by omega)
  rw [if_neg h];refine Ai.enter (Ae (by decide)) Tryz.func59 rfl (by kernel_rfl) (by simp [Tryz.ntmps59]) ?_
  repeat' (first|refine go2 ?_|(apply b5m (n-64);rfl;rfl;omega)|(apply Ad.Ac;rfl)|(intro _;try (exfalso;omega)))
  all_goals first|(exfalso;omega)|(refine Done.rt rfl rfl ⟨?_,rfl,rfl⟩;try rfl)
theorem oJ (l:List Int) (hl:l.length<1000000) (h:∀ i,i<l.length→0≤gi l i∧gi l i≤127):Ai env 24 [.lst 3 (cells l) l.length] (.Eb [.p (.agg (Enc.enc (oP l l.length))),.p (.int .i64 0)]):=by
 refine Ai.enter (Ae (by decide)) Tryz.func24 rfl (by kernel_rfl) (by simp [Tryz.ntmps24]) ?_
 repeat' (first|refine Cb ?_|fail)
 apply Ad.Je (l.length) [(2,_),(4,_),(7,_),(8,_)] [(0,_)] (fun k r=>(9,.p (.int .i64 (k:Int)))::r) (fun k r=>(1,.box 84 ((Enc.enc (oP l k)).map .p))::r) 2
 ·first|omega|decide
 ·first|omega|decide
 ·exact SS
 ·exact Ws
 ·intro k hk
  have h0:=h k hk;have h1:=qy (gi l k);rw [decide_eq_true h0] at h1;have h2:=xw (oP l k) (Zo h k (by omega)) (gi l k).toNat (by omega);rw [du h0.1] at h2
  repeat' (first|(apply Aa.fn;rfl;rfl;exact h1;intro _;rfl)|(apply Aa.fn;rfl;rfl;exact h2;intro _;rfl)|(apply Aa.Ap;rfl;rfl;rfl;omega;rfl)|refine Cb ?_|(apply Aa.int;rfl;rfl;rfl)|(apply Ad.Ak;rfl)|(apply Ad.Ac;rfl)|(intro _;try (exfalso;omega)))
  all_goals try (exfalso;omega)
  refine Aj.normal ⟨by first|omega|decide,?_,?_⟩
  ·exact Dy
  ·exact Ey
 ·repeat' (first|refine go2 ?_|(apply Ad.Ac;rfl)|(intro _;try (exfalso;omega)))
  all_goals first|(exfalso;omega)|(refine Done.rt rfl rfl ⟨?_,rfl,rfl⟩;try rfl)
end Go.Proofs.YtnjkoebfgcbbdaaGreatDoor
namespace Go.Vm
open Go.Am
structure c4l where
instance:Enc c4l:={ default:=⟨⟩,enc:=fun _=>[.val (.slice none 0 0)],size:=1,len:=fun _=>rfl }
section
variable {E:Env} {L:Frame} {H:Heap} {nx:Nat}
variable {Q:PV→Heap→Nat→Prop} {dst:Option Tmp} {ty:TypeId} {pos:String} {af:Array Edge} {gd:Option (Nat×Bool)}
theorem Aa.b3c {α:Type} {_:Enc α} {l:List α} (a1 a2:α) {s x:Operand} {sT xT e e2:TypeId} {xd:TypeDesc} {i:TypeInfo} {b b2 n:Nat} {xs:List FV} {z z2:Bool} (hs:AU E.Γ L s=some (.vec b n 0 n)) (hb:hget H b=some (.vec e (cells l) n z))
 (hx:AU E.Γ L x=some (.vec b2 2 0 2)) (hb2:hget H b2=some (.vec e2 xs 2 z2)) (hxs:xs=Enc.enc a1++Enc.enc a2) (hn:l.length=n) (xQ:E.P.underlying sT=some (.slice e)) (hxT:E.P.underlying xT=some xd) (hd:∀ k,xd≠.int k) (hi:E.P.info? e=some i)
 (hsz:Enc.size α=i.size) (hzs:Eo i=true) (h0:0<i.size) (hby:i.bytes<1000000) (hlen:l.length<900000) (q:Q (.vec b (l.length+2) 0 (l.length+2)) (hput H b (.vec e (cells (l++[a1,a2])) (l.length+2) z)) nx) :
 Aa E true ⟨dst,.call { callee:=.builtin .append,args:=#[s,x],argTypes:=#[sT,xT] },ty,pos,af,gd⟩ L H nx Q:=by
 subst hn;have hroom:(l.length+2)*(i.bytes+1)≤room:=an (cM (by omega:l.length+2≤1000000) (by omega:i.bytes+1≤1000000)) (by decide);refine Aa.append (i:=i) hs hb (rY.all hx hb2 (by rw [hxs,az,Enc.len,Enc.len,← hsz];omega)) xQ hxT hd hi hzs (by omega) hroom (by rw [CQ,hsz]) h0 ?_;have:cells (l++[a1,a2])=cells l++xs:=by rw [EG,hxs];simp [cells,encs]
 grind
end
end Go.Vm
namespace Go.Proofs.YtnjkoebfgcbbdaaGreatDoor
open Go Go.Am Go.Vm Go.Pie
attribute [local irreducible] Aa Ah Af Ad Az Ai Ba Bq Bd Aj Vm.Done Bg AB
attribute [local irreducible] BR A8 DJ Dx DX AV Cc
instance:Enc (List Int):={ default:=[],enc:=fun l=>[.lst 3 (cells l) l.length],size:=1,len:=fun _=>rfl }
def kdK (p:Ef) (L:List Int) (d:Nat):Nat→List Int
 |0=>[]
 |k+1=>if (gi p.notes (gi L k).toNat).d=(d:Int) then kdK p L d k++[(gi p.notes (gi L k).toNat).k] else kdK p L d k
theorem Yj {p:Ef} {t:Int}:∀ {k:Nat} {x:Int},x∈Ls p t k→0≤x∧x<k
 |0,x,h=>by cases h
 |k+1,x,h=>by
  unfold Ls at h;split at h
  ·rcases bq.1 h with h|h
   ·have:=Yj h;omega
   grind
  ·have:=Yj h;omega
theorem gi_mem' {l:List Int} {i:Nat} (h:i<l.length):gi l i∈l:=by
 unfold gi;grind
theorem b7v {p:Ef} {t:Int} {i:Nat} (h:i<(snd p t).length):0≤gi (snd p t) i∧gi (snd p t) i<p.notes.length:=Yj (gi_mem' h)
theorem tC.cmp {o:Ho} (h:tC o) {i:Nat} (hi:i<o.Ag.length):0≤(gi o.Ag i).lo∧(gi o.Ag i).hi≤127:=by
 have h0:=h.err;unfold V6 at h0;split at h0
 ·omega
 split at h0
 ·omega
 split at h0
 ·omega
 split at h0
 ·omega
 split at h0
 ·omega
 split at h0
 ·omega
 rename_i d3;have d3:GK o.ranks o.Ag 0=0:=cJ d3;have:=VK _ 0 rfl d3 i (aq _) hi;unfold Dx at this;split at this
 ·omega
 rename_i h1;unfold XY at h1;omega
def tlK (p:Ef) (L:List Int) (k:Nat) (j:Nat):HB:=.vec 3 (cells (kdK p L j k)) (kdK p L j k).length true
def kdV (p:Ef) (L:List Int) (nd k:Nat):HB:=.QN 28 ((List.range nd).map fun j=>.vec (4+j) (kdK p L j k).length 0 (kdK p L j k).length) nd
noncomputable def c6r (o:Ho) (p:Ef) (t:Int):List KA:=BD (fun d=>oP (kdK p (snd p t) d (snd p t).length) (kdK p (snd p t) d (snd p t).length).length) o.Ag.length
instance:Enc kW:={ default:=⟨0,0,[]⟩,enc:=fun x=>[.int .i64 x.s,.int .i64 x.e,.lst 3 (cells x.notes) x.notes.length],size:=3,len:=fun _=>rfl }
def TY (p:Ef):Nat→List Int
 |0=>[OX p,PD p]
 |k+1=>TY p k++[(gi p.notes k).s,(gi p.notes k).e]
theorem Yn (p:Ef):∀ k,(TY p k).length=2*k+2
 |0=>rfl
 |k+1=>by
  have:=Yn p k;unfold TY;grind
def DT (p:Ef):List Int:=Lib.compact ((TY p p.notes.length).mergeSort fun x y=>decide (x≤y))
theorem XI (zs:List Int):(Lib.compact zs).length≤zs.length:=by
 unfold Lib.compact Lib.compactUpTo;grind
theorem zq (p:Ef):0<(DT p).length:=by
 have h0:OX p∈DT p:=by
  unfold DT;rw [QB,fw];have:∀ k,OX p∈TY p k:=by
   intro k
   induction k with
   |zero=>simp [TY]
   |succ k ih=>exact cx _ ih
  grind
 grind
theorem b8m:∀ (m:Mem) (F:Nat→Prop) (us:List Value),Dj m F [] us→us=[]:=fun m F us h=>by cases h;rfl
def BN (p:Ef):List kW:=a5g (snd p) (DT p)
theorem sZ {o:Ho} {p:Ef} (ho:LQ o) (hE:VB o p=0) (h:jA o p):Ai env 16 [.agg (Enc.enc o),.agg (Enc.enc p)] (.Eb [.p (.lst 81 (cells (BN p)) (BN p).length),.p (.int .i64 0)]):=by
 have ha:=MR o p ho h.sm;rw [hE] at ha;have hen:=iF p (by have:=h.bars;omega) h.sm.bars;have n1:=h.notes;have hsn:=mZ p h.sm;refine Ai.enter (Ae (by decide)) Tryz.func16 rfl (by kernel_rfl) (by simp [Tryz.ntmps16]) ?_
 repeat' (first|(apply Aa.fn;rfl;rfl;exact ha;intro _;rfl)|(apply Aa.fn;rfl;rfl;exact hen;intro _;rfl)|refine Cb ?_|(apply Aa.int;rfl;rfl;rfl)|(apply Aa.buildSlice;rfl;rfl;rfl;decide;rfl;rfl;rfl)|(apply Ad.Ak;rfl))
 all_goals try (exfalso;omega)
 all_goals try contradiction
 apply Ad.Je (p.notes.length) [(3,_),(30,_),(31,_)] [(1,_)] (fun k r=>(32,.p (.int .i64 (k:Int)))::(9,.vec 2 (TY p k).length 0 (TY p k).length)::r) (fun k r=>(2,.vec 3 (cells (TY p k)) (TY p k).length false)::r) 3
 ·first|omega|decide
 ·first|omega|decide
 ·exact SS
 ·exact Ws
 ·intro k hk
  have hl:=Yn p k;have e1:TY p (k+1)=TY p k++[(gi p.notes k).s,(gi p.notes k).e]:=rfl;have e2:(TY p (k+1)).length=(TY p k).length+2:=by rw [e1];simp
  repeat' (first|(apply Aa.b3c (l:=TY p k) (gi p.notes k).s (gi p.notes k).e;rfl;rfl;rfl;rfl;rfl;rfl;rfl;rfl;(intro _ h;cases h);rfl;rfl;rfl;decide;decide;omega)|(apply Aa.Ap;rfl;rfl;rfl;omega;rfl)|refine Cb ?_|(apply Aa.int;rfl;rfl;rfl)|(apply Aa.buildSlice;rfl;rfl;rfl;decide;rfl;rfl;rfl)|(apply Ad.Ac;rfl)|(intro _;try (exfalso;omega)))
  all_goals try (exfalso;omega)
  refine Aj.normal ⟨by first|omega|decide,?_,?_⟩
  ·try (first|rw [e2,e1]|rw [e2])
   exact Dy
  ·first|rw [e2,e1]|rw [e2]
   exact Ey
 ·have hl:=Yn p p.notes.length
  obtain ⟨zs,hzs⟩:∃ zs,zs=TY p p.notes.length:=⟨_,rfl⟩
  have hcl:=XI ((TY p p.notes.length).mergeSort fun x y=>decide (x≤y));have hml:((TY p p.notes.length).mergeSort fun x y=>decide (x≤y)).length=(TY p p.notes.length).length:=gE _;have htp:=zq p;have htc:((DT p).length:Int)-1=(((DT p).length-1:Nat):Int):=by omega
  rw [show Lib.compact ((TY p p.notes.length).mergeSort fun x y=>decide (x≤y))=DT p from rfl] at hcl
  repeat' (first|(refine Ad.at 14 ?_;refine Ad.ghost (Ar.freeze 9 rfl rfl) ?_;first|apply Ad.Bf|apply Ad.Bl)|((refine Aa.b9d (Fn:=fP) (zs':=(TY p p.notes.length).mergeSort fun x y=>decide (x≤y)) b3m rfl rfl rfl (rest:=[]) (rv:=[]) b8m rfl rfl (by omega) ?_ (by omega) ?_;(simp only [fP];rw [if_pos (by omega)])))|((refine Aa.c1c (Fn:=fE) (zs:=(TY p p.notes.length).mergeSort fun x y=>decide (x≤y)) (zs':=DT p++List.replicate ((TY p p.notes.length).length-(DT p).length) 0) (k:=(DT p).length) b0q rfl rfl rfl (rest:=[]) (rv:=[]) b8m rfl hml (by omega) ?_ (by simp;omega) (by omega) ?_;(simp only [fE];rw [if_pos (by omega),hml];rfl);rw [List.take_left]))|(apply Aa.sliceTo (b:=(DT p).length-1);rfl;exact congrArg (fun b=>some (PV.p (.int .i64 b))) htc;rfl;rfl;rfl;rfl;omega)|refine go1 ?_|apply Ad.Bf|(apply Aa.int;rfl;rfl;rfl)|(apply Ad.Ac;rfl)|(intro _;try (exfalso;omega)))
  all_goals try (exfalso;omega)
  refine Ad.ghost (Ar.adopt 12 81 rfl) ?_;obtain ⟨F,hF⟩:∃ F:Nat→kW,F=fun i=>⟨gi (DT p) i,gi (DT p) (i+1),snd p (gi (DT p) i)⟩:=⟨_,rfl⟩
  have hR:BN p=BD F ((DT p).length-1):=by rw [hF];rfl
  rw [hR];apply Ad.Je ((DT p).length-1) [(3,_),(9,_),(52,_),(53,_)] [(1,_)] (fun k r=>(54,.p (.int .i64 (k:Int)))::(12,.vec 4 (BD F k).length 0 (BD F k).length)::r) (fun k r=>(4,.vec 81 (cells (BD F k)) (BD F k).length true)::r) 5
  ·first|omega|decide
  ·first|omega|decide
  ·exact SS
  ·exact Ws
  ·intro k hk
   have hlF:=CP F k;have hFk:F k=⟨gi (DT p) k,gi (DT p) (k+1),snd p (gi (DT p) k)⟩:=by rw [hF]
   have e1:BD F (k+1)=BD F k++[⟨gi (DT p) k,gi (DT p) (k+1),snd p (gi (DT p) k)⟩]:=by rw [← hFk];rfl
   have e2:(BD F (k+1)).length=(BD F k).length+1:=by rw [e1];simp
   have hg:gi ((DT p).take ((DT p).length-1)) k=gi (DT p) k:=Yx hk;have hk1:(k:Int)+1=((k+1:Nat):Int):=by omega
   have hs:=hsn (gi (DT p) k)
   repeat' (first|(refine Af.atIdx 10 ?_;refine Af.ghost (Ar.freeze 68 rfl rfl) ?_)|(refine Af.atIdx 9 ?_;apply Af.c1b [.tmp 64];decide +kernel;decide +kernel;rfl)|apply Ad.Bf|apply Ad.region|apply Ad.Dq|apply Ad.CO|apply Ad.CW|apply Bq.normal|apply Bd.normal|apply Ah.nil|apply Af.nil|apply Ah.one|(apply Af.bar;decide +kernel)|apply Af.quiet|(apply Aa.fv;rfl;rfl;exact hs)|(apply Aa.Ap (l:=(DT p).take ((DT p).length-1)) (i:=k);rfl;rfl;rfl;(rw [aw];omega);(rw [aw];omega))|(apply Aa.load (r:=.p (.int .i64 (gi (DT p) k)));rfl;exact (congrArg (fun b=>some (PV.p (FV.int .i64 b))) hg))|(apply Aa.Ap (l:=DT p) (i:=k+1);rfl;exact congrArg (fun b=>some (PV.p (.int .i64 b))) hk1;rfl;omega;rfl)|(apply Aa.Dk (a:=(⟨gi (DT p) k,gi (DT p) (k+1),snd p (gi (DT p) k)⟩:kW));rfl;rfl;rfl;rfl;rfl;rfl;rfl;rfl;(intro _ h;cases h);rfl;rfl;rfl;decide;decide;(first|omega|(simp only [List.length_take,List.length_drop,List.length_append,List.length_singleton,List.length_cons,List.length_nil]<;>omega)))|(apply Aa.assign;rfl)|(apply Aa.move;rfl)|(apply Aa.Jl;rfl;rfl;omega)|(apply Aa.int;rfl;rfl;rfl)|(apply Aa.load;rfl;rfl)|(apply Aa.build;rfl;rfl;rfl;rfl;rfl)|(apply Aa.buildSlice;rfl;rfl;rfl;decide;rfl;rfl;rfl)|(apply Ad.Ac;rfl)|(intro _;try (exfalso;omega)))
   all_goals try (exfalso;omega)
   refine Aj.normal ⟨by first|omega|decide,?_,?_⟩
   ·try (first|rw [e2,e1]|rw [e2])
    exact Dy
   ·first|rw [e2,e1]|rw [e2]
    exact Ey
  ·repeat' (first|(refine Ah.Gz 4 ?_;refine Ah.ghost (Ar.freeze 73 rfl rfl) ?_)|apply Ad.Bf|apply Ad.Gw|apply Bq.normal|apply Bd.exit|apply Aj.exit|apply Ad.ret|apply Ah.nil|apply Ah.one|(apply Aa.assign;rfl)|(apply Aa.move;rfl)|(apply Aa.int;rfl;rfl;rfl)|(apply Ad.Ac;rfl)|(intro _;try (exfalso;omega)))
   all_goals first|(exfalso;omega)|(refine Done.rt rfl rfl ⟨?_,rfl,rfl⟩;try rfl)
end Go.Proofs.YtnjkoebfgcbbdaaGreatDoor
namespace Go.Pop
def Rj:List Nat→Nat
 |[]=>0
 |r::l=>256*Rj l+r
def yu (s:Nat):Nat→Nat
 |0=>0
 |n+1=>256*yu s n+s
theorem and_split {q r M s:Nat} (hr:r<256) (hs:s<256):(256*q+r) &&& (256*M+s)=256*(q &&& M)+(r &&& s):=by
 have h1:((256*q+r) &&& (256*M+s)) / 2 ^ 8=(256*q+r) / 2 ^ 8 &&& (256*M+s) / 2 ^ 8:=Nat.and_div_two_pow;have h2:((256*q+r) &&& (256*M+s)) % 2 ^ 8=((256*q+r) % 2 ^ 8) &&& ((256*M+s) % 2 ^ 8):=Nat.and_mod_two_pow;rw [show (256*q+r) / 256=q by omega,show (256*M+s) / 256=M by omega] at h1;rw [show (256*q+r) % 256=r by omega,show (256*M+s) % 256=s by omega] at h2;omega
def b1 (r:Nat):Nat:=(r / 2 &&& 85)+(r &&& 85)
def b2 (r:Nat):Nat:=(r / 4 &&& 51)+(r &&& 51)
def b3 (r:Nat):Nat:=(r / 16+r) &&& 15
theorem f1:∀ b,b<2→∀ r,r<256→(128*b+r / 2) &&& 85=r / 2 &&& 85:=by decide +kernel
theorem f2:∀ b,b<4→∀ r,r<256→(64*b+r / 4) &&& 51=r / 4 &&& 51:=by decide +kernel
theorem s1 {q r M:Nat} (hr:r<256):((256*q+r) / 2 &&& (256*M+85))+((256*q+r) &&& (256*M+85))=256*((q / 2 &&& M)+(q &&& M))+b1 r:=by
 rw [show (256*q+r) / 2=256*(q / 2)+(128*(q % 2)+r / 2) by omega,and_split (by omega) (by decide),and_split hr (by decide),f1 _ (by omega) _ hr];unfold b1;omega
theorem s2 {q r M:Nat} (hr:r<256):((256*q+r) / 4 &&& (256*M+51))+((256*q+r) &&& (256*M+51))=256*((q / 4 &&& M)+(q &&& M))+b2 r:=by
 rw [show (256*q+r) / 4=256*(q / 4)+(64*(q % 4)+r / 4) by omega,and_split (by omega) (by decide),and_split hr (by decide),f2 _ (by omega) _ hr];unfold b2;omega
theorem b3s (x:Nat):x &&& 15=x % 16:=by
 have:=fj x 4;omega
theorem s3 {q r M:Nat} (hr:r % 16≤4∧r / 16≤4) (hq:q % 16≤4):((256*q+r) / 16+(256*q+r)) &&& (256*M+15)=256*((q / 16+q) &&& M)+b3 r:=by
 rw [show (256*q+r) / 16+(256*q+r)=256*(q / 16+q)+(16*(q % 16)+r / 16+r) by omega,and_split (by omega) (by decide)];unfold b3;rw [b3s,b3s];omega
theorem m1:∀ l:List Nat,(∀ r∈l,r<256)→(Rj l / 2 &&& yu 85 l.length)+(Rj l &&& yu 85 l.length)=Rj (l.map b1)
 |[],_=>rfl
 |r::l,h=>by
  show ((256*Rj l+r) / 2 &&& (256*yu 85 l.length+85))+((256*Rj l+r) &&& (256*yu 85 l.length+85))=256*Rj (l.map b1)+b1 r;rw [s1 (h r (by simp)),m1 l fun x hx=>h x (by grind)]
theorem m2:∀ l:List Nat,(∀ r∈l,r<256)→(Rj l / 4 &&& yu 51 l.length)+(Rj l &&& yu 51 l.length)=Rj (l.map b2)
 |[],_=>rfl
 |r::l,h=>by
  show ((256*Rj l+r) / 4 &&& (256*yu 51 l.length+51))+((256*Rj l+r) &&& (256*yu 51 l.length+51))=256*Rj (l.map b2)+b2 r;rw [s2 (h r (by simp)),m2 l fun x hx=>h x (by grind)]
theorem b3e:∀ l:List Nat,(∀ r∈l,r % 16≤4∧r / 16≤4)→Rj l % 16≤4
 |[],_=>by decide
 |r::l,h=>by
  have:=(h r (by simp)).1;show (256*Rj l+r) % 16≤4;omega
theorem m3:∀ l:List Nat,(∀ r∈l,r % 16≤4∧r / 16≤4)→(Rj l / 16+Rj l) &&& yu 15 l.length=Rj (l.map b3)
 |[],_=>rfl
 |r::l,h=>by
  have hl:=fun x hx=>h x (av r hx)
  show ((256*Rj l+r) / 16+(256*Rj l+r)) &&& (256*yu 15 l.length+15)=256*Rj (l.map b3)+b3 r;rw [s3 (h r (by simp)) (b3e l hl),m3 l hl]
def X4 (p:Nat):Nat:=p % 2+p / 2 % 2+p / 4 % 2+p / 8 % 2+p / 16 % 2+p / 32 % 2+p / 64 % 2+p / 128 % 2
theorem k1:∀ r,r<256→b1 r<256∧(b2 (b1 r) % 16≤4∧b2 (b1 r) / 16≤4)∧b3 (b2 (b1 r))=X4 r∧X4 r≤8:=by decide +kernel
def swA (x:Nat):Nat:=(x / 2 &&& 6148914691236517205)+(x &&& 6148914691236517205)
def swB (x:Nat):Nat:=(x / 4 &&& 3689348814741910323)+(x &&& 3689348814741910323)
def swC (x:Nat):Nat:=(x / 16+x) &&& 1085102592571150095
def swD (x:Nat):Nat:=x+x / 256
def swE (x:Nat):Nat:=x+x / 65536
def swF (x:Nat):Nat:=x+x / 4294967296
def sw (x:Nat):Nat:=swF (swE (swD (swC (swB (swA x))))) &&& 127
def bytesOf (x:Nat):List Nat:=[x % 256,x / 256 % 256,x / 65536 % 256,x / 16777216 % 256,x / 4294967296 % 256,x / 1099511627776 % 256,x / 281474976710656 % 256,x / 72057594037927936 % 256]
theorem a1h {x:Nat} (h:x<18446744073709551616):Rj (bytesOf x)=x:=by
 simp only [bytesOf,Rj];omega
theorem rD (x:Nat):∀ r∈bytesOf x,r<256:=by
 intro r hr;simp only [bytesOf,List.mem_cons,List.not_mem_nil,or_false] at hr;omega
theorem b6y (x:Nat):x &&& 127=x % 128:=by
 have:=fj x 7;omega
theorem Ro {f:Nat→Nat} {P:Nat→Prop} {l:List Nat} (h:∀ r∈l,P (f r)):∀ r∈l.map f,P r :=by grind
theorem k85:yu 85 8=6148914691236517205 :=by decide
theorem k51:yu 51 8=3689348814741910323 :=by decide
theorem k15:yu 15 8=1085102592571150095 :=by decide
theorem VG (x:Nat):(bytesOf x).length=8:=rfl
theorem abc {x:Nat} (h:x<18446744073709551616):swC (swB (swA x))=Rj ((bytesOf x).map X4)∧swA x=Rj ((bytesOf x).map b1)∧swB (swA x)=Rj (((bytesOf x).map b1).map b2):=by
 have hb:=rD x;have e1:swA x=Rj ((bytesOf x).map b1):=by
  have:=m1 (bytesOf x) hb;rw [a1h h,VG,k85] at this;assumption
 have e2:swB (swA x)=Rj (((bytesOf x).map b1).map b2):=by
  rw [e1];have:=m2 ((bytesOf x).map b1) (Ro fun r hr=>(k1 r (hb r hr)).1);rw [bc,VG,k51] at this;assumption
 refine ⟨?_,e1,e2⟩;rw [e2];have h3:=m3 (((bytesOf x).map b1).map b2) (Ro (Ro (P:=fun y=>b2 y % 16≤4∧b2 y / 16≤4) fun r hr=>(k1 r (hb r hr)).2.1));have e3:(((bytesOf x).map b1).map b2).map b3=(bytesOf x).map X4:=by
  exact fp fun r hr=>(k1 r (hb r hr)).2.2.1
 rw [e3,bc,bc,VG,k15] at h3;assumption
theorem oG {x:Nat} (h:x<18446744073709551616):sw x=(X4 (x % 256)+X4 (x / 256 % 256)+X4 (x / 65536 % 256)+X4 (x / 16777216 % 256)+X4 (x / 4294967296 % 256)+X4 (x / 1099511627776 % 256)+X4 (x / 281474976710656 % 256)+X4 (x / 72057594037927936 % 256)) ∧
 swC (swB (swA x))<1157442765409226760∧swA x<18446744073709551616∧swB (swA x)≤4919131752989213764:=by
 obtain ⟨e,eA,eB⟩:=abc h;have hk:=fun r (hr:r<256)=>(k1 r hr).2.2.2
 have c0:=hk (x % 256) (by omega);have c1:=hk (x / 256 % 256) (by omega);have c2:=hk (x / 65536 % 256) (by omega);have c3:=hk (x / 16777216 % 256) (by omega);have c4:=hk (x / 4294967296 % 256) (by omega);have c5:=hk (x / 1099511627776 % 256) (by omega);have c6:=hk (x / 281474976710656 % 256) (by omega);have c7:=hk (x / 72057594037927936 % 256) (by omega);have hlt:∀ l:List Nat,l.length=8→(∀ r∈l,r<256)→Rj l<18446744073709551616:=by
  intro l hl hr
  match l,hl with
  |[y0,y1,y2,y3,y4,y5,y6,y7],_ =>
   have h0:=hr y0 (by simp);have h1:=hr y1 (by simp);have h2:=hr y2 (by simp);have h3:=hr y3 (by simp);have h4:=hr y4 (by simp);have h5:=hr y5 (by simp);have h6:=hr y6 (by simp);have h7:=hr y7 (by simp);simp only [Rj];omega
 have hlt2:∀ l:List Nat,l.length=8→(∀ r∈l,r≤68)→Rj l≤4919131752989213764:=by
  intro l hl hr
  match l,hl with
  |[y0,y1,y2,y3,y4,y5,y6,y7],_ =>
   have h0:=hr y0 (by simp);have h1:=hr y1 (by simp);have h2:=hr y2 (by simp);have h3:=hr y3 (by simp);have h4:=hr y4 (by simp);have h5:=hr y5 (by simp);have h6:=hr y6 (by simp);have h7:=hr y7 (by simp);simp only [Rj];omega
 have hb:=rD x;refine ⟨?_,?_,by rw [eA];exact hlt _ rfl (Ro fun r hr=>(k1 r (hb r hr)).1),by rw [eB];exact hlt2 _ rfl (Ro (Ro (P:=fun y=>b2 y≤68) fun r hr=>by have:=(k1 r (hb r hr)).2.1;omega))⟩
 ·unfold sw
  rw [e,b6y];simp only [bytesOf,List.map_cons,List.map_nil,Rj,swD,swE,swF];generalize X4 (x % 256)=y0 at *;generalize X4 (x / 256 % 256)=y1 at *;generalize X4 (x / 65536 % 256)=y2 at *;generalize X4 (x / 16777216 % 256)=y3 at *;generalize X4 (x / 4294967296 % 256)=y4 at *;generalize X4 (x / 1099511627776 % 256)=y5 at *;generalize X4 (x / 281474976710656 % 256)=y6 at *;generalize X4 (x / 72057594037927936 % 256)=y7 at *;clear e eA eB hk hb hlt hlt2 h;have d1:(256*(256*(256*(256*(256*(256*(256*(256*0+y7)+y6)+y5)+y4)+y3)+y2)+y1)+y0) / 256=256*(256*(256*(256*(256*(256*y7+y6)+y5)+y4)+y3)+y2)+y1:=by omega
  rw [d1];clear d1;have d2:(256*(256*(256*(256*(256*(256*(256*(256*0+y7)+y6)+y5)+y4)+y3)+y2)+y1)+y0+(256*(256*(256*(256*(256*(256*y7+y6)+y5)+y4)+y3)+y2)+y1)) / 65536=256*(256*(256*(256*(256*y7+(y6+y7))+(y5+y6))+(y4+y5))+(y3+y4))+(y2+y3):=by omega
  rw [d2];clear d2;have d3:(256*(256*(256*(256*(256*(256*(256*(256*0+y7)+y6)+y5)+y4)+y3)+y2)+y1)+y0+(256*(256*(256*(256*(256*(256*y7+y6)+y5)+y4)+y3)+y2)+y1)+(256*(256*(256*(256*(256*y7+(y6+y7))+(y5+y6))+(y4+y5))+(y3+y4))+(y2+y3))) / 4294967296=256*(256*(256*y7+(y6+y7))+(y5+y6+y7))+(y4+y5+y6+y7):=by omega
  rw [d3];clear d3;omega
 ·rw [e]
  simp only [bytesOf,List.map_cons,List.map_nil,Rj];omega
def cnt (n p:Nat):Nat:=((List.range n).filter p.testBit).length
theorem JV (n p:Nat):cnt (n+1) p=p % 2+cnt n (p / 2):=by
 unfold cnt;rw [gw,di];have e:((List.map Nat.succ (List.range n)).filter p.testBit).length=((List.range n).filter (p / 2).testBit).length:=by
  rw [List.filter_map,bc];congr 1
  refine fI fun i _=>?_
  grind
 grind
theorem Xu (n p:Nat):cnt (n+8) p=X4 p+cnt n (p / 256):=by
 rw [show n+8=n+7+1 from rfl,JV,show n+7=n+6+1 from rfl,JV,show n+6=n+5+1 from rfl,JV,show n+5=n+4+1 from rfl,JV,show n+4=n+3+1 from rfl,JV,show n+3=n+2+1 from rfl,JV,show n+2=n+1+1 from rfl,JV,JV];unfold X4;simp only [Nat.div_div_eq_div_mul,Nat.reduceMul];omega
theorem b1n (p:Nat):X4 (p % 256)=X4 p:=by unfold X4;omega
theorem b6a {x:Nat} (h:x<18446744073709551616):sw x=cnt 64 x:=by
 rw [(oG h).1];simp only [b1n];rw [show (64:Nat)=56+8 from rfl,Xu,show (56:Nat)=48+8 from rfl,Xu,show (48:Nat)=40+8 from rfl,Xu,show (40:Nat)=32+8 from rfl,Xu,show (32:Nat)=24+8 from rfl,Xu,show (24:Nat)=16+8 from rfl,Xu,show (16:Nat)=8+8 from rfl,Xu,show (8:Nat)=0+8 from rfl,Xu];simp only [Nat.div_div_eq_div_mul,Nat.reduceMul];show _=_+(_+(_+(_+(_+(_+(_+(_+0)))))));omega
end Go.Pop
namespace Go.Proofs.YtnjkoebfgcbbdaaGreatDoor
theorem b2i {x:Nat} (h:x<18446744073709551616):Go.Pop.sw x=(GY x).length:=Go.Pop.b6a h
end Go.Proofs.YtnjkoebfgcbbdaaGreatDoor
namespace Go.Vm
open Go.Am
theorem sF {α:Type} [Enc α] (l:List α) (i f:Nat) (hi:i<l.length) (hf:f≤Enc.size α):(cells l).drop (i*Enc.size α+f)=(Enc.enc (gi l i)).drop f++cells (l.drop (i+1)):=by
 rw [← List.drop_drop,OQ l i hi,List.drop_append_of_le_length (by rw [Enc.len];omega)]
section
variable {E:Env} {L:Frame} {H:Heap} {nx:Nat} {Q:PV→Heap→Nat→Prop} {w:Bool}
variable {dst:Option Tmp} {ty:TypeId} {pos:String} {af:Array Edge} {gd:Option (Nat×Bool)}
variable {bn:Nat} {ops:Array Oper} {op:Op} {l:List Oper} {i:Nat} {R:Frame→Heap→Nat→Prop}
def c4v (E:Env) (bn d:Nat) (ops:Array Oper) (i:Nat) (l:List Oper) (L:Frame) (H:Heap) (nx:Nat) (Q:Frame→Heap→Nat→Prop):Prop :=
 ∀ (B:Base),B.nx=bn→∀ m F σ t,Ctx E.Γ m F σ H nx→RL m F (htag H) σ nx L t→Cj t d=.slice emptyAt 0 0→B.to m F σ H nx →
  I9 E.P E.O E.G ops i l ⟨t,m⟩ fun s'=>∃ L' H' nx' F' σ',Q L' H' nx'∧Ctx E.Γ s'.m F' σ' H' nx'∧RL s'.m F' (htag H') σ' nx' L' s'.t∧B.to s'.m F' σ' H' nx'
theorem Aa.V3 {α:Type} {_:Enc α} {t:TypeId} {a:Operand} {b n i f:Nat} {e:TypeId} {l:List α} {z:Bool} {r:FV} (ha:AU E.Γ L a=some (.EH b n (i*Enc.size α+f))) (hb:hget H b=some (.vec e (cells l) n z)) (hi:i<l.length) (hf:f≤Enc.size α)
 (h:ZA E.P t ((Enc.enc (gi l i)).drop f++cells (l.drop (i+1)))=some r) (q:Q (.p r) H nx):Aa E w ⟨dst,.load t a,ty,pos,af,gd⟩ L H nx Q :=
 Aa.b4h ha hb (by rw [sF l i f hi hf];exact h) q
end
variable {E:Env} {L:Frame} {H:Heap} {nx:Nat}
section
variable {Q:PV→Heap→Nat→Prop} {w:Bool} {dst:Option Tmp} {ty:TypeId} {pos:String} {af:Array Edge} {gd:Option (Nat×Bool)}
theorem Aa.RD {x:Operand} {b tag off:Nat} {e:TypeId} {cs:List FV} {z:Bool} (hx:AU E.Γ L x=some (.EH b tag off)) (hb:hget H b=some (.vec e cs tag z)) (q:Q (.EH b tag off) H nx) :
 Aa E w ⟨dst,.nilCheck x,ty,pos,af,gd⟩ L H nx Q :=
 Aa.quiet q fun m F σ tt h1 h2=>by
  obtain ⟨c,k',g,h3,h4⟩:=PN h1 h2 hx hb;refine ⟨.pointer (some ⟨c,off,some g⟩),fun _=>by simp only [BO,FB,h3],.EH (h1.hp b _ hb).1 rfl fun n hn=>?_⟩;simp only [htag,hb,HB.tag,Option.map_some,Option.some.injEq,Tg.vec.injEq] at hn;grind
end
end Go.Vm
