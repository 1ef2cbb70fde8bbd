/-
  Texts of a proof, merged (PieB, PieC, PieD, PieE, PieF, OrO, PieG, OrKa, Vm43, PieH, PieI, Pop, Vm39, Vm44). Conditions: in each statement.
-/
import Derived.Test.YtnjkoebfgcbbdaaGreatDoorKGk
set_option linter.unusedSimpArgs false
set_option linter.unusedVariables false
set_option linter.unusedSectionVars false
set_option maxRecDepth 100000
set_option maxHeartbeats 8000000
abbrev cR:=@Bool.true_and
abbrev dm:=@Nat.pow_lt_pow_right
abbrev er:=@Bool.false_and
abbrev ez:=@Nat.or_lt_two_pow
abbrev fh:=@Nat.and_two_pow_sub_one_eq_mod
abbrev ft:=@List.mem_mergeSort
abbrev gE:=@List.length_mergeSort
namespace Go.Proofs.YtnjkoebfgcbbdaaGreatDoor
open Go Go.Am Go.Vm Go.Pie
attribute [local irreducible] Aa Ai Ag Ad AP Ak Bf BM Bq Ah Vm.Done BD AB
attribute [local irreducible] Ci Ba DV DN Eo AZ
theorem a1e (l:List Int) (hl:l.length<1000000):Ak env 79 [.lst 3 (cells l) l.length] (.p (.int .i64 (Rx l))):=by
 obtain ⟨E,hE⟩:∃ E,E=XK l 0:=⟨_,rfl⟩
 unfold Rx;rw [← hE];refine Ak.enter (Ae (by decide)) Tryz.func79 rfl (by kernel_rfl) (by simp [Tryz.ntmps79]) ?_;by_cases c1:l.length<2
 ·rw [if_pos c1]
  repeat' (first|refine go2 ?_|(apply Ad.Au;rfl)|(intro _;try (exfalso;omega)))
  all_goals first|(exfalso;omega)|(refine Done.rt rfl rfl ⟨?_,rfl,rfl⟩;try rfl)
 rw [if_neg c1];by_cases c2:l.length>201
 ·rw [if_pos c2]
  repeat' (first|refine go2 ?_|(apply Ad.Au;rfl)|(intro _;try (exfalso;omega)))
  all_goals first|(exfalso;omega)|(refine Done.rt rfl rfl ⟨?_,rfl,rfl⟩;try rfl)
 rw [if_neg c2]
 repeat' (first|refine go2 ?_|(apply Ad.Au;rfl)|(intro _;try (exfalso;omega)))
 all_goals try (exfalso;omega)
 apply Ad.Il (l.length) (fun k=>XK l k=E) [(0,_),(2,_),(13,_),(14,_)] [] (fun k r=>(15,.p (.int .i64 (k:Int)))::r) (fun k r=>r) 0
 ·first|omega|decide
 ·first|omega|decide
 ·exact RH
 ·exact U0
 ·first|(intro _ _;omega)|omega|trivial
 ·intro k hk hi
  have e:=jD hk;have hk1:((k:Int)-1).toNat=k-1:=by omega
  have hkc:0<k→(k:Int)-1=((k-1:Nat):Int):=fun h=>by omega
  by_cases h1:gi l k<0∨gi l k>100000
  ·rw [if_pos h1] at e
   rw [← hi,e]
   repeat' (first|(apply Aa.Ap;rfl;rfl;rfl;omega;rfl)|refine JA ?_|apply Ad.MB|(apply Ai.guard;rfl;rfl)|(apply Ad.Ac;rfl)|(apply Ad.cond_true;rfl)|(apply Ad.Au;rfl)|(intro _;try (exfalso;omega)))
   all_goals first|(exfalso;omega)|(refine Done.rt rfl rfl ⟨?_,rfl,rfl⟩;try rfl)
  rw [if_neg h1] at e;by_cases h2:0<k∧gi l k≤gi l (k-1)
  ·rw [if_pos h2] at e
   rw [← hi,e]
   repeat' (first|(apply Aa.Ap (l:=l) (i:=k-1);rfl;exact congrArg (fun b=>some (PV.p (.int .i64 b))) (hkc h2.1);rfl;omega;rfl)|(apply Aa.Ap;rfl;rfl;rfl;omega;rfl)|refine FT ?_|apply Ad.MB|(apply Ai.guard;rfl;rfl)|(apply Aa.int;rfl;rfl;rfl)|(apply Ad.Ac;rfl)|(apply Ad.Au;rfl)|(intro _;try (exfalso;omega)))
   all_goals first|(exfalso;omega)|(refine Done.rt rfl rfl ⟨?_,rfl,rfl⟩;try rfl)
  rw [if_neg h2] at e;by_cases h0:k=0
  ·repeat' (first|(apply Aa.Ap;rfl;rfl;rfl;omega;rfl)|refine JA ?_|apply Ad.MB|(apply Ai.guard;rfl;rfl)|(apply Ad.Ac;rfl)|(apply Ad.cond_false;rfl)|(apply Ad.Au;rfl)|(intro _;try (exfalso;omega)))
   all_goals try (exfalso;omega)
   refine Ah.normal ⟨(e.symm.trans hi),by first|omega|decide,?_,?_⟩
   ·exact Dl
   ·exact Eh
  ·repeat' (first|(apply Aa.Ap (l:=l) (i:=k-1);rfl;exact congrArg (fun b=>some (PV.p (.int .i64 b))) (hkc (by omega));rfl;omega;rfl)|(apply Aa.Ap;rfl;rfl;rfl;omega;rfl)|refine FT ?_|apply Ad.MB|(apply Ai.guard;rfl;rfl)|(apply Aa.int;rfl;rfl;rfl)|(apply Ad.Ac;rfl)|(apply Ad.Au;rfl)|(intro _;try (exfalso;omega)))
   all_goals try (exfalso;omega)
   refine Ah.normal ⟨(e.symm.trans hi),by first|omega|decide,?_,?_⟩
   ·exact Dl
   ·exact Eh
 ·intro hi
  rw [a6b] at hi;rw [← hi]
  repeat' (first|refine go2 ?_|(apply Ad.Ac;rfl)|(intro _;try (exfalso;omega)))
  all_goals first|(exfalso;omega)|(refine Done.rt rfl rfl ⟨?_,rfl,rfl⟩;try rfl)
theorem gB (p:F7) (h0:0<p.bars.length) (hl:p.bars.length<1000000):Ak env 47 [.agg (Enc.enc p)] (.DX [.p (.int .i64 (OU p)),.p (.int .i64 (Qd p))]):=by
 have hkc:(p.bars.length:Int)-1=((p.bars.length-1:Nat):Int):=by omega
 refine Ak.enter (Ae (by decide)) Tryz.func47 rfl (by kernel_rfl) (by simp) ?_
 repeat' (first|(apply Aa.Ap (l:=p.bars) (i:=p.bars.length-1);rfl;exact congrArg (fun b=>some (PV.p (.int .i64 b))) hkc;rfl;omega;rfl)|(apply Aa.Ap (l:=p.bars) (i:=0);rfl;rfl;rfl;omega;rfl)|refine FT ?_|fail)
 all_goals first|(omega)|(refine Done.rt rfl rfl ⟨?_,rfl,rfl⟩;try rfl)
abbrev a2d (n:LW):HB:=.box 39 ((Enc.enc n).map .p)
theorem b6s (f:FuncId) (n:LW) (l:List LW) (z:Bool) (P:Nat→Bool) (hl:l.length<1000000) (hM:∀ k,Eb env f ([.p (.agg (Enc.enc (gi l k)))]++[.ref 0 0]) [(0,a2d n)] 1 (.bool (P k))) :
 Eb env 116 [.vec 1 l.length 0 l.length,.clo f [] [.ref 0 0]] [(0,a2d n),(1,.vec 39 (cells l) l.length z)] 2 (.int .i64 (Ep P l.length)):=by
 refine Eb.enter (Ae (by decide)) Tryz.func116 rfl (by kernel_rfl) (by simp [Tryz.ntmps116]) ?_
 repeat' (first|(apply Aa.lenV;rfl;rfl;rfl)|refine go1 ?_|fail)
 all_goals try (exfalso;omega)
 apply Ad.Il (l.length) (fun k=>Xn P l.length (l.length-k)=Ep P l.length) [(0,_),(1,_),(7,_)] [(0,_),(1,_)] (fun k r=>(8,.p (.int .i64 (k:Int)))::r) (fun k r=>r) 2
 ·first|omega|decide
 ·first|omega|decide
 ·exact RH
 ·exact U0
 ·first|(intro _ _;omega)|omega|trivial
 ·intro k hk hi
  have hC:=hM k;by_cases hp:P k=true
  ·rw [hp] at hC
   have e1:Ep P l.length=(k:Int):=by rw [← hi,Yq hk hp]
   rw [e1]
   repeat' (first|(apply Aa.read [0] hC;rfl;rfl;exact .of_eq rfl;exact CS.Az rfl;exact CY rfl;(repeat (first|exact trivial|refine ⟨⟨_,rfl,.of_eq rfl⟩,?_⟩));decide;(intro _ hb;simp at hb<;>omega);rfl)|(apply Aa.DU;rfl;rfl;rfl;rfl;omega)|refine go1 ?_|(apply Aa.int;rfl;rfl;rfl)|(apply Ad.Ac;rfl)|(apply Ad.cond_true;rfl)|(intro _;try (exfalso;omega)))
   all_goals first|(exfalso;omega)|contradiction|(refine Done.ret rfl (.refl _) trivial ?_ (by omega) (ab _) ⟨?_,rfl,rfl⟩;exact Eh;try rfl)
  ·have hp':P k=false:=by simpa using hp
   rw [hp'] at hC
   repeat' (first|(apply Aa.read [0] hC;rfl;rfl;exact .of_eq rfl;exact CS.Az rfl;exact CY rfl;(repeat (first|exact trivial|refine ⟨⟨_,rfl,.of_eq rfl⟩,?_⟩));decide;(intro _ hb;simp at hb<;>omega);rfl)|(apply Aa.DU;rfl;rfl;rfl;rfl;omega)|refine go1 ?_|(apply Aa.int;rfl;rfl;rfl)|(apply Ad.Ac;rfl)|(apply Ad.cond_false;rfl)|(intro _;try (exfalso;omega)))
   all_goals try (exfalso;omega)
   all_goals try contradiction
   refine Ah.normal ⟨((UC hk hp').symm.trans hi),by first|omega|decide,?_,?_⟩
   ·exact Dl
   ·exact Eh
 ·intro hi
  have e1:Ep P l.length=-1:=by rw [← hi,cY];rfl
  rw [e1]
  repeat' (first|refine go2 ?_|(apply Ad.Ac;rfl)|(intro _;try (exfalso;omega)))
  all_goals first|(exfalso;omega)|(refine Done.ret rfl (.refl _) trivial ?_ (by omega) (ab _) ⟨?_,rfl,rfl⟩;exact Eh;try rfl)
theorem vX {α:Type} [Inhabited α] (f:α→Bool) (l:List α):decide (0≤Ep (fun k=>f (gi l k)) l.length)=l.any f:=by
 rw [eV,decide_eq_true_iff,List.any_eq_true];constructor
 ·intro h
  have h1:=rD (P:=fun k=>f (gi l k)) l.length (ab _) h;have h2:=(yw (fun k=>f (gi l k)) l.length l.length (ab _)).2;refine ⟨_,?_,h1⟩;have h3:Xn (fun k=>f (gi l k)) l.length l.length=Ep (fun k=>f (gi l k)) l.length:=rfl;generalize Xn (fun k=>f (gi l k)) l.length l.length=u at *;unfold gi;grind
 ·rintro ⟨x,hx,hf⟩
  obtain ⟨k,hk,rfl⟩:=cL.1 hx;refine Ul (P:=fun k=>f (gi l k)) (k:=k) ?_ l.length (ab _) (by omega) hk;unfold gi;grind
theorem yx (f:FuncId) (n:LW) (l:List LW) (z:Bool) (g:LW→Bool) (hl:l.length<1000000) (hM:∀ m,Eb env f ([.p (.agg (Enc.enc m))]++[.ref 0 0]) [(0,a2d n)] 1 (.bool (g m))) :
 Eb env 71 [.vec 1 l.length 0 l.length,.clo f [] [.ref 0 0]] [(0,a2d n),(1,.vec 39 (cells l) l.length z)] 2 (.bool (l.any g)):=by
 have hi:=b6s f n l z (fun k=>g (gi l k)) hl (fun k=>hM _);rw [← vX g l];generalize Ep (fun k=>g (gi l k)) l.length=F at *;refine Eb.enter (Ae (by decide)) Tryz.func71 rfl (by kernel_rfl) (by simp) ?_
 repeat' (first|(apply Aa.read [0,1] hi;rfl;rfl;exact .of_eq rfl;exact CS.Az rfl;exact CY rfl;(repeat (first|exact trivial|refine ⟨⟨_,rfl,.of_eq rfl⟩,?_⟩));decide;(intro _ hb;simp at hb<;>omega);rfl)|refine go1 ?_|(apply Aa.int;rfl;rfl;rfl))
 all_goals first|(exfalso;omega)|(refine Done.ret rfl (.refl _) trivial ?_ (by omega) (ab _) ⟨?_,rfl,rfl⟩;exact Eh;try rfl)
def clash (n m:LW):Bool:=decide (n.s<m.e)&&decide (m.s<n.e)
theorem sW (n m:LW):Eb env 122 ([.p (.agg (Enc.enc m))]++[.ref 0 0]) [(0,a2d n)] 1 (.bool (clash n m)):=by
 unfold clash;refine Eb.enter (Ae (by decide)) Tryz.func122 rfl (by kernel_rfl) (by simp [Tryz.ntmps122]) ?_;by_cases h1:n.s<m.e
 ·rw [decide_eq_true h1,cR]
  repeat' (first|refine JA ?_|(apply Ai.guard;rfl;rfl)|(intro _;try (exfalso;omega)))
  all_goals first|(exfalso;omega)|contradiction|(refine Done.ret rfl (.refl _) trivial ?_ (by omega) (ab _) ⟨?_,rfl,rfl⟩;exact Eh;try rfl)
 ·rw [decide_eq_false h1,er]
  repeat' (first|refine JA ?_|(apply Ai.guard;rfl;rfl)|(intro _;try (exfalso;omega)))
  all_goals first|(exfalso;omega)|contradiction|(refine Done.ret rfl (.refl _) trivial ?_ (by omega) (ab _) ⟨?_,rfl,rfl⟩;exact Eh;try rfl)
end Go.Proofs.YtnjkoebfgcbbdaaGreatDoor
namespace Go.Proofs.YtnjkoebfgcbbdaaGreatDoor
open Go Go.Am Go.Vm Go.Pie
abbrev sD:=List ((Int×Int)×List LW)
def ML (n:LW):Int×Int:=(n.d,n.k)
def a2j (gs:sD) (n:LW):sD:=BZ gs (ML n) ((BN gs (ML n)).getD []++[n])
def Pj (l:List LW):Nat→sD
 |0=>[]
 |k+1=>a2j (Pj l k) (gi l k)
def iM (gs:sD) (i:Nat):List LW:=((gs[i]?).map (·.2)).getD []
def Sj (s:Nat):sD→List ((Int×Int)×PV)
 |[]=>[]
 |x::gs=>(x.1,.vec s x.2.length 0 x.2.length)::Sj (s+1) gs
def tlG (gs:sD) (j:Nat):HB:=.vec 39 (cells (iM gs j)) (iM gs j).length true
theorem VU:∀ {s:Nat} {gs:sD} {a:Int×Int},BN (Sj s gs) a=(BN gs a).map fun l=>.vec (s+Fh gs a) l.length 0 l.length
 |s,[],a=>rfl
 |s,x::gs,a=>by
  unfold Sj BN Fh;by_cases h:a=x.1
  ·grind
  ·rw [VU]
   grind
theorem nH:∀ {s:Nat} {gs:sD} {a:Int×Int} {l:List LW},BZ (Sj s gs) a (.vec (s+Fh gs a) l.length 0 l.length)=Sj s (BZ gs a l)
 |s,[],a,l=>rfl
 |s,x::gs,a,l=>by
  unfold Sj BZ Fh;by_cases h:a=x.1
  ·grind
  ·simp only [if_neg h,Sj]
   rw [show s+(Fh gs a+1)=s+1+Fh gs a by omega,nH]
theorem PX:∀ {gs:sD} {a:Int×Int},iM gs (Fh gs a)=(BN gs a).getD []
 |[],a=>rfl
 |x::gs,a=>by
  unfold Fh BN;by_cases h:a=x.1
  ·simp only [if_pos h];rfl
  ·simp only [if_neg h]
   exact PX (gs:=gs)
theorem o9:∀ {gs:sD} {a:Int×Int} {l:List LW} {j:Nat},iM (BZ gs a l) j=if j=Fh gs a then l else iM gs j
 |[],a,l,j=>by
  match j with
  |0=>rfl
  |j+1=>rfl
 |x::gs,a,l,j=>by
  unfold BZ Fh;by_cases h:a=x.1
  ·simp only [if_pos h]
   match j with
   |0=>rfl
   |j+1=>rfl
  ·simp only [if_neg h]
   match j with
   |0=>rfl
   |j+1 =>
    have:=o9 (gs:=gs) (a:=a) (l:=l) (j:=j);simp only [Nat.add_right_cancel_iff];exact this
theorem WW {α β:Type} [DecidableEq α]:∀ {es:List (α×β)} {a:α} {b:β},(BZ es a b).length≤es.length+1
 |[],a,b=>by simp [BZ]
 |x::es,a,b=>by
  unfold BZ;split
  ·simp
  ·have:=WW (es:=es) (a:=a) (b:=b)
   grind
theorem U6 (l:List LW):∀ k,(Pj l k).length≤k
 |0=>ab _
 |k+1=>by
  have:=U6 l k;have:=WW (es:=Pj l k) (a:=ML (gi l k)) (b:=(BN (Pj l k) (ML (gi l k))).getD []++[gi l k]);show (BZ _ _ _).length≤_;omega
theorem fG {α β:Type} [DecidableEq α]:∀ {es:List (α×β)} {a c:α} {b:β},BN (BZ es a b) c=if c=a then some b else BN es c
 |[],a,c,b=>rfl
 |x::es,a,c,b=>by
  unfold BZ;by_cases h:a=x.1
  ·unfold BN
   grind
  ·rw [if_neg h]
   unfold BN;by_cases h2:c=x.1
   ·grind
   ·rw [if_neg h2,if_neg h2,fG]
theorem VF (l:List LW) (c:Int×Int):∀ k,k≤l.length→(BN (Pj l k) c).getD []=(l.take k).filter fun m=>decide (ML m=c)
 |0,_=>rfl
 |k+1,hk=>by
  have ih:=VF l c k (by omega);have et:l.take (k+1)=l.take k++[gi l k]:=by
   rw [List.take_add_one];unfold gi;grind
  show (BN (BZ _ _ _) c).getD []=_;rw [fG];grind
theorem zJ (l:List LW) (n:LW) (k:Nat) (hk:k≤l.length):((BN (Pj l k) (ML n)).getD []).any (clash n)=(l.take k).any fun m=>lu m n:=by
 rw [VF l (ML n) k hk,List.any_filter];congr 1
 funext m
 unfold clash lu ML;by_cases h1:m.d=n.d<;>by_cases h2:m.k=n.k<;>by_cases h3:n.s<m.e<;>by_cases h4:m.s<n.e<;>simp [h1,h2,h3,h4]
def kfC (a:Int×Int):List FV:=[.int .i64 a.1,.int .i64 a.2]
def kvC (a:Int×Int):List Value:=[.int .i64 a.1,.int .i64 a.2]
theorem jZ:IsKey Tryz.prog 120 kfC kvC:=by
 obtain ⟨fs,hu⟩:∃ fs,Tryz.prog.underlying 120=some (.struct fs):=⟨_,rfl⟩
 refine IsKey.of_struct hu (by kernel_rfl) (fun a=>rfl) (fun a b=>?_) (fun a=>?_)
 ·have hu2:some (TypeDesc.struct fs)=Tryz.prog.underlying 120:=hu.symm
  cases hu2;show some (decide (a.1=b.1)&&(decide (a.2=b.2)&&true))=_;obtain ⟨a1,a2⟩:=a;obtain ⟨b1,b2⟩:=b;by_cases h1:a1=b1<;>by_cases h2:a2=b2<;>simp [h1,h2]
 ·have hu2:some (TypeDesc.struct fs)=Tryz.prog.underlying 120:=hu.symm
  cases hu2;rfl
theorem fV {k:Nat}:∀ {s:Nat} {gs:sD},s+gs.length≤k→CS.under k ((Sj s gs).map (·.2))
 |s,[],_=>trivial
 |s,x::gs,h=>by
  simp only [List.length_cons] at h;exact ⟨by show s<k;omega,fV (s:=s+1) (gs:=gs) (by omega)⟩
theorem xI {E:Env} {H:Heap} {nx s:Nat} {gs:sD} {a:Int×Int} {g:List LW} {i:Nat} (hi:i=Fh gs a) (hgl:g=iM gs i) (hg:hget H (s+i)=some (.vec 39 (cells g) g.length true)):KT E H nx (Sj s gs) a Dp (.vec (s+i) g.length 0 g.length):=by
 subst hi;subst hgl;have e:=PX (gs:=gs) (a:=a);cases hl:BN gs a with
 |some l =>
  rw [e];exact .inl (by rw [VU,hl];rfl)
 |none =>
  rw [hl] at e;rw [e] at hg ⊢;exact KT.b5d (by rw [VU,hl];rfl) hg
theorem a9h {s:Nat} {gs:sD} {n:LW} {g:List LW} {i:Nat} (hi:i=Fh gs (ML n)) (hgl:g=iM gs i):BZ (Sj s gs) (ML n) (.vec (s+i) (g.length+1) 0 (g.length+1))=Sj s (a2j gs n):=by
 subst hi;subst hgl;unfold a2j;rw [← nH,PX];simp
theorem b5n {gs:sD} {n:LW} {g:List LW} {i:Nat} (hi:i=Fh gs (ML n)) (hgl:g=iM gs i) (j:Nat):(if j=i then .vec 39 (cells (g++[n])) (g.length+1) true else tlG gs j)=tlG (a2j gs n) j:=by
 subst hi;subst hgl;unfold tlG a2j;rw [o9];by_cases h:j=Fh gs (ML n)
 ·rw [if_pos h,if_pos h,PX]
  simp
 grind
attribute [local irreducible] Aa Ai Ag Ad AP Ak Bf BM Bq Ah Vm.Done BD AB Ci Ba DV DN Eo AZ CG
def b0q (o:He) (p:F7) (G:sD):Heap:=(2,VL kfC (Sj 3 G))::(1,.box 32 ((Enc.enc p).map .p))::(0,.box 27 ((Enc.enc o).map .p))::CG 3 1000 (tlG G)
theorem tK (o:He) (p:F7) (hs:YC p) (h2:2≤p.bars.length) (ho:o.Af.length<1000000):Ak env 80 [.agg (Enc.enc o),.agg (Enc.enc p)] (.p (.int .i64 (if p.notes.length>1000 then 4 else HY o (OU p) (Qd p) p.notes 0))):=by
 have b1:=hs.notes;have hen:=gB p (by omega) hs.bars;refine Ak.enter (Ae (by decide)) Tryz.func80 rfl (by kernel_rfl) (by simp [Tryz.ntmps80]) ?_;by_cases c1:p.notes.length>1000
 ·rw [if_pos c1]
  repeat' (first|refine JA ?_|(apply Ad.Ac;rfl)|(intro _;try (exfalso;omega)))
  all_goals first|(exfalso;omega)|(refine Done.rt rfl rfl ⟨?_,rfl,rfl⟩;try rfl)
 rw [if_neg c1];obtain ⟨E,hE⟩:∃ E,E=HY o (OU p) (Qd p) p.notes 0:=⟨_,rfl⟩
 rw [← hE]
 repeat' (first|(apply Aa.fn;rfl;rfl;exact hen;intro _;rfl)|(apply Aa.Zq)|refine go1 ?_|(apply Aa.int;rfl;rfl;rfl)|(apply Ad.Ac;rfl)|(intro _;try (exfalso;omega)))
 all_goals try (exfalso;omega)
 refine Ad.ghost (Aw.b5w 39 1000 (YL (by decide) (YL (by decide) (YL (by decide) a8z)))) ?_;apply Ad.Il (p.notes.length) (fun k=>HY o (OU p) (Qd p) p.notes k=E) [(2,_),(3,_),(5,_),(6,_),(7,_),(23,_),(24,_)] [] (fun k r=>(25,.p (.int .i64 (k:Int)))::r) (fun k _=>b0q o p (Pj p.notes k)) 1003
 ·first|omega|decide
 ·first|omega|decide
 ·exact RH
 ·refine ⟨⟨Bh rfl,trivial,_,rfl,.refl _⟩,⟨Bh rfl,CS.Bd _ _,_,rfl,.refl _⟩,⟨Bh rfl,CS.Bd _ _,_,rfl,.refl _⟩,BH.tail (fun j hj=>?_) (by omega) (fun j hj=>trivial)⟩
  refine Ez (by omega) (Ez (by omega) (Ez (by omega) ?_));exact QM hj
 ·exact hE.symm
 ·intro k hk hi
  have e:=Wh (o:=o) (a:=OU p) (z:=Qd p) hk;have hca:=zJ p.notes (gi p.notes k) k (by omega);have hgl:=U6 p.notes k;have c4d:=U6 p.notes (k+1);have hLk:=VF p.notes (ML (gi p.notes k)) k (by omega);have hGs:a2j (Pj p.notes k) (gi p.notes k)=Pj p.notes (k+1):=rfl;unfold Ug at e;generalize Pj p.notes k=G at *;obtain ⟨i,hii⟩:∃ i,i=Fh G (ML (gi p.notes k)):=⟨_,rfl⟩
  obtain ⟨g,hg⟩:∃ g,g=iM G i:=⟨_,rfl⟩
  have hi1:i<1000:=by have:=(dV (es:=G) (a:=ML (gi p.notes k))).1;omega
  have hgt:hget (b0q o p G) (3+i)=some (.vec 39 (cells g) g.length true):=Ez (by omega) (Ez (by omega) (Ez (by omega) (by rw [QM hi1,hg];rfl)));have hpt:∀ y,hput (b0q o p G) (3+i) y=(2,VL kfC (Sj 3 G))::(1,.box 32 ((Enc.enc p).map .p))::(0,.box 27 ((Enc.enc o).map .p))::CG 3 1000 (fun j=>if j=i then y else tlG G j):=fun y=>QA (by omega) (QA (by omega) (QA (by omega) (dQ hi1)))
  have hgg:g=(BN G (ML (gi p.notes k))).getD []:=by rw [hg,hii,PX]
  have hgn:g.length≤k:=by
   rw [hgg,hLk];exact am (dd _ _) (by rw [aw];omega)
  rw [← hgg] at hca;have hcl:=yx 122 (gi p.notes k) g true (clash (gi p.notes k)) (by omega) (sW (gi p.notes k));rw [hca] at hcl;by_cases h1:(gi p.notes k).d<0∨(gi p.notes k).d≥o.Af.length
  ·rw [if_pos h1,if_pos (by decide)] at e
   rw [← hi,e]
   repeat' (first|(apply Aa.Ap;rfl;rfl;rfl;omega;rfl)|refine JA ?_|(apply Ai.guard;rfl;rfl)|(apply Ad.AX;rfl)|(apply Ad.Ac;rfl)|(intro _;try (exfalso;omega)))
   all_goals first|(exfalso;omega)|(refine Done.rt rfl rfl ⟨?_,rfl,rfl⟩;try rfl)
  rw [if_neg h1] at e;by_cases h2:(gi p.notes k).k<(gi o.Af (gi p.notes k).d.toNat).lo∨(gi p.notes k).k>(gi o.Af (gi p.notes k).d.toNat).hi
  ·rw [if_pos h2,if_pos (by decide)] at e
   rw [← hi,e]
   repeat' (first|(apply Aa.Ap;rfl;rfl;rfl;omega;rfl)|(apply Aa.Oa;rfl;rfl;rfl;omega;omega;rfl)|refine JA ?_|(apply Ai.guard;rfl;rfl)|(apply Aa.build;rfl;rfl;rfl;rfl;rfl)|(apply Ad.Ac;rfl)|(apply Ad.cond_true;rfl)|(apply Ad.Au;rfl)|(intro _;try (exfalso;omega)))
   all_goals first|(exfalso;omega)|(refine Done.rt rfl rfl ⟨?_,rfl,rfl⟩;try rfl)
  rw [if_neg h2] at e;by_cases h3:(gi p.notes k).s<OU p∨(gi p.notes k).e>Qd p
  ·rw [if_pos h3,if_pos (by decide)] at e
   rw [← hi,e]
   repeat' (first|(apply Aa.Ap;rfl;rfl;rfl;omega;rfl)|(apply Aa.Oa;rfl;rfl;rfl;omega;omega;rfl)|refine JA ?_|(apply Ai.guard;rfl;rfl)|(apply Aa.build;rfl;rfl;rfl;rfl;rfl)|(apply Ad.Ac;rfl)|(apply Ad.cond_true;rfl)|(apply Ad.Au;rfl)|(intro _;try (exfalso;omega)))
   all_goals first|(exfalso;omega)|(refine Done.rt rfl rfl ⟨?_,rfl,rfl⟩;try rfl)
  rw [if_neg h3] at e;by_cases h4:(gi p.notes k).s≥(gi p.notes k).e
  ·rw [if_pos h4,if_pos (by decide)] at e
   rw [← hi,e]
   repeat' (first|(apply Aa.Ap;rfl;rfl;rfl;omega;rfl)|(apply Aa.Oa;rfl;rfl;rfl;omega;omega;rfl)|refine JA ?_|(apply Ai.guard;rfl;rfl)|(apply Aa.build;rfl;rfl;rfl;rfl;rfl)|(apply Ad.Ac;rfl)|(apply Ad.Au;rfl)|(intro _;try (exfalso;omega)))
   all_goals first|(exfalso;omega)|(refine Done.rt rfl rfl ⟨?_,rfl,rfl⟩;try rfl)
  rw [if_neg h4] at e;by_cases h5:(p.notes.take k).any (fun m=>lu m (gi p.notes k))=true
  ·rw [if_pos h5,if_pos (by decide)] at e
   rw [h5] at hcl;rw [← hi,e]
   repeat' (first|(apply Aa.xU (a:=ML (gi p.notes k)) (z:=Dp) jZ;rfl;rfl;rfl;rfl;rfl;rfl;exact xI hii hg (by (repeat (first|exact hgt|(refine Gt (by omega) ?_)|(refine Ez (by omega) ?_)))))|(apply Aa.b3y [1003,3+i] hcl;rfl;rfl;exact .of_eq rfl;exact CS.Az rfl;exact CY rfl;exact ⟨rfl,(show hget _ (3+i)=some (HB.vec 39 (cells g) g.length true) from by (repeat (first|exact hgt|(refine Gt (by omega) ?_)|(refine Ez (by omega) ?_)))),trivial⟩;rfl;(simp;omega);(intro _ hb;simp at hb;omega))|(apply Aa.makeFunc;rfl;rfl)|(apply Aa.Ap;rfl;rfl;rfl;omega;rfl)|(apply Aa.Oa;rfl;rfl;rfl;omega;omega;rfl)|refine FT ?_|(apply Ai.guard;rfl;rfl)|(apply Aa.int;rfl;rfl;rfl)|(apply Aa.build;rfl;rfl;rfl;rfl;rfl)|(apply Ad.Ac;rfl)|(apply Ad.cond_true;rfl)|(apply Ad.Au;rfl)|(intro _;try (exfalso;omega)))
   all_goals first|(exfalso;omega)|(refine Done.rt rfl rfl ⟨?_,rfl,rfl⟩;try rfl)
  have h5:(p.notes.take k).any (fun m=>lu m (gi p.notes k))=false:=by simpa using h5
  rw [h5,if_neg (by decide)] at e;rw [h5] at hcl
  repeat' (first|(apply Aa.xU (a:=ML (gi p.notes k)) (z:=Dp) jZ;rfl;rfl;rfl;rfl;rfl;rfl;exact xI hii hg (by (repeat (first|exact hgt|(refine Gt (by omega) ?_)|(refine Ez (by omega) ?_)))))|(apply Aa.b3y [1003,3+i] hcl;rfl;rfl;exact .of_eq rfl;exact CS.Az rfl;exact CY rfl;exact ⟨rfl,(show hget _ (3+i)=some (HB.vec 39 (cells g) g.length true) from by (repeat (first|exact hgt|(refine Gt (by omega) ?_)|(refine Ez (by omega) ?_)))),trivial⟩;rfl;(simp;omega);(intro _ hb;simp at hb;omega))|(apply Aa.makeFunc;rfl;rfl)|(apply Aa.b4b (a:=ML (gi p.notes k)) (es:=Sj 3 G) (z:=Dp) jZ;rfl;rfl;rfl;rfl;rfl;rfl;exact xI hii hg (by (repeat (first|exact hgt|(refine Gt (by omega) ?_)|(refine Ez (by omega) ?_))));rfl)|(apply Aa.a7w (l:=g) (a:=gi p.notes k);rfl;((repeat (first|exact hgt|(refine Gt (by omega) ?_)|(refine Ez (by omega) ?_))));rfl;rfl;rfl;rfl;rfl;rfl;(intro _ h;cases h);rfl;rfl;rfl;decide;decide;omega;((repeat (first|exact hpt _|(apply oQ;omega)|(apply QA;omega)))))|(apply Aa.a0g (a:=ML (gi p.notes k)) (es:=Sj 3 G) jZ;rfl;rfl;rfl;rfl;rfl)|(apply Aa.Ap;rfl;rfl;rfl;omega;rfl)|(apply Aa.Oa;rfl;rfl;rfl;omega;omega;rfl)|refine FT ?_|(apply Ai.guard;rfl;rfl)|(apply Aa.int;rfl;rfl;rfl)|(apply Aa.build;rfl;rfl;rfl;rfl;rfl)|(apply Aa.buildSlice;rfl;rfl;rfl;decide;rfl;rfl;rfl)|(apply Ad.Ac;rfl)|(apply Ad.cond_false;rfl)|(apply Ad.Au;rfl)|(intro _;try (exfalso;omega)))
  all_goals try (exfalso;omega)
  refine Ah.normal ⟨e.symm.trans hi,by first|omega|decide,?_,?_⟩
  ·exact Dl
  ·show BH 1003 (b0q o p (Pj p.notes (k+1))) _
   rw [← hGs] at c4d ⊢;refine ⟨⟨Bh rfl,fV (by omega),_,rfl,.of_eq (congrArg (VL kfC) (a9h hii hg))⟩,⟨Bh rfl,CS.Bd _ _,_,rfl,.refl _⟩,⟨Bh rfl,CS.Bd _ _,_,rfl,.refl _⟩,BH.tail (fun j hj=>?_) (by omega) (fun j hj=>trivial)⟩;repeat (first|(refine Gt (by omega) ?_)|(refine Ez (by omega) ?_))
   rw [QM hj];exact congrArg some (b5n hii hg j)
 ·intro hi
  rw [xw] at hi;rw [← hi]
  repeat' (first|refine go2 ?_|(apply Ad.Ac;rfl)|(intro _;try (exfalso;omega)))
  all_goals first|(exfalso;omega)|(refine Done.rt rfl rfl ⟨?_,rfl,rfl⟩;try rfl)
end Go.Proofs.YtnjkoebfgcbbdaaGreatDoor
namespace Go.Proofs.YtnjkoebfgcbbdaaGreatDoor
open Go Go.Am Go.Vm Go.Pie
attribute [local irreducible] Aa Ai Ag Ad AP Ak Bf BM Bq Ah Vm.Done BD AB
attribute [local irreducible] Ci Ba DV DN Eo AZ
theorem a2e (o:He) (ho:a1i o) (r:Rgs) (hr:r.Ok):Ak env 81 [.agg (Enc.enc o),.agg (Enc.enc r)] (.p (.int .i64 (Vo o r))):=by
 have r2:=ho.Af;have r3:=ho.IK;have c1:=hr.cp;have c2:=hr.off;have c3:=hr.len;have hc:=Wq o ho.sm;rw [ho.err] at hc;refine Ak.enter (Ae (by decide)) Tryz.func81 rfl (by kernel_rfl) (by simp [Tryz.ntmps81]) ?_;by_cases h1:r.stops.length=o.Af.length
 case neg =>
  rw [a5v h1]
  repeat' (first|(apply Aa.fn;rfl;rfl;exact hc;intro _;rfl)|refine go1 ?_|(apply Aa.int;rfl;rfl;rfl)|(apply Ad.Aj;rfl)|(apply Ad.Ac;rfl)|(intro _;try (exfalso;omega)))
  all_goals first|(exfalso;omega)|contradiction|(refine Done.rt rfl rfl ⟨?_,rfl,rfl⟩;try rfl)
 by_cases h2:∀ i,i<r.stops.length→gi r.stops i / 2 ^ (gi o.Af i).stops.length=0
 case neg =>
  obtain ⟨i,hi⟩:=df.1 h2;obtain ⟨hi,h3⟩:=Classical.not_imp.1 hi;rw [a5x h1 hi h3];clear h2
  repeat' (first|(apply Aa.fn;rfl;rfl;exact hc;intro _;rfl)|refine go1 ?_|(apply Aa.int;rfl;rfl;rfl)|(apply Ad.Aj;rfl)|(apply Ad.Ac;rfl)|(intro _;try (exfalso;omega)))
  all_goals try (exfalso;omega)
  all_goals try contradiction
  apply Ad.Il (o.Af.length) (fun k=>∀ i,i<k→gi r.stops i / 2 ^ (gi o.Af i).stops.length=0) [(2,_),(3,_),(21,_),(22,_)] [(0,_),(1,_)] (fun k r=>(23,.p (.int .i64 (k:Int)))::r) (fun k r=>r) 2
  ·first|omega|decide
  ·first|omega|decide
  ·exact RH
  ·exact U0
  ·first|(intro _ _;omega)|omega|trivial
  ·intro k hk hok
   have s3:=ho.stops k (by omega);have rk:=hr.stops k (by omega);by_cases hb:gi r.stops k / 2 ^ (gi o.Af k).stops.length=0
   ·repeat' (first|(apply Aa.Ap;rfl;rfl;rfl;omega;rfl)|refine JA ?_|(apply Aa.jJ;rfl;rfl;(simp only [IntKind.bits];omega))|(apply Ad.Ac;rfl)|(apply Ad.Au;rfl)|(intro _;try (exfalso;omega)))
    all_goals try (exfalso;omega)
    all_goals try contradiction
    refine Ah.normal ⟨(all_succ hok hb),by first|omega|decide,?_,?_⟩
    ·exact Dl
    ·exact Eh
   ·repeat' (first|(apply Aa.Ap;rfl;rfl;rfl;omega;rfl)|refine JA ?_|(apply Aa.jJ;rfl;rfl;(simp only [IntKind.bits];omega))|(apply Ad.Ac;rfl)|(apply Ad.Au;rfl)|(intro _;try (exfalso;omega)))
    all_goals first|(exfalso;omega)|contradiction|(refine Done.rt rfl rfl ⟨?_,rfl,rfl⟩;try rfl)
  ·intro hok
   exact absurd (hok i (by omega)) h3
 rw [eU h1 h2]
 repeat' (first|(apply Aa.fn;rfl;rfl;exact hc;intro _;rfl)|refine go1 ?_|(apply Aa.int;rfl;rfl;rfl)|(apply Ad.Aj;rfl)|(apply Ad.Ac;rfl)|(intro _;try (exfalso;omega)))
 all_goals try (exfalso;omega)
 all_goals try contradiction
 apply Ad.Il (o.Af.length) (fun k=>∀ i,i<k→gi r.stops i / 2 ^ (gi o.Af i).stops.length=0) [(2,_),(3,_),(21,_),(22,_)] [(0,_),(1,_)] (fun k r=>(23,.p (.int .i64 (k:Int)))::r) (fun k r=>r) 2
 ·first|omega|decide
 ·first|omega|decide
 ·exact RH
 ·exact U0
 ·first|(intro _ _;omega)|omega|trivial
 ·intro k hk hok
  have s3:=ho.stops k (by omega);have rk:=hr.stops k (by omega);have hb:=h2 k (by omega)
  repeat' (first|(apply Aa.Ap;rfl;rfl;rfl;omega;rfl)|refine JA ?_|(apply Aa.jJ;rfl;rfl;(simp only [IntKind.bits];omega))|(apply Ad.Ac;rfl)|(apply Ad.Au;rfl)|(intro _;try (exfalso;omega)))
  all_goals try (exfalso;omega)
  all_goals try contradiction
  refine Ah.normal ⟨(fun j hj=>h2 j (by omega)),by first|omega|decide,?_,?_⟩
  ·exact Dl
  ·exact Eh
 ·intro hok
  by_cases h4:r.cp / 2 ^ o.IK.length=0
  ·by_cases h5:r.off / 2 ^ o.Af.length=0
   ·rw [if_neg (by omega)]
    repeat' (first|refine JA ?_|(apply Ai.guard;rfl;rfl)|(apply Aa.jJ;rfl;rfl;(simp only [IntKind.bits];omega))|(apply Ad.Ac;rfl)|(intro _;try (exfalso;omega)))
    all_goals first|(exfalso;omega)|contradiction|(refine Done.rt rfl rfl ⟨?_,rfl,rfl⟩;try rfl)
   ·rw [if_pos (.inr h5)]
    repeat' (first|refine JA ?_|(apply Ai.guard;rfl;rfl)|(apply Aa.jJ;rfl;rfl;(simp only [IntKind.bits];omega))|(apply Ad.Ac;rfl)|(intro _;try (exfalso;omega)))
    all_goals first|(exfalso;omega)|contradiction|(refine Done.rt rfl rfl ⟨?_,rfl,rfl⟩;try rfl)
  ·rw [if_pos (.inl h4)]
   repeat' (first|refine JA ?_|(apply Ai.guard;rfl;rfl)|(apply Aa.jJ;rfl;rfl;(simp only [IntKind.bits];omega))|(apply Ad.AX;rfl)|(apply Ad.Ac;rfl)|(intro _;try (exfalso;omega)))
   all_goals first|(exfalso;omega)|contradiction|(refine Done.rt rfl rfl ⟨?_,rfl,rfl⟩;try rfl)
theorem a2f {l:List Int} (h:Rx l=0):2≤l.length:=by
 unfold Rx at h;omega
theorem RD (o:He) (p:F7) (ho:UF o) (hp:YC p):Ak env 31 [.agg (Enc.enc o),.agg (Enc.enc p)] (.p (.int .i64 (XJ o p))):=by
 have hc:=Wq o ho;have hb:=a1e p.bars hp.bars;have b3:=hp.sets;unfold XJ fM;refine Ak.enter (Ae (by decide)) Tryz.func31 rfl (by kernel_rfl) (by simp [Tryz.ntmps31]) ?_;by_cases e1:Vs o=0
 case neg =>
  rw [if_pos e1]
  repeat' (first|(apply Aa.fn;rfl;rfl;exact hc;intro _;rfl)|refine go1 ?_|(apply Aa.int;rfl;rfl;rfl)|(apply Ad.Ac;rfl)|(intro _;try (exfalso;omega)))
  all_goals first|(exfalso;omega)|contradiction|(refine Done.rt rfl rfl ⟨?_,rfl,rfl⟩;try rfl)
 rw [if_neg (fun h=>h e1)];rw [e1] at hc;have k1:=b4i ho e1;have d1:=k1.Af;by_cases e2:Rx p.bars=0
 case neg =>
  rw [if_pos e2]
  repeat' (first|(apply Aa.fn;rfl;rfl;exact hc;intro _;rfl)|(apply Aa.fn;rfl;rfl;exact hb;intro _;rfl)|refine go1 ?_|(apply Aa.int;rfl;rfl;rfl)|(apply Ad.Aj;rfl)|(apply Ad.Ac;rfl)|(intro _;try (exfalso;omega)))
  all_goals first|(exfalso;omega)|contradiction|(refine Done.rt rfl rfl ⟨?_,rfl,rfl⟩;try rfl)
 rw [if_neg (fun h=>h e2)];rw [e2] at hb;have h2:=a2f e2;have hn:=tK o p hp h2 (by omega);by_cases e3:p.notes.length>1000
 ·rw [if_pos e3] at hn
  rw [if_pos e3]
  repeat' (first|(apply Aa.fn;rfl;rfl;exact hc;intro _;rfl)|(apply Aa.fn;rfl;rfl;exact hb;intro _;rfl)|(apply Aa.fn;rfl;rfl;exact hn;intro _;rfl)|refine go1 ?_|(apply Aa.int;rfl;rfl;rfl)|(apply Ad.AX;rfl)|(apply Ad.Aj;rfl))
  all_goals first|(exfalso;omega)|contradiction|(refine Done.rt rfl rfl ⟨?_,rfl,rfl⟩;try rfl)
 rw [if_neg e3] at hn;rw [if_neg e3];by_cases e4:HY o (OU p) (Qd p) p.notes 0=0
 case neg =>
  rw [if_pos e4]
  repeat' (first|(apply Aa.fn;rfl;rfl;exact hc;intro _;rfl)|(apply Aa.fn;rfl;rfl;exact hb;intro _;rfl)|(apply Aa.fn;rfl;rfl;exact hn;intro _;rfl)|refine go1 ?_|(apply Aa.int;rfl;rfl;rfl)|(apply Ad.Aj;rfl)|(apply Ad.Ac;rfl)|(intro _;try (exfalso;omega)))
  all_goals first|(exfalso;omega)|contradiction|(refine Done.rt rfl rfl ⟨?_,rfl,rfl⟩;try rfl)
 rw [if_neg (fun h=>h e4)];rw [e4] at hn;by_cases e5:p.sets.length>100
 ·rw [if_pos e5]
  repeat' (first|(apply Aa.fn;rfl;rfl;exact hc;intro _;rfl)|(apply Aa.fn;rfl;rfl;exact hb;intro _;rfl)|(apply Aa.fn;rfl;rfl;exact hn;intro _;rfl)|refine go1 ?_|(apply Aa.int;rfl;rfl;rfl)|(apply Ad.Aj;rfl)|(apply Ad.Ac;rfl)|(intro _;try (exfalso;omega)))
  all_goals first|(exfalso;omega)|contradiction|(refine Done.rt rfl rfl ⟨?_,rfl,rfl⟩;try rfl)
 rw [if_neg e5];have b1:=hp.bars;obtain ⟨E,hE⟩:∃ E,E=OO o p.bars.length p.sets 0:=⟨_,rfl⟩
 rw [← hE]
 repeat' (first|(apply Aa.fn;rfl;rfl;exact hc;intro _;rfl)|(apply Aa.fn;rfl;rfl;exact hb;intro _;rfl)|(apply Aa.fn;rfl;rfl;exact hn;intro _;rfl)|refine go1 ?_|(apply Aa.int;rfl;rfl;rfl)|(apply Ad.Aj;rfl)|(apply Ad.Ac;rfl)|(intro _;try (exfalso;omega)))
 all_goals try (exfalso;omega)
 all_goals try contradiction
 apply Ad.Il (p.sets.length) (fun k=>OO o p.bars.length p.sets k=E) [(2,_),(3,_),(33,_),(34,_)] [(0,_),(1,_)] (fun k r=>(35,.p (.int .i64 (k:Int)))::r) (fun k r=>r) 2
 ·first|omega|decide
 ·first|omega|decide
 ·exact RH
 ·exact U0
 ·first|(intro _ _;omega)|omega|trivial
 ·intro k hk hi
  have e:=YD (o:=o) (nb:=p.bars.length) hk;have hr:=a2e o k1 (gi p.sets k).reg (hp.reg k hk);have hkc:0<k→(k:Int)-1=((k-1:Nat):Int):=fun h=>by omega
  unfold MV at e;by_cases h1:(gi p.sets k).bar<0∨(gi p.sets k).bar≥(p.bars.length:Int)-1
  ·rw [if_pos h1,if_pos (by decide)] at e
   rw [← hi,e]
   repeat' (first|(apply Aa.Ap;rfl;rfl;rfl;omega;rfl)|refine JA ?_|(apply Ai.guard;rfl;rfl)|(apply Ad.Ac;rfl)|(apply Ad.cond_true;rfl)|(apply Ad.Au;rfl)|(intro _;try (exfalso;omega)))
   all_goals first|(exfalso;omega)|(refine Done.rt rfl rfl ⟨?_,rfl,rfl⟩;try rfl)
  rw [if_neg h1] at e;by_cases h3:0<k∧(gi p.sets k).bar=(gi p.sets (k-1)).bar
  ·rw [if_pos h3,if_pos (by decide)] at e
   rw [← hi,e]
   repeat' (first|(apply Aa.Ap (l:=p.sets) (i:=k-1);rfl;exact congrArg (fun b=>some (PV.p (.int .i64 b))) (hkc h3.1);rfl;omega;rfl)|(apply Aa.Ap;rfl;rfl;rfl;omega;rfl)|refine FT ?_|(apply Ai.guard;rfl;rfl)|(apply Ag.guard;rfl;rfl)|(apply Aa.int;rfl;rfl;rfl)|(apply Ad.Ac;rfl)|(apply Ad.Au;rfl)|(intro _;try (exfalso;omega)))
   all_goals first|(exfalso;omega)|(refine Done.rt rfl rfl ⟨?_,rfl,rfl⟩;try rfl)
  rw [if_neg h3] at e;by_cases h4:0<k∧(gi p.sets k).bar<(gi p.sets (k-1)).bar
  ·rw [if_pos h4,if_pos (by decide)] at e
   rw [← hi,e]
   repeat' (first|(apply Aa.Ap (l:=p.sets) (i:=k-1);rfl;exact congrArg (fun b=>some (PV.p (.int .i64 b))) (hkc h4.1);rfl;omega;rfl)|(apply Aa.Ap;rfl;rfl;rfl;omega;rfl)|refine FT ?_|(apply Ai.guard;rfl;rfl)|(apply Ag.guard;rfl;rfl)|(apply Aa.int;rfl;rfl;rfl)|(apply Ad.Ac;rfl)|(apply Ad.Au;rfl)|(intro _;try (exfalso;omega)))
   all_goals first|(exfalso;omega)|(refine Done.rt rfl rfl ⟨?_,rfl,rfl⟩;try rfl)
  rw [if_neg h4] at e;by_cases h5:Vo o (gi p.sets k).reg=0
  case neg =>
   rw [if_pos h5] at e;rw [← hi,e];by_cases h0:k=0
   ·repeat' (first|(apply Aa.fn;rfl;rfl;exact hr;intro _;rfl)|(apply Aa.Ap;rfl;rfl;rfl;omega;rfl)|refine FT ?_|(apply Ai.guard;rfl;rfl)|(apply Ag.guard;rfl;rfl)|(apply Aa.int;rfl;rfl;rfl)|(apply Ad.Ac;rfl)|(apply Ad.cond_false;rfl)|(apply Ad.Au;rfl)|(intro _;try (exfalso;omega)))
    all_goals first|(exfalso;omega)|contradiction|(refine Done.rt rfl rfl ⟨?_,rfl,rfl⟩;try rfl)
   ·repeat' (first|(apply Aa.fn;rfl;rfl;exact hr;intro _;rfl)|(apply Aa.Ap (l:=p.sets) (i:=k-1);rfl;exact congrArg (fun b=>some (PV.p (.int .i64 b))) (hkc (by omega));rfl;omega;rfl)|(apply Aa.Ap;rfl;rfl;rfl;omega;rfl)|refine FT ?_|(apply Ai.guard;rfl;rfl)|(apply Ag.guard;rfl;rfl)|(apply Aa.int;rfl;rfl;rfl)|(apply Ad.Ac;rfl)|(apply Ad.Au;rfl)|(intro _;try (exfalso;omega)))
    all_goals first|(exfalso;omega)|contradiction|(refine Done.rt rfl rfl ⟨?_,rfl,rfl⟩;try rfl)
  rw [if_neg (fun h=>h h5)] at e;rw [h5] at hr;by_cases h0:k=0
  ·repeat' (first|(apply Aa.fn;rfl;rfl;exact hr;intro _;rfl)|(apply Aa.Ap;rfl;rfl;rfl;omega;rfl)|refine FT ?_|(apply Ai.guard;rfl;rfl)|(apply Ag.guard;rfl;rfl)|(apply Aa.int;rfl;rfl;rfl)|(apply Ad.Ac;rfl)|(apply Ad.cond_false;rfl)|(apply Ad.Au;rfl)|(intro _;try (exfalso;omega)))
   all_goals try (exfalso;omega)
   all_goals try contradiction
   refine Ah.normal ⟨(e.symm.trans hi),by first|omega|decide,?_,?_⟩
   ·exact Dl
   ·exact Eh
  ·repeat' (first|(apply Aa.fn;rfl;rfl;exact hr;intro _;rfl)|(apply Aa.Ap (l:=p.sets) (i:=k-1);rfl;exact congrArg (fun b=>some (PV.p (.int .i64 b))) (hkc (by omega));rfl;omega;rfl)|(apply Aa.Ap;rfl;rfl;rfl;omega;rfl)|refine FT ?_|(apply Ai.guard;rfl;rfl)|(apply Ag.guard;rfl;rfl)|(apply Aa.int;rfl;rfl;rfl)|(apply Ad.Ac;rfl)|(apply Ad.cond_false;rfl)|(apply Ad.Au;rfl)|(intro _;try (exfalso;omega)))
   all_goals try (exfalso;omega)
   all_goals try contradiction
   refine Ah.normal ⟨(e.symm.trans hi),by first|omega|decide,?_,?_⟩
   ·exact Dl
   ·exact Eh
 ·intro hi
  rw [a1b] at hi;rw [← hi]
  repeat' (first|refine go2 ?_|(apply Ad.Ac;rfl)|(intro _;try (exfalso;omega)))
  all_goals first|(exfalso;omega)|(refine Done.rt rfl rfl ⟨?_,rfl,rfl⟩;try rfl)
noncomputable def atE (o:He) (p:F7) (t:Int):Int:=if XJ o p≠0 then XJ o p else if t<OU p∨t≥Qd p then 3 else 0
end Go.Proofs.YtnjkoebfgcbbdaaGreatDoor
namespace Go.Proofs.YtnjkoebfgcbbdaaGreatDoor
open Go Go.Am Go.Vm
attribute [local irreducible] Aa Ai Ag Ad AP Ak Bf BM Bq Ah Vm.Done BD AB
def b7r (o:He):Rgs:=⟨List.replicate o.Af.length 0,0,0⟩
def b8h (o:He) (k:Nat):Nat:=2 ^ (gi o.Af k).stops.length-1
def c5r (o:He):Rgs:=⟨b5s (b8h o) (List.replicate o.Af.length 0) o.Af.length,2 ^ o.IK.length-1,0⟩
def c4w (r:Rgs) (d s:Nat):Rgs:=⟨r.stops.set d (gi r.stops d ||| 2 ^ s),r.cp,r.off⟩
def b5c (a b:Rgs) (k:Nat):Nat:=gi a.stops k ||| gi b.stops k
def c3h (a b:Rgs):Rgs:=⟨b5s (b5c a b) a.stops a.stops.length,a.cp ||| b.cp,a.off ||| b.off⟩
open Go.Pie
attribute [local irreducible] Ci Ba DV DN Eo AZ
def ZE (p:F7) (t:Int) (i:Nat):Bool:=decide ((gi p.notes i).s≤t)&&decide (t<(gi p.notes i).e)
def Lr (p:F7) (t:Int):Nat→List Int
 |0=>[]
 |k+1=>if ZE p t k=true then Lr p t k++[(k:Int)] else Lr p t k
def snd (p:F7) (t:Int):List Int:=Lr p t p.notes.length
theorem Ut (p:F7) (t:Int):∀ k,(Lr p t k).length≤k
 |0=>ab _
 |k+1=>by
  have:=Ut p t k;unfold Lr;grind
theorem oZ (p:F7) (hp:YC p) (t:Int):Bf env 50 [.agg (Enc.enc p),.int .i64 t] 3 (cells (snd p t)) (snd p t).length true:=by
 refine Bf.enter (Ae (by decide)) Tryz.func50 rfl (by kernel_rfl) (by simp [Tryz.ntmps50]) ?_;have b1:=hp.notes
 repeat' (first|refine go1 ?_|fail)
 all_goals try (exfalso;omega)
 refine Ad.ghost (Aw.adopt 5 3 rfl) ?_;apply Ad.Jj (p.notes.length) [(1,_),(9,_),(10,_)] [(0,_)] (fun k r=>(11,.p (.int .i64 (k:Int)))::(5,.vec 1 (Lr p t k).length 0 (Lr p t k).length)::r) (fun k r=>(1,.vec 3 (cells (Lr p t k)) (Lr p t k).length true)::r) 2
 ·first|omega|decide
 ·first|omega|decide
 ·exact RH
 ·exact U0
 ·intro k hk
  have hl:=Ut p t k;have e1:Lr p t (k+1)=if ZE p t k=true then Lr p t k++[(k:Int)] else Lr p t k:=rfl
  by_cases h1:(gi p.notes k).s≤t∧t<(gi p.notes k).e
  ·have hb:ZE p t k=true:=by unfold ZE;rw [decide_eq_true h1.1,decide_eq_true h1.2];rfl
   rw [if_pos hb] at e1;have e2:(Lr p t (k+1)).length=(Lr p t k).length+1:=by rw [e1];simp
   repeat' (first|(apply Aa.Dw (a:=(k:Int));rfl;rfl;rfl;rfl;rfl;rfl;rfl;rfl;(intro _ h;cases h);rfl;rfl;rfl;decide;decide;(first|omega|(simp only [List.length_take,List.length_drop,List.length_append,List.length_singleton,List.length_cons,List.length_nil]<;>omega)))|(apply Aa.Ap;rfl;rfl;rfl;omega;rfl)|refine FT ?_|(apply Ai.guard;rfl;rfl)|(apply Aa.int;rfl;rfl;rfl)|(apply Aa.buildSlice;rfl;rfl;rfl;decide;rfl;rfl;rfl)|(apply Ad.Ac;rfl)|(apply Ad.Au;rfl)|(intro _;try (exfalso;omega)))
   all_goals try (exfalso;omega)
   refine Ah.normal ⟨by first|omega|decide,?_,?_⟩
   ·try (first|rw [e2,e1]|rw [e2])
    exact Dl
   ·first|rw [e2,e1]|rw [e2]
    exact Eh
  ·have hb:¬ ZE p t k=true:=by
    unfold ZE;intro h;rw [eK,decide_eq_true_iff,decide_eq_true_iff] at h;exact h1 h
   rw [if_neg hb] at e1
   repeat' (first|(apply Aa.Ap;rfl;rfl;rfl;omega;rfl)|refine JA ?_|(apply Ai.guard;rfl;rfl)|(apply Ad.Ac;rfl)|(apply Ad.cond_false;rfl)|(apply Ad.Au;rfl)|(intro _;try (exfalso;omega)))
   all_goals try (exfalso;omega)
   all_goals
    refine Ah.normal ⟨by first|omega|decide,?_,?_⟩
    ·try (rw [e1])
     exact Dl
    ·rw [e1]
     exact Eh
 ·repeat' (first|refine go2 ?_|(apply Ad.Ac;rfl)|(intro _;try (exfalso;omega)))
  all_goals first|(exfalso;omega)|exact BD.ret rfl rfl rfl rfl
def b9o (p:F7) (t:Int):Nat→Int
 |0=>-1
 |k+1=>if gi p.bars (gi p.sets k).bar.toNat≤t then (k:Int) else b9o p t k
def wan (p:F7) (t:Int):Int:=b9o p t p.sets.length
def c7y (o:He) (p:F7) (t:Int):Rgs:=if wan p t<0 then b7r o else (gi p.sets (wan p t).toNat).reg
end Go.Proofs.YtnjkoebfgcbbdaaGreatDoor
namespace Go.Proofs.YtnjkoebfgcbbdaaGreatDoor
open Go Go.Am Go.Vm
attribute [local irreducible] Aa Ai Ag Ad AP Ak Bf BM Bq Ah Vm.Done BD AB
structure JZ where
 lo:Nat
 hi:Nat
instance:Enc JZ:={ default:=⟨0,0⟩,enc:=fun x=>[.int .u64 (x.lo:Int),.int .u64 (x.hi:Int)],size:=2,len:=fun _=>rfl }
structure JZ.Ok (s:JZ):Prop where
 lo:s.lo<2 ^ 64
 hi:s.hi<2 ^ 64
def JZ.has (s:JZ) (n:Nat):Bool:=if n<64 then s.lo.testBit n else s.hi.testBit (n-64)
def GR (s:JZ) (n:Nat):JZ:=if n<64 then ⟨s.lo ||| 2 ^ n,s.hi⟩ else ⟨s.lo,s.hi ||| 2 ^ (n-64)⟩
def sH (a b:JZ):JZ:=⟨a.lo ||| b.lo,a.hi ||| b.hi⟩
def c6f (a b:JZ):Bool:=decide (a.lo ^^^ (a.lo &&& b.lo)=0)&&decide (a.hi ^^^ (a.hi &&& b.hi)=0)
def qF (l:List Int):Nat→JZ
 |0=>⟨0,0⟩
 |k+1=>GR (qF l k) (gi l k).toNat
def c2d (a:Nat):Nat→JZ
 |0=>⟨0,0⟩
 |k+1=>GR (c2d a k) (a+k)
theorem YS {s:JZ} (h:s.Ok) {n:Nat} (hn:n<128):(GR s n).Ok:=by
 unfold GR;split
 ·exact ⟨ez h.lo (dm (by omega) (by omega)),h.hi⟩
 ·exact ⟨h.lo,ez h.hi (dm (by omega) (by omega))⟩
theorem b0y {a b:JZ} (ha:a.Ok) (hb:b.Ok):(sH a b).Ok:=⟨ez ha.lo hb.lo,ez ha.hi hb.hi⟩
theorem TM:(⟨0,0⟩:JZ).Ok:=⟨by simp,by simp⟩
theorem ZM {l:List Int} (h:∀ i,i<l.length→0≤gi l i∧gi l i≤127):∀ k,k≤l.length→(qF l k).Ok
 |0,_=>TM
 |k+1,hk=>YS (ZM h k (by omega)) (by grind)
section
variable {E:Env} {L:Vm.Frame} {H:Vm.Heap} {nx:Nat} {Q:PV→Heap→Nat→Prop} {w:Bool} {dst:Option Tmp} {ty:TypeId} {pos:String} {af:Array Edge} {gd:Option (Nat×Bool)}
theorem b7p {t t2:TypeId} {x y:Operand} {k':IntKind} {n:Int} (m:Nat) (hx:AU E.Γ L x=some (.p (.int .u64 1))) (hy:AU E.Γ L y=some (.p (.int k' n))) (hn:n=m∧m<64) (q:Q (.p (.int .u64 ((2 ^ m:Nat):Int))) H nx) :
 Aa E w ⟨dst,.binOp .shl t x y t2,ty,pos,af,gd⟩ L H nx Q:=by
 obtain ⟨rfl,hn⟩:=hn;exact Aa.jF hx hy hn q
end
theorem qh (n:Int):Ak env 58 [.int .i64 n] (.p (.bool (decide (0≤n∧n≤127)))):=by
 refine Ak.enter (Ae (by decide)) Tryz.func58 rfl (by kernel_rfl) (by simp) ?_
 repeat' (first|refine JA ?_|(apply Ai.guard;rfl;rfl)|(intro _))
 all_goals (refine Done.rt rfl rfl ⟨?_,rfl,rfl⟩;grind)
theorem Pv (a b:JZ) (ha:a.Ok) (hb:b.Ok):Ak env 109 [.agg (Enc.enc a),.agg (Enc.enc b)] (.p (.agg (Enc.enc (sH a b)))):=by
 have a1:=ha.lo;have a2:=ha.hi;have b1:=hb.lo;have b2:=hb.hi;refine Ak.enter (Ae (by decide)) Tryz.func109 rfl (by kernel_rfl) (by simp) ?_
 repeat' (first|refine FT ?_|(apply Aa.build;rfl;rfl;rfl;rfl;rfl))
 all_goals (refine Done.rt rfl rfl ⟨?_,rfl,rfl⟩;try rfl)
theorem uq (s:JZ) (hs:s.Ok) (n:Nat) (hn:n<128):Ak env 59 [.agg (Enc.enc s),.int .i64 (n:Int)] (.p (.agg (Enc.enc (GR s n)))):=by
 have s1:=hs.lo;have s2:=hs.hi;unfold GR;by_cases h:n<64
 ·have p1:2 ^ n<2 ^ 64:=dm (by omega) h
  rw [if_pos h];refine Ak.enter (Ae (by decide)) Tryz.func59 rfl (by kernel_rfl) (by simp [Tryz.ntmps59]) ?_
  repeat' (first|refine JA ?_|(apply b7p n;rfl;rfl;omega)|(apply Ad.Ac;rfl)|(intro _;try (exfalso;omega)))
  all_goals first|(exfalso;omega)|(refine Done.rt rfl rfl ⟨?_,rfl,rfl⟩;try rfl)
 ·have p1:2 ^ (n-64)<2 ^ 64:=dm (by omega) (by omega)
  rw [if_neg h];refine Ak.enter (Ae (by decide)) Tryz.func59 rfl (by kernel_rfl) (by simp [Tryz.ntmps59]) ?_
  repeat' (first|refine JA ?_|(apply b7p (n-64);rfl;rfl;omega)|(apply Ad.Ac;rfl)|(intro _;try (exfalso;omega)))
  all_goals first|(exfalso;omega)|(refine Done.rt rfl rfl ⟨?_,rfl,rfl⟩;try rfl)
theorem mY (l:List Int) (hl:l.length<1000000) (h:∀ i,i<l.length→0≤gi l i∧gi l i≤127):Ak env 24 [.lst 3 (cells l) l.length] (.DX [.p (.agg (Enc.enc (qF l l.length))),.p (.int .i64 0)]):=by
 refine Ak.enter (Ae (by decide)) Tryz.func24 rfl (by kernel_rfl) (by simp [Tryz.ntmps24]) ?_
 repeat' (first|refine go1 ?_|fail)
 apply Ad.Jj (l.length) [(2,_),(4,_),(7,_),(8,_)] [(0,_)] (fun k r=>(9,.p (.int .i64 (k:Int)))::r) (fun k r=>(1,.box 84 ((Enc.enc (qF l k)).map .p))::r) 2
 ·first|omega|decide
 ·first|omega|decide
 ·exact RH
 ·exact U0
 ·intro k hk
  have h0:=h k hk;have h1:=qh (gi l k);rw [decide_eq_true h0] at h1;have h2:=uq (qF l k) (ZM h k (by omega)) (gi l k).toNat (by omega);rw [dx h0.1] at h2
  repeat' (first|(apply Aa.fn;rfl;rfl;exact h1;intro _;rfl)|(apply Aa.fn;rfl;rfl;exact h2;intro _;rfl)|(apply Aa.Ap;rfl;rfl;rfl;omega;rfl)|refine go1 ?_|(apply Aa.int;rfl;rfl;rfl)|(apply Ad.Aj;rfl)|(apply Ad.Ac;rfl)|(intro _;try (exfalso;omega)))
  all_goals try (exfalso;omega)
  refine Ah.normal ⟨by first|omega|decide,?_,?_⟩
  ·exact Dl
  ·exact Eh
 ·repeat' (first|refine JA ?_|(apply Ad.Ac;rfl)|(intro _;try (exfalso;omega)))
  all_goals first|(exfalso;omega)|(refine Done.rt rfl rfl ⟨?_,rfl,rfl⟩;try rfl)
end Go.Proofs.YtnjkoebfgcbbdaaGreatDoor
namespace Go.Vm
open Go.Am
structure c3i where
instance:Enc c3i:={ default:=⟨⟩,enc:=fun _=>[.val (.slice none 0 0)],size:=1,len:=fun _=>rfl }
section
variable {E:Env} {L:Frame} {H:Heap} {nx:Nat}
variable {Q:PV→Heap→Nat→Prop} {dst:Option Tmp} {ty:TypeId} {pos:String} {af:Array Edge} {gd:Option (Nat×Bool)}
theorem Aa.b0r {α:Type} {_:Enc α} {l:List α} (a1 a2:α) {s x:Operand} {sT xT e e2:TypeId} {xd:TypeDesc} {i:TypeInfo} {b b2 n:Nat} {xs:List FV} {z z2:Bool} (hs:AU E.Γ L s=some (.vec b n 0 n)) (hb:hget H b=some (.vec e (cells l) n z))
 (hx:AU E.Γ L x=some (.vec b2 2 0 2)) (hb2:hget H b2=some (.vec e2 xs 2 z2)) (hxs:xs=Enc.enc a1++Enc.enc a2) (hn:l.length=n) (wQ:E.P.underlying sT=some (.slice e)) (hxT:E.P.underlying xT=some xd) (hd:∀ k,xd≠.int k) (hi:E.P.info? e=some i)
 (hsz:Enc.size α=i.size) (hzs:D9 i=true) (h0:0<i.size) (hby:i.bytes<1000000) (hlen:l.length<900000) (q:Q (.vec b (l.length+2) 0 (l.length+2)) (hput H b (.vec e (cells (l++[a1,a2])) (l.length+2) z)) nx) :
 Aa E true ⟨dst,.call { callee:=.builtin .append,args:=#[s,x],argTypes:=#[sT,xT] },ty,pos,af,gd⟩ L H nx Q:=by
 subst hn;have hroom:(l.length+2)*(i.bytes+1)≤room:=am (cN (by omega:l.length+2≤1000000) (by omega:i.bytes+1≤1000000)) (by decide);refine Aa.append (i:=i) hs hb (rF.all hx hb2 (by rw [hxs,aE,Enc.len,Enc.len,← hsz];omega)) wQ hxT hd hi hzs (by omega) hroom (by rw [CZ,hsz]) h0 ?_;have:cells (l++[a1,a2])=cells l++xs:=by rw [FI,hxs];simp [cells,encs]
 grind
end
end Go.Vm
namespace Go.Proofs.YtnjkoebfgcbbdaaGreatDoor
open Go Go.Am Go.Vm Go.Pie
attribute [local irreducible] Aa Ai Ag Ad AP Ak Bf BM Bq Ah Vm.Done BD AB
attribute [local irreducible] Ci Ba DV DN Eo AZ CG
instance:Enc (List Int):={ default:=[],enc:=fun l=>[.lst 3 (cells l) l.length],size:=1,len:=fun _=>rfl }
def kdK (p:F7) (L:List Int) (d:Nat):Nat→List Int
 |0=>[]
 |k+1=>if (gi p.notes (gi L k).toNat).d=(d:Int) then kdK p L d k++[(gi p.notes (gi L k).toNat).k] else kdK p L d k
theorem Yp {p:F7} {t:Int}:∀ {k:Nat} {x:Int},x∈Lr p t k→0≤x∧x<k
 |0,x,h=>by cases h
 |k+1,x,h=>by
  unfold Lr at h;split at h
  ·rcases bm.1 h with h|h
   ·have:=Yp h;omega
   grind
  ·have:=Yp h;omega
theorem gi_mem' {l:List Int} {i:Nat} (h:i<l.length):gi l i∈l:=by
 unfold gi;grind
theorem b5p {p:F7} {t:Int} {i:Nat} (h:i<(snd p t).length):0≤gi (snd p t) i∧gi (snd p t) i<p.notes.length:=Yp (gi_mem' h)
theorem a1i.cmp {o:He} (h:a1i o) {i:Nat} (hi:i<o.Af.length):0≤(gi o.Af i).lo∧(gi o.Af i).hi≤127:=by
 have h0:=h.err;unfold Vs at h0;split at h0
 ·omega
 split at h0
 ·omega
 split at h0
 ·omega
 split at h0
 ·omega
 split at h0
 ·omega
 split at h0
 ·omega
 rename_i d3;have d3:GI o.ranks o.Af 0=0:=cK d3;have:=Vu _ 0 rfl d3 i (ao _) hi;unfold DN at this;split at this
 ·omega
 rename_i h1;unfold XM at h1;omega
def tlK (p:F7) (L:List Int) (k:Nat) (j:Nat):HB:=.vec 3 (cells (kdK p L j k)) (kdK p L j k).length true
def kdV (p:F7) (L:List Int) (nd k:Nat):HB:=.Py 28 ((List.range nd).map fun j=>.vec (4+j) (kdK p L j k).length 0 (kdK p L j k).length) nd
noncomputable def c5k (o:He) (p:F7) (t:Int):List JZ:=Bv (fun d=>qF (kdK p (snd p t) d (snd p t).length) (kdK p (snd p t) d (snd p t).length).length) o.Af.length
instance:Enc eG:={ default:=⟨0,0,[]⟩,enc:=fun x=>[.int .i64 x.s,.int .i64 x.e,.lst 3 (cells x.notes) x.notes.length],size:=3,len:=fun _=>rfl }
def Tz (p:F7):Nat→List Int
 |0=>[OU p,Qd p]
 |k+1=>Tz p k++[(gi p.notes k).s,(gi p.notes k).e]
theorem X5 (p:F7):∀ k,(Tz p k).length=2*k+2
 |0=>rfl
 |k+1=>by
  have:=X5 p k;unfold Tz;grind
def Dx (p:F7):List Int:=Lib.compact ((Tz p p.notes.length).mergeSort fun x y=>decide (x≤y))
theorem Xk (zs:List Int):(Lib.compact zs).length≤zs.length:=by
 unfold Lib.compact Lib.compactUpTo;grind
theorem yJ (p:F7):0<(Dx p).length:=by
 have h0:OU p∈Dx p:=by
  unfold Dx;rw [PE,ft];have:∀ k,OU p∈Tz p k:=by
   intro k
   induction k with
   |zero=>simp [Tz]
   |succ k ih=>exact cx _ ih
  grind
 grind
theorem b9e:∀ (m:Mem) (F:Nat→Prop) (us:List Value),Dc m F [] us→us=[]:=fun m F us h=>by cases h;rfl
def A8 (p:F7):List eG:=a3h (snd p) (Dx p)
theorem qW {o:He} {p:F7} (ho:UF o) (hE:XJ o p=0) (h:um o p):Ak env 16 [.agg (Enc.enc o),.agg (Enc.enc p)] (.DX [.p (.lst 81 (cells (A8 p)) (A8 p).length),.p (.int .i64 0)]):=by
 have ha:=RD o p ho h.sm;rw [hE] at ha;have hen:=gB p (by have:=h.bars;omega) h.sm.bars;have n1:=h.notes;have hsn:=oZ p h.sm;refine Ak.enter (Ae (by decide)) Tryz.func16 rfl (by kernel_rfl) (by simp [Tryz.ntmps16]) ?_
 repeat' (first|(apply Aa.fn;rfl;rfl;exact ha;intro _;rfl)|(apply Aa.fn;rfl;rfl;exact hen;intro _;rfl)|refine go1 ?_|(apply Aa.int;rfl;rfl;rfl)|(apply Aa.buildSlice;rfl;rfl;rfl;decide;rfl;rfl;rfl)|(apply Ad.Aj;rfl))
 all_goals try (exfalso;omega)
 all_goals try contradiction
 apply Ad.Jj (p.notes.length) [(3,_),(30,_),(31,_)] [(1,_)] (fun k r=>(32,.p (.int .i64 (k:Int)))::(9,.vec 2 (Tz p k).length 0 (Tz p k).length)::r) (fun k r=>(2,.vec 3 (cells (Tz p k)) (Tz p k).length false)::r) 3
 ·first|omega|decide
 ·first|omega|decide
 ·exact RH
 ·exact U0
 ·intro k hk
  have hl:=X5 p k;have e1:Tz p (k+1)=Tz p k++[(gi p.notes k).s,(gi p.notes k).e]:=rfl;have e2:(Tz p (k+1)).length=(Tz p k).length+2:=by rw [e1];simp
  repeat' (first|(apply Aa.b0r (l:=Tz p k) (gi p.notes k).s (gi p.notes k).e;rfl;rfl;rfl;rfl;rfl;rfl;rfl;rfl;(intro _ h;cases h);rfl;rfl;rfl;decide;decide;omega)|(apply Aa.Ap;rfl;rfl;rfl;omega;rfl)|refine go1 ?_|(apply Aa.int;rfl;rfl;rfl)|(apply Aa.buildSlice;rfl;rfl;rfl;decide;rfl;rfl;rfl)|(apply Ad.Ac;rfl)|(intro _;try (exfalso;omega)))
  all_goals try (exfalso;omega)
  refine Ah.normal ⟨by first|omega|decide,?_,?_⟩
  ·try (first|rw [e2,e1]|rw [e2])
   exact Dl
  ·first|rw [e2,e1]|rw [e2]
   exact Eh
 ·have hl:=X5 p p.notes.length
  obtain ⟨zs,hzs⟩:∃ zs,zs=Tz p p.notes.length:=⟨_,rfl⟩
  have hcl:=Xk ((Tz p p.notes.length).mergeSort fun x y=>decide (x≤y));have hml:((Tz p p.notes.length).mergeSort fun x y=>decide (x≤y)).length=(Tz p p.notes.length).length:=gE _;have htp:=yJ p;have htc:((Dx p).length:Int)-1=(((Dx p).length-1:Nat):Int):=by omega
  rw [show Lib.compact ((Tz p p.notes.length).mergeSort fun x y=>decide (x≤y))=Dx p from rfl] at hcl
  repeat' (first|(refine Ad.at 14 ?_;refine Ad.ghost (Aw.freeze 9 rfl rfl) ?_;first|apply Ad.BL|apply Ad.CO)|((refine Aa.b8d (Fn:=iI) (zs':=(Tz p p.notes.length).mergeSort fun x y=>decide (x≤y)) b1e rfl rfl rfl (rest:=[]) (rv:=[]) b9e rfl rfl (by omega) ?_ (by omega) ?_;(simp only [iI];rw [if_pos (by omega)])))|((refine Aa.b7v (Fn:=iw) (zs:=(Tz p p.notes.length).mergeSort fun x y=>decide (x≤y)) (zs':=Dx p++List.replicate ((Tz p p.notes.length).length-(Dx p).length) 0) (k:=(Dx p).length) a9v rfl rfl rfl (rest:=[]) (rv:=[]) b9e rfl hml (by omega) ?_ (by simp;omega) (by omega) ?_;(simp only [iw];rw [if_pos (by omega),hml];rfl);rw [List.take_left]))|(apply Aa.sliceTo (b:=(Dx p).length-1);rfl;exact congrArg (fun b=>some (PV.p (.int .i64 b))) htc;rfl;rfl;rfl;rfl;omega)|refine Zm ?_|apply Ad.BL|(apply Aa.int;rfl;rfl;rfl)|(apply Ad.Ac;rfl)|(intro _;try (exfalso;omega)))
  all_goals try (exfalso;omega)
  refine Ad.ghost (Aw.adopt 12 81 rfl) ?_;obtain ⟨F,hF⟩:∃ F:Nat→eG,F=fun i=>⟨gi (Dx p) i,gi (Dx p) (i+1),snd p (gi (Dx p) i)⟩:=⟨_,rfl⟩
  have hR:A8 p=Bv F ((Dx p).length-1):=by rw [hF];rfl
  rw [hR];apply Ad.Jj ((Dx p).length-1) [(3,_),(9,_),(52,_),(53,_)] [(1,_)] (fun k r=>(54,.p (.int .i64 (k:Int)))::(12,.vec 4 (Bv F k).length 0 (Bv F k).length)::r) (fun k r=>(4,.vec 81 (cells (Bv F k)) (Bv F k).length true)::r) 5
  ·first|omega|decide
  ·first|omega|decide
  ·exact RH
  ·exact U0
  ·intro k hk
   have hlF:=Cj F k;have hFk:F k=⟨gi (Dx p) k,gi (Dx p) (k+1),snd p (gi (Dx p) k)⟩:=by rw [hF]
   have e1:Bv F (k+1)=Bv F k++[⟨gi (Dx p) k,gi (Dx p) (k+1),snd p (gi (Dx p) k)⟩]:=by rw [← hFk];rfl
   have e2:(Bv F (k+1)).length=(Bv F k).length+1:=by rw [e1];simp
   have hg:gi ((Dx p).take ((Dx p).length-1)) k=gi (Dx p) k:=XZ hk;have hk1:(k:Int)+1=((k+1:Nat):Int):=by omega
   have hs:=hsn (gi (Dx p) k)
   repeat' (first|(refine Ag.atIdx 10 ?_;refine Ag.ghost (Aw.freeze 68 rfl rfl) ?_)|(refine Ag.atIdx 9 ?_;apply Ag.b8z [.tmp 64];decide +kernel;decide +kernel;rfl)|apply Ad.BL|apply Ad.region|apply Ad.Fe|apply Ad.G5|apply Ad.FP|apply BM.normal|apply Bq.normal|apply Ai.nil|apply Ag.nil|apply Ai.one|(apply Ag.bar;decide +kernel)|apply Ag.quiet|(apply Aa.fv;rfl;rfl;exact hs)|(apply Aa.Ap (l:=(Dx p).take ((Dx p).length-1)) (i:=k);rfl;rfl;rfl;(rw [aw];omega);(rw [aw];omega))|(apply Aa.load (r:=.p (.int .i64 (gi (Dx p) k)));rfl;exact (congrArg (fun b=>some (PV.p (FV.int .i64 b))) hg))|(apply Aa.Ap (l:=Dx p) (i:=k+1);rfl;exact congrArg (fun b=>some (PV.p (.int .i64 b))) hk1;rfl;omega;rfl)|(apply Aa.Dw (a:=(⟨gi (Dx p) k,gi (Dx p) (k+1),snd p (gi (Dx p) k)⟩:eG));rfl;rfl;rfl;rfl;rfl;rfl;rfl;rfl;(intro _ h;cases h);rfl;rfl;rfl;decide;decide;(first|omega|(simp only [List.length_take,List.length_drop,List.length_append,List.length_singleton,List.length_cons,List.length_nil]<;>omega)))|(apply Aa.assign;rfl)|(apply Aa.move;rfl)|(apply Aa.LV;rfl;rfl;omega)|(apply Aa.int;rfl;rfl;rfl)|(apply Aa.load;rfl;rfl)|(apply Aa.build;rfl;rfl;rfl;rfl;rfl)|(apply Aa.buildSlice;rfl;rfl;rfl;decide;rfl;rfl;rfl)|(apply Ad.Ac;rfl)|(intro _;try (exfalso;omega)))
   all_goals try (exfalso;omega)
   refine Ah.normal ⟨by first|omega|decide,?_,?_⟩
   ·try (first|rw [e2,e1]|rw [e2])
    exact Dl
   ·first|rw [e2,e1]|rw [e2]
    exact Eh
  ·repeat' (first|(refine Ai.Je 4 ?_;refine Ai.ghost (Aw.freeze 73 rfl rfl) ?_)|apply Ad.BL|apply Ad.Gi|apply BM.normal|apply Bq.exit|apply Ah.exit|apply Ad.ret|apply Ai.nil|apply Ai.one|(apply Aa.assign;rfl)|(apply Aa.move;rfl)|(apply Aa.int;rfl;rfl;rfl)|(apply Ad.Ac;rfl)|(intro _;try (exfalso;omega)))
   all_goals first|(exfalso;omega)|(refine Done.rt rfl rfl ⟨?_,rfl,rfl⟩;try rfl)
end Go.Proofs.YtnjkoebfgcbbdaaGreatDoor
namespace Go.Pop
def QN:List Nat→Nat
 |[]=>0
 |r::l=>256*QN l+r
def xX (s:Nat):Nat→Nat
 |0=>0
 |n+1=>256*xX s n+s
theorem and_split {q r M s:Nat} (hr:r<256) (hs:s<256):(256*q+r) &&& (256*M+s)=256*(q &&& M)+(r &&& s):=by
 have h1:((256*q+r) &&& (256*M+s)) / 2 ^ 8=(256*q+r) / 2 ^ 8 &&& (256*M+s) / 2 ^ 8:=Nat.and_div_two_pow;have h2:((256*q+r) &&& (256*M+s)) % 2 ^ 8=((256*q+r) % 2 ^ 8) &&& ((256*M+s) % 2 ^ 8):=Nat.and_mod_two_pow;rw [show (256*q+r) / 256=q by omega,show (256*M+s) / 256=M by omega] at h1;rw [show (256*q+r) % 256=r by omega,show (256*M+s) % 256=s by omega] at h2;omega
def b1 (r:Nat):Nat:=(r / 2 &&& 85)+(r &&& 85)
def b2 (r:Nat):Nat:=(r / 4 &&& 51)+(r &&& 51)
def b3 (r:Nat):Nat:=(r / 16+r) &&& 15
theorem f1:∀ b,b<2→∀ r,r<256→(128*b+r / 2) &&& 85=r / 2 &&& 85:=by decide +kernel
theorem f2:∀ b,b<4→∀ r,r<256→(64*b+r / 4) &&& 51=r / 4 &&& 51:=by decide +kernel
theorem s1 {q r M:Nat} (hr:r<256):((256*q+r) / 2 &&& (256*M+85))+((256*q+r) &&& (256*M+85))=256*((q / 2 &&& M)+(q &&& M))+b1 r:=by
 rw [show (256*q+r) / 2=256*(q / 2)+(128*(q % 2)+r / 2) by omega,and_split (by omega) (by decide),and_split hr (by decide),f1 _ (by omega) _ hr];unfold b1;omega
theorem s2 {q r M:Nat} (hr:r<256):((256*q+r) / 4 &&& (256*M+51))+((256*q+r) &&& (256*M+51))=256*((q / 4 &&& M)+(q &&& M))+b2 r:=by
 rw [show (256*q+r) / 4=256*(q / 4)+(64*(q % 4)+r / 4) by omega,and_split (by omega) (by decide),and_split hr (by decide),f2 _ (by omega) _ hr];unfold b2;omega
theorem b2z (x:Nat):x &&& 15=x % 16:=by
 have:=fh x 4;omega
theorem s3 {q r M:Nat} (hr:r % 16≤4∧r / 16≤4) (hq:q % 16≤4):((256*q+r) / 16+(256*q+r)) &&& (256*M+15)=256*((q / 16+q) &&& M)+b3 r:=by
 rw [show (256*q+r) / 16+(256*q+r)=256*(q / 16+q)+(16*(q % 16)+r / 16+r) by omega,and_split (by omega) (by decide)];unfold b3;rw [b2z,b2z];omega
theorem m1:∀ l:List Nat,(∀ r∈l,r<256)→(QN l / 2 &&& xX 85 l.length)+(QN l &&& xX 85 l.length)=QN (l.map b1)
 |[],_=>rfl
 |r::l,h=>by
  show ((256*QN l+r) / 2 &&& (256*xX 85 l.length+85))+((256*QN l+r) &&& (256*xX 85 l.length+85))=256*QN (l.map b1)+b1 r;rw [s1 (h r (by simp)),m1 l fun x hx=>h x (by grind)]
theorem m2:∀ l:List Nat,(∀ r∈l,r<256)→(QN l / 4 &&& xX 51 l.length)+(QN l &&& xX 51 l.length)=QN (l.map b2)
 |[],_=>rfl
 |r::l,h=>by
  show ((256*QN l+r) / 4 &&& (256*xX 51 l.length+51))+((256*QN l+r) &&& (256*xX 51 l.length+51))=256*QN (l.map b2)+b2 r;rw [s2 (h r (by simp)),m2 l fun x hx=>h x (by grind)]
theorem a9n:∀ l:List Nat,(∀ r∈l,r % 16≤4∧r / 16≤4)→QN l % 16≤4
 |[],_=>by decide
 |r::l,h=>by
  have:=(h r (by simp)).1;show (256*QN l+r) % 16≤4;omega
theorem m3:∀ l:List Nat,(∀ r∈l,r % 16≤4∧r / 16≤4)→(QN l / 16+QN l) &&& xX 15 l.length=QN (l.map b3)
 |[],_=>rfl
 |r::l,h=>by
  have hl:=fun x hx=>h x (an r hx)
  show ((256*QN l+r) / 16+(256*QN l+r)) &&& (256*xX 15 l.length+15)=256*QN (l.map b3)+b3 r;rw [s3 (h r (by simp)) (a9n l hl),m3 l hl]
def XH (p:Nat):Nat:=p % 2+p / 2 % 2+p / 4 % 2+p / 8 % 2+p / 16 % 2+p / 32 % 2+p / 64 % 2+p / 128 % 2
theorem k1:∀ r,r<256→b1 r<256∧(b2 (b1 r) % 16≤4∧b2 (b1 r) / 16≤4)∧b3 (b2 (b1 r))=XH r∧XH r≤8:=by decide +kernel
def swA (x:Nat):Nat:=(x / 2 &&& 6148914691236517205)+(x &&& 6148914691236517205)
def swB (x:Nat):Nat:=(x / 4 &&& 3689348814741910323)+(x &&& 3689348814741910323)
def swC (x:Nat):Nat:=(x / 16+x) &&& 1085102592571150095
def swD (x:Nat):Nat:=x+x / 256
def swE (x:Nat):Nat:=x+x / 65536
def swF (x:Nat):Nat:=x+x / 4294967296
def sw (x:Nat):Nat:=swF (swE (swD (swC (swB (swA x))))) &&& 127
def bytesOf (x:Nat):List Nat:=[x % 256,x / 256 % 256,x / 65536 % 256,x / 16777216 % 256,x / 4294967296 % 256,x / 1099511627776 % 256,x / 281474976710656 % 256,x / 72057594037927936 % 256]
theorem a1z {x:Nat} (h:x<18446744073709551616):QN (bytesOf x)=x:=by
 simp only [bytesOf,QN];omega
theorem pW (x:Nat):∀ r∈bytesOf x,r<256:=by
 intro r hr;simp only [bytesOf,List.mem_cons,List.not_mem_nil,or_false] at hr;omega
theorem b6m (x:Nat):x &&& 127=x % 128:=by
 have:=fh x 7;omega
theorem Qs {f:Nat→Nat} {P:Nat→Prop} {l:List Nat} (h:∀ r∈l,P (f r)):∀ r∈l.map f,P r :=by grind
theorem k85:xX 85 8=6148914691236517205 :=by decide
theorem k51:xX 51 8=3689348814741910323 :=by decide
theorem k15:xX 15 8=1085102592571150095 :=by decide
theorem U5 (x:Nat):(bytesOf x).length=8:=rfl
theorem abc {x:Nat} (h:x<18446744073709551616):swC (swB (swA x))=QN ((bytesOf x).map XH)∧swA x=QN ((bytesOf x).map b1)∧swB (swA x)=QN (((bytesOf x).map b1).map b2):=by
 have hb:=pW x;have e1:swA x=QN ((bytesOf x).map b1):=by
  have:=m1 (bytesOf x) hb;rw [a1z h,U5,k85] at this;assumption
 have e2:swB (swA x)=QN (((bytesOf x).map b1).map b2):=by
  rw [e1];have:=m2 ((bytesOf x).map b1) (Qs fun r hr=>(k1 r (hb r hr)).1);rw [bd,U5,k51] at this;assumption
 refine ⟨?_,e1,e2⟩;rw [e2];have h3:=m3 (((bytesOf x).map b1).map b2) (Qs (Qs (P:=fun y=>b2 y % 16≤4∧b2 y / 16≤4) fun r hr=>(k1 r (hb r hr)).2.1));have e3:(((bytesOf x).map b1).map b2).map b3=(bytesOf x).map XH:=by
  exact fk fun r hr=>(k1 r (hb r hr)).2.2.1
 rw [e3,bd,bd,U5,k15] at h3;assumption
theorem qg {x:Nat} (h:x<18446744073709551616):sw x=(XH (x % 256)+XH (x / 256 % 256)+XH (x / 65536 % 256)+XH (x / 16777216 % 256)+XH (x / 4294967296 % 256)+XH (x / 1099511627776 % 256)+XH (x / 281474976710656 % 256)+XH (x / 72057594037927936 % 256)) ∧
 swC (swB (swA x))<1157442765409226760∧swA x<18446744073709551616∧swB (swA x)≤4919131752989213764:=by
 obtain ⟨e,eA,eB⟩:=abc h;have hk:=fun r (hr:r<256)=>(k1 r hr).2.2.2
 have c0:=hk (x % 256) (by omega);have c1:=hk (x / 256 % 256) (by omega);have c2:=hk (x / 65536 % 256) (by omega);have c3:=hk (x / 16777216 % 256) (by omega);have c4:=hk (x / 4294967296 % 256) (by omega);have c5:=hk (x / 1099511627776 % 256) (by omega);have c6:=hk (x / 281474976710656 % 256) (by omega);have c7:=hk (x / 72057594037927936 % 256) (by omega);have hlt:∀ l:List Nat,l.length=8→(∀ r∈l,r<256)→QN l<18446744073709551616:=by
  intro l hl hr
  match l,hl with
  |[y0,y1,y2,y3,y4,y5,y6,y7],_ =>
   have h0:=hr y0 (by simp);have h1:=hr y1 (by simp);have h2:=hr y2 (by simp);have h3:=hr y3 (by simp);have h4:=hr y4 (by simp);have h5:=hr y5 (by simp);have h6:=hr y6 (by simp);have h7:=hr y7 (by simp);simp only [QN];omega
 have hlt2:∀ l:List Nat,l.length=8→(∀ r∈l,r≤68)→QN l≤4919131752989213764:=by
  intro l hl hr
  match l,hl with
  |[y0,y1,y2,y3,y4,y5,y6,y7],_ =>
   have h0:=hr y0 (by simp);have h1:=hr y1 (by simp);have h2:=hr y2 (by simp);have h3:=hr y3 (by simp);have h4:=hr y4 (by simp);have h5:=hr y5 (by simp);have h6:=hr y6 (by simp);have h7:=hr y7 (by simp);simp only [QN];omega
 have hb:=pW x;refine ⟨?_,?_,by rw [eA];exact hlt _ rfl (Qs fun r hr=>(k1 r (hb r hr)).1),by rw [eB];exact hlt2 _ rfl (Qs (Qs (P:=fun y=>b2 y≤68) fun r hr=>by have:=(k1 r (hb r hr)).2.1;omega))⟩
 ·unfold sw
  rw [e,b6m];simp only [bytesOf,List.map_cons,List.map_nil,QN,swD,swE,swF];generalize XH (x % 256)=y0 at *;generalize XH (x / 256 % 256)=y1 at *;generalize XH (x / 65536 % 256)=y2 at *;generalize XH (x / 16777216 % 256)=y3 at *;generalize XH (x / 4294967296 % 256)=y4 at *;generalize XH (x / 1099511627776 % 256)=y5 at *;generalize XH (x / 281474976710656 % 256)=y6 at *;generalize XH (x / 72057594037927936 % 256)=y7 at *;clear e eA eB hk hb hlt hlt2 h;have d1:(256*(256*(256*(256*(256*(256*(256*(256*0+y7)+y6)+y5)+y4)+y3)+y2)+y1)+y0) / 256=256*(256*(256*(256*(256*(256*y7+y6)+y5)+y4)+y3)+y2)+y1:=by omega
  rw [d1];clear d1;have d2:(256*(256*(256*(256*(256*(256*(256*(256*0+y7)+y6)+y5)+y4)+y3)+y2)+y1)+y0+(256*(256*(256*(256*(256*(256*y7+y6)+y5)+y4)+y3)+y2)+y1)) / 65536=256*(256*(256*(256*(256*y7+(y6+y7))+(y5+y6))+(y4+y5))+(y3+y4))+(y2+y3):=by omega
  rw [d2];clear d2;have d3:(256*(256*(256*(256*(256*(256*(256*(256*0+y7)+y6)+y5)+y4)+y3)+y2)+y1)+y0+(256*(256*(256*(256*(256*(256*y7+y6)+y5)+y4)+y3)+y2)+y1)+(256*(256*(256*(256*(256*y7+(y6+y7))+(y5+y6))+(y4+y5))+(y3+y4))+(y2+y3))) / 4294967296=256*(256*(256*y7+(y6+y7))+(y5+y6+y7))+(y4+y5+y6+y7):=by omega
  rw [d3];clear d3;omega
 ·rw [e]
  simp only [bytesOf,List.map_cons,List.map_nil,QN];omega
def cnt (n p:Nat):Nat:=((List.range n).filter p.testBit).length
theorem JQ (n p:Nat):cnt (n+1) p=p % 2+cnt n (p / 2):=by
 unfold cnt;rw [gt,di];have e:((List.map Nat.succ (List.range n)).filter p.testBit).length=((List.range n).filter (p / 2).testBit).length:=by
  rw [List.filter_map,bd];congr 1
  refine fx fun i _=>?_
  grind
 grind
theorem Xi (n p:Nat):cnt (n+8) p=XH p+cnt n (p / 256):=by
 rw [show n+8=n+7+1 from rfl,JQ,show n+7=n+6+1 from rfl,JQ,show n+6=n+5+1 from rfl,JQ,show n+5=n+4+1 from rfl,JQ,show n+4=n+3+1 from rfl,JQ,show n+3=n+2+1 from rfl,JQ,show n+2=n+1+1 from rfl,JQ,JQ];unfold XH;simp only [Nat.div_div_eq_div_mul,Nat.reduceMul];omega
theorem a9p (p:Nat):XH (p % 256)=XH p:=by unfold XH;omega
theorem b6x {x:Nat} (h:x<18446744073709551616):sw x=cnt 64 x:=by
 rw [(qg h).1];simp only [a9p];rw [show (64:Nat)=56+8 from rfl,Xi,show (56:Nat)=48+8 from rfl,Xi,show (48:Nat)=40+8 from rfl,Xi,show (40:Nat)=32+8 from rfl,Xi,show (32:Nat)=24+8 from rfl,Xi,show (24:Nat)=16+8 from rfl,Xi,show (16:Nat)=8+8 from rfl,Xi,show (8:Nat)=0+8 from rfl,Xi];simp only [Nat.div_div_eq_div_mul,Nat.reduceMul];show _=_+(_+(_+(_+(_+(_+(_+(_+0)))))));omega
end Go.Pop
namespace Go.Proofs.YtnjkoebfgcbbdaaGreatDoor
theorem a9u {x:Nat} (h:x<18446744073709551616):Go.Pop.sw x=(GU x).length:=Go.Pop.b6x h
end Go.Proofs.YtnjkoebfgcbbdaaGreatDoor
namespace Go.Vm
open Go.Am
section
variable {E:Env} {L:Frame} {H:Heap} {nx:Nat} {Q:PV→Heap→Nat→Prop} {w:Bool}
variable {dst:Option Tmp} {ty:TypeId} {pos:String} {af:Array Edge} {gd:Option (Nat×Bool)}
variable {bn:Nat} {ops:Array Oper} {op:Op} {l:List Oper} {i:Nat} {R:Frame→Heap→Nat→Prop}
def c4u (E:Env) (bn d:Nat) (ops:Array Oper) (i:Nat) (l:List Oper) (L:Frame) (H:Heap) (nx:Nat) (Q:Frame→Heap→Nat→Prop):Prop :=
 ∀ (B:Base),B.nx=bn→∀ m F σ t,Ctx E.Γ m F σ H nx→RL m F (htag H) σ nx L t→Cb t d=.slice emptyAt 0 0→B.to m F σ H nx →
  IZ E.P E.O E.G ops i l ⟨t,m⟩ fun s'=>∃ L' H' nx' F' σ',Q L' H' nx'∧Ctx E.Γ s'.m F' σ' H' nx'∧RL s'.m F' (htag H') σ' nx' L' s'.t∧B.to s'.m F' σ' H' nx'
end
variable {E:Env} {L:Frame} {H:Heap} {nx:Nat}
section
variable {Q:PV→Heap→Nat→Prop} {w:Bool} {dst:Option Tmp} {ty:TypeId} {pos:String} {af:Array Edge} {gd:Option (Nat×Bool)}
end
end Go.Vm
