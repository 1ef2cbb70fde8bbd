/-
  Texts of a proof, merged (HanN, HanS, HanT, HanU, HanV, PieX, HanW, HanX, Wm6, HanZ, HanKd). Conditions: in each statement.
-/
import Derived.Test.YthlffjlbidibdaaGreatDoorKHq
set_option linter.unusedSimpArgs false
set_option autoImplicit true
set_option relaxedAutoImplicit true
set_option linter.unusedVariables false
set_option linter.unusedSectionVars false
set_option maxRecDepth 100000
set_option maxHeartbeats 8000000
abbrev dE:=@List.foldl_append
abbrev gD:=@List.perm_ext_iff_of_nodup
abbrev ip:=@List.flatMap_singleton
abbrev jj:=@List.flatMap_append
namespace Go.Proofs.YthlffjlbidibdaaGreatDoor
open Go Go.Am Go.Vm Go.Pie Go.Sch
attribute [local irreducible] Aa Ah Ai Ad AL Ak Bf BK Bj Aj Vm.Done Bv AP Nl Ba Cc Et GY F8 Hold
attribute [local irreducible] Cb Bg D5 DU EF AV CB
abbrev Way:=List Int×Int
def QV(w:Way):FV:=.agg [.lst 3 (cells w.1) w.1.length,.int .i64 w.2]
def KZ(es:List (Lu×Way)):List (Lu×PV):=es.map fun e=>(e.1,.p (QV e.2))
def Np(es:List (Lu×Way)):HB:=OC (fun x:Lu=>.agg (Enc.enc x)) (KZ es)
theorem VP{α β γ:Type}[DecidableEq α](g:β→γ)(a:α):∀es:List (α×β),Cj (es.map fun e=>(e.1,g e.2)) a=(Cj es a).map g
 |[]=>rfl
 |x::es=>by
  simp only[List.map_cons,Cj];split
  ·rfl
  ·exact VP g a es
theorem Xb{α β γ:Type}[DecidableEq α](g:β→γ)(a:α)(b:β):∀es:List (α×β),CP (es.map fun e=>(e.1,g e.2)) a (g b)=(CP es a b).map fun e=>(e.1,g e.2)
 |[]=>rfl
 |x::es=>by
  simp only[List.map_cons,CP];split
  ·rfl
  ·rw[Xb g a b es];rfl
theorem CX(k:Nat)(es:List (Lu×Way)):HB.under k (Np es):=by
 induction es with
 |nil=>exact trivial
 |cons e es a=>exact⟨trivial,a⟩
theorem Z8(ρ:Nat→Nat)(es:List (Lu×Way)):(Np es).rn ρ=Np es:=by
 show HB.KF _ (CZ.rn ρ ((KZ es).map (·.2)))=HB.KF _ _;have:CZ.rn ρ ((KZ es).map (·.2))=(KZ es).map (·.2):=by
  induction es with
  |nil=>rfl
  |cons e es a =>
   show PV.rn ρ (PV.p (QV e.2))::CZ.rn ρ ((KZ es).map (·.2))=_;rw[a];rfl
 grind
section
variable {L:Vm.Frame}{H:Vm.Heap}{nx:Nat}{Q:PV→Vm.Heap→Nat→Prop}{w:Bool}{dst:Option Tmp}{ty:TypeId}{pos:String}{af:Array Edge}{gd:Option (Nat×Bool)}
theorem c5q(q:Q (.mref nx) ((nx,Np [])::H) (nx+1)):Aa env w ⟨dst,.makeMap t none,ty,pos,af,gd⟩ L H nx Q:=oS q
def foundW:Option Way→PV
 |none=>.p (.agg [.val (.slice none 0 0),.int .i64 0])
 |some w=>.p (QV w)
theorem lookW(c:AY env.Γ L x=some (.mref b))(g:hget H b=some (Np m))(f:AY env.Γ L k=some (.p (.agg (Enc.enc y))))
 (d:env.P.underlying t=some (.map 91 94)) (q:Q (.DK [foundW (Cj m y),.p (.bool (Cj m y).isSome)]) H nx):Aa env w ⟨dst,.lookup t x k true,ty,pos,af,gd⟩ L H nx Q:=by
 have a:Cj (KZ m) y=(Cj m y).map fun w=>PV.p (QV w):=VP (fun w=>PV.p (QV w)) y m
 have e:(Cj (KZ m) y).isSome=(Cj m y).isSome:=by grind
 rw[← e] at q;refine ko (z:=.agg #[.slice none 0 0,.int .i64 0]) tY c g f d (by kernel_rfl) rfl ?_ q;cases h:Cj m y with
 |none =>
  rw[h] at a;exact Nb.const a rfl
 |some w =>
  rw[h] at a;exact .inl a
theorem c7d(d:Cj m y=none)(a:AY env.Γ L x=some (.mref b))(f:hget H b=some (Np m))(e:AY env.Γ L k=some (.p (.agg (Enc.enc y))))
 (c:env.P.underlying t=some (.map 91 94)) (q:Q (.DK [.p (.agg [.val (.slice none 0 0),.int .i64 0]),.p (.bool false)]) H nx):Aa env w ⟨dst,.lookup t x k true,ty,pos,af,gd⟩ L H nx Q :=
 lookW a f e c (by rw[d];exact q)
theorem c6r(d:Cj m y=some v)(a:AY env.Γ L x=some (.mref b))(f:hget H b=some (Np m))(e:AY env.Γ L k=some (.p (.agg (Enc.enc y))))
 (c:env.P.underlying t=some (.map 91 94)) (q:Q (.DK [.p (QV v),.p (.bool true)]) H nx):Aa env w ⟨dst,.lookup t x k true,ty,pos,af,gd⟩ L H nx Q :=
 lookW a f e c (by rw[d];exact q)
theorem d2q(v:Way)(d:AY env.Γ L x=some (.mref b))(g:hget H b=some (Np m))(f:AY env.Γ L k=some (.p (.agg (Enc.enc y))))(c:AY env.Γ L a=some (.p (QV v)))
 (e:env.P.underlying t=some (.map 91 94)) (q:Q (.DK []) (hput H b (Np (CP m y v))) nx):Aa env true ⟨dst,.mapUpdate t x k a,ty,pos,af,gd⟩ L H nx Q :=
 po tY d g f c e (by
  show hput H b (OC _ (CP (KZ m) y (.p (QV v))))=hput H b (OC _ (KZ (CP m y v)));have:CP (KZ m) y (PV.p (QV v))=KZ (CP m y v):=Xb (fun w=>PV.p (QV w)) y v m;grind) q
theorem d3a(v:Way)(d:AY env.Γ L x=some (.mref b))(g:hget H b=some (Np m))(f:AY env.Γ L k=some (.p (.agg (Enc.enc y))))(c:AY env.Γ L a=some (.p (QV v)))
 (e:env.P.underlying t=some (.map 91 94)) (q:Q (.DK []) (hput H b (Np (CP m y v))) nx):Aa env true ⟨dst,.insert t x k a,ty,pos,af,gd⟩ L H nx Q :=
 pt tY d g f c e (by
  show hput H b (OC _ (CP (KZ m) y (.p (QV v))))=hput H b (OC _ (KZ (CP m y v)));have:CP (KZ m) y (PV.p (QV v))=KZ (CP m y v):=Xb (fun w=>PV.p (QV w)) y v m;grind) q
end
theorem zq(q:Qu)(o:IQ q)(c:t<(Bc q.p).length){l:List Int}(b:a8f q t l)(m:x∈qH q t l):x.length=q.p.notes.length∧∀i,i<x.length→0≤gi x i∧gi x i≤2:=by
 have g:=Zv q o;have a:=b.len;have d:=(OA (nw:=Ol q t) (f:=fQ q t) (l:=l) (kQ q t) (g.inj t c) (fun j r=>by rw[a];exact g.rng t c j r) b.zero x).1 (eV.1 m).1;refine⟨d.1.trans a,fun i s=>?_⟩;have k:=d.2 i (by omega);by_cases h:XV (Ol q t) (fQ q t) (kQ q t) i
 ·rcases k.1 h with e|e<;>omega
 ·rw[k.2 h];exact b.rng i (by omega)
theorem xA(q:Qu)(t:Nat)(a:kQ q t≤12)(l:List Int):(qH q t l).length≤4096:=by
 refine an (eh _ _) (an (jF _ _ _ _).2 ?_);exact aD (by decide) (show kQ q t≤12 by omega)
def b2m(q:Qu)(t:Nat)(e:Lu×Way):List (Lu×Way):=(qH q t e.2.1).map fun x=>(Ik q t e.1 x,(x,e.2.2+MJ q t e.1 x))
def c0j(q:Qu)(t:Nat)(x:Lu)(l:List Int):Nat→Lu
 |0=>⟨QJ (Dy q t) l,x.c0,x.c1,x.b0,x.b1⟩
 |1=>⟨QJ (Dy q t) l,if(He q l 0 t).1=true then(He q l 0 t).2 else x.c0,x.c1,(He q l 0 t).1||x.b0,x.b1⟩
 |_=>Ik q t x l
def b0w(q:Qu)(t:Nat)(x:Lu)(c:Int)(l:List Int):Nat→Int
 |0=>c
 |1=>c+Ho (He q l 0 t) x.b0 x.c0
 |_=>c+Ho (He q l 0 t) x.b0 x.c0+Ho (He q l 1 t) x.b1 x.c1
theorem b7p(q:Qu)(t:Nat)(x:Lu)(c:Int)(l:List Int):b0w q t x c l 2=c+MJ q t x l:=by
 show c+Ho (He q l 0 t) x.b0 x.c0+Ho (He q l 1 t) x.b1 x.c1=c+(Ho (He q l 0 t) x.b0 x.c0+Ho (He q l 1 t) x.b1 x.c1);omega
def both(b c:Bool)(v w:Int):Int:=bif b then(bif c then v else w) else w
theorem zW(x:Int)(b c:Bool)(a d:XI):x+Ho (b,a) c d=both b c (x+mvC d a) x:=by cases b<;>cases c<;>simp[Ho,both]
theorem dh(r:Bool×XI)(b:Bool)(c:XI)(a:r.2.Ok)(d:c.Ok):0≤Ho r b c∧Ho r b c≤139:=by
 have:=aV d a;unfold Ho;omega
theorem b5p{m:List (Lu×Way)}{d:Lu×Way}(c:∀e∈m,e.2.1.length=n)(f:d.2.1.length=n):∀e∈Vs m d,e.2.1.length=n:=fun e a=>by
 have b:∀e∈CP m d.1 d.2,e.2.1.length=n:=fun e a=>by
  rcases SL a with h|h|h
  ·grind
  ·grind
  grind
 unfold Vs at a;grind
structure d3i(q:Qu)(t:Nat)(e:Lu×Way):Prop where
 way:a8f q t e.2.1
 cost:0≤e.2.2∧e.2.2≤1000000000000
 c0:e.1.c0.Ok
 c1:e.1.c1.Ok
instance:Inhabited (Lu×Way):=⟨(st0,([],0))⟩
def Uz(q:Qu)(t:Nat)(es:List (Lu×Way))(V:List Nat):List (Lu×Way):=((V.map (gi es)).flatMap (b2m q t)).foldl Vs []
theorem Sz:Am.Enters Tryz.prog 41:=⟨_,Tryz.func41,by rfl,by rfl⟩
theorem a3k(q:Qu)(C:IQ q)(t:Nat)(ht:t<(Bc q.p).length)(hM:kQ q t≤12)(es:List (Lu×Way))(hes:∀e∈es,d3i q t e) :
 F8 env 27 [.p (.agg (Enc.enc q)),.p (.agg (Enc.enc (Oj q t))),.mref 0] [(0,Np es)] 1 (fun r H' nx'=>∃V:List Nat,V.Nodup∧(∀i,i∈V↔i<es.length)∧r=.mref 1∧H'=[(1,Np (Uz q t es V))]∧nx'=2):=by
 refine F8.enter Tryz.func27 rfl (by kernel_rfl) (by kernel_rfl) (by simp[Tryz.ntmps27]) ?_
 repeat' (first|((refine Ba.at 2 ?_;refine Hold.of ?_))|apply eN|apply Ba.to|refine go2 ?_|(apply c5q))
 all_goals try omega
 refine Hold.go ?_;refine Ba.pJ (fun m:List (Lu×Way)=>[(3,.ref 1 0),(4,.ref 2 0),(7,.mref 3),(21,.mref 0)]) (fun m=>[(0,Np es),(1,yP q),(2,slB (Oj q t)),(3,Np m)]) (fun V m=>m=Uz q t es V∧∀e∈m,e.2.1.length=q.p.notes.length) [] (C9:=4) (b:=0) (ks:=(KZ es).map fun x=>.agg (Enc.enc x.1)) (cs:=(KZ es).map (·.2)) rfl rfl (by decide) rfl ⟨rfl,fun e h=>absurd h bm⟩ ⟨by decide,?_,?_⟩ rfl (fun _=>⟨rfl,rfl,rfl⟩) (fun _ _ _=>rfl) (by simp) rfl (by kernel_rfl) (by kernel_rfl) (by decide) ?_ ?_
 ·exact Dh
 ·repeat(first|exact BN.nil|(refine BN.cons (AZ rfl) ?_ rfl ?_ ?_;(first|exact CX _ _|exact Di _ _|exact hQ rfl|exact eL _ _|(simp[HB.under,CZ.under,PV.under]));(first|exact KX.refl _|exact KX.vec (IK.refl _) (by simp))))
 ·rintro V m i kk c ⟨B,hml⟩ S hni J Z
  subst B;have T:i<es.length:=by
   have:=(bw.1 J).1;simpa[KZ] using this
  have hm:=Dj T;have X:es[i]?=some (gi es i):=by unfold gi;rw[ai T];rfl
  have hE:=hes _ hm;have ek:kk=.agg (Enc.enc (gi es i).1):=by
   unfold KZ at J;rw[ax,ax,X] at J;simpa using J.symm
  have ec:c=.p (QV (gi es i).2):=by
   unfold KZ at Z;rw[ax,ax,X] at Z;simpa using Z.symm
  subst ek;subst ec;have z:Uz q t es (V++[i])=(b2m q t (gi es i)).foldl Vs (Uz q t es V):=by
   unfold Uz;rw[bh,jj,dE,gA,ip]
  rw[z];clear z;generalize Uz q t es V=m0 at *;generalize gi es i=e at *;obtain⟨⟨s,f,g,b0,b1⟩,l,j⟩:=e;obtain⟨N,h2,h3,h4⟩:=hE;simp only at N h2 h3 h4;have hch:=Wp q C t ht hM l N;have hwy:=fun y hy=>zq q C ht N (x:=y) hy
  have hLl:=xA q t hM l;unfold b2m;simp only;generalize qH q t l=L at *;have hN:VB q (Oj q t).notes:=G7 ht;have K:(Oj q t).notes.length≤1000:=bV C ht;obtain⟨G,hG⟩:∃G:List Int→Lu×Way,G=fun y=>(Ik q t ⟨s,f,g,b0,b1⟩ y,(y,j+MJ q t ⟨s,f,g,b0,b1⟩ y)):=⟨_,rfl⟩
  rw[← hG]
  repeat' (first|(refine Ba.at 5 ?_;apply ki)|(apply Cc.fn;rfl;rfl;exact hch;exact Sz;intro _;rfl)|apply Ba.block|apply Cc.nil|apply hU|refine go2 ?_|fail)
  all_goals try omega
  refine kg ?_;apply Ad.Jy (L.length) (fun k=>∀e∈((L.take k).map G).foldl Vs m0,e.2.1.length=q.p.notes.length) [(3,_),(4,_),(7,_),(8,_),(9,_),(21,_),(32,_),(33,_)] [(0,_),(1,_),(2,_),(4,_),(5,_)] (fun k r=>(34,.p (.int .i64 (k:Int)))::r) (fun k r=>(3,Np (((L.take k).map G).foldl Vs m0))::r) 6
  ·first|omega|decide
  ·first|omega|decide
  ·exact Ns
  ·repeat(first|exact BN.nil|(refine BN.eq rfl (AZ rfl) ?_ ?_;(first|exact CX _ _|exact Di _ _|exact hQ rfl|exact eL _ _|(simp[HB.under,CZ.under,PV.under];done)))|(refine BN.cons (AZ rfl) ?_ rfl ?_ ?_;(first|exact CX _ _|exact Di _ _|exact trivial|exact eL _ _|(simp[HB.under,CZ.under,PV.under]));(first|exact KX.refl _|exact KX.vec (IK.refl _) (by simp))))
  ·first|(intro _ _;omega)|omega|trivial
  ·intro k J B
   obtain⟨y1,y2⟩:=hwy _ (Dj J);have e1:((L.take (k+1)).map G).foldl Vs m0=Vs (((L.take k).map G).foldl Vs m0) (G (gi L k)):=by
    rw[EH J,bh,dE];rfl
   rw[e1];clear e1;generalize ((L.take k).map G).foldl Vs m0=m at *;have n1:=C.p.notes;have c4t:=uJ q (Oj q t) hN K (gi L k) y1 y2;have W:=Uc q C (Oj q t) hN K (gi L k) 0 y1;have U:=Uc q C (Oj q t) hN K (gi L k) 1 y1;have M:=dR C hN (gi L k) 0 _ (ab _);have O:=dR C hN (gi L k) 1 _ (ab _);have hr0:Xx q.p (Oj q t).notes (gi L k) 0 (Oj q t).notes.length=He q (gi L k) 0 t:=rfl;have hr1:Xx q.p (Oj q t).notes (gi L k) 1 (Oj q t).notes.length=He q (gi L k) 1 t:=rfl;have es0:c0j q t ⟨s,f,g,b0,b1⟩ (gi L k) (0+1)=⟨QJ (Dy q t) (gi L k),if(He q (gi L k) 0 t).1=true then(He q (gi L k) 0 t).2 else f,g,(He q (gi L k) 0 t).1||b0,b1⟩:=rfl;have es1:c0j q t ⟨s,f,g,b0,b1⟩ (gi L k) (1+1)=⟨QJ (Dy q t) (gi L k),if(He q (gi L k) 0 t).1=true then(He q (gi L k) 0 t).2 else f,if(He q (gi L k) 1 t).1=true then(He q (gi L k) 1 t).2 else g,(He q (gi L k) 0 t).1||b0,(He q (gi L k) 1 t).1||b1⟩:=rfl;have ec0:b0w q t ⟨s,f,g,b0,b1⟩ j (gi L k) (0+1)=j+Ho (He q (gi L k) 0 t) b0 f:=rfl;have ec1:b0w q t ⟨s,f,g,b0,b1⟩ j (gi L k) (1+1)=j+Ho (He q (gi L k) 0 t) b0 f+Ho (He q (gi L k) 1 t) b1 g:=rfl;rw[hr0] at W M;rw[hr1] at U O
   repeat' (first|(refine i7 4 ?_;apply Ai.weak [.tmp 39];decide +kernel;rfl;rfl;(first|exact Oi.ref rfl|exact Oi.vec rfl|exact Oi.Fb rfl);decide +kernel;rfl)|apply Ad.assoc|apply ce|apply da|apply f9|apply jt|apply Ah.nil|apply Ai.nil|apply c9|(apply Ai.bar;decide +kernel)|apply Ai.quiet|refine a6 c4t ?_|(apply Aa.assign;rfl)|(apply Aa.move;rfl)|refine a7 ?_|refine b9 ?_|(apply Aa.load;rfl;rfl)|(apply e8;rfl;rfl;rfl)|(apply Aa.alloc;rfl)|refine d9 ?_|(apply a8;rfl)|(intro _;try omega))
   all_goals try omega
   apply Ad.EY (2) [(3,_),(4,_),(7,_),(8,_),(9,_),(11,_),(12,_),(21,_),(32,_),(33,_),(34,_)] [(0,_),(1,_),(2,_),(3,_),(4,_),(5,_)] (fun F r=>(46,.p (.int .i64 (F:Int)))::(13,.p (.int .i64 (b0w q t ⟨s,f,g,b0,b1⟩ j (gi L k) F)))::r) (fun F r=>(6,.box 91 ((Enc.enc (c0j q t ⟨s,f,g,b0,b1⟩ (gi L k) F)).map .p))::r) 7
   ·first|omega|decide
   ·first|omega|decide
   ·exact Ns
   ·repeat(first|exact BN.nil|(refine BN.eq rfl (AZ rfl) ?_ ?_;(first|exact CX _ _|exact Di _ _|exact hQ rfl|exact eL _ _|(simp[HB.under,CZ.under,PV.under];done)))|(refine BN.cons (AZ rfl) ?_ rfl ?_ ?_;(first|exact CX _ _|exact Di _ _|exact trivial|exact eL _ _|(simp[HB.under,CZ.under,PV.under]));(first|exact KX.refl _|exact KX.vec (IK.refl _) (by simp))))
   ·intro F hk_
    obtain rfl|rfl:F=0∨F=1:=by omega
    ·generalize He q (gi L k) 0 t=r0 at *
     obtain⟨b,a⟩:=r0;have M:a.Ok:=M;have I:=nD f a h3 M;have hmr:=aV h3 M;have hk0:b0w q t ⟨s,f,g,b0,b1⟩ j (gi L k) 0=j:=rfl;have u:j+Ho (b,a) b0 f=both b b0 (j+mvC f a) j:=zW j b b0 a f;rw[ec0,es0,u];cases b<;>cases b0
     all_goals
      repeat' (first|refine a6 W ?_|refine a6 I ?_|(apply mz;rfl;rfl;rfl;rfl;rfl;decide)|refine KP ?_|refine a7 ?_|(apply ei;rfl)|(apply cn;rfl))
     all_goals try omega
     all_goals try contradiction
     all_goals
      refine Aj.normal ⟨by first|omega|decide,?_,?_⟩
      ·exact Dh
      ·repeat(first|exact BN.nil|(refine BN.cons (AZ rfl) ?_ rfl ?_ ?_;(first|exact CX _ _|exact Di _ _|exact hQ rfl|exact eL _ _|(simp[HB.under,CZ.under,PV.under]));(first|exact KX.refl _|exact KX.vec (IK.refl _) (by simp))))
    ·generalize He q (gi L k) 1 t=r1 at *
     obtain⟨b,a⟩:=r1;have O:a.Ok:=O;have I:=nD g a h4 O;have hmr:=aV h4 O;have hk2:b0w q t ⟨s,f,g,b0,b1⟩ j (gi L k) 1=j+Ho (He q (gi L k) 0 t) b0 f:=ec0;have hin:0≤Ho (He q (gi L k) 0 t) b0 f∧Ho (He q (gi L k) 0 t) b0 f≤139:=dh _ _ _ M h3;have es2:=es0;simp only[Nat.zero_add] at es2;generalize He q (gi L k) 0 t=r0 at *;rw[ec1,es1,hk2,es2];generalize Ho r0 b0 f=i0 at *;have u:j+i0+Ho (b,a) b1 g=both b b1 (j+i0+mvC g a) (j+i0):=zW (j+i0) b b1 a g;rw[u];generalize (if r0.1=true then r0.2 else f)=c0' at *;generalize (r0.1||b0)=b0' at *;cases b<;>cases b1
     all_goals
      repeat' (first|refine a6 U ?_|refine a6 I ?_|(apply mz;rfl;rfl;rfl;rfl;rfl;decide)|refine KP ?_|refine a7 ?_|(apply ei;rfl)|(apply cn;rfl))
     all_goals try omega
     all_goals try contradiction
     all_goals
      refine Aj.normal ⟨by first|omega|decide,?_,?_⟩
      ·exact Dh
      ·repeat(first|exact BN.nil|(refine BN.cons (AZ rfl) ?_ rfl ?_ ?_;(first|exact CX _ _|exact Di _ _|exact hQ rfl|exact eL _ _|(simp[HB.under,CZ.under,PV.under]));(first|exact KX.refl _|exact KX.vec (IK.refl _) (by simp))))
   ·have e2:c0j q t ⟨s,f,g,b0,b1⟩ (gi L k) 2=Ik q t ⟨s,f,g,b0,b1⟩ (gi L k):=rfl
    have hi0:=dh (He q (gi L k) 0 t) b0 f M h3;have hi1:=dh (He q (gi L k) 1 t) b1 g O h4;have hiq:MJ q t ⟨s,f,g,b0,b1⟩ (gi L k)=Ho (He q (gi L k) 0 t) b0 f+Ho (He q (gi L k) 1 t) b1 g:=rfl;have hGk:G (gi L k)=(Ik q t ⟨s,f,g,b0,b1⟩ (gi L k),(gi L k,j+MJ q t ⟨s,f,g,b0,b1⟩ (gi L k))):=by rw[hG]
    rw[hGk,b7p,e2];have A:=b5p (d:=(Ik q t ⟨s,f,g,b0,b1⟩ (gi L k),(gi L k,j+MJ q t ⟨s,f,g,b0,b1⟩ (gi L k)))) B y1;have hcb:0≤j+MJ q t ⟨s,f,g,b0,b1⟩ (gi L k)∧j+MJ q t ⟨s,f,g,b0,b1⟩ (gi L k)≤1000000000278:=by rw[hiq];omega
    generalize j+MJ q t ⟨s,f,g,b0,b1⟩ (gi L k)=c' at *;generalize Ik q t ⟨s,f,g,b0,b1⟩ (gi L k)=sq at *;have u:Vs m (sq,(gi L k,c'))=match Cj m sq with|none=>CP m sq (gi L k,c')|some o=>if ltB (gi L k,c') o=true then CP m sq (gi L k,c') else m:=rfl
    cases hl:Cj m sq with
    |none =>
     rw[hl] at u;simp only at u;rw[u] at A ⊢
     repeat' (first|(apply c7d (m:=m) (y:=sq) hl;rfl;rfl;rfl;rfl)|(apply d2q (m:=m) (y:=sq) (gi L k,c');rfl;rfl;rfl;rfl;rfl)|refine Fj ?_|refine b7 ?_|(apply cn;rfl)|(apply b8;rfl))
     all_goals try omega
     all_goals try contradiction
     refine Aj.normal ⟨A,by first|omega|decide,?_,?_⟩
     ·exact Dh
     ·repeat(first|exact BN.nil|(refine BN.cons (AZ rfl) ?_ rfl ?_ ?_;(first|exact CX _ _|exact Di _ _|exact hQ rfl|exact eL _ _|(simp[HB.under,CZ.under,PV.under]));(first|exact KX.refl _|exact KX.vec (IK.refl _) (by simp))))
    |some o =>
     obtain⟨P,R⟩:=o;have hol:P.length=q.p.notes.length:=B _ (Me hl);have Y:=UE (gi L k) P (by omega) (by omega);rw[hl] at u;simp only at u;have hb:ltB (gi L k,c') (P,R)=(decide (c'<R)||(decide (c'=R)&&decide (cmpL (gi L k) P<0))):=rfl;rw[hb] at u;generalize cmpL (gi L k) P=cm at *;by_cases g1:c'<R;all_goals by_cases g2:c'=R
     all_goals by_cases g3:cm<0
     all_goals first|rw[decide_eq_true g1] at u|rw[decide_eq_false g1] at u
     all_goals first|rw[decide_eq_true g2] at u|rw[decide_eq_false g2] at u
     all_goals first|rw[decide_eq_true g3] at u|rw[decide_eq_false g3] at u
     all_goals simp only[Bool.true_or,Bool.false_or,Bool.true_and,Bool.false_and,Bool.false_eq_true,if_true,if_false] at u
     all_goals rw[u] at A ⊢
     all_goals
      repeat' (first|(apply c6r (m:=m) (y:=sq) hl;rfl;rfl;rfl;rfl)|refine a6 Y ?_|(apply d2q (m:=m) (y:=sq) (gi L k,c');rfl;rfl;rfl;rfl;rfl)|refine Fh ?_|(apply Ah.guard;rfl;rfl)|refine a7 ?_|refine b7 ?_|(apply cn;rfl)|(apply b8;rfl)|(apply b5;rfl)|(apply c8;rfl)|(intro _;try omega))
     all_goals try omega
     all_goals try contradiction
     all_goals
      refine Aj.normal ⟨A,by first|omega|decide,?_,?_⟩
      ·exact Dh
      ·repeat(first|exact BN.nil|(refine BN.cons (AZ rfl) ?_ rfl ?_ ?_;(first|exact CX _ _|exact Di _ _|exact hQ rfl|exact eL _ _|(simp[HB.under,CZ.under,PV.under]));(first|exact KX.refl _|exact KX.vec (IK.refl _) (by simp))))
  ·intro B
   rw[cd] at B ⊢
   repeat' (first|refine Fj ?_|(apply a8;rfl)|(intro _;try omega))
   all_goals try omega
   refine Aj.normal ⟨_,⟨rfl,B⟩,⟨by decide,?_,?_⟩⟩
   ·exact Dh
   ·repeat(first|exact BN.nil|(refine BN.cons (AZ rfl) ?_ rfl ?_ ?_;(first|exact CX _ _|exact Di _ _|exact hQ rfl|exact eL _ _|(simp[HB.under,CZ.under,PV.under]));(first|exact KX.refl _|exact KX.vec (IK.refl _) (by simp))))
 ·rintro V m ⟨B,_⟩ S N h2
  subst B;refine Et.normal ?_;refine Ba.swap 1 3 (by decide) (by decide) (by decide) (by decide) ?_;have e:Hrn (swp 1 3) [(0,Np es),(1,yP q),(2,slB (Oj q t)),(3,Np (Uz q t es V))]=[(0,Np es),(3,(yP q).rn (swp 1 3)),(2,(slB (Oj q t)).rn (swp 1 3)),(1,Np (Uz q t es V))]:=by
   simp only[Hrn,Z8];rfl
  rw[e]
  repeat' (first|apply eN|apply Ba.ret|refine go1 ?_|fail)
  have Z:KZ es=es.map fun e=>(e.1,PV.p (QV e.2)):=rfl
  simp only[List.length_map,Z] at N h2;refine Done.ret rfl (.refl _) (AZ rfl) ?_ (by decide) (by decide) ⟨V,S,fun i=>⟨h2 i,N i⟩,rfl,rfl,rfl⟩;repeat(first|exact BN.nil|(refine BN.cons (AZ rfl) ?_ rfl ?_ ?_;(first|exact CX _ _|exact Di _ _|exact hQ rfl|exact eL _ _|(simp[HB.under,CZ.under,PV.under]));(first|exact KX.refl _|exact KX.vec (IK.refl _) (by simp))))
end Go.Proofs.YthlffjlbidibdaaGreatDoor
namespace Go.Proofs.YthlffjlbidibdaaGreatDoor
open Go Go.Am Go.Vm Go.Pie Go.Sch
attribute [local irreducible] Cb Bg D5 DU EF AV CB
def U2(L:List Pos):Int:=csK L (L.length-1)
theorem xu(L:List Pos)(p:Pos):∀k,k<L.length→csK (L++[p]) k=csK L k
 |0,_=>rfl
 |k+1,h=>by
  unfold csK;rw[xu L p k (by omega),NK (by omega),NK (by omega)]
def iK(L:List Pos)(p:Pos):Int:=match L.getLast? with|none=>0|some x=>if p.h=x.h then mvC x.c p.c else 0
theorem X9(L:List Pos)(p:Pos):U2 (L++[p])=U2 L+iK L p:=by
 unfold U2 iK;rcases bq L.length with h|h
 ·obtain rfl:=aw.1 h
  rfl
 ·obtain⟨m,a⟩:∃m,L.length=m+1:=⟨L.length-1,by omega⟩
  have f:(L++[p]).length-1=m+1:=by grind
  have e:L.getLast?=some (gi L m):=by
   unfold gi;grind
  have d:gi (L++[p]) (m+1)=p:=by rw[← a];exact Na
  rw[f,e,a,Nat.add_sub_cancel];have b:csK (L++[p]) (m+1)=if(gi (L++[p]) (m+1)).h=(gi (L++[p]) m).h then csK (L++[p]) m+mvC (gi (L++[p]) m).c (gi (L++[p]) (m+1)).c else csK (L++[p]) m:=rfl
  rw[b,xu L p m (by omega),d,NK (by omega)];grind
theorem tX(q:Qu)(l:List Int)(h:Int):∀k,∀x∈JU q l h k,x.h=h
 |0,x,hx=>absurd hx bm
 |k+1,x,hx=>by
  unfold JU at hx;split at hx
  ·rcases bt.1 hx with hx|hx
   ·exact tX q l h k x hx
   grind
  ·exact tX q l h k x hx
theorem getLast_mem{α:Type}{L:List α}{x:α}(h:L.getLast?=some x):x∈L :=by grind
theorem xW(q:Qu)(l:List Int)(A:List Pos)(b:∀x∈A,x.h=0):∀k,U2 (A++JU q l 1 k)=U2 A+U2 (JU q l 1 k)
 |0=>by
  show U2 (A++[])=U2 A+U2 [];rw[dt];show U2 A=U2 A+0;omega
 |k+1=>by
  have a:=xW q l A b k;unfold JU;split
  ·rw[← cz,X9,X9,a]
   have:iK (A++JU q l 1 k) ⟨1,k,(He q l 1 k).2⟩=iK (JU q l 1 k) ⟨1,k,(He q l 1 k).2⟩:=by
    unfold iK;grind
   omega
  omega
def Zf(L:List Pos)(b:Bool)(c:XI):Prop:=match L.getLast? with|none=>b=false|some x=>b=true∧c=x.c
theorem a1u{b:Bool}{c:XI}(p:Pos):Zf (L++[p]) true p.c:=by
 unfold Zf;simp
theorem a8y(a:Zf (JU q l h k) b c)(r:Bool×XI)(d:r.1=true)(i:Int):iK (JU q l h k) ⟨h,i,r.2⟩=Ho r b c:=by
 unfold Zf at a;unfold iK Ho;rw[if_pos d];cases h1:(JU q l h k).getLast? with
 |none =>
  grind
 |some x =>
  rw[h1] at a;simp only at a ⊢;obtain⟨f,e⟩:=a;rw[f,if_pos rfl,if_pos (tX q l h k x (getLast_mem h1)).symm,e]
theorem oz(q:Qu)(l:List Int):∀t,Zf (JU q l 0 t) (KL st0 (Ik q) l t).b0 (KL st0 (Ik q) l t).c0∧Zf (JU q l 1 t) (KL st0 (Ik q) l t).b1 (KL st0 (Ik q) l t).c1∧cF st0 (Ik q) (MJ q) l t=U2 (JU q l 0 t)+U2 (JU q l 1 t)
 |0=>⟨rfl,rfl,rfl⟩
 |t+1=>by
  obtain⟨g,f,p⟩:=oz q l t;have u:KL st0 (Ik q) l (t+1)=Ik q t (KL st0 (Ik q) l t) l:=rfl;have s:cF st0 (Ik q) (MJ q) l (t+1)=cF st0 (Ik q) (MJ q) l t+MJ q t (KL st0 (Ik q) l t) l:=rfl;rw[u,s,p];generalize KL st0 (Ik q) l t=x at *;obtain⟨y,c0,c1,b0,b1⟩:=x;simp only at g f;have d:∀(h:Int) (b:Bool) (c:XI),Zf (JU q l h t) b c→Zf (JU q l h (t+1)) ((He q l h t).1||b) (if(He q l h t).1=true then(He q l h t).2 else c)∧U2 (JU q l h (t+1))=U2 (JU q l h t)+Ho (He q l h t) b c:=fun h b c e=>by
   have m:=a8y e (He q l h t);have r:JU q l h (t+1)=if(He q l h t).1=true then JU q l h t++[⟨h,t,(He q l h t).2⟩] else JU q l h t:=rfl
   rw[r];by_cases a:(He q l h t).1=true
   ·rw[if_pos a,if_pos a,X9,m a,a]
    exact⟨a1u (b:=b) (c:=c) ⟨h,t,(He q l h t).2⟩,rfl⟩
   ·rw[if_neg a,if_neg a]
    have o:(He q l h t).1=false:=by simpa using a
    rw[o];refine⟨by simpa using e,?_⟩;unfold Ho;rw[if_neg a];omega
  obtain⟨k,k1⟩:=d 0 b0 c0 g;obtain⟨j,i⟩:=d 1 b1 c1 f;refine⟨k,j,?_⟩;rw[k1,i];unfold MJ;simp only;omega
theorem vG(q:Qu)(l:List Int):cF st0 (Ik q) (MJ q) l (Bc q.p).length=NJ q l:=by
 rw[(oz q l _).2.2];exact(xW q l _ (tX q l 0 _) _).symm
theorem a4k(q:Qu)(d:IQ q)(l:List Int):∀t,t≤(Bc q.p).length→(KL st0 (Ik q) l t).c0.Ok∧(KL st0 (Ik q) l t).c1.Ok∧0≤cF st0 (Ik q) (MJ q) l t∧cF st0 (Ik q) (MJ q) l t≤278*t
 |0,_=>⟨⟨bj _,by show(0:Int)≤127;omega⟩,⟨bj _,by show(0:Int)≤127;omega⟩,bj _,bj _⟩
 |t+1,ht=>by
  obtain⟨k,j,y,u⟩:=a4k q d l t (by omega);have f:=dR d (G7 (q:=q) (i:=t) (by omega)) l 0 _ (ab _);have e:=dR d (G7 (q:=q) (i:=t) (by omega)) l 1 _ (ab _);have o:KL st0 (Ik q) l (t+1)=Ik q t (KL st0 (Ik q) l t) l:=rfl;have m:cF st0 (Ik q) (MJ q) l (t+1)=cF st0 (Ik q) (MJ q) l t+MJ q t (KL st0 (Ik q) l t) l:=rfl;rw[o,m];generalize KL st0 (Ik q) l t=x at *;have a:∀(r:Bool×XI) (b:Bool) (c:XI),r.2.Ok→c.Ok→0≤Ho r b c∧Ho r b c≤139:=fun r b c g h=>by
   have:=aV h g;unfold Ho;omega
  have s:=a (He q l 0 t) x.b0 x.c0 f k;have k1:=a (He q l 1 t) x.b1 x.c1 e j;refine⟨?_,?_,?_,?_⟩
  ·show XI.Ok (if(He q l 0 t).1=true then(He q l 0 t).2 else x.c0)
   split
   ·exact f
   omega
  ·show XI.Ok (if(He q l 1 t).1=true then(He q l 1 t).2 else x.c1)
   split
   ·exact e
   omega
  ·show 0≤_+(Ho (He q l 0 t) x.b0 x.c0+Ho (He q l 1 t) x.b1 x.c1)
   omega
  ·show _+(Ho (He q l 0 t) x.b0 x.c0+Ho (He q l 1 t) x.b1 x.c1)≤278*((t+1:Nat):Int)
   omega
theorem iJ(b:∀t,t<(Bc q.p).length→kQ q t≤12):c1o q=false:=by
 unfold c1o Ey;rw[eH (fun i a=>decide_eq_false (by have:=b i a;unfold kQ at this;omega)) _ (ab _)];rfl
attribute [local irreducible] Aa Ah Ai Ad AL Ak Bf BK Bj Aj Vm.Done Bv AP Nl Ba Cc Et GY F8 Hold
def IsB(q:Qu)(l:List Int):Prop:=l∈Jc q (Bc q.p).length∧∀h∈Jc q (Bc q.p).length,ny (l,NJ q l) (h,NJ q h)
theorem b5c(d:IsB q a)(c:IsB q b):a=b:=congrArg Prod.fst (b4d (d.2 b c.1) (c.2 a d.1))
noncomputable def ZV(q:Qu):Option (List Int):=open Classical in if h:∃l,IsB q l then some (Classical.choose h) else none
theorem X7(h:IsB q l):ZV q=some l:=by
 unfold ZV;rw[dif_pos ⟨l,h⟩];exact congrArg some (b5c (Classical.choose_spec (p:=IsB q) ⟨l,h⟩) h)
theorem c2x(h:ZV q=some l):IsB q l:=by
 unfold ZV at h;split at h
 ·grind
 grind
theorem nV(h:Jc q (Bc q.p).length=[]):ZV q=none:=by
 cases h1:ZV q with
 |none=>rfl
 |some l =>
  have:=(c2x h1).1;grind
def nT(q:Qu)(t:Nat)(m:List (Lu×Way)):Prop:=yI (Ol q) (fQ q) (kQ q) (Zb q) (OW q) st0 (Ik q) (MJ q) t m
theorem a0q{V:List Nat}(h:∀i,i∈V↔i<es.length)(d:Lu×Way):d∈V.map (gi es)↔d∈es:=by
 rw[ba];constructor
 ·rintro⟨i,a,rfl⟩
  exact Dj ((h i).1 a)
 ·intro b
  obtain⟨i,a,c⟩:=KN b;grind
theorem a2w(q:Qu)(b:IQ q)(a:t<(Bc q.p).length)(c:nT q t m)(d:∀i,i∈V↔i<m.length):nT q (t+1) (Uz q t m V) :=
 yI.step (Zv q b) (c3x q) (WM q) (c4z q) a c (a0q d)
theorem a9z(q:Qu)(a:IQ q)(b:t<(Bc q.p).length)(c:nT q t m):∀e∈m,d3i q t e:=fun e d=>by
 obtain⟨f,o,l⟩:=c.sub e d;obtain⟨k1,i,h,g⟩:=a4k q a e.2.1 t (by omega);have k:=Qk q.p;have j:=a.p.notes;refine⟨zI q a b ((RI q a (by omega) _).1 f),?_,by grind,by grind⟩;omega
theorem a8n(q:Qu)(a:IQ q)(b:nT q (Bc q.p).length m):∀e∈m,e.2.1.length=q.p.notes.length∧0≤e.2.2∧e.2.2≤1000000000000:=fun e c=>by
 obtain⟨d,l,k⟩:=b.sub e c;obtain⟨k1,h,g,f⟩:=a4k q a e.2.1 (Bc q.p).length (ab _);have j:=Qk q.p;have i:=a.p.notes;refine⟨lQ.len ((RI q a (ab _) _).1 d),?_⟩;omega
def UN(es:List (Lu×Way))(V:List Nat):Option Way:=(V.map fun i=>(gi es i).2).foldl YL none
theorem b1c(q:Qu)(f:nT q (Bc q.p).length es)(s:∀i,i∈V↔i<es.length):UN es V=(ZV q).map fun l=>(l,NJ q l):=by
 have b:∀w,w∈(V.map fun i=>(gi es i).2)↔∃e∈es,e.2=w:=fun w=>by
  rw[ba];constructor
  ·rintro⟨i,d,rfl⟩
   exact⟨_,Dj ((s i).1 d),rfl⟩
  ·rintro⟨e,d,rfl⟩
   obtain⟨i,h2,rfl⟩:=KN d;grind
 have k:∀e∈es,e.2.2=NJ q e.2.1:=fun e g=>by rw[(f.sub e g).2.2];exact vG q _
 unfold UN;rcases Yg (V.map fun i=>(gi es i).2) none with⟨_,d,h2⟩|⟨w,d,h2,x,_⟩
 ·rw[h2]
  have:Jc q (Bc q.p).length=[]:=by
   cases h:Jc q (Bc q.p).length with
   |nil=>rfl
   |cons a l =>
    obtain⟨o,j,_⟩:=f.best a (by show a∈Jc q _;grind);simp_all
  rw[nV this];rfl
 ·rcases h2 with h2|h2
  ·obtain⟨e,g,rfl⟩:=(b w).1 h2
   have r:=k e g;have u:IsB q e.2.1:=by
    refine⟨(f.sub e g).1,fun h m=>?_⟩;obtain⟨o,j,c⟩:=f.best h m;have y:=vG q h;rw[y] at c;rw[← r];exact Mc (x o ((b o).2 ⟨_,j,rfl⟩)) c
   rw[X7 u];grind
  grind
def d2v:Option Way→PV
 |none=>.p (.val (.pointer none))
 |some w=>.p (.FI [.lst 3 (cells w.1) w.1.length,.int .i64 w.2])
def c7j:HB:=.box 56 [.p (.val (.slice none 0 0)),.p (.int .i64 0)]
noncomputable def jf(q:Qu):PV:=match ZV q with
 |none=>.DK [.p (.agg [.val (.slice none 0 0),.int .i64 0]),.p (.int .i64 24)]
 |some l=>.DK [.p (.agg [.lst 3 (cells l) l.length,.int .i64 (NJ q l)]),.p (.int .i64 0)]
theorem pF:Am.Enters Tryz.prog 27:=⟨_,Tryz.func27,by rfl,by rfl⟩
theorem a9a(q:Qu)(d:IQ q)(Y:∀t,t<(Bc q.p).length→kQ q t≤12):GY env 8 [.agg (Enc.enc q)] (jf q):=by
 have C:=QZ q d.o.sm d.p.sm;rw[a0t d] at C;have J:=Xg q d;rw[iJ Y] at J;have W:=eG q d;have O:=LP q d;have hSl:=Qk q.p;have hn:=d.p.notes;refine GY.enter Tryz.func8 rfl (by kernel_rfl) (by kernel_rfl) (by simp[Tryz.ntmps8]) ?_
 repeat' (first|apply eN|apply Et.normal|apply Ba.to|apply Ba.block|apply Ba.skip|(apply f7;rfl)|refine a6 C ?_|refine a6 J ?_|refine a6 W ?_|refine a6 O ?_|(apply d3a (m:=[]) (y:=st0) (OW q,0);rfl;rfl;rfl;rfl;rfl)|refine go1 ?_|(apply c5q)|refine a7 ?_|refine b7 ?_|fail)
 all_goals try omega
 all_goals try contradiction
 have hS2:∀k,k<(Bc q.p).length→gi (Bc q.p) k=Oj q k:=fun k _=>rfl
 refine Ba.D7 (fun s:Nat×List (Lu×Way)=>[(1,.ref 0 0),(2,.ref 1 0),(5,.mref 2),(27,.p (.lst 62 (cells (Bc q.p)) (Bc q.p).length)),(28,.p (.int .i64 ((Bc q.p).length:Int))),(29,.p (.int .i64 (s.1:Int)))])
  (fun s=>[(0,yP q),(1,c7j),(2,Np s.2)]) 3 (fun s=>s.1≤(Bc q.p).length∧nT q s.1 s.2) (fun s=>(Bc q.p).length-s.1) (0,[(st0,(OW q,0))]) (by decide) ⟨ao _,nA⟩ ⟨by decide,?_,?_⟩ ?_
 ·exact Dh
 ·repeat(first|exact BN.nil|(refine BN.cons (AZ rfl) ?_ rfl ?_ ?_;(first|exact CX _ _|exact Di _ _|exact hQ rfl|exact eL _ _|(simp[HB.under,CZ.under,PV.under]));(first|exact KX.refl _|exact KX.vec (IK.refl _) (by simp))))
 rintro⟨k,m⟩ ⟨S,F⟩;simp only at S F ⊢;rcases aq k (Bc q.p).length with hkl|hkl
 ·have ha:=a3k q d k hkl (Y k hkl) m (a9z q d hkl F)
  unfold yP c7j
  repeat' (first|(refine j9 10 ?_;apply Ba.qP)|((refine pD 36 ?_;refine Hold.of ?_))|apply eN|apply Et.normal|apply Ba.to|apply Ba.block|apply Ba.skip|(apply j4;rfl)|apply hU|apply Ah.nil|apply c9|(apply Aa.move;rfl)|refine a7 ?_|refine b9 ?_|(apply Aa.load;rfl;rfl)|(apply Aa.alloc;rfl)|refine d9 ?_|(intro _;try omega))
  all_goals try omega
  refine Hold.go ?_;refine pS [2] ha pF rfl rfl (.of_eq rfl) (eA rfl) ⟨⟨by decide,CX _ _⟩,trivial⟩ ⟨⟨_,rfl,by rw[Z8];exact KX.refl _⟩,trivial⟩ (by decide) (by decide) ?_;rintro r H' nx' ⟨V,hV1,A,rfl,rfl,rfl⟩;have R:=a2w q d hkl F A
  repeat' (first|((refine j9 11 ?_;refine Hold.of ?_))|apply Et.normal|apply Cc.nil|apply hU|apply Bj.normal|(apply Aa.assign;rfl))
  refine Hold.go ?_;refine Ba.swap 2 4 (by decide) (by decide) (by decide) (by decide) ?_
  repeat' (first|apply Ba.region|refine go1 ?_|fail)
  all_goals try omega
  refine Aj.normal ⟨(k+1,Uz q k m V),⟨hkl,R⟩,by show(Bc q.p).length-(k+1)<(Bc q.p).length-k;omega,⟨by decide,?_,?_⟩⟩
  ·dsimp only
   exact Dh
  ·dsimp only
   repeat(first|exact BN.nil|(refine BN.cons (AZ rfl) ?_ rfl ?_ ?_;(first|exact CX _ _|exact hQ rfl);(first|exact KX.refl _|(rw[Z8,Z8];exact KX.refl _))))
 ·obtain rfl:k=(Bc q.p).length:=by omega
  repeat' (first|((refine Ba.at 13 ?_;refine Hold.of ?_))|apply eN|apply Et.normal|apply Et.exit|apply Ba.to|apply Ba.exit|(apply j4;rfl)|refine go0 ?_|(intro _;try omega))
  all_goals try omega
  refine Hold.go ?_;have u:=a8n q d F;refine Ba.pJ (fun b:Option Way=>[(1,.ref 0 0),(2,.ref 1 0),(8,d2v b),(38,.mref 2)]) (fun b=>[(0,yP q),(1,c7j),(2,Np m)]) (fun V b=>b=UN m V∧∀i∈V,i<m.length) none (C9:=3) (b:=2) (ks:=(KZ m).map fun x=>.agg (Enc.enc x.1)) (cs:=(KZ m).map (·.2)) rfl rfl (by decide) rfl ⟨rfl,fun i h=>absurd h bm⟩ ⟨by decide,?_,?_⟩ rfl (fun _=>⟨rfl,rfl,rfl⟩) (fun _ _ _=>rfl) (by simp) rfl (by kernel_rfl) (by kernel_rfl) (by decide) ?_ ?_
  ·exact Dh
  ·repeat(first|exact BN.nil|(refine BN.cons (AZ rfl) ?_ rfl ?_ ?_;(first|exact CX _ _|exact Di _ _|exact hQ rfl|exact eL _ _|(simp[HB.under,CZ.under,PV.under]));(first|exact KX.refl _|exact KX.vec (IK.refl _) (by simp))))
  ·rintro V b i kk c ⟨T,N⟩ P hni S C
   subst T;have I:i<m.length:=by
    have:=(bw.1 S).1;simpa[KZ] using this
   have U:m[i]?=some (gi m i):=by unfold gi;rw[ai I];rfl
   have ec:c=.p (QV (gi m i).2):=by
    unfold KZ at C;rw[ax,ax,U] at C;simpa using C.symm
   subst ec;have e:UN m (V++[i])=YL (UN m V) (gi m i).2:=by
    unfold UN;rw[bh,dE];rfl
   have G:∀o,UN m V=some o→o.1.length=q.p.notes.length∧0≤o.2∧o.2≤1000000000000:=fun o B=>by
    rcases Yg (V.map fun i=>(gi m i).2) none with⟨_,_,h⟩|⟨w,X,h2,_,_⟩
    ·unfold UN at B;rw[h] at B;cases B
    ·unfold UN at B;rw[X] at B;cases B
     rcases h2 with h2|h2
     ·obtain⟨j,j1,rfl⟩:=ba.1 h2
      exact u _ (Dj (N j j1))
     ·cases h2
   rw[e];clear e;have M:∀j∈V++[i],j<m.length:=fun j hj=>by
    rcases bt.1 hj with h|h
    ·exact N j h
    ·rw[aM] at h;omega
   obtain⟨f1,f2⟩:=u _ (Dj I);generalize UN m V=b at *;generalize (gi m i).2=v at *;obtain⟨l,a⟩:=v;simp only at f1 f2;cases b with
   |none =>
    have f:YL none (l,a)=some (l,a):=rfl;rw[f]
    repeat' (first|(refine j9 17 ?_;refine ju (pH 10 [.lst 3 (cells l) l.length,.int .i64 a] rfl rfl rfl) ?_;first|apply Ba.region|apply ob)|apply k9|(apply j5;rfl)|apply Cc.nil|apply hU|refine go2 ?_|(apply na;rfl;rfl)|(apply pn;rfl;rfl;rfl))
    all_goals try omega
    all_goals try contradiction
    refine Aj.normal ⟨some (l,a),⟨rfl,M⟩,⟨by decide,?_,?_⟩⟩
    ·exact Dh
    ·repeat(first|exact BN.nil|(refine BN.cons (AZ rfl) ?_ rfl ?_ ?_;(first|exact CX _ _|exact Di _ _|exact hQ rfl|exact eL _ _|(simp[HB.under,CZ.under,PV.under]));(first|exact KX.refl _|exact KX.vec (IK.refl _) (by simp))))
   |some o =>
    obtain⟨z,g⟩:=o;obtain⟨o1,o2⟩:=G _ rfl;simp only at o1 o2;have K:=UE l z (by omega) (by omega);have f:YL (some (z,g)) (l,a)=if ltB (l,a) (z,g)=true then some (l,a) else some (z,g):=rfl
    have hb:ltB (l,a) (z,g)=(decide (a<g)||(decide (a=g)&&decide (cmpL l z<0))):=rfl;rw[hb] at f;generalize cmpL l z=cm at *;by_cases g1:a<g;all_goals by_cases g2:a=g
    all_goals by_cases Z:cm<0
    all_goals first|rw[decide_eq_true g1] at f|rw[decide_eq_false g1] at f
    all_goals first|rw[decide_eq_true g2] at f|rw[decide_eq_false g2] at f
    all_goals first|rw[decide_eq_true Z] at f|rw[decide_eq_false Z] at f
    all_goals simp only[Bool.true_or,Bool.false_or,Bool.true_and,Bool.false_and,Bool.false_eq_true,if_true,if_false] at f
    all_goals rw[f]
    all_goals
     repeat' (first|(refine j9 17 ?_;refine ju (pH 10 [.lst 3 (cells l) l.length,.int .i64 a] rfl rfl rfl) ?_;first|apply Ba.region|apply ob)|apply k9|apply Ba.skip|(apply j5;rfl)|(apply f7;rfl)|(apply j4;rfl)|apply Cc.nil|apply hU|refine a6 K ?_|refine go2 ?_|(apply Ai.guard;rfl;rfl)|(apply na;rfl;rfl)|(apply pi;rfl;rfl;rfl)|(apply pr;rfl)|refine a7 ?_|(intro _;try omega))
    all_goals try omega
    all_goals try contradiction
    all_goals
     refine Aj.normal ⟨_,⟨rfl,M⟩,⟨by decide,?_,?_⟩⟩
     ·exact Dh
     ·repeat(first|exact BN.nil|(refine BN.cons (AZ rfl) ?_ rfl ?_ ?_;(first|exact CX _ _|exact Di _ _|exact hQ rfl|exact eL _ _|(simp[HB.under,CZ.under,PV.under]));(first|exact KX.refl _|exact KX.vec (IK.refl _) (by simp))))
  ·rintro V b ⟨T,N⟩ P X h2
   subst T;have A:∀i,i∈V↔i<m.length:=fun i=>⟨N i,fun h=>X i (by simpa[KZ] using h)⟩
   rw[b1c q F A];unfold jf;cases ZV q with
   |none =>
    show Et _ _ _ _ _ _ [(1,_),(2,_),(8,.p (.val (.pointer none))),(38,_)] _ _
    repeat' (first|apply eN|apply Et.normal|apply Et.ret|apply Ba.to|apply Ba.ret|(apply j5;rfl)|refine Fh ?_|(apply pn;rfl;rfl;rfl)|refine b7 ?_|fail)
    all_goals try omega
    all_goals try contradiction
    all_goals(refine aa ?_;try rfl)
   |some l =>
    show Et _ _ _ _ _ _ [(1,_),(2,_),(8,.p (.FI [.lst 3 (cells l) l.length,.int .i64 (NJ q l)])),(38,_)] _ _
    repeat' (first|apply eN|apply k9|apply Et.normal|apply Ba.to|apply Ba.ret|apply Ba.skip|(apply f7;rfl)|refine go2 ?_|(apply pi;rfl;rfl;rfl)|(apply pr;rfl)|refine b7 ?_|fail)
    all_goals try omega
    all_goals try contradiction
    all_goals(refine aa ?_;try rfl)
theorem c4b{a:Nat}(h:a<100000000000000000):Lib.nDigits a≤18:=by
 have c:Lib.nDigits 100000000000000000=18:=Lib.nDigits_unique 17 _ (by decide) (by decide);rcases aq 18 (Lib.nDigits a) with h2|h2
 ·have:=Num.Qs (a:=100000000000000000) (b:=a) (by omega)
  omega
 omega
theorem jC(a b:Nat)(d:a<100000000000000000)(c:b<100000000000000000):Ak env 43 [.str (bs (Lib.decDigits a)),.str (bs (Lib.decDigits b))] (st (Lib.decDigits (a+b))):=by
 have f:Ak env 81 [.str (bs (Lib.decDigits a)),.int .i64 18] (.DK [.p (.int .i64 (a:Int)),.p (.bool true)]):=by
  have:=Qo a 18 (ab _);rw[if_pos (c4b d),decide_eq_true (c4b d)] at this;omega
 have e:Ak env 81 [.str (bs (Lib.decDigits b)),.int .i64 18] (.DK [.p (.int .i64 (b:Int)),.p (.bool true)]):=by
  have:=Qo b 18 (ab _);rw[if_pos (c4b c),decide_eq_true (c4b c)] at this;omega
 have g:Ak env 82 [.int .i64 ((a:Int)+(b:Int))] (st (Lib.decDigits (a+b))):=by
  have:=aI ((a+b:Nat):Int) ⟨by omega,by omega⟩;assumption
 generalize Lib.decDigits b=y at *;refine Ak.enter (Af (by decide)) Tryz.func43 rfl (by kernel_rfl) (by simp) ?_
 repeat' (first|refine a6 f ?_|refine a6 e ?_|refine a6 g ?_|refine go1 ?_|(apply ei;rfl))
 all_goals first|omega|contradiction|(refine aa ?_;try rfl)
abbrev Jo:=List Int×Nat
def QN(w:Jo):FV:=.agg [.lst 3 (cells w.1) w.1.length,.str (bs (Lib.decDigits w.2))]
def J6(es:List (List UInt8×Jo)):List (List UInt8×PV):=es.map fun e=>(e.1,.p (QN e.2))
def VE(es:List (List UInt8×Jo)):HB:=OC (fun x:List UInt8=>.str (bs x)) (J6 es)
theorem Di(k:Nat)(es:List (List UInt8×Jo)):HB.under k (VE es):=by
 induction es with
 |nil=>exact trivial
 |cons e es a=>exact⟨trivial,a⟩
theorem cvJ(h:Vm.BN k a b:=by repeat(first|exact BN.nil|(refine BN.cons (AZ rfl) ?_ rfl ?_ ?_;(first|exact Di _ _|exact CX _ _|exact hQ rfl|exact eL _ _|(simp[HB.under,CZ.under,PV.under]));(first|exact KX.refl _|exact KX.vec (IK.refl _) (by simp))))):Vm.BN k a b:=h
theorem cvK(h:Vm.BN k a b:=by repeat(first|exact BN.nil|(refine BN.eq rfl (AZ rfl) ?_ ?_;(first|exact Di _ _|exact CX _ _|exact hQ rfl|exact eL _ _|(simp[HB.under,CZ.under,PV.under];done)))|(refine BN.cons (AZ rfl) ?_ rfl ?_ ?_;(first|exact Di _ _|exact CX _ _|exact hQ rfl|exact eL _ _|(simp[HB.under,CZ.under,PV.under]));(first|exact KX.refl _|exact KX.vec (IK.refl _) (by simp))))):Vm.BN k a b:=h
theorem c2a(ρ:Nat→Nat)(es:List (List UInt8×Jo)):(VE es).rn ρ=VE es:=by
 show HB.KF _ (CZ.rn ρ ((J6 es).map (·.2)))=HB.KF _ _;have:CZ.rn ρ ((J6 es).map (·.2))=(J6 es).map (·.2):=by
  induction es with
  |nil=>rfl
  |cons e es a =>
   show PV.rn ρ (PV.p (QN e.2))::CZ.rn ρ ((J6 es).map (·.2))=_;rw[a];rfl
 grind
section
variable {L:Vm.Frame}{H:Vm.Heap}{nx:Nat}{Q:PV→Vm.Heap→Nat→Prop}{w:Bool}{dst:Option Tmp}{ty:TypeId}{pos:String}{af:Array Edge}{gd:Option (Nat×Bool)}
theorem c5m(q:Q (.mref nx) ((nx,VE [])::H) (nx+1)):Aa env w ⟨dst,.makeMap t none,ty,pos,af,gd⟩ L H nx Q:=oS q
theorem c9c(g:Cj m y=none)(d:AY env.Γ L x=some (.mref b))(i:hget H b=some (VE m))(h:AY env.Γ L k=some (.p (.str (bs y))))
 (e:env.P.underlying t=some (.map 9 a)) (c:zeroOf env.P a=some (.agg #[.slice none 0 0,.string ⟨#[]⟩])) (q:Q (.DK [.p (.agg [.val (.slice none 0 0),.str ⟨#[]⟩]),.p (.bool false)]) H nx):Aa env w ⟨dst,.lookup t x k true,ty,pos,af,gd⟩ L H nx Q:=by
 have j:Cj (J6 m) y=none:=by
  have:=VP (fun w=>PV.p (QN w)) y m;rw[g] at this;exact this
 have f:(Cj (J6 m) y).isSome=false:=by grind
 rw[← f] at q;exact ko (z:=.agg #[.slice none 0 0,.string ⟨#[]⟩]) ZY d i h e c rfl (Nb.const j rfl) q
theorem c6l(g:Cj m y=some v)(d:AY env.Γ L x=some (.mref b))(i:hget H b=some (VE m))(h:AY env.Γ L k=some (.p (.str (bs y))))
 (e:env.P.underlying t=some (.map 9 a)) (c:zeroOf env.P a=some (.agg #[.slice none 0 0,.string ⟨#[]⟩])) (q:Q (.DK [.p (QN v),.p (.bool true)]) H nx):Aa env w ⟨dst,.lookup t x k true,ty,pos,af,gd⟩ L H nx Q:=by
 have j:Cj (J6 m) y=some (.p (QN v)):=by
  have:=VP (fun w=>PV.p (QN w)) y m;rw[g] at this;exact this
 have f:(Cj (J6 m) y).isSome=true:=by grind
 rw[← f] at q;exact ko (z:=.agg #[.slice none 0 0,.string ⟨#[]⟩]) ZY d i h e c rfl (.inl j) q
theorem d1a(v:Jo)(d:AY env.Γ L x=some (.mref b))(g:hget H b=some (VE m))(f:AY env.Γ L k=some (.p (.str (bs y))))(c:AY env.Γ L a=some (.p (QN v)))
 (e:env.P.underlying t=some (.map 9 h)) (q:Q (.DK []) (hput H b (VE (CP m y v))) nx):Aa env true ⟨dst,.mapUpdate t x k a,ty,pos,af,gd⟩ L H nx Q :=
 po ZY d g f c e (by
  show hput H b (OC _ (CP (J6 m) y (.p (QN v))))=hput H b (OC _ (J6 (CP m y v)));have:CP (J6 m) y (PV.p (QN v))=J6 (CP m y v):=Xb (fun w=>PV.p (QN w)) y v m;grind) q
theorem d0k(v:Jo)(d:AY env.Γ L x=some (.mref b))(g:hget H b=some (VE m))(f:AY env.Γ L k=some (.p (.str (bs y))))(c:AY env.Γ L a=some (.p (QN v)))
 (e:env.P.underlying t=some (.map 9 h)) (q:Q (.DK []) (hput H b (VE (CP m y v))) nx):Aa env true ⟨dst,.insert t x k a,ty,pos,af,gd⟩ L H nx Q :=
 pt ZY d g f c e (by
  show hput H b (OC _ (CP (J6 m) y (.p (QN v))))=hput H b (OC _ (J6 (CP m y v)));have:CP (J6 m) y (PV.p (QN v))=J6 (CP m y v):=Xb (fun w=>PV.p (QN w)) y v m;grind) q
end
instance:Inhabited (List UInt8×Jo):=⟨([],([],0))⟩
def a3o(q:Qu)(t:Nat)(e:List UInt8×Jo):List (List UInt8×Jo):=(qH q t e.2.1).map fun x=>(QJ (Dy q t) x,(x,e.2.2))
def dQ(q:Qu)(t:Nat)(es:List (List UInt8×Jo))(V:List Nat):List (List UInt8×Jo):=((V.map (gi es)).flatMap (a3o q t)).foldl Uf []
def zy(q:Qu)(t:Nat)(m:List (List UInt8×Jo)):Prop:=ZE (Ol q) (fQ q) (kQ q) (Zb q) (OW q) [] (c9v q) t m
theorem ZB{α:Type}[Inhabited α]{es:List α}{V:List Nat}(a:V.Nodup)(h:∀i,i∈V↔i<es.length):(V.map (gi es)).Perm es:=by
 have d:V.Perm (List.range es.length):=(gD a gS).2 fun i=>by grind
 have c:(List.range es.length).map (gi es)=es:=by
  refine LV (by simp) fun i b=>?_
  unfold gi;grind
 grind
theorem a4e(q:Qu)(b:IQ q)(a:t<(Bc q.p).length)(d:zy q t m)(c:V.Nodup)(e:∀i,i∈V↔i<m.length):zy q (t+1) (dQ q t m V) :=
 ZE.step (Zv q b) (c0r q) (WM q) (c4z q) a d (ZB c e)
theorem b1l(q:Qu)(b:IQ q)(a:t≤(Bc q.p).length)(c:zy q t m):∀e∈m,c7o q t e.2.1∧e.2.2≤(Jc q t).length:=fun e d=>by
 obtain⟨g,h,f⟩:=c.sub e d;refine⟨(RI q b a _).1 g,?_⟩;rw[f];exact List.countP_le_length
theorem wz(F:α→Nat):∀l:List α,(∀a∈l,1≤F a)→l.length≤sumF F l
 |[],_=>ab _
 |a::l,h=>by
  have:=wz F l fun b c=>h b (am _ c)
  have:=h a (by simp);simp only[sumF,List.length_cons];omega
theorem a8i(q:Qu)(a:zy q t m):m.length≤(Jc q t).length:=by
 have h:=ms a;refine an (wz (fun d:List UInt8×Jo=>d.2.2) m fun d b=>?_) (Nat.le_of_eq h);obtain⟨f,e,c⟩:=a.sub d b;grind
theorem c3g{m:List (List UInt8×Jo)}{d:List UInt8×Jo}(g:∀e∈m,e.2.2≤n)(j:d.2.2≤c):∀e∈Uf m d,e.2.2≤n+c:=fun e a=>by
 have b:∀w:Jo,w.2≤n+c→∀e∈CP m d.1 w,e.2.2≤n+c:=fun w i e a=>by
  rcases SL a with h|h|h
  ·grind
  ·grind
  grind
 unfold Uf at a;split at a
 ·grind
 ·rename_i o f
  have:=g _ (Me f);grind
theorem d2m:Lib.decDigits 0=[48]:=by rw[Lib.decDigits];rfl
theorem d5j:Lib.decDigits 1=[49]:=by rw[Lib.decDigits];rfl
def cbd(n:Nat):Nat:=n*4096000000
theorem c8l(h:n≤1000000):cbd n≤4096000000000000:=by unfold cbd;omega
theorem b5m(n:Nat):cbd (n+1)=cbd n+4096000000:=by unfold cbd;omega
theorem rX(q:Qu)(C:IQ q)(hM:∀t,t<(Bc q.p).length→kQ q t≤12)(hP:∀t,t≤(Bc q.p).length→(Jc q t).length≤1000000):GY env 12 [.agg (Enc.enc q)] (.DK [st (Lib.decDigits (Jc q (Bc q.p).length).length),.p (.int .i64 0)]):=by
 have hc:=QZ q C.o.sm C.p.sm;rw[a0t C] at hc;have Y:=Xg q C;rw[iJ hM] at Y;have hbg:=eG q C;have hsl:=LP q C;have hSl:=Qk q.p;have hn:=C.p.notes;have e1:(some (PV.p (.agg [.lst 3 (cells (OW q)) (OW q).length,.str ⟨#[49]⟩])))=some (PV.p (QN (OW q,1))):=by
  unfold QN;simp only[d5j];rfl
 refine GY.enter Tryz.func12 rfl (by kernel_rfl) (by kernel_rfl) (by simp[Tryz.ntmps12]) ?_
 repeat' (first|apply eN|apply Et.normal|apply Ba.to|apply Ba.block|apply Ba.skip|(apply f7;rfl)|refine a6 hc ?_|refine a6 Y ?_|refine a6 hbg ?_|refine a6 hsl ?_|(apply d0k (m:=[]) (y:=[]) (OW q,1);rfl;rfl;rfl;exact e1;rfl)|refine go1 ?_|(apply c5m)|refine a7 ?_|refine b7 ?_|fail)
 all_goals try omega
 all_goals try contradiction
 refine Ba.D7 (fun s:Nat×List (List UInt8×Jo)=>[(1,.ref 0 0),(5,.mref 1),(32,.p (.lst 62 (cells (Bc q.p)) (Bc q.p).length)),(33,.p (.int .i64 ((Bc q.p).length:Int))),(34,.p (.int .i64 (s.1:Int)))])
  (fun s=>[(0,yP q),(1,VE s.2)]) 2 (fun s=>s.1≤(Bc q.p).length∧zy q s.1 s.2) (fun s=>(Bc q.p).length-s.1) (0,[([],(OW q,1))]) (by decide) ⟨ao _,nB⟩ ⟨by decide,?_,?_⟩ ?_
 ·exact Dh
 ·exact cvJ
 rintro⟨k,m⟩ ⟨hk,W⟩;simp only at hk W ⊢;have hml:=an (a8i q W) (hP k hk);have N:=b1l q C hk W;have hPk:=hP k hk;rcases aq k (Bc q.p).length with hkl|hkl
 ·unfold yP
  repeat' (first|((refine Ba.at 11 ?_;refine Hold.of ?_))|apply eN|apply Et.normal|apply Ba.to|apply Ba.block|apply Ba.skip|(apply j4;rfl)|refine b9 ?_|refine go0 ?_|(apply c5m)|(intro _;try omega))
  all_goals try omega
  refine Hold.go ?_;refine Ba.pJ (fun b:List (List UInt8×Jo)=>[(1,.ref 0 0),(7,.ref 2 0),(8,.mref 3),(32,.p (.lst 62 (cells (Bc q.p)) (Bc q.p).length)),(33,.p (.int .i64 ((Bc q.p).length:Int))),(34,.p (.int .i64 (k:Int))),(39,.mref 1)]) (fun b=>[(0,yP q),(1,VE m),(2,slB (Oj q k)),(3,VE b)]) (fun V b=>b=dQ q k m V∧(∀i∈V,i<m.length)∧∀e∈b,e.2.2≤cbd V.length) [] (C9:=4) (b:=1) (ks:=(J6 m).map fun x=>.str (bs x.1)) (cs:=(J6 m).map (·.2)) rfl rfl (by decide) rfl ⟨rfl,(fun i h=>absurd h bm),fun e h=>absurd h bm⟩ ⟨by decide,?_,?_⟩ rfl (fun _=>⟨rfl,rfl,rfl⟩) (fun _ _ _=>rfl) (by simp) rfl (by kernel_rfl) (by kernel_rfl) (by decide) ?_ ?_
  ·exact Dh
  ·exact cvJ
  ·rintro V b i kk c ⟨u,K,hbl⟩ g hni M z
   subst u;have I:i<m.length:=by
    have:=(bw.1 M).1;simpa[J6] using this
   have O:m[i]?=some (gi m i):=by unfold gi;rw[ai I];rfl
   have ec:c=.p (QN (gi m i).2):=by
    unfold J6 at z;rw[ax,ax,O] at z;simpa using z.symm
   subst ec;have J:dQ q k m (V++[i])=(a3o q k (gi m i)).foldl Uf (dQ q k m V):=by
    unfold dQ;rw[bh,jj,dE,gA,ip]
   rw[J];clear J;have R:∀j∈V++[i],j<m.length:=fun j hj=>by
    rcases bt.1 hj with h|h
    ·exact K j h
    ·rw[aM] at h;omega
   have Z:=Ji m.length V g K;have hVs:(V++[i]).length=V.length+1:=by simp
   rw[hVs];have hcs:=b5m V.length;have hcl:=c8l (an Z hml);obtain⟨w1,w2⟩:=N _ (Dj I);have w3:=zI q C hkl w1;generalize dQ q k m V=b0 at *;unfold a3o;generalize (gi m i).2=v at *;obtain⟨l,A⟩:=v;simp only at w1 w2 w3 ⊢;have hch:=Wp q C k hkl (hM k hkl) l w3;have hwy:=fun y hy=>zq q C hkl w3 (x:=y) hy
   have hLl:=xA q k (hM k hkl) l;generalize qH q k l=L at *;have hN:VB q (Oj q k).notes:=G7 hkl;have hNl:(Oj q k).notes.length≤1000:=bV C hkl;obtain⟨G,hG⟩:∃G:List Int→List UInt8×Jo,G=fun y=>(QJ (Dy q k) y,(y,A)):=⟨_,rfl⟩
   rw[← hG];rw[hcs];generalize cbd V.length=B at *;unfold yP slB
   repeat' (first|(refine Ba.at 14 ?_;apply ki)|(apply Cc.fn;rfl;rfl;exact hch;exact Sz;intro _;rfl)|apply Ba.block|apply Cc.nil|apply hU|refine go2 ?_|fail)
   all_goals try omega
   refine kg ?_;apply Ad.Jy (L.length) (fun f=>∀e∈((L.take f).map G).foldl Uf b0,e.2.2≤B+f*1000000) [(1,_),(7,_),(8,_),(10,_),(32,_),(33,_),(34,_),(39,_),(49,_),(50,_)] [(0,_),(1,_),(2,_),(4,_)] (fun f r=>(51,.p (.int .i64 (f:Int)))::r) (fun f r=>(3,VE (((L.take f).map G).foldl Uf b0))::r) 5
   ·first|omega|decide
   ·first|omega|decide
   ·exact Ns
   ·exact cvK
   ·first|(intro _ _;omega)|omega|trivial
   ·intro f X u
    obtain⟨y1,y2⟩:=hwy _ (Dj X);have e1:((L.take (f+1)).map G).foldl Uf b0=Uf (((L.take f).map G).foldl Uf b0) (G (gi L f)):=by
     rw[EH X,bh,dE];rfl
    rw[e1];clear e1;generalize ((L.take f).map G).foldl Uf b0=mm at *;have c4t:=uJ q (Oj q k) hN hNl (gi L f) y1 y2;have hGk:G (gi L f)=(QJ (Oj q k).notes (gi L f),(gi L f,A)):=by rw[hG];rfl
    rw[hGk];have F:=c3g (c:=1000000) (d:=(QJ (Oj q k).notes (gi L f),(gi L f,A))) u (by show A≤1000000;omega);have F:∀e∈Uf mm (QJ (Oj q k).notes (gi L f),(gi L f,A)),e.2.2≤B+(f+1)*1000000:=fun e he=>by have:=F e he;omega
    generalize QJ (Oj q k).notes (gi L f)=nn at *;have T:Uf mm (nn,(gi L f,A))=match Cj mm nn with|none=>CP mm nn (gi L f,0+A)|some o=>CP mm nn (o.1,o.2+A):=rfl
    cases hl:Cj mm nn with
    |none =>
     rw[hl] at T;simp only at T;rw[T] at F ⊢;have S:=jC 0 A (by omega) (by omega);rw[d2m] at S
     repeat' (first|refine a6 c4t ?_|refine a6 S ?_|(apply c9c (m:=mm) (y:=nn) hl;rfl;rfl;rfl;rfl;rfl)|(apply d1a (m:=mm) (y:=nn) (gi L f,0+A);rfl;rfl;rfl;rfl;rfl)|refine b9 ?_|refine Fh ?_|refine a7 ?_|refine b7 ?_|(apply ei;rfl)|(apply a8;rfl)|(intro _;try omega))
     all_goals try omega
     all_goals try contradiction
     refine Aj.normal ⟨F,by first|omega|decide,?_,?_⟩
     ·exact Dh
     ·exact cvJ
    |some o =>
     obtain⟨ol,oc⟩:=o;have hoc:=u _ (Me hl);simp only at hoc;rw[hl] at T;simp only at T;rw[T] at F ⊢;have S:=jC oc A (by omega) (by omega)
     repeat' (first|refine a6 c4t ?_|refine a6 S ?_|(apply c6l (m:=mm) (y:=nn) hl;rfl;rfl;rfl;rfl;rfl)|(apply d1a (m:=mm) (y:=nn) (ol,oc+A);rfl;rfl;rfl;rfl;rfl)|refine b9 ?_|refine Fh ?_|refine a7 ?_|(apply cn;rfl)|(apply a8;rfl)|(intro _;try omega))
     all_goals try omega
     all_goals try contradiction
     refine Aj.normal ⟨F,by first|omega|decide,?_,?_⟩
     ·exact Dh
     ·exact cvJ
   ·intro u
    rw[cd] at u ⊢
    repeat' (first|refine Fj ?_|(apply a8;rfl)|(intro _;try omega))
    all_goals try omega
    refine Aj.normal ⟨_,⟨rfl,R,fun e he=>by have:=u e he;omega⟩,⟨by decide,?_,?_⟩⟩
    ·exact Dh
    ·exact cvJ
  ·rintro V b ⟨u,K,_⟩ g h1 h2
   subst u;have P:∀i,i∈V↔i<m.length:=fun i=>⟨K i,fun h=>h1 i (by simpa[J6] using h)⟩
   have hms:=a4e q C hkl W g P;refine Et.normal ?_;refine Ba.swap 1 3 (by decide) (by decide) (by decide) (by decide) ?_
   repeat' (first|apply Ba.region|apply Et.normal|refine go1 ?_|fail)
   all_goals try omega
   refine Aj.normal ⟨(k+1,dQ q k m V),⟨hkl,hms⟩,by show(Bc q.p).length-(k+1)<(Bc q.p).length-k;omega,⟨by decide,?_,?_⟩⟩
   ·dsimp only
    exact Dh
   ·dsimp only
    repeat(first|exact BN.nil|(refine BN.cons (AZ rfl) ?_ rfl ?_ ?_;(first|exact Di _ _|exact hQ rfl);(first|exact KX.refl _|(rw[c2a];exact KX.refl _))))
 ·obtain rfl:k=(Bc q.p).length:=by omega
  repeat' (first|((refine Ba.at 27 ?_;refine Hold.of ?_))|apply eN|apply Et.normal|apply Et.exit|apply Ba.to|apply Ba.exit|(apply j4;rfl)|refine go0 ?_|(intro _;try omega))
  all_goals try omega
  refine Hold.go ?_;have hsb:∀V:List Nat,(∀i∈V,i<m.length)→sumF (fun i=>(gi m i).2.2) V≤V.length*1000000:=fun V=>by
   induction V with
   |nil=>intro _;exact ab _
   |cons a V ih =>
    intro h;have h1:=ih fun i u=>h i (am _ u)
    have h2:=(N _ (Dj (h a (by simp)))).2;simp only[sumF,List.length_cons];omega
  refine Ba.pJ (fun s:Nat=>[(16,.p (.str (bs (Lib.decDigits s)))),(81,.mref 1)]) (fun s=>[(1,VE m)]) (fun V s=>s=sumF (fun i=>(gi m i).2.2) V∧∀i∈V,i<m.length) 0 (C9:=2) (b:=1) (ks:=(J6 m).map fun x=>.str (bs x.1)) (cs:=(J6 m).map (·.2)) rfl rfl (by decide) rfl ⟨rfl,fun i h=>absurd h bm⟩ ⟨by decide,?_,?_⟩ rfl (fun _=>⟨rfl,rfl,rfl⟩) (fun _ _ _=>rfl) (by simp) rfl (by kernel_rfl) (by kernel_rfl) (by decide) ?_ ?_
  ·rw[d2m]
   exact Dh
  ·exact cvJ
  ·rintro V b i kk c ⟨u,K⟩ g hni M z
   subst u;have I:i<m.length:=by
    have:=(bw.1 M).1;simpa[J6] using this
   have O:m[i]?=some (gi m i):=by unfold gi;rw[ai I];rfl
   have ec:c=.p (QN (gi m i).2):=by
    unfold J6 at z;rw[ax,ax,O] at z;simpa using z.symm
   subst ec;have R:∀j∈V++[i],j<m.length:=fun j hj=>by
    rcases bt.1 hj with h|h
    ·exact K j h
    ·rw[aM] at h;omega
   have Z:=Ji m.length V g K;have hs:=hsb V K;have w2:=(N _ (Dj I)).2;have U:sumF (fun i=>(gi m i).2.2) (V++[i])=sumF (fun i=>(gi m i).2.2) V+(gi m i).2.2:=by
    rw[NC];simp[sumF]
   rw[U];generalize sumF (fun i=>(gi m i).2.2) V=sv at *;generalize (gi m i).2=v at *;obtain⟨l,A⟩:=v;simp only at w2 ⊢;have S:=jC sv A (by omega) (by omega)
   repeat' (first|apply Ba.region|apply Cc.nil|apply hU|refine a6 S ?_|refine Fh ?_|fail)
   all_goals try omega
   refine Aj.normal ⟨_,⟨rfl,R⟩,⟨by decide,?_,?_⟩⟩
   ·exact Dh
   ·exact cvJ
  ·rintro V s ⟨u,K⟩ g h1 h2
   subst u;have P:∀i,i∈V↔i<m.length:=fun i=>⟨K i,fun h=>h1 i (by simpa[J6] using h)⟩
   have ht:sumF (fun i=>(gi m i).2.2) V=(Jc q (Bc q.p).length).length:=by
    have h3:sumF (fun d:List UInt8×Jo=>d.2.2) m=(Jc q (Bc q.p).length).length:=ms W;rw[← h3,← mX (fun d:List UInt8×Jo=>d.2.2) (ZB g P),fH]
   rw[ht];refine Et.normal ?_
   repeat' (first|apply eN|apply Ba.ret|refine go1 ?_|fail)
   all_goals(refine aa ?_;try rfl)
theorem yH:∀(n:Nat) (a b:List Int),a.length=n→b.length=n→(∀x∈a,0≤x∧x≤2)→(∀x∈b,0≤x∧x≤2)→a.foldr (fun x s=>x.toNat+3*s) 0=b.foldr (fun x s=>x.toNat+3*s) 0→a=b
 |0,a,b,ha,hb,_,_,_=>by rw[aw.1 ha,aw.1 hb]
 |n+1,[],_,ha,_,_,_,_=>by cases ha
 |n+1,_::_,[],_,hb,_,_,_=>by cases hb
 |n+1,x::a,y::b,ha,hb,h1,h2,he=>by
  simp only[List.foldr_cons] at he;have f:=h1 x (by simp);have e:=h2 y (by simp);have d:x=y:=by omega
  rw[d,yH n a b (by simpa using ha) (by simpa using hb) (fun z c=>h1 z (am _ c)) (fun z c=>h2 z (am _ c)) (by omega)]
theorem a7k:∀(a:List Int),(∀x∈a,0≤x∧x≤2)→a.foldr (fun x s=>x.toNat+3*s) 0<3^a.length
 |[],_=>by decide
 |x::a,h=>by
  have c:=a7k a fun z b=>h z (am _ b)
  have d:=h x (by simp);grind
theorem a9g(q:Qu)(m:IQ q)(u:q.p.notes.length≤12)(k:t≤(Bc q.p).length):(Jc q t).length≤1000000:=by
 have d:∀l∈Jc q t,l.length=q.p.notes.length∧∀x∈l,0≤x∧x≤2:=fun l y=>by
  have g:=(RI q m k l).1 y;have f:l.length=q.p.notes.length:=lQ.len g;refine⟨f,fun x r=>?_⟩;obtain⟨i,o,rfl⟩:=KN r;exact au (WM q) g (by omega)
 have o:((Jc q t).map fun a=>a.foldr (fun(x:Int) s=>x.toNat+3*s) 0).Nodup:=by
  refine fu _ (R:=fun a b=>a∈Jc q t∧b∈Jc q t∧a≠b) (fun a b ⟨c,j,hne⟩ e=>hne ?_) ?_
  ·exact yH _ a b (d a c).1 (d b j).1 (d a c).2 (d b j).2 e
  ·exact ic (R:=(·≠·)) (fun{a b} c j h=>⟨c,j,h⟩) (iM q m k)
 have z:=Ji (3^q.p.notes.length) _ o fun i g=>by
  obtain⟨a,c,rfl⟩:=ba.1 g;have:=a7k a (d a c).2;grind
 rw[aL] at z;have A:3^q.p.notes.length≤3^12:=aD (by decide) u;omega
theorem wH(q:Qu)(b:q.p.notes.length≤12):∀t,t<(Bc q.p).length→kQ q t≤12:=fun t a=>by
 refine an (eh _ _) ?_;rw[Px q a];exact an (OM q.p _ _) b
theorem jc(q:Qu)(a:IQ q)(b:q.p.notes.length≤12):GY env 8 [.agg (Enc.enc q)] (jf q):=a9a q a (wH q b)
theorem YJ(q:Qu)(a:IQ q)(b:q.p.notes.length≤12):GY env 12 [.agg (Enc.enc q)] (.DK [st (Lib.decDigits (Jc q (Bc q.p).length).length),.p (.int .i64 0)]) :=
 rX q a (wH q b) fun t c=>a9g q a b c
theorem b1z(x y:Way):ny x y∨ny y x:=by
 cases h:ltB x y with
 |true=>exact .inl (a4h h)
 |false=>exact .inr (sH h)
theorem b6m(f:List Int→Int):∀L:List (List Int),L≠[]→∃l∈L,∀h∈L,ny (l,f l) (h,f h)
 |[],h=>absurd rfl h
 |a::L,_=>by
  by_cases b:L=[]
  ·subst b
   exact⟨a,by simp,fun h hh=>by rw[aM] at hh;subst hh;exact JB _⟩
  ·obtain⟨l,d,c⟩:=b6m f L b
   rcases b1z (a,f a) (l,f l) with h3|h3
   ·refine⟨a,by simp,fun h hh=>?_⟩
    rcases bd.1 hh with rfl|hh
    ·exact JB _
    ·exact Mc h3 (c h hh)
   grind
theorem a0u(q:Qu):(Jc q (Bc q.p).length=[]∧ZV q=none)∨∃l,ZV q=some l∧IsB q l:=by
 by_cases h:Jc q (Bc q.p).length=[]
 ·exact .inl ⟨h,nV h⟩
 ·obtain⟨l,b,a⟩:=b6m (NJ q) _ h
  exact .inr ⟨l,X7 ⟨b,a⟩,b,a⟩
end Go.Proofs.YthlffjlbidibdaaGreatDoor
namespace Go.Proofs.YthlffjlbidibdaaGreatDoor
open Go Go.Am Go.Vm Go.Pie
attribute [local irreducible] Aa Ah Ai Ad AL Ak Bf BK Bj Aj Vm.Done Bv AP
attribute [local irreducible] Cb Bg D5 DU EF AV CB
open Go.Sch
attribute [local irreducible] Nl Ba Cc Et GY F8 Hold
def thR:GI:=⟨[79,112,101,110],[79,112,101,110],⟨8,1⟩,36,[1]⟩
def thD:tV:=⟨[71,114,101,97,116],false,36,72,[]⟩
def thO:FZ:=⟨[84,104,114,101,101],[thR],[thD],[]⟩
def thP:Ez:=⟨[0,8],[⟨0,4,0,40⟩,⟨0,4,0,52⟩,⟨4,8,0,60⟩],[]⟩
def thY:Nu:=⟨1,12,0,0⟩
def Yh:Qu:=⟨thO,thP,thY⟩
theorem a1x:Ak env 45 [] (.p (.agg (Enc.enc Yh))):=by
 refine Ak.enter (Af (by decide)) Tryz.func45 rfl (by kernel_rfl) (by simp[Tryz.ntmps45]) ?_
 repeat' (first|(refine eB 6 ?_;refine c7 (b6 5 rfl rfl) ?_)|(refine eB 12 ?_;refine c7 (Ap.trans (b6 8 rfl rfl) (b6 11 rfl rfl)) ?_)|(refine eB 18 ?_;refine c7 (Ap.trans (b6 13 rfl rfl) (b6 17 rfl rfl)) ?_)|apply ce|apply Ad.ret|apply Ah.nil|apply c9|(apply Aa.load;rfl;rfl)|(apply Aa.alloc;rfl)|refine d9 ?_|refine b7 ?_|refine bi ?_|fail)
 all_goals try omega
 refine Done.ret rfl (.p (.agg ?_)) trivial BN.nil (ao _) (ab _) ⟨rfl,rfl,rfl⟩;exact .cons (.refl _) (.cons (.refl _) (.cons (.lst (.cons (.refl _) (.cons (.refl _) (.cons (.refl _) (.cons (.refl _) (.cons (.nil _) (.refl _))))))) (.cons (.nil _) (.cons (.refl _) (.cons (.refl _) (.cons (.nil _) (.refl _)))))))
theorem lt1(h:i<1):i=0 :=by omega
theorem c6m:Cb thR=0:=by
 unfold Cb;have a:Dx thR.name:=Wn [79,112,101,110] (by decide) (by decide) (by decide);have d:QO thR.CW=0:=pk1 8 (.inl rfl);have b:thR.Em=[1]:=rfl;rw[if_neg (by rintro(h|h);exact h a;exact h a),if_neg (fun h=>h d),if_neg (by show¬ ((36:Int)< -256∨(36:Int)>256);omega),b,if_neg (by simp),if_neg (by simp)];unfold Bg;rw[if_pos];intro j c;obtain rfl:=lt1 c;decide
theorem a6a:Ur thO=0:=by
 have f:thO.ranks=[thR]:=rfl;have j:thO.Ae=[thD]:=rfl;have k:thO.IW=[]:=rfl;have g:thO.name=[84,104,114,101,101]:=rfl;unfold Ur;rw[f,j,k,g];have b:QM [thR] 0=0:=TY (fun i hi=>by
  obtain rfl:=lt1 hi;exact⟨c6m,by simp⟩) _ 0 rfl
 have a:DU [thR] thD=0:=by
  unfold DU;exact Qj (fun i hi=>absurd hi (bc _)) _ 0 rfl
 have c:GK [thR] [thD] 0=0:=PX (fun i hi=>by
  obtain rfl:=lt1 hi;exact⟨Wn [71,114,101,97,116] (by decide) (by decide) (by decide),by simp,a⟩) _ 0 rfl
 rw[if_neg (fun h=>h (Wn [84,104,114,101,101] (by decide) (by decide) (by decide))),if_neg (by simp),if_neg (fun h=>h b),if_neg (by simp),if_neg (by simp),if_neg (fun h=>h c)];unfold EF;rw[if_neg (by simp)];have e:Ug ([thD].map fun d=>(⟨d.lo,d.hi⟩:sU)) 0=0:=Tt (fun i hi=>by
  obtain rfl:=lt1 hi;rfl) _ 0 rfl
 rw[if_neg (fun h=>h e)];exact PU (fun i hi=>absurd hi (bc _)) _ 0 rfl
theorem c6i:RD thO:=by
 refine⟨by decide,by decide,by decide,by decide,fun i a=>?_,fun i a=>?_,fun i a=>absurd a (bc _)⟩
 ·obtain rfl:=lt1 a
  exact⟨by decide,by decide,by decide⟩
 ·obtain rfl:=lt1 a
  exact⟨by decide,by decide,fun j b=>absurd b (bc _)⟩
theorem d2i:SA thO:=c4m c6i a6a
theorem d0i(N:List LM)(f:N.length≤1000)(c:∀i,i<N.length→(gi N i).d=0∧(36≤(gi N i).k∧(gi N i).k≤72)∧0≤(gi N i).s∧(gi N i).s<(gi N i).e∧(gi N i).e≤8)(b:∀i,i<N.length→∀j,j<i→jX (gi N j) (gi N i)=false):XM thO ⟨[0,8],N,[]⟩:=by
 refine qK ⟨by simp,by grind,by simp,fun i a=>absurd a (bc _)⟩ ⟨by simp,by simp⟩ (fun i a=>?_) f (fun i a=>?_) (by simp) fun i a=>absurd a (bc _)
 ·rcases lt2 a with rfl|rfl
  ·exact⟨by show(0:Int)≤0∧(0:Int)≤100000;decide,fun h=>by omega⟩
  ·exact⟨by show(0:Int)≤8∧(8:Int)≤100000;decide,fun _=>by show(0:Int)<8;decide⟩
 ·obtain⟨l,g,p,o,m⟩:=c i a
  refine⟨by show 0≤(gi N i).d∧(gi N i).d<((1:Nat):Int);omega,?_,by show(0:Int)≤(gi N i).s∧(gi N i).s<(gi N i).e∧(gi N i).e≤8;omega,b i a⟩;rw[l];exact g
theorem d3m(N:List LM)(y:Nu)(a:y.Ok)(h:XM thO ⟨[0,8],N,[]⟩):IQ ⟨thO,⟨[0,8],N,[]⟩,y⟩ :=
 ⟨d2i,by unfold OT;rw[if_neg (fun h=>h a6a)];exact h.err,h,a⟩
theorem aU:IQ Yh:=d3m _ thY ⟨by decide,by decide,by decide,by decide⟩ (d0i _ (by simp) (fun i c=>by
 have:i=0∨i=1∨i=2:=by
  grind
 rcases this with rfl|rfl|rfl<;>decide) fun i c j d=>by
 have b:i=0∨i=1∨i=2:=by
  grind
 rcases b with rfl|rfl|rfl
 ·omega
 ·obtain rfl:j=0:=by omega
  decide
 ·have a:j=0∨j=1:=by omega
  rcases a with rfl|rfl<;>decide)
theorem c9f:DC thP=[0,4,8]:=by
 refine aP (QY (Yz _)) (by unfold Inc;simp) fun x=>?_
 unfold DC;rw[NH,fk];have:VD thP thP.notes.length=[0,8,0,4,0,4,4,8]:=rfl;grind
theorem ug:Bc Yh.p=[⟨0,4,[0,1]⟩,⟨4,8,[2]⟩]:=by
 show Bc thP=_;unfold Bc;rw[c9f];rfl
theorem b6i:Dy Yh 0=[0,1]:=by unfold Dy;rw[ug];rfl
theorem b3d:Dy Yh 1=[2]:=by unfold Dy;rw[ug];rfl
def thL:List (List Int):=[[0,1,0],[0,1,1],[1,0,0],[1,0,1]]
theorem a5b:∀l∈([[0,0,0],[0,0,1],[0,1,0],[0,1,1],[1,0,0],[1,0,1],[1,1,0],[1,1,1]]:List (List Int)),(J4 Yh [0,1] l&&J4 Yh [2] l)=decide (l∈thL) :=by decide
theorem a3v(l:List Int):l∈Jc Yh (Bc Yh.p).length↔l∈thL:=by
 rw[Ku Yh aU,ug];have y:∀l:List Int,(l.length=3∧∀i,i<3→gi l i=0∨gi l i=1)→l∈([[0,0,0],[0,0,1],[0,1,0],[0,1,1],[1,0,0],[1,0,1],[1,1,0],[1,1,1]]:List (List Int)):=by
  rintro l ⟨k,e⟩;obtain⟨a,b,c,rfl⟩:∃a b c,l=[a,b,c]:=by
   match l,k with
   |[a,b,c],_=>simp
  have x:a=0∨a=1:=e 0 (by decide);have u:b=0∨b=1:=e 1 (by decide);have s:c=0∨c=1:=e 2 (by decide);rcases x with rfl|rfl<;>rcases u with rfl|rfl<;>rcases s with rfl|rfl<;>simp
 have g:∀i,i<3→FK Yh i=false:=fun i d=>by
  have:i=0∨i=1∨i=2:=by omega
  rcases this with rfl|rfl|rfl<;>rfl
 constructor
 ·rintro⟨k,e,m⟩
  have j:=y l ⟨k,fun i d=>by
   have:=e i d;grind⟩
  have f:=a5b l j;have q:=m 0 (by decide);have o:=m 1 (by decide);rw[b6i] at q;rw[b3d] at o;grind
 ·intro h
  have j:l∈([[0,0,0],[0,0,1],[0,1,0],[0,1,1],[1,0,0],[1,0,1],[1,1,0],[1,1,1]]:List (List Int)):=by
   simp only[thL,List.mem_cons,List.not_mem_nil,or_false] at h;rcases h with rfl|rfl|rfl|rfl<;>simp
  have f:=a5b l j;rw[decide_eq_true h,cx] at f;refine⟨?_,fun i d=>?_,fun t r=>?_⟩
  ·simp only[thL,List.mem_cons,List.not_mem_nil,or_false] at h
   rcases h with rfl|rfl|rfl|rfl<;>rfl
  ·have d:i<3:=d
   rw[g i d];have:i=0∨i=1∨i=2:=by omega
   simp only[thL,List.mem_cons,List.not_mem_nil,or_false] at h;rcases h with rfl|rfl|rfl|rfl<;>rcases this with rfl|rfl|rfl<;>decide
  ·rcases lt2 r with rfl|rfl
   ·rw[b6i];exact f.1
   ·rw[b3d];exact f.2
theorem b3q:(Jc Yh (Bc Yh.p).length).length=4:=by
 have h:(Jc Yh (Bc Yh.p).length).Perm thL:=(gD (iM Yh aU (ab _)) (by decide)).2 a3v;exact h.length_eq
theorem c5a(l:List Int)(h:Int):JU Yh l h 2=(let r0:=Xx thP [0,1] l h 2;let r1:=Xx thP [2] l h 1;let A:=if r0.1=true then [(⟨h,0,r0.2⟩:Pos)] else [];if r1.1=true then A++[⟨h,1,r1.2⟩] else A):=by
 have b:He Yh l h 0=Xx thP [0,1] l h 2:=by unfold He;rw[b6i];rfl
 have a:He Yh l h 1=Xx thP [2] l h 1:=by unfold He;rw[b3d];rfl
 unfold JU JU JU;grind
def thC(l:List Int):Int :=
 let P:=fun h:Int=>(let r0:=Xx thP [0,1] l h 2;let r1:=Xx thP [2] l h 1;let A:=if r0.1=true then [(⟨h,0,r0.2⟩:Pos)] else [];if r1.1=true then A++[⟨h,1,r1.2⟩] else A)
 csK (P 0++P 1) ((P 0++P 1).length-1)
theorem sZ(l:List Int):NJ Yh l=thC l:=by
 unfold NJ c7k;have:(Bc Yh.p).length=2:=by rw[ug];rfl
 rw[this,c5a,c5a];rfl
theorem b7k:thL.map thC=[20,8,8,20] :=by decide
theorem a5k:ZV Yh=some [0,1,1]∧NJ Yh [0,1,1]=8:=by
 have c:=b7k;simp only[thL,List.map_cons,List.map_nil,List.cons.injEq,and_true] at c;obtain⟨f,a,e,d⟩:=c;refine⟨X7 ⟨(a3v _).2 (by simp[thL]),fun h b=>?_⟩,by rw[sZ,a]⟩;have:=(a3v h).1 b;rw[sZ,sZ,a];simp only[thL,List.mem_cons,List.not_mem_nil,or_false] at this;rcases this with rfl|rfl|rfl|rfl
 ·exact .inl (by decide)
 ·exact JB _
 ·exact .inr ⟨rfl,by decide⟩
 ·exact .inl (by decide)
theorem YW:Am.Enters Tryz.prog 8:=⟨_,Tryz.func8,by rfl,by rfl⟩
theorem Wi:Am.Enters Tryz.prog 12:=⟨_,Tryz.func12,by rfl,by rfl⟩
theorem qE:Am.Enters Tryz.prog 14:=⟨_,Tryz.func14,by rfl,by rfl⟩
theorem yZ(a b:List Int)(l:a.length<1000000)(j:b.length<1000000):Ak env 46 [.lst 3 (cells a) a.length,.lst 3 (cells b) b.length] (.p (.bool (decide (a=b)))):=by
 by_cases d:a.length=b.length
 ·refine Ak.enter (Af (by decide)) Tryz.func46 rfl (by kernel_rfl) (by simp[Tryz.ntmps46]) ?_
  repeat' (first|refine Fj ?_|(apply a8;rfl)|(intro _;try omega))
  all_goals try omega
  apply Ad.Jy (a.length) (fun k=>∀i,i<k→gi a i=gi b i) [(0,_),(1,_)] [] (fun k r=>(5,.p (.int .i64 (k:Int)))::r) (fun k r=>r) 0
  ·first|omega|decide
  ·first|omega|decide
  ·exact Ns
  ·exact O9
  ·first|(intro _ _;omega)|omega|trivial
  ·intro k g c
   by_cases h:gi a k=gi b k
   ·repeat' (first|refine b9 ?_|refine Fj ?_|(apply a8;rfl)|(apply c8;rfl)|(intro _;try omega))
    all_goals try omega
    all_goals try contradiction
    refine Aj.normal ⟨(fun i f=>by rcases aq i k with h1|h1;exact c i h1;rw[show i=k by omega];exact h),by first|omega|decide,?_,?_⟩
    ·exact Dh
    ·exact DT
   ·rw[decide_eq_false (fun e=>h (by rw[e]))]
    repeat' (first|refine b9 ?_|refine Fj ?_|(apply a8;rfl)|(apply c8;rfl)|(intro _;try omega))
    all_goals first|omega|contradiction|(refine aa ?_;try rfl)
  ·intro c
   rw[decide_eq_true (LV d c)]
   repeat' (first|refine Fj ?_|(apply a8;rfl)|(intro _;try omega))
   all_goals first|omega|contradiction|(refine aa ?_;try rfl)
 ·rw[decide_eq_false (fun e=>d (by rw[e]))]
  refine Ak.enter (Af (by decide)) Tryz.func46 rfl (by kernel_rfl) (by simp[Tryz.ntmps46]) ?_
  repeat' (first|refine Fj ?_|(apply a8;rfl)|(intro _;try omega))
  all_goals first|omega|contradiction|(refine aa ?_;try rfl)
theorem d5n:Lib.decDigits 4=[52]:=by rw[Lib.decDigits];rfl
theorem tq:GY env 14 [] (.p (.bool true)):=by
 have e:=a1x;have c:=jc Yh aU (by show 3≤12;decide);have b:=YJ Yh aU (by show 3≤12;decide);rw[b3q,d5n] at b;have d:jf Yh=.DK [.p (.agg [.lst 3 (cells ([0,1,1]:List Int)) 3,.int .i64 8]),.p (.int .i64 0)]:=by
  unfold jf;rw[a5k.1];show PV.DK [.p (.agg [.lst 3 (cells ([0,1,1]:List Int)) 3,.int .i64 (NJ Yh [0,1,1])]),.p (.int .i64 0)]=_;rw[a5k.2]
 rw[d] at c;have a:=yZ [0,1,1] [0,1,1] (by show 3<1000000;decide) (by show 3<1000000;decide);rw[decide_eq_true rfl] at a;refine GY.enter Tryz.func14 rfl (by kernel_rfl) (by kernel_rfl) (by simp[Tryz.ntmps14]) ?_
 repeat' (first|(refine Ba.at 1 ?_;apply ki)|(refine Ba.at 2 ?_;apply ki)|(apply Cc.fn;rfl;rfl;exact c;exact YW;intro _;rfl)|(apply Cc.fn;rfl;rfl;exact b;exact Wi;intro _;rfl)|(refine eB 21 ?_;refine c7 (b6 20 rfl rfl) ?_)|apply eN|apply Ba.ret|apply Cc.nil|apply hU|apply Ah.nil|apply c9|(apply Ah.take;rfl;rfl)|refine a6 e ?_|refine a6 a ?_|(apply Aa.assign;rfl)|(apply Aa.move;rfl)|refine a7 ?_|(apply Aa.load;rfl;rfl)|(apply lk;rfl;rfl)|(apply e8;rfl;rfl;rfl)|(apply Aa.alloc;rfl)|refine d9 ?_|refine bi ?_|(apply kq;rfl;rfl)|(apply Aa.extract;rfl;rfl))
 all_goals first|omega|contradiction|(refine aa ?_;try rfl)
end Go.Proofs.YthlffjlbidibdaaGreatDoor
namespace Go.Vm
open Go.Am
variable {E:Env}{n bn:Nat}{L:Frame}{H:Heap}{nx:Nat}
theorem mB(h:Ah E bn ops l L H nx R):Cc E n bn ops l L H nx R:=by
 intro p j B z m F σ t G C A ι O w i S y;obtain⟨f,⟨K,s⟩,T,U,g,V,c,q,M,J,I⟩:=h B z m F σ t G C A;have k:=s K K (ab _) (ab _);have a:=Ib (N:=K) p.o p.mix K;have:=Qd (rf:=none) (nn:=0) (Q:=S) a l ⟨t,m⟩ f ι O w j k i fun P w' r=>by
  obtain⟨e,u,b⟩:=r;exact y T U g P w' q ⟨f.m,V,c,f.t,e,M,J,I,u,b,fun d x=>Ro l _ _ k x⟩
 exact this
end Go.Vm
namespace Go.Proofs.YthlffjlbidibdaaGreatDoor
open Go Go.Am Go.Vm Go.Pie Go.Sch
attribute [local irreducible] Aa Ah Ai Ad AL Ak Bf BK Bj Aj Vm.Done Bv AP Nl Ba Cc Et GY F8 Hold
attribute [local irreducible] Cb Bg D5 DU EF AV CB
structure Rch where
 a:Nat
 b:Nat
 c:Nat
 d:Nat
def Rch.enc(y:Rch):List FV:=[.int .u8 (y.a:Int),.int .u8 (y.b:Int),.int .u8 (y.c:Int),.int .u8 (y.d:Int)]
structure Rch.Ok(y:Rch):Prop where
 a:y.a<256
 b:y.b<256
 c:y.c<256
 d:y.d<256
theorem b0z{j:Nat}(h:Gs Tryz.prog (j+2) 33 f):∃y:Rch,f=y.enc∧y.Ok:=by
 obtain⟨e,rfl,o⟩:=Gt h Tryz.underlying33;obtain⟨a,b,c,d,rfl,s,r,q,p⟩:=KE o;obtain⟨m1,rfl,l⟩:=FC (j:=j) s;obtain⟨m2,rfl,k⟩:=FC (j:=j) r;obtain⟨m3,rfl,i⟩:=FC (j:=j) q;obtain⟨m,rfl,g⟩:=FC (j:=j) p;exact⟨⟨m1,m2,m3,m⟩,rfl,l,k,i,g⟩
def mkY(y:Rch):Nu:=⟨(y.a:Int)%5,(y.b:Int)%16,(y.c:Int)%4,(y.d:Int)%16⟩
noncomputable def mkH(x:jK)(y:Rch):Qu:=⟨bP x.org,mkP x,mkY y⟩
theorem uH(x:jK)(b:x.Ok)(d:QA x)(y:Rch)(a:y.Ok):Ak env 6 [.agg x.enc,.agg y.enc] (.p (.agg (Enc.enc (mkH x y)))):=by
 have c:=uK x b d;obtain⟨h,g,f,e⟩:=a;unfold mkH mkY;generalize bP x.org=o at *;generalize mkP x=p at *;refine Ak.enter (Af (by decide)) Tryz.func6 rfl (by kernel_rfl) (by simp[Tryz.ntmps6]) ?_
 repeat' (first|refine a6 c ?_|refine KP ?_|refine b7 ?_|refine eR ?_|fail)
 all_goals first|omega|(refine aa ?_;try rfl)
theorem d1r(x:jK)(e:x.Ok)(f:QA x)(y:Rch):IQ (mkH x y):=by
 refine⟨c4m (yY x.org e.org f.1).sm (yY x.org e.org f.1).ok,c3s x e f,c5s x e f,?_,?_,?_,?_⟩
 ·show 0≤(y.a:Int)%5∧(y.a:Int)%5≤10;omega
 ·show 0≤(y.c:Int)%4∧(y.c:Int)%4≤10;omega
 ·show 0≤(y.b:Int)%16∧(y.b:Int)%16≤127;omega
 ·show 0≤(y.d:Int)%16∧(y.d:Int)%16≤127;omega
theorem d0m(x:jK)(a:QA x)(y:Rch):(mkH x y).p.notes.length≤8:=by
 have c:=Rx (bP x.org) (bM x.bars x.bars.length) x.notes x.notes.length;have b:=a.2.2.1;show(Iy (bP x.org) (bM x.bars x.bars.length) x.notes x.notes.length).length≤8;omega
def JY(p:Ez)(N:List Int)(is:Nat→Bool):Nat→List Int
 |0=>[]
 |k+1=>if is (gi N k).toNat=true then JY p N is k++[(gi p.notes (gi N k).toNat).k] else JY p N is k
theorem TB{p:Ez}{N:List Int}{is:Nat→Bool}{x:Int}:∀k,x∈JY p N is k↔∃i,i<k∧is (gi N i).toNat=true∧(gi p.notes (gi N i).toNat).k=x
 |0=>⟨fun h=>(by cases h),fun⟨i,hi,_⟩=>absurd hi (bc _)⟩
 |k+1=>by
  have a:=TB (p:=p) (N:=N) (is:=is) (x:=x) k;unfold JY;grind
theorem rC{p:Ez}{d:Nat}:∀{k i:Nat},i<k→is (gi N i).toNat=true→(gi p.notes (gi N i).toNat).d=(d:Int)→(gi p.notes (gi N i).toNat).k∈V3 p N is d k
 |0,i,hi,_,_=>absurd hi (bc _)
 |k+1,i,hi,h1,h2=>by
  rw[FT];rcases aq i k with h3|h3
  ·have a:=rC (p:=p) h3 h1 h2
   grind
  grind
theorem a6p(a:IQ q)(e:VB q N)(g:k≤N.length):∀i,i<(JY q.p N is k).length→0≤gi (JY q.p N is k) i∧gi (JY q.p N is k) i≤127:=fun i c=>by
 obtain⟨j,h,_,l⟩:=(TB k).1 (Dj c);have f:=e j (by omega);have b:=a.p.note (gi N j).toNat (by omega);have m:=a.o.cmp (i:=(gi q.p.notes (gi N j).toNat).d.toNat) (by have:=b.d;omega);have:=b.k;omega
theorem sD(p:Ez)(N:List Int)(is:Nat→Bool):∀k,(JY p N is k).length≤k
 |0=>ab _
 |k+1=>by
  have a:=sD p N is k;unfold JY;grind
theorem sJ(y:Nu)(K:List Gj):∀n,(hcK y K n).1=true→((∀d,d<n→CQ (gi K d)=[])∧(hcK y K n).2=0)∨∃d,d<n∧En y (CQ (gi K d))∧(∀e,e<n→e≠d→CQ (gi K e)=[])∧(hcK y K n).2≠0
 |0,_=>.inl ⟨fun d f=>absurd f (bc _),rfl⟩
 |n+1,h=>by
  unfold hcK at h ⊢;by_cases b:CQ (gi K n)=[]
  ·rw[if_pos b] at h ⊢
   rcases sJ y K n h with⟨a,c⟩|⟨d,a,c,i,g⟩
   ·grind
   grind
  ·rw[if_neg b] at h ⊢
   simp only[Bool.and_eq_true,decide_eq_true_eq] at h;obtain⟨⟨a,c⟩,i⟩:=h;rcases sJ y K n a with⟨g,_⟩|⟨d,_,_,_,j⟩
   ·grind
   omega
theorem a4q(c:IQ q)(k:VB q N)(j:SE q N l h=true):En q.y (CQ (Ul (JY q.p N (hasB l h) N.length) (JY q.p N (hasB l h) N.length).length)):=by
 have G:=a6p c k (is:=hasB l h) (ab N.length);have r:∀x,x∈CQ (Ul (JY q.p N (hasB l h) N.length) (JY q.p N (hasB l h) N.length).length)→∃d,d<q.o.Ae.length∧x∈CQ (gi (F7 q N (hasB l h)) d):=fun x b=>by
  obtain⟨i,s,m,e⟩:=(TB _).1 ((JD G).1 b);have K:=k i s;have C:=c.p.note (gi N i).toNat (by omega);have O:=C.d;obtain⟨d,g⟩:∃d:Nat,(gi q.p.notes (gi N i).toNat).d=(d:Int):=⟨(gi q.p.notes (gi N i).toNat).d.toNat,by omega⟩
  refine⟨d,by omega,?_⟩;unfold F7;rw[Dz _ (by omega)];refine(JD (NT c k _ (ab _))).2 ?_;rw[← e];exact rC s m g
 have B:=c.y;obtain⟨u,J,f,I⟩:=B;unfold SE at j;rw[Po] at j;rcases sJ _ _ _ j with⟨m,_⟩|⟨d,m,e,P,_⟩
 ·have F:CQ (Ul (JY q.p N (hasB l h) N.length) (JY q.p N (hasB l h) N.length).length)=[]:=by
   refine cv.2 fun x b=>?_
   grind
  rw[F];exact⟨u.1,f.1⟩
 ·have a:∀x,x∈CQ (Ul (JY q.p N (hasB l h) N.length) (JY q.p N (hasB l h) N.length).length)→x∈CQ (gi (F7 q N (hasB l h)) d):=fun x b=>by
   grind
  have M:=Ii (L8 (GV _)) a;refine⟨by have:=e.1;omega,?_⟩;refine(Ri (GV _) f.1).2 fun x b z A=>?_
  exact(Ri (GV _) f.1).1 e.2 x (a x b) z (a z A)
end Go.Proofs.YthlffjlbidibdaaGreatDoor
