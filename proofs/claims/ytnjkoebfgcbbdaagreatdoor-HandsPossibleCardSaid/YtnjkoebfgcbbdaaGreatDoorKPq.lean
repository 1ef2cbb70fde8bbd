/-
  Texts of a proof, merged (HanN, HanS, HanT, HanU, HanV, PieX, HanW, HanX, Wm6, HanZ, HanKd, HanBp). Conditions: in each statement.
-/
import Derived.Test.YtnjkoebfgcbbdaaGreatDoorKPp
set_option linter.unusedSimpArgs false
set_option linter.unusedVariables false
set_option linter.unusedSectionVars false
set_option maxRecDepth 100000
set_option maxHeartbeats 8000000
abbrev dp:=@List.foldl_append
abbrev ge:=@List.perm_ext_iff_of_nodup
abbrev gN:=@List.flatMap_singleton
abbrev io:=@List.flatMap_append
namespace Go.Proofs.YtnjkoebfgcbbdaaGreatDoor
open Go Go.Am Go.Vm Go.Pie Go.Sch
attribute [local irreducible] Aa Aj Ag Ad AL Ak Bd BL Bl Ai Vm.Done BD AO Qh AY Ci Et I7 Gi Hold
attribute [local irreducible] CJ Bf Eb DW EF A8 Cj
abbrev Way:=List Int×Int
def QS(w:Way):FV:=.agg [.lst 3 (cells w.1) w.1.length,.int .i64 w.2]
def Ku(es:List (KJ×Way)):List (KJ×PV):=es.map fun e=>(e.1,.p (QS e.2))
def MC(es:List (KJ×Way)):HB:=Ou (fun x:KJ=>.agg (Enc.enc x)) (Ku es)
theorem U4{α β γ:Type}[DecidableEq α](g:β→γ)(a:α):∀es:List (α×β),BZ (es.map fun e=>(e.1,g e.2)) a=(BZ es a).map g
 |[]=>rfl
 |x::es=>by
  simp only[List.map_cons,BZ];split
  ·rfl
  ·exact U4 g a es
theorem VY{α β γ:Type}[DecidableEq α](g:β→γ)(a:α)(b:β):∀es:List (α×β),CB (es.map fun e=>(e.1,g e.2)) a (g b)=(CB es a b).map fun e=>(e.1,g e.2)
 |[]=>rfl
 |x::es=>by
  simp only[List.map_cons,CB];split
  ·rfl
  ·rw[VY g a b es];rfl
theorem CU(k:Nat)(es:List (KJ×Way)):HB.under k (MC es):=by
 induction es with
 |nil=>exact trivial
 |cons e es a=>exact⟨trivial,a⟩
theorem Zc(ρ:Nat→Nat)(es:List (KJ×Way)):(MC es).rn ρ=MC es:=by
 show HB.JZ _ (CV.rn ρ ((Ku es).map (·.2)))=HB.JZ _ _;have:CV.rn ρ ((Ku es).map (·.2))=(Ku es).map (·.2):=by
  induction es with
  |nil=>rfl
  |cons e es a =>
   show PV.rn ρ (PV.p (QS e.2))::CV.rn ρ ((Ku es).map (·.2))=_;rw[a];rfl
 grind
section
variable {L:Vm.Frame}{H:Vm.Heap}{nx:Nat}{Q:PV→Vm.Heap→Nat→Prop}{w:Bool}{dst:Option Tmp}{ty:TypeId}{pos:String}{af:Array Edge}{gd:Option (Nat×Bool)}
theorem b8n{t:TypeId}(q:Q (.mref nx) ((nx,MC [])::H) (nx+1)):Aa env w ⟨dst,.makeMap t none,ty,pos,af,gd⟩ L H nx Q:=Aa.aA q
def foundW:Option Way→PV
 |none=>.p (.agg [.val (.slice none 0 0),.int .i64 0])
 |some w=>.p (QS w)
theorem lookW{t:TypeId}{x k:Operand}{b:Nat}{m:List (KJ×Way)}{y:KJ}(c:AU env.Γ L x=some (.mref b))(g:hget H b=some (MC m))(f:AU env.Γ L k=some (.p (.agg (Enc.enc y))))
 (d:env.P.underlying t=some (.map 124 127)) (q:Q (.D5 [foundW (BZ m y),.p (.bool (BZ m y).isSome)]) H nx):Aa env w ⟨dst,.lookup t x k true,ty,pos,af,gd⟩ L H nx Q:=by
 have a:BZ (Ku m) y=(BZ m y).map fun w=>PV.p (QS w):=U4 (fun w=>PV.p (QS w)) y m
 have e:(BZ (Ku m) y).isSome=(BZ m y).isSome:=by grind
 rw[← e] at q;refine Aa.lookupGo (z:=.agg #[.slice none 0 0,.int .i64 0]) mV c g f d (by kernel_rfl) rfl ?_ q;cases h:BZ m y with
 |none =>
  rw[h] at a;exact LZ.const a rfl
 |some w =>
  rw[h] at a;exact .inl a
theorem c2d{t:TypeId}{x k:Operand}{b:Nat}{m:List (KJ×Way)}{y:KJ}(d:BZ m y=none)(a:AU env.Γ L x=some (.mref b))(f:hget H b=some (MC m))(e:AU env.Γ L k=some (.p (.agg (Enc.enc y))))
 (c:env.P.underlying t=some (.map 124 127)) (q:Q (.D5 [.p (.agg [.val (.slice none 0 0),.int .i64 0]),.p (.bool false)]) H nx):Aa env w ⟨dst,.lookup t x k true,ty,pos,af,gd⟩ L H nx Q :=
 lookW a f e c (by rw[d];exact q)
theorem b9h{t:TypeId}{x k:Operand}{b:Nat}{m:List (KJ×Way)}{y:KJ}{v:Way}(d:BZ m y=some v)(a:AU env.Γ L x=some (.mref b))(f:hget H b=some (MC m))(e:AU env.Γ L k=some (.p (.agg (Enc.enc y))))
 (c:env.P.underlying t=some (.map 124 127)) (q:Q (.D5 [.p (QS v),.p (.bool true)]) H nx):Aa env w ⟨dst,.lookup t x k true,ty,pos,af,gd⟩ L H nx Q :=
 lookW a f e c (by rw[d];exact q)
theorem c3e{t:TypeId}{x k a:Operand}{b:Nat}{m:List (KJ×Way)}{y:KJ}(v:Way)(d:AU env.Γ L x=some (.mref b))(g:hget H b=some (MC m))(f:AU env.Γ L k=some (.p (.agg (Enc.enc y))))(c:AU env.Γ L a=some (.p (QS v)))
 (e:env.P.underlying t=some (.map 124 127)) (q:Q (.D5 []) (hput H b (MC (CB m y v))) nx):Aa env true ⟨dst,.mapUpdate t x k a,ty,pos,af,gd⟩ L H nx Q :=
 Aa.a2i mV d g f c e (by
  show hput H b (Ou _ (CB (Ku m) y (.p (QS v))))=hput H b (Ou _ (Ku (CB m y v)));have:CB (Ku m) y (PV.p (QS v))=Ku (CB m y v):=VY (fun w=>PV.p (QS w)) y v m;grind) q
theorem c5z{t:TypeId}{x k a:Operand}{b:Nat}{m:List (KJ×Way)}{y:KJ}(v:Way)(d:AU env.Γ L x=some (.mref b))(g:hget H b=some (MC m))(f:AU env.Γ L k=some (.p (.agg (Enc.enc y))))(c:AU env.Γ L a=some (.p (QS v)))
 (e:env.P.underlying t=some (.map 124 127)) (q:Q (.D5 []) (hput H b (MC (CB m y v))) nx):Aa env true ⟨dst,.insert t x k a,ty,pos,af,gd⟩ L H nx Q :=
 Aa.a1j mV d g f c e (by
  show hput H b (Ou _ (CB (Ku m) y (.p (QS v))))=hput H b (Ou _ (Ku (CB m y v)));have:CB (Ku m) y (PV.p (QS v))=Ku (CB m y v):=VY (fun w=>PV.p (QS w)) y v m;grind) q
end
theorem tX(q:Qu)(o:KE q){t:Nat}(c:t<(Bq q.p).length){l:List Int}(b:a5h q t l){x:List Int}(m:x∈nO q t l):x.length=q.p.notes.length∧∀i,i<x.length→0≤gi x i∧gi x i≤2:=by
 have g:=Yl q o;have a:=b.len;have d:=(NT (nw:=Ny q t) (f:=fQ q t) (l:=l) (kQ q t) (g.inj t c) (fun j r=>by rw[a];exact g.rng t c j r) b.zero x).1 (er.1 m).1;refine⟨d.1.trans a,fun i s=>?_⟩;have k:=d.2 i (by omega);by_cases h:Xz (Ny q t) (fQ q t) (kQ q t) i
 ·rcases k.1 h with e|e<;>omega
 ·rw[k.2 h];exact b.rng i (by omega)
theorem vY(q:Qu)(t:Nat)(a:kQ q t≤12)(l:List Int):(nO q t l).length≤4096:=by
 refine am (dt _ _) (am (fF _ _ _ _).2 ?_);exact ax (by decide) (show kQ q t≤12 by omega)
def b2m(q:Qu)(t:Nat)(e:KJ×Way):List (KJ×Way):=(nO q t e.2.1).map fun x=>(Hr q t e.1 x,(x,e.2.2+LV q t e.1 x))
def b4s(q:Qu)(t:Nat)(x:KJ)(l:List Int):Nat→KJ
 |0=>⟨Qd (DJ q t) l,x.c0,x.c1,x.b0,x.b1⟩
 |1=>⟨Qd (DJ q t) l,if(GL q l 0 t).1=true then(GL q l 0 t).2 else x.c0,x.c1,(GL q l 0 t).1||x.b0,x.b1⟩
 |_=>Hr q t x l
def a5g(q:Qu)(t:Nat)(x:KJ)(c:Int)(l:List Int):Nat→Int
 |0=>c
 |1=>c+GR (GL q l 0 t) x.b0 x.c0
 |_=>c+GR (GL q l 0 t) x.b0 x.c0+GR (GL q l 1 t) x.b1 x.c1
theorem a9h(q:Qu)(t:Nat)(x:KJ)(c:Int)(l:List Int):a5g q t x c l 2=c+LV q t x l:=by
 show c+GR (GL q l 0 t) x.b0 x.c0+GR (GL q l 1 t) x.b1 x.c1=c+(GR (GL q l 0 t) x.b0 x.c0+GR (GL q l 1 t) x.b1 x.c1);omega
def both(b c:Bool)(v w:Int):Int:=bif b then(bif c then v else w) else w
theorem qy(x:Int)(b c:Bool)(a d:WW):x+GR (b,a) c d=both b c (x+mvC d a) x:=by cases b<;>cases c<;>simp[GR,both]
theorem dW(r:Bool×WW)(b:Bool)(c:WW)(a:r.2.Ok)(d:c.Ok):0≤GR r b c∧GR r b c≤139:=by
 have:=Zl d a;unfold GR;omega
theorem a7t{n:Nat}{m:List (KJ×Way)}{d:KJ×Way}(c:∀e∈m,e.2.1.length=n)(f:d.2.1.length=n):∀e∈Um m d,e.2.1.length=n:=fun e a=>by
 have b:∀e∈CB m d.1 d.2,e.2.1.length=n:=fun e a=>by
  rcases Qm a with h|h|h
  ·grind
  ·grind
  grind
 unfold Um at a;grind
structure c3u(q:Qu)(t:Nat)(e:KJ×Way):Prop where
 way:a5h q t e.2.1
 cost:0≤e.2.2∧e.2.2≤1000000000000
 c0:e.1.c0.Ok
 c1:e.1.c1.Ok
instance:Inhabited (KJ×Way):=⟨(st0,([],0))⟩
def S9(q:Qu)(t:Nat)(es:List (KJ×Way))(V:List Nat):List (KJ×Way):=((V.map (gi es)).flatMap (b2m q t)).foldl Um []
theorem Qx:Am.Enters Tryz.prog 41:=⟨_,Tryz.func41,by rfl,by rfl⟩
theorem yZ(q:Qu)(C:KE q)(t:Nat)(ht:t<(Bq q.p).length)(hM:kQ q t≤12)(es:List (KJ×Way))(hes:∀e∈es,c3u q t e) :
 Gi env 39 [.p (.agg (Enc.enc q)),.p (.agg (Enc.enc (Nk q t))),.mref 0] [(0,MC es)] 1 (fun r H' nx'=>∃V:List Nat,V.Nodup∧(∀i,i∈V↔i<es.length)∧r=.mref 1∧H'=[(1,MC (S9 q t es V))]∧nx'=2):=by
 refine Gi.enter Tryz.func39 rfl (by kernel_rfl) (by kernel_rfl) (by simp[Tryz.ntmps39]) ?_
 repeat' (first|((refine AY.at 2 ?_;refine Hold.of ?_))|apply AY.Bo|apply AY.to|refine VU ?_|(apply b8n))
 all_goals try(exfalso;omega)
 refine Hold.go ?_;refine AY.mY (fun m:List (KJ×Way)=>[(3,.ref 1 0),(4,.ref 2 0),(7,.mref 3),(21,.mref 0)]) (fun m=>[(0,MC es),(1,tY q),(2,slB (Nk q t)),(3,MC m)]) (fun V m=>m=S9 q t es V∧∀e∈m,e.2.1.length=q.p.notes.length) [] (CP:=4) (b:=0) (ks:=(Ku es).map fun x=>.agg (Enc.enc x.1)) (cs:=(Ku es).map (·.2)) rfl rfl (by decide) rfl ⟨rfl,fun e h=>absurd h bh⟩ ⟨by decide,?_,?_⟩ rfl (fun _=>⟨rfl,rfl,rfl⟩) (fun _ _ _=>rfl) (by simp) rfl (by kernel_rfl) (by kernel_rfl) (by decide) ?_ ?_
 ·exact Du
 ·repeat(first|exact BF.nil|(refine BF.cons (Ba rfl) ?_ rfl ?_ ?_;(first|exact CU _ _|exact CZ _ _|exact HB.AA rfl|exact CV.Bg _ _|(simp[HB.under,CV.under,PV.under]));(first|exact Kw.refl _|exact Kw.vec (JB.refl _) (by simp))))
 ·rintro V m i kk c ⟨B,hml⟩ T hni J hc
  subst B;have U:i<es.length:=by
   have:=(bv.1 J).1;simpa[Ku] using this
  have hm:=Di U;have Y:es[i]?=some (gi es i):=by unfold gi;rw[ai U];rfl
  have hE:=hes _ hm;have ek:kk=.agg (Enc.enc (gi es i).1):=by
   unfold Ku at J;rw[aw,aw,Y] at J;simpa using J.symm
  have ec:c=.p (QS (gi es i).2):=by
   unfold Ku at hc;rw[aw,aw,Y] at hc;simpa using hc.symm
  subst ek;subst ec;have z:S9 q t es (V++[i])=(b2m q t (gi es i)).foldl Um (S9 q t es V):=by
   unfold S9;rw[bk,io,dp,fX,gN]
  rw[z];clear z;generalize S9 q t es V=m0 at *;generalize gi es i=e at *;obtain⟨⟨s,f,g,b0,b1⟩,l,j⟩:=e;obtain⟨O,h2,h3,h4⟩:=hE;simp only at O h2 h3 h4;have hch:=VJ q C t ht hM l O;have hwy:=fun y hy=>tX q C ht O (x:=y) hy
  have hLl:=vY q t hM l;unfold b2m;simp only;generalize nO q t l=L at *;have hN:iF q (Nk q t).notes:=Jo ht;have K:(Nk q t).notes.length≤1000:=aj C ht;obtain⟨G,hG⟩:∃G:List Int→KJ×Way,G=fun y=>(Hr q t ⟨s,f,g,b0,b1⟩ y,(y,j+LV q t ⟨s,f,g,b0,b1⟩ y)):=⟨_,rfl⟩
  rw[← hG]
  repeat' (first|(refine AY.at 5 ?_;apply AY.SV)|(apply Ci.fn;rfl;rfl;exact hch;exact Qx;intro _;rfl)|apply AY.block|apply Ci.nil|apply Ci.one|refine VU ?_|fail)
  all_goals try(exfalso;omega)
  refine AY.ofV ?_;apply Ad.H8 (L.length) (fun k=>∀e∈((L.take k).map G).foldl Um m0,e.2.1.length=q.p.notes.length) [(3,_),(4,_),(7,_),(8,_),(9,_),(21,_),(32,_),(33,_)] [(0,_),(1,_),(2,_),(4,_),(5,_)] (fun k r=>(34,.p (.int .i64 (k:Int)))::r) (fun k r=>(3,MC (((L.take k).map G).foldl Um m0))::r) 6
  ·first|omega|decide
  ·first|omega|decide
  ·exact Qb
  ·repeat(first|exact BF.nil|(refine BF.eq rfl (Ba rfl) ?_ ?_;(first|exact CU _ _|exact CZ _ _|exact HB.AA rfl|exact CV.Bg _ _|(simp[HB.under,CV.under,PV.under];done)))|(refine BF.cons (Ba rfl) ?_ rfl ?_ ?_;(first|exact CU _ _|exact CZ _ _|exact trivial|exact CV.Bg _ _|(simp[HB.under,CV.under,PV.under]));(first|exact Kw.refl _|exact Kw.vec (JB.refl _) (by simp))))
  ·first|(intro _ _;omega)|omega|trivial
  ·intro k J B
   obtain⟨y1,y2⟩:=hwy _ (Di J);have e1:((L.take (k+1)).map G).foldl Um m0=Um (((L.take k).map G).foldl Um m0) (G (gi L k)):=by
    rw[Eh J,bk,dp];rfl
   rw[e1];clear e1;generalize ((L.take k).map G).foldl Um m0=m at *;have n1:=C.p.notes;have b4o:=uj q (Nk q t) hN K (gi L k) y1 y2;have X:=RS q C (Nk q t) hN K (gi L k) 0 y1;have W:=RS q C (Nk q t) hN K (gi L k) 1 y1;have M:=bJ C hN (gi L k) 0 _ (ab _);have P:=bJ C hN (gi L k) 1 _ (ab _);have hr0:V7 q.p (Nk q t).notes (gi L k) 0 (Nk q t).notes.length=GL q (gi L k) 0 t:=rfl;have hr1:V7 q.p (Nk q t).notes (gi L k) 1 (Nk q t).notes.length=GL q (gi L k) 1 t:=rfl;have es0:b4s q t ⟨s,f,g,b0,b1⟩ (gi L k) (0+1)=⟨Qd (DJ q t) (gi L k),if(GL q (gi L k) 0 t).1=true then(GL q (gi L k) 0 t).2 else f,g,(GL q (gi L k) 0 t).1||b0,b1⟩:=rfl;have es1:b4s q t ⟨s,f,g,b0,b1⟩ (gi L k) (1+1)=⟨Qd (DJ q t) (gi L k),if(GL q (gi L k) 0 t).1=true then(GL q (gi L k) 0 t).2 else f,if(GL q (gi L k) 1 t).1=true then(GL q (gi L k) 1 t).2 else g,(GL q (gi L k) 0 t).1||b0,(GL q (gi L k) 1 t).1||b1⟩:=rfl;have ec0:a5g q t ⟨s,f,g,b0,b1⟩ j (gi L k) (0+1)=j+GR (GL q (gi L k) 0 t) b0 f:=rfl;have ec1:a5g q t ⟨s,f,g,b0,b1⟩ j (gi L k) (1+1)=j+GR (GL q (gi L k) 0 t) b0 f+GR (GL q (gi L k) 1 t) b1 g:=rfl;rw[hr0] at X M;rw[hr1] at W P
   repeat' (first|(refine Ag.atIdx 4 ?_;apply Ag.weak [.tmp 39];decide +kernel;rfl;rfl;(first|exact TP.ref rfl|exact TP.vec rfl|exact TP.E8 rfl);decide +kernel;rfl)|apply Ad.assoc|apply Ad.Bo|apply Ad.Ce|apply Ad.FH|apply Ad.EG|apply Aj.nil|apply Ag.nil|apply Aj.one|(apply Ag.bar;decide +kernel)|apply Ag.quiet|(apply Aa.fn;rfl;rfl;exact b4o;intro _;rfl)|(apply Aa.assign;rfl)|(apply Aa.move;rfl)|(apply Aa.int;rfl;rfl;rfl)|(apply Aa.Ap;rfl;rfl;rfl;omega;rfl)|(apply Aa.load;rfl;rfl)|(apply Aa.HY;rfl;rfl;rfl)|(apply Aa.alloc;rfl)|(apply Aa.Gl;rfl;rfl;rfl;trivial;rfl;rfl;exact Ba rfl;exact le_dec rfl)|(apply Ad.Ac;rfl)|(intro _;try(exfalso;omega)))
   all_goals try(exfalso;omega)
   apply Ad.GU (2) [(3,_),(4,_),(7,_),(8,_),(9,_),(11,_),(12,_),(21,_),(32,_),(33,_),(34,_)] [(0,_),(1,_),(2,_),(3,_),(4,_),(5,_)] (fun F r=>(46,.p (.int .i64 (F:Int)))::(13,.p (.int .i64 (a5g q t ⟨s,f,g,b0,b1⟩ j (gi L k) F)))::r) (fun F r=>(6,.box 124 ((Enc.enc (b4s q t ⟨s,f,g,b0,b1⟩ (gi L k) F)).map .p))::r) 7
   ·first|omega|decide
   ·first|omega|decide
   ·exact Qb
   ·repeat(first|exact BF.nil|(refine BF.eq rfl (Ba rfl) ?_ ?_;(first|exact CU _ _|exact CZ _ _|exact HB.AA rfl|exact CV.Bg _ _|(simp[HB.under,CV.under,PV.under];done)))|(refine BF.cons (Ba rfl) ?_ rfl ?_ ?_;(first|exact CU _ _|exact CZ _ _|exact trivial|exact CV.Bg _ _|(simp[HB.under,CV.under,PV.under]));(first|exact Kw.refl _|exact Kw.vec (JB.refl _) (by simp))))
   ·intro F hk_
    obtain rfl|rfl:F=0∨F=1:=by omega
    ·generalize GL q (gi L k) 0 t=r0 at *
     obtain⟨b,a⟩:=r0;have M:a.Ok:=M;have I:=jZ f a h3 M;have hmr:=Zl h3 M;have hk0:a5g q t ⟨s,f,g,b0,b1⟩ j (gi L k) 0=j:=rfl;have u:j+GR (b,a) b0 f=both b b0 (j+mvC f a) j:=qy j b b0 a f;rw[ec0,es0,u];cases b<;>cases b0
     all_goals
      repeat' (first|(apply Aa.fn;rfl;rfl;exact X;intro _;rfl)|(apply Aa.fn;rfl;rfl;exact I;intro _;rfl)|(apply Aa.Vs;rfl;rfl;rfl;rfl;rfl;decide)|refine go2 ?_|(apply Aa.int;rfl;rfl;rfl)|(apply Ad.AV;rfl)|(apply Ad.Ah;rfl))
     all_goals try(exfalso;omega)
     all_goals try contradiction
     all_goals
      refine Ai.normal ⟨by first|omega|decide,?_,?_⟩
      ·exact Du
      ·repeat(first|exact BF.nil|(refine BF.cons (Ba rfl) ?_ rfl ?_ ?_;(first|exact CU _ _|exact CZ _ _|exact HB.AA rfl|exact CV.Bg _ _|(simp[HB.under,CV.under,PV.under]));(first|exact Kw.refl _|exact Kw.vec (JB.refl _) (by simp))))
    ·generalize GL q (gi L k) 1 t=r1 at *
     obtain⟨b,a⟩:=r1;have P:a.Ok:=P;have I:=jZ g a h4 P;have hmr:=Zl h4 P;have hk2:a5g q t ⟨s,f,g,b0,b1⟩ j (gi L k) 1=j+GR (GL q (gi L k) 0 t) b0 f:=ec0;have hin:0≤GR (GL q (gi L k) 0 t) b0 f∧GR (GL q (gi L k) 0 t) b0 f≤139:=dW _ _ _ M h3;have es2:=es0;simp only[Nat.zero_add] at es2;generalize GL q (gi L k) 0 t=r0 at *;rw[ec1,es1,hk2,es2];generalize GR r0 b0 f=i0 at *;have u:j+i0+GR (b,a) b1 g=both b b1 (j+i0+mvC g a) (j+i0):=qy (j+i0) b b1 a g;rw[u];generalize (if r0.1=true then r0.2 else f)=c0' at *;generalize (r0.1||b0)=b0' at *;cases b<;>cases b1
     all_goals
      repeat' (first|(apply Aa.fn;rfl;rfl;exact W;intro _;rfl)|(apply Aa.fn;rfl;rfl;exact I;intro _;rfl)|(apply Aa.Vs;rfl;rfl;rfl;rfl;rfl;decide)|refine go2 ?_|(apply Aa.int;rfl;rfl;rfl)|(apply Ad.AV;rfl)|(apply Ad.Ah;rfl))
     all_goals try(exfalso;omega)
     all_goals try contradiction
     all_goals
      refine Ai.normal ⟨by first|omega|decide,?_,?_⟩
      ·exact Du
      ·repeat(first|exact BF.nil|(refine BF.cons (Ba rfl) ?_ rfl ?_ ?_;(first|exact CU _ _|exact CZ _ _|exact HB.AA rfl|exact CV.Bg _ _|(simp[HB.under,CV.under,PV.under]));(first|exact Kw.refl _|exact Kw.vec (JB.refl _) (by simp))))
   ·have e2:b4s q t ⟨s,f,g,b0,b1⟩ (gi L k) 2=Hr q t ⟨s,f,g,b0,b1⟩ (gi L k):=rfl
    have hi0:=dW (GL q (gi L k) 0 t) b0 f M h3;have hi1:=dW (GL q (gi L k) 1 t) b1 g P h4;have hiq:LV q t ⟨s,f,g,b0,b1⟩ (gi L k)=GR (GL q (gi L k) 0 t) b0 f+GR (GL q (gi L k) 1 t) b1 g:=rfl;have hGk:G (gi L k)=(Hr q t ⟨s,f,g,b0,b1⟩ (gi L k),(gi L k,j+LV q t ⟨s,f,g,b0,b1⟩ (gi L k))):=by rw[hG]
    rw[hGk,a9h,e2];have A:=a7t (d:=(Hr q t ⟨s,f,g,b0,b1⟩ (gi L k),(gi L k,j+LV q t ⟨s,f,g,b0,b1⟩ (gi L k)))) B y1;have hcb:0≤j+LV q t ⟨s,f,g,b0,b1⟩ (gi L k)∧j+LV q t ⟨s,f,g,b0,b1⟩ (gi L k)≤1000000000278:=by rw[hiq];omega
    generalize j+LV q t ⟨s,f,g,b0,b1⟩ (gi L k)=c' at *;generalize Hr q t ⟨s,f,g,b0,b1⟩ (gi L k)=sq at *;have u:Um m (sq,(gi L k,c'))=match BZ m sq with|none=>CB m sq (gi L k,c')|some o=>if ltB (gi L k,c') o=true then CB m sq (gi L k,c') else m:=rfl
    cases hl:BZ m sq with
    |none =>
     rw[hl] at u;simp only at u;rw[u] at A ⊢
     repeat' (first|(apply c2d (m:=m) (y:=sq) hl;rfl;rfl;rfl;rfl)|(apply c3e (m:=m) (y:=sq) (gi L k,c');rfl;rfl;rfl;rfl;rfl)|refine JD ?_|(apply Aa.build;rfl;rfl;rfl;rfl;rfl)|(apply Ad.Ah;rfl)|(apply Ad.cond_true;rfl))
     all_goals try(exfalso;omega)
     all_goals try contradiction
     refine Ai.normal ⟨A,by first|omega|decide,?_,?_⟩
     ·exact Du
     ·repeat(first|exact BF.nil|(refine BF.cons (Ba rfl) ?_ rfl ?_ ?_;(first|exact CU _ _|exact CZ _ _|exact HB.AA rfl|exact CV.Bg _ _|(simp[HB.under,CV.under,PV.under]));(first|exact Kw.refl _|exact Kw.vec (JB.refl _) (by simp))))
    |some o =>
     obtain⟨R,S⟩:=o;have hol:R.length=q.p.notes.length:=B _ (Lh hl);have Z:=TI (gi L k) R (by omega) (by omega);rw[hl] at u;simp only at u;have hb:ltB (gi L k,c') (R,S)=(decide (c'<S)||(decide (c'=S)&&decide (cmpL (gi L k) R<0))):=rfl;rw[hb] at u;generalize cmpL (gi L k) R=cm at *;by_cases g1:c'<S;all_goals by_cases g2:c'=S
     all_goals by_cases g3:cm<0
     all_goals first|rw[decide_eq_true g1] at u|rw[decide_eq_false g1] at u
     all_goals first|rw[decide_eq_true g2] at u|rw[decide_eq_false g2] at u
     all_goals first|rw[decide_eq_true g3] at u|rw[decide_eq_false g3] at u
     all_goals simp only[Bool.true_or,Bool.false_or,Bool.true_and,Bool.false_and,Bool.false_eq_true,if_true,if_false] at u
     all_goals rw[u] at A ⊢
     all_goals
      repeat' (first|(apply b9h (m:=m) (y:=sq) hl;rfl;rfl;rfl;rfl)|(apply Aa.fn;rfl;rfl;exact Z;intro _;rfl)|(apply c3e (m:=m) (y:=sq) (gi L k,c');rfl;rfl;rfl;rfl;rfl)|refine Jq ?_|(apply Aj.guard;rfl;rfl)|(apply Aa.int;rfl;rfl;rfl)|(apply Aa.build;rfl;rfl;rfl;rfl;rfl)|(apply Ad.Ah;rfl)|(apply Ad.cond_true;rfl)|(apply Ad.cond_false;rfl)|(apply Ad.Au;rfl)|(intro _;try(exfalso;omega)))
     all_goals try(exfalso;omega)
     all_goals try contradiction
     all_goals
      refine Ai.normal ⟨A,by first|omega|decide,?_,?_⟩
      ·exact Du
      ·repeat(first|exact BF.nil|(refine BF.cons (Ba rfl) ?_ rfl ?_ ?_;(first|exact CU _ _|exact CZ _ _|exact HB.AA rfl|exact CV.Bg _ _|(simp[HB.under,CV.under,PV.under]));(first|exact Kw.refl _|exact Kw.vec (JB.refl _) (by simp))))
  ·intro B
   rw[cn] at B ⊢
   repeat' (first|refine go1 ?_|(apply Ad.Ac;rfl)|(intro _;try(exfalso;omega)))
   all_goals try(exfalso;omega)
   refine Ai.normal ⟨_,⟨rfl,B⟩,⟨by decide,?_,?_⟩⟩
   ·exact Du
   ·repeat(first|exact BF.nil|(refine BF.cons (Ba rfl) ?_ rfl ?_ ?_;(first|exact CU _ _|exact CZ _ _|exact HB.AA rfl|exact CV.Bg _ _|(simp[HB.under,CV.under,PV.under]));(first|exact Kw.refl _|exact Kw.vec (JB.refl _) (by simp))))
 ·rintro V m ⟨B,_⟩ T O h2
  subst B;refine Et.normal ?_;refine AY.swap 1 3 (by decide) (by decide) (by decide) (by decide) ?_;have e:Hrn (swp 1 3) [(0,MC es),(1,tY q),(2,slB (Nk q t)),(3,MC (S9 q t es V))]=[(0,MC es),(3,(tY q).rn (swp 1 3)),(2,(slB (Nk q t)).rn (swp 1 3)),(1,MC (S9 q t es V))]:=by
   simp only[Hrn,Zc];rfl
  rw[e]
  repeat' (first|apply AY.Bo|apply AY.ret|refine go2 ?_|fail)
  have hc:Ku es=es.map fun e=>(e.1,PV.p (QS e.2)):=rfl
  simp only[List.length_map,hc] at O h2;refine Done.ret rfl (.refl _) (Ba rfl) ?_ (by decide) (by decide) ⟨V,T,fun i=>⟨h2 i,O i⟩,rfl,rfl,rfl⟩;repeat(first|exact BF.nil|(refine BF.cons (Ba rfl) ?_ rfl ?_ ?_;(first|exact CU _ _|exact CZ _ _|exact HB.AA rfl|exact CV.Bg _ _|(simp[HB.under,CV.under,PV.under]));(first|exact Kw.refl _|exact Kw.vec (JB.refl _) (by simp))))
end Go.Proofs.YtnjkoebfgcbbdaaGreatDoor
namespace Go.Proofs.YtnjkoebfgcbbdaaGreatDoor
open Go Go.Am Go.Vm Go.Pie Go.Sch
attribute [local irreducible] CJ Bf Eb DW EF A8 Cj
def UG(L:List Pos):Int:=csK L (L.length-1)
theorem wU(L:List Pos)(p:Pos):∀k,k<L.length→csK (L++[p]) k=csK L k
 |0,_=>rfl
 |k+1,h=>by
  unfold csK;rw[wU L p k (by omega),OD (by omega),OD (by omega)]
def bQ(L:List Pos)(p:Pos):Int:=match L.getLast? with|none=>0|some x=>if p.h=x.h then mvC x.c p.c else 0
theorem WC(L:List Pos)(p:Pos):UG (L++[p])=UG L+bQ L p:=by
 unfold UG bQ;rcases bp L.length with h|h
 ·obtain rfl:=av.1 h
  rfl
 ·obtain⟨m,a⟩:∃m,L.length=m+1:=⟨L.length-1,by omega⟩
  have f:(L++[p]).length-1=m+1:=by grind
  have e:L.getLast?=some (gi L m):=by
   unfold gi;grind
  have d:gi (L++[p]) (m+1)=p:=by rw[← a];exact Oh
  rw[f,e,a,Nat.add_sub_cancel];have b:csK (L++[p]) (m+1)=if(gi (L++[p]) (m+1)).h=(gi (L++[p]) m).h then csK (L++[p]) m+mvC (gi (L++[p]) m).c (gi (L++[p]) (m+1)).c else csK (L++[p]) m:=rfl
  rw[b,wU L p m (by omega),d,OD (by omega)];grind
theorem nU(q:Qu)(l:List Int)(h:Int):∀k,∀x∈JA q l h k,x.h=h
 |0,x,hx=>absurd hx bh
 |k+1,x,hx=>by
  unfold JA at hx;split at hx
  ·rcases bq.1 hx with hx|hx
   ·exact nU q l h k x hx
   grind
  ·exact nU q l h k x hx
theorem getLast_mem{α:Type}{L:List α}{x:α}(h:L.getLast?=some x):x∈L :=by grind
theorem rG(q:Qu)(l:List Int)(A:List Pos)(b:∀x∈A,x.h=0):∀k,UG (A++JA q l 1 k)=UG A+UG (JA q l 1 k)
 |0=>by
  show UG (A++[])=UG A+UG [];rw[dd];show UG A=UG A+0;omega
 |k+1=>by
  have a:=rG q l A b k;unfold JA;split
  ·rw[← cq,WC,WC,a]
   have:bQ (A++JA q l 1 k) ⟨1,k,(GL q l 1 k).2⟩=bQ (JA q l 1 k) ⟨1,k,(GL q l 1 k).2⟩:=by
    unfold bQ;grind
   omega
  omega
def Yp(L:List Pos)(b:Bool)(c:WW):Prop:=match L.getLast? with|none=>b=false|some x=>b=true∧c=x.c
theorem yC{L:List Pos}{b:Bool}{c:WW}(p:Pos):Yp (L++[p]) true p.c:=by
 unfold Yp;simp
theorem a4r{q:Qu}{l:List Int}{h:Int}{k:Nat}{b:Bool}{c:WW}(a:Yp (JA q l h k) b c)(r:Bool×WW)(d:r.1=true)(i:Int):bQ (JA q l h k) ⟨h,i,r.2⟩=GR r b c:=by
 unfold Yp at a;unfold bQ GR;rw[if_pos d];cases h1:(JA q l h k).getLast? with
 |none =>
  grind
 |some x =>
  rw[h1] at a;simp only at a ⊢;obtain⟨f,e⟩:=a;rw[f,if_pos rfl,if_pos (nU q l h k x (getLast_mem h1)).symm,e]
theorem jT(q:Qu)(l:List Int):∀t,Yp (JA q l 0 t) (J5 st0 (Hr q) l t).b0 (J5 st0 (Hr q) l t).c0∧Yp (JA q l 1 t) (J5 st0 (Hr q) l t).b1 (J5 st0 (Hr q) l t).c1∧cF st0 (Hr q) (LV q) l t=UG (JA q l 0 t)+UG (JA q l 1 t)
 |0=>⟨rfl,rfl,rfl⟩
 |t+1=>by
  obtain⟨g,f,r⟩:=jT q l t;have y:J5 st0 (Hr q) l (t+1)=Hr q t (J5 st0 (Hr q) l t) l:=rfl;have u:cF st0 (Hr q) (LV q) l (t+1)=cF st0 (Hr q) (LV q) l t+LV q t (J5 st0 (Hr q) l t) l:=rfl;rw[y,u,r];generalize J5 st0 (Hr q) l t=x at *;obtain⟨z,c0,c1,b0,b1⟩:=x;simp only at g f;have d:∀(h:Int) (b:Bool) (c:WW),Yp (JA q l h t) b c→Yp (JA q l h (t+1)) ((GL q l h t).1||b) (if(GL q l h t).1=true then(GL q l h t).2 else c)∧UG (JA q l h (t+1))=UG (JA q l h t)+GR (GL q l h t) b c:=fun h b c e=>by
   have m:=a4r e (GL q l h t);have s:JA q l h (t+1)=if(GL q l h t).1=true then JA q l h t++[⟨h,t,(GL q l h t).2⟩] else JA q l h t:=rfl
   rw[s];by_cases a:(GL q l h t).1=true
   ·rw[if_pos a,if_pos a,WC,m a,a]
    exact⟨yC (b:=b) (c:=c) ⟨h,t,(GL q l h t).2⟩,rfl⟩
   ·rw[if_neg a,if_neg a]
    have o:(GL q l h t).1=false:=by simpa using a
    rw[o];refine⟨by simpa using e,?_⟩;unfold GR;rw[if_neg a];omega
  obtain⟨k,k1⟩:=d 0 b0 c0 g;obtain⟨j,i⟩:=d 1 b1 c1 f;refine⟨k,j,?_⟩;rw[k1,i];unfold LV;simp only;omega
theorem wE(q:Qu)(l:List Int):cF st0 (Hr q) (LV q) l (Bq q.p).length=QW q l:=by
 rw[(jT q l _).2.2];exact(rG q l _ (nU q l 0 _) _).symm
theorem yQ(q:Qu)(d:KE q)(l:List Int):∀t,t≤(Bq q.p).length→(J5 st0 (Hr q) l t).c0.Ok∧(J5 st0 (Hr q) l t).c1.Ok∧0≤cF st0 (Hr q) (LV q) l t∧cF st0 (Hr q) (LV q) l t≤278*t
 |0,_=>⟨⟨bl _,by show(0:Int)≤127;omega⟩,⟨bl _,by show(0:Int)≤127;omega⟩,bl _,bl _⟩
 |t+1,ht=>by
  obtain⟨m,k,z,y⟩:=yQ q d l t (by omega);have f:=bJ d (Jo (q:=q) (i:=t) (by omega)) l 0 _ (ab _);have e:=bJ d (Jo (q:=q) (i:=t) (by omega)) l 1 _ (ab _);have s:J5 st0 (Hr q) l (t+1)=Hr q t (J5 st0 (Hr q) l t) l:=rfl;have o:cF st0 (Hr q) (LV q) l (t+1)=cF st0 (Hr q) (LV q) l t+LV q t (J5 st0 (Hr q) l t) l:=rfl;rw[s,o];generalize J5 st0 (Hr q) l t=x at *;have a:∀(r:Bool×WW) (b:Bool) (c:WW),r.2.Ok→c.Ok→0≤GR r b c∧GR r b c≤139:=fun r b c g j=>by
   have:=Zl j g;unfold GR;omega
  have u:=a (GL q l 0 t) x.b0 x.c0 f m;have k1:=a (GL q l 1 t) x.b1 x.c1 e k;refine⟨?_,?_,?_,?_⟩
  ·show WW.Ok (if(GL q l 0 t).1=true then(GL q l 0 t).2 else x.c0)
   split
   ·exact f
   omega
  ·show WW.Ok (if(GL q l 1 t).1=true then(GL q l 1 t).2 else x.c1)
   split
   ·exact e
   omega
  ·show 0≤_+(GR (GL q l 0 t) x.b0 x.c0+GR (GL q l 1 t) x.b1 x.c1)
   omega
  ·show _+(GR (GL q l 0 t) x.b0 x.c0+GR (GL q l 1 t) x.b1 x.c1)≤278*((t+1:Nat):Int)
   omega
theorem aU{q:Qu}(b:∀t,t<(Bq q.p).length→kQ q t≤12):b4l q=false:=by
 unfold b4l Ej;rw[rX (fun i a=>decide_eq_false (by have:=b i a;unfold kQ at this;omega)) _ (ab _)];rfl
attribute [local irreducible] Aa Aj Ag Ad AL Ak Bd BL Bl Ai Vm.Done BD AO Qh AY Ci Et I7 Gi Hold
def IsB(q:Qu)(l:List Int):Prop:=l∈KF q (Bq q.p).length∧∀h∈KF q (Bq q.p).length,wS (l,QW q l) (h,QW q h)
theorem b0i{q:Qu}{a b:List Int}(d:IsB q a)(c:IsB q b):a=b:=congrArg Prod.fst (a7g (d.2 b c.1) (c.2 a d.1))
noncomputable def gZ(q:Qu):Option (List Int):=open Classical in if h:∃l,IsB q l then some (Classical.choose h) else none
theorem iZ{q:Qu}{l:List Int}(h:IsB q l):gZ q=some l:=by
 unfold gZ;rw[dif_pos ⟨l,h⟩];exact congrArg some (b0i (Classical.choose_spec (p:=IsB q) ⟨l,h⟩) h)
theorem b6s{q:Qu}{l:List Int}(h:gZ q=some l):IsB q l:=by
 unfold gZ at h;split at h
 ·grind
 grind
theorem iR{q:Qu}(h:KF q (Bq q.p).length=[]):gZ q=none:=by
 cases h1:gZ q with
 |none=>rfl
 |some l =>
  have:=(b6s h1).1;grind
def ji(q:Qu)(t:Nat)(m:List (KJ×Way)):Prop:=rE (Ny q) (fQ q) (kQ q) (XM q) (Ob q) st0 (Hr q) (LV q) t m
theorem yI{es:List (KJ×Way)}{V:List Nat}(h:∀i,i∈V↔i<es.length)(d:KJ×Way):d∈V.map (gi es)↔d∈es:=by
 rw[ba];constructor
 ·rintro⟨i,a,rfl⟩
  exact Di ((h i).1 a)
 ·intro b
  obtain⟨i,a,c⟩:=J8 b;grind
theorem yD(q:Qu)(b:KE q){t:Nat}(a:t<(Bq q.p).length){m:List (KJ×Way)}(c:ji q t m){V:List Nat}(d:∀i,i∈V↔i<m.length):ji q (t+1) (S9 q t m V) :=
 rE.step (Yl q b) (b6p q) (VD q) (b8s q) a c (yI d)
theorem a4f(q:Qu)(a:KE q){t:Nat}(b:t<(Bq q.p).length){m:List (KJ×Way)}(c:ji q t m):∀e∈m,c3u q t e:=fun e d=>by
 obtain⟨f,s,r⟩:=c.sub e d;obtain⟨k1,j,i,g⟩:=yQ q a e.2.1 t (by omega);have o:=O8 q.p;have k:=a.p.notes;refine⟨rH q a b ((Qs q a (by omega) _).1 f),?_,by grind,by grind⟩;omega
theorem a6k(q:Qu)(a:KE q){m:List (KJ×Way)}(b:ji q (Bq q.p).length m):∀e∈m,e.2.1.length=q.p.notes.length∧0≤e.2.2∧e.2.2≤1000000000000:=fun e c=>by
 obtain⟨d,r,o⟩:=b.sub e c;obtain⟨k1,i,g,f⟩:=yQ q a e.2.1 (Bq q.p).length (ab _);have k:=O8 q.p;have j:=a.p.notes;refine⟨jw.len ((Qs q a (ab _) _).1 d),?_⟩;omega
def TD(es:List (KJ×Way))(V:List Nat):Option Way:=(V.map fun i=>(gi es i).2).foldl XD none
theorem a4p(q:Qu){es:List (KJ×Way)}(f:ji q (Bq q.p).length es){V:List Nat}(s:∀i,i∈V↔i<es.length):TD es V=(gZ q).map fun l=>(l,QW q l):=by
 have b:∀w,w∈(V.map fun i=>(gi es i).2)↔∃e∈es,e.2=w:=fun w=>by
  rw[ba];constructor
  ·rintro⟨i,d,rfl⟩
   exact⟨_,Di ((s i).1 d),rfl⟩
  ·rintro⟨e,d,rfl⟩
   obtain⟨i,h2,rfl⟩:=J8 d;grind
 have k:∀e∈es,e.2.2=QW q e.2.1:=fun e g=>by rw[(f.sub e g).2.2];exact wE q _
 unfold TD;rcases W9 (V.map fun i=>(gi es i).2) none with⟨_,d,h2⟩|⟨w,d,h2,x,_⟩
 ·rw[h2]
  have:KF q (Bq q.p).length=[]:=by
   cases h:KF q (Bq q.p).length with
   |nil=>rfl
   |cons a l =>
    obtain⟨o,j,_⟩:=f.best a (by show a∈KF q _;grind);simp_all
  rw[iR this];rfl
 ·rcases h2 with h2|h2
  ·obtain⟨e,g,rfl⟩:=(b w).1 h2
   have r:=k e g;have u:IsB q e.2.1:=by
    refine⟨(f.sub e g).1,fun h m=>?_⟩;obtain⟨o,j,c⟩:=f.best h m;have y:=wE q h;rw[y] at c;rw[← r];exact Ol (x o ((b o).2 ⟨_,j,rfl⟩)) c
   rw[iZ u];grind
  grind
def c3t:Option Way→PV
 |none=>.p (.val (.pointer none))
 |some w=>.p (.Fb [.lst 3 (cells w.1) w.1.length,.int .i64 w.2])
def b9n:HB:=.box 41 [.p (.val (.slice none 0 0)),.p (.int .i64 0)]
noncomputable def V5(q:Qu):PV:=match gZ q with
 |none=>.D5 [.p (.agg [.val (.slice none 0 0),.int .i64 0]),.p (.int .i64 24)]
 |some l=>.D5 [.p (.agg [.lst 3 (cells l) l.length,.int .i64 (QW q l)]),.p (.int .i64 0)]
theorem nZ:Am.Enters Tryz.prog 39:=⟨_,Tryz.func39,by rfl,by rfl⟩
theorem a5v(q:Qu)(d:KE q)(Z:∀t,t<(Bq q.p).length→kQ q t≤12):I7 env 11 [.agg (Enc.enc q)] (V5 q):=by
 have C:=Rf q d.o.sm d.p.sm;rw[zK d] at C;have J:=Vg q d;rw[aU Z] at J;have X:=fH q d;have P:=KW q d;have hSl:=O8 q.p;have hn:=d.p.notes;refine I7.enter Tryz.func11 rfl (by kernel_rfl) (by kernel_rfl) (by simp[Tryz.ntmps11]) ?_
 repeat' (first|apply AY.Bo|apply Et.normal|apply AY.to|apply AY.block|apply AY.skip|(apply AY.cond_false;rfl)|(apply Aa.fn;rfl;rfl;exact C;intro _;rfl)|(apply Aa.fn;rfl;rfl;exact J;intro _;rfl)|(apply Aa.fn;rfl;rfl;exact X;intro _;rfl)|(apply Aa.fn;rfl;rfl;exact P;intro _;rfl)|(apply c5z (m:=[]) (y:=st0) (Ob q,0);rfl;rfl;rfl;rfl;rfl)|refine go2 ?_|(apply b8n)|(apply Aa.int;rfl;rfl;rfl)|(apply Aa.build;rfl;rfl;rfl;rfl;rfl))
 all_goals try(exfalso;omega)
 all_goals try contradiction
 have hS2:∀k,k<(Bq q.p).length→gi (Bq q.p) k=Nk q k:=fun k _=>rfl
 refine AY.DR (fun s:Nat×List (KJ×Way)=>[(1,.ref 0 0),(2,.ref 1 0),(5,.mref 2),(27,.p (.lst 81 (cells (Bq q.p)) (Bq q.p).length)),(28,.p (.int .i64 ((Bq q.p).length:Int))),(29,.p (.int .i64 (s.1:Int)))])
  (fun s=>[(0,tY q),(1,b9n),(2,MC s.2)]) 3 (fun s=>s.1≤(Bq q.p).length∧ji q s.1 s.2) (fun s=>(Bq q.p).length-s.1) (0,[(st0,(Ob q,0))]) (by decide) ⟨an _,rE.start⟩ ⟨by decide,?_,?_⟩ ?_
 ·exact Du
 ·repeat(first|exact BF.nil|(refine BF.cons (Ba rfl) ?_ rfl ?_ ?_;(first|exact CU _ _|exact CZ _ _|exact HB.AA rfl|exact CV.Bg _ _|(simp[HB.under,CV.under,PV.under]));(first|exact Kw.refl _|exact Kw.vec (JB.refl _) (by simp))))
 rintro⟨k,m⟩ ⟨T,F⟩;simp only at T F ⊢;rcases aq k (Bq q.p).length with hkl|hkl
 ·have ha:=yZ q d k hkl (Z k hkl) m (a4f q d hkl F)
  unfold tY b9n
  repeat' (first|(refine AY.atEnd 10 ?_;apply AY.oP)|((refine Ci.Il 36 ?_;refine Hold.of ?_))|apply AY.Bo|apply Et.normal|apply AY.to|apply AY.block|apply AY.skip|(apply AY.Au;rfl)|apply Ci.one|apply Aj.nil|apply Aj.one|(apply Aa.move;rfl)|(apply Aa.int;rfl;rfl;rfl)|(apply Aa.Ap;rfl;rfl;rfl;omega;rfl)|(apply Aa.load;rfl;rfl)|(apply Aa.alloc;rfl)|(apply Aa.Gl;rfl;rfl;rfl;trivial;rfl;rfl;exact Ba rfl;exact le_dec rfl)|(intro _;try(exfalso;omega)))
  all_goals try(exfalso;omega)
  refine Hold.go ?_;refine Ci.c4k [2] ha nZ rfl rfl (.of_eq rfl) (CV.AA rfl) ⟨⟨by decide,CU _ _⟩,trivial⟩ ⟨⟨_,rfl,by rw[Zc];exact Kw.refl _⟩,trivial⟩ (by decide) (by decide) ?_;rintro r H' nx' ⟨V,hV1,A,rfl,rfl,rfl⟩;have S:=yD q d hkl F A
  repeat' (first|((refine AY.atEnd 11 ?_;refine Hold.of ?_))|apply Et.normal|apply Ci.nil|apply Ci.one|apply Bl.normal|(apply Aa.assign;rfl))
  refine Hold.go ?_;refine AY.swap 2 4 (by decide) (by decide) (by decide) (by decide) ?_
  repeat' (first|apply AY.region|refine go2 ?_|fail)
  all_goals try(exfalso;omega)
  refine Ai.normal ⟨(k+1,S9 q k m V),⟨hkl,S⟩,by show(Bq q.p).length-(k+1)<(Bq q.p).length-k;omega,⟨by decide,?_,?_⟩⟩
  ·dsimp only
   exact Du
  ·dsimp only
   repeat(first|exact BF.nil|(refine BF.cons (Ba rfl) ?_ rfl ?_ ?_;(first|exact CU _ _|exact HB.AA rfl);(first|exact Kw.refl _|(rw[Zc,Zc];exact Kw.refl _))))
 ·obtain rfl:k=(Bq q.p).length:=by omega
  repeat' (first|((refine AY.at 13 ?_;refine Hold.of ?_))|apply AY.Bo|apply Et.normal|apply Et.exit|apply AY.to|apply AY.exit|(apply AY.Au;rfl)|refine go0 ?_|(intro _;try(exfalso;omega)))
  all_goals try(exfalso;omega)
  refine Hold.go ?_;have u:=a6k q d F;refine AY.mY (fun b:Option Way=>[(1,.ref 0 0),(2,.ref 1 0),(8,c3t b),(38,.mref 2)]) (fun b=>[(0,tY q),(1,b9n),(2,MC m)]) (fun V b=>b=TD m V∧∀i∈V,i<m.length) none (CP:=3) (b:=2) (ks:=(Ku m).map fun x=>.agg (Enc.enc x.1)) (cs:=(Ku m).map (·.2)) rfl rfl (by decide) rfl ⟨rfl,fun i h=>absurd h bh⟩ ⟨by decide,?_,?_⟩ rfl (fun _=>⟨rfl,rfl,rfl⟩) (fun _ _ _=>rfl) (by simp) rfl (by kernel_rfl) (by kernel_rfl) (by decide) ?_ ?_
  ·exact Du
  ·repeat(first|exact BF.nil|(refine BF.cons (Ba rfl) ?_ rfl ?_ ?_;(first|exact CU _ _|exact CZ _ _|exact HB.AA rfl|exact CV.Bg _ _|(simp[HB.under,CV.under,PV.under]));(first|exact Kw.refl _|exact Kw.vec (JB.refl _) (by simp))))
  ·rintro V b i kk c ⟨U,O⟩ R hni T C
   subst U;have I:i<m.length:=by
    have:=(bv.1 T).1;simpa[Ku] using this
   have W:m[i]?=some (gi m i):=by unfold gi;rw[ai I];rfl
   have ec:c=.p (QS (gi m i).2):=by
    unfold Ku at C;rw[aw,aw,W] at C;simpa using C.symm
   subst ec;have e:TD m (V++[i])=XD (TD m V) (gi m i).2:=by
    unfold TD;rw[bk,dp];rfl
   have G:∀o,TD m V=some o→o.1.length=q.p.notes.length∧0≤o.2∧o.2≤1000000000000:=fun o B=>by
    rcases W9 (V.map fun i=>(gi m i).2) none with⟨_,_,h⟩|⟨w,Y,h2,_,_⟩
    ·unfold TD at B;rw[h] at B;cases B
    ·unfold TD at B;rw[Y] at B;cases B
     rcases h2 with h2|h2
     ·obtain⟨j,j1,rfl⟩:=ba.1 h2
      exact u _ (Di (O j j1))
     ·cases h2
   rw[e];clear e;have M:∀j∈V++[i],j<m.length:=fun j hj=>by
    rcases bq.1 hj with h|h
    ·exact O j h
    ·rw[aR] at h;omega
   obtain⟨f1,f2⟩:=u _ (Di I);generalize TD m V=b at *;generalize (gi m i).2=v at *;obtain⟨l,a⟩:=v;simp only at f1 f2;cases b with
   |none =>
    have f:XD none (l,a)=some (l,a):=rfl;rw[f]
    repeat' (first|(refine AY.atEnd 17 ?_;refine AY.ghost (Aq.jD 10 [.lst 3 (cells l) l.length,.int .i64 a] rfl rfl rfl) ?_;first|apply AY.region|apply AY.E5)|apply AY.Ce|(apply AY.cond_true;rfl)|apply Ci.nil|apply Ci.one|refine VU ?_|(apply Ag.dB;rfl;rfl)|(apply Aa.b0y;rfl;rfl;rfl))
    all_goals try(exfalso;omega)
    all_goals try contradiction
    refine Ai.normal ⟨some (l,a),⟨rfl,M⟩,⟨by decide,?_,?_⟩⟩
    ·exact Du
    ·repeat(first|exact BF.nil|(refine BF.cons (Ba rfl) ?_ rfl ?_ ?_;(first|exact CU _ _|exact CZ _ _|exact HB.AA rfl|exact CV.Bg _ _|(simp[HB.under,CV.under,PV.under]));(first|exact Kw.refl _|exact Kw.vec (JB.refl _) (by simp))))
   |some o =>
    obtain⟨z,g⟩:=o;obtain⟨o1,o2⟩:=G _ rfl;simp only at o1 o2;have K:=TI l z (by omega) (by omega);have f:XD (some (z,g)) (l,a)=if ltB (l,a) (z,g)=true then some (l,a) else some (z,g):=rfl
    have hb:ltB (l,a) (z,g)=(decide (a<g)||(decide (a=g)&&decide (cmpL l z<0))):=rfl;rw[hb] at f;generalize cmpL l z=cm at *;by_cases g1:a<g;all_goals by_cases g2:a=g
    all_goals by_cases g3:cm<0
    all_goals first|rw[decide_eq_true g1] at f|rw[decide_eq_false g1] at f
    all_goals first|rw[decide_eq_true g2] at f|rw[decide_eq_false g2] at f
    all_goals first|rw[decide_eq_true g3] at f|rw[decide_eq_false g3] at f
    all_goals simp only[Bool.true_or,Bool.false_or,Bool.true_and,Bool.false_and,Bool.false_eq_true,if_true,if_false] at f
    all_goals rw[f]
    all_goals
     repeat' (first|(refine AY.atEnd 17 ?_;refine AY.ghost (Aq.jD 10 [.lst 3 (cells l) l.length,.int .i64 a] rfl rfl rfl) ?_;first|apply AY.region|apply AY.E5)|apply AY.Ce|apply AY.skip|(apply AY.cond_true;rfl)|(apply AY.cond_false;rfl)|(apply AY.Au;rfl)|apply Ci.nil|apply Ci.one|(apply Aa.fn;rfl;rfl;exact K;intro _;rfl)|refine VU ?_|(apply Ag.guard;rfl;rfl)|(apply Ag.dB;rfl;rfl)|(apply Aa.a9w;rfl;rfl;rfl)|(apply Aa.a2c;rfl)|(apply Aa.int;rfl;rfl;rfl)|(intro _;try(exfalso;omega)))
    all_goals try(exfalso;omega)
    all_goals try contradiction
    all_goals
     refine Ai.normal ⟨_,⟨rfl,M⟩,⟨by decide,?_,?_⟩⟩
     ·exact Du
     ·repeat(first|exact BF.nil|(refine BF.cons (Ba rfl) ?_ rfl ?_ ?_;(first|exact CU _ _|exact CZ _ _|exact HB.AA rfl|exact CV.Bg _ _|(simp[HB.under,CV.under,PV.under]));(first|exact Kw.refl _|exact Kw.vec (JB.refl _) (by simp))))
  ·rintro V b ⟨U,O⟩ R Y h2
   subst U;have A:∀i,i∈V↔i<m.length:=fun i=>⟨O i,fun h=>Y i (by simpa[Ku] using h)⟩
   rw[a4p q F A];unfold V5;cases gZ q with
   |none =>
    show Et _ _ _ _ _ _ [(1,_),(2,_),(8,.p (.val (.pointer none))),(38,_)] _ _
    repeat' (first|apply AY.Bo|apply Et.normal|apply Et.ret|apply AY.to|apply AY.ret|(apply AY.cond_true;rfl)|refine go2 ?_|(apply Aa.b0y;rfl;rfl;rfl)|(apply Aa.build;rfl;rfl;rfl;rfl;rfl))
    all_goals try(exfalso;omega)
    all_goals try contradiction
    all_goals(refine Done.rt rfl rfl ⟨?_,rfl,rfl⟩;try rfl)
   |some l =>
    show Et _ _ _ _ _ _ [(1,_),(2,_),(8,.p (.Fb [.lst 3 (cells l) l.length,.int .i64 (QW q l)])),(38,_)] _ _
    repeat' (first|apply AY.Bo|apply AY.Ce|apply Et.normal|apply AY.to|apply AY.ret|apply AY.skip|(apply AY.cond_false;rfl)|refine go2 ?_|(apply Aa.a9w;rfl;rfl;rfl)|(apply Aa.a2c;rfl)|(apply Aa.build;rfl;rfl;rfl;rfl;rfl))
    all_goals try(exfalso;omega)
    all_goals try contradiction
    all_goals(refine Done.rt rfl rfl ⟨?_,rfl,rfl⟩;try rfl)
theorem b5f{a:Nat}(h:a<100000000000000000):Lib.nDigits a≤18:=by
 have c:Lib.nDigits 100000000000000000=18:=Lib.nDigits_unique 17 _ (by decide) (by decide);rcases aq 18 (Lib.nDigits a) with h2|h2
 ·have:=Num.Pg (a:=100000000000000000) (b:=a) (by omega)
  omega
 omega
theorem ZP(a b:Nat)(d:a<100000000000000000)(c:b<100000000000000000):Ak env 43 [.str (bs (Lib.decDigits a)),.str (bs (Lib.decDigits b))] (st (Lib.decDigits (a+b))):=by
 have f:Ak env 91 [.str (bs (Lib.decDigits a)),.int .i64 18] (.D5 [.p (.int .i64 (a:Int)),.p (.bool true)]):=by
  have:=O7 a 18 (ab _);rw[if_pos (b5f d),decide_eq_true (b5f d)] at this;omega
 have e:Ak env 91 [.str (bs (Lib.decDigits b)),.int .i64 18] (.D5 [.p (.int .i64 (b:Int)),.p (.bool true)]):=by
  have:=O7 b 18 (ab _);rw[if_pos (b5f c),decide_eq_true (b5f c)] at this;omega
 have g:Ak env 18 [.int .i64 ((a:Int)+(b:Int))] (st (Lib.decDigits (a+b))):=by
  have:=Y4 ((a+b:Nat):Int) ⟨by omega,by omega⟩;assumption
 generalize Lib.decDigits b=y at *;refine Ak.enter (Af (by decide)) Tryz.func43 rfl (by kernel_rfl) (by simp) ?_
 repeat' (first|(apply Aa.fn;rfl;rfl;exact f;intro _;rfl)|(apply Aa.fn;rfl;rfl;exact e;intro _;rfl)|(apply Aa.fn;rfl;rfl;exact g;intro _;rfl)|refine go2 ?_|(apply Ad.AV;rfl))
 all_goals first|(exfalso;omega)|contradiction|(refine Done.rt rfl rfl ⟨?_,rfl,rfl⟩;try rfl)
abbrev I5:=List Int×Nat
def Qa(w:I5):FV:=.agg [.lst 3 (cells w.1) w.1.length,.str (bs (Lib.decDigits w.2))]
def JO(es:List (List UInt8×I5)):List (List UInt8×PV):=es.map fun e=>(e.1,.p (Qa e.2))
def UD(es:List (List UInt8×I5)):HB:=Ou (fun x:List UInt8=>.str (bs x)) (JO es)
theorem CZ(k:Nat)(es:List (List UInt8×I5)):HB.under k (UD es):=by
 induction es with
 |nil=>exact trivial
 |cons e es a=>exact⟨trivial,a⟩
theorem cvJ{k:Nat}{a b:Heap}(h:Vm.BF k a b:=by repeat(first|exact BF.nil|(refine BF.cons (Ba rfl) ?_ rfl ?_ ?_;(first|exact CZ _ _|exact CU _ _|exact HB.AA rfl|exact CV.Bg _ _|(simp[HB.under,CV.under,PV.under]));(first|exact Kw.refl _|exact Kw.vec (JB.refl _) (by simp))))):Vm.BF k a b:=h
theorem cvK{k:Nat}{a b:Heap}(h:Vm.BF k a b:=by repeat(first|exact BF.nil|(refine BF.eq rfl (Ba rfl) ?_ ?_;(first|exact CZ _ _|exact CU _ _|exact HB.AA rfl|exact CV.Bg _ _|(simp[HB.under,CV.under,PV.under];done)))|(refine BF.cons (Ba rfl) ?_ rfl ?_ ?_;(first|exact CZ _ _|exact CU _ _|exact HB.AA rfl|exact CV.Bg _ _|(simp[HB.under,CV.under,PV.under]));(first|exact Kw.refl _|exact Kw.vec (JB.refl _) (by simp))))):Vm.BF k a b:=h
theorem b6v(ρ:Nat→Nat)(es:List (List UInt8×I5)):(UD es).rn ρ=UD es:=by
 show HB.JZ _ (CV.rn ρ ((JO es).map (·.2)))=HB.JZ _ _;have:CV.rn ρ ((JO es).map (·.2))=(JO es).map (·.2):=by
  induction es with
  |nil=>rfl
  |cons e es a =>
   show PV.rn ρ (PV.p (Qa e.2))::CV.rn ρ ((JO es).map (·.2))=_;rw[a];rfl
 grind
section
variable {L:Vm.Frame}{H:Vm.Heap}{nx:Nat}{Q:PV→Vm.Heap→Nat→Prop}{w:Bool}{dst:Option Tmp}{ty:TypeId}{pos:String}{af:Array Edge}{gd:Option (Nat×Bool)}
theorem b7s{t:TypeId}(q:Q (.mref nx) ((nx,UD [])::H) (nx+1)):Aa env w ⟨dst,.makeMap t none,ty,pos,af,gd⟩ L H nx Q:=Aa.aA q
theorem b9d{t a:TypeId}{x k:Operand}{b:Nat}{m:List (List UInt8×I5)}{y:List UInt8}(g:BZ m y=none)(d:AU env.Γ L x=some (.mref b))(j:hget H b=some (UD m))(i:AU env.Γ L k=some (.p (.str (bs y))))
 (e:env.P.underlying t=some (.map 9 a)) (c:zeroOf env.P a=some (.agg #[.slice none 0 0,.string ⟨#[]⟩])) (q:Q (.D5 [.p (.agg [.val (.slice none 0 0),.str ⟨#[]⟩]),.p (.bool false)]) H nx):Aa env w ⟨dst,.lookup t x k true,ty,pos,af,gd⟩ L H nx Q:=by
 have o:BZ (JO m) y=none:=by
  have:=U4 (fun w=>PV.p (Qa w)) y m;rw[g] at this;exact this
 have f:(BZ (JO m) y).isSome=false:=by grind
 rw[← f] at q;exact Aa.lookupGo (z:=.agg #[.slice none 0 0,.string ⟨#[]⟩]) Zd d j i e c rfl (LZ.const o rfl) q
theorem c1p{t a:TypeId}{x k:Operand}{b:Nat}{m:List (List UInt8×I5)}{y:List UInt8}{v:I5}(g:BZ m y=some v)(d:AU env.Γ L x=some (.mref b))(j:hget H b=some (UD m))(i:AU env.Γ L k=some (.p (.str (bs y))))
 (e:env.P.underlying t=some (.map 9 a)) (c:zeroOf env.P a=some (.agg #[.slice none 0 0,.string ⟨#[]⟩])) (q:Q (.D5 [.p (Qa v),.p (.bool true)]) H nx):Aa env w ⟨dst,.lookup t x k true,ty,pos,af,gd⟩ L H nx Q:=by
 have o:BZ (JO m) y=some (.p (Qa v)):=by
  have:=U4 (fun w=>PV.p (Qa w)) y m;rw[g] at this;exact this
 have f:(BZ (JO m) y).isSome=true:=by grind
 rw[← f] at q;exact Aa.lookupGo (z:=.agg #[.slice none 0 0,.string ⟨#[]⟩]) Zd d j i e c rfl (.inl o) q
theorem c6s{t i:TypeId}{x k a:Operand}{b:Nat}{m:List (List UInt8×I5)}{y:List UInt8}(v:I5)(d:AU env.Γ L x=some (.mref b))(g:hget H b=some (UD m))(f:AU env.Γ L k=some (.p (.str (bs y))))(c:AU env.Γ L a=some (.p (Qa v)))
 (e:env.P.underlying t=some (.map 9 i)) (q:Q (.D5 []) (hput H b (UD (CB m y v))) nx):Aa env true ⟨dst,.mapUpdate t x k a,ty,pos,af,gd⟩ L H nx Q :=
 Aa.a2i Zd d g f c e (by
  show hput H b (Ou _ (CB (JO m) y (.p (Qa v))))=hput H b (Ou _ (JO (CB m y v)));have:CB (JO m) y (PV.p (Qa v))=JO (CB m y v):=VY (fun w=>PV.p (Qa w)) y v m;grind) q
theorem c4a{t i:TypeId}{x k a:Operand}{b:Nat}{m:List (List UInt8×I5)}{y:List UInt8}(v:I5)(d:AU env.Γ L x=some (.mref b))(g:hget H b=some (UD m))(f:AU env.Γ L k=some (.p (.str (bs y))))(c:AU env.Γ L a=some (.p (Qa v)))
 (e:env.P.underlying t=some (.map 9 i)) (q:Q (.D5 []) (hput H b (UD (CB m y v))) nx):Aa env true ⟨dst,.insert t x k a,ty,pos,af,gd⟩ L H nx Q :=
 Aa.a1j Zd d g f c e (by
  show hput H b (Ou _ (CB (JO m) y (.p (Qa v))))=hput H b (Ou _ (JO (CB m y v)));have:CB (JO m) y (PV.p (Qa v))=JO (CB m y v):=VY (fun w=>PV.p (Qa w)) y v m;grind) q
end
instance:Inhabited (List UInt8×I5):=⟨([],([],0))⟩
def zZ(q:Qu)(t:Nat)(e:List UInt8×I5):List (List UInt8×I5):=(nO q t e.2.1).map fun x=>(Qd (DJ q t) x,(x,e.2.2))
def dG(q:Qu)(t:Nat)(es:List (List UInt8×I5))(V:List Nat):List (List UInt8×I5):=((V.map (gi es)).flatMap (zZ q t)).foldl SB []
def rW(q:Qu)(t:Nat)(m:List (List UInt8×I5)):Prop:=YK (Ny q) (fQ q) (kQ q) (XM q) (Ob q) [] (c6c q) t m
theorem Ya{α:Type}[Inhabited α]{es:List α}{V:List Nat}(a:V.Nodup)(h:∀i,i∈V↔i<es.length):(V.map (gi es)).Perm es:=by
 have d:V.Perm (List.range es.length):=(ge a gw).2 fun i=>by grind
 have c:(List.range es.length).map (gi es)=es:=by
  refine La (by simp) fun i b=>?_
  unfold gi;grind
 grind
theorem y8(q:Qu)(b:KE q){t:Nat}(a:t<(Bq q.p).length){m:List (List UInt8×I5)}(d:rW q t m){V:List Nat}(c:V.Nodup)(e:∀i,i∈V↔i<m.length):rW q (t+1) (dG q t m V) :=
 YK.step (Yl q b) (b5r q) (VD q) (b8s q) a d (Ya c e)
theorem a6a(q:Qu)(b:KE q){t:Nat}(a:t≤(Bq q.p).length){m:List (List UInt8×I5)}(c:rW q t m):∀e∈m,c1j q t e.2.1∧e.2.2≤(KF q t).length:=fun e d=>by
 obtain⟨g,i,f⟩:=c.sub e d;refine⟨(Qs q b a _).1 g,?_⟩;rw[f];exact List.countP_le_length
theorem sD{α:Type}(F:α→Nat):∀l:List α,(∀a∈l,1≤F a)→l.length≤sumF F l
 |[],_=>ab _
 |a::l,h=>by
  have:=sD F l fun b c=>h b (ao _ c)
  have:=h a (by simp);simp only[sumF,List.length_cons];omega
theorem a6q(q:Qu){t:Nat}{m:List (List UInt8×I5)}(a:rW q t m):m.length≤(KF q t).length:=by
 have h:=YK.total a;refine am (sD (fun d:List UInt8×I5=>d.2.2) m fun d b=>?_) (Nat.le_of_eq h);obtain⟨f,e,c⟩:=a.sub d b;grind
theorem b7k{n c:Nat}{m:List (List UInt8×I5)}{d:List UInt8×I5}(g:∀e∈m,e.2.2≤n)(j:d.2.2≤c):∀e∈SB m d,e.2.2≤n+c:=fun e a=>by
 have b:∀w:I5,w.2≤n+c→∀e∈CB m d.1 w,e.2.2≤n+c:=fun w i e a=>by
  rcases Qm a with h|h|h
  ·grind
  ·grind
  grind
 unfold SB at a;split at a
 ·grind
 ·rename_i o f
  have:=g _ (Lh f);grind
theorem c4b:Lib.decDigits 0=[48]:=by rw[Lib.decDigits];rfl
theorem d0s:Lib.decDigits 1=[49]:=by rw[Lib.decDigits];rfl
def cbd(n:Nat):Nat:=n*4096000000
theorem b9v{n:Nat}(h:n≤1000000):cbd n≤4096000000000000:=by unfold cbd;omega
theorem a8v(n:Nat):cbd (n+1)=cbd n+4096000000:=by unfold cbd;omega
theorem oL(q:Qu)(C:KE q)(hM:∀t,t<(Bq q.p).length→kQ q t≤12)(hP:∀t,t≤(Bq q.p).length→(KF q t).length≤1000000):I7 env 12 [.agg (Enc.enc q)] (.D5 [st (Lib.decDigits (KF q (Bq q.p).length).length),.p (.int .i64 0)]):=by
 have hc:=Rf q C.o.sm C.p.sm;rw[zK C] at hc;have Z:=Vg q C;rw[aU hM] at Z;have hbg:=fH q C;have hsl:=KW q C;have hSl:=O8 q.p;have hn:=C.p.notes;have e1:(some (PV.p (.agg [.lst 3 (cells (Ob q)) (Ob q).length,.str ⟨#[49]⟩])))=some (PV.p (Qa (Ob q,1))):=by
  unfold Qa;simp only[d0s];rfl
 refine I7.enter Tryz.func12 rfl (by kernel_rfl) (by kernel_rfl) (by simp[Tryz.ntmps12]) ?_
 repeat' (first|apply AY.Bo|apply Et.normal|apply AY.to|apply AY.block|apply AY.skip|(apply AY.cond_false;rfl)|(apply Aa.fn;rfl;rfl;exact hc;intro _;rfl)|(apply Aa.fn;rfl;rfl;exact Z;intro _;rfl)|(apply Aa.fn;rfl;rfl;exact hbg;intro _;rfl)|(apply Aa.fn;rfl;rfl;exact hsl;intro _;rfl)|(apply c4a (m:=[]) (y:=[]) (Ob q,1);rfl;rfl;rfl;exact e1;rfl)|refine go2 ?_|(apply b7s)|(apply Aa.int;rfl;rfl;rfl)|(apply Aa.build;rfl;rfl;rfl;rfl;rfl))
 all_goals try(exfalso;omega)
 all_goals try contradiction
 refine AY.DR (fun s:Nat×List (List UInt8×I5)=>[(1,.ref 0 0),(5,.mref 1),(32,.p (.lst 81 (cells (Bq q.p)) (Bq q.p).length)),(33,.p (.int .i64 ((Bq q.p).length:Int))),(34,.p (.int .i64 (s.1:Int)))])
  (fun s=>[(0,tY q),(1,UD s.2)]) 2 (fun s=>s.1≤(Bq q.p).length∧rW q s.1 s.2) (fun s=>(Bq q.p).length-s.1) (0,[([],(Ob q,1))]) (by decide) ⟨an _,YK.start⟩ ⟨by decide,?_,?_⟩ ?_
 ·exact Du
 ·exact cvJ
 rintro⟨k,m⟩ ⟨hk,X⟩;simp only at hk X ⊢;have hml:=am (a6q q X) (hP k hk);have O:=a6a q C hk X;have hPk:=hP k hk;rcases aq k (Bq q.p).length with hkl|hkl
 ·unfold tY
  repeat' (first|((refine AY.at 11 ?_;refine Hold.of ?_))|apply AY.Bo|apply Et.normal|apply AY.to|apply AY.block|apply AY.skip|(apply AY.Au;rfl)|(apply Aa.Ap;rfl;rfl;rfl;omega;rfl)|refine go0 ?_|(apply b7s)|(intro _;try(exfalso;omega)))
  all_goals try(exfalso;omega)
  refine Hold.go ?_;refine AY.mY (fun b:List (List UInt8×I5)=>[(1,.ref 0 0),(7,.ref 2 0),(8,.mref 3),(32,.p (.lst 81 (cells (Bq q.p)) (Bq q.p).length)),(33,.p (.int .i64 ((Bq q.p).length:Int))),(34,.p (.int .i64 (k:Int))),(39,.mref 1)]) (fun b=>[(0,tY q),(1,UD m),(2,slB (Nk q k)),(3,UD b)]) (fun V b=>b=dG q k m V∧(∀i∈V,i<m.length)∧∀e∈b,e.2.2≤cbd V.length) [] (CP:=4) (b:=1) (ks:=(JO m).map fun x=>.str (bs x.1)) (cs:=(JO m).map (·.2)) rfl rfl (by decide) rfl ⟨rfl,(fun i h=>absurd h bh),fun e h=>absurd h bh⟩ ⟨by decide,?_,?_⟩ rfl (fun _=>⟨rfl,rfl,rfl⟩) (fun _ _ _=>rfl) (by simp) rfl (by kernel_rfl) (by kernel_rfl) (by decide) ?_ ?_
  ·exact Du
  ·exact cvJ
  ·rintro V b i kk c ⟨u,K,hbl⟩ g hni M z
   subst u;have I:i<m.length:=by
    have:=(bv.1 M).1;simpa[JO] using this
   have P:m[i]?=some (gi m i):=by unfold gi;rw[ai I];rfl
   have ec:c=.p (Qa (gi m i).2):=by
    unfold JO at z;rw[aw,aw,P] at z;simpa using z.symm
   subst ec;have J:dG q k m (V++[i])=(zZ q k (gi m i)).foldl SB (dG q k m V):=by
    unfold dG;rw[bk,io,dp,fX,gN]
   rw[J];clear J;have S:∀j∈V++[i],j<m.length:=fun j hj=>by
    rcases bq.1 hj with h|h
    ·exact K j h
    ·rw[aR] at h;omega
   have hVl:=IL m.length V g K;have hVs:(V++[i]).length=V.length+1:=by simp
   rw[hVs];have hcs:=a8v V.length;have hcl:=b9v (am hVl hml);obtain⟨w1,w2⟩:=O _ (Di I);have w3:=rH q C hkl w1;generalize dG q k m V=b0 at *;unfold zZ;generalize (gi m i).2=v at *;obtain⟨l,A⟩:=v;simp only at w1 w2 w3 ⊢;have hch:=VJ q C k hkl (hM k hkl) l w3;have hwy:=fun y hy=>tX q C hkl w3 (x:=y) hy
   have hLl:=vY q k (hM k hkl) l;generalize nO q k l=L at *;have hN:iF q (Nk q k).notes:=Jo hkl;have hNl:(Nk q k).notes.length≤1000:=aj C hkl;obtain⟨G,hG⟩:∃G:List Int→List UInt8×I5,G=fun y=>(Qd (DJ q k) y,(y,A)):=⟨_,rfl⟩
   rw[← hG];rw[hcs];generalize cbd V.length=B at *;unfold tY slB
   repeat' (first|(refine AY.at 14 ?_;apply AY.SV)|(apply Ci.fn;rfl;rfl;exact hch;exact Qx;intro _;rfl)|apply AY.block|apply Ci.nil|apply Ci.one|refine VU ?_|fail)
   all_goals try(exfalso;omega)
   refine AY.ofV ?_;apply Ad.H8 (L.length) (fun f=>∀e∈((L.take f).map G).foldl SB b0,e.2.2≤B+f*1000000) [(1,_),(7,_),(8,_),(10,_),(32,_),(33,_),(34,_),(39,_),(49,_),(50,_)] [(0,_),(1,_),(2,_),(4,_)] (fun f r=>(51,.p (.int .i64 (f:Int)))::r) (fun f r=>(3,UD (((L.take f).map G).foldl SB b0))::r) 5
   ·first|omega|decide
   ·first|omega|decide
   ·exact Qb
   ·exact cvK
   ·first|(intro _ _;omega)|omega|trivial
   ·intro f Y u
    obtain⟨y1,y2⟩:=hwy _ (Di Y);have e1:((L.take (f+1)).map G).foldl SB b0=SB (((L.take f).map G).foldl SB b0) (G (gi L f)):=by
     rw[Eh Y,bk,dp];rfl
    rw[e1];clear e1;generalize ((L.take f).map G).foldl SB b0=mm at *;have b4o:=uj q (Nk q k) hN hNl (gi L f) y1 y2;have hGk:G (gi L f)=(Qd (Nk q k).notes (gi L f),(gi L f,A)):=by rw[hG];rfl
    rw[hGk];have F:=b7k (c:=1000000) (d:=(Qd (Nk q k).notes (gi L f),(gi L f,A))) u (by show A≤1000000;omega);have F:∀e∈SB mm (Qd (Nk q k).notes (gi L f),(gi L f,A)),e.2.2≤B+(f+1)*1000000:=fun e he=>by have:=F e he;omega
    generalize Qd (Nk q k).notes (gi L f)=nn at *;have U:SB mm (nn,(gi L f,A))=match BZ mm nn with|none=>CB mm nn (gi L f,0+A)|some o=>CB mm nn (o.1,o.2+A):=rfl
    cases hl:BZ mm nn with
    |none =>
     rw[hl] at U;simp only at U;rw[U] at F ⊢;have T:=ZP 0 A (by omega) (by omega);rw[c4b] at T
     repeat' (first|(apply Aa.fn;rfl;rfl;exact b4o;intro _;rfl)|(apply Aa.fn;rfl;rfl;exact T;intro _;rfl)|(apply b9d (m:=mm) (y:=nn) hl;rfl;rfl;rfl;rfl;rfl)|(apply c6s (m:=mm) (y:=nn) (gi L f,0+A);rfl;rfl;rfl;rfl;rfl)|(apply Aa.Ap;rfl;rfl;rfl;omega;rfl)|refine go2 ?_|(apply Aa.int;rfl;rfl;rfl)|(apply Aa.build;rfl;rfl;rfl;rfl;rfl)|(apply Ad.AV;rfl)|(apply Ad.Ac;rfl)|(intro _;try(exfalso;omega)))
     all_goals try(exfalso;omega)
     all_goals try contradiction
     refine Ai.normal ⟨F,by first|omega|decide,?_,?_⟩
     ·exact Du
     ·exact cvJ
    |some o =>
     obtain⟨ol,oc⟩:=o;have hoc:=u _ (Lh hl);simp only at hoc;rw[hl] at U;simp only at U;rw[U] at F ⊢;have T:=ZP oc A (by omega) (by omega)
     repeat' (first|(apply Aa.fn;rfl;rfl;exact b4o;intro _;rfl)|(apply Aa.fn;rfl;rfl;exact T;intro _;rfl)|(apply c1p (m:=mm) (y:=nn) hl;rfl;rfl;rfl;rfl;rfl)|(apply c6s (m:=mm) (y:=nn) (ol,oc+A);rfl;rfl;rfl;rfl;rfl)|(apply Aa.Ap;rfl;rfl;rfl;omega;rfl)|refine go2 ?_|(apply Aa.int;rfl;rfl;rfl)|(apply Ad.Ah;rfl)|(apply Ad.Ac;rfl)|(intro _;try(exfalso;omega)))
     all_goals try(exfalso;omega)
     all_goals try contradiction
     refine Ai.normal ⟨F,by first|omega|decide,?_,?_⟩
     ·exact Du
     ·exact cvJ
   ·intro u
    rw[cn] at u ⊢
    repeat' (first|refine go1 ?_|(apply Ad.Ac;rfl)|(intro _;try(exfalso;omega)))
    all_goals try(exfalso;omega)
    refine Ai.normal ⟨_,⟨rfl,S,fun e he=>by have:=u e he;omega⟩,⟨by decide,?_,?_⟩⟩
    ·exact Du
    ·exact cvJ
  ·rintro V b ⟨u,K,_⟩ g h1 h2
   subst u;have R:∀i,i∈V↔i<m.length:=fun i=>⟨K i,fun h=>h1 i (by simpa[JO] using h)⟩
   have hms:=y8 q C hkl X g R;refine Et.normal ?_;refine AY.swap 1 3 (by decide) (by decide) (by decide) (by decide) ?_
   repeat' (first|apply AY.region|apply Et.normal|refine go2 ?_|fail)
   all_goals try(exfalso;omega)
   refine Ai.normal ⟨(k+1,dG q k m V),⟨hkl,hms⟩,by show(Bq q.p).length-(k+1)<(Bq q.p).length-k;omega,⟨by decide,?_,?_⟩⟩
   ·dsimp only
    exact Du
   ·dsimp only
    repeat(first|exact BF.nil|(refine BF.cons (Ba rfl) ?_ rfl ?_ ?_;(first|exact CZ _ _|exact HB.AA rfl);(first|exact Kw.refl _|(rw[b6v];exact Kw.refl _))))
 ·obtain rfl:k=(Bq q.p).length:=by omega
  repeat' (first|((refine AY.at 27 ?_;refine Hold.of ?_))|apply AY.Bo|apply Et.normal|apply Et.exit|apply AY.to|apply AY.exit|(apply AY.Au;rfl)|refine go0 ?_|(intro _;try(exfalso;omega)))
  all_goals try(exfalso;omega)
  refine Hold.go ?_;have hsb:∀V:List Nat,(∀i∈V,i<m.length)→sumF (fun i=>(gi m i).2.2) V≤V.length*1000000:=fun V=>by
   induction V with
   |nil=>intro _;exact ab _
   |cons a V ih =>
    intro h;have h1:=ih fun i u=>h i (ao _ u)
    have h2:=(O _ (Di (h a (by simp)))).2;simp only[sumF,List.length_cons];omega
  refine AY.mY (fun s:Nat=>[(16,.p (.str (bs (Lib.decDigits s)))),(81,.mref 1)]) (fun s=>[(1,UD m)]) (fun V s=>s=sumF (fun i=>(gi m i).2.2) V∧∀i∈V,i<m.length) 0 (CP:=2) (b:=1) (ks:=(JO m).map fun x=>.str (bs x.1)) (cs:=(JO m).map (·.2)) rfl rfl (by decide) rfl ⟨rfl,fun i h=>absurd h bh⟩ ⟨by decide,?_,?_⟩ rfl (fun _=>⟨rfl,rfl,rfl⟩) (fun _ _ _=>rfl) (by simp) rfl (by kernel_rfl) (by kernel_rfl) (by decide) ?_ ?_
  ·rw[c4b]
   exact Du
  ·exact cvJ
  ·rintro V b i kk c ⟨u,K⟩ g hni M z
   subst u;have I:i<m.length:=by
    have:=(bv.1 M).1;simpa[JO] using this
   have P:m[i]?=some (gi m i):=by unfold gi;rw[ai I];rfl
   have ec:c=.p (Qa (gi m i).2):=by
    unfold JO at z;rw[aw,aw,P] at z;simpa using z.symm
   subst ec;have S:∀j∈V++[i],j<m.length:=fun j hj=>by
    rcases bq.1 hj with h|h
    ·exact K j h
    ·rw[aR] at h;omega
   have hVl:=IL m.length V g K;have hs:=hsb V K;have w2:=(O _ (Di I)).2;have W:sumF (fun i=>(gi m i).2.2) (V++[i])=sumF (fun i=>(gi m i).2.2) V+(gi m i).2.2:=by
    rw[MP];simp[sumF]
   rw[W];generalize sumF (fun i=>(gi m i).2.2) V=sv at *;generalize (gi m i).2=v at *;obtain⟨l,A⟩:=v;simp only at w2 ⊢;have T:=ZP sv A (by omega) (by omega)
   repeat' (first|apply AY.region|apply Ci.nil|apply Ci.one|(apply Aa.fn;rfl;rfl;exact T;intro _;rfl)|refine go2 ?_|fail)
   all_goals try(exfalso;omega)
   refine Ai.normal ⟨_,⟨rfl,S⟩,⟨by decide,?_,?_⟩⟩
   ·exact Du
   ·exact cvJ
  ·rintro V s ⟨u,K⟩ g h1 h2
   subst u;have R:∀i,i∈V↔i<m.length:=fun i=>⟨K i,fun h=>h1 i (by simpa[JO] using h)⟩
   have ht:sumF (fun i=>(gi m i).2.2) V=(KF q (Bq q.p).length).length:=by
    have h3:sumF (fun d:List UInt8×I5=>d.2.2) m=(KF q (Bq q.p).length).length:=YK.total X;rw[← h3,← jq (fun d:List UInt8×I5=>d.2.2) (Ya g R),ZG]
   rw[ht];refine Et.normal ?_
   repeat' (first|apply AY.Bo|apply AY.ret|refine go2 ?_|fail)
   all_goals(refine Done.rt rfl rfl ⟨?_,rfl,rfl⟩;try rfl)
theorem rF:∀(n:Nat) (a b:List Int),a.length=n→b.length=n→(∀x∈a,0≤x∧x≤2)→(∀x∈b,0≤x∧x≤2)→a.foldr (fun x s=>x.toNat+3*s) 0=b.foldr (fun x s=>x.toNat+3*s) 0→a=b
 |0,a,b,ha,hb,_,_,_=>by rw[av.1 ha,av.1 hb]
 |n+1,[],_,ha,_,_,_,_=>by cases ha
 |n+1,_::_,[],_,hb,_,_,_=>by cases hb
 |n+1,x::a,y::b,ha,hb,h1,h2,he=>by
  simp only[List.foldr_cons] at he;have f:=h1 x (by simp);have e:=h2 y (by simp);have d:x=y:=by omega
  rw[d,rF n a b (by simpa using ha) (by simpa using hb) (fun z c=>h1 z (ao _ c)) (fun z c=>h2 z (ao _ c)) (by omega)]
theorem a1a:∀(a:List Int),(∀x∈a,0≤x∧x≤2)→a.foldr (fun x s=>x.toNat+3*s) 0<3^a.length
 |[],_=>by decide
 |x::a,h=>by
  have c:=a1a a fun z b=>h z (ao _ b)
  have d:=h x (by simp);grind
theorem a5q(q:Qu)(m:KE q)(u:q.p.notes.length≤12){t:Nat}(k:t≤(Bq q.p).length):(KF q t).length≤1000000:=by
 have d:∀l∈KF q t,l.length=q.p.notes.length∧∀x∈l,0≤x∧x≤2:=fun l y=>by
  have g:=(Qs q m k l).1 y;have f:l.length=q.p.notes.length:=jw.len g;refine⟨f,fun x r=>?_⟩;obtain⟨i,o,rfl⟩:=J8 r;exact Y6 (VD q) g (by omega)
 have o:((KF q t).map fun a=>a.foldr (fun(x:Int) s=>x.toNat+3*s) 0).Nodup:=by
  refine eZ _ (R:=fun a b=>a∈KF q t∧b∈KF q t∧a≠b) (fun a b ⟨c,j,hne⟩ e=>hne ?_) ?_
  ·exact rF _ a b (d a c).1 (d b j).1 (d a c).2 (d b j).2 e
  ·exact gz (R:=(·≠·)) (fun{a b} c j h=>⟨c,j,h⟩) (gq q m k)
 have z:=IL (3^q.p.notes.length) _ o fun i g=>by
  obtain⟨a,c,rfl⟩:=ba.1 g;have:=a1a a (d a c).2;grind
 rw[aM] at z;have A:3^q.p.notes.length≤3^12:=ax (by decide) u;omega
theorem ru(q:Qu)(b:q.p.notes.length≤12):∀t,t<(Bq q.p).length→kQ q t≤12:=fun t a=>by
 refine am (dt _ _) ?_;rw[Ub q a];exact am (QZ q.p _ _) b
theorem fD(q:Qu)(a:KE q)(b:q.p.notes.length≤12):I7 env 11 [.agg (Enc.enc q)] (V5 q):=a5v q a (ru q b)
theorem uG(q:Qu)(a:KE q)(b:q.p.notes.length≤12):I7 env 12 [.agg (Enc.enc q)] (.D5 [st (Lib.decDigits (KF q (Bq q.p).length).length),.p (.int .i64 0)]) :=
 oL q a (ru q b) fun t c=>a5q q a b c
end Go.Proofs.YtnjkoebfgcbbdaaGreatDoor
namespace Go.Proofs.YtnjkoebfgcbbdaaGreatDoor
open Go Go.Am Go.Vm Go.Pie
attribute [local irreducible] Aa Aj Ag Ad AL Ak Bd BL Bl Ai Vm.Done BD AO
attribute [local irreducible] CJ Bf Eb DW EF A8 Cj
open Go.Sch
attribute [local irreducible] Qh AY Ci Et I7 Gi Hold
def thR:H7:=⟨[79,112,101,110],[79,112,101,110],⟨8,1⟩,36,[1]⟩
def thD:og:=⟨[71,114,101,97,116],false,36,72,[]⟩
def thO:FQ:=⟨[84,104,114,101,101],[thR],[thD],[]⟩
def thP:Fe:=⟨[0,8],[⟨0,4,0,40⟩,⟨0,4,0,52⟩,⟨4,8,0,60⟩],[]⟩
def thY:Na:=⟨1,12,0,0⟩
def WR:Qu:=⟨thO,thP,thY⟩
theorem a0o:Ak env 10 [] (.p (.agg (Enc.enc WR))):=by
 refine Ak.enter (Af (by decide)) Tryz.func10 rfl (by kernel_rfl) (by simp[Tryz.ntmps10]) ?_
 repeat' (first|(refine Aj.Il 6 ?_;refine Aj.ghost (Aq.freeze 5 rfl rfl) ?_)|(refine Aj.Il 12 ?_;refine Aj.ghost (Aq.trans (Aq.freeze 8 rfl rfl) (Aq.freeze 11 rfl rfl)) ?_)|(refine Aj.Il 18 ?_;refine Aj.ghost (Aq.trans (Aq.freeze 13 rfl rfl) (Aq.freeze 17 rfl rfl)) ?_)|apply Ad.Bo|apply Ad.ret|apply Aj.nil|apply Aj.one|(apply Aa.load;rfl;rfl)|(apply Aa.alloc;rfl)|(apply Aa.Gl;rfl;rfl;rfl;trivial;rfl;rfl;exact Ba rfl;exact le_dec rfl)|(apply Aa.build;rfl;rfl;rfl;rfl;rfl)|(apply Aa.buildSlice;rfl;rfl;rfl;decide;rfl;rfl;rfl))
 all_goals try(exfalso;omega)
 refine Done.ret rfl (.p (.agg ?_)) trivial BF.nil (an _) (ab _) ⟨rfl,rfl,rfl⟩;exact .cons (.refl _) (.cons (.refl _) (.cons (.lst (.cons (.refl _) (.cons (.refl _) (.cons (.refl _) (.cons (.refl _) (.cons (.nil _) (.refl _))))))) (.cons (.nil _) (.cons (.refl _) (.cons (.refl _) (.cons (.nil _) (.refl _)))))))
theorem lt1{i:Nat}(h:i<1):i=0 :=by omega
theorem c2l:CJ thR=0:=by
 unfold CJ;have a:DT thR.name:=b3j [79,112,101,110] (by decide) (by decide) (by decide);have d:SG thR.Eu=0:=pk1 8 (.inl rfl);have b:thR.Fz=[1]:=rfl;rw[if_neg (by rintro(h|h);exact h a;exact h a),if_neg (fun h=>h d),if_neg (by show¬ ((36:Int)< -256∨(36:Int)>256);omega),b,if_neg (by simp),if_neg (by simp)];unfold Bf;rw[if_pos];intro j c;obtain rfl:=lt1 c;decide
theorem a2a:VI thO=0:=by
 have f:thO.ranks=[thR]:=rfl;have j:thO.Ae=[thD]:=rfl;have k:thO.I8=[]:=rfl;have g:thO.name=[84,104,114,101,101]:=rfl;unfold VI;rw[f,j,k,g];have b:QY [thR] 0=0:=Xy (fun i hi=>by
  obtain rfl:=lt1 hi;exact⟨c2l,by simp⟩) _ 0 rfl
 have a:DW [thR] thD=0:=by
  unfold DW;exact Us (fun i hi=>absurd hi (bd _)) _ 0 rfl
 have c:GI [thR] [thD] 0=0:=UA (fun i hi=>by
  obtain rfl:=lt1 hi;exact⟨b3j [71,114,101,97,116] (by decide) (by decide) (by decide),by simp,a⟩) _ 0 rfl
 rw[if_neg (fun h=>h (b3j [84,104,114,101,101] (by decide) (by decide) (by decide))),if_neg (by simp),if_neg (fun h=>h b),if_neg (by simp),if_neg (by simp),if_neg (fun h=>h c)];unfold EF;rw[if_neg (by simp)];have e:TT ([thD].map fun d=>(⟨d.lo,d.hi⟩:pY)) 0=0:=Xt (fun i hi=>by
  obtain rfl:=lt1 hi;rfl) _ 0 rfl
 rw[if_neg (fun h=>h e)];exact Uc (fun i hi=>absurd hi (bd _)) _ 0 rfl
theorem b9k:Tm thO:=by
 refine⟨by decide,by decide,by decide,by decide,fun i a=>?_,fun i a=>?_,fun i a=>absurd a (bd _)⟩
 ·obtain rfl:=lt1 a
  exact⟨by decide,by decide,by decide⟩
 ·obtain rfl:=lt1 a
  exact⟨by decide,by decide,fun j b=>absurd b (bd _)⟩
theorem c5i:WO thO:=c0j b9k a2a
theorem c6l(N:List Me)(f:N.length≤1000)(c:∀i,i<N.length→(gi N i).d=0∧(36≤(gi N i).k∧(gi N i).k≤72)∧0≤(gi N i).s∧(gi N i).s<(gi N i).e∧(gi N i).e≤8)(b:∀i,i<N.length→∀j,j<i→kM (gi N j) (gi N i)=false):pV thO ⟨[0,8],N,[]⟩:=by
 refine a2r ⟨by simp,by grind,by simp,fun i a=>absurd a (bd _)⟩ ⟨by simp,by simp⟩ (fun i a=>?_) f (fun i a=>?_) (by simp) fun i a=>absurd a (bd _)
 ·rcases lt2 a with rfl|rfl
  ·exact⟨by show(0:Int)≤0∧(0:Int)≤100000;decide,fun h=>by omega⟩
  ·exact⟨by show(0:Int)≤8∧(8:Int)≤100000;decide,fun _=>by show(0:Int)<8;decide⟩
 ·obtain⟨m,g,r,q,o⟩:=c i a
  refine⟨by show 0≤(gi N i).d∧(gi N i).d<((1:Nat):Int);omega,?_,by show(0:Int)≤(gi N i).s∧(gi N i).s<(gi N i).e∧(gi N i).e≤8;omega,b i a⟩;rw[m];exact g
theorem c6h(N:List Me)(y:Na)(a:y.Ok)(h:pV thO ⟨[0,8],N,[]⟩):KE ⟨thO,⟨[0,8],N,[]⟩,y⟩ :=
 ⟨c5i,by unfold Ui;rw[if_neg (fun h=>h a2a)];exact h.err,h,a⟩
theorem Y3:KE WR:=c6h _ thY ⟨by decide,by decide,by decide,by decide⟩ (c6l _ (by simp) (fun i c=>by
 have:i=0∨i=1∨i=2:=by
  grind
 rcases this with rfl|rfl|rfl<;>decide) fun i c j d=>by
 have b:i=0∨i=1∨i=2:=by
  grind
 rcases b with rfl|rfl|rfl
 ·omega
 ·obtain rfl:j=0:=by omega
  decide
 ·have a:j=0∨j=1:=by omega
  rcases a with rfl|rfl<;>decide)
theorem b9y:DC thP=[0,4,8]:=by
 refine a1b (Yt (lG _)) (by unfold Inc;simp) fun x=>?_
 unfold DC;rw[Q7,fY];have:UJ thP thP.notes.length=[0,8,0,4,0,4,4,8]:=rfl;grind
theorem mX:Bq WR.p=[⟨0,4,[0,1]⟩,⟨4,8,[2]⟩]:=by
 show Bq thP=_;unfold Bq;rw[b9y];rfl
theorem b1h:DJ WR 0=[0,1]:=by unfold DJ;rw[mX];rfl
theorem a9u:DJ WR 1=[2]:=by unfold DJ;rw[mX];rfl
def thL:List (List Int):=[[0,1,0],[0,1,1],[1,0,0],[1,0,1]]
theorem a0x:∀l∈([[0,0,0],[0,0,1],[0,1,0],[0,1,1],[1,0,0],[1,0,1],[1,1,0],[1,1,1]]:List (List Int)),(MJ WR [0,1] l&&MJ WR [2] l)=decide (l∈thL) :=by decide
theorem xU(l:List Int):l∈KF WR (Bq WR.p).length↔l∈thL:=by
 rw[iU WR Y3,mX];have y:∀l:List Int,(l.length=3∧∀i,i<3→gi l i=0∨gi l i=1)→l∈([[0,0,0],[0,0,1],[0,1,0],[0,1,1],[1,0,0],[1,0,1],[1,1,0],[1,1,1]]:List (List Int)):=by
  rintro l ⟨k,e⟩;obtain⟨a,b,c,rfl⟩:∃a b c,l=[a,b,c]:=by
   match l,k with
   |[a,b,c],_=>simp
  have x:a=0∨a=1:=e 0 (by decide);have u:b=0∨b=1:=e 1 (by decide);have s:c=0∨c=1:=e 2 (by decide);rcases x with rfl|rfl<;>rcases u with rfl|rfl<;>rcases s with rfl|rfl<;>simp
 have g:∀i,i<3→Gj WR i=false:=fun i d=>by
  have:i=0∨i=1∨i=2:=by omega
  rcases this with rfl|rfl|rfl<;>rfl
 constructor
 ·rintro⟨k,e,m⟩
  have j:=y l ⟨k,fun i d=>by
   have:=e i d;grind⟩
  have f:=a0x l j;have q:=m 0 (by decide);have o:=m 1 (by decide);rw[b1h] at q;rw[a9u] at o;grind
 ·intro h
  have j:l∈([[0,0,0],[0,0,1],[0,1,0],[0,1,1],[1,0,0],[1,0,1],[1,1,0],[1,1,1]]:List (List Int)):=by
   simp only[thL,List.mem_cons,List.not_mem_nil,or_false] at h;rcases h with rfl|rfl|rfl|rfl<;>simp
  have f:=a0x l j;rw[decide_eq_true h,cW] at f;refine⟨?_,fun i d=>?_,fun t r=>?_⟩
  ·simp only[thL,List.mem_cons,List.not_mem_nil,or_false] at h
   rcases h with rfl|rfl|rfl|rfl<;>rfl
  ·have d:i<3:=d
   rw[g i d];have:i=0∨i=1∨i=2:=by omega
   simp only[thL,List.mem_cons,List.not_mem_nil,or_false] at h;rcases h with rfl|rfl|rfl|rfl<;>rcases this with rfl|rfl|rfl<;>decide
  ·rcases lt2 r with rfl|rfl
   ·rw[b1h];exact f.1
   ·rw[a9u];exact f.2
theorem b3d:(KF WR (Bq WR.p).length).length=4:=by
 have h:(KF WR (Bq WR.p).length).Perm thL:=(ge (gq WR Y3 (ab _)) (by decide)).2 xU;exact h.length_eq
theorem b8q(l:List Int)(h:Int):JA WR l h 2=(let r0:=V7 thP [0,1] l h 2;let r1:=V7 thP [2] l h 1;let A:=if r0.1=true then [(⟨h,0,r0.2⟩:Pos)] else [];if r1.1=true then A++[⟨h,1,r1.2⟩] else A):=by
 have b:GL WR l h 0=V7 thP [0,1] l h 2:=by unfold GL;rw[b1h];rfl
 have a:GL WR l h 1=V7 thP [2] l h 1:=by unfold GL;rw[a9u];rfl
 unfold JA JA JA;grind
def thC(l:List Int):Int :=
 let P:=fun h:Int=>(let r0:=V7 thP [0,1] l h 2;let r1:=V7 thP [2] l h 1;let A:=if r0.1=true then [(⟨h,0,r0.2⟩:Pos)] else [];if r1.1=true then A++[⟨h,1,r1.2⟩] else A)
 csK (P 0++P 1) ((P 0++P 1).length-1)
theorem nS(l:List Int):QW WR l=thC l:=by
 unfold QW b9p;have:(Bq WR.p).length=2:=by rw[mX];rfl
 rw[this,b8q,b8q];rfl
theorem a8m:thL.map thC=[20,8,8,20] :=by decide
theorem a1y:gZ WR=some [0,1,1]∧QW WR [0,1,1]=8:=by
 have c:=a8m;simp only[thL,List.map_cons,List.map_nil,List.cons.injEq,and_true] at c;obtain⟨f,a,e,d⟩:=c;refine⟨iZ ⟨(xU _).2 (by simp[thL]),fun h b=>?_⟩,by rw[nS,a]⟩;have:=(xU h).1 b;rw[nS,nS,a];simp only[thL,List.mem_cons,List.not_mem_nil,or_false] at this;rcases this with rfl|rfl|rfl|rfl
 ·exact .inl (by decide)
 ·exact LJ _
 ·exact .inr ⟨rfl,by decide⟩
 ·exact .inl (by decide)
theorem XH:Am.Enters Tryz.prog 11:=⟨_,Tryz.func11,by rfl,by rfl⟩
theorem oQ:Am.Enters Tryz.prog 12:=⟨_,Tryz.func12,by rfl,by rfl⟩
theorem Vy:Am.Enters Tryz.prog 9:=⟨_,Tryz.func9,by rfl,by rfl⟩
theorem wV(a b:List Int)(m:a.length<1000000)(j:b.length<1000000):Ak env 21 [.lst 3 (cells a) a.length,.lst 3 (cells b) b.length] (.p (.bool (decide (a=b)))):=by
 by_cases d:a.length=b.length
 ·refine Ak.enter (Af (by decide)) Tryz.func21 rfl (by kernel_rfl) (by simp[Tryz.ntmps21]) ?_
  repeat' (first|refine go1 ?_|(apply Ad.Ac;rfl)|(intro _;try(exfalso;omega)))
  all_goals try(exfalso;omega)
  apply Ad.H8 (a.length) (fun k=>∀i,i<k→gi a i=gi b i) [(0,_),(1,_)] [] (fun k r=>(5,.p (.int .i64 (k:Int)))::r) (fun k r=>r) 0
  ·first|omega|decide
  ·first|omega|decide
  ·exact Qb
  ·exact Tt
  ·first|(intro _ _;omega)|omega|trivial
  ·intro k g c
   by_cases h:gi a k=gi b k
   ·repeat' (first|(apply Aa.Ap;rfl;rfl;rfl;omega;rfl)|refine JD ?_|(apply Ad.Ac;rfl)|(apply Ad.Au;rfl)|(intro _;try(exfalso;omega)))
    all_goals try(exfalso;omega)
    all_goals try contradiction
    refine Ai.normal ⟨(fun i f=>by rcases aq i k with h1|h1;exact c i h1;rw[show i=k by omega];exact h),by first|omega|decide,?_,?_⟩
    ·exact Du
    ·exact Ec
   ·rw[decide_eq_false (fun e=>h (by rw[e]))]
    repeat' (first|(apply Aa.Ap;rfl;rfl;rfl;omega;rfl)|refine JD ?_|(apply Ad.Ac;rfl)|(apply Ad.Au;rfl)|(intro _;try(exfalso;omega)))
    all_goals first|(exfalso;omega)|contradiction|(refine Done.rt rfl rfl ⟨?_,rfl,rfl⟩;try rfl)
  ·intro c
   rw[decide_eq_true (La d c)]
   repeat' (first|refine go1 ?_|(apply Ad.Ac;rfl)|(intro _;try(exfalso;omega)))
   all_goals first|(exfalso;omega)|contradiction|(refine Done.rt rfl rfl ⟨?_,rfl,rfl⟩;try rfl)
 ·rw[decide_eq_false (fun e=>d (by rw[e]))]
  refine Ak.enter (Af (by decide)) Tryz.func21 rfl (by kernel_rfl) (by simp[Tryz.ntmps21]) ?_
  repeat' (first|refine go1 ?_|(apply Ad.Ac;rfl)|(intro _;try(exfalso;omega)))
  all_goals first|(exfalso;omega)|contradiction|(refine Done.rt rfl rfl ⟨?_,rfl,rfl⟩;try rfl)
theorem c9p:Lib.decDigits 4=[52]:=by rw[Lib.decDigits];rfl
theorem pq:I7 env 9 [] (.p (.bool true)):=by
 have e:=a0o;have c:=fD WR Y3 (by show 3≤12;decide);have b:=uG WR Y3 (by show 3≤12;decide);rw[b3d,c9p] at b;have d:V5 WR=.D5 [.p (.agg [.lst 3 (cells ([0,1,1]:List Int)) 3,.int .i64 8]),.p (.int .i64 0)]:=by
  unfold V5;rw[a1y.1];show PV.D5 [.p (.agg [.lst 3 (cells ([0,1,1]:List Int)) 3,.int .i64 (QW WR [0,1,1])]),.p (.int .i64 0)]=_;rw[a1y.2]
 rw[d] at c;have a:=wV [0,1,1] [0,1,1] (by show 3<1000000;decide) (by show 3<1000000;decide);rw[decide_eq_true rfl] at a;refine I7.enter Tryz.func9 rfl (by kernel_rfl) (by kernel_rfl) (by simp[Tryz.ntmps9]) ?_
 repeat' (first|(refine AY.at 1 ?_;apply AY.SV)|(refine AY.at 2 ?_;apply AY.SV)|(apply Ci.fn;rfl;rfl;exact c;exact XH;intro _;rfl)|(apply Ci.fn;rfl;rfl;exact b;exact oQ;intro _;rfl)|(refine Aj.Il 21 ?_;refine Aj.ghost (Aq.freeze 20 rfl rfl) ?_)|apply AY.Bo|apply AY.ret|apply Ci.nil|apply Ci.one|apply Aj.nil|apply Aj.one|(apply Aj.take;rfl;rfl)|(apply Aa.fn;rfl;rfl;exact e;intro _;rfl)|(apply Aa.fn;rfl;rfl;exact a;intro _;rfl)|(apply Aa.assign;rfl)|(apply Aa.move;rfl)|(apply Aa.int;rfl;rfl;rfl)|(apply Aa.load;rfl;rfl)|(apply Aa.Og;rfl;rfl)|(apply Aa.HY;rfl;rfl;rfl)|(apply Aa.alloc;rfl)|(apply Aa.Gl;rfl;rfl;rfl;trivial;rfl;rfl;exact Ba rfl;exact le_dec rfl)|(apply Aa.buildSlice;rfl;rfl;rfl;decide;rfl;rfl;rfl)|(apply Aa.eqS;rfl;rfl)|(apply Aa.extract;rfl;rfl))
 all_goals first|(exfalso;omega)|contradiction|(refine Done.rt rfl rfl ⟨?_,rfl,rfl⟩;try rfl)
end Go.Proofs.YtnjkoebfgcbbdaaGreatDoor
namespace Go.Vm
open Go.Am
variable {E:Env}{n bn:Nat}{L:Frame}{H:Heap}{nx:Nat}
theorem Ci.ofV{ops:Array Oper}{l:List Oper}{R:Frame→Heap→Nat→Prop}(h:Aj E bn ops l L H nx R):Ci E n bn ops l L H nx R:=by
 intro r j B A m F σ t I G C ι P w i T z;obtain⟨f,⟨K,u⟩,U,V,g,W,c,q,O,M,J⟩:=h B A m F σ t I G C;have k:=u K K (ab _) (ab _);have a:=IU (N:=K) r.o r.mix K;have:=OA (rf:=none) (nn:=0) (Q:=T) a l ⟨t,m⟩ f ι P w j k i fun S w' s=>by
  obtain⟨e,x,b⟩:=s;exact z U V g S w' q ⟨f.m,W,c,f.t,e,O,M,J,x,b,fun d y=>QA l _ _ k y⟩
 exact this
end Go.Vm
namespace Go.Proofs.YtnjkoebfgcbbdaaGreatDoor
open Go Go.Am Go.Vm Go.Pie Go.Sch
attribute [local irreducible] Aa Aj Ag Ad AL Ak Bd BL Bl Ai Vm.Done BD AO Qh AY Ci Et I7 Gi Hold
attribute [local irreducible] CJ Bf Eb DW EF A8 Cj
structure Rch where
 a:Nat
 b:Nat
 c:Nat
 d:Nat
def Rch.enc(y:Rch):List FV:=[.int .u8 (y.a:Int),.int .u8 (y.b:Int),.int .u8 (y.c:Int),.int .u8 (y.d:Int)]
structure Rch.Ok(y:Rch):Prop where
 a:y.a<256
 b:y.b<256
 c:y.c<256
 d:y.d<256
theorem a3i{j:Nat}{f:List FV}(h:FX Tryz.prog (j+2) 61 f):∃y:Rch,f=y.enc∧y.Ok:=by
 obtain⟨e,rfl,q⟩:=F7 h Tryz.underlying61;obtain⟨a,b,c,d,rfl,x,u,s,r⟩:=JU q;obtain⟨m1,rfl,m⟩:=EY (j:=j) x;obtain⟨m2,rfl,k⟩:=EY (j:=j) u;obtain⟨m3,rfl,i⟩:=EY (j:=j) s;obtain⟨o,rfl,g⟩:=EY (j:=j) r;exact⟨⟨m1,m2,m3,o⟩,rfl,m,k,i,g⟩
def mkY(y:Rch):Na:=⟨(y.a:Int)%5,(y.b:Int)%16,(y.c:Int)%4,(y.d:Int)%16⟩
noncomputable def mkH(x:gG)(y:Rch):Qu:=⟨eF x.org,mkP x,mkY y⟩
theorem vZ(x:gG)(b:x.Ok)(d:PX x)(y:Rch)(a:y.Ok):Ak env 15 [.agg x.enc,.agg y.enc] (.p (.agg (Enc.enc (mkH x y)))):=by
 have c:=qE x b d;obtain⟨i,g,f,e⟩:=a;unfold mkH mkY;generalize eF x.org=o at *;generalize mkP x=p at *;refine Ak.enter (Af (by decide)) Tryz.func15 rfl (by kernel_rfl) (by simp[Tryz.ntmps15]) ?_
 repeat' (first|(apply Aa.fn;rfl;rfl;exact c;intro _;rfl)|refine Jq ?_|(apply Aa.build;rfl;rfl;rfl;rfl;rfl)|(apply Aa.Io;rfl;rfl;rfl;rfl;omega))
 all_goals first|(exfalso;omega)|(refine Done.rt rfl rfl ⟨?_,rfl,rfl⟩;try rfl)
theorem c3s(x:gG)(e:x.Ok)(f:PX x)(y:Rch):KE (mkH x y):=by
 refine⟨c0j (qA x.org e.org f.1).sm (qA x.org e.org f.1).ok,b6b x e f,b8h x e f,?_,?_,?_,?_⟩
 ·show 0≤(y.a:Int)%5∧(y.a:Int)%5≤10;omega
 ·show 0≤(y.c:Int)%4∧(y.c:Int)%4≤10;omega
 ·show 0≤(y.b:Int)%16∧(y.b:Int)%16≤127;omega
 ·show 0≤(y.d:Int)%16∧(y.d:Int)%16≤127;omega
theorem c6d(x:gG)(a:PX x)(y:Rch):(mkH x y).p.notes.length≤8:=by
 have c:=Qr (eF x.org) (bM x.bars x.bars.length) x.notes x.notes.length;have b:=a.2.2.1;show(Ia (eF x.org) (bM x.bars x.bars.length) x.notes x.notes.length).length≤8;omega
def bf(p:Fe)(N:List Int)(is:Nat→Bool):Nat→List Int
 |0=>[]
 |k+1=>if is (gi N k).toNat=true then bf p N is k++[(gi p.notes (gi N k).toNat).k] else bf p N is k
theorem lH{p:Fe}{N:List Int}{is:Nat→Bool}{x:Int}:∀k,x∈bf p N is k↔∃i,i<k∧is (gi N i).toNat=true∧(gi p.notes (gi N i).toNat).k=x
 |0=>⟨fun h=>(by cases h),fun⟨i,hi,_⟩=>absurd hi (bd _)⟩
 |k+1=>by
  have a:=lH (p:=p) (N:=N) (is:=is) (x:=x) k;unfold bf;grind
theorem a1s{p:Fe}{N:List Int}{is:Nat→Bool}{d:Nat}:∀{k i:Nat},i<k→is (gi N i).toNat=true→(gi p.notes (gi N i).toNat).d=(d:Int)→(gi p.notes (gi N i).toNat).k∈YS p N is d k
 |0,i,hi,_,_=>absurd hi (bd _)
 |k+1,i,hi,h1,h2=>by
  rw[Gv];rcases aq i k with h3|h3
  ·have a:=a1s (p:=p) h3 h1 h2
   grind
  grind
theorem zY(y:Na)(K:List FP):∀n,(hcK y K n).1=true→((∀d,d<n→CW (gi K d)=[])∧(hcK y K n).2=0)∨∃d,d<n∧EH y (CW (gi K d))∧(∀e,e<n→e≠d→CW (gi K e)=[])∧(hcK y K n).2≠0
 |0,_=>.inl ⟨fun d f=>absurd f (bd _),rfl⟩
 |n+1,h=>by
  unfold hcK at h ⊢;by_cases b:CW (gi K n)=[]
  ·rw[if_pos b] at h ⊢
   rcases zY y K n h with⟨a,c⟩|⟨d,a,c,i,g⟩
   ·grind
   grind
  ·rw[if_neg b] at h ⊢
   simp only[Bool.and_eq_true,decide_eq_true_eq] at h;obtain⟨⟨a,c⟩,i⟩:=h;rcases zY y K n a with⟨g,_⟩|⟨d,_,_,_,j⟩
   ·grind
   omega
end Go.Proofs.YtnjkoebfgcbbdaaGreatDoor
namespace Go.Proofs.YtnjkoebfgcbbdaaGreatDoor
open Go Go.Am Go.Vm Go.Pie Go.Sch
structure Hs where
 c:Int
 lo:Int
 hi:Int
 d:Int
def hsB(r:Hs)(n:Me):Hs:=if r.c=0 then⟨r.c,n.k,n.k,n.d⟩ else r
def hsS(r:Hs)(n:Me):Hs:=⟨(hsB r n).c+1,min (hsB r n).lo n.k,max (hsB r n).hi n.k,(hsB r n).d⟩
def hsK(p:Fe)(N l:List Int)(h:Int):Nat→Hs
 |0=>⟨0,0,0,-1⟩
 |k+1=>if gi l (gi N k).toNat=h then hsS (hsK p N l h k) (gi p.notes (gi N k).toNat) else hsK p N l h k
def c7r(p:Fe)(N l:List Int)(h:Int)(k:Nat):Bool:=decide (h<2)&&(decide (gi l (gi N k).toNat=h)&&decide ((gi p.notes (gi N k).toNat).d≠(hsB (hsK p N l h k) (gi p.notes (gi N k).toNat)).d))
def d0m(q:Qu)(N l:List Int)(h:Int):Bool:=decide (Ej (c7r q.p N l h) N.length=-1)&&(decide ((hsK q.p N l h N.length).c≤if h=2 then q.y.fn else q.y.hn)&&decide ((hsK q.p N l h N.length).hi-(hsK q.p N l h N.length).lo≤if h=2 then q.y.fs else q.y.hs))
def c4u(q:Qu)(N l:List Int):Bool:=decide (Ej (fun h=>!d0m q N l (h:Int)) 3=-1)
section
variable {p:Fe}{N l:List Int}{h:Int}
theorem b3l(is:Nat→Bool)(k:Nat):bf p N is (k+1)=if is (gi N k).toNat=true then bf p N is k++[(gi p.notes (gi N k).toNat).k] else bf p N is k:=rfl
end
def Apart(p:Fe)(N:List Int):Prop:=∀i j,i<N.length→j<N.length→i≠j→(gi p.notes (gi N i).toNat).d=(gi p.notes (gi N j).toNat).d→(gi p.notes (gi N i).toNat).k≠(gi p.notes (gi N j).toNat).k
theorem RY{p:Fe}{N:List Int}{is:Nat→Bool}{d:Nat}{x:Int}:∀k,x∈YS p N is d k↔∃i,i<k∧is (gi N i).toNat=true∧(gi p.notes (gi N i).toNat).d=(d:Int)∧(gi p.notes (gi N i).toNat).k=x
 |0=>⟨fun h=>(by cases h),fun⟨i,hi,_⟩=>absurd hi (bd _)⟩
 |k+1=>by
  have a:=RY (p:=p) (N:=N) (is:=is) (d:=d) (x:=x) k;rw[Gv];grind
theorem jv{p:Fe}{N:List Int}(f:Apart p N){is:Nat→Bool}{d:Nat}:∀k,k≤N.length→(YS p N is d k).Nodup
 |0,_=>co
 |k+1,hk=>by
  have g:=jv f (is:=is) (d:=d) k (by omega);rw[Gv];split
  ·rename_i c
   refine cQ.2 ⟨g,by simp,fun a m b j e=>?_⟩;rw[aR] at j;obtain⟨i,r,_,q,o⟩:=(RY k).1 m;exact f i k (by omega) (by omega) (by omega) (by omega) (by omega)
  omega
theorem a1r{p:Fe}{N:List Int}{is:Nat→Bool}{d:Nat}:∀k,(∀i,i<k→is (gi N i).toNat=true→(gi p.notes (gi N i).toNat).d=(d:Int))→YS p N is d k=bf p N is k
 |0,_=>rfl
 |k+1,h=>by
  rw[Gv,b3l,a1r k fun i a=>h i (by omega)];grind
theorem KR{q:Qu}(a:KE q){N:List Int}(c:iF q N){is:Nat→Bool}{d:Nat}(b:d<q.o.Ae.length){x:Int}:x∈CW (gi (Iu q N is) d)↔x∈YS q.p N is d N.length:=by
 unfold Iu;rw[Dy _ b];exact OM (PK a c _ (ab _))
theorem b2n{q:Qu}(a:KE q){N:List Int}(e:iF q N)(c:Apart q.p N){is:Nat→Bool}{d:Nat}(b:d<q.o.Ae.length):(CW (gi (Iu q N is) d)).length=(YS q.p N is d N.length).length:=by
 unfold Iu;rw[Dy _ b];exact oq (PK a e _ (ab _)) (jv c _ (ab _))
theorem a2y{y:Na}{K:List FP}{a:Nat}(b:EH y (CW (gi K a))):∀n,(∀e,e<n→e≠a→CW (gi K e)=[])→(hcK y K n).1=true∧(n≤a→(hcK y K n).2=0)
 |0,_=>⟨rfl,fun _=>rfl⟩
 |n+1,h=>by
  obtain⟨d,c⟩:=a2y b n fun e f=>h e (by omega)
  unfold hcK;grind
theorem b5n{q:Qu}(k:KE q){N:List Int}(m:iF q N)(U:Apart q.p N){l:List Int}{h:Int}:YN q N l h=true↔(∀i j,i<N.length→j<N.length→gi l (gi N i).toNat=h→gi l (gi N j).toNat=h→(gi q.p.notes (gi N i).toNat).d=(gi q.p.notes (gi N j).toNat).d)∧((bf q.p N (hasB l h) N.length).length:Int)≤q.y.hn∧∀x∈bf q.p N (hasB l h) N.length,∀y∈bf q.p N (hasB l h) N.length,x-y≤q.y.hs:=by
 have z:=k.y;obtain⟨O,y2,M,y4⟩:=z;have u:∀i,i<N.length→∃d:Nat,d<q.o.Ae.length∧(gi q.p.notes (gi N i).toNat).d=(d:Int):=fun i b=>by
  have hn:=m i b;have c:=(k.p.note (gi N i).toNat (by omega)).d;exact⟨(gi q.p.notes (gi N i).toNat).d.toNat,by omega,by omega⟩
 have B:∀{d:Nat},d<q.o.Ae.length→CW (gi (Iu q N (hasB l h)) d)=[]→∀i,i<N.length→gi l (gi N i).toNat=h→(gi q.p.notes (gi N i).toNat).d≠(d:Int):=fun c F i b s1 e=>by
  have:=(KR k m c).2 (a1s (is:=hasB l h) b (decide_eq_true s1) e);grind
 have r:∀{d:Nat},d<q.o.Ae.length→(∀i,i<N.length→gi l (gi N i).toNat=h→(gi q.p.notes (gi N i).toNat).d=(d:Int))→(EH q.y (CW (gi (Iu q N (hasB l h)) d))↔((bf q.p N (hasB l h) N.length).length:Int)≤q.y.hn∧∀x∈bf q.p N (hasB l h) N.length,∀y∈bf q.p N (hasB l h) N.length,x-y≤q.y.hs):=fun c a=>by
  have G:=a1r (is:=hasB l h) N.length fun i b s1=>a i b (of_decide_eq_true s1)
  have e2:=b2n k m U (is:=hasB l h) c;unfold EH;rw[aF (NY _) M.1,e2,G];refine and_congr Iff.rfl ⟨fun g x f y z=>?_,fun g x f y z=>?_⟩
  ·exact g x ((KR k m c).2 (by rw[G];exact f)) y ((KR k m c).2 (by rw[G];exact z))
  ·exact g x (by rw[← G];exact(KR k m c).1 f) y (by rw[← G];exact(KR k m c).1 z)
 unfold YN;rw[Rx];constructor
 ·intro T
  rcases zY _ _ _ T with⟨K,_⟩|⟨d,K,X,W,_⟩
  ·have A:∀i,i<N.length→gi l (gi N i).toNat≠h:=fun i b s1=>by
    obtain⟨d,c,e⟩:=u i b;exact B c (K d c) i b s1 e
   have V:bf q.p N (hasB l h) N.length=[]:=by
    refine cj.2 fun x f=>?_
    obtain⟨i,b,g,_⟩:=(lH _).1 f;exact A i b (of_decide_eq_true g)
   rw[V];exact⟨fun i j b _ s1=>absurd s1 (A i b),O.1,fun x f=>absurd f bh⟩
  ·have a:∀i,i<N.length→gi l (gi N i).toNat=h→(gi q.p.notes (gi N i).toNat).d=(d:Int):=fun i b s1=>by
    obtain⟨e,F,g⟩:=u i b;by_cases C:e=d
    ·rw[← C];exact g
    ·exact absurd g (B F (W e F C) i b s1)
   exact⟨fun i j b s s1 s2=>by rw[a i b s1,a j s s2],(r K a).1 X⟩
 ·rintro⟨Z,Y⟩
  by_cases f:∃i,i<N.length∧gi l (gi N i).toNat=h
  ·obtain⟨i,b,s1⟩:=f
   obtain⟨d,c,e⟩:=u i b;have a:∀j,j<N.length→gi l (gi N j).toNat=h→(gi q.p.notes (gi N j).toNat).d=(d:Int):=fun j s s2=>by rw[Z j i s b s2 s1,e]
   refine(a2y ((r c a).2 Y) _ fun e' J R=>?_).1;refine cj.2 fun x f=>?_
   obtain⟨j,s,b1,b2,_⟩:=(RY _).1 ((KR k m J).1 f);have:=a j s (of_decide_eq_true b1);omega
  ·have hn:∀e,e<q.o.Ae.length→CW (gi (Iu q N (hasB l h)) e)=[]:=fun e F=>by
    refine cj.2 fun x I=>?_
    obtain⟨j,s,b1,_⟩:=(RY _).1 ((KR k m F).1 I);exact f ⟨j,s,of_decide_eq_true b1⟩
   have:∀n,n≤q.o.Ae.length→hcK q.y (Iu q N (hasB l h)) n=(true,0):=fun n=>by
    induction n with
    |zero=>exact fun _=>rfl
    |succ n P =>
     intro S;unfold hcK;rw[if_pos (hn n (by omega)),P (by omega)]
   rw[this _ (ab _)]
def sumF(f:Nat→Nat):Nat→Nat
 |0=>0
 |k+1=>sumF f k+f k
theorem Ld{f:Nat→Nat}:∀n,(∀d,d<n→f d=0)→sumF f n=0
 |0,_=>rfl
 |n+1,h=>by
  show sumF f n+f n=0;rw[Ld n fun d a=>h d (by omega),h n (by omega)]
theorem VP{f g:Nat→Nat}{a:Nat}(b:g a=f a+1)(h:∀d,d≠a→g d=f d):∀n,sumF g n=sumF f n+if a<n then 1 else 0
 |0=>by rfl
 |n+1=>by
  have c:=VP b h n;show sumF g n+g n=sumF f n+f n+_;grind
theorem a3q{q:Qu}(B:KE q){t:Nat}(m:t<(Bq q.p).length):Apart q.p (DJ q t):=fun i j u o r y x=>by
 have z:=Jo (q:=q) m;have P:=z i u;have O:=z j o;have A:(DJ q t).Nodup:=by rw[Ub q m];exact TN _ _ _
 have C:gi (DJ q t) i≠gi (DJ q t) j:=fun e=>r (vw A u o e)
 have s1:=(Ue q m (gi (DJ q t) i).toNat).1 (by show((gi (DJ q t) i).toNat:Int)∈_;rw[cJ P.1];exact Di u);have s2:=(Ue q m (gi (DJ q t) j).toNat).1 (by show((gi (DJ q t) j).toNat:Int)∈_;rw[cJ O.1];exact Di o);have f:∀a b:Nat,a<b→b<q.p.notes.length→(gi q.p.notes a).d=(gi q.p.notes b).d→(gi q.p.notes a).k=(gi q.p.notes b).k→(gi q.p.notes a).s<(gi q.p.notes b).e→(gi q.p.notes b).s<(gi q.p.notes a).e→False:=fun a b G F M K J I=>by
  have:=(B.p.note b F).c a G;unfold kM at this;rw[decide_eq_true M,decide_eq_true K,decide_eq_true J,decide_eq_true I] at this;cases this
 rcases aq (gi (DJ q t) i).toNat (gi (DJ q t) j).toNat with g|g
 ·exact f _ _ g s2.1 y x (by omega) (by omega)
 ·exact f _ _ (by omega) s1.1 y.symm x.symm (by omega) (by omega)
def btN(n b i:Nat):Nat:=b / 2^(n-1-i)%2
def btK(q:Qu)(n b:Nat):Nat→List Int
 |0=>[]
 |k+1=>btK q n b k++[if Gj q k=true then 2 else(btN n b k:Int)]
def fnK(q:Qu)(n b:Nat):Nat→Bool
 |0=>true
 |k+1=>if Gj q k=true then fnK q n b k&&decide ((btN n b k:Int)=0) else fnK q n b k
def c7v(q:Qu)(l:List Int):Int:=Ej (fun i=>!c4u q (DJ q i) l) (Bq q.p).length
def c4i(q:Qu):Nat→List (List Int)
 |0=>[]
 |b+1=>if fnK q q.p.notes.length b q.p.notes.length=true∧c7v q (btK q q.p.notes.length b q.p.notes.length)<0 then c4i q b++[btK q q.p.notes.length b q.p.notes.length] else c4i q b
def c5q(f:Nat→Int):Nat→Nat
 |0=>0
 |k+1=>if f (k+1)<f (c5q f k) then k+1 else c5q f k
end Go.Proofs.YtnjkoebfgcbbdaaGreatDoor
