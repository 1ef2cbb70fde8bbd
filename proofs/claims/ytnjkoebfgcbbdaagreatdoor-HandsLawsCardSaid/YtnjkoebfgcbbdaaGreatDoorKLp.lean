/-
  Texts of a proof, merged (Wm4, HanM, Vm45, HanQ, Wm5, HanN, HanS). Conditions: in each statement.
-/
import Derived.Test.YtnjkoebfgcbbdaaGreatDoorKLo
set_option linter.unusedSimpArgs false
set_option linter.unusedVariables false
set_option linter.unusedSectionVars false
set_option maxRecDepth 100000
set_option maxHeartbeats 8000000
abbrev cX:=@List.foldl_append
abbrev gC:=@List.flatMap_singleton
abbrev gT:=@List.map_eq_nil_iff
abbrev hX:=@List.flatMap_append
namespace Go.Vm
section
open Go.Am
variable {E:Env} {n bn:Nat} {L:Frame} {H:Heap} {nx:Nat}
def Ie (E:Env) (g:FuncId) (xs:List FV) (r:PV):Prop:=FP E g (xs.map .p) [] 0 fun r' H' nx'=>r'=r∧H'=[]∧nx'=0
theorem Ie.enter {f:FuncId} {fn:Func} {c:Code} {xs:List FV} {r:PV} (hf:E.P.funcs[f]?=some fn) (hb:fn.body=some c) (hok:Iz E.G fn c=true) (hfl:flat c=true) (hn:xs.length≤fn.ntmps)
 (h:AX E fn.ntmps 0 c (Ci 0 (xs.map .p)) [] 0 (Done E.P fn.results.toList 0 fun r' H' nx'=>r'=r∧H'=[]∧nx'=0)):Ie E f xs r:=FP.enter hf hb hok hfl (by grind) h
theorem BD.yF {ops:Array Oper} {l:List Oper} {R:Frame→Heap→Nat→Prop} {dst:Option Tmp} {ty:TypeId} {pos:String} {af:Array Edge} {fo:Operand} {args:Array Operand} {aT:Array TypeId} {g:FuncId} {xs:List FV} {Qc:PV→Heap→Nat→Prop}
 (hent:Enters E.P g) (hf:AU E.Γ L fo=some (.clo g [] [])) (ha:evF E.Γ L args.toList=some xs) (hc:FP E g (xs.map .p) [] 0 Qc)
 (hq:∀ r H' nx',Qc r H' nx'→BD E n bn ops l (Hu L dst (r.rn (rho [] nx))) (news 0 (rho [] nx) H' H) (nx+nx') R):BD E n bn ops (⟨dst,.call { callee:=.value fo,args:=args,argTypes:=aT },ty,pos,af,none⟩::l) L H nx R:=by
 refine BD.ZL (ns:=[]) (Hc:=[]) (Bq:=xs.map .p) (ac:=xs.map .p) hent hf (Yf ha) ?_ (CS.Bg _ _) trivial trivial cC (by simp) hc fun r H' nx' q=>?_
 ·rw [CS.kC,fc,cJ];exact .refl _
 ·rw [Q5];grind
theorem BD.fn {ops:Array Oper} {l:List Oper} {R:Frame→Heap→Nat→Prop} {dst:Option Tmp} {ty:TypeId} {pos:String} {af:Array Edge} {fo:Operand} {args:Array Operand} {aT:Array TypeId} {g:FuncId} {xs:List FV} {r:PV}
 (hf:AU E.Γ L fo=some (.clo g [] [])) (ha:evF E.Γ L args.toList=some xs) (hc:Ie E g xs r) (hent:Enters E.P g) (hr:∀ ρ,r.rn ρ=r) (q:BD E n bn ops l (Hu L dst r) H nx R):BD E n bn ops (⟨dst,.call { callee:=.value fo,args:=args,argTypes:=aT },ty,pos,af,none⟩::l) L H nx R :=
 BD.yF hent hf ha hc fun r' H' nx' ⟨h1,h2,h3⟩=>by subst h1;subst h2;subst h3;rw [hr];exact q
theorem AX.Fq {b:Code} {Q:BM→Frame→Heap→Nat→Prop} (N:Nat) (L0:Frame) (H0:Heap) (Lf:Nat→Frame→Frame) (Hf:Nat→Heap→Heap) (Dp:Nat) (hb:bn≤Dp) (hn:Dp≤nx) (h1:Gf Dp (Lf 0 L0) L) (h2:BJ Dp (Hf 0 H0) H)
 (hs:∀ k,k<N→AX E n bn b (Lf k L0) (Hf k H0) Dp (Ag (fun L' H' nx'=>Dp≤nx'∧Gf Dp (Lf (k+1) L0) L'∧BJ Dp (Hf (k+1) H0) H') Q))
 (he:AX E n bn b (Lf N L0) (Hf N H0) Dp (Ag (fun _ _ _=>False) Q)):AX E n bn (.loop b) L H nx Q :=
 AX.DJ (fun k=>Lf k L0) (fun k=>Hf k H0) Dp (fun k=>k≤N) (fun k=>N-k) 0 hb (an _) ⟨hn,h1,h2⟩ fun k hk=>by
  rcases aq k N with h|h
  ·refine (hs k h).mono fun e L' H' nx' q=>?_
   cases e with
   |normal=>exact ⟨k+1,h,by omega,⟨q.1,q.2.1,q.2.2⟩⟩
   |ret=>exact q
   |exit i=>exact q
  grind
end
section
open Go.Am Go.ChangeShapes Go.WideShapes Go.ChangeAt Go.WideMaps Go.WideElems
variable {P:Program} {H:Type} {enc:TypeId×Value→H} {W:World} {held:Bool}
theorem c1m {r:Go.Reach} {b0 F:Nat} {laid:List (String×DataW Unit)} {O:Cc} {f:FuncId} {ts:List TypeId} {args:Array Value} {ds:List (DataW H)} {ps:List MemPlace}
 (hL:laidMet P laid W) (hA:DataW.TrodAll enc P W 0 (fun _=>true) held ts args.toList ds ps) (hv:∀ (j:Nat) t v,ts[j]?=some t→args.toList[j]?=some v→Value.okWide P W r b0 t v)
 (oI:P.follows .mixedOrders=true) (hty:ts.all (VF P F)=true)
 (hO:F9 P (AO P F laid) O)
 (hp:∀ j wP xs,a5j P (j+F) ts wP→GU (fun (tf:TypeId×List FV) x=>Xt P tf.1 tf.2=some x) (ts.zip wP) xs→Ie (EM P F laid O) f xs (.p (.bool true))) :
 Calls P f args W fun e W'=>e=.returned (.bool true)∧Go.RowKit.Below W.heap.size W W':=by
 obtain ⟨N,hN⟩:=a7k ts _ ds ps hA;obtain ⟨j,hj⟩:∃ j,max N F=j+F:=⟨max N F-F,by omega⟩
 obtain ⟨Bq,m1,wP,xs,q1,q2,q3,q4,q5,q6⟩:=Vo ts _ ds (fun t ht=>yQ (by omega) (aD.1 hty t ht)) (hN (max N F) (by omega)) (Bl P F laid);rw [hj] at q2;have X6:Ctx (EM P F laid O).Γ m1 (fun c=>c<m1.size) (fun _=>undef) [] 0:=by
  refine ⟨fun _ h=>h,fun b x hb=>(by cases hb),fun b b' x x' c hb=>(by cases hb),fun g vs e hg=>?_⟩;simp only [EM,gam] at hg;split at hg
  ·rename_i hlt
   simp only [Option.map_eq_some_iff,Prod.mk.injEq] at hg;obtain ⟨⟨e',l⟩,h1,rfl,rfl⟩:=hg;have hlt':g<(Bl P F laid).size:=by rw [U7];exact hlt
   exact ⟨by omega,by rw [q6 g hlt',Ik hlt,h1],TJ h1⟩
  ·cases hg
 obtain ⟨ι,hs,hro⟩:=iK (F:=F) hL;obtain ⟨ι1,o1,o2,o3,o4⟩:=Vr ts _ ds ps hA hv ι _ m1 Bq hs hro q1;refine (hp j wP xs q2 q3 ⟨hO,oI⟩ m1 _ _ Bq X6 (Dj.pV q4) ι1 W args o1 o4).mono fun e W' ⟨v',he,r0,H',nx',m',F',σ',v,ι2,hq,_,hrv,_,hx,hs2,O5⟩=>?_
 obtain ⟨rfl,_,_⟩:=hq;have hv1:v=.bool true:=by cases hrv with|p h=>cases h;rfl
 subst hv1;have:=O5.BN (v:=.bool true) rfl;subst this;exact ⟨he,⟨hx.os,hx.tape,hx.output,hx.heap,fun c hcl=>hx.frame c hcl fun b ib hb _=>.inl (o3 b (o1.dom b ib hb).1)⟩⟩
end
section
open Go.Am
theorem Aa.b2j {E:Env} {L:Frame} {H:Heap} {nx:Nat} {Q:PV→Heap→Nat→Prop} {w:Bool} {dst:Option Tmp} {ty:TypeId} {pos:String} {af:Array Edge} {gd:Option (Nat×Bool)} {α:Type} {_:Enc α} {t:TypeId} {x ix:Operand} {e:TypeId} {l:List α} {b n j:Nat} {z:Bool} {k:IntKind} {i:Nat} (hx:AU E.Γ L x=some (.vec b n 0 j)) (hb:hget H b=some (.vec e (cells l) n z)) (hi:AU E.Γ L ix=some (.p (.int k (i:Int))))
 (hs:elemSize E.P t=some (Enc.size α)) (h1:i<j) (q:Q (.FB b n (i*Enc.size α)) H nx):Aa E w ⟨dst,.indexAddr t x ix,ty,pos,af,gd⟩ L H nx Q :=
 Aa.a8c hx hb hi hs (by omega) (by omega) (by grind)
end
section
open Go.Am
def Hold (p:Prop):Prop:=p
theorem Hold.of {p:Prop} (h:Hold p):p:=h
theorem Hold.go {p:Prop} (h:p):Hold p:=h
theorem BD.HY {E:Env} {n bn:Nat} {L:Frame} {H:Heap} {nx:Nat} {ops:Array Oper} {l:List Oper} {R:Frame→Heap→Nat→Prop} {op:Op} {ty:TypeId} {pos:String} {af:Array Edge} (d:Tmp) (h:BD E n bn ops (⟨some d,op,ty,pos,af,none⟩::l) L H nx R):BD E n bn ops (⟨some d,op,ty,pos,af,none⟩::l) L H nx R:=h
end
end Go.Vm
namespace Go.Proofs.YtnjkoebfgcbbdaaGreatDoor
open Go Go.Am Go.Vm Go.Pie Go.Sch
attribute [local irreducible] Aa Aj Ah Ad AP Ap Bd BL Bf Ag Vm.Done BA AB OT AX BD DW Ie FP Hold
attribute [local irreducible] Ce Ba DV DN En AZ CB
def FQ (O:List (List Int)) (m:Nat) (j:Nat):List (List Int):=O++(O.take j).map fun x=>x.set m 1
theorem a1t (O:List (List Int)) (m:Nat):FQ O m 0=O:=by simp [FQ]
theorem a4a (O:List (List Int)) (m:Nat):FQ O m O.length=O++O.map fun x=>x.set m 1:=by simp [FQ]
theorem iG (O:List (List Int)) (m:Nat) {j:Nat} (h:j<O.length):FQ O m (j+1)=FQ O m j++[(gi O j).set m 1]:=by
 unfold FQ;rw [DX h,bl,← bR];rfl
theorem o9 (O:List (List Int)) (m:Nat) {j:Nat} (h:j≤O.length):(FQ O m j).length=O.length+j:=by
 unfold FQ;grind
theorem b2u (O:List (List Int)) (m j:Nat) {i:Nat} (h:i<O.length):gi (FQ O m j) i=gi O i:=by
 unfold FQ gi;grind
def ow (L:List (List Int)):List OwL:=L.map OwL.mk
theorem xB (L:List (List Int)):(ow L).length=L.length:=by simp [ow]
theorem VN (L R:List (List Int)):ow (L++R)=ow L++ow R:=by simp [ow]
theorem b3q (L:List (List Int)) {i:Nat} (h:i<L.length):gi (ow L) i=⟨gi L i⟩:=by
 unfold ow gi;grind
theorem cells_at (l:List Int) {i:Nat} (h:i<l.length):(cells l)[i]?=some (.int .i64 (gi l i)):=by
 have:∀ l:List Int,cells l=l.map fun x=>FV.int .i64 x:=by
  intro l
  induction l with
  |nil=>rfl
  |cons a l ih=>rw [bx,← ih];rfl
 unfold gi;grind
theorem yV (L:List (List Int)) (m j:Nat):(cells (ow (FQ L m j))).take (L.length*1)=cells (ow L):=by
 have h:∀ R:List OwL,cells R=R.map fun x=>FV.own 3 (cells x.l) x.l.length:=by
  intro R
  induction R with
  |nil=>rfl
  |cons a l ih=>rw [bx,← ih];rfl
 unfold FQ;rw [VN,h,h,bl,gz,List.take_append_of_le_length (by simp [ow]),cV (by simp [ow])]
theorem a3j (q:Qu) (hq:Jy q) {t:Nat} (ht:t<(A8 q.p).length) {l:List Int} (hl:a2v q t l) {k:Nat} (hk:k<kQ q t) (hn:MJ q t k=true) {x:List Int} (hx:x∈FK (MJ q t) (fQ q t) l k):x.length=q.p.notes.length∧gi x (fQ q t k)=0:=by
 have hS:=Xl q hq;have hll:=hl.len;have hr:=hS.rng t ht k hk;have hm:=(MP (nw:=MJ q t) (f:=fQ q t) (l:=l) k (fun j j' h h'=>hS.inj t ht j j' (by omega) (by omega)) (fun j hj=>by rw [hll];exact hS.rng t ht j (by omega)) (fun j hj=>hl.zero j (by omega)) x).1 hx;refine ⟨hm.1.trans hll,?_⟩;rw [(hm.2 _ (by omega)).2 fun ⟨j,h1,_,h3⟩=>by
  have:=hS.inj t ht j k (by omega) hk h3;omega]
 exact hl.zero k hk hn
theorem a2z (q:Qu) (hq:Jy q) {t:Nat} (ht:t<(A8 q.p).length) {l:List Int} (hl:a2v q t l) {x:List Int} (hx:x∈FK (MJ q t) (fQ q t) l (kQ q t)):x.length=q.p.notes.length:=by
 have hS:=Xl q hq;have hll:=hl.len;have hm:=(MP (nw:=MJ q t) (f:=fQ q t) (l:=l) (kQ q t) (hS.inj t ht) (fun j hj=>by rw [hll];exact hS.rng t ht j hj) hl.zero x).1 hx;omega
theorem b4a:∀ L:List (List Int),Ji (cells (ow L)) (cells L)
 |[]=>.refl _
 |a::L=>.cons .own (b4a L)
theorem b2f {L:Vm.Frame} {H:Vm.Heap} {nx:Nat} {Q:PV→Vm.Heap→Nat→Prop} {dst:Option Tmp} {ty:TypeId} {pos:String} {af:Array Edge} {gd:Option (Nat×Bool)} {fo:Operand} {args:Array Operand} {aT:Array TypeId} {fs cs xs:List PV} {c:Code}
 (hf:AU env.Γ L fo=some (.clo 88 fs cs)) (ha:evs env.Γ L args.toList=some xs) (hb:Tryz.f88.body=some c) (hn:(fs++xs++cs).length≤Tryz.f88.ntmps)
 (h:Ad env nx c (Ci 0 (fs++xs++cs)) H nx (AB env.P Tryz.f88.results.toList Q)):Aa env true ⟨dst,.call { callee:=.value fo,args:=args,argTypes:=aT },ty,pos,af,gd⟩ L H nx Q:=by
 have h0:(match Tryz.f88.body with|some c=>Iz env.G Tryz.f88 c|none=>false)=true:=by kernel_rfl
 rw [hb] at h0;exact Aa.inline rfl hf ha (Ae (by decide)) Tryz.func88 hb h0 hn h
theorem b1r {L:Vm.Frame} {H:Vm.Heap} {nx:Nat} {Q:PV→Vm.Heap→Nat→Prop} {dst:Option Tmp} {ty:TypeId} {pos:String} {af:Array Edge} {gd:Option (Nat×Bool)} {fo:Operand} {args:Array Operand} {aT:Array TypeId} {fs cs xs:List PV} {c:Code}
 (hf:AU env.Γ L fo=some (.clo 127 fs cs)) (ha:evs env.Γ L args.toList=some xs) (hb:Tryz.f127.body=some c) (hn:(fs++xs++cs).length≤Tryz.f127.ntmps)
 (h:Ad env nx c (Ci 0 (fs++xs++cs)) H nx (AB env.P Tryz.f127.results.toList Q)):Aa env true ⟨dst,.call { callee:=.value fo,args:=args,argTypes:=aT },ty,pos,af,gd⟩ L H nx Q:=by
 have h0:(match Tryz.f127.body with|some c=>Iz env.G Tryz.f127 c|none=>false)=true:=by kernel_rfl
 rw [hb] at h0;exact Aa.inline rfl hf ha (Ae (by decide)) Tryz.func127 hb h0 hn h
theorem Ub (q:Qu) (hq:Jy q) (t:Nat) (ht:t<(A8 q.p).length) (hM:kQ q t≤12) (l:List Int) (hl:a2v q t l) :
 Ie env 41 [.agg (Enc.enc q),.agg (Enc.enc (MZ q t)),.lst 3 (cells l) l.length] (.p (.lst 28 (cells (kE q t l)) (kE q t l).length)):=by
 have n1:=hq.p.notes;have hll:=hl.len;have hcl:=pR l (by omega);have hN:dH q (MZ q t).notes:=KZ ht;have hNl:(MZ q t).notes.length≤1000:=Tc hq ht;have hm:=U3 q hq (MZ q t) hN hNl;have hat:=fun j hj=>NH q ht (j:=j) hj
 have hK:kQ q t=(Ja q (MZ q t).notes).length:=rfl;have hnw:∀ j,MJ q t j=b0f q (MZ q t) (gi (Ja q (MZ q t).notes) j):=fun j=>rfl
 have hMg:Ja q (IY q t)=Ja q (MZ q t).notes:=rfl;rw [hMg] at hat;have hzero:=hl.zero;unfold kE xI;rw [hK] at hat hM hzero ⊢;have hOl:∀ k,k≤(Ja q (MZ q t).notes).length→1≤(FK (MJ q t) (fQ q t) l k).length∧(FK (MJ q t) (fQ q t) l k).length≤4096:=fun k hk=>by
  obtain ⟨g1,g2⟩:=ZM (MJ q t) (fQ q t) l k;exact ⟨g1,am g2 (az (by decide) (show k≤12 by omega))⟩
 have hOx:∀ k,k<(Ja q (MZ q t).notes).length→MJ q t k=true→∀ j,j<(FK (MJ q t) (fQ q t) l k).length→(gi (FK (MJ q t) (fQ q t) l k) j).length=q.p.notes.length∧gi (gi (FK (MJ q t) (fQ q t) l k) j) (fQ q t k)=0:=fun k hk hn j hj=>a3j q hq ht hl hk hn (Es hj)
 have b9r:∀ x∈FK (MJ q t) (fQ q t) l (Ja q (MZ q t).notes).length,x.length=q.p.notes.length:=fun x hx=>a2z q hq ht hl hx
 generalize Ja q (MZ q t).notes=M at *;refine Ie.enter Tryz.func41 rfl (by kernel_rfl) (by kernel_rfl) (by simp [Tryz.ntmps41]) ?_
 repeat' (first|apply AX.Bz|apply AX.to|apply AX.block|(apply Aa.fn;rfl;rfl;exact hcl;intro _;rfl)|(apply Aa.fn;rfl;rfl;exact hm;intro _;rfl)|refine go2 ?_|(apply Aa.buildSlice;rfl;rfl;rfl;decide;rfl;rfl;rfl))
 all_goals try (exfalso;omega)
 apply AX.Fq (M.length) [(3,_),(4,_),(18,_),(19,_)] [(0,_),(1,_)] (fun k r=>(20,.p (.int .i64 (k:Int)))::(7,.vec 2 (FK (MJ q t) (fQ q t) l k).length 0 (FK (MJ q t) (fQ q t) l k).length)::r) (fun k r=>(2,.vec 28 (cells (ow (FK (MJ q t) (fQ q t) l k))) (FK (MJ q t) (fQ q t) l k).length false)::r) 3
 ·first|omega|decide
 ·first|omega|decide
 ·exact Nl
 ·exact O7
 ·intro k hk
  obtain ⟨m,g1,g2,g3,g4,g5⟩:=hat k hk;have hOk:=hOl k (by omega);have c0r:=hOx k hk;have e1:FK (MJ q t) (fQ q t) l (k+1)=if MJ q t k=true then FK (MJ q t) (fQ q t) l k++(FK (MJ q t) (fQ q t) l k).map (fun x=>x.set (fQ q t k) 1) else FK (MJ q t) (fQ q t) l k:=rfl
  have hnk:=hnw k;rw [g2] at e1 c0r;rw [g1] at hnk;rw [e1];clear hOx hOl;generalize FK (MJ q t) (fQ q t) l k=O at *;by_cases hn:(gi q.p.notes m).s=(MZ q t).s
  ·have hn1:MJ q t k=true:=by rw [hnk];exact decide_eq_true hn
   rw [if_pos hn1];have hOx:=c0r hn1
   repeat' (first|apply AX.Bz|apply AX.Cm|apply DW.normal|apply AX.to|apply AX.block|apply AX.skip|(apply AX.Ar;rfl)|(apply Aa.Ak (l:=q.p.notes) (i:=m);rfl;exact congrArg (fun b=>some (PV.p (.int .i64 b))) g1;rfl;omega;rfl)|(apply Aa.Ak;rfl;rfl;rfl;omega;rfl)|(apply Aa.lenV;rfl;rfl;rfl)|refine go2 ?_|(apply Aa.int;rfl;rfl;rfl)|(intro _;try (exfalso;omega)))
   all_goals try (exfalso;omega)
   all_goals try contradiction
   refine AX.DJ (fun s:Nat×Bool=>[(3,.ref 0 0),(4,.ref 1 0),(18,.p (.lst 3 (cells M) M.length)),(19,.p (.int .i64 (M.length:Int))),(20,.p (.int .i64 (k:Int))),(9,.p (.int .i64 (gi M k))),(34,bif s.2 then .vec 2 (O.length+s.1) 0 O.length else .p (.lst 28 (cells (ow O)) O.length)),(35,.p (.int .i64 (O.length:Int))),(36,.p (.int .i64 (s.1:Int))),(7,.vec 2 (O.length+s.1) 0 (O.length+s.1))])
    (fun s=>[(0,dG q),(1,slB (MZ q t)),(2,.vec 28 (cells (ow (FQ O m s.1))) (O.length+s.1) false)]) 3 (fun s=>s.1≤O.length) (fun s=>O.length-s.1) (0,true) (by decide) (an _) ⟨by decide,?_,?_⟩ ?_
   ·exact C9
   ·simp only [a1t]
    exact DT
   rintro ⟨j,att⟩ hj;simp only at hj ⊢;by_cases hjl:j<O.length
   ·obtain ⟨x1,x2⟩:=hOx j hjl
    have hgj:gi (ow (FQ O m j)) j=⟨gi O j⟩:=by rw [b3q _ (by rw [o9 O m (by omega)];omega),b2u _ _ _ hjl]
    have hgo:gi (ow O) j=⟨gi O j⟩:=b3q _ hjl;have b0y:=XI (gi O j) (by omega) (by omega);have hz:(cells (gi O j))[m]?=some (.int .i64 0):=by rw [cells_at _ (by omega),x2]
    have hlr:=o9 O m (j:=j) (by omega);have c7u:=xB O;have hroom:(ow (FQ O m j)).length=O.length+j:=by rw [xB,hlr]
    cases att
    ·have hy:gi O j=(gi (ow O) j).l:=by rw [hgo]
     have e2:ow (FQ O m (j+1))=ow (FQ O m j)++[⟨(gi (ow O) j).l.set m 1⟩]:=by rw [iG O m hjl,VN,← hy];rfl
     rw [hy] at b0y hz x1
     repeat' (first|(refine AX.at 10 ?_;apply AX.I5)|(refine AX.atEnd 11 ?_;refine AX.ghost (Aw.QZ 12 rfl rfl) ?_;first|apply AX.region|apply AX.Fg)|(refine Aj.HY 41 ?_;refine Aj.ghost (Aw.le 40 (v0:=.p (.lst 3 (cells (gi (ow O) j).l) (gi (ow O) j).l.length)) rfl (.p .own)) ?_)|((apply BD.sJ (i:=m);rfl;exact congrArg (fun b=>some (PV.p (.int .i64 b))) g1;rfl;omega;exact hz;rfl;rfl;rfl))|apply AX.Bz|apply AX.region|apply DW.normal|apply AX.to|apply AX.block|apply AX.skip|(apply AX.Ar;rfl)|apply BD.nil|apply BD.one|apply Bf.normal|apply Aj.nil|apply Aj.one|(apply Aa.Ak (l:=ow O) (i:=j);rfl;rfl;rfl;omega;exact xB O)|(apply Aa.Dc (l:=ow (FQ O m j)) (a:=OwL.mk ((gi (ow O) j).l.set m 1));rfl;rfl;rfl;rfl;exact congrArg (fun n=>[FV.own 3 (cells ((gi (ow O) j).l.set m 1)) n]) List.length_set.symm;exact hroom;rfl;rfl;(intro _ h;cases h);rfl;rfl;rfl;decide;decide;omega)|(apply Aa.fv;rfl;rfl;exact b0y)|(apply Aa.D5 (l:=(gi (ow O) j).l) (i:=m);rfl;rfl;exact congrArg (fun b=>some (PV.p (.int .i64 b))) g1;rfl;omega)|(apply Aa.Ko (l:=(gi (ow O) j).l) (i:=m) (y:=(1:Int));rfl;rfl;rfl;trivial;rfl;rfl;rfl;decide;omega)|(apply Aa.assign;rfl)|(apply Aa.move;rfl)|(apply Aa.LQ;rfl;rfl;omega)|(apply Aa.int;rfl;rfl;rfl)|(apply Aa.load;rfl;rfl)|(apply Aa.buildSlice;rfl;rfl;rfl;decide;rfl;rfl;rfl)|(intro _;try (exfalso;omega)))
     all_goals try (exfalso;omega)
     have e3:O.length+(j+1)=(ow (FQ O m j)).length+1:=by omega
     refine Ag.normal ⟨(j+1,false),by show j+1≤O.length;omega,by show O.length-(j+1)<O.length-j;omega,⟨by decide,?_,?_⟩⟩
     ·dsimp only
      rw [e3];exact C9
     ·dsimp only
      rw [e3,e2];exact DT
    ·have hy:gi O j=(gi (ow (FQ O m j)) j).l:=by rw [hgj]
     have e2:ow (FQ O m (j+1))=ow (FQ O m j)++[⟨(gi (ow (FQ O m j)) j).l.set m 1⟩]:=by rw [iG O m hjl,VN,← hy];rfl
     rw [hy] at b0y hz x1;have e4:cells (ow (FQ O m (j+1)))=cells (ow (FQ O m j))++[FV.own 3 (cells ((gi (ow (FQ O m j)) j).l.set m 1)) (gi (ow (FQ O m j)) j).l.length]:=by
      rw [e2,FH];refine congrArg (fun x=>cells (ow (FQ O m j))++x) ?_;show [FV.own 3 (cells ((gi (ow (FQ O m j)) j).l.set m 1)) ((gi (ow (FQ O m j)) j).l.set m 1).length]=_;rw [cH]
     repeat' (first|(refine AX.at 10 ?_;apply AX.I5)|(refine Aj.HY 41 ?_;refine Aj.ghost (Aw.le 40 (v0:=.p (.lst 3 (cells (gi (ow (FQ O m j)) j).l) (gi (ow (FQ O m j)) j).l.length)) rfl (.p .own)) ?_)|((refine AX.atEnd 11 ?_;refine AX.ghost (Aw.QZ 12 rfl rfl) ?_;apply AX.lZ))|((refine BD.HY 51 ?_;refine Hold.of ?_))|((apply BD.sJ (i:=m);rfl;exact congrArg (fun b=>some (PV.p (.int .i64 b))) g1;rfl;omega;exact hz;rfl;rfl;rfl))|apply AX.Bz|apply DW.normal|apply AX.to|apply AX.block|apply AX.skip|(apply AX.Ar;rfl)|apply BD.nil|apply BD.one|apply Aj.nil|apply Aj.one|(apply Aa.b2j (l:=ow (FQ O m j)) (i:=j);rfl;rfl;rfl;rfl;omega)|(apply Aa.PO (l:=ow (FQ O m j)) (i:=j);rfl;rfl;omega;rfl)|(apply Aa.fv;rfl;rfl;exact b0y)|(apply Aa.D5 (l:=(gi (ow (FQ O m j)) j).l) (i:=m);rfl;rfl;exact congrArg (fun b=>some (PV.p (.int .i64 b))) g1;rfl;omega)|(apply Aa.Ko (l:=(gi (ow (FQ O m j)) j).l) (i:=m) (y:=(1:Int));rfl;rfl;rfl;trivial;rfl;rfl;rfl;decide;omega)|(apply Aa.assign;rfl)|(apply Aa.move;rfl)|(apply Aa.int;rfl;rfl;rfl)|(apply Aa.buildSlice;rfl;rfl;rfl;decide;rfl;rfl;rfl)|(intro _;try (exfalso;omega)))
     all_goals try (exfalso;omega)
     refine Hold.go ?_;refine BD.b2v (r:=34) (i:=_) (k:=1) (xs:=[FV.own 3 (cells ((gi (ow (FQ O m j)) j).l.set m 1)) (gi (ow (FQ O m j)) j).l.length]) (j:=O.length) (N:=O.length+j) rfl rfl ?_ rfl ?_ ?_ rfl rfl (by intro _ h;cases h) rfl rfl (by decide) ?_ ?_ (by decide) ?_ ?_
     ·refine pW.all rfl rfl ?_
      rfl
     ·omega
     ·omega
     ·exact kT (by omega) (by decide)
     ·rw [CZ,hroom];rfl
     ·repeat' (first|apply AX.region|apply DW.normal|apply BD.nil|apply BD.one|refine go2 ?_|fail)
      refine Ag.normal ⟨(j+1,true),by show j+1≤O.length;omega,by show O.length-(j+1)<O.length-j;omega,⟨by decide,?_,?_⟩⟩
      ·dsimp only
       try rw [← yV O m j]
       exact C9
      ·dsimp only
       rw [e4];exact DT
     ·repeat' (first|apply AX.region|apply DW.normal|apply BD.nil|apply BD.one|refine go2 ?_|fail)
      refine Ag.normal ⟨(j+1,false),by show j+1≤O.length;omega,by show O.length-(j+1)<O.length-j;omega,⟨by decide,?_,?_⟩⟩
      ·dsimp only
       try rw [← yV O m j]
       exact C9
      ·dsimp only
       rw [e4];exact DT
   ·have hje:j=O.length:=by omega
    have e5:(O++O.map (fun x=>x.set m 1)).length=O.length+O.length:=by simp
    subst hje
    repeat' (first|apply AX.Bz|apply AX.region|apply DW.normal|apply DW.exit|apply AX.to|apply AX.exit|(apply AX.Ar;rfl)|refine IG ?_|(intro _;try (exfalso;omega)))
    all_goals try (exfalso;omega)
    refine Ag.normal ⟨by decide,?_,?_⟩
    ·rw [e5]
     exact C9
    ·rw [e5,← a4a]
     exact DT
  ·have hn1:¬ MJ q t k=true:=by rw [hnk];exact fun h=>hn (of_decide_eq_true h)
   rw [if_neg hn1]
   repeat' (first|apply AX.Bz|apply AX.Cm|apply AX.region|apply DW.normal|apply DW.exit|apply AX.to|apply AX.block|apply AX.skip|apply AX.exit|(apply AX.Ar;rfl)|(apply Aa.Ak (l:=q.p.notes) (i:=m);rfl;exact congrArg (fun b=>some (PV.p (.int .i64 b))) g1;rfl;omega;rfl)|(apply Aa.Ak;rfl;rfl;rfl;omega;rfl)|refine go2 ?_|(apply Aa.int;rfl;rfl;rfl)|(intro _;try (exfalso;omega)))
   all_goals try (exfalso;omega)
   all_goals try contradiction
   refine Ag.normal ⟨by first|omega|decide,?_,?_⟩
   ·exact C9
   ·exact DT
 ·have hOk:=hOl M.length (ab _)
  have c3s:∀ i,i<(FK (MJ q t) (fQ q t) l M.length).length→(gi (FK (MJ q t) (fQ q t) l M.length) i).length=q.p.notes.length:=fun i hi=>b9r _ (Es hi)
  clear hOl hOx;generalize FK (MJ q t) (fQ q t) l M.length=O at *;have hC:∀ i,i<O.length→Eh env 89 ([.p (.lst 3 (cells (gi O i)) (gi O i).length)]++[.ref 0 0,.ref 1 0]) [(0,dG q),(1,slB (MZ q t))] 2 (.bool (!WM q t (gi O i))):=fun i hi=>dA q hq _ hN hNl (gi O i) (c3s i hi)
  unfold dG slB at hC;generalize hP:WM q t=P at *
  repeat' (first|(refine AX.at 14 ?_;refine AX.ghost (Aw.b9h 2 (cells O) rfl (b4a O)) ?_;first|apply AX.Bz|apply AX.Cm)|apply AX.Bz|apply DW.normal|apply DW.exit|apply AX.to|apply AX.exit|(apply AX.Ar;rfl)|(apply Aa.makeFunc;rfl;rfl)|(apply b2f;rfl;rfl;rfl;exact le_dec rfl)|(apply b1r;rfl;rfl;rfl;exact le_dec rfl)|(apply Aa.lenV;rfl;rfl;rfl)|refine go1 ?_|apply Ad.Bz|(apply Aa.int;rfl;rfl;rfl)|(intro _;try (exfalso;omega)))
  all_goals try (exfalso;omega)
  apply Ad.Ii (O.length) (fun k=>∀ i,i<k→P (gi O i)=true) [(0,_),(1,_),(7,_)] [(0,_),(1,_),(2,_)] (fun k r=>(8,.p (.int .i64 (k:Int)))::r) (fun k r=>r) 3
  ·first|omega|decide
  ·first|omega|decide
  ·exact Nl
  ·exact O7
  ·first|(intro _ _;omega)|omega|trivial
  ·intro k hk hi
   have hCk:=hC k hk;by_cases hp:P (gi O k)=true
   ·rw [hp] at hCk
    repeat' (first|(apply Aa.read [0,1] hCk;rfl;rfl;exact .of_eq rfl;exact CS.Az rfl;exact CX rfl;(repeat (first|exact trivial|refine ⟨⟨_,rfl,.of_eq rfl⟩,?_⟩));decide;(intro _ hb;simp at hb<;>omega);rfl)|(apply Aa.D5;rfl;rfl;rfl;rfl;omega)|refine go2 ?_|(apply Aa.int;rfl;rfl;rfl)|(apply Ad.Ac;rfl)|(apply Ad.cond_false;rfl)|(intro _;try (exfalso;omega)))
    all_goals try (exfalso;omega)
    all_goals try contradiction
    refine Ag.normal ⟨(all_succ hi hp),by first|omega|decide,?_,?_⟩
    ·exact C9
    ·exact DT
   ·have hp':P (gi O k)=false:=by cases h:P (gi O k)<;>simp_all
    rw [hp'] at hCk
    repeat' (first|(apply Aa.read [0,1] hCk;rfl;rfl;exact .of_eq rfl;exact CS.Az rfl;exact CX rfl;(repeat (first|exact trivial|refine ⟨⟨_,rfl,.of_eq rfl⟩,?_⟩));decide;(intro _ hb;simp at hb<;>omega);rfl)|(apply Aa.D5;rfl;rfl;rfl;rfl;omega)|refine go2 ?_|(apply AB.ret;rfl)|(apply Aa.int;rfl;rfl;rfl)|(apply Ad.Ai;rfl)|(apply Ad.Ac;rfl)|(apply Ad.cond_true;rfl)|(intro _;try (exfalso;omega)))
    all_goals try (exfalso;omega)
    all_goals try contradiction
    refine Ad.DJ (fun s:List (List Int)×Nat×Nat=>[(0,.vec 2 O.length 0 O.length),(1,.clo 89 [] [.ref 0 0,.ref 1 0]),(5,.p (.int .i64 (s.2.1:Int))),(6,.p (.int .i64 (s.2.2:Int)))]) (fun s=>[(0,dG q),(1,slB (MZ q t)),(2,.vec 28 (cells s.1) O.length false)]) 3 (fun s=>Rk P O s.1 s.2.1 s.2.2) (fun s=>O.length-s.2.2) (O,k,k+1) (by decide) (Rk.start hk hp' hi) ⟨by decide,?_,?_⟩ ?_
    ·exact C9
    ·exact DT
    rintro ⟨zs,i,j⟩ hD;simp only at hD ⊢;have z1:=hD.len;have z2:=hD.ij;have z3:=hD.jn;unfold dG slB;by_cases hj:j<O.length
    ·have hC2:=hC j hj
     have hz:=hD.at_ hj;by_cases hw:P (gi O j)=true
     ·rw [hw] at hC2
      rw [← hz] at hC2
      repeat' (first|(apply Aa.read [0,1] hC2;rfl;rfl;exact .of_eq rfl;exact CS.Az rfl;exact CX rfl;(repeat (first|exact trivial|refine ⟨⟨_,rfl,.of_eq rfl⟩,?_⟩));decide;(intro _ hb;simp at hb<;>omega);rfl)|(apply Aa.Ko (y:=gi zs j);rfl;rfl;rfl;trivial;(first|rfl|(refine congrArg (fun t=>[PV.p (FV.int _ t)]) ?_;first|omega|(simp only [Int.natCast_add,Int.natCast_mul,Int.natCast_ediv,Int.natCast_emod]<;>omega)));rfl;rfl;decide;(first|omega|(simp only [List.length_set]<;>omega)))|(apply Aa.lenV;rfl;rfl;rfl)|(apply Aa.D5;rfl;rfl;rfl;rfl;omega)|refine go2 ?_|(apply Aa.int;rfl;rfl;rfl)|(apply Ad.Ac;rfl)|(apply Ad.cond_true;rfl)|(intro _;try (exfalso;omega)))
      all_goals try (exfalso;omega)
      refine Ag.normal ⟨(zs.set i (gi O j),i+1,j+1),hD.put hj hw,by simp only;omega,⟨by omega,?_,?_⟩⟩
      ·exact C9
      ·rw [← hz]
       exact DT
     ·have hw':P (gi O j)=false:=by cases h:P (gi O j)<;>simp_all
      rw [hw'] at hC2;rw [← hz] at hC2
      repeat' (first|(apply Aa.read [0,1] hC2;rfl;rfl;exact .of_eq rfl;exact CS.Az rfl;exact CX rfl;(repeat (first|exact trivial|refine ⟨⟨_,rfl,.of_eq rfl⟩,?_⟩));decide;(intro _ hb;simp at hb<;>omega);rfl)|(apply Aa.lenV;rfl;rfl;rfl)|(apply Aa.D5;rfl;rfl;rfl;rfl;omega)|refine go2 ?_|(apply Aa.int;rfl;rfl;rfl)|(apply Ad.Ac;rfl)|(apply Ad.cond_false;rfl)|(intro _;try (exfalso;omega)))
      all_goals try (exfalso;omega)
      refine Ag.normal ⟨(zs,i,j+1),hD.skip hj hw',by simp only;omega,⟨by omega,?_,?_⟩⟩
      ·exact C9
      ·exact DT
    ·obtain rfl:j=O.length:=by omega
     obtain ⟨f1,f2⟩:=hD.fin;rw [← f1,show (zs.take i).length=i by rw [ax];omega];have hps:∀ xs,((Di (cells zs) (0+i*1) xs).take (i*1))=cells (zs.take i):=fun xs=>by
      rw [NC _ _ _ (show i*1≤0+i*1 by omega)];exact OE zs i
     have hpl:∀ xs,i*1≤(Di (cells zs) (0+i*1) xs).length:=fun xs=>by
      rw [Qw,CZ,z1];show i*1≤O.length*1;omega
     repeat' (first|(refine Aj.HY 6 ?_;refine Aj.ghost (Aw.pJ 56 (i*1) rfl rfl (by omega) (hpl _)) ?_)|apply AX.ret|apply Ad.assoc|apply Ad.Bz|apply Ad.EN|apply BL.normal|(apply AB.ret;rfl)|apply Bf.exit|apply Ag.exit|apply Ad.ret|apply Aj.nil|apply Aj.one|(apply Aa.jy (sz:=1) (a:=i) (c:=O.length);rfl;rfl;omega;rfl;rfl;rfl;exact ⟨_,rfl⟩;rfl;omega;exact ab _)|(apply Aa.jy (sz:=1) (a:=0) (c:=i);rfl;rfl;omega;rfl;rfl;rfl;rfl;exact ⟨_,rfl⟩;omega;omega)|(apply Aa.clear;rfl;rfl;omega;omega;rfl;rfl;rfl;decide;(rw [CZ,z1];show 0+i*1+(O.length-i)*1≤O.length*1;omega))|(apply Aa.assign;rfl)|(apply Aa.move;rfl)|(apply Aa.int;rfl;rfl;rfl)|(apply Aa.lenV;rfl;rfl;rfl)|(apply Ad.Ac;rfl)|(intro _;try (exfalso;omega)))
     all_goals first|(exfalso;omega)|(refine Done.rt rfl rfl ⟨?_,rfl,rfl⟩;exact congrArg (fun c=>PV.p (FV.lst 28 c i)) (hps _))
  ·intro hi
   rw [filter_all hi]
   repeat' (first|(refine Aj.HY 6 ?_;refine Aj.ghost (Aw.freeze 56 rfl rfl) ?_)|apply AX.ret|apply Ad.assoc|apply Ad.Bz|apply Ad.Qo|apply Ad.EN|apply BL.normal|(apply AB.ret;rfl)|apply Bf.exit|apply Ag.exit|apply Ad.ret|apply Aj.nil|apply Aj.one|(apply Aa.assign;rfl)|(apply Aa.move;rfl)|(apply Aa.int;rfl;rfl;rfl)|(apply Ad.AV;rfl)|(apply Ad.Ac;rfl)|(intro _;try (exfalso;omega)))
   all_goals first|(exfalso;omega)|(refine Done.rt rfl rfl ⟨?_,rfl,rfl⟩;try rfl)
end Go.Proofs.YtnjkoebfgcbbdaaGreatDoor
namespace Go.Vm
open Go.Am
def keyAt {α:Type} [DecidableEq α]:List α→α→Option Nat
 |[],_=>none
 |x::l,a=>if a=x then some 0 else (keyAt l a).map (·+1)
structure He (P:Program) (t:TypeId) {α:Type} [DecidableEq α] (kf:α→FV) (kv:α→Value):Prop where
 rel:∀ {m:Mem} {F:Nat→Prop} {a:α} {v:Value},RF m F (kf a) v→v=kv a
 of:∀ {m:Mem} {F:Nat→Prop} (a:α),RF m F (kf a) (kv a)
 plain:∀ a,Am.plain (kv a)=true
 bits:∀ a,((Ee P t).isSome||Instr.sameBits 10000 (kv a) (kv a))=true
 find:∀ (fl:Bool) (a:α) (ks:List α) (l:List MapEntry),l.map (·.key)=ks.map kv→Ip P fl t (kv a) l=some ((keyAt ks a).bind fun j=>(l[j]?).map fun e=>(j,e.val))
def MV {α:Type} (kf:α→FV) (es:List (α×PV)):HB:=.JC (es.map fun x=>kf x.1) (es.map (·.2))
theorem Z4 {α β:Type} [DecidableEq α] (a:α):∀ (es:List (α×β)),(BP es a=none→keyAt (es.map (·.1)) a=none∧∀ b,Cb es a b=es++[(a,b)]) ∧
 (∀ c,BP es a=some c→∃ j,keyAt (es.map (·.1)) a=some j∧es[j]?=some (a,c)∧∀ b,Cb es a b=es.set j (a,b))
 |[]=>⟨fun _=>⟨rfl,fun _=>rfl⟩,fun c h=>by cases h⟩
 |x::es=>by
  obtain ⟨h1,h2⟩:=Z4 a es;unfold BP Cb;simp only [List.map_cons,keyAt];grind
theorem He.b9f {P:Program} {t:TypeId} {α:Type} [DecidableEq α] {kf:α→List FV} {kv:α→List Value} (hv:∀ a,Fp (kf a)=some (kv a)) (hg:SY P t=true) (he:∀ a b,Dt P (Op.equal t (.agg (kv a).toArray) (.agg (kv b).toArray))=some (decide (a=b)))
 (hc:∀ fl a,XF P (Instr.checkKey fl 10000 t (.agg (kv a).toArray))=true):He P t (fun a=>.agg (kf a)) (fun a=>.agg (kv a).toArray):=by
 have h:IsKey P t kf kv:=⟨hv,hg,he,hc⟩
 refine ⟨fun r=>h.rel r,fun a=>h.of a,fun a=>h.plain a,fun a=>by rw [h.bits,Bool.or_true],fun fl a ks l hl=>?_⟩;rw [Yg h];have key:∀ (ks:List α) (l:List MapEntry) (i:Nat),l.map (·.key)=ks.map (fun a=>.agg (kv a).toArray)→Dt P (Instr.findAsking t (.agg (kv a).toArray) l i)=some ((keyAt ks a).bind fun j=>(l[j]?).map fun e=>(i+j,e.val)):=by
  intro ks
  induction ks with
  |nil =>
   intro l i h1;rw [el,gT] at h1;subst h1;rfl
  |cons x ks ih =>
   intro l i h1;cases l with
   |nil=>grind
   |cons y l =>
    simp only [List.map_cons,List.cons.injEq] at h1;rw [Instr.findAsking,h1.1];simp only [Aq,he,Option.bind_some,keyAt];by_cases e:a=x
    ·rw [decide_eq_true e,if_pos e];rfl
    ·rw [decide_eq_false e,if_neg e]
     show Dt P (Instr.findAsking t (.agg (kv a).toArray) l (i+1))=_;rw [ih l (i+1) h1.2];cases keyAt ks a with
     |none=>rfl
     |some j =>
      grind
 grind
theorem He.ofStr {P:Program} {t:TypeId} {α:Type} [DecidableEq α] {f:α→ByteArray} (hi:∀ a b,f a=f b→a=b) (ht:P.underlying t=some .string):He P t (fun a=>.str (f a)) (fun a=>.string (f a)):=by
 have hk:Ee P t=some .string:=by unfold Ee;rw [ht]
 refine ⟨fun r=>by cases r;rfl,fun a=>.str _,fun a=>rfl,fun a=>by grind,fun fl a ks l hl=>?_⟩;unfold Ip;have key:∀ (ks:List α) (l:List MapEntry) (i:Nat),l.map (·.key)=ks.map (fun a=>.string (f a))→Instr.findNow .string (.string (f a)) l i=some ((keyAt ks a).bind fun j=>(l[j]?).map fun e=>(i+j,e.val)):=by
  intro ks
  induction ks with
  |nil =>
   intro l i h1;rw [el,gT] at h1;subst h1;rfl
  |cons x ks ih =>
   intro l i h1;cases l with
   |nil=>grind
   |cons y l =>
    simp only [List.map_cons,List.cons.injEq] at h1;unfold Instr.findNow;rw [h1.1];simp only [Instr.sameNow,keyAt];by_cases e:a=x
    ·subst e
     rw [show (f a==f a)=true by simp [MW],if_pos rfl];rfl
    ·have hne:(f a==f x)=false:=by
      rw [MW];refine decide_eq_false fun h2=>e (hi _ _ ?_)
      cases hfa:f a;simp_all
     rw [hne,if_neg e];rw [ih l (i+1) h1.2];cases keyAt ks a with
     |none=>rfl
     |some j =>
      grind
 grind
section
variable {P:Program} {α:Type} [DecidableEq α] {kf:α→FV} {kv:α→Value} {t:TypeId}
theorem lQ (h:He P t kf kv) {m:Mem} {F:Nat→Prop}:∀ {es:List (α×PV)} {ks:List Value},Dh m F (es.map fun x=>kf x.1) ks→ks=(es.map (·.1)).map kv
 |[],_,r=>by cases r;rfl
 |x::es,_,r=>by
  cases r with
  |cons r1 r2=>rw [h.rel r1,lQ h r2];rfl
theorem nY (h:He P t kf kv) {m:Mem} {F:Nat→Prop}:∀ (es:List (α×PV)),Dh m F (es.map fun x=>kf x.1) ((es.map (·.1)).map kv)
 |[]=>.nil
 |x::l=>.cons (h.of x.1) (nY h l)
theorem Dj.atG {m:Mem} {F:Nat→Prop} {T:Nat→Option Tg} {σ:Nat→Value} {n:Nat}:∀ {xs:List PV} {vs:List Value} {i:Nat} {x:PV} {v:Value},Dj m F T σ n xs vs→xs[i]?=some x→vs[i]?=some v→RP m F T σ n x v
 |_,_,i,_,_,.nil,h,_=>by grind
 |_,_,0,_,_,.cons h t,h1,h2=>by grind
 |_,_,i+1,_,_,.cons h t,h1,h2=>Dj.atG t (by assumption) (by grind)
theorem tX (h:He P t kf kv) {m:Mem} {F:Nat→Prop} {T:Nat→Option Tg} {σ:Nat→Value} {n:Nat} (fl:Bool) (a:α) {es:List (α×PV)} {l:List MapEntry} (h1:l.map (·.key)=(es.map (·.1)).map kv) (h2:Dj m F T σ n (es.map (·.2)) (l.map (·.val))) :
 (BP es a=none→Ip P fl t (kv a) l=some none∧∀ b,Cb es a b=es++[(a,b)]) ∧
 (∀ c,BP es a=some c→∃ j v e,Ip P fl t (kv a) l=some (some (j,v))∧RP m F T σ n c v∧l[j]?=some e∧e.key=kv a∧e.val=v∧∀ b,Cb es a b=es.set j (a,b)):=by
 obtain ⟨g1,g2⟩:=Z4 a es;have hf:=h.find fl a (es.map (·.1)) l h1;refine ⟨fun hn=>?_,fun c hc=>?_⟩
 ·grind
 ·obtain ⟨j,k1,k2,k3⟩:=g2 c hc
  have hlen:l.length=es.length:=by
   have:=congrArg List.length h1;grind
  have hj:j<l.length:=by grind
  rw [k1] at hf;simp only [Option.bind_some,List.getElem?_eq_getElem hj,Option.map_some] at hf;refine ⟨j,l[j].val,l[j],hf,?_,ai hj,?_,rfl,k3⟩
  ·have e1:(es.map (·.2))[j]?=some c:=by grind
   have e2:(l.map (·.val))[j]?=some l[j].val:=by grind
   exact Dj.atG h2 e1 e2
  ·have e1:(l.map (·.key))[j]?=some l[j].key:=by grind
   grind
variable {E:Env} {L:Vm.Frame} {H:Vm.Heap} {nx:Nat} {Q:PV→Vm.Heap→Nat→Prop} {w:Bool} {dst:Option Tmp} {ty:TypeId} {pos:String} {af:Array Edge} {gd:Option (Nat×Bool)}
theorem U5 {Γ:Nat→Option (List Value×TypeId)} {m:Mem} {F:Nat→Prop} {σ:Nat→Value} {tt:Tr Value} {a:α} {o:Operand} (h:He P t kf kv) (hx:Ctx Γ m F σ H nx) (hl:RL m F (htag H) σ nx L tt) (hv:AU Γ L o=some (.p (kf a))):ev tt o=kv a:=by
 have:=BF hx hl hv;cases this with
 |p r=>exact h.rel r
theorem Aa.lookupGo {t kt et:TypeId} {x k:Operand} {b:Nat} {es:List (α×PV)} {a:α} {z:Value} {c:PV} (hkt:He E.P kt kf kv) (hx:AU E.Γ L x=some (.mref b)) (hb:hget H b=some (MV kf es)) (hk:AU E.Γ L k=some (.p (kf a)))
 (ht:E.P.underlying t=some (.map kt et)) (hz:zeroOf E.P et=some z) (hzp:Am.plain z=true) (hv:KO E H nx es a z c) (q:Q (.D9 [c,.p (.bool (BP es a).isSome)]) H nx):Aa E w ⟨dst,.lookup t x k true,ty,pos,af,gd⟩ L H nx Q :=
 Aa.quiet q fun m F σ tt c1 c2=>by
  obtain ⟨_,r,l,clock,r1,r2,r3,r4,r5,r6,r7⟩:=c1.hp b _ hb;have e1:=lQ hkt r5;have hpl:(Am.plain z&&Am.plain (kv a))=true:=by rw [hzp,hkt.plain];rfl
  obtain ⟨f1,f2⟩:=tX hkt l.isEmpty a e1 r6;rcases hv with hv|⟨hv,hc⟩
  ·obtain ⟨j,u,e,f3,f4,_⟩:=f2 c hv
   refine ⟨.tuple #[u,.bool true],fun _=>?_,?_⟩
   ·simp only [BU,Fe,LJ,ht,hz,IQ c1 c2 hx hb,U5 hkt c1 c2 hk,r1,r4,hpl,if_true,f3,Option.map_some]
   ·rw [hv];exact .D9 (.cons f4 (.cons (.p (.bool _)) .nil))
  ·have f3:=(f1 hv).1
   refine ⟨.tuple #[z,.bool false],fun _=>?_,?_⟩
   ·simp only [BU,Fe,LJ,ht,hz,IQ c1 c2 hx hb,U5 hkt c1 c2 hk,r1,r4,hpl,if_true,f3,Option.map_some]
   ·rw [hv];exact .D9 (.cons (hc m F σ c1) (.cons (.p (.bool _)) .nil))
theorem Kr {m:Mem} {F:Nat→Prop} {σ:Nat→Value} {kt:TypeId} {b r:Nat} {es es':List (α×PV)} {l':List MapEntry} {clock':Nat} (hkt:He P kt kf kv) {Γ:Nat→Option (List Value×TypeId)} (c1:Ctx Γ m F σ H nx) (hb:hget H b=some (MV kf es)) (r1:σ b=.map (some r)) (r2:r<m.size) (r3:¬ F r)
 (k1:l'.map (·.key)=(es'.map (·.1)).map kv) (k2:Dj m F (htag H) σ nx (es'.map (·.2)) (l'.map (·.val))) (k3:Stamped l' clock') :
 Ctx Γ (m.put r (.map l' clock')) F σ (hput H b (MV kf es')) nx∧Step m F σ H nx (m.put r (.map l' clock')) F σ (hput H b (MV kf es')) nx:=by
 have hput':∀ d' x,r≠d'→(m.put r x).get d'=m.get d':=fun d' x hd=>by rw [Mem.get_put,if_neg hd]
 have:=c1.change (m':=m.put r (.map l' clock')) (x':=MV kf es') (s':=σ b) hb trivial (fun _=>rfl) (ab _)
  (fun d' _ hd=>hput' d' _ fun e=>hd (by rw [r1,e];rfl)) (fun k k1 k2 k3=>by
   have:=k3 r (by rw [r1];rfl);simp only [Mem.put];omega) (fun d' hd=>.inl hd) (by
   have hF:∀ d',F d'→F d'∧(m.put r (.map l' clock')).get d'=m.get d':=fun d' hd=>⟨hd,hput' d' _ fun e=>r3 (e▸hd)⟩
   refine ⟨r,l',clock',r1,r2,r3,by rw [Mem.get_put,if_pos rfl],?_,?_,k3⟩
   ·rw [k1]
    exact nY hkt es'
   ·exact k2.mono hF (GN (x':=MV kf es') hb trivial fun _=>rfl) (ab _))
 rw [a5w] at this;omega
theorem Aa.yN {t kt et:TypeId} {x k y:Operand} {b:Nat} {es:List (α×PV)} {a:α} {c:PV} (hkt:He E.P kt kf kv) (hx:AU E.Γ L x=some (.mref b)) (hb:hget H b=some (MV kf es)) (hk:AU E.Γ L k=some (.p (kf a))) (hy:AU E.Γ L y=some c)
 (ht:E.P.underlying t=some (.map kt et)) {H':Vm.Heap} (hH:hput H b (MV kf (Cb es a c))=H') (q:Q (.D9 []) H' nx):Aa E true ⟨dst,.mapUpdate t x k y,ty,pos,af,gd⟩ L H nx Q:=by
 subst hH;intro m F σ tt c1 c2;obtain ⟨_,r,l,clock,r1,r2,r3,r4,r5,r6,r7⟩:=c1.hp b _ hb;have e1:=lQ hkt r5;obtain ⟨f1,f2⟩:=tX hkt false a e1 r6;have hyv:=BF c1 c2 hy;have hup:IK E.P t (ev tt x) (ev tt k) (ev tt y) m=match Ip E.P false kt (kv a) l with
  |some (some (i,_))=>if (Ee E.P kt).isSome||Instr.sameBits 10000 (((l[i]?).map (·.key)).getD (kv a)) (kv a) then some (m.put r (.map (l.modify i fun e=>{ e with key:=kv a,val:=ev tt y }) clock)) else none
  |some none=>some (m.put r (.map (l++[{ key:=kv a,val:=ev tt y,born:=clock }]) (clock+1)))
  |none=>none:=by
  unfold IK;simp only [ht,IQ c1 c2 hx hb,U5 hkt c1 c2 hk,r1,r4,hkt.plain,if_true];rfl
 cases hl:BP es a with
 |none =>
  obtain ⟨f3,f4⟩:=f1 hl;rw [f3] at hup;obtain ⟨d1,d2⟩:=Kr hkt c1 hb r1 r2 r3 (es':=Cb es a c) (l':=l++[{ key:=kv a,val:=ev tt y,born:=clock }]) (clock':=clock+1) (by grind) (by rw [f4 c,bl,bl];exact Dj.snoc r6 hyv) r7.push;exact Gl.op (v:=undef) (fun _=>by simp only [BU,Fe,hup,Option.map_some]) ⟨_,_,_,F,_,q,d1,.D9 .nil,d2,fun h=>by cases h⟩
 |some c0 =>
  obtain ⟨j,u,e0,f3,f4,f5,f5',_,f6⟩:=f2 c0 hl;rw [f3] at hup;simp only [f5,Option.map_some,Option.getD_some,f5',hkt.bits,if_true] at hup;have hmod:∀ (g:MapEntry→MapEntry),l.modify j g=l.set j (g e0):=fun g=>KX f5
  obtain ⟨d1,d2⟩:=Kr hkt c1 hb r1 r2 r3 (es':=Cb es a c) (l':=l.modify j fun e=>{ e with key:=kv a,val:=ev tt y }) (by simp_all) (by rw [hmod,f6 c,cB,cB];exact r6.set j hyv) (r7.modify fun _=>rfl);exact Gl.op (v:=undef) (fun _=>by simp only [BU,Fe,hup,Option.map_some]) ⟨_,_,_,F,_,q,d1,.D9 .nil,d2,fun h=>by cases h⟩
theorem Aa.zx {t kt et:TypeId} {x k y:Operand} {b:Nat} {es:List (α×PV)} {a:α} {c:PV} (hkt:He E.P kt kf kv) (hx:AU E.Γ L x=some (.mref b)) (hb:hget H b=some (MV kf es)) (hk:AU E.Γ L k=some (.p (kf a))) (hy:AU E.Γ L y=some c)
 (ht:E.P.underlying t=some (.map kt et)) {H':Vm.Heap} (hH:hput H b (MV kf (Cb es a c))=H') (q:Q (.D9 []) H' nx):Aa E true ⟨dst,.insert t x k y,ty,pos,af,gd⟩ L H nx Q:=by
 subst hH;intro m F σ tt c1 c2;obtain ⟨_,r,l,clock,r1,r2,r3,r4,r5,r6,r7⟩:=c1.hp b _ hb;have e1:=lQ hkt r5;obtain ⟨f1,f2⟩:=tX hkt false a e1 r6;have hyv:=BF c1 c2 hy;have hup:IK E.P t (ev tt x) (ev tt k) (ev tt y) m=match Ip E.P false kt (kv a) l with
  |some (some (i,_))=>if (Ee E.P kt).isSome||Instr.sameBits 10000 (((l[i]?).map (·.key)).getD (kv a)) (kv a) then some (m.put r (.map (l.modify i fun e=>{ e with key:=kv a,val:=ev tt y }) clock)) else none
  |some none=>some (m.put r (.map (l++[{ key:=kv a,val:=ev tt y,born:=clock }]) (clock+1)))
  |none=>none:=by
  unfold IK;simp only [ht,IQ c1 c2 hx hb,U5 hkt c1 c2 hk,r1,r4,hkt.plain,if_true];rfl
 cases hl:BP es a with
 |none =>
  obtain ⟨f3,f4⟩:=f1 hl;rw [f3] at hup;obtain ⟨d1,d2⟩:=Kr hkt c1 hb r1 r2 r3 (es':=Cb es a c) (l':=l++[{ key:=kv a,val:=ev tt y,born:=clock }]) (clock':=clock+1) (by grind) (by rw [f4 c,bl,bl];exact Dj.snoc r6 hyv) r7.push;exact Gl.op (v:=undef) (fun _=>by simp only [BU,Fe,hup,Option.map_some]) ⟨_,_,_,F,_,q,d1,.D9 .nil,d2,fun h=>by cases h⟩
 |some c0 =>
  obtain ⟨j,u,e0,f3,f4,f5,f5',_,f6⟩:=f2 c0 hl;rw [f3] at hup;simp only [f5,Option.map_some,Option.getD_some,f5',hkt.bits,if_true] at hup;have hmod:∀ (g:MapEntry→MapEntry),l.modify j g=l.set j (g e0):=fun g=>KX f5
  obtain ⟨d1,d2⟩:=Kr hkt c1 hb r1 r2 r3 (es':=Cb es a c) (l':=l.modify j fun e=>{ e with key:=kv a,val:=ev tt y }) (by simp_all) (by rw [hmod,f6 c,cB,cB];exact r6.set j hyv) (r7.modify fun _=>rfl);exact Gl.op (v:=undef) (fun _=>by simp only [BU,Fe,hup,Option.map_some]) ⟨_,_,_,F,_,q,d1,.D9 .nil,d2,fun h=>by cases h⟩
theorem YN {d:Nat} (xs ys:Array Value) {g:Option Bool×Unit→Sem Bool} (g0:g (none,())=pure true) (g1:∀ b,g (some b,())=pure b):∀ (fs:List Field) (bs:List Bool),fs.length=bs.length→(∀ (i:Nat) (f:Field) (b:Bool),fs[i]?=some f→bs[i]?=some b→f.name≠"_"∧∃ x y,Dt P (part f.type xs f.offset)=some x∧Dt P (part f.type ys f.offset)=some y∧Dt P (Op.equalIn d f.type x y)=some b) →
 Dt P ((forIn fs ((none,()):Option Bool×Unit) fun f _=>(do
     if f.name≠"_" then
      if (!(← Op.equalIn d f.type (← part f.type xs f.offset) (← part f.type ys f.offset)))=true then pure (ForInStep.done (some false,())) else pure (ForInStep.yield (none,()))
     else pure (ForInStep.yield (none,())):Sem (ForInStep (Option Bool×Unit)))) >>= g)=some (bs.all id)
 |[],[],_,h=>by
  simp only [List.forIn_nil,Aq,BQ,Option.bind_some,g0];rfl
 |f::fs,b::bs,hl,h=>by
  obtain ⟨hn,x,y,h1,h2,h3⟩:=h 0 f b rfl rfl;have ih:=YN (d:=d) xs ys g0 g1 fs bs (by grind) fun i f b hf hb=>h (i+1) f b (by grind) (by grind)
  rw [dC];simp only [Aq,ne_eq,hn,not_false_eq_true,if_true,h1,h2,Option.bind_some,h3];cases b with
  |false=>simp [BQ,g1]
  |true =>
   simp only [Bool.not_true,Bool.false_eq_true,if_false,BQ,Option.bind_some,List.all_cons,id_eq,Bool.true_and];rw [Aq] at ih;omega
 |[],_::_,hl,_=>by grind
 |_::_,[],hl,_=>by grind
theorem cZ {d:Nat} {t:TypeId} {fs:Array Field} {xs ys:Array Value} {bs:List Bool} (ht:P.underlying t=some (.struct fs)) (hp:P.stoodInHeld t=false) (hl:fs.toList.length=bs.length)
 (h:∀ (i:Nat) (f:Field) (b:Bool),fs.toList[i]?=some f→bs[i]?=some b→f.name≠"_"∧∃ x y,Dt P (part f.type xs f.offset)=some x∧Dt P (part f.type ys f.offset)=some y∧Dt P (Op.equalIn d f.type x y)=some b) :
 Dt P (Op.equalIn (d+1) t (.agg xs) (.agg ys))=some (bs.all id):=by
 rw [Op.equalIn];simp only [Aq,AY,ht,Option.bind_some,program,Dt,hp,Bool.false_eq_true,if_false];rw [← em,← Aq];exact YN (d:=d) xs ys rfl (fun b=>rfl) fs.toList bs hl h
theorem aY {d:Nat} {t e:TypeId} {xs ys:Array Value} {n:Nat} {x0 y0 x1 y1:Value} {b0 b1:Bool} (ht:P.underlying t=some (.array 2 e)) (hn:(P.info? e).map (·.size)=some n) (p0:Dt P (part e xs 0)=some x0) (p1:Dt P (part e ys 0)=some y0) (p2:Dt P (part e xs n)=some x1) (p3:Dt P (part e ys n)=some y1)
 (h0:Dt P (Op.equalIn d e x0 y0)=some b0) (h1:Dt P (Op.equalIn d e x1 y1)=some b1):Dt P (Op.equalIn (d+1) t (.agg xs) (.agg ys))=some (b0&&b1):=by
 rw [Op.equalIn];simp only [Aq,AY,ht,Option.bind_some,FN,hn];rw [Std.Legacy.Range.forIn_eq_forIn_range'];show ((Dt P (forIn [0,1] _ _)).bind _)=_;rw [dC];simp only [Aq,Nat.zero_mul,p0,p1,h0,Option.bind_some];cases b0 with
 |false=>rfl
 |true =>
  simp only [Bool.not_true,Bool.false_eq_true,if_false,BQ,Option.bind_some,List.forIn_cons,List.forIn_nil,Aq,Nat.one_mul,p2,p3,h1];cases b1<;>rfl
theorem ER {t:TypeId} {cs:Array Value} {o n:Nat} (ha:Gv P t=some true) (hn:(P.info? t).map (·.size)=some n):Dt P (part t cs o)=some (.agg (cs.extract o (o+n))):=by
 simp only [part,Aq,Q8,ha,Option.bind_some,if_true,FN,hn,BQ]
theorem ZH {fl:Bool} {n:Nat} {t:TypeId} {fs:Array Field} {xs:Array Value} (ht:P.underlying t=some (.struct fs)) (h:∀ f∈fs.toList,∃ x,Dt P (part f.type xs f.offset)=some x∧Dt P (Instr.checkKey fl n f.type x)=some ()):Dt P (Instr.checkKey fl (n+1) t (.agg xs))=some ():=by
 rw [Instr.checkKey];simp only [Aq,AY,ht,Option.bind_some];rw [← em];generalize fs.toList=l at h;have key:∀ l:List Field,(∀ f∈l,∃ x,Dt P (part f.type xs f.offset)=some x∧Dt P (Instr.checkKey fl n f.type x)=some ())→Dt P (forIn l PUnit.unit fun f _=>(do
  if f.name≠"_" then do
   let x ← part f.type xs f.offset
   Instr.checkKey fl n f.type x
   pure (ForInStep.yield PUnit.unit)
  else pure (ForInStep.yield PUnit.unit):Sem (ForInStep PUnit)))=some PUnit.unit:=by
  intro l
  induction l with
  |nil=>intro _;rfl
  |cons f l ih =>
   intro h;obtain ⟨x,h1,h2⟩:=h f (by simp);have ih:=ih fun f hf=>h f (ao _ hf)
   rw [dC,Aq];by_cases hn:f.name≠"_"
   ·rw [if_pos hn]
    simp only [Aq,h1,Option.bind_some,h2,BQ];omega
   ·rw [if_neg hn]
    assumption
 rw [key l h];rfl
theorem Xh {fl:Bool} {n:Nat} {t e:TypeId} {xs:Array Value} {k:Nat} {x0 x1:Value} (ht:P.underlying t=some (.array 2 e)) (hk:(P.info? e).map (·.size)=some k) (p0:Dt P (part e xs 0)=some x0) (p1:Dt P (part e xs k)=some x1)
 (h0:Dt P (Instr.checkKey fl n e x0)=some ()) (h1:Dt P (Instr.checkKey fl n e x1)=some ()):Dt P (Instr.checkKey fl (n+1) t (.agg xs))=some ():=by
 rw [Instr.checkKey];simp only [Aq,AY,ht,Option.bind_some];rw [Std.Legacy.Range.forIn_eq_forIn_range'];show ((Dt P (forIn [0,1] _ _)).bind _)=_;simp only [List.forIn_cons,List.forIn_nil,Aq,BQ,Nat.zero_mul,Nat.one_mul,FN,hk,p0,p1,h0,h1,Option.bind_some]
theorem PY {fl:Bool} {n:Nat} {t:TypeId} {d:TypeDesc} {x:Value} (ht:P.underlying t=some d) (hd:a5i d=true):Dt P (Instr.checkKey fl (n+1) t x)=some ():=by
 rw [Instr.checkKey];simp only [Aq,AY,ht,Option.bind_some];cases d<;>first|rfl|cases hd
theorem Aw.eX (d:Nat) {b:Nat} {e:TypeId} {ds:List PV} (cs:List FV) (hd:EY L d=some (.ref b 0)) (hb:hget H b=some (.box e ds)) (hds:ds=cs.map .p):Aw E L H nx ((d,.p (.EP cs))::L) (hdel H b) nx:=fun B m F σ t h1 h2 h3=>by
 subst hds;obtain ⟨c1,c2⟩:=kG h1 hb;refine ⟨_,σ,c1,fun i v hi=>?_,h3.trans c2⟩;rw [DU] at hi;by_cases ei:d=i
 ·rw [if_pos ei] at hi;cases hi
  have:=h2 d _ hd;subst ei;cases this with
  |ref hb' hc h =>
   obtain ⟨c0,hs,hv⟩:=h (by simp [htag,hb,HB.tag]);obtain ⟨_,c,vs,r1,r2,r3,r4,r5,r6⟩:=h1.hp b _ hb;rw [r1] at hs;cases hs;rw [hv];have r5':=Dh.ZX r5;refine .p (.EP (g:=0) (.inr (by rw [r1];rfl)) r4 rfl ?_ (r5'.mono fun c hc=>⟨.inl hc,rfl⟩) r6);rw [cw,r5'.length];simp [takeN]
 ·rw [if_neg ei] at hi
  exact (h2 i v hi).step c2 h1
theorem Aa.zo {x:Operand} {cs:List FV} (hx:AU E.Γ L x=some (.p (.EP cs))) (q:Q (.p (.EP cs)) H nx):Aa E w ⟨dst,.nilCheck x,ty,pos,af,gd⟩ L H nx Q :=
 Aa.quiet q fun m F σ tt h1 h2=>by
  obtain ⟨a,h3,h4⟩:=aI h1 h2 hx;exact ⟨_,fun _=>by simp only [BU,Fe,h3],.p h4⟩
theorem Aa.a8r {t t2 e:TypeId} {x y:Operand} {cs:List FV} (hx:AU E.Γ L x=some (.p (.EP cs))) (hy:AU E.Γ L y=some (.p (.val (.pointer none)))) (ht:E.P.underlying t=some (.pointer e)) (q:Q (.p (.bool false)) H nx) :
 Aa E w ⟨dst,.binOp .eql t x y t2,ty,pos,af,gd⟩ L H nx Q:=Aa.quiet q fun m F σ tt h1 h2=>by
 obtain ⟨a,h3,_⟩:=aI h1 h2 hx;have h5:=Yp h1 h2 hy;exact ⟨.bool false,fun _=>by simp [BU,Fe,h3,h5,OX,ht,Jv],.p (.bool _)⟩
theorem Aa.a5k {t t2 e:TypeId} {x y:Operand} (hx:AU E.Γ L x=some (.p (.val (.pointer none)))) (hy:AU E.Γ L y=some (.p (.val (.pointer none)))) (ht:E.P.underlying t=some (.pointer e)) (q:Q (.p (.bool true)) H nx) :
 Aa E w ⟨dst,.binOp .eql t x y t2,ty,pos,af,gd⟩ L H nx Q:=Aa.quiet q fun m F σ tt h1 h2=>by
 have h4:=Yp h1 h2 hx;have h5:=Yp h1 h2 hy;exact ⟨.bool true,fun _=>by simp [BU,Fe,h4,h5,OX,ht,Jv],.p (.bool _)⟩
end
end Go.Vm
namespace Go.Proofs.YtnjkoebfgcbbdaaGreatDoor
open Go Go.Am Go.Vm Go.Pie Go.Sch
attribute [local irreducible] Aa Aj Ah Ad AP Ap Bd BL Bf Ag Vm.Done BA AB OT
attribute [local irreducible] Ce Ba DV DN En AZ CB
instance:Enc J4:={ default:=st0,enc:=fun x=>[.str (bs x.now),.int .i64 x.c0.d,.int .i64 x.c0.k,.int .i64 x.c1.d,.int .i64 x.c1.k,.bool x.b0,.bool x.b1],size:=7,len:=fun _=>rfl }
def uN (x:J4):List Value:=[.string (bs x.now),.int .i64 x.c0.d,.int .i64 x.c0.k,.int .i64 x.c1.d,.int .i64 x.c1.k,.bool x.b0,.bool x.b1]
theorem a4w (d:Nat) (a b:Wp):Dt Tryz.prog (Op.equalIn (d+2) 120 (.agg #[.int .i64 a.d,.int .i64 a.k]) (.agg #[.int .i64 b.d,.int .i64 b.k]))=some (decide (a=b)):=by
 obtain ⟨fs,hu⟩:∃ fs,Tryz.prog.underlying 120=some (.struct fs):=⟨_,rfl⟩
 refine NG hu (by simp) ?_;have hu2:some (TypeDesc.struct fs)=Tryz.prog.underlying 120:=hu.symm;cases hu2;show some (decide (a.d=b.d)&&(decide (a.k=b.k)&&true))=_;obtain ⟨a1,a2⟩:=a;obtain ⟨b1,b2⟩:=b;by_cases h1:a1=b1<;>by_cases h2:a2=b2<;>simp [h1,h2]
theorem yG (fl:Bool) (n:Nat) (a:Wp):Dt Tryz.prog (Instr.checkKey fl (n+2) 120 (.agg #[.int .i64 a.d,.int .i64 a.k]))=some ():=by
 rfl
theorem b6z (a b:J4):Dt Tryz.prog (Op.equal 124 (.agg (uN a).toArray) (.agg (uN b).toArray))=some (decide (a=b)):=by
 obtain ⟨fs,hu⟩:∃ fs,Tryz.prog.underlying 124=some (.struct fs):=⟨_,rfl⟩
 have h1:Dt Tryz.prog (Op.equalIn 9999 9 (.string (bs a.now)) (.string (bs b.now)))=some (decide (a.now=b.now)):=QN (d:=9998) (td:=.string) rfl rfl;have h2:Dt Tryz.prog (Op.equalIn 9999 121 (.agg #[.int .i64 a.c0.d,.int .i64 a.c0.k,.int .i64 a.c1.d,.int .i64 a.c1.k]) (.agg #[.int .i64 b.c0.d,.int .i64 b.c0.k,.int .i64 b.c1.d,.int .i64 b.c1.k]))=some (decide (a.c0=b.c0)&&decide (a.c1=b.c1)) :=
  aY (d:=9998) (e:=120) (n:=2) rfl rfl (ER rfl rfl) (ER rfl rfl) (ER rfl rfl) (ER rfl rfl) (a4w 9996 a.c0 b.c0) (a4w 9996 a.c1 b.c1)
 have h3:Dt Tryz.prog (Op.equalIn 9999 122 (.agg #[.bool a.b0,.bool a.b1]) (.agg #[.bool b.b0,.bool b.b1]))=some ((a.b0==b.b0)&&(a.b1==b.b1)) :=
  aY (d:=9998) (e:=4) (n:=1) rfl rfl (FT rfl rfl) (FT rfl rfl) (FT rfl rfl) (FT rfl rfl) (QN (d:=9997) (td:=.bool) rfl rfl) (QN (d:=9997) (td:=.bool) rfl rfl)
 have:=cZ (P:=Tryz.prog) (d:=9999) (t:=124) (xs:=(uN a).toArray) (ys:=(uN b).toArray) (bs:=[decide (a.now=b.now),decide (a.c0=b.c0)&&decide (a.c1=b.c1),(a.b0==b.b0)&&(a.b1==b.b1)]) hu (by kernel_rfl) (by
  have hu2:some (TypeDesc.struct fs)=Tryz.prog.underlying 124:=hu.symm;cases hu2;rfl) (by
  have hu2:some (TypeDesc.struct fs)=Tryz.prog.underlying 124:=hu.symm;cases hu2;intro i f b' hf hb
  match i with
  |0 =>
   cases hf;cases hb;exact ⟨by decide,_,_,FT (v:=.string (bs a.now)) rfl rfl,FT (v:=.string (bs b.now)) rfl rfl,h1⟩
  |1 =>
   cases hf;cases hb;exact ⟨by decide,_,_,ER rfl rfl,ER rfl rfl,h2⟩
  |2 =>
   cases hf;cases hb;exact ⟨by decide,_,_,ER rfl rfl,ER rfl rfl,h3⟩
  |i+3=>cases hb)
 refine ef this (congrArg some ?_);obtain ⟨a1,a2,a3,a4,a5⟩:=a;obtain ⟨b1,b2,b3,b4,b5⟩:=b;simp only [List.all_cons,List.all_nil,id_eq,Bool.and_true,J4.mk.injEq];rw [fa];simp only [Bool.and_eq_true,decide_eq_true_eq,beq_iff_eq];constructor
 ·rintro ⟨g1,⟨g2,g3⟩,g4,g5⟩;exact ⟨g1,g2,g3,g4,g5⟩
 ·rintro ⟨g1,g2,g3,g4,g5⟩;exact ⟨g1,⟨g2,g3⟩,g4,g5⟩
theorem b0o (fl:Bool) (a:J4):XF Tryz.prog (Instr.checkKey fl 10000 124 (.agg (uN a).toArray))=true:=by
 obtain ⟨fs,hu⟩:∃ fs,Tryz.prog.underlying 124=some (.struct fs):=⟨_,rfl⟩
 have:Dt Tryz.prog (Instr.checkKey fl 10000 124 (.agg (uN a).toArray))=some ():=by
  refine ZH (n:=9999) hu fun f hf=>?_
  have hu2:some (TypeDesc.struct fs)=Tryz.prog.underlying 124:=hu.symm;cases hu2;rcases bj.1 hf with rfl|hf
  ·exact ⟨_,FT (v:=.string (bs a.now)) rfl rfl,PY (n:=9998) (d:=.string) rfl rfl⟩
  rcases bj.1 hf with rfl|hf
  ·refine ⟨_,ER rfl rfl,?_⟩
   exact Xh (n:=9998) (e:=120) (k:=2) rfl rfl (ER rfl rfl) (ER rfl rfl) (yG fl 9996 a.c0) (yG fl 9996 a.c1)
  rcases bj.1 hf with rfl|hf
  ·refine ⟨_,ER rfl rfl,?_⟩
   exact Xh (n:=9998) (e:=4) (k:=1) rfl rfl (FT (v:=.bool a.b0) rfl rfl) (FT (v:=.bool a.b1) rfl rfl) (PY (n:=9997) (d:=.bool) rfl rfl) (PY (n:=9997) (d:=.bool) rfl rfl)
  ·cases hf
 unfold XF;rw [this]
theorem kF:He Tryz.prog 124 (fun x:J4=>.agg (Enc.enc x)) (fun x=>.agg (uN x).toArray):=He.b9f (fun _=>rfl) (by rfl) b6z b0o
theorem a9d (a b:List UInt8) (h:bs a=bs b):a=b:=by
 have:=congrArg (fun x:ByteArray=>x.data.toList) h;assumption
theorem Yq:He Tryz.prog 9 (fun x:List UInt8=>.str (bs x)) (fun x=>.string (bs x)):=He.ofStr a9d rfl
theorem Xi (a:Int):Ap env 126 [.int .i64 a] (.p (.bool false)):=by
 refine Ap.enter (Ae (by decide)) Tryz.func126 rfl (by kernel_rfl) (by simp) ?_
 repeat' (first|refine IG ?_|fail)
 all_goals first|(omega)|(refine Done.rt rfl rfl ⟨?_,rfl,rfl⟩)
 simp
theorem nN (a b:Int):Ap env 87 [.int .i64 a,.int .i64 b] (.p (.int .i64 (if a<b then -1 else if b<a then 1 else 0))):=by
 have n1:=Xi a;have n2:=Xi b;by_cases h1:a<b;all_goals by_cases h2:b<a
 all_goals first|rw [if_pos h1]|rw [if_neg h1]
 all_goals try first|rw [if_pos h2]|rw [if_neg h2]
 all_goals
  refine Ap.enter (Ae (by decide)) Tryz.func87 rfl (by kernel_rfl) (by simp [Tryz.ntmps87]) ?_
 all_goals
  repeat' (first|(apply Aa.fn;rfl;rfl;exact n1;intro _;rfl)|(apply Aa.fn;rfl;rfl;exact n2;intro _;rfl)|refine go2 ?_|(apply Aa.int;rfl;rfl;rfl)|(apply Ad.Ai;rfl)|(apply Ad.Ac;rfl)|(intro _;try (exfalso;omega)))
 all_goals first|(exfalso;omega)|contradiction|(refine Done.rt rfl rfl ⟨?_,rfl,rfl⟩;try rfl)
theorem a0y (a b:List Int):∀ k,k<a.length→k<b.length→cmpL (a.drop k) (b.drop k)=if gi a k<gi b k then -1 else if gi b k<gi a k then 1 else cmpL (a.drop (k+1)) (b.drop (k+1)):=fun k ha hb=>by
 rw [cj ha,cj hb];have e1:gi a k=a[k]:=by unfold gi;grind
 have e2:gi b k=b[k]:=by unfold gi;grind
 rw [e1,e2];rfl
theorem Rz (a b:List Int) (h:a.length=b.length) (hl:a.length<1000000):Ap env 40 [.lst 3 (cells a) a.length,.lst 3 (cells b) b.length] (.p (.int .i64 (cmpL a b))):=by
 refine Ap.enter (Ae (by decide)) Tryz.func40 rfl (by kernel_rfl) (by simp [Tryz.ntmps40]) ?_
 repeat' (first|refine go2 ?_|fail)
 all_goals try (exfalso;omega)
 apply Ad.Ii (a.length) (fun k=>cmpL (a.drop k) (b.drop k)=cmpL a b) [(0,_),(1,_),(9,_),(10,_)] [] (fun k r=>(11,.p (.int .i64 (k:Int)))::r) (fun k r=>r) 0
 ·first|omega|decide
 ·first|omega|decide
 ·exact Nl
 ·exact O7
 ·first|(intro _ _;omega)|omega|trivial
 ·intro k hk hi
  have hc:=nN (gi a k) (gi b k);have hd:=a0y a b k hk (by omega);rw [hi] at hd;by_cases h1:gi a k<gi b k
  ·rw [if_pos h1] at hc hd
   rw [hd]
   repeat' (first|(apply Aa.fn;rfl;rfl;exact hc;intro _;rfl)|(apply Aa.Ak;rfl;rfl;rfl;omega;rfl)|refine go2 ?_|(apply Aa.int;rfl;rfl;rfl)|(apply Ad.Ac;rfl)|(apply Ad.cond_true;rfl)|(intro _;try (exfalso;omega)))
   all_goals first|(exfalso;omega)|contradiction|(refine Done.rt rfl rfl ⟨?_,rfl,rfl⟩;try rfl)
  ·rw [if_neg h1] at hc hd
   by_cases h2:gi b k<gi a k
   ·rw [if_pos h2] at hc hd
    rw [hd]
    repeat' (first|(apply Aa.fn;rfl;rfl;exact hc;intro _;rfl)|(apply Aa.Ak;rfl;rfl;rfl;omega;rfl)|refine go2 ?_|(apply Aa.int;rfl;rfl;rfl)|(apply Ad.Ac;rfl)|(apply Ad.cond_true;rfl)|(intro _;try (exfalso;omega)))
    all_goals first|(exfalso;omega)|contradiction|(refine Done.rt rfl rfl ⟨?_,rfl,rfl⟩;try rfl)
   ·rw [if_neg h2] at hc hd
    repeat' (first|(apply Aa.fn;rfl;rfl;exact hc;intro _;rfl)|(apply Aa.Ak;rfl;rfl;rfl;omega;rfl)|refine go2 ?_|(apply Aa.int;rfl;rfl;rfl)|(apply Ad.Ac;rfl)|(apply Ad.cond_false;rfl)|(intro _;try (exfalso;omega)))
    all_goals try (exfalso;omega)
    all_goals try contradiction
    refine Ag.normal ⟨hd.symm,by first|omega|decide,?_,?_⟩
    ·exact C9
    ·exact DT
 ·intro hi
  have e0:cmpL a b=0:=by
   rw [← hi,eM (ab _),eM (by omega)];rfl
  rw [e0]
  repeat' (first|refine IG ?_|(apply Ad.Ac;rfl)|(intro _;try (exfalso;omega)))
  all_goals first|(exfalso;omega)|(refine Done.rt rfl rfl ⟨?_,rfl,rfl⟩;try rfl)
end Go.Proofs.YtnjkoebfgcbbdaaGreatDoor
namespace Go.Vm
open Go.Am
variable {E:Env} {n bn:Nat} {L:Frame} {H:Heap} {nx:Nat}
def Lrn (ρ:Nat→Nat):Frame→Frame
 |[]=>[]
 |(i,v)::L=>(i,v.rn ρ)::Lrn ρ L
theorem a0b (ρ:Nat→Nat):∀ (L:Frame) (i:Nat),EY (Lrn ρ L) i=(EY L i).map (·.rn ρ)
 |[],_=>rfl
 |(j,v)::L,i=>by
  simp only [Lrn,DU];split
  ·rfl
  ·exact a0b ρ L i
theorem AX.swap {c:Code} {Q:BM→Frame→Heap→Nat→Prop} (a b:Nat) (ha:bn≤a) (hb:bn≤b) (ha':a<nx) (hb':b<nx) (h:AX E n bn c (Lrn (swp a b) L) (Hrn (swp a b) H) nx Q):AX E n bn c L H nx Q:=by
 intro hs hok hfl B hB m F σ t h1 h2 h3;have hr:∀ j,j<nx→swp a b j<nx∧htag (Hrn (swp a b) H) (swp a b j)=htag H j∧(fun i=>σ (swp a b i)) (swp a b j)=σ j:=fun j hj=>⟨vP ha' hb' hj,lT a b H j,by simp only [Oq]⟩
 have d1:=b1g ha' hb' h1;refine h hs hok hfl B hB m F _ t d1 (fun i v hi=>?_) ?_
 ·rw [a0b,ae] at hi
  obtain ⟨u,hu,rfl⟩:=hi;exact RP.rn hr (h2 i u hu)
 ·refine ⟨h3.size,h3.keep,h3.J6,h3.J8,fun c hc ho=>h3.Jl c hc (b1n ho),h3.WE,fun j hj=>?_,h3.low⟩
  have e:swp a b j=j:=b1s ha hb (by omega);have e2:=lT a b H j;rw [e] at e2;simp only [e,e2];exact h3.names j hj
theorem BD.b8j {ops:Array Oper} {l:List Oper} {R:Frame→Heap→Nat→Prop} {dst:Option Tmp} {ty:TypeId} {pos:String} {af:Array Edge} {fo:Operand} {args:Array Operand} {aT:Array TypeId} {g:FuncId} {fs cs Bq ac:List PV} {Hc:Heap} {Qc:PV→Heap→Nat→Prop} (ns:List Nat) (hc:FP E g ac Hc ns.length Qc)
 (hent:Enters E.P g) (hf:AU E.Γ L fo=some (.clo g fs cs)) (ha:evs E.Γ L args.toList=some Bq) (hle:Oe (fs++Bq++cs) (CS.rn (rho ns nx) ac)) (hu:CS.under ns.length ac) (xU:KR ns.length Hc) (hin:HIn (rho ns nx) H Hc) (hnd:ns.Nodup) (hlt:∀ b∈ns,b<nx)
 (hq:∀ r H' nx',Qc r H' nx'→BD E n bn ops l (Hu L dst (r.rn (rho ns nx))) (news ns.length (rho ns nx) H' (merge ns (rho ns nx) H' H)) (nx+(nx'-ns.length)) R) :
 BD E n bn ops (⟨dst,.call { callee:=.value fo,args:=args,argTypes:=aT },ty,pos,af,none⟩::l) L H nx R:=BD.ZL hent hf ha hle hu xU hin hnd hlt hc hq
end Go.Vm
namespace Go.Proofs.YtnjkoebfgcbbdaaGreatDoor
open Go Go.Am Go.Vm Go.Pie Go.Sch
attribute [local irreducible] Aa Aj Ah Ad AP Ap Bd BL Bf Ag Vm.Done BA AB OT AX BD DW Ie FP Hold
attribute [local irreducible] Ce Ba DV DN En AZ CB
abbrev Way:=List Int×Int
def PS (w:Way):FV:=.agg [.lst 3 (cells w.1) w.1.length,.int .i64 w.2]
def JI (es:List (J4×Way)):List (J4×PV):=es.map fun e=>(e.1,.p (PS e.2))
def LC (es:List (J4×Way)):HB:=MV (fun x:J4=>.agg (Enc.enc x)) (JI es)
theorem Uu {α β γ:Type} [DecidableEq α] (g:β→γ) (a:α):∀ es:List (α×β),BP (es.map fun e=>(e.1,g e.2)) a=(BP es a).map g
 |[]=>rfl
 |x::es=>by
  simp only [List.map_cons,BP];split
  ·rfl
  ·exact Uu g a es
theorem Uf {α β γ:Type} [DecidableEq α] (g:β→γ) (a:α) (b:β):∀ es:List (α×β),Cb (es.map fun e=>(e.1,g e.2)) a (g b)=(Cb es a b).map fun e=>(e.1,g e.2)
 |[]=>rfl
 |x::es=>by
  simp only [List.map_cons,Cb];split
  ·rfl
  ·rw [Uf g a b es];rfl
theorem CG (k:Nat) (es:List (J4×Way)):HB.under k (LC es):=by
 induction es with
 |nil=>exact trivial
 |cons e es ih=>exact ⟨trivial,ih⟩
theorem YC (ρ:Nat→Nat) (es:List (J4×Way)):(LC es).rn ρ=LC es:=by
 show HB.JC _ (CS.rn ρ ((JI es).map (·.2)))=HB.JC _ _;have:CS.rn ρ ((JI es).map (·.2))=(JI es).map (·.2):=by
  induction es with
  |nil=>rfl
  |cons e es ih =>
   show PV.rn ρ (PV.p (PS e.2))::CS.rn ρ ((JI es).map (·.2))=_;rw [ih];rfl
 grind
section
variable {L:Vm.Frame} {H:Vm.Heap} {nx:Nat} {Q:PV→Vm.Heap→Nat→Prop} {w:Bool} {dst:Option Tmp} {ty:TypeId} {pos:String} {af:Array Edge} {gd:Option (Nat×Bool)}
theorem b3t {t:TypeId} (q:Q (.mref nx) ((nx,LC [])::H) (nx+1)):Aa env w ⟨dst,.makeMap t none,ty,pos,af,gd⟩ L H nx Q:=Aa.Zt q
def foundW:Option Way→PV
 |none=>.p (.agg [.val (.slice none 0 0),.int .i64 0])
 |some w=>.p (PS w)
theorem lookW {t:TypeId} {x k:Operand} {b:Nat} {m:List (J4×Way)} {y:J4} (hx:AU env.Γ L x=some (.mref b)) (hb:hget H b=some (LC m)) (hk:AU env.Γ L k=some (.p (.agg (Enc.enc y))))
 (ht:env.P.underlying t=some (.map 124 127)) (q:Q (.D9 [foundW (BP m y),.p (.bool (BP m y).isSome)]) H nx):Aa env w ⟨dst,.lookup t x k true,ty,pos,af,gd⟩ L H nx Q:=by
 have hl:BP (JI m) y=(BP m y).map fun w=>PV.p (PS w):=Uu (fun w=>PV.p (PS w)) y m
 have hs:(BP (JI m) y).isSome=(BP m y).isSome:=by grind
 rw [← hs] at q;refine Aa.lookupGo (z:=.agg #[.slice none 0 0,.int .i64 0]) kF hx hb hk ht (by kernel_rfl) rfl ?_ q;cases h:BP m y with
 |none =>
  rw [h] at hl;exact KO.const hl rfl
 |some w =>
  rw [h] at hl;exact .inl hl
theorem b4v {t:TypeId} {x k:Operand} {b:Nat} {m:List (J4×Way)} {y:J4} (hl:BP m y=none) (hx:AU env.Γ L x=some (.mref b)) (hb:hget H b=some (LC m)) (hk:AU env.Γ L k=some (.p (.agg (Enc.enc y))))
 (ht:env.P.underlying t=some (.map 124 127)) (q:Q (.D9 [.p (.agg [.val (.slice none 0 0),.int .i64 0]),.p (.bool false)]) H nx):Aa env w ⟨dst,.lookup t x k true,ty,pos,af,gd⟩ L H nx Q :=
 lookW hx hb hk ht (by rw [hl];exact q)
theorem b5p {t:TypeId} {x k:Operand} {b:Nat} {m:List (J4×Way)} {y:J4} {v:Way} (hl:BP m y=some v) (hx:AU env.Γ L x=some (.mref b)) (hb:hget H b=some (LC m)) (hk:AU env.Γ L k=some (.p (.agg (Enc.enc y))))
 (ht:env.P.underlying t=some (.map 124 127)) (q:Q (.D9 [.p (PS v),.p (.bool true)]) H nx):Aa env w ⟨dst,.lookup t x k true,ty,pos,af,gd⟩ L H nx Q :=
 lookW hx hb hk ht (by rw [hl];exact q)
theorem b9u {t:TypeId} {x k y':Operand} {b:Nat} {m:List (J4×Way)} {y:J4} (v:Way) (hx:AU env.Γ L x=some (.mref b)) (hb:hget H b=some (LC m)) (hk:AU env.Γ L k=some (.p (.agg (Enc.enc y)))) (hy:AU env.Γ L y'=some (.p (PS v)))
 (ht:env.P.underlying t=some (.map 124 127)) (q:Q (.D9 []) (hput H b (LC (Cb m y v))) nx):Aa env true ⟨dst,.mapUpdate t x k y',ty,pos,af,gd⟩ L H nx Q :=
 Aa.yN kF hx hb hk hy ht (by
  show hput H b (MV _ (Cb (JI m) y (.p (PS v))))=hput H b (MV _ (JI (Cb m y v)));have:Cb (JI m) y (PV.p (PS v))=JI (Cb m y v):=Uf (fun w=>PV.p (PS w)) y v m;grind) q
theorem c0w {t:TypeId} {x k y':Operand} {b:Nat} {m:List (J4×Way)} {y:J4} (v:Way) (hx:AU env.Γ L x=some (.mref b)) (hb:hget H b=some (LC m)) (hk:AU env.Γ L k=some (.p (.agg (Enc.enc y)))) (hy:AU env.Γ L y'=some (.p (PS v)))
 (ht:env.P.underlying t=some (.map 124 127)) (q:Q (.D9 []) (hput H b (LC (Cb m y v))) nx):Aa env true ⟨dst,.insert t x k y',ty,pos,af,gd⟩ L H nx Q :=
 Aa.zx kF hx hb hk hy ht (by
  show hput H b (MV _ (Cb (JI m) y (.p (PS v))))=hput H b (MV _ (JI (Cb m y v)));have:Cb (JI m) y (PV.p (PS v))=JI (Cb m y v):=Uf (fun w=>PV.p (PS w)) y v m;grind) q
end
theorem nH (q:Qu) (hq:Jy q) {t:Nat} (ht:t<(A8 q.p).length) {l:List Int} (hl:a2v q t l) {x:List Int} (hx:x∈kE q t l):x.length=q.p.notes.length∧∀ i,i<x.length→0≤gi x i∧gi x i≤2:=by
 have hS:=Xl q hq;have hll:=hl.len;have hm:=(MP (nw:=MJ q t) (f:=fQ q t) (l:=l) (kQ q t) (hS.inj t ht) (fun j hj=>by rw [hll];exact hS.rng t ht j hj) hl.zero x).1 (List.mem_filter.1 hx).1;refine ⟨hm.1.trans hll,fun i hi=>?_⟩;have h2:=hm.2 i (by omega);by_cases h:Vs (MJ q t) (fQ q t) (kQ q t) i
 ·rcases h2.1 h with e|e<;>omega
 ·rw [h2.2 h];exact hl.rng i (by omega)
theorem sW (q:Qu) (t:Nat) (hM:kQ q t≤12) (l:List Int):(kE q t l).length≤4096:=by
 refine am (dd _ _) (am (ZM _ _ _ _).2 ?_);exact az (by decide) (show kQ q t≤12 by omega)
def a5z (q:Qu) (t:Nat) (e:J4×Way):List (J4×Way):=(kE q t e.2.1).map fun x=>(GV q t e.1 x,(x,e.2.2+KQ q t e.1 x))
def b1m (q:Qu) (t:Nat) (x:J4) (l:List Int):Nat→J4
 |0=>⟨O9 (IY q t) l,x.c0,x.c1,x.b0,x.b1⟩
 |1=>⟨O9 (IY q t) l,if (Fh q l 0 t).1=true then (Fh q l 0 t).2 else x.c0,x.c1,(Fh q l 0 t).1||x.b0,x.b1⟩
 |_=>GV q t x l
def a2f (q:Qu) (t:Nat) (x:J4) (c:Int) (l:List Int):Nat→Int
 |0=>c
 |1=>c+Gj (Fh q l 0 t) x.b0 x.c0
 |_=>c+Gj (Fh q l 0 t) x.b0 x.c0+Gj (Fh q l 1 t) x.b1 x.c1
theorem a6t (q:Qu) (t:Nat) (x:J4) (c:Int) (l:List Int):a2f q t x c l 2=c+KQ q t x l:=by
 show c+Gj (Fh q l 0 t) x.b0 x.c0+Gj (Fh q l 1 t) x.b1 x.c1=c+(Gj (Fh q l 0 t) x.b0 x.c0+Gj (Fh q l 1 t) x.b1 x.c1);omega
def both (b c:Bool) (v w:Int):Int:=bif b then (bif c then v else w) else w
theorem rV (x:Int) (b c:Bool) (a d:Wp):x+Gj (b,a) c d=both b c (x+mvC d a) x:=by cases b<;>cases c<;>simp [Gj,both]
theorem ZJ (r:Bool×Wp) (b:Bool) (c:Wp) (hr:r.2.Ok) (hc:c.Ok):0≤Gj r b c∧Gj r b c≤139:=by
 have:=QI hc hr;unfold Gj;omega
theorem a8o {n:Nat} {m:List (J4×Way)} {d:J4×Way} (hm:∀ e∈m,e.2.1.length=n) (hd:d.2.1.length=n):∀ e∈SV m d,e.2.1.length=n:=fun e he=>by
 have key:∀ e∈Cb m d.1 d.2,e.2.1.length=n:=fun e he=>by
  rcases Px he with h|h|h
  ·grind
  ·grind
  grind
 unfold SV at he;grind
structure b9y (q:Qu) (t:Nat) (e:J4×Way):Prop where
 way:a2v q t e.2.1
 cost:0≤e.2.2∧e.2.2≤1000000000000
 c0:e.1.c0.Ok
 c1:e.1.c1.Ok
instance:Inhabited (J4×Way):=⟨(st0,([],0))⟩
def RY (q:Qu) (t:Nat) (es:List (J4×Way)) (V:List Nat):List (J4×Way):=((V.map (gi es)).flatMap (a5z q t)).foldl SV []
theorem Pj:Am.Enters Tryz.prog 41:=⟨_,Tryz.func41,by rfl,by rfl⟩
theorem uF (q:Qu) (hq:Jy q) (t:Nat) (ht:t<(A8 q.p).length) (hM:kQ q t≤12) (es:List (J4×Way)) (hes:∀ e∈es,b9y q t e) :
 FP env 39 [.p (.agg (Enc.enc q)),.p (.agg (Enc.enc (MZ q t))),.mref 0] [(0,LC es)] 1 (fun r H' nx'=>∃ V:List Nat,V.Nodup∧(∀ i,i∈V↔i<es.length)∧r=.mref 1∧H'=[(1,LC (RY q t es V))]∧nx'=2):=by
 refine FP.enter Tryz.func39 rfl (by kernel_rfl) (by kernel_rfl) (by simp [Tryz.ntmps39]) ?_
 repeat' (first|((refine AX.at 2 ?_;refine Hold.of ?_))|apply AX.Bz|apply AX.to|refine go1 ?_|(apply b3t))
 all_goals try (exfalso;omega)
 refine Hold.go ?_;refine AX.jM (fun m:List (J4×Way)=>[(3,.ref 1 0),(4,.ref 2 0),(7,.mref 3),(21,.mref 0)]) (fun m=>[(0,LC es),(1,dG q),(2,slB (MZ q t)),(3,LC m)]) (fun V m=>m=RY q t es V∧∀ e∈m,e.2.1.length=q.p.notes.length) [] (Dp:=4) (b:=0) (ks:=(JI es).map fun x=>.agg (Enc.enc x.1)) (cs:=(JI es).map (·.2)) rfl rfl (by decide) rfl ⟨rfl,fun e h=>absurd h be⟩ ⟨by decide,?_,?_⟩ rfl (fun _=>⟨rfl,rfl,rfl⟩) (fun _ _ _=>rfl) (by simp) rfl (by kernel_rfl) (by kernel_rfl) (by decide) ?_ ?_
 ·exact C9
 ·repeat (first|exact BJ.nil|(refine BJ.cons (Bj rfl) ?_ rfl ?_ ?_;(first|exact CG _ _|exact CU _ _|exact HB.Az rfl|exact CS.Bg _ _|(simp [HB.under,CS.under,PV.under]));(first|exact JU.refl _|exact JU.vec (Ji.refl _) (by simp))))
 ·rintro V m i kk c ⟨hi,hml⟩ hnd hni hk hc
  subst hi;have hil:i<es.length:=by
   have:=(bu.1 hk).1;simpa [JI] using this
  have hm:=Es hil;have hei:es[i]?=some (gi es i):=by unfold gi;rw [ai hil];rfl
  have hE:=hes _ hm;have ek:kk=.agg (Enc.enc (gi es i).1):=by
   unfold JI at hk;rw [av,av,hei] at hk;simpa using hk.symm
  have ec:c=.p (PS (gi es i).2):=by
   unfold JI at hc;rw [av,av,hei] at hc;simpa using hc.symm
  subst ek;subst ec;have hfold:RY q t es (V++[i])=(a5z q t (gi es i)).foldl SV (RY q t es V):=by
   unfold RY;rw [bl,hX,cX,List.map_singleton,gC]
  rw [hfold];clear hfold;generalize RY q t es V=m0 at *;generalize gi es i=e at *;obtain ⟨⟨nw,c0,c1,b0,b1⟩,l,cc⟩:=e;obtain ⟨h1,h2,h3,h4⟩:=hE;simp only at h1 h2 h3 h4;have hch:=Ub q hq t ht hM l h1;have hwy:=fun y hy=>nH q hq ht h1 (x:=y) hy
  have hLl:=sW q t hM l;unfold a5z;simp only;generalize kE q t l=L at *;have hN:dH q (MZ q t).notes:=KZ ht;have hNl:(MZ q t).notes.length≤1000:=Tc hq ht;obtain ⟨G,hG⟩:∃ G:List Int→J4×Way,G=fun y=>(GV q t ⟨nw,c0,c1,b0,b1⟩ y,(y,cc+KQ q t ⟨nw,c0,c1,b0,b1⟩ y)):=⟨_,rfl⟩
  rw [← hG]
  repeat' (first|(refine AX.at 5 ?_;apply AX.I5)|(apply BD.fn;rfl;rfl;exact hch;exact Pj;intro _;rfl)|apply AX.block|apply BD.nil|apply BD.one|refine go1 ?_|fail)
  all_goals try (exfalso;omega)
  refine AX.og ?_;apply Ad.Ii (L.length) (fun k=>∀ e∈((L.take k).map G).foldl SV m0,e.2.1.length=q.p.notes.length) [(3,_),(4,_),(7,_),(8,_),(9,_),(21,_),(32,_),(33,_)] [(0,_),(1,_),(2,_),(4,_),(5,_)] (fun k r=>(34,.p (.int .i64 (k:Int)))::r) (fun k r=>(3,LC (((L.take k).map G).foldl SV m0))::r) 6
  ·first|omega|decide
  ·first|omega|decide
  ·exact Nl
  ·repeat (first|exact BJ.nil|(refine BJ.eq rfl (Bj rfl) ?_ ?_;(first|exact CG _ _|exact CU _ _|exact HB.Az rfl|exact CS.Bg _ _|(simp [HB.under,CS.under,PV.under];done)))|(refine BJ.cons (Bj rfl) ?_ rfl ?_ ?_;(first|exact CG _ _|exact CU _ _|exact trivial|exact CS.Bg _ _|(simp [HB.under,CS.under,PV.under]));(first|exact JU.refl _|exact JU.vec (Ji.refl _) (by simp))))
  ·first|(intro _ _;omega)|omega|trivial
  ·intro k hk hi
   obtain ⟨y1,y2⟩:=hwy _ (Es hk);have e1:((L.take (k+1)).map G).foldl SV m0=SV (((L.take k).map G).foldl SV m0) (G (gi L k)):=by
    rw [DX hk,bl,cX];rfl
   rw [e1];clear e1;generalize ((L.take k).map G).foldl SV m0=m at *;have n1:=hq.p.notes;have b3c:=sS q (MZ q t) hN hNl (gi L k) y1 y2;have hh0:=KD q hq (MZ q t) hN hNl (gi L k) 0 y1;have hh1:=KD q hq (MZ q t) hN hNl (gi L k) 1 y1;have a0:=Vg hq hN (gi L k) 0 _ (ab _);have a1:=Vg hq hN (gi L k) 1 _ (ab _);have hr0:TG q.p (MZ q t).notes (gi L k) 0 (MZ q t).notes.length=Fh q (gi L k) 0 t:=rfl;have hr1:TG q.p (MZ q t).notes (gi L k) 1 (MZ q t).notes.length=Fh q (gi L k) 1 t:=rfl;have es0:b1m q t ⟨nw,c0,c1,b0,b1⟩ (gi L k) (0+1)=⟨O9 (IY q t) (gi L k),if (Fh q (gi L k) 0 t).1=true then (Fh q (gi L k) 0 t).2 else c0,c1,(Fh q (gi L k) 0 t).1||b0,b1⟩:=rfl;have es1:b1m q t ⟨nw,c0,c1,b0,b1⟩ (gi L k) (1+1)=⟨O9 (IY q t) (gi L k),if (Fh q (gi L k) 0 t).1=true then (Fh q (gi L k) 0 t).2 else c0,if (Fh q (gi L k) 1 t).1=true then (Fh q (gi L k) 1 t).2 else c1,(Fh q (gi L k) 0 t).1||b0,(Fh q (gi L k) 1 t).1||b1⟩:=rfl;have ec0:a2f q t ⟨nw,c0,c1,b0,b1⟩ cc (gi L k) (0+1)=cc+Gj (Fh q (gi L k) 0 t) b0 c0:=rfl;have ec1:a2f q t ⟨nw,c0,c1,b0,b1⟩ cc (gi L k) (1+1)=cc+Gj (Fh q (gi L k) 0 t) b0 c0+Gj (Fh q (gi L k) 1 t) b1 c1:=rfl;rw [hr0] at hh0 a0;rw [hr1] at hh1 a1
   repeat' (first|(refine Ah.atIdx 4 ?_;apply Ah.weak [.tmp 39];decide +kernel;rfl;rfl;(first|exact UK.ref rfl|exact UK.vec rfl|exact UK.FB rfl);decide +kernel;rfl)|apply Ad.assoc|apply Ad.Bz|apply Ad.Cm|apply Ad.Gg|apply Ad.Fz|apply Aj.nil|apply Ah.nil|apply Aj.one|(apply Ah.bar;decide +kernel)|apply Ah.quiet|(apply Aa.fn;rfl;rfl;exact b3c;intro _;rfl)|(apply Aa.assign;rfl)|(apply Aa.move;rfl)|(apply Aa.int;rfl;rfl;rfl)|(apply Aa.Ak;rfl;rfl;rfl;omega;rfl)|(apply Aa.load;rfl;rfl)|(apply Aa.Ij;rfl;rfl;rfl)|(apply Aa.alloc;rfl)|(apply Aa.FI;rfl;rfl;rfl;trivial;rfl;rfl;exact Bj rfl;exact le_dec rfl)|(apply Ad.Ac;rfl)|(intro _;try (exfalso;omega)))
   all_goals try (exfalso;omega)
   apply Ad.Fq (2) [(3,_),(4,_),(7,_),(8,_),(9,_),(11,_),(12,_),(21,_),(32,_),(33,_),(34,_)] [(0,_),(1,_),(2,_),(3,_),(4,_),(5,_)] (fun k_ r=>(46,.p (.int .i64 (k_:Int)))::(13,.p (.int .i64 (a2f q t ⟨nw,c0,c1,b0,b1⟩ cc (gi L k) k_)))::r) (fun k_ r=>(6,.box 124 ((Enc.enc (b1m q t ⟨nw,c0,c1,b0,b1⟩ (gi L k) k_)).map .p))::r) 7
   ·first|omega|decide
   ·first|omega|decide
   ·exact Nl
   ·repeat (first|exact BJ.nil|(refine BJ.eq rfl (Bj rfl) ?_ ?_;(first|exact CG _ _|exact CU _ _|exact HB.Az rfl|exact CS.Bg _ _|(simp [HB.under,CS.under,PV.under];done)))|(refine BJ.cons (Bj rfl) ?_ rfl ?_ ?_;(first|exact CG _ _|exact CU _ _|exact trivial|exact CS.Bg _ _|(simp [HB.under,CS.under,PV.under]));(first|exact JU.refl _|exact JU.vec (Ji.refl _) (by simp))))
   ·intro k_ hk_
    obtain rfl|rfl:k_=0∨k_=1:=by omega
    ·generalize Fh q (gi L k) 0 t=r0 at *
     obtain ⟨b,a⟩:=r0;have a0:a.Ok:=a0;have hm0:=Vt c0 a h3 a0;have hmr:=QI h3 a0;have hk0:a2f q t ⟨nw,c0,c1,b0,b1⟩ cc (gi L k) 0=cc:=rfl;have ei:cc+Gj (b,a) b0 c0=both b b0 (cc+mvC c0 a) cc:=rV cc b b0 a c0;rw [ec0,es0,ei];cases b<;>cases b0
     all_goals
      repeat' (first|(apply Aa.fn;rfl;rfl;exact hh0;intro _;rfl)|(apply Aa.fn;rfl;rfl;exact hm0;intro _;rfl)|(apply Aa.UC;rfl;rfl;rfl;rfl;rfl;decide)|refine go2 ?_|(apply Aa.int;rfl;rfl;rfl)|(apply Ad.AV;rfl)|(apply Ad.Ai;rfl))
     all_goals try (exfalso;omega)
     all_goals try contradiction
     all_goals
      refine Ag.normal ⟨by first|omega|decide,?_,?_⟩
      ·exact C9
      ·repeat (first|exact BJ.nil|(refine BJ.cons (Bj rfl) ?_ rfl ?_ ?_;(first|exact CG _ _|exact CU _ _|exact HB.Az rfl|exact CS.Bg _ _|(simp [HB.under,CS.under,PV.under]));(first|exact JU.refl _|exact JU.vec (Ji.refl _) (by simp))))
    ·generalize Fh q (gi L k) 1 t=r1 at *
     obtain ⟨b,a⟩:=r1;have a1:a.Ok:=a1;have hm0:=Vt c1 a h4 a1;have hmr:=QI h4 a1;have hk2:a2f q t ⟨nw,c0,c1,b0,b1⟩ cc (gi L k) 1=cc+Gj (Fh q (gi L k) 0 t) b0 c0:=ec0;have hin:0≤Gj (Fh q (gi L k) 0 t) b0 c0∧Gj (Fh q (gi L k) 0 t) b0 c0≤139:=ZJ _ _ _ a0 h3;have es2:=es0;simp only [Nat.zero_add] at es2;generalize Fh q (gi L k) 0 t=r0 at *;rw [ec1,es1,hk2,es2];generalize Gj r0 b0 c0=i0 at *;have ei:cc+i0+Gj (b,a) b1 c1=both b b1 (cc+i0+mvC c1 a) (cc+i0):=rV (cc+i0) b b1 a c1;rw [ei];generalize (if r0.1=true then r0.2 else c0)=c0' at *;generalize (r0.1||b0)=b0' at *;cases b<;>cases b1
     all_goals
      repeat' (first|(apply Aa.fn;rfl;rfl;exact hh1;intro _;rfl)|(apply Aa.fn;rfl;rfl;exact hm0;intro _;rfl)|(apply Aa.UC;rfl;rfl;rfl;rfl;rfl;decide)|refine go2 ?_|(apply Aa.int;rfl;rfl;rfl)|(apply Ad.AV;rfl)|(apply Ad.Ai;rfl))
     all_goals try (exfalso;omega)
     all_goals try contradiction
     all_goals
      refine Ag.normal ⟨by first|omega|decide,?_,?_⟩
      ·exact C9
      ·repeat (first|exact BJ.nil|(refine BJ.cons (Bj rfl) ?_ rfl ?_ ?_;(first|exact CG _ _|exact CU _ _|exact HB.Az rfl|exact CS.Bg _ _|(simp [HB.under,CS.under,PV.under]));(first|exact JU.refl _|exact JU.vec (Ji.refl _) (by simp))))
   ·have e2:b1m q t ⟨nw,c0,c1,b0,b1⟩ (gi L k) 2=GV q t ⟨nw,c0,c1,b0,b1⟩ (gi L k):=rfl
    have hi0:=ZJ (Fh q (gi L k) 0 t) b0 c0 a0 h3;have hi1:=ZJ (Fh q (gi L k) 1 t) b1 c1 a1 h4;have hiq:KQ q t ⟨nw,c0,c1,b0,b1⟩ (gi L k)=Gj (Fh q (gi L k) 0 t) b0 c0+Gj (Fh q (gi L k) 1 t) b1 c1:=rfl;have hGk:G (gi L k)=(GV q t ⟨nw,c0,c1,b0,b1⟩ (gi L k),(gi L k,cc+KQ q t ⟨nw,c0,c1,b0,b1⟩ (gi L k))):=by rw [hG]
    rw [hGk,a6t,e2];have hnl:=a8o (d:=(GV q t ⟨nw,c0,c1,b0,b1⟩ (gi L k),(gi L k,cc+KQ q t ⟨nw,c0,c1,b0,b1⟩ (gi L k)))) hi y1;have hcb:0≤cc+KQ q t ⟨nw,c0,c1,b0,b1⟩ (gi L k)∧cc+KQ q t ⟨nw,c0,c1,b0,b1⟩ (gi L k)≤1000000000278:=by rw [hiq];omega
    generalize cc+KQ q t ⟨nw,c0,c1,b0,b1⟩ (gi L k)=c' at *;generalize GV q t ⟨nw,c0,c1,b0,b1⟩ (gi L k)=sq at *;have ei:SV m (sq,(gi L k,c'))=match BP m sq with|none=>Cb m sq (gi L k,c')|some o=>if ltB (gi L k,c') o=true then Cb m sq (gi L k,c') else m:=rfl
    cases hl:BP m sq with
    |none =>
     rw [hl] at ei;simp only at ei;rw [ei] at hnl ⊢
     repeat' (first|(apply b4v (m:=m) (y:=sq) hl;rfl;rfl;rfl;rfl)|(apply b9u (m:=m) (y:=sq) (gi L k,c');rfl;rfl;rfl;rfl;rfl)|refine O8 ?_|(apply Aa.build;rfl;rfl;rfl;rfl;rfl)|(apply Ad.Ai;rfl)|(apply Ad.cond_true;rfl))
     all_goals try (exfalso;omega)
     all_goals try contradiction
     refine Ag.normal ⟨hnl,by first|omega|decide,?_,?_⟩
     ·exact C9
     ·repeat (first|exact BJ.nil|(refine BJ.cons (Bj rfl) ?_ rfl ?_ ?_;(first|exact CG _ _|exact CU _ _|exact HB.Az rfl|exact CS.Bg _ _|(simp [HB.under,CS.under,PV.under]));(first|exact JU.refl _|exact JU.vec (Ji.refl _) (by simp))))
    |some o =>
     obtain ⟨ol,oc⟩:=o;have hol:ol.length=q.p.notes.length:=hi _ (KH hl);have hcmp:=Rz (gi L k) ol (by omega) (by omega);rw [hl] at ei;simp only at ei;have hb:ltB (gi L k,c') (ol,oc)=(decide (c'<oc)||(decide (c'=oc)&&decide (cmpL (gi L k) ol<0))):=rfl;rw [hb] at ei;generalize cmpL (gi L k) ol=cm at *;by_cases g1:c'<oc;all_goals by_cases g2:c'=oc
     all_goals by_cases g3:cm<0
     all_goals first|rw [decide_eq_true g1] at ei|rw [decide_eq_false g1] at ei
     all_goals first|rw [decide_eq_true g2] at ei|rw [decide_eq_false g2] at ei
     all_goals first|rw [decide_eq_true g3] at ei|rw [decide_eq_false g3] at ei
     all_goals simp only [Bool.true_or,Bool.false_or,Bool.true_and,Bool.false_and,Bool.false_eq_true,if_true,if_false] at ei
     all_goals rw [ei] at hnl ⊢
     all_goals
      repeat' (first|(apply b5p (m:=m) (y:=sq) hl;rfl;rfl;rfl;rfl)|(apply Aa.fn;rfl;rfl;exact hcmp;intro _;rfl)|(apply b9u (m:=m) (y:=sq) (gi L k,c');rfl;rfl;rfl;rfl;rfl)|refine IE ?_|(apply Aj.guard;rfl;rfl)|(apply Aa.int;rfl;rfl;rfl)|(apply Aa.build;rfl;rfl;rfl;rfl;rfl)|(apply Ad.Ai;rfl)|(apply Ad.cond_true;rfl)|(apply Ad.cond_false;rfl)|(apply Ad.Ar;rfl)|(intro _;try (exfalso;omega)))
     all_goals try (exfalso;omega)
     all_goals try contradiction
     all_goals
      refine Ag.normal ⟨hnl,by first|omega|decide,?_,?_⟩
      ·exact C9
      ·repeat (first|exact BJ.nil|(refine BJ.cons (Bj rfl) ?_ rfl ?_ ?_;(first|exact CG _ _|exact CU _ _|exact HB.Az rfl|exact CS.Bg _ _|(simp [HB.under,CS.under,PV.under]));(first|exact JU.refl _|exact JU.vec (Ji.refl _) (by simp))))
  ·intro hi
   rw [co] at hi ⊢
   repeat' (first|refine IG ?_|(apply Ad.Ac;rfl)|(intro _;try (exfalso;omega)))
   all_goals try (exfalso;omega)
   refine Ag.normal ⟨_,⟨rfl,hi⟩,⟨by decide,?_,?_⟩⟩
   ·exact C9
   ·repeat (first|exact BJ.nil|(refine BJ.cons (Bj rfl) ?_ rfl ?_ ?_;(first|exact CG _ _|exact CU _ _|exact HB.Az rfl|exact CS.Bg _ _|(simp [HB.under,CS.under,PV.under]));(first|exact JU.refl _|exact JU.vec (Ji.refl _) (by simp))))
 ·rintro V m ⟨hi,_⟩ hnd h1 h2
  subst hi;refine DW.normal ?_;refine AX.swap 1 3 (by decide) (by decide) (by decide) (by decide) ?_;have e:Hrn (swp 1 3) [(0,LC es),(1,dG q),(2,slB (MZ q t)),(3,LC (RY q t es V))]=[(0,LC es),(3,(dG q).rn (swp 1 3)),(2,(slB (MZ q t)).rn (swp 1 3)),(1,LC (RY q t es V))]:=by
   simp only [Hrn,YC];rfl
  rw [e]
  repeat' (first|apply AX.Bz|apply AX.ret|refine go2 ?_|fail)
  have hc:JI es=es.map fun e=>(e.1,PV.p (PS e.2)):=rfl
  simp only [List.length_map,hc] at h1 h2;refine Done.ret rfl (.refl _) (Bj rfl) ?_ (by decide) (by decide) ⟨V,hnd,fun i=>⟨h2 i,h1 i⟩,rfl,rfl,rfl⟩;repeat (first|exact BJ.nil|(refine BJ.cons (Bj rfl) ?_ rfl ?_ ?_;(first|exact CG _ _|exact CU _ _|exact HB.Az rfl|exact CS.Bg _ _|(simp [HB.under,CS.under,PV.under]));(first|exact JU.refl _|exact JU.vec (Ji.refl _) (by simp))))
end Go.Proofs.YtnjkoebfgcbbdaaGreatDoor
namespace Go.Proofs.YtnjkoebfgcbbdaaGreatDoor
open Go Go.Am Go.Vm Go.Pie Go.Sch
attribute [local irreducible] Ce Ba DV DN En AZ CB
def Tj (L:List Pos):Int:=kN L (L.length-1)
theorem nX (L:List Pos) (p:Pos):∀ k,k<L.length→kN (L++[p]) k=kN L k
 |0,_=>rfl
 |k+1,h=>by
  unfold kN;rw [nX L p k (by omega),UR (by omega),UR (by omega)]
def aN (L:List Pos) (p:Pos):Int:=match L.getLast? with|none=>0|some x=>if p.h=x.h then mvC x.c p.c else 0
theorem VR (L:List Pos) (p:Pos):Tj (L++[p])=Tj L+aN L p:=by
 unfold Tj aN;rcases bm L.length with h|h
 ·obtain rfl:=ar.1 h
  rfl
 ·obtain ⟨m,hm⟩:∃ m,L.length=m+1:=⟨L.length-1,by omega⟩
  have e1:(L++[p]).length-1=m+1:=by grind
  have e2:L.getLast?=some (gi L m):=by
   unfold gi;grind
  have e3:gi (L++[p]) (m+1)=p:=by rw [← hm];exact aB
  rw [e1,e2,hm,Nat.add_sub_cancel];have e4:kN (L++[p]) (m+1)=if (gi (L++[p]) (m+1)).h=(gi (L++[p]) m).h then kN (L++[p]) m+mvC (gi (L++[p]) m).c (gi (L++[p]) (m+1)).c else kN (L++[p]) m:=rfl
  rw [e4,nX L p m (by omega),e3,UR (by omega)];grind
theorem kV (q:Qu) (l:List Int) (h:Int):∀ k,∀ x∈Dq q l h k,x.h=h
 |0,x,hx=>absurd hx be
 |k+1,x,hx=>by
  unfold Dq at hx;split at hx
  ·rcases bk.1 hx with hx|hx
   ·exact kV q l h k x hx
   grind
  ·exact kV q l h k x hx
theorem getLast_mem {α:Type} {L:List α} {x:α} (h:L.getLast?=some x):x∈L :=by grind
theorem qo (q:Qu) (l:List Int) (A:List Pos) (hA:∀ x∈A,x.h=0):∀ k,Tj (A++Dq q l 1 k)=Tj A+Tj (Dq q l 1 k)
 |0=>by
  show Tj (A++[])=Tj A+Tj [];rw [cJ];show Tj A=Tj A+0;omega
 |k+1=>by
  have ih:=qo q l A hA k;unfold Dq;split
  ·rw [← bR,VR,VR,ih]
   have:aN (A++Dq q l 1 k) ⟨1,k,(Fh q l 1 k).2⟩=aN (Dq q l 1 k) ⟨1,k,(Fh q l 1 k).2⟩:=by
    unfold aN;grind
   omega
  omega
def XH (L:List Pos) (b:Bool) (c:Wp):Prop:=match L.getLast? with|none=>b=false|some x=>b=true∧c=x.c
theorem uj {L:List Pos} {b:Bool} {c:Wp} (p:Pos):XH (L++[p]) true p.c:=by
 unfold XH;simp
theorem a1g {q:Qu} {l:List Int} {h:Int} {k:Nat} {b:Bool} {c:Wp} (hp:XH (Dq q l h k) b c) (r:Bool×Wp) (hr:r.1=true) (i:Int):aN (Dq q l h k) ⟨h,i,r.2⟩=Gj r b c:=by
 unfold XH at hp;unfold aN Gj;rw [if_pos hr];cases h1:(Dq q l h k).getLast? with
 |none =>
  grind
 |some x =>
  rw [h1] at hp;simp only at hp ⊢;obtain ⟨hb,hc⟩:=hp;rw [hb,if_pos rfl,if_pos (kV q l h k x (getLast_mem h1)).symm,hc]
theorem fK (q:Qu) (l:List Int):∀ t,XH (Dq q l 0 t) (JF st0 (GV q) l t).b0 (JF st0 (GV q) l t).c0∧XH (Dq q l 1 t) (JF st0 (GV q) l t).b1 (JF st0 (GV q) l t).c1∧cF st0 (GV q) (KQ q) l t=Tj (Dq q l 0 t)+Tj (Dq q l 1 t)
 |0=>⟨rfl,rfl,rfl⟩
 |t+1=>by
  obtain ⟨h0,h1,h2⟩:=fK q l t;have e0:JF st0 (GV q) l (t+1)=GV q t (JF st0 (GV q) l t) l:=rfl;have e1:cF st0 (GV q) (KQ q) l (t+1)=cF st0 (GV q) (KQ q) l t+KQ q t (JF st0 (GV q) l t) l:=rfl;rw [e0,e1,h2];generalize JF st0 (GV q) l t=x at *;obtain ⟨nw,c0,c1,b0,b1⟩:=x;simp only at h0 h1;have key:∀ (h:Int) (b:Bool) (c:Wp),XH (Dq q l h t) b c→XH (Dq q l h (t+1)) ((Fh q l h t).1||b) (if (Fh q l h t).1=true then (Fh q l h t).2 else c)∧Tj (Dq q l h (t+1))=Tj (Dq q l h t)+Gj (Fh q l h t) b c:=fun h b c hp=>by
   have hi:=a1g hp (Fh q l h t);have e2:Dq q l h (t+1)=if (Fh q l h t).1=true then Dq q l h t++[⟨h,t,(Fh q l h t).2⟩] else Dq q l h t:=rfl
   rw [e2];by_cases hr:(Fh q l h t).1=true
   ·rw [if_pos hr,if_pos hr,VR,hi hr,hr]
    exact ⟨uj (b:=b) (c:=c) ⟨h,t,(Fh q l h t).2⟩,rfl⟩
   ·rw [if_neg hr,if_neg hr]
    have hf:(Fh q l h t).1=false:=by simpa using hr
    rw [hf];refine ⟨by simpa using hp,?_⟩;unfold Gj;rw [if_neg hr];omega
  obtain ⟨k0,k1⟩:=key 0 b0 c0 h0;obtain ⟨k2,k3⟩:=key 1 b1 c1 h1;refine ⟨k0,k2,?_⟩;rw [k1,k3];unfold KQ;simp only;omega
theorem rZ (q:Qu) (l:List Int):cF st0 (GV q) (KQ q) l (A8 q.p).length=GY q l:=by
 rw [(fK q l _).2.2];exact (qo q l _ (kV q l 0 _) _).symm
theorem xO (q:Qu) (hq:Jy q) (l:List Int):∀ t,t≤(A8 q.p).length→(JF st0 (GV q) l t).c0.Ok∧(JF st0 (GV q) l t).c1.Ok∧0≤cF st0 (GV q) (KQ q) l t∧cF st0 (GV q) (KQ q) l t≤278*t
 |0,_=>⟨⟨bc _,by show (0:Int)≤127;omega⟩,⟨bc _,by show (0:Int)≤127;omega⟩,bc _,bc _⟩
 |t+1,ht=>by
  obtain ⟨h0,h1,h2,h3⟩:=xO q hq l t (by omega);have a0:=Vg hq (KZ (q:=q) (i:=t) (by omega)) l 0 _ (ab _);have a1:=Vg hq (KZ (q:=q) (i:=t) (by omega)) l 1 _ (ab _);have e0:JF st0 (GV q) l (t+1)=GV q t (JF st0 (GV q) l t) l:=rfl;have e1:cF st0 (GV q) (KQ q) l (t+1)=cF st0 (GV q) (KQ q) l t+KQ q t (JF st0 (GV q) l t) l:=rfl;rw [e0,e1];generalize JF st0 (GV q) l t=x at *;have key:∀ (r:Bool×Wp) (b:Bool) (c:Wp),r.2.Ok→c.Ok→0≤Gj r b c∧Gj r b c≤139:=fun r b c hr hc=>by
   have:=QI hc hr;unfold Gj;omega
  have k0:=key (Fh q l 0 t) x.b0 x.c0 a0 h0;have k1:=key (Fh q l 1 t) x.b1 x.c1 a1 h1;refine ⟨?_,?_,?_,?_⟩
  ·show Wp.Ok (if (Fh q l 0 t).1=true then (Fh q l 0 t).2 else x.c0)
   split
   ·exact a0
   omega
  ·show Wp.Ok (if (Fh q l 1 t).1=true then (Fh q l 1 t).2 else x.c1)
   split
   ·exact a1
   omega
  ·show 0≤_+(Gj (Fh q l 0 t) x.b0 x.c0+Gj (Fh q l 1 t) x.b1 x.c1)
   omega
  ·show _+(Gj (Fh q l 0 t) x.b0 x.c0+Gj (Fh q l 1 t) x.b1 x.c1)≤278*((t+1:Nat):Int)
   omega
theorem YP {q:Qu} (hM:∀ t,t<(A8 q.p).length→kQ q t≤12):b0d q=false:=by
 unfold b0d Et;rw [UG (fun i hi=>decide_eq_false (by have:=hM i hi;unfold kQ at this;omega)) _ (ab _)];rfl
end Go.Proofs.YtnjkoebfgcbbdaaGreatDoor
