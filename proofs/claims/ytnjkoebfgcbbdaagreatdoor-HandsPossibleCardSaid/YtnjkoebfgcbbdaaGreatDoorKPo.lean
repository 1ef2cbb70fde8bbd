/-
  Texts of a proof, merged (HanK, Wm1, Wm3, HanL, PieT, PieU, PieS, TraA, PieN, PieO, RkQ, OrK, OrP, PieV, PieY, Sch). Conditions: in each statement.
-/
import Derived.Maps.RangeRun
import Derived.Test.YtnjkoebfgcbbdaaGreatDoorKPn
set_option linter.unusedSimpArgs false
set_option linter.unusedVariables false
set_option linter.unusedSectionVars false
set_option maxRecDepth 100000
set_option maxHeartbeats 8000000
abbrev bh:=@List.not_mem_nil
abbrev cK:=@List.mem_flatMap
abbrev cQ:=@List.nodup_append
abbrev er:=@List.mem_filter
abbrev gz:=@List.Pairwise.imp_of_mem
abbrev gA:=@List.countP_cons
namespace Go.Proofs.YtnjkoebfgcbbdaaGreatDoor
open Go Go.Am Go.Vm Go.Pie
attribute [local irreducible] Aa Aj Ag Ad AL Ak Bd BL Bl Ai Vm.Done BD AO Qh
attribute [local irreducible] CJ Bf Eb DW EF A8 Cj
def Xu(q:Qu)(k:Nat):List Int:=Bc (fun i=>if i<k∧Gj q i=true then 2 else 0) q.p.notes.length
def Ob(q:Qu):List Int:=Xu q q.p.notes.length
theorem Oc(q:Qu)(k:Nat):(Xu q k).length=q.p.notes.length:=Cc _ _
theorem kD(q:Qu):∀n,List.replicate n (0:Int)=Bc (fun i=>if i<0∧Gj q i=true then(2:Int) else 0) n
 |0=>rfl
 |n+1=>by
  rw[ic,kD q n];rfl
theorem b2e(q:Qu){k:Nat}(j:k<q.p.notes.length)(h:Gj q k=true):(Xu q k).set k 2=Xu q (k+1):=by
 refine La (by rw[cN,Oc,Oc]) fun i g=>?_
 rw[cN,Oc] at g;unfold Xu;rw[G5,Dy _ g,Dy _ g,Cc];grind
theorem a6l(q:Qu){k:Nat}(h:Gj q k=false):Xu q k=Xu q (k+1):=by
 unfold Xu;grind
theorem fH(q:Qu)(j:KE q):Ak env 37 [.agg (Enc.enc q)] (.p (.lst 3 (cells (Ob q)) (Ob q).length)):=by
 have u:=j.p.notes;have s:(Ob q).length=q.p.notes.length:=Oc _ _;rw[s];have o:List.replicate q.p.notes.length (0:Int)=Xu q 0:=kD q _;refine Ak.enter (Af (by decide)) Tryz.func37 rfl (by kernel_rfl) (by simp[Tryz.ntmps37]) ?_
 repeat' (first|(apply Aa.JQ q.p.notes.length (0:Int);rfl;rfl;rfl;rfl;rfl;rfl;rfl;omega;decide;decide;rfl)|(apply Aa.lenV;rfl;rfl;rfl)|refine go2 ?_|fail)
 all_goals try(exfalso;omega)
 rw[o];apply Ad.GU (q.p.notes.length) [(1,_),(3,_),(11,_)] [(0,_)] (fun k r=>(12,.p (.int .i64 (k:Int)))::r) (fun k r=>(1,.vec 3 (cells (Xu q k)) q.p.notes.length false)::r) 2
 ·first|omega|decide
 ·first|omega|decide
 ·exact Qb
 ·exact Tt
 ·intro k m
  have h:=TQ q j k m;have w:=Oc q k;cases hp:Gj q k with
  |true =>
   have g:=b2e q m hp;rw[hp] at h
   repeat' (first|(apply Aa.UZ h;rfl;rfl;exact .of_eq rfl;exact CV.AA rfl)|(apply Aa.DV (l:=Xu q k) (i:=k);rfl;rfl;rfl;rfl;omega)|(apply Aa.J9 (l:=Xu q k) (i:=k) (y:=(2:Int));rfl;rfl;rfl;trivial;rfl;rfl;rfl;decide;omega)|refine go2 ?_|(apply Aa.int;rfl;rfl;rfl)|(apply Ad.Ac;rfl)|(apply Ad.cond_true;rfl)|(intro _;try(exfalso;omega)))
   all_goals try(exfalso;omega)
   all_goals try contradiction
   refine Ai.normal ⟨by first|omega|decide,?_,?_⟩
   ·try(rw[← g])
    exact Du
   ·rw[← g]
    exact Ec
  |false =>
   have g:=a6l q hp;rw[hp] at h
   repeat' (first|(apply Aa.UZ h;rfl;rfl;exact .of_eq rfl;exact CV.AA rfl)|refine go2 ?_|(apply Aa.int;rfl;rfl;rfl)|(apply Ad.Ac;rfl)|(apply Ad.cond_false;rfl)|(intro _;try(exfalso;omega)))
   all_goals try(exfalso;omega)
   all_goals try contradiction
   refine Ai.normal ⟨by first|omega|decide,?_,?_⟩
   ·try(rw[← g])
    exact Du
   ·rw[← g]
    exact Ec
 ·repeat' (first|(refine Aj.Il 2 ?_;refine Aj.ghost (Aq.freeze 22 rfl rfl) ?_)|apply Ad.Bo|apply Ad.FT|apply BL.normal|apply Bl.exit|apply Ai.exit|apply Ad.ret|apply Aj.nil|apply Aj.one|(apply Aa.assign;rfl)|(apply Aa.move;rfl)|(apply Aa.int;rfl;rfl;rfl)|(apply Ad.Ac;rfl)|(intro _;try(exfalso;omega)))
  all_goals first|(exfalso;omega)|(refine Done.rt rfl rfl ⟨?_,rfl,rfl⟩;try rfl)
theorem yc{H:Heap}{nx k:Nat}{e:TypeId}{cs:List FV}{o:Option PV}(h:o=some (.p (.lst e cs k))):∃y,o=some y∧(∀m F σ v,RP m F (htag H) σ nx y v→∃a g,v=.slice a k g):=by
 refine⟨_,h,fun m F σ v i=>?_⟩;cases i with
 |p i=>cases i<;>exact⟨_,_,rfl⟩
def nH(N l:List Int):Nat→List UInt8
 |0=>[]
 |k+1=>nH N l k++[UInt8.ofNat (gi l (gi N k).toNat).toNat]
theorem VF(N l:List Int):∀k,(nH N l k).length=k
 |0=>rfl
 |k+1=>by
  show(nH N l k++[_]).length=k+1;rw[aD,VF N l k];rfl
def Qd(N l:List Int):List UInt8:=nH N l N.length
theorem uj(q:Qu)(s:oW)(C:iF q s.notes)(B:s.notes.length≤1000)(l:List Int)(M:l.length=q.p.notes.length)(w:∀i,i<l.length→0≤gi l i∧gi l i≤2):Ak env 42 [.agg (Enc.enc q),.agg (Enc.enc s),.lst 3 (cells l) l.length] (st (Qd s.notes l)):=by
 unfold Qd;refine Ak.enter (Af (by decide)) Tryz.func42 rfl (by kernel_rfl) (by simp[Tryz.ntmps42]) ?_
 repeat' (first|(refine Ad.at 2 ?_;refine Ad.ghost (Aq.adopt 7 5 rfl) ?_;first|apply Ad.Bo|apply Ad.Ce)|refine VU ?_|apply Ad.Bo)
 all_goals try(exfalso;omega)
 apply Ad.GU (s.notes.length) [(2,_),(11,_),(12,_)] [] (fun k r=>(13,.p (.int .i64 (k:Int)))::(7,.vec 2 (nH s.notes l k).length 0 (nH s.notes l k).length)::r) (fun k r=>(2,.vec 5 (cells (nH s.notes l k)) (nH s.notes l k).length true)::r) 3
 ·first|omega|decide
 ·first|omega|decide
 ·exact Qb
 ·exact Tt
 ·intro k y
  obtain⟨O,N⟩:=C k y;obtain⟨m,j⟩:∃m:Nat,gi s.notes k=(m:Int):=⟨(gi s.notes k).toNat,by omega⟩
  have g:m<l.length:=by omega
  obtain⟨u,J⟩:=w m g;have o:nH s.notes l (k+1)=nH s.notes l k++[UInt8.ofNat (gi l m).toNat]:=by rw[← aE m,← j];rfl
  have I:(nH s.notes l (k+1)).length=(nH s.notes l k).length+1:=by rw[o,aD];rfl
  have F:=VF s.notes l k;have A:(((UInt8.ofNat (gi l m).toNat).toNat:Nat):Int)=gi l m:=by rw[UInt8.toNat_ofNat'];omega
  generalize nH s.notes l k=X at *;rw[I,o];have z:[FV.int .u8 (gi l m)]=Enc.enc (UInt8.ofNat (gi l m).toNat):=by
   show _=[FV.int .u8 (((UInt8.ofNat (gi l m).toNat).toNat:Nat):Int)]
   rw[A]
  repeat' (first|(apply Aa.Ap (l:=l) (i:=m);rfl;exact congrArg (fun b=>some (PV.p (.int .i64 b))) j;rfl;omega;rfl)|(apply Aa.NU;rfl;rfl;rfl;rfl;exact⟨u,by omega⟩)|(apply Aa.Dn (l:=X) (a:=UInt8.ofNat (gi l m).toNat);rfl;rfl;rfl;rfl;exact z;rfl;rfl;rfl;(intro _ h;cases h);rfl;rfl;rfl;decide;decide;omega)|(apply Aa.Ap;rfl;rfl;rfl;omega;rfl)|refine go2 ?_|(apply Aa.int;rfl;rfl;rfl)|(apply Aa.buildSlice;rfl;rfl;rfl;decide;rfl;rfl;rfl)|(apply Ad.Ac;rfl)|(intro _;try(exfalso;omega)))
  all_goals try(exfalso;omega)
  refine Ai.normal ⟨by first|omega|decide,?_,?_⟩
  ·exact Du
  ·exact Ec
 ·have F:=VF s.notes l s.notes.length
  generalize nH s.notes l s.notes.length=X at *
  repeat' (first|(refine Aj.Il 27 ?_;refine Aj.ghost (Aq.freeze 26 rfl rfl) ?_)|apply Ad.Bo|apply Ad.FT|apply BL.normal|apply Bl.exit|apply Ai.exit|apply Ad.ret|apply Aj.nil|apply Aj.one|(apply Aa.ofBytes (l:=X) (k:=X.length);exact qU.lst rfl (by rw[C9];rfl);exact yc rfl;rfl;rfl;rfl)|(apply Aa.assign;rfl)|(apply Aa.move;rfl)|(apply Aa.int;rfl;rfl;rfl)|(apply Ad.Ac;rfl)|(intro _;try(exfalso;omega)))
  all_goals first|(exfalso;omega)|contradiction|(refine Done.rt rfl rfl ⟨?_,rfl,rfl⟩;try rfl)
end Go.Proofs.YtnjkoebfgcbbdaaGreatDoor
namespace Go.Am
variable {P:Program}{G:List Nat}
def keeps(d:Tmp):Code→Bool
 | .seq a b=>keeps d a&&keeps d b
 | .cond _ a b=>keeps d a&&keeps d b
 | .block _ b=>keeps d b
 | .loop b=>keeps d b
 | .scope b=>keeps d b
 | .region _ ops _=>ops.toList.all fun o=>o.dst != some d
 |_=>true
theorem ND{t:Tr Value}{dst:Option Tmp}{v:Value}{d:Tmp}(h:(dst != some d)=true):Cm (Ic t dst v) d=Cm t d:=by
 cases dst with
 |none=>rfl
 |some x =>
  have g:x≠d:=fun e=>by grind
  simp only[Ic,Dj,if_neg g]
theorem ZI{call:EO}{ops:Array Oper}{o:Oper}{s s':St}{d:Tmp}(h:Jv P call ops o s=some s')(g:(o.dst != some d)=true):Cm s'.t d=Cm s.t d:=by
 unfold Jv at h;split at h
 ·unfold su at h
  split at h
  ·cases h;exact ND g
  grind
 ·cases h;exact ND g
theorem QA{call:EO}{ops:Array Oper}{d:Tmp}:∀(l:List Oper) (s s':St),Jc P call ops l s=some s'→(l.all fun o=>o.dst != some d)=true→Cm s'.t d=Cm s.t d
 |[],s,s',h,_=>by cases h;rfl
 |o::l,s,s',h,hk=>by
  simp only[List.all_cons,Bool.and_eq_true] at hk;simp only[Jc] at h;cases h1:Jv P call ops o s with
  |none=>grind
  |some s1 =>
   rw[h1] at h;exact(QA l s1 s' h hk.2).trans (ZI h1 hk.1)
theorem XY{call:EO}{ops:Array Oper}{d:Tmp}:∀(l:List Oper) (i:Nat) (s s':St),IC P call ops i l s=some s'→(l.all fun o=>o.dst != some d)=true→Cm s'.t d=Cm s.t d
 |[],i,s,s',h,_=>by cases h;rfl
 |o::l,i,s,s',h,hk=>by
  simp only[List.all_cons,Bool.and_eq_true] at hk;simp only[IC] at h;cases h1:MS P call ops i o s with
  |none=>grind
  |some s1 =>
   rw[h1] at h;refine(XY l (i+1) s1 s' h hk.2).trans ?_;unfold MS at h1;split at h1
   ·rename_i s2 g
    split at h1
    ·cases h1
     have j:=ZI g hk.1;omega
    grind
   grind
theorem xX{call:EO}{N:Nat}{d:Tmp}:∀(c:Code) (s s':St) (x:BH),BJ P call N c s=some (x,s')→keeps d c=true→Cm s'.t d=Cm s.t d:=by
 intro c
 induction c with
 |skip=>intro s s' x h _;cases h;rfl
 |label l=>intro s s' x h _;cases h;rfl
 |ret=>intro s s' x h _;cases h;rfl
 |exit id=>intro s s' x h _;cases h;rfl
 |goto l=>intro s s' x h;cases h
 |scope b _=>intro s s' x h;cases h
 |refuse y=>intro s s' x h;cases h
 |rangeFunc f J y z A w =>
  intro s s' x h _;simp only[BJ] at h;split at h
  case h_2=>cases h
  split at h
  case h_2=>cases h
  split at h
  case isFalse=>cases h
  split at h
  case h_2=>cases h
  split at h
  case h_2=>cases h
  rw[ae] at h;grind
 |seq I F m j =>
  intro s s' x h g;simp only[keeps,Bool.and_eq_true] at g;simp only[BJ] at h;grind
 |cond M I F m j =>
  intro s s' x h g;simp only[keeps,Bool.and_eq_true] at g;simp only[BJ] at h;grind
 |block id b C =>
  intro s s' x h g;simp only[keeps] at g;simp only[BJ] at h;grind
 |loop b C =>
  intro s s' x h g;simp only[keeps] at g;simp only[BJ] at h;have u:∀(k:Nat) (s s':St) (x:BH),iterate (BJ P call N b) k s=some (x,s')→Cm s'.t d=Cm s.t d:=by
   intro k
   induction k with
   |zero=>intro s s' x h;cases h
   |succ k B =>
    intro s s' x h;simp only[iterate] at h;grind
  grind
 |region id q i =>
  intro s s' x h g;cases i with
  |false =>
   simp only[BJ,Option.map_eq_some_iff] at h;obtain⟨s1,p,o⟩:=h;cases o;exact QA _ _ _ p g
  |true =>
   simp only[BJ,Option.map_eq_some_iff] at h;obtain⟨s1,p,o⟩:=h;cases o;exact XY _ _ _ _ p g
end Go.Am
namespace Go.Vm
open Go.Am
structure Snd(E:Env):Prop where
 o:Gh E.P E.G E.O
 mix:E.P.follows .mixedOrders=true
structure WAt(E:Env)(n:Nat)(B:Base)(ι:BG)(m:Mem)(w:World)(t:Tr Value)(kp:Tmp→Bool)(L':Frame)(H':Heap)(nx':Nat)(a':Act)(w':World):Prop where
 ex:∃m' F' σ' t' ι',Ctx E.Γ m' F' σ' H' nx'∧RL m' F' (htag H') σ' nx' L' t'∧B.to m' F' σ' H' nx'∧Ext ι m w ι' m' w'∧Ea E.P E.G [] n ⟨t',m'⟩ ι' a' w'∧∀d,kp d=true→Cm t' d=Cm t d
def AY(E:Env)(n bn:Nat)(c:Code)(L:Frame)(H:Heap)(nx:Nat)(Q:BH→Frame→Heap→Nat→Prop):Prop :=
 Snd E→codeOk E.G n c=true→flat c=true→∀(B:Base),B.nx=bn→∀m F σ t,Ctx E.Γ m F σ H nx→RL m F (htag H) σ nx L t→B.to m F σ H nx →
  ∀(ι:BG) (a:Act) (w:World),Ea E.P E.G [] n ⟨t,m⟩ ι a w→∀R:Exit→Act→World→Prop,
   (∀e L' H' nx' a' w',Q e L' H' nx'→WAt E n B ι m w t (fun d=>keeps d c) L' H' nx' a' w'→R e.toExit a' w')→c.wpIn Fence.wide 0 E.P R a w
variable {E:Env}{n bn:Nat}{L:Frame}{H:Heap}{nx:Nat}{Q:BH→Frame→Heap→Nat→Prop}{a b c k:Code}{id:Nat}{x:Operand}
theorem AY.ofV(h:Ad E bn c L H nx Q):AY E n bn c L H nx Q:=by
 intro j z A B W m F σ t Z Y X ι ac w y R V;obtain⟨e,s,⟨K,J⟩,L',H',u,F',l,q,c1,c2,c3⟩:=h B W m F σ t Z Y X;have C:=J K K (ab _) (ab _);have g:=IU (N:=K) j.o j.mix K;refine(wpIn_wide (n:=0)).2 ((wpIn_wide (n:=0)).1 (Yu g (jE j.o K) (ZB g (OY j.o K) j.mix) c w.heap.size [] none 0 ⟨t,m⟩ s e ι ac w R (.inl rfl) z C y (ab _) fun ds' a' w' I hm M=>?_));obtain rfl:=M A;obtain⟨p,O,i⟩:=I;exact V e L' H' u a' w' q ⟨s.m,F',l,s.t,p,c1,c2,c3,O,i,fun d U=>xX c _ _ _ C U⟩
theorem AY.mono{R:BH→Frame→Heap→Nat→Prop}(h:AY E n bn c L H nx R)(s:∀e i H' g,R e i H' g→Q e i H' g):AY E n bn c L H nx Q :=
 fun p l o B y m F σ t C A z ι I w j M u=>h p l o B y m F σ t C A z ι I w j M fun e i H' g J w' q=>u e i H' g J w' (s _ _ _ _ q)
def Et(E:Env)(n bn:Nat)(k:Code)(Q:BH→Frame→Heap→Nat→Prop)(e:BH)(L:Frame)(H:Heap)(nx:Nat):Prop :=
 match e with
 | .normal=>AY E n bn k L H nx Q
 | .ret=>Q .ret L H nx
 | .exit i=>Q (.exit i) L H nx
theorem Et.normal(h:AY E n bn k L H nx Q):Et E n bn k Q .normal L H nx:=h
theorem Et.ret(h:Q .ret L H nx):Et E n bn k Q .ret L H nx:=h
theorem Et.exit{i:Nat}(h:Q (.exit i) L H nx):Et E n bn k Q (.exit i) L H nx:=h
theorem AY.to(h:AY E n bn a L H nx (Et E n bn k Q)):AY E n bn (.seq a k) L H nx Q:=by
 intro hs o p B hB m F σ t h1 h2 h3 ι ac w y R U;simp only[codeOk,Bool.and_eq_true] at o;simp only[flat,Bool.and_eq_true] at p;refine wpIn_seq (h hs o.1 p.1 B hB m F σ t h1 h2 h3 ι ac w y _ fun e L' H' s Y w' q hw=>?_);obtain⟨J,Z,j,I,l,X,W,V,O,g,hkp⟩:=hw.ex;cases e with
 |normal =>
  refine q hs o.2 p.2 B hB J Z j I X W V l Y w' g R fun e2 L2 H2 uO a2 w2 q2 M=>U e2 L2 H2 uO a2 w2 q2 ?_
  obtain⟨m2,F2,A,t2,C,d1,d2,d3,N,u,b4r⟩:=M.ex;exact⟨m2,F2,A,t2,C,d1,d2,d3,Ext.trans y.1 O N,u,fun d z=>by
   simp only[keeps,Bool.and_eq_true] at z;grind⟩
 |ret=>exact U .ret L' H' s Y w' q ⟨J,Z,j,I,l,X,W,V,O,g,fun d z=>by simp only[keeps,Bool.and_eq_true] at z;grind⟩
 |exit i=>exact U (.exit i) L' H' s Y w' q ⟨J,Z,j,I,l,X,W,V,O,g,fun d z=>by simp only[keeps,Bool.and_eq_true] at z;grind⟩
theorem AY.Bo{ops:Array Oper}(h:Aj E bn ops ops.toList L H nx fun i H' g=>AY E n bn k i H' g Q):AY E n bn (.seq (.region id ops false) k) L H nx Q:=AY.to (AY.ofV (Ad.region h))
theorem AY.Ce{ops:Array Oper}(h:Ag E bn ops 0 ops.toList L H nx fun i H' g=>AY E n bn k i H' g Q):AY E n bn (.seq (.region id ops true) k) L H nx Q:=AY.to (AY.ofV (Ad.E5 h))
theorem AY.region{ops:Array Oper}(h:Aj E bn ops ops.toList L H nx (Q .normal)):AY E n bn (.region id ops false) L H nx Q:=AY.ofV (Ad.region h)
theorem AY.E5{ops:Array Oper}(h:Ag E bn ops 0 ops.toList L H nx (Q .normal)):AY E n bn (.region id ops true) L H nx Q:=AY.ofV (Ad.E5 h)
theorem AY.skip(h:Q .normal L H nx):AY E n bn .skip L H nx Q:=AY.ofV (Ad.skip h)
theorem AY.ret(h:Q .ret L H nx):AY E n bn .ret L H nx Q:=AY.ofV (Ad.ret h)
theorem AY.exit{i:Nat}(h:Q (.exit i) L H nx):AY E n bn (.exit i) L H nx Q:=AY.ofV (Ad.exit h)
theorem AY.at(r:Nat){ops:Array Oper}{d:Bool}(h:AY E n bn (.seq (.region r ops d) k) L H nx Q):AY E n bn (.seq (.region r ops d) k) L H nx Q:=h
theorem AY.atEnd(r:Nat){ops:Array Oper}{d:Bool}(h:AY E n bn (.region r ops d) L H nx Q):AY E n bn (.region r ops d) L H nx Q:=h
theorem AY.ghost{p:Frame}{H':Heap}{i:Nat}(g:Aq E L H nx p H' i)(h:AY E n bn c p H' i Q):AY E n bn c L H nx Q:=by
 intro q l o B s m F σ t y w u;obtain⟨I,j,C,A,z⟩:=g B m F σ t y w u;exact h q l o B s m I j t C A z
theorem AY.cond(u:Bool)(hc:AU E.Γ L x=some (.p (.bool u)))(ht:u=true→AY E n bn a L H nx Q)(hf:u=false→AY E n bn b L H nx Q):AY E n bn (.cond x a b) L H nx Q:=by
 intro hs i s B hB m F σ t N M h3 ι W w h R hR;simp only[codeOk,Bool.and_eq_true] at i;simp only[flat,Bool.and_eq_true] at s;have hv:=Iq N M hc;have y:W.eval x=.bool u:=((JX h.1 h.2 i.1.1).Kz u).1 hv;cases u with
 |true=>exact wpIn_cond_true y (ht rfl hs i.1.2 s.1 B hB m F σ t N M h3 ι W w h R fun e Y Z o X w' q C=>hR e Y Z o X w' q ⟨by
  obtain⟨A,F',j,z,l,V,U,O,y,g,I⟩:=C.ex;exact⟨A,F',j,z,l,V,U,O,y,g,fun d J=>by simp only[keeps,Bool.and_eq_true] at J;grind⟩⟩)
 |false=>exact wpIn_cond_false y (hf rfl hs i.2 s.2 B hB m F σ t N M h3 ι W w h R fun e Y Z o X w' q C=>hR e Y Z o X w' q ⟨by
  obtain⟨A,F',j,z,l,V,U,O,y,g,I⟩:=C.ex;exact⟨A,F',j,z,l,V,U,O,y,g,fun d J=>by simp only[keeps,Bool.and_eq_true] at J;grind⟩⟩)
theorem AY.cond_true(i:AU E.Γ L x=some (.p (.bool true)))(g:AY E n bn a L H nx Q):AY E n bn (.cond x a b) L H nx Q:=AY.cond true i (fun _=>g) (fun h=>by cases h)
theorem AY.cond_false(i:AU E.Γ L x=some (.p (.bool false)))(g:AY E n bn b L H nx Q):AY E n bn (.cond x a b) L H nx Q:=AY.cond false i (fun h=>by cases h) (fun _=>g)
theorem AY.Au{p:Prop}{_:Decidable p}(j:AU E.Γ L x=some (.p (.bool (decide p))))(g:p→AY E n bn a L H nx Q)(i:¬ p→AY E n bn b L H nx Q):AY E n bn (.cond x a b) L H nx Q :=
 AY.cond (decide p) j (fun h=>g (of_decide_eq_true h)) (fun h=>i (of_decide_eq_false h))
theorem AY.block(h:AY E n bn b L H nx (Bl id Q)):AY E n bn (.block id b) L H nx Q:=by
 intro C y z B I m F σ t N M J ι O w u R s;refine wpIn_block (h C y z B I m F σ t N M J ι O w u _ fun e o p g l w' q A=>?_);have j:WAt E n B ι m w t (fun d=>keeps d (.block id b)) o p g l w':=⟨A.ex⟩
 cases e with
 |normal=>exact s .normal o p g l w' q j
 |ret=>exact s .ret o p g l w' q j
 |exit i =>
  show(if i=id then R .normal l w' else R (.exit i) l w');simp only[Bl] at q;split
  ·rename_i e;rw[if_pos e] at q;exact s .normal o p g l w' q j
  ·rename_i e;rw[if_neg e] at q;exact s (.exit i) o p g l w' q j
theorem AY.DR{α:Type}(V:α→Frame)(y:α→Heap)(CP:Nat)(o:α→Prop)(μ:α→Nat)(J:α)(hb:bn≤CP)(h0:o J)(hc:V8 L H nx (V J) (y J) CP)
 (hs:∀s,o s→AY E n bn a (V s) (y s) CP (Ai (fun W H' l=>∃s',o s'∧μ s'<μ s∧V8 W H' l (V s') (y s') CP) Q)):AY E n bn (.loop a) L H nx Q:=by
 intro hsn hok hfl B hB m F σ t h1 h2 h3 ι ac w I R hR;refine wpIn_loop_rounds (μ J+1) ?_;have Y:∀N s,o s→μ s<N→∀m1 M g A j U z,Ctx E.Γ m1 M g (y s) CP→RL m1 M (htag (y s)) g CP (V s) A→B.to m1 M g (y s) CP→Ext ι m w j m1 z→Ea E.P E.G [] n ⟨A,m1⟩ j U z→(∀d,keeps d a=true→Cm A d=Cm t d) →
  Code.roundsIn Fence.wide 0 E.P a R N U z:=by
  intro N
  induction N with
  |zero=>simp
  |succ N ih =>
   intro s hi hlt m1 M g A j U z c1 c2 c3 he1 C hk1;refine hs s hi hsn hok hfl B hB m1 M g A c1 c2 c3 j U z C _ fun e W H' l a' w' q hw=>?_
   obtain⟨X,F',p,O,u,d1,d2,d3,he,h,hkp⟩:=hw.ex;have hE:=Ext.trans I.1 he1 he;have hK:∀d,keeps d a=true→Cm O d=Cm t d:=fun d hd=>(hkp d hd).trans (hk1 d hd)
   cases e with
   |normal =>
    obtain⟨s',i1,i2,Z⟩:=q;exact ih s' i1 (by omega) X F' p O u a' w' (Z.ctx d1) (Z.rl d2) (Z.step (by omega) d3) hE h hK
   |ret=>exact hR .ret W H' l a' w' q ⟨X,F',p,O,u,d1,d2,d3,hE,h,hK⟩
   |exit i=>exact hR (.exit i) W H' l a' w' q ⟨X,F',p,O,u,d1,d2,d3,hE,h,hK⟩
 exact Y _ J h0 (bL _) m F σ t ι ac w (hc.ctx h1) (hc.rl h2) (hc.step (by omega) h3) (Ext.refl _ _ _) I fun _ _=>rfl
def UR(d:Tmp)(l:List Oper):Bool:=l.all fun o=>o.dst != some d
def Ci(E:Env)(n bn:Nat)(ops:Array Oper)(l:List Oper)(L:Frame)(H:Heap)(nx:Nat)(Q:Frame→Heap→Nat→Prop):Prop :=
 Snd E→(∀o∈l,IJ E.G n o=true)→∀(B:Base),B.nx=bn→∀m F σ t,Ctx E.Γ m F σ H nx→RL m F (htag H) σ nx L t→B.to m F σ H nx →
  ∀(ι:BG) (a:Act) (w:World),Ea E.P E.G [] n ⟨t,m⟩ ι a w→∀R:Exit→Act→World→Prop,
   (∀L' H' nx' a' w',Q L' H' nx'→WAt E n B ι m w t (fun d=>UR d l) L' H' nx' a' w'→R .normal a' w')→wpListIn Fence.wide 0 E.P ops R l a w
theorem Ci.nil{ops:Array Oper}{R:Frame→Heap→Nat→Prop}(h:R L H nx):Ci E n bn ops [] L H nx R :=
 fun _ _ B _ m F σ t o l j ι p w g q i=>i L H nx p w h ⟨m,F,σ,t,ι,o,l,j,Ext.refl _ _ _,g,fun _ _=>rfl⟩
theorem Ci.step{ops:Array Oper}{l:List Oper}{R:Frame→Heap→Nat→Prop}{op:Op}{dst:Option Tmp}{ty:TypeId}{pos:String}{af:Array Edge}{r:PV}{H':Heap}{g:Nat}(hs:Snd E)(s:∀o∈(⟨dst,op,ty,pos,af,none⟩::l:List Oper),IJ E.G n o=true)
 {B:Base} (hB:B.nx=bn) {m m':Mem} {F y:Nat→Prop} {σ h:Nat→Value} {t:Tr Value} (h1:Ctx E.Γ m F σ H nx) (h2:RL m F (htag H) σ nx L t) (h3:B.to m F σ H nx) {ι i:BG} {ac:Act} {w w':World} (p:Ea E.P E.G [] n ⟨t,m⟩ ι ac w)
 {N:Exit→Act→World→Prop} (hR:∀V H' g a' w',R V H' g→WAt E n B ι m w t (fun d=>UR d (⟨dst,op,ty,pos,af,none⟩::l)) V H' g a' w'→N .normal a' w') {v v':Value}
 (q:Ci E n bn ops l (Ig L dst r) H' g R) (c1:Ctx E.Γ m' y h H' g) (c2:RP m' y (htag H') h g r v) (U:Step m F σ H nx m' y h H' g) (O:Ext ι m w i m' w') (Dq:DF E.P E.G i m' w') (hv:Aw i m'.gen v v') :
 wpListIn Fence.wide 0 E.P ops N l (ac.put dst v') w':=by
 have u:=(DL (s _ (bO ..))).2;refine q hs (fun o ho=>s o (ao _ ho)) B hB m' y h (Ic t dst v) c1 ((h2.step U h1).put c2) (h3.trans U) i _ w' ⟨Dq,(p.2.mono O.le).put u hv⟩ N fun L2 H2 X a2 W Z C=>hR L2 H2 X a2 W Z ?_
 obtain⟨m2,F2,z,Y,A,d1,d2,d3,I,j,M⟩:=C.ex;refine⟨m2,F2,z,Y,A,d1,d2,d3,Ext.trans p.1 O I,j,fun d J=>?_⟩;simp only[UR,List.all_cons,Bool.and_eq_true] at J;exact(M d J.2).trans (ND J.1)
theorem Nj{o:Oper}{y:Nat→Option Bool}(h:o.guard=none):Region.wanted o y=true:=by unfold Region.wanted;rw[h]
theorem Ci.one{ops:Array Oper}{l:List Oper}{R:Frame→Heap→Nat→Prop}{op:Op}{dst:Option Tmp}{ty:TypeId}{pos:String}{af:Array Edge}(h:Aa E true ⟨dst,op,ty,pos,af,none⟩ L H nx fun r H' j=>Ci E n bn ops l (Ig L dst r) H' j R) :
 Ci E n bn ops (⟨dst,op,ty,pos,af,none⟩::l) L H nx R:=by
 intro u p B W m F σ t A z X ι ac w g C V;obtain⟨v,m',⟨K,O⟩,r,H',j,F',I,q,c1,Z,Y,_⟩:=h m F σ t A z;have s:=O K K (ab _) (ab _);have i:=IU (N:=K) u.o u.mix K;have y:=(DL (p _ (bO ..))).1;have:=OZ (rf:=none) (nn:=0) (a:=ac) (K:=wpListIn Fence.wide 0 E.P ops C l) (Q:=C) i g.1 (fun x s=>JX g.1 g.2 (y x s)) s fun v' w' M=>by
  obtain⟨J,U,Dq,Qg⟩:=M;exact Ci.step u p W A z X g V q c1 Z Y U Dq Qg
 exact this
def Gi(E:Env)(f:FuncId)(args:List PV)(H:Heap)(nx:Nat)(Q:PV→Heap→Nat→Prop):Prop :=
 Snd E→∀m F σ Bh,Ctx E.Γ m F σ H nx→Dv m F (htag H) σ nx args Bh→∀(ι:BG) (w:World) (as':Array Value),DF E.P E.G ι m w→BA ι m.gen Bh as'.toList →
  Calls E.P f as' w fun e w'=>∃v',e=.returned v'∧∃r H' nx' m' F' σ' v ι',Q r H' nx'∧Ctx E.Γ m' F' σ' H' nx'∧RP m' F' (htag H') σ' nx' r v∧Step m F σ H nx m' F' σ' H' nx'∧Ext ι m w ι' m' w'∧DF E.P E.G ι' m' w'∧Aw ι' m'.gen v v'
theorem Gi.enter{f:FuncId}{fn:Func}{c:Code}{args:List PV}{Q:PV→Heap→Nat→Prop}(hf:E.P.funcs[f]?=some fn)(hb:fn.body=some c)(I:Ir E.G fn c=true)(hfl:flat c=true)(hn:args.length≤fn.ntmps)
 (h:AY E fn.ntmps nx c (CG 0 args) H nx (Done E.P fn.results.toList nx Q)):Gi E f args H nx Q:=by
 intro hs m F σ J h1 h2 ι w g Dq y;unfold Ir at I;simp only[Bool.and_eq_true] at I;have hlen:J.length≤fn.ntmps:=by rw[← h2.length];omega
 have Y:g.size=J.length:=by have:=y.1;grind
 have X:Ea E.P E.G [] fn.ntmps { t:=tmpsOf 0 J .leaf,m:=m } ι { tmps:=g++Array.replicate (fn.ntmps-g.size) undef,defers:=[] } w:=by
  refine⟨Dq,by grind,rfl,fun i=>?_⟩;rw[Ho];by_cases hi:i<J.length
  ·have h1:=y.2 i hi
   have Z:i<g.size:=by omega
   have e:(g++Array.replicate (fn.ntmps-g.size) undef).getD i undef=g.toList.getD i undef:=by
    rw[cM,cP Z,getD_eq,gP]
   grind
  ·rw[if_neg (by omega)]
   have e1:Cm (.leaf:Tr Value) i=undef:=Tr.U9 _ _;have e2:(g++Array.replicate (fn.ntmps-g.size) undef).getD i undef=undef:=by
    rw[cM,fW (by omega)];grind
   rw[e1,e2];exact Aw.undef
 have hRL:RL m F (htag H) σ nx (CG 0 args) (tmpsOf 0 J .leaf):=by
  intro i v hi;obtain⟨_,h3⟩:=Jk args 0 i v hi;obtain⟨u,h4,h5⟩:=h2.get h3;have:=Ho J 0 .leaf i;grind
 refine(callsIn_wide (n:=0)).1 (callsIn_of_wp_marks hf hb trivial ?_);refine h hs I.2 hfl ⟨m,F,σ,H,nx⟩ rfl m F σ _ h1 hRL (Step.refl _ _ _ _ _) ι _ w X _ fun e L' C j a' w' q hw=>?_
 obtain⟨z,V,p,t',o,c1,c2,c3,l,s,_⟩:=hw.ex;have N:(∃r,EI E.P fn.results.toList L' C=some r∧Ret nx Q r C j)→LeavesInM Fence.wide 0 E.P fn a'.tmps (fun e w'=>∃M,e=.returned M∧∃r C j z V p v o,Q r C j∧Ctx E.Γ z V p C j∧RP z V (htag C) p j r v∧Step m F σ H nx z V p C j∧Ext ι m w o z w'∧DF E.P E.G o z w'∧Aw o z.gen v M) a'.defers .returning w':=by
  rintro⟨r0,hr,r,H0,CP,q1,q2,q3,q4,q5,q6⟩;obtain⟨v,h3,h4⟩:=KZ c1 c2 hr;have A:V8 L' C j [] H0 CP:=⟨q4,trivial,q3⟩
  rw[s.2.defers];refine Po (B:=w'.heap.size) [] w' (ab _) s.1 fun W g1 g2 g3 g4 g5 g6=>?_
  have O:Ea E.P E.G [] fn.ntmps ⟨t',z⟩ o a' W:=⟨g1,s.2⟩
  obtain⟨M,r1,r2⟩:=P6 O h3;refine⟨M,r1,M,rfl,r,H0,CP,z,V,p,v,o,q6,A.ctx c1,RP.low (fun b t=>BF.tag q3 b t) q2 (RP.le q1 h4),A.step (B:=⟨m,F,σ,H,nx⟩) q5 c3,?_,g1,r2⟩;exact⟨l.size,l.low,l.keep,l.ro,l.ro',l.le,l.back,l.dom,am l.heap g2,fun c U hf=>(g3 c (ag U l.heap)).trans (l.frame c U hf),g4.trans l.tape,g5.trans l.os,g6.trans l.output⟩
 cases e with
 |exit i=>exact q.elim
 |normal=>exact N q
 |ret=>exact N q
theorem Ci.ZJ{ops:Array Oper}{l:List Oper}{R:Frame→Heap→Nat→Prop}{dst:Option Tmp}{ty:TypeId}{pos:String}{af:Array Edge}{I:Operand}{args:Array Operand}{aT:Array TypeId}{g:FuncId}{fs cs Bh ac:List PV}{ns:List Nat}{Hc:Heap}{Qc:PV→Heap→Nat→Prop}
 (O:Enters E.P g) (hf:AU E.Γ L I=some (.clo g fs cs)) (ha:evs E.Γ L args.toList=some Bh) (hle:PE (fs++Bh++cs) (CV.rn (rho ns nx) ac)) (hu:CV.under ns.length ac) (zU:LK ns.length Hc) (hin:HIn (rho ns nx) H Hc) (Y:ns.Nodup) (Z:∀b∈ns,b<nx)
 (hc:Gi E g ac Hc ns.length Qc) (hq:∀r H' i,Qc r H' i→Ci E n bn ops l (Ig L dst (r.rn (rho ns nx))) (news ns.length (rho ns nx) H' (merge ns (rho ns nx) H' H)) (nx+(i-ns.length)) R) :
 Ci E n bn ops (⟨dst,.call { callee:=.value I,args:=args,argTypes:=aT },ty,pos,af,none⟩::l) L H nx R:=by
 intro hs N B hB m F σ t V U h3 ι p w h R' hR;obtain⟨vf,vc,W,hfe,SC,C,A⟩:=vS (w:=true) hf ha hle hu zU hin Y Z (fun e=>by cases e) V U;have M:=(DL (N _ (bO ..))).1;have y:=JX h.1 h.2 (M I (by simp[Op.operands,Call.operands]));rw[hfe] at y;obtain⟨j,o,e1,hfs,hcs⟩:∃j o,p.eval I=.func (.func g) j o∧BA ι m.gen vf j.toList∧BA ι m.gen vc o.toList:=by
  generalize p.eval I=u at y;cases y with
  |fn _ l1 l2 l3 l4 V U h3 h4=>exact⟨⟨l2⟩,⟨l4⟩,rfl,⟨V,U⟩,⟨h3,h4⟩⟩
 obtain⟨fn,hfn,hbody,s⟩:=O;have z:=hc hs m F W _ SC C ι w (j++args.map p.eval++o) h.1 (by
  rw[ef,ef,bE];exact(hfs.append (BA.TV fun x hx=>JX h.1 h.2 (M x (by simp[Op.operands,Call.operands];grind)))).append hcs)
 have J:(execOp p.eval ⟨dst,.call { callee:=.value I,args:=args,argTypes:=aT },ty,pos,af,none⟩).run E.P w=.ok (.enter g (j++args.map p.eval++o)) w:=by
  simp only[execOp,resolve,e1,Deferred.ofValue,Sem.run_bind,Sem.run_pure,Result.andThen_ok,invoke,callFunc,run_program,hfn,s,Bool.false_eq_true,if_false];have:fn.body.isNone=false:=by cases hb:fn.body<;>simp_all
  simp[this]
 unfold wpListIn;unfold Oper.wpIn;rw[Oper.semAt_eq _ _ _ (fun c hc=>by grind),J];refine⟨fun _ _=>trivial,?_⟩;refine⟨(fun hh=>by cases hh),?_⟩;refine((callsIn_wide (n:=0)).2 z).mono fun e w' he=>?_
 obtain⟨v',rfl,r,H',i,m',F',X,v,ι',q,c1,c2,c3,x1,x2,x3⟩:=he;obtain⟨σn,d1,d2,d3,_⟩:=A v m' r H' i F' X c1 c2 c3;exact Ci.step hs N hB V U h3 h hR (hq r H' i q) d1 d2 d3 x1 x2 x3
theorem AY.oP{ops:Array Oper}(h:Ci E n bn ops ops.toList L H nx (Q .normal)):AY E n bn (.region id ops false) L H nx Q:=by
 intro p g s B y m F σ t C A z ι I w j R u;simp only[codeOk,Bool.and_eq_true] at g;refine wpIn_region_list (h p (fun o O=>be.1 g.1 o (by grind)) B y m F σ t C A z ι I w j R fun M N i J w' q l=>u .normal M N i J w' q l)
theorem AY.SV{ops:Array Oper}(h:Ci E n bn ops ops.toList L H nx fun i H' g=>AY E n bn k i H' g Q):AY E n bn (.seq (.region id ops false) k) L H nx Q:=AY.to (AY.oP h)
end Go.Vm
namespace Go.Am
variable {P:Program}{G:List Nat}
theorem lT{ι:BG}{m:Mem}{w:World}{sT xT e:TypeId}{xd:TypeDesc}{i:TypeInfo}{len n c g:Nat}{vs l:List Value}{x s' x':Value}(ty:TypeId)(W:DF P G ι m w)
 (hv:Aw ι m.gen (.slice (some ⟨c,0,none⟩) len g) s') (V:Aw ι m.gen x x') (N:m.get c=.cells vs e g false) (C:vs.length=len*i.size)
 (hu:P.underlying sT=some (.slice e)) (hx:P.underlying xT=some xd) (hd:∀k,xd≠.int k) (hi:P.info? e=some i) (hz:Ey i=true) (hsize:0<i.size) (hn:0<n) (F:(len+n)*(i.bytes+1)≤room)
 (hxn:lenOf x=some n) (hl:BM m i.size n x=some l) (J:l.all BK=true) :
 ∃v' w',(Builtin.append_ #[sT,xT] ty #[s',x']).run P w=.ok v' w' ∧
  (Post P G ι m w (.slice (some ⟨c,0,none⟩) (len+n) g) (m.put c (.cells (vs++l) e g false)) v' w'∨Post P G ι m w (AQ m e (vs++l) (len+n)).1 (AQ m e (vs++l) (len+n)).2 v' w'):=by
 obtain⟨z,hz1,hz2⟩:=Ri hz;obtain⟨M,hr,p⟩:=ER W V hl;have hlen:l.length=n*i.size:=DU hl;have hap:∀k,(Builtin.firstCells i.size n x').run P { w with drawn:=k }=.ok M.toArray { w with drawn:=k }:=fun k=>JG k hr
 have a4y:(Builtin.firstCells i.size n x').run P w=.ok M.toArray w:=hap w.drawn;have I:M.length=n*i.size:=by rw[← p.1];omega
 cases hv with
 |sl _ _ _ _ O h hsr =>
  rw[N8 (x:=x') (n:=n) (i:=i) ty rfl rfl rfl rfl hu hx hd hi (fun w=>MW V hxn w)];obtain⟨s,hb,_,q3,hcur⟩:=hsr;obtain⟨q1,q2,q4⟩:=hcur (Mem.GZ N).symm;obtain⟨cs,fr,e0,X,A,Uy,hcr,hfr0⟩:=Hg W hb N;obtain⟨he0,um⟩:=hfr0 rfl;subst he0;have y:s.zL=i.size:=by rw[Uy,EL hi]
  by_cases q:len+n≤h
  ·obtain⟨q5,q6⟩:O.off=0+s.sh∧O.off+h*s.zL≤s.lim:=by
    omega
   have ha':O=⟨s.blk,s.sh,none⟩:=by
    obtain⟨x1,y1,z1⟩:=O;grind
   have Z:(len+n)*i.size≤h*i.size:=bw _ q;rw[cS] at Z;rw[y,A] at q6;obtain⟨w',cs',u,r1,r2,r3,r4,r5,r6,r7,r8⟩:=He (P:=P) s.blk e0 fr (s.sh+len*i.size) M 0 w cs X (p.Uz J) (by omega) um;obtain⟨U,hext,Dq,hb'⟩:=Jw (x:=.cells (vs++l) e0 g false) (ib':=s) (w':=w') (obj:=.cells cs' e0 fr) W hb (Mem.P5 N) rfl
    ⟨by rw[Mem.GZ N];exact ab _,fun _=>rfl⟩ (.inl rfl) r1 (fun c _ hne=>r4 c hne) (by omega) r6 r7 r8
    (fun U g' B=>by
     refine⟨fun _=>rfl,by omega,Uy,fun k hk=>?_,fun _ j hj=>um j (by omega)⟩;rw[aD] at hk;rw[r3,getD_eq];by_cases hk1:k<len*i.size
     ·rw[if_neg (by omega),cf (by omega)]
      obtain⟨v',h1,h2⟩:=hcr k (by omega);exact⟨v',h1,by rw[← getD_eq];exact h2.mono B⟩
     ·rw[if_pos (by omega),bm (by omega)]
      have e2:s.sh+k-(s.sh+len*i.size+0)=k-len*i.size:=by omega
      rw[e2,C];have hlt:k-len*i.size<l.length:=by omega
      obtain⟨v',h1,h2⟩:=p.get (ai hlt);refine⟨v',h1,?_⟩;rw[ai hlt];exact h2.mono B)
   refine⟨.slice (some O) (len+n) h,w',?_,.inl ⟨U,hext,Dq,?_⟩⟩
   ·simp only[DX,q,if_true,Sem.run_bind,a4y,Result.andThen_ok,ha',addr_add,u,Sem.run_pure]
   ·exact .sl _ _ _ _ _ _ ⟨s,hb',by simp[Mem.gen,Mem.get_put,II.gen],q,fun _=>⟨q1,q2,.inr ⟨q5,by rw[y,A];exact q6⟩⟩⟩
  ·have hsc:BM m i.size len (.slice (some ⟨c,0,none⟩) len g)=some vs:=by
    simp only[BM,Nat.le_refl,if_true,Mem.EC,N,NK,Option.getD_some,List.drop_zero,takeN,← C,List.take_length]
   have Qg:Aw ι m.gen (.slice (some ⟨c,0,none⟩) len g) (.slice (some O) len h):=.sl _ _ _ _ _ _ ⟨s,hb,by rw[Mem.GZ N];exact ab _,q3,fun _=>⟨q1,q2,q4⟩⟩;obtain⟨o,ho,Y⟩:=ER W Qg hsc;obtain⟨cap,hcap,u⟩:=JL (old:=o) (new:=M) (z:=z) (x:=x') (zeros:=false) hi hz1 q F (fun k=>JG k ho) hap;have ho1:o.length=len*i.size:=by rw[← Y.1];exact C
   refine⟨_,_,u,.inr ?_⟩;refine Ja (w':={ w with heap:=w.heap.push (.cells (o.toArray++M.toArray++Builtin.zeroCells z.cells (cap-(len+n))) e0 (0,0)),drawn:=w.drawn+1 })
    (e:=e0) (l:=vs++l) (n:=len+n) (cap:=cap) W rfl rfl rfl rfl (fun j hj=>TL (old:=o) (rest:=(Builtin.zeroCells z.cells (cap-(len+n))).toList) (Y.append p) j hj) hcap (.inr ?_)
   rw[EL hi];have h1:(Builtin.zeroCells z.cells (cap-(len+n))).size=(cap-(len+n))*i.size:=by rw[Lr,hz2]
   simp only[Array.size_append,List.size_toArray,h1,ho1,I];rw[← cS,← cS];exact Nat.le_of_eq (by congr 1;omega)
theorem iw{ι:BG}{m:Mem}{w:World}{t:TypeId}{a a':Addr}{vs:List Value}{e:TypeId}{g:Nat}{h:TypeInfo}{x:Value}(Y:DF P G ι m w)(ha:Qe ι m.gen a a')(J:m.get a.block=.cells vs e g false)(y:NK a=g)
 (X:vs[a.off]?=some x) (Z:plainCell x=true) (hc:x.cells=#[x]) (u:BK x=true) (hi:P.info? t=some h) (h1:h.size=1) :
 ∃w',(storeVar t a' x).run P w=.ok () w'∧w'.heap=w.heap∧w'.tape=w.tape∧w'.os=w.os∧w'.output=w.output:=by
 obtain⟨B,hb,_,z⟩:=ha;have p:=z (by rw[y,Mem.GZ J]);obtain⟨N,fr,e',i,I,Uy,l,o⟩:=Hg Y hb J;obtain⟨rfl,O⟩:=o rfl;have s:a.off<vs.length:=(bv.1 X).1;obtain⟨q,h2,M⟩:=l a.off s;have C:vs.getD a.off undef=x:=by grind
 rw[C] at M;have e1:q=x:=M.D8 Z;subst e1;obtain⟨w',A,F,r1,r2,r3,r4,r5,W,V,U⟩:=He (P:=P) B.blk e' fr (a.off+B.sh) [q] 0 w N i (fun v C=>by
  have:v=q:=by grind
  subst this;assumption) (by grind) O
 refine⟨w',?_,?_,W,V,U⟩
 ·rw[p]
  simp only[storeVar,Sem.run_bind,run_sizeOf' hi,Result.andThen_ok,hc,List.size_toArray,List.length_singleton,h1,ne_eq,not_true_eq_false,if_false];omega
 ·have ec:A=N:=by
   refine Array.ext_getElem? fun j=>?_
   grind
  refine Array.ext_getElem? fun c=>?_
  grind
theorem DF.heap{ι:BG}{m:Mem}{w w':World}(g:DF P G ι m w)(h:w'.heap=w.heap):DF P G ι m w' :=
 ⟨fun b i j=>by rw[h];exact g.dom b i j,fun b i j=>by rw[h];exact g.blk b i j,g.inj,g.glob⟩
theorem Ext.c0w(ι:BG)(m:Mem){w w':World}(h:w'.heap=w.heap)(l:w'.tape=w.tape)(j:w'.os=w.os)(i:w'.output=w.output):Ext ι m w ι m w' :=
 ⟨ab _,ab _,fun _ _ _=>rfl,fun _ _ _=>rfl,fun _ _=>rfl,Le.refl _ _,fun _ g h=>.inl ⟨g,h,rfl⟩,fun _ g h=>.inl ⟨g,h⟩,by grind,fun _ _ _=>by rw[h],l,j,i⟩
end Go.Am
namespace Go.Vm
open Go.Am
theorem Ctx.b9f{Γ:Nat→Option (List Value×TypeId)}{m:Mem}{F:Nat→Prop}{σ:Nat→Value}{H:Heap}{nx c:Nat}(h:Ctx Γ m F σ H nx)(o:c<m.size)(j:¬ own H σ c):Ctx Γ m (fun d=>F d∨d=c) σ H nx where
 fr d hd:=hd.elim (h.fr d) fun e=>by omega
 hp d x hd:=⟨(h.hp d x hd).1,(h.hp d x hd).2.mono (fun d hd=>⟨.inl hd,rfl⟩) (Names.refl _ _ _) (ab _) (ab _) fun p i=>⟨rfl,by
  rintro(l|rfl)
  ·exact(h.MB ⟨d,x,hd,i⟩).1 l
  ·exact j ⟨d,x,hd,i⟩⟩⟩
 sep:=h.sep
 gl g cs e hg:=⟨.inl (h.gl g cs e hg).1,(h.gl g cs e hg).2⟩
theorem Step.b9f{m m':Mem}{F l:Nat→Prop}{σ g:Nat→Value}{H H':Heap}{nx h c:Nat}(s:Step m F σ H nx m' l g H' h)(o:own H σ c):Step m F σ H nx m' (fun d=>l d∨d=c) g H' h :=
 { s with
  KP:=fun d j=>.inl (s.KP d j)
  KO:=fun d j i=>by
   rcases i with i|rfl
   ·exact s.KO d j i
   grind }
variable {E:Env}{n bn:Nat}{L:Frame}{H:Heap}{nx:Nat}
theorem Ci.b8b{ops:Array Oper}{l:List Oper}{R:Frame→Heap→Nat→Prop}{op:Op}{dst:Option Tmp}{ty:TypeId}{pos:String}{af:Array Edge}{r:PV}{U:Frame}{H':Heap}{g:Nat}(hs:Snd E)(s:∀o∈(⟨dst,op,ty,pos,af,none⟩::l:List Oper),IJ E.G n o=true)
 {B:Base} (hB:B.nx=bn) {m m':Mem} {F y:Nat→Prop} {σ h:Nat→Value} {t:Tr Value} (h2:RL m' y (htag H') h g U t) (h3:B.to m F σ H nx) {ι i:BG} {ac:Act} {w w':World} (p:Ea E.P E.G [] n ⟨t,m⟩ ι ac w)
 {N:Exit→Act→World→Prop} (hR:∀V H' g a' w',R V H' g→WAt E n B ι m w t (fun d=>UR d (⟨dst,op,ty,pos,af,none⟩::l)) V H' g a' w'→N .normal a' w') {v v':Value}
 (q:Ci E n bn ops l (Ig U dst r) H' g R) (c1:Ctx E.Γ m' y h H' g) (c2:RP m' y (htag H') h g r v) (c3:Step m F σ H nx m' y h H' g) (O:Ext ι m w i m' w') (Dq:DF E.P E.G i m' w') (hv:Aw i m'.gen v v') :
 wpListIn Fence.wide 0 E.P ops N l (ac.put dst v') w':=by
 have u:=(DL (s _ (bO ..))).2;refine q hs (fun o ho=>s o (ao _ ho)) B hB m' y h (Ic t dst v) c1 (h2.put c2) (h3.trans c3) i _ w' ⟨Dq,(p.2.mono O.le).put u hv⟩ N fun L2 H2 X a2 W Z C=>hR L2 H2 X a2 W Z ?_
 obtain⟨m2,F2,z,Y,A,d1,d2,d3,I,j,M⟩:=C.ex;refine⟨m2,F2,z,Y,A,d1,d2,d3,Ext.trans p.1 O I,j,fun d J=>?_⟩;simp only[UR,List.all_cons,Bool.and_eq_true] at J;exact(M d J.2).trans (ND J.1)
theorem RL.cons{m:Mem}{F:Nat→Prop}{T:Nat→Option Tg}{σ:Nat→Value}{L:Frame}{t:Tr Value}(h:RL m F T σ nx L t){r:Nat}{x:PV}(j:RP m F T σ nx x (Cm t r)):RL m F T σ nx ((r,x)::L) t:=fun i y g=>by
 rw[Ed] at g;by_cases e:r=i
 ·grind
 ·rw[if_neg e] at g;exact h i y g
theorem Ci.b7a{ops:Array Oper}{l:List Oper}{R:Frame→Heap→Nat→Prop}{dst:Option Tmp}{ty:TypeId}{pos:String}{af:Array Edge}{s x:Operand}{sT xT e:TypeId}{xd:TypeDesc}{i:TypeInfo}{b k j r N:Nat}{cs xs:List FV}{z:Bool}
 (hs:AU E.Γ L s=some (.vec b N 0 N)) (M:hget H b=some (.vec e cs N z)) (hx:qU E.Γ L H nx x i.size xs k) (hr:Fv L r=some (.vec b N 0 j)) (hj:j≤N) (hN:0<N)
 (xH:E.P.underlying sT=some (.slice e)) (hxT:E.P.underlying xT=some xd) (q:∀k,xd≠.int k) (hi:E.P.info? e=some i) (hzs:Ey i=true) (h0:0<k) (Z:(N+k)*(i.bytes+1)≤room) (hl:cs.length=N*i.size) (hsz:0<i.size)
 (q1:Ci E n bn ops l (Ig ((r,.vec b (N+k) 0 j)::L) dst (.vec b (N+k) 0 (N+k))) (hput H b (.vec e (cs++xs) (N+k) z)) nx R)
 (q2:Ci E n bn ops l (Ig ((r,.p (.lst e (cs.take (j*i.size)) j))::L) dst (.vec b (N+k) 0 (N+k))) (hput H b (.vec e (cs++xs) (N+k) z)) nx R) :
 Ci E n bn ops (⟨dst,.call { callee:=.builtin .append,args:=#[s,x],argTypes:=#[sT,xT] },ty,pos,af,none⟩::l) L H nx R:=by
 intro hsn hok B hB m F σ t I h2 h3 ι ac w o R' hR;have y:=Ko I h2 hs M;obtain⟨hx1,O,hx2,hx3,X⟩:=hx m F σ t I h2;obtain⟨hlt,hrb⟩:=I.hp b _ M;rcases hrb with⟨_,r2,_⟩|⟨c,g,vs,W,r2,r3,r4,r5,r6,r7⟩
 ·omega
 rw[W] at y;simp only[FU] at y;have hlen:=r5.length;have hop:=(DL (hok _ (bO ..))).1;have hvs:Aw ι m.gen (ev t s) (ac.eval s):=JX o.1 o.2 (hop s (by simp[Op.operands,Call.operands]));have hvx:Aw ι m.gen (ev t x) (ac.eval x):=JX o.1 o.2 (hop x (by simp[Op.operands,Call.operands]));rw[y] at hvs;have hown:own H σ c:=⟨b,_,M,by rw[W];rfl⟩
 have b2v:Xq (some (HB.vec e cs N z).tag) (some (HB.vec e (cs++xs) (N+k) z).tag):=fe _ _;have hne:(HB.vec e cs N z).tag=(HB.vec e (cs++xs) (N+k) z).tag→False:=by simp only[HB.tag,Tg.vec.injEq];omega
 have hrv:Cm t r=.slice (some ⟨c,0,none⟩) j g:=by
  have:=h2 r _ hr;generalize Cm t r=u at this;cases this with
  |vec hb' hc h =>
   have:=(h N (by simp[htag,M,HB.tag])).2 rfl;rw[W] at this;exact this
 unfold wpListIn;rw[Nj rfl,if_pos rfl];obtain⟨v',w',hrun,hp⟩:=lT ty o.1 hvs hvx r4 (by omega) xH hxT q hi hzs hsz h0 Z hx1 hx2 X;have Y:(execOp ac.eval ⟨dst,.call { callee:=.builtin .append,args:=#[s,x],argTypes:=#[sT,xT] },ty,pos,af,none⟩).run E.P w=.ok (.value v') w':=by
  rw[DZ];exact G7 (by grind)
 have U:∀{m2:Mem} {F2:Nat→Prop} {V:Nat→Value} {g2 c2:Nat},V b=.slice (some ⟨c2,0,none⟩) (N+k) g2→RP m2 F2 (htag (hput H b (.vec e (cs++xs) (N+k) z))) V nx (.vec b (N+k) 0 (N+k)) (.slice (some ⟨c2,0,none⟩) (N+k) g2):=fun{m2 F2 V g2 c2} e2=>by
  refine .vec hlt rfl fun j' C=>?_
  rw[Rz,if_pos rfl,htag,M] at C;simp only[Option.map_some,HB.tag,Option.some.injEq,Tg.vec.injEq] at C;refine⟨by omega,fun _=>?_⟩;rw[e2];rfl
 unfold Oper.wpIn;rw[Oper.semAt_eq _ _ _ (fun c hc=>by grind),Y];refine⟨fun _ _=>trivial,?_⟩;rcases hp with⟨ι',he,Dq,hv⟩|⟨ι',he,Dq,hv⟩
 ·have A:∀d,c≠d→(m.put c (.cells (vs++O) e g false)).get d=m.get d:=fun d q=>by rw[Mem.get_put,if_neg q]
  obtain⟨c1,c3⟩:=I.change (s':=.slice (some ⟨c,0,none⟩) (N+k) g) (m':=m.put c (.cells (vs++O) e g false)) (x':=.vec e (cs++xs) (N+k) z) M b2v (fun e=>(hne e).elim) (ab _) (fun d _ q=>A d fun e=>q (by rw[W,e];rfl)) (fun k' k1 k2 k3=>by
   have:=k3 c (by rw[W];rfl);simp only[Mem.put];omega) (fun d q=>.inl (by rw[W];exact q))
   (.inr ⟨c,g,vs++O,rfl,r2,r3,by rw[Mem.get_put,if_pos rfl],(r5.append hx3).mono (fun d q=>⟨q,A d fun e=>r3 (e▸q)⟩),by rw[ej,r6,X];rfl,fun h=>by omega⟩)
  refine Ci.b8b hsn hok hB (RL.cons (h2.step c3 I) ?_) h3 o hR q1 c1 (U (upd_same _ _ _)) c3 he Dq hv;rw[hrv];refine .vec hlt rfl fun j' C=>?_
  rw[Rz,if_pos rfl,htag,M] at C;simp only[Option.map_some,HB.tag,Option.some.injEq,Tg.vec.injEq] at C;refine⟨by omega,fun _=>?_⟩;rw[upd_same];rfl
 ·obtain⟨c1,c3⟩:=I.change (m':=(AQ m e (vs++O) (N+k)).2) (s':=(AQ m e (vs++O) (N+k)).1) (x':=.vec e (cs++xs) (N+k) z) M b2v (fun e=>(hne e).elim) (by simp[AQ,Mem.alloc]) (fun c hc _=>by(try simp only[AQ]);rw[Mem.Bj,if_neg (by omega)])
   (fun k' k1 k2 _=>by simp only[AQ,Mem.alloc];omega) (fun c hc=>by simp only[AQ,Dp,Option.some.injEq] at hc;right;omega)
   (.inr ⟨m.size,0,vs++O,by simp[AQ],by simp[AQ,Mem.alloc],fun hf=>cr _ (I.fr _ hf),by(try simp only[AQ]);rw[Mem.Bj,if_pos rfl],
    (r5.append hx3).mono (fun c hf=>⟨hf,by(try simp only[AQ]);rw[Mem.Bj,if_neg (by have:=I.fr c hf;omega)]⟩),by rw[ej,r6,X];rfl,fun h=>by omega⟩)
  have hno:¬ own (hput H b (.vec e (cs++xs) (N+k) z)) (upd σ b (AQ m e (vs++O) (N+k)).1) c:=by
   rintro⟨b',x',hb',J⟩;by_cases eb:b'=b
   ·subst eb
    rw[upd_same] at J;simp only[AQ,Dp,Option.some.injEq] at J;omega
   ·rw[CY _ _ eb] at J
    rw[Fq,if_neg (Ne.symm eb)] at hb';exact eb (I.sep b' b _ _ c hb' M J (by rw[W];rfl))
  have hcs:c<(AQ m e (vs++O) (N+k)).2.size:=ag r2 (by simp[AQ,Mem.alloc]);have c1':=c1.b9f hcs hno;have c3':=c3.b9f hown;refine Ci.b8b hsn hok hB (RL.cons (h2.step c3' I) ?_) h3 o hR q2 c1' (U (upd_same _ _ _)) c3' he Dq hv;rw[hrv];refine .p (.lst (.inr rfl) (vs:=vs) (e:=e) (ws:=vs.take (j*i.size)) (ro:=false) ?_ ?_ ((Dt.take (j*i.size) r5).mono (fun d q=>⟨.inl q,?_⟩)) (Vw r6 _))
  ·simp only[AQ];rw[Mem.Bj,if_neg (by omega)];exact r4
  ·have:j*i.size≤N*i.size:=bw _ hj
   rw[cw,ar,cE (by omega)];unfold takeN;rw[if_pos (by omega)]
  ·simp only[AQ];rw[Mem.Bj,if_neg (by have:=I.fr d q;omega)]
theorem Dt.nth{m:Mem}{F:Nat→Prop}:∀{cs:List FV} {vs:List Value},Dt m F cs vs→∀{i:Nat} {x:FV},cs[i]?=some x→∃u,vs[i]?=some u∧RF m F x u
 |_,_,.nil,i,x,h=>by grind
 |_,_,.cons h _,0,x,e=>by
  grind
 |_,_,.cons _ t,i+1,x,e=>by
  exact Dt.nth t e
theorem Ci.sZ{ops:Array Oper}{l:List Oper}{R:Frame→Heap→Nat→Prop}{d:Tmp}{ty1 C:TypeId}{U j:String}{af1 J:Array Edge}{tA tS:TypeId}{x ix y:Operand}{e:TypeId}{cs:List FV}{N:Nat}{k kd:IntKind}{i:Nat}{v:Int}{inf:TypeInfo}
 (hx:AU E.Γ L x=some (.p (.own e cs N))) (hi:AU E.Γ L ix=some (.p (.int k (i:Int)))) (hs:elemSize E.P tA=some 1) (h1:i<N) (hv:cs[i]?=some (.int kd v))
 (hy:AU E.Γ (Ig L (some d) (.p (.Fb (cs.drop i)))) y=some (.p (.int kd v))) (c0o:E.P.info? tS=some inf) (hsz:inf.size=1)
 (q:Ci E n bn ops l (Ig L (some d) (.p (.Fb (cs.drop i)))) H nx R) :
 Ci E n bn ops (⟨some d,.indexAddr tA x ix,ty1,U,af1,none⟩::⟨none,.store tS (.tmp d) y,C,j,J,none⟩::l) L H nx R:=by
 intro W I B hB m F σ t c1 c2 h3 ι M w A R' hR;obtain⟨e',inf',g3,g4,g5⟩:=J6 hs;have hix:=CQ c1 c2 hi;have hrx:=Bz c1 c2 hx;generalize hvx:ev t x=vx at hrx;cases hrx with
 |p hr =>
 cases hr with
 |TY=>omega
 |RV=>omega
 |own hF hm hw hr hc =>
 rename_i b o g vs ws;have hws:=FK hw;have hwi:ws[i]?=some (.int kd v):=by
  obtain⟨u,hu,hru⟩:=hr.nth hv;cases hru;omega
 have hvi:vs[o+i]?=some (.int kd v):=by
  grind
 have hval:∀call,BO E.P call (ev t) ⟨some d,.indexAddr tA x ix,ty1,U,af1,none⟩ m=some (.pointer (some ⟨b,o+i,some g⟩),m):=fun call=>by
  have h0:(0:Int)≤(i:Int)∧(i:Int)<(N:Int):=⟨by omega,by omega⟩
  simp only[BO,FI,g3,hvx,hix,g4,h0,and_self,if_true,g5,Int.toNat_natCast,Nat.mul_one]
 have hcall:=IU (N:=0) W.o W.mix 0;unfold wpListIn;rw[Nj rfl,if_pos rfl];have hop:=(DL (I _ (bO ..))).1;have V:=DL (I ⟨none,.store tS (.tmp d) y,C,j,J,none⟩ (by simp));have hdst:=(DL (I _ (bO ..))).2;have:=OZ (rf:=none) (nn:=0) (a:=M) (K:=wpListIn Fence.wide 0 E.P ops R' (⟨none,.store tS (.tmp d) y,C,j,J,none⟩::l)) (Q:=R') hcall A.1 (fun x hx=>JX A.1 A.2 (hop x hx)) (hval _) fun O w' hp=>by
  obtain⟨s,he,Dq,Qg⟩:=hp;have h:Ea E.P E.G [] n ⟨Ic t (some d) (.pointer (some ⟨b,o+i,some g⟩)),m⟩ s (M.put (some d) O) w':=⟨Dq,(A.2.mono he.le).put hdst Qg⟩
  have hcp:RP m F (htag H) σ nx (.p (.Fb (cs.drop i))) (.pointer (some ⟨b,o+i,some g⟩)):=by
   refine .p (.Fb hF hm rfl ?_ (Dt.drop i hr) (KA hc _));have:=OU (k:=i) hw;simp_all
  have hL1:RL m F (htag H) σ nx (Ig L (some d) (.p (.Fb (cs.drop i)))) (Ic t (some d) (.pointer (some ⟨b,o+i,some g⟩))):=c2.put hcp;have Y:Aw s m.gen (ev (Ic t (some d) (.pointer (some ⟨b,o+i,some g⟩))) y) ((M.put (some d) O).eval y):=JX h.1 h.2 (V.1 y (by simp[Op.operands]));rw[CQ c1 hL1 hy] at Y;have ey:(M.put (some d) O).eval y=.int kd v:=by generalize (M.put (some d) O).eval y=u at Y;cases Y;rfl
  have Z:Aw s m.gen (ev (Ic t (some d) (.pointer (some ⟨b,o+i,some g⟩))) (.tmp d)) ((M.put (some d) O).eval (.tmp d)):=JX h.1 h.2 (V.1 (.tmp d) (by simp[Op.operands]));have et:ev (Ic t (some d) (.pointer (some ⟨b,o+i,some g⟩))) (.tmp d)=.pointer (some ⟨b,o+i,some g⟩):=by
   show Cm (QO t d _) d=_;rw[Dj,if_pos rfl]
  rw[et] at Z;obtain⟨a',ea,har⟩:∃a',(M.put (some d) O).eval (.tmp d)=.pointer (some a')∧Qe s m.gen ⟨b,o+i,some g⟩ a':=by
   generalize (M.put (some d) O).eval (.tmp d)=u at Z;cases Z;exact⟨_,rfl,by assumption⟩
  obtain⟨w2,hrun,k1,k2,k3,k4⟩:=iw (t:=tS) (x:=.int kd v) h.1 har hm rfl hvi rfl rfl rfl c0o hsz;have X:(execOp (M.put (some d) O).eval ⟨none,.store tS (.tmp d) y,C,j,J,none⟩).run E.P w'=.ok .skip w2:=by
   simp only[execOp,Instr.storeAt,ea,ey,Instr.sureAddr,Sem.run_bind,Sem.run_pure,Result.andThen_ok,hrun]
  unfold wpListIn;rw[Nj rfl,if_pos rfl];unfold Oper.wpIn;rw[Oper.semAt_eq _ _ _ (fun c hc=>by cases hc),X];refine⟨fun _ _=>trivial,?_⟩;have he2:=Ext.c0w s m k1 k2 k3 k4;refine q W (fun o ho=>I o (ao _ (ao _ ho))) B hB m F σ _ c1 hL1 h3 s _ w2 ⟨h.1.heap k1,h.2⟩ R' fun L2 H2 uO a2 w3 q2 hw2=>hR L2 H2 uO a2 w3 q2 ?_
  obtain⟨m2,F2,σ2,t2,ι2,d1,d2,d3,he3,hst3,hkp3⟩:=hw2.ex;refine⟨m2,F2,σ2,t2,ι2,d1,d2,d3,Ext.trans A.1 (Ext.trans A.1 he he2) he3,hst3,fun z hz=>?_⟩;simp only[UR,List.all_cons,Bool.and_eq_true] at hz;exact(hkp3 z hz.2.2).trans (ND hz.1)
 exact this
theorem Aq.Sm(d:Nat){b N:Nat}{e:TypeId}{cs:List FV}{z:Bool}(W:Fv L d=some (.vec b N 0 N))(s:hget H b=some (.vec e cs N z)):Aq E L H nx ((d,.p (.own e cs N))::L) (hdel H b) nx:=fun B m F σ t w J Y=>by
 obtain⟨Z,M,c3⟩:=Rj w s;refine⟨_,σ,Z,fun i v o=>?_,Y.trans M⟩;rw[Ed] at o;by_cases y:d=i
 ·rw[if_pos y] at o;cases o
  have:=J d _ W;subst y;generalize Cm t d=u at this;cases this with
  |vec X I h =>
   have j:=(h N (by simp[htag,s,HB.tag])).2 rfl;obtain⟨_,V⟩:=w.hp b _ s;rcases V with⟨q,C,l⟩|⟨c,g,vs,q,C,l,U,A,O,r7⟩
   ·subst q;subst C
    rcases l with⟨l,_⟩|⟨b',o',g',l,_⟩
    ·rw[l] at j;obtain⟨rfl,_,_⟩:=j;exact .p (.TY _)
    ·rw[l] at j;simp only[FU] at j;rw[j.1];exact .p (.RV _ _ _ _)
   ·rw[q] at j
    subst j;refine .p (.own (.inr (by rw[q];rfl)) U ?_ (A.mono fun c I=>⟨.inl I,rfl⟩) O);rw[cw,A.length];simp[takeN]
 ·rw[if_neg y] at o
  exact(J i v o).step M w
theorem Aq.toOwn(d:Nat)(e:TypeId)(o:Fv L d=some (.p (.val (.slice none 0 0)))):Aq E L H nx ((d,.p (.own e [] 0))::L) H nx:=fun B m F σ t s j q=>by
 refine⟨F,σ,s,fun i v g=>?_,q⟩;rw[Ed] at g;by_cases h:d=i
 ·rw[if_pos h] at g;cases g
  have:=j d _ o;subst h;generalize Cm t d=u at this;cases this with
  |p l=>cases l;exact .p (.TY _)
 ·rw[if_neg h] at g
  exact j i v g
end Go.Vm
namespace Go.Proofs.YtnjkoebfgcbbdaaGreatDoor
open Go Go.Am Go.Vm Go.Pie
attribute [local irreducible] Aa Aj Ag Ad AL Ak Bd BL Bl Ai Vm.Done BD AO Qh
attribute [local irreducible] CJ Bf Eb DW EF A8 Cj
structure OwL where
 l:List Int
instance:Enc OwL:={ default:=⟨[]⟩,enc:=fun x=>[.own 3 (cells x.l) x.l.length],size:=1,len:=fun _=>rfl }
instance:Enc (List Int):={ default:=[],enc:=fun x=>[.lst 3 (cells x) x.length],size:=1,len:=fun _=>rfl }
theorem qg(l:List Int)(g:l.length<1000000):Ak env 75 [.lst 3 (cells l) l.length] (.p (.own 3 (cells l) l.length)):=by
 rcases bp l.length with h0|h0
 ·obtain rfl:l=[]:=av.1 h0
  refine Ak.enter (Af (by decide)) Tryz.func75 rfl (by kernel_rfl) (by simp[Tryz.ntmps75]) ?_
  repeat' (first|(refine Aj.Il 2 ?_;refine Aj.ghost (Aq.Sm 7 rfl rfl) ?_)|(refine Ad.ghost (Aq.toOwn 2 3 rfl) ?_;apply Ad.Oy)|apply Ad.assoc|apply Ad.Bo|apply Ad.FH|apply Ad.ret|apply Aj.nil|apply Aj.one|(apply Aa.eqNil;rfl;rfl;rfl)|(apply Aa.assign;rfl)|(apply Aa.move;rfl)|(apply Aa.buildSlice;rfl;rfl;rfl;decide;rfl;rfl;rfl)|(apply Aa.U1;rfl;rfl;rfl;(first|rfl|omega|(simp only[List.length_take,List.length_drop,List.length_append,List.length_singleton,List.length_cons,List.length_nil]<;>omega));rfl;rfl;(intro _ h;cases h);rfl;rfl;rfl;decide;decide;(first|omega|(simp only[List.length_take,List.length_drop,List.length_append,List.length_singleton,List.length_cons,List.length_nil]<;>omega)))|(apply Ad.Rw;rfl)|(intro _;try(exfalso;omega)))
  all_goals first|(exfalso;omega)|(refine Done.rt rfl rfl ⟨?_,rfl,rfl⟩;try rfl)
 ·refine Ak.enter (Af (by decide)) Tryz.func75 rfl (by kernel_rfl) (by simp[Tryz.ntmps75]) ?_
  repeat' (first|(refine Aj.Il 2 ?_;refine Aj.ghost (Aq.Sm 7 rfl rfl) ?_)|apply Ad.assoc|apply Ad.Bo|apply Ad.FH|apply Ad.ret|apply Aj.nil|apply Aj.one|(apply Aa.a7u;rfl;rfl;rfl;exact h0)|(apply Aa.assign;rfl)|(apply Aa.move;rfl)|(apply Aa.buildSlice;rfl;rfl;rfl;decide;rfl;rfl;rfl)|(apply Aa.U1;rfl;rfl;rfl;(first|rfl|omega|(simp only[List.length_take,List.length_drop,List.length_append,List.length_singleton,List.length_cons,List.length_nil]<;>omega));rfl;rfl;(intro _ h;cases h);rfl;rfl;rfl;decide;decide;(first|omega|(simp only[List.length_take,List.length_drop,List.length_append,List.length_singleton,List.length_cons,List.length_nil]<;>omega)))|(apply Ad.Ah;rfl))
  all_goals first|(exfalso;omega)|(refine Done.rt rfl rfl ⟨?_,rfl,rfl⟩;try rfl)
end Go.Proofs.YtnjkoebfgcbbdaaGreatDoor
namespace Go.Proofs.YtnjkoebfgcbbdaaGreatDoor
open Go Go.Am Go.Vm Go.Pie
attribute [local irreducible] Aa Aj Ag Ad AL Ak Bd BL Bl Ai Vm.Done BD AO
attribute [local irreducible] CJ Bf Eb DW EF A8 Cj
def lwR(r:Rgs)(p:Fe)(t:Int):Nat→Rgs
 |0=>r
 |k+1=>if gi p.bars (gi p.sets k).bar.toNat≤t then(gi p.sets k).reg else lwR r p t k
def lkF(p:Fe)(L:List Int)(k d:Nat):FP:=Y1 (Np p L d k) (Np p L d k).length
noncomputable instance (a b:Rgs):Decidable (a=b):=Classical.propDecidable _
noncomputable instance (a b:yA):Decidable (a=b):=Classical.propDecidable _
noncomputable instance (a b:Fe):Decidable (a=b):=Classical.propDecidable _
end Go.Proofs.YtnjkoebfgcbbdaaGreatDoor
namespace Go.Proofs.YtnjkoebfgcbbdaaGreatDoor
open Go Go.Am Go.Vm
instance d1n:Enc (List Int):={ default:=[],enc:=fun l=>[.lst 3 (cells l) l.length],size:=1,len:=fun _=>rfl }
attribute [local irreducible] Aa Aj Ag Ad AL Ak Bd BL Bl Ai Vm.Done BD AO
def d4c(n k:Nat)(v:Int):List Int:=List.replicate k v++List.replicate (n-k) 0
open Go.Pie
attribute [local irreducible] CJ Bf Eb DW EF A8 Cj
def exR(c:UInt8):H7:=⟨[c],[102,108,117,116,101],⟨8,1⟩,36,List.replicate 25 1⟩
def exS(n Eu sh:Int):Stp:=⟨[97],⟨Eu,1⟩,[⟨36,48,[⟨n,sh⟩]⟩]⟩
def c8u:og:=⟨[111,110,101],false,36,48,[exS 0 8 0]⟩
def c9w:og:=⟨[116,119,111],false,36,48,[exS 1 4 12]⟩
def exO:FQ:=⟨[101],[exR 114,exR 115],[c8u,c9w],[⟨[99],0,1,0,false⟩]⟩
def exG:Rgs:=⟨[1,0],0,0⟩
def exP:Fe:=⟨[0,4,8],[⟨0,6,0,40⟩,⟨4,8,0,43⟩],[⟨1,exG⟩]⟩
instance (c:Nat):Decidable (wQ c):=by unfold wQ;infer_instance
theorem b3j(s:List UInt8)(g:0<s.length)(l:s.length≤32)(h:∀i,i<s.length→wQ (gi s i).toNat):DT s:=⟨g,l,h 0 g,fun i _ j=>.inl (h i j)⟩
theorem lt2{i:Nat}(h:i<2):i=0∨i=1 :=by omega
theorem pk1(n:Int)(h:n=8∨n=4):SG ⟨n,1⟩=0:=VH.2 (by rcases h with rfl|rfl<;>decide +kernel)
end Go.Proofs.YtnjkoebfgcbbdaaGreatDoor
namespace Go.Proofs.YtnjkoebfgcbbdaaGreatDoor
open Go Go.Am Go.Vm
theorem OV{n:Int}(h:(Lit.int .u8 n).wf=true):∃m:Nat,m<256∧n=m:=by
 simp[Lit.wf,IntKind.min,IntKind.max,IntKind.signed,IntKind.bits] at h;exact⟨n.toNat,by omega,by omega⟩
theorem a9o{n:Int}(h:(Lit.int .i8 n).wf=true):-128≤n∧n≤127:=by
 simp[Lit.wf,IntKind.min,IntKind.max,IntKind.signed,IntKind.bits] at h;omega
theorem ZQ{α β:Type}{R:β→α→Prop}:∀{l:List α},(∀x∈l,∃y,R y x)→∃r:List β,Ht R r l
 |[],_=>⟨[],.nil⟩
 |a::l,h=>by
  obtain⟨y,g⟩:=h a (by simp);obtain⟨r,i⟩:=ZQ (l:=l) (fun x j=>h x (by grind));exact⟨y::r,.cons g i⟩
theorem aO{α:Type}[Enc α]{p:α→Prop}:∀{r:List α} {L:List (List FV)},Ht (fun a g=>g=Enc.enc a∧p a) r L→L.flatten=cells r∧L.length=r.length∧∀i,i<r.length→p (gi r i)
 |_,_,.nil=>⟨rfl,rfl,fun i h=>by grind⟩
 |a::r,g::L,.cons ⟨h1,h2⟩ t=>by
  obtain⟨l,m,j⟩:=aO t;refine⟨by rw[List.flatten_cons,l,h1];rfl,by grind,fun i h=>?_⟩;cases i with
  |zero=>exact h2
  |succ i=>exact j i (by grind)
section
variable {α β:Type}{R:α→β→Prop}{a b c d e:α}{r:List β}
theorem a8g(h:Ht R [a] r):∃x,r=[x]∧R a x:=by
 cases h with|cons g t=>cases t;grind
theorem Va(h:Ht R [a,b] r):∃x y,r=[x,y]∧R a x∧R b y:=by
 cases h with|cons i t=>obtain⟨x,rfl,g⟩:=a8g t;grind
theorem fO(h:Ht R [a,b,c] r):∃x y z,r=[x,y,z]∧R a x∧R b y∧R c z:=by
 cases h with|cons j t=>obtain⟨x,y,rfl,i,g⟩:=Va t;grind
theorem JU(h:Ht R [a,b,c,d] r):∃x y z w,r=[x,y,z,w]∧R a x∧R b y∧R c z∧R d w:=by
 cases h with|cons l t=>obtain⟨x,y,z,rfl,j,i,g⟩:=fO t;grind
theorem a3t(h:Ht R [a,b,c,d,e] r):∃x y z w v,r=[x,y,z,w,v]∧R a x∧R b y∧R c z∧R d w∧R e v:=by
 cases h with|cons m t=>obtain⟨x,y,z,w,rfl,l,j,i,g⟩:=JU t;grind
end
theorem uQ{j:Nat}{g:List FV}(h:FX Tryz.prog (j+1) 4 g):∃b:Bool,g=[.bool b]:=by
 assumption
theorem d0e{α:Type}{l:List α}(h:l.length=5):∃a b c d e,l=[a,b,c,d,e]:=by
 match l,h with|[a,b,c,d,e],_=>simp
theorem a4o{j:Nat}{m:List FV}(h:FX Tryz.prog (j+3) 226 m):∃x:GX,m=x.enc∧x.Ok:=by
 simp only[FX,Tryz.underlying226,Tryz.underlying5,Tryz.underlying97,Tryz.underlying174] at h;obtain⟨l,rfl,M⟩:=h;obtain⟨a,b,c,d,e,rfl,⟨n1,rfl,W⟩,⟨n2,rfl,V⟩,⟨A,rfl,U⟩,⟨n4,rfl,O⟩,L,rfl,N,g⟩:=a3t M;obtain⟨m1,z,rfl⟩:=OV W;obtain⟨m2,y,rfl⟩:=OV V;obtain⟨B,w,rfl⟩:=OV O;obtain⟨a,b,c,d,e,rfl⟩:=d0e N;obtain⟨w0,rfl,g0⟩:=g a (by simp);obtain⟨w1,rfl,g1⟩:=g b (by simp);obtain⟨w2,rfl,Z⟩:=g c (by simp);obtain⟨w3,rfl,Y⟩:=g d (by simp);obtain⟨w4,rfl,X⟩:=g e (by simp);obtain⟨u,J,rfl⟩:=OV g0;obtain⟨s,k1,rfl⟩:=OV g1;obtain⟨q,I,rfl⟩:=OV Z;obtain⟨p,F,rfl⟩:=OV Y;obtain⟨o,C,rfl⟩:=OV X;refine⟨⟨m1,m2,A,B,[u,s,q,p,o]⟩,rfl,z,y,a9o U,w,fun i=>?_⟩
 match i with
 |0=>exact J
 |1=>exact k1
 |2=>exact I
 |3=>exact F
 |4=>exact C
 |n+5=>simp[gi]
theorem F7{P:Program}{n:Nat}{t:TypeId}{j:List FV}{i:Array Field}(h:FX P (n+1) t j)(l:P.underlying t=some (.struct i)):∃g:List (List FV),j=g.flatten∧Ht (fun(fd:Field) x=>FX P n fd.type x) i.toList g:=by
 unfold FX at h;grind
theorem IG{P:Program}{n:Nat}{t e:TypeId}{g:List FV}{α:Type}[Enc α]{p:α→Prop}(h:FX P (n+1) t g)(m:P.underlying t=some (.slice e))(q:∀x,FX P n e x→∃a:α,x=Enc.enc a∧p a):∃l:List α,g=[.lst e (cells l) l.length]∧l.length≤maxLen∧∀i,i<l.length→p (gi l i):=by
 unfold FX at h;rw[m] at h;obtain⟨L,rfl,u,s⟩:=h;obtain⟨r,o⟩:=ZQ (R:=fun(a:α) g=>g=Enc.enc a∧p a) (l:=L) (fun x j=>q x (s x j));obtain⟨z,y,w⟩:=aO o;grind
theorem EY{j:Nat}{g:List FV}(h:FX Tryz.prog (j+1) 5 g):∃n:Nat,g=[.int .u8 (n:Int)]∧n<256:=by
 obtain⟨n,rfl,i⟩:=h;obtain⟨m,q,rfl⟩:=OV i;grind
theorem c2c{j:Nat}{g:List FV}(h:FX Tryz.prog (j+1) 97 g):∃n:Int,g=[.int .i8 n]∧-128≤n∧n≤127:=by
 obtain⟨n,rfl,i⟩:=h;exact⟨n,rfl,a9o i⟩
theorem b2u{j:Nat}{i:List FV}(h:FX Tryz.prog (j+2) 232 i):∃x:Pul,i=Enc.enc x∧x.Ok:=by
 obtain⟨g,rfl,s⟩:=F7 h Tryz.underlying232;obtain⟨a,b,c,d,rfl,z,y,w,u⟩:=JU s;obtain⟨m1,rfl,p⟩:=EY (j:=j) z;obtain⟨m2,rfl,o⟩:=EY (j:=j) y;obtain⟨m3,rfl,m⟩:=EY (j:=j) w;obtain⟨q,rfl,l⟩:=EY (j:=j) u;exact⟨⟨m1,m2,m3,q⟩,rfl,p,o,m,l⟩
theorem a4i{j:Nat}{i:List FV}(h:FX Tryz.prog (j+4) 211 i):∃x:Brd,i=Enc.enc x∧x.Ok:=by
 obtain⟨g,rfl,s⟩:=F7 h Tryz.underlying211;obtain⟨a,b,c,d,rfl,B,A,z,y⟩:=JU s;obtain⟨m1,rfl,o⟩:=EY (j:=j+2) B;obtain⟨m2,rfl,m⟩:=EY (j:=j+2) A;obtain⟨m3,rfl⟩:=uQ (j:=j+2) z;obtain⟨l,rfl,u,w⟩:=IG (n:=j+2) (p:=Pul.Ok) y Tryz.underlying209 (fun x q=>b2u q);exact⟨⟨m1,m2,m3,l⟩,rfl,o,m,by simp only[maxLen] at u;grind,w⟩
theorem a9t{j:Nat}{i:List FV}(h:FX Tryz.prog (j+2) 234 i):∃x:Lnk,i=Enc.enc x∧x.Ok:=by
 obtain⟨g,rfl,q⟩:=F7 h Tryz.underlying234;obtain⟨a,b,c,d,rfl,y,w,u,s⟩:=JU q;obtain⟨m1,rfl,o⟩:=EY (j:=j) y;obtain⟨m2,rfl,m⟩:=EY (j:=j) w;obtain⟨m3,rfl,l⟩:=c2c (j:=j) u;obtain⟨p,rfl⟩:=uQ (j:=j) s;exact⟨⟨m1,m2,m3,p⟩,rfl,o,m,l⟩
theorem a3u{j:Nat}{l:List FV}(h:FX Tryz.prog (j+6) 54 l):∃x:OPl,l=x.enc∧x.Ok:=by
 obtain⟨i,rfl,y⟩:=F7 h Tryz.underlying54;obtain⟨a,b,c,rfl,B,A,z⟩:=fO y;obtain⟨w,rfl,q,I⟩:=IG (n:=j+4) (p:=GX.Ok) B Tryz.underlying50 (fun x g=>a4o (j:=j+1) g);obtain⟨u,rfl,o,F⟩:=IG (n:=j+4) (p:=Brd.Ok) A Tryz.underlying51 (fun x g=>a4i g);obtain⟨s,rfl,m,C⟩:=IG (n:=j+4) (p:=Lnk.Ok) z Tryz.underlying52 (fun x g=>a9t (j:=j+2) g);simp only[maxLen] at q o m;exact⟨⟨w,u,s⟩,rfl,I,F,C,by grind,by grind,by grind⟩
theorem c2z{α:Type}{L:List α}(h:L.length=5):∃a b c d e,L=[a,b,c,d,e]:=by
 match L,h with
 |[a,b,c,d,e],_=>simp
theorem a6j{j:Nat}{l:List FV}(h:FX Tryz.prog (j+2) 174 l):∃b:Nat→Nat,l=b0j b∧∀i,b i<256:=by
 obtain⟨L,rfl,p,g⟩:=FX.array h Tryz.underlying174;obtain⟨a,b,c,d,e,rfl⟩:=c2z p;obtain⟨m1,rfl,y⟩:=EY (j:=j) (g a (by simp));obtain⟨m2,rfl,w⟩:=EY (j:=j) (g b (by simp));obtain⟨m3,rfl,u⟩:=EY (j:=j) (g c (by simp));obtain⟨o,rfl,s⟩:=EY (j:=j) (g d (by simp));obtain⟨m,rfl,q⟩:=EY (j:=j) (g e (by simp));exact⟨fun i=>if i=0 then m1 else if i=1 then m2 else if i=2 then m3 else if i=3 then o else m,rfl,fun i=>by grind⟩
open Go.Pie
attribute [local irreducible] Aa Aj Ag Ad AL Ak Bd BL Bl Ai Vm.Done BD AO CJ Bf Eb DW EF A8 Cj
theorem a7r{j:Nat}{g:List FV}(h:FX Tryz.prog (j+1) 5 g):∃x:UInt8,g=Enc.enc x∧True:=by
 obtain⟨n,rfl,i⟩:=EY h;refine⟨UInt8.ofNat n,?_,trivial⟩;show _=[FV.int .u8 (((UInt8.ofNat n).toNat:Nat):Int)]
 rw[UInt8.toNat_ofNat',br i]
def Sd8.Ok(y:Sd8):Prop:=y.st<256∧y.lg<256∧y.dv<256∧y.ky<256
def Mrk.Ok(y:Mrk):Prop:=y.bar<256∧∀j,y.b j<256
theorem a5y{j:Nat}{i:List FV}(h:FX Tryz.prog (j+2) 170 i):∃x:Sd8,i=Enc.enc x∧x.Ok:=by
 obtain⟨g,rfl,s⟩:=F7 h Tryz.underlying170;obtain⟨a,b,c,d,rfl,z,y,w,u⟩:=JU s;obtain⟨m1,rfl,p⟩:=EY (j:=j) z;obtain⟨m2,rfl,o⟩:=EY (j:=j) y;obtain⟨m3,rfl,m⟩:=EY (j:=j) w;obtain⟨q,rfl,l⟩:=EY (j:=j) u;exact⟨⟨m1,m2,m3,q⟩,rfl,p,o,m,l⟩
theorem a9l{j:Nat}{i:List FV}(h:FX Tryz.prog (j+3) 176 i):∃x:Mrk,i=Enc.enc x∧x.Ok:=by
 obtain⟨g,rfl,o⟩:=F7 h Tryz.underlying176;obtain⟨a,b,rfl,q,p⟩:=Va o;obtain⟨m1,rfl,l⟩:=EY (j:=j+1) q;obtain⟨s,rfl,m⟩:=a6j (j:=j) p;exact⟨⟨m1,s⟩,rfl,l,m⟩
theorem a6m{j:Nat}{l:List FV}(h:FX Tryz.prog (j+7) 59 l):∃x:gG,l=x.enc∧x.Ok:=by
 obtain⟨i,rfl,z⟩:=F7 h Tryz.underlying59;obtain⟨a,b,c,d,rfl,F,C,B,A⟩:=JU z;obtain⟨m,rfl,k1⟩:=a3u (j:=j) F;obtain⟨y,rfl,s,M⟩:=IG (n:=j+5) (p:=fun _:UInt8=>True) C Tryz.underlying55 (fun x g=>a7r (j:=j+4) g);obtain⟨w,rfl,q,J⟩:=IG (n:=j+5) (p:=Sd8.Ok) B Tryz.underlying56 (fun x g=>a5y (j:=j+3) g);obtain⟨u,rfl,o,I⟩:=IG (n:=j+5) (p:=Mrk.Ok) A Tryz.underlying57 (fun x g=>a9l (j:=j+2) g);simp only[maxLen] at s q o;exact⟨⟨m,y,w,u⟩,rfl,k1,by grind,by grind,by grind,J,I⟩
noncomputable instance (a b:FP):Decidable (a=b):=Classical.propDecidable _
theorem uH(p:Fe)(t:Int)(x:Int):∀k,x∈L9 p t k↔∃i:Nat,i<k∧x=(i:Int)∧aH p t i=true
 |0=>by simp[L9]
 |k+1=>by
  have l:=uH p t x k;have e:L9 p t (k+1)=if aH p t k=true then L9 p t k++[(k:Int)] else L9 p t k:=rfl
  rw[e];by_cases h:aH p t k=true
  ·rw[if_pos h,bq,aR,l]
   constructor
   ·rintro(⟨i,h1,g⟩|h1)
    ·exact⟨i,by omega,g⟩
    ·exact⟨k,by omega,h1,h⟩
   ·rintro⟨i,h1,g,j⟩
    by_cases e:i=k
    ·subst e;exact .inr g
    ·exact .inl ⟨i,by omega,g,j⟩
  ·rw[if_neg h,l]
   constructor
   ·rintro⟨i,h1,g⟩;exact⟨i,by omega,g⟩
   ·rintro⟨i,h1,g,j⟩
    by_cases e:i=k
    ·subst e;exact absurd j h
    ·exact⟨i,by omega,g,j⟩
theorem Zj(p:Fe)(t:Int):∀k,t∈UJ p k↔t=Nr p∨t=NG p∨∃i,i<k∧(t=(gi p.notes i).s∨t=(gi p.notes i).e)
 |0=>by simp[UJ]
 |k+1=>by
  have g:=Zj p t k;have e:UJ p (k+1)=UJ p k++[(gi p.notes k).s,(gi p.notes k).e]:=rfl;grind
theorem b0u(p:Fe)(t:Int)(i:Nat):aH p t i=true↔(gi p.notes i).s≤t∧t<(gi p.notes i).e:=by
 unfold aH;simp
end Go.Proofs.YtnjkoebfgcbbdaaGreatDoor
namespace Go.Sch
section
open Go.Vm
def cmpL:List Int→List Int→Int
 |[],[]=>0
 |[],_::_=>-1
 |_::_,[]=>1
 |x::a,y::b=>if x<y then -1 else if y<x then 1 else cmpL a b
theorem iT:∀a:List Int,cmpL a a=0
 |[]=>rfl
 |x::a=>by unfold cmpL;rw[if_neg (by omega),if_neg (by omega),iT a]
theorem cmpL_eq:∀{a b:List Int},cmpL a b=0→a=b
 |[],[],_=>rfl
 |[],_::_,h=>by cases h
 |_::_,[],h=>by cases h
 |x::a,y::b,h=>by
  unfold cmpL at h;split at h
  ·cases h
  ·split at h
   ·cases h
   ·rw[cmpL_eq h,show x=y by omega]
theorem Wp:∀a b:List Int,cmpL a b=-cmpL b a
 |[],[]=>rfl
 |[],_::_=>rfl
 |_::_,[]=>rfl
 |x::a,y::b=>by
  unfold cmpL;by_cases h:x<y
  ·omega
  ·by_cases g:y<x
   ·omega
   ·rw[if_neg h,if_neg g,if_neg g,if_neg h,Wp a b]
theorem fG:∀{a b c:List Int},cmpL a b≤0→cmpL b c≤0→cmpL a c≤0
 |[],_,[],_,_=>bl _
 |[],_,_::_,_,_=>by show(-1:Int)≤0;omega
 |_::_,[],_,h,_=>by contradiction
 |_::_,_::_,[],_,h=>by assumption
 |x::a,y::b,z::c,h1,h2=>by
  unfold cmpL at h1 h2 ⊢;by_cases l:x<y
  ·omega
  ·rw[if_neg l] at h1
   by_cases g:y<x
   ·omega
   ·rw[if_neg g] at h1
    by_cases j:y<z
    ·omega
    ·rw[if_neg j] at h2
     by_cases i:z<y
     ·omega
     ·rw[if_neg i] at h2
      rw[if_neg (by omega),if_neg (by omega)];exact fG h1 h2
theorem qZ:∀{a b:List Int} {m:Nat} {v:Int},m<a.length→m<b.length→gi a m=gi b m→cmpL (a.set m v) (b.set m v)=cmpL a b
 |[],_,_,_,h,_,_=>absurd h (bd _)
 |_::_,[],_,_,_,h,_=>absurd h (bd _)
 |x::a,y::b,0,v,_,_,h=>by
  have e:x=y:=h;subst e;unfold cmpL;simp
 |x::a,y::b,m+1,v,h1,h2,h=>by
  rw[eM,eM];have g:=qZ (v:=v) (a:=a) (b:=b) (m:=m) (by grind) (by grind) (by assumption);unfold cmpL;rw[g]
def wS(x y:List Int×Int):Prop:=x.2<y.2∨x.2=y.2∧cmpL x.1 y.1≤0
theorem LJ(x:List Int×Int):wS x x:=.inr ⟨rfl,by rw[iT];omega⟩
theorem Ol{x y z:List Int×Int}(j:wS x y)(g:wS y z):wS x z:=by
 rcases j with j|⟨j,i⟩
 ·rcases g with g|⟨g,_⟩
  ·exact .inl (by omega)
  ·exact .inl (by omega)
 ·rcases g with g|⟨g,h⟩
  ·exact .inl (by omega)
  ·exact .inr ⟨by omega,fG i h⟩
theorem a7g{x y:List Int×Int}(h:wS x y)(g:wS y x):x=y:=by
 obtain⟨a,c⟩:=x;obtain⟨b,d⟩:=y;rcases h with h|⟨h,j⟩
 ·rcases g with g|⟨g,_⟩<;>simp only at h g<;>omega
 ·rcases g with g|⟨g,i⟩
  ·omega
  ·simp only at h j i
   have l:=Wp a b;rw[h,cmpL_eq (a:=a) (b:=b) (by omega)]
def ltB(x y:List Int×Int):Bool:=decide (x.2<y.2)||(decide (x.2=y.2)&&decide (cmpL x.1 y.1<0))
theorem b1f{x y:List Int×Int}(h:ltB x y=true):wS x y:=by
 unfold ltB at h;simp only[Bool.or_eq_true,Bool.and_eq_true,decide_eq_true_eq] at h;rcases h with h|⟨h,g⟩
 ·exact .inl h
 ·exact .inr ⟨h,by omega⟩
theorem a1d{x y:List Int×Int}(h:ltB x y=false):wS y x:=by
 unfold ltB at h;simp only[Bool.or_eq_false_iff,Bool.and_eq_false_iff,decide_eq_false_iff_not] at h;obtain⟨g,h2⟩:=h;rcases h2 with h2|h2
 ·exact .inl (by omega)
 ·by_cases e:x.2=y.2
  ·have:=Wp x.1 y.1
   exact .inr ⟨e.symm,by omega⟩
  ·exact .inl (by omega)
def Gm(nw:Nat→Bool)(f:Nat→Nat)(l:List Int):Nat→List (List Int)
 |0=>[l]
 |k+1=>if nw k=true then Gm nw f l k++(Gm nw f l k).map (fun x=>x.set (f k) 1) else Gm nw f l k
theorem fF(nw:Nat→Bool)(f:Nat→Nat)(l:List Int):∀k,1≤(Gm nw f l k).length∧(Gm nw f l k).length≤2^k
 |0=>⟨ab _,ab _⟩
 |k+1=>by
  have g:=fF nw f l k;unfold Gm;grind
def Xz(nw:Nat→Bool)(f:Nat→Nat)(k i:Nat):Prop:=∃j,j<k∧nw j=true∧f j=i
theorem Xz.succ{nw:Nat→Bool}{f:Nat→Nat}{k i:Nat}:Xz nw f (k+1) i↔Xz nw f k i∨nw k=true∧f k=i:=by
 constructor
 ·rintro⟨j,l,g,h⟩
  by_cases e:j=k
  ·grind
  ·exact .inl ⟨j,by omega,g,h⟩
 ·rintro(⟨j,l,g,h⟩|⟨l,g⟩)
  ·exact⟨j,by omega,g,h⟩
  ·exact⟨k,by omega,l,g⟩
theorem NT{nw:Nat→Bool}{f:Nat→Nat}{l:List Int}:∀(k:Nat),(∀j u,j<k→u<k→f j=f u→j=u)→(∀j,j<k→f j<l.length)→(∀j,j<k→nw j=true→gi l (f j)=0)→∀x:List Int,
 x∈Gm nw f l k↔x.length=l.length∧∀i,i<l.length→(Xz nw f k i→gi x i=0∨gi x i=1)∧(¬ Xz nw f k i→gi x i=gi l i)
 |0,_,_,_,x=>by
  have F:∀i,¬ Xz nw f 0 i:=fun i ⟨j,h,_⟩=>by omega
  unfold Gm;rw[aR];constructor
  ·grind
  ·rintro⟨q,p⟩
   exact La q fun i m=>(p i (by omega)).2 (F i)
 |k+1,hinj,hr,hz,x=>by
  have z:=NT k (fun j u h I=>hinj j u (by omega) (by omega)) (fun j h=>hr j (by omega)) (fun j h=>hz j (by omega));have C:=hr k (by omega);unfold Gm;by_cases s:nw k=true
  ·rw[if_pos s,bq,z,ba]
   have A:¬ Xz nw f k (f k):=fun⟨j,q,_,h3⟩=>by
    grind
   have w:=hz k (by omega) s;constructor
   ·rintro(⟨q,p⟩|⟨y,B,rfl⟩)
    ·refine⟨q,fun i m=>⟨fun g=>?_,fun g=>(p i m).2 fun h=>g (Xz.succ.2 (.inl h))⟩⟩
     rcases Xz.succ.1 g with g|⟨_,rfl⟩
     ·grind
     grind
    ·obtain⟨q,p⟩:=(z y).1 B
     refine⟨by grind,fun i m=>⟨fun g=>?_,fun g=>?_⟩⟩
     ·rw[G5]
      split
      ·simp
      ·rename_i e
       rcases Xz.succ.1 g with g|⟨_,rfl⟩
       ·grind
       omega
     ·rw[G5,if_neg fun e=>g (Xz.succ.2 (.inr ⟨s,e.1⟩))]
      exact(p i m).2 fun h=>g (Xz.succ.2 (.inl h))
   ·rintro⟨q,p⟩
    rcases(p (f k) C).1 (Xz.succ.2 (.inr ⟨s,rfl⟩)) with e|e
    ·refine .inl ⟨q,fun i m=>⟨fun g=>(p i m).1 (Xz.succ.2 (.inl g)),fun g=>?_⟩⟩
     by_cases o:f k=i
     ·subst o;rw[e,w]
     ·exact(p i m).2 fun h=>(Xz.succ.1 h).elim g fun h=>o h.2
    ·refine .inr ⟨x.set (f k) 0,(z _).2 ⟨by rw[cN,q],fun i m=>⟨fun g=>?_,fun g=>?_⟩⟩,?_⟩
     ·have o:f k≠i:=fun e=>A (e.symm▸g)
      rw[G5,if_neg fun e=>o e.1];exact(p i m).1 (Xz.succ.2 (.inl g))
     ·rw[G5]
      by_cases o:f k=i
      ·subst o;rw[if_pos ⟨rfl,by omega⟩,w]
      ·rw[if_neg fun h=>o h.1]
       exact(p i m).2 fun h=>(Xz.succ.1 h).elim g fun h=>o h.2
     ·refine La (by simp) fun i m=>?_
      rw[G5,G5];by_cases o:f k=i
      ·subst o;rw[if_pos ⟨rfl,by simpa using m⟩,e]
      ·rw[if_neg fun h=>o h.1,if_neg fun h=>o h.1]
  ·rw[if_neg s,z]
   have:∀i,Xz nw f (k+1) i↔Xz nw f k i:=fun i=>by
    rw[Xz.succ];exact⟨fun h=>h.elim id fun h=>absurd h.1 s,.inl⟩
   simp only[this]
theorem iC{L:List (List Int)}{m:Nat}(l:∀x∈L,m<x.length∧gi x m=0)(h:L.Nodup):(L.map fun x=>x.set m 1).Nodup:=by
 have g:∀x∈L,((x.set m 1).set m 0)=x:=fun x o=>by
  obtain⟨s,q⟩:=l x o;refine La (by simp) fun i p=>?_
  rw[G5,G5];grind
 refine eZ _ (R:=fun a b=>a∈L∧b∈L∧a≠b) (fun a b ⟨j,hb',hne⟩ e=>hne ?_) ?_
 ·grind
 ·exact gz (R:=(·≠·)) (fun{a b} j g h=>⟨j,g,h⟩) h
theorem dU{nw:Nat→Bool}{f:Nat→Nat}{l:List Int}:∀(k:Nat),(∀j g,j<k→g<k→f j=f g→j=g)→(∀j,j<k→f j<l.length)→(∀j,j<k→nw j=true→gi l (f j)=0)→(Gm nw f l k).Nodup
 |0,_,_,_=>by unfold Gm;simp
 |k+1,hinj,hr,hz=>by
  have B:=NT (nw:=nw) (f:=f) (l:=l) k (fun j g h z=>hinj j g (by omega) (by omega)) (fun j h=>hr j (by omega)) (fun j h=>hz j (by omega));have m:=dU (nw:=nw) (f:=f) (l:=l) k (fun j g h z=>hinj j g (by omega) (by omega)) (fun j h=>hr j (by omega)) (fun j h=>hz j (by omega));unfold Gm;by_cases s:nw k=true
  ·rw[if_pos s]
   have q:¬ Xz nw f k (f k):=fun⟨j,o,_,h3⟩=>by
    grind
   have i:∀x∈Gm nw f l k,f k<x.length∧gi x (f k)=0:=fun x A=>by
    grind
   refine cQ.2 ⟨m,iC i m,fun a w b u e=>?_⟩;subst e;obtain⟨y,p,e⟩:=ba.1 u;have o:=(i a w).2;rw[← e,G5,if_pos ⟨rfl,(i y p).1⟩] at o;omega
  grind
inductive All2'{α β:Type}(R:α→β→Prop):List α→List β→Prop
 |nil:All2' R [] []
 |cons {a b l r} (h:R a b) (t:All2' R l r):All2' R (a::l) (b::r)
theorem All2'.append{α β:Type}{R:α→β→Prop}:∀{g:List α} {r1:List β} {l2:List α} {r2:List β},All2' R g r1→All2' R l2 r2→All2' R (g++l2) (r1++r2)
 |_,_,_,_,.nil,h=>h
 |_,_,_,_,.cons h t,k=>.cons h (All2'.append t k)
theorem All2'.map{α β γ δ:Type}{R:α→β→Prop}{S:γ→δ→Prop}{g:α→γ}{h:β→δ}(i:∀a b,R a b→S (g a) (h b)):∀{l:List α} {r:List β},All2' R l r→All2' S (l.map g) (r.map h)
 |_,_,.nil=>.nil
 |_,_,.cons a t=>.cons (i _ _ a) (All2'.map i t)
theorem All2'.filter{α β:Type}{R:α→β→Prop}{g:α→Bool}{h:β→Bool}(i:∀a b,R a b→g a=h b):∀{l:List α} {r:List β},All2' R l r→All2' R (l.filter g) (r.filter h)
 |_,_,.nil=>.nil
 |_,_,.cons (a:=a) (b:=b) x t=>by
  rw[dx,dx,i a b x];cases h b
  ·exact All2'.filter i t
  ·exact .cons x (All2'.filter i t)
theorem All2'.right{α β:Type}{R:α→β→Prop}:∀{l:List α} {r:List β},All2' R l r→∀b∈r,∃a,a∈l∧R a b
 |_,_,.nil,b,h=>absurd h bh
 |_,_,.cons x t,b,h=>by
  rcases bo.1 h with rfl|h
  ·grind
  ·obtain⟨a,i,g⟩:=All2'.right t b h
   grind
theorem All2'.count{α β:Type}{R:α→β→Prop}{g:α→Bool}{h:β→Bool}(i:∀a b,R a b→g a=h b):∀{l:List α} {r:List β},All2' R l r→l.countP g=r.countP h
 |_,_,.nil=>rfl
 |_,_,.cons (a:=a) (b:=b) x t=>by
  rw[gA,gA,All2'.count i t,i a b x]
theorem jG{nw:Nat→Bool}{f:Nat→Nat}{R:List Int→List Int→Prop}{a b:List Int}(g:R a b):∀(k:Nat),(∀j,j<k→nw j=true→∀x y,R x y→R (x.set (f j) 1) (y.set (f j) 1))→All2' R (Gm nw f a k) (Gm nw f b k)
 |0,_=>.cons g .nil
 |k+1,h=>by
  have l:=jG g k fun j m=>h j (by omega)
  unfold Gm;by_cases i:nw k=true
  ·rw[if_pos i,if_pos i]
   exact l.append (l.map (h k (by omega) i))
  grind
end
section
open Go.Vm
section
variable (nw:Nat→Nat→Bool)(f:Nat→Nat→Nat)(K:Nat→Nat)(play:Nat→List Int→Bool)(Ie:List Int)
def xJ(t:Nat)(l:List Int):List (List Int):=(Gm (nw t) (f t) l (K t)).filter (play t)
def Ye:Nat→List (List Int)
 |0=>[Ie]
 |t+1=>(Ye t).flatMap (xJ nw f K play t)
end
structure fV(n T:Nat)(nw:Nat→Nat→Bool)(f:Nat→Nat→Nat)(K:Nat→Nat)(S:Nat→Nat→Prop)(play:Nat→List Int→Bool)(Ie:List Int):Prop where
 len:Ie.length=n
 inj:∀t,t<T→∀j j',j<K t→j'<K t→f t j=f t j'→j=j'
 rng:∀t,t<T→∀j,j<K t→f t j<n
 zero:∀t,t<T→∀j,j<K t→nw t j=true→gi Ie (f t j)=0
 once:∀t t',t<T→t'<T→∀i,Xz (nw t) (f t) (K t) i→Xz (nw t') (f t') (K t') i→t=t'
 sub:∀t,t<T→∀j,j<K t→S t (f t j)
 old:∀t t',t<t'→t'<T→∀i,S t i→¬ Xz (nw t') (f t') (K t') i
 cont:∀t,t+1<T→∀i,S (t+1) i→S t i∨∀t',t'<t+1→¬ Xz (nw t') (f t') (K t') i
 loc:∀t,t<T→∀l l':List Int,l.length=n→l'.length=n→(∀i,S t i→gi l i=gi l' i)→play t l=play t l'
section
variable {n T:Nat}{nw:Nat→Nat→Bool}{f:Nat→Nat→Nat}{K:Nat→Nat}{S:Nat→Nat→Prop}{play:Nat→List Int→Bool}{Ie:List Int}
def Bgn(nw:Nat→Nat→Bool)(f:Nat→Nat→Nat)(K:Nat→Nat)(t i:Nat):Prop:=Xz (nw t) (f t) (K t) i
structure jw(nw:Nat→Nat→Bool)(f:Nat→Nat→Nat)(K:Nat→Nat)(play:Nat→List Int→Bool)(Ie:List Int)(n t:Nat)(l:List Int):Prop where
 len:l.length=n
 yes:∀i,i<n→(∃t',t'<t∧Bgn nw f K t' i)→gi l i=0∨gi l i=1
 no:∀i,i<n→(¬ ∃t',t'<t∧Bgn nw f K t' i)→gi l i=gi Ie i
 play:∀t',t'<t→play t' l=true
theorem Rk(h:fV n T nw f K S play Ie){t:Nat}(g:t<T){l:List Int}(o:jw nw f K play Ie n t l)(x:List Int) :
 x∈xJ nw f K play t l↔(x.length=n∧∀i,i<n→(Bgn nw f K t i→gi x i=0∨gi x i=1)∧(¬ Bgn nw f K t i→gi x i=gi l i))∧play t x=true:=by
 have q:∀j,j<K t→nw t j=true→gi l (f t j)=0:=fun j m p=>by
  rw[o.no _ (h.rng t g j m) fun⟨t',h1,h2⟩=>?_]
  ·exact h.zero t g j m p
  ·have:=h.once t' t (by omega) g _ h2 ⟨j,m,p,rfl⟩
   omega
 unfold xJ;rw[er,NT (K t) (h.inj t g) (fun j m=>by rw[o.len];exact h.rng t g j m) q,o.len];rfl
theorem a4g(h:fV n T nw f K S play Ie){t:Nat}(g:t<T){l:List Int}(o:jw nw f K play Ie n t l):(xJ nw f K play t l).Nodup:=by
 have p:∀j,j<K t→nw t j=true→gi l (f t j)=0:=fun j i m=>by
  rw[o.no _ (h.rng t g j i) fun⟨t',h1,h2⟩=>?_]
  ·exact h.zero t g j i m
  ·have:=h.once t' t (by omega) g _ h2 ⟨j,i,m,rfl⟩
   omega
 exact(dU (K t) (h.inj t g) (fun j i=>by rw[o.len];exact h.rng t g j i) p).filter _
theorem uy(h:fV n T nw f K S play Ie){t:Nat}(m:t<T){l x:List Int}(o:jw nw f K play Ie n t l)(p:x∈xJ nw f K play t l){g:Nat}(j:g<t){i:Nat}(s:S g i):gi x i=gi l i:=by
 obtain⟨⟨w,u⟩,_⟩:=(Rk h m o x).1 p;by_cases q:i<n
 ·exact(u i q).2 (h.old g t j m i s)
 ·unfold gi
  have e:=o.len;grind
theorem U2(h:fV n T nw f K S play Ie):∀t,t≤T→∀l,l∈Ye nw f K play Ie t↔jw nw f K play Ie n t l
 |0,_,l=>by
  unfold Ye;rw[aR];constructor
  ·rintro rfl
   exact⟨h.len,fun i _ ⟨g,A,_⟩=>by omega,fun _ _ _=>rfl,fun g A=>by omega⟩
  ·intro o
   exact La (by rw[o.len,h.len]) fun i m=>o.no i (by rw[← o.len];omega) fun⟨g,A,_⟩=>by omega
 |t+1,ht,l=>by
  have C:=U2 h t (by omega);unfold Ye;rw[cK];constructor
  ·rintro⟨y,p,F⟩
   have p:=(C y).1 p;obtain⟨⟨A,I⟩,N⟩:=(Rk h (by omega) p l).1 F;refine⟨A,fun i m ⟨g,u,g2⟩=>?_,fun i m q=>?_,fun g u=>?_⟩
   ·by_cases e:g=t
    ·grind
    ·by_cases s:Bgn nw f K t i
     ·grind
     ·rw[(I i m).2 s];exact p.yes i m ⟨g,by omega,g2⟩
   ·rw[(I i m).2 fun s=>q ⟨t,by omega,s⟩]
    exact p.no i m fun⟨g,u,g2⟩=>q ⟨g,by omega,g2⟩
   ·by_cases e:g=t
    ·grind
    ·rw[h.loc g (by omega) l y A p.len fun i B=>uy h (by omega) p F (by omega) B]
     exact p.play g (by omega)
  ·intro o
   let y:List Int:=Bc (fun i=>open Classical in if Bgn nw f K t i then 0 else gi l i) n
   have w:y.length=n:=Cc _ _;have z:∀i,i<n→gi y i=open Classical in if Bgn nw f K t i then 0 else gi l i:=fun i m=>Dy _ m
   have p:jw nw f K play Ie n t y:=by
    refine⟨w,fun i m ⟨g,u,g2⟩=>?_,fun i m q=>?_,fun g u=>?_⟩
    ·rw[z i m]
     split
     ·simp
     ·exact o.yes i m ⟨g,by omega,g2⟩
    ·rw[z i m]
     split
     ·rename_i s
      obtain⟨j,M,J,rfl⟩:=s;exact(h.zero t (by omega) j M J).symm
     ·rename_i s
      exact o.no i m fun⟨g,u,g2⟩=>by
       grind
    ·rw[h.loc g (by omega) y l w o.len fun i B=>?_]
     ·exact o.play g (by omega)
     ·by_cases m:i<n
      ·have q:¬ Bgn nw f K t i:=h.old g t u (by omega) i B
       grind
      ·have e:=o.len
       unfold gi;grind
   refine⟨y,(C y).2 p,(Rk h (by omega) p l).2 ⟨⟨o.len,fun i m=>⟨fun s=>o.yes i m ⟨t,by omega,s⟩,fun s=>?_⟩⟩,o.play t (by omega)⟩⟩;grind
theorem TG{g:List Int→List (List Int)}:∀{L:List (List Int)},L.Nodup→(∀a∈L,(g a).Nodup)→(∀a∈L,∀b∈L,∀x,x∈g a→x∈g b→a=b)→(L.flatMap g).Nodup
 |[],_,_,_=>co
 |a::L,h1,h2,h3=>by
  obtain⟨l,i⟩:=df.1 h1;refine cQ.2 ⟨h2 a (by simp),TG i (fun b h=>h2 b (ao _ h)) fun b h c j=>h3 b (ao _ h) c (ao _ j),fun x o y m e=>?_⟩;grind
theorem kF(h:fV n T nw f K S play Ie):∀t,t≤T→(Ye nw f K play Ie t).Nodup
 |0,_=>by unfold Ye;simp
 |t+1,ht=>by
  have p:=U2 h t (by omega);refine TG (kF h t (by omega)) (fun a u=>a4g h (by omega) ((p a).1 u)) fun a u b w x o m=>?_
  have j:=(p a).1 u;have l:=(p b).1 w;obtain⟨⟨_,z⟩,_⟩:=(Rk h (by omega) j x).1 o;obtain⟨⟨_,y⟩,_⟩:=(Rk h (by omega) l x).1 m;refine La (by rw[j.len,l.len]) fun i q=>?_
  rw[j.len] at q;by_cases s:Bgn nw f K t i
  ·have g:¬ ∃t',t'<t∧Bgn nw f K t' i:=fun⟨t',g1,g2⟩=>by
    have:=h.once t' t (by omega) (by omega) i g2 s;omega
   rw[j.no i q g,l.no i q g]
  grind
variable {σ:Type}(s0:σ)(ET:Nat→σ→List Int→σ)(inc:Nat→σ→List Int→Int)
def J5(l:List Int):Nat→σ
 |0=>s0
 |t+1=>ET t (J5 l t) l
def cF(l:List Int):Nat→Int
 |0=>0
 |t+1=>cF l t+inc t (J5 s0 ET l t) l
structure Stp(n T:Nat)(S:Nat→Nat→Prop)(ET:Nat→σ→List Int→σ)(inc:Nat→σ→List Int→Int):Prop where
 loc:∀t,t<T→∀x (l l':List Int),l.length=n→l'.length=n→(∀i,S t i→gi l i=gi l' i)→ET t x l=ET t x l'∧inc t x l=inc t x l'
 tell:∀t,t<T→∀x x' (l l':List Int),l.length=n→l'.length=n→(∀i,i<n→0≤gi l i∧gi l i≤2)→(∀i,i<n→0≤gi l' i∧gi l' i≤2)→ET t x l=ET t x' l'→∀i,S t i→gi l i=gi l' i
variable {s0:σ}{ET:Nat→σ→List Int→σ}{inc:Nat→σ→List Int→Int}
theorem a1u(j:Stp n T S ET inc){l l':List Int}(o:l.length=n)(m:l'.length=n):∀t,t≤T→(∀g,g<t→∀i,S g i→gi l i=gi l' i)→J5 s0 ET l t=J5 s0 ET l' t∧cF s0 ET inc l t=cF s0 ET inc l' t
 |0,_,_=>⟨rfl,rfl⟩
 |t+1,ht,h=>by
  obtain⟨s,q⟩:=a1u j o m t (by omega) fun g p=>h g (by omega)
  unfold J5 cF;obtain⟨w,u⟩:=j.loc t (by omega) (J5 s0 ET l' t) l l' o m (h t (by omega));grind
theorem Xc(h:fV n T nw f K S play Ie)(q:Stp n T S ET inc){t:Nat}(p:t<T){l x:List Int}(m:jw nw f K play Ie n t l)(o:x∈xJ nw f K play t l) :
 J5 s0 ET x t=J5 s0 ET l t∧cF s0 ET inc x t=cF s0 ET inc l t:=by
 have g:=((Rk h p m x).1 o).1.1;exact a1u q g m.len t (by omega) fun u j i s=>uy h p m o j s
theorem Y6(m:∀i,i<n→0≤gi Ie i∧gi Ie i≤2){t:Nat}{l:List Int}(g:jw nw f K play Ie n t l){i:Nat}(j:i<n):0≤gi l i∧gi l i≤2:=by
 by_cases e:∃t',t'<t∧Bgn nw f K t' i
 ·rcases g.yes i j e with h|h<;>omega
 ·rw[g.no i j e];grind
theorem a4v(h:fV n T nw f K S play Ie)(o:Stp n T S ET inc)(m:∀i,i<n→0≤gi Ie i∧gi Ie i≤2)(j:∀t,t<T→∀i,S t i→i<n):∀{t:Nat},t<T→∀{l l':List Int},jw nw f K play Ie n t l→jw nw f K play Ie n t l'→J5 s0 ET l t=J5 s0 ET l' t→∀i,S t i→gi l i=gi l' i
 |0,ht,l,l',hl,hl',_,i,hS=>by
  have g:=j 0 ht i hS;rw[hl.no i g fun⟨t',h1,_⟩=>by omega,hl'.no i g fun⟨t',h1,_⟩=>by omega]
 |t+1,ht,l,l',hl,hl',he,i,hS=>by
  have g:=j _ ht i hS;rcases h.cont t ht i hS with h1|h1
  ·exact o.tell t (by omega) _ _ l l' hl.len hl'.len (fun i g=>Y6 m hl g) (fun i g=>Y6 m hl' g) he i h1
  ·rw[hl.no i g fun⟨t',g1,g2⟩=>h1 t' g1 g2,hl'.no i g fun⟨t',g1,g2⟩=>h1 t' g1 g2]
theorem nN(h:fV n T nw f K S play Ie)(s:Stp n T S ET inc)(w:∀i,i<n→0≤gi Ie i∧gi Ie i≤2)(p:∀t,t<T→∀i,S t i→i<n){t:Nat}(m:t<T){l l':List Int}(q:jw nw f K play Ie n t l)(g:jw nw f K play Ie n t l')(u:J5 s0 ET l t=J5 s0 ET l' t) :
 All2' (fun x y=>(∀i,S t i→gi x i=gi y i)∧cmpL x y=cmpL l l'∧x.length=n∧y.length=n) (xJ nw f K play t l) (xJ nw f K play t l'):=by
 have o:=a4v h s w p m q g u;have z:All2' (fun x y=>(∀i,S t i→gi x i=gi y i)∧cmpL x y=cmpL l l'∧x.length=n∧y.length=n) (Gm (nw t) (f t) l (K t)) (Gm (nw t) (f t) l' (K t)):=by
  refine jG ⟨o,rfl,q.len,g.len⟩ (K t) fun j hj hn x y ⟨g1,g2,g3,g4⟩=>⟨fun i B=>?_,?_,by grind,by grind⟩
  ·rw[G5,G5,g3,g4]
   grind
  ·have A:=h.rng t m j hj
   rw[qZ (by omega) (by omega) (g1 _ (h.sub t m j hj)),g2]
 exact z.filter fun a b ⟨g1,_,g3,g4⟩=>h.loc t m a b g3 g4 g1
variable [DecidableEq σ]
def Um(m:List (σ×(List Int×Int)))(d:σ×(List Int×Int)):List (σ×(List Int×Int)) :=
 match BZ m d.1 with
 |none=>CB m d.1 d.2
 |some o=>if ltB d.2 o=true then CB m d.1 d.2 else m
theorem Lh{β:Type}:∀{m:List (σ×β)} {y:σ} {o:β},BZ m y=some o→(y,o)∈m
 |[],_,_,h=>by cases h
 |x::m,y,o,h=>by
  unfold BZ at h;split at h
  ·grind
  ·exact ao _ (Lh h)
theorem UC{β:Type}:∀{m:List (σ×β)} {y:σ},BZ m y=none→∀o,(y,o)∉m
 |[],_,_,_,h=>absurd h bh
 |x::m,y,h,o,hm=>by
  unfold BZ at h;split at h
  ·cases h
  ·rename_i e
   rcases bo.1 hm with h1|h1
   ·grind
   ·exact UC h o h1
theorem Qm{β:Type}:∀{m:List (σ×β)} {y:σ} {b:β} {z:σ×β},z∈CB m y b→z=(y,b)∨z∈m∧z.1≠y∨z∈m
 |[],y,b,z,h=>by
  unfold CB at h;grind
 |x::m,y,b,z,h=>by
  unfold CB at h;split at h
  ·grind
  ·rcases bo.1 h with h|h
   ·grind
   ·rcases Qm h with h|h|h
    ·grind
    ·grind
    grind
theorem Ll{β:Type}:∀{m:List (σ×β)} {y:σ} {b:β},(y,b)∈CB m y b
 |[],_,_=>aR.2 rfl
 |x::m,y,b=>by
  unfold CB;split
  ·simp
  ·exact ao _ Ll
theorem cO{β:Type}:∀{m:List (σ×β)} {y:σ} {b:β} {z:σ×β},z∈m→z.1≠y→z∈CB m y b
 |[],_,_,_,h,_=>absurd h bh
 |x::m,y,b,z,h,hne=>by
  unfold CB;split
  ·grind
  ·rcases bo.1 h with h|h
   ·grind
   ·exact ao _ (cO h hne)
theorem iQ{β:Type}:∀{m:List (σ×β)} {y:σ} {b:β} {z:σ},z∈(CB m y b).map (·.1)→z=y∨z∈m.map (·.1)
 |[],y,b,z,h=>by
  unfold CB at h;grind
 |x::m,y,b,z,h=>by
  unfold CB at h;split at h
  ·grind
  ·rcases bo.1 h with h|h
   ·grind
   ·exact(iQ h).elim .inl fun h=>.inr (ao _ h)
theorem Pq{β:Type}:∀{m:List (σ×β)} {y:σ} {b:β},(m.map (·.1)).Nodup→((CB m y b).map (·.1)).Nodup
 |[],_,_,_=>by unfold CB;simp
 |x::m,y,b,h=>by
  obtain⟨j,i⟩:=df.1 h;unfold CB;split
  ·grind
  ·rename_i e
   refine df.2 ⟨fun g=>?_,Pq i⟩;rcases iQ g with h3|h3
   ·grind
   grind
theorem eP{β:Type}:∀{m:List (σ×β)} {y:σ} {a b:β},(m.map (·.1)).Nodup→(y,a)∈m→(y,b)∈m→a=b
 |[],_,_,_,_,h,_=>absurd h bh
 |x::m,y,a,b,hn,h1,h2=>by
  obtain⟨i,g⟩:=df.1 hn;rcases bo.1 h1 with l|h1
  ·grind
  ·rcases bo.1 h2 with j|h2
   ·grind
   ·exact eP g h1 h2
structure YO(D m:List (σ×(List Int×Int))):Prop where
 keys:(m.map (·.1)).Nodup
 sub:∀d∈m,d∈D
 best:∀d∈D,∃o,(d.1,o)∈m∧wS o d.2
theorem YO.ins{D m:List (σ×(List Int×Int))}(h:YO D m)(d:σ×(List Int×Int)):YO (D++[d]) (Um m d):=by
 obtain⟨y,w⟩:=d;unfold Um;have hput:(∀o,(y,o)∈m→wS w o)→YO (D++[(y,w)]) (CB m y w):=fun l=>by
  refine⟨Pq h.keys,fun z hz=>?_,fun z hz=>?_⟩
  ·rcases Qm hz with rfl|hz|hz
   ·simp
   ·exact cD _ (h.sub z hz.1)
   ·exact cD _ (h.sub z hz)
  ·rcases bq.1 hz with hz|hz
   ·obtain⟨o,p,j⟩:=h.best z hz
    by_cases e:z.1=y
    ·refine⟨w,by rw[e];exact Ll,Ol (l o (by grind)) j⟩
    ·exact⟨o,cO p e,j⟩
   ·rw[aR] at hz
    subst hz;exact⟨w,Ll,LJ _⟩
 cases hl:BZ m y with
 |none=>exact hput fun o g=>absurd g (UC hl o)
 |some o =>
  have g:=Lh hl;simp only;cases hb:ltB w o with
  |true =>
   refine hput fun q i=>?_
   rw[eP h.keys i g];exact b1f hb
  |false =>
   refine⟨h.keys,fun z hz=>cD _ (h.sub z hz),fun z hz=>?_⟩;rcases bq.1 hz with hz|hz
   ·exact h.best z hz
   ·rw[aR] at hz
    subst hz;exact⟨o,g,a1d hb⟩
theorem YO.fold{D:List (σ×(List Int×Int))}:∀(L:List (σ×(List Int×Int))) {m:List (σ×(List Int×Int))},YO D m→YO (D++L) (L.foldl Um m)
 |[],m,h=>by grind
 |d::L,m,h=>by
  have:=YO.fold L (h.ins d);grind
theorem YO.nil:YO ([]:List (σ×(List Int×Int))) []:=⟨co,fun d h=>absurd h bh,fun d h=>absurd h bh⟩
structure rE(nw:Nat→Nat→Bool)(f:Nat→Nat→Nat)(K:Nat→Nat)(play:Nat→List Int→Bool)(Ie:List Int)(s0:σ)(ET:Nat→σ→List Int→σ)(inc:Nat→σ→List Int→Int)(t:Nat)(m:List (σ×(List Int×Int))):Prop where
 keys:(m.map (·.1)).Nodup
 sub:∀d∈m,d.2.1∈Ye nw f K play Ie t∧d.1=J5 s0 ET d.2.1 t∧d.2.2=cF s0 ET inc d.2.1 t
 best:∀h∈Ye nw f K play Ie t,∃o,(J5 s0 ET h t,o)∈m∧wS o (h,cF s0 ET inc h t)
def cand(nw:Nat→Nat→Bool)(f:Nat→Nat→Nat)(K:Nat→Nat)(play:Nat→List Int→Bool)(ET:Nat→σ→List Int→σ)(inc:Nat→σ→List Int→Int)(t:Nat)(d:σ×(List Int×Int)):List (σ×(List Int×Int)) :=
 (xJ nw f K play t d.2.1).map fun x=>(ET t d.1 x,(x,d.2.2+inc t d.1 x))
theorem rE.step(h:fV n T nw f K S play Ie)(q:Stp n T S ET inc)(hb:∀i,i<n→0≤gi Ie i∧gi Ie i≤2)(F:∀t,t<T→∀i,S t i→i<n){t:Nat}(p:t<T){m L:List (σ×(List Int×Int))}(A:rE nw f K play Ie s0 ET inc t m)(W:∀d,d∈L↔d∈m) :
 rE nw f K play Ie s0 ET inc (t+1) ((L.flatMap (cand nw f K play ET inc t)).foldl Um []):=by
 have w:=U2 h t (by omega);have I:=YO.fold (L.flatMap (cand nw f K play ET inc t)) (YO.nil (σ:=σ));have hc:∀e∈L.flatMap (cand nw f K play ET inc t),e.2.1∈Ye nw f K play Ie (t+1)∧e.1=J5 s0 ET e.2.1 (t+1)∧e.2.2=cF s0 ET inc e.2.1 (t+1):=fun e B=>by
  obtain⟨d,C,B⟩:=cK.1 B;obtain⟨x,g,rfl⟩:=ba.1 B;obtain⟨J,X,g3⟩:=A.sub d ((W d).1 C);have hi:=(w _).1 J;obtain⟨k1,k2⟩:=Xc (s0:=s0) h q p hi g;refine⟨?_,?_,?_⟩
  ·unfold Ye;grind
  ·show ET t d.1 x=ET t (J5 s0 ET x t) x
   grind
  ·show d.2.2+inc t d.1 x=cF s0 ET inc x t+inc t (J5 s0 ET x t) x
   grind
 refine⟨I.keys,fun d C=>hc d (I.sub d C),fun x g=>?_⟩;unfold Ye at g;obtain⟨y,O,g⟩:=cK.1 g;obtain⟨o,U,j⟩:=A.best y O;obtain⟨J,X,g3⟩:=A.sub _ U;have l:=(w y).1 O;have s:=(w o.1).1 J;obtain⟨z,N,z1,z2,Z,Y⟩:=(nN h q hb F p s l X.symm).right x g;obtain⟨k1,k2⟩:=Xc (s0:=s0) h q p l g;obtain⟨k3,k4⟩:=Xc (s0:=s0) h q p s N;have u:(ET t (J5 s0 ET y t) z,(z,o.2+inc t (J5 s0 ET y t) z))∈L.flatMap (cand nw f K play ET inc t):=cK.2 ⟨_,(W _).2 U,ba.2 ⟨z,N,rfl⟩⟩;obtain⟨M,h1,h2⟩:=I.best _ u;obtain⟨l1,l2⟩:=q.loc t p (J5 s0 ET y t) z x Z Y z1;simp only[l1] at h1;refine⟨M,?_,Ol h2 ?_⟩
 ·show(ET t (J5 s0 ET x t) x,M)∈_
  grind
 ·show wS _ (x,cF s0 ET inc x t+inc t (J5 s0 ET x t) x)
  rcases j with j|⟨j,V⟩
  ·exact .inl (by grind)
  ·exact .inr ⟨by grind,by grind⟩
theorem rE.start:rE nw f K play Ie s0 ET inc 0 [(s0,(Ie,0))] :=
 ⟨by simp,fun d g=>by rw[aR] at g;subst g;exact⟨by simp[Ye],rfl,rfl⟩,fun h i=>⟨(Ie,0),by simp[J5],by
  have:h=Ie:=by simpa[Ye] using i
  subst this;exact LJ _⟩⟩
end
end
section
open Go.Vm
def sumF{α:Type}(F:α→Nat):List α→Nat
 |[]=>0
 |a::l=>F a+sumF F l
theorem MP{α:Type}(F:α→Nat):∀l r:List α,sumF F (l++r)=sumF F l+sumF F r
 |[],r=>by simp[sumF]
 |a::l,r=>by simp only[List.cons_append,sumF,MP F l r];omega
theorem jq{α:Type}(F:α→Nat){l r:List α}(h:l.Perm r):sumF F l=sumF F r:=by
 induction h with
 |nil=>rfl
 |cons a _ g=>simp only[sumF,g]
 |swap a b l=>simp only[sumF];omega
 |trans _ _ j i=>omega
theorem LD{α:Type}{F G:α→Nat}:∀{l:List α},(∀a∈l,F a=G a)→sumF F l=sumF G l
 |[],_=>rfl
 |a::l,h=>by
  simp only[sumF];rw[h a (by simp),LD fun b g=>h b (ao _ g)]
theorem Ld{α:Type}{F:α→Nat}:∀{l:List α},(∀a∈l,F a=0)→sumF F l=0
 |[],_=>rfl
 |a::l,h=>by
  simp only[sumF];rw[h a (by simp),Ld fun b g=>h b (ao _ g)]
theorem VP{α:Type}(F G:α→Nat):∀l:List α,sumF (fun a=>F a+G a) l=sumF F l+sumF G l
 |[]=>rfl
 |a::l=>by simp only[sumF,VP F G l];omega
theorem qG{α:Type}:∀l:List α,sumF (fun _=>1) l=l.length
 |[]=>rfl
 |a::l=>by simp only[sumF,qG l,List.length_cons];omega
theorem Pj{α β:Type}(F:β→Nat)(g:α→List β):∀l:List α,sumF F (l.flatMap g)=sumF (fun a=>sumF F (g a)) l
 |[]=>rfl
 |a::l=>by rw[List.flatMap_cons,MP,Pj F g l];rfl
theorem ZG{α β:Type}(F:β→Nat)(g:α→β):∀l:List α,sumF F (l.map g)=sumF (fun a=>F (g a)) l
 |[]=>rfl
 |a::l=>by simp only[List.map_cons,sumF,ZG F g l]
theorem QL{α:Type}(p:α→Bool):∀l:List α,l.countP p=sumF (fun a=>if p a=true then 1 else 0) l
 |[]=>rfl
 |a::l=>by
  rw[gA,QL p l];simp only[sumF];omega
theorem countP_flatMap{α β:Type}(p:β→Bool)(g:α→List β)(l:List α):(l.flatMap g).countP p=sumF (fun a=>(g a).countP p) l:=by
 rw[QL,Pj];exact LD fun a _=>(QL p _).symm
section
variable {σ β:Type}[DecidableEq σ]
theorem xP{m:List (σ×β)}{y:σ}{o:β}{G:σ×β→Nat}(i:(m.map (·.1)).Nodup)(h:(y,o)∈m):sumF (fun e=>if y=e.1 then G e else 0) m=G (y,o):=by
 induction m with
 |nil=>cases h
 |cons x m q =>
  obtain⟨g,p⟩:=df.1 i;simp only[sumF];rcases bo.1 h with h|h
  ·subst h
   rw[if_pos rfl,Ld fun e j=>if_neg fun l=>g (ba.2 ⟨e,j,l.symm⟩)];rfl
  grind
theorem WT{α:Type}{m:List (σ×β)}(l:(m.map (·.1)).Nodup){g:α→σ}{F:α→Nat}{G:σ×β→Nat}:∀{P:List α},(∀h∈P,∃o,(g h,o)∈m)→(∀h∈P,∀e∈m,e.1=g h→F h=G e)→sumF F P=sumF (fun e=>P.countP (fun h=>decide (g h=e.1))*G e) m
 |[],_,_=>by
  refine(Ld fun e _=>?_).symm;simp
 |h::P,h1,h2=>by
  have p:=WT l (P:=P) (g:=g) (F:=F) (G:=G) (fun x i=>h1 x (ao _ i)) fun x i=>h2 x (ao _ i)
  obtain⟨o,j⟩:=h1 h (by simp);simp only[sumF];rw[p,h2 h (by simp) _ j rfl,← xP (G:=G) l j,← VP];grind
def SB(m:List (σ×(List Int×Nat)))(d:σ×(List Int×Nat)):List (σ×(List Int×Nat)) :=
 match BZ m d.1 with
 |none=>CB m d.1 (d.2.1,0+d.2.2)
 |some o=>CB m d.1 (o.1,o.2+d.2.2)
def vk(D:List (σ×(List Int×Nat)))(y:σ):Nat:=sumF (fun d=>if d.1=y then d.2.2 else 0) D
structure YV(D m:List (σ×(List Int×Nat))):Prop where
 keys:(m.map (·.1)).Nodup
 sub:∀d∈m,(∃c,(d.1,(d.2.1,c))∈D)∧d.2.2=vk D d.1
 all:∀d∈D,∃o,(d.1,o)∈m
theorem kV(D:List (σ×(List Int×Nat)))(d:σ×(List Int×Nat))(y:σ):vk (D++[d]) y=vk D y+if d.1=y then d.2.2 else 0:=by
 unfold vk;rw[MP];rfl
theorem a6r{D:List (σ×(List Int×Nat))}{y:σ}(h:∀d∈D,d.1≠y):vk D y=0:=Ld fun d g=>if_neg (h d g)
theorem Vj{m:List (σ×β)}{y:σ}{b c:β}(g:(m.map (·.1)).Nodup)(h:(y,c)∈CB m y b):c=b:=eP (Pq g) h Ll
theorem YV.ins{D m:List (σ×(List Int×Nat))}(h:YV D m)(d:σ×(List Int×Nat)):YV (D++[d]) (SB m d):=by
 obtain⟨y,x,c⟩:=d;unfold SB;have hput:∀w:List Int×Nat,(∃i,(y,(w.1,i))∈D++[(y,(x,c))])→w.2=vk D y+c→YV (D++[(y,(x,c))]) (CB m y w):=fun w p l=>by
  refine⟨Pq h.keys,fun z hz=>?_,fun z hz=>?_⟩
  ·by_cases e:z.1=y
   ·obtain⟨B,A⟩:=z
    subst e;have:=Vj h.keys hz;subst this;exact⟨p,by rw[l,kV,if_pos rfl]⟩
   ·have j:z∈m:=by
     rcases Qm hz with h1|h1|h1
     ·grind
     ·grind
     omega
    obtain⟨⟨i,h1⟩,q⟩:=h.sub z j;exact⟨⟨i,cD _ h1⟩,by rw[q,kV,if_neg (fun u=>e u.symm),dq]⟩
  ·rcases bq.1 hz with hz|hz
   ·by_cases e:z.1=y
    ·exact⟨w,by rw[e];exact Ll⟩
    ·obtain⟨o,g⟩:=h.all z hz
     exact⟨o,cO g e⟩
   ·rw[aR] at hz
    subst hz;exact⟨w,Ll⟩
 cases hl:BZ m y with
 |none =>
  refine hput _ ⟨c,by simp⟩ ?_;rw[a6r fun d s e=>?_];obtain⟨o,g⟩:=h.all d s;rw[e] at g;exact UC hl o g
 |some o =>
  have g:=Lh hl;obtain⟨⟨i,h1⟩,q⟩:=h.sub _ g;grind
theorem YV.fold:∀(L:List (σ×(List Int×Nat))) {D m:List (σ×(List Int×Nat))},YV D m→YV (D++L) (L.foldl SB m)
 |[],D,m,h=>by grind
 |d::L,D,m,h=>by
  have:=YV.fold L (h.ins d);grind
theorem YV.nil:YV ([]:List (σ×(List Int×Nat))) []:=⟨co,fun d h=>absurd h bh,fun d h=>absurd h bh⟩
variable {n T:Nat}{nw:Nat→Nat→Bool}{f:Nat→Nat→Nat}{K:Nat→Nat}{S:Nat→Nat→Prop}{play:Nat→List Int→Bool}{Ie:List Int}{s0:σ}{ET:Nat→σ→List Int→σ}{inc:Nat→σ→List Int→Int}
structure YK(nw:Nat→Nat→Bool)(f:Nat→Nat→Nat)(K:Nat→Nat)(play:Nat→List Int→Bool)(Ie:List Int)(s0:σ)(ET:Nat→σ→List Int→σ)(t:Nat)(m:List (σ×(List Int×Nat))):Prop where
 keys:(m.map (·.1)).Nodup
 sub:∀d∈m,d.2.1∈Ye nw f K play Ie t∧d.1=J5 s0 ET d.2.1 t∧d.2.2=(Ye nw f K play Ie t).countP fun h=>decide (J5 s0 ET h t=d.1)
 all:∀h∈Ye nw f K play Ie t,∃o,(J5 s0 ET h t,o)∈m
def jW(nw:Nat→Nat→Bool)(f:Nat→Nat→Nat)(K:Nat→Nat)(play:Nat→List Int→Bool)(ET:Nat→σ→List Int→σ)(t:Nat)(d:σ×(List Int×Nat)):List (σ×(List Int×Nat)) :=
 (xJ nw f K play t d.2.1).map fun x=>(ET t d.1 x,(x,d.2.2))
theorem qC(p:List Int→Bool)(c:Nat):∀l:List (List Int),sumF (fun x=>if p x=true then c else 0) l=c*l.countP p
 |[]=>rfl
 |a::l=>by
  simp only[sumF,qC p c l,List.countP_cons];grind
theorem YK.step(h:fV n T nw f K S play Ie)(p:Stp n T S ET inc)(hb:∀i,i<n→0≤gi Ie i∧gi Ie i≤2)(A:∀t,t<T→∀i,S t i→i<n){t:Nat}(l:t<T){m L:List (σ×(List Int×Nat))}(s:YK nw f K play Ie s0 ET t m)(U:L.Perm m) :
 YK nw f K play Ie s0 ET (t+1) ((L.flatMap (jW nw f K play ET t)).foldl SB []):=by
 have q:=U2 h t (by omega);have V:=YV.fold (L.flatMap (jW nw f K play ET t)) (YV.nil (σ:=σ));have Y:∀y,vk (L.flatMap (jW nw f K play ET t)) y=(Ye nw f K play Ie (t+1)).countP fun x=>decide (J5 s0 ET x (t+1)=y):=fun y=>by
  unfold vk;rw[Pj,jq _ U];have e1:∀d∈m,sumF (fun e:σ×(List Int×Nat)=>if e.1=y then e.2.2 else 0) (jW nw f K play ET t d)=(Ye nw f K play Ie t).countP (fun h=>decide (J5 s0 ET h t=d.1))*(xJ nw f K play t d.2.1).countP (fun x=>decide (ET t d.1 x=y)):=fun d w=>by
   obtain⟨_,_,g3⟩:=s.sub d w;rw[← g3];unfold jW;rw[ZG];rw[← qC];simp
  rw[LD e1];rw[← WT (P:=Ye nw f K play Ie t) (g:=fun h=>J5 s0 ET h t) (F:=fun h=>(xJ nw f K play t h).countP fun x=>decide (ET t (J5 s0 ET h t) x=y)) (G:=fun d=>(xJ nw f K play t d.2.1).countP fun x=>decide (ET t d.1 x=y)) s.keys s.all]
  ·show _=List.countP _ (List.flatMap _ _)
   rw[countP_flatMap];refine LD fun a O=>?_
   refine List.countP_congr fun x j=>?_
   obtain⟨k1,_⟩:=Xc (s0:=s0) (inc:=inc) h p l ((q a).1 O) j;show decide (ET t (J5 s0 ET a t) x=y)=true↔decide (ET t (J5 s0 ET x t) x=y)=true;rw[k1]
  ·intro a O e u N
   obtain⟨B,W,_⟩:=s.sub e u;have:=(nN (s0:=s0) (inc:=inc) h p hb A l ((q a).1 O) ((q _).1 B) (by grind)).count (g:=fun x=>decide (ET t (J5 s0 ET a t) x=y)) (h:=fun x=>decide (ET t e.1 x=y)) fun x z ⟨J,_,I,C⟩=>by
    rw[N,(p.loc t l _ x z I C J).1]
   omega
 have hc:∀e∈L.flatMap (jW nw f K play ET t),e.2.1∈Ye nw f K play Ie (t+1)∧e.1=J5 s0 ET e.2.1 (t+1):=fun e u=>by
  obtain⟨d,w,u⟩:=cK.1 u;obtain⟨x,j,rfl⟩:=ba.1 u;obtain⟨B,W,g3⟩:=s.sub d (U.mem_iff.1 w);obtain⟨k1,_⟩:=Xc (s0:=s0) (inc:=inc) h p l ((q _).1 B) j;refine⟨?_,?_⟩
  ·unfold Ye;grind
  ·show ET t d.1 x=ET t (J5 s0 ET x t) x
   grind
 refine⟨V.keys,fun d w=>?_,fun x j=>?_⟩
 ·obtain⟨⟨c,h1⟩,h2⟩:=V.sub d w
  grind
 ·obtain⟨y,M,j⟩:=cK.1 j
  obtain⟨o,Z⟩:=s.all y M;obtain⟨B,W,_⟩:=s.sub _ Z;obtain⟨z,hz,J,_,I,C⟩:=(nN (s0:=s0) (inc:=inc) h p hb A l ((q _).1 B) ((q y).1 M) W.symm).right x j;obtain⟨X,h1⟩:=V.all (ET t (J5 s0 ET y t) z,(z,o.2)) (cK.2 ⟨_,U.mem_iff.2 Z,ba.2 ⟨z,hz,rfl⟩⟩);obtain⟨k1,_⟩:=Xc (s0:=s0) (inc:=inc) h p l ((q y).1 M) j;refine⟨X,?_⟩;show(ET t (J5 s0 ET x t) x,X)∈_;rw[k1,← (p.loc t l _ z x I C J).1];omega
theorem YK.start:YK nw f K play Ie s0 ET 0 [(s0,(Ie,1))] :=
 ⟨by simp,fun d g=>by rw[aR] at g;subst g;exact⟨by simp[Ye],rfl,by simp[Ye,J5]⟩,fun h i=>⟨(Ie,1),by simp[J5]⟩⟩
theorem YK.total{t:Nat}{m:List (σ×(List Int×Nat))}(i:YK nw f K play Ie s0 ET t m):sumF (fun d=>d.2.2) m=(Ye nw f K play Ie t).length:=by
 rw[← qG,WT (P:=Ye nw f K play Ie t) (g:=fun h=>J5 s0 ET h t) (F:=fun _=>1) (G:=fun _=>1) i.keys i.all fun _ _ _ _ _=>rfl];exact LD fun d j=>by rw[(i.sub d j).2.2,fb]
end
end
section
open Go.Vm
def XD(b:Option (List Int×Int))(w:List Int×Int):Option (List Int×Int) :=
 match b with
 |none=>some w
 |some o=>if ltB w o=true then some w else some o
theorem W9:∀(L:List (List Int×Int)) (b:Option (List Int×Int)),(b=none∧L=[]∧L.foldl XD b=none)∨∃w,L.foldl XD b=some w∧(w∈L∨b=some w)∧(∀x∈L,wS w x)∧∀o,b=some o→wS w o
 |[],none=>.inl ⟨rfl,rfl,rfl⟩
 |[],some o=>.inr ⟨o,rfl,.inr rfl,fun x h=>absurd h bh,fun g h=>by cases h;exact LJ _⟩
 |x::L,b=>by
  rw[List.foldl_cons];have m:∃o,XD b x=some o∧(o=x∨b=some o)∧wS o x∧∀g,b=some g→wS o g:=by
   cases b with
   |none=>exact⟨x,rfl,.inl rfl,LJ _,fun g h=>by cases h⟩
   |some o =>
    unfold XD;simp only;cases h:ltB x o with
    |true =>
     exact⟨x,rfl,.inl rfl,LJ _,fun g j=>by cases j;exact b1f h⟩
    |false =>
     exact⟨o,rfl,.inr rfl,a1d h,fun g j=>by cases j;exact LJ _⟩
  obtain⟨o,s,A,q,p⟩:=m;rw[s];rcases W9 L (some o) with⟨h,_⟩|⟨w,z,C,B,u⟩
  ·cases h
  ·have l:=u o rfl
   refine .inr ⟨w,z,?_,fun y hy=>?_,fun g i=>Ol l (p g i)⟩
   ·grind
   ·rcases bo.1 hy with rfl|hy
    ·exact Ol l q
    grind
end
end Go.Sch
