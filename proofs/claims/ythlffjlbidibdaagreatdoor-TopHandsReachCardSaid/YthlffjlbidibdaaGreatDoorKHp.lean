/-
  Texts of a proof, merged (Wm3, HanL, PieT, PieU, PieS, TraA, PieN, PieO, RkQ, OrK, OrP, PieV, PieY, Sch, HanP). Conditions: in each statement.
-/
import Derived.Test.YthlffjlbidibdaaGreatDoorKHo
set_option linter.unusedSimpArgs false
set_option autoImplicit true
set_option relaxedAutoImplicit true
set_option linter.unusedVariables false
set_option linter.unusedSectionVars false
set_option maxRecDepth 100000
set_option maxHeartbeats 8000000
abbrev bm:=@List.not_mem_nil
abbrev cS:=@List.mem_flatMap
abbrev dd:=@List.nodup_append
abbrev eV:=@List.mem_filter
abbrev gm:=@List.take_append_of_le_length
abbrev ic:=@List.Pairwise.imp_of_mem
abbrev ie:=@List.countP_cons
namespace Go.Am
variable {P:Program}{G:List Nat}
theorem rD{sT xT e:TypeId}{i:TypeInfo}{len n c g:Nat}{vs l:List Value}{x s' x':Value}(ty:TypeId)(V:DR P G ι m w)
 (hv:Az ι m.gen (.slice (some ⟨c,0,none⟩) len g) s') (U:Az ι m.gen x x') (N:m.get c=.cells vs e g false) (C:vs.length=len*i.size)
 (hu:P.underlying sT=some (.slice e)) (hx:P.underlying xT=some xd) (hd:∀k,xd≠.int k) (hi:P.info? e=some i) (hz:EO i=true) (hsize:0<i.size) (hn:0<n) (F:(len+n)*(i.bytes+1)≤room)
 (hxn:lenOf x=some n) (hl:BH m i.size n x=some l) (J:l.all BQ=true) :
 ∃v' w',(Builtin.append_ #[sT,xT] ty #[s',x']).run P w=.ok v' w' ∧
  (Post P G ι m w (.slice (some ⟨c,0,none⟩) (len+n) g) (m.put c (.cells (vs++l) e g false)) v' w'∨Post P G ι m w (AU m e (vs++l) (len+n)).1 (AU m e (vs++l) (len+n)).2 v' w'):=by
 obtain⟨z,hz1,hz2⟩:=Rz hz;obtain⟨M,hr,p⟩:=Fe V U hl;have hlen:l.length=n*i.size:=Eb hl;have hap:∀k,(Builtin.firstCells i.size n x').run P { w with drawn:=k }=.ok M.toArray { w with drawn:=k }:=fun k=>Kz k hr
 have a9b:(Builtin.firstCells i.size n x').run P w=.ok M.toArray w:=hap w.drawn;have I:M.length=n*i.size:=by rw[← p.1];omega
 cases hv with
 |sl _ _ _ _ O h hsr =>
  rw[Ou (x:=x') (n:=n) (i:=i) ty rfl rfl rfl rfl hu hx hd hi (fun w=>N9 U hxn w)];obtain⟨s,hb,_,q3,hcur⟩:=hsr;obtain⟨q1,q2,q4⟩:=hcur (Mem.H7 N).symm;obtain⟨cs,fr,e0,W,A,Vz,hcr,hfr0⟩:=Hu V hb N;obtain⟨he0,yg⟩:=hfr0 rfl;subst he0;have y:s.esz=i.size:=by rw[Vz,ED hi]
  by_cases q:len+n≤h
  ·obtain⟨q5,q6⟩:O.off=0+s.sh∧O.off+h*s.esz≤s.lim:=by
    omega
   have ha':O=⟨s.blk,s.sh,none⟩:=by
    obtain⟨x1,y1,z1⟩:=O;grind
   have Y:(len+n)*i.size≤h*i.size:=bk _ q;rw[cL] at Y;rw[y,A] at q6;obtain⟨w',cs',u,r1,r2,r3,r4,r5,r6,r7,r8⟩:=Hz (P:=P) s.blk e0 fr (s.sh+len*i.size) M 0 w cs W (p.VJ J) (by omega) yg;obtain⟨Q,hext,Dk,hb'⟩:=JJ (x:=.cells (vs++l) e0 g false) (ib':=s) (w':=w') (obj:=.cells cs' e0 fr) V hb (Mem.Qz N) rfl
    ⟨by rw[Mem.H7 N];exact ab _,fun _=>rfl⟩ (.inl rfl) r1 (fun c _ hne=>r4 c hne) (by omega) r6 r7 r8
    (fun Q g' B=>by
     refine⟨fun _=>rfl,by omega,Vz,fun k hk=>?_,fun _ j hj=>yg j (by omega)⟩;rw[ar] at hk;rw[r3,getD_eq];by_cases hk1:k<len*i.size
     ·rw[if_neg (by omega),cq (by omega)]
      obtain⟨v',h1,h2⟩:=hcr k (by omega);exact⟨v',h1,by rw[← getD_eq];exact h2.mono B⟩
     ·rw[if_pos (by omega),bp (by omega)]
      have e2:s.sh+k-(s.sh+len*i.size+0)=k-len*i.size:=by omega
      rw[e2,C];have Z:k-len*i.size<l.length:=by omega
      obtain⟨v',h1,h2⟩:=p.get (ai Z);refine⟨v',h1,?_⟩;rw[ai Z];exact h2.mono B)
   refine⟨.slice (some O) (len+n) h,w',?_,.inl ⟨Q,hext,Dk,?_⟩⟩
   ·simp only[D8,q,if_true,Sem.run_bind,a9b,Result.andThen_ok,ha',addr_add,u,Sem.run_pure]
   ·exact .sl _ _ _ _ _ _ ⟨s,hb',by simp[Mem.gen,cg,G8.gen],q,fun _=>⟨q1,q2,.inr ⟨q5,by rw[y,A];exact q6⟩⟩⟩
  ·have hsc:BH m i.size len (.slice (some ⟨c,0,none⟩) len g)=some vs:=by
    simp only[BH,Nat.le_refl,if_true,Mem.Es,N,MK,Option.getD_some,List.drop_zero,takeN,← C,List.take_length]
   have QS:Az ι m.gen (.slice (some ⟨c,0,none⟩) len g) (.slice (some O) len h):=.sl _ _ _ _ _ _ ⟨s,hb,by rw[Mem.H7 N];exact ab _,q3,fun _=>⟨q1,q2,q4⟩⟩;obtain⟨o,ho,X⟩:=Fe V QS hsc;obtain⟨cap,hcap,u⟩:=Kq (old:=o) (new:=M) (z:=z) (x:=x') (zeros:=false) hi hz1 q F (fun k=>Kz k ho) hap;have ho1:o.length=len*i.size:=by rw[← X.1];exact C
   refine⟨_,_,u,.inr ?_⟩;refine Hw (w':={ w with heap:=w.heap.push (.cells (o.toArray++M.toArray++Builtin.zeroCells z.cells (cap-(len+n))) e0 (0,0)),drawn:=w.drawn+1 })
    (e:=e0) (l:=vs++l) (n:=len+n) (cap:=cap) V rfl rfl rfl rfl (fun j hj=>Vb (old:=o) (rest:=(Builtin.zeroCells z.cells (cap-(len+n))).toList) (X.append p) j hj) hcap (.inr ?_)
   rw[ED hi];have h1:(Builtin.zeroCells z.cells (cap-(len+n))).size=(cap-(len+n))*i.size:=by rw[Jr,hz2]
   simp only[Array.size_append,List.size_toArray,h1,ho1,I];rw[← cL,← cL];exact Nat.le_of_eq (by congr 1;omega)
theorem kM(W:DR P G ι m w)(ha:QL ι m.gen a a')(I:m.get a.block=.cells vs e g false)(u:MK a=g)
 (V:vs[a.off]?=some x) (X:plainCell x=true) (Z:x.cells=#[x]) (s:BQ x=true) (Y:P.info? t=some h) (h1:h.size=1) :
 ∃w',(storeVar t a' x).run P w=.ok () w'∧w'.heap=w.heap∧w'.tape=w.tape∧w'.os=w.os∧w'.output=w.output:=by
 obtain⟨A,hb,_,y⟩:=ha;have o:=y (by rw[u,Mem.H7 I]);obtain⟨M,fr,e',i,F,Vz,k,l⟩:=Hu W hb I;obtain⟨rfl,N⟩:=l rfl;have q:a.off<vs.length:=(bw.1 V).1;obtain⟨p,h2,J⟩:=k a.off q;have B:vs.getD a.off undef=x:=by grind
 rw[B] at J;have e1:p=x:=J.Eh X;subst e1;obtain⟨w',z,C,r1,r2,r3,r4,r5,U,Q,O⟩:=Hz (P:=P) A.blk e' fr (a.off+A.sh) [p] 0 w M i (fun v B=>by
  have:v=p:=by grind
  subst this;assumption) (by grind) N
 refine⟨w',?_,?_,U,Q,O⟩
 ·rw[o]
  simp only[storeVar,Sem.run_bind,run_sizeOf' Y,Result.andThen_ok,Z,List.size_toArray,List.length_singleton,h1,ne_eq,not_true_eq_false,if_false];omega
 ·have ec:z=M:=by
   refine Array.ext_getElem? fun j=>?_
   grind
  refine Array.ext_getElem? fun c=>?_
  grind
theorem DR.heap(g:DR P G ι m w)(h:w'.heap=w.heap):DR P G ι m w' :=
 ⟨fun b i j=>by rw[h];exact g.dom b i j,fun b i j=>by rw[h];exact g.blk b i j,g.inj,g.glob⟩
theorem px(ι:BJ)(m:Mem)(h:w'.heap=w.heap)(k:w'.tape=w.tape)(j:w'.os=w.os)(i:w'.output=w.output):Ext ι m w ι m w' :=
 ⟨ab _,ab _,fun _ _ _=>rfl,fun _ _ _=>rfl,fun _ _=>rfl,Le.refl _ _,fun _ g h=>.inl ⟨g,h,rfl⟩,fun _ g h=>.inl ⟨g,h⟩,by grind,fun _ _ _=>by rw[h],k,j,i⟩
end Go.Am
namespace Go.Vm
open Go.Am
theorem Ctx.c7n(h:Ctx Γ m F σ H nx)(l:c<m.size)(j:¬ own H σ c):Ctx Γ m (fun d=>F d∨d=c) σ H nx where
 fr d hd:=hd.elim (h.fr d) fun e=>by omega
 hp d x hd:=⟨(h.hp d x hd).1,(h.hp d x hd).2.mono (fun d hd=>⟨.inl hd,rfl⟩) (Names.refl _ _ _) (ab _) (ab _) fun o i=>⟨rfl,by
  rintro(k|rfl)
  ·exact(h.Nr ⟨d,x,hd,i⟩).1 k
  ·exact j ⟨d,x,hd,i⟩⟩⟩
 sep:=h.sep
 gl g cs e hg:=⟨.inl (h.gl g cs e hg).1,(h.gl g cs e hg).2⟩
theorem Step.c7n(s:Step m F σ H nx m' k g H' h)(l:own H σ c):Step m F σ H nx m' (fun d=>k d∨d=c) g H' h :=
 { s with
  LK:=fun d j=>.inl (s.LK d j)
  LD:=fun d j i=>by
   rcases i with i|rfl
   ·exact s.LD d j i
   grind }
variable {E:Env}{n bn:Nat}{L:Frame}{H:Heap}{nx:Nat}
theorem n6(Y:Snd E)(p:∀o∈(⟨dst,op,ty,pos,af,none⟩::l:List Oper),I5 E.G n o=true)
  (hB:B.nx=bn)     (h2:RL m' u (htag H') h g N t) (h3:B.to m F σ H nx)    (k:Ep E.P E.G [] n ⟨t,m⟩ ι ac w)
  (hR:∀O H' g a' w',R O H' g→WAt E n B ι m w t (fun d=>Xq d (⟨dst,op,ty,pos,af,none⟩::l)) O H' g a' w'→J .normal a' w') 
 (q:Cc E n bn ops l (IJ N dst r) H' g R) (c1:Ctx E.Γ m' u h H' g) (c2:RP m' u (htag H') h g r v) (c3:Step m F σ H nx m' u h H' g) (M:Ext ι m w i m' w') (Dk:DR E.P E.G i m' w') (X:Az i m'.gen v v') :
 wpListIn Fence.wide 0 E.P ops J l (ac.put dst v') w':=by
 have s:=(DV (p _ (bX ..))).2;refine q Y (fun o Z=>p o (am _ Z)) B hB m' u h (IE t dst v) c1 (h2.put c2) (h3.trans c3) i _ w' ⟨Dk,(k.2.mono M.le).put s X⟩ J fun L2 H2 Q a2 U W z=>hR L2 H2 Q a2 U W ?_
 obtain⟨m2,F2,x,V,y,d1,d2,d3,A,j,I⟩:=z.ex;refine⟨m2,F2,x,V,y,d1,d2,d3,Ext.trans k.1 M A,j,fun d C=>?_⟩;simp only[Xq,List.all_cons,Bool.and_eq_true] at C;exact(I d C.2).trans (OH C.1)
theorem RL.cons(h:RL m F T σ nx L t)(j:RP m F T σ nx x (CO t r)):RL m F T σ nx ((r,x)::L) t:=fun i y g=>by
 rw[Ew] at g;by_cases e:r=i
 ·grind
 ·rw[if_neg e] at g;exact h i y g
theorem pT{dst:Option Tmp}{sT xT e:TypeId}
 (hs:AY E.Γ L s=some (.vec b N 0 N)) (M:hget H b=some (.vec e cs N z)) (hx:uG E.Γ L H nx x i.size xs k) (hr:Gf L r=some (.vec b N 0 j)) (hj:j≤N) (hN:0<N)
 (hsT:E.P.underlying sT=some (.slice e)) (hxT:E.P.underlying xT=some xd) (q:∀k,xd≠.int k) (hi:E.P.info? e=some i) (hzs:EO i=true) (h0:0<k) (Y:(N+k)*(i.bytes+1)≤room) (hl:cs.length=N*i.size) (hsz:0<i.size)
 (q1:Cc E n bn ops l (IJ ((r,.vec b (N+k) 0 j)::L) dst (.vec b (N+k) 0 (N+k))) (hput H b (.vec e (cs++xs) (N+k) z)) nx R)
 (q2:Cc E n bn ops l (IJ ((r,.p (.lst e (cs.take (j*i.size)) j))::L) dst (.vec b (N+k) 0 (N+k))) (hput H b (.vec e (cs++xs) (N+k) z)) nx R) :
 Cc E n bn ops (⟨dst,.call { callee:=.builtin .append,args:=#[s,x],argTypes:=#[sT,xT] },ty,pos,af,none⟩::l) L H nx R:=by
 intro hsn Z B hB m F σ t I h2 h3 ι ac w o R' hR;have y:=IY I h2 hs M;obtain⟨hx1,O,hx2,hx3,W⟩:=hx m F σ t I h2;obtain⟨hlt,hrb⟩:=I.hp b _ M;rcases hrb with⟨_,r2,_⟩|⟨c,g,vs,V,r2,r3,r4,r5,r6,r7⟩
 ·omega
 rw[V] at y;simp only[Gi] at y;have hlen:=r5.length;have hop:=(DV (Z _ (bX ..))).1;have hvs:Az ι m.gen (ev t s) (ac.eval s):=KC o.1 o.2 (hop s (by simp[Op.operands,Call.operands]));have hvx:Az ι m.gen (ev t x) (ac.eval x):=KC o.1 o.2 (hop x (by simp[Op.operands,Call.operands]));rw[y] at hvs;have hown:own H σ c:=⟨b,_,M,by rw[V];rfl⟩
 have b6r:XW (some (HB.vec e cs N z).tag) (some (HB.vec e (cs++xs) (N+k) z).tag):=fL _ _;have hne:(HB.vec e cs N z).tag=(HB.vec e (cs++xs) (N+k) z).tag→False:=by simp only[HB.tag,Tg.vec.injEq];omega
 have hrv:CO t r=.slice (some ⟨c,0,none⟩) j g:=by
  have:=h2 r _ hr;generalize CO t r=u at this;cases this with
  |vec hb' hc h =>
   have:=(h N (by simp[htag,M,HB.tag])).2 rfl;rw[V] at this;exact this
 unfold wpListIn;rw[NY rfl,if_pos rfl];obtain⟨v',w',hrun,hp⟩:=rD ty o.1 hvs hvx r4 (by omega) hsT hxT q hi hzs hsz h0 Y hx1 hx2 W;have X:(execOp ac.eval ⟨dst,.call { callee:=.builtin .append,args:=#[s,x],argTypes:=#[sT,xT] },ty,pos,af,none⟩).run E.P w=.ok (.value v') w':=by
  rw[Ef];exact H9 (by grind)
 have Q:∀{m2:Mem} {F2:Nat→Prop} {U:Nat→Value} {g2 c2:Nat},U b=.slice (some ⟨c2,0,none⟩) (N+k) g2→RP m2 F2 (htag (hput H b (.vec e (cs++xs) (N+k) z))) U nx (.vec b (N+k) 0 (N+k)) (.slice (some ⟨c2,0,none⟩) (N+k) g2):=fun{m2 F2 U g2 c2} e2=>by
  refine .vec hlt rfl fun j' C=>?_
  rw[SX,if_pos rfl,htag,M] at C;simp only[Option.map_some,HB.tag,Option.some.injEq,Tg.vec.injEq] at C;refine⟨by omega,fun _=>?_⟩;rw[e2];rfl
 unfold Oper.wpIn;rw[Oper.semAt_eq _ _ _ (fun c hc=>by grind),X];refine⟨fun _ _=>trivial,?_⟩;rcases hp with⟨ι',he,Dk,hv⟩|⟨ι',he,Dk,hv⟩
 ·have A:∀d,c≠d→(m.put c (.cells (vs++O) e g false)).get d=m.get d:=fun d q=>by rw[cg,if_neg q]
  obtain⟨c1,c3⟩:=I.change (s':=.slice (some ⟨c,0,none⟩) (N+k) g) (m':=m.put c (.cells (vs++O) e g false)) (x':=.vec e (cs++xs) (N+k) z) M b6r (fun e=>(hne e).elim) (ab _) (fun d _ q=>A d fun e=>q (by rw[V,e];rfl)) (fun k' k1 k2 k3=>by
   have:=k3 c (by rw[V];rfl);simp only[Mem.put];omega) (fun d q=>.inl (by rw[V];exact q))
   (.inr ⟨c,g,vs++O,rfl,r2,r3,by rw[cg,if_pos rfl],(r5.append hx3).mono (fun d q=>⟨q,A d fun e=>r3 (e▸q)⟩),by rw[eJ,r6,W];rfl,fun h=>by omega⟩)
  refine n6 hsn Z hB (RL.cons (h2.step c3 I) ?_) h3 o hR q1 c1 (Q (upd_same _ _ _)) c3 he Dk hv;rw[hrv];refine .vec hlt rfl fun j' C=>?_
  rw[SX,if_pos rfl,htag,M] at C;simp only[Option.map_some,HB.tag,Option.some.injEq,Tg.vec.injEq] at C;refine⟨by omega,fun _=>?_⟩;rw[upd_same];rfl
 ·obtain⟨c1,c3⟩:=I.change (m':=(AU m e (vs++O) (N+k)).2) (s':=(AU m e (vs++O) (N+k)).1) (x':=.vec e (cs++xs) (N+k) z) M b6r (fun e=>(hne e).elim) (by simp[AU,Mem.alloc]) (fun c hc _=>by(try simp only[AU]);rw[dZ,if_neg (by omega)])
   (fun k' k1 k2 _=>by simp only[AU,Mem.alloc];omega) (fun c hc=>by simp only[AU,Dv,Option.some.injEq] at hc;right;omega)
   (.inr ⟨m.size,0,vs++O,by simp[AU],by simp[AU,Mem.alloc],fun hf=>cH _ (I.fr _ hf),by(try simp only[AU]);rw[dZ,if_pos rfl],
    (r5.append hx3).mono (fun c hf=>⟨hf,by(try simp only[AU]);rw[dZ,if_neg (by have:=I.fr c hf;omega)]⟩),by rw[eJ,r6,W];rfl,fun h=>by omega⟩)
  have hno:¬ own (hput H b (.vec e (cs++xs) (N+k) z)) (upd σ b (AU m e (vs++O) (N+k)).1) c:=by
   rintro⟨b',x',hb',J⟩;by_cases eb:b'=b
   ·subst eb
    rw[upd_same] at J;simp only[AU,Dv,Option.some.injEq] at J;omega
   ·rw[Df _ _ eb] at J
    rw[FN,if_neg (Ne.symm eb)] at hb';exact eb (I.sep b' b _ _ c hb' M J (by rw[V];rfl))
  have hcs:c<(AU m e (vs++O) (N+k)).2.size:=ag r2 (by simp[AU,Mem.alloc]);have c1':=c1.c7n hcs hno;have c3':=c3.c7n hown;refine n6 hsn Z hB (RL.cons (h2.step c3' I) ?_) h3 o hR q2 c1' (Q (upd_same _ _ _)) c3' he Dk hv;rw[hrv];refine .p (.lst (.inr rfl) (vs:=vs) (e:=e) (ws:=vs.take (j*i.size)) (ro:=false) ?_ ?_ ((Du.take (j*i.size) r5).mono (fun d q=>⟨.inl q,?_⟩)) (OL r6 _))
  ·simp only[AU];rw[dZ,if_neg (by omega)];exact r4
  ·have:j*i.size≤N*i.size:=bk _ hj
   rw[cJ,av,cD (by omega)];unfold takeN;rw[if_pos (by omega)]
  ·simp only[AU];rw[dZ,if_neg (by have:=I.fr d q;omega)]
theorem Du.nth:∀{cs:List FV} {vs:List Value},Du m F cs vs→∀{i:Nat} {x:FV},cs[i]?=some x→∃u,vs[i]?=some u∧RF m F x u
 |_,_,.nil,i,x,h=>by grind
 |_,_,.cons h _,0,x,e=>by
  grind
 |_,_,.cons _ t,i+1,x,e=>by
  exact Du.nth t e
theorem pB{d:Tmp}{x ix y:Operand}{N:Nat}{k kd:IntKind}{i:Nat}
 (hx:AY E.Γ L x=some (.p (.own e cs N))) (hi:AY E.Γ L ix=some (.p (.int k (i:Int)))) (hs:elemSize E.P tA=some 1) (h1:i<N) (hv:cs[i]?=some (.int kd v))
 (hy:AY E.Γ (IJ L (some d) (.p (.FI (cs.drop i)))) y=some (.p (.int kd v))) (c7t:E.P.info? tS=some inf) (hsz:inf.size=1)
 (q:Cc E n bn ops l (IJ L (some d) (.p (.FI (cs.drop i)))) H nx R) :
 Cc E n bn ops (⟨some d,.indexAddr tA x ix,ty1,U,af1,none⟩::⟨none,.store tS (.tmp d) y,C,j,J,none⟩::l) L H nx R:=by
 intro W I B hB m F σ t c1 c2 h3 ι M w A R' hR;obtain⟨e',inf',g3,g4,g5⟩:=KO hs;have hix:=CV c1 c2 hi;have hrx:=Bz c1 c2 hx;generalize hvx:ev t x=vx at hrx;cases hrx with
 |p hr =>
 cases hr with
 |Vg=>omega
 |TD=>omega
 |own hF hm hw hr hc =>
 rename_i b o g vs ws;have hws:=F9 hw;have hwi:ws[i]?=some (.int kd v):=by
  obtain⟨u,hu,hru⟩:=hr.nth hv;cases hru;omega
 have hvi:vs[o+i]?=some (.int kd v):=by
  grind
 have hval:∀call,BX E.P call (ev t) ⟨some d,.indexAddr tA x ix,ty1,U,af1,none⟩ m=some (.pointer (some ⟨b,o+i,some g⟩),m):=fun call=>by
  have h0:(0:Int)≤(i:Int)∧(i:Int)<(N:Int):=⟨by omega,by omega⟩
  simp only[BX,F5,g3,hvx,hix,g4,h0,and_self,if_true,g5,Int.toNat_natCast,Nat.mul_one]
 have hcall:=Ib (N:=0) W.o W.mix 0;unfold wpListIn;rw[NY rfl,if_pos rfl];have hop:=(DV (I _ (bX ..))).1;have V:=DV (I ⟨none,.store tS (.tmp d) y,C,j,J,none⟩ (by simp));have hdst:=(DV (I _ (bX ..))).2;have:=PD (rf:=none) (nn:=0) (a:=M) (K:=wpListIn Fence.wide 0 E.P ops R' (⟨none,.store tS (.tmp d) y,C,j,J,none⟩::l)) (Q:=R') hcall A.1 (fun x hx=>KC A.1 A.2 (hop x hx)) (hval _) fun O w' hp=>by
  obtain⟨s,he,Dk,QS⟩:=hp;have h:Ep E.P E.G [] n ⟨IE t (some d) (.pointer (some ⟨b,o+i,some g⟩)),m⟩ s (M.put (some d) O) w':=⟨Dk,(A.2.mono he.le).put hdst QS⟩
  have hcp:RP m F (htag H) σ nx (.p (.FI (cs.drop i))) (.pointer (some ⟨b,o+i,some g⟩)):=by
   refine .p (.FI hF hm rfl ?_ (Du.drop i hr) (JQ hc _));have:=Qq (k:=i) hw;simp_all
  have hL1:RL m F (htag H) σ nx (IJ L (some d) (.p (.FI (cs.drop i)))) (IE t (some d) (.pointer (some ⟨b,o+i,some g⟩))):=c2.put hcp;have Y:Az s m.gen (ev (IE t (some d) (.pointer (some ⟨b,o+i,some g⟩))) y) ((M.put (some d) O).eval y):=KC h.1 h.2 (V.1 y (by simp[Op.operands]));rw[CV c1 hL1 hy] at Y;have ey:(M.put (some d) O).eval y=.int kd v:=by generalize (M.put (some d) O).eval y=u at Y;cases Y;rfl
  have Z:Az s m.gen (ev (IE t (some d) (.pointer (some ⟨b,o+i,some g⟩))) (.tmp d)) ((M.put (some d) O).eval (.tmp d)):=KC h.1 h.2 (V.1 (.tmp d) (by simp[Op.operands]));have et:ev (IE t (some d) (.pointer (some ⟨b,o+i,some g⟩))) (.tmp d)=.pointer (some ⟨b,o+i,some g⟩):=by
   show CO (Rq t d _) d=_;rw[Dt,if_pos rfl]
  rw[et] at Z;obtain⟨a',ea,har⟩:∃a',(M.put (some d) O).eval (.tmp d)=.pointer (some a')∧QL s m.gen ⟨b,o+i,some g⟩ a':=by
   generalize (M.put (some d) O).eval (.tmp d)=u at Z;cases Z;exact⟨_,rfl,by assumption⟩
  obtain⟨w2,hrun,k1,k2,k3,k4⟩:=kM (t:=tS) (x:=.int kd v) h.1 har hm rfl hvi rfl rfl rfl c7t hsz;have X:(execOp (M.put (some d) O).eval ⟨none,.store tS (.tmp d) y,C,j,J,none⟩).run E.P w'=.ok .skip w2:=by
   simp only[execOp,Instr.storeAt,ea,ey,Instr.sureAddr,Sem.run_bind,Sem.run_pure,Result.andThen_ok,hrun]
  unfold wpListIn;rw[NY rfl,if_pos rfl];unfold Oper.wpIn;rw[Oper.semAt_eq _ _ _ (fun c hc=>by cases hc),X];refine⟨fun _ _=>trivial,?_⟩;have he2:=px s m k1 k2 k3 k4;refine q W (fun o ho=>I o (am _ (am _ ho))) B hB m F σ _ c1 hL1 h3 s _ w2 ⟨h.1.heap k1,h.2⟩ R' fun L2 H2 zh a2 w3 q2 hw2=>hR L2 H2 zh a2 w3 q2 ?_
  obtain⟨m2,F2,σ2,t2,ι2,d1,d2,d3,he3,hst3,hkp3⟩:=hw2.ex;refine⟨m2,F2,σ2,t2,ι2,d1,d2,d3,Ext.trans A.1 (Ext.trans A.1 he he2) he3,hst3,fun z hz=>?_⟩;simp only[Xq,List.all_cons,Bool.and_eq_true] at hz;exact(hkp3 z hz.2.2).trans (OH hz.1)
 exact this
theorem m9(d:Nat)(Q:Gf L d=some (.vec b N 0 N))(q:hget H b=some (.vec e cs N z)):Ap E L H nx ((d,.p (.own e cs N))::L) (hdel H b) nx:=fun B m F σ t s C V=>by
 obtain⟨W,I,c3⟩:=Tn s q;refine⟨_,σ,W,fun i v l=>?_,V.trans I⟩;rw[Ew] at l;by_cases w:d=i
 ·rw[if_pos w] at l;cases l
  have:=C d _ Q;subst w;generalize CO t d=u at this;cases this with
  |vec U A h =>
   have j:=(h N (by simp[htag,q,HB.tag])).2 rfl;obtain⟨_,O⟩:=s.hp b _ q;rcases O with⟨o,y,k⟩|⟨c,g,X,o,y,k,M,x,J,Y⟩
   ·subst o;subst y
    rcases k with⟨k,_⟩|⟨b',Z,g',k,_⟩
    ·rw[k] at j;obtain⟨rfl,_,_⟩:=j;exact .p (.Vg _)
    ·rw[k] at j;simp only[Gi] at j;rw[j.1];exact .p (.TD _ _ _ _)
   ·rw[o] at j
    subst j;refine .p (.own (.inr (by rw[o];rfl)) M ?_ (x.mono fun c A=>⟨.inl A,rfl⟩) J);rw[cJ,x.length];simp[takeN]
 ·rw[if_neg w] at l
  exact(C i v l).step I s
theorem oe(d:Nat)(e:TypeId)(l:Gf L d=some (.p (.val (.slice none 0 0)))):Ap E L H nx ((d,.p (.own e [] 0))::L) H nx:=fun B m F σ t q j o=>by
 refine⟨F,σ,q,fun i v g=>?_,o⟩;rw[Ew] at g;by_cases h:d=i
 ·rw[if_pos h] at g;cases g
  have:=j d _ l;subst h;generalize CO t d=u at this;cases this with
  |p k=>cases k;exact .p (.Vg _)
 ·rw[if_neg h] at g
  exact j i v g
end Go.Vm
namespace Go.Proofs.YthlffjlbidibdaaGreatDoor
open Go Go.Am Go.Vm Go.Pie
attribute [local irreducible] Aa Ah Ai Ad AL Ak Bf BK Bj Aj Vm.Done Bv AP Nl
attribute [local irreducible] Cb Bg D5 DU EF AV CB
structure OwL where
 l:List Int
instance:Enc OwL:={ default:=⟨[]⟩,enc:=fun x=>[.own 3 (cells x.l) x.l.length],size:=1,len:=fun _=>rfl }
instance:Enc (List Int):={ default:=[],enc:=fun x=>[.lst 3 (cells x) x.length],size:=1,len:=fun _=>rfl }
theorem vU(l:List Int)(g:l.length<1000000):Ak env 77 [.lst 3 (cells l) l.length] (.p (.own 3 (cells l) l.length)):=by
 rcases bq l.length with h0|h0
 ·obtain rfl:l=[]:=aw.1 h0
  refine Ak.enter (Af (by decide)) Tryz.func77 rfl (by kernel_rfl) (by simp[Tryz.ntmps77]) ?_
  repeat' (first|(refine eB 2 ?_;refine c7 (m9 7 rfl rfl) ?_)|(refine cb (oe 2 3 rfl) ?_;apply kj)|apply Ad.assoc|apply ce|apply f9|apply Ad.ret|apply Ah.nil|apply c9|(apply lL;rfl;rfl;rfl)|(apply Aa.assign;rfl)|(apply Aa.move;rfl)|refine bi ?_|refine lP ?_|(apply Ad.Ub;rfl)|(intro _;try omega))
  all_goals first|omega|(refine aa ?_;try rfl)
 ·refine Ak.enter (Af (by decide)) Tryz.func77 rfl (by kernel_rfl) (by simp[Tryz.ntmps77]) ?_
  repeat' (first|(refine eB 2 ?_;refine c7 (m9 7 rfl rfl) ?_)|apply Ad.assoc|apply ce|apply f9|apply Ad.ret|apply Ah.nil|apply c9|(apply mN;rfl;rfl;rfl;exact h0)|(apply Aa.assign;rfl)|(apply Aa.move;rfl)|refine bi ?_|refine lP ?_|(apply cn;rfl))
  all_goals first|omega|(refine aa ?_;try rfl)
end Go.Proofs.YthlffjlbidibdaaGreatDoor
namespace Go.Proofs.YthlffjlbidibdaaGreatDoor
open Go Go.Am Go.Vm Go.Pie
attribute [local irreducible] Aa Ah Ai Ad AL Ak Bf BK Bj Aj Vm.Done Bv AP
attribute [local irreducible] Cb Bg D5 DU EF AV CB
def lwR(r:Rgs)(p:Ez)(t:Int):Nat→Rgs
 |0=>r
 |k+1=>if gi p.bars (gi p.sets k).bar.toNat≤t then(gi p.sets k).reg else lwR r p t k
def lkF(p:Ez)(L:List Int)(k d:Nat):Gj:=Ul (Oc p L d k) (Oc p L d k).length
noncomputable instance (a b:Rgs):Decidable (a=b):=Classical.propDecidable _
noncomputable instance (a b:iU):Decidable (a=b):=Classical.propDecidable _
noncomputable instance (a b:Ez):Decidable (a=b):=Classical.propDecidable _
end Go.Proofs.YthlffjlbidibdaaGreatDoor
namespace Go.Proofs.YthlffjlbidibdaaGreatDoor
open Go Go.Am Go.Vm
instance d8l:Enc (List Int):={ default:=[],enc:=fun l=>[.lst 3 (cells l) l.length],size:=1,len:=fun _=>rfl }
attribute [local irreducible] Aa Ah Ai Ad AL Ak Bf BK Bj Aj Vm.Done Bv AP
theorem zY(n:Nat)(k:n<4294967296):Ak env 208 [.int .u64 1,.int .u64 (n:Int)] (.DK [.p (.int .u64 0),.p (.int .u64 (n:Int))]):=by
 have q:n &&& 4294967295=n:=by
  have:=du n 32;rw[show(2^32-1:Nat)=4294967295 from rfl] at this;rw[this];exact bu (by simpa using k)
 have h:Lc .and .u64 (n:Int) 4294967295=some (.int .u64 (n:Int)):=by
  have i:=bits_and_u64_nat n 4294967295 (by omega) (by omega);rw[q] at i;exact congrArg (fun x=>some (FV.int .u64 x)) i
 have g:Lc .mul .u64 1 (n:Int)=some (.int .u64 (n:Int)):=by
  simp only[Lc,Int.one_mul];rw[wrap_u64 (by omega) (by omega)]
 have l:Lc .mul .u64 0 (n:Int)=some (.int .u64 0):=by
  simp only[Lc,Int.zero_mul];rfl
 have m:∀a:Int,0≤a→a<4294967296→(FV.int .u64 0)=if BinOp.shr=.shl then FV.int .u64 (IntKind.u64.wrap (a*2^(min (32:Int).toNat IntKind.u64.bits))) else .int .u64 (a.fdiv (2^(min (32:Int).toNat IntKind.u64.bits))):=fun a i y=>by
  rw[if_neg (by decide)];have o:(min (32:Int).toNat IntKind.u64.bits)=32:=rfl;rw[o,Int.fdiv_eq_ediv_of_nonneg _ (by decide)];have:a / 2^32=0:=by omega
  rw[this]
 have k1:Lc .and .u64 1 4294967295=some (.int .u64 1):=rfl;have j:Lc .and .u64 0 4294967295=some (.int .u64 0):=rfl;have w:Lc .mul .u64 1 0=some (.int .u64 0):=rfl;have u:Lc .mul .u64 0 0=some (.int .u64 0):=rfl;have s:Lc .add .u64 0 0=some (.int .u64 0):=rfl;refine Ak.enter (Af (by decide)) Tryz.func208 rfl (by kernel_rfl) (by simp[Tryz.ntmps208]) ?_
 repeat' (first|(apply Aa.shift (r:=.int .u64 0);exact .inr rfl;rfl;rfl;decide;exact m _ (by omega) (by omega))|(apply Aa.int;rfl;rfl;exact h)|(apply Aa.int;rfl;rfl;exact g)|(apply Aa.int;rfl;rfl;exact l)|(apply Aa.int;rfl;rfl;exact k1)|(apply Aa.int;rfl;rfl;exact j)|refine go1 ?_|fail)
 (refine aa ?_;try rfl)
theorem a9c(n:Nat)(g:n<4294967296):Ak env 189 [.int .u64 1,.int .u64 (n:Int)] (.DK [.p (.int .u64 0),.p (.int .u64 (n:Int))]):=by
 have h:=zY n g;refine Ak.enter (Af (by decide)) Tryz.func189 rfl (by kernel_rfl) (by simp) ?_
 repeat' (first|refine a6 h ?_|refine go1 ?_|(apply cn;rfl))
 (refine aa ?_;try rfl)
def Ut(n k:Nat)(v:Int):List Int:=List.replicate k v++List.replicate (n-k) 0
theorem Wh(n k:Nat)(v:Int)(h:k≤n):(Ut n k v).length=n:=by simp[Ut];omega
theorem b5s(n:Nat)(v:Int):Ut n n v=List.replicate n v:=by simp[Ut]
theorem b4i(n:Nat)(v:Int)(h:0<n):CG (cells (List.replicate n (0:Int))) 0 [FV.int .i64 v]=cells (Ut n 1 v):=by
 have:=VU (List.replicate n (0:Int)) [v] 0 (by grind);rw[ed] at this;show CG (cells (List.replicate n (0:Int))) 0 (cells [v])=_;rw[this];simp[Ut]
theorem c4f(n k:Nat)(v:Int)(h:k≤n):0+k*1≤(cells (Ut n k v)).length:=by
 rw[BD,Wh n k v h];show 0+k*1≤n*1;omega
theorem b8w(n k:Nat)(v:Int)(h:k≤n):cells (List.replicate (min k (n-k)) v)=((cells (Ut n k v)).drop 0).take (min k (n-k)*1):=by
 have:=I8 (Ut n k v) (min k (n-k));refine dm ?_ this.symm;unfold Ut;grind
theorem c2y(n k:Nat)(v:Int):(cells (List.replicate (min k (n-k)) v)).length=min k (n-k)*1:=by
 rw[BD,bS];rfl
theorem a8o(n k:Nat)(v:Int)(h:k≤n):0+k*1+min k (n-k)*1≤(cells (Ut n k v)).length:=by
 rw[BD,Wh n k v h];show _≤n*1;omega
theorem b4f(n k:Nat)(v:Int)(h:k≤n):CG (cells (Ut n k v)) (0+k*1) (cells (List.replicate (min k (n-k)) v))=cells (Ut n (k+min k (n-k)) v):=by
 have:=VU (Ut n k v) (List.replicate (min k (n-k)) v) k (by rw[Wh n k v h];grind);rw[cG];refine dm this ?_;congr 1
 unfold Ut;rw[gm (by simp),List.take_replicate,Nat.min_self,bS,gT,cU (by simp),bS,eI,List.drop_replicate,List.replicate_append_replicate];grind
theorem zD(e:TypeId)(v:Int)(n:Nat)(h:0<n)(j:n<1000000):Bf env 193 [.lst e [.int .i64 v] 1,.int .i64 (n:Int)] 3 (cells (List.replicate n v)) n false:=by
 have i:=a9c n (by omega);refine Bf.enter (Af (by decide)) Tryz.func193 rfl (by kernel_rfl) (by simp[Tryz.ntmps193]) ?_
 repeat' (first|refine a6 i ?_|(apply ll n (0:Int);rfl;rfl;rfl;rfl;rfl;rfl;rfl;omega;decide;decide;rfl)|(apply Aa.copy (k:=1) (N:=1) (xs:=[.int .i64 v]);rfl;rfl;exact h;rfl;rfl;decide;exact SlT.lst rfl rfl (ab 1) rfl;omega;decide;rfl;(rw[BD,bS];show 0+1*1≤n*1;omega))|refine Fh ?_|refine a7 ?_|refine eR ?_|(apply mf;rfl;rfl;rfl;rfl;omega)|(apply cn;rfl)|(apply a8;rfl)|(intro _;try omega))
 all_goals try omega
 refine eD (fun k:Nat=>[(7,.vec 0 n 0 n),(8,.p (.int .i64 (k:Int)))]) (fun k=>[(0,.vec 3 (cells (Ut n k v)) n false)]) 1 (fun k=>1≤k∧k≤n) (fun k=>n-k) 1 (by omega) ⟨by omega,by omega⟩ ⟨by omega,?_,?_⟩ ?_
 ·exact Dh
 ·have:=b4i n v h
  rw[this];exact DT
 ·rintro k ⟨k1,g⟩
  have l:=Wh n k v g;by_cases m:k<n
  ·repeat' (first|(apply mi (sz:=1) (a:=k) (c:=n);rfl;rfl;exact h;rfl;rfl;rfl;exact⟨_,rfl⟩;rfl;omega;exact ab _)|(apply mi (sz:=1) (a:=0) (c:=k);rfl;rfl;exact h;rfl;rfl;rfl;rfl;exact⟨_,rfl⟩;omega;exact g)|(apply Aa.copy (k:=min k (n-k)) (N:=k) (xs:=cells (List.replicate (min k (n-k)) v));rfl;rfl;exact h;rfl;rfl;decide;exact SlT.vec rfl rfl h (c4f n k v g) (by omega) (b8w n k v g);rfl;omega;exact c2y n k v;exact a8o n k v g)|(apply eC;rfl;rfl;rfl)|refine KP ?_|apply j6|refine a7 ?_|(apply a8;rfl)|(intro _;try omega))
   refine Aj.normal ⟨k+min k (n-k),⟨by omega,by omega⟩,by omega,⟨by omega,?_,?_⟩⟩
   ·exact Dh
   ·rw[b4f n k v g]
    exact DT
  ·obtain rfl:k=n:=by omega
   repeat' (first|(apply eC;rfl;rfl;rfl)|refine Fj ?_|(apply a8;rfl)|(intro _;try omega))
   rw[b5s];exact Bv.ret rfl rfl rfl rfl
open Go.Pie
attribute [local irreducible] Cb Bg D5 DU EF AV CB
def ZJ(c:UInt8):GI:=⟨[c],[102,108,117,116,101],⟨8,1⟩,36,List.replicate 25 1⟩
def exS(n CW sh:Int):Stp:=⟨[97],⟨CW,1⟩,[⟨36,48,[⟨n,sh⟩]⟩]⟩
def c1s:tV:=⟨[111,110,101],false,36,48,[exS 0 8 0]⟩
def c3l:tV:=⟨[116,119,111],false,36,48,[exS 1 4 12]⟩
def exO:FZ:=⟨[101],[ZJ 114,ZJ 115],[c1s,c3l],[⟨[99],0,1,0,false⟩]⟩
def exG:Rgs:=⟨[1,0],0,0⟩
def exP:Ez:=⟨[0,4,8],[⟨0,6,0,40⟩,⟨4,8,0,43⟩],[⟨1,exG⟩]⟩
theorem wZ(c:UInt8):Ak env 163 [.str (bs [c])] (.p (.agg (Enc.enc (ZJ c)))):=by
 have g:=zD 3 1 25 (by decide) (by decide);refine Ak.enter (Af (by decide)) Tryz.func163 rfl (by kernel_rfl) (by simp[Tryz.ntmps163]) ?_
 repeat' (first|(refine eB 6 ?_;refine c7 (b6 5 rfl rfl) ?_)|(refine eB 7 ?_;refine c7 (b6 6 rfl rfl) ?_)|apply ce|apply Ad.ret|apply Ah.nil|apply c9|(apply jz;rfl;rfl;exact g)|(apply Aa.move;rfl)|(apply Aa.alloc;rfl)|refine d9 ?_|refine b7 ?_|refine bi ?_|fail)
 all_goals first|omega|(refine aa ?_;try rfl)
theorem uM(n CW sh:Int):Ak env 162 [.int .i64 n,.int .i64 CW,.int .i64 sh] (.p (.lst 200 (cells [exS n CW sh]) 1)):=by
 refine Ak.enter (Af (by decide)) Tryz.func162 rfl (by kernel_rfl) (by simp[Tryz.ntmps162]) ?_
 repeat' (first|(refine eB 13 ?_;refine c7 (b6 12 rfl rfl) ?_)|(refine eB 15 ?_;refine c7 (b6 14 rfl rfl) ?_)|(refine eB 6 ?_;refine c7 (b6 16 rfl rfl) ?_)|apply ce|apply Ad.ret|apply Ah.nil|apply c9|(apply Aa.assign;rfl)|(apply Aa.move;rfl)|refine b7 ?_|refine bi ?_|fail)
 all_goals first|omega|(refine aa ?_;try rfl)
theorem b4k:Ak env 129 [] (.p (.agg (Enc.enc exO))):=by
 have j:=wZ 114;have i:=wZ 115;have h:=uM 0 8 0;have g:=uM 1 4 12;refine Ak.enter (Af (by decide)) Tryz.func129 rfl (by kernel_rfl) (by simp[Tryz.ntmps129]) ?_
 repeat' (first|(refine i7 14 ?_;refine i6 (Ap.trans (b6 6 rfl rfl) (Ap.trans (b6 15 rfl rfl) (b6 17 rfl rfl))) ?_)|apply ce|apply da|apply Ad.ret|apply Ah.nil|apply Ai.nil|apply c9|(apply Ai.bar;decide +kernel)|apply Ai.quiet|refine a6 j ?_|refine a6 i ?_|refine a6 h ?_|refine a6 g ?_|(apply Aa.assign;rfl)|(apply Aa.move;rfl)|(apply Aa.load;rfl;rfl)|(apply Aa.alloc;rfl)|refine d9 ?_|refine b7 ?_|refine bi ?_|fail)
 all_goals first|omega|(refine aa ?_;try rfl)
theorem b4r:Ak env 88 [] (.DK [.p (.agg (Enc.enc exO)),.p (.agg (Enc.enc exP))]):=by
 have g:=b4k;refine Ak.enter (Af (by decide)) Tryz.func88 rfl (by kernel_rfl) (by simp[Tryz.ntmps88]) ?_
 repeat' (first|(refine eB 4 ?_;refine c7 (b6 3 rfl rfl) ?_)|(refine i7 8 ?_;refine i6 (Ap.trans (b6 6 rfl rfl) (Ap.trans (b6 9 rfl rfl) (b6 12 rfl rfl))) ?_)|(refine i7 9 ?_;apply Ai.weak [.tmp 2];decide +kernel;rfl;rfl;(first|exact Oi.ref rfl|exact Oi.vec rfl|exact Oi.Fb rfl);decide +kernel;rfl)|apply ce|apply da|apply Ad.ret|apply Ah.nil|apply Ai.nil|apply c9|(apply Ai.bar;decide +kernel)|apply Ai.quiet|refine a6 g ?_|(apply Aa.load;rfl;rfl)|(apply Aa.alloc;rfl)|refine d9 ?_|refine b7 ?_|refine bi ?_|fail)
 all_goals first|omega|(refine aa ?_;try rfl)
instance (c:Nat):Decidable (uz c):=by unfold uz;infer_instance
theorem Wn(s:List UInt8)(g:0<s.length)(k:s.length≤32)(h:∀i,i<s.length→uz (gi s i).toNat):Dx s:=⟨g,k,h 0 g,fun i _ j=>.inl (h i j)⟩
theorem lt2(h:i<2):i=0∨i=1 :=by omega
theorem pk1(n:Int)(h:n=8∨n=4):QO ⟨n,1⟩=0:=TS.2 (by rcases h with rfl|rfl<;>decide +kernel)
theorem b6b(l:uz c.toNat):Cb (ZJ c)=0:=by
 unfold Cb;have o:Dx (ZJ c).name:=⟨by show 0<1;decide,by show 1≤32;decide,l,fun i o g=>by
  have:i<1:=g;omega⟩
 have g:Dx (ZJ c).JX:=Wn [102,108,117,116,101] (by decide) (by decide) (by decide);have m:QO (ZJ c).CW=0:=pk1 8 (.inl rfl);have k:(ZJ c).Em=List.replicate 25 1:=rfl;rw[if_neg (by grind),if_neg (fun h=>h m),if_neg (by show¬ ((36:Int)< -256∨(36:Int)>256);omega),k,bS,if_neg (by omega),if_neg (by omega)];unfold Bg;rw[if_pos];intro j p;have:gi (List.replicate 25 (1:Int)) j=1:=by unfold gi;grind
 rw[this];decide
theorem d1n:∀i,i<[ZJ 114,ZJ 115].length→Cb (gi [ZJ 114,ZJ 115] i)=0:=fun i g=>by
 rcases lt2 g with rfl|rfl
 ·exact b6b (c:=114) (by decide)
 ·exact b6b (c:=115) (by decide)
theorem b9n(j:0≤n∧n<2)(i:CW=8∨CW=4)(g:-127≤sh∧sh≤127):D5 [ZJ 114,ZJ 115] 36 48 (exS n CW sh)=0:=by
 unfold D5;rw[lq d1n (by decide) (by decide),if_neg (fun h=>h rfl)];unfold c0h;have m:Dx (exS n CW sh).name:=Wn [97] (by decide) (by decide) (by decide);have l:QO (exS n CW sh).CW=0:=pk1 CW i;have k:(exS n CW sh).Jp=[⟨36,48,[⟨n,sh⟩]⟩]:=rfl;rw[if_neg (fun h=>h m),if_neg (fun h=>h l),k,if_neg (by simp),if_neg (by simp)];exact Md (by simp) (JK ⟨j,g⟩)
theorem d3h(h:D5 [ZJ 114,ZJ 115] 36 48 s=0):DU [ZJ 114,ZJ 115] ⟨g,false,36,48,[s]⟩=0:=by
 unfold DU;exact Qj (fun i j=>by
  obtain rfl:i=0:=by
   grind
  exact⟨h,by simp⟩) _ 0 rfl
theorem a6r:Ur exO=0:=by
 have l:exO.ranks=[ZJ 114,ZJ 115]:=rfl;have o:exO.Ae=[c1s,c3l]:=rfl;have p:exO.IW=[⟨[99],0,1,0,false⟩]:=rfl;have m:exO.name=[101]:=rfl;unfold Ur;rw[l,o,p,m];have g:QM [ZJ 114,ZJ 115] 0=0:=TY (fun i hi=>⟨d1n i hi,by
  rcases lt2 hi with rfl|rfl
  ·simp
  ·show [115]∉[[114]];simp⟩) _ 0 rfl
 have j:GK [ZJ 114,ZJ 115] [c1s,c3l] 0=0:=PX (fun i hi=>by
  rcases lt2 hi with rfl|rfl
  ·exact⟨Wn [111,110,101] (by decide) (by decide) (by decide),by simp,d3h (b9n (by decide) (.inl rfl) (by decide))⟩
  ·exact⟨Wn [116,119,111] (by decide) (by decide) (by decide),by show [116,119,111]∉[[111,110,101]];simp,d3h (b9n (by decide) (.inr rfl) (by decide))⟩) _ 0 rfl
 rw[if_neg (fun h=>h (Wn [101] (by decide) (by decide) (by decide))),if_neg (by simp),if_neg (fun h=>h g),if_neg (by simp),if_neg (by simp),if_neg (fun h=>h j)];unfold EF;rw[if_neg (by simp)];have k:Ug ([c1s,c3l].map fun d=>(⟨d.lo,d.hi⟩:sU)) 0=0:=Tt (fun i hi=>by
  rcases lt2 hi with rfl|rfl
  ·rfl
  rfl) _ 0 rfl
 rw[if_neg (fun h=>h k)];exact PU (fun i hi=>by
  obtain rfl:i=0:=by
   grind
  exact⟨⟨Wn [99] (by decide) (by decide) (by decide),by decide,by decide,by decide,by decide⟩,by simp⟩) _ 0 rfl
theorem b3e(n CW sh:Int):mV (exS n CW sh):=⟨by show 1<1000000;decide,by show 1<1000000;decide,fun i g=>by
 obtain rfl:i=0:=by
  have:i<1:=g;omega
 exact⟨by show 1<1000000;decide⟩⟩
theorem b5v(c:UInt8):dJ (ZJ c):=⟨by show 1<1000000;decide,by show 5<1000000;decide,by show(List.replicate 25 1).length<1000000;decide⟩
theorem b3z:RD exO:=by
 refine⟨by decide,by decide,by decide,by decide,fun i g=>?_,fun i g=>?_,fun i g=>?_⟩
 ·rcases lt2 g with rfl|rfl
  ·exact b5v 114
  ·exact b5v 115
 ·rcases lt2 g with rfl|rfl
  ·refine⟨by decide,by decide,fun j h=>?_⟩
   obtain rfl:j=0:=by
    have:j<1:=h;omega
   exact b3e 0 8 0
  ·refine⟨by decide,by decide,fun j h=>?_⟩
   obtain rfl:j=0:=by
    have:j<1:=h;omega
   exact b3e 1 4 12
 ·obtain rfl:i=0:=by
   have:i<1:=g;omega
  decide
theorem b4a:SA exO:=c4m b3z a6r
theorem c3j:Vw exO exG=0 :=by decide
theorem c6j:UM exP:=⟨by decide,by decide,by decide,fun i h=>by
 obtain rfl:i=0:=by
  have:i<1:=h;omega
 exact⟨fun j g=>by
  rcases lt2 g with rfl|rfl
  ·decide
  ·decide,by decide,by decide,by decide⟩⟩
theorem wC:XM exO exP:=by
 refine qK c6j ⟨by decide,by decide⟩ (fun i g=>?_) (by decide) (fun i g=>?_) (by decide) fun i g=>?_
 ·have:i=0∨i=1∨i=2:=by
   have:i<3:=g;omega
  rcases this with rfl|rfl|rfl
  ·exact⟨by decide,fun h=>by omega⟩
  ·exact⟨by decide,fun _=>by decide⟩
  ·exact⟨by decide,fun _=>by decide⟩
 ·rcases lt2 g with rfl|rfl
  ·exact⟨by decide,by decide,by decide,fun j k=>by omega⟩
  ·refine⟨by decide,by decide,by decide,fun j k=>?_⟩
   obtain rfl:j=0:=by omega
   decide
 ·obtain rfl:i=0:=by
   have:i<1:=g;omega
  exact⟨by decide,fun h=>by omega,c3j⟩
theorem uo:OT exO exP=0:=by unfold OT;rw[if_neg (fun h=>h a6r)];exact wC.err
theorem b7j(h:0≤t∧t<8):atE exO exP t=0:=by
 unfold atE;rw[if_neg (fun h=>h uo),if_neg];show¬ (t<0∨t≥8);omega
theorem c3p:DC exP=[0,4,6,8]:=by
 refine aP (QY (Yz _)) (by unfold Inc;simp) fun x=>?_
 unfold DC;rw[NH,fk];have:VD exP exP.notes.length=[0,8,0,6,4,8]:=rfl;grind
theorem c3t:Bc exP=[⟨0,4,[0]⟩,⟨4,6,[0,1]⟩,⟨6,8,[1]⟩]:=by
 unfold Bc;rw[c3p];rfl
theorem c0k:(c1g exP 1 2).notes=[⟨4,6,0,40⟩,⟨4,8,0,43⟩] :=by decide
theorem a3m:Ak env 47 [] (.p (.bool true)):=by
 have l:=b4r;have g:=Q7 b3z uo wC;rw[c3t] at g;have i:=YT b4a wC 3 (b7j (by decide));rw[show QK exP 3=-1 from rfl] at i;have h:=YT b4a wC 4 (b7j (by decide));rw[show QK exP 4=0 from rfl,show c4a exO exP 4=exG from rfl] at h;have k:=b6f b4a uo wC 1 2 (by decide) (by decide);have j:=c0k;generalize c1g exP 1 2=C at *;obtain⟨q,o,m⟩:=C;simp only at j;subst j;generalize c4a exO exP 3=W at *;refine Ak.enter (Af (by decide)) Tryz.func47 rfl (by kernel_rfl) (by simp[Tryz.ntmps47]) ?_
 repeat' (first|refine a6 l ?_|refine a6 g ?_|refine a6 i ?_|refine a6 h ?_|refine a6 k ?_|(apply mh;rfl;rfl;rfl;decide;(first|decide|simp))|refine KP ?_|refine a7 ?_|fail)
 all_goals try omega
 all_goals(refine aa ?_;try rfl)
end Go.Proofs.YthlffjlbidibdaaGreatDoor
namespace Go.Proofs.YthlffjlbidibdaaGreatDoor
open Go Go.Am Go.Vm
theorem Qp(h:(Lit.int .u8 n).wf=true):∃m:Nat,m<256∧n=m:=by
 simp[Lit.wf,IntKind.min,IntKind.max,IntKind.signed,IntKind.bits] at h;exact⟨n.toNat,by omega,by omega⟩
theorem b8i(h:(Lit.int .i8 n).wf=true):-128≤n∧n≤127:=by
 simp[Lit.wf,IntKind.min,IntKind.max,IntKind.signed,IntKind.bits] at h;omega
theorem gI{R:β→α→Prop}:∀{l:List α},(∀x∈l,∃y,R y x)→∃r:List β,Io R r l
 |[],_=>⟨[],.nil⟩
 |a::l,h=>by
  obtain⟨y,g⟩:=h a (by simp);obtain⟨r,i⟩:=gI (l:=l) (fun x j=>h x (by grind));exact⟨y::r,.cons g i⟩
theorem fZ{α:Type}[Enc α]{p:α→Prop}:∀{r:List α} {L:List (List FV)},Io (fun a g=>g=Enc.enc a∧p a) r L→L.flatten=cells r∧L.length=r.length∧∀i,i<r.length→p (gi r i)
 |_,_,.nil=>⟨rfl,rfl,fun i h=>by grind⟩
 |a::r,g::L,.cons ⟨h1,h2⟩ t=>by
  obtain⟨k,l,j⟩:=fZ t;refine⟨by rw[List.flatten_cons,k,h1];rfl,by grind,fun i h=>?_⟩;cases i with
  |zero=>exact h2
  |succ i=>exact j i (by grind)
section
variable {α β:Type}{R:α→β→Prop}{a b c d e:α}{r:List β}
theorem b4y(h:Io R [a] r):∃x,r=[x]∧R a x:=by
 cases h with|cons g t=>cases t;grind
theorem WJ(h:Io R [a,b] r):∃x y,r=[x,y]∧R a x∧R b y:=by
 cases h with|cons i t=>obtain⟨x,rfl,g⟩:=b4y t;grind
theorem gU(h:Io R [a,b,c] r):∃x y z,r=[x,y,z]∧R a x∧R b y∧R c z:=by
 cases h with|cons j t=>obtain⟨x,y,rfl,i,g⟩:=WJ t;grind
theorem KE(h:Io R [a,b,c,d] r):∃x y z w,r=[x,y,z,w]∧R a x∧R b y∧R c z∧R d w:=by
 cases h with|cons k t=>obtain⟨x,y,z,rfl,j,i,g⟩:=gU t;grind
theorem b0c(h:Io R [a,b,c,d,e] r):∃x y z w v,r=[x,y,z,w,v]∧R a x∧R b y∧R c z∧R d w∧R e v:=by
 cases h with|cons l t=>obtain⟨x,y,z,w,rfl,k,j,i,g⟩:=KE t;grind
end
theorem vZ(h:Gs Tryz.prog (j+1) 4 g):∃b:Bool,g=[.bool b]:=by
 assumption
theorem d6x{α:Type}{l:List α}(h:l.length=5):∃a b c d e,l=[a,b,c,d,e]:=by
 match l,h with|[a,b,c,d,e],_=>simp
theorem b1p(h:Gs Tryz.prog (j+3) 197 l):∃x:Ig,l=x.enc∧x.Ok:=by
 obtain⟨k,rfl,J⟩:=h;obtain⟨a,b,c,d,e,rfl,⟨n1,rfl,U⟩,⟨n2,rfl,Q⟩,⟨z,rfl,O⟩,⟨n4,rfl,N⟩,L,rfl,M,g⟩:=b0c J;obtain⟨m1,y,rfl⟩:=Qp U;obtain⟨m2,w,rfl⟩:=Qp Q;obtain⟨A,u,rfl⟩:=Qp N;obtain⟨a,b,c,d,e,rfl⟩:=d6x M;obtain⟨w0,rfl,Z⟩:=g a (by simp);obtain⟨w1,rfl,Y⟩:=g b (by simp);obtain⟨w2,rfl,X⟩:=g c (by simp);obtain⟨w3,rfl,W⟩:=g d (by simp);obtain⟨w4,rfl,V⟩:=g e (by simp);obtain⟨s,I,rfl⟩:=Qp Z;obtain⟨q,k1,rfl⟩:=Qp Y;obtain⟨p,F,rfl⟩:=Qp X;obtain⟨o,C,rfl⟩:=Qp W;obtain⟨m,B,rfl⟩:=Qp V;refine⟨⟨m1,m2,z,A,[s,q,p,o,m]⟩,rfl,y,w,b8i O,u,fun i=>?_⟩
 match i with
 |0=>exact I
 |1=>exact k1
 |2=>exact F
 |3=>exact C
 |4=>exact B
 |n+5=>simp[gi]
theorem Gt(h:Gs P (n+1) t j)(k:P.underlying t=some (.struct i)):∃g:List (List FV),j=g.flatten∧Io (fun(fd:Field) x=>Gs P n fd.type x) i.toList g:=by
 unfold Gs at h;grind
theorem Jd{P:Program}{n:Nat}{t e:TypeId}{g:List FV}{α:Type}[Enc α]{p:α→Prop}(h:Gs P (n+1) t g)(k:P.underlying t=some (.slice e))(o:∀x,Gs P n e x→∃a:α,x=Enc.enc a∧p a):∃l:List α,g=[.lst e (cells l) l.length]∧l.length≤maxLen∧∀i,i<l.length→p (gi l i):=by
 unfold Gs at h;rw[k] at h;obtain⟨L,rfl,s,q⟩:=h;obtain⟨r,m⟩:=gI (R:=fun(a:α) g=>g=Enc.enc a∧p a) (l:=L) (fun x j=>o x (q x j));obtain⟨y,w,u⟩:=fZ m;grind
theorem FC(h:Gs Tryz.prog (j+1) 5 g):∃n:Nat,g=[.int .u8 (n:Int)]∧n<256:=by
 obtain⟨n,rfl,i⟩:=h;obtain⟨m,q,rfl⟩:=Qp i;grind
theorem c7w(h:Gs Tryz.prog (j+1) 195 g):∃n:Int,g=[.int .i8 n]∧-128≤n∧n≤127:=by
 obtain⟨n,rfl,i⟩:=h;exact⟨n,rfl,b8i i⟩
theorem b8l{j:Nat}(h:Gs Tryz.prog (j+2) 203 i):∃x:Pul,i=Enc.enc x∧x.Ok:=by
 obtain⟨g,rfl,q⟩:=Gt h Tryz.underlying203;obtain⟨a,b,c,d,rfl,y,w,u,s⟩:=KE q;obtain⟨m1,rfl,o⟩:=FC (j:=j) y;obtain⟨m2,rfl,m⟩:=FC (j:=j) w;obtain⟨m3,rfl,l⟩:=FC (j:=j) u;obtain⟨p,rfl,k⟩:=FC (j:=j) s;exact⟨⟨m1,m2,m3,p⟩,rfl,o,m,l,k⟩
theorem b1r{j:Nat}(h:Gs Tryz.prog (j+4) 133 i):∃x:Brd,i=Enc.enc x∧x.Ok:=by
 obtain⟨g,rfl,q⟩:=Gt h Tryz.underlying133;obtain⟨a,b,c,d,rfl,A,z,y,w⟩:=KE q;obtain⟨m1,rfl,m⟩:=FC (j:=j+2) A;obtain⟨m2,rfl,k⟩:=FC (j:=j+2) z;obtain⟨m3,rfl⟩:=vZ (j:=j+2) y;obtain⟨l,rfl,s,u⟩:=Jd (n:=j+2) (p:=Pul.Ok) w Tryz.underlying131 (fun x o=>b8l o);exact⟨⟨m1,m2,m3,l⟩,rfl,m,k,by simp only[maxLen] at s;grind,u⟩
theorem b7g{j:Nat}(h:Gs Tryz.prog (j+2) 205 i):∃x:Lnk,i=Enc.enc x∧x.Ok:=by
 obtain⟨g,rfl,p⟩:=Gt h Tryz.underlying205;obtain⟨a,b,c,d,rfl,w,u,s,q⟩:=KE p;obtain⟨m1,rfl,m⟩:=FC (j:=j) w;obtain⟨m2,rfl,l⟩:=FC (j:=j) u;obtain⟨m3,rfl,k⟩:=c7w (j:=j) s;obtain⟨o,rfl⟩:=vZ (j:=j) q;exact⟨⟨m1,m2,m3,o⟩,rfl,m,l,k⟩
theorem b1f{j:Nat}(h:Gs Tryz.prog (j+6) 26 k):∃x:OPl,k=x.enc∧x.Ok:=by
 obtain⟨i,rfl,w⟩:=Gt h Tryz.underlying26;obtain⟨a,b,c,rfl,A,z,y⟩:=gU w;obtain⟨u,rfl,o,F⟩:=Jd (n:=j+4) (p:=Ig.Ok) A Tryz.underlying22 (fun x g=>b1p (j:=j+1) g);obtain⟨s,rfl,m,C⟩:=Jd (n:=j+4) (p:=Brd.Ok) z Tryz.underlying23 (fun x g=>b1r g);obtain⟨q,rfl,l,B⟩:=Jd (n:=j+4) (p:=Lnk.Ok) y Tryz.underlying24 (fun x g=>b7g (j:=j+2) g);simp only[maxLen] at o m l;exact⟨⟨u,s,q⟩,rfl,F,C,B,by grind,by grind,by grind⟩
theorem d0o{α:Type}{L:List α}(h:L.length=5):∃a b c d e,L=[a,b,c,d,e]:=by
 match L,h with
 |[a,b,c,d,e],_=>simp
theorem b0g{j:Nat}(h:Gs Tryz.prog (j+2) 140 k):∃b:Nat→Nat,k=b4u b∧∀i,b i<256:=by
 obtain⟨L,rfl,o,g⟩:=Gs.array h Tryz.underlying140;obtain⟨a,b,c,d,e,rfl⟩:=d0o o;obtain⟨m1,rfl,w⟩:=FC (j:=j) (g a (by simp));obtain⟨m2,rfl,u⟩:=FC (j:=j) (g b (by simp));obtain⟨m3,rfl,s⟩:=FC (j:=j) (g c (by simp));obtain⟨m,rfl,q⟩:=FC (j:=j) (g d (by simp));obtain⟨l,rfl,p⟩:=FC (j:=j) (g e (by simp));exact⟨fun i=>if i=0 then m1 else if i=1 then m2 else if i=2 then m3 else if i=3 then m else l,rfl,fun i=>by grind⟩
open Go.Pie
attribute [local irreducible] Aa Ah Ai Ad AL Ak Bf BK Bj Aj Vm.Done Bv AP Cb Bg D5 DU EF AV CB
theorem b8m(h:Gs Tryz.prog (j+1) 5 g):∃x:UInt8,g=Enc.enc x∧True:=by
 obtain⟨n,rfl,i⟩:=FC h;refine⟨UInt8.ofNat n,?_,trivial⟩;show _=[FV.int .u8 (((UInt8.ofNat n).toNat:Nat):Int)]
 rw[UInt8.toNat_ofNat',bu i]
def Sd8.Ok(y:Sd8):Prop:=y.st<256∧y.lg<256∧y.dv<256∧y.ky<256
def Mrk.Ok(y:Mrk):Prop:=y.bar<256∧∀j,y.b j<256
theorem b0i{j:Nat}(h:Gs Tryz.prog (j+2) 136 i):∃x:Sd8,i=Enc.enc x∧x.Ok:=by
 obtain⟨g,rfl,q⟩:=Gt h Tryz.underlying136;obtain⟨a,b,c,d,rfl,y,w,u,s⟩:=KE q;obtain⟨m1,rfl,o⟩:=FC (j:=j) y;obtain⟨m2,rfl,m⟩:=FC (j:=j) w;obtain⟨m3,rfl,l⟩:=FC (j:=j) u;obtain⟨p,rfl,k⟩:=FC (j:=j) s;exact⟨⟨m1,m2,m3,p⟩,rfl,o,m,l,k⟩
theorem b6v{j:Nat}(h:Gs Tryz.prog (j+3) 142 i):∃x:Mrk,i=Enc.enc x∧x.Ok:=by
 obtain⟨g,rfl,m⟩:=Gt h Tryz.underlying142;obtain⟨a,b,rfl,p,o⟩:=WJ m;obtain⟨m1,rfl,k⟩:=FC (j:=j+1) p;obtain⟨q,rfl,l⟩:=b0g (j:=j) o;exact⟨⟨m1,q⟩,rfl,k,l⟩
theorem a9h{j:Nat}(h:Gs Tryz.prog (j+7) 31 k):∃x:jK,k=x.enc∧x.Ok:=by
 obtain⟨i,rfl,y⟩:=Gt h Tryz.underlying31;obtain⟨a,b,c,d,rfl,C,B,A,z⟩:=KE y;obtain⟨l,rfl,k1⟩:=b1f (j:=j) C;obtain⟨w,rfl,q,J⟩:=Jd (n:=j+5) (p:=fun _:UInt8=>True) B Tryz.underlying27 (fun x g=>b8m (j:=j+4) g);obtain⟨u,rfl,o,I⟩:=Jd (n:=j+5) (p:=Sd8.Ok) A Tryz.underlying28 (fun x g=>b0i (j:=j+3) g);obtain⟨s,rfl,m,F⟩:=Jd (n:=j+5) (p:=Mrk.Ok) z Tryz.underlying29 (fun x g=>b6v (j:=j+2) g);simp only[maxLen] at q o m;exact⟨⟨l,w,u,s⟩,rfl,k1,by grind,by grind,by grind,I,F⟩
noncomputable instance (a b:Gj):Decidable (a=b):=Classical.propDecidable _
theorem xJ(p:Ez)(t:Int)(x:Int):∀k,x∈La p t k↔∃i:Nat,i<k∧x=(i:Int)∧Xv p t i=true
 |0=>by simp[La]
 |k+1=>by
  have l:=xJ p t x k;have e:La p t (k+1)=if Xv p t k=true then La p t k++[(k:Int)] else La p t k:=rfl
  rw[e];by_cases h:Xv p t k=true
  ·rw[if_pos h,bt,aM,l]
   constructor
   ·rintro(⟨i,h1,g⟩|h1)
    ·exact⟨i,by omega,g⟩
    ·exact⟨k,by omega,h1,h⟩
   ·rintro⟨i,h1,g,j⟩
    by_cases e:i=k
    ·subst e;exact .inr g
    ·exact .inl ⟨i,by omega,g,j⟩
  ·rw[if_neg h,l]
   constructor
   ·rintro⟨i,h1,g⟩;exact⟨i,by omega,g⟩
   ·rintro⟨i,h1,g,j⟩
    by_cases e:i=k
    ·subst e;exact absurd j h
    ·exact⟨i,by omega,g,j⟩
theorem VT(p:Ez)(t:Int):∀k,t∈VD p k↔t=Ll p∨t=LW p∨∃i,i<k∧(t=(gi p.notes i).s∨t=(gi p.notes i).e)
 |0=>by simp[VD]
 |k+1=>by
  have g:=VT p t k;have e:VD p (k+1)=VD p k++[(gi p.notes k).s,(gi p.notes k).e]:=rfl;grind
theorem b5q(p:Ez)(t:Int)(i:Nat):Xv p t i=true↔(gi p.notes i).s≤t∧t<(gi p.notes i).e:=by
 unfold Xv;simp
end Go.Proofs.YthlffjlbidibdaaGreatDoor
namespace Go.Sch
section
open Go.Vm
def cmpL:List Int→List Int→Int
 |[],[]=>0
 |[],_::_=>-1
 |_::_,[]=>1
 |x::a,y::b=>if x<y then -1 else if y<x then 1 else cmpL a b
theorem mM:∀a:List Int,cmpL a a=0
 |[]=>rfl
 |x::a=>by unfold cmpL;rw[if_neg (by omega),if_neg (by omega),mM a]
theorem cmpL_eq:∀{a b:List Int},cmpL a b=0→a=b
 |[],[],_=>rfl
 |[],_::_,h=>by cases h
 |_::_,[],h=>by cases h
 |x::a,y::b,h=>by
  unfold cmpL at h;split at h
  ·cases h
  ·split at h
   ·cases h
   ·rw[cmpL_eq h,show x=y by omega]
theorem XH:∀a b:List Int,cmpL a b=-cmpL b a
 |[],[]=>rfl
 |[],_::_=>rfl
 |_::_,[]=>rfl
 |x::a,y::b=>by
  unfold cmpL;by_cases h:x<y
  ·omega
  ·by_cases g:y<x
   ·omega
   ·rw[if_neg h,if_neg g,if_neg g,if_neg h,XH a b]
theorem bJ:∀{a b c:List Int},cmpL a b≤0→cmpL b c≤0→cmpL a c≤0
 |[],_,[],_,_=>bj _
 |[],_,_::_,_,_=>by show(-1:Int)≤0;omega
 |_::_,[],_,h,_=>by contradiction
 |_::_,_::_,[],_,h=>by assumption
 |x::a,y::b,z::c,h1,h2=>by
  unfold cmpL at h1 h2 ⊢;by_cases k:x<y
  ·omega
  ·rw[if_neg k] at h1
   by_cases g:y<x
   ·omega
   ·rw[if_neg g] at h1
    by_cases j:y<z
    ·omega
    ·rw[if_neg j] at h2
     by_cases i:z<y
     ·omega
     ·rw[if_neg i] at h2
      rw[if_neg (by omega),if_neg (by omega)];exact bJ h1 h2
theorem uT:∀{a b:List Int} {m:Nat} {v:Int},m<a.length→m<b.length→gi a m=gi b m→cmpL (a.set m v) (b.set m v)=cmpL a b
 |[],_,_,_,h,_,_=>absurd h (bc _)
 |_::_,[],_,_,_,h,_=>absurd h (bc _)
 |x::a,y::b,0,v,_,_,h=>by
  have e:x=y:=h;subst e;unfold cmpL;simp
 |x::a,y::b,m+1,v,h1,h2,h=>by
  rw[fj,fj];have g:=uT (v:=v) (a:=a) (b:=b) (m:=m) (by grind) (by grind) (by assumption);unfold cmpL;rw[g]
def ny(x y:List Int×Int):Prop:=x.2<y.2∨x.2=y.2∧cmpL x.1 y.1≤0
theorem JB(x:List Int×Int):ny x x:=.inr ⟨rfl,by rw[mM];omega⟩
theorem Mc(j:ny x y)(g:ny y z):ny x z:=by
 rcases j with j|⟨j,i⟩
 ·rcases g with g|⟨g,_⟩
  ·exact .inl (by omega)
  ·exact .inl (by omega)
 ·rcases g with g|⟨g,h⟩
  ·exact .inl (by omega)
  ·exact .inr ⟨by omega,bJ i h⟩
theorem b4d(h:ny x y)(g:ny y x):x=y:=by
 obtain⟨a,c⟩:=x;obtain⟨b,d⟩:=y;rcases h with h|⟨h,j⟩
 ·rcases g with g|⟨g,_⟩<;>simp only at h g<;>omega
 ·rcases g with g|⟨g,i⟩
  ·omega
  ·simp only at h j i
   have k:=XH a b;rw[h,cmpL_eq (a:=a) (b:=b) (by omega)]
def ltB(x y:List Int×Int):Bool:=decide (x.2<y.2)||(decide (x.2=y.2)&&decide (cmpL x.1 y.1<0))
theorem a4h(h:ltB x y=true):ny x y:=by
 unfold ltB at h;simp only[Bool.or_eq_true,Bool.and_eq_true,decide_eq_true_eq] at h;rcases h with h|⟨h,g⟩
 ·exact .inl h
 ·exact .inr ⟨h,by omega⟩
theorem sH(h:ltB x y=false):ny y x:=by
 unfold ltB at h;simp only[Bool.or_eq_false_iff,Bool.and_eq_false_iff,decide_eq_false_iff_not] at h;obtain⟨g,h2⟩:=h;rcases h2 with h2|h2
 ·exact .inl (by omega)
 ·by_cases e:x.2=y.2
  ·have:=XH x.1 y.1
   exact .inr ⟨e.symm,by omega⟩
  ·exact .inl (by omega)
def Gw(nw:Nat→Bool)(f:Nat→Nat)(l:List Int):Nat→List (List Int)
 |0=>[l]
 |k+1=>if nw k=true then Gw nw f l k++(Gw nw f l k).map (fun x=>x.set (f k) 1) else Gw nw f l k
theorem jF(nw:Nat→Bool)(f:Nat→Nat)(l:List Int):∀k,1≤(Gw nw f l k).length∧(Gw nw f l k).length≤2^k
 |0=>⟨ab _,ab _⟩
 |k+1=>by
  have g:=jF nw f l k;unfold Gw;grind
def XV(nw:Nat→Bool)(f:Nat→Nat)(k i:Nat):Prop:=∃j,j<k∧nw j=true∧f j=i
theorem XV.succ:XV nw f (k+1) i↔XV nw f k i∨nw k=true∧f k=i:=by
 constructor
 ·rintro⟨j,l,g,h⟩
  by_cases e:j=k
  ·grind
  ·exact .inl ⟨j,by omega,g,h⟩
 ·rintro(⟨j,l,g,h⟩|⟨l,g⟩)
  ·exact⟨j,by omega,g,h⟩
  ·exact⟨k,by omega,l,g⟩
theorem OA:∀(k:Nat),(∀j u,j<k→u<k→f j=f u→j=u)→(∀j,j<k→f j<l.length)→(∀j,j<k→nw j=true→gi l (f j)=0)→∀x:List Int,
 x∈Gw nw f l k↔x.length=l.length∧∀i,i<l.length→(XV nw f k i→gi x i=0∨gi x i=1)∧(¬ XV nw f k i→gi x i=gi l i)
 |0,_,_,_,x=>by
  have F:∀i,¬ XV nw f 0 i:=fun i ⟨j,h,_⟩=>by omega
  unfold Gw;rw[aM];constructor
  ·grind
  ·rintro⟨q,p⟩
   exact LV q fun i m=>(p i (by omega)).2 (F i)
 |k+1,hinj,hr,hz,x=>by
  have z:=OA k (fun j u h I=>hinj j u (by omega) (by omega)) (fun j h=>hr j (by omega)) (fun j h=>hz j (by omega));have C:=hr k (by omega);unfold Gw;by_cases s:nw k=true
  ·rw[if_pos s,bt,z,ba]
   have A:¬ XV nw f k (f k):=fun⟨j,q,_,h3⟩=>by
    grind
   have w:=hz k (by omega) s;constructor
   ·rintro(⟨q,p⟩|⟨y,B,rfl⟩)
    ·refine⟨q,fun i m=>⟨fun g=>?_,fun g=>(p i m).2 fun h=>g (XV.succ.2 (.inl h))⟩⟩
     rcases XV.succ.1 g with g|⟨_,rfl⟩
     ·grind
     grind
    ·obtain⟨q,p⟩:=(z y).1 B
     refine⟨by grind,fun i m=>⟨fun g=>?_,fun g=>?_⟩⟩
     ·rw[Ht]
      split
      ·simp
      ·rename_i e
       rcases XV.succ.1 g with g|⟨_,rfl⟩
       ·grind
       omega
     ·rw[Ht,if_neg fun e=>g (XV.succ.2 (.inr ⟨s,e.1⟩))]
      exact(p i m).2 fun h=>g (XV.succ.2 (.inl h))
   ·rintro⟨q,p⟩
    rcases(p (f k) C).1 (XV.succ.2 (.inr ⟨s,rfl⟩)) with e|e
    ·refine .inl ⟨q,fun i m=>⟨fun g=>(p i m).1 (XV.succ.2 (.inl g)),fun g=>?_⟩⟩
     by_cases o:f k=i
     ·subst o;rw[e,w]
     ·exact(p i m).2 fun h=>(XV.succ.1 h).elim g fun h=>o h.2
    ·refine .inr ⟨x.set (f k) 0,(z _).2 ⟨by rw[cX,q],fun i m=>⟨fun g=>?_,fun g=>?_⟩⟩,?_⟩
     ·have o:f k≠i:=fun e=>A (e.symm▸g)
      rw[Ht,if_neg fun e=>o e.1];exact(p i m).1 (XV.succ.2 (.inl g))
     ·rw[Ht]
      by_cases o:f k=i
      ·subst o;rw[if_pos ⟨rfl,by omega⟩,w]
      ·rw[if_neg fun h=>o h.1]
       exact(p i m).2 fun h=>(XV.succ.1 h).elim g fun h=>o h.2
     ·refine LV (by simp) fun i m=>?_
      rw[Ht,Ht];by_cases o:f k=i
      ·subst o;rw[if_pos ⟨rfl,by simpa using m⟩,e]
      ·rw[if_neg fun h=>o h.1,if_neg fun h=>o h.1]
  ·rw[if_neg s,z]
   have:∀i,XV nw f (k+1) i↔XV nw f k i:=fun i=>by
    rw[XV.succ];exact⟨fun h=>h.elim id fun h=>absurd h.1 s,.inl⟩
   simp only[this]
theorem kJ{L:List (List Int)}(k:∀x∈L,m<x.length∧gi x m=0)(h:L.Nodup):(L.map fun x=>x.set m 1).Nodup:=by
 have g:∀x∈L,((x.set m 1).set m 0)=x:=fun x l=>by
  obtain⟨q,p⟩:=k x l;refine LV (by simp) fun i o=>?_
  rw[Ht,Ht];grind
 refine fu _ (R:=fun a b=>a∈L∧b∈L∧a≠b) (fun a b ⟨j,hb',hne⟩ e=>hne ?_) ?_
 ·grind
 ·exact ic (R:=(·≠·)) (fun{a b} j g h=>⟨j,g,h⟩) h
theorem dw{nw:Nat→Bool}{f:Nat→Nat}{l:List Int}:∀(k:Nat),(∀j g,j<k→g<k→f j=f g→j=g)→(∀j,j<k→f j<l.length)→(∀j,j<k→nw j=true→gi l (f j)=0)→(Gw nw f l k).Nodup
 |0,_,_,_=>by unfold Gw;simp
 |k+1,hinj,hr,hz=>by
  have B:=OA (nw:=nw) (f:=f) (l:=l) k (fun j g h z=>hinj j g (by omega) (by omega)) (fun j h=>hr j (by omega)) (fun j h=>hz j (by omega));have m:=dw (nw:=nw) (f:=f) (l:=l) k (fun j g h z=>hinj j g (by omega) (by omega)) (fun j h=>hr j (by omega)) (fun j h=>hz j (by omega));unfold Gw;by_cases s:nw k=true
  ·rw[if_pos s]
   have q:¬ XV nw f k (f k):=fun⟨j,o,_,h3⟩=>by
    grind
   have i:∀x∈Gw nw f l k,f k<x.length∧gi x (f k)=0:=fun x A=>by
    grind
   refine dd.2 ⟨m,kJ i m,fun a w b u e=>?_⟩;subst e;obtain⟨y,p,e⟩:=ba.1 u;have o:=(i a w).2;rw[← e,Ht,if_pos ⟨rfl,(i y p).1⟩] at o;omega
  grind
inductive All2'{α β:Type}(R:α→β→Prop):List α→List β→Prop
 |nil:All2' R [] []
 |cons {a b l r} (h:R a b) (t:All2' R l r):All2' R (a::l) (b::r)
theorem All2'.append:∀{g:List α} {r1:List β} {l2:List α} {r2:List β},All2' R g r1→All2' R l2 r2→All2' R (g++l2) (r1++r2)
 |_,_,_,_,.nil,h=>h
 |_,_,_,_,.cons h t,k=>.cons h (All2'.append t k)
theorem All2'.map{g:α→γ}{h:β→δ}(i:∀a b,R a b→S (g a) (h b)):∀{l:List α} {r:List β},All2' R l r→All2' S (l.map g) (r.map h)
 |_,_,.nil=>.nil
 |_,_,.cons a t=>.cons (i _ _ a) (All2'.map i t)
theorem All2'.filter{g:α→Bool}{h:β→Bool}(i:∀a b,R a b→g a=h b):∀{l:List α} {r:List β},All2' R l r→All2' R (l.filter g) (r.filter h)
 |_,_,.nil=>.nil
 |_,_,.cons (a:=a) (b:=b) x t=>by
  rw[el,el,i a b x];cases h b
  ·exact All2'.filter i t
  ·exact .cons x (All2'.filter i t)
theorem All2'.right:∀{l:List α} {r:List β},All2' R l r→∀b∈r,∃a,a∈l∧R a b
 |_,_,.nil,b,h=>absurd h bm
 |_,_,.cons x t,b,h=>by
  rcases bd.1 h with rfl|h
  ·grind
  ·obtain⟨a,i,g⟩:=All2'.right t b h
   grind
theorem All2'.count{g:α→Bool}{h:β→Bool}(i:∀a b,R a b→g a=h b):∀{l:List α} {r:List β},All2' R l r→l.countP g=r.countP h
 |_,_,.nil=>rfl
 |_,_,.cons (a:=a) (b:=b) x t=>by
  rw[ie,ie,All2'.count i t,i a b x]
theorem oG(g:R a b):∀(k:Nat),(∀j,j<k→nw j=true→∀x y,R x y→R (x.set (f j) 1) (y.set (f j) 1))→All2' R (Gw nw f a k) (Gw nw f b k)
 |0,_=>.cons g .nil
 |k+1,h=>by
  have l:=oG g k fun j m=>h j (by omega)
  unfold Gw;by_cases i:nw k=true
  ·rw[if_pos i,if_pos i]
   exact l.append (l.map (h k (by omega) i))
  grind
end
section
open Go.Vm
section
variable (nw:Nat→Nat→Bool)(f:Nat→Nat→Nat)(K:Nat→Nat)(play:Nat→List Int→Bool)(II:List Int)
def chs(t:Nat)(l:List Int):List (List Int):=(Gw (nw t) (f t) l (K t)).filter (play t)
def Y0:Nat→List (List Int)
 |0=>[II]
 |t+1=>(Y0 t).flatMap (chs nw f K play t)
end
structure jd(n T:Nat)(nw:Nat→Nat→Bool)(f:Nat→Nat→Nat)(K:Nat→Nat)(S:Nat→Nat→Prop)(play:Nat→List Int→Bool)(II:List Int):Prop where
 len:II.length=n
 inj:∀t,t<T→∀j j',j<K t→j'<K t→f t j=f t j'→j=j'
 rng:∀t,t<T→∀j,j<K t→f t j<n
 zero:∀t,t<T→∀j,j<K t→nw t j=true→gi II (f t j)=0
 once:∀t t',t<T→t'<T→∀i,XV (nw t) (f t) (K t) i→XV (nw t') (f t') (K t') i→t=t'
 sub:∀t,t<T→∀j,j<K t→S t (f t j)
 old:∀t t',t<t'→t'<T→∀i,S t i→¬ XV (nw t') (f t') (K t') i
 cont:∀t,t+1<T→∀i,S (t+1) i→S t i∨∀t',t'<t+1→¬ XV (nw t') (f t') (K t') i
 loc:∀t,t<T→∀l l':List Int,l.length=n→l'.length=n→(∀i,S t i→gi l i=gi l' i)→play t l=play t l'
section
variable {n T:Nat}{nw:Nat→Nat→Bool}{f:Nat→Nat→Nat}{K:Nat→Nat}{S:Nat→Nat→Prop}{play:Nat→List Int→Bool}{II:List Int}
def Bgn(nw:Nat→Nat→Bool)(f:Nat→Nat→Nat)(K:Nat→Nat)(t i:Nat):Prop:=XV (nw t) (f t) (K t) i
structure lQ(nw:Nat→Nat→Bool)(f:Nat→Nat→Nat)(K:Nat→Nat)(play:Nat→List Int→Bool)(II:List Int)(n t:Nat)(l:List Int):Prop where
 len:l.length=n
 yes:∀i,i<n→(∃t',t'<t∧Bgn nw f K t' i)→gi l i=0∨gi l i=1
 no:∀i,i<n→(¬ ∃t',t'<t∧Bgn nw f K t' i)→gi l i=gi II i
 play:∀t',t'<t→play t' l=true
theorem TT(h:jd n T nw f K S play II)(g:t<T)(m:lQ nw f K play II n t l)(x:List Int) :
 x∈chs nw f K play t l↔(x.length=n∧∀i,i<n→(Bgn nw f K t i→gi x i=0∨gi x i=1)∧(¬ Bgn nw f K t i→gi x i=gi l i))∧play t x=true:=by
 have p:∀j,j<K t→nw t j=true→gi l (f t j)=0:=fun j k o=>by
  rw[m.no _ (h.rng t g j k) fun⟨t',h1,h2⟩=>?_]
  ·exact h.zero t g j k o
  ·have:=h.once t' t (by omega) g _ h2 ⟨j,k,o,rfl⟩
   omega
 unfold chs;rw[eV,OA (K t) (h.inj t g) (fun j k=>by rw[m.len];exact h.rng t g j k) p,m.len];rfl
theorem a7y(h:jd n T nw f K S play II)(g:t<T)(m:lQ nw f K play II n t l):(chs nw f K play t l).Nodup:=by
 have o:∀j,j<K t→nw t j=true→gi l (f t j)=0:=fun j i k=>by
  rw[m.no _ (h.rng t g j i) fun⟨t',h1,h2⟩=>?_]
  ·exact h.zero t g j i k
  ·have:=h.once t' t (by omega) g _ h2 ⟨j,i,k,rfl⟩
   omega
 exact(dw (K t) (h.inj t g) (fun j i=>by rw[m.len];exact h.rng t g j i) o).filter _
theorem zL(h:jd n T nw f K S play II)(k:t<T)(m:lQ nw f K play II n t l)(o:x∈chs nw f K play t l)(j:g<t)(q:S g i):gi x i=gi l i:=by
 obtain⟨⟨u,s⟩,_⟩:=(TT h k m x).1 o;by_cases p:i<n
 ·exact(s i p).2 (h.old g t j k i q)
 ·unfold gi
  have e:=m.len;grind
theorem Wu(h:jd n T nw f K S play II):∀t,t≤T→∀l,l∈Y0 nw f K play II t↔lQ nw f K play II n t l
 |0,_,l=>by
  unfold Y0;rw[aM];constructor
  ·rintro rfl
   exact⟨h.len,fun i _ ⟨g,x,_⟩=>by omega,fun _ _ _=>rfl,fun g x=>by omega⟩
  ·intro m
   exact LV (by rw[m.len,h.len]) fun i k=>m.no i (by rw[← m.len];omega) fun⟨g,x,_⟩=>by omega
 |t+1,ht,l=>by
  have A:=Wu h t (by omega);unfold Y0;rw[cS];constructor
  ·rintro⟨y,o,B⟩
   have o:=(A y).1 o;obtain⟨⟨x,C⟩,J⟩:=(TT h (by omega) o l).1 B;refine⟨x,fun i k ⟨g,s,g2⟩=>?_,fun i k p=>?_,fun g s=>?_⟩
   ·by_cases e:g=t
    ·grind
    ·by_cases q:Bgn nw f K t i
     ·grind
     ·rw[(C i k).2 q];exact o.yes i k ⟨g,by omega,g2⟩
   ·rw[(C i k).2 fun q=>p ⟨t,by omega,q⟩]
    exact o.no i k fun⟨g,s,g2⟩=>p ⟨g,by omega,g2⟩
   ·by_cases e:g=t
    ·grind
    ·rw[h.loc g (by omega) l y x o.len fun i z=>zL h (by omega) o B (by omega) z]
     exact o.play g (by omega)
  ·intro m
   let y:List Int:=Bh (fun i=>open Classical in if Bgn nw f K t i then 0 else gi l i) n
   have u:y.length=n:=Cm _ _;have w:∀i,i<n→gi y i=open Classical in if Bgn nw f K t i then 0 else gi l i:=fun i k=>Dz _ k
   have o:lQ nw f K play II n t y:=by
    refine⟨u,fun i k ⟨g,s,g2⟩=>?_,fun i k p=>?_,fun g s=>?_⟩
    ·rw[w i k]
     split
     ·simp
     ·exact m.yes i k ⟨g,by omega,g2⟩
    ·rw[w i k]
     split
     ·rename_i q
      obtain⟨j,I,F,rfl⟩:=q;exact(h.zero t (by omega) j I F).symm
     ·rename_i q
      exact m.no i k fun⟨g,s,g2⟩=>by
       grind
    ·rw[h.loc g (by omega) y l u m.len fun i z=>?_]
     ·exact m.play g (by omega)
     ·by_cases k:i<n
      ·have p:¬ Bgn nw f K t i:=h.old g t s (by omega) i z
       grind
      ·have e:=m.len
       unfold gi;grind
   refine⟨y,(A y).2 o,(TT h (by omega) o l).2 ⟨⟨m.len,fun i k=>⟨fun q=>m.yes i k ⟨t,by omega,q⟩,fun q=>?_⟩⟩,m.play t (by omega)⟩⟩;grind
theorem Uu{g:List Int→List (List Int)}:∀{L:List (List Int)},L.Nodup→(∀a∈L,(g a).Nodup)→(∀a∈L,∀b∈L,∀x,x∈g a→x∈g b→a=b)→(L.flatMap g).Nodup
 |[],_,_,_=>cy
 |a::L,h1,h2,h3=>by
  obtain⟨k,i⟩:=dx.1 h1;refine dd.2 ⟨h2 a (by simp),Uu i (fun b h=>h2 b (am _ h)) fun b h c j=>h3 b (am _ h) c (am _ j),fun x m y l e=>?_⟩;grind
theorem l7(h:jd n T nw f K S play II):∀t,t≤T→(Y0 nw f K play II t).Nodup
 |0,_=>by unfold Y0;simp
 |t+1,ht=>by
  have o:=Wu h t (by omega);refine Uu (l7 h t (by omega)) (fun a s=>a7y h (by omega) ((o a).1 s)) fun a s b u x m l=>?_
  have j:=(o a).1 s;have k:=(o b).1 u;obtain⟨⟨_,y⟩,_⟩:=(TT h (by omega) j x).1 m;obtain⟨⟨_,w⟩,_⟩:=(TT h (by omega) k x).1 l;refine LV (by rw[j.len,k.len]) fun i p=>?_
  rw[j.len] at p;by_cases q:Bgn nw f K t i
  ·have g:¬ ∃t',t'<t∧Bgn nw f K t' i:=fun⟨t',g1,g2⟩=>by
    have:=h.once t' t (by omega) (by omega) i g2 q;omega
   rw[j.no i p g,k.no i p g]
  grind
variable {σ:Type}(s0:σ)(Fv:Nat→σ→List Int→σ)(inc:Nat→σ→List Int→Int)
def KL(l:List Int):Nat→σ
 |0=>s0
 |t+1=>Fv t (KL l t) l
def cF(l:List Int):Nat→Int
 |0=>0
 |t+1=>cF l t+inc t (KL s0 Fv l t) l
structure Stp(n T:Nat)(S:Nat→Nat→Prop)(Fv:Nat→σ→List Int→σ)(inc:Nat→σ→List Int→Int):Prop where
 loc:∀t,t<T→∀x (l l':List Int),l.length=n→l'.length=n→(∀i,S t i→gi l i=gi l' i)→Fv t x l=Fv t x l'∧inc t x l=inc t x l'
 tell:∀t,t<T→∀x x' (l l':List Int),l.length=n→l'.length=n→(∀i,i<n→0≤gi l i∧gi l i≤2)→(∀i,i<n→0≤gi l' i∧gi l' i≤2)→Fv t x l=Fv t x' l'→∀i,S t i→gi l i=gi l' i
variable {s0:σ}{Fv:Nat→σ→List Int→σ}{inc:Nat→σ→List Int→Int}
theorem a6h(j:Stp n T S Fv inc)(m:l.length=n)(k:l'.length=n):∀t,t≤T→(∀g,g<t→∀i,S g i→gi l i=gi l' i)→KL s0 Fv l t=KL s0 Fv l' t∧cF s0 Fv inc l t=cF s0 Fv inc l' t
 |0,_,_=>⟨rfl,rfl⟩
 |t+1,ht,h=>by
  obtain⟨q,p⟩:=a6h j m k t (by omega) fun g o=>h g (by omega)
  unfold KL cF;obtain⟨u,s⟩:=j.loc t (by omega) (KL s0 Fv l' t) l l' m k (h t (by omega));grind
theorem YB(h:jd n T nw f K S play II)(p:Stp n T S Fv inc)(o:t<T)(k:lQ nw f K play II n t l)(m:x∈chs nw f K play t l) :
 KL s0 Fv x t=KL s0 Fv l t∧cF s0 Fv inc x t=cF s0 Fv inc l t:=by
 have g:=((TT h o k x).1 m).1.1;exact a6h p g k.len t (by omega) fun s j i q=>zL h o k m j q
theorem au(k:∀i,i<n→0≤gi II i∧gi II i≤2)(g:lQ nw f K play II n t l)(j:i<n):0≤gi l i∧gi l i≤2:=by
 by_cases e:∃t',t'<t∧Bgn nw f K t' i
 ·rcases g.yes i j e with h|h<;>omega
 ·rw[g.no i j e];grind
theorem a7w(h:jd n T nw f K S play II)(m:Stp n T S Fv inc)(k:∀i,i<n→0≤gi II i∧gi II i≤2)(j:∀t,t<T→∀i,S t i→i<n):∀{t:Nat},t<T→∀{l l':List Int},lQ nw f K play II n t l→lQ nw f K play II n t l'→KL s0 Fv l t=KL s0 Fv l' t→∀i,S t i→gi l i=gi l' i
 |0,ht,l,l',hl,hl',_,i,hS=>by
  have g:=j 0 ht i hS;rw[hl.no i g fun⟨t',h1,_⟩=>by omega,hl'.no i g fun⟨t',h1,_⟩=>by omega]
 |t+1,ht,l,l',hl,hl',he,i,hS=>by
  have g:=j _ ht i hS;rcases h.cont t ht i hS with h1|h1
  ·exact m.tell t (by omega) _ _ l l' hl.len hl'.len (fun i g=>au k hl g) (fun i g=>au k hl' g) he i h1
  ·rw[hl.no i g fun⟨t',g1,g2⟩=>h1 t' g1 g2,hl'.no i g fun⟨t',g1,g2⟩=>h1 t' g1 g2]
theorem rZ(h:jd n T nw f K S play II)(q:Stp n T S Fv inc)(u:∀i,i<n→0≤gi II i∧gi II i≤2)(o:∀t,t<T→∀i,S t i→i<n)(k:t<T)(p:lQ nw f K play II n t l)(g:lQ nw f K play II n t l')(s:KL s0 Fv l t=KL s0 Fv l' t) :
 All2' (fun x y=>(∀i,S t i→gi x i=gi y i)∧cmpL x y=cmpL l l'∧x.length=n∧y.length=n) (chs nw f K play t l) (chs nw f K play t l'):=by
 have m:=a7w h q u o k p g s;have w:All2' (fun x y=>(∀i,S t i→gi x i=gi y i)∧cmpL x y=cmpL l l'∧x.length=n∧y.length=n) (Gw (nw t) (f t) l (K t)) (Gw (nw t) (f t) l' (K t)):=by
  refine oG ⟨m,rfl,p.len,g.len⟩ (K t) fun j hj hn x y ⟨g1,g2,g3,g4⟩=>⟨fun i A=>?_,?_,by grind,by grind⟩
  ·rw[Ht,Ht,g3,g4]
   grind
  ·have z:=h.rng t k j hj
   rw[uT (by omega) (by omega) (g1 _ (h.sub t k j hj)),g2]
 exact w.filter fun a b ⟨g1,_,g3,g4⟩=>h.loc t k a b g3 g4 g1
variable [DecidableEq σ]
def Vs(m:List (σ×(List Int×Int)))(d:σ×(List Int×Int)):List (σ×(List Int×Int)) :=
 match Cj m d.1 with
 |none=>CP m d.1 d.2
 |some o=>if ltB d.2 o=true then CP m d.1 d.2 else m
theorem Me:∀{m:List (σ×β)} {y:σ} {o:β},Cj m y=some o→(y,o)∈m
 |[],_,_,h=>by cases h
 |x::m,y,o,h=>by
  unfold Cj at h;split at h
  ·grind
  ·exact am _ (Me h)
theorem Vu:∀{m:List (σ×β)} {y:σ},Cj m y=none→∀o,(y,o)∉m
 |[],_,_,_,h=>absurd h bm
 |x::m,y,h,o,hm=>by
  unfold Cj at h;split at h
  ·cases h
  ·rename_i e
   rcases bd.1 hm with h1|h1
   ·grind
   ·exact Vu h o h1
theorem SL:∀{m:List (σ×β)} {y:σ} {b:β} {z:σ×β},z∈CP m y b→z=(y,b)∨z∈m∧z.1≠y∨z∈m
 |[],y,b,z,h=>by
  unfold CP at h;grind
 |x::m,y,b,z,h=>by
  unfold CP at h;split at h
  ·grind
  ·rcases bd.1 h with h|h
   ·grind
   ·rcases SL h with h|h|h
    ·grind
    ·grind
    grind
theorem MF:∀{m:List (σ×β)} {y:σ} {b:β},(y,b)∈CP m y b
 |[],_,_=>aM.2 rfl
 |x::m,y,b=>by
  unfold CP;split
  ·simp
  ·exact am _ MF
theorem gW:∀{m:List (σ×β)} {y:σ} {b:β} {z:σ×β},z∈m→z.1≠y→z∈CP m y b
 |[],_,_,_,h,_=>absurd h bm
 |x::m,y,b,z,h,hne=>by
  unfold CP;split
  ·grind
  ·rcases bd.1 h with h|h
   ·grind
   ·exact am _ (gW h hne)
theorem lI:∀{m:List (σ×β)} {y:σ} {b:β} {z:σ},z∈(CP m y b).map (·.1)→z=y∨z∈m.map (·.1)
 |[],y,b,z,h=>by
  unfold CP at h;grind
 |x::m,y,b,z,h=>by
  unfold CP at h;split at h
  ·grind
  ·rcases bd.1 h with h|h
   ·grind
   ·exact(lI h).elim .inl fun h=>.inr (am _ h)
theorem Pz:∀{m:List (σ×β)} {y:σ} {b:β},(m.map (·.1)).Nodup→((CP m y b).map (·.1)).Nodup
 |[],_,_,_=>by unfold CP;simp
 |x::m,y,b,h=>by
  obtain⟨j,i⟩:=dx.1 h;unfold CP;split
  ·grind
  ·rename_i e
   refine dx.2 ⟨fun g=>?_,Pz i⟩;rcases lI g with h3|h3
   ·grind
   grind
theorem fJ{β:Type}:∀{m:List (σ×β)} {y:σ} {a b:β},(m.map (·.1)).Nodup→(y,a)∈m→(y,b)∈m→a=b
 |[],_,_,_,_,h,_=>absurd h bm
 |x::m,y,a,b,hn,h1,h2=>by
  obtain⟨i,g⟩:=dx.1 hn;rcases bd.1 h1 with k|h1
  ·grind
  ·rcases bd.1 h2 with j|h2
   ·grind
   ·exact fJ g h1 h2
structure ZI(D m:List (σ×(List Int×Int))):Prop where
 keys:(m.map (·.1)).Nodup
 sub:∀d∈m,d∈D
 best:∀d∈D,∃o,(d.1,o)∈m∧ny o d.2
theorem ZI.ins(h:ZI D m)(d:σ×(List Int×Int)):ZI (D++[d]) (Vs m d):=by
 obtain⟨y,w⟩:=d;unfold Vs;have hput:(∀o,(y,o)∈m→ny w o)→ZI (D++[(y,w)]) (CP m y w):=fun k=>by
  refine⟨Pz h.keys,fun z hz=>?_,fun z hz=>?_⟩
  ·rcases SL hz with rfl|hz|hz
   ·simp
   ·exact cN _ (h.sub z hz.1)
   ·exact cN _ (h.sub z hz)
  ·rcases bt.1 hz with hz|hz
   ·obtain⟨o,l,j⟩:=h.best z hz
    by_cases e:z.1=y
    ·refine⟨w,by rw[e];exact MF,Mc (k o (by grind)) j⟩
    ·exact⟨o,gW l e,j⟩
   ·rw[aM] at hz
    subst hz;exact⟨w,MF,JB _⟩
 cases hl:Cj m y with
 |none=>exact hput fun o g=>absurd g (Vu hl o)
 |some o =>
  have g:=Me hl;simp only;cases hb:ltB w o with
  |true =>
   refine hput fun p i=>?_
   rw[fJ h.keys i g];exact a4h hb
  |false =>
   refine⟨h.keys,fun z hz=>cN _ (h.sub z hz),fun z hz=>?_⟩;rcases bt.1 hz with hz|hz
   ·exact h.best z hz
   ·rw[aM] at hz
    subst hz;exact⟨o,g,sH hb⟩
theorem mS:∀(L:List (σ×(List Int×Int))) {m:List (σ×(List Int×Int))},ZI D m→ZI (D++L) (L.foldl Vs m)
 |[],m,h=>by grind
 |d::L,m,h=>by
  have:=mS L (h.ins d);grind
theorem ZI.nil:ZI ([]:List (σ×(List Int×Int))) []:=⟨cy,fun d h=>absurd h bm,fun d h=>absurd h bm⟩
structure yI(nw:Nat→Nat→Bool)(f:Nat→Nat→Nat)(K:Nat→Nat)(play:Nat→List Int→Bool)(II:List Int)(s0:σ)(Fv:Nat→σ→List Int→σ)(inc:Nat→σ→List Int→Int)(t:Nat)(m:List (σ×(List Int×Int))):Prop where
 keys:(m.map (·.1)).Nodup
 sub:∀d∈m,d.2.1∈Y0 nw f K play II t∧d.1=KL s0 Fv d.2.1 t∧d.2.2=cF s0 Fv inc d.2.1 t
 best:∀h∈Y0 nw f K play II t,∃o,(KL s0 Fv h t,o)∈m∧ny o (h,cF s0 Fv inc h t)
def cand(nw:Nat→Nat→Bool)(f:Nat→Nat→Nat)(K:Nat→Nat)(play:Nat→List Int→Bool)(Fv:Nat→σ→List Int→σ)(inc:Nat→σ→List Int→Int)(t:Nat)(d:σ×(List Int×Int)):List (σ×(List Int×Int)) :=
 (chs nw f K play t d.2.1).map fun x=>(Fv t d.1 x,(x,d.2.2+inc t d.1 x))
theorem yI.step(h:jd n T nw f K S play II)(p:Stp n T S Fv inc)(hb:∀i,i<n→0≤gi II i∧gi II i≤2)(C:∀t,t<T→∀i,S t i→i<n)(l:t<T){m L:List (σ×(List Int×Int))}(w:yI nw f K play II s0 Fv inc t m)(U:∀d,d∈L↔d∈m) :
 yI nw f K play II s0 Fv inc (t+1) ((L.flatMap (cand nw f K play Fv inc t)).foldl Vs []):=by
 have u:=Wu h t (by omega);have F:=mS (L.flatMap (cand nw f K play Fv inc t)) (ZI.nil (σ:=σ));have hc:∀e∈L.flatMap (cand nw f K play Fv inc t),e.2.1∈Y0 nw f K play II (t+1)∧e.1=KL s0 Fv e.2.1 (t+1)∧e.2.2=cF s0 Fv inc e.2.1 (t+1):=fun e A=>by
  obtain⟨d,B,A⟩:=cS.1 A;obtain⟨x,g,rfl⟩:=ba.1 A;obtain⟨I,V,g3⟩:=w.sub d ((U d).1 B);have hi:=(u _).1 I;obtain⟨k1,k2⟩:=YB (s0:=s0) h p l hi g;refine⟨?_,?_,?_⟩
  ·unfold Y0;grind
  ·show Fv t d.1 x=Fv t (KL s0 Fv x t) x
   grind
  ·show d.2.2+inc t d.1 x=cF s0 Fv inc x t+inc t (KL s0 Fv x t) x
   grind
 refine⟨F.keys,fun d B=>hc d (F.sub d B),fun x g=>?_⟩;unfold Y0 at g;obtain⟨y,N,g⟩:=cS.1 g;obtain⟨o,O,j⟩:=w.best y N;obtain⟨I,V,g3⟩:=w.sub _ O;have k:=(u y).1 N;have q:=(u o.1).1 I;obtain⟨z,M,Y,z2,X,W⟩:=(rZ h p hb C l q k V.symm).right x g;obtain⟨k1,k2⟩:=YB (s0:=s0) h p l k g;obtain⟨k3,k4⟩:=YB (s0:=s0) h p l q M;have s:(Fv t (KL s0 Fv y t) z,(z,o.2+inc t (KL s0 Fv y t) z))∈L.flatMap (cand nw f K play Fv inc t):=cS.2 ⟨_,(U _).2 O,ba.2 ⟨z,M,rfl⟩⟩;obtain⟨J,h1,h2⟩:=F.best _ s;obtain⟨Z,l2⟩:=p.loc t l (KL s0 Fv y t) z x X W Y;simp only[Z] at h1;refine⟨J,?_,Mc h2 ?_⟩
 ·show(Fv t (KL s0 Fv x t) x,J)∈_
  grind
 ·show ny _ (x,cF s0 Fv inc x t+inc t (KL s0 Fv x t) x)
  rcases j with j|⟨j,Q⟩
  ·exact .inl (by grind)
  ·exact .inr ⟨by grind,by grind⟩
theorem nA:yI nw f K play II s0 Fv inc 0 [(s0,(II,0))] :=
 ⟨by simp,fun d g=>by rw[aM] at g;subst g;exact⟨by simp[Y0],rfl,rfl⟩,fun h i=>⟨(II,0),by simp[KL],by
  have:h=II:=by simpa[Y0] using i
  subst this;exact JB _⟩⟩
end
end
section
open Go.Vm
def sumF{α:Type}(F:α→Nat):List α→Nat
 |[]=>0
 |a::l=>F a+sumF F l
theorem NC(F:α→Nat):∀l r:List α,sumF F (l++r)=sumF F l+sumF F r
 |[],r=>by simp[sumF]
 |a::l,r=>by simp only[List.cons_append,sumF,NC F l r];omega
theorem mX(F:α→Nat)(h:l.Perm r):sumF F l=sumF F r:=by
 induction h with
 |nil=>rfl
 |cons a _ g=>simp only[sumF,g]
 |swap a b l=>simp only[sumF];omega
 |trans _ _ j i=>omega
theorem MX:∀{l:List α},(∀a∈l,F a=G a)→sumF F l=sumF G l
 |[],_=>rfl
 |a::l,h=>by
  simp only[sumF];rw[h a (by simp),MX fun b g=>h b (am _ g)]
theorem MC:∀{l:List α},(∀a∈l,F a=0)→sumF F l=0
 |[],_=>rfl
 |a::l,h=>by
  simp only[sumF];rw[h a (by simp),MC fun b g=>h b (am _ g)]
theorem WW(F G:α→Nat):∀l:List α,sumF (fun a=>F a+G a) l=sumF F l+sumF G l
 |[]=>rfl
 |a::l=>by simp only[sumF,WW F G l];omega
theorem zx:∀l:List α,sumF (fun _=>1) l=l.length
 |[]=>rfl
 |a::l=>by simp only[sumF,zx l,List.length_cons];omega
theorem PG(F:β→Nat)(g:α→List β):∀l:List α,sumF F (l.flatMap g)=sumF (fun a=>sumF F (g a)) l
 |[]=>rfl
 |a::l=>by rw[List.flatMap_cons,NC,PG F g l];rfl
theorem fH(F:β→Nat)(g:α→β):∀l:List α,sumF F (l.map g)=sumF (fun a=>F (g a)) l
 |[]=>rfl
 |a::l=>by simp only[List.map_cons,sumF,fH F g l]
theorem Rl(p:α→Bool):∀l:List α,l.countP p=sumF (fun a=>if p a=true then 1 else 0) l
 |[]=>rfl
 |a::l=>by
  rw[ie,Rl p l];simp only[sumF];omega
theorem countP_flatMap{α β:Type}(p:β→Bool)(g:α→List β)(l:List α):(l.flatMap g).countP p=sumF (fun a=>(g a).countP p) l:=by
 rw[Rl,PG];exact MX fun a _=>(Rl p _).symm
section
variable {σ β:Type}[DecidableEq σ]
theorem a1n{G:σ×β→Nat}(i:(m.map (·.1)).Nodup)(h:(y,o)∈m):sumF (fun e=>if y=e.1 then G e else 0) m=G (y,o):=by
 induction m with
 |nil=>cases h
 |cons x m p =>
  obtain⟨g,l⟩:=dx.1 i;simp only[sumF];rcases bd.1 h with h|h
  ·subst h
   rw[if_pos rfl,MC fun e j=>if_neg fun k=>g (ba.2 ⟨e,j,k.symm⟩)];rfl
  grind
theorem Yw(k:(m.map (·.1)).Nodup){g:α→σ}{F:α→Nat}{G:σ×β→Nat}:∀{P:List α},(∀h∈P,∃o,(g h,o)∈m)→(∀h∈P,∀e∈m,e.1=g h→F h=G e)→sumF F P=sumF (fun e=>P.countP (fun h=>decide (g h=e.1))*G e) m
 |[],_,_=>by
  refine(MC fun e _=>?_).symm;simp
 |h::P,h1,h2=>by
  have l:=Yw k (P:=P) (g:=g) (F:=F) (G:=G) (fun x i=>h1 x (am _ i)) fun x i=>h2 x (am _ i)
  obtain⟨o,j⟩:=h1 h (by simp);simp only[sumF];rw[l,h2 h (by simp) _ j rfl,← a1n (G:=G) k j,← WW];grind
def Uf(m:List (σ×(List Int×Nat)))(d:σ×(List Int×Nat)):List (σ×(List Int×Nat)) :=
 match Cj m d.1 with
 |none=>CP m d.1 (d.2.1,0+d.2.2)
 |some o=>CP m d.1 (o.1,o.2+d.2.2)
def wB(D:List (σ×(List Int×Nat)))(y:σ):Nat:=sumF (fun d=>if d.1=y then d.2.2 else 0) D
structure ZT(D m:List (σ×(List Int×Nat))):Prop where
 keys:(m.map (·.1)).Nodup
 sub:∀d∈m,(∃c,(d.1,(d.2.1,c))∈D)∧d.2.2=wB D d.1
 all:∀d∈D,∃o,(d.1,o)∈m
theorem oM(D:List (σ×(List Int×Nat)))(d:σ×(List Int×Nat))(y:σ):wB (D++[d]) y=wB D y+if d.1=y then d.2.2 else 0:=by
 unfold wB;rw[NC];rfl
theorem b1x{y:σ}(h:∀d∈D,d.1≠y):wB D y=0:=MC fun d g=>if_neg (h d g)
theorem Xn{y:σ}{b c:β}(g:(m.map (·.1)).Nodup)(h:(y,c)∈CP m y b):c=b:=fJ (Pz g) h MF
theorem ZT.ins(h:ZT D m)(d:σ×(List Int×Nat)):ZT (D++[d]) (Uf m d):=by
 obtain⟨y,x,c⟩:=d;unfold Uf;have hput:∀w:List Int×Nat,(∃i,(y,(w.1,i))∈D++[(y,(x,c))])→w.2=wB D y+c→ZT (D++[(y,(x,c))]) (CP m y w):=fun w l k=>by
  refine⟨Pz h.keys,fun z hz=>?_,fun z hz=>?_⟩
  ·by_cases e:z.1=y
   ·obtain⟨A,u⟩:=z
    subst e;have:=Xn h.keys hz;subst this;exact⟨l,by rw[k,oM,if_pos rfl]⟩
   ·have j:z∈m:=by
     rcases SL hz with h1|h1|h1
     ·grind
     ·grind
     omega
    obtain⟨⟨i,h1⟩,p⟩:=h.sub z j;exact⟨⟨i,cN _ h1⟩,by rw[p,oM,if_neg (fun s=>e s.symm),ee]⟩
  ·rcases bt.1 hz with hz|hz
   ·by_cases e:z.1=y
    ·exact⟨w,by rw[e];exact MF⟩
    ·obtain⟨o,g⟩:=h.all z hz
     exact⟨o,gW g e⟩
   ·rw[aM] at hz
    subst hz;exact⟨w,MF⟩
 cases hl:Cj m y with
 |none =>
  refine hput _ ⟨c,by simp⟩ ?_;rw[b1x fun d q e=>?_];obtain⟨o,g⟩:=h.all d q;rw[e] at g;exact Vu hl o g
 |some o =>
  have g:=Me hl;obtain⟨⟨i,h1⟩,p⟩:=h.sub _ g;grind
theorem mR:∀(L:List (σ×(List Int×Nat))) {D m:List (σ×(List Int×Nat))},ZT D m→ZT (D++L) (L.foldl Uf m)
 |[],D,m,h=>by grind
 |d::L,D,m,h=>by
  have:=mR L (h.ins d);grind
theorem ZT.nil:ZT ([]:List (σ×(List Int×Nat))) []:=⟨cy,fun d h=>absurd h bm,fun d h=>absurd h bm⟩
variable {n T:Nat}{nw:Nat→Nat→Bool}{f:Nat→Nat→Nat}{K:Nat→Nat}{S:Nat→Nat→Prop}{play:Nat→List Int→Bool}{II:List Int}{s0:σ}{Fv:Nat→σ→List Int→σ}{inc:Nat→σ→List Int→Int}
structure ZE(nw:Nat→Nat→Bool)(f:Nat→Nat→Nat)(K:Nat→Nat)(play:Nat→List Int→Bool)(II:List Int)(s0:σ)(Fv:Nat→σ→List Int→σ)(t:Nat)(m:List (σ×(List Int×Nat))):Prop where
 keys:(m.map (·.1)).Nodup
 sub:∀d∈m,d.2.1∈Y0 nw f K play II t∧d.1=KL s0 Fv d.2.1 t∧d.2.2=(Y0 nw f K play II t).countP fun h=>decide (KL s0 Fv h t=d.1)
 all:∀h∈Y0 nw f K play II t,∃o,(KL s0 Fv h t,o)∈m
def lG(nw:Nat→Nat→Bool)(f:Nat→Nat→Nat)(K:Nat→Nat)(play:Nat→List Int→Bool)(Fv:Nat→σ→List Int→σ)(t:Nat)(d:σ×(List Int×Nat)):List (σ×(List Int×Nat)) :=
 (chs nw f K play t d.2.1).map fun x=>(Fv t d.1 x,(x,d.2.2))
theorem wu(p:List Int→Bool)(c:Nat):∀l:List (List Int),sumF (fun x=>if p x=true then c else 0) l=c*l.countP p
 |[]=>rfl
 |a::l=>by
  simp only[sumF,wu p c l,List.countP_cons];grind
theorem ZE.step(h:jd n T nw f K S play II)(l:Stp n T S Fv inc)(Y:∀i,i<n→0≤gi II i∧gi II i≤2)(w:∀t,t<T→∀i,S t i→i<n)(k:t<T){m L:List (σ×(List Int×Nat))}(q:ZE nw f K play II s0 Fv t m)(O:L.Perm m) :
 ZE nw f K play II s0 Fv (t+1) ((L.flatMap (lG nw f K play Fv t)).foldl Uf []):=by
 have p:=Wu h t (by omega);have Q:=mR (L.flatMap (lG nw f K play Fv t)) (ZT.nil (σ:=σ));have W:∀y,wB (L.flatMap (lG nw f K play Fv t)) y=(Y0 nw f K play II (t+1)).countP fun x=>decide (KL s0 Fv x (t+1)=y):=fun y=>by
  unfold wB;rw[PG,mX _ O];have e1:∀d∈m,sumF (fun e:σ×(List Int×Nat)=>if e.1=y then e.2.2 else 0) (lG nw f K play Fv t d)=(Y0 nw f K play II t).countP (fun h=>decide (KL s0 Fv h t=d.1))*(chs nw f K play t d.2.1).countP (fun x=>decide (Fv t d.1 x=y)):=fun d u=>by
   obtain⟨_,_,Z⟩:=q.sub d u;rw[← Z];unfold lG;rw[fH];rw[← wu];simp
  rw[MX e1];rw[← Yw (P:=Y0 nw f K play II t) (g:=fun h=>KL s0 Fv h t) (F:=fun h=>(chs nw f K play t h).countP fun x=>decide (Fv t (KL s0 Fv h t) x=y)) (G:=fun d=>(chs nw f K play t d.2.1).countP fun x=>decide (Fv t d.1 x=y)) q.keys q.all]
  ·show _=List.countP _ (List.flatMap _ _)
   rw[countP_flatMap];refine MX fun a N=>?_
   refine List.countP_congr fun x j=>?_
   obtain⟨k1,_⟩:=YB (s0:=s0) (inc:=inc) h l k ((p a).1 N) j;show decide (Fv t (KL s0 Fv a t) x=y)=true↔decide (Fv t (KL s0 Fv x t) x=y)=true;rw[k1]
  ·intro a N e s M
   obtain⟨A,U,_⟩:=q.sub e s;have:=(rZ (s0:=s0) (inc:=inc) h l Y w k ((p a).1 N) ((p _).1 A) (by grind)).count (g:=fun x=>decide (Fv t (KL s0 Fv a t) x=y)) (h:=fun x=>decide (Fv t e.1 x=y)) fun x z ⟨I,_,C,B⟩=>by
    rw[M,(l.loc t k _ x z C B I).1]
   omega
 have hc:∀e∈L.flatMap (lG nw f K play Fv t),e.2.1∈Y0 nw f K play II (t+1)∧e.1=KL s0 Fv e.2.1 (t+1):=fun e s=>by
  obtain⟨d,u,s⟩:=cS.1 s;obtain⟨x,j,rfl⟩:=ba.1 s;obtain⟨A,U,Z⟩:=q.sub d (O.mem_iff.1 u);obtain⟨k1,_⟩:=YB (s0:=s0) (inc:=inc) h l k ((p _).1 A) j;refine⟨?_,?_⟩
  ·unfold Y0;grind
  ·show Fv t d.1 x=Fv t (KL s0 Fv x t) x
   grind
 refine⟨Q.keys,fun d u=>?_,fun x j=>?_⟩
 ·obtain⟨⟨c,h1⟩,h2⟩:=Q.sub d u
  grind
 ·obtain⟨y,J,j⟩:=cS.1 j
  obtain⟨o,X⟩:=q.all y J;obtain⟨A,U,_⟩:=q.sub _ X;obtain⟨z,hz,I,_,C,B⟩:=(rZ (s0:=s0) (inc:=inc) h l Y w k ((p _).1 A) ((p y).1 J) U.symm).right x j;obtain⟨V,h1⟩:=Q.all (Fv t (KL s0 Fv y t) z,(z,o.2)) (cS.2 ⟨_,O.mem_iff.2 X,ba.2 ⟨z,hz,rfl⟩⟩);obtain⟨k1,_⟩:=YB (s0:=s0) (inc:=inc) h l k ((p y).1 J) j;refine⟨V,?_⟩;show(Fv t (KL s0 Fv x t) x,V)∈_;rw[k1,← (l.loc t k _ z x C B I).1];omega
theorem nB:ZE nw f K play II s0 Fv 0 [(s0,(II,1))] :=
 ⟨by simp,fun d g=>by rw[aM] at g;subst g;exact⟨by simp[Y0],rfl,by simp[Y0,KL]⟩,fun h i=>⟨(II,1),by simp[KL]⟩⟩
theorem ms(i:ZE nw f K play II s0 Fv t m):sumF (fun d=>d.2.2) m=(Y0 nw f K play II t).length:=by
 rw[← zx,Yw (P:=Y0 nw f K play II t) (g:=fun h=>KL s0 Fv h t) (F:=fun _=>1) (G:=fun _=>1) i.keys i.all fun _ _ _ _ _=>rfl];exact MX fun d j=>by rw[(i.sub d j).2.2,fy]
end
end
section
open Go.Vm
def YL(b:Option (List Int×Int))(w:List Int×Int):Option (List Int×Int) :=
 match b with
 |none=>some w
 |some o=>if ltB w o=true then some w else some o
theorem Yg:∀(L:List (List Int×Int)) (b:Option (List Int×Int)),(b=none∧L=[]∧L.foldl YL b=none)∨∃w,L.foldl YL b=some w∧(w∈L∨b=some w)∧(∀x∈L,ny w x)∧∀o,b=some o→ny w o
 |[],none=>.inl ⟨rfl,rfl,rfl⟩
 |[],some o=>.inr ⟨o,rfl,.inr rfl,fun x h=>absurd h bm,fun g h=>by cases h;exact JB _⟩
 |x::L,b=>by
  rw[List.foldl_cons];have l:∃o,YL b x=some o∧(o=x∨b=some o)∧ny o x∧∀g,b=some g→ny o g:=by
   cases b with
   |none=>exact⟨x,rfl,.inl rfl,JB _,fun g h=>by cases h⟩
   |some o =>
    unfold YL;simp only;cases h:ltB x o with
    |true =>
     exact⟨x,rfl,.inl rfl,JB _,fun g j=>by cases j;exact a4h h⟩
    |false =>
     exact⟨o,rfl,.inr rfl,sH h,fun g j=>by cases j;exact JB _⟩
  obtain⟨o,q,z,p,m⟩:=l;rw[q];rcases Yg L (some o) with⟨h,_⟩|⟨w,u,B,A,s⟩
  ·cases h
  ·have k:=s o rfl
   refine .inr ⟨w,u,?_,fun y hy=>?_,fun g i=>Mc k (m g i)⟩
   ·grind
   ·rcases bd.1 hy with rfl|hy
    ·exact Mc k p
    grind
end
end Go.Sch
namespace Go.Proofs.YthlffjlbidibdaaGreatDoor
open Go Go.Am Go.Vm Go.Pie Go.Sch
attribute [local irreducible] Aa Ah Ai Ad AL Ak Bf BK Bj Aj Vm.Done Bv AP Nl
attribute [local irreducible] Cb Bg D5 DU EF AV CB
theorem a5e(p:Ez):Inc (DC p):=QY (Yz _)
theorem Vl(p:Ez)(h:i<j)(g:j<(DC p).length):gi (DC p) i<gi (DC p) j:=by
 have:=eT.1 (a5e p) i j (by omega) g h;unfold gi;grind
theorem b2y(p:Ez)(k:i<(DC p).length)(g:j<(DC p).length)(h:gi (DC p) i=gi (DC p) j):i=j:=by
 rcases fp i j with h1|h1|h1
 ·have:=Vl p h1 g;omega
 ·omega
 ·have:=Vl p h1 k;omega
theorem ah(p:Ez)(t:Int):t∈DC p↔t∈VD p p.notes.length:=by
 unfold DC;rw[NH,fk]
theorem KN{α:Type}[Inhabited α]{l:List α}{x:α}(h:x∈l):∃i,i<l.length∧gi l i=x:=by
 obtain⟨i,g,e⟩:=cf.1 h;exact⟨i,g,by unfold gi;grind⟩
theorem Dj{α:Type}[Inhabited α]{l:List α}{i:Nat}(h:i<l.length):gi l i∈l:=by
 unfold gi;grind
theorem zH{α:Type}[Inhabited α]{l:List α}(h:l.Nodup){i j:Nat}(k:i<l.length)(g:j<l.length)(e:gi l i=gi l j):i=j:=by
 unfold gi at e;rw[ai k,ai g] at e;exact(List.getElem_inj h).1 e
theorem Vk(p:Ez)(t:Int):∀k,(La p t k).Nodup
 |0=>cy
 |k+1=>by
  have g:=Vk p t k;unfold La;split
  ·refine dd.2 ⟨g,by simp,fun a i b h e=>?_⟩
   rw[aM] at h;have:=aN i;omega
  omega
theorem rF(p:Ez)(t:Int)(x:Int):x∈snd p t↔∃i:Nat,i<p.notes.length∧x=(i:Int)∧(gi p.notes i).s≤t∧t<(gi p.notes i).e:=by
 have h:=xJ p t x p.notes.length;simp only[b5q] at h;exact h
def Oj(q:Qu)(t:Nat):qA:=gi (Bc q.p) t
def c3q(q:Qu)(s:qA)(x:Int):Bool:=decide ((gi q.p.notes x.toNat).s=s.s)
def Ol(q:Qu)(t j:Nat):Bool:=c3q q (Oj q t) (gi (Jm q (Dy q t)) j)
def fQ(q:Qu)(t j:Nat):Nat:=(gi (Jm q (Dy q t)) j).toNat
def kQ(q:Qu)(t:Nat):Nat:=(Jm q (Dy q t)).length
def sQ(q:Qu)(t i:Nat):Prop:=(i:Int)∈Dy q t
def Zb(q:Qu)(t:Nat)(l:List Int):Bool:=J4 q (Dy q t) l
theorem VX(p:Ez):(Bc p).length+1=(DC p).length:=by
 have:=a5c p;show(b6k _ _).length+1=_;rw[wG];omega
theorem a4y(q:Qu)(g:t<(Bc q.p).length):(Oj q t).s=gi (DC q.p) t:=by
 unfold Oj;rw[aK _ g]
theorem Px(q:Qu)(g:t<(Bc q.p).length):Dy q t=snd q.p (gi (DC q.p) t):=by
 unfold Dy;rw[aK _ g]
theorem Vq(q:Qu)(g:t<(Bc q.p).length)(i:Nat):sQ q t i↔i<q.p.notes.length∧(gi q.p.notes i).s≤gi (DC q.p) t∧gi (DC q.p) t<(gi q.p.notes i).e:=by
 unfold sQ;rw[Px q g,rF];grind
theorem xK(q:Qu)(N:List Int)(x:Int):x∈Jm q N↔x∈N∧FK q x.toNat=false:=by
 unfold Jm Xw;simp
theorem a3r(q:Qu)(g:t<(Bc q.p).length):(Jm q (Dy q t)).Nodup:=by
 rw[Px q g];exact(Vk _ _ _).filter _
theorem Qm(q:Qu)(g:t<(Bc q.p).length)(k:j<kQ q t):∃i:Nat,gi (Jm q (Dy q t)) j=(i:Int)∧fQ q t j=i∧i<q.p.notes.length∧sQ q t i∧FK q i=false:=by
 have h:=Dj (l:=Jm q (Dy q t)) k;obtain⟨w,u⟩:=(xK q _ _).1 h;have m:gi (Jm q (Dy q t)) j∈snd q.p (gi (DC q.p) t):=by rw[← Px q g];omega
 obtain⟨i,s,o,_⟩:=(rF _ _ _).1 m;refine⟨i,o,by unfold fQ;omega,s,by unfold sQ;grind,by grind⟩
theorem Qn(q:Qu)(o:IQ q)(g:t<(Bc q.p).length)(i:Nat):Bgn (Ol q) (fQ q) (kQ q) t i↔i<q.p.notes.length∧FK q i=false∧(gi q.p.notes i).s=gi (DC q.p) t:=by
 constructor
 ·rintro⟨j,k,h,rfl⟩
  obtain⟨i,B,A,z,F,y⟩:=Qm q g k;rw[A];refine⟨z,y,?_⟩;unfold Ol c3q at h;rw[B,a4y q g] at h;grind
 ·rintro⟨k,h,C⟩
  have u:=o.p.note i k;have x:sQ q t i:=(Vq q g i).2 ⟨k,by omega,by have:=u.r;omega⟩;have w:(i:Int)∈Jm q (Dy q t):=(xK q _ _).2 ⟨x,h⟩;obtain⟨j,m,l⟩:=KN w;refine⟨j,m,?_,by unfold fQ;omega⟩;unfold Ol c3q;rw[l,a4y q g];grind
theorem oD(h:∀x∈N,is x.toNat=is' x.toNat)(d:Nat):∀k,k≤N.length→V3 p N is d k=V3 p N is' d k
 |0,_=>rfl
 |k+1,hk=>by
  rw[FT,FT,oD h d k (by omega),h _ (Dj (by omega))]
theorem b1h(h:∀x∈N,is x.toNat=is' x.toNat):F7 q N is=F7 q N is':=by
 refine Ld fun d _=>?_
 unfold VK;rw[oD h d _ (ab _)]
theorem XL(h:∀x∈N,gi l x.toNat=gi l' x.toNat)(g:Int):∀k,k≤N.length→Xx p N l g k=Xx p N l' g k
 |0,_=>rfl
 |k+1,hk=>by
  unfold Xx;rw[XL h g k (by omega),h _ (Dj (by omega))]
theorem bf(h:∀x∈N,gi l x.toNat=gi l' x.toNat)(g:Int):SE q N l g=SE q N l' g:=by
 unfold SE;rw[b1h (is:=hasB l g) (is':=hasB l' g) fun x i=>by unfold hasB;grind]
theorem vM(h:∀x∈N,gi l x.toNat=gi l' x.toNat):J4 q N l=J4 q N l':=by
 unfold J4;rw[bf h,bf h]
theorem XT(h:∀x∈N,gi l x.toNat=gi l' x.toNat):∀k,k≤N.length→qh N l k=qh N l' k
 |0,_=>rfl
 |k+1,hk=>by
  unfold qh;rw[XT h k (by omega),h _ (Dj (by omega))]
theorem zV{N l l':List Int}(h:∀x∈N,0≤gi l x.toNat∧gi l x.toNat≤2)(g:∀x∈N,0≤gi l' x.toNat∧gi l' x.toNat≤2):∀k,k≤N.length→qh N l k=qh N l' k→∀j,j<k→gi l (gi N j).toNat=gi l' (gi N j).toNat
 |0,_,_,j,hj=>by omega
 |k+1,hk,he,j,hj=>by
  have s:=WG N l k;have o:=WG N l' k;obtain⟨q,m⟩:=List.append_inj he (by omega);by_cases e:j=k
  ·subst e
   simp only[List.cons.injEq,and_true] at m;have p:=congrArg UInt8.toNat m;rw[UInt8.toNat_ofNat',UInt8.toNat_ofNat'] at p;have:=h _ (Dj (l:=N) (i:=j) (by omega));have:=g _ (Dj (l:=N) (i:=j) (by omega));omega
  ·exact zV h g k (by omega) q j (by omega)
theorem qL(k:t<(Bc q.p).length){l l':List Int}(h:∀i,sQ q t i→gi l i=gi l' i):∀x∈Dy q t,gi l x.toNat=gi l' x.toNat:=fun x j=>by
 have g:=j;rw[Px q k,rF] at j;obtain⟨i,_,rfl,_⟩:=j;exact h i g
theorem ZW(q:Qu)(g:i<q.p.notes.length):gi (OW q) i=if FK q i=true then 2 else 0:=by
 unfold OW Yd;rw[Dz _ g];grind
theorem b8o(q:Qu):(OW q).length=q.p.notes.length:=O4 _ _
theorem Zv(q:Qu)(A:IQ q):jd q.p.notes.length (Bc q.p).length (Ol q) (fQ q) (kQ q) (sQ q) (Zb q) (OW q):=by
 have W:=VX q.p;refine⟨b8o q,fun t g j Q k u e=>?_,fun t g j k=>?_,fun t g j k V=>?_,fun t B g o i m w=>?_,fun t g j k=>?_,fun t B m w i F C=>?_,fun t g i F=>?_,fun t g l O _ _ h=>?_⟩
 ·obtain⟨i,z,y,_⟩:=Qm q g k
  obtain⟨U,x,N,_⟩:=Qm q g u;refine zH (a3r q g) k u ?_;omega
 ·obtain⟨i,z,y,x,_⟩:=Qm q g k
  omega
 ·obtain⟨i,z,y,x,_,M⟩:=Qm q g k
  rw[y,ZW q x,M];rfl
 ·have m:=((Qn q A g i).1 m).2.2
  have w:=((Qn q A o i).1 w).2.2;exact b2y q.p (by omega) (by omega) (m.symm.trans w)
 ·obtain⟨i,z,y,x,N,_⟩:=Qm q g k
  grind
 ·have J:=((Qn q A w i).1 C).2.2
  have h4:=((Vq q (by omega) i).1 F).2.1;have:=Vl q.p m (by omega);omega
 ·obtain⟨z,y,x⟩:=(Vq q g i).1 F
  have I:=Vl q.p (show t<t+1 by omega) (by omega);by_cases m:(gi q.p.notes i).s≤gi (DC q.p) t
  ·exact .inl ((Vq q (by omega) i).2 ⟨z,m,by omega⟩)
  ·refine .inr fun B o C=>?_
   have J:=((Qn q A (by omega) i).1 C).2.2;rcases aq B t with h4|h4
   ·have:=Vl q.p h4 (by omega);omega
   grind
 ·exact vM (qL g h)
theorem WM(q:Qu):∀i,i<q.p.notes.length→0≤gi (OW q) i∧gi (OW q) i≤2:=fun i g=>by
 rw[ZW q g];split<;>omega
theorem c4z(q:Qu):∀t,t<(Bc q.p).length→∀i,sQ q t i→i<q.p.notes.length:=fun t g i h=>((Vq q g i).1 h).1
def Jc(q:Qu)(t:Nat):List (List Int):=Y0 (Ol q) (fQ q) (kQ q) (Zb q) (OW q) t
def c7o(q:Qu)(t:Nat)(l:List Int):Prop:=lQ (Ol q) (fQ q) (kQ q) (Zb q) (OW q) q.p.notes.length t l
theorem RI(q:Qu)(h:IQ q)(g:t≤(Bc q.p).length)(l:List Int):l∈Jc q t↔c7o q t l:=Wu (Zv q h) t g l
theorem iM(q:Qu)(h:IQ q)(g:t≤(Bc q.p).length):(Jc q t).Nodup:=l7 (Zv q h) t g
def qH(q:Qu)(t:Nat)(l:List Int):List (List Int):=chs (Ol q) (fQ q) (kQ q) (Zb q) t l
structure a8f(q:Qu)(t:Nat)(l:List Int):Prop where
 len:l.length=q.p.notes.length
 rng:∀i,i<l.length→0≤gi l i∧gi l i≤2
 zero:∀j,j<kQ q t→Ol q t j=true→gi l (fQ q t j)=0
theorem zI(q:Qu)(u:IQ q)(k:t<(Bc q.p).length)(h:c7o q t l):a8f q t l:=by
 have o:=Zv q u;have g:l.length=q.p.notes.length:=lQ.len h;refine⟨g,fun i w=>au (WM q) h (by omega),fun j m s=>?_⟩;rw[lQ.no h _ (o.rng t k j m) fun⟨t',h1,h2⟩=>by have:=o.once t' t (by omega) k _ h2 ⟨j,m,s,rfl⟩;omega];exact o.zero t k j m s
theorem mY(q:Qu)(l:IQ q)(k:i<q.p.notes.length)(m:FK q i=false):∃t,t<(Bc q.p).length∧Bgn (Ol q) (fQ q) (kQ q) t i:=by
 have z:=VX q.p;have o:=l.p.note i k;have w:(gi q.p.notes i).s∈DC q.p:=(ah _ _).2 ((VT _ _ _).2 (.inr (.inr ⟨i,k,.inl rfl⟩)));have u:(gi q.p.notes i).e∈DC q.p:=(ah _ _).2 ((VT _ _ _).2 (.inr (.inr ⟨i,k,.inr rfl⟩)));obtain⟨a,y,x⟩:=KN w;obtain⟨b,b1,b2⟩:=KN u;have j:a<(Bc q.p).length:=by
  rcases aq a (Bc q.p).length with h|h
  ·exact h
  ·have:=o.r
   rcases fp a b with g|g|g
   ·omega
   ·grind
   ·have:=Vl q.p g y;omega
 exact⟨a,j,(Qn q l j i).2 ⟨k,m,x.symm⟩⟩
theorem Ku(q:Qu)(j:IQ q)(l:List Int):l∈Jc q (Bc q.p).length↔l.length=q.p.notes.length∧(∀i,i<q.p.notes.length→if FK q i=true then gi l i=2 else gi l i=0∨gi l i=1)∧∀t,t<(Bc q.p).length→J4 q (Dy q t) l=true:=by
 rw[RI q j (ab _)];constructor
 ·intro h
  refine⟨lQ.len h,fun i g=>?_,fun t o=>lQ.play h t o⟩;split
  ·rename_i k
   rw[lQ.no h i g (fun⟨t,u,m⟩=>by have:=((Qn q j u i).1 m).2.1;grind),ZW q g,if_pos k]
  ·rename_i k
   exact lQ.yes h i g (mY q j g (by grind))
 ·rintro⟨u,m,w⟩
  refine⟨u,fun i g ⟨t,g1,g2⟩=>?_,fun i g s=>?_,fun t o=>w t o⟩
  ·have:=m i g
   rw[((Qn q j g1 i).1 g2).2.1] at this;grind
  ·have:=m i g
   by_cases k:FK q i=true
   ·rw[if_pos k] at this
    rw[this,ZW q g,if_pos k]
   ·exact absurd (mY q j g (by grind)) s
structure Lu where
 now:List UInt8
 c0:XI
 c1:XI
 b0:Bool
 b1:Bool
deriving DecidableEq
def st0:Lu:=⟨[],⟨0,0⟩,⟨0,0⟩,false,false⟩
def Ik(q:Qu)(t:Nat)(x:Lu)(l:List Int):Lu :=
 ⟨QJ (Dy q t) l,if(He q l 0 t).1=true then(He q l 0 t).2 else x.c0,if(He q l 1 t).1=true then(He q l 1 t).2 else x.c1,(He q l 0 t).1||x.b0,(He q l 1 t).1||x.b1⟩
def Ho(r:Bool×XI)(b:Bool)(c:XI):Int:=if r.1=true then if b=true then mvC c r.2 else 0 else 0
def MJ(q:Qu)(t:Nat)(x:Lu)(l:List Int):Int:=Ho (He q l 0 t) x.b0 x.c0+Ho (He q l 1 t) x.b1 x.c1
theorem xR(q:Qu)(s:t<(Bc q.p).length){l l':List Int}(w:∀i,i<q.p.notes.length→0≤gi l i∧gi l i≤2)(k:∀i,i<q.p.notes.length→0≤gi l' i∧gi l' i≤2)(e2:QJ (Dy q t) l=QJ (Dy q t) l')(u:sQ q t i):gi l i=gi l' i:=by
 have hin:=G7 s;have m:∀x∈Dy q t,x.toNat<q.p.notes.length:=fun x g=>by
  obtain⟨j,h,o⟩:=KN g;have:=hin j h;omega
 obtain⟨j,h,o⟩:=KN (l:=Dy q t) u;have:=zV (fun x g=>w _ (m x g)) (fun x g=>k _ (m x g)) _ (ab _) e2 j h;grind
theorem c3x(q:Qu):Go.Sch.Stp q.p.notes.length (Bc q.p).length (sQ q) (Ik q) (MJ q):=by
 refine⟨fun t k x l g _ _ h=>?_,fun t k x y l g z w u m o i s=>?_⟩
 ·have j:=qL k h
  have C:He q l 0 t=He q g 0 t:=XL j 0 _ (ab _);have B:He q l 1 t=He q g 1 t:=XL j 1 _ (ab _);have A:QJ (Dy q t) l=QJ (Dy q t) g:=XT j _ (ab _);unfold Ik MJ;grind
 ·exact xR q k u m (congrArg Lu.now o) s
def c9v(q:Qu)(t:Nat)(_:List UInt8)(l:List Int):List UInt8:=QJ (Dy q t) l
theorem c0r(q:Qu):Go.Sch.Stp q.p.notes.length (Bc q.p).length (sQ q) (c9v q) (fun _ _ _=>0):=by
 refine⟨fun t g x l k _ _ h=>⟨XT (qL g h) _ (ab _),rfl⟩,fun t g x w l k y u s j m i o=>?_⟩;exact xR q g s j m o
end Go.Proofs.YthlffjlbidibdaaGreatDoor
