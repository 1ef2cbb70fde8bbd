/-
  Texts of a proof, merged (Wm3, HanL, PieT, PieU, PieS, TraA, PieN, PieO, RkQ, OrK, OrP, PieV, PieY, Sch, HanP, Wm2). Conditions: in each statement.
-/
import Derived.Test.YtnjkoebfgcbbdaaGreatDoorKLn
set_option linter.unusedSimpArgs false
set_option linter.unusedVariables false
set_option linter.unusedSectionVars false
set_option maxRecDepth 100000
set_option maxHeartbeats 8000000
abbrev cD:=@List.mem_flatMap
abbrev er:=@Array.size_setIfInBounds
abbrev eJ:=@List.nodup_append
abbrev eW:=@Array.getElem?_setIfInBounds_ne
abbrev fY:=@Classical.byContradiction
abbrev gn:=@List.Pairwise.imp_of_mem
abbrev gp:=@List.countP_cons
abbrev gA:=@List.length_pos_of_mem
namespace Go.Am
variable {P:Program} {G:List Nat}
theorem jD {ι:BH} {m:Mem} {w:World} {sT xT e:TypeId} {xd:TypeDesc} {i:TypeInfo} {len n c g:Nat} {vs l:List Value} {x s' x':Value} (ty:TypeId) (hs:Dv P G ι m w)
 (hv:Au ι m.gen (.slice (some ⟨c,0,none⟩) len g) s') (hxr:Au ι m.gen x x') (hg:m.get c=.cells vs e g false) (hvl:vs.length=len*i.size)
 (hu:P.underlying sT=some (.slice e)) (hx:P.underlying xT=some xd) (hd:∀ k,xd≠.int k) (hi:P.info? e=some i) (hz:Ej i=true) (hsize:0<i.size) (hn:0<n) (hroom:(len+n)*(i.bytes+1)≤room)
 (hxn:lenOf x=some n) (hl:BX m i.size n x=some l) (hcell:l.all BI=true) :
 ∃ v' w',(Builtin.append_ #[sT,xT] ty #[s',x']).run P w=.ok v' w' ∧
  (Post P G ι m w (.slice (some ⟨c,0,none⟩) (len+n) g) (m.put c (.cells (vs++l) e g false)) v' w'∨Post P G ι m w (AQ m e (vs++l) (len+n)).1 (AQ m e (vs++l) (len+n)).2 v' w'):=by
 obtain ⟨z,hz1,hz2⟩:=Py hz;obtain ⟨l',hr,hrel⟩:=EC hs hxr hl;have hlen:l.length=n*i.size:=EW hl;have hap:∀ k,(Builtin.firstCells i.size n x').run P { w with drawn:=k }=.ok l'.toArray { w with drawn:=k }:=fun k=>JD k hr
 have a0e:(Builtin.firstCells i.size n x').run P w=.ok l'.toArray w:=hap w.drawn;have hlen':l'.length=n*i.size:=by rw [← hrel.1];omega
 cases hv with
 |sl _ _ _ _ a' sCap hsr =>
  rw [MK (x:=x') (n:=n) (i:=i) ty rfl rfl rfl rfl hu hx hd hi (fun w=>LY hxr hxn w)];obtain ⟨ib,hb,_,q3,hcur⟩:=hsr;obtain ⟨q1,q2,q4⟩:=hcur (Mem.GH hg).symm;obtain ⟨cs,fr,e0,hrow,hlim,Tv,hcr,hfr0⟩:=H6 hs hb hg;obtain ⟨he0,oK⟩:=hfr0 rfl;subst he0;have hesz':ib.xC=i.size:=by rw [Tv,Ep hi]
  by_cases hfit:len+n≤sCap
  ·obtain ⟨q5,q6⟩:a'.off=0+ib.sh∧a'.off+sCap*ib.xC≤ib.lim:=by
    omega
   have ha':a'=⟨ib.blk,ib.sh,none⟩:=by
    obtain ⟨x1,y1,z1⟩:=a';grind
   have hmul:(len+n)*i.size≤sCap*i.size:=bv _ hfit;rw [cN] at hmul;rw [hesz',hlim] at q6;obtain ⟨w',cs',hrun,r1,r2,r3,r4,r5,r6,r7,r8⟩:=Gy (P:=P) ib.blk e0 fr (ib.sh+len*i.size) l' 0 w cs hrow (hrel.S9 hcell) (by omega) oK;obtain ⟨ι',hext,Dl,hb'⟩:=IJ (x:=.cells (vs++l) e0 g false) (ib':=ib) (w':=w') (obj:=.cells cs' e0 fr) hs hb (Mem.OI hg) rfl
    ⟨by rw [Mem.GH hg];exact ab _,fun _=>rfl⟩ (.inl rfl) r1 (fun c _ hne=>r4 c hne) (by omega) r6 r7 r8
    (fun ι' g' hle'=>by
     refine ⟨fun _=>rfl,by omega,Tv,fun k hk=>?_,fun _ j hj=>oK j (by omega)⟩;rw [aw] at hk;rw [r3,getD_eq];by_cases hk1:k<len*i.size
     ·rw [if_neg (by omega),cf (by omega)]
      obtain ⟨v',h1,h2⟩:=hcr k (by omega);exact ⟨v',h1,by rw [← getD_eq];exact h2.mono hle'⟩
     ·rw [if_pos (by omega),bp (by omega)]
      have e2:ib.sh+k-(ib.sh+len*i.size+0)=k-len*i.size:=by omega
      rw [e2,hvl];have hlt:k-len*i.size<l.length:=by omega
      obtain ⟨v',h1,h2⟩:=hrel.get (ai hlt);refine ⟨v',h1,?_⟩;rw [ai hlt];exact h2.mono hle')
   refine ⟨.slice (some a') (len+n) sCap,w',?_,.inl ⟨ι',hext,Dl,?_⟩⟩
   ·simp only [DC,hfit,if_true,Sem.run_bind,a0e,Result.andThen_ok,ha',addr_add,hrun,Sem.run_pure]
   ·exact .sl _ _ _ _ _ _ ⟨ib,hb',by simp [Mem.gen,Mem.get_put,IC.gen],hfit,fun _=>⟨q1,q2,.inr ⟨q5,by rw [hesz',hlim];exact q6⟩⟩⟩
  ·have hsc:BX m i.size len (.slice (some ⟨c,0,none⟩) len g)=some vs:=by
    simp only [BX,Nat.le_refl,if_true,Mem.Ef,hg,OZ,Option.getD_some,List.drop_zero,takeN,← hvl,List.take_length]
   have O5:Au ι m.gen (.slice (some ⟨c,0,none⟩) len g) (.slice (some a') len sCap):=.sl _ _ _ _ _ _ ⟨ib,hb,by rw [Mem.GH hg];exact ab _,q3,fun _=>⟨q1,q2,q4⟩⟩;obtain ⟨old',ho,hor⟩:=EC hs O5 hsc;obtain ⟨cap,hcap,hrun⟩:=JE (old:=old') (new:=l') (z:=z) (x:=x') (zeros:=false) hi hz1 hfit hroom (fun k=>JD k ho) hap;have ho1:old'.length=len*i.size:=by rw [← hor.1];exact hvl
   refine ⟨_,_,hrun,.inr ?_⟩;refine Jd (w':={ w with heap:=w.heap.push (.cells (old'.toArray++l'.toArray++Builtin.zeroCells z.cells (cap-(len+n))) e0 (0,0)),drawn:=w.drawn+1 })
    (e:=e0) (l:=vs++l) (n:=len+n) (cap:=cap) hs rfl rfl rfl rfl (fun j hj=>SB (old:=old') (rest:=(Builtin.zeroCells z.cells (cap-(len+n))).toList) (hor.append hrel) j hj) hcap (.inr ?_)
   rw [Ep hi];have h1:(Builtin.zeroCells z.cells (cap-(len+n))).size=(cap-(len+n))*i.size:=by rw [Lm,hz2]
   simp only [Array.size_append,List.size_toArray,h1,ho1,hlen'];rw [← cN,← cN];exact Nat.le_of_eq (by congr 1;omega)
theorem dK {ι:BH} {m:Mem} {w:World} {t:TypeId} {a a':Addr} {vs:List Value} {e:TypeId} {g:Nat} {inf:TypeInfo} {x:Value} (hs:Dv P G ι m w) (ha:OY ι m.gen a a') (hg:m.get a.block=.cells vs e g false) (hag:OZ a=g)
 (hx:vs[a.off]?=some x) (hp:plainCell x=true) (hc:x.cells=#[x]) (hcell:BI x=true) (hi:P.info? t=some inf) (h1:inf.size=1) :
 ∃ w',(storeVar t a' x).run P w=.ok () w'∧w'.heap=w.heap∧w'.tape=w.tape∧w'.os=w.os∧w'.output=w.output:=by
 obtain ⟨ib,hb,_,ha'⟩:=ha;have hcur:=ha' (by rw [hag,Mem.GH hg]);obtain ⟨cs,fr,e',hrow,hlim,Tv,hrel,hfr0⟩:=H6 hs hb hg;obtain ⟨rfl,oK⟩:=hfr0 rfl;have hlt:a.off<vs.length:=(bu.1 hx).1;obtain ⟨v',h2,h3⟩:=hrel a.off hlt;have hv:vs.getD a.off undef=x:=by grind
 rw [hv] at h3;have e1:v'=x:=h3.DK hp;subst e1;obtain ⟨w',cs',hrun,r1,r2,r3,r4,r5,r6,r7,r8⟩:=Gy (P:=P) ib.blk e' fr (a.off+ib.sh) [v'] 0 w cs hrow (fun v hv=>by
  have:v=v':=by grind
  subst this;assumption) (by grind) oK
 refine ⟨w',?_,?_,r6,r7,r8⟩
 ·rw [hcur]
  simp only [storeVar,Sem.run_bind,run_sizeOf' hi,Result.andThen_ok,hc,List.size_toArray,List.length_singleton,h1,ne_eq,not_true_eq_false,if_false];omega
 ·have ec:cs'=cs:=by
   refine Array.ext_getElem? fun j=>?_
   grind
  refine Array.ext_getElem? fun c=>?_
  grind
theorem Dv.heap {ι:BH} {m:Mem} {w w':World} (hs:Dv P G ι m w) (h:w'.heap=w.heap):Dv P G ι m w' :=
 ⟨fun b ib hb=>by rw [h];exact hs.dom b ib hb,fun b ib hb=>by rw [h];exact hs.blk b ib hb,hs.inj,hs.glob⟩
theorem Ext.b6q (ι:BH) (m:Mem) {w w':World} (h:w'.heap=w.heap) (h1:w'.tape=w.tape) (h2:w'.os=w.os) (h3:w'.output=w.output):Ext ι m w ι m w' :=
 ⟨ab _,ab _,fun _ _ _=>rfl,fun _ _ _=>rfl,fun _ _=>rfl,Le.refl _ _,fun _ ib h=>.inl ⟨ib,h,rfl⟩,fun _ ib h=>.inl ⟨ib,h⟩,by grind,fun _ _ _=>by rw [h],h1,h2,h3⟩
end Go.Am
namespace Go.Vm
open Go.Am
theorem Ctx.b7l {Γ:Nat→Option (List Value×TypeId)} {m:Mem} {F:Nat→Prop} {σ:Nat→Value} {H:Heap} {nx c:Nat} (h:Ctx Γ m F σ H nx) (hc:c<m.size) (ho:¬ own H σ c):Ctx Γ m (fun d=>F d∨d=c) σ H nx where
 fr d hd:=hd.elim (h.fr d) fun e=>by omega
 hp d x hd:=⟨(h.hp d x hd).1,(h.hp d x hd).2.mono (fun d hd=>⟨.inl hd,rfl⟩) (Names.refl _ _ _) (ab _) (ab _) fun c' hc'=>⟨rfl,by
  rintro (hf|rfl)
  ·exact (h.LD ⟨d,x,hd,hc'⟩).1 hf
  ·exact ho ⟨d,x,hd,hc'⟩⟩⟩
 sep:=h.sep
 gl g cs e hg:=⟨.inl (h.gl g cs e hg).1,(h.gl g cs e hg).2⟩
theorem Step.b7l {m m':Mem} {F F1:Nat→Prop} {σ σ':Nat→Value} {H H':Heap} {nx nx' c:Nat} (s:Step m F σ H nx m' F1 σ' H' nx') (ho:own H σ c):Step m F σ H nx m' (fun d=>F1 d∨d=c) σ' H' nx' :=
 { s with
  J6:=fun d hd=>.inl (s.J6 d hd)
  J8:=fun d hd hf=>by
   rcases hf with hf|rfl
   ·exact s.J8 d hd hf
   grind }
variable {E:Env} {n bn:Nat} {L:Frame} {H:Heap} {nx:Nat}
theorem BD.b3p {ops:Array Oper} {l:List Oper} {R:Frame→Heap→Nat→Prop} {op:Op} {dst:Option Tmp} {ty:TypeId} {pos:String} {af:Array Edge} {r:PV} {L1:Frame} {H':Heap} {nx':Nat} (hs:Snd E) (hok:∀ o∈(⟨dst,op,ty,pos,af,none⟩::l:List Oper),Ig E.G n o=true)
 {B:Base} (hB:B.nx=bn) {m m':Mem} {F F':Nat→Prop} {σ σ':Nat→Value} {t:Tr Value} (h2:RL m' F' (htag H') σ' nx' L1 t) (h3:B.to m F σ H nx) {ι ι':BH} {ac:Act} {w w':World} (hst:DR E.P E.G [] n ⟨t,m⟩ ι ac w)
 {R':Exit→Act→World→Prop} (hR:∀ L' H' nx' a' w',R L' H' nx'→WAt E n B ι m w t (fun d=>UO d (⟨dst,op,ty,pos,af,none⟩::l)) L' H' nx' a' w'→R' .normal a' w') {v v':Value}
 (q:BD E n bn ops l (Hu L1 dst r) H' nx' R) (c1:Ctx E.Γ m' F' σ' H' nx') (c2:RP m' F' (htag H') σ' nx' r v) (c3:Step m F σ H nx m' F' σ' H' nx') (he:Ext ι m w ι' m' w') (Dl:Dv E.P E.G ι' m' w') (hv:Au ι' m'.gen v v') :
 wpListIn Fence.wide 0 E.P ops R' l (ac.put dst v') w':=by
 have hdst:=(Dx (hok _ (bE ..))).2;refine q hs (fun o ho=>hok o (ao _ ho)) B hB m' F' σ' (Hl t dst v) c1 (h2.put c2) (h3.trans c3) ι' _ w' ⟨Dl,(hst.2.mono he.le).put hdst hv⟩ R' fun L2 H2 nx2 a2 w2 q2 hw2=>hR L2 H2 nx2 a2 w2 q2 ?_
 obtain ⟨m2,F2,σ2,t2,ι2,d1,d2,d3,he2,hst2,b2g⟩:=hw2.ex;refine ⟨m2,F2,σ2,t2,ι2,d1,d2,d3,Ext.trans hst.1 he he2,hst2,fun d hd=>?_⟩;simp only [UO,List.all_cons,Bool.and_eq_true] at hd;exact (b2g d hd.2).trans (Np hd.1)
theorem RL.cons {m:Mem} {F:Nat→Prop} {T:Nat→Option Tg} {σ:Nat→Value} {L:Frame} {t:Tr Value} (h:RL m F T σ nx L t) {r:Nat} {x:PV} (hx:RP m F T σ nx x (BZ t r)):RL m F T σ nx ((r,x)::L) t:=fun i y hi=>by
 rw [DU] at hi;by_cases e:r=i
 ·grind
 ·rw [if_neg e] at hi;exact h i y hi
theorem BD.b2v {ops:Array Oper} {l:List Oper} {R:Frame→Heap→Nat→Prop} {dst:Option Tmp} {ty:TypeId} {pos:String} {af:Array Edge} {s x:Operand} {sT xT e:TypeId} {xd:TypeDesc} {i:TypeInfo} {b k j r N:Nat} {cs xs:List FV} {z:Bool}
 (hs:AU E.Γ L s=some (.vec b N 0 N)) (hb:hget H b=some (.vec e cs N z)) (hx:pW E.Γ L H nx x i.size xs k) (hr:EY L r=some (.vec b N 0 j)) (hj:j≤N) (hN:0<N)
 (uO:E.P.underlying sT=some (.slice e)) (hxT:E.P.underlying xT=some xd) (hd:∀ k,xd≠.int k) (hi:E.P.info? e=some i) (hzs:Ej i=true) (h0:0<k) (hroom:(N+k)*(i.bytes+1)≤room) (hl:cs.length=N*i.size) (hsz:0<i.size)
 (q1:BD E n bn ops l (Hu ((r,.vec b (N+k) 0 j)::L) dst (.vec b (N+k) 0 (N+k))) (hput H b (.vec e (cs++xs) (N+k) z)) nx R)
 (q2:BD E n bn ops l (Hu ((r,.p (.lst e (cs.take (j*i.size)) j))::L) dst (.vec b (N+k) 0 (N+k))) (hput H b (.vec e (cs++xs) (N+k) z)) nx R) :
 BD E n bn ops (⟨dst,.call { callee:=.builtin .append,args:=#[s,x],argTypes:=#[sT,xT] },ty,pos,af,none⟩::l) L H nx R:=by
 intro hsn hok B hB m F σ t h1 h2 h3 ι ac w hst R' hR;have hsub:=JG h1 h2 hs hb;obtain ⟨hx1,lv,hx2,hx3,hx4⟩:=hx m F σ t h1 h2;obtain ⟨hlt,hrb⟩:=h1.hp b _ hb;rcases hrb with ⟨_,r2,_⟩|⟨c,g,vs,r1,r2,r3,r4,r5,r6,r7⟩
 ·omega
 rw [r1] at hsub;simp only [FY] at hsub;have hlen:=r5.length;have hop:=(Dx (hok _ (bE ..))).1;have hvs:Au ι m.gen (ev t s) (ac.eval s):=Jt hst.1 hst.2 (hop s (by simp [Op.operands,Call.operands]));have hvx:Au ι m.gen (ev t x) (ac.eval x):=Jt hst.1 hst.2 (hop x (by simp [Op.operands,Call.operands]));rw [hsub] at hvs;have hown:own H σ c:=⟨b,_,hb,by rw [r1];rfl⟩
 have a6n:V5 (some (HB.vec e cs N z).tag) (some (HB.vec e (cs++xs) (N+k) z).tag):=eT _ _;have hne:(HB.vec e cs N z).tag=(HB.vec e (cs++xs) (N+k) z).tag→False:=by simp only [HB.tag,Tg.vec.injEq];omega
 have hrv:BZ t r=.slice (some ⟨c,0,none⟩) j g:=by
  have:=h2 r _ hr;generalize BZ t r=u at this;cases this with
  |vec hb' hc h =>
   have:=(h N (by simp [htag,hb,HB.tag])).2 rfl;rw [r1] at this;exact this
 unfold wpListIn;rw [LU rfl,if_pos rfl];obtain ⟨v',w',hrun,hp⟩:=jD ty hst.1 hvs hvx r4 (by omega) uO hxT hd hi hzs hsz h0 hroom hx1 hx2 hx4;have hrun2:(execOp ac.eval ⟨dst,.call { callee:=.builtin .append,args:=#[s,x],argTypes:=#[sT,xT] },ty,pos,af,none⟩).run E.P w=.ok (.value v') w':=by
  rw [DL];exact Gw (by grind)
 have hres:∀ {m2:Mem} {F2:Nat→Prop} {σ2:Nat→Value} {g2 c2:Nat},σ2 b=.slice (some ⟨c2,0,none⟩) (N+k) g2→RP m2 F2 (htag (hput H b (.vec e (cs++xs) (N+k) z))) σ2 nx (.vec b (N+k) 0 (N+k)) (.slice (some ⟨c2,0,none⟩) (N+k) g2):=fun {m2 F2 σ2 g2 c2} e2=>by
  refine .vec hlt rfl fun j' hj'=>?_
  rw [QY,if_pos rfl,htag,hb] at hj';simp only [Option.map_some,HB.tag,Option.some.injEq,Tg.vec.injEq] at hj';refine ⟨by omega,fun _=>?_⟩;rw [e2];rfl
 unfold Oper.wpIn;rw [Oper.semAt_eq _ _ _ (fun c hc=>by grind),hrun2];refine ⟨fun _ _=>trivial,?_⟩;rcases hp with ⟨ι',he,Dl,hv⟩|⟨ι',he,Dl,hv⟩
 ·have hput':∀ d,c≠d→(m.put c (.cells (vs++lv) e g false)).get d=m.get d:=fun d hd=>by rw [Mem.get_put,if_neg hd]
  obtain ⟨c1,c3⟩:=h1.change (s':=.slice (some ⟨c,0,none⟩) (N+k) g) (m':=m.put c (.cells (vs++lv) e g false)) (x':=.vec e (cs++xs) (N+k) z) hb a6n (fun e=>(hne e).elim) (ab _) (fun d _ hd=>hput' d fun e=>hd (by rw [r1,e];rfl)) (fun k' k1 k2 k3=>by
   have:=k3 c (by rw [r1];rfl);simp only [Mem.put];omega) (fun d hd=>.inl (by rw [r1];exact hd))
   (.inr ⟨c,g,vs++lv,rfl,r2,r3,by rw [Mem.get_put,if_pos rfl],(r5.append hx3).mono (fun d hd=>⟨hd,hput' d fun e=>r3 (e▸hd)⟩),by rw [dy,r6,hx4];rfl,fun h=>by omega⟩)
  refine BD.b3p hsn hok hB (RL.cons (h2.step c3 h1) ?_) h3 hst hR q1 c1 (hres (upd_same _ _ _)) c3 he Dl hv;rw [hrv];refine .vec hlt rfl fun j' hj'=>?_
  rw [QY,if_pos rfl,htag,hb] at hj';simp only [Option.map_some,HB.tag,Option.some.injEq,Tg.vec.injEq] at hj';refine ⟨by omega,fun _=>?_⟩;rw [upd_same];rfl
 ·obtain ⟨c1,c3⟩:=h1.change (m':=(AQ m e (vs++lv) (N+k)).2) (s':=(AQ m e (vs++lv) (N+k)).1) (x':=.vec e (cs++xs) (N+k) z) hb a6n (fun e=>(hne e).elim) (by simp [AQ,Mem.alloc]) (fun c hc _=>by (try simp only [AQ]);rw [Mem.Bc,if_neg (by omega)])
   (fun k' k1 k2 _=>by simp only [AQ,Mem.alloc];omega) (fun c hc=>by simp only [AQ,Df,Option.some.injEq] at hc;right;omega)
   (.inr ⟨m.size,0,vs++lv,by simp [AQ],by simp [AQ,Mem.alloc],fun hf=>cr _ (h1.fr _ hf),by (try simp only [AQ]);rw [Mem.Bc,if_pos rfl],
    (r5.append hx3).mono (fun c hf=>⟨hf,by (try simp only [AQ]);rw [Mem.Bc,if_neg (by have:=h1.fr c hf;omega)]⟩),by rw [dy,r6,hx4];rfl,fun h=>by omega⟩)
  have hno:¬ own (hput H b (.vec e (cs++xs) (N+k) z)) (upd σ b (AQ m e (vs++lv) (N+k)).1) c:=by
   rintro ⟨b',x',hb',hc'⟩;by_cases eb:b'=b
   ·subst eb
    rw [upd_same] at hc';simp only [AQ,Df,Option.some.injEq] at hc';omega
   ·rw [CQ _ _ eb] at hc'
    rw [ML,if_neg (Ne.symm eb)] at hb';exact eb (h1.sep b' b _ _ c hb' hb hc' (by rw [r1];rfl))
  have hcs:c<(AQ m e (vs++lv) (N+k)).2.size:=ag r2 (by simp [AQ,Mem.alloc]);have c1':=c1.b7l hcs hno;have c3':=c3.b7l hown;refine BD.b3p hsn hok hB (RL.cons (h2.step c3' h1) ?_) h3 hst hR q2 c1' (hres (upd_same _ _ _)) c3' he Dl hv;rw [hrv];refine .p (.lst (.inr rfl) (vs:=vs) (e:=e) (ws:=vs.take (j*i.size)) (ro:=false) ?_ ?_ ((Dh.take (j*i.size) r5).mono (fun d hd=>⟨.inl hd,?_⟩)) (U6 r6 _))
  ·simp only [AQ];rw [Mem.Bc,if_neg (by omega)];exact r4
  ·have:j*i.size≤N*i.size:=bv _ hj
   rw [cw,ax,cI (by omega)];unfold takeN;rw [if_pos (by omega)]
  ·simp only [AQ];rw [Mem.Bc,if_neg (by have:=h1.fr d hd;omega)]
theorem Dh.nth {m:Mem} {F:Nat→Prop}:∀ {cs:List FV} {vs:List Value},Dh m F cs vs→∀ {i:Nat} {x:FV},cs[i]?=some x→∃ u,vs[i]?=some u∧RF m F x u
 |_,_,.nil,i,x,h=>by grind
 |_,_,.cons h _,0,x,e=>by
  grind
 |_,_,.cons _ t,i+1,x,e=>by
  exact Dh.nth t e
theorem BD.sJ {ops:Array Oper} {l:List Oper} {R:Frame→Heap→Nat→Prop} {d:Tmp} {ty1 ty2:TypeId} {pos1 pos2:String} {af1 af2:Array Edge} {tA tS:TypeId} {x ix y:Operand} {e:TypeId} {cs:List FV} {N:Nat} {k kd:IntKind} {i:Nat} {v:Int} {inf:TypeInfo}
 (hx:AU E.Γ L x=some (.p (.own e cs N))) (hi:AU E.Γ L ix=some (.p (.int k (i:Int)))) (hs:elemSize E.P tA=some 1) (h1:i<N) (hv:cs[i]?=some (.int kd v))
 (hy:AU E.Γ (Hu L (some d) (.p (.EP (cs.drop i)))) y=some (.p (.int kd v))) (b6i:E.P.info? tS=some inf) (hsz:inf.size=1)
 (q:BD E n bn ops l (Hu L (some d) (.p (.EP (cs.drop i)))) H nx R) :
 BD E n bn ops (⟨some d,.indexAddr tA x ix,ty1,pos1,af1,none⟩::⟨none,.store tS (.tmp d) y,ty2,pos2,af2,none⟩::l) L H nx R:=by
 intro hsn hok B hB m F σ t c1 c2 h3 ι ac w hst R' hR;obtain ⟨e',inf',g3,g4,g5⟩:=MH hs;have hix:=CO c1 c2 hi;have hrx:=BF c1 c2 hx;generalize hvx:ev t x=vx at hrx;cases hrx with
 |p hr =>
 cases hr with
 |Sz=>omega
 |QO=>omega
 |own hF hm hw hr hc =>
 rename_i b o g vs ws;have hws:=EZ hw;have hwi:ws[i]?=some (.int kd v):=by
  obtain ⟨u,hu,hru⟩:=hr.nth hv;cases hru;omega
 have hvi:vs[o+i]?=some (.int kd v):=by
  grind
 have hval:∀ call,BU E.P call (ev t) ⟨some d,.indexAddr tA x ix,ty1,pos1,af1,none⟩ m=some (.pointer (some ⟨b,o+i,some g⟩),m):=fun call=>by
  have h0:(0:Int)≤(i:Int)∧(i:Int)<(N:Int):=⟨by omega,by omega⟩
  simp only [BU,Fe,g3,hvx,hix,g4,h0,and_self,if_true,g5,Int.toNat_natCast,Nat.mul_one]
 have hcall:=Iq (N:=0) hsn.o hsn.mix 0;unfold wpListIn;rw [LU rfl,if_pos rfl];have hop:=(Dx (hok _ (bE ..))).1;have hop2:=Dx (hok ⟨none,.store tS (.tmp d) y,ty2,pos2,af2,none⟩ (by simp));have hdst:=(Dx (hok _ (bE ..))).2;have:=Om (rf:=none) (nn:=0) (a:=ac) (K:=wpListIn Fence.wide 0 E.P ops R' (⟨none,.store tS (.tmp d) y,ty2,pos2,af2,none⟩::l)) (Q:=R') hcall hst.1 (fun x hx=>Jt hst.1 hst.2 (hop x hx)) (hval _) fun v' w' hp=>by
  obtain ⟨ι',he,Dl,O5⟩:=hp;have hst1:DR E.P E.G [] n ⟨Hl t (some d) (.pointer (some ⟨b,o+i,some g⟩)),m⟩ ι' (ac.put (some d) v') w':=⟨Dl,(hst.2.mono he.le).put hdst O5⟩
  have hcp:RP m F (htag H) σ nx (.p (.EP (cs.drop i))) (.pointer (some ⟨b,o+i,some g⟩)):=by
   refine .p (.EP hF hm rfl ?_ (Dh.drop i hr) (KU hc _));have:=Oj (k:=i) hw;simp_all
  have hL1:RL m F (htag H) σ nx (Hu L (some d) (.p (.EP (cs.drop i)))) (Hl t (some d) (.pointer (some ⟨b,o+i,some g⟩))):=c2.put hcp;have hey:Au ι' m.gen (ev (Hl t (some d) (.pointer (some ⟨b,o+i,some g⟩))) y) ((ac.put (some d) v').eval y):=Jt hst1.1 hst1.2 (hop2.1 y (by simp [Op.operands]));rw [CO c1 hL1 hy] at hey;have ey:(ac.put (some d) v').eval y=.int kd v:=by generalize (ac.put (some d) v').eval y=u at hey;cases hey;rfl
  have hed:Au ι' m.gen (ev (Hl t (some d) (.pointer (some ⟨b,o+i,some g⟩))) (.tmp d)) ((ac.put (some d) v').eval (.tmp d)):=Jt hst1.1 hst1.2 (hop2.1 (.tmp d) (by simp [Op.operands]));have et:ev (Hl t (some d) (.pointer (some ⟨b,o+i,some g⟩))) (.tmp d)=.pointer (some ⟨b,o+i,some g⟩):=by
   show BZ (Qr t d _) d=_;rw [CY,if_pos rfl]
  rw [et] at hed;obtain ⟨a',ea,har⟩:∃ a',(ac.put (some d) v').eval (.tmp d)=.pointer (some a')∧OY ι' m.gen ⟨b,o+i,some g⟩ a':=by
   generalize (ac.put (some d) v').eval (.tmp d)=u at hed;cases hed;exact ⟨_,rfl,by assumption⟩
  obtain ⟨w2,hrun,k1,k2,k3,k4⟩:=dK (t:=tS) (x:=.int kd v) hst1.1 har hm rfl hvi rfl rfl rfl b6i hsz;have hrun2:(execOp (ac.put (some d) v').eval ⟨none,.store tS (.tmp d) y,ty2,pos2,af2,none⟩).run E.P w'=.ok .skip w2:=by
   simp only [execOp,Instr.storeAt,ea,ey,Instr.sureAddr,Sem.run_bind,Sem.run_pure,Result.andThen_ok,hrun]
  unfold wpListIn;rw [LU rfl,if_pos rfl];unfold Oper.wpIn;rw [Oper.semAt_eq _ _ _ (fun c hc=>by cases hc),hrun2];refine ⟨fun _ _=>trivial,?_⟩;have he2:=Ext.b6q ι' m k1 k2 k3 k4;refine q hsn (fun o ho=>hok o (ao _ (ao _ ho))) B hB m F σ _ c1 hL1 h3 ι' _ w2 ⟨hst1.1.heap k1,hst1.2⟩ R' fun L2 H2 nx2 a2 w3 q2 hw2=>hR L2 H2 nx2 a2 w3 q2 ?_
  obtain ⟨m2,F2,σ2,t2,ι2,d1,d2,d3,he3,hst3,hkp3⟩:=hw2.ex;refine ⟨m2,F2,σ2,t2,ι2,d1,d2,d3,Ext.trans hst.1 (Ext.trans hst.1 he he2) he3,hst3,fun z hz=>?_⟩;simp only [UO,List.all_cons,Bool.and_eq_true] at hz;exact (hkp3 z hz.2.2).trans (Np hz.1)
 exact this
theorem Aw.QZ (d:Nat) {b N:Nat} {e:TypeId} {cs:List FV} {z:Bool} (hd:EY L d=some (.vec b N 0 N)) (hb:hget H b=some (.vec e cs N z)):Aw E L H nx ((d,.p (.own e cs N))::L) (hdel H b) nx:=fun B m F σ t h1 h2 h3=>by
 obtain ⟨c1,c2,c3⟩:=Ws h1 hb;refine ⟨_,σ,c1,fun i v hi=>?_,h3.trans c2⟩;rw [DU] at hi;by_cases ei:d=i
 ·rw [if_pos ei] at hi;cases hi
  have:=h2 d _ hd;subst ei;generalize BZ t d=u at this;cases this with
  |vec hb' hc h =>
   have hv:=(h N (by simp [htag,hb,HB.tag])).2 rfl;obtain ⟨_,hr⟩:=h1.hp b _ hb;rcases hr with ⟨r1,r2,r3⟩|⟨c,g,vs,r1,r2,r3,r4,r5,r6,r7⟩
   ·subst r1;subst r2
    rcases r3 with ⟨r3,_⟩|⟨b',o',g',r3,_⟩
    ·rw [r3] at hv;obtain ⟨rfl,_,_⟩:=hv;exact .p (.Sz _)
    ·rw [r3] at hv;simp only [FY] at hv;rw [hv.1];exact .p (.QO _ _ _ _)
   ·rw [r1] at hv
    subst hv;refine .p (.own (.inr (by rw [r1];rfl)) r4 ?_ (r5.mono fun c hc=>⟨.inl hc,rfl⟩) r6);rw [cw,r5.length];simp [takeN]
 ·rw [if_neg ei] at hi
  exact (h2 i v hi).step c2 h1
theorem Aw.toOwn (d:Nat) (e:TypeId) (hd:EY L d=some (.p (.val (.slice none 0 0)))):Aw E L H nx ((d,.p (.own e [] 0))::L) H nx:=fun B m F σ t h1 h2 h3=>by
 refine ⟨F,σ,h1,fun i v hi=>?_,h3⟩;rw [DU] at hi;by_cases ei:d=i
 ·rw [if_pos ei] at hi;cases hi
  have:=h2 d _ hd;subst ei;generalize BZ t d=u at this;cases this with
  |p hr=>cases hr;exact .p (.Sz _)
 ·rw [if_neg ei] at hi
  exact h2 i v hi
end Go.Vm
namespace Go.Proofs.YtnjkoebfgcbbdaaGreatDoor
open Go Go.Am Go.Vm Go.Pie
attribute [local irreducible] Aa Aj Ah Ad AP Ap Bd BL Bf Ag Vm.Done BA AB OT
attribute [local irreducible] Ce Ba DV DN En AZ CB
structure OwL where
 l:List Int
instance:Enc OwL:={ default:=⟨[]⟩,enc:=fun x=>[.own 3 (cells x.l) x.l.length],size:=1,len:=fun _=>rfl }
instance:Enc (List Int):={ default:=[],enc:=fun x=>[.lst 3 (cells x) x.length],size:=1,len:=fun _=>rfl }
theorem pR (l:List Int) (h1:l.length<1000000):Ap env 75 [.lst 3 (cells l) l.length] (.p (.own 3 (cells l) l.length)):=by
 rcases bm l.length with h0|h0
 ·obtain rfl:l=[]:=ar.1 h0
  refine Ap.enter (Ae (by decide)) Tryz.func75 rfl (by kernel_rfl) (by simp [Tryz.ntmps75]) ?_
  repeat' (first|(refine Aj.HY 2 ?_;refine Aj.ghost (Aw.QZ 7 rfl rfl) ?_)|(refine Ad.ghost (Aw.toOwn 2 3 rfl) ?_;apply Ad.Qo)|apply Ad.assoc|apply Ad.Bz|apply Ad.Gg|apply Ad.ret|apply Aj.nil|apply Aj.one|(apply Aa.eqNil;rfl;rfl;rfl)|(apply Aa.assign;rfl)|(apply Aa.move;rfl)|(apply Aa.buildSlice;rfl;rfl;rfl;decide;rfl;rfl;rfl)|(apply Aa.UM;rfl;rfl;rfl;(first|rfl|omega|(simp only [List.length_take,List.length_drop,List.length_append,List.length_singleton,List.length_cons,List.length_nil]<;>omega));rfl;rfl;(intro _ h;cases h);rfl;rfl;rfl;decide;decide;(first|omega|(simp only [List.length_take,List.length_drop,List.length_append,List.length_singleton,List.length_cons,List.length_nil]<;>omega)))|(apply Ad.QS;rfl)|(intro _;try (exfalso;omega)))
  all_goals first|(exfalso;omega)|(refine Done.rt rfl rfl ⟨?_,rfl,rfl⟩;try rfl)
 ·refine Ap.enter (Ae (by decide)) Tryz.func75 rfl (by kernel_rfl) (by simp [Tryz.ntmps75]) ?_
  repeat' (first|(refine Aj.HY 2 ?_;refine Aj.ghost (Aw.QZ 7 rfl rfl) ?_)|apply Ad.assoc|apply Ad.Bz|apply Ad.Gg|apply Ad.ret|apply Aj.nil|apply Aj.one|(apply Aa.a7m;rfl;rfl;rfl;exact h0)|(apply Aa.assign;rfl)|(apply Aa.move;rfl)|(apply Aa.buildSlice;rfl;rfl;rfl;decide;rfl;rfl;rfl)|(apply Aa.UM;rfl;rfl;rfl;(first|rfl|omega|(simp only [List.length_take,List.length_drop,List.length_append,List.length_singleton,List.length_cons,List.length_nil]<;>omega));rfl;rfl;(intro _ h;cases h);rfl;rfl;rfl;decide;decide;(first|omega|(simp only [List.length_take,List.length_drop,List.length_append,List.length_singleton,List.length_cons,List.length_nil]<;>omega)))|(apply Ad.Ai;rfl))
  all_goals first|(exfalso;omega)|(refine Done.rt rfl rfl ⟨?_,rfl,rfl⟩;try rfl)
end Go.Proofs.YtnjkoebfgcbbdaaGreatDoor
namespace Go.Proofs.YtnjkoebfgcbbdaaGreatDoor
open Go Go.Am Go.Vm Go.Pie
attribute [local irreducible] Aa Aj Ah Ad AP Ap Bd BL Bf Ag Vm.Done BA AB
attribute [local irreducible] Ce Ba DV DN En AZ CB
def lwR (r:Rgs) (p:F7) (t:Int):Nat→Rgs
 |0=>r
 |k+1=>if gi p.bars (gi p.sets k).bar.toNat≤t then (gi p.sets k).reg else lwR r p t k
def lkF (p:F7) (L:List Int) (k d:Nat):Jk:=SE (kdK p L d k) (kdK p L d k).length
noncomputable instance (a b:Rgs):Decidable (a=b):=Classical.propDecidable _
noncomputable instance (a b:vH):Decidable (a=b):=Classical.propDecidable _
noncomputable instance (a b:F7):Decidable (a=b):=Classical.propDecidable _
end Go.Proofs.YtnjkoebfgcbbdaaGreatDoor
namespace Go.Proofs.YtnjkoebfgcbbdaaGreatDoor
open Go Go.Am Go.Vm
instance c6j:Enc (List Int):={ default:=[],enc:=fun l=>[.lst 3 (cells l) l.length],size:=1,len:=fun _=>rfl }
attribute [local irreducible] Aa Aj Ah Ad AP Ap Bd BL Bf Ag Vm.Done BA AB
def c9q (n k:Nat) (v:Int):List Int:=List.replicate k v++List.replicate (n-k) 0
open Go.Pie
attribute [local irreducible] Ce Ba DV DN En AZ CB
def exR (c:UInt8):Hr:=⟨[c],[102,108,117,116,101],⟨8,1⟩,36,List.replicate 25 1⟩
def exS (n Eb sh:Int):Stp:=⟨[97],⟨Eb,1⟩,[⟨36,48,[⟨n,sh⟩]⟩]⟩
def c3u:mX:=⟨[111,110,101],false,36,48,[exS 0 8 0]⟩
def c5k:mX:=⟨[116,119,111],false,36,48,[exS 1 4 12]⟩
def exO:Ia:=⟨[101],[exR 114,exR 115],[c3u,c5k],[⟨[99],0,1,0,false⟩]⟩
def exG:Rgs:=⟨[1,0],0,0⟩
def exP:F7:=⟨[0,4,8],[⟨0,6,0,40⟩,⟨4,8,0,43⟩],[⟨1,exG⟩]⟩
instance (c:Nat):Decidable (rG c):=by unfold rG;infer_instance
theorem a3w (s:List UInt8) (h0:0<s.length) (h1:s.length≤32) (h:∀ i,i<s.length→rG (gi s i).toNat):DF s:=⟨h0,h1,h 0 h0,fun i _ hi=>.inl (h i hi)⟩
theorem lt2 {i:Nat} (h:i<2):i=0∨i=1 :=by omega
theorem pk1 (n:Int) (h:n=8∨n=4):Ri ⟨n,1⟩=0:=TQ.2 (by rcases h with rfl|rfl<;>decide +kernel)
end Go.Proofs.YtnjkoebfgcbbdaaGreatDoor
namespace Go.Proofs.YtnjkoebfgcbbdaaGreatDoor
open Go Go.Am Go.Vm
theorem NT {n:Int} (h:(Lit.int .u8 n).wf=true):∃ m:Nat,m<256∧n=m:=by
 simp [Lit.wf,IntKind.min,IntKind.max,IntKind.signed,IntKind.bits] at h;exact ⟨n.toNat,by omega,by omega⟩
theorem a5c {n:Int} (h:(Lit.int .i8 n).wf=true):-128≤n∧n≤127:=by
 simp [Lit.wf,IntKind.min,IntKind.max,IntKind.signed,IntKind.bits] at h;omega
theorem SL {α β:Type} {R:β→α→Prop}:∀ {l:List α},(∀ x∈l,∃ y,R y x)→∃ r:List β,GU R r l
 |[],_=>⟨[],.nil⟩
 |a::l,h=>by
  obtain ⟨y,hy⟩:=h a (by simp);obtain ⟨r,hr⟩:=SL (l:=l) (fun x hx=>h x (by grind));exact ⟨y::r,.cons hy hr⟩
theorem Tf {α:Type} [Enc α] {p:α→Prop}:∀ {r:List α} {L:List (List FV)},GU (fun a fs=>fs=Enc.enc a∧p a) r L→L.flatten=cells r∧L.length=r.length∧∀ i,i<r.length→p (gi r i)
 |_,_,.nil=>⟨rfl,rfl,fun i hi=>by grind⟩
 |a::r,fs::L,.cons ⟨h1,h2⟩ t=>by
  obtain ⟨e1,e2,e3⟩:=Tf t;refine ⟨by rw [List.flatten_cons,e1,h1];rfl,by grind,fun i hi=>?_⟩;cases i with
  |zero=>exact h2
  |succ i=>exact e3 i (by grind)
section
variable {α β:Type} {R:α→β→Prop} {a b c d e:α} {r:List β}
theorem a5n (h:GU R [a] r):∃ x,r=[x]∧R a x:=by
 cases h with|cons h1 t=>cases t;grind
theorem rF (h:GU R [a,b] r):∃ x y,r=[x,y]∧R a x∧R b y:=by
 cases h with|cons h1 t=>obtain ⟨x,rfl,h2⟩:=a5n t;grind
theorem NI (h:GU R [a,b,c] r):∃ x y z,r=[x,y,z]∧R a x∧R b y∧R c z:=by
 cases h with|cons h1 t=>obtain ⟨x,y,rfl,h2,h3⟩:=rF t;grind
theorem Jw (h:GU R [a,b,c,d] r):∃ x y z w,r=[x,y,z,w]∧R a x∧R b y∧R c z∧R d w:=by
 cases h with|cons h1 t=>obtain ⟨x,y,z,rfl,h2,h3,h4⟩:=NI t;grind
theorem a2g (h:GU R [a,b,c,d,e] r):∃ x y z w v,r=[x,y,z,w,v]∧R a x∧R b y∧R c z∧R d w∧R e v:=by
 cases h with|cons h1 t=>obtain ⟨x,y,z,w,rfl,h2,h3,h4,h5⟩:=Jw t;grind
end
theorem nU {j:Nat} {fs:List FV} (h:Fb Tryz.prog (j+1) 4 fs):∃ b:Bool,fs=[.bool b]:=by
 assumption
theorem a7e {j:Nat} {fs:List FV} (h:Fb Tryz.prog (j+2) 28 fs):∃ l:List Int,fs=[.lst 3 (cells l) l.length]∧l.length≤maxLen:=by
 obtain ⟨L,rfl,hl,hL⟩:=h;obtain ⟨r,hr⟩:=SL (R:=fun (a:Int) fs=>fs=Enc.enc a∧True) (l:=L) (fun x hx=>by
  obtain ⟨n,hn,_⟩:=hL x hx;exact ⟨n,hn,trivial⟩)
 obtain ⟨e1,e2,_⟩:=Tf hr;grind
theorem c4c {α:Type} {l:List α} (h:l.length=5):∃ a b c d e,l=[a,b,c,d,e]:=by
 match l,h with|[a,b,c,d,e],_=>simp
theorem a3o {j:Nat} {fs:List FV} (h:Fb Tryz.prog (j+3) 226 fs):∃ x:GK,fs=x.enc∧x.Ok:=by
 simp only [Fb,Tryz.underlying226,Tryz.underlying5,Tryz.underlying97,Tryz.underlying174] at h;obtain ⟨parts,rfl,hp⟩:=h;obtain ⟨a,b,c,d,e,rfl,⟨n1,rfl,h1⟩,⟨n2,rfl,h2⟩,⟨n3,rfl,h3⟩,⟨n4,rfl,h4⟩,L,rfl,hl,hL⟩:=a2g hp;obtain ⟨m1,q1,rfl⟩:=NT h1;obtain ⟨m2,q2,rfl⟩:=NT h2;obtain ⟨m4,q4,rfl⟩:=NT h4;obtain ⟨a,b,c,d,e,rfl⟩:=c4c hl;obtain ⟨w0,rfl,g0⟩:=hL a (by simp);obtain ⟨w1,rfl,g1⟩:=hL b (by simp);obtain ⟨w2,rfl,g2⟩:=hL c (by simp);obtain ⟨w3,rfl,g3⟩:=hL d (by simp);obtain ⟨w4,rfl,g4⟩:=hL e (by simp);obtain ⟨v0,k0,rfl⟩:=NT g0;obtain ⟨v1,k1,rfl⟩:=NT g1;obtain ⟨v2,k2,rfl⟩:=NT g2;obtain ⟨v3,k3,rfl⟩:=NT g3;obtain ⟨v4,k4,rfl⟩:=NT g4;refine ⟨⟨m1,m2,n3,m4,[v0,v1,v2,v3,v4]⟩,rfl,q1,q2,a5c h3,q4,fun i=>?_⟩
 match i with
 |0=>exact k0
 |1=>exact k1
 |2=>exact k2
 |3=>exact k3
 |4=>exact k4
 |n+5=>simp [gi]
theorem FD {P:Program} {n:Nat} {t:TypeId} {fs:List FV} {sf:Array Field} (h:Fb P (n+1) t fs) (hu:P.underlying t=some (.struct sf)):∃ parts:List (List FV),fs=parts.flatten∧GU (fun (fd:Field) x=>Fb P n fd.type x) sf.toList parts:=by
 unfold Fb at h;grind
theorem Ih {P:Program} {n:Nat} {t e:TypeId} {fs:List FV} {α:Type} [Enc α] {p:α→Prop} (h:Fb P (n+1) t fs) (hu:P.underlying t=some (.slice e)) (he:∀ x,Fb P n e x→∃ a:α,x=Enc.enc a∧p a):∃ l:List α,fs=[.lst e (cells l) l.length]∧l.length≤maxLen∧∀ i,i<l.length→p (gi l i):=by
 unfold Fb at h;rw [hu] at h;obtain ⟨L,rfl,hl,hL⟩:=h;obtain ⟨r,hr⟩:=SL (R:=fun (a:α) fs=>fs=Enc.enc a∧p a) (l:=L) (fun x hx=>he x (hL x hx));obtain ⟨e1,e2,e3⟩:=Tf hr;grind
theorem EK {j:Nat} {fs:List FV} (h:Fb Tryz.prog (j+1) 5 fs):∃ n:Nat,fs=[.int .u8 (n:Int)]∧n<256:=by
 obtain ⟨n,rfl,hn⟩:=h;obtain ⟨m,q,rfl⟩:=NT hn;grind
theorem b4u {j:Nat} {fs:List FV} (h:Fb Tryz.prog (j+1) 97 fs):∃ n:Int,fs=[.int .i8 n]∧-128≤n∧n≤127:=by
 obtain ⟨n,rfl,hn⟩:=h;exact ⟨n,rfl,a5c hn⟩
theorem a4o {j:Nat} {fs:List FV} (h:Fb Tryz.prog (j+2) 232 fs):∃ x:Pul,fs=Enc.enc x∧x.Ok:=by
 obtain ⟨parts,rfl,hp⟩:=FD h Tryz.underlying232;obtain ⟨a,b,c,d,rfl,h1,h2,h3,h4⟩:=Jw hp;obtain ⟨m1,rfl,q1⟩:=EK (j:=j) h1;obtain ⟨m2,rfl,q2⟩:=EK (j:=j) h2;obtain ⟨m3,rfl,q3⟩:=EK (j:=j) h3;obtain ⟨m4,rfl,q4⟩:=EK (j:=j) h4;exact ⟨⟨m1,m2,m3,m4⟩,rfl,q1,q2,q3,q4⟩
theorem a1h {j:Nat} {fs:List FV} (h:Fb Tryz.prog (j+4) 211 fs):∃ x:Brd,fs=Enc.enc x∧x.Ok:=by
 obtain ⟨parts,rfl,hp⟩:=FD h Tryz.underlying211;obtain ⟨a,b,c,d,rfl,h1,h2,h3,h4⟩:=Jw hp;obtain ⟨m1,rfl,q1⟩:=EK (j:=j+2) h1;obtain ⟨m2,rfl,q2⟩:=EK (j:=j+2) h2;obtain ⟨m3,rfl⟩:=nU (j:=j+2) h3;obtain ⟨l,rfl,hl,hL⟩:=Ih (n:=j+2) (p:=Pul.Ok) h4 Tryz.underlying209 (fun x hx=>a4o hx);exact ⟨⟨m1,m2,m3,l⟩,rfl,q1,q2,by simp only [maxLen] at hl;grind,hL⟩
theorem a7a {j:Nat} {fs:List FV} (h:Fb Tryz.prog (j+2) 234 fs):∃ x:Lnk,fs=Enc.enc x∧x.Ok:=by
 obtain ⟨parts,rfl,hp⟩:=FD h Tryz.underlying234;obtain ⟨a,b,c,d,rfl,h1,h2,h3,h4⟩:=Jw hp;obtain ⟨m1,rfl,q1⟩:=EK (j:=j) h1;obtain ⟨m2,rfl,q2⟩:=EK (j:=j) h2;obtain ⟨m3,rfl,q3⟩:=b4u (j:=j) h3;obtain ⟨m4,rfl⟩:=nU (j:=j) h4;exact ⟨⟨m1,m2,m3,m4⟩,rfl,q1,q2,q3⟩
theorem a2a {j:Nat} {fs:List FV} (h:Fb Tryz.prog (j+6) 54 fs):∃ x:OPl,fs=x.enc∧x.Ok:=by
 obtain ⟨parts,rfl,hp⟩:=FD h Tryz.underlying54;obtain ⟨a,b,c,rfl,h1,h2,h3⟩:=NI hp;obtain ⟨l1,rfl,n1,g1⟩:=Ih (n:=j+4) (p:=GK.Ok) h1 Tryz.underlying50 (fun x hx=>a3o (j:=j+1) hx);obtain ⟨l2,rfl,n2,g2⟩:=Ih (n:=j+4) (p:=Brd.Ok) h2 Tryz.underlying51 (fun x hx=>a1h hx);obtain ⟨l3,rfl,n3,g3⟩:=Ih (n:=j+4) (p:=Lnk.Ok) h3 Tryz.underlying52 (fun x hx=>a7a (j:=j+2) hx);simp only [maxLen] at n1 n2 n3;exact ⟨⟨l1,l2,l3⟩,rfl,g1,g2,g3,by grind,by grind,by grind⟩
theorem c0x {α:Type} {L:List α} (h:L.length=5):∃ a b c d e,L=[a,b,c,d,e]:=by
 match L,h with
 |[a,b,c,d,e],_=>simp
theorem a0o {j:Nat} {fs:List FV} (h:Fb Tryz.prog (j+2) 174 fs):∃ b:Nat→Nat,fs=a8n b∧∀ i,b i<256:=by
 obtain ⟨L,rfl,hl,hL⟩:=Fb.array h Tryz.underlying174;obtain ⟨a,b,c,d,e,rfl⟩:=c0x hl;obtain ⟨m1,rfl,q1⟩:=EK (j:=j) (hL a (by simp));obtain ⟨m2,rfl,q2⟩:=EK (j:=j) (hL b (by simp));obtain ⟨m3,rfl,q3⟩:=EK (j:=j) (hL c (by simp));obtain ⟨m4,rfl,q4⟩:=EK (j:=j) (hL d (by simp));obtain ⟨m5,rfl,q5⟩:=EK (j:=j) (hL e (by simp));exact ⟨fun i=>if i=0 then m1 else if i=1 then m2 else if i=2 then m3 else if i=3 then m4 else m5,rfl,fun i=>by grind⟩
open Go.Pie
attribute [local irreducible] Aa Aj Ah Ad AP Ap Bd BL Bf Ag Vm.Done BA AB Ce Ba DV DN En AZ CB
theorem a4e {j:Nat} {fs:List FV} (h:Fb Tryz.prog (j+1) 5 fs):∃ x:UInt8,fs=Enc.enc x∧True:=by
 obtain ⟨n,rfl,hn⟩:=EK h;refine ⟨UInt8.ofNat n,?_,trivial⟩;show _=[FV.int .u8 (((UInt8.ofNat n).toNat:Nat):Int)]
 rw [UInt8.toNat_ofNat',bq hn]
def Sd8.Ok (y:Sd8):Prop:=y.st<256∧y.lg<256∧y.dv<256∧y.ky<256
def Mrk.Ok (y:Mrk):Prop:=y.bar<256∧∀ j,y.b j<256
theorem a1p {j:Nat} {fs:List FV} (h:Fb Tryz.prog (j+2) 170 fs):∃ x:Sd8,fs=Enc.enc x∧x.Ok:=by
 obtain ⟨parts,rfl,hp⟩:=FD h Tryz.underlying170;obtain ⟨a,b,c,d,rfl,h1,h2,h3,h4⟩:=Jw hp;obtain ⟨m1,rfl,q1⟩:=EK (j:=j) h1;obtain ⟨m2,rfl,q2⟩:=EK (j:=j) h2;obtain ⟨m3,rfl,q3⟩:=EK (j:=j) h3;obtain ⟨m4,rfl,q4⟩:=EK (j:=j) h4;exact ⟨⟨m1,m2,m3,m4⟩,rfl,q1,q2,q3,q4⟩
theorem a3z {j:Nat} {fs:List FV} (h:Fb Tryz.prog (j+3) 176 fs):∃ x:Mrk,fs=Enc.enc x∧x.Ok:=by
 obtain ⟨parts,rfl,hp⟩:=FD h Tryz.underlying176;obtain ⟨a,b,rfl,h1,h2⟩:=rF hp;obtain ⟨m1,rfl,q1⟩:=EK (j:=j+1) h1;obtain ⟨b5,rfl,k3⟩:=a0o (j:=j) h2;exact ⟨⟨m1,b5⟩,rfl,q1,k3⟩
theorem a3k {j:Nat} {fs:List FV} (h:Fb Tryz.prog (j+7) 59 fs):∃ x:bZ,fs=x.enc∧x.Ok:=by
 obtain ⟨parts,rfl,hp⟩:=FD h Tryz.underlying59;obtain ⟨a,b,c,d,rfl,h1,h2,h3,h4⟩:=Jw hp;obtain ⟨x1,rfl,k1⟩:=a2a (j:=j) h1;obtain ⟨l2,rfl,n2,g2⟩:=Ih (n:=j+5) (p:=fun _:UInt8=>True) h2 Tryz.underlying55 (fun x hx=>a4e (j:=j+4) hx);obtain ⟨l3,rfl,n3,g3⟩:=Ih (n:=j+5) (p:=Sd8.Ok) h3 Tryz.underlying56 (fun x hx=>a1p (j:=j+3) hx);obtain ⟨l4,rfl,n4,g4⟩:=Ih (n:=j+5) (p:=Mrk.Ok) h4 Tryz.underlying57 (fun x hx=>a3z (j:=j+2) hx);simp only [maxLen] at n2 n3 n4;exact ⟨⟨x1,l2,l3,l4⟩,rfl,k1,by grind,by grind,by grind,g3,g4⟩
noncomputable instance (a b:Jk):Decidable (a=b):=Classical.propDecidable _
theorem pX (p:F7) (t:Int) (x:Int):∀ k,x∈KN p t k↔∃ i:Nat,i<k∧x=(i:Int)∧aP p t i=true
 |0=>by simp [KN]
 |k+1=>by
  have ih:=pX p t x k;have e:KN p t (k+1)=if aP p t k=true then KN p t k++[(k:Int)] else KN p t k:=rfl
  rw [e];by_cases h:aP p t k=true
  ·rw [if_pos h,bk,aL,ih]
   constructor
   ·rintro (⟨i,h1,h2⟩|h1)
    ·exact ⟨i,by omega,h2⟩
    ·exact ⟨k,by omega,h1,h⟩
   ·rintro ⟨i,h1,h2,h3⟩
    by_cases e:i=k
    ·subst e;exact .inr h2
    ·exact .inl ⟨i,by omega,h2,h3⟩
  ·rw [if_neg h,ih]
   constructor
   ·rintro ⟨i,h1,h2⟩;exact ⟨i,by omega,h2⟩
   ·rintro ⟨i,h1,h2,h3⟩
    by_cases e:i=k
    ·subst e;exact absurd h3 h
    ·exact ⟨i,by omega,h2,h3⟩
theorem jq (p:F7) (t:Int):∀ k,t∈TI p k↔t=O6 p∨t=Pn p∨∃ i,i<k∧(t=(gi p.notes i).s∨t=(gi p.notes i).e)
 |0=>by simp [TI]
 |k+1=>by
  have ih:=jq p t k;have e:TI p (k+1)=TI p k++[(gi p.notes k).s,(gi p.notes k).e]:=rfl;grind
theorem a8v (p:F7) (t:Int) (i:Nat):aP p t i=true↔(gi p.notes i).s≤t∧t<(gi p.notes i).e:=by
 unfold aP;simp
end Go.Proofs.YtnjkoebfgcbbdaaGreatDoor
namespace Go.Sch
section
open Go.Vm
def cmpL:List Int→List Int→Int
 |[],[]=>0
 |[],_::_=>-1
 |_::_,[]=>1
 |x::a,y::b=>if x<y then -1 else if y<x then 1 else cmpL a b
theorem iM:∀ a:List Int,cmpL a a=0
 |[]=>rfl
 |x::a=>by unfold cmpL;rw [if_neg (by omega),if_neg (by omega),iM a]
theorem cmpL_eq:∀ {a b:List Int},cmpL a b=0→a=b
 |[],[],_=>rfl
 |[],_::_,h=>by cases h
 |_::_,[],h=>by cases h
 |x::a,y::b,h=>by
  unfold cmpL at h;split at h
  ·cases h
  ·split at h
   ·cases h
   ·rw [cmpL_eq h,show x=y by omega]
theorem VG:∀ a b:List Int,cmpL a b=-cmpL b a
 |[],[]=>rfl
 |[],_::_=>rfl
 |_::_,[]=>rfl
 |x::a,y::b=>by
  unfold cmpL;by_cases h1:x<y
  ·omega
  ·by_cases h2:y<x
   ·omega
   ·rw [if_neg h1,if_neg h2,if_neg h2,if_neg h1,VG a b]
theorem Y5:∀ {a b c:List Int},cmpL a b≤0→cmpL b c≤0→cmpL a c≤0
 |[],_,[],_,_=>bc _
 |[],_,_::_,_,_=>by show (-1:Int)≤0;omega
 |_::_,[],_,h,_=>by contradiction
 |_::_,_::_,[],_,h=>by assumption
 |x::a,y::b,z::c,h1,h2=>by
  unfold cmpL at h1 h2 ⊢;by_cases g1:x<y
  ·omega
  ·rw [if_neg g1] at h1
   by_cases g1':y<x
   ·omega
   ·rw [if_neg g1'] at h1
    by_cases g2:y<z
    ·omega
    ·rw [if_neg g2] at h2
     by_cases g3:z<y
     ·omega
     ·rw [if_neg g3] at h2
      rw [if_neg (by omega),if_neg (by omega)];exact Y5 h1 h2
theorem nO:∀ {a b:List Int} {m:Nat} {v:Int},m<a.length→m<b.length→gi a m=gi b m→cmpL (a.set m v) (b.set m v)=cmpL a b
 |[],_,_,_,h,_,_=>absurd h (bo _)
 |_::_,[],_,_,_,h,_=>absurd h (bo _)
 |x::a,y::b,0,v,_,_,h=>by
  have e:x=y:=h;subst e;unfold cmpL;simp
 |x::a,y::b,m+1,v,h1,h2,h=>by
  rw [ep,ep];have ih:=nO (v:=v) (a:=a) (b:=b) (m:=m) (by grind) (by grind) (by assumption);unfold cmpL;rw [ih]
def dQ (x y:List Int×Int):Prop:=x.2<y.2∨x.2=y.2∧cmpL x.1 y.1≤0
theorem IX (x:List Int×Int):dQ x x:=.inr ⟨rfl,by rw [iM];omega⟩
theorem KC {x y z:List Int×Int} (h1:dQ x y) (h2:dQ y z):dQ x z:=by
 rcases h1 with h1|⟨h1,h1'⟩
 ·rcases h2 with h2|⟨h2,_⟩
  ·exact .inl (by omega)
  ·exact .inl (by omega)
 ·rcases h2 with h2|⟨h2,h2'⟩
  ·exact .inl (by omega)
  ·exact .inr ⟨by omega,Y5 h1' h2'⟩
theorem a4v {x y:List Int×Int} (h1:dQ x y) (h2:dQ y x):x=y:=by
 obtain ⟨a,c⟩:=x;obtain ⟨b,d⟩:=y;rcases h1 with h1|⟨h1,h1'⟩
 ·rcases h2 with h2|⟨h2,_⟩<;>simp only at h1 h2<;>omega
 ·rcases h2 with h2|⟨h2,h2'⟩
  ·omega
  ·simp only at h1 h1' h2'
   have h3:=VG a b;rw [h1,cmpL_eq (a:=a) (b:=b) (by omega)]
def ltB (x y:List Int×Int):Bool:=decide (x.2<y.2)||(decide (x.2=y.2)&&decide (cmpL x.1 y.1<0))
theorem um {x y:List Int×Int} (h:ltB x y=true):dQ x y:=by
 unfold ltB at h;simp only [Bool.or_eq_true,Bool.and_eq_true,decide_eq_true_eq] at h;rcases h with h|⟨h,h'⟩
 ·exact .inl h
 ·exact .inr ⟨h,by omega⟩
theorem l9 {x y:List Int×Int} (h:ltB x y=false):dQ y x:=by
 unfold ltB at h;simp only [Bool.or_eq_false_iff,Bool.and_eq_false_iff,decide_eq_false_iff_not] at h;obtain ⟨h1,h2⟩:=h;rcases h2 with h2|h2
 ·exact .inl (by omega)
 ·by_cases e:x.2=y.2
  ·have:=VG x.1 y.1
   exact .inr ⟨e.symm,by omega⟩
  ·exact .inl (by omega)
def FK (nw:Nat→Bool) (f:Nat→Nat) (l:List Int):Nat→List (List Int)
 |0=>[l]
 |k+1=>if nw k=true then FK nw f l k++(FK nw f l k).map (fun x=>x.set (f k) 1) else FK nw f l k
theorem ZM (nw:Nat→Bool) (f:Nat→Nat) (l:List Int):∀ k,1≤(FK nw f l k).length∧(FK nw f l k).length≤2 ^ k
 |0=>⟨ab _,ab _⟩
 |k+1=>by
  have ih:=ZM nw f l k;unfold FK;grind
def Vs (nw:Nat→Bool) (f:Nat→Nat) (k i:Nat):Prop:=∃ j,j<k∧nw j=true∧f j=i
theorem Vs.succ {nw:Nat→Bool} {f:Nat→Nat} {k i:Nat}:Vs nw f (k+1) i↔Vs nw f k i∨nw k=true∧f k=i:=by
 constructor
 ·rintro ⟨j,h1,h2,h3⟩
  by_cases e:j=k
  ·grind
  ·exact .inl ⟨j,by omega,h2,h3⟩
 ·rintro (⟨j,h1,h2,h3⟩|⟨h1,h2⟩)
  ·exact ⟨j,by omega,h2,h3⟩
  ·exact ⟨k,by omega,h1,h2⟩
theorem MP {nw:Nat→Bool} {f:Nat→Nat} {l:List Int}:∀ (k:Nat),(∀ j j',j<k→j'<k→f j=f j'→j=j')→(∀ j,j<k→f j<l.length)→(∀ j,j<k→nw j=true→gi l (f j)=0)→∀ x:List Int,
 x∈FK nw f l k↔x.length=l.length∧∀ i,i<l.length→(Vs nw f k i→gi x i=0∨gi x i=1)∧(¬ Vs nw f k i→gi x i=gi l i)
 |0,_,_,_,x=>by
  have h0:∀ i,¬ Vs nw f 0 i:=fun i ⟨j,h,_⟩=>by omega
  unfold FK;rw [aL];constructor
  ·grind
  ·rintro ⟨h1,h2⟩
   exact Kt h1 fun i hi=>(h2 i (by omega)).2 (h0 i)
 |k+1,hinj,hr,hz,x=>by
  have ih:=MP k (fun j j' h h'=>hinj j j' (by omega) (by omega)) (fun j h=>hr j (by omega)) (fun j h=>hz j (by omega));have hk:=hr k (by omega);unfold FK;by_cases hn:nw k=true
  ·rw [if_pos hn,bk,ih,aR]
   have hnk:¬ Vs nw f k (f k):=fun ⟨j,h1,_,h3⟩=>by
    grind
   have hzk:=hz k (by omega) hn;constructor
   ·rintro (⟨h1,h2⟩|⟨y,hy,rfl⟩)
    ·refine ⟨h1,fun i hi=>⟨fun hh=>?_,fun hh=>(h2 i hi).2 fun h=>hh (Vs.succ.2 (.inl h))⟩⟩
     rcases Vs.succ.1 hh with hh|⟨_,rfl⟩
     ·grind
     grind
    ·obtain ⟨h1,h2⟩:=(ih y).1 hy
     refine ⟨by grind,fun i hi=>⟨fun hh=>?_,fun hh=>?_⟩⟩
     ·rw [Gm]
      split
      ·simp
      ·rename_i e
       rcases Vs.succ.1 hh with hh|⟨_,rfl⟩
       ·grind
       omega
     ·rw [Gm,if_neg fun e=>hh (Vs.succ.2 (.inr ⟨hn,e.1⟩))]
      exact (h2 i hi).2 fun h=>hh (Vs.succ.2 (.inl h))
   ·rintro ⟨h1,h2⟩
    rcases (h2 (f k) hk).1 (Vs.succ.2 (.inr ⟨hn,rfl⟩)) with e|e
    ·refine .inl ⟨h1,fun i hi=>⟨fun hh=>(h2 i hi).1 (Vs.succ.2 (.inl hh)),fun hh=>?_⟩⟩
     by_cases ei:f k=i
     ·subst ei;rw [e,hzk]
     ·exact (h2 i hi).2 fun h=>(Vs.succ.1 h).elim hh fun h=>ei h.2
    ·refine .inr ⟨x.set (f k) 0,(ih _).2 ⟨by rw [cH,h1],fun i hi=>⟨fun hh=>?_,fun hh=>?_⟩⟩,?_⟩
     ·have ei:f k≠i:=fun e=>hnk (e.symm▸hh)
      rw [Gm,if_neg fun e=>ei e.1];exact (h2 i hi).1 (Vs.succ.2 (.inl hh))
     ·rw [Gm]
      by_cases ei:f k=i
      ·subst ei;rw [if_pos ⟨rfl,by omega⟩,hzk]
      ·rw [if_neg fun h=>ei h.1]
       exact (h2 i hi).2 fun h=>(Vs.succ.1 h).elim hh fun h=>ei h.2
     ·refine Kt (by simp) fun i hi=>?_
      rw [Gm,Gm];by_cases ei:f k=i
      ·subst ei;rw [if_pos ⟨rfl,by simpa using hi⟩,e]
      ·rw [if_neg fun h=>ei h.1,if_neg fun h=>ei h.1]
  ·rw [if_neg hn,ih]
   have:∀ i,Vs nw f (k+1) i↔Vs nw f k i:=fun i=>by
    rw [Vs.succ];exact ⟨fun h=>h.elim id fun h=>absurd h.1 hn,.inl⟩
   simp only [this]
theorem dI {L:List (List Int)} {m:Nat} (hz:∀ x∈L,m<x.length∧gi x m=0) (h:L.Nodup):(L.map fun x=>x.set m 1).Nodup:=by
 have hb:∀ x∈L,((x.set m 1).set m 0)=x:=fun x hx=>by
  obtain ⟨h1,h2⟩:=hz x hx;refine Kt (by simp) fun i hi=>?_
  rw [Gm,Gm];grind
 refine eI _ (R:=fun a b=>a∈L∧b∈L∧a≠b) (fun a b ⟨ha,hb',hne⟩ e=>hne ?_) ?_
 ·grind
 ·exact gn (R:=(·≠·)) (fun {a b} ha hb h=>⟨ha,hb,h⟩) h
theorem YH {nw:Nat→Bool} {f:Nat→Nat} {l:List Int}:∀ (k:Nat),(∀ j j',j<k→j'<k→f j=f j'→j=j')→(∀ j,j<k→f j<l.length)→(∀ j,j<k→nw j=true→gi l (f j)=0)→(FK nw f l k).Nodup
 |0,_,_,_=>by unfold FK;simp
 |k+1,hinj,hr,hz=>by
  have hm:=MP (nw:=nw) (f:=f) (l:=l) k (fun j j' h h'=>hinj j j' (by omega) (by omega)) (fun j h=>hr j (by omega)) (fun j h=>hz j (by omega));have ih:=YH (nw:=nw) (f:=f) (l:=l) k (fun j j' h h'=>hinj j j' (by omega) (by omega)) (fun j h=>hr j (by omega)) (fun j h=>hz j (by omega));unfold FK;by_cases hn:nw k=true
  ·rw [if_pos hn]
   have hnk:¬ Vs nw f k (f k):=fun ⟨j,h1,_,h3⟩=>by
    grind
   have hzz:∀ x∈FK nw f l k,f k<x.length∧gi x (f k)=0:=fun x hx=>by
    grind
   refine eJ.2 ⟨ih,dI hzz ih,fun a ha b hb e=>?_⟩;subst e;obtain ⟨y,hy,e⟩:=aR.1 hb;have h1:=(hzz a ha).2;rw [← e,Gm,if_pos ⟨rfl,(hzz y hy).1⟩] at h1;omega
  grind
inductive All2' {α β:Type} (R:α→β→Prop):List α→List β→Prop
 |nil:All2' R [] []
 |cons {a b l r} (h:R a b) (t:All2' R l r):All2' R (a::l) (b::r)
theorem All2'.append {α β:Type} {R:α→β→Prop}:∀ {l1:List α} {r1:List β} {l2:List α} {r2:List β},All2' R l1 r1→All2' R l2 r2→All2' R (l1++l2) (r1++r2)
 |_,_,_,_,.nil,h=>h
 |_,_,_,_,.cons h t,k=>.cons h (All2'.append t k)
theorem All2'.map {α β γ δ:Type} {R:α→β→Prop} {S:γ→δ→Prop} {g:α→γ} {h:β→δ} (hi:∀ a b,R a b→S (g a) (h b)):∀ {l:List α} {r:List β},All2' R l r→All2' S (l.map g) (r.map h)
 |_,_,.nil=>.nil
 |_,_,.cons a t=>.cons (hi _ _ a) (All2'.map hi t)
theorem All2'.filter {α β:Type} {R:α→β→Prop} {g:α→Bool} {h:β→Bool} (hi:∀ a b,R a b→g a=h b):∀ {l:List α} {r:List β},All2' R l r→All2' R (l.filter g) (r.filter h)
 |_,_,.nil=>.nil
 |_,_,.cons (a:=a) (b:=b) x t=>by
  rw [di,di,hi a b x];cases h b
  ·exact All2'.filter hi t
  ·exact .cons x (All2'.filter hi t)
theorem All2'.right {α β:Type} {R:α→β→Prop}:∀ {l:List α} {r:List β},All2' R l r→∀ b∈r,∃ a,a∈l∧R a b
 |_,_,.nil,b,h=>absurd h be
 |_,_,.cons x t,b,h=>by
  rcases bj.1 h with rfl|h
  ·grind
  ·obtain ⟨a,h1,h2⟩:=All2'.right t b h
   grind
theorem All2'.count {α β:Type} {R:α→β→Prop} {g:α→Bool} {h:β→Bool} (hi:∀ a b,R a b→g a=h b):∀ {l:List α} {r:List β},All2' R l r→l.countP g=r.countP h
 |_,_,.nil=>rfl
 |_,_,.cons (a:=a) (b:=b) x t=>by
  rw [gp,gp,All2'.count hi t,hi a b x]
theorem gW {nw:Nat→Bool} {f:Nat→Nat} {R:List Int→List Int→Prop} {a b:List Int} (hab:R a b):∀ (k:Nat),(∀ j,j<k→nw j=true→∀ x y,R x y→R (x.set (f j) 1) (y.set (f j) 1))→All2' R (FK nw f a k) (FK nw f b k)
 |0,_=>.cons hab .nil
 |k+1,h=>by
  have ih:=gW hab k fun j hj=>h j (by omega)
  unfold FK;by_cases hn:nw k=true
  ·rw [if_pos hn,if_pos hn]
   exact ih.append (ih.map (h k (by omega) hn))
  grind
end
section
open Go.Vm
section
variable (nw:Nat→Nat→Bool) (f:Nat→Nat→Nat) (K:Nat→Nat) (play:Nat→List Int→Bool) (Ht:List Int)
def xI (t:Nat) (l:List Int):List (List Int):=(FK (nw t) (f t) l (K t)).filter (play t)
def Xp:Nat→List (List Int)
 |0=>[Ht]
 |t+1=>(Xp t).flatMap (xI nw f K play t)
end
structure ZO (n T:Nat) (nw:Nat→Nat→Bool) (f:Nat→Nat→Nat) (K:Nat→Nat) (S:Nat→Nat→Prop) (play:Nat→List Int→Bool) (Ht:List Int):Prop where
 len:Ht.length=n
 inj:∀ t,t<T→∀ j j',j<K t→j'<K t→f t j=f t j'→j=j'
 rng:∀ t,t<T→∀ j,j<K t→f t j<n
 zero:∀ t,t<T→∀ j,j<K t→nw t j=true→gi Ht (f t j)=0
 once:∀ t t',t<T→t'<T→∀ i,Vs (nw t) (f t) (K t) i→Vs (nw t') (f t') (K t') i→t=t'
 sub:∀ t,t<T→∀ j,j<K t→S t (f t j)
 old:∀ t t',t<t'→t'<T→∀ i,S t i→¬ Vs (nw t') (f t') (K t') i
 cont:∀ t,t+1<T→∀ i,S (t+1) i→S t i∨∀ t',t'<t+1→¬ Vs (nw t') (f t') (K t') i
 loc:∀ t,t<T→∀ l l':List Int,l.length=n→l'.length=n→(∀ i,S t i→gi l i=gi l' i)→play t l=play t l'
section
variable {n T:Nat} {nw:Nat→Nat→Bool} {f:Nat→Nat→Nat} {K:Nat→Nat} {S:Nat→Nat→Prop} {play:Nat→List Int→Bool} {Ht:List Int}
def Bgn (nw:Nat→Nat→Bool) (f:Nat→Nat→Nat) (K:Nat→Nat) (t i:Nat):Prop:=Vs (nw t) (f t) (K t) i
structure iE (nw:Nat→Nat→Bool) (f:Nat→Nat→Nat) (K:Nat→Nat) (play:Nat→List Int→Bool) (Ht:List Int) (n t:Nat) (l:List Int):Prop where
 len:l.length=n
 yes:∀ i,i<n→(∃ t',t'<t∧Bgn nw f K t' i)→gi l i=0∨gi l i=1
 no:∀ i,i<n→(¬ ∃ t',t'<t∧Bgn nw f K t' i)→gi l i=gi Ht i
 play:∀ t',t'<t→play t' l=true
theorem QG (h:ZO n T nw f K S play Ht) {t:Nat} (ht:t<T) {l:List Int} (hl:iE nw f K play Ht n t l) (x:List Int) :
 x∈xI nw f K play t l↔(x.length=n∧∀ i,i<n→(Bgn nw f K t i→gi x i=0∨gi x i=1)∧(¬ Bgn nw f K t i→gi x i=gi l i))∧play t x=true:=by
 have hz:∀ j,j<K t→nw t j=true→gi l (f t j)=0:=fun j hj hn=>by
  rw [hl.no _ (h.rng t ht j hj) fun ⟨t',h1,h2⟩=>?_]
  ·exact h.zero t ht j hj hn
  ·have:=h.once t' t (by omega) ht _ h2 ⟨j,hj,hn,rfl⟩
   omega
 unfold xI;rw [List.mem_filter,MP (K t) (h.inj t ht) (fun j hj=>by rw [hl.len];exact h.rng t ht j hj) hz,hl.len];rfl
theorem a2k (h:ZO n T nw f K S play Ht) {t:Nat} (ht:t<T) {l:List Int} (hl:iE nw f K play Ht n t l):(xI nw f K play t l).Nodup:=by
 have hz:∀ j,j<K t→nw t j=true→gi l (f t j)=0:=fun j hj hn=>by
  rw [hl.no _ (h.rng t ht j hj) fun ⟨t',h1,h2⟩=>?_]
  ·exact h.zero t ht j hj hn
  ·have:=h.once t' t (by omega) ht _ h2 ⟨j,hj,hn,rfl⟩
   omega
 exact (YH (K t) (h.inj t ht) (fun j hj=>by rw [hl.len];exact h.rng t ht j hj) hz).filter _
theorem oN (h:ZO n T nw f K S play Ht) {t:Nat} (ht:t<T) {l x:List Int} (hl:iE nw f K play Ht n t l) (hx:x∈xI nw f K play t l) {t':Nat} (ht':t'<t) {i:Nat} (hS:S t' i):gi x i=gi l i:=by
 obtain ⟨⟨h1,h2⟩,_⟩:=(QG h ht hl x).1 hx;by_cases hi:i<n
 ·exact (h2 i hi).2 (h.old t' t ht' ht i hS)
 ·unfold gi
  have e:=hl.len;grind
theorem Un (h:ZO n T nw f K S play Ht):∀ t,t≤T→∀ l,l∈Xp nw f K play Ht t↔iE nw f K play Ht n t l
 |0,_,l=>by
  unfold Xp;rw [aL];constructor
  ·rintro rfl
   exact ⟨h.len,fun i _ ⟨t',h1,_⟩=>by omega,fun _ _ _=>rfl,fun t' h1=>by omega⟩
  ·intro hl
   exact Kt (by rw [hl.len,h.len]) fun i hi=>hl.no i (by rw [← hl.len];omega) fun ⟨t',h1,_⟩=>by omega
 |t+1,ht,l=>by
  have ih:=Un h t (by omega);unfold Xp;rw [cD];constructor
  ·rintro ⟨y,hy,hx⟩
   have hy:=(ih y).1 hy;obtain ⟨⟨h1,h2⟩,h3⟩:=(QG h (by omega) hy l).1 hx;refine ⟨h1,fun i hi ⟨t',g1,g2⟩=>?_,fun i hi hno=>?_,fun t' g1=>?_⟩
   ·by_cases e:t'=t
    ·grind
    ·by_cases hb:Bgn nw f K t i
     ·grind
     ·rw [(h2 i hi).2 hb];exact hy.yes i hi ⟨t',by omega,g2⟩
   ·rw [(h2 i hi).2 fun hb=>hno ⟨t,by omega,hb⟩]
    exact hy.no i hi fun ⟨t',g1,g2⟩=>hno ⟨t',by omega,g2⟩
   ·by_cases e:t'=t
    ·grind
    ·rw [h.loc t' (by omega) l y h1 hy.len fun i hS=>oN h (by omega) hy hx (by omega) hS]
     exact hy.play t' (by omega)
  ·intro hl
   let y:List Int:=Bv (fun i=>open Classical in if Bgn nw f K t i then 0 else gi l i) n
   have hyl:y.length=n:=Cj _ _;have hyi:∀ i,i<n→gi y i=open Classical in if Bgn nw f K t i then 0 else gi l i:=fun i hi=>D7 _ hi
   have hy:iE nw f K play Ht n t y:=by
    refine ⟨hyl,fun i hi ⟨t',g1,g2⟩=>?_,fun i hi hno=>?_,fun t' g1=>?_⟩
    ·rw [hyi i hi]
     split
     ·simp
     ·exact hl.yes i hi ⟨t',by omega,g2⟩
    ·rw [hyi i hi]
     split
     ·rename_i hb
      obtain ⟨j,j1,j2,rfl⟩:=hb;exact (h.zero t (by omega) j j1 j2).symm
     ·rename_i hb
      exact hl.no i hi fun ⟨t',g1,g2⟩=>by
       grind
    ·rw [h.loc t' (by omega) y l hyl hl.len fun i hS=>?_]
     ·exact hl.play t' (by omega)
     ·by_cases hi:i<n
      ·have hno:¬ Bgn nw f K t i:=h.old t' t g1 (by omega) i hS
       grind
      ·have e:=hl.len
       unfold gi;grind
   refine ⟨y,(ih y).2 hy,(QG h (by omega) hy l).2 ⟨⟨hl.len,fun i hi=>⟨fun hb=>hl.yes i hi ⟨t,by omega,hb⟩,fun hb=>?_⟩⟩,hl.play t (by omega)⟩⟩;grind
theorem Rt {g:List Int→List (List Int)}:∀ {L:List (List Int)},L.Nodup→(∀ a∈L,(g a).Nodup)→(∀ a∈L,∀ b∈L,∀ x,x∈g a→x∈g b→a=b)→(L.flatMap g).Nodup
 |[],_,_,_=>cC
 |a::L,h1,h2,h3=>by
  obtain ⟨n1,n2⟩:=cU.1 h1;refine eJ.2 ⟨h2 a (by simp),Rt n2 (fun b hb=>h2 b (ao _ hb)) fun b hb c hc=>h3 b (ao _ hb) c (ao _ hc),fun x hx y hy e=>?_⟩;grind
theorem jd (h:ZO n T nw f K S play Ht):∀ t,t≤T→(Xp nw f K play Ht t).Nodup
 |0,_=>by unfold Xp;simp
 |t+1,ht=>by
  have hm:=Un h t (by omega);refine Rt (jd h t (by omega)) (fun a ha=>a2k h (by omega) ((hm a).1 ha)) fun a ha b hb x hxa hxb=>?_
  have ia:=(hm a).1 ha;have ib:=(hm b).1 hb;obtain ⟨⟨_,h2⟩,_⟩:=(QG h (by omega) ia x).1 hxa;obtain ⟨⟨_,h3⟩,_⟩:=(QG h (by omega) ib x).1 hxb;refine Kt (by rw [ia.len,ib.len]) fun i hi=>?_
  rw [ia.len] at hi;by_cases hbg:Bgn nw f K t i
  ·have hno:¬ ∃ t',t'<t∧Bgn nw f K t' i:=fun ⟨t',g1,g2⟩=>by
    have:=h.once t' t (by omega) (by omega) i g2 hbg;omega
   rw [ia.no i hi hno,ib.no i hi hno]
  grind
variable {σ:Type} (s0:σ) (EH:Nat→σ→List Int→σ) (inc:Nat→σ→List Int→Int)
def JF (l:List Int):Nat→σ
 |0=>s0
 |t+1=>EH t (JF l t) l
def cF (l:List Int):Nat→Int
 |0=>0
 |t+1=>cF l t+inc t (JF s0 EH l t) l
structure Stp (n T:Nat) (S:Nat→Nat→Prop) (EH:Nat→σ→List Int→σ) (inc:Nat→σ→List Int→Int):Prop where
 loc:∀ t,t<T→∀ x (l l':List Int),l.length=n→l'.length=n→(∀ i,S t i→gi l i=gi l' i)→EH t x l=EH t x l'∧inc t x l=inc t x l'
 tell:∀ t,t<T→∀ x x' (l l':List Int),l.length=n→l'.length=n→(∀ i,i<n→0≤gi l i∧gi l i≤2)→(∀ i,i<n→0≤gi l' i∧gi l' i≤2)→EH t x l=EH t x' l'→∀ i,S t i→gi l i=gi l' i
variable {s0:σ} {EH:Nat→σ→List Int→σ} {inc:Nat→σ→List Int→Int}
theorem zl (hs:Stp n T S EH inc) {l l':List Int} (h1:l.length=n) (h2:l'.length=n):∀ t,t≤T→(∀ t',t'<t→∀ i,S t' i→gi l i=gi l' i)→JF s0 EH l t=JF s0 EH l' t∧cF s0 EH inc l t=cF s0 EH inc l' t
 |0,_,_=>⟨rfl,rfl⟩
 |t+1,ht,h=>by
  obtain ⟨i1,i2⟩:=zl hs h1 h2 t (by omega) fun t' ht'=>h t' (by omega)
  unfold JF cF;obtain ⟨g1,g2⟩:=hs.loc t (by omega) (JF s0 EH l' t) l l' h1 h2 (h t (by omega));grind
theorem VB (h:ZO n T nw f K S play Ht) (hs:Stp n T S EH inc) {t:Nat} (ht:t<T) {l x:List Int} (hl:iE nw f K play Ht n t l) (hx:x∈xI nw f K play t l) :
 JF s0 EH x t=JF s0 EH l t∧cF s0 EH inc x t=cF s0 EH inc l t:=by
 have hxl:=((QG h ht hl x).1 hx).1.1;exact zl hs hxl hl.len t (by omega) fun t' ht' i hS=>oN h ht hl hx ht' hS
theorem Yr (hb:∀ i,i<n→0≤gi Ht i∧gi Ht i≤2) {t:Nat} {l:List Int} (hl:iE nw f K play Ht n t l) {i:Nat} (hi:i<n):0≤gi l i∧gi l i≤2:=by
 by_cases e:∃ t',t'<t∧Bgn nw f K t' i
 ·rcases hl.yes i hi e with h|h<;>omega
 ·rw [hl.no i hi e];grind
theorem a0h (h:ZO n T nw f K S play Ht) (hs:Stp n T S EH inc) (hb:∀ i,i<n→0≤gi Ht i∧gi Ht i≤2) (hSn:∀ t,t<T→∀ i,S t i→i<n):∀ {t:Nat},t<T→∀ {l l':List Int},iE nw f K play Ht n t l→iE nw f K play Ht n t l'→JF s0 EH l t=JF s0 EH l' t→∀ i,S t i→gi l i=gi l' i
 |0,ht,l,l',hl,hl',_,i,hS=>by
  have hi:=hSn 0 ht i hS;rw [hl.no i hi fun ⟨t',h1,_⟩=>by omega,hl'.no i hi fun ⟨t',h1,_⟩=>by omega]
 |t+1,ht,l,l',hl,hl',he,i,hS=>by
  have hi:=hSn _ ht i hS;rcases h.cont t ht i hS with h1|h1
  ·exact hs.tell t (by omega) _ _ l l' hl.len hl'.len (fun i hi=>Yr hb hl hi) (fun i hi=>Yr hb hl' hi) he i h1
  ·rw [hl.no i hi fun ⟨t',g1,g2⟩=>h1 t' g1 g2,hl'.no i hi fun ⟨t',g1,g2⟩=>h1 t' g1 g2]
theorem mO (h:ZO n T nw f K S play Ht) (hs:Stp n T S EH inc) (hb:∀ i,i<n→0≤gi Ht i∧gi Ht i≤2) (hSn:∀ t,t<T→∀ i,S t i→i<n) {t:Nat} (ht:t<T) {l l':List Int} (hl:iE nw f K play Ht n t l) (hl':iE nw f K play Ht n t l') (he:JF s0 EH l t=JF s0 EH l' t) :
 All2' (fun x y=>(∀ i,S t i→gi x i=gi y i)∧cmpL x y=cmpL l l'∧x.length=n∧y.length=n) (xI nw f K play t l) (xI nw f K play t l'):=by
 have hag:=a0h h hs hb hSn ht hl hl' he;have h0:All2' (fun x y=>(∀ i,S t i→gi x i=gi y i)∧cmpL x y=cmpL l l'∧x.length=n∧y.length=n) (FK (nw t) (f t) l (K t)) (FK (nw t) (f t) l' (K t)):=by
  refine gW ⟨hag,rfl,hl.len,hl'.len⟩ (K t) fun j hj hn x y ⟨g1,g2,g3,g4⟩=>⟨fun i hi=>?_,?_,by grind,by grind⟩
  ·rw [Gm,Gm,g3,g4]
   grind
  ·have hr:=h.rng t ht j hj
   rw [nO (by omega) (by omega) (g1 _ (h.sub t ht j hj)),g2]
 exact h0.filter fun a b ⟨g1,_,g3,g4⟩=>h.loc t ht a b g3 g4 g1
variable [DecidableEq σ]
def SV (m:List (σ×(List Int×Int))) (d:σ×(List Int×Int)):List (σ×(List Int×Int)) :=
 match BP m d.1 with
 |none=>Cb m d.1 d.2
 |some o=>if ltB d.2 o=true then Cb m d.1 d.2 else m
theorem KH {β:Type}:∀ {m:List (σ×β)} {y:σ} {o:β},BP m y=some o→(y,o)∈m
 |[],_,_,h=>by cases h
 |x::m,y,o,h=>by
  unfold BP at h;split at h
  ·grind
  ·exact ao _ (KH h)
theorem Sl {β:Type}:∀ {m:List (σ×β)} {y:σ},BP m y=none→∀ o,(y,o)∉m
 |[],_,_,_,h=>absurd h be
 |x::m,y,h,o,hm=>by
  unfold BP at h;split at h
  ·cases h
  ·rename_i e
   rcases bj.1 hm with h1|h1
   ·grind
   ·exact Sl h o h1
theorem Px {β:Type}:∀ {m:List (σ×β)} {y:σ} {b:β} {z:σ×β},z∈Cb m y b→z=(y,b)∨z∈m∧z.1≠y∨z∈m
 |[],y,b,z,h=>by
  unfold Cb at h;grind
 |x::m,y,b,z,h=>by
  unfold Cb at h;split at h
  ·grind
  ·rcases bj.1 h with h|h
   ·grind
   ·rcases Px h with h|h|h
    ·grind
    ·grind
    grind
theorem KA {β:Type}:∀ {m:List (σ×β)} {y:σ} {b:β},(y,b)∈Cb m y b
 |[],_,_=>aL.2 rfl
 |x::m,y,b=>by
  unfold Cb;split
  ·simp
  ·exact ao _ KA
theorem YR {β:Type}:∀ {m:List (σ×β)} {y:σ} {b:β} {z:σ×β},z∈m→z.1≠y→z∈Cb m y b
 |[],_,_,_,h,_=>absurd h be
 |x::m,y,b,z,h,hne=>by
  unfold Cb;split
  ·grind
  ·rcases bj.1 h with h|h
   ·grind
   ·exact ao _ (YR h hne)
theorem gU {β:Type}:∀ {m:List (σ×β)} {y:σ} {b:β} {z:σ},z∈(Cb m y b).map (·.1)→z=y∨z∈m.map (·.1)
 |[],y,b,z,h=>by
  unfold Cb at h;grind
 |x::m,y,b,z,h=>by
  unfold Cb at h;split at h
  ·grind
  ·rcases bj.1 h with h|h
   ·grind
   ·exact (gU h).elim .inl fun h=>.inr (ao _ h)
theorem Oi {β:Type}:∀ {m:List (σ×β)} {y:σ} {b:β},(m.map (·.1)).Nodup→((Cb m y b).map (·.1)).Nodup
 |[],_,_,_=>by unfold Cb;simp
 |x::m,y,b,h=>by
  obtain ⟨h1,h2⟩:=cU.1 h;unfold Cb;split
  ·grind
  ·rename_i e
   refine cU.2 ⟨fun hm=>?_,Oi h2⟩;rcases gU hm with h3|h3
   ·grind
   grind
theorem bC {β:Type}:∀ {m:List (σ×β)} {y:σ} {a b:β},(m.map (·.1)).Nodup→(y,a)∈m→(y,b)∈m→a=b
 |[],_,_,_,_,h,_=>absurd h be
 |x::m,y,a,b,hn,h1,h2=>by
  obtain ⟨n1,n2⟩:=cU.1 hn;rcases bj.1 h1 with e1|h1
  ·grind
  ·rcases bj.1 h2 with e2|h2
   ·grind
   ·exact bC n2 h1 h2
structure XU (D m:List (σ×(List Int×Int))):Prop where
 keys:(m.map (·.1)).Nodup
 sub:∀ d∈m,d∈D
 best:∀ d∈D,∃ o,(d.1,o)∈m∧dQ o d.2
theorem XU.ins {D m:List (σ×(List Int×Int))} (h:XU D m) (d:σ×(List Int×Int)):XU (D++[d]) (SV m d):=by
 obtain ⟨y,w⟩:=d;unfold SV;have hput:(∀ o,(y,o)∈m→dQ w o)→XU (D++[(y,w)]) (Cb m y w):=fun hw=>by
  refine ⟨Oi h.keys,fun z hz=>?_,fun z hz=>?_⟩
  ·rcases Px hz with rfl|hz|hz
   ·simp
   ·exact cA _ (h.sub z hz.1)
   ·exact cA _ (h.sub z hz)
  ·rcases bk.1 hz with hz|hz
   ·obtain ⟨o,h1,h2⟩:=h.best z hz
    by_cases e:z.1=y
    ·refine ⟨w,by rw [e];exact KA,KC (hw o (by grind)) h2⟩
    ·exact ⟨o,YR h1 e,h2⟩
   ·rw [aL] at hz
    subst hz;exact ⟨w,KA,IX _⟩
 cases hl:BP m y with
 |none=>exact hput fun o ho=>absurd ho (Sl hl o)
 |some o =>
  have ho:=KH hl;simp only;cases hb:ltB w o with
  |true =>
   refine hput fun o' ho'=>?_
   rw [bC h.keys ho' ho];exact um hb
  |false =>
   refine ⟨h.keys,fun z hz=>cA _ (h.sub z hz),fun z hz=>?_⟩;rcases bk.1 hz with hz|hz
   ·exact h.best z hz
   ·rw [aL] at hz
    subst hz;exact ⟨o,ho,l9 hb⟩
theorem XU.fold {D:List (σ×(List Int×Int))}:∀ (L:List (σ×(List Int×Int))) {m:List (σ×(List Int×Int))},XU D m→XU (D++L) (L.foldl SV m)
 |[],m,h=>by grind
 |d::L,m,h=>by
  have:=XU.fold L (h.ins d);grind
theorem XU.nil:XU ([]:List (σ×(List Int×Int))) []:=⟨cC,fun d h=>absurd h be,fun d h=>absurd h be⟩
structure qB (nw:Nat→Nat→Bool) (f:Nat→Nat→Nat) (K:Nat→Nat) (play:Nat→List Int→Bool) (Ht:List Int) (s0:σ) (EH:Nat→σ→List Int→σ) (inc:Nat→σ→List Int→Int) (t:Nat) (m:List (σ×(List Int×Int))):Prop where
 keys:(m.map (·.1)).Nodup
 sub:∀ d∈m,d.2.1∈Xp nw f K play Ht t∧d.1=JF s0 EH d.2.1 t∧d.2.2=cF s0 EH inc d.2.1 t
 best:∀ h∈Xp nw f K play Ht t,∃ o,(JF s0 EH h t,o)∈m∧dQ o (h,cF s0 EH inc h t)
def cand (nw:Nat→Nat→Bool) (f:Nat→Nat→Nat) (K:Nat→Nat) (play:Nat→List Int→Bool) (EH:Nat→σ→List Int→σ) (inc:Nat→σ→List Int→Int) (t:Nat) (d:σ×(List Int×Int)):List (σ×(List Int×Int)) :=
 (xI nw f K play t d.2.1).map fun x=>(EH t d.1 x,(x,d.2.2+inc t d.1 x))
theorem qB.step (h:ZO n T nw f K S play Ht) (hs:Stp n T S EH inc) (hb:∀ i,i<n→0≤gi Ht i∧gi Ht i≤2) (hSn:∀ t,t<T→∀ i,S t i→i<n) {t:Nat} (ht:t<T) {m L:List (σ×(List Int×Int))} (hm:qB nw f K play Ht s0 EH inc t m) (hL:∀ d,d∈L↔d∈m) :
 qB nw f K play Ht s0 EH inc (t+1) ((L.flatMap (cand nw f K play EH inc t)).foldl SV []):=by
 have hp:=Un h t (by omega);have hI:=XU.fold (L.flatMap (cand nw f K play EH inc t)) (XU.nil (σ:=σ));have hc:∀ e∈L.flatMap (cand nw f K play EH inc t),e.2.1∈Xp nw f K play Ht (t+1)∧e.1=JF s0 EH e.2.1 (t+1)∧e.2.2=cF s0 EH inc e.2.1 (t+1):=fun e he=>by
  obtain ⟨d,hd,he⟩:=cD.1 he;obtain ⟨x,hx,rfl⟩:=aR.1 he;obtain ⟨g1,g2,g3⟩:=hm.sub d ((hL d).1 hd);have hi:=(hp _).1 g1;obtain ⟨k1,k2⟩:=VB (s0:=s0) h hs ht hi hx;refine ⟨?_,?_,?_⟩
  ·unfold Xp;grind
  ·show EH t d.1 x=EH t (JF s0 EH x t) x
   grind
  ·show d.2.2+inc t d.1 x=cF s0 EH inc x t+inc t (JF s0 EH x t) x
   grind
 refine ⟨hI.keys,fun d hd=>hc d (hI.sub d hd),fun x hx=>?_⟩;unfold Xp at hx;obtain ⟨y,hy,hx⟩:=cD.1 hx;obtain ⟨o,ho,hle⟩:=hm.best y hy;obtain ⟨g1,g2,g3⟩:=hm.sub _ ho;have hyi:=(hp y).1 hy;have hoi:=(hp o.1).1 g1;obtain ⟨z,hz,z1,z2,z3,z4⟩:=(mO h hs hb hSn ht hoi hyi g2.symm).right x hx;obtain ⟨k1,k2⟩:=VB (s0:=s0) h hs ht hyi hx;obtain ⟨k3,k4⟩:=VB (s0:=s0) h hs ht hoi hz;have hzc:(EH t (JF s0 EH y t) z,(z,o.2+inc t (JF s0 EH y t) z))∈L.flatMap (cand nw f K play EH inc t):=cD.2 ⟨_,(hL _).2 ho,aR.2 ⟨z,hz,rfl⟩⟩;obtain ⟨o',h1,h2⟩:=hI.best _ hzc;obtain ⟨l1,l2⟩:=hs.loc t ht (JF s0 EH y t) z x z3 z4 z1;simp only [l1] at h1;refine ⟨o',?_,KC h2 ?_⟩
 ·show (EH t (JF s0 EH x t) x,o')∈_
  grind
 ·show dQ _ (x,cF s0 EH inc x t+inc t (JF s0 EH x t) x)
  rcases hle with hle|⟨hle,hle'⟩
  ·exact .inl (by grind)
  ·exact .inr ⟨by grind,by grind⟩
theorem qB.start:qB nw f K play Ht s0 EH inc 0 [(s0,(Ht,0))] :=
 ⟨by simp,fun d hd=>by rw [aL] at hd;subst hd;exact ⟨by simp [Xp],rfl,rfl⟩,fun h hh=>⟨(Ht,0),by simp [JF],by
  have:h=Ht:=by simpa [Xp] using hh
  subst this;exact IX _⟩⟩
end
end
section
open Go.Vm
def sumF {α:Type} (F:α→Nat):List α→Nat
 |[]=>0
 |a::l=>F a+sumF F l
theorem LH {α:Type} (F:α→Nat):∀ l r:List α,sumF F (l++r)=sumF F l+sumF F r
 |[],r=>by simp [sumF]
 |a::l,r=>by simp only [List.cons_append,sumF,LH F l r];omega
theorem iO {α:Type} (F:α→Nat) {l r:List α} (h:l.Perm r):sumF F l=sumF F r:=by
 induction h with
 |nil=>rfl
 |cons a _ ih=>simp only [sumF,ih]
 |swap a b l=>simp only [sumF];omega
 |trans _ _ h1 h2=>omega
theorem Lc {α:Type} {F G:α→Nat}:∀ {l:List α},(∀ a∈l,F a=G a)→sumF F l=sumF G l
 |[],_=>rfl
 |a::l,h=>by
  simp only [sumF];rw [h a (by simp),Lc fun b hb=>h b (ao _ hb)]
theorem QF {α:Type} {F:α→Nat}:∀ {l:List α},(∀ a∈l,F a=0)→sumF F l=0
 |[],_=>rfl
 |a::l,h=>by
  simp only [sumF];rw [h a (by simp),QF fun b hb=>h b (ao _ hb)]
theorem qU {α:Type} (F G:α→Nat):∀ l:List α,sumF (fun a=>F a+G a) l=sumF F l+sumF G l
 |[]=>rfl
 |a::l=>by simp only [sumF,qU F G l];omega
theorem rU {α:Type}:∀ l:List α,sumF (fun _=>1) l=l.length
 |[]=>rfl
 |a::l=>by simp only [sumF,rU l,List.length_cons];omega
theorem Oy {α β:Type} (F:β→Nat) (g:α→List β):∀ l:List α,sumF F (l.flatMap g)=sumF (fun a=>sumF F (g a)) l
 |[]=>rfl
 |a::l=>by rw [List.flatMap_cons,LH,Oy F g l];rfl
theorem Y2 {α β:Type} (F:β→Nat) (g:α→β):∀ l:List α,sumF F (l.map g)=sumF (fun a=>F (g a)) l
 |[]=>rfl
 |a::l=>by simp only [List.map_cons,sumF,Y2 F g l]
theorem Po {α:Type} (p:α→Bool):∀ l:List α,l.countP p=sumF (fun a=>if p a=true then 1 else 0) l
 |[]=>rfl
 |a::l=>by
  rw [gp,Po p l];simp only [sumF];omega
theorem countP_flatMap {α β:Type} (p:β→Bool) (g:α→List β) (l:List α):(l.flatMap g).countP p=sumF (fun a=>(g a).countP p) l:=by
 rw [Po,Oy];exact Lc fun a _=>(Po p _).symm
section
variable {σ β:Type} [DecidableEq σ]
theorem yj {m:List (σ×β)} {y:σ} {o:β} {G:σ×β→Nat} (hk:(m.map (·.1)).Nodup) (h:(y,o)∈m):sumF (fun e=>if y=e.1 then G e else 0) m=G (y,o):=by
 induction m with
 |nil=>cases h
 |cons x m ih =>
  obtain ⟨n1,n2⟩:=cU.1 hk;simp only [sumF];rcases bj.1 h with h|h
  ·subst h
   rw [if_pos rfl,QF fun e he=>if_neg fun e1=>n1 (aR.2 ⟨e,he,e1.symm⟩)];rfl
  grind
theorem VH {α:Type} {m:List (σ×β)} (hk:(m.map (·.1)).Nodup) {g:α→σ} {F:α→Nat} {G:σ×β→Nat}:∀ {P:List α},(∀ h∈P,∃ o,(g h,o)∈m)→(∀ h∈P,∀ e∈m,e.1=g h→F h=G e)→sumF F P=sumF (fun e=>P.countP (fun h=>decide (g h=e.1))*G e) m
 |[],_,_=>by
  refine (QF fun e _=>?_).symm;simp
 |h::P,h1,h2=>by
  have ih:=VH hk (P:=P) (g:=g) (F:=F) (G:=G) (fun x hx=>h1 x (ao _ hx)) fun x hx=>h2 x (ao _ hx)
  obtain ⟨o,ho⟩:=h1 h (by simp);simp only [sumF];rw [ih,h2 h (by simp) _ ho rfl,← yj (G:=G) hk ho,← qU];grind
def Rh (m:List (σ×(List Int×Nat))) (d:σ×(List Int×Nat)):List (σ×(List Int×Nat)) :=
 match BP m d.1 with
 |none=>Cb m d.1 (d.2.1,0+d.2.2)
 |some o=>Cb m d.1 (o.1,o.2+d.2.2)
def nI (D:List (σ×(List Int×Nat))) (y:σ):Nat:=sumF (fun d=>if d.1=y then d.2.2 else 0) D
structure X7 (D m:List (σ×(List Int×Nat))):Prop where
 keys:(m.map (·.1)).Nodup
 sub:∀ d∈m,(∃ c,(d.1,(d.2.1,c))∈D)∧d.2.2=nI D d.1
 all:∀ d∈D,∃ o,(d.1,o)∈m
theorem iD (D:List (σ×(List Int×Nat))) (d:σ×(List Int×Nat)) (y:σ):nI (D++[d]) y=nI D y+if d.1=y then d.2.2 else 0:=by
 unfold nI;rw [LH];rfl
theorem a1c {D:List (σ×(List Int×Nat))} {y:σ} (h:∀ d∈D,d.1≠y):nI D y=0:=QF fun d hd=>if_neg (h d hd)
theorem UA {m:List (σ×β)} {y:σ} {b c:β} (hk:(m.map (·.1)).Nodup) (h:(y,c)∈Cb m y b):c=b:=bC (Oi hk) h KA
theorem X7.ins {D m:List (σ×(List Int×Nat))} (h:X7 D m) (d:σ×(List Int×Nat)):X7 (D++[d]) (Rh m d):=by
 obtain ⟨y,x,c⟩:=d;unfold Rh;have hput:∀ w:List Int×Nat,(∃ c',(y,(w.1,c'))∈D++[(y,(x,c))])→w.2=nI D y+c→X7 (D++[(y,(x,c))]) (Cb m y w):=fun w hw1 hw2=>by
  refine ⟨Oi h.keys,fun z hz=>?_,fun z hz=>?_⟩
  ·by_cases e:z.1=y
   ·obtain ⟨z1,z2⟩:=z
    subst e;have:=UA h.keys hz;subst this;exact ⟨hw1,by rw [hw2,iD,if_pos rfl]⟩
   ·have hz':z∈m:=by
     rcases Px hz with h1|h1|h1
     ·grind
     ·grind
     omega
    obtain ⟨⟨c',h1⟩,h2⟩:=h.sub z hz';exact ⟨⟨c',cA _ h1⟩,by rw [h2,iD,if_neg (fun e'=>e e'.symm),eh]⟩
  ·rcases bk.1 hz with hz|hz
   ·by_cases e:z.1=y
    ·exact ⟨w,by rw [e];exact KA⟩
    ·obtain ⟨o,ho⟩:=h.all z hz
     exact ⟨o,YR ho e⟩
   ·rw [aL] at hz
    subst hz;exact ⟨w,KA⟩
 cases hl:BP m y with
 |none =>
  refine hput _ ⟨c,by simp⟩ ?_;rw [a1c fun d hd e=>?_];obtain ⟨o,ho⟩:=h.all d hd;rw [e] at ho;exact Sl hl o ho
 |some o =>
  have ho:=KH hl;obtain ⟨⟨c',h1⟩,h2⟩:=h.sub _ ho;grind
theorem X7.fold:∀ (L:List (σ×(List Int×Nat))) {D m:List (σ×(List Int×Nat))},X7 D m→X7 (D++L) (L.foldl Rh m)
 |[],D,m,h=>by grind
 |d::L,D,m,h=>by
  have:=X7.fold L (h.ins d);grind
theorem X7.nil:X7 ([]:List (σ×(List Int×Nat))) []:=⟨cC,fun d h=>absurd h be,fun d h=>absurd h be⟩
variable {n T:Nat} {nw:Nat→Nat→Bool} {f:Nat→Nat→Nat} {K:Nat→Nat} {S:Nat→Nat→Prop} {play:Nat→List Int→Bool} {Ht:List Int} {s0:σ} {EH:Nat→σ→List Int→σ} {inc:Nat→σ→List Int→Int}
structure X8 (nw:Nat→Nat→Bool) (f:Nat→Nat→Nat) (K:Nat→Nat) (play:Nat→List Int→Bool) (Ht:List Int) (s0:σ) (EH:Nat→σ→List Int→σ) (t:Nat) (m:List (σ×(List Int×Nat))):Prop where
 keys:(m.map (·.1)).Nodup
 sub:∀ d∈m,d.2.1∈Xp nw f K play Ht t∧d.1=JF s0 EH d.2.1 t∧d.2.2=(Xp nw f K play Ht t).countP fun h=>decide (JF s0 EH h t=d.1)
 all:∀ h∈Xp nw f K play Ht t,∃ o,(JF s0 EH h t,o)∈m
def iy (nw:Nat→Nat→Bool) (f:Nat→Nat→Nat) (K:Nat→Nat) (play:Nat→List Int→Bool) (EH:Nat→σ→List Int→σ) (t:Nat) (d:σ×(List Int×Nat)):List (σ×(List Int×Nat)) :=
 (xI nw f K play t d.2.1).map fun x=>(EH t d.1 x,(x,d.2.2))
theorem pF (p:List Int→Bool) (c:Nat):∀ l:List (List Int),sumF (fun x=>if p x=true then c else 0) l=c*l.countP p
 |[]=>rfl
 |a::l=>by
  simp only [sumF,pF p c l,List.countP_cons];grind
theorem X8.step (h:ZO n T nw f K S play Ht) (hs:Stp n T S EH inc) (hb:∀ i,i<n→0≤gi Ht i∧gi Ht i≤2) (hSn:∀ t,t<T→∀ i,S t i→i<n) {t:Nat} (ht:t<T) {m L:List (σ×(List Int×Nat))} (hm:X8 nw f K play Ht s0 EH t m) (hL:L.Perm m) :
 X8 nw f K play Ht s0 EH (t+1) ((L.flatMap (iy nw f K play EH t)).foldl Rh []):=by
 have hp:=Un h t (by omega);have hI:=X7.fold (L.flatMap (iy nw f K play EH t)) (X7.nil (σ:=σ));have hsum:∀ y,nI (L.flatMap (iy nw f K play EH t)) y=(Xp nw f K play Ht (t+1)).countP fun x=>decide (JF s0 EH x (t+1)=y):=fun y=>by
  unfold nI;rw [Oy,iO _ hL];have e1:∀ d∈m,sumF (fun e:σ×(List Int×Nat)=>if e.1=y then e.2.2 else 0) (iy nw f K play EH t d)=(Xp nw f K play Ht t).countP (fun h=>decide (JF s0 EH h t=d.1))*(xI nw f K play t d.2.1).countP (fun x=>decide (EH t d.1 x=y)):=fun d hd=>by
   obtain ⟨_,_,g3⟩:=hm.sub d hd;rw [← g3];unfold iy;rw [Y2];rw [← pF];simp
  rw [Lc e1];rw [← VH (P:=Xp nw f K play Ht t) (g:=fun h=>JF s0 EH h t) (F:=fun h=>(xI nw f K play t h).countP fun x=>decide (EH t (JF s0 EH h t) x=y)) (G:=fun d=>(xI nw f K play t d.2.1).countP fun x=>decide (EH t d.1 x=y)) hm.keys hm.all]
  ·show _=List.countP _ (List.flatMap _ _)
   rw [countP_flatMap];refine Lc fun a ha=>?_
   refine List.countP_congr fun x hx=>?_
   obtain ⟨k1,_⟩:=VB (s0:=s0) (inc:=inc) h hs ht ((hp a).1 ha) hx;show decide (EH t (JF s0 EH a t) x=y)=true↔decide (EH t (JF s0 EH x t) x=y)=true;rw [k1]
  ·intro a ha e he hea
   obtain ⟨g1,g2,_⟩:=hm.sub e he;have:=(mO (s0:=s0) (inc:=inc) h hs hb hSn ht ((hp a).1 ha) ((hp _).1 g1) (by grind)).count (g:=fun x=>decide (EH t (JF s0 EH a t) x=y)) (h:=fun x=>decide (EH t e.1 x=y)) fun x z ⟨z1,_,z3,z4⟩=>by
    rw [hea,(hs.loc t ht _ x z z3 z4 z1).1]
   omega
 have hc:∀ e∈L.flatMap (iy nw f K play EH t),e.2.1∈Xp nw f K play Ht (t+1)∧e.1=JF s0 EH e.2.1 (t+1):=fun e he=>by
  obtain ⟨d,hd,he⟩:=cD.1 he;obtain ⟨x,hx,rfl⟩:=aR.1 he;obtain ⟨g1,g2,g3⟩:=hm.sub d (hL.mem_iff.1 hd);obtain ⟨k1,_⟩:=VB (s0:=s0) (inc:=inc) h hs ht ((hp _).1 g1) hx;refine ⟨?_,?_⟩
  ·unfold Xp;grind
  ·show EH t d.1 x=EH t (JF s0 EH x t) x
   grind
 refine ⟨hI.keys,fun d hd=>?_,fun x hx=>?_⟩
 ·obtain ⟨⟨c,h1⟩,h2⟩:=hI.sub d hd
  grind
 ·obtain ⟨y,hy,hx⟩:=cD.1 hx
  obtain ⟨o,ho⟩:=hm.all y hy;obtain ⟨g1,g2,_⟩:=hm.sub _ ho;obtain ⟨z,hz,z1,_,z3,z4⟩:=(mO (s0:=s0) (inc:=inc) h hs hb hSn ht ((hp _).1 g1) ((hp y).1 hy) g2.symm).right x hx;obtain ⟨o',h1⟩:=hI.all (EH t (JF s0 EH y t) z,(z,o.2)) (cD.2 ⟨_,hL.mem_iff.2 ho,aR.2 ⟨z,hz,rfl⟩⟩);obtain ⟨k1,_⟩:=VB (s0:=s0) (inc:=inc) h hs ht ((hp y).1 hy) hx;refine ⟨o',?_⟩;show (EH t (JF s0 EH x t) x,o')∈_;rw [k1,← (hs.loc t ht _ z x z3 z4 z1).1];omega
theorem X8.start:X8 nw f K play Ht s0 EH 0 [(s0,(Ht,1))] :=
 ⟨by simp,fun d hd=>by rw [aL] at hd;subst hd;exact ⟨by simp [Xp],rfl,by simp [Xp,JF]⟩,fun h hh=>⟨(Ht,1),by simp [JF]⟩⟩
theorem X8.total {t:Nat} {m:List (σ×(List Int×Nat))} (hm:X8 nw f K play Ht s0 EH t m):sumF (fun d=>d.2.2) m=(Xp nw f K play Ht t).length:=by
 rw [← rU,VH (P:=Xp nw f K play Ht t) (g:=fun h=>JF s0 EH h t) (F:=fun _=>1) (G:=fun _=>1) hm.keys hm.all fun _ _ _ _ _=>rfl];exact Lc fun d hd=>by rw [(hm.sub d hd).2.2,gz]
end
end
section
open Go.Vm
def XB (b:Option (List Int×Int)) (w:List Int×Int):Option (List Int×Int) :=
 match b with
 |none=>some w
 |some o=>if ltB w o=true then some w else some o
theorem VE:∀ (L:List (List Int×Int)) (b:Option (List Int×Int)),(b=none∧L=[]∧L.foldl XB b=none)∨∃ w,L.foldl XB b=some w∧(w∈L∨b=some w)∧(∀ x∈L,dQ w x)∧∀ o,b=some o→dQ w o
 |[],none=>.inl ⟨rfl,rfl,rfl⟩
 |[],some o=>.inr ⟨o,rfl,.inr rfl,fun x h=>absurd h be,fun o' h=>by cases h;exact IX _⟩
 |x::L,b=>by
  rw [List.foldl_cons];have hb:∃ o,XB b x=some o∧(o=x∨b=some o)∧dQ o x∧∀ o',b=some o'→dQ o o':=by
   cases b with
   |none=>exact ⟨x,rfl,.inl rfl,IX _,fun o' h=>by cases h⟩
   |some o =>
    unfold XB;simp only;cases h:ltB x o with
    |true =>
     exact ⟨x,rfl,.inl rfl,IX _,fun o' h'=>by cases h';exact um h⟩
    |false =>
     exact ⟨o,rfl,.inr rfl,l9 h,fun o' h'=>by cases h';exact IX _⟩
  obtain ⟨o,h1,h2,h3,h4⟩:=hb;rw [h1];rcases VE L (some o) with ⟨h,_⟩|⟨w,g1,g2,g3,g4⟩
  ·cases h
  ·have hw:=g4 o rfl
   refine .inr ⟨w,g1,?_,fun y hy=>?_,fun o' ho'=>KC hw (h4 o' ho')⟩
   ·grind
   ·rcases bj.1 hy with rfl|hy
    ·exact KC hw h3
    grind
end
end Go.Sch
namespace Go.Proofs.YtnjkoebfgcbbdaaGreatDoor
open Go Go.Am Go.Vm Go.Pie Go.Sch
attribute [local irreducible] Aa Aj Ah Ad AP Ap Bd BL Bf Ag Vm.Done BA AB OT
attribute [local irreducible] Ce Ba DV DN En AZ CB
theorem b2w (p:F7):Inc (Dy p):=WJ (iU _)
theorem VW (p:F7) {i j:Nat} (h:i<j) (hj:j<(Dy p).length):gi (Dy p) i<gi (Dy p) j:=by
 have:=ed.1 (b2w p) i j (by omega) hj h;unfold gi;grind
theorem a8m (p:F7) {i j:Nat} (hi:i<(Dy p).length) (hj:j<(Dy p).length) (h:gi (Dy p) i=gi (Dy p) j):i=j:=by
 rcases ez i j with h1|h1|h1
 ·have:=VW p h1 hj;omega
 ·omega
 ·have:=VW p h1 hi;omega
theorem yK (p:F7) (t:Int):t∈Dy p↔t∈TI p p.notes.length:=by
 unfold Dy;rw [Qd,fy]
theorem Md {α:Type} [Inhabited α] {l:List α} {x:α} (h:x∈l):∃ i,i<l.length∧gi l i=x:=by
 obtain ⟨i,hi,e⟩:=bL.1 h;exact ⟨i,hi,by unfold gi;grind⟩
theorem Es {α:Type} [Inhabited α] {l:List α} {i:Nat} (h:i<l.length):gi l i∈l:=by
 unfold gi;grind
theorem a4s {α:Type} [Inhabited α] {l:List α} (h:l.Nodup) {i j:Nat} (hi:i<l.length) (hj:j<l.length) (e:gi l i=gi l j):i=j:=by
 unfold gi at e;rw [ai hi,ai hj] at e;exact (List.getElem_inj h).1 e
theorem ZV (p:F7) (t:Int):∀ k,(KN p t k).Nodup
 |0=>cC
 |k+1=>by
  have ih:=ZV p t k;unfold KN;split
  ·refine eJ.2 ⟨ih,by simp,fun a ha b hb e=>?_⟩
   rw [aL] at hb;have:=Yl ha;omega
  omega
theorem jP (p:F7) (t:Int) (x:Int):x∈snd p t↔∃ i:Nat,i<p.notes.length∧x=(i:Int)∧(gi p.notes i).s≤t∧t<(gi p.notes i).e:=by
 have h:=pX p t x p.notes.length;simp only [a8v] at h;exact h
def MZ (q:Qu) (t:Nat):iT:=gi (A8 q.p) t
def b0f (q:Qu) (s:iT) (x:Int):Bool:=decide ((gi q.p.notes x.toNat).s=s.s)
def MJ (q:Qu) (t j:Nat):Bool:=b0f q (MZ q t) (gi (Ja q (IY q t)) j)
def fQ (q:Qu) (t j:Nat):Nat:=(gi (Ja q (IY q t)) j).toNat
def kQ (q:Qu) (t:Nat):Nat:=(Ja q (IY q t)).length
def sQ (q:Qu) (t i:Nat):Prop:=(i:Int)∈IY q t
def WM (q:Qu) (t:Nat) (l:List Int):Bool:=IW q (IY q t) l
theorem qX (p:F7):(A8 p).length+1=(Dy p).length:=by
 have:=zk p;show (a6w _ _).length+1=_;rw [qM];omega
theorem b3v (q:Qu) {t:Nat} (ht:t<(A8 q.p).length):(MZ q t).s=gi (Dy q.p) t:=by
 unfold MZ;rw [YE _ ht]
theorem Y9 (q:Qu) {t:Nat} (ht:t<(A8 q.p).length):IY q t=snd q.p (gi (Dy q.p) t):=by
 unfold IY;rw [YE _ ht]
theorem bg (q:Qu) {t:Nat} (ht:t<(A8 q.p).length) (i:Nat):sQ q t i↔i<q.p.notes.length∧(gi q.p.notes i).s≤gi (Dy q.p) t∧gi (Dy q.p) t<(gi q.p.notes i).e:=by
 unfold sQ;rw [Y9 q ht,jP];grind
theorem pz (q:Qu) (N:List Int) (x:Int):x∈Ja q N↔x∈N∧GR q x.toNat=false:=by
 unfold Ja Ur;simp
theorem xQ (q:Qu) {t:Nat} (ht:t<(A8 q.p).length):(Ja q (IY q t)).Nodup:=by
 rw [Y9 q ht];exact (ZV _ _ _).filter _
theorem NH (q:Qu) {t:Nat} (ht:t<(A8 q.p).length) {j:Nat} (hj:j<kQ q t):∃ i:Nat,gi (Ja q (IY q t)) j=(i:Int)∧fQ q t j=i∧i<q.p.notes.length∧sQ q t i∧GR q i=false:=by
 have hm:=Es (l:=Ja q (IY q t)) hj;obtain ⟨h1,h2⟩:=(pz q _ _).1 hm;have h3:gi (Ja q (IY q t)) j∈snd q.p (gi (Dy q.p) t):=by rw [← Y9 q ht];omega
 obtain ⟨i,g1,g2,_⟩:=(jP _ _ _).1 h3;refine ⟨i,g2,by unfold fQ;omega,g1,by unfold sQ;grind,by grind⟩
theorem Oo (q:Qu) (hq:Jy q) {t:Nat} (ht:t<(A8 q.p).length) (i:Nat):Bgn (MJ q) (fQ q) (kQ q) t i↔i<q.p.notes.length∧GR q i=false∧(gi q.p.notes i).s=gi (Dy q.p) t:=by
 constructor
 ·rintro ⟨j,h1,h2,rfl⟩
  obtain ⟨i,g1,g2,g3,g4,g5⟩:=NH q ht h1;rw [g2];refine ⟨g3,g5,?_⟩;unfold MJ b0f at h2;rw [g1,b3v q ht] at h2;grind
 ·rintro ⟨h1,h2,h3⟩
  have hn:=hq.p.note i h1;have hS:sQ q t i:=(bg q ht i).2 ⟨h1,by omega,by have:=hn.r;omega⟩;have hm:(i:Int)∈Ja q (IY q t):=(pz q _ _).2 ⟨hS,h2⟩;obtain ⟨j,j1,j2⟩:=Md hm;refine ⟨j,j1,?_,by unfold fQ;omega⟩;unfold MJ b0f;rw [j2,b3v q ht];grind
theorem dX {p:F7} {N:List Int} {is is':Nat→Bool} (h:∀ x∈N,is x.toNat=is' x.toNat) (d:Nat):∀ k,k≤N.length→tq p N is d k=tq p N is' d k
 |0,_=>rfl
 |k+1,hk=>by
  rw [Qi,Qi,dX h d k (by omega),h _ (Es (by omega))]
theorem a3h {q:Qu} {N:List Int} {is is':Nat→Bool} (h:∀ x∈N,is x.toNat=is' x.toNat):cu q N is=cu q N is':=by
 refine Ql fun d _=>?_
 unfold bW;rw [dX h d _ (ab _)]
theorem Wq {p:F7} {N l l':List Int} (h:∀ x∈N,gi l x.toNat=gi l' x.toNat) (hd:Int):∀ k,k≤N.length→TG p N l hd k=TG p N l' hd k
 |0,_=>rfl
 |k+1,hk=>by
  unfold TG;rw [Wq h hd k (by omega),h _ (Es (by omega))]
theorem aK {q:Qu} {N l l':List Int} (h:∀ x∈N,gi l x.toNat=gi l' x.toNat) (hd:Int):Vb q N l hd=Vb q N l' hd:=by
 unfold Vb;rw [a3h (is:=hasB l hd) (is':=hasB l' hd) fun x hx=>by unfold hasB;grind]
theorem nP {q:Qu} {N l l':List Int} (h:∀ x∈N,gi l x.toNat=gi l' x.toNat):IW q N l=IW q N l':=by
 unfold IW;rw [aK h,aK h]
theorem Vp {N l l':List Int} (h:∀ x∈N,gi l x.toNat=gi l' x.toNat):∀ k,k≤N.length→jS N l k=jS N l' k
 |0,_=>rfl
 |k+1,hk=>by
  unfold jS;rw [Vp h k (by omega),h _ (Es (by omega))]
theorem qK {N l l':List Int} (hr:∀ x∈N,0≤gi l x.toNat∧gi l x.toNat≤2) (hr':∀ x∈N,0≤gi l' x.toNat∧gi l' x.toNat≤2):∀ k,k≤N.length→jS N l k=jS N l' k→∀ j,j<k→gi l (gi N j).toNat=gi l' (gi N j).toNat
 |0,_,_,j,hj=>by omega
 |k+1,hk,he,j,hj=>by
  have hl:=Uo N l k;have hl':=Uo N l' k;obtain ⟨e1,e2⟩:=List.append_inj he (by omega);by_cases e:j=k
  ·subst e
   simp only [List.cons.injEq,and_true] at e2;have e3:=congrArg UInt8.toNat e2;rw [UInt8.toNat_ofNat',UInt8.toNat_ofNat'] at e3;have:=hr _ (Es (l:=N) (i:=j) (by omega));have:=hr' _ (Es (l:=N) (i:=j) (by omega));omega
  ·exact qK hr hr' k (by omega) e1 j (by omega)
theorem jC {q:Qu} {t:Nat} (ht:t<(A8 q.p).length) {l l':List Int} (h:∀ i,sQ q t i→gi l i=gi l' i):∀ x∈IY q t,gi l x.toNat=gi l' x.toNat:=fun x hx=>by
 have hx':=hx;rw [Y9 q ht,jP] at hx;obtain ⟨i,_,rfl,_⟩:=hx;exact h i hx'
theorem Yt (q:Qu) {i:Nat} (hi:i<q.p.notes.length):gi (Nk q) i=if GR q i=true then 2 else 0:=by
 unfold Nk VT;rw [D7 _ hi];grind
theorem a8w (q:Qu):(Nk q).length=q.p.notes.length:=Nr _ _
theorem Xl (q:Qu) (hq:Jy q):ZO q.p.notes.length (A8 q.p).length (MJ q) (fQ q) (kQ q) (sQ q) (WM q) (Nk q):=by
 have hT:=qX q.p;refine ⟨a8w q,fun t ht j j' hj hj' e=>?_,fun t ht j hj=>?_,fun t ht j hj hn=>?_,fun t t' ht ht' i h1 h2=>?_,fun t ht j hj=>?_,fun t t' h1 h2 i hS hh=>?_,fun t ht i hS=>?_,fun t ht l l' _ _ h=>?_⟩
 ·obtain ⟨i,g1,g2,_⟩:=NH q ht hj
  obtain ⟨i',g3,g4,_⟩:=NH q ht hj';refine a4s (xQ q ht) hj hj' ?_;omega
 ·obtain ⟨i,g1,g2,g3,_⟩:=NH q ht hj
  omega
 ·obtain ⟨i,g1,g2,g3,_,g5⟩:=NH q ht hj
  rw [g2,Yt q g3,g5];rfl
 ·have h1:=((Oo q hq ht i).1 h1).2.2
  have h2:=((Oo q hq ht' i).1 h2).2.2;exact a8m q.p (by omega) (by omega) (h1.symm.trans h2)
 ·obtain ⟨i,g1,g2,g3,g4,_⟩:=NH q ht hj
  grind
 ·have h3:=((Oo q hq h2 i).1 hh).2.2
  have h4:=((bg q (by omega) i).1 hS).2.1;have:=VW q.p h1 (by omega);omega
 ·obtain ⟨g1,g2,g3⟩:=(bg q ht i).1 hS
  have hlt:=VW q.p (show t<t+1 by omega) (by omega);by_cases h1:(gi q.p.notes i).s≤gi (Dy q.p) t
  ·exact .inl ((bg q (by omega) i).2 ⟨g1,h1,by omega⟩)
  ·refine .inr fun t' ht' hh=>?_
   have h3:=((Oo q hq (by omega) i).1 hh).2.2;rcases aq t' t with h4|h4
   ·have:=VW q.p h4 (by omega);omega
   grind
 ·exact nP (jC ht h)
theorem Uc (q:Qu):∀ i,i<q.p.notes.length→0≤gi (Nk q) i∧gi (Nk q) i≤2:=fun i hi=>by
 rw [Yt q hi];split<;>omega
theorem b3m (q:Qu):∀ t,t<(A8 q.p).length→∀ i,sQ q t i→i<q.p.notes.length:=fun t ht i h=>((bg q ht i).1 h).1
def Hy (q:Qu) (t:Nat):List (List Int):=Xp (MJ q) (fQ q) (kQ q) (WM q) (Nk q) t
def b6v (q:Qu) (t:Nat) (l:List Int):Prop:=iE (MJ q) (fQ q) (kQ q) (WM q) (Nk q) q.p.notes.length t l
theorem Qq (q:Qu) (hq:Jy q) {t:Nat} (ht:t≤(A8 q.p).length) (l:List Int):l∈Hy q t↔b6v q t l:=Un (Xl q hq) t ht l
theorem ah (q:Qu) (hq:Jy q) {t:Nat} (ht:t≤(A8 q.p).length):(Hy q t).Nodup:=jd (Xl q hq) t ht
def kE (q:Qu) (t:Nat) (l:List Int):List (List Int):=xI (MJ q) (fQ q) (kQ q) (WM q) t l
structure a2v (q:Qu) (t:Nat) (l:List Int):Prop where
 len:l.length=q.p.notes.length
 rng:∀ i,i<l.length→0≤gi l i∧gi l i≤2
 zero:∀ j,j<kQ q t→MJ q t j=true→gi l (fQ q t j)=0
theorem qL (q:Qu) (hq:Jy q) {t:Nat} (ht:t<(A8 q.p).length) {l:List Int} (h:b6v q t l):a2v q t l:=by
 have hS:=Xl q hq;have hlen:l.length=q.p.notes.length:=iE.len h;refine ⟨hlen,fun i hi=>Yr (Uc q) h (by omega),fun j hj hn=>?_⟩;rw [iE.no h _ (hS.rng t ht j hj) fun ⟨t',h1,h2⟩=>by have:=hS.once t' t (by omega) ht _ h2 ⟨j,hj,hn,rfl⟩;omega];exact hS.zero t ht j hj hn
theorem gB (q:Qu) (hq:Jy q) {i:Nat} (hi:i<q.p.notes.length) (hp:GR q i=false):∃ t,t<(A8 q.p).length∧Bgn (MJ q) (fQ q) (kQ q) t i:=by
 have hT:=qX q.p;have hn:=hq.p.note i hi;have h1:(gi q.p.notes i).s∈Dy q.p:=(yK _ _).2 ((jq _ _ _).2 (.inr (.inr ⟨i,hi,.inl rfl⟩)));have h2:(gi q.p.notes i).e∈Dy q.p:=(yK _ _).2 ((jq _ _ _).2 (.inr (.inr ⟨i,hi,.inr rfl⟩)));obtain ⟨a,a1,a2⟩:=Md h1;obtain ⟨b,b1,b2⟩:=Md h2;have hlt:a<(A8 q.p).length:=by
  rcases aq a (A8 q.p).length with h|h
  ·exact h
  ·have:=hn.r
   rcases ez a b with g|g|g
   ·omega
   ·grind
   ·have:=VW q.p g a1;omega
 exact ⟨a,hlt,(Oo q hq hlt i).2 ⟨hi,hp,a2.symm⟩⟩
theorem VI (q:Qu) (hq:Jy q) (l:List Int):l∈Hy q (A8 q.p).length↔l.length=q.p.notes.length∧(∀ i,i<q.p.notes.length→if GR q i=true then gi l i=2 else gi l i=0∨gi l i=1)∧∀ t,t<(A8 q.p).length→IW q (IY q t) l=true:=by
 rw [Qq q hq (ab _)];constructor
 ·intro h
  refine ⟨iE.len h,fun i hi=>?_,fun t ht=>iE.play h t ht⟩;split
  ·rename_i hp
   rw [iE.no h i hi (fun ⟨t,h1,h2⟩=>by have:=((Oo q hq h1 i).1 h2).2.1;grind),Yt q hi,if_pos hp]
  ·rename_i hp
   exact iE.yes h i hi (gB q hq hi (by grind))
 ·rintro ⟨h1,h2,h3⟩
  refine ⟨h1,fun i hi ⟨t,g1,g2⟩=>?_,fun i hi hno=>?_,fun t ht=>h3 t ht⟩
  ·have:=h2 i hi
   rw [((Oo q hq g1 i).1 g2).2.1] at this;grind
  ·have:=h2 i hi
   by_cases hp:GR q i=true
   ·rw [if_pos hp] at this
    rw [this,Yt q hi,if_pos hp]
   ·exact absurd (gB q hq hi (by grind)) hno
structure J4 where
 now:List UInt8
 c0:Wp
 c1:Wp
 b0:Bool
 b1:Bool
deriving DecidableEq
def st0:J4:=⟨[],⟨0,0⟩,⟨0,0⟩,false,false⟩
def GV (q:Qu) (t:Nat) (x:J4) (l:List Int):J4 :=
 ⟨O9 (IY q t) l,if (Fh q l 0 t).1=true then (Fh q l 0 t).2 else x.c0,if (Fh q l 1 t).1=true then (Fh q l 1 t).2 else x.c1,(Fh q l 0 t).1||x.b0,(Fh q l 1 t).1||x.b1⟩
def Gj (r:Bool×Wp) (b:Bool) (c:Wp):Int:=if r.1=true then if b=true then mvC c r.2 else 0 else 0
def KQ (q:Qu) (t:Nat) (x:J4) (l:List Int):Int:=Gj (Fh q l 0 t) x.b0 x.c0+Gj (Fh q l 1 t) x.b1 x.c1
theorem qZ (q:Qu) {t:Nat} (ht:t<(A8 q.p).length) {l l':List Int} (h2:∀ i,i<q.p.notes.length→0≤gi l i∧gi l i≤2) (h2':∀ i,i<q.p.notes.length→0≤gi l' i∧gi l' i≤2) (e2:O9 (IY q t) l=O9 (IY q t) l') {i:Nat} (hS:sQ q t i):gi l i=gi l' i:=by
 have hin:=KZ ht;have hb:∀ x∈IY q t,x.toNat<q.p.notes.length:=fun x hx=>by
  obtain ⟨j,j1,j2⟩:=Md hx;have:=hin j j1;omega
 obtain ⟨j,j1,j2⟩:=Md (l:=IY q t) hS;have:=qK (fun x hx=>h2 _ (hb x hx)) (fun x hx=>h2' _ (hb x hx)) _ (ab _) e2 j j1;grind
theorem b2p (q:Qu):Go.Sch.Stp q.p.notes.length (A8 q.p).length (sQ q) (GV q) (KQ q):=by
 refine ⟨fun t ht x l l' _ _ h=>?_,fun t ht x x' l l' h1 h1' h2 h2' he i hS=>?_⟩
 ·have hx:=jC ht h
  have e0:Fh q l 0 t=Fh q l' 0 t:=Wq hx 0 _ (ab _);have e1:Fh q l 1 t=Fh q l' 1 t:=Wq hx 1 _ (ab _);have e2:O9 (IY q t) l=O9 (IY q t) l':=Vp hx _ (ab _);unfold GV KQ;grind
 ·exact qZ q ht h2 h2' (congrArg J4.now he) hS
def c1p (q:Qu) (t:Nat) (_:List UInt8) (l:List Int):List UInt8:=O9 (IY q t) l
theorem b0b (q:Qu):Go.Sch.Stp q.p.notes.length (A8 q.p).length (sQ q) (c1p q) (fun _ _ _=>0):=by
 refine ⟨fun t ht x l l' _ _ h=>⟨Vp (jC ht h) _ (ab _),rfl⟩,fun t ht x x' l l' h1 h1' h2 h2' he i hS=>?_⟩;exact qZ q ht h2 h2' he hS
end Go.Proofs.YtnjkoebfgcbbdaaGreatDoor
namespace Go.Am
open Go.ChangeMaps (setBlock)
variable {P:Program} {G:List Nat}
theorem ZY {ops:Array Oper} {o:Oper} {l:List Oper} {R:Exit→Act→World→Prop} {ac:Act} {w w':World} {v':Value} (hg:o.guard=none) (hno:∀ c,o.op≠.defer c) (hr:(execOp ac.eval o).run P w=.ok (.value v') w')
 (k:wpListIn Fence.wide 0 P ops R l (ac.put o.dst v') w'):wpListIn Fence.wide 0 P ops R (o::l) ac w:=by
 unfold wpListIn;rw [Vm.LU hg,if_pos rfl];unfold Oper.wpIn;rw [Oper.semAt_eq _ _ _ hno,hr];refine ⟨fun _ _=>trivial,?_⟩;exact k
theorem Dk.len {ι:BH} {g:Nat→Nat}:∀ {es es':List MapEntry},Dk ι g es es'→es'.length=es.length
 |[],[],_=>rfl
 |_::_,_::_,⟨_,k⟩=>by simp [Dk.len k]
 |[],_::_,h=>h.elim
 |_::_,[],h=>h.elim
theorem a6c {ι ι':BH} {m m':Mem} {w w':World} (hs:Dv P G ι m w) (h:Ext ι m w ι' m' w') {k:Nat} {o:Obj} (hk:w.heap[k]?=some o) (ho:o.isCells=false) (hm:∀ es c,o≠.map es c):w'.heap[k]?=some o:=by
 rw [h.frame k (al.1 hk).1 ?_];exact hk;intro b ib hb hc;have h1:=hs.blk b ib hb;rw [hc,hk] at h1;obtain ⟨es,c,h2⟩:=MS h1 ho;grind
theorem a8h {ι:BH} {m:Mem} {W W1:World} {l:Nat} {o o':Obj} (hs:Dv P G ι m W) (hd:W1=W∨W1=W.drew) (hk:W.heap[l]?=some o) (ho:o.isCells=false) (hm:∀ es c,o≠.map es c):Dv P G ι m (setBlock W1 l o'):=by
 have hh:W1.heap=W.heap:=by rcases hd with rfl|rfl<;>rfl
 have hg:∀ c,c≠l→(setBlock W1 l o').heap[c]?=W.heap[c]?:=fun c hc=>by
  show (W1.heap.setIfInBounds l o')[c]?=_;grind
 have hz:(setBlock W1 l o').heap.size=W.heap.size:=by
  show (W1.heap.setIfInBounds l o').size=_;grind
 refine ⟨fun b ib hb=>⟨(hs.dom b ib hb).1,by rw [hz];exact (hs.dom b ib hb).2⟩,fun b ib hb=>?_,hs.inj,hs.glob⟩;rw [hg ib.blk ?_];exact hs.blk b ib hb;intro e;have h1:=hs.blk b ib hb;rw [e,hk] at h1;obtain ⟨es,c,h2⟩:=MS h1 ho;grind
theorem a9b {ι ι':BH} {m m':Mem} {w W W1:World} {l:Nat} (h:Ext ι m w ι' m' W) (hd:W1=W∨W1=W.drew) (hl:w.heap.size≤l) (o':Obj):Ext ι m w ι' m' (setBlock W1 l o'):=by
 have hh:W1.heap=W.heap:=by rcases hd with rfl|rfl<;>rfl
 have hz:(setBlock W1 l o').heap.size=W.heap.size:=by
  show (W1.heap.setIfInBounds l o').size=_;grind
 refine ⟨h.size,h.low,h.keep,h.ro,h.ro',h.le,h.back,h.dom,by rw [hz];exact h.heap,fun c hc hf=>?_,?_,?_,?_⟩
 ·show (W1.heap.setIfInBounds l o')[c]?=_
  rw [hh,eW (by omega)];exact h.frame c hc hf
 ·rcases hd with rfl|rfl<;>exact h.tape
 ·rcases hd with rfl|rfl<;>exact h.os
 ·rcases hd with rfl|rfl<;>exact h.output
theorem run_move {ρ:Operand→Value} {dst:Option Tmp} {x:Operand} {ty:TypeId} {pos:String} {af:Array Edge} {gd:Option (Nat×Bool)} {w:World}:(execOp ρ ⟨dst,.move x,ty,pos,af,gd⟩).run P w=.ok (.value (ρ x)) w:=by
 rfl
theorem Xd {ρ:Operand→Value} {dst:Option Tmp} {x:Operand} {i:Nat} {vs:Array Value} {v:Value} {ty:TypeId} {pos:String} {af:Array Edge} {gd:Option (Nat×Bool)} {w:World} (hx:ρ x=.tuple vs) (hv:vs[i]?=some v):(execOp ρ ⟨dst,.extract x i,ty,pos,af,gd⟩).run P w=.ok (.value v) w:=by
 simp only [execOp,hx];exact Gw (by simp [Instr.extract,hv])
theorem NY {a:Act} {d d':Tmp} {v:Value} (h:d<a.tmps.size):(a.put (some d) v).eval (.tmp d')=if d=d' then v else a.eval (.tmp d'):=by
 show (a.tmps.setIfInBounds d v).getD d' undef=_;by_cases e:d=d'
 ·simp_all
 ·rw [if_neg e]
  show _=a.tmps.getD d' undef;simp_all
theorem Y7 {es:Array MapEntry} {V:List Nat} {e:MapEntry}:e∈(leftOf es V.toArray).toList↔e∈es.toList∧e.born∉V:=by
 unfold leftOf;simp
end Go.Am
namespace Go.Vm
open Go.Am
open Go.ChangeMaps (setBlock)
variable {E:Env} {n bn:Nat} {L:Frame} {H:Heap} {nx:Nat} {Q:BM→Frame→Heap→Nat→Prop}
theorem b1o {l:List MapEntry} {clock:Nat} (h:Stamped l clock) {i:Nat} {e:MapEntry} (he:l[i]?=some e):e.born=i:=h.at he
theorem Dh.at {m:Mem} {F:Nat→Prop}:∀ {xs:List FV} {vs:List Value} {i:Nat} {x:FV} {v:Value},Dh m F xs vs→xs[i]?=some x→vs[i]?=some v→RF m F x v
 |_,_,i,_,_,.nil,h,_=>by grind
 |_,_,0,_,_,.cons h t,h1,h2=>by grind
 |_,_,i+1,_,_,.cons h t,h1,h2=>Dh.at t (by assumption) (by grind)
theorem Dj.at {m:Mem} {F:Nat→Prop} {T:Nat→Option Tg} {σ:Nat→Value} {n:Nat}:∀ {xs:List PV} {vs:List Value} {i:Nat} {x:PV} {v:Value},Dj m F T σ n xs vs→xs[i]?=some x→vs[i]?=some v→RP m F T σ n x v
 |_,_,i,_,_,.nil,h,_=>by grind
 |_,_,0,_,_,.cons h t,h1,h2=>by grind
 |_,_,i+1,_,_,.cons h t,h1,h2=>Dj.at t (by assumption) (by grind)
theorem RL.other {m:Mem} {F:Nat→Prop} {T:Nat→Option Tg} {σ:Nat→Value} {nx:Nat} {L:Frame} {t:Tr Value} (h:RL m F T σ nx L t) {d:Nat} (hd:EY L d=none) (v:Value):RL m F T σ nx L (Qr t d v):=fun i x hi=>by
 rw [CY];by_cases e:d=i
 ·grind
 ·rw [if_neg e];exact h i x hi
theorem Au.b5h {ι:BH} {g:Nat→Nat} {l:Nat} {v':Value} (h:Au ι g (.iface 0 (.int .i64 l)) v'):v'=.pointer (some ⟨l,0,none⟩):=by
 generalize hv:Value.iface 0 (.int .i64 (l:Int))=v at h;cases h<;>simp at hv
 grind
theorem Il:∀ (n:Nat) (V:List Nat),V.Nodup→(∀ i∈V,i<n)→V.length≤n
 |0,V,_,h=>by
  match V,h with
  |[],_=>simp
  |a::V,h=>exact absurd (h a (by simp)) (bo _)
 |n+1,V,hn,h=>by
  by_cases hm:n∈V
  ·have h1:=Il n (V.erase n) (hn.erase n) fun i hi=>by
    grind
   grind
  ·have:=Il n V hn fun i hi=>by
    grind
   omega
theorem pU {ι:BH} {g:Nat→Nat} {l es:List MapEntry} (h:Dk ι g l es) {j:Nat} {e:MapEntry} (he:es[j]?=some e):∃ ea,l[j]?=some ea∧lX ι g ea e:=by
 have hj:=(bu.1 he).1;rw [h.len] at hj;exact ⟨l[j],ai hj,Dk.get h (ai hj) he⟩
theorem aQ {ι:BH} {g:Nat→Nat}:∀ {l es:List MapEntry},Dk ι g l es→es.map (·.born)=l.map (·.born)
 |[],[],_=>rfl
 |e::l,e'::es,⟨h,k⟩=>by
  rw [bx,bx,aQ k,h.2.1]
 |[],_::_,h=>h.elim
 |_::_,[],h=>h.elim
theorem AX.jM {r1 id r2 id2 r3:Nat} {x:Operand} {d0 d dn dk de:Tmp} {T kt et aa1 a2 a3 a4 aa5:TypeId} {p1 p2 p3 p4 p5:String} {f1 f2 f3 f4 f5:Array Edge} {ops3:Array Oper} {tl:List Oper} {rest:Code} {b Dp:Nat} {ks:List FV} {cs:List PV} {α:Type} (Lf:α→Frame) (Hf:α→Heap) (inv:List Nat→α→Prop) (s0:α)
 (ht:E.P.underlying T=some (.map kt et)) (hx:AU E.Γ L x=some (.mref b)) (hb:bn≤Dp) (hbm:hget H b=some (.JC ks cs))
 (h0:inv [] s0) (hc:aU (Hu L (some d0) (.mref b)) H nx (Lf s0) (Hf s0) Dp)
 (hLd:EY L d=none) (hL:∀ s,EY (Lf s) d0=some (.mref b)∧EY (Lf s) dn=none∧EY (Lf s) dk=none)
 (hH:∀ V s,inv V s→hget (Hf s) b=some (.JC ks cs)) (hl:ks.length=cs.length)
 (hops:ops3.toList=⟨some de,.entry (.tmp d),aa5,p5,f5,none⟩::tl) (hkd:keeps d (.seq (.region r3 ops3 false) rest)=true) (hk0:keeps d0 (.seq (.region r3 ops3 false) rest)=true)
 (hne:d0≠d∧dn≠d∧dn≠d0∧dk≠d∧dk≠d0∧de≠d)
 (hs:∀ V s i kk c,inv V s→V.Nodup→i∉V→ks[i]?=some kk→cs[i]?=some c→BD E n bn ops3 tl (Hu (Lf s) (some de) (.D9 [.p kk,c])) (Hf s) Dp fun L' H' nx' =>
  AX E n bn rest L' H' nx' (Bf id2 (Ag (fun L' H' nx'=>∃ s',inv (V++[i]) s'∧aU L' H' nx' (Lf s') (Hf s') Dp) (Bf id Q))))
 (he:∀ V s,inv V s→V.Nodup→(∀ i,i<cs.length→i∈V)→(∀ i∈V,i<cs.length)→Q .normal (Lf s) (Hf s) Dp) :
 AX E n bn (.seq (.region r1 #[⟨some d0,.move x,aa1,p1,f1,none⟩,⟨some d,.range T (.tmp d0),a2,p2,f2,none⟩] false)
  (.block id (.loop (.seq (.region r2 #[⟨some dn,.next (.tmp d) false,a3,p3,f3,none⟩,⟨some dk,.extract (.tmp dn) 0,a4,p4,f4,none⟩] false) (.seq (.cond (.tmp dk) .skip (.exit id)) (.block id2 (.seq (.region r3 ops3 false) rest))))))) L H nx Q:=by
 intro hsn hok hfl B hB m F σ t h1 h2 h3 ι ac w hst R hR;simp only [codeOk,Bool.and_eq_true] at hok;simp only [flat,Bool.true_and,Bool.and_true,Bool.and_eq_true] at hfl;obtain ⟨⟨hok1,_⟩,⟨hok2,_⟩,_,⟨b6a,_⟩,hokr⟩:=hok;have c3i:=hfl;obtain ⟨hn1,hn2,hn3,hn4,hn5,hn6⟩:=hne;have ho1:=fun o ho=>Dx (bd.1 hok1 o ho)
 have ho2:=fun o ho=>Dx (bd.1 hok2 o ho)
 have ho3:∀ o∈ops3.toList,Ig E.G n o=true:=fun o ho=>bd.1 b6a o (by simpa using ho)
 rw [hops] at ho3;have hd0:d0<n:=(ho1 ⟨some d0,.move x,aa1,p1,f1,none⟩ (by simp)).2 d0 rfl;have hdd:d<n:=(ho1 ⟨some d,.range T (.tmp d0),a2,p2,f2,none⟩ (by simp)).2 d rfl;have hdn:dn<n:=(ho2 ⟨some dn,.next (.tmp d) false,a3,p3,f3,none⟩ (by simp)).2 dn rfl;have hdk:dk<n:=(ho2 ⟨some dk,.extract (.tmp dn) 0,a4,p4,f4,none⟩ (by simp)).2 dk rfl;have hde:de<n:=(Dx (ho3 _ (bE ..))).2 de rfl;have c5b:F5 E.G x=true:=(ho1 ⟨some d0,.move x,aa1,p1,f1,none⟩ (by simp)).1 x (by simp [Op.operands]);simp only [keeps,Bool.and_eq_true,hops,List.all_cons] at hkd hk0;obtain ⟨c9o,r,l,clock,q1,q2,q3,q4,q5,q6,q7⟩:=h1.hp b _ hbm;have hxv:ev t x=.map (some r):=(IQ h1 h2 hx hbm).trans q1;have hrx:=BF h1 h2 hx;rw [hxv] at hrx;have hvx:=Jt hst.1 hst.2 c5b;rw [hxv] at hvx;obtain ⟨ib,hib,hxe⟩:∃ ib,ι r=some ib∧ac.eval x=.map (some ib.blk):=by
  have hg0:m.gen r=0:=by unfold Mem.gen;rw [q4];rfl
  generalize ac.eval x=u at hvx;cases hvx with
  |map _ c ib h hc=>exact ⟨ib,h,by rw [hc hg0]⟩
 have hlen:l.length=cs.length:=by have:=q5.length;rw [bh] at this;omega
 have c5e:clock=cs.length:=by rw [q7.2,hlen]
 obtain ⟨es,hes,c8x⟩:∃ es,w.heap[ib.blk]?=some (.map es clock)∧Dk ι m.gen l es.toList:=by
  have hbr:=hst.1.blk r ib hib;rw [q4] at hbr;cases ho:w.heap[ib.blk]? with
  |none=>rw [ho] at hbr;exact hbr.elim
  |some o =>
   rw [ho] at hbr;cases o<;>simp only [TS] at hbr<;>first|exact hbr.elim|skip
   rename_i es' c';exact ⟨es',by rw [hbr.1],hbr.2⟩
 have hsz:∀ {a:Act} {s:St} {ι:BH} {w:World},DR E.P E.G [] n s ι a w→a.tmps.size=n:=fun h=>h.2.size
 refine wpIn_seq (wpIn_region_list ?_);refine ZY rfl (fun c hc=>by cases hc) run_move ?_;have c6t:(ac.put (some d0) (ac.eval x)).tmps.size=n:=by
  show (ac.tmps.setIfInBounds d0 _).size=n;rw [er];exact hsz hst
 have hrun0:(execOp (ac.put (some d0) (ac.eval x)).eval ⟨some d,.range T (.tmp d0),a2,p2,f2,none⟩).run E.P w=.ok (.value (.pointer (some ⟨w.heap.size,0,none⟩))) (w.alloc (.mapIter (some ib.blk) clock #[] clock)):=by
  simp only [execOp];refine Gw ?_;rw [NY (by rw [hsz hst];exact hd0),if_pos rfl,hxe];exact run_range_map w T kt et ib.blk es clock ht hes
 refine ZY rfl (fun c hc=>by cases hc) hrun0 ?_;have hbel:Go.RowKit.Below w.heap.size w (w.alloc (.mapIter (some ib.blk) clock #[] clock)):=⟨rfl,rfl,rfl,by show w.heap.size≤(w.heap.push _).size;simp,fun c hc=>(by first|exact heap_alloc_old w _ hc|exact heap_alloc_old w _ _ hc)⟩
 have hlt:w.heap.size<(w.alloc (.mapIter (some ib.blk) clock #[] clock)).heap.size:=by show w.heap.size<(w.heap.push _).size;simp
 have hst1:DR E.P E.G [] n ⟨Qr (Qr t d0 (.map (some r))) d (.iface 0 (.int .i64 w.heap.size)),m⟩ ι ((ac.put (some d0) (ac.eval x)).put (some d) (.pointer (some ⟨w.heap.size,0,none⟩))) (w.alloc (.mapIter (some ib.blk) clock #[] clock)):=by
  refine ⟨QH hst.1 hbel,?_⟩;have e1:Rn [] ι m.gen n (Hl t (some d0) (.map (some r))) (ac.put (some d0) (ac.eval x)):=hst.2.put (fun d' e=>by cases e;exact hd0) hvx;exact e1.put (dst:=some d) (fun d' e=>by cases e;exact hdd) (.it _)
 have c5g:RL m F (htag H) σ nx (Hu L (some d0) (.mref b)) (Qr (Qr t d0 (.map (some r))) d (.iface 0 (.int .i64 w.heap.size))):=by
  refine RL.other (RL.set h2 hrx) ?_ _;rw [DU,if_neg hn1];exact hLd
 show (Code.block _ _).wpIn _ _ _ _ _ _;refine (wpIn_block (wpIn_loop_rounds (cs.length+1) ?_));have key:∀ N V s,inv V s→V.Nodup→(∀ i∈V,i<cs.length)→cs.length<N+V.length→∀ m1 F1 σ1 t1 ι1 a1 w1,Ctx E.Γ m1 F1 σ1 (Hf s) Dp→RL m1 F1 (htag (Hf s)) σ1 Dp (Lf s) t1→B.to m1 F1 σ1 (Hf s) Dp →
  Ext ι m w ι1 m1 w1→DR E.P E.G [] n ⟨t1,m1⟩ ι1 a1 w1→BZ t1 d=.iface 0 (.int .i64 w.heap.size)→BZ t1 d0=.map (some r)→w1.heap[w.heap.size]?=some (.mapIter (some ib.blk) cs.length V.toArray cs.length) →
  (∀ y,y≠d0→y≠d→y≠dn→y≠dk→y≠de→UO y tl=true→keeps y rest=true→BZ t1 y=BZ t y) →
  Code.roundsIn Fence.wide 0 E.P (.seq (.region r2 #[⟨some dn,.next (.tmp d) false,a3,p3,f3,none⟩,⟨some dk,.extract (.tmp dn) 0,a4,p4,f4,none⟩] false) (.seq (.cond (.tmp dk) .skip (.exit id)) (.block id2 (.seq (.region r3 ops3 false) rest)))) (Exit.inBlock id R) N a1 w1:=by
  intro N
  induction N with
  |zero =>
   intro V s _ hnd hV hlt;have:=Il _ V hnd hV;omega
  |succ N ih =>
   intro V s hi hnd hV hN m1 F1 σ1 t1 ι1 a1 w1 c1 c2 c3 hE hS hit hmp hob hkp;rw [roundsIn_succ];refine wpIn_seq (wpIn_region_list ?_);obtain ⟨c3y,c1e,c0s⟩:=hL s;obtain ⟨_,rr,l1,clock1,g1,g2,g3,g4,g5,g6,g7⟩:=c1.hp b _ (hH V s hi);have hrr:rr=r:=by
    have hh:=c2 d0 _ c3y;rw [hmp] at hh;have ht':htag (Hf s) b=some .map:=by unfold htag;rw [hH V s hi];rfl
    cases hh with
    |mref _ _ h4 =>
     have:=h4 ht';rw [g1] at this;cases this;rfl
   subst hrr;obtain ⟨ib1,c4v,he1⟩:∃ ib1,ι1 rr=some ib1∧ib1.blk=ib.blk:=by
    obtain ⟨_,ib1,k1,k2⟩:=hE.le rr ib hib;have e1:m1.gen rr=0:=by unfold Mem.gen;rw [g4];rfl
    have e2:m.gen rr=0:=by unfold Mem.gen;rw [q4];rfl
    exact ⟨ib1,k1,by rw [k2 (by rw [e1,e2])]⟩
   have hlen1:l1.length=cs.length:=by have:=g5.length;rw [bh] at this;omega
   have b3y:clock1=cs.length:=by rw [g7.2,hlen1]
   obtain ⟨es1,hes1,fG⟩:∃ es1,w1.heap[ib.blk]?=some (.map es1 clock1)∧Dk ι1 m1.gen l1 es1.toList:=by
    have hbr:=hS.1.blk rr ib1 c4v;rw [g4,he1] at hbr;cases ho:w1.heap[ib.blk]? with
    |none=>rw [ho] at hbr;exact hbr.elim
    |some o =>
     rw [ho] at hbr;cases o<;>simp only [TS] at hbr<;>first|exact hbr.elim|skip
     rename_i es' c';exact ⟨es',by rw [hbr.1],hbr.2⟩
   have hborn:∀ {j:Nat} {e:MapEntry},es1.toList[j]?=some e→e.born=j:=fun {j e} he=>by
    obtain ⟨ea,k1,k2⟩:=pU fG he;rw [k2.2.1];exact b1o g7 k1
   have hold:∀ x∈es1.toList,x.born<cs.length:=fun x hx=>by
    obtain ⟨j,hj,e⟩:=bL.1 hx;have:=hborn (j:=j) (e:=x) (by rw [ai hj,e]);rw [fG.len] at hj;omega
   have hiv:a1.eval (.tmp d)=.pointer (some ⟨w.heap.size,0,none⟩):=by
    have hh:=hS.2.val d;have e:BZ (⟨t1,m1⟩:St).t d=_:=hit;rw [e] at hh;exact Au.b5h hh
   rcases run_next_at w1 a3 w.heap.size ib.blk cs.length cs.length V.toArray es1 clock1 (P:=E.P) hob hes1 hold (ab _) with ⟨hz,hrun⟩|⟨e,hel,w2,hdr,hrun⟩
   ·
    refine ZY (v':=.tuple #[.bool false]) (w':=w1) rfl (fun c hc=>by cases hc) (by simp only [execOp];rw [hiv];exact Gw hrun) ?_;refine ZY (v':=.bool false) (w':=w1) rfl (fun c hc=>by cases hc) (Xd (vs:=#[.bool false]) (by rw [NY (by rw [hsz hS];exact hdn),if_pos rfl]) rfl) ?_;have hsz2:(a1.put (some dn) (.tuple #[.bool false])).tmps.size=n:=by
     show (a1.tmps.setIfInBounds dn _).size=n;rw [er];exact hsz hS
    show (Code.seq _ _).wpIn _ _ _ _ _ _;refine wpIn_seq (wpIn_cond_false (by rw [NY (by rw [hsz2];exact hdk),if_pos rfl]) (wpIn_exit ?_));show (if id=id then _ else _);rw [if_pos rfl];show R .normal _ _;have hall:∀ i,i<cs.length→i∈V:=fun i hil=>fY fun hni=>by
     have hil':i<es1.toList.length:=by rw [fG.len,hlen1];exact hil
     have hm:es1.toList[i]∈(leftOf es1 V.toArray).toList:=Y7.2 ⟨cQ hil',by rw [hborn (ai hil')];exact hni⟩;have:=gA hm;rw [Array.length_toList] at this;omega
    have e1:Rn [] ι1 m1.gen n (Hl t1 (some dn) (.tuple #[.bool false])) (a1.put (some dn) (.tuple #[.bool false])):=hS.2.put (fun d' e=>by cases e;exact hdn) (.tuple [.bool false] [.bool false] rfl fun i hi=>by
     have:i=0:=by simpa using hi
     subst this;exact .bool _)
    have e2:=e1.put (dst:=some dk) (v:=.bool false) (v':=.bool false) (fun d' e=>by cases e;exact hdk) (.bool _);refine hR .normal _ _ _ _ _ (he V s hi hnd hall hV) ⟨m1,F1,σ1,_,ι1,c1,((c2.other c1e (.tuple #[.bool false])).other c0s (.bool false)),c3,hE,⟨hS.1,e2⟩,fun y hy=>?_⟩;simp only [keeps,Bool.and_eq_true,hops,List.all_cons] at hy;obtain ⟨y1,y2,_,⟨⟨y3,y4⟩,y5⟩⟩:=hy;simp only [List.all_nil,Bool.and_true,Bool.and_eq_true,bne_iff_ne,ne_eq,Option.some.injEq] at y1 y2 y3;show BZ (Qr (Qr t1 dn _) dk _) y=_;rw [CY,if_neg y2.2.1,CY,if_neg y2.1];exact hkp y (fun e=>y1.1 e.symm) (fun e=>y1.2.1 e.symm) (fun e=>y2.1 e.symm) (fun e=>y2.2.1 e.symm) (fun e=>y3 e.symm) y4 y5
   ·
    have hem:=Y7.1 hel;obtain ⟨i,hil,hei⟩:=bL.1 hem.1;have hei':es1.toList[i]?=some e:=by rw [ai hil,hei]
    have hbi:=hborn hei';obtain ⟨ea,hea,hka,hba,hpl,hva⟩:=pU fG hei';have hic:i<cs.length:=by rw [fG.len,hlen1] at hil;exact hil
    have hni:i∉V:=by rw [← hbi];exact hem.2
    have hw3:(V.toArray.push e.born)=(V++[i]).toArray:=by rw [hbi];simp
    rw [hw3] at hrun;rw [b3y] at hrun;have hS3:=a8h (o':=.mapIter (some ib.blk) cs.length (V++[i]).toArray cs.length) hS.1 hdr hob rfl (fun es c hc=>by cases hc);have hE3:=a9b hE hdr (ab _) (.mapIter (some ib.blk) cs.length (V++[i]).toArray cs.length);have hh2:w2.heap=w1.heap:=by rcases hdr with rfl|rfl<;>rfl
    have hl0:w.heap.size<w1.heap.size:=(al.1 hob).1;have b9i:(setBlock w2 w.heap.size (.mapIter (some ib.blk) cs.length (V++[i]).toArray cs.length)).heap[w.heap.size]?=some (.mapIter (some ib.blk) cs.length (V++[i]).toArray cs.length):=by
     show (w2.heap.setIfInBounds _ _)[_]?=_;rw [hh2,Array.getElem?_setIfInBounds_self_of_lt hl0]
    have c2x:ib.blk≠w.heap.size:=fun e=>by have:=(hst.1.dom rr ib hib).2;omega
    have hes3:(setBlock w2 w.heap.size (.mapIter (some ib.blk) cs.length (V++[i]).toArray cs.length)).heap[ib.blk]?=some (.map es1 clock1):=by
     show (w2.heap.setIfInBounds _ _)[_]?=_;rw [hh2,eW (fun e=>c2x e.symm)];exact hes1
    generalize setBlock w2 w.heap.size (.mapIter (some ib.blk) cs.length (V++[i]).toArray cs.length)=w3 at *;refine ZY (v':=.tuple #[.bool true,e.key,e.val]) (w':=w3) rfl (fun c hc=>by cases hc) (by simp only [execOp];rw [hiv];exact Gw hrun) ?_;refine ZY (v':=.bool true) (w':=w3) rfl (fun c hc=>by cases hc) (Xd (vs:=#[.bool true,e.key,e.val]) (by rw [NY (by rw [hsz hS];exact hdn),if_pos rfl]) rfl) ?_;have hsz2:(a1.put (some dn) (.tuple #[.bool true,e.key,e.val])).tmps.size=n:=by
     show (a1.tmps.setIfInBounds dn _).size=n;rw [er];exact hsz hS
    show (Code.seq _ _).wpIn _ _ _ _ _ _;refine wpIn_seq (wpIn_cond_true (by rw [NY (by rw [hsz2];exact hdk),if_pos rfl]) (wpIn_skip ?_));show (Code.block _ _).wpIn _ _ _ _ _ _;refine wpIn_block (wpIn_seq (wpIn_region_list ?_));rw [hops];have hkey:Au ι1 m1.gen ea.key e.key:=by rw [hka];exact Au.plain hpl
    have e1:Rn [] ι1 m1.gen n (Hl t1 (some dn) (.tuple ⟨[.bool true,ea.key,ea.val]⟩)) (a1.put (some dn) (.tuple #[.bool true,e.key,e.val])):=hS.2.put (fun d' e=>by cases e;exact hdn) (.tuple _ [.bool true,e.key,e.val] rfl fun i hi=>by
     have:i=0∨i=1∨i=2:=by simp at hi;omega
     rcases this with rfl|rfl|rfl
     ·exact .bool _
     ·exact hkey
     ·exact hva)
    have e2:=e1.put (dst:=some dk) (v:=.bool true) (v':=.bool true) (fun d' e=>by cases e;exact hdk) (.bool _);have hsz3:((a1.put (some dn) (.tuple #[.bool true,e.key,e.val])).put (some dk) (.bool true)).tmps.size=n:=e2.size;have c4e:((a1.put (some dn) (.tuple #[.bool true,e.key,e.val])).put (some dk) (.bool true)).eval (.tmp d)=.pointer (some ⟨w.heap.size,0,none⟩):=by
     rw [NY (by rw [hsz2];exact hdk),if_neg hn4,NY (by rw [hsz hS];exact hdn),if_neg hn2];exact hiv
    refine ZY (v':=.tuple #[e.key,e.val]) (w':=w3) rfl (fun c hc=>by cases hc) (by
     simp only [execOp];rw [c4e];refine Gw (run_entry_at w3 w.heap.size ib.blk cs.length V.toArray es1 clock1 e ?_ hes3 hem.1 ?_)
     ·rw [hw3,b3y];exact b9i
     ·rw [aQ fG,g7.1];exact gk) ?_
    have e3:=e2.put (dst:=some de) (v:=.tuple ⟨[ea.key,ea.val]⟩) (v':=.tuple #[e.key,e.val]) (fun d' e=>by cases e;exact hde) (.tuple _ [e.key,e.val] rfl fun i hi=>by
     have:i=0∨i=1:=by simp at hi;omega
     rcases this with rfl|rfl
     ·exact hkey
     ·exact hva)
    have hik:i<ks.length:=by omega
    have hkk:ks[i]?=some ks[i]:=ai hik;have hcc:cs[i]?=some cs[i]:=ai hic;have hrk:RF m1 F1 ks[i] ea.key:=Dh.at g5 hkk (by rw [av,hea];rfl);have hrc:RP m1 F1 (htag (Hf s)) σ1 Dp cs[i] ea.val:=Dj.at g6 hcc (by rw [av,hea];rfl);have c4z:RL m1 F1 (htag (Hf s)) σ1 Dp (Hu (Lf s) (some de) (.D9 [.p ks[i],cs[i]])) (Hl (Hl (Hl t1 (some dn) (.tuple ⟨[.bool true,ea.key,ea.val]⟩)) (some dk) (.bool true)) (some de) (.tuple ⟨[ea.key,ea.val]⟩)) :=
     RL.set ((c2.other c1e _).other c0s _) (.D9 (.cons (.p hrk) (.cons hrc .nil)))
    refine hs V s i _ _ hi hnd hni hkk hcc hsn (fun o ho=>ho3 o (ao _ ho)) B hB m1 F1 σ1 _ c1 c4z c3 ι1 _ w3 ⟨hS3,e3⟩ _ fun L' H' nx' a' w' q hw=>?_
    obtain ⟨m4,F4,σ4,t4,ι4,d1,d2,d3,hE4,hS4,hk4⟩:=hw.ex;refine q hsn hokr c3i B hB m4 F4 σ4 t4 d1 d2 d3 ι4 a' w' hS4 _ fun e5 L5 H5 nx5 a4h w5 q5 hw5=>?_
    obtain ⟨m6,F6,σ6,t6,ι6,x1,x2,x3,hE6,hS6,hk6⟩:=hw5.ex;have b9w:=Ext.trans hS3 hE4 hE6;have hE0:=Ext.trans hst.1 hE3 b9w;have c4w:=a6c hS3 b9w b9i rfl (fun es c hc=>by cases hc);have ht6:∀ y,y≠dn→y≠dk→y≠de→UO y tl=true→keeps y rest=true→BZ t6 y=BZ t1 y:=fun y y1 y2 y3 y4 y5=>by
     rw [hk6 y y5,hk4 y y4];simp only [Hl];rw [CY,if_neg (fun e=>y3 e.symm),CY,if_neg (fun e=>y2 e.symm),CY,if_neg (fun e=>y1 e.symm)]
    have hd6:BZ t6 d=.iface 0 (.int .i64 w.heap.size):=by rw [ht6 d (fun e=>hn2 e.symm) (fun e=>hn4 e.symm) (fun e=>hn6 e.symm) hkd.1.2 hkd.2];exact hit
    have hm6:BZ t6 d0=.map (some rr):=by
     have:de≠d0:=fun e=>by
      have:=hk0.1.1;simp [e] at this
     rw [ht6 d0 (fun e=>hn3 e.symm) (fun e=>hn5 e.symm) (fun e=>this e.symm) hk0.1.2 hk0.2];exact hmp
    have b8z:∀ y,y≠d0→y≠d→y≠dn→y≠dk→y≠de→UO y tl=true→keeps y rest=true→BZ t6 y=BZ t y:=fun y y1 y2 y3 y4 y5 y6 y7=>(ht6 y y3 y4 y5 y6 y7).trans (hkp y y1 y2 y3 y4 y5 y6 y7)
    have hout:∀ y,keeps y (.seq (.region r1 #[⟨some d0,.move x,aa1,p1,f1,none⟩,⟨some d,.range T (.tmp d0),a2,p2,f2,none⟩] false)
     (.block id (.loop (.seq (.region r2 #[⟨some dn,.next (.tmp d) false,a3,p3,f3,none⟩,⟨some dk,.extract (.tmp dn) 0,a4,p4,f4,none⟩] false) (.seq (.cond (.tmp dk) .skip (.exit id)) (.block id2 (.seq (.region r3 ops3 false) rest)))))))=true→BZ t6 y=BZ t y:=fun y hy=>by
     simp only [keeps,Bool.and_eq_true,hops,List.all_cons] at hy;obtain ⟨y1,y2,_,⟨⟨y3,y4⟩,y5⟩⟩:=hy;simp only [List.all_nil,Bool.and_true,Bool.and_eq_true,bne_iff_ne,ne_eq,Option.some.injEq] at y1 y2 y3;exact b8z y (fun e=>y1.1 e.symm) (fun e=>y1.2.1 e.symm) (fun e=>y2.1 e.symm) (fun e=>y2.2.1 e.symm) (fun e=>y3 e.symm) y4 y5
    have fin:∀ e',Ag (fun L' H' nx'=>∃ s',inv (V++[i]) s'∧aU L' H' nx' (Lf s') (Hf s') Dp) (Bf id Q) e' L5 H5 nx5→Exit.then (Code.roundsIn Fence.wide 0 E.P (.seq (.region r2 #[⟨some dn,.next (.tmp d) false,a3,p3,f3,none⟩,⟨some dk,.extract (.tmp dn) 0,a4,p4,f4,none⟩] false) (.seq (.cond (.tmp dk) .skip (.exit id)) (.block id2 (.seq (.region r3 ops3 false) rest)))) (Exit.inBlock id R) N) (Exit.inBlock id R) e'.toExit a4h w5:=fun e' qq=>by
     cases e' with
     |normal =>
      obtain ⟨s',i1,i2⟩:=qq;have hnd':(V++[i]).Nodup:=eJ.2 ⟨hnd,by simp,fun a ha b hb=>by
       rw [aL] at hb;subst hb;exact fun e=>hni (e▸ha)⟩
      refine ih (V++[i]) s' i1 hnd' (fun j hj=>?_) (by rw [aw];show _<N+(V.length+1);omega) m6 F6 σ6 t6 ι6 a4h w5 (i2.ctx x1) (i2.rl x2) (i2.step (by omega) x3) hE0 hS6 hd6 hm6 c4w b8z;rcases bk.1 hj with h|h
      ·exact hV j h
      ·rw [aL] at h;omega
     |ret=>exact hR .ret L5 H5 nx5 a4h w5 qq ⟨m6,F6,σ6,t6,ι6,x1,x2,x3,hE0,hS6,fun y hy=>hout y hy⟩
     |exit j =>
      show (if j=id then _ else _);simp only [Ag,Bf] at qq;split
      ·rename_i e;rw [if_pos e] at qq
       exact hR .normal L5 H5 nx5 a4h w5 qq ⟨m6,F6,σ6,t6,ι6,x1,x2,x3,hE0,hS6,fun y hy=>hout y hy⟩
      ·rename_i e;rw [if_neg e] at qq
       exact hR (.exit j) L5 H5 nx5 a4h w5 qq ⟨m6,F6,σ6,t6,ι6,x1,x2,x3,hE0,hS6,fun y hy=>hout y hy⟩
    cases e5 with
    |normal=>exact fin .normal q5
    |ret=>exact fin .ret q5
    |exit j =>
     show (if j=id2 then _ else _);simp only [Bf] at q5;split
     ·rename_i e;rw [if_pos e] at q5;exact fin .normal q5
     ·rename_i e;rw [if_neg e] at q5;exact fin (.exit j) q5
 refine key (cs.length+1) [] s0 h0 cC (fun i hi=>by cases hi) (by simp) m F σ _ ι _ _ (hc.ctx h1) (hc.rl c5g) (hc.step (by omega) h3) (Vh (Ext.refl _ _ _) hbel) hst1 ?_ ?_ ?_ fun y y1 y2 _ _ _ _ _=>?_
 ·rw [CY,if_pos rfl]
 ·rw [CY,if_neg (fun e=>hn1 e.symm),CY,if_pos rfl]
 ·rw [heap_alloc_new,c5e]
 ·rw [CY,if_neg (fun e=>y2 e.symm),CY,if_neg (fun e=>y1 e.symm)]
end Go.Vm
