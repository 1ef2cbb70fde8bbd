/-
  Texts of a proof, merged (Vm45, HanQ, Wm5, HanN, HanS, HanT, HanU). Conditions: in each statement.
-/
import Derived.Test.YtnjkoebfgcbbdaaGreatDoorKBo
set_option linter.unusedSimpArgs false
set_option linter.unusedVariables false
set_option linter.unusedSectionVars false
set_option maxRecDepth 100000
set_option maxHeartbeats 8000000
abbrev dq:=@List.foldl_append
abbrev fR:=@List.perm_ext_iff_of_nodup
abbrev gD:=@List.flatMap_singleton
abbrev gT:=@List.map_eq_nil_iff
abbrev hX:=@List.flatMap_append
namespace Go.Vm
open Go.Am
def keyAt {α:Type} [DecidableEq α]:List α→α→Option Nat
 |[],_=>none
 |x::l,a=>if a=x then some 0 else (keyAt l a).map (·+1)
structure Hg (P:Program) (t:TypeId) {α:Type} [DecidableEq α] (kf:α→FV) (kv:α→Value):Prop where
 rel:∀ {m:Mem} {F:Nat→Prop} {a:α} {v:Value},RF m F (kf a) v→v=kv a
 of:∀ {m:Mem} {F:Nat→Prop} (a:α),RF m F (kf a) (kv a)
 plain:∀ a,Am.plain (kv a)=true
 bits:∀ a,((Ef P t).isSome||Instr.sameBits 10000 (kv a) (kv a))=true
 find:∀ (fl:Bool) (a:α) (ks:List α) (l:List MapEntry),l.map (·.key)=ks.map kv→Iy P fl t (kv a) l=some ((keyAt ks a).bind fun j=>(l[j]?).map fun e=>(j,e.val))
def NC {α:Type} (kf:α→FV) (es:List (α×PV)):HB:=.JB (es.map fun x=>kf x.1) (es.map (·.2))
theorem Y8 {α β:Type} [DecidableEq α] (a:α):∀ (es:List (α×β)),(BO es a=none→keyAt (es.map (·.1)) a=none∧∀ b,Cb es a b=es++[(a,b)]) ∧
 (∀ c,BO es a=some c→∃ j,keyAt (es.map (·.1)) a=some j∧es[j]?=some (a,c)∧∀ b,Cb es a b=es.set j (a,b))
 |[]=>⟨fun _=>⟨rfl,fun _=>rfl⟩,fun c h=>by cases h⟩
 |x::es=>by
  obtain ⟨h1,h2⟩:=Y8 a es;unfold BO Cb;simp only [List.map_cons,keyAt];grind
theorem Hg.c0f {P:Program} {t:TypeId} {α:Type} [DecidableEq α] {kf:α→List FV} {kv:α→List Value} (hv:∀ a,FB (kf a)=some (kv a)) (hg:SX P t=true) (he:∀ a b,Dt P (Op.equal t (.agg (kv a).toArray) (.agg (kv b).toArray))=some (decide (a=b)))
 (hc:∀ fl a,Xx P (Instr.checkKey fl 10000 t (.agg (kv a).toArray))=true):Hg P t (fun a=>.agg (kf a)) (fun a=>.agg (kv a).toArray):=by
 have h:IsKey P t kf kv:=⟨hv,hg,he,hc⟩
 refine ⟨fun r=>h.rel r,fun a=>h.of a,fun a=>h.plain a,fun a=>by rw [h.bits,Bool.or_true],fun fl a ks l hl=>?_⟩;rw [YD h];have key:∀ (ks:List α) (l:List MapEntry) (i:Nat),l.map (·.key)=ks.map (fun a=>.agg (kv a).toArray)→Dt P (Instr.findAsking t (.agg (kv a).toArray) l i)=some ((keyAt ks a).bind fun j=>(l[j]?).map fun e=>(i+j,e.val)):=by
  intro ks
  induction ks with
  |nil =>
   intro l i h1;rw [eE,gT] at h1;subst h1;rfl
  |cons x ks ih =>
   intro l i h1;cases l with
   |nil=>grind
   |cons y l =>
    simp only [List.map_cons,List.cons.injEq] at h1;rw [Instr.findAsking,h1.1];simp only [Ar,he,Option.bind_some,keyAt];by_cases e:a=x
    ·rw [decide_eq_true e,if_pos e];rfl
    ·rw [decide_eq_false e,if_neg e]
     show Dt P (Instr.findAsking t (.agg (kv a).toArray) l (i+1))=_;rw [ih l (i+1) h1.2];cases keyAt ks a with
     |none=>rfl
     |some j =>
      grind
 grind
theorem Hg.ofStr {P:Program} {t:TypeId} {α:Type} [DecidableEq α] {f:α→ByteArray} (hi:∀ a b,f a=f b→a=b) (ht:P.underlying t=some .string):Hg P t (fun a=>.str (f a)) (fun a=>.string (f a)):=by
 have hk:Ef P t=some .string:=by unfold Ef;rw [ht]
 refine ⟨fun r=>by cases r;rfl,fun a=>.str _,fun a=>rfl,fun a=>by grind,fun fl a ks l hl=>?_⟩;unfold Iy;have key:∀ (ks:List α) (l:List MapEntry) (i:Nat),l.map (·.key)=ks.map (fun a=>.string (f a))→Instr.findNow .string (.string (f a)) l i=some ((keyAt ks a).bind fun j=>(l[j]?).map fun e=>(i+j,e.val)):=by
  intro ks
  induction ks with
  |nil =>
   intro l i h1;rw [eE,gT] at h1;subst h1;rfl
  |cons x ks ih =>
   intro l i h1;cases l with
   |nil=>grind
   |cons y l =>
    simp only [List.map_cons,List.cons.injEq] at h1;unfold Instr.findNow;rw [h1.1];simp only [Instr.sameNow,keyAt];by_cases e:a=x
    ·subst e
     rw [show (f a==f a)=true by simp [Np],if_pos rfl];rfl
    ·have hne:(f a==f x)=false:=by
      rw [Np];refine decide_eq_false fun h2=>e (hi _ _ ?_)
      cases hfa:f a;simp_all
     rw [hne,if_neg e];rw [ih l (i+1) h1.2];cases keyAt ks a with
     |none=>rfl
     |some j =>
      grind
 grind
section
variable {P:Program} {α:Type} [DecidableEq α] {kf:α→FV} {kv:α→Value} {t:TypeId}
theorem jZ (h:Hg P t kf kv) {m:Mem} {F:Nat→Prop}:∀ {es:List (α×PV)} {ks:List Value},Df m F (es.map fun x=>kf x.1) ks→ks=(es.map (·.1)).map kv
 |[],_,r=>by cases r;rfl
 |x::es,_,r=>by
  cases r with
  |cons r1 r2=>rw [h.rel r1,jZ h r2];rfl
theorem o7 (h:Hg P t kf kv) {m:Mem} {F:Nat→Prop}:∀ (es:List (α×PV)),Df m F (es.map fun x=>kf x.1) ((es.map (·.1)).map kv)
 |[]=>.nil
 |x::l=>.cons (h.of x.1) (o7 h l)
theorem Dj.atG {m:Mem} {F:Nat→Prop} {T:Nat→Option Tg} {σ:Nat→Value} {n:Nat}:∀ {xs:List PV} {vs:List Value} {i:Nat} {x:PV} {v:Value},Dj m F T σ n xs vs→xs[i]?=some x→vs[i]?=some v→RP m F T σ n x v
 |_,_,i,_,_,.nil,h,_=>by grind
 |_,_,0,_,_,.cons h t,h1,h2=>by grind
 |_,_,i+1,_,_,.cons h t,h1,h2=>Dj.atG t (by assumption) (by grind)
theorem vF (h:Hg P t kf kv) {m:Mem} {F:Nat→Prop} {T:Nat→Option Tg} {σ:Nat→Value} {n:Nat} (fl:Bool) (a:α) {es:List (α×PV)} {l:List MapEntry} (h1:l.map (·.key)=(es.map (·.1)).map kv) (h2:Dj m F T σ n (es.map (·.2)) (l.map (·.val))) :
 (BO es a=none→Iy P fl t (kv a) l=some none∧∀ b,Cb es a b=es++[(a,b)]) ∧
 (∀ c,BO es a=some c→∃ j v e,Iy P fl t (kv a) l=some (some (j,v))∧RP m F T σ n c v∧l[j]?=some e∧e.key=kv a∧e.val=v∧∀ b,Cb es a b=es.set j (a,b)):=by
 obtain ⟨g1,g2⟩:=Y8 a es;have hf:=h.find fl a (es.map (·.1)) l h1;refine ⟨fun hn=>?_,fun c hc=>?_⟩
 ·grind
 ·obtain ⟨j,k1,k2,k3⟩:=g2 c hc
  have hlen:l.length=es.length:=by
   have:=congrArg List.length h1;grind
  have hj:j<l.length:=by grind
  rw [k1] at hf;simp only [Option.bind_some,List.getElem?_eq_getElem hj,Option.map_some] at hf;refine ⟨j,l[j].val,l[j],hf,?_,ai hj,?_,rfl,k3⟩
  ·have e1:(es.map (·.2))[j]?=some c:=by grind
   have e2:(l.map (·.val))[j]?=some l[j].val:=by grind
   exact Dj.atG h2 e1 e2
  ·have e1:(l.map (·.key))[j]?=some l[j].key:=by grind
   grind
variable {E:Env} {L:Vm.Frame} {H:Vm.Heap} {nx:Nat} {Q:PV→Vm.Heap→Nat→Prop} {w:Bool} {dst:Option Tmp} {ty:TypeId} {pos:String} {af:Array Edge} {gd:Option (Nat×Bool)}
theorem UY {Γ:Nat→Option (List Value×TypeId)} {m:Mem} {F:Nat→Prop} {σ:Nat→Value} {tt:Tr Value} {a:α} {o:Operand} (h:Hg P t kf kv) (hx:Ctx Γ m F σ H nx) (hl:RL m F (htag H) σ nx L tt) (hv:AU Γ L o=some (.p (kf a))):ev tt o=kv a:=by
 have:=BA hx hl hv;cases this with
 |p r=>exact h.rel r
theorem Aa.lookupGo {t kt et:TypeId} {x k:Operand} {b:Nat} {es:List (α×PV)} {a:α} {z:Value} {c:PV} (hkt:Hg E.P kt kf kv) (hx:AU E.Γ L x=some (.mref b)) (hb:hget H b=some (NC kf es)) (hk:AU E.Γ L k=some (.p (kf a)))
 (ht:E.P.underlying t=some (.map kt et)) (hz:zeroOf E.P et=some z) (hzp:Am.plain z=true) (hv:Lj E H nx es a z c) (q:Q (.Eb [c,.p (.bool (BO es a).isSome)]) H nx):Aa E w ⟨dst,.lookup t x k true,ty,pos,af,gd⟩ L H nx Q :=
 Aa.quiet q fun m F σ tt c1 c2=>by
  obtain ⟨_,r,l,clock,r1,r2,r3,r4,r5,r6,r7⟩:=c1.hp b _ hb;have e1:=jZ hkt r5;have hpl:(Am.plain z&&Am.plain (kv a))=true:=by rw [hzp,hkt.plain];rfl
  obtain ⟨f1,f2⟩:=vF hkt l.isEmpty a e1 r6;rcases hv with hv|⟨hv,hc⟩
  ·obtain ⟨j,u,e,f3,f4,_⟩:=f2 c hv
   refine ⟨.tuple #[u,.bool true],fun _=>?_,?_⟩
   ·simp only [BR,Fq,Mc,ht,hz,I7 c1 c2 hx hb,UY hkt c1 c2 hk,r1,r4,hpl,if_true,f3,Option.map_some]
   ·rw [hv];exact .Eb (.cons f4 (.cons (.p (.bool _)) .nil))
  ·have f3:=(f1 hv).1
   refine ⟨.tuple #[z,.bool false],fun _=>?_,?_⟩
   ·simp only [BR,Fq,Mc,ht,hz,I7 c1 c2 hx hb,UY hkt c1 c2 hk,r1,r4,hpl,if_true,f3,Option.map_some]
   ·rw [hv];exact .Eb (.cons (hc m F σ c1) (.cons (.p (.bool _)) .nil))
theorem Kw {m:Mem} {F:Nat→Prop} {σ:Nat→Value} {kt:TypeId} {b r:Nat} {es es':List (α×PV)} {l':List MapEntry} {clock':Nat} (hkt:Hg P kt kf kv) {Γ:Nat→Option (List Value×TypeId)} (c1:Ctx Γ m F σ H nx) (hb:hget H b=some (NC kf es)) (r1:σ b=.map (some r)) (r2:r<m.size) (r3:¬ F r)
 (k1:l'.map (·.key)=(es'.map (·.1)).map kv) (k2:Dj m F (htag H) σ nx (es'.map (·.2)) (l'.map (·.val))) (k3:Stamped l' clock') :
 Ctx Γ (m.put r (.map l' clock')) F σ (hput H b (NC kf es')) nx∧Step m F σ H nx (m.put r (.map l' clock')) F σ (hput H b (NC kf es')) nx:=by
 have hput':∀ d' x,r≠d'→(m.put r x).get d'=m.get d':=fun d' x hd=>by rw [Mem.get_put,if_neg hd]
 have:=c1.change (m':=m.put r (.map l' clock')) (x':=NC kf es') (s':=σ b) hb trivial (fun _=>rfl) (ab _)
  (fun d' _ hd=>hput' d' _ fun e=>hd (by rw [r1,e];rfl)) (fun k k1 k2 k3=>by
   have:=k3 r (by rw [r1];rfl);simp only [Mem.put];omega) (fun d' hd=>.inl hd) (by
   have hF:∀ d',F d'→F d'∧(m.put r (.map l' clock')).get d'=m.get d':=fun d' hd=>⟨hd,hput' d' _ fun e=>r3 (e▸hd)⟩
   refine ⟨r,l',clock',r1,r2,r3,by rw [Mem.get_put,if_pos rfl],?_,?_,k3⟩
   ·rw [k1]
    exact o7 hkt es'
   ·exact k2.mono hF (G6 (x':=NC kf es') hb trivial fun _=>rfl) (ab _))
 rw [a7y] at this;omega
theorem Aa.a0y {t kt et:TypeId} {x k y:Operand} {b:Nat} {es:List (α×PV)} {a:α} {c:PV} (hkt:Hg E.P kt kf kv) (hx:AU E.Γ L x=some (.mref b)) (hb:hget H b=some (NC kf es)) (hk:AU E.Γ L k=some (.p (kf a))) (hy:AU E.Γ L y=some c)
 (ht:E.P.underlying t=some (.map kt et)) {H':Vm.Heap} (hH:hput H b (NC kf (Cb es a c))=H') (q:Q (.Eb []) H' nx):Aa E true ⟨dst,.mapUpdate t x k y,ty,pos,af,gd⟩ L H nx Q:=by
 subst hH;intro m F σ tt c1 c2;obtain ⟨_,r,l,clock,r1,r2,r3,r4,r5,r6,r7⟩:=c1.hp b _ hb;have e1:=jZ hkt r5;obtain ⟨f1,f2⟩:=vF hkt false a e1 r6;have hyv:=BA c1 c2 hy;have hup:Jc E.P t (ev tt x) (ev tt k) (ev tt y) m=match Iy E.P false kt (kv a) l with
  |some (some (i,_))=>if (Ef E.P kt).isSome||Instr.sameBits 10000 (((l[i]?).map (·.key)).getD (kv a)) (kv a) then some (m.put r (.map (l.modify i fun e=>{ e with key:=kv a,val:=ev tt y }) clock)) else none
  |some none=>some (m.put r (.map (l++[{ key:=kv a,val:=ev tt y,born:=clock }]) (clock+1)))
  |none=>none:=by
  unfold Jc;simp only [ht,I7 c1 c2 hx hb,UY hkt c1 c2 hk,r1,r4,hkt.plain,if_true];rfl
 cases hl:BO es a with
 |none =>
  obtain ⟨f3,f4⟩:=f1 hl;rw [f3] at hup;obtain ⟨d1,d2⟩:=Kw hkt c1 hb r1 r2 r3 (es':=Cb es a c) (l':=l++[{ key:=kv a,val:=ev tt y,born:=clock }]) (clock':=clock+1) (by grind) (by rw [f4 c,bm,bm];exact Dj.snoc r6 hyv) r7.push;exact Gp.op (v:=undef) (fun _=>by simp only [BR,Fq,hup,Option.map_some]) ⟨_,_,_,F,_,q,d1,.Eb .nil,d2,fun h=>by cases h⟩
 |some c0 =>
  obtain ⟨j,u,e0,f3,f4,f5,f5',_,f6⟩:=f2 c0 hl;rw [f3] at hup;simp only [f5,Option.map_some,Option.getD_some,f5',hkt.bits,if_true] at hup;have hmod:∀ (g:MapEntry→MapEntry),l.modify j g=l.set j (g e0):=fun g=>La f5
  obtain ⟨d1,d2⟩:=Kw hkt c1 hb r1 r2 r3 (es':=Cb es a c) (l':=l.modify j fun e=>{ e with key:=kv a,val:=ev tt y }) (by simp_all) (by rw [hmod,f6 c,cG,cG];exact r6.set j hyv) (r7.modify fun _=>rfl);exact Gp.op (v:=undef) (fun _=>by simp only [BR,Fq,hup,Option.map_some]) ⟨_,_,_,F,_,q,d1,.Eb .nil,d2,fun h=>by cases h⟩
theorem Aa.zL {t kt et:TypeId} {x k y:Operand} {b:Nat} {es:List (α×PV)} {a:α} {c:PV} (hkt:Hg E.P kt kf kv) (hx:AU E.Γ L x=some (.mref b)) (hb:hget H b=some (NC kf es)) (hk:AU E.Γ L k=some (.p (kf a))) (hy:AU E.Γ L y=some c)
 (ht:E.P.underlying t=some (.map kt et)) {H':Vm.Heap} (hH:hput H b (NC kf (Cb es a c))=H') (q:Q (.Eb []) H' nx):Aa E true ⟨dst,.insert t x k y,ty,pos,af,gd⟩ L H nx Q:=by
 subst hH;intro m F σ tt c1 c2;obtain ⟨_,r,l,clock,r1,r2,r3,r4,r5,r6,r7⟩:=c1.hp b _ hb;have e1:=jZ hkt r5;obtain ⟨f1,f2⟩:=vF hkt false a e1 r6;have hyv:=BA c1 c2 hy;have hup:Jc E.P t (ev tt x) (ev tt k) (ev tt y) m=match Iy E.P false kt (kv a) l with
  |some (some (i,_))=>if (Ef E.P kt).isSome||Instr.sameBits 10000 (((l[i]?).map (·.key)).getD (kv a)) (kv a) then some (m.put r (.map (l.modify i fun e=>{ e with key:=kv a,val:=ev tt y }) clock)) else none
  |some none=>some (m.put r (.map (l++[{ key:=kv a,val:=ev tt y,born:=clock }]) (clock+1)))
  |none=>none:=by
  unfold Jc;simp only [ht,I7 c1 c2 hx hb,UY hkt c1 c2 hk,r1,r4,hkt.plain,if_true];rfl
 cases hl:BO es a with
 |none =>
  obtain ⟨f3,f4⟩:=f1 hl;rw [f3] at hup;obtain ⟨d1,d2⟩:=Kw hkt c1 hb r1 r2 r3 (es':=Cb es a c) (l':=l++[{ key:=kv a,val:=ev tt y,born:=clock }]) (clock':=clock+1) (by grind) (by rw [f4 c,bm,bm];exact Dj.snoc r6 hyv) r7.push;exact Gp.op (v:=undef) (fun _=>by simp only [BR,Fq,hup,Option.map_some]) ⟨_,_,_,F,_,q,d1,.Eb .nil,d2,fun h=>by cases h⟩
 |some c0 =>
  obtain ⟨j,u,e0,f3,f4,f5,f5',_,f6⟩:=f2 c0 hl;rw [f3] at hup;simp only [f5,Option.map_some,Option.getD_some,f5',hkt.bits,if_true] at hup;have hmod:∀ (g:MapEntry→MapEntry),l.modify j g=l.set j (g e0):=fun g=>La f5
  obtain ⟨d1,d2⟩:=Kw hkt c1 hb r1 r2 r3 (es':=Cb es a c) (l':=l.modify j fun e=>{ e with key:=kv a,val:=ev tt y }) (by simp_all) (by rw [hmod,f6 c,cG,cG];exact r6.set j hyv) (r7.modify fun _=>rfl);exact Gp.op (v:=undef) (fun _=>by simp only [BR,Fq,hup,Option.map_some]) ⟨_,_,_,F,_,q,d1,.Eb .nil,d2,fun h=>by cases h⟩
theorem ZA {d:Nat} (xs ys:Array Value) {g:Option Bool×Unit→Sem Bool} (g0:g (none,())=pure true) (g1:∀ b,g (some b,())=pure b):∀ (fs:List Field) (bs:List Bool),fs.length=bs.length→(∀ (i:Nat) (f:Field) (b:Bool),fs[i]?=some f→bs[i]?=some b→f.name≠"_"∧∃ x y,Dt P (part f.type xs f.offset)=some x∧Dt P (part f.type ys f.offset)=some y∧Dt P (Op.equalIn d f.type x y)=some b) →
 Dt P ((forIn fs ((none,()):Option Bool×Unit) fun f _=>(do
     if f.name≠"_" then
      if (!(← Op.equalIn d f.type (← part f.type xs f.offset) (← part f.type ys f.offset)))=true then pure (ForInStep.done (some false,())) else pure (ForInStep.yield (none,()))
     else pure (ForInStep.yield (none,())):Sem (ForInStep (Option Bool×Unit)))) >>= g)=some (bs.all id)
 |[],[],_,h=>by
  simp only [List.forIn_nil,Ar,BQ,Option.bind_some,g0];rfl
 |f::fs,b::bs,hl,h=>by
  obtain ⟨hn,x,y,h1,h2,h3⟩:=h 0 f b rfl rfl;have ih:=ZA (d:=d) xs ys g0 g1 fs bs (by grind) fun i f b hf hb=>h (i+1) f b (by grind) (by grind)
  rw [em];simp only [Ar,ne_eq,hn,not_false_eq_true,if_true,h1,h2,Option.bind_some,h3];cases b with
  |false=>simp [BQ,g1]
  |true =>
   simp only [Bool.not_true,Bool.false_eq_true,if_false,BQ,Option.bind_some,List.all_cons,id_eq,Bool.true_and];rw [Ar] at ih;omega
 |[],_::_,hl,_=>by grind
 |_::_,[],hl,_=>by grind
theorem dZ {d:Nat} {t:TypeId} {fs:Array Field} {xs ys:Array Value} {bs:List Bool} (ht:P.underlying t=some (.struct fs)) (hp:P.stoodInHeld t=false) (hl:fs.toList.length=bs.length)
 (h:∀ (i:Nat) (f:Field) (b:Bool),fs.toList[i]?=some f→bs[i]?=some b→f.name≠"_"∧∃ x y,Dt P (part f.type xs f.offset)=some x∧Dt P (part f.type ys f.offset)=some y∧Dt P (Op.equalIn d f.type x y)=some b) :
 Dt P (Op.equalIn (d+1) t (.agg xs) (.agg ys))=some (bs.all id):=by
 rw [Op.equalIn];simp only [Ar,AV,ht,Option.bind_some,program,Dt,hp,Bool.false_eq_true,if_false];rw [← eI,← Ar];exact ZA (d:=d) xs ys rfl (fun b=>rfl) fs.toList bs hl h
theorem aV {d:Nat} {t e:TypeId} {xs ys:Array Value} {n:Nat} {x0 y0 x1 y1:Value} {b0 b1:Bool} (ht:P.underlying t=some (.array 2 e)) (hn:(P.info? e).map (·.size)=some n) (p0:Dt P (part e xs 0)=some x0) (p1:Dt P (part e ys 0)=some y0) (p2:Dt P (part e xs n)=some x1) (p3:Dt P (part e ys n)=some y1)
 (h0:Dt P (Op.equalIn d e x0 y0)=some b0) (h1:Dt P (Op.equalIn d e x1 y1)=some b1):Dt P (Op.equalIn (d+1) t (.agg xs) (.agg ys))=some (b0&&b1):=by
 rw [Op.equalIn];simp only [Ar,AV,ht,Option.bind_some,FM,hn];rw [Std.Legacy.Range.forIn_eq_forIn_range'];show ((Dt P (forIn [0,1] _ _)).bind _)=_;rw [em];simp only [Ar,Nat.zero_mul,p0,p1,h0,Option.bind_some];cases b0 with
 |false=>rfl
 |true =>
  simp only [Bool.not_true,Bool.false_eq_true,if_false,BQ,Option.bind_some,List.forIn_cons,List.forIn_nil,Ar,Nat.one_mul,p2,p3,h1];cases b1<;>rfl
theorem EU {t:TypeId} {cs:Array Value} {o n:Nat} (ha:Gv P t=some true) (hn:(P.info? t).map (·.size)=some n):Dt P (part t cs o)=some (.agg (cs.extract o (o+n))):=by
 simp only [part,Ar,Rj,ha,Option.bind_some,if_true,FM,hn,BQ]
theorem bJ {fl:Bool} {n:Nat} {t:TypeId} {fs:Array Field} {xs:Array Value} (ht:P.underlying t=some (.struct fs)) (h:∀ f∈fs.toList,∃ x,Dt P (part f.type xs f.offset)=some x∧Dt P (Instr.checkKey fl n f.type x)=some ()):Dt P (Instr.checkKey fl (n+1) t (.agg xs))=some ():=by
 rw [Instr.checkKey];simp only [Ar,AV,ht,Option.bind_some];rw [← eI];generalize fs.toList=l at h;have key:∀ l:List Field,(∀ f∈l,∃ x,Dt P (part f.type xs f.offset)=some x∧Dt P (Instr.checkKey fl n f.type x)=some ())→Dt P (forIn l PUnit.unit fun f _=>(do
  if f.name≠"_" then do
   let x ← part f.type xs f.offset
   Instr.checkKey fl n f.type x
   pure (ForInStep.yield PUnit.unit)
  else pure (ForInStep.yield PUnit.unit):Sem (ForInStep PUnit)))=some PUnit.unit:=by
  intro l
  induction l with
  |nil=>intro _;rfl
  |cons f l ih =>
   intro h;obtain ⟨x,h1,h2⟩:=h f (by simp);have ih:=ih fun f hf=>h f (aq _ hf)
   rw [em,Ar];by_cases hn:f.name≠"_"
   ·rw [if_pos hn]
    simp only [Ar,h1,Option.bind_some,h2,BQ];omega
   ·rw [if_neg hn]
    assumption
 rw [key l h];rfl
theorem XD {fl:Bool} {n:Nat} {t e:TypeId} {xs:Array Value} {k:Nat} {x0 x1:Value} (ht:P.underlying t=some (.array 2 e)) (hk:(P.info? e).map (·.size)=some k) (p0:Dt P (part e xs 0)=some x0) (p1:Dt P (part e xs k)=some x1)
 (h0:Dt P (Instr.checkKey fl n e x0)=some ()) (h1:Dt P (Instr.checkKey fl n e x1)=some ()):Dt P (Instr.checkKey fl (n+1) t (.agg xs))=some ():=by
 rw [Instr.checkKey];simp only [Ar,AV,ht,Option.bind_some];rw [Std.Legacy.Range.forIn_eq_forIn_range'];show ((Dt P (forIn [0,1] _ _)).bind _)=_;simp only [List.forIn_cons,List.forIn_nil,Ar,BQ,Nat.zero_mul,Nat.one_mul,FM,hk,p0,p1,h0,h1,Option.bind_some]
theorem Qe {fl:Bool} {n:Nat} {t:TypeId} {d:TypeDesc} {x:Value} (ht:P.underlying t=some d) (hd:b0l d=true):Dt P (Instr.checkKey fl (n+1) t x)=some ():=by
 rw [Instr.checkKey];simp only [Ar,AV,ht,Option.bind_some];cases d<;>first|rfl|cases hd
theorem Aw.iR (d:Nat) {b:Nat} {e:TypeId} {ds:List PV} (cs:List FV) (hd:EZ L d=some (.ref b 0)) (hb:hget H b=some (.box e ds)) (hds:ds=cs.map .p):Aw E L H nx ((d,.p (.ES cs))::L) (hdel H b) nx:=fun B m F σ t h1 h2 h3=>by
 subst hds;obtain ⟨c1,c2⟩:=nO h1 hb;refine ⟨_,σ,c1,fun i v hi=>?_,h3.trans c2⟩;rw [DY] at hi;by_cases ei:d=i
 ·rw [if_pos ei] at hi;cases hi
  have:=h2 d _ hd;subst ei;cases this with
  |ref hb' hc h =>
   obtain ⟨c0,hs,hv⟩:=h (by simp [htag,hb,HB.tag]);obtain ⟨_,c,vs,r1,r2,r3,r4,r5,r6⟩:=h1.hp b _ hb;rw [r1] at hs;cases hs;rw [hv];have r5':=Df.bU r5;refine .p (.ES (g:=0) (.inr (by rw [r1];rfl)) r4 rfl ?_ (r5'.mono fun c hc=>⟨.inl hc,rfl⟩) r6);rw [cB,r5'.length];simp [takeN]
 ·rw [if_neg ei] at hi
  exact (h2 i v hi).step c2 h1
theorem Aa.a1i {x:Operand} {cs:List FV} (hx:AU E.Γ L x=some (.p (.ES cs))) (q:Q (.p (.ES cs)) H nx):Aa E w ⟨dst,.nilCheck x,ty,pos,af,gd⟩ L H nx Q :=
 Aa.quiet q fun m F σ tt h1 h2=>by
  obtain ⟨a,h3,h4⟩:=bK h1 h2 hx;exact ⟨_,fun _=>by simp only [BR,Fq,h3],.p h4⟩
theorem Aa.a9g {t t2 e:TypeId} {x y:Operand} {cs:List FV} (hx:AU E.Γ L x=some (.p (.ES cs))) (hy:AU E.Γ L y=some (.p (.val (.pointer none)))) (ht:E.P.underlying t=some (.pointer e)) (q:Q (.p (.bool false)) H nx) :
 Aa E w ⟨dst,.binOp .eql t x y t2,ty,pos,af,gd⟩ L H nx Q:=Aa.quiet q fun m F σ tt h1 h2=>by
 obtain ⟨a,h3,_⟩:=bK h1 h2 hx;have h5:=YX h1 h2 hy;exact ⟨.bool false,fun _=>by simp [BR,Fq,h3,h5,Ph,ht,Jp],.p (.bool _)⟩
theorem Aa.b0w {t t2 e:TypeId} {x y:Operand} (hx:AU E.Γ L x=some (.p (.val (.pointer none)))) (hy:AU E.Γ L y=some (.p (.val (.pointer none)))) (ht:E.P.underlying t=some (.pointer e)) (q:Q (.p (.bool true)) H nx) :
 Aa E w ⟨dst,.binOp .eql t x y t2,ty,pos,af,gd⟩ L H nx Q:=Aa.quiet q fun m F σ tt h1 h2=>by
 have h4:=YX h1 h2 hx;have h5:=YX h1 h2 hy;exact ⟨.bool true,fun _=>by simp [BR,Fq,h4,h5,Ph,ht,Jp],.p (.bool _)⟩
end
end Go.Vm
namespace Go.Proofs.YtnjkoebfgcbbdaaGreatDoor
open Go Go.Am Go.Vm Go.Pie Go.Sch
attribute [local irreducible] Aa Ai Ag Ad AO Ap Bc BK Bh Ah Vm.Done Bv AB Pv
attribute [local irreducible] Ce Ba DX DJ En AZ CB
instance:Enc JY:={ default:=st0,enc:=fun x=>[.str (bs x.now),.int .i64 x.c0.d,.int .i64 x.c0.k,.int .i64 x.c1.d,.int .i64 x.c1.k,.bool x.b0,.bool x.b1],size:=7,len:=fun _=>rfl }
def wG (x:JY):List Value:=[.string (bs x.now),.int .i64 x.c0.d,.int .i64 x.c0.k,.int .i64 x.c1.d,.int .i64 x.c1.k,.bool x.b0,.bool x.b1]
theorem a8e (d:Nat) (a b:VF):Dt Tryz.prog (Op.equalIn (d+2) 120 (.agg #[.int .i64 a.d,.int .i64 a.k]) (.agg #[.int .i64 b.d,.int .i64 b.k]))=some (decide (a=b)):=by
 obtain ⟨fs,hu⟩:∃ fs,Tryz.prog.underlying 120=some (.struct fs):=⟨_,rfl⟩
 refine Oi hu (by simp) ?_;have hu2:some (TypeDesc.struct fs)=Tryz.prog.underlying 120:=hu.symm;cases hu2;show some (decide (a.d=b.d)&&(decide (a.k=b.k)&&true))=_;obtain ⟨a1,a2⟩:=a;obtain ⟨b1,b2⟩:=b;by_cases h1:a1=b1<;>by_cases h2:a2=b2<;>simp [h1,h2]
theorem zh (fl:Bool) (n:Nat) (a:VF):Dt Tryz.prog (Instr.checkKey fl (n+2) 120 (.agg #[.int .i64 a.d,.int .i64 a.k]))=some ():=by
 rfl
theorem b7s (a b:JY):Dt Tryz.prog (Op.equal 124 (.agg (wG a).toArray) (.agg (wG b).toArray))=some (decide (a=b)):=by
 obtain ⟨fs,hu⟩:∃ fs,Tryz.prog.underlying 124=some (.struct fs):=⟨_,rfl⟩
 have h1:Dt Tryz.prog (Op.equalIn 9999 9 (.string (bs a.now)) (.string (bs b.now)))=some (decide (a.now=b.now)):=Rt (d:=9998) (td:=.string) rfl rfl;have h2:Dt Tryz.prog (Op.equalIn 9999 121 (.agg #[.int .i64 a.c0.d,.int .i64 a.c0.k,.int .i64 a.c1.d,.int .i64 a.c1.k]) (.agg #[.int .i64 b.c0.d,.int .i64 b.c0.k,.int .i64 b.c1.d,.int .i64 b.c1.k]))=some (decide (a.c0=b.c0)&&decide (a.c1=b.c1)) :=
  aV (d:=9998) (e:=120) (n:=2) rfl rfl (EU rfl rfl) (EU rfl rfl) (EU rfl rfl) (EU rfl rfl) (a8e 9996 a.c0 b.c0) (a8e 9996 a.c1 b.c1)
 have h3:Dt Tryz.prog (Op.equalIn 9999 122 (.agg #[.bool a.b0,.bool a.b1]) (.agg #[.bool b.b0,.bool b.b1]))=some ((a.b0==b.b0)&&(a.b1==b.b1)) :=
  aV (d:=9998) (e:=4) (n:=1) rfl rfl (Gg rfl rfl) (Gg rfl rfl) (Gg rfl rfl) (Gg rfl rfl) (Rt (d:=9997) (td:=.bool) rfl rfl) (Rt (d:=9997) (td:=.bool) rfl rfl)
 have:=dZ (P:=Tryz.prog) (d:=9999) (t:=124) (xs:=(wG a).toArray) (ys:=(wG b).toArray) (bs:=[decide (a.now=b.now),decide (a.c0=b.c0)&&decide (a.c1=b.c1),(a.b0==b.b0)&&(a.b1==b.b1)]) hu (by kernel_rfl) (by
  have hu2:some (TypeDesc.struct fs)=Tryz.prog.underlying 124:=hu.symm;cases hu2;rfl) (by
  have hu2:some (TypeDesc.struct fs)=Tryz.prog.underlying 124:=hu.symm;cases hu2;intro i f b' hf hb
  match i with
  |0 =>
   cases hf;cases hb;exact ⟨by decide,_,_,Gg (v:=.string (bs a.now)) rfl rfl,Gg (v:=.string (bs b.now)) rfl rfl,h1⟩
  |1 =>
   cases hf;cases hb;exact ⟨by decide,_,_,EU rfl rfl,EU rfl rfl,h2⟩
  |2 =>
   cases hf;cases hb;exact ⟨by decide,_,_,EU rfl rfl,EU rfl rfl,h3⟩
  |i+3=>cases hb)
 refine er this (congrArg some ?_);obtain ⟨a1,a2,a3,a4,a5⟩:=a;obtain ⟨b1,b2,b3,b4,b5⟩:=b;simp only [List.all_cons,List.all_nil,id_eq,Bool.and_true,JY.mk.injEq];rw [eh];simp only [Bool.and_eq_true,decide_eq_true_eq,beq_iff_eq];constructor
 ·rintro ⟨g1,⟨g2,g3⟩,g4,g5⟩;exact ⟨g1,g2,g3,g4,g5⟩
 ·rintro ⟨g1,g2,g3,g4,g5⟩;exact ⟨g1,⟨g2,g3⟩,g4,g5⟩
theorem b2c (fl:Bool) (a:JY):Xx Tryz.prog (Instr.checkKey fl 10000 124 (.agg (wG a).toArray))=true:=by
 obtain ⟨fs,hu⟩:∃ fs,Tryz.prog.underlying 124=some (.struct fs):=⟨_,rfl⟩
 have:Dt Tryz.prog (Instr.checkKey fl 10000 124 (.agg (wG a).toArray))=some ():=by
  refine bJ (n:=9999) hu fun f hf=>?_
  have hu2:some (TypeDesc.struct fs)=Tryz.prog.underlying 124:=hu.symm;cases hu2;rcases bl.1 hf with rfl|hf
  ·exact ⟨_,Gg (v:=.string (bs a.now)) rfl rfl,Qe (n:=9998) (d:=.string) rfl rfl⟩
  rcases bl.1 hf with rfl|hf
  ·refine ⟨_,EU rfl rfl,?_⟩
   exact XD (n:=9998) (e:=120) (k:=2) rfl rfl (EU rfl rfl) (EU rfl rfl) (zh fl 9996 a.c0) (zh fl 9996 a.c1)
  rcases bl.1 hf with rfl|hf
  ·refine ⟨_,EU rfl rfl,?_⟩
   exact XD (n:=9998) (e:=4) (k:=1) rfl rfl (Gg (v:=.bool a.b0) rfl rfl) (Gg (v:=.bool a.b1) rfl rfl) (Qe (n:=9997) (d:=.bool) rfl rfl) (Qe (n:=9997) (d:=.bool) rfl rfl)
  ·cases hf
 unfold Xx;rw [this]
theorem kE:Hg Tryz.prog 124 (fun x:JY=>.agg (Enc.enc x)) (fun x=>.agg (wG x).toArray):=Hg.c0f (fun _=>rfl) (by rfl) b7s b2c
theorem a7b (a b:List UInt8) (h:bs a=bs b):a=b:=by
 have:=congrArg (fun x:ByteArray=>x.data.toList) h;assumption
theorem YT:Hg Tryz.prog 9 (fun x:List UInt8=>.str (bs x)) (fun x=>.string (bs x)):=Hg.ofStr a7b rfl
theorem XG (a:Int):Ap env 126 [.int .i64 a] (.p (.bool false)):=by
 refine Ap.enter (Af (by decide)) Tryz.func126 rfl (by kernel_rfl) (by simp) ?_
 repeat' (first|refine Eu ?_|fail)
 all_goals first|(omega)|(refine Done.rt rfl rfl ⟨?_,rfl,rfl⟩)
 simp
theorem oW (a b:Int):Ap env 87 [.int .i64 a,.int .i64 b] (.p (.int .i64 (if a<b then -1 else if b<a then 1 else 0))):=by
 have n1:=XG a;have n2:=XG b;by_cases h1:a<b;all_goals by_cases h2:b<a
 all_goals first|rw [if_pos h1]|rw [if_neg h1]
 all_goals try first|rw [if_pos h2]|rw [if_neg h2]
 all_goals
  refine Ap.enter (Af (by decide)) Tryz.func87 rfl (by kernel_rfl) (by simp [Tryz.ntmps87]) ?_
 all_goals
  repeat' (first|(apply Aa.fn;rfl;rfl;exact n1;intro _;rfl)|(apply Aa.fn;rfl;rfl;exact n2;intro _;rfl)|refine go1 ?_|(apply Aa.int;rfl;rfl;rfl)|(apply Ad.Ak;rfl)|(apply Ad.Ac;rfl)|(intro _;try (exfalso;omega)))
 all_goals first|(exfalso;omega)|contradiction|(refine Done.rt rfl rfl ⟨?_,rfl,rfl⟩;try rfl)
theorem a4b (a b:List Int):∀ k,k<a.length→k<b.length→cmpL (a.drop k) (b.drop k)=if gi a k<gi b k then -1 else if gi b k<gi a k then 1 else cmpL (a.drop (k+1)) (b.drop (k+1)):=fun k ha hb=>by
 rw [ck ha,ck hb];have e1:gi a k=a[k]:=by unfold gi;grind
 have e2:gi b k=b[k]:=by unfold gi;grind
 rw [e1,e2];rfl
theorem SC (a b:List Int) (h:a.length=b.length) (hl:a.length<1000000):Ap env 40 [.lst 3 (cells a) a.length,.lst 3 (cells b) b.length] (.p (.int .i64 (cmpL a b))):=by
 refine Ap.enter (Af (by decide)) Tryz.func40 rfl (by kernel_rfl) (by simp [Tryz.ntmps40]) ?_
 repeat' (first|refine go1 ?_|fail)
 all_goals try (exfalso;omega)
 apply Ad.Ht (a.length) (fun k=>cmpL (a.drop k) (b.drop k)=cmpL a b) [(0,_),(1,_),(9,_),(10,_)] [] (fun k r=>(11,.p (.int .i64 (k:Int)))::r) (fun k r=>r) 0
 ·first|omega|decide
 ·first|omega|decide
 ·exact NI
 ·exact Px
 ·first|(intro _ _;omega)|omega|trivial
 ·intro k hk hi
  have hc:=oW (gi a k) (gi b k);have hd:=a4b a b k hk (by omega);rw [hi] at hd;by_cases h1:gi a k<gi b k
  ·rw [if_pos h1] at hc hd
   rw [hd]
   repeat' (first|(apply Aa.fn;rfl;rfl;exact hc;intro _;rfl)|(apply Aa.Aj;rfl;rfl;rfl;omega;rfl)|refine go1 ?_|(apply Aa.int;rfl;rfl;rfl)|(apply Ad.Ac;rfl)|(apply Ad.cond_true;rfl)|(intro _;try (exfalso;omega)))
   all_goals first|(exfalso;omega)|contradiction|(refine Done.rt rfl rfl ⟨?_,rfl,rfl⟩;try rfl)
  ·rw [if_neg h1] at hc hd
   by_cases h2:gi b k<gi a k
   ·rw [if_pos h2] at hc hd
    rw [hd]
    repeat' (first|(apply Aa.fn;rfl;rfl;exact hc;intro _;rfl)|(apply Aa.Aj;rfl;rfl;rfl;omega;rfl)|refine go1 ?_|(apply Aa.int;rfl;rfl;rfl)|(apply Ad.Ac;rfl)|(apply Ad.cond_true;rfl)|(intro _;try (exfalso;omega)))
    all_goals first|(exfalso;omega)|contradiction|(refine Done.rt rfl rfl ⟨?_,rfl,rfl⟩;try rfl)
   ·rw [if_neg h2] at hc hd
    repeat' (first|(apply Aa.fn;rfl;rfl;exact hc;intro _;rfl)|(apply Aa.Aj;rfl;rfl;rfl;omega;rfl)|refine go1 ?_|(apply Aa.int;rfl;rfl;rfl)|(apply Ad.Ac;rfl)|(apply Ad.cond_false;rfl)|(intro _;try (exfalso;omega)))
    all_goals try (exfalso;omega)
    all_goals try contradiction
    refine Ah.normal ⟨hd.symm,by first|omega|decide,?_,?_⟩
    ·exact C9
    ·exact DR
 ·intro hi
  have e0:cmpL a b=0:=by
   rw [← hi,eW (ab _),eW (by omega)];rfl
  rw [e0]
  repeat' (first|refine Eu ?_|(apply Ad.Ac;rfl)|(intro _;try (exfalso;omega)))
  all_goals first|(exfalso;omega)|(refine Done.rt rfl rfl ⟨?_,rfl,rfl⟩;try rfl)
end Go.Proofs.YtnjkoebfgcbbdaaGreatDoor
namespace Go.Vm
open Go.Am
variable {E:Env} {n bn:Nat} {L:Frame} {H:Heap} {nx:Nat}
def Lrn (ρ:Nat→Nat):Frame→Frame
 |[]=>[]
 |(i,v)::L=>(i,v.rn ρ)::Lrn ρ L
theorem a0u (ρ:Nat→Nat):∀ (L:Frame) (i:Nat),EZ (Lrn ρ L) i=(EZ L i).map (·.rn ρ)
 |[],_=>rfl
 |(j,v)::L,i=>by
  simp only [Lrn,DY];split
  ·rfl
  ·exact a0u ρ L i
theorem A8.swap {c:Code} {Q:BL→Frame→Heap→Nat→Prop} (a b:Nat) (ha:bn≤a) (hb:bn≤b) (ha':a<nx) (hb':b<nx) (h:A8 E n bn c (Lrn (swp a b) L) (Hrn (swp a b) H) nx Q):A8 E n bn c L H nx Q:=by
 intro hs hok hfl B hB m F σ t h1 h2 h3;have hr:∀ j,j<nx→swp a b j<nx∧htag (Hrn (swp a b) H) (swp a b j)=htag H j∧(fun i=>σ (swp a b i)) (swp a b j)=σ j:=fun j hj=>⟨yZ ha' hb' hj,jV a b H j,by simp only [OO]⟩
 have d1:=b2y ha' hb' h1;refine h hs hok hfl B hB m F _ t d1 (fun i v hi=>?_) ?_
 ·rw [a0u,ae] at hi
  obtain ⟨u,hu,rfl⟩:=hi;exact RP.rn hr (h2 i u hu)
 ·refine ⟨h3.size,h3.keep,h3.Kq,h3.Kr,fun c hc ho=>h3.Jk c hc (b1k ho),h3.V5,fun j hj=>?_,h3.low⟩
  have e:swp a b j=j:=b4r ha hb (by omega);have e2:=jV a b H j;rw [e] at e2;simp only [e,e2];exact h3.names j hj
theorem BM.c0w {ops:Array Oper} {l:List Oper} {R:Frame→Heap→Nat→Prop} {dst:Option Tmp} {ty:TypeId} {pos:String} {af:Array Edge} {fo:Operand} {args:Array Operand} {aT:Array TypeId} {g:FuncId} {fs cs Bq ac:List PV} {Hc:Heap} {Qc:PV→Heap→Nat→Prop} (ns:List Nat) (hc:FX E g ac Hc ns.length Qc)
 (hent:Enters E.P g) (hf:AU E.Γ L fo=some (.clo g fs cs)) (ha:evs E.Γ L args.toList=some Bq) (hle:OG (fs++Bq++cs) (CU.rn (rho ns nx) ac)) (hu:CU.under ns.length ac) (yS:Lp ns.length Hc) (hin:HIn (rho ns nx) H Hc) (hnd:ns.Nodup) (hlt:∀ b∈ns,b<nx)
 (hq:∀ r H' nx',Qc r H' nx'→BM E n bn ops l (H6 L dst (r.rn (rho ns nx))) (news ns.length (rho ns nx) H' (merge ns (rho ns nx) H' H)) (nx+(nx'-ns.length)) R) :
 BM E n bn ops (⟨dst,.call { callee:=.value fo,args:=args,argTypes:=aT },ty,pos,af,none⟩::l) L H nx R:=BM.cZ hent hf ha hle hu yS hin hnd hlt hc hq
end Go.Vm
namespace Go.Proofs.YtnjkoebfgcbbdaaGreatDoor
open Go Go.Am Go.Vm Go.Pie Go.Sch
attribute [local irreducible] Aa Ai Ag Ad AO Ap Bc BK Bh Ah Vm.Done Bv AB Pv A8 BM Et IG FX Hold
attribute [local irreducible] Ce Ba DX DJ En AZ CB
abbrev Way:=List Int×Int
def P6 (w:Way):FV:=.agg [.lst 3 (cells w.1) w.1.length,.int .i64 w.2]
def JJ (es:List (JY×Way)):List (JY×PV):=es.map fun e=>(e.1,.p (P6 e.2))
def LK (es:List (JY×Way)):HB:=NC (fun x:JY=>.agg (Enc.enc x)) (JJ es)
theorem UJ {α β γ:Type} [DecidableEq α] (g:β→γ) (a:α):∀ es:List (α×β),BO (es.map fun e=>(e.1,g e.2)) a=(BO es a).map g
 |[]=>rfl
 |x::es=>by
  simp only [List.map_cons,BO];split
  ·rfl
  ·exact UJ g a es
theorem UA {α β γ:Type} [DecidableEq α] (g:β→γ) (a:α) (b:β):∀ es:List (α×β),Cb (es.map fun e=>(e.1,g e.2)) a (g b)=(Cb es a b).map fun e=>(e.1,g e.2)
 |[]=>rfl
 |x::es=>by
  simp only [List.map_cons,Cb];split
  ·rfl
  ·rw [UA g a b es];rfl
theorem CG (k:Nat) (es:List (JY×Way)):HB.under k (LK es):=by
 induction es with
 |nil=>exact trivial
 |cons e es ih=>exact ⟨trivial,ih⟩
theorem YM (ρ:Nat→Nat) (es:List (JY×Way)):(LK es).rn ρ=LK es:=by
 show HB.JB _ (CU.rn ρ ((JJ es).map (·.2)))=HB.JB _ _;have:CU.rn ρ ((JJ es).map (·.2))=(JJ es).map (·.2):=by
  induction es with
  |nil=>rfl
  |cons e es ih =>
   show PV.rn ρ (PV.p (P6 e.2))::CU.rn ρ ((JJ es).map (·.2))=_;rw [ih];rfl
 grind
section
variable {L:Vm.Frame} {H:Vm.Heap} {nx:Nat} {Q:PV→Vm.Heap→Nat→Prop} {w:Bool} {dst:Option Tmp} {ty:TypeId} {pos:String} {af:Array Edge} {gd:Option (Nat×Bool)}
theorem b6h {t:TypeId} (q:Q (.mref nx) ((nx,LK [])::H) (nx+1)):Aa env w ⟨dst,.makeMap t none,ty,pos,af,gd⟩ L H nx Q:=Aa.aG q
def foundW:Option Way→PV
 |none=>.p (.agg [.val (.slice none 0 0),.int .i64 0])
 |some w=>.p (P6 w)
theorem lookW {t:TypeId} {x k:Operand} {b:Nat} {m:List (JY×Way)} {y:JY} (hx:AU env.Γ L x=some (.mref b)) (hb:hget H b=some (LK m)) (hk:AU env.Γ L k=some (.p (.agg (Enc.enc y))))
 (ht:env.P.underlying t=some (.map 124 127)) (q:Q (.Eb [foundW (BO m y),.p (.bool (BO m y).isSome)]) H nx):Aa env w ⟨dst,.lookup t x k true,ty,pos,af,gd⟩ L H nx Q:=by
 have hl:BO (JJ m) y=(BO m y).map fun w=>PV.p (P6 w):=UJ (fun w=>PV.p (P6 w)) y m
 have hs:(BO (JJ m) y).isSome=(BO m y).isSome:=by grind
 rw [← hs] at q;refine Aa.lookupGo (z:=.agg #[.slice none 0 0,.int .i64 0]) kE hx hb hk ht (by kernel_rfl) rfl ?_ q;cases h:BO m y with
 |none =>
  rw [h] at hl;exact Lj.const hl rfl
 |some w =>
  rw [h] at hl;exact .inl hl
theorem b9b {t:TypeId} {x k:Operand} {b:Nat} {m:List (JY×Way)} {y:JY} (hl:BO m y=none) (hx:AU env.Γ L x=some (.mref b)) (hb:hget H b=some (LK m)) (hk:AU env.Γ L k=some (.p (.agg (Enc.enc y))))
 (ht:env.P.underlying t=some (.map 124 127)) (q:Q (.Eb [.p (.agg [.val (.slice none 0 0),.int .i64 0]),.p (.bool false)]) H nx):Aa env w ⟨dst,.lookup t x k true,ty,pos,af,gd⟩ L H nx Q :=
 lookW hx hb hk ht (by rw [hl];exact q)
theorem b8j {t:TypeId} {x k:Operand} {b:Nat} {m:List (JY×Way)} {y:JY} {v:Way} (hl:BO m y=some v) (hx:AU env.Γ L x=some (.mref b)) (hb:hget H b=some (LK m)) (hk:AU env.Γ L k=some (.p (.agg (Enc.enc y))))
 (ht:env.P.underlying t=some (.map 124 127)) (q:Q (.Eb [.p (P6 v),.p (.bool true)]) H nx):Aa env w ⟨dst,.lookup t x k true,ty,pos,af,gd⟩ L H nx Q :=
 lookW hx hb hk ht (by rw [hl];exact q)
theorem b9t {t:TypeId} {x k y':Operand} {b:Nat} {m:List (JY×Way)} {y:JY} (v:Way) (hx:AU env.Γ L x=some (.mref b)) (hb:hget H b=some (LK m)) (hk:AU env.Γ L k=some (.p (.agg (Enc.enc y)))) (hy:AU env.Γ L y'=some (.p (P6 v)))
 (ht:env.P.underlying t=some (.map 124 127)) (q:Q (.Eb []) (hput H b (LK (Cb m y v))) nx):Aa env true ⟨dst,.mapUpdate t x k y',ty,pos,af,gd⟩ L H nx Q :=
 Aa.a0y kE hx hb hk hy ht (by
  show hput H b (NC _ (Cb (JJ m) y (.p (P6 v))))=hput H b (NC _ (JJ (Cb m y v)));have:Cb (JJ m) y (PV.p (P6 v))=JJ (Cb m y v):=UA (fun w=>PV.p (P6 w)) y v m;grind) q
theorem c0u {t:TypeId} {x k y':Operand} {b:Nat} {m:List (JY×Way)} {y:JY} (v:Way) (hx:AU env.Γ L x=some (.mref b)) (hb:hget H b=some (LK m)) (hk:AU env.Γ L k=some (.p (.agg (Enc.enc y)))) (hy:AU env.Γ L y'=some (.p (P6 v)))
 (ht:env.P.underlying t=some (.map 124 127)) (q:Q (.Eb []) (hput H b (LK (Cb m y v))) nx):Aa env true ⟨dst,.insert t x k y',ty,pos,af,gd⟩ L H nx Q :=
 Aa.zL kE hx hb hk hy ht (by
  show hput H b (NC _ (Cb (JJ m) y (.p (P6 v))))=hput H b (NC _ (JJ (Cb m y v)));have:Cb (JJ m) y (PV.p (P6 v))=JJ (Cb m y v):=UA (fun w=>PV.p (P6 w)) y v m;grind) q
end
theorem tV (q:Qu) (hq:IK q) {t:Nat} (ht:t<(AY q.p).length) {l:List Int} (hl:a3h q t l) {x:List Int} (hx:x∈lU q t l):x.length=q.p.notes.length∧∀ i,i<x.length→0≤gi x i∧gi x i≤2:=by
 have hS:=Xg q hq;have hll:=hl.len;have hm:=(Nh (nw:=MO q t) (f:=fQ q t) (l:=l) (kQ q t) (hS.inj t ht) (fun j hj=>by rw [hll];exact hS.rng t ht j hj) hl.zero x).1 (List.mem_filter.1 hx).1;refine ⟨hm.1.trans hll,fun i hi=>?_⟩;have h2:=hm.2 i (by omega);by_cases h:Wp (MO q t) (fQ q t) (kQ q t) i
 ·rcases h2.1 h with e|e<;>omega
 ·rw [h2.2 h];exact hl.rng i (by omega)
theorem sN (q:Qu) (t:Nat) (hM:kQ q t≤12) (l:List Int):(lU q t l).length≤4096:=by
 refine am (dr _ _) (am (dO _ _ _ _).2 ?_);exact aw (by decide) (show kQ q t≤12 by omega)
def a8a (q:Qu) (t:Nat) (e:JY×Way):List (JY×Way):=(lU q t e.2.1).map fun x=>(G7 q t e.1 x,(x,e.2.2+KX q t e.1 x))
def b3y (q:Qu) (t:Nat) (x:JY) (l:List Int):Nat→JY
 |0=>⟨Pn (Fp q t) l,x.c0,x.c1,x.b0,x.b1⟩
 |1=>⟨Pn (Fp q t) l,if (FY q l 0 t).1=true then (FY q l 0 t).2 else x.c0,x.c1,(FY q l 0 t).1||x.b0,x.b1⟩
 |_=>G7 q t x l
def a2k (q:Qu) (t:Nat) (x:JY) (c:Int) (l:List Int):Nat→Int
 |0=>c
 |1=>c+Gq (FY q l 0 t) x.b0 x.c0
 |_=>c+Gq (FY q l 0 t) x.b0 x.c0+Gq (FY q l 1 t) x.b1 x.c1
theorem a5q (q:Qu) (t:Nat) (x:JY) (c:Int) (l:List Int):a2k q t x c l 2=c+KX q t x l:=by
 show c+Gq (FY q l 0 t) x.b0 x.c0+Gq (FY q l 1 t) x.b1 x.c1=c+(Gq (FY q l 0 t) x.b0 x.c0+Gq (FY q l 1 t) x.b1 x.c1);omega
def both (b c:Bool) (v w:Int):Int:=bif b then (bif c then v else w) else w
theorem qB (x:Int) (b c:Bool) (a d:VF):x+Gq (b,a) c d=both b c (x+mvC d a) x:=by cases b<;>cases c<;>simp [Gq,both]
theorem ZW (r:Bool×VF) (b:Bool) (c:VF) (hr:r.2.Ok) (hc:c.Ok):0≤Gq r b c∧Gq r b c≤139:=by
 have:=Ve hc hr;unfold Gq;omega
theorem a7x {n:Nat} {m:List (JY×Way)} {d:JY×Way} (hm:∀ e∈m,e.2.1.length=n) (hd:d.2.1.length=n):∀ e∈TJ m d,e.2.1.length=n:=fun e he=>by
 have key:∀ e∈Cb m d.1 d.2,e.2.1.length=n:=fun e he=>by
  rcases PU he with h|h|h
  ·grind
  ·grind
  grind
 unfold TJ at he;grind
structure c2x (q:Qu) (t:Nat) (e:JY×Way):Prop where
 way:a3h q t e.2.1
 cost:0≤e.2.2∧e.2.2≤1000000000000
 c0:e.1.c0.Ok
 c1:e.1.c1.Ok
instance:Inhabited (JY×Way):=⟨(st0,([],0))⟩
def SQ (q:Qu) (t:Nat) (es:List (JY×Way)) (V:List Nat):List (JY×Way):=((V.map (gi es)).flatMap (a8a q t)).foldl TJ []
theorem PW:Am.Enters Tryz.prog 41:=⟨_,Tryz.func41,by rfl,by rfl⟩
theorem wC (q:Qu) (hq:IK q) (t:Nat) (ht:t<(AY q.p).length) (hM:kQ q t≤12) (es:List (JY×Way)) (hes:∀ e∈es,c2x q t e) :
 FX env 39 [.p (.agg (Enc.enc q)),.p (.agg (Enc.enc (Nj q t))),.mref 0] [(0,LK es)] 1 (fun r H' nx'=>∃ V:List Nat,V.Nodup∧(∀ i,i∈V↔i<es.length)∧r=.mref 1∧H'=[(1,LK (SQ q t es V))]∧nx'=2):=by
 refine FX.enter Tryz.func39 rfl (by kernel_rfl) (by kernel_rfl) (by simp [Tryz.ntmps39]) ?_
 repeat' (first|((refine A8.at 2 ?_;refine Hold.of ?_))|apply A8.BD|apply A8.to|refine go2 ?_|(apply b6h))
 all_goals try (exfalso;omega)
 refine Hold.go ?_;refine A8.l7 (fun m:List (JY×Way)=>[(3,.ref 1 0),(4,.ref 2 0),(7,.mref 3),(21,.mref 0)]) (fun m=>[(0,LK es),(1,tH q),(2,slB (Nj q t)),(3,LK m)]) (fun V m=>m=SQ q t es V∧∀ e∈m,e.2.1.length=q.p.notes.length) [] (Dp:=4) (b:=0) (ks:=(JJ es).map fun x=>.agg (Enc.enc x.1)) (cs:=(JJ es).map (·.2)) rfl rfl (by decide) rfl ⟨rfl,fun e h=>absurd h be⟩ ⟨by decide,?_,?_⟩ rfl (fun _=>⟨rfl,rfl,rfl⟩) (fun _ _ _=>rfl) (by simp) rfl (by kernel_rfl) (by kernel_rfl) (by decide) ?_ ?_
 ·exact C9
 ·repeat (first|exact BI.nil|(refine BI.cons (Bj rfl) ?_ rfl ?_ ?_;(first|exact CG _ _|exact CS _ _|exact HB.Az rfl|exact CU.Bf _ _|(simp [HB.under,CU.under,PV.under]));(first|exact JV.refl _|exact JV.vec (Jh.refl _) (by simp))))
 ·rintro V m i kk c ⟨hi,hml⟩ hnd hni hk hc
  subst hi;have hil:i<es.length:=by
   have:=(bw.1 hk).1;simpa [JJ] using this
  have hm:=DV hil;have hei:es[i]?=some (gi es i):=by unfold gi;rw [ai hil];rfl
  have hE:=hes _ hm;have ek:kk=.agg (Enc.enc (gi es i).1):=by
   unfold JJ at hk;rw [ax,ax,hei] at hk;simpa using hk.symm
  have ec:c=.p (P6 (gi es i).2):=by
   unfold JJ at hc;rw [ax,ax,hei] at hc;simpa using hc.symm
  subst ek;subst ec;have hfold:SQ q t es (V++[i])=(a8a q t (gi es i)).foldl TJ (SQ q t es V):=by
   unfold SQ;rw [bm,hX,dq,List.map_singleton,gD]
  rw [hfold];clear hfold;generalize SQ q t es V=m0 at *;generalize gi es i=e at *;obtain ⟨⟨nw,c0,c1,b0,b1⟩,l,cc⟩:=e;obtain ⟨h1,h2,h3,h4⟩:=hE;simp only at h1 h2 h3 h4;have hch:=U6 q hq t ht hM l h1;have hwy:=fun y hy=>tV q hq ht h1 (x:=y) hy
  have hLl:=sN q t hM l;unfold a8a;simp only;generalize lU q t l=L at *;have hN:YP q (Nj q t).notes:=J5 ht;have hNl:(Nj q t).notes.length≤1000:=VA hq ht;obtain ⟨G,hG⟩:∃ G:List Int→JY×Way,G=fun y=>(G7 q t ⟨nw,c0,c1,b0,b1⟩ y,(y,cc+KX q t ⟨nw,c0,c1,b0,b1⟩ y)):=⟨_,rfl⟩
  rw [← hG]
  repeat' (first|(refine A8.at 5 ?_;apply A8.LZ)|(apply BM.fn;rfl;rfl;exact hch;exact PW;intro _;rfl)|apply A8.block|apply BM.nil|apply BM.one|refine go2 ?_|fail)
  all_goals try (exfalso;omega)
  refine A8.ofV ?_;apply Ad.Ht (L.length) (fun k=>∀ e∈((L.take k).map G).foldl TJ m0,e.2.1.length=q.p.notes.length) [(3,_),(4,_),(7,_),(8,_),(9,_),(21,_),(32,_),(33,_)] [(0,_),(1,_),(2,_),(4,_),(5,_)] (fun k r=>(34,.p (.int .i64 (k:Int)))::r) (fun k r=>(3,LK (((L.take k).map G).foldl TJ m0))::r) 6
  ·first|omega|decide
  ·first|omega|decide
  ·exact NI
  ·repeat (first|exact BI.nil|(refine BI.eq rfl (Bj rfl) ?_ ?_;(first|exact CG _ _|exact CS _ _|exact HB.Az rfl|exact CU.Bf _ _|(simp [HB.under,CU.under,PV.under];done)))|(refine BI.cons (Bj rfl) ?_ rfl ?_ ?_;(first|exact CG _ _|exact CS _ _|exact trivial|exact CU.Bf _ _|(simp [HB.under,CU.under,PV.under]));(first|exact JV.refl _|exact JV.vec (Jh.refl _) (by simp))))
  ·first|(intro _ _;omega)|omega|trivial
  ·intro k hk hi
   obtain ⟨y1,y2⟩:=hwy _ (DV hk);have e1:((L.take (k+1)).map G).foldl TJ m0=TJ (((L.take k).map G).foldl TJ m0) (G (gi L k)):=by
    rw [DZ hk,bm,dq];rfl
   rw [e1];clear e1;generalize ((L.take k).map G).foldl TJ m0=m at *;have n1:=hq.p.notes;have b1j:=qm q (Nj q t) hN hNl (gi L k) y1 y2;have hh0:=Rh q hq (Nj q t) hN hNl (gi L k) 0 y1;have hh1:=Rh q hq (Nj q t) hN hNl (gi L k) 1 y1;have a0:=Wn hq hN (gi L k) 0 _ (ab _);have a1:=Wn hq hN (gi L k) 1 _ (ab _);have hr0:Ru q.p (Nj q t).notes (gi L k) 0 (Nj q t).notes.length=FY q (gi L k) 0 t:=rfl;have hr1:Ru q.p (Nj q t).notes (gi L k) 1 (Nj q t).notes.length=FY q (gi L k) 1 t:=rfl;have es0:b3y q t ⟨nw,c0,c1,b0,b1⟩ (gi L k) (0+1)=⟨Pn (Fp q t) (gi L k),if (FY q (gi L k) 0 t).1=true then (FY q (gi L k) 0 t).2 else c0,c1,(FY q (gi L k) 0 t).1||b0,b1⟩:=rfl;have es1:b3y q t ⟨nw,c0,c1,b0,b1⟩ (gi L k) (1+1)=⟨Pn (Fp q t) (gi L k),if (FY q (gi L k) 0 t).1=true then (FY q (gi L k) 0 t).2 else c0,if (FY q (gi L k) 1 t).1=true then (FY q (gi L k) 1 t).2 else c1,(FY q (gi L k) 0 t).1||b0,(FY q (gi L k) 1 t).1||b1⟩:=rfl;have ec0:a2k q t ⟨nw,c0,c1,b0,b1⟩ cc (gi L k) (0+1)=cc+Gq (FY q (gi L k) 0 t) b0 c0:=rfl;have ec1:a2k q t ⟨nw,c0,c1,b0,b1⟩ cc (gi L k) (1+1)=cc+Gq (FY q (gi L k) 0 t) b0 c0+Gq (FY q (gi L k) 1 t) b1 c1:=rfl;rw [hr0] at hh0 a0;rw [hr1] at hh1 a1
   repeat' (first|(refine Ag.atIdx 4 ?_;apply Ag.weak [.tmp 39];decide +kernel;rfl;rfl;(first|exact NG.ref rfl|exact NG.vec rfl|exact NG.Fj rfl);decide +kernel;rfl)|apply Ad.assoc|apply Ad.BD|apply Ad.Cj|apply Ad.FN|apply Ad.E8|apply Ai.nil|apply Ag.nil|apply Ai.one|(apply Ag.bar;decide +kernel)|apply Ag.quiet|(apply Aa.fn;rfl;rfl;exact b1j;intro _;rfl)|(apply Aa.assign;rfl)|(apply Aa.move;rfl)|(apply Aa.int;rfl;rfl;rfl)|(apply Aa.Aj;rfl;rfl;rfl;omega;rfl)|(apply Aa.load;rfl;rfl)|(apply Aa.Ih;rfl;rfl;rfl)|(apply Aa.alloc;rfl)|(apply Aa.FT;rfl;rfl;rfl;trivial;rfl;rfl;exact Bj rfl;exact le_dec rfl)|(apply Ad.Ac;rfl)|(intro _;try (exfalso;omega)))
   all_goals try (exfalso;omega)
   apply Ad.F5 (2) [(3,_),(4,_),(7,_),(8,_),(9,_),(11,_),(12,_),(21,_),(32,_),(33,_),(34,_)] [(0,_),(1,_),(2,_),(3,_),(4,_),(5,_)] (fun k_ r=>(46,.p (.int .i64 (k_:Int)))::(13,.p (.int .i64 (a2k q t ⟨nw,c0,c1,b0,b1⟩ cc (gi L k) k_)))::r) (fun k_ r=>(6,.box 124 ((Enc.enc (b3y q t ⟨nw,c0,c1,b0,b1⟩ (gi L k) k_)).map .p))::r) 7
   ·first|omega|decide
   ·first|omega|decide
   ·exact NI
   ·repeat (first|exact BI.nil|(refine BI.eq rfl (Bj rfl) ?_ ?_;(first|exact CG _ _|exact CS _ _|exact HB.Az rfl|exact CU.Bf _ _|(simp [HB.under,CU.under,PV.under];done)))|(refine BI.cons (Bj rfl) ?_ rfl ?_ ?_;(first|exact CG _ _|exact CS _ _|exact trivial|exact CU.Bf _ _|(simp [HB.under,CU.under,PV.under]));(first|exact JV.refl _|exact JV.vec (Jh.refl _) (by simp))))
   ·intro k_ hk_
    obtain rfl|rfl:k_=0∨k_=1:=by omega
    ·generalize FY q (gi L k) 0 t=r0 at *
     obtain ⟨b,a⟩:=r0;have a0:a.Ok:=a0;have hm0:=jf c0 a h3 a0;have hmr:=Ve h3 a0;have hk0:a2k q t ⟨nw,c0,c1,b0,b1⟩ cc (gi L k) 0=cc:=rfl;have ei:cc+Gq (b,a) b0 c0=both b b0 (cc+mvC c0 a) cc:=qB cc b b0 a c0;rw [ec0,es0,ei];cases b<;>cases b0
     all_goals
      repeat' (first|(apply Aa.fn;rfl;rfl;exact hh0;intro _;rfl)|(apply Aa.fn;rfl;rfl;exact hm0;intro _;rfl)|(apply Aa.Vd;rfl;rfl;rfl;rfl;rfl;decide)|refine Ij ?_|(apply Aa.int;rfl;rfl;rfl)|(apply Ad.AX;rfl)|(apply Ad.Ak;rfl))
     all_goals try (exfalso;omega)
     all_goals try contradiction
     all_goals
      refine Ah.normal ⟨by first|omega|decide,?_,?_⟩
      ·exact C9
      ·repeat (first|exact BI.nil|(refine BI.cons (Bj rfl) ?_ rfl ?_ ?_;(first|exact CG _ _|exact CS _ _|exact HB.Az rfl|exact CU.Bf _ _|(simp [HB.under,CU.under,PV.under]));(first|exact JV.refl _|exact JV.vec (Jh.refl _) (by simp))))
    ·generalize FY q (gi L k) 1 t=r1 at *
     obtain ⟨b,a⟩:=r1;have a1:a.Ok:=a1;have hm0:=jf c1 a h4 a1;have hmr:=Ve h4 a1;have hk2:a2k q t ⟨nw,c0,c1,b0,b1⟩ cc (gi L k) 1=cc+Gq (FY q (gi L k) 0 t) b0 c0:=ec0;have hin:0≤Gq (FY q (gi L k) 0 t) b0 c0∧Gq (FY q (gi L k) 0 t) b0 c0≤139:=ZW _ _ _ a0 h3;have es2:=es0;simp only [Nat.zero_add] at es2;generalize FY q (gi L k) 0 t=r0 at *;rw [ec1,es1,hk2,es2];generalize Gq r0 b0 c0=i0 at *;have ei:cc+i0+Gq (b,a) b1 c1=both b b1 (cc+i0+mvC c1 a) (cc+i0):=qB (cc+i0) b b1 a c1;rw [ei];generalize (if r0.1=true then r0.2 else c0)=c0' at *;generalize (r0.1||b0)=b0' at *;cases b<;>cases b1
     all_goals
      repeat' (first|(apply Aa.fn;rfl;rfl;exact hh1;intro _;rfl)|(apply Aa.fn;rfl;rfl;exact hm0;intro _;rfl)|(apply Aa.Vd;rfl;rfl;rfl;rfl;rfl;decide)|refine Ij ?_|(apply Aa.int;rfl;rfl;rfl)|(apply Ad.AX;rfl)|(apply Ad.Ak;rfl))
     all_goals try (exfalso;omega)
     all_goals try contradiction
     all_goals
      refine Ah.normal ⟨by first|omega|decide,?_,?_⟩
      ·exact C9
      ·repeat (first|exact BI.nil|(refine BI.cons (Bj rfl) ?_ rfl ?_ ?_;(first|exact CG _ _|exact CS _ _|exact HB.Az rfl|exact CU.Bf _ _|(simp [HB.under,CU.under,PV.under]));(first|exact JV.refl _|exact JV.vec (Jh.refl _) (by simp))))
   ·have e2:b3y q t ⟨nw,c0,c1,b0,b1⟩ (gi L k) 2=G7 q t ⟨nw,c0,c1,b0,b1⟩ (gi L k):=rfl
    have hi0:=ZW (FY q (gi L k) 0 t) b0 c0 a0 h3;have hi1:=ZW (FY q (gi L k) 1 t) b1 c1 a1 h4;have hiq:KX q t ⟨nw,c0,c1,b0,b1⟩ (gi L k)=Gq (FY q (gi L k) 0 t) b0 c0+Gq (FY q (gi L k) 1 t) b1 c1:=rfl;have hGk:G (gi L k)=(G7 q t ⟨nw,c0,c1,b0,b1⟩ (gi L k),(gi L k,cc+KX q t ⟨nw,c0,c1,b0,b1⟩ (gi L k))):=by rw [hG]
    rw [hGk,a5q,e2];have hnl:=a7x (d:=(G7 q t ⟨nw,c0,c1,b0,b1⟩ (gi L k),(gi L k,cc+KX q t ⟨nw,c0,c1,b0,b1⟩ (gi L k)))) hi y1;have hcb:0≤cc+KX q t ⟨nw,c0,c1,b0,b1⟩ (gi L k)∧cc+KX q t ⟨nw,c0,c1,b0,b1⟩ (gi L k)≤1000000000278:=by rw [hiq];omega
    generalize cc+KX q t ⟨nw,c0,c1,b0,b1⟩ (gi L k)=c' at *;generalize G7 q t ⟨nw,c0,c1,b0,b1⟩ (gi L k)=sq at *;have ei:TJ m (sq,(gi L k,c'))=match BO m sq with|none=>Cb m sq (gi L k,c')|some o=>if ltB (gi L k,c') o=true then Cb m sq (gi L k,c') else m:=rfl
    cases hl:BO m sq with
    |none =>
     rw [hl] at ei;simp only at ei;rw [ei] at hnl ⊢
     repeat' (first|(apply b9b (m:=m) (y:=sq) hl;rfl;rfl;rfl;rfl)|(apply b9t (m:=m) (y:=sq) (gi L k,c');rfl;rfl;rfl;rfl;rfl)|refine Eu ?_|(apply Aa.build;rfl;rfl;rfl;rfl;rfl)|(apply Ad.Ak;rfl)|(apply Ad.cond_true;rfl))
     all_goals try (exfalso;omega)
     all_goals try contradiction
     refine Ah.normal ⟨hnl,by first|omega|decide,?_,?_⟩
     ·exact C9
     ·repeat (first|exact BI.nil|(refine BI.cons (Bj rfl) ?_ rfl ?_ ?_;(first|exact CG _ _|exact CS _ _|exact HB.Az rfl|exact CU.Bf _ _|(simp [HB.under,CU.under,PV.under]));(first|exact JV.refl _|exact JV.vec (Jh.refl _) (by simp))))
    |some o =>
     obtain ⟨ol,oc⟩:=o;have hol:ol.length=q.p.notes.length:=hi _ (KJ hl);have hcmp:=SC (gi L k) ol (by omega) (by omega);rw [hl] at ei;simp only at ei;have hb:ltB (gi L k,c') (ol,oc)=(decide (c'<oc)||(decide (c'=oc)&&decide (cmpL (gi L k) ol<0))):=rfl;rw [hb] at ei;generalize cmpL (gi L k) ol=cm at *;by_cases g1:c'<oc;all_goals by_cases g2:c'=oc
     all_goals by_cases g3:cm<0
     all_goals first|rw [decide_eq_true g1] at ei|rw [decide_eq_false g1] at ei
     all_goals first|rw [decide_eq_true g2] at ei|rw [decide_eq_false g2] at ei
     all_goals first|rw [decide_eq_true g3] at ei|rw [decide_eq_false g3] at ei
     all_goals simp only [Bool.true_or,Bool.false_or,Bool.true_and,Bool.false_and,Bool.false_eq_true,if_true,if_false] at ei
     all_goals rw [ei] at hnl ⊢
     all_goals
      repeat' (first|(apply b8j (m:=m) (y:=sq) hl;rfl;rfl;rfl;rfl)|(apply Aa.fn;rfl;rfl;exact hcmp;intro _;rfl)|(apply b9t (m:=m) (y:=sq) (gi L k,c');rfl;rfl;rfl;rfl;rfl)|refine Ij ?_|(apply Ai.guard;rfl;rfl)|(apply Aa.int;rfl;rfl;rfl)|(apply Aa.build;rfl;rfl;rfl;rfl;rfl)|(apply Ad.Ak;rfl)|(apply Ad.cond_true;rfl)|(apply Ad.cond_false;rfl)|(apply Ad.Aq;rfl)|(intro _;try (exfalso;omega)))
     all_goals try (exfalso;omega)
     all_goals try contradiction
     all_goals
      refine Ah.normal ⟨hnl,by first|omega|decide,?_,?_⟩
      ·exact C9
      ·repeat (first|exact BI.nil|(refine BI.cons (Bj rfl) ?_ rfl ?_ ?_;(first|exact CG _ _|exact CS _ _|exact HB.Az rfl|exact CU.Bf _ _|(simp [HB.under,CU.under,PV.under]));(first|exact JV.refl _|exact JV.vec (Jh.refl _) (by simp))))
  ·intro hi
   rw [cr] at hi ⊢
   repeat' (first|refine Eu ?_|(apply Ad.Ac;rfl)|(intro _;try (exfalso;omega)))
   all_goals try (exfalso;omega)
   refine Ah.normal ⟨_,⟨rfl,hi⟩,⟨by decide,?_,?_⟩⟩
   ·exact C9
   ·repeat (first|exact BI.nil|(refine BI.cons (Bj rfl) ?_ rfl ?_ ?_;(first|exact CG _ _|exact CS _ _|exact HB.Az rfl|exact CU.Bf _ _|(simp [HB.under,CU.under,PV.under]));(first|exact JV.refl _|exact JV.vec (Jh.refl _) (by simp))))
 ·rintro V m ⟨hi,_⟩ hnd h1 h2
  subst hi;refine Et.normal ?_;refine A8.swap 1 3 (by decide) (by decide) (by decide) (by decide) ?_;have e:Hrn (swp 1 3) [(0,LK es),(1,tH q),(2,slB (Nj q t)),(3,LK (SQ q t es V))]=[(0,LK es),(3,(tH q).rn (swp 1 3)),(2,(slB (Nj q t)).rn (swp 1 3)),(1,LK (SQ q t es V))]:=by
   simp only [Hrn,YM];rfl
  rw [e]
  repeat' (first|apply A8.BD|apply A8.ret|refine go1 ?_|fail)
  have hc:JJ es=es.map fun e=>(e.1,PV.p (P6 e.2)):=rfl
  simp only [List.length_map,hc] at h1 h2;refine Done.ret rfl (.refl _) (Bj rfl) ?_ (by decide) (by decide) ⟨V,hnd,fun i=>⟨h2 i,h1 i⟩,rfl,rfl,rfl⟩;repeat (first|exact BI.nil|(refine BI.cons (Bj rfl) ?_ rfl ?_ ?_;(first|exact CG _ _|exact CS _ _|exact HB.Az rfl|exact CU.Bf _ _|(simp [HB.under,CU.under,PV.under]));(first|exact JV.refl _|exact JV.vec (Jh.refl _) (by simp))))
end Go.Proofs.YtnjkoebfgcbbdaaGreatDoor
namespace Go.Proofs.YtnjkoebfgcbbdaaGreatDoor
open Go Go.Am Go.Vm Go.Pie Go.Sch
attribute [local irreducible] Ce Ba DX DJ En AZ CB
def TS (L:List Pos):Int:=jC L (L.length-1)
theorem uJ (L:List Pos) (p:Pos):∀ k,k<L.length→jC (L++[p]) k=jC L k
 |0,_=>rfl
 |k+1,h=>by
  unfold jC;rw [uJ L p k (by omega),Q8 (by omega),Q8 (by omega)]
def aI (L:List Pos) (p:Pos):Int:=match L.getLast? with|none=>0|some x=>if p.h=x.h then mvC x.c p.c else 0
theorem V7 (L:List Pos) (p:Pos):TS (L++[p])=TS L+aI L p:=by
 unfold TS aI;rcases bo L.length with h|h
 ·obtain rfl:=av.1 h
  rfl
 ·obtain ⟨m,hm⟩:∃ m,L.length=m+1:=⟨L.length-1,by omega⟩
  have e1:(L++[p]).length-1=m+1:=by grind
  have e2:L.getLast?=some (gi L m):=by
   unfold gi;grind
  have e3:gi (L++[p]) (m+1)=p:=by rw [← hm];exact Uw
  rw [e1,e2,hm,Nat.add_sub_cancel];have e4:jC (L++[p]) (m+1)=if (gi (L++[p]) (m+1)).h=(gi (L++[p]) m).h then jC (L++[p]) m+mvC (gi (L++[p]) m).c (gi (L++[p]) (m+1)).c else jC (L++[p]) m:=rfl
  rw [e4,uJ L p m (by omega),e3,Q8 (by omega)];grind
theorem jW (q:Qu) (l:List Int) (h:Int):∀ k,∀ x∈Eo q l h k,x.h=h
 |0,x,hx=>absurd hx be
 |k+1,x,hx=>by
  unfold Eo at hx;split at hx
  ·rcases bj.1 hx with hx|hx
   ·exact jW q l h k x hx
   grind
  ·exact jW q l h k x hx
theorem getLast_mem {α:Type} {L:List α} {x:α} (h:L.getLast?=some x):x∈L :=by grind
theorem tZ (q:Qu) (l:List Int) (A:List Pos) (hA:∀ x∈A,x.h=0):∀ k,TS (A++Eo q l 1 k)=TS A+TS (Eo q l 1 k)
 |0=>by
  show TS (A++[])=TS A+TS [];rw [cN];show TS A=TS A+0;omega
 |k+1=>by
  have ih:=tZ q l A hA k;unfold Eo;split
  ·rw [← cw,V7,V7,ih]
   have:aI (A++Eo q l 1 k) ⟨1,k,(FY q l 1 k).2⟩=aI (Eo q l 1 k) ⟨1,k,(FY q l 1 k).2⟩:=by
    unfold aI;grind
   omega
  omega
def Xw (L:List Pos) (b:Bool) (c:VF):Prop:=match L.getLast? with|none=>b=false|some x=>b=true∧c=x.c
theorem vM {L:List Pos} {b:Bool} {c:VF} (p:Pos):Xw (L++[p]) true p.c:=by
 unfold Xw;simp
theorem a4t {q:Qu} {l:List Int} {h:Int} {k:Nat} {b:Bool} {c:VF} (hp:Xw (Eo q l h k) b c) (r:Bool×VF) (hr:r.1=true) (i:Int):aI (Eo q l h k) ⟨h,i,r.2⟩=Gq r b c:=by
 unfold Xw at hp;unfold aI Gq;rw [if_pos hr];cases h1:(Eo q l h k).getLast? with
 |none =>
  grind
 |some x =>
  rw [h1] at hp;simp only at hp ⊢;obtain ⟨hb,hc⟩:=hp;rw [hb,if_pos rfl,if_pos (jW q l h k x (getLast_mem h1)).symm,hc]
theorem iq (q:Qu) (l:List Int):∀ t,Xw (Eo q l 0 t) (JE st0 (G7 q) l t).b0 (JE st0 (G7 q) l t).c0∧Xw (Eo q l 1 t) (JE st0 (G7 q) l t).b1 (JE st0 (G7 q) l t).c1∧cF st0 (G7 q) (KX q) l t=TS (Eo q l 0 t)+TS (Eo q l 1 t)
 |0=>⟨rfl,rfl,rfl⟩
 |t+1=>by
  obtain ⟨h0,h1,h2⟩:=iq q l t;have e0:JE st0 (G7 q) l (t+1)=G7 q t (JE st0 (G7 q) l t) l:=rfl;have e1:cF st0 (G7 q) (KX q) l (t+1)=cF st0 (G7 q) (KX q) l t+KX q t (JE st0 (G7 q) l t) l:=rfl;rw [e0,e1,h2];generalize JE st0 (G7 q) l t=x at *;obtain ⟨nw,c0,c1,b0,b1⟩:=x;simp only at h0 h1;have key:∀ (h:Int) (b:Bool) (c:VF),Xw (Eo q l h t) b c→Xw (Eo q l h (t+1)) ((FY q l h t).1||b) (if (FY q l h t).1=true then (FY q l h t).2 else c)∧TS (Eo q l h (t+1))=TS (Eo q l h t)+Gq (FY q l h t) b c:=fun h b c hp=>by
   have hi:=a4t hp (FY q l h t);have e2:Eo q l h (t+1)=if (FY q l h t).1=true then Eo q l h t++[⟨h,t,(FY q l h t).2⟩] else Eo q l h t:=rfl
   rw [e2];by_cases hr:(FY q l h t).1=true
   ·rw [if_pos hr,if_pos hr,V7,hi hr,hr]
    exact ⟨vM (b:=b) (c:=c) ⟨h,t,(FY q l h t).2⟩,rfl⟩
   ·rw [if_neg hr,if_neg hr]
    have hf:(FY q l h t).1=false:=by simpa using hr
    rw [hf];refine ⟨by simpa using hp,?_⟩;unfold Gq;rw [if_neg hr];omega
  obtain ⟨k0,k1⟩:=key 0 b0 c0 h0;obtain ⟨k2,k3⟩:=key 1 b1 c1 h1;refine ⟨k0,k2,?_⟩;rw [k1,k3];unfold KX;simp only;omega
theorem sW (q:Qu) (l:List Int):cF st0 (G7 q) (KX q) l (AY q.p).length=Dz q l:=by
 rw [(iq q l _).2.2];exact (tZ q l _ (jW q l 0 _) _).symm
theorem xR (q:Qu) (hq:IK q) (l:List Int):∀ t,t≤(AY q.p).length→(JE st0 (G7 q) l t).c0.Ok∧(JE st0 (G7 q) l t).c1.Ok∧0≤cF st0 (G7 q) (KX q) l t∧cF st0 (G7 q) (KX q) l t≤278*t
 |0,_=>⟨⟨bb _,by show (0:Int)≤127;omega⟩,⟨bb _,by show (0:Int)≤127;omega⟩,bb _,bb _⟩
 |t+1,ht=>by
  obtain ⟨h0,h1,h2,h3⟩:=xR q hq l t (by omega);have a0:=Wn hq (J5 (q:=q) (i:=t) (by omega)) l 0 _ (ab _);have a1:=Wn hq (J5 (q:=q) (i:=t) (by omega)) l 1 _ (ab _);have e0:JE st0 (G7 q) l (t+1)=G7 q t (JE st0 (G7 q) l t) l:=rfl;have e1:cF st0 (G7 q) (KX q) l (t+1)=cF st0 (G7 q) (KX q) l t+KX q t (JE st0 (G7 q) l t) l:=rfl;rw [e0,e1];generalize JE st0 (G7 q) l t=x at *;have key:∀ (r:Bool×VF) (b:Bool) (c:VF),r.2.Ok→c.Ok→0≤Gq r b c∧Gq r b c≤139:=fun r b c hr hc=>by
   have:=Ve hc hr;unfold Gq;omega
  have k0:=key (FY q l 0 t) x.b0 x.c0 a0 h0;have k1:=key (FY q l 1 t) x.b1 x.c1 a1 h1;refine ⟨?_,?_,?_,?_⟩
  ·show VF.Ok (if (FY q l 0 t).1=true then (FY q l 0 t).2 else x.c0)
   split
   ·exact a0
   omega
  ·show VF.Ok (if (FY q l 1 t).1=true then (FY q l 1 t).2 else x.c1)
   split
   ·exact a1
   omega
  ·show 0≤_+(Gq (FY q l 0 t) x.b0 x.c0+Gq (FY q l 1 t) x.b1 x.c1)
   omega
  ·show _+(Gq (FY q l 0 t) x.b0 x.c0+Gq (FY q l 1 t) x.b1 x.c1)≤278*((t+1:Nat):Int)
   omega
theorem ZT {q:Qu} (hM:∀ t,t<(AY q.p).length→kQ q t≤12):b4a q=false:=by
 unfold b4a D9;rw [bH (fun i hi=>decide_eq_false (by have:=hM i hi;unfold kQ at this;omega)) _ (ab _)];rfl
attribute [local irreducible] Aa Ai Ag Ad AO Ap Bc BK Bh Ah Vm.Done Bv AB Pv A8 BM Et IG FX Hold
def IsB (q:Qu) (l:List Int):Prop:=l∈Ho q (AY q.p).length∧∀ h∈Ho q (AY q.p).length,iY (l,Dz q l) (h,Dz q h)
theorem ru {q:Qu} {a b:List Int} (ha:IsB q a) (hb:IsB q b):a=b:=congrArg Prod.fst (a8v (ha.2 b hb.1) (hb.2 a ha.1))
noncomputable def Yo (q:Qu):Option (List Int):=open Classical in if h:∃ l,IsB q l then some (Classical.choose h) else none
theorem Wj {q:Qu} {l:List Int} (h:IsB q l):Yo q=some l:=by
 unfold Yo;rw [dif_pos ⟨l,h⟩];exact congrArg some (ru (Classical.choose_spec (p:=IsB q) ⟨l,h⟩) h)
theorem b2x {q:Qu} {l:List Int} (h:Yo q=some l):IsB q l:=by
 unfold Yo at h;split at h
 ·grind
 grind
theorem jc {q:Qu} (h:Ho q (AY q.p).length=[]):Yo q=none:=by
 cases h1:Yo q with
 |none=>rfl
 |some l =>
  have:=(b2x h1).1;grind
def gJ (q:Qu) (t:Nat) (m:List (JY×Way)):Prop:=rV (MO q) (fQ q) (kQ q) (XY q) (MX q) st0 (G7 q) (KX q) t m
theorem xE {es:List (JY×Way)} {V:List Nat} (h:∀ i,i∈V↔i<es.length) (d:JY×Way):d∈V.map (gi es)↔d∈es:=by
 rw [ba];constructor
 ·rintro ⟨i,h1,rfl⟩
  exact DV ((h i).1 h1)
 ·intro hd
  obtain ⟨i,h1,h2⟩:=Ky hd;grind
theorem vN (q:Qu) (hq:IK q) {t:Nat} (ht:t<(AY q.p).length) {m:List (JY×Way)} (hm:gJ q t m) {V:List Nat} (hV:∀ i,i∈V↔i<m.length):gJ q (t+1) (SQ q t m V) :=
 rV.step (Xg q hq) (b2j q) (UG q) (b6a q) ht hm (xE hV)
theorem a4n (q:Qu) (hq:IK q) {t:Nat} (ht:t<(AY q.p).length) {m:List (JY×Way)} (hm:gJ q t m):∀ e∈m,c2x q t e:=fun e he=>by
 obtain ⟨g1,g2,g3⟩:=hm.sub e he;obtain ⟨k1,k2,k3,k4⟩:=xR q hq e.2.1 t (by omega);have hT:=LY q.p;have hn:=hq.p.notes;refine ⟨uD q hq ht ((P7 q hq (by omega) _).1 g1),?_,by grind,by grind⟩;omega
theorem a2x (q:Qu) (hq:IK q) {m:List (JY×Way)} (hm:gJ q (AY q.p).length m):∀ e∈m,e.2.1.length=q.p.notes.length∧0≤e.2.2∧e.2.2≤1000000000000:=fun e he=>by
 obtain ⟨g1,g2,g3⟩:=hm.sub e he;obtain ⟨k1,k2,k3,k4⟩:=xR q hq e.2.1 (AY q.p).length (ab _);have hT:=LY q.p;have hn:=hq.p.notes;refine ⟨jQ.len ((P7 q hq (ab _) _).1 g1),?_⟩;omega
def SK (es:List (JY×Way)) (V:List Nat):Option Way:=(V.map fun i=>(gi es i).2).foldl X9 none
theorem a1y (q:Qu) {es:List (JY×Way)} (hm:gJ q (AY q.p).length es) {V:List Nat} (hV:∀ i,i∈V↔i<es.length):SK es V=(Yo q).map fun l=>(l,Dz q l):=by
 have hmem:∀ w,w∈(V.map fun i=>(gi es i).2)↔∃ e∈es,e.2=w:=fun w=>by
  rw [ba];constructor
  ·rintro ⟨i,h1,rfl⟩
   exact ⟨_,DV ((hV i).1 h1),rfl⟩
  ·rintro ⟨e,h1,rfl⟩
   obtain ⟨i,h2,rfl⟩:=Ky h1;grind
 have hw:∀ e∈es,e.2.2=Dz q e.2.1:=fun e he=>by rw [(hm.sub e he).2.2];exact sW q _
 unfold SK;rcases Wq (V.map fun i=>(gi es i).2) none with ⟨_,h1,h2⟩|⟨w,h1,h2,h3,_⟩
 ·rw [h2]
  have:Ho q (AY q.p).length=[]:=by
   cases h:Ho q (AY q.p).length with
   |nil=>rfl
   |cons a l =>
    obtain ⟨o,ho,_⟩:=hm.best a (by show a∈Ho q _;grind);simp_all
  rw [jc this];rfl
 ·rcases h2 with h2|h2
  ·obtain ⟨e,he,rfl⟩:=(hmem w).1 h2
   have hc:=hw e he;have hB:IsB q e.2.1:=by
    refine ⟨(hm.sub e he).1,fun h hh=>?_⟩;obtain ⟨o,ho,hle⟩:=hm.best h hh;have e1:=sW q h;rw [e1] at hle;rw [← hc];exact KI (h3 o ((hmem o).2 ⟨_,ho,rfl⟩)) hle
   rw [Wj hB];grind
  grind
def c0y:Option Way→PV
 |none=>.p (.val (.pointer none))
 |some w=>.p (.ES [.lst 3 (cells w.1) w.1.length,.int .i64 w.2])
def b6w:HB:=.box 41 [.p (.val (.slice none 0 0)),.p (.int .i64 0)]
noncomputable def ZM (q:Qu):PV:=match Yo q with
 |none=>.Eb [.p (.agg [.val (.slice none 0 0),.int .i64 0]),.p (.int .i64 24)]
 |some l=>.Eb [.p (.agg [.lst 3 (cells l) l.length,.int .i64 (Dz q l)]),.p (.int .i64 0)]
theorem kP:Am.Enters Tryz.prog 39:=⟨_,Tryz.func39,by rfl,by rfl⟩
theorem a2f (q:Qu) (hq:IK q) (hM:∀ t,t<(AY q.p).length→kQ q t≤12):IG env 11 [.agg (Enc.enc q)] (ZM q):=by
 have hc:=X4 q hq.o.sm hq.p.sm;rw [a5p hq] at hc;have hcr:=Vo q hq;rw [ZT hM] at hcr;have hbg:=Zx q hq;have hsl:=NZ q hq;have hSl:=LY q.p;have hn:=hq.p.notes;refine IG.enter Tryz.func11 rfl (by kernel_rfl) (by kernel_rfl) (by simp [Tryz.ntmps11]) ?_
 repeat' (first|apply A8.BD|apply Et.normal|apply A8.to|apply A8.block|apply A8.skip|(apply A8.cond_false;rfl)|(apply Aa.fn;rfl;rfl;exact hc;intro _;rfl)|(apply Aa.fn;rfl;rfl;exact hcr;intro _;rfl)|(apply Aa.fn;rfl;rfl;exact hbg;intro _;rfl)|(apply Aa.fn;rfl;rfl;exact hsl;intro _;rfl)|(apply c0u (m:=[]) (y:=st0) (MX q,0);rfl;rfl;rfl;rfl;rfl)|refine go1 ?_|(apply b6h)|(apply Aa.int;rfl;rfl;rfl)|(apply Aa.build;rfl;rfl;rfl;rfl;rfl))
 all_goals try (exfalso;omega)
 all_goals try contradiction
 have hS2:∀ k,k<(AY q.p).length→gi (AY q.p) k=Nj q k:=fun k _=>rfl
 refine A8.DL (fun s:Nat×List (JY×Way)=>[(1,.ref 0 0),(2,.ref 1 0),(5,.mref 2),(27,.p (.lst 81 (cells (AY q.p)) (AY q.p).length)),(28,.p (.int .i64 ((AY q.p).length:Int))),(29,.p (.int .i64 (s.1:Int)))])
  (fun s=>[(0,tH q),(1,b6w),(2,LK s.2)]) 3 (fun s=>s.1≤(AY q.p).length∧gJ q s.1 s.2) (fun s=>(AY q.p).length-s.1) (0,[(st0,(MX q,0))]) (by decide) ⟨ao _,rV.start⟩ ⟨by decide,?_,?_⟩ ?_
 ·exact C9
 ·repeat (first|exact BI.nil|(refine BI.cons (Bj rfl) ?_ rfl ?_ ?_;(first|exact CG _ _|exact CS _ _|exact HB.Az rfl|exact CU.Bf _ _|(simp [HB.under,CU.under,PV.under]));(first|exact JV.refl _|exact JV.vec (Jh.refl _) (by simp))))
 rintro ⟨k,m⟩ ⟨hk,hm⟩;simp only at hk hm ⊢;rcases an k (AY q.p).length with hkl|hkl
 ·have ha:=wC q hq k hkl (hM k hkl) m (a4n q hq hkl hm)
  unfold tH b6w
  repeat' (first|(refine A8.atEnd 10 ?_;apply A8.lY)|((refine BM.IL 36 ?_;refine Hold.of ?_))|apply A8.BD|apply Et.normal|apply A8.to|apply A8.block|apply A8.skip|(apply A8.Aq;rfl)|apply BM.one|apply Ai.nil|apply Ai.one|(apply Aa.move;rfl)|(apply Aa.int;rfl;rfl;rfl)|(apply Aa.Aj;rfl;rfl;rfl;omega;rfl)|(apply Aa.load;rfl;rfl)|(apply Aa.alloc;rfl)|(apply Aa.FT;rfl;rfl;rfl;trivial;rfl;rfl;exact Bj rfl;exact le_dec rfl)|(intro _;try (exfalso;omega)))
  all_goals try (exfalso;omega)
  refine Hold.go ?_;refine BM.c0w [2] ha kP rfl rfl (.of_eq rfl) (CU.Az rfl) ⟨⟨by decide,CG _ _⟩,trivial⟩ ⟨⟨_,rfl,by rw [YM];exact JV.refl _⟩,trivial⟩ (by decide) (by decide) ?_;rintro r H' nx' ⟨V,hV1,hV2,rfl,rfl,rfl⟩;have hms:=vN q hq hkl hm hV2
  repeat' (first|((refine A8.atEnd 11 ?_;refine Hold.of ?_))|apply Et.normal|apply BM.nil|apply BM.one|apply Bh.normal|(apply Aa.assign;rfl))
  refine Hold.go ?_;refine A8.swap 2 4 (by decide) (by decide) (by decide) (by decide) ?_
  repeat' (first|apply A8.region|refine go1 ?_|fail)
  all_goals try (exfalso;omega)
  refine Ah.normal ⟨(k+1,SQ q k m V),⟨hkl,hms⟩,by show (AY q.p).length-(k+1)<(AY q.p).length-k;omega,⟨by decide,?_,?_⟩⟩
  ·dsimp only
   exact C9
  ·dsimp only
   repeat (first|exact BI.nil|(refine BI.cons (Bj rfl) ?_ rfl ?_ ?_;(first|exact CG _ _|exact HB.Az rfl);(first|exact JV.refl _|(rw [YM,YM];exact JV.refl _))))
 ·obtain rfl:k=(AY q.p).length:=by omega
  repeat' (first|((refine A8.at 13 ?_;refine Hold.of ?_))|apply A8.BD|apply Et.normal|apply Et.exit|apply A8.to|apply A8.exit|(apply A8.Aq;rfl)|refine go0 ?_|(intro _;try (exfalso;omega)))
  all_goals try (exfalso;omega)
  refine Hold.go ?_;have hfin:=a2x q hq hm;refine A8.l7 (fun b:Option Way=>[(1,.ref 0 0),(2,.ref 1 0),(8,c0y b),(38,.mref 2)]) (fun b=>[(0,tH q),(1,b6w),(2,LK m)]) (fun V b=>b=SK m V∧∀ i∈V,i<m.length) none (Dp:=3) (b:=2) (ks:=(JJ m).map fun x=>.agg (Enc.enc x.1)) (cs:=(JJ m).map (·.2)) rfl rfl (by decide) rfl ⟨rfl,fun i h=>absurd h be⟩ ⟨by decide,?_,?_⟩ rfl (fun _=>⟨rfl,rfl,rfl⟩) (fun _ _ _=>rfl) (by simp) rfl (by kernel_rfl) (by kernel_rfl) (by decide) ?_ ?_
  ·exact C9
  ·repeat (first|exact BI.nil|(refine BI.cons (Bj rfl) ?_ rfl ?_ ?_;(first|exact CG _ _|exact CS _ _|exact HB.Az rfl|exact CU.Bf _ _|(simp [HB.under,CU.under,PV.under]));(first|exact JV.refl _|exact JV.vec (Jh.refl _) (by simp))))
  ·rintro V b i kk c ⟨hi,hV⟩ hnd hni hk hc
   subst hi;have hil:i<m.length:=by
    have:=(bw.1 hk).1;simpa [JJ] using this
   have hei:m[i]?=some (gi m i):=by unfold gi;rw [ai hil];rfl
   have ec:c=.p (P6 (gi m i).2):=by
    unfold JJ at hc;rw [ax,ax,hei] at hc;simpa using hc.symm
   subst ec;have hpick:SK m (V++[i])=X9 (SK m V) (gi m i).2:=by
    unfold SK;rw [bm,dq];rfl
   have hlen:∀ o,SK m V=some o→o.1.length=q.p.notes.length∧0≤o.2∧o.2≤1000000000000:=fun o ho=>by
    rcases Wq (V.map fun i=>(gi m i).2) none with ⟨_,_,h⟩|⟨w,h1,h2,_,_⟩
    ·unfold SK at ho;rw [h] at ho;cases ho
    ·unfold SK at ho;rw [h1] at ho;cases ho
     rcases h2 with h2|h2
     ·obtain ⟨j,j1,rfl⟩:=ba.1 h2
      exact hfin _ (DV (hV j j1))
     ·cases h2
   rw [hpick];clear hpick;have hV':∀ j∈V++[i],j<m.length:=fun j hj=>by
    rcases bj.1 hj with h|h
    ·exact hV j h
    ·rw [aL] at h;omega
   obtain ⟨f1,f2⟩:=hfin _ (DV hil);generalize SK m V=b at *;generalize (gi m i).2=v at *;obtain ⟨l,cc⟩:=v;simp only at f1 f2;cases b with
   |none =>
    have ei:X9 none (l,cc)=some (l,cc):=rfl;rw [ei]
    repeat' (first|(refine A8.atEnd 17 ?_;refine A8.ghost (Aw.iR 10 [.lst 3 (cells l) l.length,.int .i64 cc] rfl rfl rfl) ?_;first|apply A8.region|apply A8.Fz)|apply A8.Cj|(apply A8.cond_true;rfl)|apply BM.nil|apply BM.one|refine go2 ?_|(apply Ag.Xc;rfl;rfl)|(apply Aa.b0w;rfl;rfl;rfl))
    all_goals try (exfalso;omega)
    all_goals try contradiction
    refine Ah.normal ⟨some (l,cc),⟨rfl,hV'⟩,⟨by decide,?_,?_⟩⟩
    ·exact C9
    ·repeat (first|exact BI.nil|(refine BI.cons (Bj rfl) ?_ rfl ?_ ?_;(first|exact CG _ _|exact CS _ _|exact HB.Az rfl|exact CU.Bf _ _|(simp [HB.under,CU.under,PV.under]));(first|exact JV.refl _|exact JV.vec (Jh.refl _) (by simp))))
   |some o =>
    obtain ⟨ol,oc⟩:=o;obtain ⟨o1,o2⟩:=hlen _ rfl;simp only at o1 o2;have hcmp:=SC l ol (by omega) (by omega);have ei:X9 (some (ol,oc)) (l,cc)=if ltB (l,cc) (ol,oc)=true then some (l,cc) else some (ol,oc):=rfl
    have hb:ltB (l,cc) (ol,oc)=(decide (cc<oc)||(decide (cc=oc)&&decide (cmpL l ol<0))):=rfl;rw [hb] at ei;generalize cmpL l ol=cm at *;by_cases g1:cc<oc;all_goals by_cases g2:cc=oc
    all_goals by_cases g3:cm<0
    all_goals first|rw [decide_eq_true g1] at ei|rw [decide_eq_false g1] at ei
    all_goals first|rw [decide_eq_true g2] at ei|rw [decide_eq_false g2] at ei
    all_goals first|rw [decide_eq_true g3] at ei|rw [decide_eq_false g3] at ei
    all_goals simp only [Bool.true_or,Bool.false_or,Bool.true_and,Bool.false_and,Bool.false_eq_true,if_true,if_false] at ei
    all_goals rw [ei]
    all_goals
     repeat' (first|(refine A8.atEnd 17 ?_;refine A8.ghost (Aw.iR 10 [.lst 3 (cells l) l.length,.int .i64 cc] rfl rfl rfl) ?_;first|apply A8.region|apply A8.Fz)|apply A8.Cj|apply A8.skip|(apply A8.cond_true;rfl)|(apply A8.cond_false;rfl)|(apply A8.Aq;rfl)|apply BM.nil|apply BM.one|(apply Aa.fn;rfl;rfl;exact hcmp;intro _;rfl)|refine go2 ?_|(apply Ag.guard;rfl;rfl)|(apply Ag.Xc;rfl;rfl)|(apply Aa.a9g;rfl;rfl;rfl)|(apply Aa.a1i;rfl)|(apply Aa.int;rfl;rfl;rfl)|(intro _;try (exfalso;omega)))
    all_goals try (exfalso;omega)
    all_goals try contradiction
    all_goals
     refine Ah.normal ⟨_,⟨rfl,hV'⟩,⟨by decide,?_,?_⟩⟩
     ·exact C9
     ·repeat (first|exact BI.nil|(refine BI.cons (Bj rfl) ?_ rfl ?_ ?_;(first|exact CG _ _|exact CS _ _|exact HB.Az rfl|exact CU.Bf _ _|(simp [HB.under,CU.under,PV.under]));(first|exact JV.refl _|exact JV.vec (Jh.refl _) (by simp))))
  ·rintro V b ⟨hi,hV⟩ hnd h1 h2
   subst hi;have hV2:∀ i,i∈V↔i<m.length:=fun i=>⟨hV i,fun h=>h1 i (by simpa [JJ] using h)⟩
   rw [a1y q hm hV2];unfold ZM;cases Yo q with
   |none =>
    show Et _ _ _ _ _ _ [(1,_),(2,_),(8,.p (.val (.pointer none))),(38,_)] _ _
    repeat' (first|apply A8.BD|apply Et.normal|apply Et.ret|apply A8.to|apply A8.ret|(apply A8.cond_true;rfl)|refine go1 ?_|(apply Aa.b0w;rfl;rfl;rfl)|(apply Aa.build;rfl;rfl;rfl;rfl;rfl))
    all_goals try (exfalso;omega)
    all_goals try contradiction
    all_goals (refine Done.rt rfl rfl ⟨?_,rfl,rfl⟩;try rfl)
   |some l =>
    show Et _ _ _ _ _ _ [(1,_),(2,_),(8,.p (.ES [.lst 3 (cells l) l.length,.int .i64 (Dz q l)])),(38,_)] _ _
    repeat' (first|apply A8.BD|apply A8.Cj|apply Et.normal|apply A8.to|apply A8.ret|apply A8.skip|(apply A8.cond_false;rfl)|refine go2 ?_|(apply Aa.a9g;rfl;rfl;rfl)|(apply Aa.a1i;rfl)|(apply Aa.build;rfl;rfl;rfl;rfl;rfl))
    all_goals try (exfalso;omega)
    all_goals try contradiction
    all_goals (refine Done.rt rfl rfl ⟨?_,rfl,rfl⟩;try rfl)
theorem b2z {a:Nat} (h:a<100000000000000000):Lib.nDigits a≤18:=by
 have h1:Lib.nDigits 100000000000000000=18:=Lib.nDigits_unique 17 _ (by decide) (by decide);rcases an 18 (Lib.nDigits a) with h2|h2
 ·have:=Num.NV (a:=100000000000000000) (b:=a) (by omega)
  omega
 omega
theorem aX (a b:Nat) (ha:a<100000000000000000) (hb:b<100000000000000000):Ap env 43 [.str (bs (Lib.decDigits a)),.str (bs (Lib.decDigits b))] (st (Lib.decDigits (a+b))):=by
 have q1:Ap env 91 [.str (bs (Lib.decDigits a)),.int .i64 18] (.Eb [.p (.int .i64 (a:Int)),.p (.bool true)]):=by
  have:=Oe a 18 (ab _);rw [if_pos (b2z ha),decide_eq_true (b2z ha)] at this;omega
 have q2:Ap env 91 [.str (bs (Lib.decDigits b)),.int .i64 18] (.Eb [.p (.int .i64 (b:Int)),.p (.bool true)]):=by
  have:=Oe b 18 (ab _);rw [if_pos (b2z hb),decide_eq_true (b2z hb)] at this;omega
 have ho:Ap env 18 [.int .i64 ((a:Int)+(b:Int))] (st (Lib.decDigits (a+b))):=by
  have:=Uf ((a+b:Nat):Int) ⟨by omega,by omega⟩;assumption
 generalize Lib.decDigits b=y at *;refine Ap.enter (Af (by decide)) Tryz.func43 rfl (by kernel_rfl) (by simp) ?_
 repeat' (first|(apply Aa.fn;rfl;rfl;exact q1;intro _;rfl)|(apply Aa.fn;rfl;rfl;exact q2;intro _;rfl)|(apply Aa.fn;rfl;rfl;exact ho;intro _;rfl)|refine go1 ?_|(apply Ad.AX;rfl))
 all_goals first|(exfalso;omega)|contradiction|(refine Done.rt rfl rfl ⟨?_,rfl,rfl⟩;try rfl)
abbrev IQ:=List Int×Nat
def O9 (w:IQ):FV:=.agg [.lst 3 (cells w.1) w.1.length,.str (bs (Lib.decDigits w.2))]
def Jz (es:List (List UInt8×IQ)):List (List UInt8×PV):=es.map fun e=>(e.1,.p (O9 e.2))
def Uc (es:List (List UInt8×IQ)):HB:=NC (fun x:List UInt8=>.str (bs x)) (Jz es)
theorem CS (k:Nat) (es:List (List UInt8×IQ)):HB.under k (Uc es):=by
 induction es with
 |nil=>exact trivial
 |cons e es ih=>exact ⟨trivial,ih⟩
theorem cvJ {k:Nat} {a b:Heap} (h:Vm.BI k a b:=by repeat (first|exact BI.nil|(refine BI.cons (Bj rfl) ?_ rfl ?_ ?_;(first|exact CS _ _|exact CG _ _|exact HB.Az rfl|exact CU.Bf _ _|(simp [HB.under,CU.under,PV.under]));(first|exact JV.refl _|exact JV.vec (Jh.refl _) (by simp))))):Vm.BI k a b:=h
theorem cvK {k:Nat} {a b:Heap} (h:Vm.BI k a b:=by repeat (first|exact BI.nil|(refine BI.eq rfl (Bj rfl) ?_ ?_;(first|exact CS _ _|exact CG _ _|exact HB.Az rfl|exact CU.Bf _ _|(simp [HB.under,CU.under,PV.under];done)))|(refine BI.cons (Bj rfl) ?_ rfl ?_ ?_;(first|exact CS _ _|exact CG _ _|exact HB.Az rfl|exact CU.Bf _ _|(simp [HB.under,CU.under,PV.under]));(first|exact JV.refl _|exact JV.vec (Jh.refl _) (by simp))))):Vm.BI k a b:=h
theorem b3v (ρ:Nat→Nat) (es:List (List UInt8×IQ)):(Uc es).rn ρ=Uc es:=by
 show HB.JB _ (CU.rn ρ ((Jz es).map (·.2)))=HB.JB _ _;have:CU.rn ρ ((Jz es).map (·.2))=(Jz es).map (·.2):=by
  induction es with
  |nil=>rfl
  |cons e es ih =>
   show PV.rn ρ (PV.p (O9 e.2))::CU.rn ρ ((Jz es).map (·.2))=_;rw [ih];rfl
 grind
section
variable {L:Vm.Frame} {H:Vm.Heap} {nx:Nat} {Q:PV→Vm.Heap→Nat→Prop} {w:Bool} {dst:Option Tmp} {ty:TypeId} {pos:String} {af:Array Edge} {gd:Option (Nat×Bool)}
theorem b6f {t:TypeId} (q:Q (.mref nx) ((nx,Uc [])::H) (nx+1)):Aa env w ⟨dst,.makeMap t none,ty,pos,af,gd⟩ L H nx Q:=Aa.aG q
theorem b7f {t et:TypeId} {x k:Operand} {b:Nat} {m:List (List UInt8×IQ)} {y:List UInt8} (hl:BO m y=none) (hx:AU env.Γ L x=some (.mref b)) (hb:hget H b=some (Uc m)) (hk:AU env.Γ L k=some (.p (.str (bs y))))
 (ht:env.P.underlying t=some (.map 9 et)) (hz:zeroOf env.P et=some (.agg #[.slice none 0 0,.string ⟨#[]⟩])) (q:Q (.Eb [.p (.agg [.val (.slice none 0 0),.str ⟨#[]⟩]),.p (.bool false)]) H nx):Aa env w ⟨dst,.lookup t x k true,ty,pos,af,gd⟩ L H nx Q:=by
 have h2:BO (Jz m) y=none:=by
  have:=UJ (fun w=>PV.p (O9 w)) y m;rw [hl] at this;exact this
 have hs:(BO (Jz m) y).isSome=false:=by grind
 rw [← hs] at q;exact Aa.lookupGo (z:=.agg #[.slice none 0 0,.string ⟨#[]⟩]) YT hx hb hk ht hz rfl (Lj.const h2 rfl) q
theorem b6r {t et:TypeId} {x k:Operand} {b:Nat} {m:List (List UInt8×IQ)} {y:List UInt8} {v:IQ} (hl:BO m y=some v) (hx:AU env.Γ L x=some (.mref b)) (hb:hget H b=some (Uc m)) (hk:AU env.Γ L k=some (.p (.str (bs y))))
 (ht:env.P.underlying t=some (.map 9 et)) (hz:zeroOf env.P et=some (.agg #[.slice none 0 0,.string ⟨#[]⟩])) (q:Q (.Eb [.p (O9 v),.p (.bool true)]) H nx):Aa env w ⟨dst,.lookup t x k true,ty,pos,af,gd⟩ L H nx Q:=by
 have h2:BO (Jz m) y=some (.p (O9 v)):=by
  have:=UJ (fun w=>PV.p (O9 w)) y m;rw [hl] at this;exact this
 have hs:(BO (Jz m) y).isSome=true:=by grind
 rw [← hs] at q;exact Aa.lookupGo (z:=.agg #[.slice none 0 0,.string ⟨#[]⟩]) YT hx hb hk ht hz rfl (.inl h2) q
theorem c1j {t et:TypeId} {x k y':Operand} {b:Nat} {m:List (List UInt8×IQ)} {y:List UInt8} (v:IQ) (hx:AU env.Γ L x=some (.mref b)) (hb:hget H b=some (Uc m)) (hk:AU env.Γ L k=some (.p (.str (bs y)))) (hy:AU env.Γ L y'=some (.p (O9 v)))
 (ht:env.P.underlying t=some (.map 9 et)) (q:Q (.Eb []) (hput H b (Uc (Cb m y v))) nx):Aa env true ⟨dst,.mapUpdate t x k y',ty,pos,af,gd⟩ L H nx Q :=
 Aa.a0y YT hx hb hk hy ht (by
  show hput H b (NC _ (Cb (Jz m) y (.p (O9 v))))=hput H b (NC _ (Jz (Cb m y v)));have:Cb (Jz m) y (PV.p (O9 v))=Jz (Cb m y v):=UA (fun w=>PV.p (O9 w)) y v m;grind) q
theorem c1b {t et:TypeId} {x k y':Operand} {b:Nat} {m:List (List UInt8×IQ)} {y:List UInt8} (v:IQ) (hx:AU env.Γ L x=some (.mref b)) (hb:hget H b=some (Uc m)) (hk:AU env.Γ L k=some (.p (.str (bs y)))) (hy:AU env.Γ L y'=some (.p (O9 v)))
 (ht:env.P.underlying t=some (.map 9 et)) (q:Q (.Eb []) (hput H b (Uc (Cb m y v))) nx):Aa env true ⟨dst,.insert t x k y',ty,pos,af,gd⟩ L H nx Q :=
 Aa.zL YT hx hb hk hy ht (by
  show hput H b (NC _ (Cb (Jz m) y (.p (O9 v))))=hput H b (NC _ (Jz (Cb m y v)));have:Cb (Jz m) y (PV.p (O9 v))=Jz (Cb m y v):=UA (fun w=>PV.p (O9 w)) y v m;grind) q
end
instance:Inhabited (List UInt8×IQ):=⟨([],([],0))⟩
def yH (q:Qu) (t:Nat) (e:List UInt8×IQ):List (List UInt8×IQ):=(lU q t e.2.1).map fun x=>(Pn (Fp q t) x,(x,e.2.2))
def Zu (q:Qu) (t:Nat) (es:List (List UInt8×IQ)) (V:List Nat):List (List UInt8×IQ):=((V.map (gi es)).flatMap (yH q t)).foldl RV []
def oP (q:Qu) (t:Nat) (m:List (List UInt8×IQ)):Prop:=Yl (MO q) (fQ q) (kQ q) (XY q) (MX q) [] (c0i q) t m
theorem XI {α:Type} [Inhabited α] {es:List α} {V:List Nat} (hn:V.Nodup) (h:∀ i,i∈V↔i<es.length):(V.map (gi es)).Perm es:=by
 have h1:V.Perm (List.range es.length):=(fR hn gj).2 fun i=>by grind
 have h2:(List.range es.length).map (gi es)=es:=by
  refine JF (by simp) fun i hi=>?_
  unfold gi;grind
 grind
theorem wQ (q:Qu) (hq:IK q) {t:Nat} (ht:t<(AY q.p).length) {m:List (List UInt8×IQ)} (hm:oP q t m) {V:List Nat} (hn:V.Nodup) (hV:∀ i,i∈V↔i<m.length):oP q (t+1) (Zu q t m V) :=
 Yl.step (Xg q hq) (b3b q) (UG q) (b6a q) ht hm (XI hn hV)
theorem a4f (q:Qu) (hq:IK q) {t:Nat} (ht:t≤(AY q.p).length) {m:List (List UInt8×IQ)} (hm:oP q t m):∀ e∈m,b8y q t e.2.1∧e.2.2≤(Ho q t).length:=fun e he=>by
 obtain ⟨g1,g2,g3⟩:=hm.sub e he;refine ⟨(P7 q hq ht _).1 g1,?_⟩;rw [g3];exact List.countP_le_length
theorem sD {α:Type} (F:α→Nat):∀ l:List α,(∀ a∈l,1≤F a)→l.length≤sumF F l
 |[],_=>ab _
 |a::l,h=>by
  have:=sD F l fun b hb=>h b (aq _ hb)
  have:=h a (by simp);simp only [sumF,List.length_cons];omega
theorem a4h (q:Qu) {t:Nat} {m:List (List UInt8×IQ)} (hm:oP q t m):m.length≤(Ho q t).length:=by
 have h:=Yl.total hm;refine am (sD (fun d:List UInt8×IQ=>d.2.2) m fun d hd=>?_) (Nat.le_of_eq h);obtain ⟨g1,g2,g3⟩:=hm.sub d hd;grind
theorem b3z {n c:Nat} {m:List (List UInt8×IQ)} {d:List UInt8×IQ} (hm:∀ e∈m,e.2.2≤n) (hd:d.2.2≤c):∀ e∈RV m d,e.2.2≤n+c:=fun e he=>by
 have key:∀ w:IQ,w.2≤n+c→∀ e∈Cb m d.1 w,e.2.2≤n+c:=fun w hw e he=>by
  rcases PU he with h|h|h
  ·grind
  ·grind
  grind
 unfold RV at he;split at he
 ·grind
 ·rename_i o ho
  have:=hm _ (KJ ho);grind
theorem c3g:Lib.decDigits 0=[48]:=by rw [Lib.decDigits];rfl
theorem c5i:Lib.decDigits 1=[49]:=by rw [Lib.decDigits];rfl
def cbd (n:Nat):Nat:=n*4096000000
theorem b7v {n:Nat} (h:n≤1000000):cbd n≤4096000000000000:=by unfold cbd;omega
theorem a8d (n:Nat):cbd (n+1)=cbd n+4096000000:=by unfold cbd;omega
theorem nT (q:Qu) (hq:IK q) (hM:∀ t,t<(AY q.p).length→kQ q t≤12) (hP:∀ t,t≤(AY q.p).length→(Ho q t).length≤1000000):IG env 12 [.agg (Enc.enc q)] (.Eb [st (Lib.decDigits (Ho q (AY q.p).length).length),.p (.int .i64 0)]):=by
 have hc:=X4 q hq.o.sm hq.p.sm;rw [a5p hq] at hc;have hcr:=Vo q hq;rw [ZT hM] at hcr;have hbg:=Zx q hq;have hsl:=NZ q hq;have hSl:=LY q.p;have hn:=hq.p.notes;have e1:(some (PV.p (.agg [.lst 3 (cells (MX q)) (MX q).length,.str ⟨#[49]⟩])))=some (PV.p (O9 (MX q,1))):=by
  unfold O9;simp only [c5i];rfl
 refine IG.enter Tryz.func12 rfl (by kernel_rfl) (by kernel_rfl) (by simp [Tryz.ntmps12]) ?_
 repeat' (first|apply A8.BD|apply Et.normal|apply A8.to|apply A8.block|apply A8.skip|(apply A8.cond_false;rfl)|(apply Aa.fn;rfl;rfl;exact hc;intro _;rfl)|(apply Aa.fn;rfl;rfl;exact hcr;intro _;rfl)|(apply Aa.fn;rfl;rfl;exact hbg;intro _;rfl)|(apply Aa.fn;rfl;rfl;exact hsl;intro _;rfl)|(apply c1b (m:=[]) (y:=[]) (MX q,1);rfl;rfl;rfl;exact e1;rfl)|refine go1 ?_|(apply b6f)|(apply Aa.int;rfl;rfl;rfl)|(apply Aa.build;rfl;rfl;rfl;rfl;rfl))
 all_goals try (exfalso;omega)
 all_goals try contradiction
 refine A8.DL (fun s:Nat×List (List UInt8×IQ)=>[(1,.ref 0 0),(5,.mref 1),(32,.p (.lst 81 (cells (AY q.p)) (AY q.p).length)),(33,.p (.int .i64 ((AY q.p).length:Int))),(34,.p (.int .i64 (s.1:Int)))])
  (fun s=>[(0,tH q),(1,Uc s.2)]) 2 (fun s=>s.1≤(AY q.p).length∧oP q s.1 s.2) (fun s=>(AY q.p).length-s.1) (0,[([],(MX q,1))]) (by decide) ⟨ao _,Yl.start⟩ ⟨by decide,?_,?_⟩ ?_
 ·exact C9
 ·exact cvJ
 rintro ⟨k,m⟩ ⟨hk,hm⟩;simp only at hk hm ⊢;have hml:=am (a4h q hm) (hP k hk);have hen:=a4f q hq hk hm;have hPk:=hP k hk;rcases an k (AY q.p).length with hkl|hkl
 ·unfold tH
  repeat' (first|((refine A8.at 11 ?_;refine Hold.of ?_))|apply A8.BD|apply Et.normal|apply A8.to|apply A8.block|apply A8.skip|(apply A8.Aq;rfl)|(apply Aa.Aj;rfl;rfl;rfl;omega;rfl)|refine go0 ?_|(apply b6f)|(intro _;try (exfalso;omega)))
  all_goals try (exfalso;omega)
  refine Hold.go ?_;refine A8.l7 (fun b:List (List UInt8×IQ)=>[(1,.ref 0 0),(7,.ref 2 0),(8,.mref 3),(32,.p (.lst 81 (cells (AY q.p)) (AY q.p).length)),(33,.p (.int .i64 ((AY q.p).length:Int))),(34,.p (.int .i64 (k:Int))),(39,.mref 1)]) (fun b=>[(0,tH q),(1,Uc m),(2,slB (Nj q k)),(3,Uc b)]) (fun V b=>b=Zu q k m V∧(∀ i∈V,i<m.length)∧∀ e∈b,e.2.2≤cbd V.length) [] (Dp:=4) (b:=1) (ks:=(Jz m).map fun x=>.str (bs x.1)) (cs:=(Jz m).map (·.2)) rfl rfl (by decide) rfl ⟨rfl,(fun i h=>absurd h be),fun e h=>absurd h be⟩ ⟨by decide,?_,?_⟩ rfl (fun _=>⟨rfl,rfl,rfl⟩) (fun _ _ _=>rfl) (by simp) rfl (by kernel_rfl) (by kernel_rfl) (by decide) ?_ ?_
  ·exact C9
  ·exact cvJ
  ·rintro V b i kk c ⟨hi,hV,hbl⟩ hnd hni hk' hc'
   subst hi;have hil:i<m.length:=by
    have:=(bw.1 hk').1;simpa [Jz] using this
   have hei:m[i]?=some (gi m i):=by unfold gi;rw [ai hil];rfl
   have ec:c=.p (O9 (gi m i).2):=by
    unfold Jz at hc';rw [ax,ax,hei] at hc';simpa using hc'.symm
   subst ec;have hfold:Zu q k m (V++[i])=(yH q k (gi m i)).foldl RV (Zu q k m V):=by
    unfold Zu;rw [bm,hX,dq,List.map_singleton,gD]
   rw [hfold];clear hfold;have hV':∀ j∈V++[i],j<m.length:=fun j hj=>by
    rcases bj.1 hj with h|h
    ·exact hV j h
    ·rw [aL] at h;omega
   have hVl:=Ip m.length V hnd hV;have hVs:(V++[i]).length=V.length+1:=by simp
   rw [hVs];have hcs:=a8d V.length;have hcl:=b7v (am hVl hml);obtain ⟨w1,w2⟩:=hen _ (DV hil);have w3:=uD q hq hkl w1;generalize Zu q k m V=b0 at *;unfold yH;generalize (gi m i).2=v at *;obtain ⟨l,cc⟩:=v;simp only at w1 w2 w3 ⊢;have hch:=U6 q hq k hkl (hM k hkl) l w3;have hwy:=fun y hy=>tV q hq hkl w3 (x:=y) hy
   have hLl:=sN q k (hM k hkl) l;generalize lU q k l=L at *;have hN:YP q (Nj q k).notes:=J5 hkl;have hNl:(Nj q k).notes.length≤1000:=VA hq hkl;obtain ⟨G,hG⟩:∃ G:List Int→List UInt8×IQ,G=fun y=>(Pn (Fp q k) y,(y,cc)):=⟨_,rfl⟩
   rw [← hG];rw [hcs];generalize cbd V.length=B at *;unfold tH slB
   repeat' (first|(refine A8.at 14 ?_;apply A8.LZ)|(apply BM.fn;rfl;rfl;exact hch;exact PW;intro _;rfl)|apply A8.block|apply BM.nil|apply BM.one|refine go2 ?_|fail)
   all_goals try (exfalso;omega)
   refine A8.ofV ?_;apply Ad.Ht (L.length) (fun k_=>∀ e∈((L.take k_).map G).foldl RV b0,e.2.2≤B+k_*1000000) [(1,_),(7,_),(8,_),(10,_),(32,_),(33,_),(34,_),(39,_),(49,_),(50,_)] [(0,_),(1,_),(2,_),(4,_)] (fun k_ r=>(51,.p (.int .i64 (k_:Int)))::r) (fun k_ r=>(3,Uc (((L.take k_).map G).foldl RV b0))::r) 5
   ·first|omega|decide
   ·first|omega|decide
   ·exact NI
   ·exact cvK
   ·first|(intro _ _;omega)|omega|trivial
   ·intro k_ hk_ hi
    obtain ⟨y1,y2⟩:=hwy _ (DV hk_);have e1:((L.take (k_+1)).map G).foldl RV b0=RV (((L.take k_).map G).foldl RV b0) (G (gi L k_)):=by
     rw [DZ hk_,bm,dq];rfl
    rw [e1];clear e1;generalize ((L.take k_).map G).foldl RV b0=mm at *;have b1j:=qm q (Nj q k) hN hNl (gi L k_) y1 y2;have hGk:G (gi L k_)=(Pn (Nj q k).notes (gi L k_),(gi L k_,cc)):=by rw [hG];rfl
    rw [hGk];have hle:=b3z (c:=1000000) (d:=(Pn (Nj q k).notes (gi L k_),(gi L k_,cc))) hi (by show cc≤1000000;omega);have hle:∀ e∈RV mm (Pn (Nj q k).notes (gi L k_),(gi L k_,cc)),e.2.2≤B+(k_+1)*1000000:=fun e he=>by have:=hle e he;omega
    generalize Pn (Nj q k).notes (gi L k_)=nn at *;have ei:RV mm (nn,(gi L k_,cc))=match BO mm nn with|none=>Cb mm nn (gi L k_,0+cc)|some o=>Cb mm nn (o.1,o.2+cc):=rfl
    cases hl:BO mm nn with
    |none =>
     rw [hl] at ei;simp only at ei;rw [ei] at hle ⊢;have ha:=aX 0 cc (by omega) (by omega);rw [c3g] at ha
     repeat' (first|(apply Aa.fn;rfl;rfl;exact b1j;intro _;rfl)|(apply Aa.fn;rfl;rfl;exact ha;intro _;rfl)|(apply b7f (m:=mm) (y:=nn) hl;rfl;rfl;rfl;rfl;rfl)|(apply c1j (m:=mm) (y:=nn) (gi L k_,0+cc);rfl;rfl;rfl;rfl;rfl)|(apply Aa.Aj;rfl;rfl;rfl;omega;rfl)|refine go1 ?_|(apply Aa.int;rfl;rfl;rfl)|(apply Aa.build;rfl;rfl;rfl;rfl;rfl)|(apply Ad.AX;rfl)|(apply Ad.Ac;rfl)|(intro _;try (exfalso;omega)))
     all_goals try (exfalso;omega)
     all_goals try contradiction
     refine Ah.normal ⟨hle,by first|omega|decide,?_,?_⟩
     ·exact C9
     ·exact cvJ
    |some o =>
     obtain ⟨ol,oc⟩:=o;have hoc:=hi _ (KJ hl);simp only at hoc;rw [hl] at ei;simp only at ei;rw [ei] at hle ⊢;have ha:=aX oc cc (by omega) (by omega)
     repeat' (first|(apply Aa.fn;rfl;rfl;exact b1j;intro _;rfl)|(apply Aa.fn;rfl;rfl;exact ha;intro _;rfl)|(apply b6r (m:=mm) (y:=nn) hl;rfl;rfl;rfl;rfl;rfl)|(apply c1j (m:=mm) (y:=nn) (ol,oc+cc);rfl;rfl;rfl;rfl;rfl)|(apply Aa.Aj;rfl;rfl;rfl;omega;rfl)|refine go1 ?_|(apply Aa.int;rfl;rfl;rfl)|(apply Ad.Ak;rfl)|(apply Ad.Ac;rfl)|(intro _;try (exfalso;omega)))
     all_goals try (exfalso;omega)
     all_goals try contradiction
     refine Ah.normal ⟨hle,by first|omega|decide,?_,?_⟩
     ·exact C9
     ·exact cvJ
   ·intro hi
    rw [cr] at hi ⊢
    repeat' (first|refine Eu ?_|(apply Ad.Ac;rfl)|(intro _;try (exfalso;omega)))
    all_goals try (exfalso;omega)
    refine Ah.normal ⟨_,⟨rfl,hV',fun e he=>by have:=hi e he;omega⟩,⟨by decide,?_,?_⟩⟩
    ·exact C9
    ·exact cvJ
  ·rintro V b ⟨hi,hV,_⟩ hnd h1 h2
   subst hi;have hV2:∀ i,i∈V↔i<m.length:=fun i=>⟨hV i,fun h=>h1 i (by simpa [Jz] using h)⟩
   have hms:=wQ q hq hkl hm hnd hV2;refine Et.normal ?_;refine A8.swap 1 3 (by decide) (by decide) (by decide) (by decide) ?_
   repeat' (first|apply A8.region|apply Et.normal|refine go1 ?_|fail)
   all_goals try (exfalso;omega)
   refine Ah.normal ⟨(k+1,Zu q k m V),⟨hkl,hms⟩,by show (AY q.p).length-(k+1)<(AY q.p).length-k;omega,⟨by decide,?_,?_⟩⟩
   ·dsimp only
    exact C9
   ·dsimp only
    repeat (first|exact BI.nil|(refine BI.cons (Bj rfl) ?_ rfl ?_ ?_;(first|exact CS _ _|exact HB.Az rfl);(first|exact JV.refl _|(rw [b3v];exact JV.refl _))))
 ·obtain rfl:k=(AY q.p).length:=by omega
  repeat' (first|((refine A8.at 27 ?_;refine Hold.of ?_))|apply A8.BD|apply Et.normal|apply Et.exit|apply A8.to|apply A8.exit|(apply A8.Aq;rfl)|refine go0 ?_|(intro _;try (exfalso;omega)))
  all_goals try (exfalso;omega)
  refine Hold.go ?_;have hsb:∀ V:List Nat,(∀ i∈V,i<m.length)→sumF (fun i=>(gi m i).2.2) V≤V.length*1000000:=fun V=>by
   induction V with
   |nil=>intro _;exact ab _
   |cons a V ih =>
    intro h;have h1:=ih fun i hi=>h i (aq _ hi)
    have h2:=(hen _ (DV (h a (by simp)))).2;simp only [sumF,List.length_cons];omega
  refine A8.l7 (fun s:Nat=>[(16,.p (.str (bs (Lib.decDigits s)))),(81,.mref 1)]) (fun s=>[(1,Uc m)]) (fun V s=>s=sumF (fun i=>(gi m i).2.2) V∧∀ i∈V,i<m.length) 0 (Dp:=2) (b:=1) (ks:=(Jz m).map fun x=>.str (bs x.1)) (cs:=(Jz m).map (·.2)) rfl rfl (by decide) rfl ⟨rfl,fun i h=>absurd h be⟩ ⟨by decide,?_,?_⟩ rfl (fun _=>⟨rfl,rfl,rfl⟩) (fun _ _ _=>rfl) (by simp) rfl (by kernel_rfl) (by kernel_rfl) (by decide) ?_ ?_
  ·rw [c3g]
   exact C9
  ·exact cvJ
  ·rintro V b i kk c ⟨hi,hV⟩ hnd hni hk' hc'
   subst hi;have hil:i<m.length:=by
    have:=(bw.1 hk').1;simpa [Jz] using this
   have hei:m[i]?=some (gi m i):=by unfold gi;rw [ai hil];rfl
   have ec:c=.p (O9 (gi m i).2):=by
    unfold Jz at hc';rw [ax,ax,hei] at hc';simpa using hc'.symm
   subst ec;have hV':∀ j∈V++[i],j<m.length:=fun j hj=>by
    rcases bj.1 hj with h|h
    ·exact hV j h
    ·rw [aL] at h;omega
   have hVl:=Ip m.length V hnd hV;have hs:=hsb V hV;have w2:=(hen _ (DV hil)).2;have hsum:sumF (fun i=>(gi m i).2.2) (V++[i])=sumF (fun i=>(gi m i).2.2) V+(gi m i).2.2:=by
    rw [LM];simp [sumF]
   rw [hsum];generalize sumF (fun i=>(gi m i).2.2) V=sv at *;generalize (gi m i).2=v at *;obtain ⟨l,cc⟩:=v;simp only at w2 ⊢;have ha:=aX sv cc (by omega) (by omega)
   repeat' (first|apply A8.region|apply BM.nil|apply BM.one|(apply Aa.fn;rfl;rfl;exact ha;intro _;rfl)|refine go1 ?_|fail)
   all_goals try (exfalso;omega)
   refine Ah.normal ⟨_,⟨rfl,hV'⟩,⟨by decide,?_,?_⟩⟩
   ·exact C9
   ·exact cvJ
  ·rintro V s ⟨hi,hV⟩ hnd h1 h2
   subst hi;have hV2:∀ i,i∈V↔i<m.length:=fun i=>⟨hV i,fun h=>h1 i (by simpa [Jz] using h)⟩
   have ht:sumF (fun i=>(gi m i).2.2) V=(Ho q (AY q.p).length).length:=by
    have h3:sumF (fun d:List UInt8×IQ=>d.2.2) m=(Ho q (AY q.p).length).length:=Yl.total hm;rw [← h3,← jK (fun d:List UInt8×IQ=>d.2.2) (XI hnd hV2),dF]
   rw [ht];refine Et.normal ?_
   repeat' (first|apply A8.BD|apply A8.ret|refine go1 ?_|fail)
   all_goals (refine Done.rt rfl rfl ⟨?_,rfl,rfl⟩;try rfl)
end Go.Proofs.YtnjkoebfgcbbdaaGreatDoor
