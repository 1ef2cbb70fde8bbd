/-
  Texts of a proof, merged (Vm45, HanQ, Wm5, HanN, HanS, HanT, HanU). Conditions: in each statement.
-/
import Derived.Test.YtnjkoebfgcbbdaaGreatDoorKCo
set_option linter.unusedSimpArgs false
set_option linter.unusedVariables false
set_option linter.unusedSectionVars false
set_option maxRecDepth 100000
set_option maxHeartbeats 8000000
abbrev cX:=@List.foldl_append
abbrev fy:=@List.perm_ext_iff_of_nodup
abbrev gA:=@List.flatMap_singleton
abbrev gO:=@List.map_eq_nil_iff
abbrev gP:=@List.flatMap_append
namespace Go.Vm
open Go.Am
def keyAt {α:Type} [DecidableEq α]:List α→α→Option Nat
 |[],_=>none
 |x::l,a=>if a=x then some 0 else (keyAt l a).map (·+1)
structure Ie (P:Program) (t:TypeId) {α:Type} [DecidableEq α] (kf:α→FV) (kv:α→Value):Prop where
 rel:∀ {m:Mem} {F:Nat→Prop} {a:α} {v:Value},RF m F (kf a) v→v=kv a
 of:∀ {m:Mem} {F:Nat→Prop} (a:α),RF m F (kf a) (kv a)
 plain:∀ a,Am.plain (kv a)=true
 bits:∀ a,((En P t).isSome||Instr.sameBits 10000 (kv a) (kv a))=true
 find:∀ (fl:Bool) (a:α) (ks:List α) (l:List MapEntry),l.map (·.key)=ks.map kv→Iy P fl t (kv a) l=some ((keyAt ks a).bind fun j=>(l[j]?).map fun e=>(j,e.val))
def Nj {α:Type} (kf:α→FV) (es:List (α×PV)):HB:=.Jz (es.map fun x=>kf x.1) (es.map (·.2))
theorem Y8 {α β:Type} [DecidableEq α] (a:α):∀ (es:List (α×β)),(BZ es a=none→keyAt (es.map (·.1)) a=none∧∀ b,Cm es a b=es++[(a,b)]) ∧
 (∀ c,BZ es a=some c→∃ j,keyAt (es.map (·.1)) a=some j∧es[j]?=some (a,c)∧∀ b,Cm es a b=es.set j (a,b))
 |[]=>⟨fun _=>⟨rfl,fun _=>rfl⟩,fun c h=>by cases h⟩
 |x::es=>by
  obtain ⟨h1,h2⟩:=Y8 a es;unfold BZ Cm;simp only [List.map_cons,keyAt];grind
theorem Ie.b9o {P:Program} {t:TypeId} {α:Type} [DecidableEq α] {kf:α→List FV} {kv:α→List Value} (hv:∀ a,FQ (kf a)=some (kv a)) (hg:TF P t=true) (he:∀ a b,DF P (Op.equal t (.agg (kv a).toArray) (.agg (kv b).toArray))=some (decide (a=b)))
 (hc:∀ fl a,WV P (Instr.checkKey fl 10000 t (.agg (kv a).toArray))=true):Ie P t (fun a=>.agg (kf a)) (fun a=>.agg (kv a).toArray):=by
 have h:IsKey P t kf kv:=⟨hv,hg,he,hc⟩
 refine ⟨fun r=>h.rel r,fun a=>h.of a,fun a=>h.plain a,fun a=>by rw [h.bits,Bool.or_true],fun fl a ks l hl=>?_⟩;rw [Yt h];have key:∀ (ks:List α) (l:List MapEntry) (i:Nat),l.map (·.key)=ks.map (fun a=>.agg (kv a).toArray)→DF P (Instr.findAsking t (.agg (kv a).toArray) l i)=some ((keyAt ks a).bind fun j=>(l[j]?).map fun e=>(i+j,e.val)):=by
  intro ks
  induction ks with
  |nil =>
   intro l i h1;rw [ej,gO] at h1;subst h1;rfl
  |cons x ks ih =>
   intro l i h1;cases l with
   |nil=>grind
   |cons y l =>
    simp only [List.map_cons,List.cons.injEq] at h1;rw [Instr.findAsking,h1.1];simp only [Au,he,Option.bind_some,keyAt];by_cases e:a=x
    ·rw [decide_eq_true e,if_pos e];rfl
    ·rw [decide_eq_false e,if_neg e]
     show DF P (Instr.findAsking t (.agg (kv a).toArray) l (i+1))=_;rw [ih l (i+1) h1.2];cases keyAt ks a with
     |none=>rfl
     |some j =>
      grind
 grind
theorem Ie.ofStr {P:Program} {t:TypeId} {α:Type} [DecidableEq α] {f:α→ByteArray} (hi:∀ a b,f a=f b→a=b) (ht:P.underlying t=some .string):Ie P t (fun a=>.str (f a)) (fun a=>.string (f a)):=by
 have hk:En P t=some .string:=by unfold En;rw [ht]
 refine ⟨fun r=>by cases r;rfl,fun a=>.str _,fun a=>rfl,fun a=>by grind,fun fl a ks l hl=>?_⟩;unfold Iy;have key:∀ (ks:List α) (l:List MapEntry) (i:Nat),l.map (·.key)=ks.map (fun a=>.string (f a))→Instr.findNow .string (.string (f a)) l i=some ((keyAt ks a).bind fun j=>(l[j]?).map fun e=>(i+j,e.val)):=by
  intro ks
  induction ks with
  |nil =>
   intro l i h1;rw [ej,gO] at h1;subst h1;rfl
  |cons x ks ih =>
   intro l i h1;cases l with
   |nil=>grind
   |cons y l =>
    simp only [List.map_cons,List.cons.injEq] at h1;unfold Instr.findNow;rw [h1.1];simp only [Instr.sameNow,keyAt];by_cases e:a=x
    ·subst e
     rw [show (f a==f a)=true by simp [NQ],if_pos rfl];rfl
    ·have hne:(f a==f x)=false:=by
      rw [NQ];refine decide_eq_false fun h2=>e (hi _ _ ?_)
      cases hfa:f a;simp_all
     rw [hne,if_neg e];rw [ih l (i+1) h1.2];cases keyAt ks a with
     |none=>rfl
     |some j =>
      grind
 grind
section
variable {P:Program} {α:Type} [DecidableEq α] {kf:α→FV} {kv:α→Value} {t:TypeId}
theorem jO (h:Ie P t kf kv) {m:Mem} {F:Nat→Prop}:∀ {es:List (α×PV)} {ks:List Value},Dj m F (es.map fun x=>kf x.1) ks→ks=(es.map (·.1)).map kv
 |[],_,r=>by cases r;rfl
 |x::es,_,r=>by
  cases r with
  |cons r1 r2=>rw [h.rel r1,jO h r2];rfl
theorem pz (h:Ie P t kf kv) {m:Mem} {F:Nat→Prop}:∀ (es:List (α×PV)),Dj m F (es.map fun x=>kf x.1) ((es.map (·.1)).map kv)
 |[]=>.nil
 |x::l=>.cons (h.of x.1) (pz h l)
theorem Dt.atG {m:Mem} {F:Nat→Prop} {T:Nat→Option Tg} {σ:Nat→Value} {n:Nat}:∀ {xs:List PV} {vs:List Value} {i:Nat} {x:PV} {v:Value},Dt m F T σ n xs vs→xs[i]?=some x→vs[i]?=some v→RP m F T σ n x v
 |_,_,i,_,_,.nil,h,_=>by grind
 |_,_,0,_,_,.cons h t,h1,h2=>by grind
 |_,_,i+1,_,_,.cons h t,h1,h2=>Dt.atG t (by assumption) (by grind)
theorem vk (h:Ie P t kf kv) {m:Mem} {F:Nat→Prop} {T:Nat→Option Tg} {σ:Nat→Value} {n:Nat} (fl:Bool) (a:α) {es:List (α×PV)} {l:List MapEntry} (h1:l.map (·.key)=(es.map (·.1)).map kv) (h2:Dt m F T σ n (es.map (·.2)) (l.map (·.val))) :
 (BZ es a=none→Iy P fl t (kv a) l=some none∧∀ b,Cm es a b=es++[(a,b)]) ∧
 (∀ c,BZ es a=some c→∃ j v e,Iy P fl t (kv a) l=some (some (j,v))∧RP m F T σ n c v∧l[j]?=some e∧e.key=kv a∧e.val=v∧∀ b,Cm es a b=es.set j (a,b)):=by
 obtain ⟨g1,g2⟩:=Y8 a es;have hf:=h.find fl a (es.map (·.1)) l h1;refine ⟨fun hn=>?_,fun c hc=>?_⟩
 ·grind
 ·obtain ⟨j,k1,k2,k3⟩:=g2 c hc
  have hlen:l.length=es.length:=by
   have:=congrArg List.length h1;grind
  have hj:j<l.length:=by grind
  rw [k1] at hf;simp only [Option.bind_some,List.getElem?_eq_getElem hj,Option.map_some] at hf;refine ⟨j,l[j].val,l[j],hf,?_,ai hj,?_,rfl,k3⟩
  ·have e1:(es.map (·.2))[j]?=some c:=by grind
   have e2:(l.map (·.val))[j]?=some l[j].val:=by grind
   exact Dt.atG h2 e1 e2
  ·have e1:(l.map (·.key))[j]?=some l[j].key:=by grind
   grind
variable {E:Env} {L:Vm.Frame} {H:Vm.Heap} {nx:Nat} {Q:PV→Vm.Heap→Nat→Prop} {w:Bool} {dst:Option Tmp} {ty:TypeId} {pos:String} {af:Array Edge} {gd:Option (Nat×Bool)}
theorem Ug {Γ:Nat→Option (List Value×TypeId)} {m:Mem} {F:Nat→Prop} {σ:Nat→Value} {tt:Tr Value} {a:α} {o:Operand} (h:Ie P t kf kv) (hx:Ctx Γ m F σ H nx) (hl:RL m F (htag H) σ nx L tt) (hv:AU Γ L o=some (.p (kf a))):ev tt o=kv a:=by
 have:=Bz hx hl hv;cases this with
 |p r=>exact h.rel r
theorem Aa.lookupGo {t kt et:TypeId} {x k:Operand} {b:Nat} {es:List (α×PV)} {a:α} {z:Value} {c:PV} (hkt:Ie E.P kt kf kv) (hx:AU E.Γ L x=some (.mref b)) (hb:hget H b=some (Nj kf es)) (hk:AU E.Γ L k=some (.p (kf a)))
 (ht:E.P.underlying t=some (.map kt et)) (hz:zeroOf E.P et=some z) (hzp:Am.plain z=true) (hv:Lr E H nx es a z c) (q:Q (.Eb [c,.p (.bool (BZ es a).isSome)]) H nx):Aa E w ⟨dst,.lookup t x k true,ty,pos,af,gd⟩ L H nx Q :=
 Aa.quiet q fun m F σ tt c1 c2=>by
  obtain ⟨_,r,l,clock,r1,r2,r3,r4,r5,r6,r7⟩:=c1.hp b _ hb;have e1:=jO hkt r5;have hpl:(Am.plain z&&Am.plain (kv a))=true:=by rw [hzp,hkt.plain];rfl
  obtain ⟨f1,f2⟩:=vk hkt l.isEmpty a e1 r6;rcases hv with hv|⟨hv,hc⟩
  ·obtain ⟨j,u,e,f3,f4,_⟩:=f2 c hv
   refine ⟨.tuple #[u,.bool true],fun _=>?_,?_⟩
   ·simp only [BO,FB,LZ,ht,hz,I7 c1 c2 hx hb,Ug hkt c1 c2 hk,r1,r4,hpl,if_true,f3,Option.map_some]
   ·rw [hv];exact .Eb (.cons f4 (.cons (.p (.bool _)) .nil))
  ·have f3:=(f1 hv).1
   refine ⟨.tuple #[z,.bool false],fun _=>?_,?_⟩
   ·simp only [BO,FB,LZ,ht,hz,I7 c1 c2 hx hb,Ug hkt c1 c2 hk,r1,r4,hpl,if_true,f3,Option.map_some]
   ·rw [hv];exact .Eb (.cons (hc m F σ c1) (.cons (.p (.bool _)) .nil))
theorem KD {m:Mem} {F:Nat→Prop} {σ:Nat→Value} {kt:TypeId} {b r:Nat} {es es':List (α×PV)} {l':List MapEntry} {clock':Nat} (hkt:Ie P kt kf kv) {Γ:Nat→Option (List Value×TypeId)} (c1:Ctx Γ m F σ H nx) (hb:hget H b=some (Nj kf es)) (r1:σ b=.map (some r)) (r2:r<m.size) (r3:¬ F r)
 (k1:l'.map (·.key)=(es'.map (·.1)).map kv) (k2:Dt m F (htag H) σ nx (es'.map (·.2)) (l'.map (·.val))) (k3:Stamped l' clock') :
 Ctx Γ (m.put r (.map l' clock')) F σ (hput H b (Nj kf es')) nx∧Step m F σ H nx (m.put r (.map l' clock')) F σ (hput H b (Nj kf es')) nx:=by
 have hput':∀ d' x,r≠d'→(m.put r x).get d'=m.get d':=fun d' x hd=>by rw [Mem.get_put,if_neg hd]
 have:=c1.change (m':=m.put r (.map l' clock')) (x':=Nj kf es') (s':=σ b) hb trivial (fun _=>rfl) (ab _)
  (fun d' _ hd=>hput' d' _ fun e=>hd (by rw [r1,e];rfl)) (fun k k1 k2 k3=>by
   have:=k3 r (by rw [r1];rfl);simp only [Mem.put];omega) (fun d' hd=>.inl hd) (by
   have hF:∀ d',F d'→F d'∧(m.put r (.map l' clock')).get d'=m.get d':=fun d' hd=>⟨hd,hput' d' _ fun e=>r3 (e▸hd)⟩
   refine ⟨r,l',clock',r1,r2,r3,by rw [Mem.get_put,if_pos rfl],?_,?_,k3⟩
   ·rw [k1]
    exact pz hkt es'
   ·exact k2.mono hF (Ht (x':=Nj kf es') hb trivial fun _=>rfl) (ab _))
 rw [a8v] at this;omega
theorem Aa.zN {t kt et:TypeId} {x k y:Operand} {b:Nat} {es:List (α×PV)} {a:α} {c:PV} (hkt:Ie E.P kt kf kv) (hx:AU E.Γ L x=some (.mref b)) (hb:hget H b=some (Nj kf es)) (hk:AU E.Γ L k=some (.p (kf a))) (hy:AU E.Γ L y=some c)
 (ht:E.P.underlying t=some (.map kt et)) {H':Vm.Heap} (hH:hput H b (Nj kf (Cm es a c))=H') (q:Q (.Eb []) H' nx):Aa E true ⟨dst,.mapUpdate t x k y,ty,pos,af,gd⟩ L H nx Q:=by
 subst hH;intro m F σ tt c1 c2;obtain ⟨_,r,l,clock,r1,r2,r3,r4,r5,r6,r7⟩:=c1.hp b _ hb;have e1:=jO hkt r5;obtain ⟨f1,f2⟩:=vk hkt false a e1 r6;have hyv:=Bz c1 c2 hy;have hup:Jg E.P t (ev tt x) (ev tt k) (ev tt y) m=match Iy E.P false kt (kv a) l with
  |some (some (i,_))=>if (En E.P kt).isSome||Instr.sameBits 10000 (((l[i]?).map (·.key)).getD (kv a)) (kv a) then some (m.put r (.map (l.modify i fun e=>{ e with key:=kv a,val:=ev tt y }) clock)) else none
  |some none=>some (m.put r (.map (l++[{ key:=kv a,val:=ev tt y,born:=clock }]) (clock+1)))
  |none=>none:=by
  unfold Jg;simp only [ht,I7 c1 c2 hx hb,Ug hkt c1 c2 hk,r1,r4,hkt.plain,if_true];rfl
 cases hl:BZ es a with
 |none =>
  obtain ⟨f3,f4⟩:=f1 hl;rw [f3] at hup;obtain ⟨d1,d2⟩:=KD hkt c1 hb r1 r2 r3 (es':=Cm es a c) (l':=l++[{ key:=kv a,val:=ev tt y,born:=clock }]) (clock':=clock+1) (by grind) (by rw [f4 c,bk,bk];exact Dt.snoc r6 hyv) r7.push;exact Gs.op (v:=undef) (fun _=>by simp only [BO,FB,hup,Option.map_some]) ⟨_,_,_,F,_,q,d1,.Eb .nil,d2,fun h=>by cases h⟩
 |some c0 =>
  obtain ⟨j,u,e0,f3,f4,f5,f5',_,f6⟩:=f2 c0 hl;rw [f3] at hup;simp only [f5,Option.map_some,Option.getD_some,f5',hkt.bits,if_true] at hup;have hmod:∀ (g:MapEntry→MapEntry),l.modify j g=l.set j (g e0):=fun g=>KY f5
  obtain ⟨d1,d2⟩:=KD hkt c1 hb r1 r2 r3 (es':=Cm es a c) (l':=l.modify j fun e=>{ e with key:=kv a,val:=ev tt y }) (by simp_all) (by rw [hmod,f6 c,cy,cy];exact r6.set j hyv) (r7.modify fun _=>rfl);exact Gs.op (v:=undef) (fun _=>by simp only [BO,FB,hup,Option.map_some]) ⟨_,_,_,F,_,q,d1,.Eb .nil,d2,fun h=>by cases h⟩
theorem Aa.zo {t kt et:TypeId} {x k y:Operand} {b:Nat} {es:List (α×PV)} {a:α} {c:PV} (hkt:Ie E.P kt kf kv) (hx:AU E.Γ L x=some (.mref b)) (hb:hget H b=some (Nj kf es)) (hk:AU E.Γ L k=some (.p (kf a))) (hy:AU E.Γ L y=some c)
 (ht:E.P.underlying t=some (.map kt et)) {H':Vm.Heap} (hH:hput H b (Nj kf (Cm es a c))=H') (q:Q (.Eb []) H' nx):Aa E true ⟨dst,.insert t x k y,ty,pos,af,gd⟩ L H nx Q:=by
 subst hH;intro m F σ tt c1 c2;obtain ⟨_,r,l,clock,r1,r2,r3,r4,r5,r6,r7⟩:=c1.hp b _ hb;have e1:=jO hkt r5;obtain ⟨f1,f2⟩:=vk hkt false a e1 r6;have hyv:=Bz c1 c2 hy;have hup:Jg E.P t (ev tt x) (ev tt k) (ev tt y) m=match Iy E.P false kt (kv a) l with
  |some (some (i,_))=>if (En E.P kt).isSome||Instr.sameBits 10000 (((l[i]?).map (·.key)).getD (kv a)) (kv a) then some (m.put r (.map (l.modify i fun e=>{ e with key:=kv a,val:=ev tt y }) clock)) else none
  |some none=>some (m.put r (.map (l++[{ key:=kv a,val:=ev tt y,born:=clock }]) (clock+1)))
  |none=>none:=by
  unfold Jg;simp only [ht,I7 c1 c2 hx hb,Ug hkt c1 c2 hk,r1,r4,hkt.plain,if_true];rfl
 cases hl:BZ es a with
 |none =>
  obtain ⟨f3,f4⟩:=f1 hl;rw [f3] at hup;obtain ⟨d1,d2⟩:=KD hkt c1 hb r1 r2 r3 (es':=Cm es a c) (l':=l++[{ key:=kv a,val:=ev tt y,born:=clock }]) (clock':=clock+1) (by grind) (by rw [f4 c,bk,bk];exact Dt.snoc r6 hyv) r7.push;exact Gs.op (v:=undef) (fun _=>by simp only [BO,FB,hup,Option.map_some]) ⟨_,_,_,F,_,q,d1,.Eb .nil,d2,fun h=>by cases h⟩
 |some c0 =>
  obtain ⟨j,u,e0,f3,f4,f5,f5',_,f6⟩:=f2 c0 hl;rw [f3] at hup;simp only [f5,Option.map_some,Option.getD_some,f5',hkt.bits,if_true] at hup;have hmod:∀ (g:MapEntry→MapEntry),l.modify j g=l.set j (g e0):=fun g=>KY f5
  obtain ⟨d1,d2⟩:=KD hkt c1 hb r1 r2 r3 (es':=Cm es a c) (l':=l.modify j fun e=>{ e with key:=kv a,val:=ev tt y }) (by simp_all) (by rw [hmod,f6 c,cy,cy];exact r6.set j hyv) (r7.modify fun _=>rfl);exact Gs.op (v:=undef) (fun _=>by simp only [BO,FB,hup,Option.map_some]) ⟨_,_,_,F,_,q,d1,.Eb .nil,d2,fun h=>by cases h⟩
theorem YI {d:Nat} (xs ys:Array Value) {g:Option Bool×Unit→Sem Bool} (g0:g (none,())=pure true) (g1:∀ b,g (some b,())=pure b):∀ (fs:List Field) (bs:List Bool),fs.length=bs.length→(∀ (i:Nat) (f:Field) (b:Bool),fs[i]?=some f→bs[i]?=some b→f.name≠"_"∧∃ x y,DF P (part f.type xs f.offset)=some x∧DF P (part f.type ys f.offset)=some y∧DF P (Op.equalIn d f.type x y)=some b) →
 DF P ((forIn fs ((none,()):Option Bool×Unit) fun f _=>(do
     if f.name≠"_" then
      if (!(← Op.equalIn d f.type (← part f.type xs f.offset) (← part f.type ys f.offset)))=true then pure (ForInStep.done (some false,())) else pure (ForInStep.yield (none,()))
     else pure (ForInStep.yield (none,())):Sem (ForInStep (Option Bool×Unit)))) >>= g)=some (bs.all id)
 |[],[],_,h=>by
  simp only [List.forIn_nil,Au,BU,Option.bind_some,g0];rfl
 |f::fs,b::bs,hl,h=>by
  obtain ⟨hn,x,y,h1,h2,h3⟩:=h 0 f b rfl rfl;have ih:=YI (d:=d) xs ys g0 g1 fs bs (by grind) fun i f b hf hb=>h (i+1) f b (by grind) (by grind)
  rw [dz];simp only [Au,ne_eq,hn,not_false_eq_true,if_true,h1,h2,Option.bind_some,h3];cases b with
  |false=>simp [BU,g1]
  |true =>
   simp only [Bool.not_true,Bool.false_eq_true,if_false,BU,Option.bind_some,List.all_cons,id_eq,Bool.true_and];rw [Au] at ih;omega
 |[],_::_,hl,_=>by grind
 |_::_,[],hl,_=>by grind
theorem bZ {d:Nat} {t:TypeId} {fs:Array Field} {xs ys:Array Value} {bs:List Bool} (ht:P.underlying t=some (.struct fs)) (hp:P.stoodInHeld t=false) (hl:fs.toList.length=bs.length)
 (h:∀ (i:Nat) (f:Field) (b:Bool),fs.toList[i]?=some f→bs[i]?=some b→f.name≠"_"∧∃ x y,DF P (part f.type xs f.offset)=some x∧DF P (part f.type ys f.offset)=some y∧DF P (Op.equalIn d f.type x y)=some b) :
 DF P (Op.equalIn (d+1) t (.agg xs) (.agg ys))=some (bs.all id):=by
 rw [Op.equalIn];simp only [Au,AZ,ht,Option.bind_some,program,DF,hp,Bool.false_eq_true,if_false];rw [← el,← Au];exact YI (d:=d) xs ys rfl (fun b=>rfl) fs.toList bs hl h
theorem bD {d:Nat} {t e:TypeId} {xs ys:Array Value} {n:Nat} {x0 y0 x1 y1:Value} {b0 b1:Bool} (ht:P.underlying t=some (.array 2 e)) (hn:(P.info? e).map (·.size)=some n) (p0:DF P (part e xs 0)=some x0) (p1:DF P (part e ys 0)=some y0) (p2:DF P (part e xs n)=some x1) (p3:DF P (part e ys n)=some y1)
 (h0:DF P (Op.equalIn d e x0 y0)=some b0) (h1:DF P (Op.equalIn d e x1 y1)=some b1):DF P (Op.equalIn (d+1) t (.agg xs) (.agg ys))=some (b0&&b1):=by
 rw [Op.equalIn];simp only [Au,AZ,ht,Option.bind_some,F7,hn];rw [Std.Legacy.Range.forIn_eq_forIn_range'];show ((DF P (forIn [0,1] _ _)).bind _)=_;rw [dz];simp only [Au,Nat.zero_mul,p0,p1,h0,Option.bind_some];cases b0 with
 |false=>rfl
 |true =>
  simp only [Bool.not_true,Bool.false_eq_true,if_false,BU,Option.bind_some,List.forIn_cons,List.forIn_nil,Au,Nat.one_mul,p2,p3,h1];cases b1<;>rfl
theorem Fb {t:TypeId} {cs:Array Value} {o n:Nat} (ha:GN P t=some true) (hn:(P.info? t).map (·.size)=some n):DF P (part t cs o)=some (.agg (cs.extract o (o+n))):=by
 simp only [part,Au,QW,ha,Option.bind_some,if_true,F7,hn,BU]
theorem ZF {fl:Bool} {n:Nat} {t:TypeId} {fs:Array Field} {xs:Array Value} (ht:P.underlying t=some (.struct fs)) (h:∀ f∈fs.toList,∃ x,DF P (part f.type xs f.offset)=some x∧DF P (Instr.checkKey fl n f.type x)=some ()):DF P (Instr.checkKey fl (n+1) t (.agg xs))=some ():=by
 rw [Instr.checkKey];simp only [Au,AZ,ht,Option.bind_some];rw [← el];generalize fs.toList=l at h;have key:∀ l:List Field,(∀ f∈l,∃ x,DF P (part f.type xs f.offset)=some x∧DF P (Instr.checkKey fl n f.type x)=some ())→DF P (forIn l PUnit.unit fun f _=>(do
  if f.name≠"_" then do
   let x ← part f.type xs f.offset
   Instr.checkKey fl n f.type x
   pure (ForInStep.yield PUnit.unit)
  else pure (ForInStep.yield PUnit.unit):Sem (ForInStep PUnit)))=some PUnit.unit:=by
  intro l
  induction l with
  |nil=>intro _;rfl
  |cons f l ih =>
   intro h;obtain ⟨x,h1,h2⟩:=h f (by simp);have ih:=ih fun f hf=>h f (av _ hf)
   rw [dz,Au];by_cases hn:f.name≠"_"
   ·rw [if_pos hn]
    simp only [Au,h1,Option.bind_some,h2,BU];omega
   ·rw [if_neg hn]
    assumption
 rw [key l h];rfl
theorem WU {fl:Bool} {n:Nat} {t e:TypeId} {xs:Array Value} {k:Nat} {x0 x1:Value} (ht:P.underlying t=some (.array 2 e)) (hk:(P.info? e).map (·.size)=some k) (p0:DF P (part e xs 0)=some x0) (p1:DF P (part e xs k)=some x1)
 (h0:DF P (Instr.checkKey fl n e x0)=some ()) (h1:DF P (Instr.checkKey fl n e x1)=some ()):DF P (Instr.checkKey fl (n+1) t (.agg xs))=some ():=by
 rw [Instr.checkKey];simp only [Au,AZ,ht,Option.bind_some];rw [Std.Legacy.Range.forIn_eq_forIn_range'];show ((DF P (forIn [0,1] _ _)).bind _)=_;simp only [List.forIn_cons,List.forIn_nil,Au,BU,Nat.zero_mul,Nat.one_mul,F7,hk,p0,p1,h0,h1,Option.bind_some]
theorem Qo {fl:Bool} {n:Nat} {t:TypeId} {d:TypeDesc} {x:Value} (ht:P.underlying t=some d) (hd:a9q d=true):DF P (Instr.checkKey fl (n+1) t x)=some ():=by
 rw [Instr.checkKey];simp only [Au,AZ,ht,Option.bind_some];cases d<;>first|rfl|cases hd
theorem Ar.eG (d:Nat) {b:Nat} {e:TypeId} {ds:List PV} (cs:List FV) (hd:Fp L d=some (.ref b 0)) (hb:hget H b=some (.box e ds)) (hds:ds=cs.map .p):Ar E L H nx ((d,.p (.E8 cs))::L) (hdel H b) nx:=fun B m F σ t h1 h2 h3=>by
 subst hds;obtain ⟨c1,c2⟩:=iZ h1 hb;refine ⟨_,σ,c1,fun i v hi=>?_,h3.trans c2⟩;rw [Ec] at hi;by_cases ei:d=i
 ·rw [if_pos ei] at hi;cases hi
  have:=h2 d _ hd;subst ei;cases this with
  |ref hb' hc h =>
   obtain ⟨c0,hs,hv⟩:=h (by simp [htag,hb,HB.tag]);obtain ⟨_,c,vs,r1,r2,r3,r4,r5,r6⟩:=h1.hp b _ hb;rw [r1] at hs;cases hs;rw [hv];have r5':=Dj.XG r5;refine .p (.E8 (g:=0) (.inr (by rw [r1];rfl)) r4 rfl ?_ (r5'.mono fun c hc=>⟨.inl hc,rfl⟩) r6);rw [cq,r5'.length];simp [takeN]
 ·rw [if_neg ei] at hi
  exact (h2 i v hi).step c2 h1
theorem Aa.yw {x:Operand} {cs:List FV} (hx:AU E.Γ L x=some (.p (.E8 cs))) (q:Q (.p (.E8 cs)) H nx):Aa E w ⟨dst,.nilCheck x,ty,pos,af,gd⟩ L H nx Q :=
 Aa.quiet q fun m F σ tt h1 h2=>by
  obtain ⟨a,h3,h4⟩:=aS h1 h2 hx;exact ⟨_,fun _=>by simp only [BO,FB,h3],.p h4⟩
theorem Aa.a6j {t t2 e:TypeId} {x y:Operand} {cs:List FV} (hx:AU E.Γ L x=some (.p (.E8 cs))) (hy:AU E.Γ L y=some (.p (.val (.pointer none)))) (ht:E.P.underlying t=some (.pointer e)) (q:Q (.p (.bool false)) H nx) :
 Aa E w ⟨dst,.binOp .eql t x y t2,ty,pos,af,gd⟩ L H nx Q:=Aa.quiet q fun m F σ tt h1 h2=>by
 obtain ⟨a,h3,_⟩:=aS h1 h2 hx;have h5:=Yi h1 h2 hy;exact ⟨.bool false,fun _=>by simp [BO,FB,h3,h5,PG,ht,Js],.p (.bool _)⟩
theorem Aa.a5k {t t2 e:TypeId} {x y:Operand} (hx:AU E.Γ L x=some (.p (.val (.pointer none)))) (hy:AU E.Γ L y=some (.p (.val (.pointer none)))) (ht:E.P.underlying t=some (.pointer e)) (q:Q (.p (.bool true)) H nx) :
 Aa E w ⟨dst,.binOp .eql t x y t2,ty,pos,af,gd⟩ L H nx Q:=Aa.quiet q fun m F σ tt h1 h2=>by
 have h4:=Yi h1 h2 hx;have h5:=Yi h1 h2 hy;exact ⟨.bool true,fun _=>by simp [BO,FB,h4,h5,PG,ht,Js],.p (.bool _)⟩
end
end Go.Vm
namespace Go.Proofs.YtnjkoebfgcbbdaaGreatDoor
open Go Go.Am Go.Vm Go.Pie Go.Sch
attribute [local irreducible] Aa Ah Af Ad Az Ai Ba Bq Bd Aj Vm.Done Bg AB RN
attribute [local irreducible] BR A8 DJ Dx DX AV Cc
instance:Enc J8:={ default:=st0,enc:=fun x=>[.str (bs x.now),.int .i64 x.c0.d,.int .i64 x.c0.k,.int .i64 x.c1.d,.int .i64 x.c1.k,.bool x.b0,.bool x.b1],size:=7,len:=fun _=>rfl }
def vU (x:J8):List Value:=[.string (bs x.now),.int .i64 x.c0.d,.int .i64 x.c0.k,.int .i64 x.c1.d,.int .i64 x.c1.k,.bool x.b0,.bool x.b1]
theorem a8z (d:Nat) (a b:V7):DF Tryz.prog (Op.equalIn (d+2) 120 (.agg #[.int .i64 a.d,.int .i64 a.k]) (.agg #[.int .i64 b.d,.int .i64 b.k]))=some (decide (a=b)):=by
 obtain ⟨fs,hu⟩:∃ fs,Tryz.prog.underlying 120=some (.struct fs):=⟨_,rfl⟩
 refine Ou hu (by simp) ?_;have hu2:some (TypeDesc.struct fs)=Tryz.prog.underlying 120:=hu.symm;cases hu2;show some (decide (a.d=b.d)&&(decide (a.k=b.k)&&true))=_;obtain ⟨a1,a2⟩:=a;obtain ⟨b1,b2⟩:=b;by_cases h1:a1=b1<;>by_cases h2:a2=b2<;>simp [h1,h2]
theorem yT (fl:Bool) (n:Nat) (a:V7):DF Tryz.prog (Instr.checkKey fl (n+2) 120 (.agg #[.int .i64 a.d,.int .i64 a.k]))=some ():=by
 rfl
theorem b7d (a b:J8):DF Tryz.prog (Op.equal 124 (.agg (vU a).toArray) (.agg (vU b).toArray))=some (decide (a=b)):=by
 obtain ⟨fs,hu⟩:∃ fs,Tryz.prog.underlying 124=some (.struct fs):=⟨_,rfl⟩
 have h1:DF Tryz.prog (Op.equalIn 9999 9 (.string (bs a.now)) (.string (bs b.now)))=some (decide (a.now=b.now)):=Q7 (d:=9998) (td:=.string) rfl rfl;have h2:DF Tryz.prog (Op.equalIn 9999 121 (.agg #[.int .i64 a.c0.d,.int .i64 a.c0.k,.int .i64 a.c1.d,.int .i64 a.c1.k]) (.agg #[.int .i64 b.c0.d,.int .i64 b.c0.k,.int .i64 b.c1.d,.int .i64 b.c1.k]))=some (decide (a.c0=b.c0)&&decide (a.c1=b.c1)) :=
  bD (d:=9998) (e:=120) (n:=2) rfl rfl (Fb rfl rfl) (Fb rfl rfl) (Fb rfl rfl) (Fb rfl rfl) (a8z 9996 a.c0 b.c0) (a8z 9996 a.c1 b.c1)
 have h3:DF Tryz.prog (Op.equalIn 9999 122 (.agg #[.bool a.b0,.bool a.b1]) (.agg #[.bool b.b0,.bool b.b1]))=some ((a.b0==b.b0)&&(a.b1==b.b1)) :=
  bD (d:=9998) (e:=4) (n:=1) rfl rfl (Gf rfl rfl) (Gf rfl rfl) (Gf rfl rfl) (Gf rfl rfl) (Q7 (d:=9997) (td:=.bool) rfl rfl) (Q7 (d:=9997) (td:=.bool) rfl rfl)
 have:=bZ (P:=Tryz.prog) (d:=9999) (t:=124) (xs:=(vU a).toArray) (ys:=(vU b).toArray) (bs:=[decide (a.now=b.now),decide (a.c0=b.c0)&&decide (a.c1=b.c1),(a.b0==b.b0)&&(a.b1==b.b1)]) hu (by kernel_rfl) (by
  have hu2:some (TypeDesc.struct fs)=Tryz.prog.underlying 124:=hu.symm;cases hu2;rfl) (by
  have hu2:some (TypeDesc.struct fs)=Tryz.prog.underlying 124:=hu.symm;cases hu2;intro i f b' hf hb
  match i with
  |0 =>
   cases hf;cases hb;exact ⟨by decide,_,_,Gf (v:=.string (bs a.now)) rfl rfl,Gf (v:=.string (bs b.now)) rfl rfl,h1⟩
  |1 =>
   cases hf;cases hb;exact ⟨by decide,_,_,Fb rfl rfl,Fb rfl rfl,h2⟩
  |2 =>
   cases hf;cases hb;exact ⟨by decide,_,_,Fb rfl rfl,Fb rfl rfl,h3⟩
  |i+3=>cases hb)
 refine ed this (congrArg some ?_);obtain ⟨a1,a2,a3,a4,a5⟩:=a;obtain ⟨b1,b2,b3,b4,b5⟩:=b;simp only [List.all_cons,List.all_nil,id_eq,Bool.and_true,J8.mk.injEq];rw [eW];simp only [Bool.and_eq_true,decide_eq_true_eq,beq_iff_eq];constructor
 ·rintro ⟨g1,⟨g2,g3⟩,g4,g5⟩;exact ⟨g1,g2,g3,g4,g5⟩
 ·rintro ⟨g1,g2,g3,g4,g5⟩;exact ⟨g1,⟨g2,g3⟩,g4,g5⟩
theorem b2p (fl:Bool) (a:J8):WV Tryz.prog (Instr.checkKey fl 10000 124 (.agg (vU a).toArray))=true:=by
 obtain ⟨fs,hu⟩:∃ fs,Tryz.prog.underlying 124=some (.struct fs):=⟨_,rfl⟩
 have:DF Tryz.prog (Instr.checkKey fl 10000 124 (.agg (vU a).toArray))=some ():=by
  refine ZF (n:=9999) hu fun f hf=>?_
  have hu2:some (TypeDesc.struct fs)=Tryz.prog.underlying 124:=hu.symm;cases hu2;rcases bm.1 hf with rfl|hf
  ·exact ⟨_,Gf (v:=.string (bs a.now)) rfl rfl,Qo (n:=9998) (d:=.string) rfl rfl⟩
  rcases bm.1 hf with rfl|hf
  ·refine ⟨_,Fb rfl rfl,?_⟩
   exact WU (n:=9998) (e:=120) (k:=2) rfl rfl (Fb rfl rfl) (Fb rfl rfl) (yT fl 9996 a.c0) (yT fl 9996 a.c1)
  rcases bm.1 hf with rfl|hf
  ·refine ⟨_,Fb rfl rfl,?_⟩
   exact WU (n:=9998) (e:=4) (k:=1) rfl rfl (Gf (v:=.bool a.b0) rfl rfl) (Gf (v:=.bool a.b1) rfl rfl) (Qo (n:=9997) (d:=.bool) rfl rfl) (Qo (n:=9997) (d:=.bool) rfl rfl)
  ·cases hf
 unfold WV;rw [this]
theorem jo:Ie Tryz.prog 124 (fun x:J8=>.agg (Enc.enc x)) (fun x=>.agg (vU x).toArray):=Ie.b9o (fun _=>rfl) (by rfl) b7d b2p
theorem a5b (a b:List UInt8) (h:bs a=bs b):a=b:=by
 have:=congrArg (fun x:ByteArray=>x.data.toList) h;assumption
theorem YC:Ie Tryz.prog 9 (fun x:List UInt8=>.str (bs x)) (fun x=>.string (bs x)):=Ie.ofStr a5b rfl
theorem XB (a:Int):Ai env 126 [.int .i64 a] (.p (.bool false)):=by
 refine Ai.enter (Ae (by decide)) Tryz.func126 rfl (by kernel_rfl) (by simp) ?_
 repeat' (first|refine go2 ?_|fail)
 all_goals first|(omega)|(refine Done.rt rfl rfl ⟨?_,rfl,rfl⟩)
 simp
theorem qA (a b:Int):Ai env 87 [.int .i64 a,.int .i64 b] (.p (.int .i64 (if a<b then -1 else if b<a then 1 else 0))):=by
 have n1:=XB a;have n2:=XB b;by_cases h1:a<b;all_goals by_cases h2:b<a
 all_goals first|rw [if_pos h1]|rw [if_neg h1]
 all_goals try first|rw [if_pos h2]|rw [if_neg h2]
 all_goals
  refine Ai.enter (Ae (by decide)) Tryz.func87 rfl (by kernel_rfl) (by simp [Tryz.ntmps87]) ?_
 all_goals
  repeat' (first|(apply Aa.fn;rfl;rfl;exact n1;intro _;rfl)|(apply Aa.fn;rfl;rfl;exact n2;intro _;rfl)|refine Cb ?_|(apply Aa.int;rfl;rfl;rfl)|(apply Ad.Ak;rfl)|(apply Ad.Ac;rfl)|(intro _;try (exfalso;omega)))
 all_goals first|(exfalso;omega)|contradiction|(refine Done.rt rfl rfl ⟨?_,rfl,rfl⟩;try rfl)
theorem a3g (a b:List Int):∀ k,k<a.length→k<b.length→cmpL (a.drop k) (b.drop k)=if gi a k<gi b k then -1 else if gi b k<gi a k then 1 else cmpL (a.drop (k+1)) (b.drop (k+1)):=fun k ha hb=>by
 rw [cf ha,cf hb];have e1:gi a k=a[k]:=by unfold gi;grind
 have e2:gi b k=b[k]:=by unfold gi;grind
 rw [e1,e2];rfl
theorem Sz (a b:List Int) (h:a.length=b.length) (hl:a.length<1000000):Ai env 40 [.lst 3 (cells a) a.length,.lst 3 (cells b) b.length] (.p (.int .i64 (cmpL a b))):=by
 refine Ai.enter (Ae (by decide)) Tryz.func40 rfl (by kernel_rfl) (by simp [Tryz.ntmps40]) ?_
 repeat' (first|refine Cb ?_|fail)
 all_goals try (exfalso;omega)
 apply Ad.Jq (a.length) (fun k=>cmpL (a.drop k) (b.drop k)=cmpL a b) [(0,_),(1,_),(9,_),(10,_)] [] (fun k r=>(11,.p (.int .i64 (k:Int)))::r) (fun k r=>r) 0
 ·first|omega|decide
 ·first|omega|decide
 ·exact SS
 ·exact Ws
 ·first|(intro _ _;omega)|omega|trivial
 ·intro k hk hi
  have hc:=qA (gi a k) (gi b k);have hd:=a3g a b k hk (by omega);rw [hi] at hd;by_cases h1:gi a k<gi b k
  ·rw [if_pos h1] at hc hd
   rw [hd]
   repeat' (first|(apply Aa.fn;rfl;rfl;exact hc;intro _;rfl)|(apply Aa.Ap;rfl;rfl;rfl;omega;rfl)|refine Cb ?_|(apply Aa.int;rfl;rfl;rfl)|(apply Ad.Ac;rfl)|(apply Ad.cond_true;rfl)|(intro _;try (exfalso;omega)))
   all_goals first|(exfalso;omega)|contradiction|(refine Done.rt rfl rfl ⟨?_,rfl,rfl⟩;try rfl)
  ·rw [if_neg h1] at hc hd
   by_cases h2:gi b k<gi a k
   ·rw [if_pos h2] at hc hd
    rw [hd]
    repeat' (first|(apply Aa.fn;rfl;rfl;exact hc;intro _;rfl)|(apply Aa.Ap;rfl;rfl;rfl;omega;rfl)|refine Cb ?_|(apply Aa.int;rfl;rfl;rfl)|(apply Ad.Ac;rfl)|(apply Ad.cond_true;rfl)|(intro _;try (exfalso;omega)))
    all_goals first|(exfalso;omega)|contradiction|(refine Done.rt rfl rfl ⟨?_,rfl,rfl⟩;try rfl)
   ·rw [if_neg h2] at hc hd
    repeat' (first|(apply Aa.fn;rfl;rfl;exact hc;intro _;rfl)|(apply Aa.Ap;rfl;rfl;rfl;omega;rfl)|refine Cb ?_|(apply Aa.int;rfl;rfl;rfl)|(apply Ad.Ac;rfl)|(apply Ad.cond_false;rfl)|(intro _;try (exfalso;omega)))
    all_goals try (exfalso;omega)
    all_goals try contradiction
    refine Aj.normal ⟨hd.symm,by first|omega|decide,?_,?_⟩
    ·exact Dy
    ·exact Ey
 ·intro hi
  have e0:cmpL a b=0:=by
   rw [← hi,eI (ab _),eI (by omega)];rfl
  rw [e0]
  repeat' (first|refine go2 ?_|(apply Ad.Ac;rfl)|(intro _;try (exfalso;omega)))
  all_goals first|(exfalso;omega)|(refine Done.rt rfl rfl ⟨?_,rfl,rfl⟩;try rfl)
end Go.Proofs.YtnjkoebfgcbbdaaGreatDoor
namespace Go.Vm
open Go.Am
variable {E:Env} {n bn:Nat} {L:Frame} {H:Heap} {nx:Nat}
def Lrn (ρ:Nat→Nat):Frame→Frame
 |[]=>[]
 |(i,v)::L=>(i,v.rn ρ)::Lrn ρ L
theorem y8 (ρ:Nat→Nat):∀ (L:Frame) (i:Nat),Fp (Lrn ρ L) i=(Fp L i).map (·.rn ρ)
 |[],_=>rfl
 |(j,v)::L,i=>by
  simp only [Lrn,Ec];split
  ·rfl
  ·exact y8 ρ L i
theorem Bc.swap {c:Code} {Q:BM→Frame→Heap→Nat→Prop} (a b:Nat) (ha:bn≤a) (hb:bn≤b) (ha':a<nx) (hb':b<nx) (h:Bc E n bn c (Lrn (swp a b) L) (Hrn (swp a b) H) nx Q):Bc E n bn c L H nx Q:=by
 intro hs hok hfl B hB m F σ t h1 h2 h3;have hr:∀ j,j<nx→swp a b j<nx∧htag (Hrn (swp a b) H) (swp a b j)=htag H j∧(fun i=>σ (swp a b i)) (swp a b j)=σ j:=fun j hj=>⟨xu ha' hb' hj,kC a b H j,by simp only [OZ]⟩
 have d1:=b2q ha' hb' h1;refine h hs hok hfl B hB m F _ t d1 (fun i v hi=>?_) ?_
 ·rw [y8,ae] at hi
  obtain ⟨u,hu,rfl⟩:=hi;exact RP.rn hr (h2 i u hu)
 ·refine ⟨h3.size,h3.keep,h3.Ky,h3.Kw,fun c hc ho=>h3.Jo c hc (b2g ho),h3.Vz,fun j hj=>?_,h3.low⟩
  have e:swp a b j=j:=b1z ha hb (by omega);have e2:=kC a b H j;rw [e] at e2;simp only [e,e2];exact h3.names j hj
theorem BX.c1d {ops:Array Oper} {l:List Oper} {R:Frame→Heap→Nat→Prop} {dst:Option Tmp} {ty:TypeId} {pos:String} {af:Array Edge} {fo:Operand} {args:Array Operand} {aT:Array TypeId} {g:FuncId} {fs cs BF ac:List PV} {Hc:Heap} {Qc:PV→Heap→Nat→Prop} (ns:List Nat) (hc:Gp E g ac Hc ns.length Qc)
 (hent:Enters E.P g) (hf:AU E.Γ L fo=some (.clo g fs cs)) (ha:evs E.Γ L args.toList=some BF) (hle:OY (fs++BF++cs) (C9.rn (rho ns nx) ac)) (hu:C9.under ns.length ac) (xJ:LV ns.length Hc) (hin:HIn (rho ns nx) H Hc) (hnd:ns.Nodup) (hlt:∀ b∈ns,b<nx)
 (hq:∀ r H' nx',Qc r H' nx'→BX E n bn ops l (H8 L dst (r.rn (rho ns nx))) (news ns.length (rho ns nx) H' (merge ns (rho ns nx) H' H)) (nx+(nx'-ns.length)) R) :
 BX E n bn ops (⟨dst,.call { callee:=.value fo,args:=args,argTypes:=aT },ty,pos,af,none⟩::l) L H nx R:=BX.ZW hent hf ha hle hu xJ hin hnd hlt hc hq
end Go.Vm
namespace Go.Proofs.YtnjkoebfgcbbdaaGreatDoor
open Go Go.Am Go.Vm Go.Pie Go.Sch
attribute [local irreducible] Aa Ah Af Ad Az Ai Ba Bq Bd Aj Vm.Done Bg AB RN Bc BX Ew Jj Gp Hold
attribute [local irreducible] BR A8 DJ Dx DX AV Cc
abbrev Way:=List Int×Int
def QF (w:Way):FV:=.agg [.lst 3 (cells w.1) w.1.length,.int .i64 w.2]
def JX (es:List (J8×Way)):List (J8×PV):=es.map fun e=>(e.1,.p (QF e.2))
def LX (es:List (J8×Way)):HB:=Nj (fun x:J8=>.agg (Enc.enc x)) (JX es)
theorem UA {α β γ:Type} [DecidableEq α] (g:β→γ) (a:α):∀ es:List (α×β),BZ (es.map fun e=>(e.1,g e.2)) a=(BZ es a).map g
 |[]=>rfl
 |x::es=>by
  simp only [List.map_cons,BZ];split
  ·rfl
  ·exact UA g a es
theorem U0 {α β γ:Type} [DecidableEq α] (g:β→γ) (a:α) (b:β):∀ es:List (α×β),Cm (es.map fun e=>(e.1,g e.2)) a (g b)=(Cm es a b).map fun e=>(e.1,g e.2)
 |[]=>rfl
 |x::es=>by
  simp only [List.map_cons,Cm];split
  ·rfl
  ·rw [U0 g a b es];rfl
theorem CU (k:Nat) (es:List (J8×Way)):HB.under k (LX es):=by
 induction es with
 |nil=>exact trivial
 |cons e es ih=>exact ⟨trivial,ih⟩
theorem Yp (ρ:Nat→Nat) (es:List (J8×Way)):(LX es).rn ρ=LX es:=by
 show HB.Jz _ (C9.rn ρ ((JX es).map (·.2)))=HB.Jz _ _;have:C9.rn ρ ((JX es).map (·.2))=(JX es).map (·.2):=by
  induction es with
  |nil=>rfl
  |cons e es ih =>
   show PV.rn ρ (PV.p (QF e.2))::C9.rn ρ ((JX es).map (·.2))=_;rw [ih];rfl
 grind
section
variable {L:Vm.Frame} {H:Vm.Heap} {nx:Nat} {Q:PV→Vm.Heap→Nat→Prop} {w:Bool} {dst:Option Tmp} {ty:TypeId} {pos:String} {af:Array Edge} {gd:Option (Nat×Bool)}
theorem b4q {t:TypeId} (q:Q (.mref nx) ((nx,LX [])::H) (nx+1)):Aa env w ⟨dst,.makeMap t none,ty,pos,af,gd⟩ L H nx Q:=Aa.Zx q
def foundW:Option Way→PV
 |none=>.p (.agg [.val (.slice none 0 0),.int .i64 0])
 |some w=>.p (QF w)
theorem lookW {t:TypeId} {x k:Operand} {b:Nat} {m:List (J8×Way)} {y:J8} (hx:AU env.Γ L x=some (.mref b)) (hb:hget H b=some (LX m)) (hk:AU env.Γ L k=some (.p (.agg (Enc.enc y))))
 (ht:env.P.underlying t=some (.map 124 127)) (q:Q (.Eb [foundW (BZ m y),.p (.bool (BZ m y).isSome)]) H nx):Aa env w ⟨dst,.lookup t x k true,ty,pos,af,gd⟩ L H nx Q:=by
 have hl:BZ (JX m) y=(BZ m y).map fun w=>PV.p (QF w):=UA (fun w=>PV.p (QF w)) y m
 have hs:(BZ (JX m) y).isSome=(BZ m y).isSome:=by grind
 rw [← hs] at q;refine Aa.lookupGo (z:=.agg #[.slice none 0 0,.int .i64 0]) jo hx hb hk ht (by kernel_rfl) rfl ?_ q;cases h:BZ m y with
 |none =>
  rw [h] at hl;exact Lr.const hl rfl
 |some w =>
  rw [h] at hl;exact .inl hl
theorem b6u {t:TypeId} {x k:Operand} {b:Nat} {m:List (J8×Way)} {y:J8} (hl:BZ m y=none) (hx:AU env.Γ L x=some (.mref b)) (hb:hget H b=some (LX m)) (hk:AU env.Γ L k=some (.p (.agg (Enc.enc y))))
 (ht:env.P.underlying t=some (.map 124 127)) (q:Q (.Eb [.p (.agg [.val (.slice none 0 0),.int .i64 0]),.p (.bool false)]) H nx):Aa env w ⟨dst,.lookup t x k true,ty,pos,af,gd⟩ L H nx Q :=
 lookW hx hb hk ht (by rw [hl];exact q)
theorem b6g {t:TypeId} {x k:Operand} {b:Nat} {m:List (J8×Way)} {y:J8} {v:Way} (hl:BZ m y=some v) (hx:AU env.Γ L x=some (.mref b)) (hb:hget H b=some (LX m)) (hk:AU env.Γ L k=some (.p (.agg (Enc.enc y))))
 (ht:env.P.underlying t=some (.map 124 127)) (q:Q (.Eb [.p (QF v),.p (.bool true)]) H nx):Aa env w ⟨dst,.lookup t x k true,ty,pos,af,gd⟩ L H nx Q :=
 lookW hx hb hk ht (by rw [hl];exact q)
theorem c1l {t:TypeId} {x k y':Operand} {b:Nat} {m:List (J8×Way)} {y:J8} (v:Way) (hx:AU env.Γ L x=some (.mref b)) (hb:hget H b=some (LX m)) (hk:AU env.Γ L k=some (.p (.agg (Enc.enc y)))) (hy:AU env.Γ L y'=some (.p (QF v)))
 (ht:env.P.underlying t=some (.map 124 127)) (q:Q (.Eb []) (hput H b (LX (Cm m y v))) nx):Aa env true ⟨dst,.mapUpdate t x k y',ty,pos,af,gd⟩ L H nx Q :=
 Aa.zN jo hx hb hk hy ht (by
  show hput H b (Nj _ (Cm (JX m) y (.p (QF v))))=hput H b (Nj _ (JX (Cm m y v)));have:Cm (JX m) y (PV.p (QF v))=JX (Cm m y v):=U0 (fun w=>PV.p (QF w)) y v m;grind) q
theorem c1h {t:TypeId} {x k y':Operand} {b:Nat} {m:List (J8×Way)} {y:J8} (v:Way) (hx:AU env.Γ L x=some (.mref b)) (hb:hget H b=some (LX m)) (hk:AU env.Γ L k=some (.p (.agg (Enc.enc y)))) (hy:AU env.Γ L y'=some (.p (QF v)))
 (ht:env.P.underlying t=some (.map 124 127)) (q:Q (.Eb []) (hput H b (LX (Cm m y v))) nx):Aa env true ⟨dst,.insert t x k y',ty,pos,af,gd⟩ L H nx Q :=
 Aa.zo jo hx hb hk hy ht (by
  show hput H b (Nj _ (Cm (JX m) y (.p (QF v))))=hput H b (Nj _ (JX (Cm m y v)));have:Cm (JX m) y (PV.p (QF v))=JX (Cm m y v):=U0 (fun w=>PV.p (QF w)) y v m;grind) q
end
theorem nR (q:Qu) (hq:Na q) {t:Nat} (ht:t<(BN q.p).length) {l:List Int} (hl:a2o q t l) {x:List Int} (hx:x∈lH q t l):x.length=q.p.notes.length∧∀ i,i<x.length→0≤gi x i∧gi x i≤2:=by
 have hS:=Xf q hq;have hll:=hl.len;have hm:=(Nq (nw:=MZ q t) (f:=fQ q t) (l:=l) (kQ q t) (hS.inj t ht) (fun j hj=>by rw [hll];exact hS.rng t ht j hj) hl.zero x).1 (List.mem_filter.1 hx).1;refine ⟨hm.1.trans hll,fun i hi=>?_⟩;have h2:=hm.2 i (by omega);by_cases h:VA (MZ q t) (fQ q t) (kQ q t) i
 ·rcases h2.1 h with e|e<;>omega
 ·rw [h2.2 h];exact hl.rng i (by omega)
theorem nT (q:Qu) (t:Nat) (hM:kQ q t≤12) (l:List Int):(lH q t l).length≤4096:=by
 refine an (dd _ _) (an (ZL _ _ _ _).2 ?_);exact aE (by decide) (show kQ q t≤12 by omega)
def a6w (q:Qu) (t:Nat) (e:J8×Way):List (J8×Way):=(lH q t e.2.1).map fun x=>(Hq q t e.1 x,(x,e.2.2+KZ q t e.1 x))
def b3b (q:Qu) (t:Nat) (x:J8) (l:List Int):Nat→J8
 |0=>⟨Py (J6 q t) l,x.c0,x.c1,x.b0,x.b1⟩
 |1=>⟨Py (J6 q t) l,if (Gv q l 0 t).1=true then (Gv q l 0 t).2 else x.c0,x.c1,(Gv q l 0 t).1||x.b0,x.b1⟩
 |_=>Hq q t x l
def a2k (q:Qu) (t:Nat) (x:J8) (c:Int) (l:List Int):Nat→Int
 |0=>c
 |1=>c+GH (Gv q l 0 t) x.b0 x.c0
 |_=>c+GH (Gv q l 0 t) x.b0 x.c0+GH (Gv q l 1 t) x.b1 x.c1
theorem a8m (q:Qu) (t:Nat) (x:J8) (c:Int) (l:List Int):a2k q t x c l 2=c+KZ q t x l:=by
 show c+GH (Gv q l 0 t) x.b0 x.c0+GH (Gv q l 1 t) x.b1 x.c1=c+(GH (Gv q l 0 t) x.b0 x.c0+GH (Gv q l 1 t) x.b1 x.c1);omega
def both (b c:Bool) (v w:Int):Int:=bif b then (bif c then v else w) else w
theorem oz (x:Int) (b c:Bool) (a d:V7):x+GH (b,a) c d=both b c (x+mvC d a) x:=by cases b<;>cases c<;>simp [GH,both]
theorem ak (r:Bool×V7) (b:Bool) (c:V7) (hr:r.2.Ok) (hc:c.Ok):0≤GH r b c∧GH r b c≤139:=by
 have:=Yw hc hr;unfold GH;omega
theorem a4v {n:Nat} {m:List (J8×Way)} {d:J8×Way} (hm:∀ e∈m,e.2.1.length=n) (hd:d.2.1.length=n):∀ e∈TA m d,e.2.1.length=n:=fun e he=>by
 have key:∀ e∈Cm m d.1 d.2,e.2.1.length=n:=fun e he=>by
  rcases Qq he with h|h|h
  ·grind
  ·grind
  grind
 unfold TA at he;grind
structure b8w (q:Qu) (t:Nat) (e:J8×Way):Prop where
 way:a2o q t e.2.1
 cost:0≤e.2.2∧e.2.2≤1000000000000
 c0:e.1.c0.Ok
 c1:e.1.c1.Ok
instance:Inhabited (J8×Way):=⟨(st0,([],0))⟩
def Sj (q:Qu) (t:Nat) (es:List (J8×Way)) (V:List Nat):List (J8×Way):=((V.map (gi es)).flatMap (a6w q t)).foldl TA []
theorem PX:Am.Enters Tryz.prog 41:=⟨_,Tryz.func41,by rfl,by rfl⟩
theorem uT (q:Qu) (hq:Na q) (t:Nat) (ht:t<(BN q.p).length) (hM:kQ q t≤12) (es:List (J8×Way)) (hes:∀ e∈es,b8w q t e) :
 Gp env 39 [.p (.agg (Enc.enc q)),.p (.agg (Enc.enc (Nv q t))),.mref 0] [(0,LX es)] 1 (fun r H' nx'=>∃ V:List Nat,V.Nodup∧(∀ i,i∈V↔i<es.length)∧r=.mref 1∧H'=[(1,LX (Sj q t es V))]∧nx'=2):=by
 refine Gp.enter Tryz.func39 rfl (by kernel_rfl) (by kernel_rfl) (by simp [Tryz.ntmps39]) ?_
 repeat' (first|((refine Bc.at 2 ?_;refine Hold.of ?_))|apply Bc.Bf|apply Bc.to|refine go1 ?_|(apply b4q))
 all_goals try (exfalso;omega)
 refine Hold.go ?_;refine Bc.jB (fun m:List (J8×Way)=>[(3,.ref 1 0),(4,.ref 2 0),(7,.mref 3),(21,.mref 0)]) (fun m=>[(0,LX es),(1,mV q),(2,slB (Nv q t)),(3,LX m)]) (fun V m=>m=Sj q t es V∧∀ e∈m,e.2.1.length=q.p.notes.length) [] (Dw:=4) (b:=0) (ks:=(JX es).map fun x=>.agg (Enc.enc x.1)) (cs:=(JX es).map (·.2)) rfl rfl (by decide) rfl ⟨rfl,fun e h=>absurd h bl⟩ ⟨by decide,?_,?_⟩ rfl (fun _=>⟨rfl,rfl,rfl⟩) (fun _ _ _=>rfl) (by simp) rfl (by kernel_rfl) (by kernel_rfl) (by decide) ?_ ?_
 ·exact Dy
 ·repeat (first|exact BG.nil|(refine BG.cons (AY rfl) ?_ rfl ?_ ?_;(first|exact CU _ _|exact CZ _ _|exact HB.AA rfl|exact C9.Bj _ _|(simp [HB.under,C9.under,PV.under]));(first|exact JW.refl _|exact JW.vec (FK.refl _) (by simp))))
 ·rintro V m i kk c ⟨hi,hml⟩ hnd hni hk hc
  subst hi;have hil:i<es.length:=by
   have:=(bw.1 hk).1;simpa [JX] using this
  have hm:=EX hil;have hei:es[i]?=some (gi es i):=by unfold gi;rw [ai hil];rfl
  have hE:=hes _ hm;have ek:kk=.agg (Enc.enc (gi es i).1):=by
   unfold JX at hk;rw [aD,aD,hei] at hk;simpa using hk.symm
  have ec:c=.p (QF (gi es i).2):=by
   unfold JX at hc;rw [aD,aD,hei] at hc;simpa using hc.symm
  subst ek;subst ec;have hfold:Sj q t es (V++[i])=(a6w q t (gi es i)).foldl TA (Sj q t es V):=by
   unfold Sj;rw [bk,gP,cX,List.map_singleton,gA]
  rw [hfold];clear hfold;generalize Sj q t es V=m0 at *;generalize gi es i=e at *;obtain ⟨⟨nw,c0,c1,b0,b1⟩,l,cc⟩:=e;obtain ⟨h1,h2,h3,h4⟩:=hE;simp only at h1 h2 h3 h4;have hch:=UD q hq t ht hM l h1;have hwy:=fun y hy=>nR q hq ht h1 (x:=y) hy
  have hLl:=nT q t hM l;unfold a6w;simp only;generalize lH q t l=L at *;have hN:tJ q (Nv q t).notes:=Tj ht;have hNl:(Nv q t).notes.length≤1000:=jr hq ht;obtain ⟨G,hG⟩:∃ G:List Int→J8×Way,G=fun y=>(Hq q t ⟨nw,c0,c1,b0,b1⟩ y,(y,cc+KZ q t ⟨nw,c0,c1,b0,b1⟩ y)):=⟨_,rfl⟩
  rw [← hG]
  repeat' (first|(refine Bc.at 5 ?_;apply Bc.Qk)|(apply BX.fn;rfl;rfl;exact hch;exact PX;intro _;rfl)|apply Bc.block|apply BX.nil|apply BX.one|refine go1 ?_|fail)
  all_goals try (exfalso;omega)
  refine Bc.zB ?_;apply Ad.Jq (L.length) (fun k=>∀ e∈((L.take k).map G).foldl TA m0,e.2.1.length=q.p.notes.length) [(3,_),(4,_),(7,_),(8,_),(9,_),(21,_),(32,_),(33,_)] [(0,_),(1,_),(2,_),(4,_),(5,_)] (fun k r=>(34,.p (.int .i64 (k:Int)))::r) (fun k r=>(3,LX (((L.take k).map G).foldl TA m0))::r) 6
  ·first|omega|decide
  ·first|omega|decide
  ·exact SS
  ·repeat (first|exact BG.nil|(refine BG.eq rfl (AY rfl) ?_ ?_;(first|exact CU _ _|exact CZ _ _|exact HB.AA rfl|exact C9.Bj _ _|(simp [HB.under,C9.under,PV.under];done)))|(refine BG.cons (AY rfl) ?_ rfl ?_ ?_;(first|exact CU _ _|exact CZ _ _|exact trivial|exact C9.Bj _ _|(simp [HB.under,C9.under,PV.under]));(first|exact JW.refl _|exact JW.vec (FK.refl _) (by simp))))
  ·first|(intro _ _;omega)|omega|trivial
  ·intro k hk hi
   obtain ⟨y1,y2⟩:=hwy _ (EX hk);have e1:((L.take (k+1)).map G).foldl TA m0=TA (((L.take k).map G).foldl TA m0) (G (gi L k)):=by
    rw [ED hk,bk,cX];rfl
   rw [e1];clear e1;generalize ((L.take k).map G).foldl TA m0=m at *;have n1:=hq.p.notes;have b2e:=sV q (Nv q t) hN hNl (gi L k) y1 y2;have hh0:=QT q hq (Nv q t) hN hNl (gi L k) 0 y1;have hh1:=QT q hq (Nv q t) hN hNl (gi L k) 1 y1;have a0:=aI hq hN (gi L k) 0 _ (ab _);have a1:=aI hq hN (gi L k) 1 _ (ab _);have hr0:Vh q.p (Nv q t).notes (gi L k) 0 (Nv q t).notes.length=Gv q (gi L k) 0 t:=rfl;have hr1:Vh q.p (Nv q t).notes (gi L k) 1 (Nv q t).notes.length=Gv q (gi L k) 1 t:=rfl;have es0:b3b q t ⟨nw,c0,c1,b0,b1⟩ (gi L k) (0+1)=⟨Py (J6 q t) (gi L k),if (Gv q (gi L k) 0 t).1=true then (Gv q (gi L k) 0 t).2 else c0,c1,(Gv q (gi L k) 0 t).1||b0,b1⟩:=rfl;have es1:b3b q t ⟨nw,c0,c1,b0,b1⟩ (gi L k) (1+1)=⟨Py (J6 q t) (gi L k),if (Gv q (gi L k) 0 t).1=true then (Gv q (gi L k) 0 t).2 else c0,if (Gv q (gi L k) 1 t).1=true then (Gv q (gi L k) 1 t).2 else c1,(Gv q (gi L k) 0 t).1||b0,(Gv q (gi L k) 1 t).1||b1⟩:=rfl;have ec0:a2k q t ⟨nw,c0,c1,b0,b1⟩ cc (gi L k) (0+1)=cc+GH (Gv q (gi L k) 0 t) b0 c0:=rfl;have ec1:a2k q t ⟨nw,c0,c1,b0,b1⟩ cc (gi L k) (1+1)=cc+GH (Gv q (gi L k) 0 t) b0 c0+GH (Gv q (gi L k) 1 t) b1 c1:=rfl;rw [hr0] at hh0 a0;rw [hr1] at hh1 a1
   repeat' (first|(refine Af.atIdx 4 ?_;apply Af.weak [.tmp 39];decide +kernel;rfl;rfl;(first|exact UL.ref rfl|exact UL.vec rfl|exact UL.EH rfl);decide +kernel;rfl)|apply Ad.assoc|apply Ad.Bf|apply Ad.Bl|apply Ad.CO|apply Ad.CW|apply Ah.nil|apply Af.nil|apply Ah.one|(apply Af.bar;decide +kernel)|apply Af.quiet|(apply Aa.fn;rfl;rfl;exact b2e;intro _;rfl)|(apply Aa.assign;rfl)|(apply Aa.move;rfl)|(apply Aa.int;rfl;rfl;rfl)|(apply Aa.Ap;rfl;rfl;rfl;omega;rfl)|(apply Aa.load;rfl;rfl)|(apply Aa.D8;rfl;rfl;rfl)|(apply Aa.alloc;rfl)|(apply Aa.Dz;rfl;rfl;rfl;trivial;rfl;rfl;exact AY rfl;exact le_dec rfl)|(apply Ad.Ac;rfl)|(intro _;try (exfalso;omega)))
   all_goals try (exfalso;omega)
   apply Ad.Je (2) [(3,_),(4,_),(7,_),(8,_),(9,_),(11,_),(12,_),(21,_),(32,_),(33,_),(34,_)] [(0,_),(1,_),(2,_),(3,_),(4,_),(5,_)] (fun k_ r=>(46,.p (.int .i64 (k_:Int)))::(13,.p (.int .i64 (a2k q t ⟨nw,c0,c1,b0,b1⟩ cc (gi L k) k_)))::r) (fun k_ r=>(6,.box 124 ((Enc.enc (b3b q t ⟨nw,c0,c1,b0,b1⟩ (gi L k) k_)).map .p))::r) 7
   ·first|omega|decide
   ·first|omega|decide
   ·exact SS
   ·repeat (first|exact BG.nil|(refine BG.eq rfl (AY rfl) ?_ ?_;(first|exact CU _ _|exact CZ _ _|exact HB.AA rfl|exact C9.Bj _ _|(simp [HB.under,C9.under,PV.under];done)))|(refine BG.cons (AY rfl) ?_ rfl ?_ ?_;(first|exact CU _ _|exact CZ _ _|exact trivial|exact C9.Bj _ _|(simp [HB.under,C9.under,PV.under]));(first|exact JW.refl _|exact JW.vec (FK.refl _) (by simp))))
   ·intro k_ hk_
    obtain rfl|rfl:k_=0∨k_=1:=by omega
    ·generalize Gv q (gi L k) 0 t=r0 at *
     obtain ⟨b,a⟩:=r0;have a0:a.Ok:=a0;have hm0:=gB c0 a h3 a0;have hmr:=Yw h3 a0;have hk0:a2k q t ⟨nw,c0,c1,b0,b1⟩ cc (gi L k) 0=cc:=rfl;have ei:cc+GH (b,a) b0 c0=both b b0 (cc+mvC c0 a) cc:=oz cc b b0 a c0;rw [ec0,es0,ei];cases b<;>cases b0
     all_goals
      repeat' (first|(apply Aa.fn;rfl;rfl;exact hh0;intro _;rfl)|(apply Aa.fn;rfl;rfl;exact hm0;intro _;rfl)|(apply Aa.UG;rfl;rfl;rfl;rfl;rfl;decide)|refine Cb ?_|(apply Aa.int;rfl;rfl;rfl)|(apply Ad.AX;rfl)|(apply Ad.Ak;rfl))
     all_goals try (exfalso;omega)
     all_goals try contradiction
     all_goals
      refine Aj.normal ⟨by first|omega|decide,?_,?_⟩
      ·exact Dy
      ·repeat (first|exact BG.nil|(refine BG.cons (AY rfl) ?_ rfl ?_ ?_;(first|exact CU _ _|exact CZ _ _|exact HB.AA rfl|exact C9.Bj _ _|(simp [HB.under,C9.under,PV.under]));(first|exact JW.refl _|exact JW.vec (FK.refl _) (by simp))))
    ·generalize Gv q (gi L k) 1 t=r1 at *
     obtain ⟨b,a⟩:=r1;have a1:a.Ok:=a1;have hm0:=gB c1 a h4 a1;have hmr:=Yw h4 a1;have hk2:a2k q t ⟨nw,c0,c1,b0,b1⟩ cc (gi L k) 1=cc+GH (Gv q (gi L k) 0 t) b0 c0:=ec0;have hin:0≤GH (Gv q (gi L k) 0 t) b0 c0∧GH (Gv q (gi L k) 0 t) b0 c0≤139:=ak _ _ _ a0 h3;have es2:=es0;simp only [Nat.zero_add] at es2;generalize Gv q (gi L k) 0 t=r0 at *;rw [ec1,es1,hk2,es2];generalize GH r0 b0 c0=i0 at *;have ei:cc+i0+GH (b,a) b1 c1=both b b1 (cc+i0+mvC c1 a) (cc+i0):=oz (cc+i0) b b1 a c1;rw [ei];generalize (if r0.1=true then r0.2 else c0)=c0' at *;generalize (r0.1||b0)=b0' at *;cases b<;>cases b1
     all_goals
      repeat' (first|(apply Aa.fn;rfl;rfl;exact hh1;intro _;rfl)|(apply Aa.fn;rfl;rfl;exact hm0;intro _;rfl)|(apply Aa.UG;rfl;rfl;rfl;rfl;rfl;decide)|refine Cb ?_|(apply Aa.int;rfl;rfl;rfl)|(apply Ad.AX;rfl)|(apply Ad.Ak;rfl))
     all_goals try (exfalso;omega)
     all_goals try contradiction
     all_goals
      refine Aj.normal ⟨by first|omega|decide,?_,?_⟩
      ·exact Dy
      ·repeat (first|exact BG.nil|(refine BG.cons (AY rfl) ?_ rfl ?_ ?_;(first|exact CU _ _|exact CZ _ _|exact HB.AA rfl|exact C9.Bj _ _|(simp [HB.under,C9.under,PV.under]));(first|exact JW.refl _|exact JW.vec (FK.refl _) (by simp))))
   ·have e2:b3b q t ⟨nw,c0,c1,b0,b1⟩ (gi L k) 2=Hq q t ⟨nw,c0,c1,b0,b1⟩ (gi L k):=rfl
    have hi0:=ak (Gv q (gi L k) 0 t) b0 c0 a0 h3;have hi1:=ak (Gv q (gi L k) 1 t) b1 c1 a1 h4;have hiq:KZ q t ⟨nw,c0,c1,b0,b1⟩ (gi L k)=GH (Gv q (gi L k) 0 t) b0 c0+GH (Gv q (gi L k) 1 t) b1 c1:=rfl;have hGk:G (gi L k)=(Hq q t ⟨nw,c0,c1,b0,b1⟩ (gi L k),(gi L k,cc+KZ q t ⟨nw,c0,c1,b0,b1⟩ (gi L k))):=by rw [hG]
    rw [hGk,a8m,e2];have hnl:=a4v (d:=(Hq q t ⟨nw,c0,c1,b0,b1⟩ (gi L k),(gi L k,cc+KZ q t ⟨nw,c0,c1,b0,b1⟩ (gi L k)))) hi y1;have hcb:0≤cc+KZ q t ⟨nw,c0,c1,b0,b1⟩ (gi L k)∧cc+KZ q t ⟨nw,c0,c1,b0,b1⟩ (gi L k)≤1000000000278:=by rw [hiq];omega
    generalize cc+KZ q t ⟨nw,c0,c1,b0,b1⟩ (gi L k)=c' at *;generalize Hq q t ⟨nw,c0,c1,b0,b1⟩ (gi L k)=sq at *;have ei:TA m (sq,(gi L k,c'))=match BZ m sq with|none=>Cm m sq (gi L k,c')|some o=>if ltB (gi L k,c') o=true then Cm m sq (gi L k,c') else m:=rfl
    cases hl:BZ m sq with
    |none =>
     rw [hl] at ei;simp only at ei;rw [ei] at hnl ⊢
     repeat' (first|(apply b6u (m:=m) (y:=sq) hl;rfl;rfl;rfl;rfl)|(apply c1l (m:=m) (y:=sq) (gi L k,c');rfl;rfl;rfl;rfl;rfl)|refine go2 ?_|(apply Aa.build;rfl;rfl;rfl;rfl;rfl)|(apply Ad.Ak;rfl)|(apply Ad.cond_true;rfl))
     all_goals try (exfalso;omega)
     all_goals try contradiction
     refine Aj.normal ⟨hnl,by first|omega|decide,?_,?_⟩
     ·exact Dy
     ·repeat (first|exact BG.nil|(refine BG.cons (AY rfl) ?_ rfl ?_ ?_;(first|exact CU _ _|exact CZ _ _|exact HB.AA rfl|exact C9.Bj _ _|(simp [HB.under,C9.under,PV.under]));(first|exact JW.refl _|exact JW.vec (FK.refl _) (by simp))))
    |some o =>
     obtain ⟨ol,oc⟩:=o;have hol:ol.length=q.p.notes.length:=hi _ (KQ hl);have hcmp:=Sz (gi L k) ol (by omega) (by omega);rw [hl] at ei;simp only at ei;have hb:ltB (gi L k,c') (ol,oc)=(decide (c'<oc)||(decide (c'=oc)&&decide (cmpL (gi L k) ol<0))):=rfl;rw [hb] at ei;generalize cmpL (gi L k) ol=cm at *;by_cases g1:c'<oc;all_goals by_cases g2:c'=oc
     all_goals by_cases g3:cm<0
     all_goals first|rw [decide_eq_true g1] at ei|rw [decide_eq_false g1] at ei
     all_goals first|rw [decide_eq_true g2] at ei|rw [decide_eq_false g2] at ei
     all_goals first|rw [decide_eq_true g3] at ei|rw [decide_eq_false g3] at ei
     all_goals simp only [Bool.true_or,Bool.false_or,Bool.true_and,Bool.false_and,Bool.false_eq_true,if_true,if_false] at ei
     all_goals rw [ei] at hnl ⊢
     all_goals
      repeat' (first|(apply b6g (m:=m) (y:=sq) hl;rfl;rfl;rfl;rfl)|(apply Aa.fn;rfl;rfl;exact hcmp;intro _;rfl)|(apply c1l (m:=m) (y:=sq) (gi L k,c');rfl;rfl;rfl;rfl;rfl)|refine Cb ?_|(apply Ah.guard;rfl;rfl)|(apply Aa.int;rfl;rfl;rfl)|(apply Aa.build;rfl;rfl;rfl;rfl;rfl)|(apply Ad.Ak;rfl)|(apply Ad.cond_true;rfl)|(apply Ad.cond_false;rfl)|(apply Ad.Aq;rfl)|(intro _;try (exfalso;omega)))
     all_goals try (exfalso;omega)
     all_goals try contradiction
     all_goals
      refine Aj.normal ⟨hnl,by first|omega|decide,?_,?_⟩
      ·exact Dy
      ·repeat (first|exact BG.nil|(refine BG.cons (AY rfl) ?_ rfl ?_ ?_;(first|exact CU _ _|exact CZ _ _|exact HB.AA rfl|exact C9.Bj _ _|(simp [HB.under,C9.under,PV.under]));(first|exact JW.refl _|exact JW.vec (FK.refl _) (by simp))))
  ·intro hi
   rw [cC] at hi ⊢
   repeat' (first|refine go2 ?_|(apply Ad.Ac;rfl)|(intro _;try (exfalso;omega)))
   all_goals try (exfalso;omega)
   refine Aj.normal ⟨_,⟨rfl,hi⟩,⟨by decide,?_,?_⟩⟩
   ·exact Dy
   ·repeat (first|exact BG.nil|(refine BG.cons (AY rfl) ?_ rfl ?_ ?_;(first|exact CU _ _|exact CZ _ _|exact HB.AA rfl|exact C9.Bj _ _|(simp [HB.under,C9.under,PV.under]));(first|exact JW.refl _|exact JW.vec (FK.refl _) (by simp))))
 ·rintro V m ⟨hi,_⟩ hnd h1 h2
  subst hi;refine Ew.normal ?_;refine Bc.swap 1 3 (by decide) (by decide) (by decide) (by decide) ?_;have e:Hrn (swp 1 3) [(0,LX es),(1,mV q),(2,slB (Nv q t)),(3,LX (Sj q t es V))]=[(0,LX es),(3,(mV q).rn (swp 1 3)),(2,(slB (Nv q t)).rn (swp 1 3)),(1,LX (Sj q t es V))]:=by
   simp only [Hrn,Yp];rfl
  rw [e]
  repeat' (first|apply Bc.Bf|apply Bc.ret|refine go1 ?_|fail)
  have hc:JX es=es.map fun e=>(e.1,PV.p (QF e.2)):=rfl
  simp only [List.length_map,hc] at h1 h2;refine Done.ret rfl (.refl _) (AY rfl) ?_ (by decide) (by decide) ⟨V,hnd,fun i=>⟨h2 i,h1 i⟩,rfl,rfl,rfl⟩;repeat (first|exact BG.nil|(refine BG.cons (AY rfl) ?_ rfl ?_ ?_;(first|exact CU _ _|exact CZ _ _|exact HB.AA rfl|exact C9.Bj _ _|(simp [HB.under,C9.under,PV.under]));(first|exact JW.refl _|exact JW.vec (FK.refl _) (by simp))))
end Go.Proofs.YtnjkoebfgcbbdaaGreatDoor
namespace Go.Proofs.YtnjkoebfgcbbdaaGreatDoor
open Go Go.Am Go.Vm Go.Pie Go.Sch
attribute [local irreducible] BR A8 DJ Dx DX AV Cc
def TK (L:List Pos):Int:=csK L (L.length-1)
theorem qO (L:List Pos) (p:Pos):∀ k,k<L.length→csK (L++[p]) k=csK L k
 |0,_=>rfl
 |k+1,h=>by
  unfold csK;rw [qO L p k (by omega),NZ (by omega),NZ (by omega)]
def Z8 (L:List Pos) (p:Pos):Int:=match L.getLast? with|none=>0|some x=>if p.h=x.h then mvC x.c p.c else 0
theorem Vu (L:List Pos) (p:Pos):TK (L++[p])=TK L+Z8 L p:=by
 unfold TK Z8;rcases am L.length with h|h
 ·obtain rfl:=ar.1 h
  rfl
 ·obtain ⟨m,hm⟩:∃ m,L.length=m+1:=⟨L.length-1,by omega⟩
  have e1:(L++[p]).length-1=m+1:=by grind
  have e2:L.getLast?=some (gi L m):=by
   unfold gi;grind
  have e3:gi (L++[p]) (m+1)=p:=by rw [← hm];exact Qm
  rw [e1,e2,hm,Nat.add_sub_cancel];have e4:csK (L++[p]) (m+1)=if (gi (L++[p]) (m+1)).h=(gi (L++[p]) m).h then csK (L++[p]) m+mvC (gi (L++[p]) m).c (gi (L++[p]) (m+1)).c else csK (L++[p]) m:=rfl
  rw [e4,qO L p m (by omega),e3,NZ (by omega)];grind
theorem jq (q:Qu) (l:List Int) (h:Int):∀ k,∀ x∈IV q l h k,x.h=h
 |0,x,hx=>absurd hx bl
 |k+1,x,hx=>by
  unfold IV at hx;split at hx
  ·rcases bq.1 hx with hx|hx
   ·exact jq q l h k x hx
   grind
  ·exact jq q l h k x hx
theorem getLast_mem {α:Type} {L:List α} {x:α} (h:L.getLast?=some x):x∈L :=by grind
theorem ni (q:Qu) (l:List Int) (A:List Pos) (hA:∀ x∈A,x.h=0):∀ k,TK (A++IV q l 1 k)=TK A+TK (IV q l 1 k)
 |0=>by
  show TK (A++[])=TK A+TK [];rw [cT];show TK A=TK A+0;omega
 |k+1=>by
  have ih:=ni q l A hA k;unfold IV;split
  ·rw [← cA,Vu,Vu,ih]
   have:Z8 (A++IV q l 1 k) ⟨1,k,(Gv q l 1 k).2⟩=Z8 (IV q l 1 k) ⟨1,k,(Gv q l 1 k).2⟩:=by
    unfold Z8;grind
   omega
  omega
def Xn (L:List Pos) (b:Bool) (c:V7):Prop:=match L.getLast? with|none=>b=false|some x=>b=true∧c=x.c
theorem wB {L:List Pos} {b:Bool} {c:V7} (p:Pos):Xn (L++[p]) true p.c:=by
 unfold Xn;simp
theorem a1v {q:Qu} {l:List Int} {h:Int} {k:Nat} {b:Bool} {c:V7} (hp:Xn (IV q l h k) b c) (r:Bool×V7) (hr:r.1=true) (i:Int):Z8 (IV q l h k) ⟨h,i,r.2⟩=GH r b c:=by
 unfold Xn at hp;unfold Z8 GH;rw [if_pos hr];cases h1:(IV q l h k).getLast? with
 |none =>
  grind
 |some x =>
  rw [h1] at hp;simp only at hp ⊢;obtain ⟨hb,hc⟩:=hp;rw [hb,if_pos rfl,if_pos (jq q l h k x (getLast_mem h1)).symm,hc]
theorem iy (q:Qu) (l:List Int):∀ t,Xn (IV q l 0 t) (JM st0 (Hq q) l t).b0 (JM st0 (Hq q) l t).c0∧Xn (IV q l 1 t) (JM st0 (Hq q) l t).b1 (JM st0 (Hq q) l t).c1∧cF st0 (Hq q) (KZ q) l t=TK (IV q l 0 t)+TK (IV q l 1 t)
 |0=>⟨rfl,rfl,rfl⟩
 |t+1=>by
  obtain ⟨h0,h1,h2⟩:=iy q l t;have e0:JM st0 (Hq q) l (t+1)=Hq q t (JM st0 (Hq q) l t) l:=rfl;have e1:cF st0 (Hq q) (KZ q) l (t+1)=cF st0 (Hq q) (KZ q) l t+KZ q t (JM st0 (Hq q) l t) l:=rfl;rw [e0,e1,h2];generalize JM st0 (Hq q) l t=x at *;obtain ⟨nw,c0,c1,b0,b1⟩:=x;simp only at h0 h1;have key:∀ (h:Int) (b:Bool) (c:V7),Xn (IV q l h t) b c→Xn (IV q l h (t+1)) ((Gv q l h t).1||b) (if (Gv q l h t).1=true then (Gv q l h t).2 else c)∧TK (IV q l h (t+1))=TK (IV q l h t)+GH (Gv q l h t) b c:=fun h b c hp=>by
   have hi:=a1v hp (Gv q l h t);have e2:IV q l h (t+1)=if (Gv q l h t).1=true then IV q l h t++[⟨h,t,(Gv q l h t).2⟩] else IV q l h t:=rfl
   rw [e2];by_cases hr:(Gv q l h t).1=true
   ·rw [if_pos hr,if_pos hr,Vu,hi hr,hr]
    exact ⟨wB (b:=b) (c:=c) ⟨h,t,(Gv q l h t).2⟩,rfl⟩
   ·rw [if_neg hr,if_neg hr]
    have hf:(Gv q l h t).1=false:=by simpa using hr
    rw [hf];refine ⟨by simpa using hp,?_⟩;unfold GH;rw [if_neg hr];omega
  obtain ⟨k0,k1⟩:=key 0 b0 c0 h0;obtain ⟨k2,k3⟩:=key 1 b1 c1 h1;refine ⟨k0,k2,?_⟩;rw [k1,k3];unfold KZ;simp only;omega
theorem sW (q:Qu) (l:List Int):cF st0 (Hq q) (KZ q) l (BN q.p).length=QL q l:=by
 rw [(iy q l _).2.2];exact (ni q l _ (jq q l 0 _) _).symm
theorem uJ (q:Qu) (hq:Na q) (l:List Int):∀ t,t≤(BN q.p).length→(JM st0 (Hq q) l t).c0.Ok∧(JM st0 (Hq q) l t).c1.Ok∧0≤cF st0 (Hq q) (KZ q) l t∧cF st0 (Hq q) (KZ q) l t≤278*t
 |0,_=>⟨⟨bj _,by show (0:Int)≤127;omega⟩,⟨bj _,by show (0:Int)≤127;omega⟩,bj _,bj _⟩
 |t+1,ht=>by
  obtain ⟨h0,h1,h2,h3⟩:=uJ q hq l t (by omega);have a0:=aI hq (Tj (q:=q) (i:=t) (by omega)) l 0 _ (ab _);have a1:=aI hq (Tj (q:=q) (i:=t) (by omega)) l 1 _ (ab _);have e0:JM st0 (Hq q) l (t+1)=Hq q t (JM st0 (Hq q) l t) l:=rfl;have e1:cF st0 (Hq q) (KZ q) l (t+1)=cF st0 (Hq q) (KZ q) l t+KZ q t (JM st0 (Hq q) l t) l:=rfl;rw [e0,e1];generalize JM st0 (Hq q) l t=x at *;have key:∀ (r:Bool×V7) (b:Bool) (c:V7),r.2.Ok→c.Ok→0≤GH r b c∧GH r b c≤139:=fun r b c hr hc=>by
   have:=Yw hc hr;unfold GH;omega
  have k0:=key (Gv q l 0 t) x.b0 x.c0 a0 h0;have k1:=key (Gv q l 1 t) x.b1 x.c1 a1 h1;refine ⟨?_,?_,?_,?_⟩
  ·show V7.Ok (if (Gv q l 0 t).1=true then (Gv q l 0 t).2 else x.c0)
   split
   ·exact a0
   omega
  ·show V7.Ok (if (Gv q l 1 t).1=true then (Gv q l 1 t).2 else x.c1)
   split
   ·exact a1
   omega
  ·show 0≤_+(GH (Gv q l 0 t) x.b0 x.c0+GH (Gv q l 1 t) x.b1 x.c1)
   omega
  ·show _+(GH (Gv q l 0 t) x.b0 x.c0+GH (Gv q l 1 t) x.b1 x.c1)≤278*((t+1:Nat):Int)
   omega
theorem YS {q:Qu} (hM:∀ t,t<(BN q.p).length→kQ q t≤12):b0h q=false:=by
 unfold b0h I5;rw [qM (fun i hi=>decide_eq_false (by have:=hM i hi;unfold kQ at this;omega)) _ (ab _)];rfl
attribute [local irreducible] Aa Ah Af Ad Az Ai Ba Bq Bd Aj Vm.Done Bg AB RN Bc BX Ew Jj Gp Hold
def IsB (q:Qu) (l:List Int):Prop:=l∈KN q (BN q.p).length∧∀ h∈KN q (BN q.p).length,nD (l,QL q l) (h,QL q h)
theorem a6k {q:Qu} {a b:List Int} (ha:IsB q a) (hb:IsB q b):a=b:=congrArg Prod.fst (a3v (ha.2 b hb.1) (hb.2 a ha.1))
noncomputable def dD (q:Qu):Option (List Int):=open Classical in if h:∃ l,IsB q l then some (Classical.choose h) else none
theorem iO {q:Qu} {l:List Int} (h:IsB q l):dD q=some l:=by
 unfold dD;rw [dif_pos ⟨l,h⟩];exact congrArg some (a6k (Classical.choose_spec (p:=IsB q) ⟨l,h⟩) h)
theorem b0g {q:Qu} {l:List Int} (h:dD q=some l):IsB q l:=by
 unfold dD at h;split at h
 ·grind
 grind
theorem a0t {q:Qu} (h:KN q (BN q.p).length=[]):dD q=none:=by
 cases h1:dD q with
 |none=>rfl
 |some l =>
  have:=(b0g h1).1;grind
def dV (q:Qu) (t:Nat) (m:List (J8×Way)):Prop:=oK (MZ q) (fQ q) (kQ q) (XJ q) (NK q) st0 (Hq q) (KZ q) t m
theorem uK {es:List (J8×Way)} {V:List Nat} (h:∀ i,i∈V↔i<es.length) (d:J8×Way):d∈V.map (gi es)↔d∈es:=by
 rw [be];constructor
 ·rintro ⟨i,h1,rfl⟩
  exact EX ((h i).1 h1)
 ·intro hd
  obtain ⟨i,h1,h2⟩:=MB hd;grind
theorem vN (q:Qu) (hq:Na q) {t:Nat} (ht:t<(BN q.p).length) {m:List (J8×Way)} (hm:dV q t m) {V:List Nat} (hV:∀ i,i∈V↔i<m.length):dV q (t+1) (Sj q t m V) :=
 oK.step (Xf q hq) (b1f q) (Ua q) (b3p q) ht hm (uK hV)
theorem a0u (q:Qu) (hq:Na q) {t:Nat} (ht:t<(BN q.p).length) {m:List (J8×Way)} (hm:dV q t m):∀ e∈m,b8w q t e:=fun e he=>by
 obtain ⟨g1,g2,g3⟩:=hm.sub e he;obtain ⟨k1,k2,k3,k4⟩:=uJ q hq e.2.1 t (by omega);have hT:=UW q.p;have hn:=hq.p.notes;refine ⟨qm q hq ht ((Ql q hq (by omega) _).1 g1),?_,by grind,by grind⟩;omega
theorem a2r (q:Qu) (hq:Na q) {m:List (J8×Way)} (hm:dV q (BN q.p).length m):∀ e∈m,e.2.1.length=q.p.notes.length∧0≤e.2.2∧e.2.2≤1000000000000:=fun e he=>by
 obtain ⟨g1,g2,g3⟩:=hm.sub e he;obtain ⟨k1,k2,k3,k4⟩:=uJ q hq e.2.1 (BN q.p).length (ab _);have hT:=UW q.p;have hn:=hq.p.notes;refine ⟨iw.len ((Ql q hq (ab _) _).1 g1),?_⟩;omega
def Sl (es:List (J8×Way)) (V:List Nat):Option Way:=(V.map fun i=>(gi es i).2).foldl Xy none
theorem a1q (q:Qu) {es:List (J8×Way)} (hm:dV q (BN q.p).length es) {V:List Nat} (hV:∀ i,i∈V↔i<es.length):Sl es V=(dD q).map fun l=>(l,QL q l):=by
 have hmem:∀ w,w∈(V.map fun i=>(gi es i).2)↔∃ e∈es,e.2=w:=fun w=>by
  rw [be];constructor
  ·rintro ⟨i,h1,rfl⟩
   exact ⟨_,EX ((hV i).1 h1),rfl⟩
  ·rintro ⟨e,h1,rfl⟩
   obtain ⟨i,h2,rfl⟩:=MB h1;grind
 have hw:∀ e∈es,e.2.2=QL q e.2.1:=fun e he=>by rw [(hm.sub e he).2.2];exact sW q _
 unfold Sl;rcases Vl (V.map fun i=>(gi es i).2) none with ⟨_,h1,h2⟩|⟨w,h1,h2,h3,_⟩
 ·rw [h2]
  have:KN q (BN q.p).length=[]:=by
   cases h:KN q (BN q.p).length with
   |nil=>rfl
   |cons a l =>
    obtain ⟨o,ho,_⟩:=hm.best a (by show a∈KN q _;grind);simp_all
  rw [a0t this];rfl
 ·rcases h2 with h2|h2
  ·obtain ⟨e,he,rfl⟩:=(hmem w).1 h2
   have hc:=hw e he;have hB:IsB q e.2.1:=by
    refine ⟨(hm.sub e he).1,fun h hh=>?_⟩;obtain ⟨o,ho,hle⟩:=hm.best h hh;have e1:=sW q h;rw [e1] at hle;rw [← hc];exact NG (h3 o ((hmem o).2 ⟨_,ho,rfl⟩)) hle
   rw [iO hB];grind
  grind
def c0q:Option Way→PV
 |none=>.p (.val (.pointer none))
 |some w=>.p (.E8 [.lst 3 (cells w.1) w.1.length,.int .i64 w.2])
def b7p:HB:=.box 41 [.p (.val (.slice none 0 0)),.p (.int .i64 0)]
noncomputable def nH (q:Qu):PV:=match dD q with
 |none=>.Eb [.p (.agg [.val (.slice none 0 0),.int .i64 0]),.p (.int .i64 24)]
 |some l=>.Eb [.p (.agg [.lst 3 (cells l) l.length,.int .i64 (QL q l)]),.p (.int .i64 0)]
theorem jT:Am.Enters Tryz.prog 39:=⟨_,Tryz.func39,by rfl,by rfl⟩
theorem a1n (q:Qu) (hq:Na q) (hM:∀ t,t<(BN q.p).length→kQ q t≤12):Jj env 11 [.agg (Enc.enc q)] (nH q):=by
 have hc:=GZ q hq.o.sm hq.p.sm;rw [a9f hq] at hc;have hcr:=Ul q hq;rw [YS hM] at hcr;have hbg:=Zq q hq;have hsl:=Ov q hq;have hSl:=UW q.p;have hn:=hq.p.notes;refine Jj.enter Tryz.func11 rfl (by kernel_rfl) (by kernel_rfl) (by simp [Tryz.ntmps11]) ?_
 repeat' (first|apply Bc.Bf|apply Ew.normal|apply Bc.to|apply Bc.block|apply Bc.skip|(apply Bc.cond_false;rfl)|(apply Aa.fn;rfl;rfl;exact hc;intro _;rfl)|(apply Aa.fn;rfl;rfl;exact hcr;intro _;rfl)|(apply Aa.fn;rfl;rfl;exact hbg;intro _;rfl)|(apply Aa.fn;rfl;rfl;exact hsl;intro _;rfl)|(apply c1h (m:=[]) (y:=st0) (NK q,0);rfl;rfl;rfl;rfl;rfl)|refine go1 ?_|(apply b4q)|(apply Aa.int;rfl;rfl;rfl)|(apply Aa.build;rfl;rfl;rfl;rfl;rfl))
 all_goals try (exfalso;omega)
 all_goals try contradiction
 have hS2:∀ k,k<(BN q.p).length→gi (BN q.p) k=Nv q k:=fun k _=>rfl
 refine Bc.D6 (fun s:Nat×List (J8×Way)=>[(1,.ref 0 0),(2,.ref 1 0),(5,.mref 2),(27,.p (.lst 81 (cells (BN q.p)) (BN q.p).length)),(28,.p (.int .i64 ((BN q.p).length:Int))),(29,.p (.int .i64 (s.1:Int)))])
  (fun s=>[(0,mV q),(1,b7p),(2,LX s.2)]) 3 (fun s=>s.1≤(BN q.p).length∧dV q s.1 s.2) (fun s=>(BN q.p).length-s.1) (0,[(st0,(NK q,0))]) (by decide) ⟨aq _,oK.start⟩ ⟨by decide,?_,?_⟩ ?_
 ·exact Dy
 ·repeat (first|exact BG.nil|(refine BG.cons (AY rfl) ?_ rfl ?_ ?_;(first|exact CU _ _|exact CZ _ _|exact HB.AA rfl|exact C9.Bj _ _|(simp [HB.under,C9.under,PV.under]));(first|exact JW.refl _|exact JW.vec (FK.refl _) (by simp))))
 rintro ⟨k,m⟩ ⟨hk,hm⟩;simp only at hk hm ⊢;rcases ax k (BN q.p).length with hkl|hkl
 ·have ha:=uT q hq k hkl (hM k hkl) m (a0u q hq hkl hm)
  unfold mV b7p
  repeat' (first|(refine Bc.atEnd 10 ?_;apply Bc.kF)|((refine BX.Gz 36 ?_;refine Hold.of ?_))|apply Bc.Bf|apply Ew.normal|apply Bc.to|apply Bc.block|apply Bc.skip|(apply Bc.Aq;rfl)|apply BX.one|apply Ah.nil|apply Ah.one|(apply Aa.move;rfl)|(apply Aa.int;rfl;rfl;rfl)|(apply Aa.Ap;rfl;rfl;rfl;omega;rfl)|(apply Aa.load;rfl;rfl)|(apply Aa.alloc;rfl)|(apply Aa.Dz;rfl;rfl;rfl;trivial;rfl;rfl;exact AY rfl;exact le_dec rfl)|(intro _;try (exfalso;omega)))
  all_goals try (exfalso;omega)
  refine Hold.go ?_;refine BX.c1d [2] ha jT rfl rfl (.of_eq rfl) (C9.AA rfl) ⟨⟨by decide,CU _ _⟩,trivial⟩ ⟨⟨_,rfl,by rw [Yp];exact JW.refl _⟩,trivial⟩ (by decide) (by decide) ?_;rintro r H' nx' ⟨V,hV1,hV2,rfl,rfl,rfl⟩;have hms:=vN q hq hkl hm hV2
  repeat' (first|((refine Bc.atEnd 11 ?_;refine Hold.of ?_))|apply Ew.normal|apply BX.nil|apply BX.one|apply Bd.normal|(apply Aa.assign;rfl))
  refine Hold.go ?_;refine Bc.swap 2 4 (by decide) (by decide) (by decide) (by decide) ?_
  repeat' (first|apply Bc.region|refine go1 ?_|fail)
  all_goals try (exfalso;omega)
  refine Aj.normal ⟨(k+1,Sj q k m V),⟨hkl,hms⟩,by show (BN q.p).length-(k+1)<(BN q.p).length-k;omega,⟨by decide,?_,?_⟩⟩
  ·dsimp only
   exact Dy
  ·dsimp only
   repeat (first|exact BG.nil|(refine BG.cons (AY rfl) ?_ rfl ?_ ?_;(first|exact CU _ _|exact HB.AA rfl);(first|exact JW.refl _|(rw [Yp,Yp];exact JW.refl _))))
 ·obtain rfl:k=(BN q.p).length:=by omega
  repeat' (first|((refine Bc.at 13 ?_;refine Hold.of ?_))|apply Bc.Bf|apply Ew.normal|apply Ew.exit|apply Bc.to|apply Bc.exit|(apply Bc.Aq;rfl)|refine go0 ?_|(intro _;try (exfalso;omega)))
  all_goals try (exfalso;omega)
  refine Hold.go ?_;have hfin:=a2r q hq hm;refine Bc.jB (fun b:Option Way=>[(1,.ref 0 0),(2,.ref 1 0),(8,c0q b),(38,.mref 2)]) (fun b=>[(0,mV q),(1,b7p),(2,LX m)]) (fun V b=>b=Sl m V∧∀ i∈V,i<m.length) none (Dw:=3) (b:=2) (ks:=(JX m).map fun x=>.agg (Enc.enc x.1)) (cs:=(JX m).map (·.2)) rfl rfl (by decide) rfl ⟨rfl,fun i h=>absurd h bl⟩ ⟨by decide,?_,?_⟩ rfl (fun _=>⟨rfl,rfl,rfl⟩) (fun _ _ _=>rfl) (by simp) rfl (by kernel_rfl) (by kernel_rfl) (by decide) ?_ ?_
  ·exact Dy
  ·repeat (first|exact BG.nil|(refine BG.cons (AY rfl) ?_ rfl ?_ ?_;(first|exact CU _ _|exact CZ _ _|exact HB.AA rfl|exact C9.Bj _ _|(simp [HB.under,C9.under,PV.under]));(first|exact JW.refl _|exact JW.vec (FK.refl _) (by simp))))
  ·rintro V b i kk c ⟨hi,hV⟩ hnd hni hk hc
   subst hi;have hil:i<m.length:=by
    have:=(bw.1 hk).1;simpa [JX] using this
   have hei:m[i]?=some (gi m i):=by unfold gi;rw [ai hil];rfl
   have ec:c=.p (QF (gi m i).2):=by
    unfold JX at hc;rw [aD,aD,hei] at hc;simpa using hc.symm
   subst ec;have hpick:Sl m (V++[i])=Xy (Sl m V) (gi m i).2:=by
    unfold Sl;rw [bk,cX];rfl
   have hlen:∀ o,Sl m V=some o→o.1.length=q.p.notes.length∧0≤o.2∧o.2≤1000000000000:=fun o ho=>by
    rcases Vl (V.map fun i=>(gi m i).2) none with ⟨_,_,h⟩|⟨w,h1,h2,_,_⟩
    ·unfold Sl at ho;rw [h] at ho;cases ho
    ·unfold Sl at ho;rw [h1] at ho;cases ho
     rcases h2 with h2|h2
     ·obtain ⟨j,j1,rfl⟩:=be.1 h2
      exact hfin _ (EX (hV j j1))
     ·cases h2
   rw [hpick];clear hpick;have hV':∀ j∈V++[i],j<m.length:=fun j hj=>by
    rcases bq.1 hj with h|h
    ·exact hV j h
    ·rw [aR] at h;omega
   obtain ⟨f1,f2⟩:=hfin _ (EX hil);generalize Sl m V=b at *;generalize (gi m i).2=v at *;obtain ⟨l,cc⟩:=v;simp only at f1 f2;cases b with
   |none =>
    have ei:Xy none (l,cc)=some (l,cc):=rfl;rw [ei]
    repeat' (first|(refine Bc.atEnd 17 ?_;refine Bc.ghost (Ar.eG 10 [.lst 3 (cells l) l.length,.int .i64 cc] rfl rfl rfl) ?_;first|apply Bc.region|apply Bc.Dq)|apply Bc.Bl|(apply Bc.cond_true;rfl)|apply BX.nil|apply BX.one|refine go1 ?_|(apply Af.Zu;rfl;rfl)|(apply Aa.a5k;rfl;rfl;rfl))
    all_goals try (exfalso;omega)
    all_goals try contradiction
    refine Aj.normal ⟨some (l,cc),⟨rfl,hV'⟩,⟨by decide,?_,?_⟩⟩
    ·exact Dy
    ·repeat (first|exact BG.nil|(refine BG.cons (AY rfl) ?_ rfl ?_ ?_;(first|exact CU _ _|exact CZ _ _|exact HB.AA rfl|exact C9.Bj _ _|(simp [HB.under,C9.under,PV.under]));(first|exact JW.refl _|exact JW.vec (FK.refl _) (by simp))))
   |some o =>
    obtain ⟨ol,oc⟩:=o;obtain ⟨o1,o2⟩:=hlen _ rfl;simp only at o1 o2;have hcmp:=Sz l ol (by omega) (by omega);have ei:Xy (some (ol,oc)) (l,cc)=if ltB (l,cc) (ol,oc)=true then some (l,cc) else some (ol,oc):=rfl
    have hb:ltB (l,cc) (ol,oc)=(decide (cc<oc)||(decide (cc=oc)&&decide (cmpL l ol<0))):=rfl;rw [hb] at ei;generalize cmpL l ol=cm at *;by_cases g1:cc<oc;all_goals by_cases g2:cc=oc
    all_goals by_cases g3:cm<0
    all_goals first|rw [decide_eq_true g1] at ei|rw [decide_eq_false g1] at ei
    all_goals first|rw [decide_eq_true g2] at ei|rw [decide_eq_false g2] at ei
    all_goals first|rw [decide_eq_true g3] at ei|rw [decide_eq_false g3] at ei
    all_goals simp only [Bool.true_or,Bool.false_or,Bool.true_and,Bool.false_and,Bool.false_eq_true,if_true,if_false] at ei
    all_goals rw [ei]
    all_goals
     repeat' (first|(refine Bc.atEnd 17 ?_;refine Bc.ghost (Ar.eG 10 [.lst 3 (cells l) l.length,.int .i64 cc] rfl rfl rfl) ?_;first|apply Bc.region|apply Bc.Dq)|apply Bc.Bl|apply Bc.skip|(apply Bc.cond_true;rfl)|(apply Bc.cond_false;rfl)|(apply Bc.Aq;rfl)|apply BX.nil|apply BX.one|(apply Aa.fn;rfl;rfl;exact hcmp;intro _;rfl)|refine go1 ?_|(apply Af.guard;rfl;rfl)|(apply Af.Zu;rfl;rfl)|(apply Aa.a6j;rfl;rfl;rfl)|(apply Aa.yw;rfl)|(apply Aa.int;rfl;rfl;rfl)|(intro _;try (exfalso;omega)))
    all_goals try (exfalso;omega)
    all_goals try contradiction
    all_goals
     refine Aj.normal ⟨_,⟨rfl,hV'⟩,⟨by decide,?_,?_⟩⟩
     ·exact Dy
     ·repeat (first|exact BG.nil|(refine BG.cons (AY rfl) ?_ rfl ?_ ?_;(first|exact CU _ _|exact CZ _ _|exact HB.AA rfl|exact C9.Bj _ _|(simp [HB.under,C9.under,PV.under]));(first|exact JW.refl _|exact JW.vec (FK.refl _) (by simp))))
  ·rintro V b ⟨hi,hV⟩ hnd h1 h2
   subst hi;have hV2:∀ i,i∈V↔i<m.length:=fun i=>⟨hV i,fun h=>h1 i (by simpa [JX] using h)⟩
   rw [a1q q hm hV2];unfold nH;cases dD q with
   |none =>
    show Ew _ _ _ _ _ _ [(1,_),(2,_),(8,.p (.val (.pointer none))),(38,_)] _ _
    repeat' (first|apply Bc.Bf|apply Ew.normal|apply Ew.ret|apply Bc.to|apply Bc.ret|(apply Bc.cond_true;rfl)|refine go1 ?_|(apply Aa.a5k;rfl;rfl;rfl)|(apply Aa.build;rfl;rfl;rfl;rfl;rfl))
    all_goals try (exfalso;omega)
    all_goals try contradiction
    all_goals (refine Done.rt rfl rfl ⟨?_,rfl,rfl⟩;try rfl)
   |some l =>
    show Ew _ _ _ _ _ _ [(1,_),(2,_),(8,.p (.E8 [.lst 3 (cells l) l.length,.int .i64 (QL q l)])),(38,_)] _ _
    repeat' (first|apply Bc.Bf|apply Bc.Bl|apply Ew.normal|apply Bc.to|apply Bc.ret|apply Bc.skip|(apply Bc.cond_false;rfl)|refine go1 ?_|(apply Aa.a6j;rfl;rfl;rfl)|(apply Aa.yw;rfl)|(apply Aa.build;rfl;rfl;rfl;rfl;rfl))
    all_goals try (exfalso;omega)
    all_goals try contradiction
    all_goals (refine Done.rt rfl rfl ⟨?_,rfl,rfl⟩;try rfl)
theorem b2u {a:Nat} (h:a<100000000000000000):Lib.nDigits a≤18:=by
 have h1:Lib.nDigits 100000000000000000=18:=Lib.nDigits_unique 17 _ (by decide) (by decide);rcases ax 18 (Lib.nDigits a) with h2|h2
 ·have:=Num.O6 (a:=100000000000000000) (b:=a) (by omega)
  omega
 omega
theorem ZM (a b:Nat) (ha:a<100000000000000000) (hb:b<100000000000000000):Ai env 43 [.str (bs (Lib.decDigits a)),.str (bs (Lib.decDigits b))] (st (Lib.decDigits (a+b))):=by
 have q1:Ai env 91 [.str (bs (Lib.decDigits a)),.int .i64 18] (.Eb [.p (.int .i64 (a:Int)),.p (.bool true)]):=by
  have:=Ot a 18 (ab _);rw [if_pos (b2u ha),decide_eq_true (b2u ha)] at this;omega
 have q2:Ai env 91 [.str (bs (Lib.decDigits b)),.int .i64 18] (.Eb [.p (.int .i64 (b:Int)),.p (.bool true)]):=by
  have:=Ot b 18 (ab _);rw [if_pos (b2u hb),decide_eq_true (b2u hb)] at this;omega
 have ho:Ai env 18 [.int .i64 ((a:Int)+(b:Int))] (st (Lib.decDigits (a+b))):=by
  have:=YE ((a+b:Nat):Int) ⟨by omega,by omega⟩;assumption
 generalize Lib.decDigits b=y at *;refine Ai.enter (Ae (by decide)) Tryz.func43 rfl (by kernel_rfl) (by simp) ?_
 repeat' (first|(apply Aa.fn;rfl;rfl;exact q1;intro _;rfl)|(apply Aa.fn;rfl;rfl;exact q2;intro _;rfl)|(apply Aa.fn;rfl;rfl;exact ho;intro _;rfl)|refine Cb ?_|(apply Ad.AX;rfl))
 all_goals first|(exfalso;omega)|contradiction|(refine Done.rt rfl rfl ⟨?_,rfl,rfl⟩;try rfl)
abbrev IU:=List Int×Nat
def Pz (w:IU):FV:=.agg [.lst 3 (cells w.1) w.1.length,.str (bs (Lib.decDigits w.2))]
def Jv (es:List (List UInt8×IU)):List (List UInt8×PV):=es.map fun e=>(e.1,.p (Pz e.2))
def TM (es:List (List UInt8×IU)):HB:=Nj (fun x:List UInt8=>.str (bs x)) (Jv es)
theorem CZ (k:Nat) (es:List (List UInt8×IU)):HB.under k (TM es):=by
 induction es with
 |nil=>exact trivial
 |cons e es ih=>exact ⟨trivial,ih⟩
theorem cvJ {k:Nat} {a b:Heap} (h:Vm.BG k a b:=by repeat (first|exact BG.nil|(refine BG.cons (AY rfl) ?_ rfl ?_ ?_;(first|exact CZ _ _|exact CU _ _|exact HB.AA rfl|exact C9.Bj _ _|(simp [HB.under,C9.under,PV.under]));(first|exact JW.refl _|exact JW.vec (FK.refl _) (by simp))))):Vm.BG k a b:=h
theorem cvK {k:Nat} {a b:Heap} (h:Vm.BG k a b:=by repeat (first|exact BG.nil|(refine BG.eq rfl (AY rfl) ?_ ?_;(first|exact CZ _ _|exact CU _ _|exact HB.AA rfl|exact C9.Bj _ _|(simp [HB.under,C9.under,PV.under];done)))|(refine BG.cons (AY rfl) ?_ rfl ?_ ?_;(first|exact CZ _ _|exact CU _ _|exact HB.AA rfl|exact C9.Bj _ _|(simp [HB.under,C9.under,PV.under]));(first|exact JW.refl _|exact JW.vec (FK.refl _) (by simp))))):Vm.BG k a b:=h
theorem b2x (ρ:Nat→Nat) (es:List (List UInt8×IU)):(TM es).rn ρ=TM es:=by
 show HB.Jz _ (C9.rn ρ ((Jv es).map (·.2)))=HB.Jz _ _;have:C9.rn ρ ((Jv es).map (·.2))=(Jv es).map (·.2):=by
  induction es with
  |nil=>rfl
  |cons e es ih =>
   show PV.rn ρ (PV.p (Pz e.2))::C9.rn ρ ((Jv es).map (·.2))=_;rw [ih];rfl
 grind
section
variable {L:Vm.Frame} {H:Vm.Heap} {nx:Nat} {Q:PV→Vm.Heap→Nat→Prop} {w:Bool} {dst:Option Tmp} {ty:TypeId} {pos:String} {af:Array Edge} {gd:Option (Nat×Bool)}
theorem b4y {t:TypeId} (q:Q (.mref nx) ((nx,TM [])::H) (nx+1)):Aa env w ⟨dst,.makeMap t none,ty,pos,af,gd⟩ L H nx Q:=Aa.Zx q
theorem b5p {t et:TypeId} {x k:Operand} {b:Nat} {m:List (List UInt8×IU)} {y:List UInt8} (hl:BZ m y=none) (hx:AU env.Γ L x=some (.mref b)) (hb:hget H b=some (TM m)) (hk:AU env.Γ L k=some (.p (.str (bs y))))
 (ht:env.P.underlying t=some (.map 9 et)) (hz:zeroOf env.P et=some (.agg #[.slice none 0 0,.string ⟨#[]⟩])) (q:Q (.Eb [.p (.agg [.val (.slice none 0 0),.str ⟨#[]⟩]),.p (.bool false)]) H nx):Aa env w ⟨dst,.lookup t x k true,ty,pos,af,gd⟩ L H nx Q:=by
 have h2:BZ (Jv m) y=none:=by
  have:=UA (fun w=>PV.p (Pz w)) y m;rw [hl] at this;exact this
 have hs:(BZ (Jv m) y).isSome=false:=by grind
 rw [← hs] at q;exact Aa.lookupGo (z:=.agg #[.slice none 0 0,.string ⟨#[]⟩]) YC hx hb hk ht hz rfl (Lr.const h2 rfl) q
theorem b5u {t et:TypeId} {x k:Operand} {b:Nat} {m:List (List UInt8×IU)} {y:List UInt8} {v:IU} (hl:BZ m y=some v) (hx:AU env.Γ L x=some (.mref b)) (hb:hget H b=some (TM m)) (hk:AU env.Γ L k=some (.p (.str (bs y))))
 (ht:env.P.underlying t=some (.map 9 et)) (hz:zeroOf env.P et=some (.agg #[.slice none 0 0,.string ⟨#[]⟩])) (q:Q (.Eb [.p (Pz v),.p (.bool true)]) H nx):Aa env w ⟨dst,.lookup t x k true,ty,pos,af,gd⟩ L H nx Q:=by
 have h2:BZ (Jv m) y=some (.p (Pz v)):=by
  have:=UA (fun w=>PV.p (Pz w)) y m;rw [hl] at this;exact this
 have hs:(BZ (Jv m) y).isSome=true:=by grind
 rw [← hs] at q;exact Aa.lookupGo (z:=.agg #[.slice none 0 0,.string ⟨#[]⟩]) YC hx hb hk ht hz rfl (.inl h2) q
theorem c1q {t et:TypeId} {x k y':Operand} {b:Nat} {m:List (List UInt8×IU)} {y:List UInt8} (v:IU) (hx:AU env.Γ L x=some (.mref b)) (hb:hget H b=some (TM m)) (hk:AU env.Γ L k=some (.p (.str (bs y)))) (hy:AU env.Γ L y'=some (.p (Pz v)))
 (ht:env.P.underlying t=some (.map 9 et)) (q:Q (.Eb []) (hput H b (TM (Cm m y v))) nx):Aa env true ⟨dst,.mapUpdate t x k y',ty,pos,af,gd⟩ L H nx Q :=
 Aa.zN YC hx hb hk hy ht (by
  show hput H b (Nj _ (Cm (Jv m) y (.p (Pz v))))=hput H b (Nj _ (Jv (Cm m y v)));have:Cm (Jv m) y (PV.p (Pz v))=Jv (Cm m y v):=U0 (fun w=>PV.p (Pz w)) y v m;grind) q
theorem c0j {t et:TypeId} {x k y':Operand} {b:Nat} {m:List (List UInt8×IU)} {y:List UInt8} (v:IU) (hx:AU env.Γ L x=some (.mref b)) (hb:hget H b=some (TM m)) (hk:AU env.Γ L k=some (.p (.str (bs y)))) (hy:AU env.Γ L y'=some (.p (Pz v)))
 (ht:env.P.underlying t=some (.map 9 et)) (q:Q (.Eb []) (hput H b (TM (Cm m y v))) nx):Aa env true ⟨dst,.insert t x k y',ty,pos,af,gd⟩ L H nx Q :=
 Aa.zo YC hx hb hk hy ht (by
  show hput H b (Nj _ (Cm (Jv m) y (.p (Pz v))))=hput H b (Nj _ (Jv (Cm m y v)));have:Cm (Jv m) y (PV.p (Pz v))=Jv (Cm m y v):=U0 (fun w=>PV.p (Pz w)) y v m;grind) q
end
instance:Inhabited (List UInt8×IU):=⟨([],([],0))⟩
def wH (q:Qu) (t:Nat) (e:List UInt8×IU):List (List UInt8×IU):=(lH q t e.2.1).map fun x=>(Py (J6 q t) x,(x,e.2.2))
def Y0 (q:Qu) (t:Nat) (es:List (List UInt8×IU)) (V:List Nat):List (List UInt8×IU):=((V.map (gi es)).flatMap (wH q t)).foldl RX []
def qx (q:Qu) (t:Nat) (m:List (List UInt8×IU)):Prop:=X7 (MZ q) (fQ q) (kQ q) (XJ q) (NK q) [] (c1z q) t m
theorem Xz {α:Type} [Inhabited α] {es:List α} {V:List Nat} (hn:V.Nodup) (h:∀ i,i∈V↔i<es.length):(V.map (gi es)).Perm es:=by
 have h1:V.Perm (List.range es.length):=(fy hn gh).2 fun i=>by grind
 have h2:(List.range es.length).map (gi es)=es:=by
  refine KO (by simp) fun i hi=>?_
  unfold gi;grind
 grind
theorem wW (q:Qu) (hq:Na q) {t:Nat} (ht:t<(BN q.p).length) {m:List (List UInt8×IU)} (hm:qx q t m) {V:List Nat} (hn:V.Nodup) (hV:∀ i,i∈V↔i<m.length):qx q (t+1) (Y0 q t m V) :=
 X7.step (Xf q hq) (b2a q) (Ua q) (b3p q) ht hm (Xz hn hV)
theorem zZ (q:Qu) (hq:Na q) {t:Nat} (ht:t≤(BN q.p).length) {m:List (List UInt8×IU)} (hm:qx q t m):∀ e∈m,b6b q t e.2.1∧e.2.2≤(KN q t).length:=fun e he=>by
 obtain ⟨g1,g2,g3⟩:=hm.sub e he;refine ⟨(Ql q hq ht _).1 g1,?_⟩;rw [g3];exact List.countP_le_length
theorem oV {α:Type} (F:α→Nat):∀ l:List α,(∀ a∈l,1≤F a)→l.length≤sumF F l
 |[],_=>ab _
 |a::l,h=>by
  have:=oV F l fun b hb=>h b (av _ hb)
  have:=h a (by simp);simp only [sumF,List.length_cons];omega
theorem a0v (q:Qu) {t:Nat} {m:List (List UInt8×IU)} (hm:qx q t m):m.length≤(KN q t).length:=by
 have h:=X7.total hm;refine an (oV (fun d:List UInt8×IU=>d.2.2) m fun d hd=>?_) (Nat.le_of_eq h);obtain ⟨g1,g2,g3⟩:=hm.sub d hd;grind
theorem b1c {n c:Nat} {m:List (List UInt8×IU)} {d:List UInt8×IU} (hm:∀ e∈m,e.2.2≤n) (hd:d.2.2≤c):∀ e∈RX m d,e.2.2≤n+c:=fun e he=>by
 have key:∀ w:IU,w.2≤n+c→∀ e∈Cm m d.1 w,e.2.2≤n+c:=fun w hw e he=>by
  rcases Qq he with h|h|h
  ·grind
  ·grind
  grind
 unfold RX at he;split at he
 ·grind
 ·rename_i o ho
  have:=hm _ (KQ ho);grind
theorem c1p:Lib.decDigits 0=[48]:=by rw [Lib.decDigits];rfl
theorem c4f:Lib.decDigits 1=[49]:=by rw [Lib.decDigits];rfl
def cbd (n:Nat):Nat:=n*4096000000
theorem b5d {n:Nat} (h:n≤1000000):cbd n≤4096000000000000:=by unfold cbd;omega
theorem a8d (n:Nat):cbd (n+1)=cbd n+4096000000:=by unfold cbd;omega
theorem mG (q:Qu) (hq:Na q) (hM:∀ t,t<(BN q.p).length→kQ q t≤12) (hP:∀ t,t≤(BN q.p).length→(KN q t).length≤1000000):Jj env 12 [.agg (Enc.enc q)] (.Eb [st (Lib.decDigits (KN q (BN q.p).length).length),.p (.int .i64 0)]):=by
 have hc:=GZ q hq.o.sm hq.p.sm;rw [a9f hq] at hc;have hcr:=Ul q hq;rw [YS hM] at hcr;have hbg:=Zq q hq;have hsl:=Ov q hq;have hSl:=UW q.p;have hn:=hq.p.notes;have e1:(some (PV.p (.agg [.lst 3 (cells (NK q)) (NK q).length,.str ⟨#[49]⟩])))=some (PV.p (Pz (NK q,1))):=by
  unfold Pz;simp only [c4f];rfl
 refine Jj.enter Tryz.func12 rfl (by kernel_rfl) (by kernel_rfl) (by simp [Tryz.ntmps12]) ?_
 repeat' (first|apply Bc.Bf|apply Ew.normal|apply Bc.to|apply Bc.block|apply Bc.skip|(apply Bc.cond_false;rfl)|(apply Aa.fn;rfl;rfl;exact hc;intro _;rfl)|(apply Aa.fn;rfl;rfl;exact hcr;intro _;rfl)|(apply Aa.fn;rfl;rfl;exact hbg;intro _;rfl)|(apply Aa.fn;rfl;rfl;exact hsl;intro _;rfl)|(apply c0j (m:=[]) (y:=[]) (NK q,1);rfl;rfl;rfl;exact e1;rfl)|refine go1 ?_|(apply b4y)|(apply Aa.int;rfl;rfl;rfl)|(apply Aa.build;rfl;rfl;rfl;rfl;rfl))
 all_goals try (exfalso;omega)
 all_goals try contradiction
 refine Bc.D6 (fun s:Nat×List (List UInt8×IU)=>[(1,.ref 0 0),(5,.mref 1),(32,.p (.lst 81 (cells (BN q.p)) (BN q.p).length)),(33,.p (.int .i64 ((BN q.p).length:Int))),(34,.p (.int .i64 (s.1:Int)))])
  (fun s=>[(0,mV q),(1,TM s.2)]) 2 (fun s=>s.1≤(BN q.p).length∧qx q s.1 s.2) (fun s=>(BN q.p).length-s.1) (0,[([],(NK q,1))]) (by decide) ⟨aq _,X7.start⟩ ⟨by decide,?_,?_⟩ ?_
 ·exact Dy
 ·exact cvJ
 rintro ⟨k,m⟩ ⟨hk,hm⟩;simp only at hk hm ⊢;have hml:=an (a0v q hm) (hP k hk);have hen:=zZ q hq hk hm;have hPk:=hP k hk;rcases ax k (BN q.p).length with hkl|hkl
 ·unfold mV
  repeat' (first|((refine Bc.at 11 ?_;refine Hold.of ?_))|apply Bc.Bf|apply Ew.normal|apply Bc.to|apply Bc.block|apply Bc.skip|(apply Bc.Aq;rfl)|(apply Aa.Ap;rfl;rfl;rfl;omega;rfl)|refine go0 ?_|(apply b4y)|(intro _;try (exfalso;omega)))
  all_goals try (exfalso;omega)
  refine Hold.go ?_;refine Bc.jB (fun b:List (List UInt8×IU)=>[(1,.ref 0 0),(7,.ref 2 0),(8,.mref 3),(32,.p (.lst 81 (cells (BN q.p)) (BN q.p).length)),(33,.p (.int .i64 ((BN q.p).length:Int))),(34,.p (.int .i64 (k:Int))),(39,.mref 1)]) (fun b=>[(0,mV q),(1,TM m),(2,slB (Nv q k)),(3,TM b)]) (fun V b=>b=Y0 q k m V∧(∀ i∈V,i<m.length)∧∀ e∈b,e.2.2≤cbd V.length) [] (Dw:=4) (b:=1) (ks:=(Jv m).map fun x=>.str (bs x.1)) (cs:=(Jv m).map (·.2)) rfl rfl (by decide) rfl ⟨rfl,(fun i h=>absurd h bl),fun e h=>absurd h bl⟩ ⟨by decide,?_,?_⟩ rfl (fun _=>⟨rfl,rfl,rfl⟩) (fun _ _ _=>rfl) (by simp) rfl (by kernel_rfl) (by kernel_rfl) (by decide) ?_ ?_
  ·exact Dy
  ·exact cvJ
  ·rintro V b i kk c ⟨hi,hV,hbl⟩ hnd hni hk' hc'
   subst hi;have hil:i<m.length:=by
    have:=(bw.1 hk').1;simpa [Jv] using this
   have hei:m[i]?=some (gi m i):=by unfold gi;rw [ai hil];rfl
   have ec:c=.p (Pz (gi m i).2):=by
    unfold Jv at hc';rw [aD,aD,hei] at hc';simpa using hc'.symm
   subst ec;have hfold:Y0 q k m (V++[i])=(wH q k (gi m i)).foldl RX (Y0 q k m V):=by
    unfold Y0;rw [bk,gP,cX,List.map_singleton,gA]
   rw [hfold];clear hfold;have hV':∀ j∈V++[i],j<m.length:=fun j hj=>by
    rcases bq.1 hj with h|h
    ·exact hV j h
    ·rw [aR] at h;omega
   have hVl:=Iz m.length V hnd hV;have hVs:(V++[i]).length=V.length+1:=by simp
   rw [hVs];have hcs:=a8d V.length;have hcl:=b5d (an hVl hml);obtain ⟨w1,w2⟩:=hen _ (EX hil);have w3:=qm q hq hkl w1;generalize Y0 q k m V=b0 at *;unfold wH;generalize (gi m i).2=v at *;obtain ⟨l,cc⟩:=v;simp only at w1 w2 w3 ⊢;have hch:=UD q hq k hkl (hM k hkl) l w3;have hwy:=fun y hy=>nR q hq hkl w3 (x:=y) hy
   have hLl:=nT q k (hM k hkl) l;generalize lH q k l=L at *;have hN:tJ q (Nv q k).notes:=Tj hkl;have hNl:(Nv q k).notes.length≤1000:=jr hq hkl;obtain ⟨G,hG⟩:∃ G:List Int→List UInt8×IU,G=fun y=>(Py (J6 q k) y,(y,cc)):=⟨_,rfl⟩
   rw [← hG];rw [hcs];generalize cbd V.length=B at *;unfold mV slB
   repeat' (first|(refine Bc.at 14 ?_;apply Bc.Qk)|(apply BX.fn;rfl;rfl;exact hch;exact PX;intro _;rfl)|apply Bc.block|apply BX.nil|apply BX.one|refine go1 ?_|fail)
   all_goals try (exfalso;omega)
   refine Bc.zB ?_;apply Ad.Jq (L.length) (fun k_=>∀ e∈((L.take k_).map G).foldl RX b0,e.2.2≤B+k_*1000000) [(1,_),(7,_),(8,_),(10,_),(32,_),(33,_),(34,_),(39,_),(49,_),(50,_)] [(0,_),(1,_),(2,_),(4,_)] (fun k_ r=>(51,.p (.int .i64 (k_:Int)))::r) (fun k_ r=>(3,TM (((L.take k_).map G).foldl RX b0))::r) 5
   ·first|omega|decide
   ·first|omega|decide
   ·exact SS
   ·exact cvK
   ·first|(intro _ _;omega)|omega|trivial
   ·intro k_ hk_ hi
    obtain ⟨y1,y2⟩:=hwy _ (EX hk_);have e1:((L.take (k_+1)).map G).foldl RX b0=RX (((L.take k_).map G).foldl RX b0) (G (gi L k_)):=by
     rw [ED hk_,bk,cX];rfl
    rw [e1];clear e1;generalize ((L.take k_).map G).foldl RX b0=mm at *;have b2e:=sV q (Nv q k) hN hNl (gi L k_) y1 y2;have hGk:G (gi L k_)=(Py (Nv q k).notes (gi L k_),(gi L k_,cc)):=by rw [hG];rfl
    rw [hGk];have hle:=b1c (c:=1000000) (d:=(Py (Nv q k).notes (gi L k_),(gi L k_,cc))) hi (by show cc≤1000000;omega);have hle:∀ e∈RX mm (Py (Nv q k).notes (gi L k_),(gi L k_,cc)),e.2.2≤B+(k_+1)*1000000:=fun e he=>by have:=hle e he;omega
    generalize Py (Nv q k).notes (gi L k_)=nn at *;have ei:RX mm (nn,(gi L k_,cc))=match BZ mm nn with|none=>Cm mm nn (gi L k_,0+cc)|some o=>Cm mm nn (o.1,o.2+cc):=rfl
    cases hl:BZ mm nn with
    |none =>
     rw [hl] at ei;simp only at ei;rw [ei] at hle ⊢;have ha:=ZM 0 cc (by omega) (by omega);rw [c1p] at ha
     repeat' (first|(apply Aa.fn;rfl;rfl;exact b2e;intro _;rfl)|(apply Aa.fn;rfl;rfl;exact ha;intro _;rfl)|(apply b5p (m:=mm) (y:=nn) hl;rfl;rfl;rfl;rfl;rfl)|(apply c1q (m:=mm) (y:=nn) (gi L k_,0+cc);rfl;rfl;rfl;rfl;rfl)|(apply Aa.Ap;rfl;rfl;rfl;omega;rfl)|refine Cb ?_|(apply Aa.int;rfl;rfl;rfl)|(apply Aa.build;rfl;rfl;rfl;rfl;rfl)|(apply Ad.AX;rfl)|(apply Ad.Ac;rfl)|(intro _;try (exfalso;omega)))
     all_goals try (exfalso;omega)
     all_goals try contradiction
     refine Aj.normal ⟨hle,by first|omega|decide,?_,?_⟩
     ·exact Dy
     ·exact cvJ
    |some o =>
     obtain ⟨ol,oc⟩:=o;have hoc:=hi _ (KQ hl);simp only at hoc;rw [hl] at ei;simp only at ei;rw [ei] at hle ⊢;have ha:=ZM oc cc (by omega) (by omega)
     repeat' (first|(apply Aa.fn;rfl;rfl;exact b2e;intro _;rfl)|(apply Aa.fn;rfl;rfl;exact ha;intro _;rfl)|(apply b5u (m:=mm) (y:=nn) hl;rfl;rfl;rfl;rfl;rfl)|(apply c1q (m:=mm) (y:=nn) (ol,oc+cc);rfl;rfl;rfl;rfl;rfl)|(apply Aa.Ap;rfl;rfl;rfl;omega;rfl)|refine Cb ?_|(apply Aa.int;rfl;rfl;rfl)|(apply Ad.Ak;rfl)|(apply Ad.Ac;rfl)|(intro _;try (exfalso;omega)))
     all_goals try (exfalso;omega)
     all_goals try contradiction
     refine Aj.normal ⟨hle,by first|omega|decide,?_,?_⟩
     ·exact Dy
     ·exact cvJ
   ·intro hi
    rw [cC] at hi ⊢
    repeat' (first|refine go2 ?_|(apply Ad.Ac;rfl)|(intro _;try (exfalso;omega)))
    all_goals try (exfalso;omega)
    refine Aj.normal ⟨_,⟨rfl,hV',fun e he=>by have:=hi e he;omega⟩,⟨by decide,?_,?_⟩⟩
    ·exact Dy
    ·exact cvJ
  ·rintro V b ⟨hi,hV,_⟩ hnd h1 h2
   subst hi;have hV2:∀ i,i∈V↔i<m.length:=fun i=>⟨hV i,fun h=>h1 i (by simpa [Jv] using h)⟩
   have hms:=wW q hq hkl hm hnd hV2;refine Ew.normal ?_;refine Bc.swap 1 3 (by decide) (by decide) (by decide) (by decide) ?_
   repeat' (first|apply Bc.region|apply Ew.normal|refine go1 ?_|fail)
   all_goals try (exfalso;omega)
   refine Aj.normal ⟨(k+1,Y0 q k m V),⟨hkl,hms⟩,by show (BN q.p).length-(k+1)<(BN q.p).length-k;omega,⟨by decide,?_,?_⟩⟩
   ·dsimp only
    exact Dy
   ·dsimp only
    repeat (first|exact BG.nil|(refine BG.cons (AY rfl) ?_ rfl ?_ ?_;(first|exact CZ _ _|exact HB.AA rfl);(first|exact JW.refl _|(rw [b2x];exact JW.refl _))))
 ·obtain rfl:k=(BN q.p).length:=by omega
  repeat' (first|((refine Bc.at 27 ?_;refine Hold.of ?_))|apply Bc.Bf|apply Ew.normal|apply Ew.exit|apply Bc.to|apply Bc.exit|(apply Bc.Aq;rfl)|refine go0 ?_|(intro _;try (exfalso;omega)))
  all_goals try (exfalso;omega)
  refine Hold.go ?_;have hsb:∀ V:List Nat,(∀ i∈V,i<m.length)→sumF (fun i=>(gi m i).2.2) V≤V.length*1000000:=fun V=>by
   induction V with
   |nil=>intro _;exact ab _
   |cons a V ih =>
    intro h;have h1:=ih fun i hi=>h i (av _ hi)
    have h2:=(hen _ (EX (h a (by simp)))).2;simp only [sumF,List.length_cons];omega
  refine Bc.jB (fun s:Nat=>[(16,.p (.str (bs (Lib.decDigits s)))),(81,.mref 1)]) (fun s=>[(1,TM m)]) (fun V s=>s=sumF (fun i=>(gi m i).2.2) V∧∀ i∈V,i<m.length) 0 (Dw:=2) (b:=1) (ks:=(Jv m).map fun x=>.str (bs x.1)) (cs:=(Jv m).map (·.2)) rfl rfl (by decide) rfl ⟨rfl,fun i h=>absurd h bl⟩ ⟨by decide,?_,?_⟩ rfl (fun _=>⟨rfl,rfl,rfl⟩) (fun _ _ _=>rfl) (by simp) rfl (by kernel_rfl) (by kernel_rfl) (by decide) ?_ ?_
  ·rw [c1p]
   exact Dy
  ·exact cvJ
  ·rintro V b i kk c ⟨hi,hV⟩ hnd hni hk' hc'
   subst hi;have hil:i<m.length:=by
    have:=(bw.1 hk').1;simpa [Jv] using this
   have hei:m[i]?=some (gi m i):=by unfold gi;rw [ai hil];rfl
   have ec:c=.p (Pz (gi m i).2):=by
    unfold Jv at hc';rw [aD,aD,hei] at hc';simpa using hc'.symm
   subst ec;have hV':∀ j∈V++[i],j<m.length:=fun j hj=>by
    rcases bq.1 hj with h|h
    ·exact hV j h
    ·rw [aR] at h;omega
   have hVl:=Iz m.length V hnd hV;have hs:=hsb V hV;have w2:=(hen _ (EX hil)).2;have hsum:sumF (fun i=>(gi m i).2.2) (V++[i])=sumF (fun i=>(gi m i).2.2) V+(gi m i).2.2:=by
    rw [L6];simp [sumF]
   rw [hsum];generalize sumF (fun i=>(gi m i).2.2) V=sv at *;generalize (gi m i).2=v at *;obtain ⟨l,cc⟩:=v;simp only at w2 ⊢;have ha:=ZM sv cc (by omega) (by omega)
   repeat' (first|apply Bc.region|apply BX.nil|apply BX.one|(apply Aa.fn;rfl;rfl;exact ha;intro _;rfl)|refine go1 ?_|fail)
   all_goals try (exfalso;omega)
   refine Aj.normal ⟨_,⟨rfl,hV'⟩,⟨by decide,?_,?_⟩⟩
   ·exact Dy
   ·exact cvJ
  ·rintro V s ⟨hi,hV⟩ hnd h1 h2
   subst hi;have hV2:∀ i,i∈V↔i<m.length:=fun i=>⟨hV i,fun h=>h1 i (by simpa [Jv] using h)⟩
   have ht:sumF (fun i=>(gi m i).2.2) V=(KN q (BN q.p).length).length:=by
    have h3:sumF (fun d:List UInt8×IU=>d.2.2) m=(KN q (BN q.p).length).length:=X7.total hm;rw [← h3,← iQ (fun d:List UInt8×IU=>d.2.2) (Xz hnd hV2),YZ]
   rw [ht];refine Ew.normal ?_
   repeat' (first|apply Bc.Bf|apply Bc.ret|refine go1 ?_|fail)
   all_goals (refine Done.rt rfl rfl ⟨?_,rfl,rfl⟩;try rfl)
end Go.Proofs.YtnjkoebfgcbbdaaGreatDoor
