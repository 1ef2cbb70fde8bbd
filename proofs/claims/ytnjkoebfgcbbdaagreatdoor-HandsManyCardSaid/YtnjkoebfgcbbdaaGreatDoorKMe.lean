/-
  Texts of a proof, merged (Vm42, PieB, PieC, PieD, PieE, PieF, OrO, PieG, OrKa, Vm43, PieH, PieI, Pop, Vm39, Vm44, HanA, PieM, OrQd, PieR, HanB, HanC, HanD, HanE, HanF, Vm35, PieK, HanG, HanH). Conditions: in each statement.
-/
import Derived.Test.YtnjkoebfgcbbdaaGreatDoorKMd
set_option linter.unusedSimpArgs false
set_option linter.unusedVariables false
set_option linter.unusedSectionVars false
set_option maxRecDepth 100000
set_option maxHeartbeats 8000000
namespace Go.Vm
open Go.Am
structure IsKey (P:Program) (t:TypeId) {α:Type} [DecidableEq α] (kf:α→List FV) (kv:α→List Value):Prop where
 val:∀ a,E8 (kf a)=some (kv a)
 agg:QY P t=true
 eq:∀ a b,DJ P (Op.equal t (.agg (kv a).toArray) (.agg (kv b).toArray))=some (decide (a=b))
 chk:∀ fl a,Vg P (Instr.checkKey fl 10000 t (.agg (kv a).toArray))=true
def Cb {α β:Type} [DecidableEq α]:List (α×β)→α→Option β
 |[],_=>none
 |x::es,a=>if a=x.1 then some x.2 else Cb es a
def Cm {α β:Type} [DecidableEq α]:List (α×β)→α→β→List (α×β)
 |[],a,b=>[(a,b)]
 |x::es,a,b=>if a=x.1 then (a,b)::es else x::Cm es a b
def EG {α β:Type} [DecidableEq α]:List (α×β)→α→Nat
 |[],_=>0
 |x::es,a=>if a=x.1 then 0 else EG es a+1
def Us {α:Type} (kf:α→List FV) (es:List (α×PV)):HB:=.IU (es.map fun x=>.agg (kf x.1)) (es.map (·.2))
theorem ML:∀ {l:List FV} {vs:List Value},E8 l=some vs→vs.all Am.plainCell=true
 |[],_,h=>by cases h;rfl
 |x::l,vs,h=>by
  simp only [E8] at h
  split at h
  ·rename_i v r h1 h2
   cases h
   rw [List.all_cons,Bool.and_eq_true]
   refine ⟨?_,ML h2⟩
   cases x<;>simp only [Zz,Option.some.injEq,reduceCtorEq] at h1<;>subst h1<;>rfl
  ·cases h
theorem Dv.zN {m:Mem} {F:Nat→Prop}:∀ {l:List FV} {vs:List Value},E8 l=some vs→Dv m F l vs
 |[],_,h=>by cases h;exact .nil
 |x::l,vs,h=>by
  simp only [E8] at h
  split at h
  ·rename_i v r h1 h2
   cases h
   refine .cons ?_ (Dv.zN h2)
   cases x<;>simp only [Zz,Option.some.injEq,reduceCtorEq] at h1<;>subst h1
   ·exact .int _ _
   ·exact .bool _
   ·exact .str _
  ·cases h
theorem UH:∀ {l:List FV} {vs:List Value},E8 l=some vs→∀ x∈vs,∀ n,Instr.sameBits (n+1) x x=true
 |[],_,h=>by cases h;intro x hx;cases hx
 |x::l,vs,h=>by
  simp only [E8] at h
  split at h
  ·rename_i v r h1 h2
   cases h
   intro y hy n
   rcases List.mem_cons.1 hy with rfl|hy
   ·cases x<;>simp only [Zz,Option.some.injEq,reduceCtorEq] at h1<;>subst h1<;>simp [Instr.sameBits,LC]
   ·exact UH h2 y hy n
  ·cases h
def a1o:TypeDesc→Bool
 | .int _=>true
 | .bool=>true
 | .string=>true
 |_=>false
def dD (P:Program):List Field→Array Value→Bool
 |[],_=>true
 |f::fs,xs=>(match GI P f.type,P.underlying f.type,xs[f.offset]? with|some false,some d,some _=>a1o d|_,_,_=>false)&&dD P fs xs
theorem YE {P:Program} {fl:Bool} {n:Nat} (xs:Array Value):∀ (fs:List Field),dD P fs xs=true→DJ P (forIn fs PUnit.unit fun f _=>(do
 if f.name≠"_" then do
  let x ← part f.type xs f.offset
  Instr.checkKey fl (n+1) f.type x
  pure (ForInStep.yield PUnit.unit)
 else pure (ForInStep.yield PUnit.unit):Sem (ForInStep PUnit)))=some PUnit.unit
 |[],_=>rfl
 |f::fs,h=>by
  simp only [dD,Bool.and_eq_true] at h
  obtain ⟨h1,h2⟩:=h
  have ih:=YE (P:=P) (fl:=fl) (n:=n) xs fs h2
  split at h1
  ·rename_i d v e1 e2 e3
   rw [List.forIn_cons,Ar]
   by_cases hn:f.name≠"_"
   ·rw [if_pos hn]
    have hck:DJ P (Instr.checkKey fl (n+1) f.type v)=some ():=by
     rw [Instr.checkKey]
     simp only [Ar,Bg,e2,Option.bind_some]
     cases d<;>first|rfl|cases h1
    simp only [Ar,ER e1 e3,Option.bind_some,hck,BR]
    exact ih
   ·rw [if_neg hn]
    simp only [BR,Option.bind_some]
    exact ih
  ·cases h1
section
variable {P:Program} {α:Type} [DecidableEq α] {kf:α→List FV} {kv:α→List Value} {t:TypeId}
theorem IsKey.rel (h:IsKey P t kf kv) {m:Mem} {F:Nat→Prop} {a:α} {v:Value} (r:RF m F (.agg (kf a)) v):v=.agg (kv a).toArray:=by
 cases r with
 |agg r hc=>rw [(Nk r (h.val a)).1]
theorem IsKey.of (h:IsKey P t kf kv) {m:Mem} {F:Nat→Prop} (a:α):RF m F (.agg (kf a)) (.agg (kv a).toArray) :=
 .agg (Dv.zN (h.val a)) (Dj (ML (h.val a)))
theorem IsKey.plain (h:IsKey P t kf kv) (a:α):Am.plain (.agg (kv a).toArray)=true:=by
 show Am.FC (.agg (kv a).toArray)=true
 simpa [Am.FC] using ML (h.val a)
theorem IsKey.bits (h:IsKey P t kf kv) (a:α):Instr.sameBits 10000 (.agg (kv a).toArray) (.agg (kv a).toArray)=true:=by
 have hv:=UH (h.val a)
 generalize kv a=vs at hv
 show (decide _&&_)=true
 simp only [List.size_toArray,Bool.and_eq_true]
 refine ⟨by simp,?_⟩
 rw [List.all_eq_true]
 rintro ⟨x,y⟩ hxy
 have hz:∀ (l:List Value),(x,y)∈l.zip l→x=y∧x∈l:=by
  intro l
  induction l with
  |nil=>intro h;cases h
  |cons b l ih =>
   intro h
   rcases List.mem_cons.1 h with h|h
   ·cases h;exact ⟨rfl,by simp⟩
   ·obtain ⟨e,m⟩:=ih h
    exact ⟨e,List.mem_cons_of_mem _ m⟩
 obtain ⟨e,m⟩:=hz vs hxy
 subst e
 exact hv x m 9998
theorem IsKey.of_struct {fs:Array Field} (hu:P.underlying t=some (.struct fs)) (hp:P.stoodInHeld t=false) (hv:∀ a,E8 (kf a)=some (kv a)) (he:∀ a b,aO P fs.toList (kv a).toArray (kv b).toArray=some (decide (a=b))) (hc:∀ a,dD P fs.toList (kv a).toArray=true):IsKey P t kf kv where
 val:=hv
 agg:=by unfold QY;rw [hu]
 eq a b:=MI (d:=9998) hu hp (he a b)
 chk fl a:=by
  have:DJ P (Instr.checkKey fl 10000 t (.agg (kv a).toArray))=some ():=by
   rw [Instr.checkKey]
   simp only [Ar,Bg,hu,Option.bind_some]
   rw [← Array.forIn_toList,YE (n:=9998) _ _ (hc a)]
   rfl
  unfold Vg
  rw [this]
theorem eF (h:IsKey P t kf kv) {m:Mem} {F:Nat→Prop}:∀ {es:List (α×PV)} {ks:List Value},Dv m F (es.map fun x=>.agg (kf x.1)) ks→ks=es.map fun x=>.agg (kv x.1).toArray
 |[],_,r=>by cases r;rfl
 |x::es,_,r=>by
  cases r with
  |cons r1 r2=>rw [h.rel r1,eF h r2];rfl
theorem oD (h:IsKey P t kf kv) {m:Mem} {F:Nat→Prop} {T:Nat→Option Tg} {σ:Nat→Value} {n:Nat} (a:α):∀ {es:List (α×PV)} {l:List MapEntry},l.map (·.key)=es.map (fun x=>.agg (kv x.1).toArray)→Dx m F T σ n (es.map (·.2)) (l.map (·.val))→∀ (i:Nat),
 (Cb es a=none→DJ P (Instr.findAsking t (.agg (kv a).toArray) l i)=some none∧EG es a=es.length∧∀ b,Cm es a b=es++[(a,b)]) ∧
 (∀ c,Cb es a=some c→∃ j v,DJ P (Instr.findAsking t (.agg (kv a).toArray) l i)=some (some (i+j,v))∧RP m F T σ n c v∧(∃ e,l[j]?=some e∧e.key=.agg (kv a).toArray∧e.val=v)∧EG es a=j∧∀ b,Cm es a b=es.set j (a,b))
 |[],[],_,_,i=>⟨fun _=>⟨rfl,rfl,fun _=>rfl⟩,fun v hv=>by cases hv⟩
 |[],y::l,h1,_,_=>by cases h1
 |x::es,[],h1,_,_=>by cases h1
 |x::es,y::l,h1,h2,i=>by
  simp only [List.map_cons,List.cons.injEq] at h1 h2
  cases h2 with
  |cons r1 r2 =>
   obtain ⟨i1,i2⟩:=oD h a h1.2 r2 (i+1)
   rw [Instr.findAsking,h1.1]
   simp only [Ar,h.eq,Option.bind_some]
   unfold Cb Cm EG
   by_cases hc:a=x.1
   ·rw [if_pos hc,decide_eq_true hc]
    refine ⟨fun h=>(by cases h),fun v hv=>⟨0,y.val,?_,?_,⟨y,rfl,by rw [h1.1,hc],rfl⟩,by rw [if_pos hc],fun b=>?_⟩⟩
    ·rfl
    ·cases hv;exact r1
    ·rw [if_pos hc];rfl
   ·rw [if_neg hc,decide_eq_false hc]
    refine ⟨fun hn=>?_,fun c hv=>?_⟩
    ·obtain ⟨j1,j0,j2⟩:=i1 hn
     exact ⟨j1,by rw [if_neg hc,j0];rfl,fun b=>by rw [if_neg hc,j2 b];rfl⟩
    ·obtain ⟨j,v,j1,j2,j3,j0,j4⟩:=i2 c hv
     refine ⟨j+1,v,?_,j2,j3,by rw [if_neg hc,j0],fun b=>by rw [if_neg hc,j4 b];rfl⟩
     rw [show i+(j+1)=i+1+j by omega]
     exact j1
theorem WU (h:IsKey P t kf kv) (fl:Bool) (a:α) (l:List MapEntry):Hu P fl t (.agg (kv a).toArray) l=DJ P (Instr.findAsking t (.agg (kv a).toArray) l 0):=by
 have hg:=h.agg
 obtain ⟨d,hu,hd⟩:=Y2 h.agg
 have hk:Ec P t=none:=by
  unfold QY at hg
  unfold Ec
  rw [hu] at hg ⊢
  cases d<;>first|rfl|cases hg
 unfold Hu
 rw [hk,hg,h.chk fl a]
 simp only [Bool.and_self,if_true,Instr.findKey,Ar,Bg,hu,Option.bind_some]
 cases l with
 |nil=>rfl
 |cons x l =>
  unfold Instr.findNow
  rw [hd]
variable {E:Env} {L:Vm.Frame} {H:Vm.Heap} {nx:Nat} {Q:PV→Vm.Heap→Nat→Prop} {w:Bool} {dst:Option Tmp} {ty:TypeId} {pos:String} {af:Array Edge} {gd:Option (Nat×Bool)}
theorem gy {Γ:Nat→Option (List Value×TypeId)} {m:Mem} {F:Nat→Prop} {σ:Nat→Value} {tt:Tr Value} {a:α} {o:Operand} (h:IsKey P t kf kv) (hx:Ctx Γ m F σ H nx) (hl:RL m F (htag H) σ nx L tt) (hv:Bh Γ L o=some (.p (.agg (kf a)))):ev tt o=.agg (kv a).toArray:=by
 have:=BK hx hl hv
 generalize ev tt o=v at this
 cases this with
 |p r=>exact h.rel r
theorem Iy {Γ:Nat→Option (List Value×TypeId)} {m:Mem} {F:Nat→Prop} {σ:Nat→Value} {t:Tr Value} {b:Nat} {o:Operand} {ks:List FV} {cs:List PV} (hx:Ctx Γ m F σ H nx) (hl:RL m F (htag H) σ nx L t) (h:Bh Γ L o=some (.mref b)) (hb:hget H b=some (.IU ks cs)):ev t o=σ b:=by
 have:=BK hx hl h
 generalize ev t o=v at this
 cases this with
 |mref _ _ h3=>exact h3 (by simp [htag,hb,HB.tag])
theorem Aa.Yy {t:TypeId} (q:Q (.mref nx) ((nx,.IU [] [])::H) (nx+1)):Aa E w ⟨dst,.makeMap t none,ty,pos,af,gd⟩ L H nx Q:=by
 intro m F σ tt h1 h2
 obtain ⟨c1,c2,c3⟩:=h1.new (m':=m.alloc (.map [] 0)) (x:=.IU [] []) (s:=.map (some m.size)) (by simp [Mem.alloc]) (fun c hc=>by rw [Mem.Bv,if_neg (by omega)]) (by simp only [Mem.alloc];omega) (fun c hc=>by simp only [Dl,Option.some.injEq] at hc;omega)
  ⟨m.size,[],0,rfl,by simp [Mem.alloc],fun hf=>Nat.lt_irrefl _ (h1.fr _ hf),by rw [Mem.Bv,if_pos rfl],.nil,.nil,rfl,rfl⟩
 exact F5.op (v:=.map (some m.size)) (fun _=>rfl) ⟨_,_,_,F,_,q,c1,.mref (Nat.lt_succ_self _) rfl fun _=>(upd_same _ _ _).symm,c2,fun _=>c3⟩
theorem J5 {α:Type} {g:α→α} {e:α}:∀ {l:List α} {j:Nat},l[j]?=some e→l.modify j g=l.set j (g e)
 |[],j,h=>by simp at h
 |a::l,0,h=>by simp at h;subst h;rfl
 |a::l,j+1,h=>by
  rw [List.modify_succ_cons,List.set_cons_succ,J5 (by simpa using h)]
theorem Stamped.push {l:List MapEntry} {clock:Nat} {k v:Value} (h:Stamped l clock):Stamped (l++[{ key:=k,val:=v,born:=clock }]) (clock+1):=by
 obtain ⟨h1,h2⟩:=h
 subst h2
 refine ⟨?_,by simp⟩
 rw [List.map_append,h1,List.length_append,List.length_singleton,List.range_succ]
 rfl
theorem Stamped.modify {l:List MapEntry} {clock i:Nat} {f:MapEntry→MapEntry} (h:Stamped l clock) (hf:∀ e,(f e).born=e.born):Stamped (l.modify i f) clock:=by
 obtain ⟨h1,h2⟩:=h
 refine ⟨?_,by rw [List.length_modify];exact h2⟩
 rw [List.length_modify,← h1]
 apply List.ext_getElem?
 intro j
 simp only [List.getElem?_map,List.getElem?_modify]
 cases l[j]? with
 |none=>rfl
 |some e =>
  simp only [Option.map_some]
  split<;>simp [hf]
theorem Stamped.at {l:List MapEntry} {clock i:Nat} {e:MapEntry} (h:Stamped l clock) (he:l[i]?=some e):e.born=i:=by
 have h1:(l.map (·.born))[i]?=some e.born:=by rw [List.getElem?_map,he];rfl
 rw [h.1] at h1
 obtain ⟨hi,h2⟩:=List.getElem?_eq_some_iff.1 h1
 simpa using h2.symm
theorem Stamped.find {l:List MapEntry} {clock i:Nat} (h:Stamped l clock) (hi:i<l.length):l.findIdx? (fun e=>(e.born:Int)==(i:Int))=some i:=by
 rw [List.findIdx?_eq_some_iff_getElem]
 refine ⟨hi,?_,fun j hj=>?_⟩
 ·rw [h.at (List.getElem?_eq_getElem hi)];simp
 ·rw [h.at (List.getElem?_eq_getElem (by omega:j<l.length))]
  simp;omega
theorem ZU {β:Type}:∀ {es:List (α×β)} {a:α},EG es a≤es.length∧(EG es a<es.length↔(Cb es a).isSome)
 |[],_=>⟨Nat.le_refl _,by simp [EG,Cb]⟩
 |x::es,a=>by
  obtain ⟨h1,h2⟩:=ZU (es:=es) (a:=a)
  unfold EG Cb
  by_cases h:a=x.1
  ·rw [if_pos h,if_pos h];exact ⟨Nat.zero_le _,by simp⟩
  ·rw [if_neg h,if_neg h]
   simp only [List.length_cons]
   exact ⟨by omega,by rw [← h2];omega⟩
theorem lC {β:Type}:∀ {es:List (α×β)} {a:α} {b:β},EG es a<(Cm es a b).length
 |[],a,b=>by simp [EG,Cm]
 |x::es,a,b=>by
  unfold EG Cm
  by_cases h:a=x.1
  ·rw [if_pos h,if_pos h];simp
  ·rw [if_neg h,if_neg h]
   have:=lC (es:=es) (a:=a) (b:=b)
   simp only [List.length_cons];omega
theorem Y0 {β:Type}:∀ {es:List (α×β)} {a:α} {b c:β},(Cm es a b).set (EG es a) (a,c)=Cm es a c
 |[],a,b,c=>by simp [EG,Cm]
 |x::es,a,b,c=>by
  unfold EG Cm
  by_cases h:a=x.1
  ·rw [if_pos h,if_pos h,if_pos h];rfl
  ·rw [if_neg h,if_neg h,if_neg h,List.set_cons_succ,Y0]
theorem Ti {β:Type}:∀ {es:List (α×β)} {a:α} {c:β},((Cm es a c)[EG es a]?).map (·.1)=some a
 |[],a,c=>by simp [EG,Cm]
 |x::es,a,c=>by
  unfold EG Cm
  by_cases e:a=x.1
  ·rw [if_pos e,if_pos e];simp
  ·rw [if_neg e,if_neg e,List.getElem?_cons_succ,Ti]
def JX (E:Env) (H:Vm.Heap) (nx:Nat) (es:List (α×PV)) (a:α) (z:Value) (c:PV):Prop :=
 Cb es a=some c∨Cb es a=none∧∀ m F σ,Ctx E.Γ m F σ H nx→RP m F (htag H) σ nx c z
theorem JX.a8b {es:List (α×PV)} {a:α} {b:Nat} {e:TypeId} (h:Cb es a=none) (hb:hget H b=some (.vec e [] 0 true)):JX E H nx es a Dh (.vec b 0 0 0) :=
 .inr ⟨h,fun _ _ _ c=>xU c hb⟩
theorem JX.const {es:List (α×PV)} {a:α} {z:Value} {zp:PV} (h:Cb es a=none) (hz:WL z=some zp):JX E H nx es a z zp :=
 .inr ⟨h,fun _ _ _ _=>U3 hz⟩
theorem Aa.rZ {t kt et:TypeId} {x k:Operand} {b:Nat} {es:List (α×PV)} {a:α} {z:Value} {c:PV} (hkt:IsKey E.P kt kf kv) (hx:Bh E.Γ L x=some (.mref b)) (hb:hget H b=some (Us kf es)) (hk:Bh E.Γ L k=some (.p (.agg (kf a))))
 (ht:E.P.underlying t=some (.map kt et)) (hz:zeroOf E.P et=some z) (hzp:Am.plain z=true) (hv:JX E H nx es a z c) (q:Q c H nx):Aa E w ⟨dst,.lookup t x k false,ty,pos,af,gd⟩ L H nx Q :=
 Aa.quiet q fun m F σ tt c1 c2=>by
  obtain ⟨_,r,l,clock,r1,r2,r3,r4,r5,r6,r7⟩:=c1.hp b _ hb
  have e1:=eF hkt r5
  obtain ⟨f1,f2⟩:=oD hkt a e1 r6 0
  have hpl:(Am.plain z&&Am.plain (.agg (kv a).toArray))=true:=by rw [hzp,hkt.plain];rfl
  rcases hv with hv|⟨hv,hc⟩
  ·obtain ⟨j,u,f3,f4,_⟩:=f2 c hv
   refine ⟨u,fun _=>?_,f4⟩
   simp only [Ce,EX,KR,ht,hz,Iy c1 c2 hx hb,gy hkt c1 c2 hk,r1,r4,hpl,if_true,WU hkt,f3,Option.map_some,Bool.false_eq_true,if_false]
  ·have f3:=(f1 hv).1
   refine ⟨z,fun _=>?_,hc m F σ c1⟩
   simp only [Ce,EX,KR,ht,hz,Iy c1 c2 hx hb,gy hkt c1 c2 hk,r1,r4,hpl,if_true,WU hkt,f3,Option.map_some,Bool.false_eq_true,if_false]
theorem Dx.snoc {m:Mem} {F:Nat→Prop} {T:Nat→Option Tg} {σ:Nat→Value} {n:Nat}:∀ {cs:List PV} {vs:List Value} {c:PV} {v:Value},Dx m F T σ n cs vs→RP m F T σ n c v→Dx m F T σ n (cs++[c]) (vs++[v])
 |_,_,_,_,.nil,h=>.cons h .nil
 |_,_,_,_,.cons a t,h=>.cons a (Dx.snoc t h)
theorem qV {t:TypeId} (hkt:IsKey P t kf kv) {m:Mem} {F:Nat→Prop}:∀ (es:List (α×PV)),Dv m F (es.map fun x=>.agg (kf x.1)) (es.map fun x=>.agg (kv x.1).toArray)
 |[]=>.nil
 |x::l=>.cons (hkt.of x.1) (qV hkt l)
theorem OA {m:Mem} {F:Nat→Prop} {σ:Nat→Value} {kt:TypeId} {b r:Nat} {es es':List (α×PV)} {l':List MapEntry} {clock':Nat} (hkt:IsKey P kt kf kv) {Γ:Nat→Option (List Value×TypeId)} (c1:Ctx Γ m F σ H nx) (hb:hget H b=some (Us kf es)) (r1:σ b=.map (some r)) (r2:r<m.size) (r3:¬ F r)
 (k1:l'.map (·.key)=es'.map (fun x=>.agg (kv x.1).toArray)) (k2:Dx m F (htag H) σ nx (es'.map (·.2)) (l'.map (·.val))) (k3:Stamped l' clock') :
 Ctx Γ (m.put r (.map l' clock')) F σ (hput H b (Us kf es')) nx∧Step m F σ H nx (m.put r (.map l' clock')) F σ (hput H b (Us kf es')) nx:=by
 have hput':∀ d' x,r≠d'→(m.put r x).get d'=m.get d':=fun d' x hd=>by rw [Mem.get_put,if_neg hd]
 have:=c1.change (m':=m.put r (.map l' clock')) (x':=Us kf es') (s':=σ b) hb trivial (fun _=>rfl) (Nat.le_refl _)
  (fun d' _ hd=>hput' d' _ fun e=>hd (by rw [r1,e];rfl)) (fun k k1 k2 k3=>by
   have:=k3 r (by rw [r1];rfl)
   simp only [Mem.put];omega) (fun d' hd=>.inl hd) (by
   have hF:∀ d',F d'→F d'∧(m.put r (.map l' clock')).get d'=m.get d':=fun d' hd=>⟨hd,hput' d' _ fun e=>r3 (e▸hd)⟩
   refine ⟨r,l',clock',r1,r2,r3,by rw [Mem.get_put,if_pos rfl],?_,?_,k3⟩
   ·rw [k1]
    exact qV hkt es'
   ·exact k2.mono hF (Gt (x':=Us kf es') hb trivial fun _=>rfl) (Nat.le_refl _))
 rw [yR] at this
 exact this
theorem Aa.a8u {t kt et:TypeId} {x k:Operand} {b:Nat} {es:List (α×PV)} {a:α} {c:PV} {z:Value} (hkt:IsKey E.P kt kf kv) (hx:Bh E.Γ L x=some (.mref b)) (hb:hget H b=some (Us kf es)) (hk:Bh E.Γ L k=some (.p (.agg (kf a))))
 (ht:E.P.underlying t=some (.map kt et)) (hz:zeroOf E.P et=some z) (hzp:Am.plain z=true) (hv:JX E H nx es a z c) {H':Vm.Heap} (hH:hput H b (Us kf (Cm es a c))=H') (q:Q (.Ee [c,.p (.int .i64 (EG es a:Nat))]) H' nx):Aa E true ⟨dst,.mapEntry t x k,ty,pos,af,gd⟩ L H nx Q:=by
 subst hH
 intro m F σ tt c1 c2
 obtain ⟨_,r,l,clock,r1,r2,r3,r4,r5,r6,r7⟩:=c1.hp b _ hb
 have e1:=eF hkt r5
 obtain ⟨f1,f2⟩:=oD hkt a e1 r6 0
 have hup:QD E.P t (ev tt x) (ev tt k) m=match Hu E.P false kt (.agg (kv a).toArray) l with
  |some (some (i,v))=>if (Ec E.P kt).isSome||Instr.sameBits 10000 (((l[i]?).map (·.key)).getD (.agg (kv a).toArray)) (.agg (kv a).toArray) then some (.tuple #[v,.int .i64 ((((l[i]?).map (·.born)).getD 0:Nat):Int)],m.put r (.map (l.modify i fun e=>{ e with key:=.agg (kv a).toArray }) clock)) else none
  |some none=>some (.tuple #[z,.int .i64 ((clock:Nat):Int)],m.put r (.map (l++[{ key:=.agg (kv a).toArray,val:=z,born:=clock }]) (clock+1)))
  |none=>none:=by
  unfold QD
  simp only [ht,Iy c1 c2 hx hb,gy hkt c1 c2 hk,r1,r4,hkt.plain,if_true,hz,hzp]
  rfl
 rw [WU hkt] at hup
 have hlen:l.length=es.length:=by
  have:=congrArg List.length e1
  simpa using this
 rcases hv with hl|⟨hl,hc⟩
 ·obtain ⟨j,u,f3,f4,⟨e0,f5,f5',f5''⟩,f7,f6⟩:=f2 c hl
  rw [Nat.zero_add] at f3
  rw [f3] at hup
  simp only [f5,Option.map_some,Option.getD_some,f5',hkt.bits,Bool.or_true,if_true,r7.at f5] at hup
  have hmod:∀ (g:MapEntry→MapEntry),l.modify j g=l.set j (g e0):=fun g=>J5 f5
  obtain ⟨d1,d2⟩:=OA hkt c1 hb r1 r2 r3 (es':=Cm es a c) (l':=l.modify j fun e=>{ e with key:=.agg (kv a).toArray }) (by rw [hmod,f6 c,List.map_set,List.map_set,e1]) (by rw [hmod,f6 c,List.map_set,List.map_set];exact r6.set j (by rw [f5''];exact f4)) (r7.modify fun _=>rfl)
  refine F5.op (v:=.tuple #[u,.int .i64 ((j:Nat):Int)]) (fun _=>by simp only [Ce,EX,hup]) ⟨_,_,_,F,_,q,d1,?_,d2,fun h=>by cases h⟩
  rw [f7]
  exact .Ee (.cons (f4.step d2 c1) (.cons (.p (.int _ _)) .nil))
 ·obtain ⟨f3,f7,f4⟩:=f1 hl
  rw [f3] at hup
  simp only at hup
  have hcz:=hc m F σ c1
  obtain ⟨d1,d2⟩:=OA hkt c1 hb r1 r2 r3 (es':=Cm es a c) (l':=l++[{ key:=.agg (kv a).toArray,val:=z,born:=clock }]) (clock':=clock+1) (by rw [f4 c,List.map_append,List.map_append,e1];rfl) (by rw [f4 c,List.map_append,List.map_append];exact Dx.snoc r6 hcz) r7.push
  refine F5.op (v:=.tuple #[z,.int .i64 ((clock:Nat):Int)]) (fun _=>by simp only [Ce,EX,hup]) ⟨_,_,_,F,_,q,d1,?_,d2,fun h=>by cases h⟩
  rw [f7,← hlen,← r7.2]
  exact .Ee (.cons (hcz.step d2 c1) (.cons (.p (.int _ _)) .nil))
theorem Aa.vC {t kt:TypeId} {x k y:Operand} {b:Nat} {es:List (α×PV)} {a:α} {c0 c:PV} (hkt:IsKey E.P kt kf kv) (hx:Bh E.Γ L x=some (.mref b)) (hb:hget H b=some (Us kf (Cm es a c0))) (hk:Bh E.Γ L k=some (.p (.int .i64 (EG es a:Nat)))) (hy:Bh E.Γ L y=some c)
 {H':Vm.Heap} (hH:hput H b (Us kf (Cm es a c))=H') (q:Q (.Ee []) H' nx):Aa E true ⟨dst,.entryStore t x k y,ty,pos,af,gd⟩ L H nx Q:=by
 subst hH
 intro m F σ tt c1 c2
 obtain ⟨_,r,l,clock,r1,r2,r3,r4,r5,r6,r7⟩:=c1.hp b _ hb
 have e1:=eF hkt r5
 have hyv:=BK c1 c2 hy
 have hkv:ev tt k=.int .i64 ((EG es a:Nat):Int):=b3f c1 c2 hk
 have hlen:l.length=(Cm es a c0).length:=by
  have:=congrArg List.length e1
  simpa using this
 have hi:EG es a<l.length:=by rw [hlen];exact lC
 have hmod:∀ (g:MapEntry→MapEntry),l.modify (EG es a) g=l.set (EG es a) (g l[EG es a]):=fun g=>J5 (List.getElem?_eq_getElem hi)
 obtain ⟨d1,d2⟩:=OA hkt c1 hb r1 r2 r3 (es':=Cm es a c) (l':=l.modify (EG es a) fun e=>{ e with val:=ev tt y }) (by
  rw [hmod,List.map_set,← Y0 (b:=c0),List.map_set]
  have hkey:l[EG es a].key=.agg (kv a).toArray:=by
   have h1:(l.map (·.key))[EG es a]?=some l[EG es a].key:=by rw [List.getElem?_map,List.getElem?_eq_getElem hi];rfl
   rw [e1,List.getElem?_map] at h1
   have h2:=Ti (es:=es) (a:=a) (c:=c0)
   cases h3:(Cm es a c0)[EG es a]? with
   |none=>rw [h3] at h2;cases h2
   |some p =>
    rw [h3] at h1 h2
    simp only [Option.map_some,Option.some.injEq] at h1 h2
    rw [← h1,h2]
  rw [e1]
  congr 1) (by
  rw [hmod,List.map_set,← Y0 (b:=c0),List.map_set]
  exact r6.set _ hyv) (r7.modify fun _=>rfl)
 exact F5.op (v:=undef) (fun _=>by simp only [Ce,EX,Hg,Iy c1 c2 hx hb,hkv,r1,r4,r7.find hi,Option.map_some]) ⟨_,_,_,F,_,q,d1,.Ee .nil,d2,fun h=>by cases h⟩
theorem Aa.yG {α:Type} {_:Enc α} {l:List α} {a:α} {s x:Operand} {sT xT e e2:TypeId} {xd:TypeDesc} {i:TypeInfo} {b b2 n:Nat} {xs:List FV} {z z2:Bool} (hs:Bh E.Γ L s=some (.vec b n 0 n)) (hb:hget H b=some (.vec e (cells l) n z))
 (hx:Bh E.Γ L x=some (.vec b2 1 0 1)) (hb2:hget H b2=some (.vec e2 xs 1 z2)) (hxs:xs=Enc.enc a) (hn:l.length=n) (qQ:E.P.underlying sT=some (.slice e)) (hxT:E.P.underlying xT=some xd) (hd:∀ k,xd≠.int k) (hi:E.P.info? e=some i)
 (hsz:Enc.size α=i.size) (hzs:Eb i=true) (h0:0<i.size) (hby:i.bytes<1000000) (hlen:l.length<1000000) {H':Vm.Heap} (hH:hput H b (.vec e (cells (l++[a])) (l.length+1) z)=H') (q:Q (.vec b (l.length+1) 0 (l.length+1)) H' nx) :
 Aa E true ⟨dst,.call { callee:=.builtin .append,args:=#[s,x],argTypes:=#[sT,xT] },ty,pos,af,gd⟩ L H nx Q:=by
 subst hH
 exact Aa.MO hs hb hx hb2 hxs hn qQ hxT hd hi hsz hzs h0 hby hlen q
end
end Go.Vm
namespace Go.Proofs.YtnjkoebfgcbbdaaGreatDoor
section
open Go Go.Am Go.Vm Go.Pie
attribute [local irreducible] Aa Ad Af Ac Ba AB BG Au Ap Ah Vm.Done BQ AY
attribute [local irreducible] CV Bq Eh DY Ez BH
theorem vY (l:List Int) (hl:l.length<1000000):AB env 79 [.lst 3 (cells l) l.length] (.p (.int .i64 (Qn l))):=by
 obtain ⟨E,hE⟩:∃ E,E=V3 l 0:=⟨_,rfl⟩
 unfold Qn
 rw [← hE]
 refine AB.enter (Aj (by decide)) Tryz.func79 rfl (by kernel_rfl) (by simp [Tryz.ntmps79]) ?_
 by_cases c1:l.length<2
 ·rw [if_pos c1]
  repeat' (first|apply Ac.Ak|apply Ac.Ag|apply Au.ret|apply Ap.ret|apply Ac.ret|apply Ad.nil|apply Ad.one|(apply Aa.assign;rfl)|(apply Aa.move;rfl)|(apply Aa.int;rfl;rfl;rfl)|(apply Aa.CX;rfl;rfl)|(apply Ac.AZ;rfl)|(intro _;try (exfalso;omega)))
  all_goals first|(exfalso;omega)|(refine Done.rt rfl rfl ⟨?_,rfl,rfl⟩;try rfl)
 rw [if_neg c1]
 by_cases c2:l.length>201
 ·rw [if_pos c2]
  repeat' (first|apply Ac.Ak|apply Ac.Ag|apply Au.ret|apply Ap.ret|apply Ac.ret|apply Ad.nil|apply Ad.one|(apply Aa.assign;rfl)|(apply Aa.move;rfl)|(apply Aa.int;rfl;rfl;rfl)|(apply Aa.CX;rfl;rfl)|(apply Ac.AZ;rfl)|(intro _;try (exfalso;omega)))
  all_goals first|(exfalso;omega)|(refine Done.rt rfl rfl ⟨?_,rfl,rfl⟩;try rfl)
 rw [if_neg c2]
 repeat' (first|apply Ac.assoc|apply Ac.Ak|apply Ac.Ag|apply Au.normal|apply Ap.normal|apply Ac.skip|apply Ad.nil|apply Ad.one|(apply Aa.assign;rfl)|(apply Aa.move;rfl)|(apply Aa.int;rfl;rfl;rfl)|(apply Aa.CX;rfl;rfl)|(apply Ac.AZ;rfl)|(intro _;try (exfalso;omega)))
 all_goals try (exfalso;omega)
 apply Ac.G9 (l.length) (fun k=>V3 l k=E) [(0,_),(2,_),(13,_),(14,_)] [] (fun k r=>(15,.p (.int .i64 (k:Int)))::r) (fun k r=>r) 0
 ·first|omega|decide
 ·first|omega|decide
 ·exact Rz
 ·exact VZ
 ·first|(intro _ _;omega)|omega|trivial
 ·intro k hk hi
  have e:=bK hk
  have hk1:((k:Int)-1).toNat=k-1:=by omega
  have hkc:0<k→(k:Int)-1=((k-1:Nat):Int):=fun h=>by omega
  by_cases h1:gi l k<0∨gi l k>100000
  ·rw [if_pos h1] at e
   rw [← hi,e]
   repeat' (first|apply Ac.Ak|apply Ac.Ai|apply Ac.Ag|apply Au.ret|apply Ap.ret|apply Ah.ret|apply Ac.ret|apply Ac.NI|apply Ad.nil|apply Ad.one|(apply Ad.take;rfl;rfl)|(apply Ad.drop;rfl;rfl;rfl)|(apply Ad.guard;rfl;rfl)|(apply Aa.assign;rfl)|(apply Aa.move;rfl)|(apply Aa.int;rfl;rfl;rfl)|(apply Aa.AP;rfl;rfl;rfl;omega;rfl)|(apply Aa.load;rfl;rfl)|(apply Aa.Bc;rfl;rfl)|(apply Aa.AL;rfl;rfl)|(apply Ac.Ae;rfl)|(apply Ac.cond_true;rfl)|(apply Ac.AZ;rfl)|(intro _;try (exfalso;omega)))
   all_goals first|(exfalso;omega)|(refine Done.rt rfl rfl ⟨?_,rfl,rfl⟩;try rfl)
  rw [if_neg h1] at e
  by_cases h2:0<k∧gi l k≤gi l (k-1)
  ·rw [if_pos h2] at e
   rw [← hi,e]
   repeat' (first|apply Ac.Ak|apply Ac.Ai|apply Ac.Ag|apply Au.ret|apply Ap.ret|apply Ah.ret|apply Ac.ret|apply Ac.NI|apply Ad.nil|apply Ad.one|(apply Ad.take;rfl;rfl)|(apply Ad.guard;rfl;rfl)|(apply Aa.AP (l:=l) (i:=k-1);rfl;exact congrArg (fun b=>some (PV.p (.int .i64 b))) (hkc h2.1);rfl;omega;rfl)|(apply Aa.assign;rfl)|(apply Aa.move;rfl)|(apply Aa.Jv;rfl;rfl;omega)|(apply Aa.int;rfl;rfl;rfl)|(apply Aa.AP;rfl;rfl;rfl;omega;rfl)|(apply Aa.load;rfl;rfl)|(apply Aa.Bc;rfl;rfl)|(apply Aa.AL;rfl;rfl)|(apply Ac.Ae;rfl)|(apply Ac.AZ;rfl)|(intro _;try (exfalso;omega)))
   all_goals first|(exfalso;omega)|(refine Done.rt rfl rfl ⟨?_,rfl,rfl⟩;try rfl)
  rw [if_neg h2] at e
  by_cases h0:k=0
  ·repeat' (first|apply Ac.Ak|apply Ac.region|apply Ac.Ai|apply Ac.Ag|apply Au.normal|apply Ap.normal|apply Ac.skip|apply Ac.NI|apply Ad.nil|apply Ad.one|(apply Ad.take;rfl;rfl)|(apply Ad.drop;rfl;rfl;rfl)|(apply Ad.guard;rfl;rfl)|(apply Aa.assign;rfl)|(apply Aa.move;rfl)|(apply Aa.BU;rfl;rfl;omega)|(apply Aa.int;rfl;rfl;rfl)|(apply Aa.AP;rfl;rfl;rfl;omega;rfl)|(apply Aa.load;rfl;rfl)|(apply Aa.AL;rfl;rfl)|(apply Ac.Ae;rfl)|(apply Ac.cond_false;rfl)|(apply Ac.AZ;rfl)|(intro _;try (exfalso;omega)))
   all_goals try (exfalso;omega)
   refine Ah.normal ⟨(e.symm.trans hi),by first|omega|decide,?_,?_⟩
   ·exact EJ
   ·exact FM
  ·repeat' (first|apply Ac.Ak|apply Ac.region|apply Ac.Ai|apply Ac.Ag|apply Au.normal|apply Ap.normal|apply Ac.skip|apply Ac.NI|apply Ad.nil|apply Ad.one|(apply Ad.take;rfl;rfl)|(apply Ad.guard;rfl;rfl)|(apply Aa.AP (l:=l) (i:=k-1);rfl;exact congrArg (fun b=>some (PV.p (.int .i64 b))) (hkc (by omega));rfl;omega;rfl)|(apply Aa.assign;rfl)|(apply Aa.move;rfl)|(apply Aa.BU;rfl;rfl;omega)|(apply Aa.Jv;rfl;rfl;omega)|(apply Aa.int;rfl;rfl;rfl)|(apply Aa.AP;rfl;rfl;rfl;omega;rfl)|(apply Aa.load;rfl;rfl)|(apply Aa.Bc;rfl;rfl)|(apply Aa.AL;rfl;rfl)|(apply Ac.Ae;rfl)|(apply Ac.AZ;rfl)|(intro _;try (exfalso;omega)))
   all_goals try (exfalso;omega)
   refine Ah.normal ⟨(e.symm.trans hi),by first|omega|decide,?_,?_⟩
   ·exact EJ
   ·exact FM
 ·intro hi
  rw [zT] at hi
  rw [← hi]
  repeat' (first|apply Ac.Ak|apply Ac.Bl|apply Au.normal|apply Ap.exit|apply Ah.exit|apply Ac.ret|apply Ad.nil|apply Ad.one|(apply Aa.assign;rfl)|(apply Aa.int;rfl;rfl;rfl)|(apply Ac.Ae;rfl)|(intro _;try (exfalso;omega)))
  all_goals first|(exfalso;omega)|(refine Done.rt rfl rfl ⟨?_,rfl,rfl⟩;try rfl)
theorem ZE (p:F7) (h0:0<p.bars.length) (hl:p.bars.length<1000000):AB env 47 [.agg (Enc.enc p)] (.Ee [.p (.int .i64 (NG p)),.p (.int .i64 (OH p))]):=by
 have hkc:(p.bars.length:Int)-1=((p.bars.length-1:Nat):Int):=by omega
 unfold NG OH
 refine AB.enter (Aj (by decide)) Tryz.func47 rfl (by kernel_rfl) (by simp [Tryz.ntmps47]) ?_
 repeat' (first|apply Ac.Ak|apply Ac.Dq|apply Ac.ret|apply Ad.nil|apply Af.nil|apply Ad.one|(apply Af.bar;decide +kernel)|apply Af.quiet|(apply Aa.AP (l:=p.bars) (i:=p.bars.length-1);rfl;exact congrArg (fun b=>some (PV.p (.int .i64 b))) hkc;rfl;omega;rfl)|(apply Aa.AP (l:=p.bars) (i:=0);rfl;rfl;rfl;omega;rfl)|(apply Aa.assign;rfl)|(apply Aa.Jv;rfl;rfl;omega)|(apply Aa.load;rfl;rfl)|(apply Aa.CX;rfl;rfl)|(apply Aa.Aw;rfl;rfl;rfl)|(apply Aa.box;rfl;trivial))
 all_goals first|(exfalso;omega)|(refine Done.rt rfl rfl ⟨?_,rfl,rfl⟩;try rfl)
abbrev zh (n:KG):HB:=.box 39 ((Enc.enc n).map .p)
theorem b0c (f:FuncId) (n:KG) (l:List KG) (z:Bool) (P:Nat→Bool) (hl:l.length<1000000) (hM:∀ k,Et env f ([.p (.agg (Enc.enc (gi l k)))]++[.ref 0 0]) [(0,zh n)] 1 (.bool (P k))) :
 Et env 116 [.vec 1 l.length 0 l.length,.clo f [] [.ref 0 0]] [(0,zh n),(1,.vec 39 (cells l) l.length z)] 2 (.int .i64 (Ef P l.length)):=by
 refine Et.enter (Aj (by decide)) Tryz.func116 rfl (by kernel_rfl) (by simp [Tryz.ntmps116]) ?_
 repeat' (first|apply Ac.assoc|apply Ac.Ak|apply Ac.Ag|apply Ad.nil|apply Ad.one|(apply Aa.assign;rfl)|(apply Aa.move;rfl)|(apply Aa.lenV;rfl;rfl;rfl))
 all_goals try (exfalso;omega)
 apply Ac.G9 (l.length) (fun k=>VB P l.length (l.length-k)=Ef P l.length) [(0,_),(1,_),(7,_)] [(0,_),(1,_)] (fun k r=>(8,.p (.int .i64 (k:Int)))::r) (fun k r=>r) 2
 ·first|omega|decide
 ·first|omega|decide
 ·exact Rz
 ·exact VZ
 ·first|(intro _ _;omega)|omega|trivial
 ·intro k hk hi
  have hC:=hM k
  by_cases hp:P k=true
  ·rw [hp] at hC
   have e1:Ef P l.length=(k:Int):=by rw [← hi,WR hk hp]
   rw [e1]
   repeat' (first|apply Ac.Ak|apply Ac.Ai|apply Ac.Ag|apply Au.ret|apply Ap.ret|apply Ah.ret|apply Ac.ret|apply Ad.nil|apply Ad.one|(apply Aa.read [0] hC;rfl;rfl;exact .of_eq rfl;exact CZ.AO rfl;exact Du rfl;(repeat (first|exact trivial|refine ⟨⟨_,rfl,.of_eq rfl⟩,?_⟩));decide;(intro _ hb;simp at hb<;>omega);rfl)|(apply Aa.assign;rfl)|(apply Aa.move;rfl)|(apply Aa.int;rfl;rfl;rfl)|(apply Aa.Io;rfl;rfl;omega;rfl)|(apply Aa.EY;rfl;rfl;rfl;rfl;omega)|(apply Ac.Ae;rfl)|(apply Ac.cond_true;rfl)|(intro _;try (exfalso;omega)))
   all_goals first|(exfalso;omega)|contradiction|(refine Done.ret rfl (.refl _) trivial ?_ (by omega) (Nat.le_refl _) ⟨?_,rfl,rfl⟩;exact FM;try rfl)
  ·have hp':P k=false:=by simpa using hp
   rw [hp'] at hC
   repeat' (first|apply Ac.Ak|apply Ac.region|apply Ac.Ai|apply Ac.Ag|apply Au.normal|apply Ap.normal|apply Ac.skip|apply Ad.nil|apply Ad.one|(apply Aa.read [0] hC;rfl;rfl;exact .of_eq rfl;exact CZ.AO rfl;exact Du rfl;(repeat (first|exact trivial|refine ⟨⟨_,rfl,.of_eq rfl⟩,?_⟩));decide;(intro _ hb;simp at hb<;>omega);rfl)|(apply Aa.assign;rfl)|(apply Aa.move;rfl)|(apply Aa.BU;rfl;rfl;omega)|(apply Aa.int;rfl;rfl;rfl)|(apply Aa.Io;rfl;rfl;omega;rfl)|(apply Aa.EY;rfl;rfl;rfl;rfl;omega)|(apply Ac.Ae;rfl)|(apply Ac.cond_false;rfl)|(intro _;try (exfalso;omega)))
   all_goals try (exfalso;omega)
   all_goals try contradiction
   refine Ah.normal ⟨((Rw hk hp').symm.trans hi),by first|omega|decide,?_,?_⟩
   ·exact EJ
   ·exact FM
 ·intro hi
  have e1:Ef P l.length=-1:=by rw [← hi,Nat.sub_self];rfl
  rw [e1]
  repeat' (first|apply Ac.Ak|apply Ac.Bl|apply Au.normal|apply Ap.exit|apply Ah.exit|apply Ac.ret|apply Ad.nil|apply Ad.one|(apply Aa.assign;rfl)|(apply Aa.int;rfl;rfl;rfl)|(apply Ac.Ae;rfl)|(intro _;try (exfalso;omega)))
  all_goals first|(exfalso;omega)|(refine Done.ret rfl (.refl _) trivial ?_ (by omega) (Nat.le_refl _) ⟨?_,rfl,rfl⟩;exact FM;try rfl)
theorem pV {α:Type} [Inhabited α] (f:α→Bool) (l:List α):decide (0≤Ef (fun k=>f (gi l k)) l.length)=l.any f:=by
 rw [Bool.eq_iff_iff,decide_eq_true_iff,List.any_eq_true]
 constructor
 ·intro h
  have h1:=lW (P:=fun k=>f (gi l k)) l.length (Nat.le_refl _) h
  have h2:=(uq (fun k=>f (gi l k)) l.length l.length (Nat.le_refl _)).2
  refine ⟨_,?_,h1⟩
  have h3:VB (fun k=>f (gi l k)) l.length l.length=Ef (fun k=>f (gi l k)) l.length:=rfl
  generalize VB (fun k=>f (gi l k)) l.length l.length=u at *
  have h4:u.toNat<l.length:=by omega
  unfold gi
  rw [List.getElem?_eq_getElem h4]
  exact List.getElem_mem h4
 ·rintro ⟨x,hx,hf⟩
  obtain ⟨k,hk,rfl⟩:=List.mem_iff_getElem.1 hx
  refine Oq (P:=fun k=>f (gi l k)) (k:=k) ?_ l.length (Nat.le_refl _) (by omega) hk
  unfold gi
  rw [List.getElem?_eq_getElem hk]
  exact hf
theorem a3r (f:FuncId) (n:KG) (l:List KG) (z:Bool) (g:KG→Bool) (hl:l.length<1000000) (hM:∀ m,Et env f ([.p (.agg (Enc.enc m))]++[.ref 0 0]) [(0,zh n)] 1 (.bool (g m))) :
 Et env 71 [.vec 1 l.length 0 l.length,.clo f [] [.ref 0 0]] [(0,zh n),(1,.vec 39 (cells l) l.length z)] 2 (.bool (l.any g)):=by
 have hi:=b0c f n l z (fun k=>g (gi l k)) hl (fun k=>hM _)
 rw [← pV g l]
 generalize Ef (fun k=>g (gi l k)) l.length=F at *
 refine Et.enter (Aj (by decide)) Tryz.func71 rfl (by kernel_rfl) (by simp [Tryz.ntmps71]) ?_
 repeat' (first|apply Ac.Ak|apply Ac.ret|apply Ad.nil|apply Ad.one|(apply Aa.read [0,1] hi;rfl;rfl;exact .of_eq rfl;exact CZ.AO rfl;exact Du rfl;(repeat (first|exact trivial|refine ⟨⟨_,rfl,.of_eq rfl⟩,?_⟩));decide;(intro _ hb;simp at hb<;>omega);rfl)|(apply Aa.assign;rfl)|(apply Aa.move;rfl)|(apply Aa.int;rfl;rfl;rfl))
 all_goals first|(exfalso;omega)|(refine Done.ret rfl (.refl _) trivial ?_ (by omega) (Nat.le_refl _) ⟨?_,rfl,rfl⟩;exact FM;try rfl)
def clash (n m:KG):Bool:=decide (n.s<m.e)&&decide (m.s<n.e)
theorem qA (n m:KG):Et env 122 ([.p (.agg (Enc.enc m))]++[.ref 0 0]) [(0,zh n)] 1 (.bool (clash n m)):=by
 unfold clash
 refine Et.enter (Aj (by decide)) Tryz.func122 rfl (by kernel_rfl) (by simp [Tryz.ntmps122]) ?_
 by_cases h1:n.s<m.e
 ·rw [decide_eq_true h1,Bool.true_and]
  repeat' (first|apply Ac.Ak|apply Ac.ret|apply Ad.nil|apply Ad.one|(apply Ad.take;rfl;rfl)|(apply Ad.guard;rfl;rfl)|(apply Aa.assign;rfl)|(apply Aa.move;rfl)|(apply Aa.int;rfl;rfl;rfl)|(apply Aa.load;rfl;rfl)|(apply Aa.Bc;rfl;rfl)|(apply Aa.Aw;rfl;rfl;rfl)|(apply Aa.box;rfl;trivial)|(intro _;try (exfalso;omega)))
  all_goals first|(exfalso;omega)|contradiction|(refine Done.ret rfl (.refl _) trivial ?_ (by omega) (Nat.le_refl _) ⟨?_,rfl,rfl⟩;exact FM;try rfl)
 ·rw [decide_eq_false h1,Bool.false_and]
  repeat' (first|apply Ac.Ak|apply Ac.ret|apply Ad.nil|apply Ad.one|(apply Ad.drop;rfl;rfl;rfl)|(apply Ad.guard;rfl;rfl)|(apply Aa.assign;rfl)|(apply Aa.move;rfl)|(apply Aa.int;rfl;rfl;rfl)|(apply Aa.load;rfl;rfl)|(apply Aa.AL;rfl;rfl)|(apply Aa.Aw;rfl;rfl;rfl)|(apply Aa.box;rfl;trivial)|(intro _;try (exfalso;omega)))
  all_goals first|(exfalso;omega)|contradiction|(refine Done.ret rfl (.refl _) trivial ?_ (by omega) (Nat.le_refl _) ⟨?_,rfl,rfl⟩;exact FM;try rfl)
end
section
open Go Go.Am Go.Vm Go.Pie
abbrev oC:=List ((Int×Int)×List KG)
def Lm (n:KG):Int×Int:=(n.d,n.k)
def vX (gs:oC) (n:KG):oC:=Cm gs (Lm n) ((Cb gs (Lm n)).getD []++[n])
def O4 (l:List KG):Nat→oC
 |0=>[]
 |k+1=>vX (O4 l k) (gi l k)
def Zn (gs:oC) (i:Nat):List KG:=((gs[i]?).map (·.2)).getD []
def Qe (s:Nat):oC→List ((Int×Int)×PV)
 |[]=>[]
 |x::gs=>(x.1,.vec s x.2.length 0 x.2.length)::Qe (s+1) gs
def tlG (gs:oC) (j:Nat):HB:=.vec 39 (cells (Zn gs j)) (Zn gs j).length true
theorem TW:∀ {s:Nat} {gs:oC} {a:Int×Int},Cb (Qe s gs) a=(Cb gs a).map fun l=>.vec (s+EG gs a) l.length 0 l.length
 |s,[],a=>rfl
 |s,x::gs,a=>by
  unfold Qe Cb EG
  by_cases h:a=x.1
  ·simp only [if_pos h,Option.map_some,Nat.add_zero]
  ·simp only [if_neg h]
   rw [TW]
   congr 1
   funext l
   rw [show s+1+EG gs a=s+(EG gs a+1) by omega]
theorem iq:∀ {s:Nat} {gs:oC} {a:Int×Int} {l:List KG},Cm (Qe s gs) a (.vec (s+EG gs a) l.length 0 l.length)=Qe s (Cm gs a l)
 |s,[],a,l=>rfl
 |s,x::gs,a,l=>by
  unfold Qe Cm EG
  by_cases h:a=x.1
  ·simp only [if_pos h,Nat.add_zero,Qe]
  ·simp only [if_neg h,Qe]
   rw [show s+(EG gs a+1)=s+1+EG gs a by omega,iq]
theorem Oa:∀ {gs:oC} {a:Int×Int},Zn gs (EG gs a)=(Cb gs a).getD []
 |[],a=>rfl
 |x::gs,a=>by
  unfold EG Cb
  by_cases h:a=x.1
  ·simp only [if_pos h];rfl
  ·simp only [if_neg h]
   exact Oa (gs:=gs)
theorem iH:∀ {gs:oC} {a:Int×Int} {l:List KG} {j:Nat},Zn (Cm gs a l) j=if j=EG gs a then l else Zn gs j
 |[],a,l,j=>by
  unfold Cm EG Zn
  match j with
  |0=>rfl
  |j+1=>rfl
 |x::gs,a,l,j=>by
  unfold Cm EG
  by_cases h:a=x.1
  ·simp only [if_pos h]
   match j with
   |0=>rfl
   |j+1=>rfl
  ·simp only [if_neg h]
   match j with
   |0=>rfl
   |j+1 =>
    have:=iH (gs:=gs) (a:=a) (l:=l) (j:=j)
    simp only [Nat.add_right_cancel_iff]
    exact this
theorem UJ {α β:Type} [DecidableEq α]:∀ {es:List (α×β)} {a:α} {b:β},(Cm es a b).length≤es.length+1
 |[],a,b=>by simp [Cm]
 |x::es,a,b=>by
  unfold Cm
  split
  ·simp
  ·have:=UJ (es:=es) (a:=a) (b:=b)
   simp only [List.length_cons];omega
theorem TI (l:List KG):∀ k,(O4 l k).length≤k
 |0=>Nat.le_refl _
 |k+1=>by
  have:=TI l k
  have:=UJ (es:=O4 l k) (a:=Lm (gi l k)) (b:=(Cb (O4 l k) (Lm (gi l k))).getD []++[gi l k])
  show (Cm _ _ _).length≤_
  omega
theorem aV {α β:Type} [DecidableEq α]:∀ {es:List (α×β)} {a c:α} {b:β},Cb (Cm es a b) c=if c=a then some b else Cb es c
 |[],a,c,b=>rfl
 |x::es,a,c,b=>by
  unfold Cm
  by_cases h:a=x.1
  ·rw [if_pos h]
   subst h
   unfold Cb
   by_cases h2:c=x.1
   ·rw [if_pos h2,if_pos h2]
   ·rw [if_neg h2,if_neg h2,if_neg h2]
  ·rw [if_neg h]
   unfold Cb
   by_cases h2:c=x.1
   ·rw [if_pos h2,if_pos h2,if_neg (fun e=>h (by rw [← e,h2]))]
   ·rw [if_neg h2,if_neg h2,aV]
theorem Uf (l:List KG) (c:Int×Int):∀ k,k≤l.length→(Cb (O4 l k) c).getD []=(l.take k).filter fun m=>decide (Lm m=c)
 |0,_=>rfl
 |k+1,hk=>by
  have ih:=Uf l c k (by omega)
  have et:l.take (k+1)=l.take k++[gi l k]:=by
   rw [List.take_add_one]
   unfold gi
   rw [List.getElem?_eq_getElem (by omega:k<l.length)]
   rfl
  rw [et,List.filter_append,← ih]
  show (Cb (Cm _ _ _) c).getD []=_
  rw [aV]
  by_cases h:c=Lm (gi l k)
  ·rw [if_pos h,← h,List.filter_cons,decide_eq_true h.symm]
   rfl
  ·rw [if_neg h,List.filter_cons,decide_eq_false (fun e=>h e.symm)]
   simp
theorem uP (l:List KG) (n:KG) (k:Nat) (hk:k≤l.length):((Cb (O4 l k) (Lm n)).getD []).any (clash n)=(l.take k).any fun m=>yZ m n:=by
 rw [Uf l (Lm n) k hk,List.any_filter]
 congr 1
 funext m
 unfold clash yZ Lm
 by_cases h1:m.d=n.d<;>by_cases h2:m.k=n.k<;>by_cases h3:n.s<m.e<;>by_cases h4:m.s<n.e<;>simp [h1,h2,h3,h4]
def kfC (a:Int×Int):List FV:=[.int .i64 a.1,.int .i64 a.2]
def kvC (a:Int×Int):List Value:=[.int .i64 a.1,.int .i64 a.2]
theorem dh:IsKey Tryz.prog 120 kfC kvC:=by
 obtain ⟨fs,hu⟩:∃ fs,Tryz.prog.underlying 120=some (.struct fs):=⟨_,rfl⟩
 refine IsKey.of_struct hu (by kernel_rfl) (fun a=>rfl) (fun a b=>?_) (fun a=>?_)
 ·have hu2:some (TypeDesc.struct fs)=Tryz.prog.underlying 120:=hu.symm
  cases hu2
  show some (decide (a.1=b.1)&&(decide (a.2=b.2)&&true))=_
  obtain ⟨a1,a2⟩:=a
  obtain ⟨b1,b2⟩:=b
  by_cases h1:a1=b1<;>by_cases h2:a2=b2<;>simp [h1,h2]
 ·have hu2:some (TypeDesc.struct fs)=Tryz.prog.underlying 120:=hu.symm
  cases hu2
  rfl
theorem ZK {k:Nat}:∀ {s:Nat} {gs:oC},s+gs.length≤k→CZ.under k ((Qe s gs).map (·.2))
 |s,[],_=>trivial
 |s,x::gs,h=>by
  simp only [List.length_cons] at h
  exact ⟨by show s<k;omega,ZK (s:=s+1) (gs:=gs) (by omega)⟩
theorem qB {E:Env} {H:Heap} {nx s:Nat} {gs:oC} {a:Int×Int} {g:List KG} {i:Nat} (hi:i=EG gs a) (hgl:g=Zn gs i) (hg:hget H (s+i)=some (.vec 39 (cells g) g.length true)):JX E H nx (Qe s gs) a Dh (.vec (s+i) g.length 0 g.length):=by
 subst hi
 subst hgl
 have e:=Oa (gs:=gs) (a:=a)
 cases hl:Cb gs a with
 |some l =>
  rw [hl] at e
  simp only [Option.getD_some] at e
  rw [e]
  exact .inl (by rw [TW,hl];rfl)
 |none =>
  rw [hl] at e
  simp only [Option.getD_none] at e
  rw [e] at hg ⊢
  exact JX.a8b (by rw [TW,hl];rfl) hg
theorem a4s {s:Nat} {gs:oC} {n:KG} {g:List KG} {i:Nat} (hi:i=EG gs (Lm n)) (hgl:g=Zn gs i):Cm (Qe s gs) (Lm n) (.vec (s+i) (g.length+1) 0 (g.length+1))=Qe s (vX gs n):=by
 subst hi
 subst hgl
 unfold vX
 rw [← iq,Oa]
 simp
theorem a9p {gs:oC} {n:KG} {g:List KG} {i:Nat} (hi:i=EG gs (Lm n)) (hgl:g=Zn gs i) (j:Nat):(if j=i then .vec 39 (cells (g++[n])) (g.length+1) true else tlG gs j)=tlG (vX gs n) j:=by
 subst hi
 subst hgl
 unfold tlG vX
 rw [iH]
 by_cases h:j=EG gs (Lm n)
 ·rw [if_pos h,if_pos h,Oa]
  simp
 ·rw [if_neg h,if_neg h]
end
section
open Go Go.Am Go.Vm Go.Pie
attribute [local irreducible] Aa Ad Af Ac Ba AB BG Au Ap Ah Vm.Done BQ AY
attribute [local irreducible] CV Bq Eh DY Ez BH CW
def a4b (o:IV) (p:F7) (G:oC):Heap:=(2,Us kfC (Qe 3 G))::(1,.box 32 ((Enc.enc p).map .p))::(0,.box 27 ((Enc.enc o).map .p))::CW 3 1000 (tlG G)
theorem oV (o:IV) (p:F7) (hs:Yk p) (h2:2≤p.bars.length) (ho:o.AU.length<1000000):AB env 80 [.agg (Enc.enc o),.agg (Enc.enc p)] (.p (.int .i64 (if p.notes.length>1000 then 4 else GN o (NG p) (OH p) p.notes 0))):=by
 have b1:=hs.notes
 have hen:=ZE p (by omega) hs.bars
 refine AB.enter (Aj (by decide)) Tryz.func80 rfl (by kernel_rfl) (by simp [Tryz.ntmps80]) ?_
 by_cases c1:p.notes.length>1000
 ·rw [if_pos c1]
  repeat' (first|apply Ac.assoc|apply Ac.Ak|apply Ac.BL|apply Ad.nil|apply Ad.one|(apply Aa.assign;rfl)|(apply Aa.int;rfl;rfl;rfl)|(apply Aa.load;rfl;rfl)|(apply Aa.CX;rfl;rfl)|(apply Aa.Aw;rfl;rfl;rfl)|(apply Aa.box;rfl;trivial)|(apply Ac.Ae;rfl)|(intro _;try (exfalso;omega)))
  all_goals first|(exfalso;omega)|(refine Done.rt rfl rfl ⟨?_,rfl,rfl⟩;try rfl)
 rw [if_neg c1]
 obtain ⟨E,hE⟩:∃ E,E=GN o (NG p) (OH p) p.notes 0:=⟨_,rfl⟩
 rw [← hE]
 repeat' (first|apply Ac.assoc|apply Ac.Ak|apply Ac.Ai|apply Ac.Ag|apply Ad.nil|apply Ad.one|(apply Aa.fn;rfl;rfl;exact hen;intro _;rfl)|(apply Aa.Yy)|(apply Aa.assign;rfl)|(apply Aa.move;rfl)|(apply Aa.int;rfl;rfl;rfl)|(apply Aa.load;rfl;rfl)|(apply Aa.CX;rfl;rfl)|(apply Aa.Aw;rfl;rfl;rfl)|(apply Aa.box;rfl;trivial)|(apply Aa.extract;rfl;rfl)|(apply Ac.Ae;rfl)|(intro _;try (exfalso;omega)))
 all_goals try (exfalso;omega)
 refine Ac.ghost (Bo.a8j 39 1000 (XF (by decide) (XF (by decide) (XF (by decide) a2t)))) ?_
 apply Ac.G9 (p.notes.length) (fun k=>GN o (NG p) (OH p) p.notes k=E) [(2,_),(3,_),(5,_),(6,_),(7,_),(23,_),(24,_)] [] (fun k r=>(25,.p (.int .i64 (k:Int)))::r) (fun k _=>a4b o p (O4 p.notes k)) 1003
 ·first|omega|decide
 ·first|omega|decide
 ·exact Rz
 ·refine ⟨⟨Az rfl,trivial,_,rfl,.refl _⟩,⟨Az rfl,CZ.Bz _ _,_,rfl,.refl _⟩,⟨Az rfl,CZ.Bz _ _,_,rfl,.refl _⟩,Ci.tail (fun j hj=>?_) (by omega) (fun j hj=>trivial)⟩
  refine Ew (by omega) (Ew (by omega) (Ew (by omega) ?_))
  exact PN hj
 ·exact hE.symm
 ·intro k hk hi
  have e:=TG (o:=o) (a:=NG p) (z:=OH p) hk
  have hca:=uP p.notes (gi p.notes k) k (by omega)
  have hgl:=TI p.notes k
  have b7s:=TI p.notes (k+1)
  have hLk:=Uf p.notes (Lm (gi p.notes k)) k (by omega)
  have hGs:vX (O4 p.notes k) (gi p.notes k)=O4 p.notes (k+1):=rfl
  unfold SQ at e
  generalize O4 p.notes k=G at *
  obtain ⟨i,hii⟩:∃ i,i=EG G (Lm (gi p.notes k)):=⟨_,rfl⟩
  obtain ⟨g,hg⟩:∃ g,g=Zn G i:=⟨_,rfl⟩
  have hi1:i<1000:=by have:=(ZU (es:=G) (a:=Lm (gi p.notes k))).1;omega
  have hgt:hget (a4b o p G) (3+i)=some (.vec 39 (cells g) g.length true):=Ew (by omega) (Ew (by omega) (Ew (by omega) (by rw [PN hi1,hg];rfl)))
  have hpt:∀ y,hput (a4b o p G) (3+i) y=(2,Us kfC (Qe 3 G))::(1,.box 32 ((Enc.enc p).map .p))::(0,.box 27 ((Enc.enc o).map .p))::CW 3 1000 (fun j=>if j=i then y else tlG G j):=fun y=>PG (by omega) (PG (by omega) (PG (by omega) (Zq hi1)))
  have hgg:g=(Cb G (Lm (gi p.notes k))).getD []:=by rw [hg,hii,Oa]
  have hgn:g.length≤k:=by
   rw [hgg,hLk]
   exact Nat.le_trans (List.length_filter_le _ _) (by rw [List.length_take];omega)
  rw [← hgg] at hca
  have hcl:=a3r 122 (gi p.notes k) g true (clash (gi p.notes k)) (by omega) (qA (gi p.notes k))
  rw [hca] at hcl
  by_cases h1:(gi p.notes k).d<0∨(gi p.notes k).d≥o.AU.length
  ·rw [if_pos h1,if_pos (by decide)] at e
   rw [← hi,e]
   repeat' (first|apply Ac.assoc|apply Ac.Ak|apply Ac.Ai|apply Ac.BL|apply Ac.Ag|apply Au.ret|apply Ap.ret|apply Ah.ret|apply Ad.nil|apply Ad.one|(apply Ad.take;rfl;rfl)|(apply Ad.drop;rfl;rfl;rfl)|(apply Ad.guard;rfl;rfl)|(apply Aa.assign;rfl)|(apply Aa.move;rfl)|(apply Aa.int;rfl;rfl;rfl)|(apply Aa.AP;rfl;rfl;rfl;omega;rfl)|(apply Aa.load;rfl;rfl)|(apply Aa.Bc;rfl;rfl)|(apply Aa.AL;rfl;rfl)|(apply Aa.CX;rfl;rfl)|(apply Aa.Aw;rfl;rfl;rfl)|(apply Aa.alloc;rfl)|(apply Aa.Bd;rfl;rfl;rfl;trivial;rfl;rfl;exact Az rfl;exact le_dec rfl)|(apply Ac.Bf;rfl)|(apply Ac.Ae;rfl)|(intro _;try (exfalso;omega)))
   all_goals first|(exfalso;omega)|(refine Done.rt rfl rfl ⟨?_,rfl,rfl⟩;try rfl)
  rw [if_neg h1] at e
  by_cases h2:(gi p.notes k).k<(gi o.AU (gi p.notes k).d.toNat).lo∨(gi p.notes k).k>(gi o.AU (gi p.notes k).d.toNat).hi
  ·rw [if_pos h2,if_pos (by decide)] at e
   rw [← hi,e]
   repeat' (first|apply Ac.assoc|apply Ac.Ak|apply Ac.Ai|apply Ac.Ag|apply Au.ret|apply Ap.ret|apply Ah.ret|apply Ac.ret|apply Ad.nil|apply Ad.one|(apply Ad.take;rfl;rfl)|(apply Ad.drop;rfl;rfl;rfl)|(apply Ad.guard;rfl;rfl)|(apply Aa.assign;rfl)|(apply Aa.move;rfl)|(apply Aa.int;rfl;rfl;rfl)|(apply Aa.AP;rfl;rfl;rfl;omega;rfl)|(apply Aa.QF;rfl;rfl;rfl;omega;omega;rfl)|(apply Aa.load;rfl;rfl)|(apply Aa.Bc;rfl;rfl)|(apply Aa.AL;rfl;rfl)|(apply Aa.CX;rfl;rfl)|(apply Aa.Aw;rfl;rfl;rfl)|(apply Aa.GY;rfl;rfl)|(apply Aa.alloc;rfl)|(apply Aa.Bd;rfl;rfl;rfl;trivial;rfl;rfl;exact Az rfl;exact le_dec rfl)|(apply Aa.build;rfl;rfl;rfl;rfl;rfl)|(apply Ac.Ae;rfl)|(apply Ac.cond_true;rfl)|(apply Ac.AZ;rfl)|(intro _;try (exfalso;omega)))
   all_goals first|(exfalso;omega)|(refine Done.rt rfl rfl ⟨?_,rfl,rfl⟩;try rfl)
  rw [if_neg h2] at e
  by_cases h3:(gi p.notes k).s<NG p∨(gi p.notes k).e>OH p
  ·rw [if_pos h3,if_pos (by decide)] at e
   rw [← hi,e]
   repeat' (first|apply Ac.assoc|apply Ac.Ak|apply Ac.Ai|apply Ac.Ag|apply Au.ret|apply Ap.ret|apply Ah.ret|apply Ac.ret|apply Ad.nil|apply Ad.one|(apply Ad.take;rfl;rfl)|(apply Ad.drop;rfl;rfl;rfl)|(apply Ad.guard;rfl;rfl)|(apply Aa.assign;rfl)|(apply Aa.move;rfl)|(apply Aa.int;rfl;rfl;rfl)|(apply Aa.AP;rfl;rfl;rfl;omega;rfl)|(apply Aa.QF;rfl;rfl;rfl;omega;omega;rfl)|(apply Aa.load;rfl;rfl)|(apply Aa.Bc;rfl;rfl)|(apply Aa.AL;rfl;rfl)|(apply Aa.CX;rfl;rfl)|(apply Aa.Aw;rfl;rfl;rfl)|(apply Aa.GY;rfl;rfl)|(apply Aa.alloc;rfl)|(apply Aa.Bd;rfl;rfl;rfl;trivial;rfl;rfl;exact Az rfl;exact le_dec rfl)|(apply Aa.build;rfl;rfl;rfl;rfl;rfl)|(apply Ac.Ae;rfl)|(apply Ac.cond_true;rfl)|(apply Ac.AZ;rfl)|(intro _;try (exfalso;omega)))
   all_goals first|(exfalso;omega)|(refine Done.rt rfl rfl ⟨?_,rfl,rfl⟩;try rfl)
  rw [if_neg h3] at e
  by_cases h4:(gi p.notes k).s≥(gi p.notes k).e
  ·rw [if_pos h4,if_pos (by decide)] at e
   rw [← hi,e]
   repeat' (first|apply Ac.assoc|apply Ac.Ak|apply Ac.Ai|apply Ac.Ag|apply Au.ret|apply Ap.ret|apply Ah.ret|apply Ac.ret|apply Ad.nil|apply Ad.one|(apply Ad.take;rfl;rfl)|(apply Ad.guard;rfl;rfl)|(apply Aa.assign;rfl)|(apply Aa.move;rfl)|(apply Aa.int;rfl;rfl;rfl)|(apply Aa.AP;rfl;rfl;rfl;omega;rfl)|(apply Aa.QF;rfl;rfl;rfl;omega;omega;rfl)|(apply Aa.load;rfl;rfl)|(apply Aa.AL;rfl;rfl)|(apply Aa.CX;rfl;rfl)|(apply Aa.Aw;rfl;rfl;rfl)|(apply Aa.GY;rfl;rfl)|(apply Aa.alloc;rfl)|(apply Aa.Bd;rfl;rfl;rfl;trivial;rfl;rfl;exact Az rfl;exact le_dec rfl)|(apply Aa.build;rfl;rfl;rfl;rfl;rfl)|(apply Ac.Ae;rfl)|(apply Ac.AZ;rfl)|(intro _;try (exfalso;omega)))
   all_goals first|(exfalso;omega)|(refine Done.rt rfl rfl ⟨?_,rfl,rfl⟩;try rfl)
  rw [if_neg h4] at e
  by_cases h5:(p.notes.take k).any (fun m=>yZ m (gi p.notes k))=true
  ·rw [if_pos h5,if_pos (by decide)] at e
   rw [h5] at hcl
   rw [← hi,e]
   repeat' (first|apply Ac.assoc|apply Ac.Ak|apply Ac.Ai|apply Ac.Ag|apply Au.ret|apply Ap.ret|apply Ah.ret|apply Ac.ret|apply Ad.nil|apply Ad.one|(apply Ad.take;rfl;rfl)|(apply Ad.guard;rfl;rfl)|(apply Aa.rZ (a:=Lm (gi p.notes k)) (z:=Dh) dh;rfl;rfl;rfl;rfl;rfl;rfl;exact qB hii hg (by (repeat (first|exact hgt|(refine Gl (by omega) ?_)|(refine Ew (by omega) ?_)))))|(apply Aa.a5x [1003,3+i] hcl;rfl;rfl;exact .of_eq rfl;exact CZ.AO rfl;exact Du rfl;exact ⟨rfl,(show hget _ (3+i)=some (HB.vec 39 (cells g) g.length true) from by (repeat (first|exact hgt|(refine Gl (by omega) ?_)|(refine Ew (by omega) ?_)))),trivial⟩;rfl;(simp;omega);(intro _ hb;simp at hb;omega))|(apply Aa.makeFunc;rfl;rfl)|(apply Aa.assign;rfl)|(apply Aa.move;rfl)|(apply Aa.int;rfl;rfl;rfl)|(apply Aa.AP;rfl;rfl;rfl;omega;rfl)|(apply Aa.QF;rfl;rfl;rfl;omega;omega;rfl)|(apply Aa.load;rfl;rfl)|(apply Aa.AL;rfl;rfl)|(apply Aa.CX;rfl;rfl)|(apply Aa.Aw;rfl;rfl;rfl)|(apply Aa.GY;rfl;rfl)|(apply Aa.alloc;rfl)|(apply Aa.Bd;rfl;rfl;rfl;trivial;rfl;rfl;exact Az rfl;exact le_dec rfl)|(apply Aa.build;rfl;rfl;rfl;rfl;rfl)|(apply Ac.Ae;rfl)|(apply Ac.cond_true;rfl)|(apply Ac.AZ;rfl)|(intro _;try (exfalso;omega)))
   all_goals first|(exfalso;omega)|(refine Done.rt rfl rfl ⟨?_,rfl,rfl⟩;try rfl)
  have h5:(p.notes.take k).any (fun m=>yZ m (gi p.notes k))=false:=by simpa using h5
  rw [h5,if_neg (by decide)] at e
  rw [h5] at hcl
  repeat' (first|apply Ac.assoc|apply Ac.Ak|apply Ac.region|apply Ac.Ai|apply Ac.Ag|apply Au.normal|apply Ap.normal|apply Ac.skip|apply Ad.nil|apply Ad.one|(apply Ad.take;rfl;rfl)|(apply Ad.guard;rfl;rfl)|(apply Aa.rZ (a:=Lm (gi p.notes k)) (z:=Dh) dh;rfl;rfl;rfl;rfl;rfl;rfl;exact qB hii hg (by (repeat (first|exact hgt|(refine Gl (by omega) ?_)|(refine Ew (by omega) ?_)))))|(apply Aa.a5x [1003,3+i] hcl;rfl;rfl;exact .of_eq rfl;exact CZ.AO rfl;exact Du rfl;exact ⟨rfl,(show hget _ (3+i)=some (HB.vec 39 (cells g) g.length true) from by (repeat (first|exact hgt|(refine Gl (by omega) ?_)|(refine Ew (by omega) ?_)))),trivial⟩;rfl;(simp;omega);(intro _ hb;simp at hb;omega))|(apply Aa.makeFunc;rfl;rfl)|(apply Aa.a8u (a:=Lm (gi p.notes k)) (es:=Qe 3 G) (z:=Dh) dh;rfl;rfl;rfl;rfl;rfl;rfl;exact qB hii hg (by (repeat (first|exact hgt|(refine Gl (by omega) ?_)|(refine Ew (by omega) ?_))));rfl)|(apply Aa.yG (l:=g) (a:=gi p.notes k);rfl;((repeat (first|exact hgt|(refine Gl (by omega) ?_)|(refine Ew (by omega) ?_))));rfl;rfl;rfl;rfl;rfl;rfl;(intro _ h;cases h);rfl;rfl;rfl;decide;decide;omega;((repeat (first|exact hpt _|(apply kC;omega)|(apply PG;omega)))))|(apply Aa.vC (a:=Lm (gi p.notes k)) (es:=Qe 3 G) dh;rfl;rfl;rfl;rfl;rfl)|(apply Aa.assign;rfl)|(apply Aa.move;rfl)|(apply Aa.BU;rfl;rfl;omega)|(apply Aa.int;rfl;rfl;rfl)|(apply Aa.AP;rfl;rfl;rfl;omega;rfl)|(apply Aa.QF;rfl;rfl;rfl;omega;omega;rfl)|(apply Aa.load;rfl;rfl)|(apply Aa.AL;rfl;rfl)|(apply Aa.CX;rfl;rfl)|(apply Aa.Aw;rfl;rfl;rfl)|(apply Aa.GY;rfl;rfl)|(apply Aa.alloc;rfl)|(apply Aa.Bd;rfl;rfl;rfl;trivial;rfl;rfl;exact Az rfl;exact le_dec rfl)|(apply Aa.build;rfl;rfl;rfl;rfl;rfl)|(apply Aa.buildSlice;rfl;rfl;rfl;decide;rfl;rfl;rfl)|(apply Aa.extract;rfl;rfl)|(apply Ac.Ae;rfl)|(apply Ac.cond_false;rfl)|(apply Ac.AZ;rfl)|(intro _;try (exfalso;omega)))
  all_goals try (exfalso;omega)
  refine Ah.normal ⟨e.symm.trans hi,by first|omega|decide,?_,?_⟩
  ·exact EJ
  ·show Ci 1003 (a4b o p (O4 p.notes (k+1))) _
   rw [← hGs] at b7s ⊢
   refine ⟨⟨Az rfl,ZK (by omega),_,rfl,.of_eq (congrArg (Us kfC) (a4s hii hg))⟩,⟨Az rfl,CZ.Bz _ _,_,rfl,.refl _⟩,⟨Az rfl,CZ.Bz _ _,_,rfl,.refl _⟩,Ci.tail (fun j hj=>?_) (by omega) (fun j hj=>trivial)⟩
   repeat (first|(refine Gl (by omega) ?_)|(refine Ew (by omega) ?_))
   rw [PN hj]
   exact congrArg some (a9p hii hg j)
 ·intro hi
  rw [nT] at hi
  rw [← hi]
  repeat' (first|apply Ac.Ak|apply Ac.Bl|apply Au.normal|apply Ap.exit|apply Ah.exit|apply Ac.ret|apply Ad.nil|apply Ad.one|(apply Aa.assign;rfl)|(apply Aa.int;rfl;rfl;rfl)|(apply Ac.Ae;rfl)|(intro _;try (exfalso;omega)))
  all_goals first|(exfalso;omega)|(refine Done.rt rfl rfl ⟨?_,rfl,rfl⟩;try rfl)
end
section
open Go Go.Am Go.Vm Go.Pie
attribute [local irreducible] Aa Ad Af Ac Ba AB BG Au Ap Ah Vm.Done BQ AY
attribute [local irreducible] CV Bq Eh DY Ez BH
theorem vT (o:IV) (ho:wC o) (r:Rgs) (hr:r.Ok):AB env 81 [.agg (Enc.enc o),.agg (Enc.enc r)] (.p (.int .i64 (V5 o r))):=by
 have r2:=ho.AU
 have r3:=ho.Ku
 have c1:=hr.cp
 have c2:=hr.off
 have c3:=hr.len
 have hc:=VI o ho.sm
 rw [ho.err] at hc
 refine AB.enter (Aj (by decide)) Tryz.func81 rfl (by kernel_rfl) (by simp [Tryz.ntmps81]) ?_
 by_cases h1:r.stops.length=o.AU.length
 case neg =>
  rw [yP h1]
  repeat' (first|apply Ac.assoc|apply Ac.Ak|apply Ac.Ai|apply Ac.BL|apply Ad.nil|apply Ad.one|(apply Aa.fn;rfl;rfl;exact hc;intro _;rfl)|(apply Aa.assign;rfl)|(apply Aa.move;rfl)|(apply Aa.int;rfl;rfl;rfl)|(apply Aa.load;rfl;rfl)|(apply Aa.CX;rfl;rfl)|(apply Aa.Aw;rfl;rfl;rfl)|(apply Aa.box;rfl;trivial)|(apply Ac.Aq;rfl)|(apply Ac.Ae;rfl)|(intro _;try (exfalso;omega)))
  all_goals first|(exfalso;omega)|contradiction|(refine Done.rt rfl rfl ⟨?_,rfl,rfl⟩;try rfl)
 by_cases h2:∀ i,i<r.stops.length→gi r.stops i / 2 ^ (gi o.AU i).stops.length=0
 case neg =>
  obtain ⟨i,hi⟩:=Classical.not_forall.1 h2
  obtain ⟨hi,h3⟩:=Classical.not_imp.1 hi
  rw [yQ h1 hi h3]
  clear h2
  repeat' (first|apply Ac.assoc|apply Ac.Ak|apply Ac.Ai|apply Ac.Ag|apply Ad.nil|apply Ad.one|(apply Aa.fn;rfl;rfl;exact hc;intro _;rfl)|(apply Aa.assign;rfl)|(apply Aa.move;rfl)|(apply Aa.int;rfl;rfl;rfl)|(apply Aa.load;rfl;rfl)|(apply Aa.CX;rfl;rfl)|(apply Aa.Aw;rfl;rfl;rfl)|(apply Aa.box;rfl;trivial)|(apply Ac.Aq;rfl)|(apply Ac.Ae;rfl)|(intro _;try (exfalso;omega)))
  all_goals try (exfalso;omega)
  all_goals try contradiction
  apply Ac.G9 (o.AU.length) (fun k=>∀ i,i<k→gi r.stops i / 2 ^ (gi o.AU i).stops.length=0) [(2,_),(3,_),(21,_),(22,_)] [(0,_),(1,_)] (fun k r=>(23,.p (.int .i64 (k:Int)))::r) (fun k r=>r) 2
  ·first|omega|decide
  ·first|omega|decide
  ·exact Rz
  ·exact VZ
  ·first|(intro _ _;omega)|omega|trivial
  ·intro k hk hok
   have s3:=ho.stops k (by omega)
   have rk:=hr.stops k (by omega)
   by_cases hb:gi r.stops k / 2 ^ (gi o.AU k).stops.length=0
   ·repeat' (first|apply Ac.Ak|apply Ac.Dq|apply Ac.region|apply Ac.Ai|apply Ac.Ag|apply Au.normal|apply Ap.normal|apply Ac.skip|apply Ad.nil|apply Af.nil|apply Ad.one|(apply Af.bar;decide +kernel)|apply Af.quiet|(apply Aa.assign;rfl)|(apply Aa.move;rfl)|(apply Aa.BU;rfl;rfl;omega)|(apply Aa.int;rfl;rfl;rfl)|(apply Aa.AP;rfl;rfl;rfl;omega;rfl)|(apply Aa.load;rfl;rfl)|(apply Aa.CX;rfl;rfl)|(apply Aa.Aw;rfl;rfl;rfl)|(apply Aa.alloc;rfl)|(apply Aa.Bd;rfl;rfl;rfl;trivial;rfl;rfl;exact Az rfl;exact le_dec rfl)|(apply Aa.qJ;rfl;rfl;(simp only [IntKind.bits];omega))|(apply Ac.Ae;rfl)|(apply Ac.AZ;rfl)|(intro _;try (exfalso;omega)))
    all_goals try (exfalso;omega)
    all_goals try contradiction
    refine Ah.normal ⟨(all_succ hok hb),by first|omega|decide,?_,?_⟩
    ·exact EJ
    ·exact FM
   ·repeat' (first|apply Ac.Ak|apply Ac.Dq|apply Ac.Ai|apply Ac.Ag|apply Au.ret|apply Ap.ret|apply Ah.ret|apply Ac.ret|apply Ad.nil|apply Af.nil|apply Ad.one|(apply Af.bar;decide +kernel)|apply Af.quiet|(apply Aa.assign;rfl)|(apply Aa.move;rfl)|(apply Aa.int;rfl;rfl;rfl)|(apply Aa.AP;rfl;rfl;rfl;omega;rfl)|(apply Aa.load;rfl;rfl)|(apply Aa.CX;rfl;rfl)|(apply Aa.Aw;rfl;rfl;rfl)|(apply Aa.alloc;rfl)|(apply Aa.Bd;rfl;rfl;rfl;trivial;rfl;rfl;exact Az rfl;exact le_dec rfl)|(apply Aa.qJ;rfl;rfl;(simp only [IntKind.bits];omega))|(apply Ac.Ae;rfl)|(apply Ac.AZ;rfl)|(intro _;try (exfalso;omega)))
    all_goals first|(exfalso;omega)|contradiction|(refine Done.rt rfl rfl ⟨?_,rfl,rfl⟩;try rfl)
  ·intro hok
   exact absurd (hok i (by omega)) h3
 rw [wJ h1 h2]
 repeat' (first|apply Ac.assoc|apply Ac.Ak|apply Ac.Ai|apply Ac.Ag|apply Ad.nil|apply Ad.one|(apply Aa.fn;rfl;rfl;exact hc;intro _;rfl)|(apply Aa.assign;rfl)|(apply Aa.move;rfl)|(apply Aa.int;rfl;rfl;rfl)|(apply Aa.load;rfl;rfl)|(apply Aa.CX;rfl;rfl)|(apply Aa.Aw;rfl;rfl;rfl)|(apply Aa.box;rfl;trivial)|(apply Ac.Aq;rfl)|(apply Ac.Ae;rfl)|(intro _;try (exfalso;omega)))
 all_goals try (exfalso;omega)
 all_goals try contradiction
 apply Ac.G9 (o.AU.length) (fun k=>∀ i,i<k→gi r.stops i / 2 ^ (gi o.AU i).stops.length=0) [(2,_),(3,_),(21,_),(22,_)] [(0,_),(1,_)] (fun k r=>(23,.p (.int .i64 (k:Int)))::r) (fun k r=>r) 2
 ·first|omega|decide
 ·first|omega|decide
 ·exact Rz
 ·exact VZ
 ·first|(intro _ _;omega)|omega|trivial
 ·intro k hk hok
  have s3:=ho.stops k (by omega)
  have rk:=hr.stops k (by omega)
  have hb:=h2 k (by omega)
  repeat' (first|apply Ac.Ak|apply Ac.Dq|apply Ac.region|apply Ac.Ai|apply Ac.Ag|apply Au.normal|apply Ap.normal|apply Ac.skip|apply Ad.nil|apply Af.nil|apply Ad.one|(apply Af.bar;decide +kernel)|apply Af.quiet|(apply Aa.assign;rfl)|(apply Aa.move;rfl)|(apply Aa.BU;rfl;rfl;omega)|(apply Aa.int;rfl;rfl;rfl)|(apply Aa.AP;rfl;rfl;rfl;omega;rfl)|(apply Aa.load;rfl;rfl)|(apply Aa.CX;rfl;rfl)|(apply Aa.Aw;rfl;rfl;rfl)|(apply Aa.alloc;rfl)|(apply Aa.Bd;rfl;rfl;rfl;trivial;rfl;rfl;exact Az rfl;exact le_dec rfl)|(apply Aa.qJ;rfl;rfl;(simp only [IntKind.bits];omega))|(apply Ac.Ae;rfl)|(apply Ac.AZ;rfl)|(intro _;try (exfalso;omega)))
  all_goals try (exfalso;omega)
  all_goals try contradiction
  refine Ah.normal ⟨(fun j hj=>h2 j (by omega)),by first|omega|decide,?_,?_⟩
  ·exact EJ
  ·exact FM
 ·intro hok
  by_cases h4:r.cp / 2 ^ o.Ku.length=0
  ·by_cases h5:r.off / 2 ^ o.AU.length=0
   ·rw [if_neg (by omega)]
    repeat' (first|apply Ac.assoc|apply Ac.Ak|apply Ac.Ai|apply Ac.Bl|apply Au.normal|apply Ap.exit|apply Ah.exit|apply Ac.ret|apply Ad.nil|apply Ad.one|(apply Ad.take;rfl;rfl)|(apply Ad.guard;rfl;rfl)|(apply Aa.assign;rfl)|(apply Aa.move;rfl)|(apply Aa.int;rfl;rfl;rfl)|(apply Aa.load;rfl;rfl)|(apply Aa.AL;rfl;rfl)|(apply Aa.CX;rfl;rfl)|(apply Aa.Aw;rfl;rfl;rfl)|(apply Aa.qJ;rfl;rfl;(simp only [IntKind.bits];omega))|(apply Ac.Ae;rfl)|(intro _;try (exfalso;omega)))
    all_goals first|(exfalso;omega)|contradiction|(refine Done.rt rfl rfl ⟨?_,rfl,rfl⟩;try rfl)
   ·rw [if_pos (.inr h5)]
    repeat' (first|apply Ac.assoc|apply Ac.Ak|apply Ac.BL|apply Ac.Bl|apply Au.normal|apply Ap.exit|apply Ah.exit|apply Ad.nil|apply Ad.one|(apply Ad.take;rfl;rfl)|(apply Ad.guard;rfl;rfl)|(apply Aa.assign;rfl)|(apply Aa.move;rfl)|(apply Aa.int;rfl;rfl;rfl)|(apply Aa.load;rfl;rfl)|(apply Aa.AL;rfl;rfl)|(apply Aa.CX;rfl;rfl)|(apply Aa.Aw;rfl;rfl;rfl)|(apply Aa.qJ;rfl;rfl;(simp only [IntKind.bits];omega))|(apply Ac.Ae;rfl)|(intro _;try (exfalso;omega)))
    all_goals first|(exfalso;omega)|contradiction|(refine Done.rt rfl rfl ⟨?_,rfl,rfl⟩;try rfl)
  ·rw [if_pos (.inl h4)]
   repeat' (first|apply Ac.assoc|apply Ac.Ak|apply Ac.BL|apply Ac.Bl|apply Au.normal|apply Ap.exit|apply Ah.exit|apply Ad.nil|apply Ad.one|(apply Ad.drop;rfl;rfl;rfl)|(apply Ad.guard;rfl;rfl)|(apply Aa.assign;rfl)|(apply Aa.move;rfl)|(apply Aa.int;rfl;rfl;rfl)|(apply Aa.load;rfl;rfl)|(apply Aa.Bc;rfl;rfl)|(apply Aa.CX;rfl;rfl)|(apply Aa.Aw;rfl;rfl;rfl)|(apply Aa.qJ;rfl;rfl;(simp only [IntKind.bits];omega))|(apply Ac.Bf;rfl)|(apply Ac.Ae;rfl)|(intro _;try (exfalso;omega)))
   all_goals first|(exfalso;omega)|contradiction|(refine Done.rt rfl rfl ⟨?_,rfl,rfl⟩;try rfl)
theorem uJ {l:List Int} (h:Qn l=0):2≤l.length:=by
 unfold Qn at h
 split at h
 ·exact absurd h (by decide)
 ·omega
theorem Qs (o:IV) (p:F7) (ho:Ry o) (hp:Yk p):AB env 31 [.agg (Enc.enc o),.agg (Enc.enc p)] (.p (.int .i64 (Y8 o p))):=by
 have hc:=VI o ho
 have hb:=vY p.bars hp.bars
 have b3:=hp.sets
 unfold Y8 ZL
 refine AB.enter (Aj (by decide)) Tryz.func31 rfl (by kernel_rfl) (by simp [Tryz.ntmps31]) ?_
 by_cases e1:YS o=0
 case neg =>
  rw [if_pos e1]
  repeat' (first|apply Ac.assoc|apply Ac.Ak|apply Ac.BL|apply Ad.nil|apply Ad.one|(apply Aa.fn;rfl;rfl;exact hc;intro _;rfl)|(apply Aa.assign;rfl)|(apply Aa.move;rfl)|(apply Aa.int;rfl;rfl;rfl)|(apply Aa.load;rfl;rfl)|(apply Aa.box;rfl;trivial)|(apply Ac.Ae;rfl)|(intro _;try (exfalso;omega)))
  all_goals first|(exfalso;omega)|contradiction|(refine Done.rt rfl rfl ⟨?_,rfl,rfl⟩;try rfl)
 rw [if_neg (fun h=>h e1)]
 rw [e1] at hc
 have k1:=b2q ho e1
 have d1:=k1.AU
 by_cases e2:Qn p.bars=0
 case neg =>
  rw [if_pos e2]
  repeat' (first|apply Ac.assoc|apply Ac.Ak|apply Ac.Ai|apply Ac.BL|apply Ad.nil|apply Ad.one|(apply Aa.fn;rfl;rfl;exact hc;intro _;rfl)|(apply Aa.fn;rfl;rfl;exact hb;intro _;rfl)|(apply Aa.assign;rfl)|(apply Aa.move;rfl)|(apply Aa.int;rfl;rfl;rfl)|(apply Aa.load;rfl;rfl)|(apply Aa.Aw;rfl;rfl;rfl)|(apply Aa.box;rfl;trivial)|(apply Ac.Aq;rfl)|(apply Ac.Ae;rfl)|(intro _;try (exfalso;omega)))
  all_goals first|(exfalso;omega)|contradiction|(refine Done.rt rfl rfl ⟨?_,rfl,rfl⟩;try rfl)
 rw [if_neg (fun h=>h e2)]
 rw [e2] at hb
 have h2:=uJ e2
 have hn:=oV o p hp h2 (by omega)
 by_cases e3:p.notes.length>1000
 ·rw [if_pos e3] at hn
  rw [if_pos e3]
  repeat' (first|apply Ac.assoc|apply Ac.Ak|apply Ac.Ai|apply Ac.BL|apply Ad.nil|apply Ad.one|(apply Aa.fn;rfl;rfl;exact hc;intro _;rfl)|(apply Aa.fn;rfl;rfl;exact hb;intro _;rfl)|(apply Aa.fn;rfl;rfl;exact hn;intro _;rfl)|(apply Aa.assign;rfl)|(apply Aa.move;rfl)|(apply Aa.int;rfl;rfl;rfl)|(apply Aa.load;rfl;rfl)|(apply Aa.Aw;rfl;rfl;rfl)|(apply Aa.box;rfl;trivial)|(apply Ac.Bf;rfl)|(apply Ac.Aq;rfl))
  all_goals first|(exfalso;omega)|contradiction|(refine Done.rt rfl rfl ⟨?_,rfl,rfl⟩;try rfl)
 rw [if_neg e3] at hn
 rw [if_neg e3]
 by_cases e4:GN o (NG p) (OH p) p.notes 0=0
 case neg =>
  rw [if_pos e4]
  repeat' (first|apply Ac.assoc|apply Ac.Ak|apply Ac.Ai|apply Ac.BL|apply Ad.nil|apply Ad.one|(apply Aa.fn;rfl;rfl;exact hc;intro _;rfl)|(apply Aa.fn;rfl;rfl;exact hb;intro _;rfl)|(apply Aa.fn;rfl;rfl;exact hn;intro _;rfl)|(apply Aa.assign;rfl)|(apply Aa.move;rfl)|(apply Aa.int;rfl;rfl;rfl)|(apply Aa.load;rfl;rfl)|(apply Aa.Aw;rfl;rfl;rfl)|(apply Aa.box;rfl;trivial)|(apply Ac.Aq;rfl)|(apply Ac.Ae;rfl)|(intro _;try (exfalso;omega)))
  all_goals first|(exfalso;omega)|contradiction|(refine Done.rt rfl rfl ⟨?_,rfl,rfl⟩;try rfl)
 rw [if_neg (fun h=>h e4)]
 rw [e4] at hn
 by_cases e5:p.sets.length>100
 ·rw [if_pos e5]
  repeat' (first|apply Ac.assoc|apply Ac.Ak|apply Ac.Ai|apply Ac.BL|apply Ad.nil|apply Ad.one|(apply Aa.fn;rfl;rfl;exact hc;intro _;rfl)|(apply Aa.fn;rfl;rfl;exact hb;intro _;rfl)|(apply Aa.fn;rfl;rfl;exact hn;intro _;rfl)|(apply Aa.assign;rfl)|(apply Aa.move;rfl)|(apply Aa.int;rfl;rfl;rfl)|(apply Aa.load;rfl;rfl)|(apply Aa.CX;rfl;rfl)|(apply Aa.Aw;rfl;rfl;rfl)|(apply Aa.box;rfl;trivial)|(apply Ac.Aq;rfl)|(apply Ac.Ae;rfl)|(intro _;try (exfalso;omega)))
  all_goals first|(exfalso;omega)|contradiction|(refine Done.rt rfl rfl ⟨?_,rfl,rfl⟩;try rfl)
 rw [if_neg e5]
 have b1:=hp.bars
 obtain ⟨E,hE⟩:∃ E,E=NM o p.bars.length p.sets 0:=⟨_,rfl⟩
 rw [← hE]
 repeat' (first|apply Ac.assoc|apply Ac.Ak|apply Ac.Ai|apply Ac.Ag|apply Ad.nil|apply Ad.one|(apply Aa.fn;rfl;rfl;exact hc;intro _;rfl)|(apply Aa.fn;rfl;rfl;exact hb;intro _;rfl)|(apply Aa.fn;rfl;rfl;exact hn;intro _;rfl)|(apply Aa.assign;rfl)|(apply Aa.move;rfl)|(apply Aa.int;rfl;rfl;rfl)|(apply Aa.load;rfl;rfl)|(apply Aa.CX;rfl;rfl)|(apply Aa.Aw;rfl;rfl;rfl)|(apply Aa.box;rfl;trivial)|(apply Ac.Aq;rfl)|(apply Ac.Ae;rfl)|(intro _;try (exfalso;omega)))
 all_goals try (exfalso;omega)
 all_goals try contradiction
 apply Ac.G9 (p.sets.length) (fun k=>NM o p.bars.length p.sets k=E) [(2,_),(3,_),(33,_),(34,_)] [(0,_),(1,_)] (fun k r=>(35,.p (.int .i64 (k:Int)))::r) (fun k r=>r) 2
 ·first|omega|decide
 ·first|omega|decide
 ·exact Rz
 ·exact VZ
 ·first|(intro _ _;omega)|omega|trivial
 ·intro k hk hi
  have e:=WW (o:=o) (nb:=p.bars.length) hk
  have hr:=vT o k1 (gi p.sets k).reg (hp.reg k hk)
  have hkc:0<k→(k:Int)-1=((k-1:Nat):Int):=fun h=>by omega
  unfold Lu at e
  by_cases h1:(gi p.sets k).bar<0∨(gi p.sets k).bar≥(p.bars.length:Int)-1
  ·rw [if_pos h1,if_pos (by decide)] at e
   rw [← hi,e]
   repeat' (first|apply Ac.Ak|apply Ac.Ai|apply Ac.Ag|apply Au.ret|apply Ap.ret|apply Ah.ret|apply Ac.ret|apply Ad.nil|apply Ad.one|(apply Ad.take;rfl;rfl)|(apply Ad.drop;rfl;rfl;rfl)|(apply Ad.guard;rfl;rfl)|(apply Aa.assign;rfl)|(apply Aa.move;rfl)|(apply Aa.Jv;rfl;rfl;omega)|(apply Aa.int;rfl;rfl;rfl)|(apply Aa.AP;rfl;rfl;rfl;omega;rfl)|(apply Aa.load;rfl;rfl)|(apply Aa.Bc;rfl;rfl)|(apply Aa.AL;rfl;rfl)|(apply Aa.CX;rfl;rfl)|(apply Aa.Aw;rfl;rfl;rfl)|(apply Aa.alloc;rfl)|(apply Aa.Bd;rfl;rfl;rfl;trivial;rfl;rfl;exact Az rfl;exact le_dec rfl)|(apply Ac.Ae;rfl)|(apply Ac.cond_true;rfl)|(apply Ac.AZ;rfl)|(intro _;try (exfalso;omega)))
   all_goals first|(exfalso;omega)|(refine Done.rt rfl rfl ⟨?_,rfl,rfl⟩;try rfl)
  rw [if_neg h1] at e
  by_cases h3:0<k∧(gi p.sets k).bar=(gi p.sets (k-1)).bar
  ·rw [if_pos h3,if_pos (by decide)] at e
   rw [← hi,e]
   repeat' (first|apply Ac.Ak|apply Ac.Dq|apply Ac.Ai|apply Ac.Ag|apply Au.ret|apply Ap.ret|apply Ah.ret|apply Ac.ret|apply Ad.nil|apply Af.nil|apply Ad.one|(apply Af.bar;decide +kernel)|(apply Ad.take;rfl;rfl)|(apply Af.FK;rfl;rfl)|(apply Ad.guard;rfl;rfl)|(apply Af.guard;rfl;rfl)|(apply Aa.AP (l:=p.sets) (i:=k-1);rfl;exact congrArg (fun b=>some (PV.p (.int .i64 b))) (hkc h3.1);rfl;omega;rfl)|(apply Aa.assign;rfl)|(apply Aa.move;rfl)|(apply Aa.Jv;rfl;rfl;omega)|(apply Aa.int;rfl;rfl;rfl)|(apply Aa.AP;rfl;rfl;rfl;omega;rfl)|(apply Aa.load;rfl;rfl)|(apply Aa.Bc;rfl;rfl)|(apply Aa.AL;rfl;rfl)|(apply Aa.CX;rfl;rfl)|(apply Aa.Aw;rfl;rfl;rfl)|(apply Aa.GY;rfl;rfl)|(apply Aa.alloc;rfl)|(apply Aa.Bd;rfl;rfl;rfl;trivial;rfl;rfl;exact Az rfl;exact le_dec rfl)|(apply Ac.Ae;rfl)|(apply Ac.AZ;rfl)|(intro _;try (exfalso;omega)))
   all_goals first|(exfalso;omega)|(refine Done.rt rfl rfl ⟨?_,rfl,rfl⟩;try rfl)
  rw [if_neg h3] at e
  by_cases h4:0<k∧(gi p.sets k).bar<(gi p.sets (k-1)).bar
  ·rw [if_pos h4,if_pos (by decide)] at e
   rw [← hi,e]
   repeat' (first|apply Ac.Ak|apply Ac.Dq|apply Ac.Ai|apply Ac.Ag|apply Au.ret|apply Ap.ret|apply Ah.ret|apply Ac.ret|apply Ad.nil|apply Af.nil|apply Ad.one|(apply Af.bar;decide +kernel)|(apply Ad.take;rfl;rfl)|(apply Af.FK;rfl;rfl)|(apply Ad.guard;rfl;rfl)|(apply Af.guard;rfl;rfl)|(apply Aa.AP (l:=p.sets) (i:=k-1);rfl;exact congrArg (fun b=>some (PV.p (.int .i64 b))) (hkc h4.1);rfl;omega;rfl)|(apply Aa.assign;rfl)|(apply Aa.move;rfl)|(apply Aa.Jv;rfl;rfl;omega)|(apply Aa.int;rfl;rfl;rfl)|(apply Aa.AP;rfl;rfl;rfl;omega;rfl)|(apply Aa.load;rfl;rfl)|(apply Aa.Bc;rfl;rfl)|(apply Aa.AL;rfl;rfl)|(apply Aa.CX;rfl;rfl)|(apply Aa.Aw;rfl;rfl;rfl)|(apply Aa.GY;rfl;rfl)|(apply Aa.alloc;rfl)|(apply Aa.Bd;rfl;rfl;rfl;trivial;rfl;rfl;exact Az rfl;exact le_dec rfl)|(apply Ac.Ae;rfl)|(apply Ac.AZ;rfl)|(intro _;try (exfalso;omega)))
   all_goals first|(exfalso;omega)|(refine Done.rt rfl rfl ⟨?_,rfl,rfl⟩;try rfl)
  rw [if_neg h4] at e
  by_cases h5:V5 o (gi p.sets k).reg=0
  case neg =>
   rw [if_pos h5] at e
   rw [← hi,e]
   by_cases h0:k=0
   ·repeat' (first|apply Ac.Ak|apply Ac.Dq|apply Ac.Ai|apply Ac.Ag|apply Au.normal|apply Au.ret|apply Ap.normal|apply Ap.ret|apply Ah.ret|apply Ac.ret|apply Ac.skip|apply Ad.nil|apply Af.nil|apply Ad.one|(apply Af.bar;decide +kernel)|(apply Ad.take;rfl;rfl)|(apply Af.drop;rfl;rfl;rfl)|(apply Ad.guard;rfl;rfl)|(apply Af.guard;rfl;rfl)|(apply Aa.fn;rfl;rfl;exact hr;intro _;rfl)|(apply Aa.assign;rfl)|(apply Aa.move;rfl)|(apply Aa.Jv;rfl;rfl;omega)|(apply Aa.int;rfl;rfl;rfl)|(apply Aa.AP;rfl;rfl;rfl;omega;rfl)|(apply Aa.load;rfl;rfl)|(apply Aa.AL;rfl;rfl)|(apply Aa.CX;rfl;rfl)|(apply Aa.Aw;rfl;rfl;rfl)|(apply Aa.alloc;rfl)|(apply Aa.Bd;rfl;rfl;rfl;trivial;rfl;rfl;exact Az rfl;exact le_dec rfl)|(apply Ac.Ae;rfl)|(apply Ac.cond_false;rfl)|(apply Ac.AZ;rfl)|(intro _;try (exfalso;omega)))
    all_goals first|(exfalso;omega)|contradiction|(refine Done.rt rfl rfl ⟨?_,rfl,rfl⟩;try rfl)
   ·repeat' (first|apply Ac.Ak|apply Ac.Dq|apply Ac.Ai|apply Ac.Ag|apply Au.normal|apply Au.ret|apply Ap.normal|apply Ap.ret|apply Ah.ret|apply Ac.ret|apply Ac.skip|apply Ad.nil|apply Af.nil|apply Ad.one|(apply Af.bar;decide +kernel)|(apply Ad.take;rfl;rfl)|(apply Af.FK;rfl;rfl)|(apply Ad.guard;rfl;rfl)|(apply Af.guard;rfl;rfl)|(apply Aa.fn;rfl;rfl;exact hr;intro _;rfl)|(apply Aa.AP (l:=p.sets) (i:=k-1);rfl;exact congrArg (fun b=>some (PV.p (.int .i64 b))) (hkc (by omega));rfl;omega;rfl)|(apply Aa.assign;rfl)|(apply Aa.move;rfl)|(apply Aa.Jv;rfl;rfl;omega)|(apply Aa.int;rfl;rfl;rfl)|(apply Aa.AP;rfl;rfl;rfl;omega;rfl)|(apply Aa.load;rfl;rfl)|(apply Aa.Bc;rfl;rfl)|(apply Aa.AL;rfl;rfl)|(apply Aa.CX;rfl;rfl)|(apply Aa.Aw;rfl;rfl;rfl)|(apply Aa.GY;rfl;rfl)|(apply Aa.alloc;rfl)|(apply Aa.Bd;rfl;rfl;rfl;trivial;rfl;rfl;exact Az rfl;exact le_dec rfl)|(apply Ac.Ae;rfl)|(apply Ac.AZ;rfl)|(intro _;try (exfalso;omega)))
    all_goals first|(exfalso;omega)|contradiction|(refine Done.rt rfl rfl ⟨?_,rfl,rfl⟩;try rfl)
  rw [if_neg (fun h=>h h5)] at e
  rw [h5] at hr
  by_cases h0:k=0
  ·repeat' (first|apply Ac.Ak|apply Ac.Dq|apply Ac.region|apply Ac.Ai|apply Ac.Ag|apply Au.normal|apply Ap.normal|apply Ac.skip|apply Ad.nil|apply Af.nil|apply Ad.one|(apply Af.bar;decide +kernel)|(apply Ad.take;rfl;rfl)|(apply Af.drop;rfl;rfl;rfl)|(apply Ad.guard;rfl;rfl)|(apply Af.guard;rfl;rfl)|(apply Aa.fn;rfl;rfl;exact hr;intro _;rfl)|(apply Aa.assign;rfl)|(apply Aa.move;rfl)|(apply Aa.BU;rfl;rfl;omega)|(apply Aa.Jv;rfl;rfl;omega)|(apply Aa.int;rfl;rfl;rfl)|(apply Aa.AP;rfl;rfl;rfl;omega;rfl)|(apply Aa.load;rfl;rfl)|(apply Aa.AL;rfl;rfl)|(apply Aa.CX;rfl;rfl)|(apply Aa.Aw;rfl;rfl;rfl)|(apply Aa.alloc;rfl)|(apply Aa.Bd;rfl;rfl;rfl;trivial;rfl;rfl;exact Az rfl;exact le_dec rfl)|(apply Ac.Ae;rfl)|(apply Ac.cond_false;rfl)|(apply Ac.AZ;rfl)|(intro _;try (exfalso;omega)))
   all_goals try (exfalso;omega)
   all_goals try contradiction
   refine Ah.normal ⟨(e.symm.trans hi),by first|omega|decide,?_,?_⟩
   ·exact EJ
   ·exact FM
  ·repeat' (first|apply Ac.Ak|apply Ac.Dq|apply Ac.region|apply Ac.Ai|apply Ac.Ag|apply Au.normal|apply Ap.normal|apply Ac.skip|apply Ad.nil|apply Af.nil|apply Ad.one|(apply Af.bar;decide +kernel)|(apply Ad.take;rfl;rfl)|(apply Af.FK;rfl;rfl)|(apply Ad.guard;rfl;rfl)|(apply Af.guard;rfl;rfl)|(apply Aa.fn;rfl;rfl;exact hr;intro _;rfl)|(apply Aa.AP (l:=p.sets) (i:=k-1);rfl;exact congrArg (fun b=>some (PV.p (.int .i64 b))) (hkc (by omega));rfl;omega;rfl)|(apply Aa.assign;rfl)|(apply Aa.move;rfl)|(apply Aa.BU;rfl;rfl;omega)|(apply Aa.Jv;rfl;rfl;omega)|(apply Aa.int;rfl;rfl;rfl)|(apply Aa.AP;rfl;rfl;rfl;omega;rfl)|(apply Aa.load;rfl;rfl)|(apply Aa.Bc;rfl;rfl)|(apply Aa.AL;rfl;rfl)|(apply Aa.CX;rfl;rfl)|(apply Aa.Aw;rfl;rfl;rfl)|(apply Aa.GY;rfl;rfl)|(apply Aa.alloc;rfl)|(apply Aa.Bd;rfl;rfl;rfl;trivial;rfl;rfl;exact Az rfl;exact le_dec rfl)|(apply Ac.Ae;rfl)|(apply Ac.cond_false;rfl)|(apply Ac.AZ;rfl)|(intro _;try (exfalso;omega)))
   all_goals try (exfalso;omega)
   all_goals try contradiction
   refine Ah.normal ⟨(e.symm.trans hi),by first|omega|decide,?_,?_⟩
   ·exact EJ
   ·exact FM
 ·intro hi
  rw [vg] at hi
  rw [← hi]
  repeat' (first|apply Ac.Ak|apply Ac.Bl|apply Au.normal|apply Ap.exit|apply Ah.exit|apply Ac.ret|apply Ad.nil|apply Ad.one|(apply Aa.assign;rfl)|(apply Aa.int;rfl;rfl;rfl)|(apply Ac.Ae;rfl)|(intro _;try (exfalso;omega)))
  all_goals first|(exfalso;omega)|(refine Done.rt rfl rfl ⟨?_,rfl,rfl⟩;try rfl)
end
section
open Go Go.Am Go.Vm Go.Pie
attribute [local irreducible] Aa Ad Af Ac Ba AB BG Au Ap Ah Vm.Done BQ AY
attribute [local irreducible] CV Bq Eh DY Ez BH
noncomputable def atE (o:IV) (p:F7) (t:Int):Int:=if Y8 o p≠0 then Y8 o p else if t<NG p∨t≥OH p then 3 else 0
end
section
open Go Go.Am Go.Vm
attribute [local irreducible] Aa Ad Af Ac Ba AB BG Au Ap Ah Vm.Done BQ AY
def b2y (o:IV):Rgs:=⟨List.replicate o.AU.length 0,0,0⟩
def b3k (o:IV) (k:Nat):Nat:=2 ^ (gi o.AU k).stops.length-1
def b8k (o:IV):Rgs:=⟨a7k (b3k o) (List.replicate o.AU.length 0) o.AU.length,2 ^ o.Ku.length-1,0⟩
def b8h (r:Rgs) (d s:Nat):Rgs:=⟨r.stops.set d (gi r.stops d ||| 2 ^ s),r.cp,r.off⟩
def a9c (a b:Rgs) (k:Nat):Nat:=gi a.stops k ||| gi b.stops k
def b7o (a b:Rgs):Rgs:=⟨a7k (a9c a b) a.stops a.stops.length,a.cp ||| b.cp,a.off ||| b.off⟩
end
section
open Go Go.Am Go.Vm Go.Pie
attribute [local irreducible] Aa Ad Af Ac Ba AB BG Au Ap Ah Vm.Done BQ AY
attribute [local irreducible] CV Bq Eh DY Ez BH
def VW (p:F7) (t:Int) (i:Nat):Bool:=decide ((gi p.notes i).s≤t)&&decide (t<(gi p.notes i).e)
def Jr (p:F7) (t:Int):Nat→List Int
 |0=>[]
 |k+1=>if VW p t k=true then Jr p t k++[(k:Int)] else Jr p t k
def snd (p:F7) (t:Int):List Int:=Jr p t p.notes.length
theorem RZ (p:F7) (t:Int):∀ k,(Jr p t k).length≤k
 |0=>Nat.le_refl _
 |k+1=>by
  have:=RZ p t k
  unfold Jr
  split
  ·simp;omega
  ·omega
theorem jH (p:F7) (hp:Yk p) (t:Int):BG env 50 [.agg (Enc.enc p),.int .i64 t] 3 (cells (snd p t)) (snd p t).length true:=by
 refine BG.enter (Aj (by decide)) Tryz.func50 rfl (by kernel_rfl) (by simp [Tryz.ntmps50]) ?_
 have b1:=hp.notes
 repeat' (first|apply Ac.assoc|apply Ac.Ak|apply Ac.Ag|apply Ad.nil|apply Ad.one|(apply Aa.assign;rfl)|(apply Aa.move;rfl)|(apply Aa.load;rfl;rfl)|(apply Aa.CX;rfl;rfl)|(apply Aa.Aw;rfl;rfl;rfl)|(apply Aa.box;rfl;trivial))
 all_goals try (exfalso;omega)
 refine Ac.ghost (Bo.adopt 5 3 rfl) ?_
 apply Ac.Kt (p.notes.length) [(1,_),(9,_),(10,_)] [(0,_)] (fun k r=>(11,.p (.int .i64 (k:Int)))::(5,.vec 1 (Jr p t k).length 0 (Jr p t k).length)::r) (fun k r=>(1,.vec 3 (cells (Jr p t k)) (Jr p t k).length true)::r) 2
 ·first|omega|decide
 ·first|omega|decide
 ·exact Rz
 ·exact VZ
 ·intro k hk
  have hl:=RZ p t k
  have e1:Jr p t (k+1)=if VW p t k=true then Jr p t k++[(k:Int)] else Jr p t k:=rfl
  by_cases h1:(gi p.notes k).s≤t∧t<(gi p.notes k).e
  ·have hb:VW p t k=true:=by unfold VW;rw [decide_eq_true h1.1,decide_eq_true h1.2];rfl
   rw [if_pos hb] at e1
   have e2:(Jr p t (k+1)).length=(Jr p t k).length+1:=by rw [e1];simp
   repeat' (first|apply Ac.Ak|apply Ac.region|apply Ac.Ai|apply Ac.Ag|apply Au.normal|apply Ap.normal|apply Ad.nil|apply Ad.one|(apply Ad.take;rfl;rfl)|(apply Ad.guard;rfl;rfl)|(apply Aa.MO (a:=(k:Int));rfl;rfl;rfl;rfl;rfl;rfl;rfl;rfl;(intro _ h;cases h);rfl;rfl;rfl;decide;decide;(first|omega|(simp only [List.length_take,List.length_drop,List.length_append,List.length_singleton,List.length_cons,List.length_nil]<;>omega)))|(apply Aa.assign;rfl)|(apply Aa.move;rfl)|(apply Aa.BU;rfl;rfl;omega)|(apply Aa.int;rfl;rfl;rfl)|(apply Aa.AP;rfl;rfl;rfl;omega;rfl)|(apply Aa.load;rfl;rfl)|(apply Aa.Bc;rfl;rfl)|(apply Aa.Aw;rfl;rfl;rfl)|(apply Aa.alloc;rfl)|(apply Aa.Bd;rfl;rfl;rfl;trivial;rfl;rfl;exact Az rfl;exact le_dec rfl)|(apply Aa.buildSlice;rfl;rfl;rfl;decide;rfl;rfl;rfl)|(apply Ac.Ae;rfl)|(apply Ac.AZ;rfl)|(intro _;try (exfalso;omega)))
   all_goals try (exfalso;omega)
   refine Ah.normal ⟨by first|omega|decide,?_,?_⟩
   ·try (first|rw [e2,e1]|rw [e2])
    exact EJ
   ·first|rw [e2,e1]|rw [e2]
    exact FM
  ·have hb:¬ VW p t k=true:=by
    unfold VW
    intro h
    rw [Bool.and_eq_true,decide_eq_true_iff,decide_eq_true_iff] at h
    exact h1 h
   rw [if_neg hb] at e1
   repeat' (first|apply Ac.Ak|apply Ac.region|apply Ac.Ai|apply Ac.Ag|apply Au.normal|apply Ap.normal|apply Ac.skip|apply Ad.nil|apply Ad.one|(apply Ad.take;rfl;rfl)|(apply Ad.drop;rfl;rfl;rfl)|(apply Ad.guard;rfl;rfl)|(apply Aa.assign;rfl)|(apply Aa.move;rfl)|(apply Aa.BU;rfl;rfl;omega)|(apply Aa.int;rfl;rfl;rfl)|(apply Aa.AP;rfl;rfl;rfl;omega;rfl)|(apply Aa.load;rfl;rfl)|(apply Aa.Bc;rfl;rfl)|(apply Aa.AL;rfl;rfl)|(apply Aa.Aw;rfl;rfl;rfl)|(apply Aa.alloc;rfl)|(apply Aa.Bd;rfl;rfl;rfl;trivial;rfl;rfl;exact Az rfl;exact le_dec rfl)|(apply Ac.Ae;rfl)|(apply Ac.cond_false;rfl)|(apply Ac.AZ;rfl)|(intro _;try (exfalso;omega)))
   all_goals try (exfalso;omega)
   all_goals
    refine Ah.normal ⟨by first|omega|decide,?_,?_⟩
    ·try (rw [e1])
     exact EJ
    ·rw [e1]
     exact FM
 ·repeat' (first|apply Ac.Ak|apply Ac.Bl|apply Au.normal|apply Ap.exit|apply Ah.exit|apply Ac.ret|apply Ad.nil|apply Ad.one|(apply Aa.assign;rfl)|(apply Aa.move;rfl)|(apply Aa.int;rfl;rfl;rfl)|(apply Ac.Ae;rfl)|(intro _;try (exfalso;omega)))
  all_goals first|(exfalso;omega)|exact BQ.ret rfl rfl rfl rfl
def b2d (p:F7) (t:Int):Nat→Int
 |0=>-1
 |k+1=>if gi p.bars (gi p.sets k).bar.toNat≤t then (k:Int) else b2d p t k
def wan (p:F7) (t:Int):Int:=b2d p t p.sets.length
def c1u (o:IV) (p:F7) (t:Int):Rgs:=if wan p t<0 then b2y o else (gi p.sets (wan p t).toNat).reg
end
section
open Go Go.Am Go.Vm
attribute [local irreducible] Aa Ad Af Ac Ba AB BG Au Ap Ah Vm.Done BQ AY
structure Jy where
 lo:Nat
 hi:Nat
instance:Enc Jy:={ default:=⟨0,0⟩,enc:=fun x=>[.int .u64 (x.lo:Int),.int .u64 (x.hi:Int)],size:=2,len:=fun _=>rfl }
structure Jy.Ok (s:Jy):Prop where
 lo:s.lo<2 ^ 64
 hi:s.hi<2 ^ 64
def Jy.has (s:Jy) (n:Nat):Bool:=if n<64 then s.lo.testBit n else s.hi.testBit (n-64)
def Gi (s:Jy) (n:Nat):Jy:=if n<64 then ⟨s.lo ||| 2 ^ n,s.hi⟩ else ⟨s.lo,s.hi ||| 2 ^ (n-64)⟩
def pW (a b:Jy):Jy:=⟨a.lo ||| b.lo,a.hi ||| b.hi⟩
def c0z (a b:Jy):Bool:=decide (a.lo ^^^ (a.lo &&& b.lo)=0)&&decide (a.hi ^^^ (a.hi &&& b.hi)=0)
def kK (l:List Int):Nat→Jy
 |0=>⟨0,0⟩
 |k+1=>Gi (kK l k) (gi l k).toNat
def b5l (a:Nat):Nat→Jy
 |0=>⟨0,0⟩
 |k+1=>Gi (b5l a k) (a+k)
theorem Xq {s:Jy} (h:s.Ok) {n:Nat} (hn:n<128):(Gi s n).Ok:=by
 unfold Gi
 split
 ·exact ⟨Nat.or_lt_two_pow h.lo (Nat.pow_lt_pow_right (by omega) (by omega)),h.hi⟩
 ·exact ⟨h.lo,Nat.or_lt_two_pow h.hi (Nat.pow_lt_pow_right (by omega) (by omega))⟩
theorem a2m {a b:Jy} (ha:a.Ok) (hb:b.Ok):(pW a b).Ok:=⟨Nat.or_lt_two_pow ha.lo hb.lo,Nat.or_lt_two_pow ha.hi hb.hi⟩
theorem Rx:(⟨0,0⟩:Jy).Ok:=⟨by simp,by simp⟩
theorem Yq {l:List Int} (h:∀ i,i<l.length→0≤gi l i∧gi l i≤127):∀ k,k≤l.length→(kK l k).Ok
 |0,_=>Rx
 |k+1,hk=>Xq (Yq h k (by omega)) (by have:=h k (by omega);omega)
section
variable {E:Env} {L:Vm.Frame} {H:Vm.Heap} {nx:Nat} {Q:PV→Heap→Nat→Prop} {w:Bool} {dst:Option Tmp} {ty:TypeId} {pos:String} {af:Array Edge} {gd:Option (Nat×Bool)}
theorem b2h {t t2:TypeId} {x y:Operand} {k':IntKind} {n:Int} (m:Nat) (hx:Bh E.Γ L x=some (.p (.int .u64 1))) (hy:Bh E.Γ L y=some (.p (.int k' n))) (hn:n=m∧m<64) (q:Q (.p (.int .u64 ((2 ^ m:Nat):Int))) H nx) :
 Aa E w ⟨dst,.binOp .shl t x y t2,ty,pos,af,gd⟩ L H nx Q:=by
 obtain ⟨rfl,hn⟩:=hn
 exact Aa.a5b hx hy hn q
end
theorem iF (n:Int):AB env 58 [.int .i64 n] (.p (.bool (decide (0≤n∧n≤127)))):=by
 refine AB.enter (Aj (by decide)) Tryz.func58 rfl (by kernel_rfl) (by simp [Tryz.ntmps58]) ?_
 repeat' (first|apply Ac.Ak|apply Ac.ret|apply Ad.nil|apply Ad.one|(apply Ad.take;rfl;rfl)|(apply Ad.drop;rfl;rfl;rfl)|(apply Ad.guard;rfl;rfl)|(apply Aa.assign;rfl)|(apply Aa.move;rfl)|(apply Aa.int;rfl;rfl;rfl)|(apply Aa.Bc;rfl;rfl)|(apply Aa.AL;rfl;rfl)|(intro _;try (exfalso;omega)))
 all_goals (refine Done.rt rfl rfl ⟨?_,rfl,rfl⟩;refine PV.H9 ?_;simp;try omega)
theorem OO (a b:Jy) (ha:a.Ok) (hb:b.Ok):AB env 109 [.agg (Enc.enc a),.agg (Enc.enc b)] (.p (.agg (Enc.enc (pW a b)))):=by
 have a1:=ha.lo
 have a2:=ha.hi
 have b1:=hb.lo
 have b2:=hb.hi
 refine AB.enter (Aj (by decide)) Tryz.func109 rfl (by kernel_rfl) (by simp [Tryz.ntmps109]) ?_
 repeat' (first|apply Ac.Ak|apply Ac.ret|apply Ad.nil|apply Ad.one|(apply Aa.orU;rfl;rfl;omega;omega)|(apply Aa.load;rfl;rfl)|(apply Aa.Aw;rfl;rfl;rfl)|(apply Aa.box;rfl;trivial)|(apply Aa.alloc;rfl)|(apply Aa.Bd;rfl;rfl;rfl;trivial;rfl;rfl;exact Az rfl;exact le_dec rfl)|(apply Aa.build;rfl;rfl;rfl;rfl;rfl))
 all_goals (refine Done.rt rfl rfl ⟨?_,rfl,rfl⟩;try rfl)
theorem qG (s:Jy) (hs:s.Ok) (n:Nat) (hn:n<128):AB env 59 [.agg (Enc.enc s),.int .i64 (n:Int)] (.p (.agg (Enc.enc (Gi s n)))):=by
 have s1:=hs.lo
 have s2:=hs.hi
 unfold Gi
 by_cases h:n<64
 ·have p1:2 ^ n<2 ^ 64:=Nat.pow_lt_pow_right (by omega) h
  rw [if_pos h]
  refine AB.enter (Aj (by decide)) Tryz.func59 rfl (by kernel_rfl) (by simp [Tryz.ntmps59]) ?_
  repeat' (first|apply Ac.assoc|apply Ac.Ak|apply Ac.Dq|apply Ac.ret|apply Ad.nil|apply Af.nil|apply Ad.one|(apply Af.bar;decide +kernel)|apply Af.quiet|(apply b2h n;rfl;rfl;omega)|(apply Aa.move;rfl)|(apply Aa.orU;rfl;rfl;omega;omega)|(apply Aa.int;rfl;rfl;rfl)|(apply Aa.load;rfl;rfl)|(apply Aa.Aw;rfl;rfl;rfl)|(apply Aa.box;rfl;trivial)|(apply Aa.alloc;rfl)|(apply Aa.Bd;rfl;rfl;rfl;trivial;rfl;rfl;exact Az rfl;exact le_dec rfl)|(apply Ac.Ae;rfl)|(intro _;try (exfalso;omega)))
  all_goals first|(exfalso;omega)|(refine Done.rt rfl rfl ⟨?_,rfl,rfl⟩;try rfl)
 ·have p1:2 ^ (n-64)<2 ^ 64:=Nat.pow_lt_pow_right (by omega) (by omega)
  rw [if_neg h]
  refine AB.enter (Aj (by decide)) Tryz.func59 rfl (by kernel_rfl) (by simp [Tryz.ntmps59]) ?_
  repeat' (first|apply Ac.assoc|apply Ac.Ak|apply Ac.Dq|apply Ac.ret|apply Ad.nil|apply Af.nil|apply Ad.one|(apply Af.bar;decide +kernel)|apply Af.quiet|(apply b2h (n-64);rfl;rfl;omega)|(apply Aa.move;rfl)|(apply Aa.Jv;rfl;rfl;omega)|(apply Aa.orU;rfl;rfl;omega;omega)|(apply Aa.int;rfl;rfl;rfl)|(apply Aa.load;rfl;rfl)|(apply Aa.Aw;rfl;rfl;rfl)|(apply Aa.box;rfl;trivial)|(apply Aa.alloc;rfl)|(apply Aa.Bd;rfl;rfl;rfl;trivial;rfl;rfl;exact Az rfl;exact le_dec rfl)|(apply Ac.Ae;rfl)|(intro _;try (exfalso;omega)))
  all_goals first|(exfalso;omega)|(refine Done.rt rfl rfl ⟨?_,rfl,rfl⟩;try rfl)
theorem jo (l:List Int) (hl:l.length<1000000) (h:∀ i,i<l.length→0≤gi l i∧gi l i≤127):AB env 24 [.lst 3 (cells l) l.length] (.Ee [.p (.agg (Enc.enc (kK l l.length))),.p (.int .i64 0)]):=by
 refine AB.enter (Aj (by decide)) Tryz.func24 rfl (by kernel_rfl) (by simp [Tryz.ntmps24]) ?_
 repeat' (first|apply Ac.assoc|apply Ac.Ak|apply Ac.Ag|apply Ad.nil|apply Ad.one|(apply Aa.assign;rfl)|(apply Aa.move;rfl)|(apply Aa.CX;rfl;rfl)|(apply Aa.alloc;rfl))
 apply Ac.Kt (l.length) [(2,_),(4,_),(7,_),(8,_)] [(0,_)] (fun k r=>(9,.p (.int .i64 (k:Int)))::r) (fun k r=>(1,.box 84 ((Enc.enc (kK l k)).map .p))::r) 2
 ·first|omega|decide
 ·first|omega|decide
 ·exact Rz
 ·exact VZ
 ·intro k hk
  have h0:=h k hk
  have h1:=iF (gi l k)
  rw [decide_eq_true h0] at h1
  have h2:=qG (kK l k) (Yq h k (by omega)) (gi l k).toNat (by omega)
  rw [Int.toNat_of_nonneg h0.1] at h2
  repeat' (first|apply Ac.assoc|apply Ac.Ak|apply Ac.region|apply Ac.Ai|apply Ac.Ag|apply Au.normal|apply Ap.normal|apply Ad.nil|apply Ad.one|(apply Aa.fn;rfl;rfl;exact h1;intro _;rfl)|(apply Aa.fn;rfl;rfl;exact h2;intro _;rfl)|(apply Aa.assign;rfl)|(apply Aa.move;rfl)|(apply Aa.BU;rfl;rfl;omega)|(apply Aa.int;rfl;rfl;rfl)|(apply Aa.AP;rfl;rfl;rfl;omega;rfl)|(apply Aa.load;rfl;rfl)|(apply Aa.Bd;rfl;rfl;rfl;trivial;rfl;rfl;exact Az rfl;exact le_dec rfl)|(apply Aa.not;rfl)|(apply Ac.Aq;rfl)|(apply Ac.Ae;rfl)|(intro _;try (exfalso;omega)))
  all_goals try (exfalso;omega)
  refine Ah.normal ⟨by first|omega|decide,?_,?_⟩
  ·exact EJ
  ·exact FM
 ·repeat' (first|apply Ac.Ak|apply Ac.Bl|apply Au.normal|apply Ap.exit|apply Ah.exit|apply Ac.ret|apply Ad.nil|apply Ad.one|(apply Aa.assign;rfl)|(apply Aa.int;rfl;rfl;rfl)|(apply Aa.load;rfl;rfl)|(apply Aa.Bd;rfl;rfl;rfl;trivial;rfl;rfl;exact Az rfl;exact le_dec rfl)|(apply Ac.Ae;rfl)|(intro _;try (exfalso;omega)))
  all_goals first|(exfalso;omega)|(refine Done.rt rfl rfl ⟨?_,rfl,rfl⟩;try rfl)
end
end Go.Proofs.YtnjkoebfgcbbdaaGreatDoor
namespace Go.Vm
open Go.Am
structure b6n where
instance:Enc b6n:={ default:=⟨⟩,enc:=fun _=>[.val (.slice none 0 0)],size:=1,len:=fun _=>rfl }
section
variable {E:Env} {L:Frame} {H:Heap} {nx:Nat}
variable {Q:PV→Heap→Nat→Prop} {dst:Option Tmp} {ty:TypeId} {pos:String} {af:Array Edge} {gd:Option (Nat×Bool)}
theorem Aa.a4u {α:Type} {_:Enc α} {l:List α} (a1 a2:α) {s x:Operand} {sT xT e e2:TypeId} {xd:TypeDesc} {i:TypeInfo} {b b2 n:Nat} {xs:List FV} {z z2:Bool} (hs:Bh E.Γ L s=some (.vec b n 0 n)) (hb:hget H b=some (.vec e (cells l) n z))
 (hx:Bh E.Γ L x=some (.vec b2 2 0 2)) (hb2:hget H b2=some (.vec e2 xs 2 z2)) (hxs:xs=Enc.enc a1++Enc.enc a2) (hn:l.length=n) (qQ:E.P.underlying sT=some (.slice e)) (hxT:E.P.underlying xT=some xd) (hd:∀ k,xd≠.int k) (hi:E.P.info? e=some i)
 (hsz:Enc.size α=i.size) (hzs:Eb i=true) (h0:0<i.size) (hby:i.bytes<1000000) (hlen:l.length<900000) (q:Q (.vec b (l.length+2) 0 (l.length+2)) (hput H b (.vec e (cells (l++[a1,a2])) (l.length+2) z)) nx) :
 Aa E true ⟨dst,.call { callee:=.builtin .append,args:=#[s,x],argTypes:=#[sT,xT] },ty,pos,af,gd⟩ L H nx Q:=by
 subst hn
 have hroom:(l.length+2)*(i.bytes+1)≤room:=Nat.le_trans (Nat.mul_le_mul (by omega:l.length+2≤1000000) (by omega:i.bytes+1≤1000000)) (by decide)
 refine Aa.append (i:=i) hs hb (mD.all hx hb2 (by rw [hxs,List.length_append,Enc.len,Enc.len,← hsz];omega)) qQ hxT hd hi hzs (by omega) hroom (by rw [Dw,hsz]) h0 ?_
 have:cells (l++[a1,a2])=cells l++xs:=by rw [Fh,hxs];simp [cells,encs]
 rw [← this]
 exact q
end
end Go.Vm
namespace Go.Proofs.YtnjkoebfgcbbdaaGreatDoor
section
open Go Go.Am Go.Vm Go.Pie
attribute [local irreducible] Aa Ad Af Ac Ba AB BG Au Ap Ah Vm.Done BQ AY
attribute [local irreducible] CV Bq Eh DY Ez BH CW
instance:Enc (List Int):={ default:=[],enc:=fun l=>[.lst 3 (cells l) l.length],size:=1,len:=fun _=>rfl }
def kdK (p:F7) (L:List Int) (d:Nat):Nat→List Int
 |0=>[]
 |k+1=>if (gi p.notes (gi L k).toNat).d=(d:Int) then kdK p L d k++[(gi p.notes (gi L k).toNat).k] else kdK p L d k
theorem WQ {p:F7} {t:Int}:∀ {k:Nat} {x:Int},x∈Jr p t k→0≤x∧x<k
 |0,x,h=>by cases h
 |k+1,x,h=>by
  unfold Jr at h
  split at h
  ·rcases List.mem_append.1 h with h|h
   ·have:=WQ h;omega
   ·rw [List.mem_singleton] at h;omega
  ·have:=WQ h;omega
theorem gi_mem' {l:List Int} {i:Nat} (h:i<l.length):gi l i∈l:=by
 unfold gi;rw [List.getElem?_eq_getElem h];exact List.getElem_mem h
theorem a9z {p:F7} {t:Int} {i:Nat} (h:i<(snd p t).length):0≤gi (snd p t) i∧gi (snd p t) i<p.notes.length:=WQ (gi_mem' h)
theorem wC.cmp {o:IV} (h:wC o) {i:Nat} (hi:i<o.AU.length):0≤(gi o.AU i).lo∧(gi o.AU i).hi≤127:=by
 have h0:=h.err
 unfold YS at h0
 split at h0
 ·exact absurd h0 (by decide)
 split at h0
 ·exact absurd h0 (by decide)
 split at h0
 ·rename_i h1;exact absurd h0 h1
 split at h0
 ·exact absurd h0 (by decide)
 split at h0
 ·exact absurd h0 (by decide)
 split at h0
 ·rename_i h1;exact absurd h0 h1
 rename_i d3
 have d3:Gx o.ranks o.AU 0=0:=Decidable.byContradiction d3
 have:=Uk _ 0 rfl d3 i (Nat.zero_le _) hi
 unfold DY at this
 split at this
 ·rename_i h1;exact absurd this h1
 rename_i h1
 have h1:=Decidable.byContradiction h1
 unfold UA at h1
 split at h1
 ·exact absurd h1 (by decide)
 omega
def tlK (p:F7) (L:List Int) (k:Nat) (j:Nat):HB:=.vec 3 (cells (kdK p L j k)) (kdK p L j k).length true
def kdV (p:F7) (L:List Int) (nd k:Nat):HB:=.OY 28 ((List.range nd).map fun j=>.vec (4+j) (kdK p L j k).length 0 (kdK p L j k).length) nd
noncomputable def b8t (o:IV) (p:F7) (t:Int):List Jy:=Dt (fun d=>kK (kdK p (snd p t) d (snd p t).length) (kdK p (snd p t) d (snd p t).length).length) o.AU.length
end
section
open Go Go.Am Go.Vm Go.Pie
attribute [local irreducible] Aa Ad Af Ac Ba AB BG Au Ap Ah Vm.Done BQ AY
attribute [local irreducible] CV Bq Eh DY Ez BH CW
instance:Enc Zv:={ default:=⟨0,0,[]⟩,enc:=fun x=>[.int .i64 x.s,.int .i64 x.e,.lst 3 (cells x.notes) x.notes.length],size:=3,len:=fun _=>rfl }
def Rj (p:F7):Nat→List Int
 |0=>[NG p,OH p]
 |k+1=>Rj p k++[(gi p.notes k).s,(gi p.notes k).e]
theorem Wi (p:F7):∀ k,(Rj p k).length=2*k+2
 |0=>rfl
 |k+1=>by
  have:=Wi p k
  unfold Rj
  simp only [List.length_append,List.length_cons,List.length_nil]
  omega
def DN (p:F7):List Int:=Lib.compact ((Rj p p.notes.length).mergeSort fun x y=>decide (x≤y))
theorem VF (zs:List Int):(Lib.compact zs).length≤zs.length:=by
 unfold Lib.compact Lib.compactUpTo
 rw [List.length_map]
 exact Nat.le_trans (List.length_filter_le _ _) (by simp)
theorem uf (p:F7):0<(DN p).length:=by
 have h0:NG p∈DN p:=by
  unfold DN
  rw [OX,List.mem_mergeSort]
  have:∀ k,NG p∈Rj p k:=by
   intro k
   induction k with
   |zero=>simp [Rj]
   |succ k ih=>exact List.mem_append_left _ ih
  exact this _
 exact List.length_pos_of_mem h0
theorem b1q:∀ (m:Mem) (F:Nat→Prop) (us:List Value),Dv m F [] us→us=[]:=fun m F us h=>by cases h;rfl
def BJ (p:F7):List Zv:=xY (snd p) (DN p)
theorem jO {o:IV} {p:F7} (ho:Ry o) (hE:Y8 o p=0) (h:uM o p):AB env 16 [.agg (Enc.enc o),.agg (Enc.enc p)] (.Ee [.p (.lst 81 (cells (BJ p)) (BJ p).length),.p (.int .i64 0)]):=by
 have ha:=Qs o p ho h.sm
 rw [hE] at ha
 have hen:=ZE p (by have:=h.bars;omega) h.sm.bars
 have n1:=h.notes
 have hsn:=jH p h.sm
 refine AB.enter (Aj (by decide)) Tryz.func16 rfl (by kernel_rfl) (by simp [Tryz.ntmps16]) ?_
 repeat' (first|apply Ac.assoc|apply Ac.Ak|apply Ac.Ai|apply Ac.Ag|apply Ad.nil|apply Ad.one|(apply Aa.fn;rfl;rfl;exact ha;intro _;rfl)|(apply Aa.fn;rfl;rfl;exact hen;intro _;rfl)|(apply Aa.assign;rfl)|(apply Aa.move;rfl)|(apply Aa.int;rfl;rfl;rfl)|(apply Aa.load;rfl;rfl)|(apply Aa.CX;rfl;rfl)|(apply Aa.Aw;rfl;rfl;rfl)|(apply Aa.box;rfl;trivial)|(apply Aa.buildSlice;rfl;rfl;rfl;decide;rfl;rfl;rfl)|(apply Aa.extract;rfl;rfl)|(apply Ac.Aq;rfl))
 all_goals try (exfalso;omega)
 all_goals try contradiction
 apply Ac.Kt (p.notes.length) [(3,_),(30,_),(31,_)] [(1,_)] (fun k r=>(32,.p (.int .i64 (k:Int)))::(9,.vec 2 (Rj p k).length 0 (Rj p k).length)::r) (fun k r=>(2,.vec 3 (cells (Rj p k)) (Rj p k).length false)::r) 3
 ·first|omega|decide
 ·first|omega|decide
 ·exact Rz
 ·exact VZ
 ·intro k hk
  have hl:=Wi p k
  have e1:Rj p (k+1)=Rj p k++[(gi p.notes k).s,(gi p.notes k).e]:=rfl
  have e2:(Rj p (k+1)).length=(Rj p k).length+2:=by rw [e1];simp
  repeat' (first|apply Ac.Ak|apply Ac.region|apply Ac.Ai|apply Ac.Ag|apply Au.normal|apply Ap.normal|apply Ad.nil|apply Ad.one|(apply Aa.a4u (l:=Rj p k) (gi p.notes k).s (gi p.notes k).e;rfl;rfl;rfl;rfl;rfl;rfl;rfl;rfl;(intro _ h;cases h);rfl;rfl;rfl;decide;decide;omega)|(apply Aa.assign;rfl)|(apply Aa.move;rfl)|(apply Aa.BU;rfl;rfl;omega)|(apply Aa.int;rfl;rfl;rfl)|(apply Aa.AP;rfl;rfl;rfl;omega;rfl)|(apply Aa.load;rfl;rfl)|(apply Aa.Aw;rfl;rfl;rfl)|(apply Aa.alloc;rfl)|(apply Aa.Bd;rfl;rfl;rfl;trivial;rfl;rfl;exact Az rfl;exact le_dec rfl)|(apply Aa.buildSlice;rfl;rfl;rfl;decide;rfl;rfl;rfl)|(apply Ac.Ae;rfl)|(intro _;try (exfalso;omega)))
  all_goals try (exfalso;omega)
  refine Ah.normal ⟨by first|omega|decide,?_,?_⟩
  ·try (first|rw [e2,e1]|rw [e2])
   exact EJ
  ·first|rw [e2,e1]|rw [e2]
   exact FM
 ·have hl:=Wi p p.notes.length
  obtain ⟨zs,hzs⟩:∃ zs,zs=Rj p p.notes.length:=⟨_,rfl⟩
  have hcl:=VF ((Rj p p.notes.length).mergeSort fun x y=>decide (x≤y))
  have hml:((Rj p p.notes.length).mergeSort fun x y=>decide (x≤y)).length=(Rj p p.notes.length).length:=List.length_mergeSort _
  have htp:=uf p
  have htc:((DN p).length:Int)-1=(((DN p).length-1:Nat):Int):=by omega
  rw [show Lib.compact ((Rj p p.notes.length).mergeSort fun x y=>decide (x≤y))=DN p from rfl] at hcl
  repeat' (first|(refine Ac.at 14 ?_;refine Ac.ghost (Bo.freeze 9 rfl rfl) ?_;first|apply Ac.Ak|apply Ac.Dq)|apply Ac.assoc|apply Ac.Ak|apply Ac.Bl|apply Ac.Ag|apply Au.normal|apply Ap.exit|apply Ah.exit|apply Ad.nil|apply Ad.one|((refine Aa.b2r (Fn:=bf) (zs':=(Rj p p.notes.length).mergeSort fun x y=>decide (x≤y)) a2s rfl rfl rfl (rest:=[]) (rv:=[]) b1q rfl rfl (by omega) ?_ (by omega) ?_;(simp only [bf];rw [if_pos (by omega)])))|((refine Aa.b0t (Fn:=aG) (zs:=(Rj p p.notes.length).mergeSort fun x y=>decide (x≤y)) (zs':=DN p++List.replicate ((Rj p p.notes.length).length-(DN p).length) 0) (k:=(DN p).length) a4c rfl rfl rfl (rest:=[]) (rv:=[]) b1q rfl hml (by omega) ?_ (by simp;omega) (by omega) ?_;(simp only [aG];rw [if_pos (by omega),hml];rfl);rw [List.take_left]))|(apply Aa.sliceTo (b:=(DN p).length-1);rfl;exact congrArg (fun b=>some (PV.p (.int .i64 b))) htc;rfl;rfl;rfl;rfl;omega)|(apply Aa.assign;rfl)|(apply Aa.move;rfl)|(apply Aa.Jv;rfl;rfl;omega)|(apply Aa.int;rfl;rfl;rfl)|(apply Aa.CX;rfl;rfl)|(apply Ac.Ae;rfl)|(intro _;try (exfalso;omega)))
  all_goals try (exfalso;omega)
  refine Ac.ghost (Bo.adopt 12 81 rfl) ?_
  obtain ⟨F,hF⟩:∃ F:Nat→Zv,F=fun i=>⟨gi (DN p) i,gi (DN p) (i+1),snd p (gi (DN p) i)⟩:=⟨_,rfl⟩
  have hR:BJ p=Dt F ((DN p).length-1):=by rw [hF];rfl
  rw [hR]
  apply Ac.Kt ((DN p).length-1) [(3,_),(9,_),(52,_),(53,_)] [(1,_)] (fun k r=>(54,.p (.int .i64 (k:Int)))::(12,.vec 4 (Dt F k).length 0 (Dt F k).length)::r) (fun k r=>(4,.vec 81 (cells (Dt F k)) (Dt F k).length true)::r) 5
  ·first|omega|decide
  ·first|omega|decide
  ·exact Rz
  ·exact VZ
  ·intro k hk
   have hlF:=Dn F k
   have hFk:F k=⟨gi (DN p) k,gi (DN p) (k+1),snd p (gi (DN p) k)⟩:=by rw [hF]
   have e1:Dt F (k+1)=Dt F k++[⟨gi (DN p) k,gi (DN p) (k+1),snd p (gi (DN p) k)⟩]:=by rw [← hFk];rfl
   have e2:(Dt F (k+1)).length=(Dt F k).length+1:=by rw [e1];simp
   have hg:gi ((DN p).take ((DN p).length-1)) k=gi (DN p) k:=Wx hk
   have hk1:(k:Int)+1=((k+1:Nat):Int):=by omega
   have hs:=hsn (gi (DN p) k)
   repeat' (first|(refine Af.atIdx 10 ?_;refine Af.ghost (Bo.freeze 68 rfl rfl) ?_)|(refine Af.atIdx 9 ?_;apply Af.b3r [.tmp 64];decide +kernel;decide +kernel;rfl)|apply Ac.Ak|apply Ac.region|apply Ac.Gv|apply Ac.Ai|apply Ac.Ag|apply Au.normal|apply Ap.normal|apply Ad.nil|apply Af.nil|apply Ad.one|(apply Af.bar;decide +kernel)|apply Af.quiet|(apply Aa.fv;rfl;rfl;exact hs)|(apply Aa.AP (l:=(DN p).take ((DN p).length-1)) (i:=k);rfl;rfl;rfl;(rw [List.length_take];omega);(rw [List.length_take];omega))|(apply Aa.load (r:=.p (.int .i64 (gi (DN p) k)));rfl;exact (congrArg (fun b=>some (PV.p (FV.int .i64 b))) hg))|(apply Aa.AP (l:=DN p) (i:=k+1);rfl;exact congrArg (fun b=>some (PV.p (.int .i64 b))) hk1;rfl;omega;rfl)|(apply Aa.MO (a:=(⟨gi (DN p) k,gi (DN p) (k+1),snd p (gi (DN p) k)⟩:Zv));rfl;rfl;rfl;rfl;rfl;rfl;rfl;rfl;(intro _ h;cases h);rfl;rfl;rfl;decide;decide;(first|omega|(simp only [List.length_take,List.length_drop,List.length_append,List.length_singleton,List.length_cons,List.length_nil]<;>omega)))|(apply Aa.assign;rfl)|(apply Aa.move;rfl)|(apply Aa.BU;rfl;rfl;omega)|(apply Aa.int;rfl;rfl;rfl)|(apply Aa.load;rfl;rfl)|(apply Aa.build;rfl;rfl;rfl;rfl;rfl)|(apply Aa.buildSlice;rfl;rfl;rfl;decide;rfl;rfl;rfl)|(apply Ac.Ae;rfl)|(intro _;try (exfalso;omega)))
   all_goals try (exfalso;omega)
   refine Ah.normal ⟨by first|omega|decide,?_,?_⟩
   ·try (first|rw [e2,e1]|rw [e2])
    exact EJ
   ·first|rw [e2,e1]|rw [e2]
    exact FM
  ·repeat' (first|(refine Ad.JE 4 ?_;refine Ad.ghost (Bo.freeze 73 rfl rfl) ?_)|apply Ac.Ak|apply Ac.Bl|apply Au.normal|apply Ap.exit|apply Ah.exit|apply Ac.ret|apply Ad.nil|apply Ad.one|(apply Aa.assign;rfl)|(apply Aa.move;rfl)|(apply Aa.int;rfl;rfl;rfl)|(apply Ac.Ae;rfl)|(intro _;try (exfalso;omega)))
   all_goals first|(exfalso;omega)|(refine Done.rt rfl rfl ⟨?_,rfl,rfl⟩;try rfl)
end
end Go.Proofs.YtnjkoebfgcbbdaaGreatDoor
namespace Go.Pop
def O8:List Nat→Nat
 |[]=>0
 |r::l=>256*O8 l+r
def su (s:Nat):Nat→Nat
 |0=>0
 |n+1=>256*su s n+s
theorem and_split {q r M s:Nat} (hr:r<256) (hs:s<256):(256*q+r) &&& (256*M+s)=256*(q &&& M)+(r &&& s):=by
 have h1:((256*q+r) &&& (256*M+s)) / 2 ^ 8=(256*q+r) / 2 ^ 8 &&& (256*M+s) / 2 ^ 8:=Nat.and_div_two_pow
 have h2:((256*q+r) &&& (256*M+s)) % 2 ^ 8=((256*q+r) % 2 ^ 8) &&& ((256*M+s) % 2 ^ 8):=Nat.and_mod_two_pow
 have e:(2:Nat) ^ 8=256:=rfl
 rw [e] at h1 h2
 rw [show (256*q+r) / 256=q by omega,show (256*M+s) / 256=M by omega] at h1
 rw [show (256*q+r) % 256=r by omega,show (256*M+s) % 256=s by omega] at h2
 have:=Nat.div_add_mod ((256*q+r) &&& (256*M+s)) 256
 omega
def b1 (r:Nat):Nat:=(r / 2 &&& 85)+(r &&& 85)
def b2 (r:Nat):Nat:=(r / 4 &&& 51)+(r &&& 51)
def b3 (r:Nat):Nat:=(r / 16+r) &&& 15
theorem f1:∀ b,b<2→∀ r,r<256→(128*b+r / 2) &&& 85=r / 2 &&& 85:=by decide +kernel
theorem f2:∀ b,b<4→∀ r,r<256→(64*b+r / 4) &&& 51=r / 4 &&& 51:=by decide +kernel
theorem s1 {q r M:Nat} (hr:r<256):((256*q+r) / 2 &&& (256*M+85))+((256*q+r) &&& (256*M+85))=256*((q / 2 &&& M)+(q &&& M))+b1 r:=by
 rw [show (256*q+r) / 2=256*(q / 2)+(128*(q % 2)+r / 2) by omega,and_split (by omega) (by decide),and_split hr (by decide),f1 _ (by omega) _ hr]
 unfold b1;omega
theorem s2 {q r M:Nat} (hr:r<256):((256*q+r) / 4 &&& (256*M+51))+((256*q+r) &&& (256*M+51))=256*((q / 4 &&& M)+(q &&& M))+b2 r:=by
 rw [show (256*q+r) / 4=256*(q / 4)+(64*(q % 4)+r / 4) by omega,and_split (by omega) (by decide),and_split hr (by decide),f2 _ (by omega) _ hr]
 unfold b2;omega
theorem a6m (x:Nat):x &&& 15=x % 16:=by
 have:=Nat.and_two_pow_sub_one_eq_mod x 4
 simpa using this
theorem s3 {q r M:Nat} (hr:r % 16≤4∧r / 16≤4) (hq:q % 16≤4):((256*q+r) / 16+(256*q+r)) &&& (256*M+15)=256*((q / 16+q) &&& M)+b3 r:=by
 rw [show (256*q+r) / 16+(256*q+r)=256*(q / 16+q)+(16*(q % 16)+r / 16+r) by omega,and_split (by omega) (by decide)]
 unfold b3
 rw [a6m,a6m];omega
theorem m1:∀ l:List Nat,(∀ r∈l,r<256)→(O8 l / 2 &&& su 85 l.length)+(O8 l &&& su 85 l.length)=O8 (l.map b1)
 |[],_=>rfl
 |r::l,h=>by
  show ((256*O8 l+r) / 2 &&& (256*su 85 l.length+85))+((256*O8 l+r) &&& (256*su 85 l.length+85))=256*O8 (l.map b1)+b1 r
  rw [s1 (h r (by simp)),m1 l fun x hx=>h x (by simp [hx])]
theorem m2:∀ l:List Nat,(∀ r∈l,r<256)→(O8 l / 4 &&& su 51 l.length)+(O8 l &&& su 51 l.length)=O8 (l.map b2)
 |[],_=>rfl
 |r::l,h=>by
  show ((256*O8 l+r) / 4 &&& (256*su 51 l.length+51))+((256*O8 l+r) &&& (256*su 51 l.length+51))=256*O8 (l.map b2)+b2 r
  rw [s2 (h r (by simp)),m2 l fun x hx=>h x (by simp [hx])]
theorem a3v:∀ l:List Nat,(∀ r∈l,r % 16≤4∧r / 16≤4)→O8 l % 16≤4
 |[],_=>by decide
 |r::l,h=>by
  have:=(h r (by simp)).1
  show (256*O8 l+r) % 16≤4
  omega
theorem m3:∀ l:List Nat,(∀ r∈l,r % 16≤4∧r / 16≤4)→(O8 l / 16+O8 l) &&& su 15 l.length=O8 (l.map b3)
 |[],_=>rfl
 |r::l,h=>by
  have hl:=fun x hx=>h x (List.mem_cons_of_mem r hx)
  show ((256*O8 l+r) / 16+(256*O8 l+r)) &&& (256*su 15 l.length+15)=256*O8 (l.map b3)+b3 r
  rw [s3 (h r (by simp)) (a3v l hl),m3 l hl]
def VJ (p:Nat):Nat:=p % 2+p / 2 % 2+p / 4 % 2+p / 8 % 2+p / 16 % 2+p / 32 % 2+p / 64 % 2+p / 128 % 2
theorem k1:∀ r,r<256→b1 r<256∧(b2 (b1 r) % 16≤4∧b2 (b1 r) / 16≤4)∧b3 (b2 (b1 r))=VJ r∧VJ r≤8:=by decide +kernel
def swA (x:Nat):Nat:=(x / 2 &&& 6148914691236517205)+(x &&& 6148914691236517205)
def swB (x:Nat):Nat:=(x / 4 &&& 3689348814741910323)+(x &&& 3689348814741910323)
def swC (x:Nat):Nat:=(x / 16+x) &&& 1085102592571150095
def swD (x:Nat):Nat:=x+x / 256
def swE (x:Nat):Nat:=x+x / 65536
def swF (x:Nat):Nat:=x+x / 4294967296
def sw (x:Nat):Nat:=swF (swE (swD (swC (swB (swA x))))) &&& 127
def bytesOf (x:Nat):List Nat:=[x % 256,x / 256 % 256,x / 65536 % 256,x / 16777216 % 256,x / 4294967296 % 256,x / 1099511627776 % 256,x / 281474976710656 % 256,x / 72057594037927936 % 256]
theorem vW {x:Nat} (h:x<18446744073709551616):O8 (bytesOf x)=x:=by
 simp only [bytesOf,O8];omega
theorem jM (x:Nat):∀ r∈bytesOf x,r<256:=by
 intro r hr
 simp only [bytesOf,List.mem_cons,List.not_mem_nil,or_false] at hr
 omega
theorem a7l (x:Nat):x &&& 127=x % 128:=by
 have:=Nat.and_two_pow_sub_one_eq_mod x 7
 simpa using this
theorem Pq {f:Nat→Nat} {P:Nat→Prop} {l:List Nat} (h:∀ r∈l,P (f r)):∀ r∈l.map f,P r:=by
 intro r hr
 obtain ⟨a,ha,rfl⟩:=List.mem_map.1 hr
 exact h a ha
theorem k85:su 85 8=6148914691236517205:=by decide +kernel
theorem k51:su 51 8=3689348814741910323:=by decide +kernel
theorem k15:su 15 8=1085102592571150095:=by decide +kernel
theorem TL (x:Nat):(bytesOf x).length=8:=rfl
theorem abc {x:Nat} (h:x<18446744073709551616):swC (swB (swA x))=O8 ((bytesOf x).map VJ)∧swA x=O8 ((bytesOf x).map b1)∧swB (swA x)=O8 (((bytesOf x).map b1).map b2):=by
 have hb:=jM x
 have e1:swA x=O8 ((bytesOf x).map b1):=by
  have:=m1 (bytesOf x) hb
  rw [vW h,TL,k85] at this
  unfold swA;exact this
 have e2:swB (swA x)=O8 (((bytesOf x).map b1).map b2):=by
  rw [e1]
  have:=m2 ((bytesOf x).map b1) (Pq fun r hr=>(k1 r (hb r hr)).1)
  rw [List.length_map,TL,k51] at this
  unfold swB;exact this
 refine ⟨?_,e1,e2⟩
 rw [e2]
 have h3:=m3 (((bytesOf x).map b1).map b2) (Pq (Pq (P:=fun y=>b2 y % 16≤4∧b2 y / 16≤4) fun r hr=>(k1 r (hb r hr)).2.1))
 have e3:(((bytesOf x).map b1).map b2).map b3=(bytesOf x).map VJ:=by
  rw [List.map_map,List.map_map]
  exact List.map_congr_left fun r hr=>(k1 r (hb r hr)).2.2.1
 rw [e3,List.length_map,List.length_map,TL,k15] at h3
 unfold swC;exact h3
theorem kL {x:Nat} (h:x<18446744073709551616):sw x=(VJ (x % 256)+VJ (x / 256 % 256)+VJ (x / 65536 % 256)+VJ (x / 16777216 % 256)+VJ (x / 4294967296 % 256)+VJ (x / 1099511627776 % 256)+VJ (x / 281474976710656 % 256)+VJ (x / 72057594037927936 % 256)) ∧
 swC (swB (swA x))<1157442765409226760∧swA x<18446744073709551616∧swB (swA x)≤4919131752989213764:=by
 obtain ⟨e,eA,eB⟩:=abc h
 have hk:=fun r (hr:r<256)=>(k1 r hr).2.2.2
 have c0:=hk (x % 256) (by omega)
 have c1:=hk (x / 256 % 256) (by omega)
 have c2:=hk (x / 65536 % 256) (by omega)
 have c3:=hk (x / 16777216 % 256) (by omega)
 have c4:=hk (x / 4294967296 % 256) (by omega)
 have c5:=hk (x / 1099511627776 % 256) (by omega)
 have c6:=hk (x / 281474976710656 % 256) (by omega)
 have c7:=hk (x / 72057594037927936 % 256) (by omega)
 have hlt:∀ l:List Nat,l.length=8→(∀ r∈l,r<256)→O8 l<18446744073709551616:=by
  intro l hl hr
  match l,hl with
  |[y0,y1,y2,y3,y4,y5,y6,y7],_ =>
   have h0:=hr y0 (by simp)
   have h1:=hr y1 (by simp)
   have h2:=hr y2 (by simp)
   have h3:=hr y3 (by simp)
   have h4:=hr y4 (by simp)
   have h5:=hr y5 (by simp)
   have h6:=hr y6 (by simp)
   have h7:=hr y7 (by simp)
   simp only [O8];omega
 have hlt2:∀ l:List Nat,l.length=8→(∀ r∈l,r≤68)→O8 l≤4919131752989213764:=by
  intro l hl hr
  match l,hl with
  |[y0,y1,y2,y3,y4,y5,y6,y7],_ =>
   have h0:=hr y0 (by simp)
   have h1:=hr y1 (by simp)
   have h2:=hr y2 (by simp)
   have h3:=hr y3 (by simp)
   have h4:=hr y4 (by simp)
   have h5:=hr y5 (by simp)
   have h6:=hr y6 (by simp)
   have h7:=hr y7 (by simp)
   simp only [O8];omega
 have hb:=jM x
 refine ⟨?_,?_,by rw [eA];exact hlt _ rfl (Pq fun r hr=>(k1 r (hb r hr)).1),by rw [eB];exact hlt2 _ rfl (Pq (Pq (P:=fun y=>b2 y≤68) fun r hr=>by have:=(k1 r (hb r hr)).2.1;omega))⟩
 ·unfold sw
  rw [e,a7l]
  simp only [bytesOf,List.map_cons,List.map_nil,O8,swD,swE,swF]
  generalize VJ (x % 256)=y0 at *
  generalize VJ (x / 256 % 256)=y1 at *
  generalize VJ (x / 65536 % 256)=y2 at *
  generalize VJ (x / 16777216 % 256)=y3 at *
  generalize VJ (x / 4294967296 % 256)=y4 at *
  generalize VJ (x / 1099511627776 % 256)=y5 at *
  generalize VJ (x / 281474976710656 % 256)=y6 at *
  generalize VJ (x / 72057594037927936 % 256)=y7 at *
  clear e eA eB hk hb hlt hlt2 h
  have d1:(256*(256*(256*(256*(256*(256*(256*(256*0+y7)+y6)+y5)+y4)+y3)+y2)+y1)+y0) / 256=256*(256*(256*(256*(256*(256*y7+y6)+y5)+y4)+y3)+y2)+y1:=by omega
  rw [d1]
  clear d1
  have d2:(256*(256*(256*(256*(256*(256*(256*(256*0+y7)+y6)+y5)+y4)+y3)+y2)+y1)+y0+(256*(256*(256*(256*(256*(256*y7+y6)+y5)+y4)+y3)+y2)+y1)) / 65536=256*(256*(256*(256*(256*y7+(y6+y7))+(y5+y6))+(y4+y5))+(y3+y4))+(y2+y3):=by omega
  rw [d2]
  clear d2
  have d3:(256*(256*(256*(256*(256*(256*(256*(256*0+y7)+y6)+y5)+y4)+y3)+y2)+y1)+y0+(256*(256*(256*(256*(256*(256*y7+y6)+y5)+y4)+y3)+y2)+y1)+(256*(256*(256*(256*(256*y7+(y6+y7))+(y5+y6))+(y4+y5))+(y3+y4))+(y2+y3))) / 4294967296=256*(256*(256*y7+(y6+y7))+(y5+y6+y7))+(y4+y5+y6+y7):=by omega
  rw [d3]
  clear d3
  omega
 ·rw [e]
  simp only [bytesOf,List.map_cons,List.map_nil,O8]
  omega
def cnt (n p:Nat):Nat:=((List.range n).filter p.testBit).length
theorem Jh (n p:Nat):cnt (n+1) p=p % 2+cnt n (p / 2):=by
 unfold cnt
 rw [List.range_succ_eq_map,List.filter_cons]
 have e:((List.map Nat.succ (List.range n)).filter p.testBit).length=((List.range n).filter (p / 2).testBit).length:=by
  rw [List.filter_map,List.length_map]
  congr 1
  refine List.filter_congr fun i _=>?_
  show p.testBit (i+1)=_
  rw [Nat.testBit_succ]
 rw [Nat.testBit_zero]
 by_cases h:p % 2=1
 ·simp only [h,decide_true,if_true,List.length_cons,e];omega
 ·simp only [h,decide_false,Bool.false_eq_true,if_false,e];omega
theorem Vt (n p:Nat):cnt (n+8) p=VJ p+cnt n (p / 256):=by
 rw [show n+8=n+7+1 from rfl,Jh,show n+7=n+6+1 from rfl,Jh,show n+6=n+5+1 from rfl,Jh,show n+5=n+4+1 from rfl,Jh,show n+4=n+3+1 from rfl,Jh,show n+3=n+2+1 from rfl,Jh,show n+2=n+1+1 from rfl,Jh,Jh]
 unfold VJ
 simp only [Nat.div_div_eq_div_mul,Nat.reduceMul]
 omega
theorem a3s (p:Nat):VJ (p % 256)=VJ p:=by unfold VJ;omega
theorem a8m {x:Nat} (h:x<18446744073709551616):sw x=cnt 64 x:=by
 rw [(kL h).1]
 simp only [a3s]
 rw [show (64:Nat)=56+8 from rfl,Vt,show (56:Nat)=48+8 from rfl,Vt,show (48:Nat)=40+8 from rfl,Vt,show (40:Nat)=32+8 from rfl,Vt,show (32:Nat)=24+8 from rfl,Vt,show (24:Nat)=16+8 from rfl,Vt,show (16:Nat)=8+8 from rfl,Vt,show (8:Nat)=0+8 from rfl,Vt]
 simp only [Nat.div_div_eq_div_mul,Nat.reduceMul]
 show _=_+(_+(_+(_+(_+(_+(_+(_+0)))))))
 omega
end Go.Pop
namespace Go.Proofs.YtnjkoebfgcbbdaaGreatDoor
theorem a4q {x:Nat} (h:x<18446744073709551616):Go.Pop.sw x=(FX x).length:=Go.Pop.a8m h
end Go.Proofs.YtnjkoebfgcbbdaaGreatDoor
namespace Go.Vm
section
open Go.Am
section
variable {E:Env} {L:Frame} {H:Heap} {nx:Nat} {Q:PV→Heap→Nat→Prop} {w:Bool}
variable {dst:Option Tmp} {ty:TypeId} {pos:String} {af:Array Edge} {gd:Option (Nat×Bool)}
variable {bn:Nat} {ops:Array Oper} {op:Op} {l:List Oper} {i:Nat} {R:Frame→Heap→Nat→Prop}
def b6l (E:Env) (bn d:Nat) (ops:Array Oper) (i:Nat) (l:List Oper) (L:Frame) (H:Heap) (nx:Nat) (Q:Frame→Heap→Nat→Prop):Prop :=
 ∀ (B:Base),B.nx=bn→∀ m F σ t,Ctx E.Γ m F σ H nx→RL m F (htag H) σ nx L t→CB t d=.slice emptyAt 0 0→B.to m F σ H nx →
  Ig E.P E.O E.G ops i l ⟨t,m⟩ fun s'=>∃ L' H' nx' F' σ',Q L' H' nx'∧Ctx E.Γ s'.m F' σ' H' nx'∧RL s'.m F' (htag H') σ' nx' L' s'.t∧B.to s'.m F' σ' H' nx'
end
end
section
open Go.Am
variable {E:Env} {L:Frame} {H:Heap} {nx:Nat}
section
variable {Q:PV→Heap→Nat→Prop} {w:Bool} {dst:Option Tmp} {ty:TypeId} {pos:String} {af:Array Edge} {gd:Option (Nat×Bool)}
end
end
end Go.Vm
namespace Go.Proofs.YtnjkoebfgcbbdaaGreatDoor
open Go Go.Am Go.Vm Go.Pie
attribute [local irreducible] Aa Ad Af Ac Ba AB BG Au Ap Ah Vm.Done BQ AY
attribute [local irreducible] CV Bq Eh DY Ez BH CW
structure au where
 hn:Int
 hs:Int
 fn:Int
 fs:Int
instance:Enc au:={ default:=⟨0,0,0,0⟩,enc:=fun x=>[.int .i64 x.hn,.int .i64 x.hs,.int .i64 x.fn,.int .i64 x.fs],size:=4,len:=fun _=>rfl }
structure au.Ok (y:au):Prop where
 hn:0≤y.hn∧y.hn≤10
 fn:0≤y.fn∧y.fn≤10
 hs:0≤y.hs∧y.hs≤127
 fs:0≤y.fs∧y.fs≤127
noncomputable instance (y:au):Decidable y.Ok:=Classical.propDecidable _
def FD (s:Jy):List Int:=D7 s.lo s.hi
theorem P8 {p n:Nat}:n∈FX p↔n<64∧p.testBit n=true:=by
 unfold FX
 rw [List.mem_filter,List.mem_range]
theorem lN {s:Jy} {x:Int}:x∈FD s↔∃ n:Nat,n<128∧x=(n:Int)∧s.has n=true:=by
 unfold FD D7
 rw [List.mem_append,List.mem_map,List.mem_map]
 constructor
 ·rintro (⟨n,h,rfl⟩|⟨n,h,rfl⟩)
  ·obtain ⟨h1,h2⟩:=P8.1 h
   exact ⟨n,by omega,rfl,by unfold Jy.has;rw [if_pos h1];exact h2⟩
  ·obtain ⟨h1,h2⟩:=P8.1 h
   refine ⟨64+n,by omega,rfl,?_⟩
   unfold Jy.has
   rw [if_neg (by omega),Nat.add_sub_cancel_left];exact h2
 ·rintro ⟨n,h1,rfl,h2⟩
  unfold Jy.has at h2
  split at h2
  ·rename_i h;exact .inl ⟨n,P8.2 ⟨h,h2⟩,rfl⟩
  ·rename_i h
   exact .inr ⟨n-64,P8.2 ⟨by omega,h2⟩,by omega⟩
theorem kZ (s:Jy):(FD s).length=(FX s.lo).length+(FX s.hi).length:=by simp [FD,D7]
theorem WI (s:Jy):(FD s).length≤128:=by
 rw [kZ]
 have:=JU s.lo
 have:=JU s.hi
 omega
def wid (l:List Int):Int:=if l.length=0 then 0 else gi l (l.length-1)-gi l 0
end Go.Proofs.YtnjkoebfgcbbdaaGreatDoor
namespace Go.Vm
open Go.Am
variable {E:Env} {L:Frame} {H:Heap} {nx:Nat} {Q:PV→Heap→Nat→Prop} {dst:Option Tmp} {ty:TypeId} {pos:String} {af:Array Edge} {gd:Option (Nat×Bool)} {w:Bool}
theorem um {a b:Nat} (h:a<2 ^ 64):a / b<2 ^ 64:=Nat.lt_of_le_of_lt (Nat.div_le_self _ _) h
theorem Aa.vZ {t t2:TypeId} {x y:Operand} {a b:Nat} (r:Nat) (hx:Bh E.Γ L x=some (.p (.int .u64 (a:Int)))) (hy:Bh E.Γ L y=some (.p (.int .u64 (b:Int)))) (he:a+b=r) (h:r<18446744073709551616) (q:Q (.p (.int .u64 (r:Int))) H nx) :
 Aa E w ⟨dst,.binOp .add t x y t2,ty,pos,af,gd⟩ L H nx Q:=Aa.b0u hx hy (by omega) (by rw [he];exact q)
theorem Aa.a0w {t t2:TypeId} {x y:Operand} {a b:Nat} (r:Nat) (hx:Bh E.Γ L x=some (.p (.int .u64 (a:Int)))) (hy:Bh E.Γ L y=some (.p (.int .u64 (b:Int)))) (he:a &&& b=r) (h:a<2 ^ 64) (h2:b<2 ^ 64) (q:Q (.p (.int .u64 (r:Int))) H nx) :
 Aa E w ⟨dst,.binOp .and t x y t2,ty,pos,af,gd⟩ L H nx Q:=Aa.b7j hx hy h h2 (by rw [he];exact q)
end Go.Vm
namespace Go.Proofs.YtnjkoebfgcbbdaaGreatDoor
section
open Go Go.Am Go.Vm Go.Pie
attribute [local irreducible] Aa Ad Af Ac Ba AB BG Au Ap Ah Vm.Done BQ AY
theorem aW (x:Nat) (hx:x<18446744073709551616):AB env 112 [.int .u64 (x:Int)] (.p (.int .i64 (((FX x).length:Nat):Int))):=by
 obtain ⟨g1,g2,g3⟩:=(Pop.kL hx).2
 have h1:=a4q hx
 obtain ⟨A,hA⟩:∃ A,A=Pop.swA x:=⟨_,rfl⟩
 obtain ⟨B,hB⟩:∃ B,B=Pop.swB A:=⟨_,rfl⟩
 obtain ⟨C,hC⟩:∃ C,C=Pop.swC B:=⟨_,rfl⟩
 obtain ⟨D,hD⟩:∃ D,D=Pop.swD C:=⟨_,rfl⟩
 obtain ⟨F,hF⟩:∃ F,F=Pop.swE D:=⟨_,rfl⟩
 obtain ⟨G,hG⟩:∃ G,G=Pop.swF F:=⟨_,rfl⟩
 rw [← hA] at g1 g2 g3
 rw [← hB] at g1 g3
 rw [← hC] at g1
 have m1:∀ a b:Nat,b<18446744073709551616→a &&& b<18446744073709551616:=fun a b h=>Nat.lt_of_le_of_lt Nat.and_le_right h
 obtain ⟨a1,p1⟩:∃ a1,x / 2 ^ 1 &&& 6148914691236517205=a1:=⟨_,rfl⟩
 obtain ⟨a2,p2⟩:∃ a2,x &&& 6148914691236517205=a2:=⟨_,rfl⟩
 obtain ⟨b1,p3⟩:∃ b1,A / 2 ^ 2 &&& 3689348814741910323=b1:=⟨_,rfl⟩
 obtain ⟨b2,p4⟩:∃ b2,A &&& 3689348814741910323=b2:=⟨_,rfl⟩
 obtain ⟨c1,p5⟩:∃ c1,B / 2 ^ 4+B=c1:=⟨_,rfl⟩
 have e1:a1+a2=A:=by rw [← p1,← p2];exact hA.symm
 have e2:b1+b2=B:=by rw [← p3,← p4];exact hB.symm
 have e3:c1 &&& 1085102592571150095=C:=by rw [← p5];exact hC.symm
 have e4:C+C / 2 ^ 8=D:=hD.symm
 have e5:D+D / 2 ^ 16=F:=hF.symm
 have e6:F+F / 2 ^ 32=G:=hG.symm
 have e7:G &&& 127=(FX x).length:=by rw [← h1];unfold Pop.sw;rw [← hA,← hB,← hC,← hD,← hF,← hG]
 clear hA hB hC hD hF hG h1
 obtain ⟨Z,hZ⟩:∃ Z,Z=(FX x).length:=⟨_,rfl⟩
 rw [← hZ] at e7 ⊢
 have e8:PV.p (.int .i64 ((G &&& 127:Nat):Int))=PV.p (.int .i64 (Z:Int)):=by rw [e7]
 refine AB.enter (Aj (by decide)) Tryz.func112 rfl (by kernel_rfl) (by simp [Tryz.ntmps112]) ?_
 repeat' (first|apply Ac.Ak|apply Ac.ret|apply Ad.nil|apply Ad.one|(apply Aa.a0w a1;rfl;rfl;exact p1;exact um (by omega);exact Az rfl)|(apply Aa.a0w a2;rfl;rfl;exact p2;omega;exact Az rfl)|(apply Aa.a0w b1;rfl;rfl;exact p3;exact um (by omega);exact Az rfl)|(apply Aa.a0w b2;rfl;rfl;exact p4;omega;exact Az rfl)|(apply Aa.b7v;rfl;rfl;exact ⟨by omega,Az rfl⟩)|(apply Aa.vZ c1;rfl;rfl;exact p5;omega)|(apply Aa.vZ A;rfl;rfl;exact e1;omega)|(apply Aa.vZ B;rfl;rfl;exact e2;omega)|(apply Aa.vZ D;rfl;rfl;exact e4;omega)|(apply Aa.vZ F;rfl;rfl;exact e5;omega)|(apply Aa.vZ G;rfl;rfl;exact e6;omega)|(apply Aa.a0w C;rfl;rfl;exact e3;omega;exact Az rfl)|(apply Aa.assign;rfl)|(apply Aa.move;rfl)|(apply Aa.a2a;rfl;rfl;rfl;rfl;omega)|(apply Aa.qJ;rfl;rfl;(simp only [IntKind.bits];omega)))
 all_goals first|(exfalso;omega)|((refine Done.rt rfl rfl ⟨?_,rfl,rfl⟩;try rfl);exact e8;done)|(refine Done.rt rfl rfl ⟨?_,rfl,rfl⟩;try rfl)
theorem oI (s:Jy) (hs:s.Ok):AB env 67 [.agg (Enc.enc s)] (.p (.int .i64 (((FD s).length:Nat):Int))):=by
 have h1:=aW s.lo hs.lo
 have h2:=aW s.hi hs.hi
 have b1:=JU s.lo
 have b2:=JU s.hi
 rw [kZ]
 refine AB.enter (Aj (by decide)) Tryz.func67 rfl (by kernel_rfl) (by simp [Tryz.ntmps67]) ?_
 repeat' (first|apply Ac.Ak|apply Ac.Dq|apply Ac.ret|apply Ad.nil|apply Af.nil|apply Ad.one|(apply Af.bar;decide +kernel)|apply Af.quiet|(apply Aa.fn;rfl;rfl;exact h1;intro _;rfl)|(apply Aa.fn;rfl;rfl;exact h2;intro _;rfl)|(apply Aa.assign;rfl)|(apply Aa.BU;rfl;rfl;omega)|(apply Aa.load;rfl;rfl)|(apply Aa.Aw;rfl;rfl;rfl)|(apply Aa.box;rfl;trivial))
 all_goals first|(exfalso;omega)|(refine Done.rt rfl rfl ⟨?_,rfl,rfl⟩;try rfl)
theorem XT (l:List Int) (hl:l.length≤128) (h:∀ x∈l,0≤x∧x≤127):AB env 106 [.lst 3 (cells l) l.length] (.p (.int .i64 (wid l))):=by
 unfold wid
 by_cases h0:l.length=0
 ·rw [if_pos h0]
  refine AB.enter (Aj (by decide)) Tryz.func106 rfl (by kernel_rfl) (by simp [Tryz.ntmps106]) ?_
  repeat' (first|apply Ac.assoc|apply Ac.Ak|apply Ac.BL|apply Ad.nil|apply Ad.one|(apply Aa.assign;rfl)|(apply Aa.move;rfl)|(apply Aa.int;rfl;rfl;rfl)|(apply Aa.CX;rfl;rfl)|(apply Ac.Ae;rfl)|(intro _;try (exfalso;omega)))
  all_goals first|(exfalso;omega)|(refine Done.rt rfl rfl ⟨?_,rfl,rfl⟩;try rfl)
 ·rw [if_neg h0]
  have h1:=h _ (gi_mem' (show l.length-1<l.length by omega))
  have h2:=h _ (gi_mem' (show 0<l.length by omega))
  have hn:(l.length:Int)-1=((l.length-1:Nat):Int):=by omega
  have hz:@gi Int Enc.toInhabited l (nat_lit 0)=gi l 0:=rfl
  refine AB.enter (Aj (by decide)) Tryz.func106 rfl (by kernel_rfl) (by simp [Tryz.ntmps106]) ?_
  repeat' (first|apply Ac.assoc|apply Ac.Ak|apply Ac.Dq|apply Ac.Ai|apply Ac.ret|apply Ad.nil|apply Af.nil|apply Ad.one|(apply Af.bar;decide +kernel)|apply Af.quiet|(apply Aa.AP (l:=l) (i:=l.length-1);rfl;exact congrArg (fun b=>some (PV.p (.int .i64 b))) hn;rfl;omega;rfl)|(apply Aa.AP (l:=l) (i:=0);rfl;rfl;rfl;omega;rfl)|(apply Aa.assign;rfl)|(apply Aa.move;rfl)|(apply Aa.Jv;rfl;rfl;omega)|(apply Aa.int;rfl;rfl;rfl)|(apply Aa.load;rfl;rfl)|(apply Aa.CX;rfl;rfl)|(apply Ac.Ae;rfl)|(intro _;try (exfalso;omega)))
  all_goals first|(exfalso;omega)|(refine Done.rt rfl rfl ⟨?_,rfl,rfl⟩;try rfl)
def fU (y:au) (l:List Int):Prop:=(l.length:Int)≤y.hn∧wid l≤y.hs
instance (y:au) (l:List Int):Decidable (fU y l):=inferInstanceAs (Decidable (_∧_))
theorem zW (y:au) (l:List Int) (hl:l.length≤128) (h:∀ x∈l,0≤x∧x≤127):AB env 60 [.agg (Enc.enc y),.lst 3 (cells l) l.length] (.p (.bool (decide (fU y l)))):=by
 have hw:=XT l hl h
 by_cases h1:(l.length:Int)≤y.hn
 all_goals by_cases h2:wid l≤y.hs
 all_goals first|rw [decide_eq_true (p:=fU y l) ⟨h1,h2⟩]|rw [decide_eq_false (p:=fU y l) (fun h=>h1 h.1)]|rw [decide_eq_false (p:=fU y l) (fun h=>h2 h.2)]
 all_goals generalize wid l=W at *
 all_goals
  refine AB.enter (Aj (by decide)) Tryz.func60 rfl (by kernel_rfl) (by simp [Tryz.ntmps60]) ?_
 all_goals
  repeat' (first|apply Ac.Ak|apply Ac.Dq|apply Ac.ret|apply Ad.nil|apply Af.nil|apply Ad.one|(apply Af.bar;decide +kernel)|apply Af.quiet|(apply Af.FK;rfl;rfl)|(apply Af.drop;rfl;rfl;rfl)|(apply Af.guard;rfl;rfl)|(apply Aa.fn;rfl;rfl;exact hw;intro _;rfl)|(apply Aa.assign;rfl)|(apply Aa.move;rfl)|(apply Aa.int;rfl;rfl;rfl)|(apply Aa.load;rfl;rfl)|(apply Aa.Bc;rfl;rfl)|(apply Aa.AL;rfl;rfl)|(apply Aa.CX;rfl;rfl)|(apply Aa.Aw;rfl;rfl;rfl)|(apply Aa.box;rfl;trivial)|(intro _;try (exfalso;omega)))
 all_goals first|(exfalso;omega)|(refine Done.rt rfl rfl ⟨?_,rfl,rfl⟩;try rfl)
 all_goals first|exact PV.H9 (decide_eq_true (by omega))|exact PV.H9 (decide_eq_false (by omega))|exact PV.H9 (by simp;omega)
end
section
open Go Go.Am Go.Vm Go.Pie
attribute [local irreducible] Aa Ad Af Ac Ba AB BG Au Ap Ah Vm.Done BQ AY
attribute [local irreducible] CV Bq Eh DY Ez BH CW
structure Sd8 where
 st:Nat
 lg:Nat
 dv:Nat
 ky:Nat
instance:Enc Sd8:={ default:=⟨0,0,0,0⟩,enc:=fun x=>[.int .u8 (x.st:Int),.int .u8 (x.lg:Int),.int .u8 (x.dv:Int),.int .u8 (x.ky:Int)],size:=4,len:=fun _=>rfl }
structure Mrk where
 bar:Nat
 b:Nat→Nat
instance:Enc Mrk:={ default:=⟨0,fun _=>0⟩,enc:=fun x=>[.int .u8 (x.bar:Int),.int .u8 (x.b 0:Int),.int .u8 (x.b 1:Int),.int .u8 (x.b 2:Int),.int .u8 (x.b 3:Int),.int .u8 (x.b 4:Int)],size:=6,len:=fun _=>rfl }
structure PPl where
 org:OPl
 bars:List UInt8
 notes:List Sd8
 sets:List Mrk
def PPl.enc (x:PPl):List FV:=[.lst 226 (cells x.org.ranks) x.org.ranks.length,.lst 211 (cells x.org.AU) x.org.AU.length,.lst 234 (cells x.org.links) x.org.links.length,
 .lst 5 (cells x.bars) x.bars.length,.lst 170 (cells x.notes) x.notes.length,.lst 176 (cells x.sets) x.sets.length]
structure PPl.Ok (x:PPl):Prop where
 org:x.org.Ok
 nb:x.bars.length<9223372036854775808
 nn:x.notes.length<9223372036854775808
 ns:x.sets.length<9223372036854775808
 notes:∀ i,i<x.notes.length→(gi x.notes i).st<256∧(gi x.notes i).lg<256∧(gi x.notes i).dv<256∧(gi x.notes i).ky<256
 sets:∀ i,i<x.sets.length→(gi x.sets i).bar<256∧∀ j,(gi x.sets i).b j<256
def b2p (x:PPl):Prop:=a5y x.org∧(0<x.bars.length∧x.bars.length≤4)∧x.notes.length≤8∧x.sets.length≤3
noncomputable instance (x:PPl):Decidable (b2p x):=Classical.propDecidable _
def bM (l:List UInt8):Nat→Int
 |0=>0
 |i+1=>bM l i+1+((gi l i).toNat:Int) % 6
def ntP (o:IV) (z:Int) (y:Sd8):KG :=
 ⟨(y.st:Int) % z,min z ((y.st:Int) % z+1+(y.lg:Int) % 8),(y.dv:Int) % (o.AU.length:Int),
  (gi o.AU ((y.dv:Int) % (o.AU.length:Int)).toNat).lo+(y.ky:Int) % ((gi o.AU ((y.dv:Int) % (o.AU.length:Int)).toNat).hi-(gi o.AU ((y.dv:Int) % (o.AU.length:Int)).toNat).lo+1)⟩
def a3t (o:IV) (z:Int) (l:List Sd8):Nat→List KG
 |0=>[]
 |k+1=>if (a3t o z l k).any (fun m=>yZ m (ntP o z (gi l k)))=true then a3t o z l k else a3t o z l k++[ntP o z (gi l k)]
def a8t (nb:Nat) (l:List Mrk):Nat→Int
 |0=>-1
 |k+1=>if ((gi l k).bar:Int) % (nb:Int)>a8t nb l k then ((gi l k).bar:Int) % (nb:Int) else a8t nb l k
noncomputable def a9d (o:IV) (nb:Nat) (l:List Mrk):Nat→List o9
 |0=>[]
 |k+1=>if ((gi l k).bar:Int) % (nb:Int)>a8t nb l k then a9d o nb l k++[⟨((gi l k).bar:Int) % (nb:Int),a9o o (gi l k).b⟩] else a9d o nb l k
noncomputable def b4s (o:IV) (x:PPl):F7:=⟨Dt (bM x.bars) (x.bars.length+1),a3t o (bM x.bars x.bars.length) x.notes x.notes.length,a9d o x.bars.length x.sets x.sets.length⟩
noncomputable def mkP (x:PPl):F7:=b4s (mkO x.org) x
end
section
open Go Go.Am Go.Vm
end
section
open Go Go.Am Go.Vm Go.Pie
attribute [local irreducible] CV Bq Eh DY Ez BH CW
structure NtR (o:IV) (z:Int) (n:KG):Prop where
 d:0≤n.d∧n.d<o.AU.length
 k:(gi o.AU n.d.toNat).lo≤n.k∧n.k≤(gi o.AU n.d.toNat).hi
 r:0≤n.s∧n.s<n.e∧n.e≤z
end
section
open Go Go.Am Go.Vm Go.Pie
attribute [local irreducible] Aa Ad Af Ac Ba AB BG Au Ap Ah Vm.Done BQ AY
attribute [local irreducible] CV Bq Eh DY Ez BH CW
structure Qu where
 o:IV
 p:F7
 y:au
instance:Enc Qu:={ default:=⟨default,default,default⟩,enc:=fun x=>Enc.enc x.o++(Enc.enc x.p++Enc.enc x.y),size:=11,len:=fun x=>by rw [List.length_append,List.length_append,Enc.len,Enc.len,Enc.len];rfl }
structure Jw (q:Qu):Prop where
 o:wC q.o
 e:Y8 q.o q.p=0
 p:uM q.o q.p
 y:q.y.Ok
def EZ (q:Qu) (i:Nat):Bool:=(gi q.o.AU (gi q.p.notes i).d.toNat).aB
def iW (q:Qu) (N:List Int):Prop:=∀ i,i<N.length→0≤gi N i∧gi N i<q.p.notes.length
theorem Nj (q:Qu) (hq:Jw q) (i:Nat) (hi:i<q.p.notes.length):Et env 85 ([.p (.agg (Enc.enc q)),.p (.int .i64 (i:Int))]++[]) [] 0 (.bool (EZ q i)):=by
 have hN:=hq.p.note i hi
 obtain ⟨j,hj⟩:∃ j:Nat,(gi q.p.notes i).d=(j:Int):=⟨(gi q.p.notes i).d.toNat,by have:=hN.d;omega⟩
 have hjn:j<q.o.AU.length:=by have:=hN.d;omega
 have hb:EZ q i=(gi q.o.AU j).aB:=by unfold EZ;rw [hj,Int.toNat_natCast]
 rw [hb]
 refine Et.enter (Aj (by decide)) Tryz.func85 rfl (by kernel_rfl) (by simp [Tryz.ntmps85]) ?_
 repeat' (first|apply Ac.Ak|apply Ac.Dq|apply Ac.ret|apply Ad.nil|apply Af.nil|apply Ad.one|(apply Af.bar;decide +kernel)|apply Af.quiet|(apply Aa.AP (l:=q.p.notes) (i:=i);rfl;rfl;rfl;omega;rfl)|(apply Aa.AP (l:=q.o.AU) (i:=j);rfl;exact congrArg (fun b=>some (PV.p (.int .i64 b))) hj;rfl;omega;rfl)|(apply Aa.assign;rfl)|(apply Aa.move;rfl)|(apply Aa.load;rfl;rfl)|(apply Aa.Aw;rfl;rfl;rfl)|(apply Aa.GY;rfl;rfl)|(apply Aa.box;rfl;trivial))
 all_goals first|(exfalso;omega)|(refine Done.ret rfl (.refl _) trivial ?_ (by omega) (Nat.le_refl _) ⟨?_,rfl,rfl⟩;exact FM;try rfl)
def hasB (l:List Int) (h:Int) (i:Nat):Bool:=decide (gi l i=h)
def lhB (l:List Int) (h:Int):Heap:=[(0,.box 28 [.p (.lst 3 (cells l) l.length)]),(1,.box 3 [.p (.int .i64 h)])]
theorem oZ (l:List Int) (h:Int) (i:Nat) (hi:i<l.length):Et env 124 ([.p (.int .i64 (i:Int))]++[.ref 0 0,.ref 1 0]) (lhB l h) 2 (.bool (hasB l h i)):=by
 unfold lhB hasB
 refine Et.enter (Aj (by decide)) Tryz.func124 rfl (by kernel_rfl) (by simp [Tryz.ntmps124]) ?_
 repeat' (first|apply Ac.Ak|apply Ac.Dq|apply Ac.ret|apply Ad.nil|apply Af.nil|apply Ad.one|(apply Af.bar;decide +kernel)|apply Af.quiet|(apply Aa.assign;rfl)|(apply Aa.move;rfl)|(apply Aa.int;rfl;rfl;rfl)|(apply Aa.AP;rfl;rfl;rfl;omega;rfl)|(apply Aa.load;rfl;rfl))
 all_goals first|(exfalso;omega)|(refine Done.ret rfl (.refl _) trivial ?_ (by omega) (Nat.le_refl _) ⟨?_,rfl,rfl⟩;exact FM;try rfl)
def oz (p:F7) (N:List Int) (is:Nat→Bool) (d:Nat):Nat→List Int
 |0=>[]
 |k+1=>if is (gi N k).toNat=true∧(gi p.notes (gi N k).toNat).d=(d:Int) then oz p N is d k++[(gi p.notes (gi N k).toNat).k] else oz p N is d k
theorem SS (p:F7) (N:List Int) (is:Nat→Bool) (d k:Nat):oz p N is d (k+1)=if is (gi N k).toNat=true∧(gi p.notes (gi N k).toNat).d=(d:Int) then oz p N is d k++[(gi p.notes (gi N k).toNat).k] else oz p N is d k:=rfl
def Y6 (p:F7) (N:List Int) (is:Nat→Bool) (k d:Nat):Jy:=kK (oz p N is d k) (oz p N is d k).length
theorem ofK_left' (l:List Int) (x:Int):∀ k,k≤l.length→kK (l++[x]) k=kK l k
 |0,_=>rfl
 |k+1,h=>by
  show Gi (kK (l++[x]) k) (gi (l++[x]) k).toNat=Gi (kK l k) (gi l k).toNat
  rw [ofK_left' l x k (by omega),RX (by omega)]
theorem ofK_snoc' (l:List Int) (x:Int):kK (l++[x]) (l++[x]).length=Gi (kK l l.length) x.toNat:=by
 rw [List.length_append]
 show Gi (kK (l++[x]) l.length) (gi (l++[x]) l.length).toNat=_
 rw [ofK_left' l x _ (Nat.le_refl _),X4]
theorem jF (p:F7) (N:List Int) (is:Nat→Bool) (k d:Nat):Y6 p N is (k+1) d=if is (gi N k).toNat=true∧(gi p.notes (gi N k).toNat).d=(d:Int) then Gi (Y6 p N is k d) (gi p.notes (gi N k).toNat).k.toNat else Y6 p N is k d:=by
 unfold Y6
 rw [SS]
 split
 ·exact ofK_snoc' _ _
 ·rfl
theorem Yr (p:F7) (N:List Int) (is:Nat→Bool):∀ n,List.replicate n (⟨0,0⟩:Jy)=Dt (Y6 p N is 0) n
 |0=>rfl
 |n+1=>by
  rw [List.replicate_succ',Yr p N is n]
  rfl
theorem sH {p:F7} {N:List Int} {is:Nat→Bool} {k n j:Nat} (hj:j<n) (hi:is (gi N k).toNat=true) (h:(gi p.notes (gi N k).toNat).d=(j:Int)):(Dt (Y6 p N is k) n).set j (Gi (gi (Dt (Y6 p N is k) n) j) (gi p.notes (gi N k).toNat).k.toNat)=Dt (Y6 p N is (k+1)) n:=by
 refine JL (by rw [List.length_set,Dn,Dn]) fun i hi'=>?_
 rw [List.length_set,Dn] at hi'
 rw [GZ,Fb _ hi',Fb _ hi',Fb _ hj,Dn,jF]
 by_cases e:j=i
 ·subst e;rw [if_pos ⟨rfl,hi'⟩,if_pos ⟨hi,h⟩]
 ·rw [if_neg (fun h=>e h.1),if_neg (by omega)]
theorem jA {p:F7} {N:List Int} {is:Nat→Bool} {k n:Nat} (hi:is (gi N k).toNat=false):Dt (Y6 p N is (k+1)) n=Dt (Y6 p N is k) n:=KQ fun d _=>by
 rw [jF,if_neg (fun h=>by rw [hi] at h;exact absurd h.1 (by decide))]
theorem Wu {q:Qu} (hq:Jw q) {N:List Int} (hN:iW q N) {is:Nat→Bool} {d:Nat}:∀ k,k≤N.length→∀ i,i<(oz q.p N is d k).length→0≤gi (oz q.p N is d k) i∧gi (oz q.p N is d k) i≤127
 |0,_,i,hi=>absurd hi (Nat.not_lt_zero _)
 |k+1,hk,i,hi=>by
  have ih:=Wu hq hN (is:=is) (d:=d) k (by omega)
  rw [SS] at hi ⊢
  split
  ·rename_i c
   rw [if_pos c,List.length_append] at hi
   have hi:i<(oz q.p N is d k).length+1:=hi
   by_cases e:i<(oz q.p N is d k).length
   ·rw [RX e];exact ih i e
   ·obtain rfl:i=(oz q.p N is d k).length:=by omega
    rw [X4]
    have hn:=hN k (by omega)
    have hh:=hq.p.note (gi N k).toNat (by omega)
    have h1:=hq.o.cmp (i:=(gi q.p.notes (gi N k).toNat).d.toNat) (by have:=hh.d;omega)
    have:=hh.k
    omega
  ·rename_i c
   rw [if_neg c] at hi
   exact ih i hi
theorem ji (a:Jy) (n:Nat):pW a (Gi ⟨0,0⟩ n)=Gi a n:=by
 unfold pW Gi
 split<;>simp
def Zw (q:Qu) (N:List Int) (is:Nat→Bool):List Jy:=Dt (Y6 q.p N is N.length) q.o.AU.length
theorem oQ (q:Qu) (hq:Jw q) (N:List Int) (hN:iW q N) (hNl:N.length≤1000):Et env 62 [.p (.agg (Enc.enc q)),.p (.lst 3 (cells N) N.length),.clo 85 [.p (.agg (Enc.enc q))] []] [] 0 (.lst 84 (cells (Zw q N (EZ q))) (Zw q N (EZ q)).length):=by
 have his:=fun m hm=>Nj q hq m hm
 generalize hIs:EZ q=is at *
 have n1:=hq.p.notes
 have d1:=hq.o.AU
 have hV0:=Yr q.p N is q.o.AU.length
 have hKl:(Zw q N is).length=q.o.AU.length:=Dn _ _
 rw [hKl]
 unfold Zw
 refine Et.enter (Aj (by decide)) Tryz.func62 rfl (by kernel_rfl) (by simp [Tryz.ntmps62]) ?_
 repeat' (first|apply Ac.assoc|apply Ac.Ak|apply Ac.Ag|apply Ad.nil|apply Ad.one|(apply Aa.QO q.o.AU.length (⟨0,0⟩:Jy);rfl;rfl;rfl;rfl;rfl;rfl;rfl;omega;decide;decide;rfl)|(apply Aa.assign;rfl)|(apply Aa.move;rfl)|(apply Aa.load;rfl;rfl)|(apply Aa.CX;rfl;rfl)|(apply Aa.Aw;rfl;rfl;rfl)|(apply Aa.box;rfl;trivial))
 all_goals try (exfalso;omega)
 rw [hV0]
 apply Ac.Kt (N.length) [(2,_),(3,_),(7,_),(18,_),(19,_)] [(0,_)] (fun k r=>(20,.p (.int .i64 (k:Int)))::r) (fun k r=>(1,.vec 84 (cells (Dt (Y6 q.p N is k) q.o.AU.length)) q.o.AU.length false)::r) 2
 ·first|omega|decide
 ·first|omega|decide
 ·exact Rz
 ·exact VZ
 ·intro k hk
  obtain ⟨g1,g2⟩:=hN k hk
  obtain ⟨m,hm⟩:∃ m:Nat,gi N k=(m:Int):=⟨(gi N k).toNat,by omega⟩
  have hm2:m<q.p.notes.length:=by omega
  have hc:=his m hm2
  rw [← hm] at hc
  cases hi:is m with
  |false =>
   have e1:=jA (p:=q.p) (N:=N) (is:=is) (k:=k) (n:=q.o.AU.length) (by rw [hm,Int.toNat_natCast];exact hi)
   rw [hi] at hc
   repeat' (first|apply Ac.Ak|apply Ac.region|apply Ac.Ai|apply Ac.Ag|apply Au.normal|apply Ap.normal|apply Ac.skip|apply Ad.nil|apply Ad.one|(apply Aa.read [] hc;rfl;rfl;exact .of_eq rfl;exact CZ.AO rfl;exact Du rfl;(repeat (first|exact trivial|refine ⟨⟨_,rfl,.of_eq rfl⟩,?_⟩));decide;(intro _ hb;simp at hb<;>omega);rfl)|(apply Aa.assign;rfl)|(apply Aa.move;rfl)|(apply Aa.BU;rfl;rfl;omega)|(apply Aa.int;rfl;rfl;rfl)|(apply Aa.AP;rfl;rfl;rfl;omega;rfl)|(apply Aa.load;rfl;rfl)|(apply Ac.Ae;rfl)|(apply Ac.cond_false;rfl)|(intro _;try (exfalso;omega)))
   all_goals try (exfalso;omega)
   all_goals try contradiction
   refine Ah.normal ⟨by first|omega|decide,?_,?_⟩
   ·try (rw [e1])
    exact EJ
   ·rw [e1]
    exact FM
  |true =>
   have hNt:=hq.p.note m hm2
   obtain ⟨j,hj⟩:∃ j:Nat,(gi q.p.notes m).d=(j:Int):=⟨(gi q.p.notes m).d.toNat,by have:=hNt.d;omega⟩
   have hjn:j<q.o.AU.length:=by have:=hNt.d;omega
   have hcm:=hq.o.cmp (i:=j) hjn
   have hk2:=hNt.k
   rw [hj,Int.toNat_natCast] at hk2
   obtain ⟨z,hz⟩:∃ z:Nat,(gi q.p.notes m).k=(z:Int):=⟨(gi q.p.notes m).k.toNat,by omega⟩
   have hz2:z<128:=by omega
   have e1:=sH (p:=q.p) (N:=N) (is:=is) (k:=k) hjn (by rw [hm,Int.toNat_natCast];exact hi) (by rw [hm,Int.toNat_natCast];exact hj)
   rw [hm,Int.toNat_natCast,hz,Int.toNat_natCast,← ji] at e1
   have hsl:(Dt (Y6 q.p N is k) q.o.AU.length).length=q.o.AU.length:=Dn _ _
   have hok:(gi (Dt (Y6 q.p N is k) q.o.AU.length) j).Ok:=by
    rw [Fb _ hjn]
    exact Yq (Wu hq hN k (by omega)) _ (Nat.le_refl _)
   have hof:=jo [(gi q.p.notes m).k] (by simp) (fun i hi=>by
    have:i=0:=by simpa using hi
    subst this;show 0≤(gi q.p.notes m).k∧(gi q.p.notes m).k≤127;omega)
   have hoe:kK [(gi q.p.notes m).k] [(gi q.p.notes m).k].length=Gi ⟨0,0⟩ z:=by
    show Gi ⟨0,0⟩ ((gi q.p.notes m).k).toNat=_
    rw [hz,Int.toNat_natCast]
   rw [hoe] at hof
   have hun:=OO (gi (Dt (Y6 q.p N is k) q.o.AU.length) j) (Gi ⟨0,0⟩ z) hok (Xq Rx hz2)
   rw [hi] at hc
   generalize Dt (Y6 q.p N is k) q.o.AU.length=V at *
   generalize hW:(Gi ⟨0,0⟩ z:Jy)=W at *
   repeat' (first|(refine Ad.JE 37 ?_;refine Ad.ghost (Bo.freeze 36 rfl rfl) ?_)|apply Ac.Ak|apply Ac.region|apply Ac.Gv|apply Ac.Ai|apply Ac.Ag|apply Au.normal|apply Ap.normal|apply Ad.nil|apply Af.nil|apply Ad.one|(apply Af.bar;decide +kernel)|apply Af.quiet|(apply Aa.read [] hc;rfl;rfl;exact .of_eq rfl;exact CZ.AO rfl;exact Du rfl;(repeat (first|exact trivial|refine ⟨⟨_,rfl,.of_eq rfl⟩,?_⟩));decide;(intro _ hb;simp at hb<;>omega);rfl)|(apply Aa.fn;rfl;rfl;exact hof;intro _;rfl)|(apply Aa.fn;rfl;rfl;exact hun;intro _;rfl)|(apply Aa.AP (l:=q.p.notes) (i:=m);rfl;exact congrArg (fun b=>some (PV.p (.int .i64 b))) hm;rfl;omega;rfl)|(apply Aa.EY (l:=V) (i:=j);rfl;rfl;exact congrArg (fun b=>some (PV.p (.int .i64 b))) hj;rfl;omega)|(apply Aa.Io (l:=V) (i:=j);rfl;rfl;omega;rfl)|(apply Aa.Nh (l:=V) (i:=j) (y:=pW (gi V j) W);rfl;rfl;rfl;trivial;rfl;rfl;rfl;decide;omega)|(apply Aa.assign;rfl)|(apply Aa.move;rfl)|(apply Aa.BU;rfl;rfl;omega)|(apply Aa.int;rfl;rfl;rfl)|(apply Aa.AP;rfl;rfl;rfl;omega;rfl)|(apply Aa.load;rfl;rfl)|(apply Aa.Aw;rfl;rfl;rfl)|(apply Aa.alloc;rfl)|(apply Aa.Bd;rfl;rfl;rfl;trivial;rfl;rfl;exact Az rfl;exact le_dec rfl)|(apply Aa.buildSlice;rfl;rfl;rfl;decide;rfl;rfl;rfl)|(apply Aa.extract;rfl;rfl)|(apply Ac.Ae;rfl)|(apply Ac.cond_true;rfl)|(intro _;try (exfalso;omega)))
   all_goals try (exfalso;omega)
   all_goals try contradiction
   refine Ah.normal ⟨by first|omega|decide,?_,?_⟩
   ·try (rw [← e1])
    exact EJ
   ·rw [← e1]
    exact FM
 ·repeat' (first|(refine Ac.at 10 ?_;refine Ac.ghost (Bo.freeze 7 rfl rfl) ?_;first|apply Ac.Ak|apply Ac.Dq)|apply Ac.Ak|apply Ac.Bl|apply Au.normal|apply Ap.exit|apply Ah.exit|apply Ac.ret|apply Ad.nil|apply Ad.one|(apply Aa.assign;rfl)|(apply Aa.move;rfl)|(apply Aa.int;rfl;rfl;rfl)|(apply Ac.Ae;rfl)|(intro _;try (exfalso;omega)))
  all_goals first|(exfalso;omega)|(refine Done.ret rfl (.refl _) trivial ?_ (by omega) (Nat.le_refl _) ⟨?_,rfl,rfl⟩;exact FM;try rfl)
theorem nO (q:Qu) (hq:Jw q) (N:List Int) (hN:iW q N) (hNl:N.length≤1000) (l:List Int) (h:Int) (hl:l.length=q.p.notes.length):Et env 62 [.p (.agg (Enc.enc q)),.p (.lst 3 (cells N) N.length),.clo 124 [] [.ref 0 0,.ref 1 0]] (lhB l h) 2 (.lst 84 (cells (Zw q N (hasB l h))) (Zw q N (hasB l h)).length):=by
 have his:=fun m (hm:m<q.p.notes.length)=>oZ l h m (by omega)
 generalize hIs:hasB l h=is at *
 unfold lhB at *
 have n1:=hq.p.notes
 have d1:=hq.o.AU
 have hV0:=Yr q.p N is q.o.AU.length
 have hKl:(Zw q N is).length=q.o.AU.length:=Dn _ _
 rw [hKl]
 unfold Zw
 refine Et.enter (Aj (by decide)) Tryz.func62 rfl (by kernel_rfl) (by simp [Tryz.ntmps62]) ?_
 repeat' (first|apply Ac.assoc|apply Ac.Ak|apply Ac.Ag|apply Ad.nil|apply Ad.one|(apply Aa.QO q.o.AU.length (⟨0,0⟩:Jy);rfl;rfl;rfl;rfl;rfl;rfl;rfl;omega;decide;decide;rfl)|(apply Aa.assign;rfl)|(apply Aa.move;rfl)|(apply Aa.load;rfl;rfl)|(apply Aa.CX;rfl;rfl)|(apply Aa.Aw;rfl;rfl;rfl)|(apply Aa.box;rfl;trivial))
 all_goals try (exfalso;omega)
 rw [hV0]
 apply Ac.Kt (N.length) [(2,_),(3,_),(7,_),(18,_),(19,_)] [(0,_),(1,_),(2,_)] (fun k r=>(20,.p (.int .i64 (k:Int)))::r) (fun k r=>(3,.vec 84 (cells (Dt (Y6 q.p N is k) q.o.AU.length)) q.o.AU.length false)::r) 4
 ·first|omega|decide
 ·first|omega|decide
 ·exact Rz
 ·exact VZ
 ·intro k hk
  obtain ⟨g1,g2⟩:=hN k hk
  obtain ⟨m,hm⟩:∃ m:Nat,gi N k=(m:Int):=⟨(gi N k).toNat,by omega⟩
  have hm2:m<q.p.notes.length:=by omega
  have hc:=his m hm2
  rw [← hm] at hc
  cases hi:is m with
  |false =>
   have e1:=jA (p:=q.p) (N:=N) (is:=is) (k:=k) (n:=q.o.AU.length) (by rw [hm,Int.toNat_natCast];exact hi)
   rw [hi] at hc
   repeat' (first|apply Ac.Ak|apply Ac.region|apply Ac.Ai|apply Ac.Ag|apply Au.normal|apply Ap.normal|apply Ac.skip|apply Ad.nil|apply Ad.one|(apply Aa.read [0,1] hc;rfl;rfl;exact .of_eq rfl;exact CZ.AO rfl;exact Du rfl;(repeat (first|exact trivial|refine ⟨⟨_,rfl,.of_eq rfl⟩,?_⟩));decide;(intro _ hb;simp at hb<;>omega);rfl)|(apply Aa.assign;rfl)|(apply Aa.move;rfl)|(apply Aa.BU;rfl;rfl;omega)|(apply Aa.int;rfl;rfl;rfl)|(apply Aa.AP;rfl;rfl;rfl;omega;rfl)|(apply Aa.load;rfl;rfl)|(apply Ac.Ae;rfl)|(apply Ac.cond_false;rfl)|(intro _;try (exfalso;omega)))
   all_goals try (exfalso;omega)
   all_goals try contradiction
   refine Ah.normal ⟨by first|omega|decide,?_,?_⟩
   ·try (rw [e1])
    exact EJ
   ·rw [e1]
    exact FM
  |true =>
   have hNt:=hq.p.note m hm2
   obtain ⟨j,hj⟩:∃ j:Nat,(gi q.p.notes m).d=(j:Int):=⟨(gi q.p.notes m).d.toNat,by have:=hNt.d;omega⟩
   have hjn:j<q.o.AU.length:=by have:=hNt.d;omega
   have hcm:=hq.o.cmp (i:=j) hjn
   have hk2:=hNt.k
   rw [hj,Int.toNat_natCast] at hk2
   obtain ⟨z,hz⟩:∃ z:Nat,(gi q.p.notes m).k=(z:Int):=⟨(gi q.p.notes m).k.toNat,by omega⟩
   have hz2:z<128:=by omega
   have e1:=sH (p:=q.p) (N:=N) (is:=is) (k:=k) hjn (by rw [hm,Int.toNat_natCast];exact hi) (by rw [hm,Int.toNat_natCast];exact hj)
   rw [hm,Int.toNat_natCast,hz,Int.toNat_natCast,← ji] at e1
   have hsl:(Dt (Y6 q.p N is k) q.o.AU.length).length=q.o.AU.length:=Dn _ _
   have hok:(gi (Dt (Y6 q.p N is k) q.o.AU.length) j).Ok:=by
    rw [Fb _ hjn]
    exact Yq (Wu hq hN k (by omega)) _ (Nat.le_refl _)
   have hof:=jo [(gi q.p.notes m).k] (by simp) (fun i hi=>by
    have:i=0:=by simpa using hi
    subst this;show 0≤(gi q.p.notes m).k∧(gi q.p.notes m).k≤127;omega)
   have hoe:kK [(gi q.p.notes m).k] [(gi q.p.notes m).k].length=Gi ⟨0,0⟩ z:=by
    show Gi ⟨0,0⟩ ((gi q.p.notes m).k).toNat=_
    rw [hz,Int.toNat_natCast]
   rw [hoe] at hof
   have hun:=OO (gi (Dt (Y6 q.p N is k) q.o.AU.length) j) (Gi ⟨0,0⟩ z) hok (Xq Rx hz2)
   rw [hi] at hc
   generalize Dt (Y6 q.p N is k) q.o.AU.length=V at *
   generalize hW:(Gi ⟨0,0⟩ z:Jy)=W at *
   repeat' (first|(refine Ad.JE 37 ?_;refine Ad.ghost (Bo.freeze 36 rfl rfl) ?_)|apply Ac.Ak|apply Ac.region|apply Ac.Gv|apply Ac.Ai|apply Ac.Ag|apply Au.normal|apply Ap.normal|apply Ad.nil|apply Af.nil|apply Ad.one|(apply Af.bar;decide +kernel)|apply Af.quiet|(apply Aa.read [0,1] hc;rfl;rfl;exact .of_eq rfl;exact CZ.AO rfl;exact Du rfl;(repeat (first|exact trivial|refine ⟨⟨_,rfl,.of_eq rfl⟩,?_⟩));decide;(intro _ hb;simp at hb<;>omega);rfl)|(apply Aa.fn;rfl;rfl;exact hof;intro _;rfl)|(apply Aa.fn;rfl;rfl;exact hun;intro _;rfl)|(apply Aa.AP (l:=q.p.notes) (i:=m);rfl;exact congrArg (fun b=>some (PV.p (.int .i64 b))) hm;rfl;omega;rfl)|(apply Aa.EY (l:=V) (i:=j);rfl;rfl;exact congrArg (fun b=>some (PV.p (.int .i64 b))) hj;rfl;omega)|(apply Aa.Io (l:=V) (i:=j);rfl;rfl;omega;rfl)|(apply Aa.Nh (l:=V) (i:=j) (y:=pW (gi V j) W);rfl;rfl;rfl;trivial;rfl;rfl;rfl;decide;omega)|(apply Aa.assign;rfl)|(apply Aa.move;rfl)|(apply Aa.BU;rfl;rfl;omega)|(apply Aa.int;rfl;rfl;rfl)|(apply Aa.AP;rfl;rfl;rfl;omega;rfl)|(apply Aa.load;rfl;rfl)|(apply Aa.Aw;rfl;rfl;rfl)|(apply Aa.alloc;rfl)|(apply Aa.Bd;rfl;rfl;rfl;trivial;rfl;rfl;exact Az rfl;exact le_dec rfl)|(apply Aa.buildSlice;rfl;rfl;rfl;decide;rfl;rfl;rfl)|(apply Aa.extract;rfl;rfl)|(apply Ac.Ae;rfl)|(apply Ac.cond_true;rfl)|(intro _;try (exfalso;omega)))
   all_goals try (exfalso;omega)
   all_goals try contradiction
   refine Ah.normal ⟨by first|omega|decide,?_,?_⟩
   ·try (rw [← e1])
    exact EJ
   ·rw [← e1]
    exact FM
 ·repeat' (first|(refine Ac.at 10 ?_;refine Ac.ghost (Bo.freeze 7 rfl rfl) ?_;first|apply Ac.Ak|apply Ac.Dq)|apply Ac.Ak|apply Ac.Bl|apply Au.normal|apply Ap.exit|apply Ah.exit|apply Ac.ret|apply Ad.nil|apply Ad.one|(apply Aa.assign;rfl)|(apply Aa.move;rfl)|(apply Aa.int;rfl;rfl;rfl)|(apply Ac.Ae;rfl)|(intro _;try (exfalso;omega)))
  all_goals first|(exfalso;omega)|(refine Done.ret rfl (.refl _) trivial ?_ (by omega) (Nat.le_refl _) ⟨?_,rfl,rfl⟩;exact FM;try rfl)
end
section
open Go Go.Am Go.Vm Go.Pie
attribute [local irreducible] Aa Ad Af Ac Ba AB BG Au Ap Ah Vm.Done BQ AY Qr
attribute [local irreducible] CV Bq Eh DY Ez BH CW
def vG (y:au):Int:=if 0≤y.hn∧y.hn≤10 then if 0≤y.fn∧y.fn≤10 then if 0≤y.hs∧y.hs≤127 then if 0≤y.fs∧y.fs≤127 then 0 else 3 else 3 else 3 else 3
theorem dO {y:au} (h:y.Ok):vG y=0:=by
 unfold vG
 rw [if_pos h.hn,if_pos h.fn,if_pos h.hs,if_pos h.fs]
theorem Ko (y:au):AB env 32 [.agg (Enc.enc y)] (.p (.int .i64 (vG y))):=by
 by_cases h1:0≤y.hn∧y.hn≤10
 all_goals by_cases h2:0≤y.fn∧y.fn≤10
 all_goals by_cases h3:0≤y.hs∧y.hs≤127
 all_goals by_cases h4:0≤y.fs∧y.fs≤127
 all_goals unfold vG
 all_goals first|rw [if_pos h1]|rw [if_neg h1]
 all_goals try first|rw [if_pos h2]|rw [if_neg h2]
 all_goals try first|rw [if_pos h3]|rw [if_neg h3]
 all_goals try first|rw [if_pos h4]|rw [if_neg h4]
 all_goals
  refine AB.enter (Aj (by decide)) Tryz.func32 rfl (by kernel_rfl) (by simp [Tryz.ntmps32]) ?_
 all_goals
  repeat' (first|apply Ac.assoc|apply Ac.Ak|apply Ac.region|apply Ac.Ai|apply Ac.Bl|apply Ac.Ag|apply Au.normal|apply Au.ret|apply Ap.normal|apply Ap.ret|apply Ap.exit|apply Ah.ret|apply Ah.exit|apply Ac.ret|apply Ac.skip|apply Ad.nil|apply Ad.one|(apply Ad.take;rfl;rfl)|(apply Ad.drop;rfl;rfl;rfl)|(apply Ad.guard;rfl;rfl)|(apply Aa.a8z;rfl;rfl;rfl;rfl;rfl)|(apply Ac.a7f 2)|(apply Qr.zero)|(apply Qr.succ)|(apply Ah.again)|(apply Aa.a9g;rfl;rfl;rfl;rfl;rfl;decide;rfl)|(apply Aa.assign;rfl)|(apply Aa.move;rfl)|(apply Aa.BU;rfl;rfl;omega)|(apply Aa.int;rfl;rfl;rfl)|(apply Aa.load;rfl;rfl)|(apply Aa.Bc;rfl;rfl)|(apply Aa.AL;rfl;rfl)|(apply Aa.Aw;rfl;rfl;rfl)|(apply Aa.box;rfl;trivial)|(apply Ac.Bf;rfl)|(apply Ac.Aq;rfl)|(apply Ac.cond_true;rfl)|(apply Ac.AZ;rfl)|(intro _;try (exfalso;omega)))
 all_goals first|(exfalso;omega)|(refine Done.rt rfl rfl ⟨?_,rfl,rfl⟩;try rfl)
theorem a1z (y:au) (hy:y.Ok) (s:Jy) (hs:s.Ok):AB env 25 [.agg (Enc.enc y),.agg (Enc.enc s)] (.Ee [.p (.bool (decide (fU y (FD s)))),.p (.int .i64 0)]):=by
 have hc:=Ko y
 have e0:=dO hy
 rw [e0] at hc
 have hm:=UZ hs.lo hs.hi
 have hr:∀ x∈FD s,0≤x∧x≤127:=fun x hx=>by
  obtain ⟨n,h1,rfl,_⟩:=lN.1 hx;omega
 have h1:=zW y (FD s) (WI s) hr
 have hm:BG env 61 [.agg (Enc.enc s)] 3 (cells (FD s)) (FD s).length _:=hm
 generalize FD s=M at *
 refine AB.enter (Aj (by decide)) Tryz.func25 rfl (by kernel_rfl) (by simp [Tryz.ntmps25]) ?_
 repeat' (first|(refine Af.JE 15 ?_;refine Af.ghost (Bo.freeze 14 rfl rfl) ?_)|apply Ac.assoc|apply Ac.Ak|apply Ac.Dq|apply Ac.Ai|apply Ac.ret|apply Ad.nil|apply Af.nil|apply Ad.one|(apply Af.bar;decide +kernel)|apply Af.quiet|(apply Aa.fn;rfl;rfl;exact hc;intro _;rfl)|(apply Aa.fv;rfl;rfl;exact hm)|(apply Aa.fn;rfl;rfl;exact h1;intro _;rfl)|(apply Aa.assign;rfl)|(apply Aa.move;rfl)|(apply Aa.int;rfl;rfl;rfl)|(apply Aa.load;rfl;rfl)|(apply Aa.box;rfl;trivial)|(apply Ac.Aq;rfl))
 all_goals first|(exfalso;omega)|(refine Done.rt rfl rfl ⟨?_,rfl,rfl⟩;try rfl)
def YW (l:List Jy):Nat→Jy
 |0=>⟨0,0⟩
 |k+1=>pW (YW l k) (gi l k)
def fE (l:List Jy):Nat→Int
 |0=>0
 |k+1=>fE l k+((FD (gi l k)).length:Int)
def ZV (y:au) (l:List Jy):Prop:=fE l l.length≤y.fn∧wid (FD (YW l l.length))≤y.fs
instance (y:au) (l:List Jy):Decidable (ZV y l):=inferInstanceAs (Decidable (_∧_))
theorem gu {l:List Jy} (h:∀ i,i<l.length→(gi l i).Ok):∀ k,k≤l.length→(YW l k).Ok
 |0,_=>Rx
 |k+1,hk=>a2m (gu h k (by omega)) (h k (by omega))
theorem Xp (l:List Jy):∀ k,0≤fE l k∧fE l k≤128*k
 |0=>⟨Int.le_refl _,Int.le_refl _⟩
 |k+1=>by
  have:=Xp l k
  have:=WI (gi l k)
  show 0≤fE l k+((FD (gi l k)).length:Int)∧fE l k+((FD (gi l k)).length:Int)≤128*((k+1:Nat):Int)
  omega
theorem qO (y:au) (l:List Jy) (hl:l.length≤1000) (h:∀ i,i<l.length→(gi l i).Ok):AB env 68 [.agg (Enc.enc y),.lst 84 (cells l) l.length] (.p (.bool (decide (ZV y l)))):=by
 have hU:=gu h l.length (Nat.le_refl _)
 have hm:BG env 61 [.agg (Enc.enc (YW l l.length))] 3 (cells (FD (YW l l.length))) (FD (YW l l.length)).length _:=UZ hU.lo hU.hi
 have hw:=XT (FD (YW l l.length)) (WI _) fun x hx=>by
  obtain ⟨n,h1,rfl,_⟩:=lN.1 hx;omega
 have hn:=Xp l l.length
 refine AB.enter (Aj (by decide)) Tryz.func68 rfl (by kernel_rfl) (by simp [Tryz.ntmps68]) ?_
 repeat' (first|apply Ac.assoc|apply Ac.Ak|apply Ac.Ag|apply Ad.nil|apply Ad.one|(apply Aa.assign;rfl)|(apply Aa.move;rfl)|(apply Aa.CX;rfl;rfl)|(apply Aa.box;rfl;trivial)|(apply Aa.alloc;rfl))
 apply Ac.Kt (l.length) [(2,_),(5,_),(9,_),(10,_)] [(0,_)] (fun k r=>(11,.p (.int .i64 (k:Int)))::(6,.p (.int .i64 (fE l k)))::r) (fun k r=>(1,.box 84 ((Enc.enc (YW l k)).map .p))::r) 2
 ·first|omega|decide
 ·first|omega|decide
 ·exact Rz
 ·exact VZ
 ·intro k hk
  have hu:=OO (YW l k) (gi l k) (gu h k (by omega)) (h k hk)
  have hc:=oI (gi l k) (h k hk)
  have hr:=Xp l k
  have hl:=WI (gi l k)
  repeat' (first|apply Ac.Ak|apply Ac.region|apply Ac.Ai|apply Ac.Ag|apply Au.normal|apply Ap.normal|apply Ad.nil|apply Ad.one|(apply Aa.fn;rfl;rfl;exact hu;intro _;rfl)|(apply Aa.fn;rfl;rfl;exact hc;intro _;rfl)|(apply Aa.assign;rfl)|(apply Aa.move;rfl)|(apply Aa.BU;rfl;rfl;omega)|(apply Aa.int;rfl;rfl;rfl)|(apply Aa.AP;rfl;rfl;rfl;omega;rfl)|(apply Aa.load;rfl;rfl)|(apply Aa.alloc;rfl)|(apply Aa.Bd;rfl;rfl;rfl;trivial;rfl;rfl;exact Az rfl;exact le_dec rfl)|(apply Ac.Ae;rfl)|(intro _;try (exfalso;omega)))
  all_goals try (exfalso;omega)
  refine Ah.normal ⟨by first|omega|decide,?_,?_⟩
  ·exact EJ
  ·exact FM
 ·have e:decide (ZV y l)=(decide (fE l l.length≤y.fn)&&decide (wid (FD (YW l l.length))≤y.fs)):=by
   unfold ZV;exact Bool.decide_and _ _
  rw [e]
  generalize FD (YW l l.length)=M at *
  generalize fE l l.length=C at *
  generalize wid M=W at *
  by_cases h1:C≤y.fn
  ·rw [decide_eq_true h1,Bool.true_and]
   repeat' (first|(refine Af.JE 30 ?_;refine Af.ghost (Bo.freeze 29 rfl rfl) ?_)|apply Ac.Ak|apply Ac.Dq|apply Ac.Bl|apply Au.normal|apply Ap.exit|apply Ah.exit|apply Ac.ret|apply Ad.nil|apply Af.nil|apply Ad.one|(apply Af.bar;decide +kernel)|apply Af.quiet|(apply Af.FK;rfl;rfl)|(apply Af.guard;rfl;rfl)|(apply Aa.fv;rfl;rfl;exact hm)|(apply Aa.fn;rfl;rfl;exact hw;intro _;rfl)|(apply Aa.assign;rfl)|(apply Aa.move;rfl)|(apply Aa.int;rfl;rfl;rfl)|(apply Aa.load;rfl;rfl)|(apply Aa.Bc;rfl;rfl)|(apply Aa.Aw;rfl;rfl;rfl)|(apply Ac.Ae;rfl)|(intro _;try (exfalso;omega)))
   all_goals first|(exfalso;omega)|(refine Done.rt rfl rfl ⟨?_,rfl,rfl⟩;try rfl)
  ·rw [decide_eq_false h1,Bool.false_and]
   repeat' (first|apply Ac.Ak|apply Ac.Dq|apply Ac.Bl|apply Au.normal|apply Ap.exit|apply Ah.exit|apply Ac.ret|apply Ad.nil|apply Af.nil|apply Ad.one|(apply Af.bar;decide +kernel)|apply Af.quiet|(apply Af.drop;rfl;rfl;rfl)|(apply Af.guard;rfl;rfl)|(apply Aa.assign;rfl)|(apply Aa.move;rfl)|(apply Aa.int;rfl;rfl;rfl)|(apply Aa.load;rfl;rfl)|(apply Aa.AL;rfl;rfl)|(apply Aa.Aw;rfl;rfl;rfl)|(apply Ac.Ae;rfl)|(intro _;try (exfalso;omega)))
   all_goals first|(exfalso;omega)|(refine Done.rt rfl rfl ⟨?_,rfl,rfl⟩;try rfl)
theorem mP (y:au) (hy:y.Ok) (l:List Jy) (hl:l.length≤1000) (h:∀ i,i<l.length→(gi l i).Ok):AB env 161 [.agg (Enc.enc y),.lst 84 (cells l) l.length] (.Ee [.p (.bool (decide (ZV y l))),.p (.int .i64 0)]):=by
 have hc:=Ko y
 have e0:=dO hy
 rw [e0] at hc
 have hf:=qO y l hl h
 refine AB.enter (Aj (by decide)) Tryz.func161 rfl (by kernel_rfl) (by simp [Tryz.ntmps161]) ?_
 repeat' (first|apply Ac.assoc|apply Ac.Ak|apply Ac.Ai|apply Ac.ret|apply Ad.nil|apply Ad.one|(apply Aa.fn;rfl;rfl;exact hc;intro _;rfl)|(apply Aa.fn;rfl;rfl;exact hf;intro _;rfl)|(apply Aa.assign;rfl)|(apply Aa.move;rfl)|(apply Aa.int;rfl;rfl;rfl)|(apply Aa.load;rfl;rfl)|(apply Aa.box;rfl;trivial)|(apply Ac.Aq;rfl))
 all_goals first|(exfalso;omega)|(refine Done.rt rfl rfl ⟨?_,rfl,rfl⟩;try rfl)
end
section
open Go Go.Am Go.Vm Go.Pie
attribute [local irreducible] Aa Ad Af Ac Ba AB BG Au Ap Ah Vm.Done BQ AY Qr
attribute [local irreducible] CV Bq Eh DY Ez BH CW
theorem jy:env.O 147=some (Vr (AX Tryz.prog 8 DX) (BD Tryz.prog 8 DX) Tryz.f147.ntmps NR):=by
 have h:WZ 147=some (Vr (AX Tryz.prog 8 DX) (BD Tryz.prog 8 DX) Tryz.f147.ntmps NR):=by
  unfold WZ
  exact qZ
 exact h
theorem vk (s:Jy) (hs:s.Ok) {e:TypeId}:a6n env 147 Tryz.f147 (Enc.enc s) e (Fj s.lo s.hi):=by
 intro Fo hFo m F c vs hc hr hF
 rw [jy] at hFo
 cases hFo
 have ee:Enc.enc s=[.int .u64 (s.lo:Int),.int .u64 (s.hi:Int)]:=rfl
 rw [ee] at hr
 cases hr with|cons a0 t =>
 cases t with|cons a1 t =>
 cases t
 cases a0;cases a1
 refine ⟨notKey s.lo s.hi,fun m' F' σ' H' nx' hsame V4=>⟨m',?_⟩⟩
 refine yK (kr:=(notKey s.lo s.hi,Fj s.lo s.hi)) (gJ V4) ?_
 have q1:=(hsame c hF).trans hc
 have b1:=hs.lo
 have b2:=hs.hi
 unfold NR
 simp only [q1]
 rw [if_pos ⟨⟨by omega,by omega⟩,by omega,by omega⟩]
 rfl
theorem a3p {L:Vm.Frame} {H:Vm.Heap} {nx:Nat} {Q:PV→Vm.Heap→Nat→Prop} {dst:Option Tmp} {ty:TypeId} {pos:String} {af:Array Edge} {gd:Option (Nat×Bool)} {fo:Operand} {args:Array Operand} {aT:Array TypeId} {fs cs xs:List PV} {c:Code}
 (hf:Bh env.Γ L fo=some (.clo 108 fs cs)) (ha:evs env.Γ L args.toList=some xs) (hb:Tryz.f108.body=some c) (hn:(fs++xs++cs).length≤Tryz.f108.ntmps)
 (h:Ac env nx c (CP 0 (fs++xs++cs)) H nx (AY env.P Tryz.f108.results.toList Q)):Aa env true ⟨dst,.call { callee:=.value fo,args:=args,argTypes:=aT },ty,pos,af,gd⟩ L H nx Q:=by
 have h0:(match Tryz.f108.body with|some c=>Ij env.G Tryz.f108 c|none=>false)=true:=by kernel_rfl
 rw [hb] at h0
 exact Aa.inline rfl hf ha (Aj (by decide)) Tryz.func108 hb h0 hn h
theorem mQ (s:Jy) (hs:s.Ok):AB env 125 [.agg (Enc.enc s)] (.Ee [.p (.int .i64 (gi (FD s) 0)),.p (.bool (decide (FD s≠[])))]):=by
 refine AB.enter (Aj (by decide)) Tryz.func125 rfl (by kernel_rfl) (by simp [Tryz.ntmps125]) ?_
 repeat' (first|apply Ac.assoc|apply Ac.Ak|apply Ac.Ag|(apply AY.ret;rfl)|apply Ac.ret|apply Ad.nil|apply Ad.one|(apply a3p;rfl;rfl;rfl;exact le_dec rfl)|(apply Aa.makeFunc;rfl;rfl)|(apply Aa.assign;rfl)|(apply Aa.load;rfl;rfl)|(apply Aa.box;rfl;trivial)|(apply Aa.alloc;rfl))
 all_goals try (exfalso;omega)
 refine Ac.o8 (FD s).length (fun k=>[.int .i64 (gi (FD s) k)]) (fun k=>[Go.encZ (gi (FD s) k)]) [(2,.ref 1 0),(3,.ref 2 0)]
  (fun k=>[(1,.box 3 [.p (.int .i64 0)]),(2,.box 4 [.p (.bool false)])]) 3 (fun k=>k=0)
  rfl rfl Tryz.func147 rfl jy ?_ (fun _ _=>rfl) (fun _ _=>rfl) (fun k _ m F=>.cons (.int _ _) .nil) (by omega) ⟨by omega,?_,?_⟩ ?_ (vk s hs) rfl ?_ ?_
 ·unfold Fj FD
  refine List.ext_getElem (by simp) fun i h1 h2=>?_
  simp only [List.getElem_map,List.getElem_range]
  unfold gi
  rw [List.length_map] at h1
  rw [List.getElem?_eq_getElem h1]
  rfl
 ·exact EJ
 ·exact FM
 ·exact EJ
 ·rintro k hk rfl
  have h0:FD s≠[]:=fun e=>by rw [e] at hk;simp at hk
  rw [decide_eq_true h0]
  repeat' (first|apply Ac.region|apply Ad.nil|apply Ad.one|(apply Aa.assign;rfl))
  refine ⟨rfl,?_⟩
  repeat' (first|apply Ac.Ak|apply Ap.ret|apply Ac.ret|apply Ac.NI|apply Ad.nil|apply Ad.one|(apply Aa.move;rfl)|(apply Aa.Bd;rfl;rfl;rfl;trivial;rfl;rfl;exact Az rfl;exact le_dec rfl))
  refine ⟨by omega,[(1,.box 3 [.p (.int .i64 (gi (FD s) 0))]),(2,.box 4 [.p (.bool true)])],?_,?_⟩
  ·exact FM
  ·repeat' (first|apply Au.ret|apply Ap.ret)
   all_goals first|(exfalso;omega)|(refine Done.rt rfl rfl ⟨?_,rfl,rfl⟩;try rfl)
 ·intro h
  have h0:FD s=[]:=List.length_eq_zero_iff.1 h
  rw [h0]
  repeat' (first|apply Ac.Ak|apply Au.normal|apply Ap.normal|apply Ac.ret|apply Ad.nil|apply Ad.one|(apply Aa.Bd;rfl;rfl;rfl;trivial;rfl;rfl;exact Az rfl;exact le_dec rfl))
  all_goals first|(exfalso;omega)|(refine Done.rt rfl rfl ⟨?_,rfl,rfl⟩;try rfl)
end
section
open Go Go.Am Go.Vm Go.Pie
attribute [local irreducible] Aa Ad Af Ac Ba AB BG Au Ap Ah Vm.Done BQ AY Qr
attribute [local irreducible] CV Bq Eh DY Ez BH CW
structure Ul where
 d:Int
 k:Int
deriving DecidableEq
instance:Enc Ul:={ default:=⟨0,0⟩,enc:=fun x=>[.int .i64 x.d,.int .i64 x.k],size:=2,len:=fun _=>rfl }
def hcK (y:au) (K:List Jy):Nat→Bool×Int
 |0=>(true,0)
 |k+1=>if FD (gi K k)=[] then hcK y K k else ((hcK y K k).1&&decide ((hcK y K k).2=0)&&decide (fU y (FD (gi K k))),(hcK y K k).2+1)
theorem sK (y:au) (K:List Jy):∀ k,0≤(hcK y K k).2∧(hcK y K k).2≤k
 |0=>⟨Int.le_refl _,Int.le_refl _⟩
 |k+1=>by
  have:=sK y K k
  unfold hcK
  split
  ·omega
  ·show 0≤(hcK y K k).2+1∧(hcK y K k).2+1≤((k+1:Nat):Int)
   omega
def Tv (p:F7) (N l:List Int) (h:Int):Nat→Bool×Ul
 |0=>(false,⟨0,0⟩)
 |k+1=>if gi l (gi N k).toNat=h∧((Tv p N l h k).1=false∨(gi p.notes (gi N k).toNat).k<(Tv p N l h k).2.k) then (true,⟨(gi p.notes (gi N k).toNat).d,(gi p.notes (gi N k).toNat).k⟩) else Tv p N l h k
def gQ (q:Qu) (N l:List Int) (h:Int):Bool:=(hcK q.y (Zw q N (hasB l h)) (Zw q N (hasB l h)).length).1
theorem rC (q:Qu) (N:List Int) (is:Nat→Bool):(Zw q N is).length=q.o.AU.length:=Dn _ _
theorem zx {q:Qu} (hq:Jw q) {N:List Int} (hN:iW q N) (is:Nat→Bool) {d:Nat} (hd:d<q.o.AU.length):(gi (Zw q N is) d).Ok:=by
 unfold Zw
 rw [Fb _ hd]
 exact Yq (Wu hq hN _ (Nat.le_refl _)) _ (Nat.le_refl _)
theorem Ph (q:Qu) (hq:Jw q) (s:Zv) (hN:iW q s.notes) (hNl:s.notes.length≤1000) (l:List Int) (h:Int) (hl:l.length=q.p.notes.length):AB env 86 [.agg (Enc.enc q),.agg (Enc.enc s),.lst 3 (cells l) l.length,.int .i64 h]
 (.Ee [.p (.agg (Enc.enc (Tv q.p s.notes l h s.notes.length).2)),.p (.bool (Tv q.p s.notes l h s.notes.length).1),.p (.bool (gQ q s.notes l h))]):=by
 have n1:=hq.p.notes
 have d1:=hq.o.AU
 have hk:=nO q hq s.notes hN hNl l h hl
 have hKl:=rC q s.notes (hasB l h)
 have hKo:=fun d hd=>zx hq hN (hasB l h) (d:=d) hd
 rw [← hKl] at hKo
 unfold gQ
 generalize Zw q s.notes (hasB l h)=K at *
 refine AB.enter (Aj (by decide)) Tryz.func86 rfl (by kernel_rfl) (by simp [Tryz.ntmps86]) ?_
 repeat' (first|apply Ac.assoc|apply Ac.Ak|apply Ac.Ag|apply Ad.nil|apply Ad.one|(apply Aa.read [2,3] hk;rfl;rfl;exact .of_eq rfl;exact CZ.AO rfl;exact Du rfl;(repeat (first|exact trivial|refine ⟨⟨_,rfl,.of_eq rfl⟩,?_⟩));decide;(intro _ hb;simp at hb<;>omega);rfl)|(apply Aa.makeFunc;rfl;rfl)|(apply Aa.assign;rfl)|(apply Aa.move;rfl)|(apply Aa.load;rfl;rfl)|(apply Aa.CX;rfl;rfl)|(apply Aa.Aw;rfl;rfl;rfl)|(apply Aa.box;rfl;trivial)|(apply Aa.alloc;rfl))
 all_goals try (exfalso;omega)
 apply Ac.Kt (K.length) [(4,_),(5,_),(6,_),(7,_),(8,_),(9,_),(25,_),(26,_)] [(0,_),(1,_),(2,_),(3,_),(4,_)] (fun k r=>(27,.p (.int .i64 (k:Int)))::(10,.p (.bool (hcK q.y K k).1))::(11,.p (.int .i64 (hcK q.y K k).2))::r) (fun k r=>r) 5
 ·first|omega|decide
 ·first|omega|decide
 ·exact Rz
 ·exact VZ
 ·intro k hk
  have hle:=mQ (gi K k) (hKo k hk)
  have hon:=a1z q.y hq.y (gi K k) (hKo k hk)
  have hr:=sK q.y K k
  have e1:hcK q.y K (k+1)=if FD (gi K k)=[] then hcK q.y K k else ((hcK q.y K k).1&&decide ((hcK q.y K k).2=0)&&decide (fU q.y (FD (gi K k))),(hcK q.y K k).2+1):=rfl
  rw [e1]
  clear e1
  generalize hcK q.y K k=r at *
  obtain ⟨c,n⟩:=r
  by_cases h0:FD (gi K k)=[]
  ·rw [if_pos h0]
   rw [decide_eq_false (fun e=>e h0)] at hle
   generalize gi (FD (gi K k)) 0=z at *
   repeat' (first|apply Ac.assoc|apply Ac.Ak|apply Ac.region|apply Ac.Ai|apply Ac.Bl|apply Ac.Ag|apply Au.normal|apply Ap.exit|apply Ad.nil|apply Ad.one|(apply Aa.fn;rfl;rfl;exact hle;intro _;rfl)|(apply Aa.assign;rfl)|(apply Aa.move;rfl)|(apply Aa.BU;rfl;rfl;omega)|(apply Aa.int;rfl;rfl;rfl)|(apply Aa.AP;rfl;rfl;rfl;omega;rfl)|(apply Aa.load;rfl;rfl)|(apply Aa.alloc;rfl)|(apply Aa.Bd;rfl;rfl;rfl;trivial;rfl;rfl;exact Az rfl;exact le_dec rfl)|(apply Aa.not;rfl)|(apply Aa.extract;rfl;rfl)|(apply Ac.Bf;rfl)|(apply Ac.Ae;rfl)|(intro _;try (exfalso;omega)))
   all_goals try (exfalso;omega)
   refine Ah.normal ⟨by first|omega|decide,?_,?_⟩
   ·exact EJ
   ·exact FM
  ·rw [if_neg h0]
   rw [decide_eq_true h0] at hle
   generalize gi (FD (gi K k)) 0=z at *
   generalize decide (fU q.y (FD (gi K k)))=w at *
   cases c
   all_goals by_cases hn:n=0
   all_goals cases w
   all_goals first|rw [decide_eq_true hn]|rw [decide_eq_false hn]
   all_goals
    repeat' (first|apply Ac.assoc|apply Ac.Ak|apply Ac.region|apply Ac.Ai|apply Ac.Ag|apply Au.normal|apply Ap.normal|apply Ad.nil|apply Ad.one|(apply Ad.take;rfl;rfl)|(apply Ad.drop;rfl;rfl;rfl)|(apply Ad.guard;rfl;rfl)|(apply Aa.fn;rfl;rfl;exact hle;intro _;rfl)|(apply Aa.fn;rfl;rfl;exact hon;intro _;rfl)|(apply Aa.assign;rfl)|(apply Aa.move;rfl)|(apply Aa.BU;rfl;rfl;omega)|(apply Aa.int;rfl;rfl;rfl)|(apply Aa.AP;rfl;rfl;rfl;omega;rfl)|(apply Aa.load;rfl;rfl)|(apply Aa.Bc;rfl;rfl)|(apply Aa.AL;rfl;rfl)|(apply Aa.Aw;rfl;rfl;rfl)|(apply Aa.alloc;rfl)|(apply Aa.Bd;rfl;rfl;rfl;trivial;rfl;rfl;exact Az rfl;exact le_dec rfl)|(apply Aa.not;rfl)|(apply Aa.extract;rfl;rfl)|(apply Ac.Aq;rfl)|(apply Ac.Ae;rfl)|(intro _;try (exfalso;omega)))
   all_goals try (exfalso;omega)
   all_goals try contradiction
   all_goals
    refine Ah.normal ⟨by first|omega|decide,?_,?_⟩
    ·exact EJ
    ·exact FM
 ·repeat' (first|apply Ac.assoc|apply Ac.Ak|apply Ac.Bl|apply Ac.Ag|apply Au.normal|apply Ap.exit|apply Ah.exit|apply Ad.nil|apply Ad.one|(apply Aa.move;rfl)|(apply Aa.int;rfl;rfl;rfl)|(apply Aa.load;rfl;rfl)|(apply Aa.CX;rfl;rfl)|(apply Aa.Aw;rfl;rfl;rfl)|(apply Ac.Ae;rfl)|(intro _;try (exfalso;omega)))
  all_goals try (exfalso;omega)
  apply Ac.Kt (s.notes.length) [(4,_),(6,_),(7,_),(8,_),(10,_),(57,_),(58,_)] [(0,_),(1,_),(2,_),(3,_)] (fun k r=>(59,.p (.int .i64 (k:Int)))::(9,.p (.bool (Tv q.p s.notes l h k).1))::r) (fun k r=>(4,.box 120 ((Enc.enc (Tv q.p s.notes l h k).2).map .p))::r) 5
  ·first|omega|decide
  ·first|omega|decide
  ·exact Rz
  ·exact VZ
  ·intro k hk
   obtain ⟨g1,g2⟩:=hN k hk
   obtain ⟨m,hm⟩:∃ m:Nat,gi s.notes k=(m:Int):=⟨(gi s.notes k).toNat,by omega⟩
   have hm2:m<q.p.notes.length:=by omega
   have e1:Tv q.p s.notes l h (k+1)=if gi l (gi s.notes k).toNat=h∧((Tv q.p s.notes l h k).1=false∨(gi q.p.notes (gi s.notes k).toNat).k<(Tv q.p s.notes l h k).2.k) then (true,⟨(gi q.p.notes (gi s.notes k).toNat).d,(gi q.p.notes (gi s.notes k).toNat).k⟩) else Tv q.p s.notes l h k:=rfl
   rw [hm,Int.toNat_natCast] at e1
   rw [e1]
   clear e1
   generalize Tv q.p s.notes l h k=r at *
   obtain ⟨c,a⟩:=r
   by_cases h1:gi l m=h
   all_goals cases c
   all_goals by_cases h2:(gi q.p.notes m).k<a.k
   all_goals first|rw [if_pos (And.intro h1 (Or.inl rfl))]|rw [if_pos (And.intro h1 (Or.inr h2))]|rw [if_neg (fun e=>h1 e.1)]|rw [if_neg (fun e=>e.2.elim (fun e=>nomatch e) h2)]
   all_goals
    repeat' (first|apply Ac.Ak|apply Ac.Dq|apply Ac.region|apply Ac.Ai|apply Ac.Ag|apply Au.normal|apply Ap.normal|apply Ac.skip|apply Ad.nil|apply Af.nil|apply Ad.one|(apply Af.bar;decide +kernel)|apply Af.quiet|(apply Af.FK;rfl;rfl)|(apply Af.drop;rfl;rfl;rfl)|(apply Af.guard;rfl;rfl)|(apply Af.Sz;rfl;rfl)|(apply Aa.AP (l:=q.p.notes) (i:=m);rfl;exact congrArg (fun b=>some (PV.p (.int .i64 b))) hm;rfl;omega;rfl)|(apply Aa.AP (l:=l) (i:=m);rfl;exact congrArg (fun b=>some (PV.p (.int .i64 b))) hm;rfl;omega;rfl)|(apply Aa.assign;rfl)|(apply Aa.move;rfl)|(apply Aa.BU;rfl;rfl;omega)|(apply Aa.int;rfl;rfl;rfl)|(apply Aa.AP;rfl;rfl;rfl;omega;rfl)|(apply Aa.load;rfl;rfl)|(apply Aa.Bc;rfl;rfl)|(apply Aa.AL;rfl;rfl)|(apply Aa.Aw;rfl;rfl;rfl)|(apply Aa.alloc;rfl)|(apply Aa.Bd;rfl;rfl;rfl;trivial;rfl;rfl;exact Az rfl;exact le_dec rfl)|(apply Aa.build;rfl;rfl;rfl;rfl;rfl)|(apply Aa.not;rfl)|(apply Ac.Ae;rfl)|(apply Ac.cond_true;rfl)|(apply Ac.cond_false;rfl)|(apply Ac.AZ;rfl)|(intro _;try (exfalso;omega)))
   all_goals try (exfalso;omega)
   all_goals try contradiction
   all_goals
    refine Ah.normal ⟨by first|omega|decide,?_,?_⟩
    ·exact EJ
    ·exact FM
  ·repeat' (first|apply Ac.Ak|apply Ac.Bl|apply Au.normal|apply Ap.exit|apply Ah.exit|apply Ac.ret|apply Ad.nil|apply Ad.one|(apply Aa.assign;rfl)|(apply Aa.move;rfl)|(apply Aa.int;rfl;rfl;rfl)|(apply Aa.load;rfl;rfl)|(apply Aa.Bd;rfl;rfl;rfl;trivial;rfl;rfl;exact Az rfl;exact le_dec rfl)|(apply Ac.Ae;rfl)|(intro _;try (exfalso;omega)))
   all_goals first|(exfalso;omega)|(refine Done.rt rfl rfl ⟨?_,rfl,rfl⟩;try rfl)
end
end Go.Proofs.YtnjkoebfgcbbdaaGreatDoor
namespace Go.Vm
open Go.Am
variable {E:Env} {L:Frame} {H:Heap} {nx:Nat} {Q:PV→Heap→Nat→Prop} {dst:Option Tmp} {ty:TypeId} {pos:String} {af:Array Edge} {gd:Option (Nat×Bool)} {w:Bool}
theorem Aa.SX {fo:Operand} {args:Array Operand} {aT:Array TypeId} {g:FuncId} {fs cs aa ac:List PV} {x:FV} (hc:Et E g ac [] 0 x) (hf:Bh E.Γ L fo=some (.clo g fs cs)) (ha:evs E.Γ L args.toList=some aa)
 (hle:MF (fs++aa++cs) (CZ.rn (rho [] nx) ac)) (hu:CZ.under 0 ac) (q:Q (.p x) H nx):Aa E w ⟨dst,.call { callee:=.value fo,args:=args,argTypes:=aT },ty,pos,af,gd⟩ L H nx Q :=
 Aa.Y1 (ns:=[]) (Hc:=[]) hf ha hle hu trivial trivial List.nodup_nil (by simp) (fun _=>rfl) hc
  (fun r H' nx' h=>by
   obtain ⟨h1,h2,h3⟩:=h
   subst h1;subst h2;subst h3
   rw [Pv]
   exact q)
end Go.Vm
namespace Go.Proofs.YtnjkoebfgcbbdaaGreatDoor
open Go Go.Am Go.Vm Go.Pie
attribute [local irreducible] Aa Ad Af Ac Ba AB BG Au Ap Ah Vm.Done BQ AY Qr
attribute [local irreducible] CV Bq Eh DY Ez BH CW
def sO (q:Qu) (N:List Int):Bool:=decide (ZV q.y (Zw q N (EZ q)))
def Iz (q:Qu) (N l:List Int):Bool:=gQ q N l 0&&gQ q N l 1&&sO q N
theorem og (q:Qu) (hq:Jw q) (s:Zv) (hN:iW q s.notes) (hNl:s.notes.length≤1000):AB env 128 [.agg (Enc.enc q),.agg (Enc.enc s)] (.p (.bool (sO q s.notes))):=by
 have d1:=hq.o.AU
 have hk:=oQ q hq s.notes hN hNl
 have hKl:=rC q s.notes (EZ q)
 have hKo:=fun d hd=>zx hq hN (EZ q) (d:=d) hd
 rw [← hKl] at hKo
 have hf:=mP q.y hq.y (Zw q s.notes (EZ q)) (by omega) hKo
 unfold sO
 generalize Zw q s.notes (EZ q)=K at *
 refine AB.enter (Aj (by decide)) Tryz.func128 rfl (by kernel_rfl) (by simp [Tryz.ntmps128]) ?_
 repeat' (first|apply Ac.Ak|apply Ac.Dq|apply Ac.ret|apply Ad.nil|apply Af.nil|apply Ad.one|(apply Af.bar;decide +kernel)|apply Af.quiet|(apply Aa.fn;rfl;rfl;exact hf;intro _;rfl)|(apply Aa.SX hk;rfl;rfl;exact .of_eq rfl;exact CZ.AO rfl)|(apply Aa.makeFunc;rfl;rfl)|(apply Aa.assign;rfl)|(apply Aa.move;rfl)|(apply Aa.load;rfl;rfl)|(apply Aa.Aw;rfl;rfl;rfl)|(apply Aa.box;rfl;trivial)|(apply Aa.extract;rfl;rfl))
 all_goals first|(exfalso;omega)|(refine Done.rt rfl rfl ⟨?_,rfl,rfl⟩;try rfl)
theorem Qj (q:Qu) (hq:Jw q) (s:Zv) (hN:iW q s.notes) (hNl:s.notes.length≤1000) (l:List Int) (hl:l.length=q.p.notes.length):AB env 90 [.agg (Enc.enc q),.agg (Enc.enc s),.lst 3 (cells l) l.length] (.p (.bool (Iz q s.notes l))):=by
 have h0:=Ph q hq s hN hNl l 0 hl
 have h1:=Ph q hq s hN hNl l 1 hl
 have hf:=og q hq s hN hNl
 unfold Iz
 generalize gQ q s.notes l 0=c0 at *
 generalize gQ q s.notes l 1=c1 at *
 generalize sO q s.notes=c2 at *
 generalize Tv q.p s.notes l 0 s.notes.length=a0 at *
 generalize Tv q.p s.notes l 1 s.notes.length=a1 at *
 cases c0<;>cases c1<;>cases c2
 all_goals
  refine AB.enter (Aj (by decide)) Tryz.func90 rfl (by kernel_rfl) (by simp [Tryz.ntmps90]) ?_
 all_goals
  repeat' (first|apply Ac.Ak|apply Ac.ret|apply Ad.nil|apply Ad.one|(apply Ad.take;rfl;rfl)|(apply Ad.drop;rfl;rfl;rfl)|(apply Aa.fn;rfl;rfl;exact h0;intro _;rfl)|(apply Aa.fn;rfl;rfl;exact h1;intro _;rfl)|(apply Aa.fn;rfl;rfl;exact hf;intro _;rfl)|(apply Aa.assign;rfl)|(apply Aa.move;rfl)|(apply Aa.load;rfl;rfl)|(apply Aa.Bc;rfl;rfl)|(apply Aa.AL;rfl;rfl)|(apply Aa.box;rfl;trivial)|(apply Aa.alloc;rfl)|(apply Aa.Bd;rfl;rfl;rfl;trivial;rfl;rfl;exact Az rfl;exact le_dec rfl)|(apply Aa.extract;rfl;rfl))
 all_goals first|(exfalso;omega)|contradiction|(refine Done.rt rfl rfl ⟨?_,rfl,rfl⟩;try rfl)
def Zg (q:Qu):HB:=.box 36 ((Enc.enc q).map .p)
def xP (s:Zv):HB:=.box 81 ((Enc.enc s).map .p)
theorem Zk (q:Qu) (hq:Jw q) (s:Zv) (hN:iW q s.notes) (hNl:s.notes.length≤1000) (l:List Int) (hl:l.length=q.p.notes.length):Et env 89 ([.p (.lst 3 (cells l) l.length)]++[.ref 0 0,.ref 1 0]) [(0,Zg q),(1,xP s)] 2 (.bool (!Iz q s.notes l)):=by
 have hp:=Qj q hq s hN hNl l hl
 unfold Zg xP
 generalize Iz q s.notes l=c at *
 refine Et.enter (Aj (by decide)) Tryz.func89 rfl (by kernel_rfl) (by simp [Tryz.ntmps89]) ?_
 repeat' (first|apply Ac.Ak|apply Ac.ret|apply Ad.nil|apply Ad.one|(apply Aa.fn;rfl;rfl;exact hp;intro _;rfl)|(apply Aa.assign;rfl)|(apply Aa.move;rfl)|(apply Aa.load;rfl;rfl)|(apply Aa.not;rfl))
 all_goals first|(exfalso;omega)|(refine Done.ret rfl (.refl _) trivial ?_ (by omega) (Nat.le_refl _) ⟨?_,rfl,rfl⟩;exact FM;try rfl)
theorem W9 (q:Qu) (hq:Jw q) (s:Zv) (hN:iW q s.notes) (hNl:s.notes.length≤1000) (l:List Int) (hl:l.length=q.p.notes.length):Et env 98 ([.p (.agg (Enc.enc s))]++[.ref 0 0,.ref 1 0]) [(0,Zg q),(1,.box 28 [.p (.lst 3 (cells l) l.length)])] 2 (.bool (!Iz q s.notes l)):=by
 have hp:=Qj q hq s hN hNl l hl
 unfold Zg
 generalize Iz q s.notes l=c at *
 refine Et.enter (Aj (by decide)) Tryz.func98 rfl (by kernel_rfl) (by simp [Tryz.ntmps98]) ?_
 repeat' (first|apply Ac.Ak|apply Ac.ret|apply Ad.nil|apply Ad.one|(apply Aa.fn;rfl;rfl;exact hp;intro _;rfl)|(apply Aa.assign;rfl)|(apply Aa.load;rfl;rfl)|(apply Aa.box;rfl;trivial)|(apply Aa.not;rfl))
 all_goals first|(exfalso;omega)|(refine Done.ret rfl (.refl _) trivial ?_ (by omega) (Nat.le_refl _) ⟨?_,rfl,rfl⟩;exact FM;try rfl)
end Go.Proofs.YtnjkoebfgcbbdaaGreatDoor
namespace Go.Vm
open Go.Am
variable {E:Env} {L:Frame} {H:Heap} {nx:Nat} {Q:PV→Heap→Nat→Prop} {w:Bool}
variable {dst:Option Tmp} {ty:TypeId} {pos:String} {af:Array Edge} {gd:Option (Nat×Bool)}
theorem Aa.bP {t:TypeId} {x:Operand} {lo hi:Option Operand} {e:TypeId} {cs:List FV} {b n off len a c sz:Nat} {z:Bool} {inf:TypeInfo} (hx:Bh E.Γ L x=some (.vec b n off len)) (hb:hget H b=some (.vec e cs n z)) (hn:0<n) (ht:E.P.underlying t=some (.slice e)) (hi':E.P.info? e=some inf) (hsz:inf.size=sz)
 (hlo:match lo with|none=>a=0|some o=>∃ k,Bh E.Γ L o=some (.p (.int k (a:Int)))) (hhi:match hi with|none=>c=len|some o=>∃ k,Bh E.Γ L o=some (.p (.int k (c:Int)))) (hac:a≤c) (hcl:c≤len)
 (q:Q (.vec b n (off+a*sz) (c-a)) H nx):Aa E w ⟨dst,.slice t x lo hi none,ty,pos,af,gd⟩ L H nx Q :=
 Aa.quiet q fun m F σ tt h1 h2=>by
  have zA:bnd 0 (lo.map (ev tt))=some a:=by
   cases lo with
   |none=>simp only at hlo;rw [hlo];rfl
   |some o =>
    obtain ⟨k,hk⟩:=hlo
    simp only [Option.map_some,Dc h1 h2 hk,bnd]
    rw [if_pos (by omega)];simp
  have yx:bnd len (hi.map (ev tt))=some c:=by
   cases hi with
   |none=>simp only at hhi;rw [hhi];rfl
   |some o =>
    obtain ⟨k,hk⟩:=hhi
    simp only [Option.map_some,Dc h1 h2 hk,bnd]
    rw [if_pos (by omega)];simp
  have hsub:=JK h1 h2 hx hb
  obtain ⟨hlt,hr⟩:=h1.hp b _ hb
  rcases hr with ⟨r1,r2,r3⟩|⟨d,g,vs,r1,r2,r3,r4,r5,r6,r7⟩
  ·omega
  rw [r1] at hsub
  simp only [EW] at hsub
  refine ⟨.slice (some ⟨d,off+a*sz,none⟩) (c-a) g,fun _=>?_,.vec hlt rfl fun j hj=>?_⟩
  ·simp only [Ce,EX,hsub,aslice,Option.isSome_none,Option.map_none,Bool.false_and,Bool.false_eq_true,if_false,ht,hi',zA,yx,r4,hac,hcl,r2,and_self,if_true,Option.map_some,hsz]
  ·simp only [htag,hb,HB.tag,Option.map_some,Option.some.injEq,Tg.vec.injEq] at hj
   refine ⟨by omega,fun _=>?_⟩
   rw [r1];rfl
theorem wS {m:Mem} {F:Nat→Prop} {σ:Nat→Value} {b n off c g:Nat} {e:TypeId} {cs fs:List FV} {vs l:List Value} {z:Bool} (h1:Ctx E.Γ m F σ H nx) (hb:hget H b=some (.vec e cs n z)) (hn:0<n) (h4:σ b=.slice (some ⟨c,0,none⟩) n g) (r2:c<m.size) (r3:¬ F c) (r4:m.get c=.cells vs e g false) (r5:Dv m F cs vs) (r6:vs.all BO=true)
 (hl:Dv m F fs l) (hc:l.all BO=true) :
 Ctx E.Γ (m.put c (.cells (splice vs off l) e g false)) F (upd σ b (σ b)) (hput H b (.vec e (Dk cs off fs) n z)) nx∧Step m F σ H nx (m.put c (.cells (splice vs off l) e g false)) F (upd σ b (σ b)) (hput H b (.vec e (Dk cs off fs) n z)) nx:=by
 have hput':∀ d,c≠d→(m.put c (.cells (splice vs off l) e g false)).get d=m.get d:=fun d hd=>by rw [Mem.get_put,if_neg hd]
 exact h1.change (m':=m.put c (.cells (splice vs off l) e g false)) (x':=.vec e (Dk cs off fs) n z) (s':=σ b) hb (Nat.le_refl _) (fun _=>rfl) (Nat.le_refl _)
  (fun d _ hd=>hput' d fun e=>hd (by rw [h4,e];rfl)) (fun k k1 k2 k3=>by
   have:=k3 c (by rw [h4];rfl)
   simp only [Mem.put];omega) (fun d hd=>.inl hd) (by
   refine .inr ⟨c,g,splice vs off l,h4,r2,r3,by rw [Mem.get_put,if_pos rfl],?_,Kr _ r6 hc,fun h=>by omega⟩
   exact (Dv.splice off r5 hl).mono (fun d hd=>⟨hd,hput' d fun e=>r3 (e▸hd)⟩))
def SlT (Γ:Nat→Option (List Value×TypeId)) (L:Frame) (H:Heap) (nx:Nat) (x:Operand) (sz n:Nat) (xs:List FV) (k:Nat):Prop :=
 ∀ m F σ t,Ctx Γ m F σ H nx→RL m F (htag H) σ nx L t→lenOf (ev t x)=some n∧∃ l,CO m sz k (ev t x)=some l∧Dv m F xs l∧l.all BO=true
theorem Aa.clear {d:Operand} {dT e:TypeId} {i:TypeInfo} {b n off len:Nat} {cs:List FV} {z:Bool} {zs:List Value} (hd:Bh E.Γ L d=some (.vec b n off len)) (hb:hget H b=some (.vec e cs n z)) (hn:0<n) (h0:0<len)
 (hdT:E.P.underlying dT=some (.slice e)) (hi:E.P.info? e=some i) (hz:Cj E.P e=some zs) (hzl:zs.length=i.size∧0<i.size) (hl:off+len*i.size≤cs.length) (q:Q (.Ee []) (hput H b (.vec e (Dk cs off ((AQ zs len).map GL)) n z)) nx) :
 Aa E true ⟨none,.call { callee:=.builtin .clear,args:=#[d],argTypes:=#[dT] },ty,pos,af,gd⟩ L H nx Q:=by
 intro m F σ t h1 h2
 have hsub:=JK h1 h2 hd hb
 obtain ⟨hlt,hr⟩:=h1.hp b _ hb
 rcases hr with ⟨r1,r2,r3⟩|⟨c,g,vs,r1,r2,r3,r4,r5,r6,r7⟩
 ·omega
 rw [r1] at hsub
 simp only [EW] at hsub
 have hpl:zs.all Am.plainCell=true:=by
  obtain ⟨_,zv,_,_,_,h⟩:=BP hz
  exact h
 have hx3:Dv m F ((AQ zs len).map GL) (AQ zs len):=Ho (IL hpl len)
 have hx4:(AQ zs len).all BO=true:=Dj (IL hpl len)
 have hlen2:=r5.length
 have hrl:=En zs len
 rw [hzl.1] at hrl
 obtain ⟨d1,d2⟩:=wS (E:=E) (off:=off) h1 hb hn r1 r2 r3 r4 r5 r6 hx3 hx4
 refine F5.op (v:=.tuple #[]) (m':=m.put c (.cells (splice vs off (AQ zs len)) e g false)) (fun _=>?_) ⟨_,_,_,F,_,q,d1,.Ee .nil,d2,fun h=>by cases h⟩
 have hp:=Nat.mul_pos h0 hzl.2
 simp only [Ce,EX,Uw,List.map_toArray,List.map_cons,List.map_nil,List.getElem?_toArray,List.getElem?_cons_zero,hsub,hdT,hi,hz]
 rw [if_neg (by omega),if_pos hzl]
 simp only [Gj,r4,LZ,Option.getD_some,beq_self_eq_true,Bool.true_and]
 rw [if_pos (by simp only [Bool.and_eq_true,decide_eq_true_eq];exact ⟨⟨by rw [hrl,← hlen2];exact ⟨trivial,hl⟩,by rw [hrl];exact hp⟩,hx4⟩)]
 rfl
def Px:Code→Option Nat
 | .region n _ _=>some n
 | .seq a b=>match Px a with
  |some n=>some n
  |none=>Px b
 | .block _ b=>Px b
 | .loop b=>Px b
 | .scope b=>Px b
 |_=>none
def Lj (r:Nat):Code→Option Code
 | .loop b=>match Px b with
  |some n=>match Nat.beq n r with
   |true=>some (.loop b)
   |false=>Lj r b
  |none=>Lj r b
 | .seq a b=>match Lj r a with
  |some c=>some c
  |none=>Lj r b
 | .cond _ a b=>match Lj r a with
  |some c=>some c
  |none=>Lj r b
 | .block _ b=>Lj r b
 | .scope b=>Lj r b
 | .rangeFunc _ _ _ b=>Lj r b
 |_=>none
def b6w (fn:Func) (r:Nat):Code:=match fn.body with
 |some c=>match Lj r c with
  |some c=>c
  |none=>.skip
 |none=>.skip
end Go.Vm
namespace Go.Proofs.YtnjkoebfgcbbdaaGreatDoor
section
open Go Go.Am Go.Vm Go.Pie
attribute [local irreducible] Aa Ad Af Ac Ba AB BG Au Ap Ah Vm.Done BQ AY
attribute [local irreducible] CV Bq Eh DY Ez BH CW
theorem U6 (l:List Int) (h0:0<l.length) (h1:l.length<1000000):BG env 75 [.lst 3 (cells l) l.length] 3 (cells l) l.length false:=by
 refine BG.enter (Aj (by decide)) Tryz.func75 rfl (by kernel_rfl) (by simp [Tryz.ntmps75]) ?_
 repeat' (first|apply Ac.assoc|apply Ac.Ak|apply Ac.Ai|apply Ac.ret|apply Ad.nil|apply Ad.one|(apply Aa.a1j;rfl;rfl;rfl;exact h0)|(apply Aa.assign;rfl)|(apply Aa.move;rfl)|(apply Aa.buildSlice;rfl;rfl;rfl;decide;rfl;rfl;rfl)|(apply Aa.Rl;rfl;rfl;rfl;(first|rfl|omega|(simp only [List.length_take,List.length_drop,List.length_append,List.length_singleton,List.length_cons,List.length_nil]<;>omega));rfl;rfl;(intro _ h;cases h);rfl;rfl;rfl;decide;decide;(first|omega|(simp only [List.length_take,List.length_drop,List.length_append,List.length_singleton,List.length_cons,List.length_nil]<;>omega)))|(apply Ac.Aq;rfl))
 exact BQ.ret rfl rfl rfl rfl
def ctN (p:F7) (a z:Int):Nat→List KG
 |0=>[]
 |k+1=>if (gi p.notes k).s<z∧(gi p.notes k).e>a then ctN p a z k++[⟨max (gi p.notes k).s a,min (gi p.notes k).e z,(gi p.notes k).d,(gi p.notes k).k⟩] else ctN p a z k
def b4x (p:F7) (f:Nat):List o9:=if 0≤wan p (gi p.bars f)∧(gi p.sets (wan p (gi p.bars f)).toNat).bar<f then [⟨0,(gi p.sets (wan p (gi p.bars f)).toNat).reg⟩] else []
def ctS (p:F7) (f t:Nat) (s0:List o9):Nat→List o9
 |0=>s0
 |k+1=>if (gi p.sets k).bar≥f∧(gi p.sets k).bar<t then ctS p f t s0 k++[⟨(gi p.sets k).bar-f,(gi p.sets k).reg⟩] else ctS p f t s0 k
def ctB (p:F7) (f t:Nat):List Int:=(p.bars.drop f).take (t+1-f)
def b9h (p:F7) (f t:Nat):F7:=⟨ctB p f t,ctN p (gi p.bars f) (gi p.bars t) p.notes.length,ctS p f t (b4x p f) p.sets.length⟩
def c1g:List FV:=[.val (.slice none 0 0),.val (.slice none 0 0),.val (.slice none 0 0)]
end
section
open Go Go.Am Go.Vm Go.Pie
attribute [local irreducible] Aa Ad Af Ac Ba AB BG Au Ap Ah Vm.Done BQ AY Qr
attribute [local irreducible] CV Bq Eh DY Ez BH CW
theorem MX {α:Type}:∀ (r cs:List α) (o:Nat) {k:Nat},k≤o→(Dk cs o r).take k=cs.take k
 |[],cs,o,k,h=>by simp [Dk]
 |a::r,cs,o,k,h=>by
  simp only [Dk]
  rw [MX r (cs.set o a) (o+1) (by omega),List.take_set_of_le h]
theorem filter_all {α:Type} {P:α→Bool} {l:List α} [Inhabited α] (h:∀ i,i<l.length→P (gi l i)=true):l.filter P=l:=by
 rw [List.filter_eq_self]
 intro a ha
 obtain ⟨i,hi,rfl⟩:=List.getElem_of_mem ha
 have:=h i hi
 rwa [show gi l i=l[i] by unfold gi;rw [List.getElem?_eq_getElem hi];rfl] at this
structure P9 {α:Type} (P:α→Bool) (l zs:List α) (i j:Nat):Prop where
 len:zs.length=l.length
 ij:i<j
 jn:j≤l.length
 keep:zs.take i=(l.take j).filter P
 rest:zs.drop j=l.drop j
theorem P9.at_ {α:Type} [Inhabited α] {P:α→Bool} {l zs:List α} {i j:Nat} (h:P9 P l zs i j) (hj:j<l.length):gi zs j=gi l j:=by
 have:=congrArg (fun x=>gi x 0) h.rest
 simp only [gi,List.getElem?_drop,Nat.add_zero] at this
 exact this
theorem P9.skip {α:Type} [Inhabited α] {P:α→Bool} {l zs:List α} {i j:Nat} (h:P9 P l zs i j) (hj:j<l.length) (hp:P (gi l j)=false):P9 P l zs i (j+1):=by
 refine ⟨h.len,by have:=h.ij;omega,hj,?_,?_⟩
 ·rw [Ej hj,List.filter_append,h.keep]
  simp [hp]
 ·have:=congrArg (List.drop 1) h.rest
  simpa [List.drop_drop] using this
theorem P9.put {α:Type} [Inhabited α] {P:α→Bool} {l zs:List α} {i j:Nat} (h:P9 P l zs i j) (hj:j<l.length) (hp:P (gi l j)=true):P9 P l (zs.set i (gi l j)) (i+1) (j+1):=by
 have h1:=h.ij
 have h2:=h.len
 refine ⟨by rw [List.length_set,h2],by omega,hj,?_,?_⟩
 ·rw [Ej hj,List.filter_append,← h.keep,Ej (by rw [List.length_set];omega),List.take_set_of_le (Nat.le_refl _)]
  have e:gi (zs.set i (gi l j)) i=gi l j:=by rw [GZ,if_pos ⟨rfl,by omega⟩]
  rw [e]
  simp [hp]
 ·rw [List.drop_set_of_lt (by omega)]
  have:=congrArg (List.drop 1) h.rest
  simpa [List.drop_drop] using this
theorem P9.start {α:Type} [Inhabited α] {P:α→Bool} {l:List α} {k:Nat} (hk:k<l.length) (hp:P (gi l k)=false) (h:∀ i,i<k→P (gi l i)=true):P9 P l l k (k+1):=by
 refine ⟨rfl,by omega,hk,?_,rfl⟩
 rw [Ej hk,List.filter_append]
 have:(l.take k).filter P=l.take k:=filter_all fun i hi=>by
  rw [List.length_take] at hi
  have:=h i (by omega)
  rwa [show gi (l.take k) i=gi l i from by unfold gi;rw [List.getElem?_take,if_pos (by omega)]]
 rw [this]
 simp [hp]
theorem P9.fin {α:Type} [Inhabited α] {P:α→Bool} {l zs:List α} {i:Nat} (h:P9 P l zs i l.length):zs.take i=l.filter P∧i=(l.filter P).length:=by
 have h1:=h.keep
 rw [List.take_of_length_le (Nat.le_refl _)] at h1
 refine ⟨h1,?_⟩
 rw [← h1,List.length_take,h.len]
 have:=h.ij
 omega
theorem uG {L:Vm.Frame} {H:Vm.Heap} {nx:Nat} {Q:PV→Vm.Heap→Nat→Prop} {dst:Option Tmp} {ty:TypeId} {pos:String} {af:Array Edge} {gd:Option (Nat×Bool)} {fo:Operand} {args:Array Operand} {aT:Array TypeId} {fs cs xs:List PV} {c:Code}
 (hf:Bh env.Γ L fo=some (.clo 123 fs cs)) (ha:evs env.Γ L args.toList=some xs) (hb:Tryz.f123.body=some c) (hn:(fs++xs++cs).length≤Tryz.f123.ntmps)
 (h:Ac env nx c (CP 0 (fs++xs++cs)) H nx (AY env.P Tryz.f123.results.toList Q)):Aa env true ⟨dst,.call { callee:=.value fo,args:=args,argTypes:=aT },ty,pos,af,gd⟩ L H nx Q:=by
 have h0:(match Tryz.f123.body with|some c=>Ij env.G Tryz.f123 c|none=>false)=true:=by kernel_rfl
 rw [hb] at h0
 exact Aa.inline rfl hf ha (Aj (by decide)) Tryz.func123 hb h0 hn h
theorem ru {L:Vm.Frame} {H:Vm.Heap} {nx:Nat} {Q:PV→Vm.Heap→Nat→Prop} {dst:Option Tmp} {ty:TypeId} {pos:String} {af:Array Edge} {gd:Option (Nat×Bool)} {fo:Operand} {args:Array Operand} {aT:Array TypeId} {fs cs xs:List PV} {c:Code}
 (hf:Bh env.Γ L fo=some (.clo 160 fs cs)) (ha:evs env.Γ L args.toList=some xs) (hb:Tryz.f160.body=some c) (hn:(fs++xs++cs).length≤Tryz.f160.ntmps)
 (h:Ac env nx c (CP 0 (fs++xs++cs)) H nx (AY env.P Tryz.f160.results.toList Q)):Aa env true ⟨dst,.call { callee:=.value fo,args:=args,argTypes:=aT },ty,pos,af,gd⟩ L H nx Q:=by
 have h0:(match Tryz.f160.body with|some c=>Ij env.G Tryz.f160 c|none=>false)=true:=by kernel_rfl
 rw [hb] at h0
 exact Aa.inline rfl hf ha (Aj (by decide)) Tryz.func160 hb h0 hn h
theorem dW:AB env 75 [.lst 3 (cells ([]:List Int)) 0] (.p (.lst 3 (cells ([]:List Int)) 0)):=by
 refine AB.enter (Aj (by decide)) Tryz.func75 rfl (by kernel_rfl) (by simp [Tryz.ntmps75]) ?_
 repeat' (first|(refine Ad.JE 2 ?_;refine Ad.ghost (Bo.freeze 7 rfl rfl) ?_)|apply Ac.assoc|apply Ac.Ak|apply Ac.Ai|apply Ac.BL|apply Ac.ret|apply Ad.nil|apply Ad.one|(apply Aa.eqNil;rfl;rfl;rfl)|(apply Aa.assign;rfl)|(apply Aa.move;rfl)|(apply Aa.buildSlice;rfl;rfl;rfl;decide;rfl;rfl;rfl)|(apply Aa.Rl;rfl;rfl;rfl;(first|rfl|omega|(simp only [List.length_take,List.length_drop,List.length_append,List.length_singleton,List.length_cons,List.length_nil]<;>omega));rfl;rfl;(intro _ h;cases h);rfl;rfl;rfl;decide;decide;(first|omega|(simp only [List.length_take,List.length_drop,List.length_append,List.length_singleton,List.length_cons,List.length_nil]<;>omega)))|(apply Ac.Pm;rfl)|(intro _;try (exfalso;omega)))
 all_goals first|(exfalso;omega)|(refine Done.ret rfl (.p (.nil _)) trivial Ci.nil (Nat.zero_le _) (Nat.le_refl _) ⟨rfl,rfl,rfl⟩;done)|(refine Done.rt rfl rfl ⟨?_,rfl,rfl⟩;try rfl)
def QN (q:Qu) (x:Int):Bool:=!EZ q x.toNat
def Gs (q:Qu) (N:List Int):List Int:=N.filter (QN q)
theorem Tq (q:Qu) (hq:Jw q) (s:Zv) (hN:iW q s.notes) (hNl:s.notes.length≤1000):AB env 84 [.agg (Enc.enc q),.agg (Enc.enc s)] (.p (.lst 3 (cells (Gs q s.notes)) (Gs q s.notes).length)):=by
 have hpd:=fun i hi=>Nj q hq i hi
 obtain ⟨a,e,l⟩:=s
 simp only at hN hNl ⊢
 rcases Nat.eq_zero_or_pos l.length with h0|h0
 ·obtain rfl:l=[]:=List.length_eq_zero_iff.1 h0
  have hcl:=dW
  unfold Gs
  rw [List.filter_nil]
  refine AB.enter (Aj (by decide)) Tryz.func84 rfl (by kernel_rfl) (by simp [Tryz.ntmps84]) ?_
  repeat' (first|apply Ac.assoc|apply Ac.Ak|apply Ac.Dq|apply Ac.Ag|apply Ad.nil|apply Ad.one|(apply Af.bar;decide +kernel)|apply Af.quiet|(apply Aa.fn;rfl;rfl;exact hcl;intro _;rfl)|(apply Aa.makeFunc;rfl;rfl)|(apply uG;rfl;rfl;rfl;exact le_dec rfl)|(apply ru;rfl;rfl;rfl;exact le_dec rfl)|(apply Aa.assign;rfl)|(apply Aa.move;rfl)|(apply Aa.load;rfl;rfl)|(apply Aa.CX;rfl;rfl)|(apply Aa.Aw;rfl;rfl;rfl)|(apply Aa.box;rfl;trivial))
  all_goals try (exfalso;omega)
  refine Ac.a7f 0 ?_
  repeat' (first|apply Ac.assoc|apply Ac.Ak|apply Ac.BL|apply Ac.Bl|apply Au.normal|(apply AY.ret;rfl)|apply Ap.exit|apply Ah.exit|apply Ac.ret|apply Ad.nil|apply Af.nil|apply Ad.one|(apply Af.bar;decide +kernel)|(apply Qr.zero)|(apply Aa.assign;rfl)|(apply Aa.move;rfl)|(apply Aa.int;rfl;rfl;rfl)|(apply Ac.Bf;rfl)|(apply Ac.Aq;rfl))
  all_goals first|(exfalso;omega)|contradiction|(refine Done.rt rfl rfl ⟨?_,rfl,rfl⟩;try rfl)
 have hcl:=U6 l h0 (by omega)
 unfold Gs
 refine AB.enter (Aj (by decide)) Tryz.func84 rfl (by kernel_rfl) (by simp [Tryz.ntmps84]) ?_
 repeat' (first|apply Ac.assoc|apply Ac.Ak|apply Ac.Dq|apply Ac.Ag|apply Ad.nil|apply Ad.one|(apply Af.bar;decide +kernel)|apply Af.quiet|(apply Aa.fv;rfl;rfl;exact hcl)|(apply Aa.makeFunc;rfl;rfl)|(apply uG;rfl;rfl;rfl;exact le_dec rfl)|(apply ru;rfl;rfl;rfl;exact le_dec rfl)|(apply Aa.assign;rfl)|(apply Aa.move;rfl)|(apply Aa.load;rfl;rfl)|(apply Aa.lenV;rfl;rfl;rfl)|(apply Aa.Aw;rfl;rfl;rfl)|(apply Aa.box;rfl;trivial))
 all_goals try (exfalso;omega)
 apply Ac.G9 (l.length) (fun k=>∀ i,i<k→QN q (gi l i)=true) [(0,_),(1,_),(7,_)] [(2,_)] (fun k r=>(8,.p (.int .i64 (k:Int)))::r) (fun k r=>r) 3
 ·first|omega|decide
 ·first|omega|decide
 ·exact Rz
 ·exact VZ
 ·first|(intro _ _;omega)|omega|trivial
 ·intro k hk hi
  obtain ⟨g1,g2⟩:=hN k hk
  have hC:=hpd (gi l k).toNat (by omega)
  rw [Int.toNat_of_nonneg g1] at hC
  by_cases hp:QN q (gi l k)=true
  ·have hp1:EZ q (gi l k).toNat=false:=by unfold QN at hp;simpa using hp
   rw [hp1] at hC
   repeat' (first|apply Ac.Ak|apply Ac.region|apply Ac.Ai|apply Ac.Ag|apply Au.normal|apply Ap.normal|apply Ac.skip|apply Ad.nil|apply Ad.one|(apply Aa.SX hC;rfl;rfl;exact .of_eq rfl;exact CZ.AO rfl)|(apply Aa.assign;rfl)|(apply Aa.move;rfl)|(apply Aa.BU;rfl;rfl;omega)|(apply Aa.int;rfl;rfl;rfl)|(apply Aa.Io;rfl;rfl;omega;rfl)|(apply Aa.EY;rfl;rfl;rfl;rfl;omega)|(apply Ac.Ae;rfl)|(apply Ac.cond_false;rfl)|(intro _;try (exfalso;omega)))
   all_goals try (exfalso;omega)
   refine Ah.normal ⟨(all_succ hi hp),by first|omega|decide,?_,?_⟩
   ·exact EJ
   ·exact FM
  ·have hp':QN q (gi l k)=false:=by cases h:QN q (gi l k)<;>simp_all
   have hp1:EZ q (gi l k).toNat=true:=by unfold QN at hp';simpa using hp'
   rw [hp1] at hC
   repeat' (first|apply Ac.assoc|apply Ac.Ak|apply Ac.Ai|apply Ac.Ag|apply Au.ret|(apply AY.ret;rfl)|apply Ap.ret|apply Ah.ret|apply Ac.ret|apply Ad.nil|apply Ad.one|(apply Aa.SX hC;rfl;rfl;exact .of_eq rfl;exact CZ.AO rfl)|(apply Aa.assign;rfl)|(apply Aa.move;rfl)|(apply Aa.BU;rfl;rfl;omega)|(apply Aa.int;rfl;rfl;rfl)|(apply Aa.Io;rfl;rfl;omega;rfl)|(apply Aa.EY;rfl;rfl;rfl;rfl;omega)|(apply Ac.Aq;rfl)|(apply Ac.Ae;rfl)|(apply Ac.cond_true;rfl)|(intro _;try (exfalso;omega)))
   all_goals try (exfalso;omega)
   refine Ac.Gp (fun s:List Int×Nat×Nat=>[(0,.vec 2 l.length 0 l.length),(1,.clo 85 [.p (.agg (Enc.enc q))] []),(5,.p (.int .i64 (s.2.1:Int))),(6,.p (.int .i64 (s.2.2:Int)))]) (fun s=>[(2,.vec 3 (cells s.1) l.length false)]) 3 (fun s=>P9 (QN q) l s.1 s.2.1 s.2.2) (fun s=>l.length-s.2.2) (l,k,k+1) (by decide) (P9.start hk hp' hi) ⟨by decide,?_,?_⟩ ?_
   ·exact EJ
   ·exact FM
   rintro ⟨zs,i,j⟩ hD
   simp only at hD ⊢
   have z1:=hD.len
   have z2:=hD.ij
   have z3:=hD.jn
   by_cases hj:j<l.length
   ·obtain ⟨g3,g4⟩:=hN j hj
    have hC2:=hpd (gi l j).toNat (by omega)
    rw [Int.toNat_of_nonneg g3] at hC2
    have hz:=hD.at_ hj
    by_cases hw:QN q (gi l j)=true
    ·have hw1:EZ q (gi l j).toNat=false:=by unfold QN at hw;simpa using hw
     rw [hw1] at hC2
     rw [← hz] at hC2
     repeat' (first|apply Ac.assoc|apply Ac.Ak|apply Ac.region|apply Ac.Ai|apply Ac.Ag|apply Au.normal|apply Ap.normal|apply Ad.nil|apply Ad.one|(apply Aa.SX hC2;rfl;rfl;exact .of_eq rfl;exact CZ.AO rfl)|(apply Aa.Nh (y:=gi zs j);rfl;rfl;rfl;trivial;(first|rfl|(refine congrArg (fun t=>[PV.p (FV.int _ t)]) ?_;first|omega|(simp only [Int.natCast_add,Int.natCast_mul,Int.natCast_ediv,Int.natCast_emod]<;>omega)));rfl;rfl;decide;(first|omega|(simp only [List.length_set]<;>omega)))|(apply Aa.assign;rfl)|(apply Aa.move;rfl)|(apply Aa.BU;rfl;rfl;omega)|(apply Aa.int;rfl;rfl;rfl)|(apply Aa.Io;rfl;rfl;omega;rfl)|(apply Aa.lenV;rfl;rfl;rfl)|(apply Aa.EY;rfl;rfl;rfl;rfl;omega)|(apply Aa.not;rfl)|(apply Ac.Ae;rfl)|(apply Ac.cond_true;rfl)|(intro _;try (exfalso;omega)))
     all_goals try (exfalso;omega)
     refine Ah.normal ⟨(zs.set i (gi l j),i+1,j+1),hD.put hj hw,by simp only;omega,⟨by omega,?_,?_⟩⟩
     ·exact EJ
     ·rw [← hz]
      exact FM
    ·have hw':QN q (gi l j)=false:=by cases h:QN q (gi l j)<;>simp_all
     have hw1:EZ q (gi l j).toNat=true:=by unfold QN at hw';simpa using hw'
     rw [hw1] at hC2
     rw [← hz] at hC2
     repeat' (first|apply Ac.assoc|apply Ac.Ak|apply Ac.region|apply Ac.Ai|apply Ac.Ag|apply Au.normal|apply Ap.normal|apply Ac.skip|apply Ad.nil|apply Ad.one|(apply Aa.SX hC2;rfl;rfl;exact .of_eq rfl;exact CZ.AO rfl)|(apply Aa.assign;rfl)|(apply Aa.move;rfl)|(apply Aa.BU;rfl;rfl;omega)|(apply Aa.int;rfl;rfl;rfl)|(apply Aa.Io;rfl;rfl;omega;rfl)|(apply Aa.lenV;rfl;rfl;rfl)|(apply Aa.EY;rfl;rfl;rfl;rfl;omega)|(apply Aa.not;rfl)|(apply Ac.Ae;rfl)|(apply Ac.cond_false;rfl)|(intro _;try (exfalso;omega)))
     all_goals try (exfalso;omega)
     refine Ah.normal ⟨(zs,i,j+1),hD.skip hj hw',by simp only;omega,⟨by omega,?_,?_⟩⟩
     ·exact EJ
     ·exact FM
   ·obtain rfl:j=l.length:=by omega
    obtain ⟨f1,f2⟩:=hD.fin
    rw [← f1,show (zs.take i).length=i by rw [List.length_take];omega]
    have hps:∀ xs,((Dk (cells zs) (0+i*1) xs).take (i*1))=cells (zs.take i):=fun xs=>by
     rw [MX _ _ _ (show i*1≤0+i*1 by omega)]
     exact MG zs i
    have hpl:∀ xs,i*1≤(Dk (cells zs) (0+i*1) xs).length:=fun xs=>by
     rw [Ol,Dw,z1]
     show i*1≤l.length*1
     omega
    repeat' (first|(refine Af.JE 4 ?_;refine Af.ghost (Bo.lK 10 (i*1) rfl rfl (by omega) (hpl _)) ?_)|apply Ac.assoc|apply Ac.Ak|apply Ac.Bl|apply Au.normal|(apply AY.ret;rfl)|apply Ap.exit|apply Ah.exit|apply Ac.ret|apply Ad.nil|apply Af.nil|apply Ad.one|(apply Af.bar;decide +kernel)|(apply Aa.bP (sz:=1) (a:=i) (c:=l.length);rfl;rfl;omega;rfl;rfl;rfl;exact ⟨_,rfl⟩;rfl;omega;exact Nat.le_refl _)|(apply Aa.bP (sz:=1) (a:=0) (c:=i);rfl;rfl;omega;rfl;rfl;rfl;rfl;exact ⟨_,rfl⟩;omega;omega)|(apply Aa.clear;rfl;rfl;omega;omega;rfl;rfl;rfl;decide;(rw [Dw,z1];show 0+i*1+(l.length-i)*1≤l.length*1;omega))|(apply Aa.assign;rfl)|(apply Aa.move;rfl)|(apply Aa.int;rfl;rfl;rfl)|(apply Aa.lenV;rfl;rfl;rfl)|(apply Ac.Ae;rfl)|(intro _;try (exfalso;omega)))
    all_goals first|(exfalso;omega)|(refine Done.rt rfl rfl ⟨?_,rfl,rfl⟩;exact congrArg (fun c=>PV.p (FV.lst 3 c i)) (hps _))
 ·intro hi
  rw [filter_all hi]
  repeat' (first|(refine Af.JE 4 ?_;refine Af.ghost (Bo.freeze 10 rfl rfl) ?_)|apply Ac.assoc|apply Ac.Ak|apply Ac.BL|apply Ac.Bl|apply Au.normal|(apply AY.ret;rfl)|apply Ap.exit|apply Ah.exit|apply Ac.ret|apply Ad.nil|apply Af.nil|apply Ad.one|(apply Af.bar;decide +kernel)|(apply Aa.assign;rfl)|(apply Aa.move;rfl)|(apply Aa.int;rfl;rfl;rfl)|(apply Ac.Bf;rfl)|(apply Ac.Ae;rfl)|(intro _;try (exfalso;omega)))
  all_goals first|(exfalso;omega)|(refine Done.rt rfl rfl ⟨?_,rfl,rfl⟩;try rfl)
end
section
open Go Go.Am Go.Vm Go.Pie
attribute [local irreducible] Aa Ad Af Ac Ba AB BG Au Ap Ah Vm.Done BQ AY Qr
attribute [local irreducible] CV Bq Eh DY Ez BH CW
theorem Wy (p:F7) {i:Nat} (hi:i<(BJ p).length):gi (BJ p) i=⟨gi (DN p) i,gi (DN p) (i+1),snd p (gi (DN p) i)⟩:=by
 unfold BJ xY at hi ⊢
 rw [Dn] at hi
 exact Fb _ hi
theorem PI (p:F7):(BJ p).length≤2*p.notes.length+1:=by
 have h1:=iP (snd p) (DN p)
 have h2:=VF ((Rj p p.notes.length).mergeSort fun x y=>decide (x≤y))
 rw [List.length_mergeSort,Wi] at h2
 have h3:(DN p).length≤_:=h2
 show (xY (snd p) (DN p)).length≤_
 omega
def Hy (q:Qu) (i:Nat):List Int:=(gi (BJ q.p) i).notes
theorem OQ {q:Qu} {i:Nat} (hi:i<(BJ q.p).length):iW q (Hy q i):=by
 unfold Hy
 rw [Wy _ hi]
 exact fun k hk=>a9z hk
theorem Xj {q:Qu} (hq:Jw q) {i:Nat} (hi:i<(BJ q.p).length):(Hy q i).length≤1000:=by
 unfold Hy
 rw [Wy _ hi]
 exact Nat.le_trans (RZ q.p _ _) hq.p.notes
theorem JH (q:Qu) (hq:Jw q):AB env 38 [.agg (Enc.enc q)] (.p (.lst 81 (cells (BJ q.p)) (BJ q.p).length)):=by
 have h:=jO hq.o.sm hq.e hq.p
 refine AB.enter (Aj (by decide)) Tryz.func38 rfl (by kernel_rfl) (by simp [Tryz.ntmps38]) ?_
 repeat' (first|apply Ac.Ak|apply Ac.ret|apply Ad.nil|apply Ad.one|(apply Aa.fn;rfl;rfl;exact h;intro _;rfl)|(apply Aa.assign;rfl)|(apply Aa.move;rfl)|(apply Aa.load;rfl;rfl)|(apply Aa.Aw;rfl;rfl;rfl)|(apply Aa.box;rfl;trivial)|(apply Aa.extract;rfl;rfl))
 all_goals first|(exfalso;omega)|(refine Done.rt rfl rfl ⟨?_,rfl,rfl⟩;try rfl)
theorem a3h {L:Vm.Frame} {H:Vm.Heap} {nx:Nat} {Q:PV→Vm.Heap→Nat→Prop} {dst:Option Tmp} {ty:TypeId} {pos:String} {af:Array Edge} {gd:Option (Nat×Bool)} {fo:Operand} {args:Array Operand} {aT:Array TypeId} {fs cs xs:List PV} {c:Code}
 (hf:Bh env.Γ L fo=some (.clo 82 fs cs)) (ha:evs env.Γ L args.toList=some xs) (hb:Tryz.f82.body=some c) (hn:(fs++xs++cs).length≤Tryz.f82.ntmps)
 (h:Ac env nx c (CP 0 (fs++xs++cs)) H nx (AY env.P Tryz.f82.results.toList Q)):Aa env true ⟨dst,.call { callee:=.value fo,args:=args,argTypes:=aT },ty,pos,af,gd⟩ L H nx Q:=by
 have h0:(match Tryz.f82.body with|some c=>Ij env.G Tryz.f82 c|none=>false)=true:=by kernel_rfl
 rw [hb] at h0
 exact Aa.inline rfl hf ha (Aj (by decide)) Tryz.func82 hb h0 hn h
theorem sN {L:Vm.Frame} {H:Vm.Heap} {nx:Nat} {Q:PV→Vm.Heap→Nat→Prop} {dst:Option Tmp} {ty:TypeId} {pos:String} {af:Array Edge} {gd:Option (Nat×Bool)} {fo:Operand} {args:Array Operand} {aT:Array TypeId} {fs cs xs:List PV} {c:Code}
 (hf:Bh env.Γ L fo=some (.clo 97 fs cs)) (ha:evs env.Γ L args.toList=some xs) (hb:Tryz.f97.body=some c) (hn:(fs++xs++cs).length≤Tryz.f97.ntmps)
 (h:Ac env nx c (CP 0 (fs++xs++cs)) H nx (AY env.P Tryz.f97.results.toList Q)):Aa env true ⟨dst,.call { callee:=.value fo,args:=args,argTypes:=aT },ty,pos,af,gd⟩ L H nx Q:=by
 have h0:(match Tryz.f97.body with|some c=>Ij env.G Tryz.f97 c|none=>false)=true:=by kernel_rfl
 rw [hb] at h0
 exact Aa.inline rfl hf ha (Aj (by decide)) Tryz.func97 hb h0 hn h
def mW (q:Qu) (l:List Int):Int:=Ef (fun i=>!Iz q (Hy q i) l) (BJ q.p).length
theorem Zd (q:Qu) (hq:Jw q) (l:List Int) (hl:l.length=q.p.notes.length):AB env 45 [.agg (Enc.enc q),.lst 3 (cells l) l.length] (.p (.int .i64 (mW q l))):=by
 have hS:=JH q hq
 have hSl:=PI q.p
 have hn:=hq.p.notes
 have hM:∀ k,k<(BJ q.p).length→Et env 98 ([.p (.agg (Enc.enc (gi (BJ q.p) k)))]++[.ref 0 0,.ref 1 0]) [(0,Zg q),(1,.box 28 [.p (.lst 3 (cells l) l.length)])] 2 (.bool (!Iz q (Hy q k) l)):=fun k hk=>W9 q hq _ (OQ hk) (Xj hq hk) l hl
 unfold mW
 unfold Zg at hM
 generalize hP:(fun i=>!Iz q (Hy q i) l)=P at *
 have hM:∀ k,k<(BJ q.p).length→Et env 98 ([.p (.agg (Enc.enc (gi (BJ q.p) k)))]++[.ref 0 0,.ref 1 0]) [(0,.box 36 ((Enc.enc q).map .p)),(1,.box 28 [.p (.lst 3 (cells l) l.length)])] 2 (.bool (P k)):=fun k hk=>by rw [← hP];exact hM k hk
 generalize BJ q.p=S at *
 refine AB.enter (Aj (by decide)) Tryz.func45 rfl (by kernel_rfl) (by simp [Tryz.ntmps45]) ?_
 repeat' (first|apply Ac.assoc|apply Ac.Ak|apply Ac.Ag|apply Ad.nil|apply Ad.one|(apply Aa.fn;rfl;rfl;exact hS;intro _;rfl)|(apply Aa.makeFunc;rfl;rfl)|(apply sN;rfl;rfl;rfl;exact le_dec rfl)|(apply Aa.assign;rfl)|(apply Aa.move;rfl)|(apply Aa.load;rfl;rfl)|(apply Aa.CX;rfl;rfl)|(apply Aa.box;rfl;trivial))
 all_goals try (exfalso;omega)
 apply Ac.G9 (S.length) (fun k=>VB P S.length (S.length-k)=Ef P S.length) [(0,_),(1,_),(7,_)] [(0,_),(1,_)] (fun k r=>(8,.p (.int .i64 (k:Int)))::r) (fun k r=>r) 2
 ·first|omega|decide
 ·first|omega|decide
 ·exact Rz
 ·exact VZ
 ·first|(intro _ _;omega)|omega|trivial
 ·intro k hk hi
  have hC:=hM k hk
  by_cases hp:P k=true
  ·rw [hp] at hC
   have e1:Ef P S.length=(k:Int):=by rw [← hi,WR hk hp]
   rw [e1]
   repeat' (first|apply Ac.Ak|apply Ac.Ai|apply Ac.Ag|apply Au.ret|(apply AY.ret;rfl)|apply Ap.ret|apply Ah.ret|apply Ac.ret|apply Ad.nil|apply Ad.one|(apply Aa.read [0,1] hC;rfl;rfl;exact .of_eq rfl;exact CZ.AO rfl;exact Du rfl;(repeat (first|exact trivial|refine ⟨⟨_,rfl,.of_eq rfl⟩,?_⟩));decide;(intro _ hb;simp at hb<;>omega);rfl)|(apply Aa.assign;rfl)|(apply Aa.move;rfl)|(apply Aa.int;rfl;rfl;rfl)|(apply Aa.AP;rfl;rfl;rfl;omega;rfl)|(apply Aa.load;rfl;rfl)|(apply Ac.Ae;rfl)|(apply Ac.cond_true;rfl)|(intro _;try (exfalso;omega)))
   all_goals first|(exfalso;omega)|contradiction|(refine Done.rt rfl rfl ⟨?_,rfl,rfl⟩;try rfl)
  ·have hp':P k=false:=by simpa using hp
   rw [hp'] at hC
   repeat' (first|apply Ac.Ak|apply Ac.region|apply Ac.Ai|apply Ac.Ag|apply Au.normal|apply Ap.normal|apply Ac.skip|apply Ad.nil|apply Ad.one|(apply Aa.read [0,1] hC;rfl;rfl;exact .of_eq rfl;exact CZ.AO rfl;exact Du rfl;(repeat (first|exact trivial|refine ⟨⟨_,rfl,.of_eq rfl⟩,?_⟩));decide;(intro _ hb;simp at hb<;>omega);rfl)|(apply Aa.assign;rfl)|(apply Aa.move;rfl)|(apply Aa.BU;rfl;rfl;omega)|(apply Aa.int;rfl;rfl;rfl)|(apply Aa.AP;rfl;rfl;rfl;omega;rfl)|(apply Aa.load;rfl;rfl)|(apply Ac.Ae;rfl)|(apply Ac.cond_false;rfl)|(intro _;try (exfalso;omega)))
   all_goals try (exfalso;omega)
   all_goals try contradiction
   refine Ah.normal ⟨((Rw hk hp').symm.trans hi),by first|omega|decide,?_,?_⟩
   ·exact EJ
   ·exact FM
 ·intro hi
  have e1:Ef P S.length=-1:=by rw [← hi,Nat.sub_self];rfl
  rw [e1]
  repeat' (first|apply Ac.Ak|apply Ac.Bl|apply Au.normal|(apply AY.ret;rfl)|apply Ap.exit|apply Ah.exit|apply Ac.ret|apply Ad.nil|apply Ad.one|(apply Aa.assign;rfl)|(apply Aa.int;rfl;rfl;rfl)|(apply Ac.Ae;rfl)|(intro _;try (exfalso;omega)))
  all_goals first|(exfalso;omega)|(refine Done.rt rfl rfl ⟨?_,rfl,rfl⟩;try rfl)
theorem Zh (q:Qu) (hq:Jw q) (s:Zv) (hN:iW q s.notes) (hNl:s.notes.length≤1000):Et env 83 ([.p (.agg (Enc.enc s))]++[.ref 0 0]) [(0,.box 36 ((Enc.enc q).map .p))] 1 (.bool (decide (12<(Gs q s.notes).length))):=by
 have hp:=Tq q hq s hN hNl
 have e:decide (12<(Gs q s.notes).length)=decide (((Gs q s.notes).length:Int)>12):=by
  by_cases h:12<(Gs q s.notes).length
  ·rw [decide_eq_true h,decide_eq_true (by omega)]
  ·rw [decide_eq_false h,decide_eq_false (by omega)]
 rw [e]
 generalize Gs q s.notes=M at *
 refine Et.enter (Aj (by decide)) Tryz.func83 rfl (by kernel_rfl) (by simp [Tryz.ntmps83]) ?_
 repeat' (first|apply Ac.Ak|apply Ac.ret|apply Ad.nil|apply Ad.one|(apply Aa.fn;rfl;rfl;exact hp;intro _;rfl)|(apply Aa.assign;rfl)|(apply Aa.int;rfl;rfl;rfl)|(apply Aa.load;rfl;rfl)|(apply Aa.CX;rfl;rfl)|(apply Aa.box;rfl;trivial))
 all_goals first|(exfalso;omega)|(refine Done.ret rfl (.refl _) trivial ?_ (by omega) (Nat.le_refl _) ⟨?_,rfl,rfl⟩;exact FM;try rfl)
def jT (q:Qu):Bool:=decide (0≤Ef (fun i=>decide (12<(Gs q (Hy q i)).length)) (BJ q.p).length)
theorem JM (q:Qu) (hq:Jw q):AB env 36 [.agg (Enc.enc q)] (.p (.bool (jT q))):=by
 have hS:=JH q hq
 have hSl:=PI q.p
 have hn:=hq.p.notes
 have hM:∀ k,k<(BJ q.p).length→Et env 83 ([.p (.agg (Enc.enc (gi (BJ q.p) k)))]++[.ref 0 0]) [(0,.box 36 ((Enc.enc q).map .p))] 1 (.bool (decide (12<(Gs q (Hy q k)).length))):=fun k hk=>Zh q hq _ (OQ hk) (Xj hq hk)
 unfold jT
 generalize hP:(fun i=>decide (12<(Gs q (Hy q i)).length))=P at *
 have hM:∀ k,k<(BJ q.p).length→Et env 83 ([.p (.agg (Enc.enc (gi (BJ q.p) k)))]++[.ref 0 0]) [(0,.box 36 ((Enc.enc q).map .p))] 1 (.bool (P k)):=fun k hk=>by rw [← hP];exact hM k hk
 generalize BJ q.p=S at *
 refine AB.enter (Aj (by decide)) Tryz.func36 rfl (by kernel_rfl) (by simp [Tryz.ntmps36]) ?_
 repeat' (first|apply Ac.assoc|apply Ac.Ak|apply Ac.Ag|apply Ad.nil|apply Ad.one|(apply Aa.fn;rfl;rfl;exact hS;intro _;rfl)|(apply Aa.makeFunc;rfl;rfl)|(apply a3h;rfl;rfl;rfl;exact le_dec rfl)|(apply sN;rfl;rfl;rfl;exact le_dec rfl)|(apply Aa.assign;rfl)|(apply Aa.move;rfl)|(apply Aa.load;rfl;rfl)|(apply Aa.CX;rfl;rfl)|(apply Aa.box;rfl;trivial))
 all_goals try (exfalso;omega)
 apply Ac.G9 (S.length) (fun k=>VB P S.length (S.length-k)=Ef P S.length) [(0,_),(1,_),(7,_)] [(0,_)] (fun k r=>(8,.p (.int .i64 (k:Int)))::r) (fun k r=>r) 1
 ·first|omega|decide
 ·first|omega|decide
 ·exact Rz
 ·exact VZ
 ·first|(intro _ _;omega)|omega|trivial
 ·intro k hk hi
  have hC:=hM k hk
  by_cases hp:P k=true
  ·rw [hp] at hC
   have e1:Ef P S.length=(k:Int):=by rw [← hi,WR hk hp]
   rw [e1]
   repeat' (first|apply Ac.Ak|apply Ac.Ai|apply Ac.Ag|apply Au.ret|(apply AY.ret;rfl)|apply Ap.ret|apply Ah.ret|apply Ac.ret|apply Ad.nil|apply Ad.one|(apply Aa.read [0] hC;rfl;rfl;exact .of_eq rfl;exact CZ.AO rfl;exact Du rfl;(repeat (first|exact trivial|refine ⟨⟨_,rfl,.of_eq rfl⟩,?_⟩));decide;(intro _ hb;simp at hb<;>omega);rfl)|(apply Aa.assign;rfl)|(apply Aa.move;rfl)|(apply Aa.int;rfl;rfl;rfl)|(apply Aa.AP;rfl;rfl;rfl;omega;rfl)|(apply Aa.load;rfl;rfl)|(apply Ac.Ae;rfl)|(apply Ac.cond_true;rfl)|(intro _;try (exfalso;omega)))
   all_goals first|(exfalso;omega)|contradiction|(refine Done.rt rfl rfl ⟨?_,rfl,rfl⟩;try rfl)
  ·have hp':P k=false:=by simpa using hp
   rw [hp'] at hC
   repeat' (first|apply Ac.Ak|apply Ac.region|apply Ac.Ai|apply Ac.Ag|apply Au.normal|apply Ap.normal|apply Ac.skip|apply Ad.nil|apply Ad.one|(apply Aa.read [0] hC;rfl;rfl;exact .of_eq rfl;exact CZ.AO rfl;exact Du rfl;(repeat (first|exact trivial|refine ⟨⟨_,rfl,.of_eq rfl⟩,?_⟩));decide;(intro _ hb;simp at hb<;>omega);rfl)|(apply Aa.assign;rfl)|(apply Aa.move;rfl)|(apply Aa.BU;rfl;rfl;omega)|(apply Aa.int;rfl;rfl;rfl)|(apply Aa.AP;rfl;rfl;rfl;omega;rfl)|(apply Aa.load;rfl;rfl)|(apply Ac.Ae;rfl)|(apply Ac.cond_false;rfl)|(intro _;try (exfalso;omega)))
   all_goals try (exfalso;omega)
   all_goals try contradiction
   refine Ah.normal ⟨((Rw hk hp').symm.trans hi),by first|omega|decide,?_,?_⟩
   ·exact EJ
   ·exact FM
 ·intro hi
  have e1:Ef P S.length=-1:=by rw [← hi,Nat.sub_self];rfl
  rw [e1]
  repeat' (first|apply Ac.Ak|apply Ac.Bl|apply Au.normal|(apply AY.ret;rfl)|apply Ap.exit|apply Ah.exit|apply Ac.ret|apply Ad.nil|apply Ad.one|(apply Aa.assign;rfl)|(apply Aa.int;rfl;rfl;rfl)|(apply Ac.Ae;rfl)|(intro _;try (exfalso;omega)))
  all_goals first|(exfalso;omega)|(refine Done.rt rfl rfl ⟨?_,rfl,rfl⟩;try rfl)
noncomputable def hcE (q:Qu):Int:=if Y8 q.o q.p=0 then vG q.y else Y8 q.o q.p
theorem Xt {q:Qu} (hq:Jw q):hcE q=0:=by
 unfold hcE
 rw [if_pos hq.e,dO hq.y]
theorem Jl (q:Qu) (ho:Ry q.o) (hp:Yk q.p):AB env 33 [.agg (Enc.enc q)] (.p (.int .i64 (hcE q))):=by
 have hc:=Qs q.o q.p ho hp
 have hs:=Ko q.y
 unfold hcE
 generalize Y8 q.o q.p=e1 at *
 generalize vG q.y=e2 at *
 by_cases h:e1=0
 ·rw [if_pos h]
  subst h
  refine AB.enter (Aj (by decide)) Tryz.func33 rfl (by kernel_rfl) (by simp [Tryz.ntmps33]) ?_
  repeat' (first|apply Ac.assoc|apply Ac.Ak|apply Ac.Ai|apply Ac.ret|apply Ad.nil|apply Ad.one|(apply Aa.fn;rfl;rfl;exact hc;intro _;rfl)|(apply Aa.fn;rfl;rfl;exact hs;intro _;rfl)|(apply Aa.assign;rfl)|(apply Aa.move;rfl)|(apply Aa.int;rfl;rfl;rfl)|(apply Aa.load;rfl;rfl)|(apply Aa.Aw;rfl;rfl;rfl)|(apply Aa.box;rfl;trivial)|(apply Ac.Aq;rfl))
  all_goals first|(exfalso;omega)|contradiction|(refine Done.rt rfl rfl ⟨?_,rfl,rfl⟩;try rfl)
 ·rw [if_neg h]
  refine AB.enter (Aj (by decide)) Tryz.func33 rfl (by kernel_rfl) (by simp [Tryz.ntmps33]) ?_
  repeat' (first|apply Ac.assoc|apply Ac.Ak|apply Ac.BL|apply Ad.nil|apply Ad.one|(apply Aa.fn;rfl;rfl;exact hc;intro _;rfl)|(apply Aa.assign;rfl)|(apply Aa.move;rfl)|(apply Aa.int;rfl;rfl;rfl)|(apply Aa.load;rfl;rfl)|(apply Aa.Aw;rfl;rfl;rfl)|(apply Aa.box;rfl;trivial)|(apply Ac.Ae;rfl)|(intro _;try (exfalso;omega)))
  all_goals first|(exfalso;omega)|contradiction|(refine Done.rt rfl rfl ⟨?_,rfl,rfl⟩;try rfl)
end
end Go.Proofs.YtnjkoebfgcbbdaaGreatDoor
