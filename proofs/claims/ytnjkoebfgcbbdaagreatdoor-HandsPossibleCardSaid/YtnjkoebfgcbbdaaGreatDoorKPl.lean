/-
  Texts of a proof, merged (Vm42, PieB, PieC, PieD, PieE, PieF, OrO, PieG, OrKa, Vm43). Conditions: in each statement.
-/
import Derived.Test.YtnjkoebfgcbbdaaGreatDoorKPk
set_option linter.unusedSimpArgs false
set_option linter.unusedVariables false
set_option linter.unusedSectionVars false
set_option maxRecDepth 100000
set_option maxHeartbeats 8000000
abbrev cH:=@List.map_set
abbrev cI:=@Bool.true_and
abbrev cU:=@Bool.false_and
abbrev dz:=@Nat.pow_lt_pow_right
abbrev eM:=@List.set_cons_succ
abbrev eW:=@Nat.or_lt_two_pow
abbrev ik:=@List.replicate_succ
namespace Go.Vm
open Go.Am
structure IsKey(P:Program)(t:TypeId){α:Type}[DecidableEq α](kf:α→List FV)(kv:α→List Value):Prop where
 val:∀a,FW (kf a)=some (kv a)
 agg:TK P t=true
 eq:∀a b,Dz P (Op.equal t (.agg (kv a).toArray) (.agg (kv b).toArray))=some (decide (a=b))
 chk:∀fl a,XW P (Instr.checkKey fl 10000 t (.agg (kv a).toArray))=true
def BZ{α β:Type}[DecidableEq α]:List (α×β)→α→Option β
 |[],_=>none
 |x::es,a=>if a=x.1 then some x.2 else BZ es a
def CB{α β:Type}[DecidableEq α]:List (α×β)→α→β→List (α×β)
 |[],a,b=>[(a,b)]
 |x::es,a,b=>if a=x.1 then(a,b)::es else x::CB es a b
def FZ{α β:Type}[DecidableEq α]:List (α×β)→α→Nat
 |[],_=>0
 |x::es,a=>if a=x.1 then 0 else FZ es a+1
def WJ{α:Type}(kf:α→List FV)(es:List (α×PV)):HB:=.JZ (es.map fun x=>.agg (kf x.1)) (es.map (·.2))
theorem OW:∀{l:List FV} {vs:List Value},FW l=some vs→vs.all Am.plainCell=true
 |[],_,h=>by cases h;rfl
 |x::l,vs,h=>by
  simp only[FW] at h;split at h
  ·rename_i v r a b
   cases h;rw[List.all_cons,cW];refine⟨?_,OW b⟩;cases x<;>simp only[jm,Option.some.injEq,reduceCtorEq] at a<;>subst a<;>rfl
  grind
theorem Dt.b3a{m:Mem}{F:Nat→Prop}:∀{l:List FV} {vs:List Value},FW l=some vs→Dt m F l vs
 |[],_,h=>by cases h;exact .nil
 |x::l,vs,h=>by
  simp only[FW] at h;split at h
  ·rename_i v r a b
   cases h;refine .cons ?_ (Dt.b3a b);cases x<;>simp only[jm,Option.some.injEq,reduceCtorEq] at a<;>subst a
   ·exact .int _ _
   ·exact .bool _
   ·exact .str _
  grind
theorem Yz:∀{l:List FV} {vs:List Value},FW l=some vs→∀x∈vs,∀n,Instr.sameBits (n+1) x x=true
 |[],_,h=>by cases h;simp
 |x::l,vs,h=>by
  simp only[FW] at h;split at h
  ·rename_i v r a b
   cases h;intro y hy n;rcases bo.1 hy with rfl|hy
   ·cases x<;>simp only[jm,Option.some.injEq,reduceCtorEq] at a<;>subst a<;>simp[Instr.sameBits,NW]
   ·exact Yz b y hy n
  grind
def a9g:TypeDesc→Bool
 | .int _=>true
 | .bool=>true
 | .string=>true
 |_=>false
def nM(P:Program):List Field→Array Value→Bool
 |[],_=>true
 |f::fs,xs=>(match Gz P f.type,P.underlying f.type,xs[f.offset]? with|some false,some d,some _=>a9g d|_,_,_=>false)&&nM P fs xs
theorem bG{P:Program}{fl:Bool}{n:Nat}(xs:Array Value):∀(a:List Field),nM P a xs=true→Dz P (forIn a PUnit.unit fun f _=>(do
 if f.name≠"_" then do
  let x ← part f.type xs f.offset
  Instr.checkKey fl (n+1) f.type x
  pure (ForInStep.yield PUnit.unit)
 else pure (ForInStep.yield PUnit.unit):Sem (ForInStep PUnit)))=some PUnit.unit
 |[],_=>rfl
 |f::a,h=>by
  simp only[nM,Bool.and_eq_true] at h;obtain⟨e,g⟩:=h;have l:=bG (P:=P) (fl:=fl) (n:=n) xs a g;split at e
  ·rename_i d v k j i
   rw [em,Ar];by_cases c:f.name≠"_"
   ·rw[if_pos c]
    have b:Dz P (Instr.checkKey fl (n+1) f.type v)=some ():=by
     rw[Instr.checkKey];simp only[Ar,AX,j,Option.bind_some];cases d<;>first|rfl|cases e
    simp only[Ar,Gt k i,Option.bind_some,b,BX];omega
   ·rw[if_neg c]
    assumption
  grind
section
variable {P:Program}{α:Type}[DecidableEq α]{kf:α→List FV}{kv:α→List Value}{t:TypeId}
theorem IsKey.rel(h:IsKey P t kf kv){m:Mem}{F:Nat→Prop}{a:α}{v:Value}(r:RF m F (.agg (kf a)) v):v=.agg (kv a).toArray:=by
 cases r with
 |agg r b=>rw[(PI r (h.val a)).1]
theorem IsKey.of(h:IsKey P t kf kv){m:Mem}{F:Nat→Prop}(a:α):RF m F (.agg (kf a)) (.agg (kv a).toArray) :=
 .agg (Dt.b3a (h.val a)) (Dl (OW (h.val a)))
theorem IsKey.plain(h:IsKey P t kf kv)(a:α):Am.plain (.agg (kv a).toArray)=true:=by
 show Am.Gq (.agg (kv a).toArray)=true;simpa[Am.Gq] using OW (h.val a)
theorem IsKey.bits(h:IsKey P t kf kv)(a:α):Instr.sameBits 10000 (.agg (kv a).toArray) (.agg (kv a).toArray)=true:=by
 have g:=Yz (h.val a);show(decide _&&_)=true;simp only[List.size_toArray,Bool.and_eq_true];refine⟨by simp,?_⟩;rw[az];rintro⟨x,y⟩ d;have f:∀(l:List Value),(x,y)∈l.zip l→x=y∧x∈l:=by
  intro l
  induction l with
  |nil=>simp
  |cons b l c =>
   intro h;rcases bo.1 h with h|h
   ·grind
   ·obtain⟨e,m⟩:=c h
    grind
 grind
theorem IsKey.of_struct{e:Array Field}(c:P.underlying t=some (.struct e))(g:P.stoodInHeld t=false)(f:∀a,FW (kf a)=some (kv a))(h:∀a b,iO P e.toList (kv a).toArray (kv b).toArray=some (decide (a=b)))(i:∀a,nM P e.toList (kv a).toArray=true):IsKey P t kf kv where
 val:=f
 agg:=by unfold TK;rw[c]
 eq a b:=Px (d:=9998) c g (h a b)
 chk fl a:=by
  have:Dz P (Instr.checkKey fl 10000 t (.agg (kv a).toArray))=some ():=by
   rw[Instr.checkKey];simp only[Ar,AX,c,Option.bind_some];rw[← eJ,bG (n:=9998) _ _ (i a)];rfl
  unfold XW;grind
theorem l9(h:IsKey P t kf kv){m:Mem}{F:Nat→Prop}:∀{es:List (α×PV)} {ks:List Value},Dt m F (es.map fun x=>.agg (kf x.1)) ks→ks=es.map fun x=>.agg (kv x.1).toArray
 |[],_,r=>by cases r;rfl
 |x::es,_,r=>by
  cases r with
  |cons b a=>rw[h.rel b,l9 h a];rfl
theorem yH(h:IsKey P t kf kv){m:Mem}{F:Nat→Prop}{T:Nat→Option Tg}{σ:Nat→Value}{n:Nat}(a:α):∀{es:List (α×PV)} {l:List MapEntry},l.map (·.key)=es.map (fun x=>.agg (kv x.1).toArray)→Dv m F T σ n (es.map (·.2)) (l.map (·.val))→∀(i:Nat),
 (BZ es a=none→Dz P (Instr.findAsking t (.agg (kv a).toArray) l i)=some none∧FZ es a=es.length∧∀b,CB es a b=es++[(a,b)]) ∧
 (∀c,BZ es a=some c→∃j v,Dz P (Instr.findAsking t (.agg (kv a).toArray) l i)=some (some (i+j,v))∧RP m F T σ n c v∧(∃e,l[j]?=some e∧e.key=.agg (kv a).toArray∧e.val=v)∧FZ es a=j∧∀b,CB es a b=es.set j (a,b))
 |[],[],_,_,i=>⟨fun _=>⟨rfl,rfl,fun _=>rfl⟩,fun v d=>by cases d⟩
 |[],y::l,h1,_,_=>by grind
 |x::es,[],h1,_,_=>by grind
 |x::es,y::l,h1,h2,i=>by
  simp only[List.map_cons,List.cons.injEq] at h1 h2;cases h2 with
  |cons k g =>
   obtain⟨p,o⟩:=yH h a h1.2 g (i+1);rw[Instr.findAsking,h1.1];simp only[Ar,h.eq,Option.bind_some];unfold BZ CB FZ;by_cases f:a=x.1
   ·rw[if_pos f,decide_eq_true f]
    refine⟨fun h=>(by cases h),fun v d=>⟨0,y.val,?_,?_,⟨y,rfl,by grind,rfl⟩,by grind,fun b=>?_⟩⟩
    ·rfl
    ·grind
    grind
   grind
theorem Zi(h:IsKey P t kf kv)(fl:Bool)(a:α)(l:List MapEntry):IY P fl t (.agg (kv a).toArray) l=Dz P (Instr.findAsking t (.agg (kv a).toArray) l 0):=by
 have b:=h.agg;obtain⟨d,c,f⟩:=fZ h.agg;have e:Ew P t=none:=by
  unfold TK at b;unfold Ew;grind
 unfold IY;rw[e,b,h.chk fl a];simp only[Bool.and_self,if_true,Instr.findKey,Ar,AX,c,Option.bind_some];cases l with
 |nil=>rfl
 |cons x l =>
  unfold Instr.findNow;rw[f]
variable {E:Env}{L:Vm.Frame}{H:Vm.Heap}{nx:Nat}{Q:PV→Vm.Heap→Nat→Prop}{w:Bool}{dst:Option Tmp}{ty:TypeId}{pos:String}{af:Array Edge}{gd:Option (Nat×Bool)}
theorem nV{Γ:Nat→Option (List Value×TypeId)}{m:Mem}{F:Nat→Prop}{σ:Nat→Value}{b:Tr Value}{a:α}{o:Operand}(h:IsKey P t kf kv)(c:Ctx Γ m F σ H nx)(e:RL m F (htag H) σ nx L b)(d:AU Γ L o=some (.p (.agg (kf a)))):ev b o=.agg (kv a).toArray:=by
 have:=Bz c e d;cases this with
 |p r=>exact h.rel r
theorem Je{Γ:Nat→Option (List Value×TypeId)}{m:Mem}{F:Nat→Prop}{σ:Nat→Value}{t:Tr Value}{b:Nat}{o:Operand}{ks:List FV}{cs:List PV}(a:Ctx Γ m F σ H nx)(c:RL m F (htag H) σ nx L t)(h:AU Γ L o=some (.mref b))(d:hget H b=some (.JZ ks cs)):ev t o=σ b:=by
 have:=Bz a c h;cases this with
 |mref _ _ e=>exact e (by simp[htag,d,HB.tag])
theorem Aa.aA{t:TypeId}(q:Q (.mref nx) ((nx,.JZ [] [])::H) (nx+1)):Aa E w ⟨dst,.makeMap t none,ty,pos,af,gd⟩ L H nx Q:=by
 intro m F σ h b i;obtain⟨g,f,e⟩:=b.new (m':=m.alloc (.map [] 0)) (x:=.JZ [] []) (s:=.map (some m.size)) (by simp[Mem.alloc]) (fun c a=>by rw[Mem.Bj,if_neg (by omega)]) (by simp only[Mem.alloc];omega) (fun c a=>by simp only[Dp,Option.some.injEq] at a;omega)
  ⟨m.size,[],0,rfl,by simp[Mem.alloc],fun d=>cr _ (b.fr _ d),by rw[Mem.Bj,if_pos rfl],.nil,.nil,rfl,rfl⟩
 exact Gy.op (v:=.map (some m.size)) (fun _=>rfl) ⟨_,_,_,F,_,q,g,.mref (bL _) rfl fun _=>(upd_same _ _ _).symm,f,fun _=>e⟩
theorem LQ{α:Type}{g:α→α}{e:α}:∀{l:List α} {j:Nat},l[j]?=some e→l.modify j g=l.set j (g e)
 |[],j,h=>by simp
 |a::l,0,h=>by grind
 |a::l,j+1,h=>by
  rw[List.modify_succ_cons,eM,LQ (by assumption)]
theorem Stamped.push{l:List MapEntry}{a:Nat}{k v:Value}(h:Stamped l a):Stamped (l++[{ key:=k,val:=v,born:=a }]) (a+1):=by
 obtain⟨c,b⟩:=h;subst b;refine⟨?_,by simp⟩;rw[bk,c,aD,List.length_singleton,gF];rfl
theorem Stamped.modify{l:List MapEntry}{a i:Nat}{f:MapEntry→MapEntry}(h:Stamped l a)(b:∀e,(f e).born=e.born):Stamped (l.modify i f) a:=by
 obtain⟨d,c⟩:=h;refine⟨?_,by grind⟩;apply bj;grind
theorem Stamped.at{l:List MapEntry}{a i:Nat}{e:MapEntry}(h:Stamped l a)(c:l[i]?=some e):e.born=i:=by
 have b:(l.map (·.born))[i]?=some e.born:=by grind
 rw[h.1] at b;grind
theorem Stamped.find{l:List MapEntry}{a i:Nat}(h:Stamped l a)(b:i<l.length):l.findIdx? (fun e=>(e.born:Int)==(i:Int))=some i:=by
 rw[List.findIdx?_eq_some_iff_getElem];refine⟨b,?_,fun j c=>?_⟩
 ·rw[h.at (ai b)];simp
 ·rw[h.at (ai (by omega:j<l.length))]
  grind
theorem jr{β:Type}:∀{es:List (α×β)} {a:α},FZ es a≤es.length∧(FZ es a<es.length↔(BZ es a).isSome)
 |[],_=>⟨ab _,by simp[FZ,BZ]⟩
 |x::es,a=>by
  obtain⟨c,b⟩:=jr (es:=es) (a:=a);unfold FZ BZ;grind
theorem qV{β:Type}:∀{es:List (α×β)} {a:α} {b:β},FZ es a<(CB es a b).length
 |[],a,b=>by simp[FZ,CB]
 |x::es,a,b=>by
  unfold FZ CB;by_cases h:a=x.1
  ·grind
  ·have:=qV (es:=es) (a:=a) (b:=b)
   grind
theorem dD{β:Type}:∀{es:List (α×β)} {a:α} {b c:β},(CB es a b).set (FZ es a) (a,c)=CB es a c
 |[],a,b,c=>by rfl
 |x::es,a,b,c=>by
  unfold FZ CB;by_cases h:a=x.1
  ·grind
  ·rw[if_neg h,if_neg h,if_neg h,eM,dD]
theorem Vj{β:Type}:∀{es:List (α×β)} {a:α} {c:β},((CB es a c)[FZ es a]?).map (·.1)=some a
 |[],a,c=>by rfl
 |x::es,a,c=>by
  unfold FZ CB;by_cases e:a=x.1
  ·grind
  ·rw[if_neg e,if_neg e,gD,Vj]
def LZ(E:Env)(H:Vm.Heap)(nx:Nat)(es:List (α×PV))(a:α)(z:Value)(c:PV):Prop :=
 BZ es a=some c∨BZ es a=none∧∀m F σ,Ctx E.Γ m F σ H nx→RP m F (htag H) σ nx c z
theorem LZ.c1l{es:List (α×PV)}{a:α}{b:Nat}{e:TypeId}(h:BZ es a=none)(d:hget H b=some (.vec e [] 0 true)):LZ E H nx es a Df (.vec b 0 0 0) :=
 .inr ⟨h,fun _ _ _ c=>a9y c d⟩
theorem LZ.const{es:List (α×PV)}{a:α}{z:Value}{b:PV}(h:BZ es a=none)(c:Zm z=some b):LZ E H nx es a z b :=
 .inr ⟨h,fun _ _ _ _=>YC c⟩
theorem Aa.a2p{t B K:TypeId}{x k:Operand}{b:Nat}{es:List (α×PV)}{a:α}{z:Value}{c:PV}(d:IsKey E.P B kf kv)(G:AU E.Γ L x=some (.mref b))(n:hget H b=some (WJ kf es))(J:AU E.Γ L k=some (.p (.agg (kf a))))
 (I:E.P.underlying t=some (.map B K)) (C:zeroOf E.P K=some z) (i:Am.plain z=true) (f:LZ E H nx es a z c) (q:Q c H nx):Aa E w ⟨dst,.lookup t x k false,ty,pos,af,gd⟩ L H nx Q :=
 Aa.quiet q fun m F σ T e h=>by
  obtain⟨_,r,l,s,A,W,V,y,N,M,U⟩:=e.hp b _ n;have S:=l9 d N;obtain⟨f1,f2⟩:=yH d a S M 0;have g:(Am.plain z&&Am.plain (.agg (kv a).toArray))=true:=by rw[i,d.plain];rfl
  rcases f with f|⟨f,O⟩
  ·obtain⟨j,u,o,R,_⟩:=f2 c f
   refine⟨u,fun _=>?_,R⟩;simp only[BO,FI,MK,I,C,Je e h G n,nV d e h J,A,y,g,if_true,Zi d,o,Option.map_some,Bool.false_eq_true,if_false]
  ·have o:=(f1 f).1
   refine⟨z,fun _=>?_,O m F σ e⟩;simp only[BO,FI,MK,I,C,Je e h G n,nV d e h J,A,y,g,if_true,Zi d,o,Option.map_some,Bool.false_eq_true,if_false]
theorem Dv.snoc{m:Mem}{F:Nat→Prop}{T:Nat→Option Tg}{σ:Nat→Value}{n:Nat}:∀{cs:List PV} {vs:List Value} {c:PV} {v:Value},Dv m F T σ n cs vs→RP m F T σ n c v→Dv m F T σ n (cs++[c]) (vs++[v])
 |_,_,_,_,.nil,h=>.cons h .nil
 |_,_,_,_,.cons a t,h=>.cons a (Dv.snoc t h)
theorem a0q{t:TypeId}(a:IsKey P t kf kv){m:Mem}{F:Nat→Prop}:∀(es:List (α×PV)),Dt m F (es.map fun x=>.agg (kf x.1)) (es.map fun x=>.agg (kv x.1).toArray)
 |[]=>.nil
 |x::l=>.cons (a.of x.1) (a0q a l)
theorem Q5{m:Mem}{F:Nat→Prop}{σ:Nat→Value}{o:TypeId}{b r:Nat}{es es':List (α×PV)}{l':List MapEntry}{clock':Nat}(h:IsKey P o kf kv){Γ:Nat→Option (List Value×TypeId)}(q:Ctx Γ m F σ H nx)(l:hget H b=some (WJ kf es))(f:σ b=.map (some r))(n:r<m.size)(i:¬ F r)
 (k1:l'.map (·.key)=es'.map (fun x=>.agg (kv x.1).toArray)) (j:Dv m F (htag H) σ nx (es'.map (·.2)) (l'.map (·.val))) (g:Stamped l' clock') :
 Ctx Γ (m.put r (.map l' clock')) F σ (hput H b (WJ kf es')) nx∧Step m F σ H nx (m.put r (.map l' clock')) F σ (hput H b (WJ kf es')) nx:=by
 have c:∀a x,r≠a→(m.put r x).get a=m.get a:=fun a x d=>by rw[Mem.get_put,if_neg d]
 have:=q.change (m':=m.put r (.map l' clock')) (x':=WJ kf es') (s':=σ b) l trivial (fun _=>rfl) (ab _)
  (fun a _ d=>c a _ fun e=>d (by rw[f,e];rfl)) (fun k k1 j g=>by
   have:=g r (by rw[f];rfl);simp only[Mem.put];omega) (fun a d=>.inl d) (by
   have p:∀a,F a→F a∧(m.put r (.map l' clock')).get a=m.get a:=fun a d=>⟨d,c a _ fun e=>i (e▸d)⟩
   refine⟨r,l',clock',f,n,i,by rw[Mem.get_put,if_pos rfl],?_,?_,g⟩
   ·rw[k1]
    exact a0q h es'
   ·exact j.mono p (EJ (x':=WJ kf es') l trivial fun _=>rfl) (ab _))
 rw[bP] at this;omega
theorem Aa.c2k{t G et:TypeId}{x k:Operand}{b:Nat}{es:List (α×PV)}{a:α}{c:PV}{z:Value}(f:IsKey E.P G kf kv)(hx:AU E.Γ L x=some (.mref b))(I:hget H b=some (WJ kf es))(hk:AU E.Γ L k=some (.p (.agg (kf a))))
 (ht:E.P.underlying t=some (.map G et)) (hz:zeroOf E.P et=some z) (N:Am.plain z=true) (hv:LZ E H nx es a z c) {H':Vm.Heap} (hH:hput H b (WJ kf (CB es a c))=H') (q:Q (.D5 [c,.p (.int .i64 (FZ es a:Nat))]) H' nx):Aa E true ⟨dst,.mapEntry t x k,ty,pos,af,gd⟩ L H nx Q:=by
 subst hH;intro m F σ W o c2;obtain⟨_,r,l,d,M,Y,X,r4,r5,K,C⟩:=o.hp b _ I;have e1:=l9 f r5;obtain⟨f1,f2⟩:=yH f a e1 K 0;have n:Un E.P t (ev W x) (ev W k) m=match IY E.P false G (.agg (kv a).toArray) l with
  |some (some (i,v))=>if(Ew E.P G).isSome||Instr.sameBits 10000 (((l[i]?).map (·.key)).getD (.agg (kv a).toArray)) (.agg (kv a).toArray) then some (.tuple #[v,.int .i64 ((((l[i]?).map (·.born)).getD 0:Nat):Int)],m.put r (.map (l.modify i fun e=>{ e with key:=.agg (kv a).toArray }) d)) else none
  |some none=>some (.tuple #[z,.int .i64 ((d:Nat):Int)],m.put r (.map (l++[{ key:=.agg (kv a).toArray,val:=z,born:=d }]) (d+1)))
  |none=>none:=by
  unfold Un;simp only[ht,Je o c2 hx I,nV f o c2 hk,M,r4,f.plain,if_true,hz,N];rfl
 rw[Zi f] at n;have y:l.length=es.length:=by
  have:=congrArg List.length e1;grind
 rcases hv with O|⟨O,hc⟩
 ·obtain⟨j,u,J,U,⟨e0,T,S,Z⟩,R,f6⟩:=f2 c O
  rw[cz] at J;rw[J] at n;simp only[T,Option.map_some,Option.getD_some,S,f.bits,Bool.or_true,if_true,C.at T] at n;have s:∀(g:MapEntry→MapEntry),l.modify j g=l.set j (g e0):=fun g=>LQ T
  obtain⟨V,B⟩:=Q5 f o I M Y X (es':=CB es a c) (l':=l.modify j fun e=>{ e with key:=.agg (kv a).toArray }) (by simp_all) (by rw[s,f6 c,cH,cH];exact K.set j (by grind)) (C.modify fun _=>rfl);refine Gy.op (v:=.tuple #[u,.int .i64 ((j:Nat):Int)]) (fun _=>by assumption) ⟨_,_,_,F,_,q,V,?_,B,fun h=>by cases h⟩;rw[R];exact .D5 (.cons (U.step B o) (.cons (.p (.int _ _)) .nil))
 ·obtain⟨J,R,U⟩:=f1 O
  rw[J] at n;have A:=hc m F σ o;obtain⟨V,B⟩:=Q5 f o I M Y X (es':=CB es a c) (l':=l++[{ key:=.agg (kv a).toArray,val:=z,born:=d }]) (clock':=d+1) (by grind) (by rw[U c,bk,bk];exact Dv.snoc K A) C.push;refine Gy.op (v:=.tuple #[z,.int .i64 ((d:Nat):Int)]) (fun _=>by assumption) ⟨_,_,_,F,_,q,V,?_,B,fun h=>by cases h⟩;rw[R,← y,← C.2];exact .D5 (.cons (A.step B o) (.cons (.p (.int _ _)) .nil))
theorem Aa.a5b{t S:TypeId}{x k y:Operand}{b:Nat}{es:List (α×PV)}{a:α}{n c:PV}(i:IsKey E.P S kf kv)(U:AU E.Γ L x=some (.mref b))(u:hget H b=some (WJ kf (CB es a n)))(V:AU E.Γ L k=some (.p (.int .i64 (FZ es a:Nat))))(T:AU E.Γ L y=some c)
 {H':Vm.Heap} (W:hput H b (WJ kf (CB es a c))=H') (q:Q (.D5 []) H' nx):Aa E true ⟨dst,.entryStore t x k y,ty,pos,af,gd⟩ L H nx Q:=by
 subst W;intro m F σ B j A;obtain⟨_,r,l,z,G,R,O,N,M,K,C⟩:=j.hp b _ u;have X:=l9 i M;have o:=Bz j A T;have s:ev B k=.int .i64 ((FZ es a:Nat):Int):=c5a j A V;have f:l.length=(CB es a n).length:=by
  have:=congrArg List.length X;grind
 have J:FZ es a<l.length:=by rw[f];exact qV
 have d:∀(g:MapEntry→MapEntry),l.modify (FZ es a) g=l.set (FZ es a) (g l[FZ es a]):=fun g=>LQ (ai J)
 obtain⟨Z,Y⟩:=Q5 i j u G R O (es':=CB es a c) (l':=l.modify (FZ es a) fun e=>{ e with val:=ev B y }) (by
  rw[d,cH,← dD (b:=n),cH];have I:l[FZ es a].key=.agg (kv a).toArray:=by
   have h1:(l.map (·.key))[FZ es a]?=some l[FZ es a].key:=by grind
   have h2:=Vj (es:=es) (a:=a) (c:=n);grind
  grind) (by
  rw[d,cH,← dD (b:=n),cH];exact K.set _ o) (C.modify fun _=>rfl)
 exact Gy.op (v:=undef) (fun _=>by simp only[BO,FI,IZ,Je j A U u,s,G,N,C.find J,Option.map_some]) ⟨_,_,_,F,_,q,Z,.D5 .nil,Y,fun h=>by cases h⟩
theorem Aa.sK{α:Type}{_:Enc α}{l:List α}{a:α}{s x:Operand}{r p e e2:TypeId}{o:TypeDesc}{i:TypeInfo}{b b2 n:Nat}{xs:List FV}{z u:Bool}(B:AU E.Γ L s=some (.vec b n 0 n))(I:hget H b=some (.vec e (cells l) n z))
 (A:AU E.Γ L x=some (.vec b2 1 0 1)) (m:hget H b2=some (.vec e2 xs 1 u)) (f:xs=Enc.enc a) (C:l.length=n) (y:E.P.underlying r=some (.slice e)) (g:E.P.underlying p=some o) (G:∀k,o≠.int k) (F:E.P.info? e=some i)
 (h:Enc.size α=i.size) (d:Ey i=true) (K:0<i.size) (j:i.bytes<1000000) (c:l.length<1000000) {H':Vm.Heap} (J:hput H b (.vec e (cells (l++[a])) (l.length+1) z)=H') (q:Q (.vec b (l.length+1) 0 (l.length+1)) H' nx) :
 Aa E true ⟨dst,.call { callee:=.builtin .append,args:=#[s,x],argTypes:=#[r,p] },ty,pos,af,gd⟩ L H nx Q:=by
 subst J;exact Aa.Dn B I A m f C y g G F h d K j c q
end
end Go.Vm
namespace Go.Proofs.YtnjkoebfgcbbdaaGreatDoor
open Go Go.Am Go.Vm Go.Pie
attribute [local irreducible] Aa Aj Ag Ad AL Ak Bd BL Bl Ai Vm.Done BD AO
attribute [local irreducible] CJ Bf Eb DW EF A8
theorem a5a(l:List Int)(q:l.length<1000000):Ak env 79 [.lst 3 (cells l) l.length] (.p (.int .i64 (Ti l))):=by
 obtain⟨E,o⟩:∃E,E=Y2 l 0:=⟨_,rfl⟩
 unfold Ti;rw[← o];refine Ak.enter (Af (by decide)) Tryz.func79 rfl (by kernel_rfl) (by simp[Tryz.ntmps79]) ?_;by_cases j:l.length<2
 ·rw[if_pos j]
  repeat' (first|refine go1 ?_|(apply Ad.Au;rfl)|(intro _;try(exfalso;omega)))
  all_goals first|(exfalso;omega)|(refine Done.rt rfl rfl ⟨?_,rfl,rfl⟩;try rfl)
 rw[if_neg j];by_cases g:l.length>201
 ·rw[if_pos g]
  repeat' (first|refine go1 ?_|(apply Ad.Au;rfl)|(intro _;try(exfalso;omega)))
  all_goals first|(exfalso;omega)|(refine Done.rt rfl rfl ⟨?_,rfl,rfl⟩;try rfl)
 rw[if_neg g]
 repeat' (first|refine go1 ?_|(apply Ad.Au;rfl)|(intro _;try(exfalso;omega)))
 all_goals try(exfalso;omega)
 apply Ad.H8 (l.length) (fun k=>Y2 l k=E) [(0,_),(2,_),(13,_),(14,_)] [] (fun k r=>(15,.p (.int .i64 (k:Int)))::r) (fun k r=>r) 0
 ·first|omega|decide
 ·first|omega|decide
 ·exact Qb
 ·exact Tt
 ·first|(intro _ _;omega)|omega|trivial
 ·intro k n a
  have e:=oG n;have m:((k:Int)-1).toNat=k-1:=by omega
  have c:0<k→(k:Int)-1=((k-1:Nat):Int):=fun h=>by omega
  by_cases f:gi l k<0∨gi l k>100000
  ·rw[if_pos f] at e
   rw[← a,e]
   repeat' (first|(apply Aa.Ap;rfl;rfl;rfl;omega;rfl)|refine JD ?_|apply Ad.Jh|(apply Aj.guard;rfl;rfl)|(apply Ad.Ac;rfl)|(apply Ad.cond_true;rfl)|(apply Ad.Au;rfl)|(intro _;try(exfalso;omega)))
   all_goals first|(exfalso;omega)|(refine Done.rt rfl rfl ⟨?_,rfl,rfl⟩;try rfl)
  rw[if_neg f] at e;by_cases d:0<k∧gi l k≤gi l (k-1)
  ·rw[if_pos d] at e
   rw[← a,e]
   repeat' (first|(apply Aa.Ap (l:=l) (i:=k-1);rfl;exact congrArg (fun b=>some (PV.p (.int .i64 b))) (c d.1);rfl;omega;rfl)|(apply Aa.Ap;rfl;rfl;rfl;omega;rfl)|refine Jq ?_|apply Ad.Jh|(apply Aj.guard;rfl;rfl)|(apply Aa.int;rfl;rfl;rfl)|(apply Ad.Ac;rfl)|(apply Ad.Au;rfl)|(intro _;try(exfalso;omega)))
   all_goals first|(exfalso;omega)|(refine Done.rt rfl rfl ⟨?_,rfl,rfl⟩;try rfl)
  rw[if_neg d] at e;by_cases s:k=0
  ·repeat' (first|(apply Aa.Ap;rfl;rfl;rfl;omega;rfl)|refine JD ?_|apply Ad.Jh|(apply Aj.guard;rfl;rfl)|(apply Ad.Ac;rfl)|(apply Ad.cond_false;rfl)|(apply Ad.Au;rfl)|(intro _;try(exfalso;omega)))
   all_goals try(exfalso;omega)
   refine Ai.normal ⟨(e.symm.trans a),by first|omega|decide,?_,?_⟩
   ·exact Du
   ·exact Ec
  ·repeat' (first|(apply Aa.Ap (l:=l) (i:=k-1);rfl;exact congrArg (fun b=>some (PV.p (.int .i64 b))) (c (by omega));rfl;omega;rfl)|(apply Aa.Ap;rfl;rfl;rfl;omega;rfl)|refine Jq ?_|apply Ad.Jh|(apply Aj.guard;rfl;rfl)|(apply Aa.int;rfl;rfl;rfl)|(apply Ad.Ac;rfl)|(apply Ad.Au;rfl)|(intro _;try(exfalso;omega)))
   all_goals try(exfalso;omega)
   refine Ai.normal ⟨(e.symm.trans a),by first|omega|decide,?_,?_⟩
   ·exact Du
   ·exact Ec
 ·intro a
  rw[b0c] at a;rw[← a]
  repeat' (first|refine go1 ?_|(apply Ad.Ac;rfl)|(intro _;try(exfalso;omega)))
  all_goals first|(exfalso;omega)|(refine Done.rt rfl rfl ⟨?_,rfl,rfl⟩;try rfl)
theorem V9(p:Fe)(d:0<p.bars.length)(c:p.bars.length<1000000):Ak env 47 [.agg (Enc.enc p)] (.D5 [.p (.int .i64 (Nr p)),.p (.int .i64 (NG p))]):=by
 have a:(p.bars.length:Int)-1=((p.bars.length-1:Nat):Int):=by omega
 refine Ak.enter (Af (by decide)) Tryz.func47 rfl (by kernel_rfl) (by simp) ?_
 repeat' (first|(apply Aa.Ap (l:=p.bars) (i:=p.bars.length-1);rfl;exact congrArg (fun b=>some (PV.p (.int .i64 b))) a;rfl;omega;rfl)|(apply Aa.Ap (l:=p.bars) (i:=0);rfl;rfl;rfl;omega;rfl)|refine Jq ?_|fail)
 all_goals first|(omega)|(refine Done.rt rfl rfl ⟨?_,rfl,rfl⟩;try rfl)
abbrev a6p(n:Me):HB:=.box 39 ((Enc.enc n).map .p)
theorem b9c(f:FuncId)(n:Me)(l:List Me)(z:Bool)(P:Nat→Bool)(j:l.length<1000000)(i:∀k,D7 env f ([.p (.agg (Enc.enc (gi l k)))]++[.ref 0 0]) [(0,a6p n)] 1 (.bool (P k))) :
 D7 env 116 [.vec 1 l.length 0 l.length,.clo f [] [.ref 0 0]] [(0,a6p n),(1,.vec 39 (cells l) l.length z)] 2 (.int .i64 (Ej P l.length)):=by
 refine D7.enter (Af (by decide)) Tryz.func116 rfl (by kernel_rfl) (by simp[Tryz.ntmps116]) ?_
 repeat' (first|(apply Aa.lenV;rfl;rfl;rfl)|refine go2 ?_|fail)
 all_goals try(exfalso;omega)
 apply Ad.H8 (l.length) (fun k=>Yh P l.length (l.length-k)=Ej P l.length) [(0,_),(1,_),(7,_)] [(0,_),(1,_)] (fun k r=>(8,.p (.int .i64 (k:Int)))::r) (fun k r=>r) 2
 ·first|omega|decide
 ·first|omega|decide
 ·exact Qb
 ·exact Tt
 ·first|(intro _ _;omega)|omega|trivial
 ·intro k h b
  have c:=i k;by_cases d:P k=true
  ·rw[d] at c
   have g:Ej P l.length=(k:Int):=by rw[← b,Y8 h d]
   rw[g]
   repeat' (first|(apply Aa.read [0] c;rfl;rfl;exact .of_eq rfl;exact CV.AA rfl;exact Dk rfl;(repeat(first|exact trivial|refine⟨⟨_,rfl,.of_eq rfl⟩,?_⟩));decide;(intro _ e;simp at e<;>omega);rfl)|(apply Aa.DV;rfl;rfl;rfl;rfl;omega)|refine go2 ?_|(apply Aa.int;rfl;rfl;rfl)|(apply Ad.Ac;rfl)|(apply Ad.cond_true;rfl)|(intro _;try(exfalso;omega)))
   all_goals first|(exfalso;omega)|contradiction|(refine Done.ret rfl (.refl _) trivial ?_ (by omega) (ab _) ⟨?_,rfl,rfl⟩;exact Ec;try rfl)
  ·have a:P k=false:=by simpa using d
   rw[a] at c
   repeat' (first|(apply Aa.read [0] c;rfl;rfl;exact .of_eq rfl;exact CV.AA rfl;exact Dk rfl;(repeat(first|exact trivial|refine⟨⟨_,rfl,.of_eq rfl⟩,?_⟩));decide;(intro _ e;simp at e<;>omega);rfl)|(apply Aa.DV;rfl;rfl;rfl;rfl;omega)|refine go2 ?_|(apply Aa.int;rfl;rfl;rfl)|(apply Ad.Ac;rfl)|(apply Ad.cond_false;rfl)|(intro _;try(exfalso;omega)))
   all_goals try(exfalso;omega)
   all_goals try contradiction
   refine Ai.normal ⟨((U6 h a).symm.trans b),by first|omega|decide,?_,?_⟩
   ·exact Du
   ·exact Ec
 ·intro b
  have g:Ej P l.length=-1:=by rw[← b,cG];rfl
  rw[g]
  repeat' (first|refine go1 ?_|(apply Ad.Ac;rfl)|(intro _;try(exfalso;omega)))
  all_goals first|(exfalso;omega)|(refine Done.ret rfl (.refl _) trivial ?_ (by omega) (ab _) ⟨?_,rfl,rfl⟩;exact Ec;try rfl)
theorem zC{α:Type}[Inhabited α](f:α→Bool)(l:List α):decide (0≤Ej (fun k=>f (gi l k)) l.length)=l.any f:=by
 rw[eh,decide_eq_true_iff,List.any_eq_true];constructor
 ·intro h
  have c:=uT (P:=fun k=>f (gi l k)) l.length (ab _) h;have g:=(nX (fun k=>f (gi l k)) l.length l.length (ab _)).2;refine⟨_,?_,c⟩;have e:Yh (fun k=>f (gi l k)) l.length l.length=Ej (fun k=>f (gi l k)) l.length:=rfl;generalize Yh (fun k=>f (gi l k)) l.length l.length=u at *;unfold gi;grind
 ·rintro⟨x,a,d⟩
  obtain⟨k,b,rfl⟩:=bR.1 a;refine rC (P:=fun k=>f (gi l k)) (k:=k) ?_ l.length (ab _) (by omega) b;unfold gi;grind
theorem a2t(f:FuncId)(n:Me)(l:List Me)(z:Bool)(g:Me→Bool)(a:l.length<1000000)(d:∀m,D7 env f ([.p (.agg (Enc.enc m))]++[.ref 0 0]) [(0,a6p n)] 1 (.bool (g m))) :
 D7 env 71 [.vec 1 l.length 0 l.length,.clo f [] [.ref 0 0]] [(0,a6p n),(1,.vec 39 (cells l) l.length z)] 2 (.bool (l.any g)):=by
 have b:=b9c f n l z (fun k=>g (gi l k)) a (fun k=>d _);rw[← zC g l];generalize Ej (fun k=>g (gi l k)) l.length=F at *;refine D7.enter (Af (by decide)) Tryz.func71 rfl (by kernel_rfl) (by simp) ?_
 repeat' (first|(apply Aa.read [0,1] b;rfl;rfl;exact .of_eq rfl;exact CV.AA rfl;exact Dk rfl;(repeat(first|exact trivial|refine⟨⟨_,rfl,.of_eq rfl⟩,?_⟩));decide;(intro _ c;simp at c<;>omega);rfl)|refine go2 ?_|(apply Aa.int;rfl;rfl;rfl))
 all_goals first|(exfalso;omega)|(refine Done.ret rfl (.refl _) trivial ?_ (by omega) (ab _) ⟨?_,rfl,rfl⟩;exact Ec;try rfl)
def clash(n m:Me):Bool:=decide (n.s<m.e)&&decide (m.s<n.e)
theorem zx(n m:Me):D7 env 122 ([.p (.agg (Enc.enc m))]++[.ref 0 0]) [(0,a6p n)] 1 (.bool (clash n m)):=by
 unfold clash;refine D7.enter (Af (by decide)) Tryz.func122 rfl (by kernel_rfl) (by simp[Tryz.ntmps122]) ?_;by_cases a:n.s<m.e
 ·rw[decide_eq_true a,cI]
  repeat' (first|refine JD ?_|(apply Aj.guard;rfl;rfl)|(intro _;try(exfalso;omega)))
  all_goals first|(exfalso;omega)|contradiction|(refine Done.ret rfl (.refl _) trivial ?_ (by omega) (ab _) ⟨?_,rfl,rfl⟩;exact Ec;try rfl)
 ·rw[decide_eq_false a,cU]
  repeat' (first|refine JD ?_|(apply Aj.guard;rfl;rfl)|(intro _;try(exfalso;omega)))
  all_goals first|(exfalso;omega)|contradiction|(refine Done.ret rfl (.refl _) trivial ?_ (by omega) (ab _) ⟨?_,rfl,rfl⟩;exact Ec;try rfl)
end Go.Proofs.YtnjkoebfgcbbdaaGreatDoor
namespace Go.Proofs.YtnjkoebfgcbbdaaGreatDoor
open Go Go.Am Go.Vm Go.Pie
abbrev Grp:=List ((Int×Int)×List Me)
def NS(n:Me):Int×Int:=(n.d,n.k)
def a4m(gs:Grp)(n:Me):Grp:=CB gs (NS n) ((BZ gs (NS n)).getD []++[n])
def QM(l:List Me):Nat→Grp
 |0=>[]
 |k+1=>a4m (QM l k) (gi l k)
def l7(gs:Grp)(i:Nat):List Me:=((gs[i]?).map (·.2)).getD []
def Uj(s:Nat):Grp→List ((Int×Int)×PV)
 |[]=>[]
 |x::gs=>(x.1,.vec s x.2.length 0 x.2.length)::Uj (s+1) gs
def tlG(gs:Grp)(j:Nat):HB:=.vec 39 (cells (l7 gs j)) (l7 gs j).length true
theorem Xx:∀{s:Nat} {gs:Grp} {a:Int×Int},BZ (Uj s gs) a=(BZ gs a).map fun l=>.vec (s+FZ gs a) l.length 0 l.length
 |s,[],a=>rfl
 |s,x::gs,a=>by
  unfold Uj BZ FZ;by_cases h:a=x.1
  ·grind
  ·rw[Xx]
   grind
theorem tC:∀{s:Nat} {gs:Grp} {a:Int×Int} {l:List Me},CB (Uj s gs) a (.vec (s+FZ gs a) l.length 0 l.length)=Uj s (CB gs a l)
 |s,[],a,l=>rfl
 |s,x::gs,a,l=>by
  unfold Uj CB FZ;by_cases h:a=x.1
  ·grind
  ·simp only[if_neg h,Uj]
   rw[show s+(FZ gs a+1)=s+1+FZ gs a by omega,tC]
theorem QB:∀{gs:Grp} {a:Int×Int},l7 gs (FZ gs a)=(BZ gs a).getD []
 |[],a=>rfl
 |x::gs,a=>by
  unfold FZ BZ;by_cases h:a=x.1
  ·simp only[if_pos h];rfl
  ·simp only[if_neg h]
   exact QB (gs:=gs)
theorem qB:∀{gs:Grp} {a:Int×Int} {l:List Me} {j:Nat},l7 (CB gs a l) j=if j=FZ gs a then l else l7 gs j
 |[],a,l,j=>by
  match j with
  |0=>rfl
  |j+1=>rfl
 |x::gs,a,l,j=>by
  unfold CB FZ;by_cases h:a=x.1
  ·simp only[if_pos h]
   match j with
   |0=>rfl
   |j+1=>rfl
  ·simp only[if_neg h]
   match j with
   |0=>rfl
   |j+1 =>
    have:=qB (gs:=gs) (a:=a) (l:=l) (j:=j);simp only[Nat.add_right_cancel_iff];exact this
theorem XO{α β:Type}[DecidableEq α]:∀{es:List (α×β)} {a:α} {b:β},(CB es a b).length≤es.length+1
 |[],a,b=>by simp[CB]
 |x::es,a,b=>by
  unfold CB;split
  ·simp
  ·have:=XO (es:=es) (a:=a) (b:=b)
   grind
theorem WY(l:List Me):∀k,(QM l k).length≤k
 |0=>ab _
 |k+1=>by
  have:=WY l k;have:=XO (es:=QM l k) (a:=NS (gi l k)) (b:=(BZ (QM l k) (NS (gi l k))).getD []++[gi l k]);show(CB _ _ _).length≤_;omega
theorem ku{α β:Type}[DecidableEq α]:∀{es:List (α×β)} {a c:α} {b:β},BZ (CB es a b) c=if c=a then some b else BZ es c
 |[],a,c,b=>rfl
 |x::es,a,c,b=>by
  unfold CB;by_cases h:a=x.1
  ·unfold BZ
   grind
  ·rw[if_neg h]
   unfold BZ;by_cases d:c=x.1
   ·grind
   ·rw[if_neg d,if_neg d,ku]
theorem WH(l:List Me)(c:Int×Int):∀k,k≤l.length→(BZ (QM l k) c).getD []=(l.take k).filter fun m=>decide (NS m=c)
 |0,_=>rfl
 |k+1,hk=>by
  have a:=WH l c k (by omega);have b:l.take (k+1)=l.take k++[gi l k]:=by
   rw[List.take_add_one];unfold gi;grind
  show(BZ (CB _ _ _) c).getD []=_;rw[ku];grind
theorem a4u(l:List Me)(n:Me)(k:Nat)(a:k≤l.length):((BZ (QM l k) (NS n)).getD []).any (clash n)=(l.take k).any fun m=>kM m n:=by
 rw[WH l (NS n) k a,List.any_filter];congr 1
 funext m
 unfold clash kM NS;by_cases g:m.d=n.d<;>by_cases f:m.k=n.k<;>by_cases c:n.s<m.e<;>by_cases b:m.s<n.e<;>simp[g,f,c,b]
def kfC(a:Int×Int):List FV:=[.int .i64 a.1,.int .i64 a.2]
def kvC(a:Int×Int):List Value:=[.int .i64 a.1,.int .i64 a.2]
theorem oV:IsKey Tryz.prog 120 kfC kvC:=by
 obtain⟨d,e⟩:∃d,Tryz.prog.underlying 120=some (.struct d):=⟨_,rfl⟩
 refine IsKey.of_struct e (by kernel_rfl) (fun a=>rfl) (fun a b=>?_) (fun a=>?_)
 ·have c:some (TypeDesc.struct d)=Tryz.prog.underlying 120:=e.symm
  cases c;show some (decide (a.1=b.1)&&(decide (a.2=b.2)&&true))=_;obtain⟨i,h⟩:=a;obtain⟨b1,b2⟩:=b;by_cases g:i=b1<;>by_cases f:h=b2<;>simp[g,f]
 ·have c:some (TypeDesc.struct d)=Tryz.prog.underlying 120:=e.symm
  cases c;rfl
theorem kN{k:Nat}:∀{s:Nat} {gs:Grp},s+gs.length≤k→CV.under k ((Uj s gs).map (·.2))
 |s,[],_=>trivial
 |s,x::gs,h=>by
  simp only[List.length_cons] at h;exact⟨by show s<k;omega,kN (s:=s+1) (gs:=gs) (by omega)⟩
theorem xG{E:Env}{H:Heap}{nx s:Nat}{gs:Grp}{a:Int×Int}{g:List Me}{i:Nat}(d:i=FZ gs a)(b:g=l7 gs i)(c:hget H (s+i)=some (.vec 39 (cells g) g.length true)):LZ E H nx (Uj s gs) a Df (.vec (s+i) g.length 0 g.length):=by
 subst d;subst b;have e:=QB (gs:=gs) (a:=a);cases hl:BZ gs a with
 |some l =>
  rw[e];exact .inl (by rw[Xx,hl];rfl)
 |none =>
  rw[hl] at e;rw[e] at c ⊢;exact LZ.c1l (by rw[Xx,hl];rfl) c
theorem b6q{s:Nat}{gs:Grp}{n:Me}{g:List Me}{i:Nat}(b:i=FZ gs (NS n))(a:g=l7 gs i):CB (Uj s gs) (NS n) (.vec (s+i) (g.length+1) 0 (g.length+1))=Uj s (a4m gs n):=by
 subst b;subst a;unfold a4m;rw[← tC,QB];simp
theorem c0y{gs:Grp}{n:Me}{g:List Me}{i:Nat}(b:i=FZ gs (NS n))(a:g=l7 gs i)(j:Nat):(if j=i then .vec 39 (cells (g++[n])) (g.length+1) true else tlG gs j)=tlG (a4m gs n) j:=by
 subst b;subst a;unfold tlG a4m;rw[qB];by_cases h:j=FZ gs (NS n)
 ·rw[if_pos h,if_pos h,QB]
  simp
 grind
attribute [local irreducible] Aa Aj Ag Ad AL Ak Bd BL Bl Ai Vm.Done BD AO CJ Bf Eb DW EF A8 Cj
def b3z(o:FQ)(p:Fe)(G:Grp):Heap:=(2,WJ kfC (Uj 3 G))::(1,.box 32 ((Enc.enc p).map .p))::(0,.box 27 ((Enc.enc o).map .p))::Cj 3 1000 (tlG G)
theorem yV(o:FQ)(p:Fe)(O:Yo p)(M:2≤p.bars.length)(Z:o.Ae.length<1000000):Ak env 80 [.agg (Enc.enc o),.agg (Enc.enc p)] (.p (.int .i64 (if p.notes.length>1000 then 4 else Ih o (Nr p) (NG p) p.notes 0))):=by
 have b1:=O.notes;have F:=V9 p (by omega) O.bars;refine Ak.enter (Af (by decide)) Tryz.func80 rfl (by kernel_rfl) (by simp[Tryz.ntmps80]) ?_;by_cases V:p.notes.length>1000
 ·rw[if_pos V]
  repeat' (first|refine JD ?_|(apply Ad.Ac;rfl)|(intro _;try(exfalso;omega)))
  all_goals first|(exfalso;omega)|(refine Done.rt rfl rfl ⟨?_,rfl,rfl⟩;try rfl)
 rw[if_neg V];obtain⟨E,R⟩:∃E,E=Ih o (Nr p) (NG p) p.notes 0:=⟨_,rfl⟩
 rw[← R]
 repeat' (first|(apply Aa.fn;rfl;rfl;exact F;intro _;rfl)|(apply Aa.aA)|refine go2 ?_|(apply Aa.int;rfl;rfl;rfl)|(apply Ad.Ac;rfl)|(intro _;try(exfalso;omega)))
 all_goals try(exfalso;omega)
 refine Ad.ghost (Aq.b2d 39 1000 (Ot (by decide) (Ot (by decide) (Ot (by decide) a0t)))) ?_;apply Ad.H8 (p.notes.length) (fun k=>Ih o (Nr p) (NG p) p.notes k=E) [(2,_),(3,_),(5,_),(6,_),(7,_),(23,_),(24,_)] [] (fun k r=>(25,.p (.int .i64 (k:Int)))::r) (fun k _=>b3z o p (QM p.notes k)) 1003
 ·first|omega|decide
 ·first|omega|decide
 ·exact Qb
 ·refine⟨⟨Ba rfl,trivial,_,rfl,.refl _⟩,⟨Ba rfl,CV.Bg _ _,_,rfl,.refl _⟩,⟨Ba rfl,CV.Bg _ _,_,rfl,.refl _⟩,BF.tail (fun j u=>?_) (by omega) (fun j u=>trivial)⟩
  refine CO (by omega) (CO (by omega) (CO (by omega) ?_));exact Hu u
 ·exact R.symm
 ·intro k W hi
  have e:=Wx (o:=o) (a:=Nr p) (z:=NG p) W;have B:=a4u p.notes (gi p.notes k) k (by omega);have Y:=WY p.notes k;have N:=WY p.notes (k+1);have J:=WH p.notes (NS (gi p.notes k)) k (by omega);have K:a4m (QM p.notes k) (gi p.notes k)=QM p.notes (k+1):=rfl;unfold VB at e;generalize QM p.notes k=G at *;obtain⟨i,b⟩:∃i,i=FZ G (NS (gi p.notes k)):=⟨_,rfl⟩
  obtain⟨g,n⟩:∃g,g=l7 G i:=⟨_,rfl⟩
  have x:i<1000:=by have:=(jr (es:=G) (a:=NS (gi p.notes k))).1;omega
  have c:hget (b3z o p G) (3+i)=some (.vec 39 (cells g) g.length true):=CO (by omega) (CO (by omega) (CO (by omega) (by rw[Hu x,n];rfl)));have C:∀y,hput (b3z o p G) (3+i) y=(2,WJ kfC (Uj 3 G))::(1,.box 32 ((Enc.enc p).map .p))::(0,.box 27 ((Enc.enc o).map .p))::Cj 3 1000 (fun j=>if j=i then y else tlG G j):=fun y=>Om (by omega) (Om (by omega) (Om (by omega) (Wq x)))
  have A:g=(BZ G (NS (gi p.notes k))).getD []:=by rw[n,b,QB]
  have X:g.length≤k:=by
   rw[A,J];exact am (dt _ _) (by rw[ar];omega)
  rw[← A] at B;have f:=a2t 122 (gi p.notes k) g true (clash (gi p.notes k)) (by omega) (zx (gi p.notes k));rw[B] at f;by_cases U:(gi p.notes k).d<0∨(gi p.notes k).d≥o.Ae.length
  ·rw[if_pos U,if_pos (by decide)] at e
   rw[← hi,e]
   repeat' (first|(apply Aa.Ap;rfl;rfl;rfl;omega;rfl)|refine JD ?_|(apply Aj.guard;rfl;rfl)|(apply Ad.AV;rfl)|(apply Ad.Ac;rfl)|(intro _;try(exfalso;omega)))
   all_goals first|(exfalso;omega)|(refine Done.rt rfl rfl ⟨?_,rfl,rfl⟩;try rfl)
  rw[if_neg U] at e;by_cases M:(gi p.notes k).k<(gi o.Ae (gi p.notes k).d.toNat).lo∨(gi p.notes k).k>(gi o.Ae (gi p.notes k).d.toNat).hi
  ·rw[if_pos M,if_pos (by decide)] at e
   rw[← hi,e]
   repeat' (first|(apply Aa.Ap;rfl;rfl;rfl;omega;rfl)|(apply Aa.Ph;rfl;rfl;rfl;omega;omega;rfl)|refine JD ?_|(apply Aj.guard;rfl;rfl)|(apply Aa.build;rfl;rfl;rfl;rfl;rfl)|(apply Ad.Ac;rfl)|(apply Ad.cond_true;rfl)|(apply Ad.Au;rfl)|(intro _;try(exfalso;omega)))
   all_goals first|(exfalso;omega)|(refine Done.rt rfl rfl ⟨?_,rfl,rfl⟩;try rfl)
  rw[if_neg M] at e;by_cases T:(gi p.notes k).s<Nr p∨(gi p.notes k).e>NG p
  ·rw[if_pos T,if_pos (by decide)] at e
   rw[← hi,e]
   repeat' (first|(apply Aa.Ap;rfl;rfl;rfl;omega;rfl)|(apply Aa.Ph;rfl;rfl;rfl;omega;omega;rfl)|refine JD ?_|(apply Aj.guard;rfl;rfl)|(apply Aa.build;rfl;rfl;rfl;rfl;rfl)|(apply Ad.Ac;rfl)|(apply Ad.cond_true;rfl)|(apply Ad.Au;rfl)|(intro _;try(exfalso;omega)))
   all_goals first|(exfalso;omega)|(refine Done.rt rfl rfl ⟨?_,rfl,rfl⟩;try rfl)
  rw[if_neg T] at e;by_cases S:(gi p.notes k).s≥(gi p.notes k).e
  ·rw[if_pos S,if_pos (by decide)] at e
   rw[← hi,e]
   repeat' (first|(apply Aa.Ap;rfl;rfl;rfl;omega;rfl)|(apply Aa.Ph;rfl;rfl;rfl;omega;omega;rfl)|refine JD ?_|(apply Aj.guard;rfl;rfl)|(apply Aa.build;rfl;rfl;rfl;rfl;rfl)|(apply Ad.Ac;rfl)|(apply Ad.Au;rfl)|(intro _;try(exfalso;omega)))
   all_goals first|(exfalso;omega)|(refine Done.rt rfl rfl ⟨?_,rfl,rfl⟩;try rfl)
  rw[if_neg S] at e;by_cases q:(p.notes.take k).any (fun m=>kM m (gi p.notes k))=true
  ·rw[if_pos q,if_pos (by decide)] at e
   rw[q] at f;rw[← hi,e]
   repeat' (first|(apply Aa.a2p (a:=NS (gi p.notes k)) (z:=Df) oV;rfl;rfl;rfl;rfl;rfl;rfl;exact xG b n (by(repeat(first|exact c|(refine En (by omega) ?_)|(refine CO (by omega) ?_)))))|(apply Aa.b8d [1003,3+i] f;rfl;rfl;exact .of_eq rfl;exact CV.AA rfl;exact Dk rfl;exact⟨rfl,(show hget _ (3+i)=some (HB.vec 39 (cells g) g.length true) from by(repeat(first|exact c|(refine En (by omega) ?_)|(refine CO (by omega) ?_)))),trivial⟩;rfl;(simp;omega);(intro _ I;simp at I;omega))|(apply Aa.makeFunc;rfl;rfl)|(apply Aa.Ap;rfl;rfl;rfl;omega;rfl)|(apply Aa.Ph;rfl;rfl;rfl;omega;omega;rfl)|refine Jq ?_|(apply Aj.guard;rfl;rfl)|(apply Aa.int;rfl;rfl;rfl)|(apply Aa.build;rfl;rfl;rfl;rfl;rfl)|(apply Ad.Ac;rfl)|(apply Ad.cond_true;rfl)|(apply Ad.Au;rfl)|(intro _;try(exfalso;omega)))
   all_goals first|(exfalso;omega)|(refine Done.rt rfl rfl ⟨?_,rfl,rfl⟩;try rfl)
  have q:(p.notes.take k).any (fun m=>kM m (gi p.notes k))=false:=by simpa using q
  rw[q,if_neg (by decide)] at e;rw[q] at f
  repeat' (first|(apply Aa.a2p (a:=NS (gi p.notes k)) (z:=Df) oV;rfl;rfl;rfl;rfl;rfl;rfl;exact xG b n (by(repeat(first|exact c|(refine En (by omega) ?_)|(refine CO (by omega) ?_)))))|(apply Aa.b8d [1003,3+i] f;rfl;rfl;exact .of_eq rfl;exact CV.AA rfl;exact Dk rfl;exact⟨rfl,(show hget _ (3+i)=some (HB.vec 39 (cells g) g.length true) from by(repeat(first|exact c|(refine En (by omega) ?_)|(refine CO (by omega) ?_)))),trivial⟩;rfl;(simp;omega);(intro _ I;simp at I;omega))|(apply Aa.makeFunc;rfl;rfl)|(apply Aa.c2k (a:=NS (gi p.notes k)) (es:=Uj 3 G) (z:=Df) oV;rfl;rfl;rfl;rfl;rfl;rfl;exact xG b n (by(repeat(first|exact c|(refine En (by omega) ?_)|(refine CO (by omega) ?_))));rfl)|(apply Aa.sK (l:=g) (a:=gi p.notes k);rfl;((repeat(first|exact c|(refine En (by omega) ?_)|(refine CO (by omega) ?_))));rfl;rfl;rfl;rfl;rfl;rfl;(intro _ h;cases h);rfl;rfl;rfl;decide;decide;omega;((repeat(first|exact C _|(apply YB;omega)|(apply Om;omega)))))|(apply Aa.a5b (a:=NS (gi p.notes k)) (es:=Uj 3 G) oV;rfl;rfl;rfl;rfl;rfl)|(apply Aa.Ap;rfl;rfl;rfl;omega;rfl)|(apply Aa.Ph;rfl;rfl;rfl;omega;omega;rfl)|refine Jq ?_|(apply Aj.guard;rfl;rfl)|(apply Aa.int;rfl;rfl;rfl)|(apply Aa.build;rfl;rfl;rfl;rfl;rfl)|(apply Aa.buildSlice;rfl;rfl;rfl;decide;rfl;rfl;rfl)|(apply Ad.Ac;rfl)|(apply Ad.cond_false;rfl)|(apply Ad.Au;rfl)|(intro _;try(exfalso;omega)))
  all_goals try(exfalso;omega)
  refine Ai.normal ⟨e.symm.trans hi,by first|omega|decide,?_,?_⟩
  ·exact Du
  ·show BF 1003 (b3z o p (QM p.notes (k+1))) _
   rw[← K] at N ⊢;refine⟨⟨Ba rfl,kN (by omega),_,rfl,.of_eq (congrArg (WJ kfC) (b6q b n))⟩,⟨Ba rfl,CV.Bg _ _,_,rfl,.refl _⟩,⟨Ba rfl,CV.Bg _ _,_,rfl,.refl _⟩,BF.tail (fun j u=>?_) (by omega) (fun j u=>trivial)⟩;repeat(first|(refine En (by omega) ?_)|(refine CO (by omega) ?_))
   rw[Hu u];exact congrArg some (c0y b n j)
 ·intro hi
  rw[zS] at hi;rw[← hi]
  repeat' (first|refine go1 ?_|(apply Ad.Ac;rfl)|(intro _;try(exfalso;omega)))
  all_goals first|(exfalso;omega)|(refine Done.rt rfl rfl ⟨?_,rfl,rfl⟩;try rfl)
end Go.Proofs.YtnjkoebfgcbbdaaGreatDoor
namespace Go.Proofs.YtnjkoebfgcbbdaaGreatDoor
open Go Go.Am Go.Vm Go.Pie
attribute [local irreducible] Aa Aj Ag Ad AL Ak Bd BL Bl Ai Vm.Done BD AO
attribute [local irreducible] CJ Bf Eb DW EF A8
theorem a5s(o:FQ)(b:WO o)(r:Rgs)(c:r.Ok):Ak env 81 [.agg (Enc.enc o),.agg (Enc.enc r)] (.p (.int .i64 (WL o r))):=by
 have x:=b.Ae;have u:=b.I8;have B:=c.cp;have A:=c.off;have z:=c.len;have e:=YA o b.sm;rw[b.err] at e;refine Ak.enter (Af (by decide)) Tryz.func81 rfl (by kernel_rfl) (by simp[Tryz.ntmps81]) ?_;by_cases g:r.stops.length=o.Ae.length
 case neg =>
  rw[a9r g]
  repeat' (first|(apply Aa.fn;rfl;rfl;exact e;intro _;rfl)|refine go2 ?_|(apply Aa.int;rfl;rfl;rfl)|(apply Ad.Ah;rfl)|(apply Ad.Ac;rfl)|(intro _;try(exfalso;omega)))
  all_goals first|(exfalso;omega)|contradiction|(refine Done.rt rfl rfl ⟨?_,rfl,rfl⟩;try rfl)
 by_cases d:∀i,i<r.stops.length→gi r.stops i / 2^(gi o.Ae i).stops.length=0
 case neg =>
  obtain⟨i,f⟩:=du.1 d;obtain⟨f,l⟩:=Classical.not_imp.1 f;rw[b1e g f l];clear d
  repeat' (first|(apply Aa.fn;rfl;rfl;exact e;intro _;rfl)|refine go2 ?_|(apply Aa.int;rfl;rfl;rfl)|(apply Ad.Ah;rfl)|(apply Ad.Ac;rfl)|(intro _;try(exfalso;omega)))
  all_goals try(exfalso;omega)
  all_goals try contradiction
  apply Ad.H8 (o.Ae.length) (fun k=>∀i,i<k→gi r.stops i / 2^(gi o.Ae i).stops.length=0) [(2,_),(3,_),(21,_),(22,_)] [(0,_),(1,_)] (fun k r=>(23,.p (.int .i64 (k:Int)))::r) (fun k r=>r) 2
  ·first|omega|decide
  ·first|omega|decide
  ·exact Qb
  ·exact Tt
  ·first|(intro _ _;omega)|omega|trivial
  ·intro k n a
   have s3:=b.stops k (by omega);have m:=c.stops k (by omega);by_cases h:gi r.stops k / 2^(gi o.Ae k).stops.length=0
   ·repeat' (first|(apply Aa.Ap;rfl;rfl;rfl;omega;rfl)|refine JD ?_|(apply Aa.oU;rfl;rfl;(simp only[IntKind.bits];omega))|(apply Ad.Ac;rfl)|(apply Ad.Au;rfl)|(intro _;try(exfalso;omega)))
    all_goals try(exfalso;omega)
    all_goals try contradiction
    refine Ai.normal ⟨(all_succ a h),by first|omega|decide,?_,?_⟩
    ·exact Du
    ·exact Ec
   ·repeat' (first|(apply Aa.Ap;rfl;rfl;rfl;omega;rfl)|refine JD ?_|(apply Aa.oU;rfl;rfl;(simp only[IntKind.bits];omega))|(apply Ad.Ac;rfl)|(apply Ad.Au;rfl)|(intro _;try(exfalso;omega)))
    all_goals first|(exfalso;omega)|contradiction|(refine Done.rt rfl rfl ⟨?_,rfl,rfl⟩;try rfl)
  ·intro a
   exact absurd (a i (by omega)) l
 rw[jf g d]
 repeat' (first|(apply Aa.fn;rfl;rfl;exact e;intro _;rfl)|refine go2 ?_|(apply Aa.int;rfl;rfl;rfl)|(apply Ad.Ah;rfl)|(apply Ad.Ac;rfl)|(intro _;try(exfalso;omega)))
 all_goals try(exfalso;omega)
 all_goals try contradiction
 apply Ad.H8 (o.Ae.length) (fun k=>∀i,i<k→gi r.stops i / 2^(gi o.Ae i).stops.length=0) [(2,_),(3,_),(21,_),(22,_)] [(0,_),(1,_)] (fun k r=>(23,.p (.int .i64 (k:Int)))::r) (fun k r=>r) 2
 ·first|omega|decide
 ·first|omega|decide
 ·exact Qb
 ·exact Tt
 ·first|(intro _ _;omega)|omega|trivial
 ·intro k n a
  have s3:=b.stops k (by omega);have m:=c.stops k (by omega);have h:=d k (by omega)
  repeat' (first|(apply Aa.Ap;rfl;rfl;rfl;omega;rfl)|refine JD ?_|(apply Aa.oU;rfl;rfl;(simp only[IntKind.bits];omega))|(apply Ad.Ac;rfl)|(apply Ad.Au;rfl)|(intro _;try(exfalso;omega)))
  all_goals try(exfalso;omega)
  all_goals try contradiction
  refine Ai.normal ⟨(fun j y=>d j (by omega)),by first|omega|decide,?_,?_⟩
  ·exact Du
  ·exact Ec
 ·intro a
  by_cases s:r.cp / 2^o.I8.length=0
  ·by_cases q:r.off / 2^o.Ae.length=0
   ·rw[if_neg (by omega)]
    repeat' (first|refine JD ?_|(apply Aj.guard;rfl;rfl)|(apply Aa.oU;rfl;rfl;(simp only[IntKind.bits];omega))|(apply Ad.Ac;rfl)|(intro _;try(exfalso;omega)))
    all_goals first|(exfalso;omega)|contradiction|(refine Done.rt rfl rfl ⟨?_,rfl,rfl⟩;try rfl)
   ·rw[if_pos (.inr q)]
    repeat' (first|refine JD ?_|(apply Aj.guard;rfl;rfl)|(apply Aa.oU;rfl;rfl;(simp only[IntKind.bits];omega))|(apply Ad.Ac;rfl)|(intro _;try(exfalso;omega)))
    all_goals first|(exfalso;omega)|contradiction|(refine Done.rt rfl rfl ⟨?_,rfl,rfl⟩;try rfl)
  ·rw[if_pos (.inl s)]
   repeat' (first|refine JD ?_|(apply Aj.guard;rfl;rfl)|(apply Aa.oU;rfl;rfl;(simp only[IntKind.bits];omega))|(apply Ad.AV;rfl)|(apply Ad.Ac;rfl)|(intro _;try(exfalso;omega)))
   all_goals first|(exfalso;omega)|contradiction|(refine Done.rt rfl rfl ⟨?_,rfl,rfl⟩;try rfl)
theorem lq{l:List Int}(h:Ti l=0):2≤l.length:=by
 unfold Ti at h;omega
theorem Ns(o:FQ)(p:Fe)(A:Tm o)(m:Yo p):Ak env 31 [.agg (Enc.enc o),.agg (Enc.enc p)] (.p (.int .i64 (Ui o p))):=by
 have f:=YA o A;have g:=a5a p.bars m.bars;have b3:=m.sets;unfold Ui dR;refine Ak.enter (Af (by decide)) Tryz.func31 rfl (by kernel_rfl) (by simp[Tryz.ntmps31]) ?_;by_cases s:VI o=0
 case neg =>
  rw[if_pos s]
  repeat' (first|(apply Aa.fn;rfl;rfl;exact f;intro _;rfl)|refine go2 ?_|(apply Aa.int;rfl;rfl;rfl)|(apply Ad.Ac;rfl)|(intro _;try(exfalso;omega)))
  all_goals first|(exfalso;omega)|contradiction|(refine Done.rt rfl rfl ⟨?_,rfl,rfl⟩;try rfl)
 rw[if_neg (fun h=>h s)];rw[s] at f;have k1:=c0j A s;have K:=k1.Ae;by_cases q:Ti p.bars=0
 case neg =>
  rw[if_pos q]
  repeat' (first|(apply Aa.fn;rfl;rfl;exact f;intro _;rfl)|(apply Aa.fn;rfl;rfl;exact g;intro _;rfl)|refine go2 ?_|(apply Aa.int;rfl;rfl;rfl)|(apply Ad.Ah;rfl)|(apply Ad.Ac;rfl)|(intro _;try(exfalso;omega)))
  all_goals first|(exfalso;omega)|contradiction|(refine Done.rt rfl rfl ⟨?_,rfl,rfl⟩;try rfl)
 rw[if_neg (fun h=>h q)];rw[q] at g;have I:=lq q;have d:=yV o p m I (by omega);by_cases n:p.notes.length>1000
 ·rw[if_pos n] at d
  rw[if_pos n]
  repeat' (first|(apply Aa.fn;rfl;rfl;exact f;intro _;rfl)|(apply Aa.fn;rfl;rfl;exact g;intro _;rfl)|(apply Aa.fn;rfl;rfl;exact d;intro _;rfl)|refine go2 ?_|(apply Aa.int;rfl;rfl;rfl)|(apply Ad.AV;rfl)|(apply Ad.Ah;rfl))
  all_goals first|(exfalso;omega)|contradiction|(refine Done.rt rfl rfl ⟨?_,rfl,rfl⟩;try rfl)
 rw[if_neg n] at d;rw[if_neg n];by_cases z:Ih o (Nr p) (NG p) p.notes 0=0
 case neg =>
  rw[if_pos z]
  repeat' (first|(apply Aa.fn;rfl;rfl;exact f;intro _;rfl)|(apply Aa.fn;rfl;rfl;exact g;intro _;rfl)|(apply Aa.fn;rfl;rfl;exact d;intro _;rfl)|refine go2 ?_|(apply Aa.int;rfl;rfl;rfl)|(apply Ad.Ah;rfl)|(apply Ad.Ac;rfl)|(intro _;try(exfalso;omega)))
  all_goals first|(exfalso;omega)|contradiction|(refine Done.rt rfl rfl ⟨?_,rfl,rfl⟩;try rfl)
 rw[if_neg (fun h=>h z)];rw[z] at d;by_cases F:p.sets.length>100
 ·rw[if_pos F]
  repeat' (first|(apply Aa.fn;rfl;rfl;exact f;intro _;rfl)|(apply Aa.fn;rfl;rfl;exact g;intro _;rfl)|(apply Aa.fn;rfl;rfl;exact d;intro _;rfl)|refine go2 ?_|(apply Aa.int;rfl;rfl;rfl)|(apply Ad.Ah;rfl)|(apply Ad.Ac;rfl)|(intro _;try(exfalso;omega)))
  all_goals first|(exfalso;omega)|contradiction|(refine Done.rt rfl rfl ⟨?_,rfl,rfl⟩;try rfl)
 rw[if_neg F];have b1:=m.bars;obtain⟨E,G⟩:∃E,E=PU o p.bars.length p.sets 0:=⟨_,rfl⟩
 rw[← G]
 repeat' (first|(apply Aa.fn;rfl;rfl;exact f;intro _;rfl)|(apply Aa.fn;rfl;rfl;exact g;intro _;rfl)|(apply Aa.fn;rfl;rfl;exact d;intro _;rfl)|refine go2 ?_|(apply Aa.int;rfl;rfl;rfl)|(apply Ad.Ah;rfl)|(apply Ad.Ac;rfl)|(intro _;try(exfalso;omega)))
 all_goals try(exfalso;omega)
 all_goals try contradiction
 apply Ad.H8 (p.sets.length) (fun k=>PU o p.bars.length p.sets k=E) [(2,_),(3,_),(33,_),(34,_)] [(0,_),(1,_)] (fun k r=>(35,.p (.int .i64 (k:Int)))::r) (fun k r=>r) 2
 ·first|omega|decide
 ·first|omega|decide
 ·exact Qb
 ·exact Tt
 ·first|(intro _ _;omega)|omega|trivial
 ·intro k B c
  have e:=fC (o:=o) (nb:=p.bars.length) B;have j:=a5s o k1 (gi p.sets k).reg (m.reg k B);have a:0<k→(k:Int)-1=((k-1:Nat):Int):=fun h=>by omega
  unfold Ov at e;by_cases C:(gi p.sets k).bar<0∨(gi p.sets k).bar≥(p.bars.length:Int)-1
  ·rw[if_pos C,if_pos (by decide)] at e
   rw[← c,e]
   repeat' (first|(apply Aa.Ap;rfl;rfl;rfl;omega;rfl)|refine JD ?_|(apply Aj.guard;rfl;rfl)|(apply Ad.Ac;rfl)|(apply Ad.cond_true;rfl)|(apply Ad.Au;rfl)|(intro _;try(exfalso;omega)))
   all_goals first|(exfalso;omega)|(refine Done.rt rfl rfl ⟨?_,rfl,rfl⟩;try rfl)
  rw[if_neg C] at e;by_cases y:0<k∧(gi p.sets k).bar=(gi p.sets (k-1)).bar
  ·rw[if_pos y,if_pos (by decide)] at e
   rw[← c,e]
   repeat' (first|(apply Aa.Ap (l:=p.sets) (i:=k-1);rfl;exact congrArg (fun b=>some (PV.p (.int .i64 b))) (a y.1);rfl;omega;rfl)|(apply Aa.Ap;rfl;rfl;rfl;omega;rfl)|refine Jq ?_|(apply Aj.guard;rfl;rfl)|(apply Ag.guard;rfl;rfl)|(apply Aa.int;rfl;rfl;rfl)|(apply Ad.Ac;rfl)|(apply Ad.Au;rfl)|(intro _;try(exfalso;omega)))
   all_goals first|(exfalso;omega)|(refine Done.rt rfl rfl ⟨?_,rfl,rfl⟩;try rfl)
  rw[if_neg y] at e;by_cases x:0<k∧(gi p.sets k).bar<(gi p.sets (k-1)).bar
  ·rw[if_pos x,if_pos (by decide)] at e
   rw[← c,e]
   repeat' (first|(apply Aa.Ap (l:=p.sets) (i:=k-1);rfl;exact congrArg (fun b=>some (PV.p (.int .i64 b))) (a x.1);rfl;omega;rfl)|(apply Aa.Ap;rfl;rfl;rfl;omega;rfl)|refine Jq ?_|(apply Aj.guard;rfl;rfl)|(apply Ag.guard;rfl;rfl)|(apply Aa.int;rfl;rfl;rfl)|(apply Ad.Ac;rfl)|(apply Ad.Au;rfl)|(intro _;try(exfalso;omega)))
   all_goals first|(exfalso;omega)|(refine Done.rt rfl rfl ⟨?_,rfl,rfl⟩;try rfl)
  rw[if_neg x] at e;by_cases u:WL o (gi p.sets k).reg=0
  case neg =>
   rw[if_pos u] at e;rw[← c,e];by_cases J:k=0
   ·repeat' (first|(apply Aa.fn;rfl;rfl;exact j;intro _;rfl)|(apply Aa.Ap;rfl;rfl;rfl;omega;rfl)|refine Jq ?_|(apply Aj.guard;rfl;rfl)|(apply Ag.guard;rfl;rfl)|(apply Aa.int;rfl;rfl;rfl)|(apply Ad.Ac;rfl)|(apply Ad.cond_false;rfl)|(apply Ad.Au;rfl)|(intro _;try(exfalso;omega)))
    all_goals first|(exfalso;omega)|contradiction|(refine Done.rt rfl rfl ⟨?_,rfl,rfl⟩;try rfl)
   ·repeat' (first|(apply Aa.fn;rfl;rfl;exact j;intro _;rfl)|(apply Aa.Ap (l:=p.sets) (i:=k-1);rfl;exact congrArg (fun b=>some (PV.p (.int .i64 b))) (a (by omega));rfl;omega;rfl)|(apply Aa.Ap;rfl;rfl;rfl;omega;rfl)|refine Jq ?_|(apply Aj.guard;rfl;rfl)|(apply Ag.guard;rfl;rfl)|(apply Aa.int;rfl;rfl;rfl)|(apply Ad.Ac;rfl)|(apply Ad.Au;rfl)|(intro _;try(exfalso;omega)))
    all_goals first|(exfalso;omega)|contradiction|(refine Done.rt rfl rfl ⟨?_,rfl,rfl⟩;try rfl)
  rw[if_neg (fun h=>h u)] at e;rw[u] at j;by_cases J:k=0
  ·repeat' (first|(apply Aa.fn;rfl;rfl;exact j;intro _;rfl)|(apply Aa.Ap;rfl;rfl;rfl;omega;rfl)|refine Jq ?_|(apply Aj.guard;rfl;rfl)|(apply Ag.guard;rfl;rfl)|(apply Aa.int;rfl;rfl;rfl)|(apply Ad.Ac;rfl)|(apply Ad.cond_false;rfl)|(apply Ad.Au;rfl)|(intro _;try(exfalso;omega)))
   all_goals try(exfalso;omega)
   all_goals try contradiction
   refine Ai.normal ⟨(e.symm.trans c),by first|omega|decide,?_,?_⟩
   ·exact Du
   ·exact Ec
  ·repeat' (first|(apply Aa.fn;rfl;rfl;exact j;intro _;rfl)|(apply Aa.Ap (l:=p.sets) (i:=k-1);rfl;exact congrArg (fun b=>some (PV.p (.int .i64 b))) (a (by omega));rfl;omega;rfl)|(apply Aa.Ap;rfl;rfl;rfl;omega;rfl)|refine Jq ?_|(apply Aj.guard;rfl;rfl)|(apply Ag.guard;rfl;rfl)|(apply Aa.int;rfl;rfl;rfl)|(apply Ad.Ac;rfl)|(apply Ad.cond_false;rfl)|(apply Ad.Au;rfl)|(intro _;try(exfalso;omega)))
   all_goals try(exfalso;omega)
   all_goals try contradiction
   refine Ai.normal ⟨(e.symm.trans c),by first|omega|decide,?_,?_⟩
   ·exact Du
   ·exact Ec
 ·intro c
  rw[a3h] at c;rw[← c]
  repeat' (first|refine go1 ?_|(apply Ad.Ac;rfl)|(intro _;try(exfalso;omega)))
  all_goals first|(exfalso;omega)|(refine Done.rt rfl rfl ⟨?_,rfl,rfl⟩;try rfl)
noncomputable def atE(o:FQ)(p:Fe)(t:Int):Int:=if Ui o p≠0 then Ui o p else if t<Nr p∨t≥NG p then 3 else 0
theorem a6t{o:FQ}{p:Fe}(h:Ui o p=0):2≤p.bars.length:=by
 unfold Ui dR at h;split at h
 ·omega
 split at h
 ·omega
 rename_i a;exact lq (bx a)
theorem yP(o:FQ)(p:Fe)(f:Tm o)(d:Yo p)(t:Int):Ak env 64 [.agg (Enc.enc o),.agg (Enc.enc p),.int .i64 t] (.p (.int .i64 (atE o p t))):=by
 have b:=Ns o p f d;unfold atE;by_cases c:Ui o p=0
 case neg =>
  rw[if_pos c];refine Ak.enter (Af (by decide)) Tryz.func64 rfl (by kernel_rfl) (by simp[Tryz.ntmps64]) ?_
  repeat' (first|(apply Aa.fn;rfl;rfl;exact b;intro _;rfl)|refine go2 ?_|(apply Aa.int;rfl;rfl;rfl)|(apply Ad.Ac;rfl)|(intro _;try(exfalso;omega)))
  all_goals first|(exfalso;omega)|contradiction|(refine Done.rt rfl rfl ⟨?_,rfl,rfl⟩;try rfl)
 have a:=V9 p (by have:=a6t c;omega) d.bars;rw[if_neg (fun h=>h c)];rw[c] at b;by_cases e:t<Nr p∨t≥NG p
 ·rw[if_pos e]
  refine Ak.enter (Af (by decide)) Tryz.func64 rfl (by kernel_rfl) (by simp[Tryz.ntmps64]) ?_
  repeat' (first|(apply Aa.fn;rfl;rfl;exact b;intro _;rfl)|(apply Aa.fn;rfl;rfl;exact a;intro _;rfl)|refine Jq ?_|(apply Aj.guard;rfl;rfl)|(apply Aa.int;rfl;rfl;rfl)|(apply Ad.AV;rfl)|(apply Ad.Ah;rfl)|(apply Ad.Ac;rfl)|(intro _;try(exfalso;omega)))
  all_goals first|(exfalso;omega)|contradiction|(refine Done.rt rfl rfl ⟨?_,rfl,rfl⟩;try rfl)
 ·rw[if_neg e]
  refine Ak.enter (Af (by decide)) Tryz.func64 rfl (by kernel_rfl) (by simp[Tryz.ntmps64]) ?_
  repeat' (first|(apply Aa.fn;rfl;rfl;exact b;intro _;rfl)|(apply Aa.fn;rfl;rfl;exact a;intro _;rfl)|refine Jq ?_|(apply Aj.guard;rfl;rfl)|(apply Aa.int;rfl;rfl;rfl)|(apply Ad.Ah;rfl)|(apply Ad.Ac;rfl)|(intro _;try(exfalso;omega)))
  all_goals first|(exfalso;omega)|contradiction|(refine Done.rt rfl rfl ⟨?_,rfl,rfl⟩;try rfl)
end Go.Proofs.YtnjkoebfgcbbdaaGreatDoor
namespace Go.Proofs.YtnjkoebfgcbbdaaGreatDoor
open Go Go.Am Go.Vm
attribute [local irreducible] Aa Aj Ag Ad AL Ak Bd BL Bl Ai Vm.Done BD AO
def c3w(o:FQ):Rgs:=⟨List.replicate o.Ae.length 0,0,0⟩
def c4c(o:FQ)(k:Nat):Nat:=2^(gi o.Ae k).stops.length-1
def d2j(o:FQ):Rgs:=⟨b9q (c4c o) (List.replicate o.Ae.length 0) o.Ae.length,2^o.I8.length-1,0⟩
def d2n(r:Rgs)(d s:Nat):Rgs:=⟨r.stops.set d (gi r.stops d ||| 2^s),r.cp,r.off⟩
def c1e(a b:Rgs)(k:Nat):Nat:=gi a.stops k ||| gi b.stops k
def d0f(a b:Rgs):Rgs:=⟨b9q (c1e a b) a.stops a.stops.length,a.cp ||| b.cp,a.off ||| b.off⟩
open Go.Pie
attribute [local irreducible] CJ Bf Eb DW EF A8
def aH(p:Fe)(t:Int)(i:Nat):Bool:=decide ((gi p.notes i).s≤t)&&decide (t<(gi p.notes i).e)
def L9(p:Fe)(t:Int):Nat→List Int
 |0=>[]
 |k+1=>if aH p t k=true then L9 p t k++[(k:Int)] else L9 p t k
def snd(p:Fe)(t:Int):List Int:=L9 p t p.notes.length
theorem QZ(p:Fe)(t:Int):∀k,(L9 p t k).length≤k
 |0=>ab _
 |k+1=>by
  have:=QZ p t k;unfold L9;grind
theorem Yq(p:Fe)(g:Yo p)(t:Int):Bd env 50 [.agg (Enc.enc p),.int .i64 t] 3 (cells (snd p t)) (snd p t).length true:=by
 refine Bd.enter (Af (by decide)) Tryz.func50 rfl (by kernel_rfl) (by simp[Tryz.ntmps50]) ?_;have b1:=g.notes
 repeat' (first|refine go2 ?_|fail)
 all_goals try(exfalso;omega)
 refine Ad.ghost (Aq.adopt 5 3 rfl) ?_;apply Ad.GU (p.notes.length) [(1,_),(9,_),(10,_)] [(0,_)] (fun k r=>(11,.p (.int .i64 (k:Int)))::(5,.vec 1 (L9 p t k).length 0 (L9 p t k).length)::r) (fun k r=>(1,.vec 3 (cells (L9 p t k)) (L9 p t k).length true)::r) 2
 ·first|omega|decide
 ·first|omega|decide
 ·exact Qb
 ·exact Tt
 ·intro k j
  have i:=QZ p t k;have b:L9 p t (k+1)=if aH p t k=true then L9 p t k++[(k:Int)] else L9 p t k:=rfl
  by_cases f:(gi p.notes k).s≤t∧t<(gi p.notes k).e
  ·have d:aH p t k=true:=by unfold aH;rw[decide_eq_true f.1,decide_eq_true f.2];rfl
   rw[if_pos d] at b;have c:(L9 p t (k+1)).length=(L9 p t k).length+1:=by rw[b];simp
   repeat' (first|(apply Aa.Dn (a:=(k:Int));rfl;rfl;rfl;rfl;rfl;rfl;rfl;rfl;(intro _ h;cases h);rfl;rfl;rfl;decide;decide;(first|omega|(simp only[List.length_take,List.length_drop,List.length_append,List.length_singleton,List.length_cons,List.length_nil]<;>omega)))|(apply Aa.Ap;rfl;rfl;rfl;omega;rfl)|refine Jq ?_|(apply Aj.guard;rfl;rfl)|(apply Aa.int;rfl;rfl;rfl)|(apply Aa.buildSlice;rfl;rfl;rfl;decide;rfl;rfl;rfl)|(apply Ad.Ac;rfl)|(apply Ad.Au;rfl)|(intro _;try(exfalso;omega)))
   all_goals try(exfalso;omega)
   refine Ai.normal ⟨by first|omega|decide,?_,?_⟩
   ·try(first|rw[c,b]|rw[c])
    exact Du
   ·first|rw[c,b]|rw[c]
    exact Ec
  ·have d:¬ aH p t k=true:=by
    unfold aH;intro h;rw[cW,decide_eq_true_iff,decide_eq_true_iff] at h;exact f h
   rw[if_neg d] at b
   repeat' (first|(apply Aa.Ap;rfl;rfl;rfl;omega;rfl)|refine JD ?_|(apply Aj.guard;rfl;rfl)|(apply Ad.Ac;rfl)|(apply Ad.cond_false;rfl)|(apply Ad.Au;rfl)|(intro _;try(exfalso;omega)))
   all_goals try(exfalso;omega)
   all_goals
    refine Ai.normal ⟨by first|omega|decide,?_,?_⟩
    ·try(rw[b])
     exact Du
    ·rw[b]
     exact Ec
 ·repeat' (first|refine go1 ?_|(apply Ad.Ac;rfl)|(intro _;try(exfalso;omega)))
  all_goals first|(exfalso;omega)|exact BD.ret rfl rfl rfl rfl
def c6b(p:Fe)(t:Int):Nat→Int
 |0=>-1
 |k+1=>if gi p.bars (gi p.sets k).bar.toNat≤t then(k:Int) else c6b p t k
def wan(p:Fe)(t:Int):Int:=c6b p t p.sets.length
def d5w(o:FQ)(p:Fe)(t:Int):Rgs:=if wan p t<0 then c3w o else(gi p.sets (wan p t).toNat).reg
end Go.Proofs.YtnjkoebfgcbbdaaGreatDoor
namespace Go.Proofs.YtnjkoebfgcbbdaaGreatDoor
open Go Go.Am Go.Vm
attribute [local irreducible] Aa Aj Ag Ad AL Ak Bd BL Bl Ai Vm.Done BD AO
structure FP where
 lo:Nat
 hi:Nat
instance:Enc FP:={ default:=⟨0,0⟩,enc:=fun x=>[.int .u64 (x.lo:Int),.int .u64 (x.hi:Int)],size:=2,len:=fun _=>rfl }
structure FP.Ok(s:FP):Prop where
 lo:s.lo<2^64
 hi:s.hi<2^64
def FP.has(s:FP)(n:Nat):Bool:=if n<64 then s.lo.testBit n else s.hi.testBit (n-64)
def FD(s:FP)(n:Nat):FP:=if n<64 then⟨s.lo ||| 2^n,s.hi⟩ else⟨s.lo,s.hi ||| 2^(n-64)⟩
def Vp(a b:FP):FP:=⟨a.lo ||| b.lo,a.hi ||| b.hi⟩
def b0n(a b:FP):Bool:=decide (a.lo ^^^ (a.lo &&& b.lo)=0)&&decide (a.hi ^^^ (a.hi &&& b.hi)=0)
def Y1(l:List Int):Nat→FP
 |0=>⟨0,0⟩
 |k+1=>FD (Y1 l k) (gi l k).toNat
def oK(a:Nat):Nat→FP
 |0=>⟨0,0⟩
 |k+1=>FD (oK a k) (a+k)
theorem jY(s:FP){n m:Nat}(a:n<128)(b:m<128):(FD s n).has m=(s.has m||decide (m=n)):=by
 unfold FD FP.has;by_cases d:n<64<;>by_cases c:m<64
 ·grind
 ·grind
 ·grind
 grind
theorem Rh{s:FP}(h:s.Ok){n:Nat}(a:n<128):(FD s n).Ok:=by
 unfold FD;split
 ·exact⟨eW h.lo (dz (by omega) (by omega)),h.hi⟩
 ·exact⟨h.lo,eW h.hi (dz (by omega) (by omega))⟩
theorem b4p{a b:FP}(d:a.Ok)(c:b.Ok):(Vp a b).Ok:=⟨eW d.lo c.lo,eW d.hi c.hi⟩
theorem kC(m:Nat):(⟨0,0⟩:FP).has m=false:=by simp[FP.has]
theorem NR:(⟨0,0⟩:FP).Ok:=⟨by simp,by simp⟩
theorem wL(x y:Nat):x ^^^ (x &&& y)=0↔∀i,x.testBit i=true→y.testBit i=true:=by
 constructor
 ·intro h i a
  have:=congrArg (fun z=>Nat.testBit z i) h;grind
 ·intro h
  refine gT fun i=>?_
  grind
theorem a7v{a b:FP}(e:a.Ok):b0n a b=true↔∀m,m<128→a.has m=true→b.has m=true:=by
 have d:∀{x:Nat} {i:Nat},x<2^64→64≤i→x.testBit i=false:=fun f hi=>Nat.testBit_lt_two_pow (ag f (ax (by omega) hi))
 unfold b0n;rw[cW,decide_eq_true_iff,decide_eq_true_iff,wL,wL];constructor
 ·rintro⟨l,k⟩ m j
  unfold FP.has;grind
 ·intro h
  refine⟨fun i hi=>?_,fun i hi=>?_⟩
  ·by_cases c:i<64
   ·have:=h i (by omega)
    simp only[FP.has,if_pos c] at this;grind
   ·rw[d e.lo (by omega)] at hi;grind
  ·by_cases c:i<64
   ·have:=h (64+i) (by omega)
    have g:¬ 64+i<64:=by omega
    simp only[FP.has,if_neg g,Nat.add_sub_cancel_left] at this;grind
   ·rw[d e.hi (by omega)] at hi;grind
theorem Wn{l:List Int}(h:∀i,i<l.length→0≤gi l i∧gi l i≤127):∀k,k≤l.length→(Y1 l k).Ok
 |0,_=>NR
 |k+1,hk=>Rh (Wn h k (by omega)) (by grind)
theorem o7{l:List Int}(h:∀i,i<l.length→0≤gi l i∧gi l i≤127)(m:Nat)(a:m<128):∀k,k≤l.length→(Y1 l k).has m=decide ((m:Int)∈l.take k)
 |0,_=>by simp[Y1,kC]
 |k+1,hk=>by
  have b:=h k (by omega);simp only[Y1];rw[jY _ (by omega) a,o7 h m a k (by omega),Eh (by omega)];grind
theorem oN{a:Nat}:∀k,a+k≤128→(oK a k).Ok
 |0,_=>NR
 |k+1,hk=>Rh (oN k (by omega)) (by omega)
theorem tu{a:Nat}(m:Nat)(b:m<128):∀k,a+k≤128→(oK a k).has m=decide (a≤m∧m<a+k)
 |0,_=>by rw[oK,kC,decide_eq_false (by omega)]
 |k+1,hk=>by
  simp only[oK];rw[jY _ (by omega) b,tu m b k (by omega)];grind
section
variable {E:Env}{L:Vm.Frame}{H:Vm.Heap}{nx:Nat}{Q:PV→Heap→Nat→Prop}{w:Bool}{dst:Option Tmp}{ty:TypeId}{pos:String}{af:Array Edge}{gd:Option (Nat×Bool)}
theorem c5g{t b:TypeId}{x y:Operand}{k':IntKind}{n:Int}(m:Nat)(d:AU E.Γ L x=some (.p (.int .u64 1)))(c:AU E.Γ L y=some (.p (.int k' n)))(a:n=m∧m<64)(q:Q (.p (.int .u64 ((2^m:Nat):Int))) H nx) :
 Aa E w ⟨dst,.binOp .shl t x y b,ty,pos,af,gd⟩ L H nx Q:=by
 obtain⟨rfl,a⟩:=a;exact Aa.lY d c a q
end
theorem wz(n:Int):Ak env 58 [.int .i64 n] (.p (.bool (decide (0≤n∧n≤127)))):=by
 refine Ak.enter (Af (by decide)) Tryz.func58 rfl (by kernel_rfl) (by simp) ?_
 repeat' (first|refine JD ?_|(apply Aj.guard;rfl;rfl)|(intro _))
 all_goals(refine Done.rt rfl rfl ⟨?_,rfl,rfl⟩;grind)
theorem pG(a b:FP)(d:a.Ok)(c:b.Ok):Ak env 111 [.agg (Enc.enc a),.agg (Enc.enc b)] (.p (.agg [.int .u64 ((a.lo ^^^ (a.lo &&& b.lo):Nat):Int),.int .u64 ((a.hi ^^^ (a.hi &&& b.hi):Nat):Int)])):=by
 have f:=d.lo;have e:=d.hi;have b1:=c.lo;have b2:=c.hi;refine Ak.enter (Af (by decide)) Tryz.func111 rfl (by kernel_rfl) (by simp) ?_
 repeat' (first|refine Jq ?_|(apply Aa.build;rfl;rfl;rfl;rfl;rfl))
 all_goals(refine Done.rt rfl rfl ⟨?_,rfl,rfl⟩;try rfl)
theorem MZ(a b:FP)(d:a.Ok)(c:b.Ok):Ak env 109 [.agg (Enc.enc a),.agg (Enc.enc b)] (.p (.agg (Enc.enc (Vp a b)))):=by
 have f:=d.lo;have e:=d.hi;have b1:=c.lo;have b2:=c.hi;refine Ak.enter (Af (by decide)) Tryz.func109 rfl (by kernel_rfl) (by simp) ?_
 repeat' (first|refine Jq ?_|(apply Aa.build;rfl;rfl;rfl;rfl;rfl))
 all_goals(refine Done.rt rfl rfl ⟨?_,rfl,rfl⟩;try rfl)
theorem b4f:WM Tryz.prog 84=true:=by kernel_rfl
theorem c3o(a b c d:Nat):Vm.iy Tryz.prog 84 [.int .u64 (a:Int),.int .u64 (b:Int)] [.int .u64 (c:Int),.int .u64 (d:Int)]=some (decide (a=c)&&decide (b=d)):=by
 show some (decide ((a:Int)=c)&&(decide ((b:Int)=d)&&true))=_;congr 2
 ·grind
 grind
theorem vI(a b:FP)(e:a.Ok)(d:b.Ok):Ak env 66 [.agg (Enc.enc a),.agg (Enc.enc b)] (.p (.bool (b0n a b))):=by
 have c:=pG a b e d;refine Ak.enter (Af (by decide)) Tryz.func66 rfl (by kernel_rfl) (by simp) ?_
 repeat' (first|(apply Aa.fn;rfl;rfl;exact c;intro _;rfl)|(apply Aa.b1g;rfl;rfl;exact b4f;exact c3o _ _ 0 0)|refine go2 ?_|(apply Aa.build;rfl;rfl;rfl;rfl;rfl))
 all_goals(refine Done.rt rfl rfl ⟨?_,rfl,rfl⟩;try rfl)
theorem bD(s:FP)(a:s.Ok)(n:Nat)(c:n<128):Ak env 59 [.agg (Enc.enc s),.int .i64 (n:Int)] (.p (.agg (Enc.enc (FD s n)))):=by
 have s1:=a.lo;have s2:=a.hi;unfold FD;by_cases h:n<64
 ·have b:2^n<2^64:=dz (by omega) h
  rw[if_pos h];refine Ak.enter (Af (by decide)) Tryz.func59 rfl (by kernel_rfl) (by simp[Tryz.ntmps59]) ?_
  repeat' (first|refine JD ?_|(apply c5g n;rfl;rfl;omega)|(apply Ad.Ac;rfl)|(intro _;try(exfalso;omega)))
  all_goals first|(exfalso;omega)|(refine Done.rt rfl rfl ⟨?_,rfl,rfl⟩;try rfl)
 ·have b:2^(n-64)<2^64:=dz (by omega) (by omega)
  rw[if_neg h];refine Ak.enter (Af (by decide)) Tryz.func59 rfl (by kernel_rfl) (by simp[Tryz.ntmps59]) ?_
  repeat' (first|refine JD ?_|(apply c5g (n-64);rfl;rfl;omega)|(apply Ad.Ac;rfl)|(intro _;try(exfalso;omega)))
  all_goals first|(exfalso;omega)|(refine Done.rt rfl rfl ⟨?_,rfl,rfl⟩;try rfl)
theorem VT(l:List Int)(e:l.length<1000000)(h:∀i,i<l.length→0≤gi l i∧gi l i≤127):Ak env 24 [.lst 3 (cells l) l.length] (.D5 [.p (.agg (Enc.enc (Y1 l l.length))),.p (.int .i64 0)]):=by
 refine Ak.enter (Af (by decide)) Tryz.func24 rfl (by kernel_rfl) (by simp[Tryz.ntmps24]) ?_
 repeat' (first|refine go2 ?_|fail)
 apply Ad.GU (l.length) [(2,_),(4,_),(7,_),(8,_)] [(0,_)] (fun k r=>(9,.p (.int .i64 (k:Int)))::r) (fun k r=>(1,.box 84 ((Enc.enc (Y1 l k)).map .p))::r) 2
 ·first|omega|decide
 ·first|omega|decide
 ·exact Qb
 ·exact Tt
 ·intro k d
  have c:=h k d;have b:=wz (gi l k);rw[decide_eq_true c] at b;have a:=bD (Y1 l k) (Wn h k (by omega)) (gi l k).toNat (by omega);rw[cJ c.1] at a
  repeat' (first|(apply Aa.fn;rfl;rfl;exact b;intro _;rfl)|(apply Aa.fn;rfl;rfl;exact a;intro _;rfl)|(apply Aa.Ap;rfl;rfl;rfl;omega;rfl)|refine go2 ?_|(apply Aa.int;rfl;rfl;rfl)|(apply Ad.Ah;rfl)|(apply Ad.Ac;rfl)|(intro _;try(exfalso;omega)))
  all_goals try(exfalso;omega)
  refine Ai.normal ⟨by first|omega|decide,?_,?_⟩
  ·exact Du
  ·exact Ec
 ·repeat' (first|refine JD ?_|(apply Ad.Ac;rfl)|(intro _;try(exfalso;omega)))
  all_goals first|(exfalso;omega)|(refine Done.rt rfl rfl ⟨?_,rfl,rfl⟩;try rfl)
theorem vM(a n:Nat)(h:a+n<128):Ak env 65 [.agg [.int .i64 (a:Int),.int .i64 ((a+n:Nat):Int)]] (.D5 [.p (.agg (Enc.enc (oK a (n+1)))),.p (.int .i64 0)]):=by
 have b:=U7 (a:Int) ((a+n:Nat):Int);rw[Rl (by omega)] at b;refine Ak.enter (Af (by decide)) Tryz.func65 rfl (by kernel_rfl) (by simp[Tryz.ntmps65]) ?_
 repeat' (first|(apply Aa.fn;rfl;rfl;exact b;intro _;rfl)|refine go2 ?_|(apply Aa.int;rfl;rfl;rfl)|(apply Ad.Ah;rfl))
 apply Ad.GU (n+1) [(1,_),(2,_),(4,_)] [(0,_),(1,_)] (fun k r=>(6,.p (.int .i64 ((a+k:Nat):Int)))::r) (fun k r=>(2,.box 84 ((Enc.enc (oK a k)).map .p))::r) 3
 ·first|omega|decide
 ·first|omega|decide
 ·exact Qb
 ·exact Tt
 ·intro k d
  have c:=bD (oK a k) (oN k (by omega)) (a+k) (by omega)
  repeat' (first|(apply Aa.fn;rfl;rfl;exact c;intro _;rfl)|refine go2 ?_|(apply Aa.int;rfl;rfl;rfl)|(apply Ad.Ac;rfl)|(intro _;try(exfalso;omega)))
  all_goals try(exfalso;omega)
  refine Ai.normal ⟨by first|omega|decide,?_,?_⟩
  ·exact Du
  ·exact Ec
 ·repeat' (first|refine JD ?_|(apply Ad.Ac;rfl)|(intro _;try(exfalso;omega)))
  all_goals first|(exfalso;omega)|(refine Done.rt rfl rfl ⟨?_,rfl,rfl⟩;try rfl)
end Go.Proofs.YtnjkoebfgcbbdaaGreatDoor
namespace Go.Vm
open Go.Am
structure a5c where
instance:Enc a5c:={ default:=⟨⟩,enc:=fun _=>[.val (.slice none 0 0)],size:=1,len:=fun _=>rfl }
theorem jH:∀n:Nat,(cells (List.replicate n (⟨⟩:a5c))).map PV.p=List.replicate n (.p (.val (.slice none 0 0)))
 |0=>rfl
 |n+1=>by
  rw[ik,ik,← jH n];rfl
theorem UW{α:Type}(f:Nat→α){n i:Nat}(h:i<n):((List.range n).map f)[i]?=some (f i) :=by grind
theorem Tv{α:Type}(f:Nat→α)(n i:Nat)(x:α):((List.range n).map f).set i x=(List.range n).map fun j=>if j=i then x else f j:=by
 apply bj;grind
theorem PO{α:Type}{f g:Nat→α}{n:Nat}(h:∀j,j<n→f j=g j):(List.range n).map f=(List.range n).map g :=by simp_all
section
variable {E:Env}{L:Frame}{H:Heap}{nx:Nat}
theorem c1s{Γ:Nat→Option (List Value×TypeId)}{r:Operand}{y:PV}{b c:Nat}(a:AU Γ L r=some y)(d:b7b H y=some c)(f:b≠c):jX Γ L H b [r]=true:=by
 simp only[jX,a,a9c,d,Bool.and_true];cases hd:Nat.decEq b c with
 |isTrue e=>omega
 |isFalse _=>rfl
theorem Aq.sJ(a s n:Nat)(f:Nat→List FV)(k:Nat→Nat){e e':TypeId}{d:Nat}{z:Bool}(F:hget H a=some (.EX e' ((List.range n).map fun j=>.vec (s+j) (k j) 0 (k j)) d))(B:∀j,j<n→hget H (s+j)=some (.vec e (f j) (k j) z))(b:∀j,j<n→s+j≠a) :
 ∃H',hget H' a=some (.EX e' ((List.range n).map fun j=>.p (.lst e (f j) (k j))) d)∧Aq E L H nx L H' nx:=by
 have g:∀r,r≤n→∃H',hget H' a=some (.EX e' ((List.range n).map fun j=>if j<r then .p (.lst e (f j) (k j)) else .vec (s+j) (k j) 0 (k j)) d)∧(∀j,r≤j→j<n→hget H' (s+j)=some (.vec e (f j) (k j) z))∧Aq E L H nx L H' nx:=by
  intro r
  induction r with
  |zero=>intro _;exact⟨H,by grind,fun j _ m=>B j m,Aq.refl⟩
  |succ r u =>
   intro C;obtain⟨H',i,o,h⟩:=u (by omega);have x:((List.range n).map fun j=>if j<r then(.p (.lst e (f j) (k j)):PV) else .vec (s+j) (k j) 0 (k j))[r]?=some (.vec (s+r) (k r) 0 (k r)):=by
    grind
   have A:=Aq.rY (E:=E) (L:=L) (nx:=nx) a r i x (o r (ab _) (by omega));refine⟨_,?_,fun j y c=>?_,h.trans A⟩
   ·rw[Fq,if_pos rfl,IX,if_neg (b r (by omega)),i]
    simp only[Option.map_some];rw[Tv];congr 2
    refine PO fun j m=>?_
    by_cases l:j=r
    ·rw[if_pos l,if_pos (by omega),l]
    ·rw[if_neg l]
     by_cases q:j<r
     ·rw[if_pos q,if_pos (by omega)]
     ·rw[if_neg q,if_neg (by omega)]
   ·rw[Fq,if_neg (Ne.symm (b j c)),IX,if_neg (by omega)]
    exact o j (by omega) c
 obtain⟨H',i,_,h⟩:=g n (ab _);refine⟨H',?_,h⟩;simp_all
variable {Q:PV→Heap→Nat→Prop}{dst:Option Tmp}{ty:TypeId}{pos:String}{af:Array Edge}{gd:Option (Nat×Bool)}
theorem Aa.b5q{α:Type}{_:Enc α}{l:List α}(m j:α){s x:Operand}{r p e e2:TypeId}{o:TypeDesc}{i:TypeInfo}{b b2 n:Nat}{xs:List FV}{z y:Bool}(C:AU E.Γ L s=some (.vec b n 0 n))(K:hget H b=some (.vec e (cells l) n z))
 (B:AU E.Γ L x=some (.vec b2 2 0 2)) (h:hget H b2=some (.vec e2 xs 2 y)) (c:xs=Enc.enc m++Enc.enc j) (F:l.length=n) (A:E.P.underlying r=some (.slice e)) (g:E.P.underlying p=some o) (I:∀k,o≠.int k) (G:E.P.info? e=some i)
 (d:Enc.size α=i.size) (f:Ey i=true) (M:0<i.size) (J:i.bytes<1000000) (u:l.length<900000) (q:Q (.vec b (l.length+2) 0 (l.length+2)) (hput H b (.vec e (cells (l++[m,j])) (l.length+2) z)) nx) :
 Aa E true ⟨dst,.call { callee:=.builtin .append,args:=#[s,x],argTypes:=#[r,p] },ty,pos,af,gd⟩ L H nx Q:=by
 subst F;have a:(l.length+2)*(i.bytes+1)≤room:=am (cT (by omega:l.length+2≤1000000) (by omega:i.bytes+1≤1000000)) (by decide);refine Aa.append (i:=i) C K (qU.all B h (by rw[c,aD,Enc.len,Enc.len,← d];omega)) A g I G f (by omega) a (by rw[C9,d]) M ?_;have:cells (l++[m,j])=cells l++xs:=by rw[Gg,c];simp[cells,encs]
 grind
end
end Go.Vm
