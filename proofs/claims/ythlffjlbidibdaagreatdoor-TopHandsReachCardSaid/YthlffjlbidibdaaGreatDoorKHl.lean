/-
  Texts of a proof, merged (Vm33, Vm34, Vm37, Vm38, Vm40, Vm41, Vm42, PieB, PieC, PieD, PieE, PieF, OrO). Conditions: in each statement.
-/
import Derived.Test.YthlffjlbidibdaaGreatDoorKHk
set_option linter.unusedSimpArgs false
set_option autoImplicit true
set_option relaxedAutoImplicit true
set_option linter.unusedVariables false
set_option linter.unusedSectionVars false
set_option maxRecDepth 100000
set_option maxHeartbeats 8000000
abbrev cP:=@List.map_set
abbrev cQ:=@Bool.true_and
abbrev dj:=@Bool.false_and
abbrev fj:=@List.set_cons_succ
abbrev gA:=@List.map_singleton
namespace Go.Vm
open Go.Am
mutual
def FV.flat:FV→Bool
 | .int ..| .bool _| .str _| .val _=>true
 | .agg cs=>FVs.flat cs
 | .lst ..| .FI _| .own ..=>false
def FVs.flat:List FV→Bool
 |[]=>true
 |c::cs=>FV.flat c&&FVs.flat cs
end
mutual
def PV.flat:PV→Bool
 | .p x=>x.flat
 | .agg cs=>CZ.flat cs
 | .DK cs=>CZ.flat cs
 | .vec ..| .ref ..| .Fb ..| .mref _=>true
 | .clo _ fs cs=>CZ.flat fs&&CZ.flat cs
def CZ.flat:List PV→Bool
 |[]=>true
 |c::cs=>PV.flat c&&CZ.flat cs
end
def HB.flat:HB→Bool
 | .box _ cs=>CZ.flat cs
 | .vec _ cs _ _=>FVs.flat cs
 | .map _=>false
 | .Fq ..=>false
 | .KF ..=>false
def d3g:Heap→Bool
 |[]=>true
 |(_,x)::H=>x.flat&&d3g H
section
variable {m m':Mem}{F F':Nat→Prop}{T:Nat→Option Tg}{σ:Nat→Value}{n:Nat}
end
section
variable {E:Env}{L:Frame}{H:Heap}{nx:Nat}{Q:PV→Heap→Nat→Prop}{w:Bool}
variable {dst:Option Tmp}{ty:TypeId}{pos:String}{af:Array Edge}{gd:Option (Nat×Bool)}
end
variable {E:Env}{L:Frame}{H:Heap}{nx:Nat}{Q:PV→Heap→Nat→Prop}{w:Bool}
variable {dst:Option Tmp}{ty:TypeId}{pos:String}{af:Array Edge}{gd:Option (Nat×Bool)}
theorem dK(σ:Nat→Value)(a:Nat):upd σ a (σ a)=σ:=by funext x;simp only[upd];split<;>simp_all
theorem qa(b:Nat)(k:hget H b=some (.vec e cs n z))(G:0<n):Ap E L H nx L (hput H b (.Fq e (cs.map .p) n)) nx:=fun B m F σ t a A y=>by
 obtain⟨_,u⟩:=a.hp b _ k;rcases u with⟨j,i,f⟩|⟨c,g,o,j,i,f,s,r,q,C⟩
 ·omega
 obtain⟨l,d⟩:=a.change (m':=m) (b0:=b) (x':=.Fq e (cs.map .p) n) (s':=σ b) k (ab _) (fun _=>rfl) (ab _) (fun _ _ _=>rfl) (fun _ h _ _=>h) (fun c x=>.inl x)
  ⟨c,g,o,j,i,f,s,ma r,q⟩
 rw[dK] at l d;exact⟨F,σ,l,A.step d a,y.trans d⟩
theorem qb(b:Nat)(cs:List FV)(f:hget H b=some (.Fq e ds n))(A:0<n)(u:ds=cs.map .p):Ap E L H nx L (hput H b (.vec e cs n false)) nx:=fun B m F σ t a z y=>by
 subst u;obtain⟨_,c,g,j,s,r,q,o,l,k⟩:=a.hp b _ f;obtain⟨i,d⟩:=a.change (m':=m) (b0:=b) (x':=.vec e cs n false) (s':=σ b) f (ab _) (fun _=>rfl) (ab _) (fun _ _ _=>rfl) (fun _ h _ _=>h) (fun c x=>.inl x)
  (.inr ⟨c,g,j,s,r,q,o,k7 l,k,fun _=>rfl⟩)
 rw[dK] at i d;exact⟨F,σ,i,z.step d a,y.trans d⟩
theorem sj(a k:Nat)(Y:hget H a=some (.Fq e' ds j))(V:ds[k]?=some (.vec b n 0 n))(I:hget H b=some (.vec e cs n z)) :
 Ap E L H nx L (hput (hdel H b) a (.Fq e' (ds.set k (.p (.lst e cs n))) j)) nx:=fun B m F σ t r h2 Z=>by
 obtain⟨x,K,c3⟩:=Tn r I;have q:b≠a:=fun e=>by grind
 have i:hget (hdel H b) a=some (.Fq e' ds j):=by rw[Jg,if_neg q];omega
 obtain⟨_,c,g,l,C,r2,S,A,R,r6⟩:=x.hp a _ i;obtain⟨_,c',g',M,s1,s2,s3,y,O,N⟩:=r.hp a _ Y;rw[s1] at C;cases C;rw[y] at A;cases A;obtain⟨u,U,o⟩:=O.get V;have f:RP m (fun c=>F c∨Dv (σ b)=some c) (htag (hdel H b)) σ nx (.p (.lst e cs n)) u:=by
  cases o with
  |vec X G h=>exact .p (c3 _ ((h n (by simp[htag,I,HB.tag])).2 rfl))
 obtain⟨J,s⟩:=x.change (m':=m) (b0:=a) (x':=.Fq e' (ds.set k (.p (.lst e cs n))) j) (s':=σ a) i (ab _) (fun _=>rfl) (ab _) (fun _ _ _=>rfl) (fun _ h _ _=>h) (fun c G=>.inl G) (by
  refine⟨_,_,l,s1,s2,S,y,?_,N⟩;have:l=l.set k u:=by
   apply bo;grind
  rw[this];exact(R.set k f).mono (fun d W=>⟨W,rfl⟩) (EU (x':=.Fq e' (ds.set k (.p (.lst e cs n))) j) i (ab _) fun _=>rfl) (ab _))
 rw[dK] at J s;exact⟨_,σ,J,(h2.step K r).step s x,(Z.trans K).trans s⟩
theorem oI(a:Ctx Γ m F σ H nx)(d:RL m F (htag H) σ nx L t)(h:AY Γ L o=some (.Fb b tag off))(f:hget H b=some (.Fq e cs tag)) :
 ∃c k g,ev t o=.pointer (some ⟨c,off,some g⟩)∧σ b=.slice (some ⟨c,0,none⟩) k g:=by
 have:=Bz a d h;cases this with
 |Fb p l i =>
  obtain⟨_,j⟩:=i tag (by simp[htag,f,HB.tag]);grind
theorem b8d(a:Ctx Γ m F σ H nx)(c:RL m F (htag H) σ nx L t)(h:AY Γ L o=some (.vec b tag off len))(d:hget H b=some (.Fq e cs tag)) :
 Gi (σ b) off len (ev t o):=by
 have:=Bz a c h;cases this with
 |vec i g f=>exact(f tag (by simp[htag,d,HB.tag])).2 rfl
theorem rx{i:Nat}(y:AY E.Γ L x=some (.vec b tag 0 tag))(h:hget H b=some (.Fq e cs tag))(B:AY E.Γ L o=some (.p (.int k (i:Int))))
 (z:elemSize E.P t=some sz) (V:i<tag) (q:Q (.Fb b tag (i*sz)) H nx):Aa E w ⟨dst,.indexAddr t x o,ty,pos,af,gd⟩ L H nx Q :=
 Aa.quiet q fun m F σ M l r=>by
  obtain⟨W,u,I,G,C⟩:=KO z;have f:=CV l r B;have a:=b8d l r y h;obtain⟨d,c,g,K,s,U,S,R,O,N⟩:=l.hp b _ h;rw[s] at a;simp only[Gi] at a;have J:(0:Int)≤(i:Int):=by omega
  have j:(i:Int)<(tag:Int):=by omega
  refine⟨.pointer (some ⟨c,i*sz,some g⟩),fun _=>by simp only[BX,F5,I,a,f,G,J,j,and_self,if_true,C,Nat.zero_add,Int.toNat_natCast],.Fb d rfl fun n A=>?_⟩;simp only[htag,h,HB.tag,Option.map_some,Option.some.injEq,Tg.vec.injEq] at A;grind
theorem rm{t:TypeId}{a:Operand}(s:AY E.Γ L a=some (.Fb b n off))(f:hget H b=some (.Fq e cs n))(p:G9 E.P t=some false)(J:cs[off]?=some r)(q:Q r H nx):Aa E w ⟨dst,.load t a,ty,pos,af,gd⟩ L H nx Q :=
 Aa.quiet q fun m F σ G h B=>by
  obtain⟨c,k,g,A,z⟩:=oI h B s f;obtain⟨_,M,K,C,d,o,I,l,j,i⟩:=h.hp b _ f;rw[z] at d;cases d;obtain⟨v,y,u⟩:=lY (P:=E.P) (t:=t) (a:=⟨c,off,some g⟩) (x:=r) l o rfl rfl (Dw.drop off j) (JQ i _) (by
   simp only[yT,p];simp_all)
  exact⟨v,fun _=>by simp only[BX,F5,A,y,Option.map_some],u⟩
theorem rB(W:AY E.Γ L a=some (.Fb b tag off))(O:AY E.Γ L x=some r)(p:hget H b=some (.Fq e cs tag))(R:UW r)
 (V:E.P.info? t=some i) (hl:(Jv r).length=i.size) (h0:0<i.size) (U:off+i.size≤cs.length) (q:Q (.DK []) (hput H b (.Fq e (CG cs off (Jv r)) tag)) nx):Aa E true ⟨dst,.store t a x,ty,pos,af,gd⟩ L H nx Q:=by
 intro m F σ l u J;obtain⟨c,k,g,Y,s⟩:=oI u J W p;obtain⟨I,X⟩:=MQ R (Bz u J O);obtain⟨S,c',g',o,C,M,B,r4,A,K⟩:=u.hp b _ p;rw[s] at C;cases C;have G:=I.length;have z:=A.length;have y:Nj E.P t ⟨c,off,some g⟩ (ev l x) m=some (m.put c (.cells (splice o off (ev l x).cells.toList) e g false)):=by
  unfold Nj Gm;rw[V];simp only[MK,Option.getD_some,beq_self_eq_true,Bool.true_and,Bool.and_eq_true,decide_eq_true_eq];grind
 have f:∀d,c≠d→(m.put c (.cells (splice o off (ev l x).cells.toList) e g false)).get d=m.get d:=fun d j=>by rw[cg,if_neg j]
 obtain⟨c1,Z⟩:=u.change (m':=m.put c (.cells (splice o off (ev l x).cells.toList) e g false)) (x':=.Fq e (CG cs off (Jv r)) tag) (s':=σ b) p (ab _) (fun _=>rfl) (ab _)
  (fun d _ j=>f d fun e=>j (by rw[s,e];rfl)) (fun k k1 k2 N=>by
   have:=N c (by rw[s];rfl);simp only[Mem.put];omega) (fun d j=>.inl j) (by
   refine⟨c,g,splice o off (ev l x).cells.toList,s,M,B,by rw[cg,if_pos rfl],?_,Ky _ K X⟩;refine(kw off A I).mono (fun d j=>⟨j,f d fun e=>B (e▸j)⟩) (EU (x':=.Fq e (CG cs off (Jv r)) tag) p (ab _) fun _=>rfl) (ab _))
 refine GX.op (v:=undef) (fun _=>?_) ⟨_,_,_,F,_,q,c1,.DK .nil,Z,fun h=>by cases h⟩;simp only[BX,F5,Y,y,Option.map_some]
end Go.Vm
namespace Go.Vm
open Go.Am
section
variable {E:Env}{L:Vm.Frame}{H:Vm.Heap}{nx:Nat}{Q:PV→Vm.Heap→Nat→Prop}{w:Bool}{dst:Option Tmp}{ty:TypeId}{pos:String}{af:Array Edge}{gd:Option (Nat×Bool)}
theorem p9(b:Nat){n:Nat}{e:TypeId}(cs':List FV){z:Bool}(d:hget H b=some (.vec e cs n z))(h:IK cs cs'):Ap E L H nx L (hput H b (.vec e cs' n z)) nx:=fun B m F σ t a k j=>by
 have g:=RB.le (KX.vec (n:=n) (z:=z) (e:=e) h rfl) (a.hp b _ d).2;obtain⟨l,f⟩:=a.change (m':=m) (b0:=b) (x':=.vec e cs' n z) (s':=σ b) d (XW.refl _) (fun _=>rfl) (ab _) (fun _ _ _=>rfl) (fun _ h _ _=>h) (fun c i=>.inl i) g;exact⟨F,_,l,k.step f a,j.trans f⟩
theorem pE(d j:Nat)(o:Gf L d=some (.vec b n 0 k))(q:hget H b=some (.vec e cs n z))(U:0<n)(V:j≤cs.length) :
 Ap E L H nx ((d,.p (.lst e (cs.take j) k))::L) (hdel H b) nx:=fun B m F σ t r y O=>by
 obtain⟨R,A⟩:=qw r q;refine⟨_,σ,R,fun i v f=>?_,O.trans A⟩;rw[Ew] at f;by_cases s:d=i
 ·rw[if_pos s] at f;cases f
  have:=y d _ o;subst s;generalize CO t d=u at this;cases this with
  |vec N W h =>
   have a:=(h n (by simp[htag,q,HB.tag])).2 rfl;obtain⟨_,M⟩:=r.hp b _ q;rcases M with⟨l,K,J⟩|⟨c,g,C,l,K,J,I,x,G,S⟩
   ·omega
   ·rw[l] at a
    subst a;refine .p (.lst (.inr (by rw[l];rfl)) I (ws:=C.take j) ?_ ((Du.take j x).mono fun d o=>⟨.inl o,rfl⟩) (OL G _));have:=x.length;unfold takeN;grind
 ·rw[if_neg s] at f
  exact(y i v f).step A r
end
section
variable {P:Program}
structure e0k(P:Program)(t e:TypeId):Prop where
 arr:P.underlying t=some (.array 2 e)
 elt:P.underlying e=some (.int .i64)
 agg:G9 P e=some false
 sz:(P.info? e).map (·.size)=some 1
def a2V(a b:Int):Value:=.agg #[.int .i64 a,.int .i64 b]
abbrev d1i:=List ((Int×Int)×Int)
def d9r(es:d1i):List (FV×FV):=es.map fun x=>(.agg [.int .i64 x.1.1,.int .i64 x.1.2],.int .i64 x.2)
def d1b:d1i→Int→Int→Option Int
 |[],_,_=>none
 |x::es,a,b=>if a=x.1.1∧b=x.1.2 then some x.2 else d1b es a b
variable {E:Env}{L:Vm.Frame}{H:Vm.Heap}{nx:Nat}{Q:PV→Vm.Heap→Nat→Prop}{w:Bool}{dst:Option Tmp}{ty:TypeId}{pos:String}{af:Array Edge}{gd:Option (Nat×Bool)}
end
section
variable {E:Env}{L:Frame}{H:Heap}{nx:Nat}
theorem oo(e:TypeId):Ap E L H nx L ((nx,.vec e [] 0 true)::H) (nx+1):=fun B m F σ t a f d=>by
 obtain⟨g,b⟩:=W9 e a;exact⟨F,_,g,fun i v c=>(f i v c).step b a,d.trans b⟩
theorem qd(a k b:Nat)(x:hget H a=some (.Fq e' ds j))(O:ds[k]?=some (.p (.val (.slice none 0 0))))(z:hget H b=some (.vec e [] 0 true)) :
 Ap E L H nx L (hput H a (.Fq e' (ds.set k (.vec b 0 0 0)) j)) nx:=fun B m F σ t l V U=>by
 obtain⟨s,q⟩:=l.hp b _ z;have f:σ b=Dn:=by
  rcases q with⟨_,_,h⟩|⟨c,g,i,_,_,_,_,_,_,h⟩
  ·grind
  grind
 have M:RP m F (htag H) σ nx (.vec b 0 0 0) Dn:=by
  refine .vec s rfl fun n r=>?_
  have:htag H b=some (.vec 0):=by unfold htag;rw[z];rfl
  rw[this] at r;simp only[Option.some.injEq,Tg.vec.injEq] at r;subst r;refine⟨ab _,fun _=>?_⟩;rw[f];exact⟨rfl,rfl,rfl⟩
 obtain⟨_,c,g,i,K,J,I,G,y,C⟩:=l.hp a _ x;obtain⟨u,N,o⟩:=y.get O;have X:u=Dn:=by cases o with|p h=>cases h;rfl
 obtain⟨W,A⟩:=l.change (m':=m) (b0:=a) (x':=.Fq e' (ds.set k (.vec b 0 0 0)) j) (s':=σ a) x (ab _) (fun _=>rfl) (ab _) (fun _ _ _=>rfl) (fun _ h _ _=>h) (fun c S=>.inl S) (by
  refine⟨c,g,i,K,J,I,G,?_,C⟩;have:i=i.set k Dn:=by
   apply bo;grind
  rw[this];exact(y.set k M).mono (fun d R=>⟨R,rfl⟩) (EU (x':=.Fq e' (ds.set k (.vec b 0 0 0)) j) x (ab _) fun _=>rfl) (ab _))
 exact⟨_,_,W,V.step A l,U.trans A⟩
variable {Q:PV→Heap→Nat→Prop}{dst:Option Tmp}{ty:TypeId}{pos:String}{af:Array Edge}{gd:Option (Nat×Bool)}
end
def CB(s:Nat):Nat→(Nat→HB)→Heap
 |0,_=>[]
 |n+1,f=>(s+n,f n)::CB s n f
theorem Il:∀{n j:Nat},j<n→hget (CB s n f) (s+j)=some (f j)
 |0,_,h=>by omega
 |n+1,j,h=>by
  unfold CB;rw[BA];by_cases e:n=j
  ·grind
  ·rw[if_neg (by omega)];exact Il (by omega)
theorem SV:∀{n b:Nat},b<s∨s+n≤b→hget (CB s n f) b=none
 |0,_,_=>rfl
 |n+1,b,h=>by
  unfold CB;rw[BA,if_neg (by omega)];exact SV (by omega)
theorem dF:∀{n:Nat},(∀j,j<n→f j=g j)→CB s n f=CB s n g
 |0,_=>rfl
 |n+1,h=>by
  unfold CB;rw[h n (by omega),dF fun j a=>h j (by omega)]
theorem Yn:∀{n j:Nat},j<n→hput (CB s n f) (s+j) y=CB s n fun i=>if i=j then y else f i
 |0,_,h=>by omega
 |n+1,j,h=>by
  unfold CB;simp only[hput];by_cases e:n=j
  ·subst e
   have a:∃h,Nat.decEq (s+n) (s+n)=.isTrue h:=⟨rfl,by grind⟩
   obtain⟨_,a⟩:=a;rw[a,if_pos rfl];simp only;congr 1
   exact dF fun i b=>by grind
  ·have a:∃h,Nat.decEq (s+n) (s+j)=.isFalse h:=⟨by omega,by grind⟩
   obtain⟨_,a⟩:=a;rw[a,if_neg e];rw[Yn (by omega)]
theorem CU(h:a≠b)(t:hget H b=r):hget ((a,x)::H) b=r:=by rw[BA,if_neg h];exact t
theorem OI(h:a≠b)(t:hput H b y=H'):hput ((a,x)::H) b y=(a,x)::H':=by
 simp only[hput];cases hd:Nat.decEq a b with
 |isTrue e=>omega
 |isFalse _=>grind
theorem EL(h:b≠c)(t:hget H c=r):hget (hput H b y) c=r:=by rw[FN,if_neg h];exact t
theorem Xt(h:b≠c):∀{H:Heap},hput (hput H b x) c y=hput (hput H c y) b x
 |[]=>rfl
 |(a,z)::H=>by
  cases h1:Nat.decEq a b with
  |isTrue e =>
   cases h2:Nat.decEq a c with
   |isTrue d=>omega
   |isFalse _=>simp only[hput,h1,h2]
  |isFalse _ =>
   cases h2:Nat.decEq a c with
   |isTrue d=>simp only[hput,h1,h2]
   |isFalse _=>simp only[hput,h1,h2,Xt h (H:=H)]
theorem Zm(h:b≠c)(t:hput H c y=H'):hput (hput H b x) c y=hput H' b x:=by rw[Xt h,t]
theorem iW:∀{H T:Heap} {b:Nat},hget (H++T) b=match hget H b with|some x=>some x|none=>hget T b
 |[],_,_=>rfl
 |(a,x)::H,T,b=>by
  rw[List.cons_append,BA,BA];by_cases e:a=b
  ·grind
  ·rw[if_neg e,if_neg e];exact iW
theorem la:∀{n:Nat},(∀j,j<n→hget H (s+j)=some (f j))→s+n≤k→(∀j,j<n→(f j).under k)→BN k (CB s n f) H
 |0,_,_,_=>trivial
 |n+1,h,hk,hu=>⟨⟨by omega,hu n (by omega),f n,h n (by omega),.refl _⟩,la (fun j a=>h j (by omega)) (by omega) fun j a=>hu j (by omega)⟩
section
variable {E:Env}{L:Frame}{H:Heap}{nx:Nat}
theorem PN(h:∀b,hget c b=hget a b):htag c=htag a:=by
 unfold htag;grind
theorem b0q(h:∀b,hget d b=hget a b)(e:own d σ c):own a σ c:=by
 obtain⟨b,x,g,f⟩:=e;exact⟨b,x,(h b).symm.trans g,f⟩
theorem Ctx.congr(h:∀b,hget e b=hget a b)(c:Ctx Γ m F σ e nx):Ctx Γ m F σ a nx where
 fr:=c.fr
 hp b x hb:=by
  rw[← PN h];exact c.hp b x ((h b).trans hb)
 sep b b' x x' d h1 h2:=c.sep b b' x x' d ((h b).trans h1) ((h b').trans h2)
 gl:=c.gl
theorem Step.congr(h:∀b,hget f b=hget e b)(s:Step m F σ H0 nx m' F' a f d):Step m F σ H0 nx m' F' a e d where
 size:=s.size
 keep:=s.keep
 LK:=s.LK
 LD:=s.LD
 J3 c hc ho:=s.J3 c hc (b0q (fun b=>(h b).symm) ho)
 Ym:=s.Ym
 names:=by rw[← PN h];exact s.names
 low:=s.low
theorem Ap.congr(h:∀b,hget f b=hget e b)(g:Ap E L H nx d f a):Ap E L H nx d e a:=fun B m F σ t k j i=>by
 obtain⟨p,c,o,q,l⟩:=g B m F σ t k j i;refine⟨p,c,o.congr h,?_,l.congr h⟩;rw[← PN h];omega
theorem Ap.refl:Ap E L H nx L H nx:=fun B m F σ t c b a=>⟨F,σ,c,b,a⟩
theorem lB(e:TypeId):∀n:Nat,Ap E L H nx L (CB nx n (fun _=>.vec e [] 0 true)++H) (nx+n)
 |0=>Ap.refl
 |n+1=>(lB e n).trans (oo e)
theorem ot(e:TypeId)(n:Nat)(a:∀b x,hget H b=some x→b<nx):Ap E L H nx L (H++CB nx n (fun _=>.vec e [] 0 true)) (nx+n) :=
 (lB e n).congr fun b=>by
  rw[iW,iW];rcases aq b nx with h|h
  ·rw[SV (.inl h)]
   cases hget H b<;>rfl
  grind
theorem OJ(h:a<n)(t:∀b y,hget T b=some y→b<n):∀b y,hget ((a,x)::T) b=some y→b<n:=fun b y c=>by
 rw[BA] at c;grind
theorem a6q:∀b y,hget ([]:Heap) b=some y→b<n:=fun _ _ h=>by cases h
theorem b7e(k:Ctx Γ m F σ H nx)(j:hget H b=some (.vec e [] 0 true)):RP m F (htag H) σ nx (.vec b 0 0 0) Dn:=by
 obtain⟨i,d⟩:=k.hp b _ j;have a:σ b=Dn:=by
  rcases d with⟨_,_,h⟩|⟨c,g,l,_,_,_,_,_,_,h⟩
  ·grind
  grind
 refine .vec i rfl fun n f=>?_
 have:htag H b=some (.vec 0):=by unfold htag;rw[j];rfl
 rw[this] at f;simp only[Option.some.injEq,Tg.vec.injEq] at f;subst f;refine⟨ab _,fun _=>?_⟩;rw[a];exact⟨rfl,rfl,rfl⟩
theorem Ap.useCells(a s:Nat):∀(r:Nat),(∀j,j<n→hget H (s+j)=some (.vec e [] 0 true))→(∀j,j<n→s+j≠a)→hget H a=some (.Fq e' (List.replicate n (.p (.val (.slice none 0 0))) ) d) →
 r≤n→Ap E L H nx L (hput H a (.Fq e' ((List.range r).map (fun j=>.vec (s+j) 0 0 0)++List.replicate (n-r) (.p (.val (.slice none 0 0)))) d)) nx
 |0,_,_,ha,_=>Ap.refl.congr fun b=>by
  rw[FN];by_cases e:a=b
  ·subst e;rw[if_pos rfl,ha];rfl
  ·rw[if_neg e]
 |r+1,hs,hne,ha,hr=>by
  have f:=Ap.useCells a s r hs hne ha (by omega);refine f.trans (Ap.congr ?_ (qd a r (s+r) (by rw[FN,if_pos rfl,ha];rfl) ?_ (by rw[FN,if_neg (Ne.symm (hne r (by omega)))];exact hs r (by omega))))
  ·intro b
   simp only[FN];by_cases e:a=b
   ·subst e
    simp only[if_true,ha,Option.map_some];congr 2
    rw[il,bh,gA,cz];rw[fR _ _ (by simp)];congr 1
    rw[aL,fq,cW];obtain⟨k,c⟩:∃k,n-r=k+1:=⟨n-r-1,by omega⟩
    rw[c,show n-(r+1)=k by omega];rfl
   ·simp only[if_neg e]
  ·rw[bp (by simp)]
   rw[aL,fq,cW];obtain⟨k,c⟩:∃k,n-r=k+1:=⟨n-r-1,by omega⟩
   rw[c];rfl
end
section
variable {E:Env}{L:Frame}{H:Heap}{nx:Nat}{Q:PV→Heap→Nat→Prop}
variable {dst:Option Tmp}{ty:TypeId}{pos:String}{af:Array Edge}{gd:Option (Nat×Bool)}
theorem Aa.congr(h:Aa E w o L H nx f)(i:∀r H' a,f r H' a→∃c,(∀b,hget H' b=hget c b)∧Q r c a):Aa E w o L H nx Q:=fun m F σ t k j=>by
 refine(h m F σ t k j).mono ?_;rintro v m' ⟨r,H',a,F',d,q,s,u,p,l⟩;obtain⟨c,e,g⟩:=i r H' a q;refine⟨r,c,a,F',d,g,s.congr e,?_,p.congr e,l⟩;rw[← PN e];omega
def xY(ρ:Nat→Nat)(H:Heap):Heap→Prop
 |[]=>True
 |(i,x)::Hc=>hget H (ρ i)=some (x.rn ρ)∧xY ρ H Hc
theorem xY.hin:∀{Hc:Heap},xY ρ H Hc→HIn ρ H Hc
 |[],_=>trivial
 |(i,x)::Hc,⟨h1,h2⟩=>⟨⟨_,h1,.refl _⟩,xY.hin h2⟩
theorem xY.get:∀{Hc:Heap},xY ρ H Hc→∀i x,hget Hc i=some x→hget H (ρ i)=some (x.rn ρ)
 |[],_,_,_,h=>by cases h
 |(j,y)::Hc,⟨h1,h2⟩,i,x,h=>by
  rw[BA] at h;by_cases e:j=i
  ·grind
  ·rw[if_neg e] at h;exact xY.get h2 i x h
def allIn:Nat→Heap→Bool
 |0,_=>true
 |n+1,Hc=>(hget Hc n).isSome&&allIn n Hc
theorem oq:∀{n i:Nat},allIn n Hc=true→i<n→(hget Hc i).isSome=true
 |0,_,_,h=>by omega
 |n+1,i,h,hi=>by
  simp only[allIn,Bool.and_eq_true] at h;by_cases e:i=n
  ·grind
  ·exact oq h.2 (by omega)
theorem o0(ns:List Nat)(M:Ej E g ac Hc ns.length x)
 (K:AY E.Γ L C=some (.clo g B cs)) (O:evs E.Γ L args.toList=some Bo) (A:OE (B++Bo++cs) (CZ.rn (rho ns nx) ac)) (I:CZ.under ns.length ac) (s:Nk ns.length Hc) (hin:xY (rho ns nx) H Hc) (o:allIn ns.length Hc=true) (u:ns.Nodup) (z:∀b∈ns,b<nx) (q:Q (.p x) H nx) :
 Aa E true ⟨dst,.call { callee:=.value C,args:=args,argTypes:=R },ty,pos,af,gd⟩ L H nx Q:=by
 have J:∀i,ns.length≤i→rho ns nx i=nx+(i-ns.length):=fun i c=>b3i c
 have l:∀i j,rho ns nx i=rho ns nx j→ns.length≤i→ns.length≤j→i=j:=fun i j e c S=>by
  grind
 refine Aa.congr (nj K O A I s hin.hin u z (fun h=>by cases h) M (Q:=fun r H' a=>r=.p x∧(∀b,hget H' b=hget H b)∧a=nx) ?_) fun r H' a ⟨h1,h2,h3⟩=>⟨H,h2,by grind⟩
 rintro r H' a ⟨rfl,rfl,rfl⟩;refine⟨rfl,fun b=>?_,by omega⟩;rcases MB (k:=ns.length) (ρ:=rho ns nx) (H:=merge ns (rho ns nx) H' H) (H':=H') (b:=b) l with⟨i,c,V,G,U⟩|⟨_,e⟩
 ·cases d:hget H' i with
  |none=>rw[d] at G;simp at G
  |some y=>have:=(s.get i y d).1;omega
 ·rw[e]
  cases c:idx ns b with
  |none=>rw[GR c]
  |some i =>
   have d:=iQ c;have N:rho ns nx i=b:=b4h d;rw[Ls c];cases h1:hget H b with
   |none=>rfl
   |some y =>
    cases h2:hget H' i with
    |none =>
     have f:i<ns.length:=by
      rcases aq i ns.length with h|h
      ·exact h
      ·rw[aR h] at d;cases d
     have:=oq o f;rw[h2] at this;cases this
    |some x =>
     have:=hin.get i x h2;rw[N,h1] at this;simpa using this.symm
end
structure IsKey(P:Program)(t:TypeId){α:Type}[DecidableEq α](kf:α→List FV)(kv:α→List Value):Prop where
 val:∀a,Gp (kf a)=some (kv a)
 agg:Ve P t=true
 eq:∀a b,DL P (Op.equal t (.agg (kv a).toArray) (.agg (kv b).toArray))=some (decide (a=b))
 chk:∀fl a,Zy P (Instr.checkKey fl 10000 t (.agg (kv a).toArray))=true
def Cj{α β:Type}[DecidableEq α]:List (α×β)→α→Option β
 |[],_=>none
 |x::es,a=>if a=x.1 then some x.2 else Cj es a
def CP{α β:Type}[DecidableEq α]:List (α×β)→α→β→List (α×β)
 |[],a,b=>[(a,b)]
 |x::es,a,b=>if a=x.1 then(a,b)::es else x::CP es a b
def Gl{α β:Type}[DecidableEq α]:List (α×β)→α→Nat
 |[],_=>0
 |x::es,a=>if a=x.1 then 0 else Gl es a+1
def Yq{α:Type}(kf:α→List FV)(es:List (α×PV)):HB:=.KF (es.map fun x=>.agg (kf x.1)) (es.map (·.2))
theorem Ph:∀{l:List FV} {vs:List Value},Gp l=some vs→vs.all Am.plainCell=true
 |[],_,h=>by cases h;rfl
 |x::l,vs,h=>by
  simp only[Gp] at h;split at h
  ·rename_i v r a b
   cases h;rw[List.all_cons,cx];refine⟨?_,Ph b⟩;cases x<;>simp only[lT,Option.some.injEq,reduceCtorEq] at a<;>subst a<;>rfl
  grind
theorem Du.b5k:∀{l:List FV} {vs:List Value},Gp l=some vs→Du m F l vs
 |[],_,h=>by cases h;exact .nil
 |x::l,vs,h=>by
  simp only[Gp] at h;split at h
  ·rename_i v r a b
   cases h;refine .cons ?_ (Du.b5k b);cases x<;>simp only[lT,Option.some.injEq,reduceCtorEq] at a<;>subst a
   ·exact .int _ _
   ·exact .bool _
   ·exact .str _
  grind
theorem Zo:∀{l:List FV} {vs:List Value},Gp l=some vs→∀x∈vs,∀n,Instr.sameBits (n+1) x x=true
 |[],_,h=>by cases h;simp
 |x::l,vs,h=>by
  simp only[Gp] at h;split at h
  ·rename_i v r a b
   cases h;intro y hy n;rcases bd.1 hy with rfl|hy
   ·cases x<;>simp only[lT,Option.some.injEq,reduceCtorEq] at a<;>subst a<;>simp[Instr.sameBits,O8]
   ·exact Zo b y hy n
  grind
def b6z:TypeDesc→Bool
 | .int _=>true
 | .bool=>true
 | .string=>true
 |_=>false
def qR(P:Program):List Field→Array Value→Bool
 |[],_=>true
 |f::fs,xs=>(match G9 P f.type,P.underlying f.type,xs[f.offset]? with|some false,some d,some _=>b6z d|_,_,_=>false)&&qR P fs xs
theorem bG{P:Program}{fl:Bool}{n:Nat}(xs:Array Value):∀(a:List Field),qR P a xs=true→DL P (forIn a PUnit.unit fun f _=>(do
 if f.name≠"_" then do
  let x ← part f.type xs f.offset
  Instr.checkKey fl (n+1) f.type x
  pure (ForInStep.yield PUnit.unit)
 else pure (ForInStep.yield PUnit.unit):Sem (ForInStep PUnit)))=some PUnit.unit
 |[],_=>rfl
 |f::a,h=>by
  simp only[qR,Bool.and_eq_true] at h;obtain⟨e,g⟩:=h;have l:=bG (P:=P) (fl:=fl) (n:=n) xs a g;split at e
  ·rename_i d v k j i
   rw [eM,Aw];by_cases c:f.name≠"_"
   ·rw[if_pos c]
    have b:DL P (Instr.checkKey fl (n+1) f.type v)=some ():=by
     rw[Instr.checkKey];simp only[Aw,Bd,j,Option.bind_some];cases d<;>first|rfl|cases e
    simp only[Aw,GU k i,Option.bind_some,b,Ce];omega
   ·rw[if_neg c]
    assumption
  grind
section
variable {P:Program}{α:Type}[DecidableEq α]{kf:α→List FV}{kv:α→List Value}{t:TypeId}
theorem IsKey.rel(h:IsKey P t kf kv)(r:RF m F (.agg (kf a)) v):v=.agg (kv a).toArray:=by
 cases r with
 |agg r b=>rw[(Qb r (h.val a)).1]
theorem IsKey.of(h:IsKey P t kf kv)(a:α):RF m F (.agg (kf a)) (.agg (kv a).toArray) :=
 .agg (Du.b5k (h.val a)) (Dq (Ph (h.val a)))
theorem IsKey.plain(h:IsKey P t kf kv)(a:α):Am.plain (.agg (kv a).toArray)=true:=by
 show Am.GL (.agg (kv a).toArray)=true;simpa[Am.GL] using Ph (h.val a)
theorem IsKey.bits(h:IsKey P t kf kv)(a:α):Instr.sameBits 10000 (.agg (kv a).toArray) (.agg (kv a).toArray)=true:=by
 have g:=Zo (h.val a);show(decide _&&_)=true;simp only[List.size_toArray,Bool.and_eq_true];refine⟨by simp,?_⟩;rw[aE];rintro⟨x,y⟩ d;have f:∀(l:List Value),(x,y)∈l.zip l→x=y∧x∈l:=by
  intro l
  induction l with
  |nil=>simp
  |cons b l c =>
   intro h;rcases bd.1 h with h|h
   ·grind
   ·obtain⟨e,m⟩:=c h
    grind
 grind
theorem lw(c:P.underlying t=some (.struct e))(g:P.stoodInHeld t=false)(f:∀a,Gp (kf a)=some (kv a))(h:∀a b,mG P e.toList (kv a).toArray (kv b).toArray=some (decide (a=b)))(i:∀a,qR P e.toList (kv a).toArray=true):IsKey P t kf kv where
 val:=f
 agg:=by unfold Ve;rw[c]
 eq a b:=Qg (d:=9998) c g (h a b)
 chk fl a:=by
  have:DL P (Instr.checkKey fl 10000 t (.agg (kv a).toArray))=some ():=by
   rw[Instr.checkKey];simp only[Aw,Bd,c,Option.bind_some];rw[← fe,bG (n:=9998) _ _ (i a)];rfl
  unfold Zy;grind
theorem ql(h:IsKey P t kf kv):∀{es:List (α×PV)} {ks:List Value},Du m F (es.map fun x=>.agg (kf x.1)) ks→ks=es.map fun x=>.agg (kv x.1).toArray
 |[],_,r=>by cases r;rfl
 |x::es,_,r=>by
  cases r with
  |cons b a=>rw[h.rel b,ql h a];rfl
theorem a3s(h:IsKey P t kf kv)(a:α):∀{es:List (α×PV)} {l:List MapEntry},l.map (·.key)=es.map (fun x=>.agg (kv x.1).toArray)→Dw m F T σ n (es.map (·.2)) (l.map (·.val))→∀(i:Nat),
 (Cj es a=none→DL P (Instr.findAsking t (.agg (kv a).toArray) l i)=some none∧Gl es a=es.length∧∀b,CP es a b=es++[(a,b)]) ∧
 (∀c,Cj es a=some c→∃j v,DL P (Instr.findAsking t (.agg (kv a).toArray) l i)=some (some (i+j,v))∧RP m F T σ n c v∧(∃e,l[j]?=some e∧e.key=.agg (kv a).toArray∧e.val=v)∧Gl es a=j∧∀b,CP es a b=es.set j (a,b))
 |[],[],_,_,i=>⟨fun _=>⟨rfl,rfl,fun _=>rfl⟩,fun v d=>by cases d⟩
 |[],y::l,h1,_,_=>by grind
 |x::es,[],h1,_,_=>by grind
 |x::es,y::l,h1,h2,i=>by
  simp only[List.map_cons,List.cons.injEq] at h1 h2;cases h2 with
  |cons k g =>
   obtain⟨p,o⟩:=a3s h a h1.2 g (i+1);rw[Instr.findAsking,h1.1];simp only[Aw,h.eq,Option.bind_some];unfold Cj CP Gl;by_cases f:a=x.1
   ·rw[if_pos f,decide_eq_true f]
    refine⟨fun h=>(by cases h),fun v d=>⟨0,y.val,?_,?_,⟨y,rfl,by grind,rfl⟩,by grind,fun b=>?_⟩⟩
    ·rfl
    ·grind
    grind
   grind
theorem aY(h:IsKey P t kf kv)(fl:Bool)(a:α)(l:List MapEntry):Jk P fl t (.agg (kv a).toArray) l=DL P (Instr.findAsking t (.agg (kv a).toArray) l 0):=by
 have b:=h.agg;obtain⟨d,c,f⟩:=bW h.agg;have e:ER P t=none:=by
  unfold Ve at b;unfold ER;grind
 unfold Jk;rw[e,b,h.chk fl a];simp only[Bool.and_self,if_true,Instr.findKey,Aw,Bd,c,Option.bind_some];cases l with
 |nil=>rfl
 |cons x l =>
  unfold Instr.findNow;rw[f]
variable {E:Env}{L:Vm.Frame}{H:Vm.Heap}{nx:Nat}{Q:PV→Vm.Heap→Nat→Prop}{w:Bool}{dst:Option Tmp}{ty:TypeId}{pos:String}{af:Array Edge}{gd:Option (Nat×Bool)}
theorem o8(h:IsKey P t kf kv)(c:Ctx Γ m F σ H nx)(e:RL m F (htag H) σ nx L b)(d:AY Γ L o=some (.p (.agg (kf a)))):ev b o=.agg (kv a).toArray:=by
 have:=Bz c e d;cases this with
 |p r=>exact h.rel r
theorem JF{t:Tr Value}(a:Ctx Γ m F σ H nx)(c:RL m F (htag H) σ nx L t)(h:AY Γ L o=some (.mref b))(d:hget H b=some (.KF ks cs)):ev t o=σ b:=by
 have:=Bz a c h;cases this with
 |mref _ _ e=>exact e (by simp[htag,d,HB.tag])
theorem oS(q:Q (.mref nx) ((nx,.KF [] [])::H) (nx+1)):Aa E w ⟨dst,.makeMap t none,ty,pos,af,gd⟩ L H nx Q:=by
 intro m F σ h b i;obtain⟨g,f,e⟩:=b.new (m':=m.alloc (.map [] 0)) (x:=.KF [] []) (s:=.map (some m.size)) (by simp[Mem.alloc]) (fun c a=>by rw[dZ,if_neg (by omega)]) (by simp only[Mem.alloc];omega) (fun c a=>by simp only[Dv,Option.some.injEq] at a;omega)
  ⟨m.size,[],0,rfl,by simp[Mem.alloc],fun d=>cH _ (b.fr _ d),by rw[dZ,if_pos rfl],.nil,.nil,rfl,rfl⟩
 exact GX.op (v:=.map (some m.size)) (fun _=>rfl) ⟨_,_,_,F,_,q,g,.mref (bN _) rfl fun _=>(upd_same _ _ _).symm,f,fun _=>e⟩
theorem MS{α:Type}{g:α→α}{e:α}:∀{l:List α} {j:Nat},l[j]?=some e→l.modify j g=l.set j (g e)
 |[],j,h=>by simp
 |a::l,0,h=>by grind
 |a::l,j+1,h=>by
  rw[List.modify_succ_cons,fj,MS (by assumption)]
theorem Stamped.push(h:Stamped l a):Stamped (l++[{ key:=k,val:=v,born:=a }]) (a+1):=by
 obtain⟨c,b⟩:=h;subst b;refine⟨?_,by simp⟩;rw[bh,c,ar,List.length_singleton,il];rfl
theorem Stamped.modify(h:Stamped l a)(b:∀e,(f e).born=e.born):Stamped (l.modify i f) a:=by
 obtain⟨d,c⟩:=h;refine⟨?_,by grind⟩;apply bo;grind
theorem Stamped.at{e:MapEntry}(h:Stamped l a)(c:l[i]?=some e):e.born=i:=by
 have b:(l.map (·.born))[i]?=some e.born:=by grind
 rw[h.1] at b;grind
theorem Stamped.find(h:Stamped l a)(b:i<l.length):l.findIdx? (fun e=>(e.born:Int)==(i:Int))=some i:=by
 rw[List.findIdx?_eq_some_iff_getElem];refine⟨b,?_,fun j c=>?_⟩
 ·rw[h.at (ai b)];simp
 ·rw[h.at (ai (by omega:j<l.length))]
  grind
theorem mW:∀{es:List (α×β)} {a:α},Gl es a≤es.length∧(Gl es a<es.length↔(Cj es a).isSome)
 |[],_=>⟨ab _,by simp[Gl,Cj]⟩
 |x::es,a=>by
  obtain⟨c,b⟩:=mW (es:=es) (a:=a);unfold Gl Cj;grind
theorem yN:∀{es:List (α×β)} {a:α} {b:β},Gl es a<(CP es a b).length
 |[],a,b=>by simp[Gl,CP]
 |x::es,a,b=>by
  unfold Gl CP;by_cases h:a=x.1
  ·grind
  ·have:=yN (es:=es) (a:=a) (b:=b)
   grind
theorem bZ:∀{es:List (α×β)} {a:α} {b c:β},(CP es a b).set (Gl es a) (a,c)=CP es a c
 |[],a,b,c=>by rfl
 |x::es,a,b,c=>by
  unfold Gl CP;by_cases h:a=x.1
  ·grind
  ·rw[if_neg h,if_neg h,if_neg h,fj,bZ]
theorem Xn:∀{es:List (α×β)} {a:α} {c:β},((CP es a c)[Gl es a]?).map (·.1)=some a
 |[],a,c=>by rfl
 |x::es,a,c=>by
  unfold Gl CP;by_cases e:a=x.1
  ·grind
  ·rw[if_neg e,if_neg e,ik,Xn]
def Nb(E:Env)(H:Vm.Heap)(nx:Nat)(es:List (α×PV))(a:α)(z:Value)(c:PV):Prop :=
 Cj es a=some c∨Cj es a=none∧∀m F σ,Ctx E.Γ m F σ H nx→RP m F (htag H) σ nx c z
theorem pP{a:α}(h:Cj es a=none)(d:hget H b=some (.vec e [] 0 true)):Nb E H nx es a Dn (.vec b 0 0 0) :=
 .inr ⟨h,fun _ _ _ c=>b7e c d⟩
theorem Nb.const{a:α}(h:Cj es a=none)(c:aO z=some b):Nb E H nx es a z b :=
 .inr ⟨h,fun _ _ _ _=>Zc c⟩
theorem pp(d:IsKey E.P C kf kv)(I:AY E.Γ L x=some (.mref b))(o:hget H b=some (Yq kf es))(K:AY E.Γ L k=some (.p (.agg (kf a))))
 (J:E.P.underlying t=some (.map C M)) (G:zeroOf E.P M=some z) (i:Am.plain z=true) (f:Nb E H nx es a z c) (q:Q c H nx):Aa E w ⟨dst,.lookup t x k false,ty,pos,af,gd⟩ L H nx Q :=
 Aa.quiet q fun m F σ V e h=>by
  obtain⟨_,r,l,y,B,Y,X,A,O,N,W⟩:=e.hp b _ o;have U:=ql d O;obtain⟨f1,f2⟩:=a3s d a U N 0;have g:(Am.plain z&&Am.plain (.agg (kv a).toArray))=true:=by rw[i,d.plain];rfl
  rcases f with f|⟨f,R⟩
  ·obtain⟨j,u,s,S,_⟩:=f2 c f
   refine⟨u,fun _=>?_,S⟩;simp only[BX,F5,N7,J,G,JF e h I o,o8 d e h K,B,A,g,if_true,aY d,s,Option.map_some,Bool.false_eq_true,if_false]
  ·have s:=(f1 f).1
   refine⟨z,fun _=>?_,R m F σ e⟩;simp only[BX,F5,N7,J,G,JF e h I o,o8 d e h K,B,A,g,if_true,aY d,s,Option.map_some,Bool.false_eq_true,if_false]
theorem lx:∀{cs:List PV} {vs:List Value} {c:PV} {v:Value},Dw m F T σ n cs vs→RP m F T σ n c v→Dw m F T σ n (cs++[c]) (vs++[v])
 |_,_,_,_,.nil,h=>.cons h .nil
 |_,_,_,_,.cons a t,h=>.cons a (lx t h)
theorem a6i(a:IsKey P t kf kv):∀(es:List (α×PV)),Du m F (es.map fun x=>.agg (kf x.1)) (es.map fun x=>.agg (kv x.1).toArray)
 |[]=>.nil
 |x::l=>.cons (a.of x.1) (a6i a l)
theorem Rf(h:IsKey P p kf kv)(s:Ctx Γ m F σ H nx)(l:hget H b=some (Yq kf es))(f:σ b=.map (some r))(o:r<m.size)(i:¬ F r)
 (k1:l'.map (·.key)=es'.map (fun x=>.agg (kv x.1).toArray)) (j:Dw m F (htag H) σ nx (es'.map (·.2)) (l'.map (·.val))) (g:Stamped l' clock') :
 Ctx Γ (m.put r (.map l' clock')) F σ (hput H b (Yq kf es')) nx∧Step m F σ H nx (m.put r (.map l' clock')) F σ (hput H b (Yq kf es')) nx:=by
 have c:∀a x,r≠a→(m.put r x).get a=m.get a:=fun a x d=>by rw[cg,if_neg d]
 have:=s.change (m':=m.put r (.map l' clock')) (x':=Yq kf es') (s':=σ b) l trivial (fun _=>rfl) (ab _)
  (fun a _ d=>c a _ fun e=>d (by rw[f,e];rfl)) (fun k k1 j g=>by
   have:=g r (by rw[f];rfl);simp only[Mem.put];omega) (fun a d=>.inl d) (by
   have q:∀a,F a→F a∧(m.put r (.map l' clock')).get a=m.get a:=fun a d=>⟨d,c a _ fun e=>i (e▸d)⟩
   refine⟨r,l',clock',f,o,i,by rw[cg,if_pos rfl],?_,?_,g⟩
   ·rw[k1]
    exact a6i h es'
   ·exact j.mono q (EU (x':=Yq kf es') l trivial fun _=>rfl) (ab _))
 rw[dK] at this;omega
theorem rA(f:IsKey E.P I kf kv)(hx:AY E.Γ L x=some (.mref b))(J:hget H b=some (Yq kf es))(hk:AY E.Γ L k=some (.p (.agg (kf a))))
 (ht:E.P.underlying t=some (.map I et)) (hz:zeroOf E.P et=some z) (O:Am.plain z=true) (hv:Nb E H nx es a z c)  (hH:hput H b (Yq kf (CP es a c))=H') (q:Q (.DK [c,.p (.int .i64 (Gl es a:Nat))]) H' nx):Aa E true ⟨dst,.mapEntry t x k,ty,pos,af,gd⟩ L H nx Q:=by
 subst hH;intro m F σ Y s c2;obtain⟨_,r,l,d,N,r2,Z,r4,r5,M,G⟩:=s.hp b _ J;have e1:=ql f r5;obtain⟨f1,f2⟩:=a3s f a e1 M 0;have o:Vh E.P t (ev Y x) (ev Y k) m=match Jk E.P false I (.agg (kv a).toArray) l with
  |some (some (i,v))=>if(ER E.P I).isSome||Instr.sameBits 10000 (((l[i]?).map (·.key)).getD (.agg (kv a).toArray)) (.agg (kv a).toArray) then some (.tuple #[v,.int .i64 ((((l[i]?).map (·.born)).getD 0:Nat):Int)],m.put r (.map (l.modify i fun e=>{ e with key:=.agg (kv a).toArray }) d)) else none
  |some none=>some (.tuple #[z,.int .i64 ((d:Nat):Int)],m.put r (.map (l++[{ key:=.agg (kv a).toArray,val:=z,born:=d }]) (d+1)))
  |none=>none:=by
  unfold Vh;simp only[ht,JF s c2 hx J,o8 f s c2 hk,N,r4,f.plain,if_true,hz,O];rfl
 rw[aY f] at o;have A:l.length=es.length:=by
  have:=congrArg List.length e1;grind
 rcases hv with R|⟨R,hc⟩
 ·obtain⟨j,u,K,W,⟨e0,V,U,f5''⟩,S,f6⟩:=f2 c R
  rw[cG] at K;rw[K] at o;simp only[V,Option.map_some,Option.getD_some,U,f.bits,Bool.or_true,if_true,G.at V] at o;have y:∀(g:MapEntry→MapEntry),l.modify j g=l.set j (g e0):=fun g=>MS V
  obtain⟨X,C⟩:=Rf f s J N r2 Z (es':=CP es a c) (l':=l.modify j fun e=>{ e with key:=.agg (kv a).toArray }) (by simp_all) (by rw[y,f6 c,cP,cP];exact M.set j (by grind)) (G.modify fun _=>rfl);refine GX.op (v:=.tuple #[u,.int .i64 ((j:Nat):Int)]) (fun _=>by assumption) ⟨_,_,_,F,_,q,X,?_,C,fun h=>by cases h⟩;rw[S];exact .DK (.cons (W.step C s) (.cons (.p (.int _ _)) .nil))
 ·obtain⟨K,S,W⟩:=f1 R
  rw[K] at o;have B:=hc m F σ s;obtain⟨X,C⟩:=Rf f s J N r2 Z (es':=CP es a c) (l':=l++[{ key:=.agg (kv a).toArray,val:=z,born:=d }]) (clock':=d+1) (by grind) (by rw[W c,bh,bh];exact lx M B) G.push;refine GX.op (v:=.tuple #[z,.int .i64 ((d:Nat):Int)]) (fun _=>by assumption) ⟨_,_,_,F,_,q,X,?_,C,fun h=>by cases h⟩;rw[S,← A,← G.2];exact .DK (.cons (B.step C s) (.cons (.p (.int _ _)) .nil))
theorem sb{b:Nat}{es:List (α×PV)}{a:α}{o c:PV}(i:IsKey E.P U kf kv)(W:AY E.Γ L x=some (.mref b))(z:hget H b=some (Yq kf (CP es a o)))(X:AY E.Γ L k=some (.p (.int .i64 (Gl es a:Nat))))(V:AY E.Γ L y=some c)
  (Y:hput H b (Yq kf (CP es a c))=H') (q:Q (.DK []) H' nx):Aa E true ⟨dst,.entryStore t x k y,ty,pos,af,gd⟩ L H nx Q:=by
 subst Y;intro m F σ C j B;obtain⟨_,r,l,A,I,S,R,O,N,M,G⟩:=j.hp b _ z;have Z:=ql i N;have s:=Bz j B V;have u:ev C k=.int .i64 ((Gl es a:Nat):Int):=d0c j B X;have f:l.length=(CP es a o).length:=by
  have:=congrArg List.length Z;grind
 have K:Gl es a<l.length:=by rw[f];exact yN
 have d:∀(g:MapEntry→MapEntry),l.modify (Gl es a) g=l.set (Gl es a) (g l[Gl es a]):=fun g=>MS (ai K)
 obtain⟨d1,d2⟩:=Rf i j z I S R (es':=CP es a c) (l':=l.modify (Gl es a) fun e=>{ e with val:=ev C y }) (by
  rw[d,cP,← bZ (b:=o),cP];have J:l[Gl es a].key=.agg (kv a).toArray:=by
   have h1:(l.map (·.key))[Gl es a]?=some l[Gl es a].key:=by grind
   have h2:=Xn (es:=es) (a:=a) (c:=o);grind
  grind) (by
  rw[d,cP,← bZ (b:=o),cP];exact M.set _ s) (G.modify fun _=>rfl)
 exact GX.op (v:=undef) (fun _=>by simp only[BX,F5,Jj,JF j B W z,u,I,O,G.find K,Option.map_some]) ⟨_,_,_,F,_,q,d1,.DK .nil,d2,fun h=>by cases h⟩
theorem pM{α:Type}{_:Enc α}{l:List α}{a:α}{s x:Operand}{y u e e2:TypeId}{r:TypeDesc}{i:TypeInfo}{b b2 n:Nat}{xs:List FV}{z A:Bool}(C:AY E.Γ L s=some (.vec b n 0 n))(K:hget H b=some (.vec e (cells l) n z))
 (B:AY E.Γ L x=some (.vec b2 1 0 1)) (p:hget H b2=some (.vec e2 xs 1 A)) (f:xs=Enc.enc a) (G:l.length=n) (j:E.P.underlying y=some (.slice e)) (g:E.P.underlying u=some r) (J:∀k,r≠.int k) (I:E.P.info? e=some i)
 (h:Enc.size α=i.size) (d:EO i=true) (N:0<i.size) (o:i.bytes<1000000) (c:l.length<1000000) {H':Vm.Heap} (M:hput H b (.vec e (cells (l++[a])) (l.length+1) z)=H') (q:Q (.vec b (l.length+1) 0 (l.length+1)) H' nx) :
 Aa E true ⟨dst,.call { callee:=.builtin .append,args:=#[s,x],argTypes:=#[y,u] },ty,pos,af,gd⟩ L H nx Q:=by
 subst M;exact nv C K B p f G j g J I h d N o c q
end
end Go.Vm
namespace Go.Proofs.YthlffjlbidibdaaGreatDoor
open Go Go.Am Go.Vm Go.Pie
attribute [local irreducible] Aa Ah Ai Ad AL Ak Bf BK Bj Aj Vm.Done Bv AP
attribute [local irreducible] Cb Bg D5 DU EF AV
theorem b0l(l:List Int)(u:l.length<1000000):Ak env 55 [.lst 3 (cells l) l.length] (.p (.int .i64 (QE l))):=by
 obtain⟨E,s⟩:∃E,E=ZO l 0:=⟨_,rfl⟩
 unfold QE;rw[← s];refine Ak.enter (Af (by decide)) Tryz.func55 rfl (by kernel_rfl) (by simp[Tryz.ntmps55]) ?_;by_cases j:l.length<2
 ·rw[if_pos j]
  repeat' (first|refine Fj ?_|(apply c8;rfl)|(intro _;try omega))
  all_goals first|omega|(refine aa ?_;try rfl)
 rw[if_neg j];by_cases g:l.length>201
 ·rw[if_pos g]
  repeat' (first|refine Fj ?_|(apply c8;rfl)|(intro _;try omega))
  all_goals first|omega|(refine aa ?_;try rfl)
 rw[if_neg g]
 repeat' (first|refine Fj ?_|(apply c8;rfl)|(intro _;try omega))
 all_goals try omega
 apply Ad.Jy (l.length) (fun k=>ZO l k=E) [(0,_),(2,_),(13,_),(14,_)] [] (fun k r=>(15,.p (.int .i64 (k:Int)))::r) (fun k r=>r) 0
 ·first|omega|decide
 ·first|omega|decide
 ·exact Ns
 ·exact O9
 ·first|(intro _ _;omega)|omega|trivial
 ·intro k q a
  have e:=Xu q;have o:((k:Int)-1).toNat=k-1:=by omega
  have c:0<k→(k:Int)-1=((k-1:Nat):Int):=fun h=>by omega
  by_cases f:gi l k<0∨gi l k>100000
  ·rw[if_pos f] at e
   rw[← a,e]
   repeat' (first|refine b9 ?_|refine Fj ?_|apply j6|(apply Ah.guard;rfl;rfl)|(apply a8;rfl)|(apply b8;rfl)|(apply c8;rfl)|(intro _;try omega))
   all_goals first|omega|(refine aa ?_;try rfl)
  rw[if_neg f] at e;by_cases d:0<k∧gi l k≤gi l (k-1)
  ·rw[if_pos d] at e
   rw[← a,e]
   repeat' (first|(apply dl (l:=l) (i:=k-1);rfl;exact congrArg (fun b=>some (PV.p (.int .i64 b))) (c d.1);rfl;omega;rfl)|refine b9 ?_|refine Fh ?_|apply j6|(apply Ah.guard;rfl;rfl)|refine a7 ?_|(apply a8;rfl)|(apply c8;rfl)|(intro _;try omega))
   all_goals first|omega|(refine aa ?_;try rfl)
  rw[if_neg d] at e;by_cases x:k=0
  ·repeat' (first|refine b9 ?_|refine Fj ?_|apply j6|(apply Ah.guard;rfl;rfl)|(apply a8;rfl)|(apply b5;rfl)|(apply c8;rfl)|(intro _;try omega))
   all_goals try omega
   refine Aj.normal ⟨(e.symm.trans a),by first|omega|decide,?_,?_⟩
   ·exact Dh
   ·exact DT
  ·repeat' (first|(apply dl (l:=l) (i:=k-1);rfl;exact congrArg (fun b=>some (PV.p (.int .i64 b))) (c (by omega));rfl;omega;rfl)|refine b9 ?_|refine Fh ?_|apply j6|(apply Ah.guard;rfl;rfl)|refine a7 ?_|(apply a8;rfl)|(apply c8;rfl)|(intro _;try omega))
   all_goals try omega
   refine Aj.normal ⟨(e.symm.trans a),by first|omega|decide,?_,?_⟩
   ·exact Dh
   ·exact DT
 ·intro a
  rw[wY] at a;rw[← a]
  repeat' (first|refine Fj ?_|(apply a8;rfl)|(intro _;try omega))
  all_goals first|omega|(refine aa ?_;try rfl)
theorem Tc(p:Ez)(d:0<p.bars.length)(c:p.bars.length<1000000):Ak env 19 [.agg (Enc.enc p)] (.DK [.p (.int .i64 (Ll p)),.p (.int .i64 (LW p))]):=by
 have a:(p.bars.length:Int)-1=((p.bars.length-1:Nat):Int):=by omega
 unfold Ll LW;refine Ak.enter (Af (by decide)) Tryz.func19 rfl (by kernel_rfl) (by simp[Tryz.ntmps19]) ?_
 repeat' (first|(apply dl (l:=p.bars) (i:=p.bars.length-1);rfl;exact congrArg (fun b=>some (PV.p (.int .i64 b))) a;rfl;omega;rfl)|refine b9 (l:=p.bars) (i:=0) ?_|refine KP ?_|fail)
 all_goals first|omega|(refine aa ?_;try rfl)
abbrev b0f(n:LM):HB:=.box 64 ((Enc.enc n).map .p)
theorem c7f(f:FuncId)(n:LM)(l:List LM)(z:Bool)(P:Nat→Bool)(j:l.length<1000000)(i:∀k,Ej env f ([.p (.agg (Enc.enc (gi l k)))]++[.ref 0 0]) [(0,b0f n)] 1 (.bool (P k))) :
 Ej env 95 [.vec 1 l.length 0 l.length,.clo f [] [.ref 0 0]] [(0,b0f n),(1,.vec 64 (cells l) l.length z)] 2 (.int .i64 (Ey P l.length)):=by
 refine Ej.enter (Af (by decide)) Tryz.func95 rfl (by kernel_rfl) (by simp[Tryz.ntmps95]) ?_
 repeat' (first|(apply eC;rfl;rfl;rfl)|refine go1 ?_|fail)
 all_goals try omega
 apply Ad.Jy (l.length) (fun k=>Xy P l.length (l.length-k)=Ey P l.length) [(0,_),(1,_),(7,_)] [(0,_),(1,_)] (fun k r=>(8,.p (.int .i64 (k:Int)))::r) (fun k r=>r) 2
 ·first|omega|decide
 ·first|omega|decide
 ·exact Ns
 ·exact O9
 ·first|(intro _ _;omega)|omega|trivial
 ·intro k h b
  have c:=i k;by_cases d:P k=true
  ·rw[d] at c
   have g:Ey P l.length=(k:Int):=by rw[← b,rM h d]
   rw[g]
   repeat' (first|(apply eO [0] c;rfl;rfl;exact .of_eq rfl;exact eA rfl;exact Dp rfl;(repeat(first|exact trivial|refine⟨⟨_,rfl,.of_eq rfl⟩,?_⟩));decide;(intro _ e;simp at e<;>omega);rfl)|(apply g9;rfl;rfl;rfl;rfl;omega)|refine Fh ?_|refine a7 ?_|(apply a8;rfl)|(apply b8;rfl)|(intro _;try omega))
   all_goals first|omega|contradiction|(refine Done.ret rfl (.refl _) trivial ?_ (by omega) (ab _) ⟨?_,rfl,rfl⟩;exact DT;try rfl)
  ·have a:P k=false:=by simpa using d
   rw[a] at c
   repeat' (first|(apply eO [0] c;rfl;rfl;exact .of_eq rfl;exact eA rfl;exact Dp rfl;(repeat(first|exact trivial|refine⟨⟨_,rfl,.of_eq rfl⟩,?_⟩));decide;(intro _ e;simp at e<;>omega);rfl)|(apply g9;rfl;rfl;rfl;rfl;omega)|refine Fh ?_|refine a7 ?_|(apply a8;rfl)|(apply b5;rfl)|(intro _;try omega))
   all_goals try omega
   all_goals try contradiction
   refine Aj.normal ⟨((iF h a).symm.trans b),by first|omega|decide,?_,?_⟩
   ·exact Dh
   ·exact DT
 ·intro b
  have g:Ey P l.length=-1:=by rw[← b,cW];rfl
  rw[g]
  repeat' (first|refine Fj ?_|(apply a8;rfl)|(intro _;try omega))
  all_goals first|omega|(refine Done.ret rfl (.refl _) trivial ?_ (by omega) (ab _) ⟨?_,rfl,rfl⟩;exact DT;try rfl)
theorem a0x{α:Type}[Inhabited α](f:α→Bool)(l:List α):decide (0≤Ey (fun k=>f (gi l k)) l.length)=l.any f:=by
 rw[eE,decide_eq_true_iff,List.any_eq_true];constructor
 ·intro h
  have c:=xq (P:=fun k=>f (gi l k)) l.length (ab _) h;have g:=(a7f (fun k=>f (gi l k)) l.length l.length (ab _)).2;refine⟨_,?_,c⟩;have e:Xy (fun k=>f (gi l k)) l.length l.length=Ey (fun k=>f (gi l k)) l.length:=rfl;generalize Xy (fun k=>f (gi l k)) l.length l.length=u at *;unfold gi;grind
 ·rintro⟨x,a,d⟩
  obtain⟨k,b,rfl⟩:=cf.1 a;refine Wy (P:=fun k=>f (gi l k)) (k:=k) ?_ l.length (ab _) (by omega) b;unfold gi;grind
theorem a6m(f:FuncId)(n:LM)(l:List LM)(z:Bool)(g:LM→Bool)(a:l.length<1000000)(d:∀m,Ej env f ([.p (.agg (Enc.enc m))]++[.ref 0 0]) [(0,b0f n)] 1 (.bool (g m))) :
 Ej env 50 [.vec 1 l.length 0 l.length,.clo f [] [.ref 0 0]] [(0,b0f n),(1,.vec 64 (cells l) l.length z)] 2 (.bool (l.any g)):=by
 have b:=c7f f n l z (fun k=>g (gi l k)) a (fun k=>d _);rw[← a0x g l];generalize Ey (fun k=>g (gi l k)) l.length=F at *;refine Ej.enter (Af (by decide)) Tryz.func50 rfl (by kernel_rfl) (by simp) ?_
 repeat' (first|(apply eO [0,1] b;rfl;rfl;exact .of_eq rfl;exact eA rfl;exact Dp rfl;(repeat(first|exact trivial|refine⟨⟨_,rfl,.of_eq rfl⟩,?_⟩));decide;(intro _ c;simp at c<;>omega);rfl)|refine go1 ?_|refine a7 ?_|fail)
 all_goals first|omega|(refine Done.ret rfl (.refl _) trivial ?_ (by omega) (ab _) ⟨?_,rfl,rfl⟩;exact DT;try rfl)
def clash(n m:LM):Bool:=decide (n.s<m.e)&&decide (m.s<n.e)
theorem a1p(n m:LM):Ej env 101 ([.p (.agg (Enc.enc m))]++[.ref 0 0]) [(0,b0f n)] 1 (.bool (clash n m)):=by
 unfold clash;refine Ej.enter (Af (by decide)) Tryz.func101 rfl (by kernel_rfl) (by simp[Tryz.ntmps101]) ?_;by_cases a:n.s<m.e
 ·rw[decide_eq_true a,cQ]
  repeat' (first|refine Fj ?_|(apply Ah.guard;rfl;rfl)|(intro _;try omega))
  all_goals first|omega|contradiction|(refine Done.ret rfl (.refl _) trivial ?_ (by omega) (ab _) ⟨?_,rfl,rfl⟩;exact DT;try rfl)
 ·rw[decide_eq_false a,dj]
  repeat' (first|refine Fj ?_|(apply Ah.guard;rfl;rfl)|(intro _;try omega))
  all_goals first|omega|contradiction|(refine Done.ret rfl (.refl _) trivial ?_ (by omega) (ab _) ⟨?_,rfl,rfl⟩;exact DT;try rfl)
end Go.Proofs.YthlffjlbidibdaaGreatDoor
namespace Go.Proofs.YthlffjlbidibdaaGreatDoor
open Go Go.Am Go.Vm Go.Pie
abbrev Grp:=List ((Int×Int)×List LM)
def Oq(n:LM):Int×Int:=(n.d,n.k)
def a8l(gs:Grp)(n:LM):Grp:=CP gs (Oq n) ((Cj gs (Oq n)).getD []++[n])
def SB(l:List LM):Nat→Grp
 |0=>[]
 |k+1=>a8l (SB l k) (gi l k)
def qc(gs:Grp)(i:Nat):List LM:=((gs[i]?).map (·.2)).getD []
def U6(s:Nat):Grp→List ((Int×Int)×PV)
 |[]=>[]
 |x::gs=>(x.1,.vec s x.2.length 0 x.2.length)::U6 (s+1) gs
def tlG(gs:Grp)(j:Nat):HB:=.vec 64 (cells (qc gs j)) (qc gs j).length true
theorem X3:∀{s:Nat} {gs:Grp} {a:Int×Int},Cj (U6 s gs) a=(Cj gs a).map fun l=>.vec (s+Gl gs a) l.length 0 l.length
 |s,[],a=>rfl
 |s,x::gs,a=>by
  unfold U6 Cj Gl;by_cases h:a=x.1
  ·grind
  ·rw[X3]
   grind
theorem uN:∀{s:Nat} {gs:Grp} {a:Int×Int} {l:List LM},CP (U6 s gs) a (.vec (s+Gl gs a) l.length 0 l.length)=U6 s (CP gs a l)
 |s,[],a,l=>rfl
 |s,x::gs,a,l=>by
  unfold U6 CP Gl;by_cases h:a=x.1
  ·grind
  ·simp only[if_neg h,U6]
   rw[show s+(Gl gs a+1)=s+1+Gl gs a by omega,uN]
theorem Rw:∀{gs:Grp} {a:Int×Int},qc gs (Gl gs a)=(Cj gs a).getD []
 |[],a=>rfl
 |x::gs,a=>by
  unfold Gl Cj;by_cases h:a=x.1
  ·simp only[if_pos h];rfl
  ·simp only[if_neg h]
   exact Rw (gs:=gs)
theorem vT:∀{gs:Grp} {a:Int×Int} {l:List LM} {j:Nat},qc (CP gs a l) j=if j=Gl gs a then l else qc gs j
 |[],a,l,j=>by
  match j with
  |0=>rfl
  |j+1=>rfl
 |x::gs,a,l,j=>by
  unfold CP Gl;by_cases h:a=x.1
  ·simp only[if_pos h]
   match j with
   |0=>rfl
   |j+1=>rfl
  ·simp only[if_neg h]
   match j with
   |0=>rfl
   |j+1 =>
    have:=vT (gs:=gs) (a:=a) (l:=l) (j:=j);simp only[Nat.add_right_cancel_iff];exact this
theorem ZA{α β:Type}[DecidableEq α]:∀{es:List (α×β)} {a:α} {b:β},(CP es a b).length≤es.length+1
 |[],a,b=>by simp[CP]
 |x::es,a,b=>by
  unfold CP;split
  ·simp
  ·have:=ZA (es:=es) (a:=a) (b:=b)
   grind
theorem X5(l:List LM):∀k,(SB l k).length≤k
 |0=>ab _
 |k+1=>by
  have:=X5 l k;have:=ZA (es:=SB l k) (a:=Oq (gi l k)) (b:=(Cj (SB l k) (Oq (gi l k))).getD []++[gi l k]);show(CP _ _ _).length≤_;omega
theorem nO{α β:Type}[DecidableEq α]:∀{es:List (α×β)} {a c:α} {b:β},Cj (CP es a b) c=if c=a then some b else Cj es c
 |[],a,c,b=>rfl
 |x::es,a,c,b=>by
  unfold CP;by_cases h:a=x.1
  ·unfold Cj
   grind
  ·rw[if_neg h]
   unfold Cj;by_cases d:c=x.1
   ·grind
   ·rw[if_neg d,if_neg d,nO]
theorem Yy(l:List LM)(c:Int×Int):∀k,k≤l.length→(Cj (SB l k) c).getD []=(l.take k).filter fun m=>decide (Oq m=c)
 |0,_=>rfl
 |k+1,hk=>by
  have a:=Yy l c k (by omega);have b:l.take (k+1)=l.take k++[gi l k]:=by
   rw[List.take_add_one];unfold gi;grind
  show(Cj (CP _ _ _) c).getD []=_;rw[nO];grind
theorem b1g(l:List LM)(n:LM)(k:Nat)(a:k≤l.length):((Cj (SB l k) (Oq n)).getD []).any (clash n)=(l.take k).any fun m=>jX m n:=by
 rw[Yy l (Oq n) k a,List.any_filter];congr 1
 funext m
 unfold clash jX Oq;by_cases g:m.d=n.d<;>by_cases f:m.k=n.k<;>by_cases c:n.s<m.e<;>by_cases b:m.s<n.e<;>simp[g,f,c,b]
def kfC(a:Int×Int):List FV:=[.int .i64 a.1,.int .i64 a.2]
def kvC(a:Int×Int):List Value:=[.int .i64 a.1,.int .i64 a.2]
theorem rU:IsKey Tryz.prog 87 kfC kvC:=by
 obtain⟨d,e⟩:∃d,Tryz.prog.underlying 87=some (.struct d):=⟨_,rfl⟩
 refine lw e (by kernel_rfl) (fun a=>rfl) (fun a b=>?_) (fun a=>?_)
 ·have c:some (TypeDesc.struct d)=Tryz.prog.underlying 87:=e.symm
  cases c;show some (decide (a.1=b.1)&&(decide (a.2=b.2)&&true))=_;obtain⟨i,h⟩:=a;obtain⟨b1,b2⟩:=b;by_cases g:i=b1<;>by_cases f:h=b2<;>simp[g,f]
 ·have c:some (TypeDesc.struct d)=Tryz.prog.underlying 87:=e.symm
  cases c;rfl
theorem lW:∀{s:Nat} {gs:Grp},s+gs.length≤k→CZ.under k ((U6 s gs).map (·.2))
 |s,[],_=>trivial
 |s,x::gs,h=>by
  simp only[List.length_cons] at h;exact⟨by show s<k;omega,lW (s:=s+1) (gs:=gs) (by omega)⟩
theorem a0i{gs:Grp}{a:Int×Int}(d:i=Gl gs a)(b:g=qc gs i)(c:hget H (s+i)=some (.vec 64 (cells g) g.length true)):Nb E H nx (U6 s gs) a Dn (.vec (s+i) g.length 0 g.length):=by
 subst d;subst b;have e:=Rw (gs:=gs) (a:=a);cases hl:Cj gs a with
 |some l =>
  rw[e];exact .inl (by rw[X3,hl];rfl)
 |none =>
  rw[hl] at e;rw[e] at c ⊢;exact pP (by rw[X3,hl];rfl) c
theorem c0u{gs:Grp}(b:i=Gl gs (Oq n))(a:g=qc gs i):CP (U6 s gs) (Oq n) (.vec (s+i) (g.length+1) 0 (g.length+1))=U6 s (a8l gs n):=by
 subst b;subst a;unfold a8l;rw[← uN,Rw];simp
theorem c9e{gs:Grp}(b:i=Gl gs (Oq n))(a:g=qc gs i)(j:Nat):(if j=i then .vec 64 (cells (g++[n])) (g.length+1) true else tlG gs j)=tlG (a8l gs n) j:=by
 subst b;subst a;unfold tlG a8l;rw[vT];by_cases h:j=Gl gs (Oq n)
 ·rw[if_pos h,if_pos h,Rw]
  simp
 grind
attribute [local irreducible] Aa Ah Ai Ad AL Ak Bf BK Bj Aj Vm.Done Bv AP Cb Bg D5 DU EF AV CB
def c4e(o:FZ)(p:Ez)(G:Grp):Heap:=(2,Yq kfC (U6 3 G))::(1,.box 45 ((Enc.enc p).map .p))::(0,.box 40 ((Enc.enc o).map .p))::CB 3 1000 (tlG G)
theorem a2e(o:FZ)(p:Ez)(S:UM p)(O:2≤p.bars.length)(ho:o.Ae.length<1000000):Ak env 56 [.agg (Enc.enc o),.agg (Enc.enc p)] (.p (.int .i64 (if p.notes.length>1000 then 4 else Hr o (Ll p) (LW p) p.notes 0))):=by
 have b1:=S.notes;have J:=Tc p (by omega) S.bars;refine Ak.enter (Af (by decide)) Tryz.func56 rfl (by kernel_rfl) (by simp[Tryz.ntmps56]) ?_;by_cases Y:p.notes.length>1000
 ·rw[if_pos Y]
  repeat' (first|refine Fj ?_|(apply a8;rfl)|(intro _;try omega))
  all_goals first|omega|(refine aa ?_;try rfl)
 rw[if_neg Y];obtain⟨E,U⟩:∃E,E=Hr o (Ll p) (LW p) p.notes 0:=⟨_,rfl⟩
 rw[← U]
 repeat' (first|refine a6 J ?_|(apply oS)|refine go1 ?_|refine a7 ?_|(apply a8;rfl)|(intro _;try omega))
 all_goals try omega
 refine cb (ot 64 1000 (OJ (by decide) (OJ (by decide) (OJ (by decide) a6q)))) ?_;apply Ad.Jy (p.notes.length) (fun k=>Hr o (Ll p) (LW p) p.notes k=E) [(2,_),(3,_),(5,_),(6,_),(7,_),(23,_),(24,_)] [] (fun k r=>(25,.p (.int .i64 (k:Int)))::r) (fun k _=>c4e o p (SB p.notes k)) 1003
 ·first|omega|decide
 ·first|omega|decide
 ·exact Ns
 ·refine⟨⟨AZ rfl,trivial,_,rfl,.refl _⟩,⟨AZ rfl,eL _ _,_,rfl,.refl _⟩,⟨AZ rfl,eL _ _,_,rfl,.refl _⟩,la (fun j x=>?_) (by omega) (fun j x=>trivial)⟩
  refine CU (by omega) (CU (by omega) (CU (by omega) ?_));exact Il x
 ·exact U.symm
 ·intro k Z hi
  have e:=Yv (o:=o) (a:=Ll p) (z:=LW p) Z;have C:=b1g p.notes (gi p.notes k) k (by omega);have hgl:=X5 p.notes k;have R:=X5 p.notes (k+1);have M:=Yy p.notes (Oq (gi p.notes k)) k (by omega);have N:a8l (SB p.notes k) (gi p.notes k)=SB p.notes (k+1):=rfl;unfold Xc at e;generalize SB p.notes k=G at *;obtain⟨i,b⟩:∃i,i=Gl G (Oq (gi p.notes k)):=⟨_,rfl⟩
  obtain⟨g,q⟩:∃g,g=qc G i:=⟨_,rfl⟩
  have A:i<1000:=by have:=(mW (es:=G) (a:=Oq (gi p.notes k))).1;omega
  have c:hget (c4e o p G) (3+i)=some (.vec 64 (cells g) g.length true):=CU (by omega) (CU (by omega) (CU (by omega) (by rw[Il A,q];rfl)));have I:∀y,hput (c4e o p G) (3+i) y=(2,Yq kfC (U6 3 G))::(1,.box 45 ((Enc.enc p).map .p))::(0,.box 40 ((Enc.enc o).map .p))::CB 3 1000 (fun j=>if j=i then y else tlG G j):=fun y=>OI (by omega) (OI (by omega) (OI (by omega) (Yn A)))
  have B:g=(Cj G (Oq (gi p.notes k))).getD []:=by rw[q,b,Rw]
  have hgn:g.length≤k:=by
   rw[B,M];exact an (eh _ _) (by rw[av];omega)
  rw[← B] at C;have f:=a6m 101 (gi p.notes k) g true (clash (gi p.notes k)) (by omega) (a1p (gi p.notes k));rw[C] at f;by_cases X:(gi p.notes k).d<0∨(gi p.notes k).d≥o.Ae.length
  ·rw[if_pos X,if_pos (by decide)] at e
   rw[← hi,e]
   repeat' (first|refine b9 ?_|refine Fj ?_|(apply Ah.guard;rfl;rfl)|(apply ei;rfl)|(apply a8;rfl)|(intro _;try omega))
   all_goals first|omega|(refine aa ?_;try rfl)
  rw[if_neg X] at e;by_cases O:(gi p.notes k).k<(gi o.Ae (gi p.notes k).d.toNat).lo∨(gi p.notes k).k>(gi o.Ae (gi p.notes k).d.toNat).hi
  ·rw[if_pos O,if_pos (by decide)] at e
   rw[← hi,e]
   repeat' (first|refine b9 ?_|(apply lj;rfl;rfl;rfl;omega;omega;rfl)|refine Fj ?_|(apply Ah.guard;rfl;rfl)|refine b7 ?_|(apply a8;rfl)|(apply b8;rfl)|(apply c8;rfl)|(intro _;try omega))
   all_goals first|omega|(refine aa ?_;try rfl)
  rw[if_neg O] at e;by_cases W:(gi p.notes k).s<Ll p∨(gi p.notes k).e>LW p
  ·rw[if_pos W,if_pos (by decide)] at e
   rw[← hi,e]
   repeat' (first|refine b9 ?_|(apply lj;rfl;rfl;rfl;omega;omega;rfl)|refine Fj ?_|(apply Ah.guard;rfl;rfl)|refine b7 ?_|(apply a8;rfl)|(apply b8;rfl)|(apply c8;rfl)|(intro _;try omega))
   all_goals first|omega|(refine aa ?_;try rfl)
  rw[if_neg W] at e;by_cases V:(gi p.notes k).s≥(gi p.notes k).e
  ·rw[if_pos V,if_pos (by decide)] at e
   rw[← hi,e]
   repeat' (first|refine b9 ?_|(apply lj;rfl;rfl;rfl;omega;omega;rfl)|refine Fj ?_|(apply Ah.guard;rfl;rfl)|refine b7 ?_|(apply a8;rfl)|(apply c8;rfl)|(intro _;try omega))
   all_goals first|omega|(refine aa ?_;try rfl)
  rw[if_neg V] at e;by_cases u:(p.notes.take k).any (fun m=>jX m (gi p.notes k))=true
  ·rw[if_pos u,if_pos (by decide)] at e
   rw[u] at f;rw[← hi,e]
   repeat' (first|(apply pp (a:=Oq (gi p.notes k)) (z:=Dn) rU;rfl;rfl;rfl;rfl;rfl;rfl;exact a0i b q (by(repeat(first|exact c|(refine EL (by omega) ?_)|(refine CU (by omega) ?_)))))|(apply o0 [1003,3+i] f;rfl;rfl;exact .of_eq rfl;exact eA rfl;exact Dp rfl;exact⟨rfl,(show hget _ (3+i)=some (HB.vec 64 (cells g) g.length true) from by(repeat(first|exact c|(refine EL (by omega) ?_)|(refine CU (by omega) ?_)))),trivial⟩;rfl;(simp;omega);(intro _ K;simp at K;omega))|(apply Aa.makeFunc;rfl;rfl)|refine b9 ?_|(apply lj;rfl;rfl;rfl;omega;omega;rfl)|refine KP ?_|(apply Ah.guard;rfl;rfl)|refine a7 ?_|refine b7 ?_|(apply a8;rfl)|(apply b8;rfl)|(apply c8;rfl)|(intro _;try omega))
   all_goals first|omega|(refine aa ?_;try rfl)
  have u:(p.notes.take k).any (fun m=>jX m (gi p.notes k))=false:=by simpa using u
  rw[u,if_neg (by decide)] at e;rw[u] at f
  repeat' (first|(apply pp (a:=Oq (gi p.notes k)) (z:=Dn) rU;rfl;rfl;rfl;rfl;rfl;rfl;exact a0i b q (by(repeat(first|exact c|(refine EL (by omega) ?_)|(refine CU (by omega) ?_)))))|(apply o0 [1003,3+i] f;rfl;rfl;exact .of_eq rfl;exact eA rfl;exact Dp rfl;exact⟨rfl,(show hget _ (3+i)=some (HB.vec 64 (cells g) g.length true) from by(repeat(first|exact c|(refine EL (by omega) ?_)|(refine CU (by omega) ?_)))),trivial⟩;rfl;(simp;omega);(intro _ K;simp at K;omega))|(apply Aa.makeFunc;rfl;rfl)|(apply rA (a:=Oq (gi p.notes k)) (es:=U6 3 G) (z:=Dn) rU;rfl;rfl;rfl;rfl;rfl;rfl;exact a0i b q (by(repeat(first|exact c|(refine EL (by omega) ?_)|(refine CU (by omega) ?_))));rfl)|(apply pM (l:=g) (a:=gi p.notes k);rfl;((repeat(first|exact c|(refine EL (by omega) ?_)|(refine CU (by omega) ?_))));rfl;rfl;rfl;rfl;rfl;rfl;(intro _ h;cases h);rfl;rfl;rfl;decide;decide;omega;((repeat(first|exact I _|(apply Zm;omega)|(apply OI;omega)))))|(apply sb (a:=Oq (gi p.notes k)) (es:=U6 3 G) rU;rfl;rfl;rfl;rfl;rfl)|refine b9 ?_|(apply lj;rfl;rfl;rfl;omega;omega;rfl)|refine KP ?_|(apply Ah.guard;rfl;rfl)|refine a7 ?_|refine b7 ?_|refine bi ?_|(apply a8;rfl)|(apply b5;rfl)|(apply c8;rfl)|(intro _;try omega))
  all_goals try omega
  refine Aj.normal ⟨e.symm.trans hi,by first|omega|decide,?_,?_⟩
  ·exact Dh
  ·show BN 1003 (c4e o p (SB p.notes (k+1))) _
   rw[← N] at R ⊢;refine⟨⟨AZ rfl,lW (by omega),_,rfl,.of_eq (congrArg (Yq kfC) (c0u b q))⟩,⟨AZ rfl,eL _ _,_,rfl,.refl _⟩,⟨AZ rfl,eL _ _,_,rfl,.refl _⟩,la (fun j x=>?_) (by omega) (fun j x=>trivial)⟩;repeat(first|(refine EL (by omega) ?_)|(refine CU (by omega) ?_))
   rw[Il x];exact congrArg some (c9e b q j)
 ·intro hi
  rw[a1k] at hi;rw[← hi]
  repeat' (first|refine Fj ?_|(apply a8;rfl)|(intro _;try omega))
  all_goals first|omega|(refine aa ?_;try rfl)
end Go.Proofs.YthlffjlbidibdaaGreatDoor
namespace Go.Proofs.YthlffjlbidibdaaGreatDoor
open Go Go.Am Go.Vm Go.Pie
attribute [local irreducible] Aa Ah Ai Ad AL Ak Bf BK Bj Aj Vm.Done Bv AP
attribute [local irreducible] Cb Bg D5 DU EF AV
theorem a8b(o:FZ)(b:SA o)(r:Rgs)(c:r.Ok):Ak env 57 [.agg (Enc.enc o),.agg (Enc.enc r)] (.p (.int .i64 (Vw o r))):=by
 have z:=b.Ae;have y:=b.IW;have G:=c.cp;have C:=c.off;have B:=c.len;have e:=QX o b.sm;rw[b.err] at e;refine Ak.enter (Af (by decide)) Tryz.func57 rfl (by kernel_rfl) (by simp[Tryz.ntmps57]) ?_;by_cases g:r.stops.length=o.Ae.length
 case neg =>
  rw[x9 g]
  repeat' (first|refine a6 e ?_|refine go1 ?_|refine a7 ?_|(apply cn;rfl)|(apply a8;rfl)|(intro _;try omega))
  all_goals first|omega|contradiction|(refine aa ?_;try rfl)
 by_cases d:∀i,i<r.stops.length→gi r.stops i / 2^(gi o.Ae i).stops.length=0
 case neg =>
  obtain⟨i,f⟩:=ej.1 d;obtain⟨f,l⟩:=Classical.not_imp.1 f;rw[b9m g f l];clear d
  repeat' (first|refine a6 e ?_|refine go1 ?_|refine a7 ?_|(apply cn;rfl)|(apply a8;rfl)|(intro _;try omega))
  all_goals try omega
  all_goals try contradiction
  apply Ad.Jy (o.Ae.length) (fun k=>∀i,i<k→gi r.stops i / 2^(gi o.Ae i).stops.length=0) [(2,_),(3,_),(21,_),(22,_)] [(0,_),(1,_)] (fun k r=>(23,.p (.int .i64 (k:Int)))::r) (fun k r=>r) 2
  ·first|omega|decide
  ·first|omega|decide
  ·exact Ns
  ·exact O9
  ·first|(intro _ _;omega)|omega|trivial
  ·intro k s a
   have s3:=b.stops k (by omega);have q:=c.stops k (by omega);by_cases h:gi r.stops k / 2^(gi o.Ae k).stops.length=0
   ·repeat' (first|refine b9 ?_|refine Fj ?_|(apply ld;rfl;rfl;(simp only[IntKind.bits];omega))|(apply a8;rfl)|(apply c8;rfl)|(intro _;try omega))
    all_goals try omega
    all_goals try contradiction
    refine Aj.normal ⟨(all_succ a h),by first|omega|decide,?_,?_⟩
    ·exact Dh
    ·exact DT
   ·repeat' (first|refine b9 ?_|refine Fj ?_|(apply ld;rfl;rfl;(simp only[IntKind.bits];omega))|(apply a8;rfl)|(apply c8;rfl)|(intro _;try omega))
    all_goals first|omega|contradiction|(refine aa ?_;try rfl)
  ·intro a
   exact absurd (a i (by omega)) l
 rw[nP g d]
 repeat' (first|refine a6 e ?_|refine go1 ?_|refine a7 ?_|(apply cn;rfl)|(apply a8;rfl)|(intro _;try omega))
 all_goals try omega
 all_goals try contradiction
 apply Ad.Jy (o.Ae.length) (fun k=>∀i,i<k→gi r.stops i / 2^(gi o.Ae i).stops.length=0) [(2,_),(3,_),(21,_),(22,_)] [(0,_),(1,_)] (fun k r=>(23,.p (.int .i64 (k:Int)))::r) (fun k r=>r) 2
 ·first|omega|decide
 ·first|omega|decide
 ·exact Ns
 ·exact O9
 ·first|(intro _ _;omega)|omega|trivial
 ·intro k s a
  have s3:=b.stops k (by omega);have q:=c.stops k (by omega);have h:=d k (by omega)
  repeat' (first|refine b9 ?_|refine Fj ?_|(apply ld;rfl;rfl;(simp only[IntKind.bits];omega))|(apply a8;rfl)|(apply c8;rfl)|(intro _;try omega))
  all_goals try omega
  all_goals try contradiction
  refine Aj.normal ⟨(fun j A=>d j (by omega)),by first|omega|decide,?_,?_⟩
  ·exact Dh
  ·exact DT
 ·intro a
  by_cases x:r.cp / 2^o.IW.length=0
  ·by_cases u:r.off / 2^o.Ae.length=0
   ·rw[if_neg (by omega)]
    repeat' (first|refine Fj ?_|(apply Ah.guard;rfl;rfl)|(apply ld;rfl;rfl;(simp only[IntKind.bits];omega))|(apply a8;rfl)|(intro _;try omega))
    all_goals first|omega|contradiction|(refine aa ?_;try rfl)
   ·rw[if_pos (.inr u)]
    repeat' (first|refine Fj ?_|(apply Ah.guard;rfl;rfl)|(apply ld;rfl;rfl;(simp only[IntKind.bits];omega))|(apply a8;rfl)|(intro _;try omega))
    all_goals first|omega|contradiction|(refine aa ?_;try rfl)
  ·rw[if_pos (.inl x)]
   repeat' (first|refine Fj ?_|(apply Ah.guard;rfl;rfl)|(apply ld;rfl;rfl;(simp only[IntKind.bits];omega))|(apply ei;rfl)|(apply a8;rfl)|(intro _;try omega))
   all_goals first|omega|contradiction|(refine aa ?_;try rfl)
theorem lX(h:QE l=0):2≤l.length:=by
 unfold QE at h;omega
theorem KR(o:FZ)(p:Ez)(C:RD o)(q:UM p):Ak env 18 [.agg (Enc.enc o),.agg (Enc.enc p)] (.p (.int .i64 (OT o p))):=by
 have f:=QX o C;have g:=b0l p.bars q.bars;have b3:=q.sets;unfold OT WL;refine Ak.enter (Af (by decide)) Tryz.func18 rfl (by kernel_rfl) (by simp[Tryz.ntmps18]) ?_;by_cases x:Ur o=0
 case neg =>
  rw[if_pos x]
  repeat' (first|refine a6 f ?_|refine go1 ?_|refine a7 ?_|(apply a8;rfl)|(intro _;try omega))
  all_goals first|omega|contradiction|(refine aa ?_;try rfl)
 rw[if_neg (fun h=>h x)];rw[x] at f;have k1:=c4m C x;have O:=k1.Ae;by_cases u:QE p.bars=0
 case neg =>
  rw[if_pos u]
  repeat' (first|refine a6 f ?_|refine a6 g ?_|refine go1 ?_|refine a7 ?_|(apply cn;rfl)|(apply a8;rfl)|(intro _;try omega))
  all_goals first|omega|contradiction|(refine aa ?_;try rfl)
 rw[if_neg (fun h=>h u)];rw[u] at g;have M:=lX u;have d:=a2e o p q M (by omega);by_cases s:p.notes.length>1000
 ·rw[if_pos s] at d
  rw[if_pos s]
  repeat' (first|refine a6 f ?_|refine a6 g ?_|refine a6 d ?_|refine go1 ?_|refine a7 ?_|(apply ei;rfl)|(apply cn;rfl))
  all_goals first|omega|contradiction|(refine aa ?_;try rfl)
 rw[if_neg s] at d;rw[if_neg s];by_cases B:Hr o (Ll p) (LW p) p.notes 0=0
 case neg =>
  rw[if_pos B]
  repeat' (first|refine a6 f ?_|refine a6 g ?_|refine a6 d ?_|refine go1 ?_|refine a7 ?_|(apply cn;rfl)|(apply a8;rfl)|(intro _;try omega))
  all_goals first|omega|contradiction|(refine aa ?_;try rfl)
 rw[if_neg (fun h=>h B)];rw[B] at d;by_cases J:p.sets.length>100
 ·rw[if_pos J]
  repeat' (first|refine a6 f ?_|refine a6 g ?_|refine a6 d ?_|refine go1 ?_|refine a7 ?_|(apply cn;rfl)|(apply a8;rfl)|(intro _;try omega))
  all_goals first|omega|contradiction|(refine aa ?_;try rfl)
 rw[if_neg J];have b1:=q.bars;obtain⟨E,K⟩:∃E,E=QD o p.bars.length p.sets 0:=⟨_,rfl⟩
 rw[← K]
 repeat' (first|refine a6 f ?_|refine a6 g ?_|refine a6 d ?_|refine go1 ?_|refine a7 ?_|(apply cn;rfl)|(apply a8;rfl)|(intro _;try omega))
 all_goals try omega
 all_goals try contradiction
 apply Ad.Jy (p.sets.length) (fun k=>QD o p.bars.length p.sets k=E) [(2,_),(3,_),(33,_),(34,_)] [(0,_),(1,_)] (fun k r=>(35,.p (.int .i64 (k:Int)))::r) (fun k r=>r) 2
 ·first|omega|decide
 ·first|omega|decide
 ·exact Ns
 ·exact O9
 ·first|(intro _ _;omega)|omega|trivial
 ·intro k G c
  have e:=gq (o:=o) (nb:=p.bars.length) G;have j:=a8b o k1 (gi p.sets k).reg (q.reg k G);have a:0<k→(k:Int)-1=((k-1:Nat):Int):=fun h=>by omega
  unfold OB at e;by_cases I:(gi p.sets k).bar<0∨(gi p.sets k).bar≥(p.bars.length:Int)-1
  ·rw[if_pos I,if_pos (by decide)] at e
   rw[← c,e]
   repeat' (first|refine b9 ?_|refine Fj ?_|(apply Ah.guard;rfl;rfl)|(apply a8;rfl)|(apply b8;rfl)|(apply c8;rfl)|(intro _;try omega))
   all_goals first|omega|(refine aa ?_;try rfl)
  rw[if_neg I] at e;by_cases A:0<k∧(gi p.sets k).bar=(gi p.sets (k-1)).bar
  ·rw[if_pos A,if_pos (by decide)] at e
   rw[← c,e]
   repeat' (first|(apply dl (l:=p.sets) (i:=k-1);rfl;exact congrArg (fun b=>some (PV.p (.int .i64 b))) (a A.1);rfl;omega;rfl)|refine b9 ?_|refine KP ?_|(apply Ah.guard;rfl;rfl)|(apply Ai.guard;rfl;rfl)|refine a7 ?_|(apply a8;rfl)|(apply c8;rfl)|(intro _;try omega))
   all_goals first|omega|(refine aa ?_;try rfl)
  rw[if_neg A] at e;by_cases z:0<k∧(gi p.sets k).bar<(gi p.sets (k-1)).bar
  ·rw[if_pos z,if_pos (by decide)] at e
   rw[← c,e]
   repeat' (first|(apply dl (l:=p.sets) (i:=k-1);rfl;exact congrArg (fun b=>some (PV.p (.int .i64 b))) (a z.1);rfl;omega;rfl)|refine b9 ?_|refine KP ?_|(apply Ah.guard;rfl;rfl)|(apply Ai.guard;rfl;rfl)|refine a7 ?_|(apply a8;rfl)|(apply c8;rfl)|(intro _;try omega))
   all_goals first|omega|(refine aa ?_;try rfl)
  rw[if_neg z] at e;by_cases y:Vw o (gi p.sets k).reg=0
  case neg =>
   rw[if_pos y] at e;rw[← c,e];by_cases N:k=0
   ·repeat' (first|refine a6 j ?_|refine b9 ?_|refine KP ?_|(apply Ah.guard;rfl;rfl)|(apply Ai.guard;rfl;rfl)|refine a7 ?_|(apply a8;rfl)|(apply b5;rfl)|(apply c8;rfl)|(intro _;try omega))
    all_goals first|omega|contradiction|(refine aa ?_;try rfl)
   ·repeat' (first|refine a6 j ?_|(apply dl (l:=p.sets) (i:=k-1);rfl;exact congrArg (fun b=>some (PV.p (.int .i64 b))) (a (by omega));rfl;omega;rfl)|refine b9 ?_|refine KP ?_|(apply Ah.guard;rfl;rfl)|(apply Ai.guard;rfl;rfl)|refine a7 ?_|(apply a8;rfl)|(apply c8;rfl)|(intro _;try omega))
    all_goals first|omega|contradiction|(refine aa ?_;try rfl)
  rw[if_neg (fun h=>h y)] at e;rw[y] at j;by_cases N:k=0
  ·repeat' (first|refine a6 j ?_|refine b9 ?_|refine KP ?_|(apply Ah.guard;rfl;rfl)|(apply Ai.guard;rfl;rfl)|refine a7 ?_|(apply a8;rfl)|(apply b5;rfl)|(apply c8;rfl)|(intro _;try omega))
   all_goals try omega
   all_goals try contradiction
   refine Aj.normal ⟨(e.symm.trans c),by first|omega|decide,?_,?_⟩
   ·exact Dh
   ·exact DT
  ·repeat' (first|refine a6 j ?_|(apply dl (l:=p.sets) (i:=k-1);rfl;exact congrArg (fun b=>some (PV.p (.int .i64 b))) (a (by omega));rfl;omega;rfl)|refine b9 ?_|refine KP ?_|(apply Ah.guard;rfl;rfl)|(apply Ai.guard;rfl;rfl)|refine a7 ?_|(apply a8;rfl)|(apply b5;rfl)|(apply c8;rfl)|(intro _;try omega))
   all_goals try omega
   all_goals try contradiction
   refine Aj.normal ⟨(e.symm.trans c),by first|omega|decide,?_,?_⟩
   ·exact Dh
   ·exact DT
 ·intro c
  rw[oP] at c;rw[← c]
  repeat' (first|refine Fj ?_|(apply a8;rfl)|(intro _;try omega))
  all_goals first|omega|(refine aa ?_;try rfl)
noncomputable def atE(o:FZ)(p:Ez)(t:Int):Int:=if OT o p≠0 then OT o p else if t<Ll p∨t≥LW p then 3 else 0
theorem b1i(h:OT o p=0):2≤p.bars.length:=by
 unfold OT WL at h;split at h
 ·omega
 split at h
 ·omega
 rename_i a;exact lX (bx a)
theorem fO(o:FZ)(p:Ez)(f:RD o)(d:UM p)(t:Int):Ak env 31 [.agg (Enc.enc o),.agg (Enc.enc p),.int .i64 t] (.p (.int .i64 (atE o p t))):=by
 have b:=KR o p f d;unfold atE;by_cases c:OT o p=0
 case neg =>
  rw[if_pos c];refine Ak.enter (Af (by decide)) Tryz.func31 rfl (by kernel_rfl) (by simp[Tryz.ntmps31]) ?_
  repeat' (first|refine a6 b ?_|refine go1 ?_|refine a7 ?_|(apply a8;rfl)|(intro _;try omega))
  all_goals first|omega|contradiction|(refine aa ?_;try rfl)
 have a:=Tc p (by have:=b1i c;omega) d.bars;rw[if_neg (fun h=>h c)];rw[c] at b;by_cases e:t<Ll p∨t≥LW p
 ·rw[if_pos e]
  refine Ak.enter (Af (by decide)) Tryz.func31 rfl (by kernel_rfl) (by simp[Tryz.ntmps31]) ?_
  repeat' (first|refine a6 b ?_|refine a6 a ?_|refine Fh ?_|(apply Ah.guard;rfl;rfl)|refine a7 ?_|(apply ei;rfl)|(apply cn;rfl)|(apply a8;rfl)|(intro _;try omega))
  all_goals first|omega|contradiction|(refine aa ?_;try rfl)
 ·rw[if_neg e]
  refine Ak.enter (Af (by decide)) Tryz.func31 rfl (by kernel_rfl) (by simp[Tryz.ntmps31]) ?_
  repeat' (first|refine a6 b ?_|refine a6 a ?_|refine Fh ?_|(apply Ah.guard;rfl;rfl)|refine a7 ?_|(apply cn;rfl)|(apply a8;rfl)|(intro _;try omega))
  all_goals first|omega|contradiction|(refine aa ?_;try rfl)
end Go.Proofs.YthlffjlbidibdaaGreatDoor
namespace Go.Proofs.YthlffjlbidibdaaGreatDoor
open Go Go.Am Go.Vm
attribute [local irreducible] Aa Ah Ai Ad AL Ak Bf BK Bj Aj Vm.Done Bv AP
def b6g(o:FZ):Rgs:=⟨List.replicate o.Ae.length 0,0,0⟩
theorem rE(l:List Nat)(a:0<l.length)(b:l.length<1000000):Bf env 164 [.lst 104 (cells l) l.length] 104 (cells l) l.length false:=by
 refine Bf.enter (Af (by decide)) Tryz.func164 rfl (by kernel_rfl) (by simp) ?_
 repeat' (first|(apply mN;rfl;rfl;rfl;exact a)|refine lP ?_|refine go1 ?_|refine bi ?_|(apply cn;rfl))
 exact Bv.ret rfl rfl rfl rfl
def d3j(o:FZ)(k:Nat):Nat:=2^(gi o.Ae k).stops.length-1
def d8w(o:FZ):Rgs:=⟨c7b (d3j o) (List.replicate o.Ae.length 0) o.Ae.length,2^o.IW.length-1,0⟩
def d7w(r:Rgs)(d s:Nat):Rgs:=⟨r.stops.set d (gi r.stops d ||| 2^s),r.cp,r.off⟩
def c8u(a b:Rgs)(k:Nat):Nat:=gi a.stops k ||| gi b.stops k
def d6w(a b:Rgs):Rgs:=⟨c7b (c8u a b) a.stops a.stops.length,a.cp ||| b.cp,a.off ||| b.off⟩
end Go.Proofs.YthlffjlbidibdaaGreatDoor
