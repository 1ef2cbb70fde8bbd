/-
  Texts of a proof, merged (AmC). Conditions: in each statement.
-/
import Derived.OrdersIn
import Derived.Test.YthlffjlbidibdaaGreatDoorKHb
set_option linter.unusedSimpArgs false
set_option autoImplicit true
set_option relaxedAutoImplicit true
set_option linter.unusedVariables false
set_option linter.unusedSectionVars false
set_option maxRecDepth 100000
set_option maxHeartbeats 8000000
abbrev aq:=@Nat.lt_or_ge
abbrev bR:=@Classical.not_not
abbrev cv:=@List.eq_nil_iff_forall_not_mem
abbrev cx:=@Bool.and_eq_true
abbrev cN:=@List.mem_append_left
abbrev ej:=@Classical.not_forall
abbrev el:=@List.filter_cons
abbrev fp:=@Nat.lt_trichotomy
abbrev gE:=@List.filter_congr
abbrev gR:=@Option.isSome_iff_exists
abbrev gS:=@List.nodup_range
abbrev ir:=@Array.mem_of_getElem?
abbrev iN:=@Bool.or_eq_true_iff
abbrev iS:=@List.filter_eq_self
namespace Go.Am
section
variable {P:Program}{G:List Nat}{ds:List Deferred}{rf:Option Nat}{nn:Nat}
structure AQ(m m':Mem):Prop where
 size:m.size≤m'.size
 low:m'.low≤m.low
 keep:∀b,b<m.size→b<m'.low→m'.get b=m.get b
 ro:∀b,b<m.size→m.ro b=true→m'.get b=m.get b
 ro':∀b,b<m.size→m'.ro b=m.ro b
theorem AQ.refl(m:Mem):AQ m m:=⟨ab _,ab _,fun _ _ _=>rfl,fun _ _ _=>rfl,fun _ _=>rfl⟩
theorem AQ.trans(h:AQ m m')(k:AQ m' c):AQ m c:=by
 refine⟨an h.size k.size,an k.low h.low,fun b a d=>?_,fun b a e=>?_,fun b a=>?_⟩
 ·rw[k.keep b (ag a h.size) d,h.keep b a (ag d k.low)]
 ·rw[k.ro b (ag a h.size) (by rw[h.ro' b a];omega),h.ro b a e]
 ·rw[k.ro' b (ag a h.size),h.ro' b a]
theorem AQ.alloc(m:Mem)(x:G8):AQ m (m.alloc x):=by
 have hget:∀b,b<m.size→(m.alloc x).get b=m.get b:=fun b a=>by rw[dZ,if_neg (by omega)]
 exact⟨cT _,ab _,fun b a _=>hget b a,fun b a _=>hget b a,fun b a=>FQ (hget b a)⟩
theorem AQ.put(h:m.ro b=false)(d:x.ro=false):AQ m (m.put b x):=by
 have hget:∀c,c≠b→(m.put b x).get c=m.get c:=fun c a=>by rw[cg,if_neg (fun e=>a e.symm)]
 refine⟨ab _,co _ _,fun c a g=>hget c fun e=>?_,fun c a f=>hget c fun e=>?_,fun c a=>?_⟩
 ·subst e;have:(m.put c x).low≤c:=cw _ _;omega
 ·grind
 ·by_cases e:c=b
  ·subst e;rw[h];unfold Mem.ro;rw[cg,if_pos rfl];omega
  ·exact FQ (hget c e)
theorem Oh(h:Gm m a l=some m'):AQ m m':=by
 unfold Gm at h;split at h
 ·rename_i c e g b
  split at h
  ·cases h;exact AQ.put (Mem.Qz b) rfl
  grind
 grind
theorem XY(h:BR m e size l n s=some (v,m')):AQ m m':=by
 unfold BR at h;split at h
 ·split at h
  ·cases h;exact AQ.refl _
  ·cases h;exact AQ.alloc _ _
 ·split at h
  ·cases h;exact AQ.refl _
  ·cases h;exact AQ.alloc _ _
 ·split at h
  ·rename_i b d c a
   split at h
   ·split at h
    ·cases h;exact AQ.put (Mem.Qz a) rfl
    grind
   grind
  grind
 grind
theorem qV(h:Jq P a Bo m=some (v,m')):AQ m m':=by
 unfold Jq at h
 repeat' split at h
 all_goals first
  |exact XY h
  |cases h
theorem a0z(h:kU P c Bo m=some (v,m')):AQ m m':=by
 unfold kU at h;simp only at h
 repeat' split at h
 all_goals first
  |(cases h;exact AQ.refl _)
  |(rw[ae] at h;obtain⟨m1,b,a⟩:=h;cases a;exact Oh b)
  |cases h
theorem wL(h:YA P c Bo m=some (v,m')):AQ m m':=by
 unfold YA at h
 repeat' split at h
 all_goals first
  |(cases h;exact AQ.refl _)
  |(rw[ae] at h;obtain⟨m1,b,a⟩:=h;cases a;exact Oh b)
  |cases h
theorem tJ(h:JH P t x k v m=some m'):AQ m m':=by
 unfold JH at h;split at h
 ·split at h
  ·rename_i c a b
   repeat' split at h
   all_goals first
    |(cases h;exact AQ.put (by unfold Mem.ro;rw[b];rfl) rfl)
    |cases h
  grind
 grind
theorem zQ(h:Vh P t x k m=some (v,m')):AQ m m':=by
 unfold Vh at h;split at h
 ·split at h
  ·rename_i c a b
   repeat' split at h
   all_goals first
    |(cases h;exact AQ.put (by unfold Mem.ro;rw[b];rfl) rfl)
    |cases h
  grind
 grind
theorem XO(h:Jj x s v m=some m'):AQ m m':=by
 unfold Jj at h;split at h
 ·split at h
  ·rename_i c a b
   repeat' split at h
   all_goals first
    |(cases h;exact AQ.put (by unfold Mem.ro;rw[b];rfl) rfl)
    |cases h
  grind
 grind
theorem a0s(h:Zn P s d x m=some (v,m')):AQ m m':=by
 unfold Zn at h
 repeat' split at h
 all_goals first
  |(cases h;exact AQ.alloc _ _)
  |(cases h;exact AQ.refl _)
  |cases h
theorem b8t(h:F5 P ρ o m=some (v,m')):AQ m m':=by
 unfold F5 at h;split at h
 all_goals(repeat' split at h)
 all_goals first
  |(cases h;exact AQ.refl _)
  |(cases h;exact AQ.alloc _ _)
  |exact qV h
  |exact a0z h
  |exact wL h
  |exact a0s h
  |exact zQ h
  |(rw[ae] at h;obtain⟨u,a,b⟩:=h;cases b;first
   |exact AQ.refl _
   |exact AQ.alloc _ _
   |exact tJ a
   |exact XO a
   |(unfold Nj at a;(repeat' split at a)<;>first|exact Oh a|cases a))
  |cases h
theorem a1h(b:RV P a=true)(m m2:Mem):bU P a Bo m=bU P a Bo m2:=by
 unfold RV at b;unfold bU;grind
theorem uQ(f:DW P o.op=true)(h:F5 P ρ o m=some (v,m'))(m2:Mem):m'=m∧F5 P ρ o m2=some (v,m2):=by
 obtain⟨n,op,p,pos,i,guard⟩:=o;have g:∀{x:Option Value},x.map (fun v=>(v,m))=some (v,m')→m'=m∧x.map (fun v=>(v,m2))=some (v,m2):=fun{x} h=>by
  rw[ae] at h;grind
 simp only at f;cases op<;>simp only[DW,Bool.false_eq_true] at f<;>simp only[F5] at h ⊢
 case move=>grind
 case assign=>grind
 case makeFunc fn fs cs =>
  cases fn<;>simp only[reduceCtorEq] at h ⊢
  grind
 case pick c a b =>
  split at h
  ·grind
  grind
 case convert s d x =>
  grind
 case buildSlice t len ps =>
  have l:len=0:=by grind
  subst l;simp only[if_true] at h ⊢
  repeat' split at h
  all_goals first|(cases h;refine⟨rfl,?_⟩;grind)|cases h
 case call c =>
  obtain⟨e,k,q⟩:=c;cases e<;>simp only[reduceCtorEq,Bool.false_eq_true] at f h ⊢
  rename_i b;cases b<;>simp only[reduceCtorEq,Bool.false_eq_true] at f h ⊢
  case cap=>grind
  case len=>rw[a1h f m m2] at h;grind
  case max=>split at h<;>rename_i j<;>first|grind|cases h
  grind
 all_goals first
  |exact g h
  |(split at h<;>rename_i j<;>first|(rw[if_pos j];grind)|(cases h;done))
  |(repeat' split at h
    all_goals first
     |(cases h;refine⟨rfl,?_⟩;simp_all;done)
     |(cases h;exact⟨rfl,rfl⟩)
     |exact g h
     |cases h)
end
section
variable {P:Program}{G:List Nat}{ds:List Deferred}{rf:Option Nat}{nn:Nat}
def Dl(call:E8):Prop:=∀f Bo m v m',call f Bo m=some (v,m')→AQ m m'
theorem KA(a:Dl call)(h:BX P call ρ o m=some (v,m')):AQ m m':=by
 unfold BX at h;split at h
 ·split at h
  ·exact a _ _ _ _ _ h
  grind
 ·exact b8t h
def cut(ι:BJ)(n:Nat):BJ:=fun b=>if b<n then ι b else none
theorem EK(h:b<n):cut ι n b=ι b:=if_pos h
theorem Dc(h:cut ι n b=some ib):b<n∧ι b=some ib:=by
 unfold cut at h;grind
def Fp(m:Mem)(x:Nat):Mem:={ m with low:=x }
theorem DR.low(a:DR P G ι m w)(x:Nat):DR P G ι (Fp m x) w:=⟨a.dom,a.blk,a.inj,a.glob⟩
theorem DR.extend(d:DR P G ι m w)(i:m.size≤m2.size)(hget:∀b,b<m.size→m2.get b=m.get b):DR P G ι m2 w:=by
 have j:Le ι m.gen ι m2.gen:=fun b a c=>⟨by rw[CY (hget b (d.dom b a c).1)];simp,a,c,fun _=>rfl⟩
 refine⟨fun b a c=>⟨ag (d.dom b a c).1 i,(d.dom b a c).2⟩,fun b a c=>?_,fun b n a e c g q=>?_,fun k p=>?_⟩
 ·rw[hget b (d.dom b a c).1];exact(d.blk b a c).mono j
 ·rcases d.inj b n a e c g q with h|⟨l,o⟩
  ·omega
  ·exact .inr ⟨by rw[FQ (hget b (d.dom b a c).1)];omega,by rw[FQ (hget n (d.dom n e g).1)];omega⟩
 ·obtain⟨a,l,o,r,u,s⟩:=d.glob k p
  have f:=(d.dom k a l).1;exact⟨a,l,o,⟨r.1,by grind⟩,by rw[CY (hget k f)];omega,by rw[FQ (hget k f)];omega⟩
theorem DR.world(a:DR P G ι m w)(f:w.heap.size≤w'.heap.size)(g:∀c,c<w.heap.size→w'.heap[c]?=w.heap[c]?):DR P G ι m w' :=
 ⟨fun b d e=>⟨(a.dom b d e).1,ag (a.dom b d e).2 f⟩,fun b d e=>by rw[g _ (a.dom b d e).2];exact a.blk b d e,a.inj,a.glob⟩
theorem DR.congr(c:DR P G ι m w)(h:∀b,a b=ι b):DR P G a m w:=by
 have:a=ι:=funext h;grind
theorem Zj(ops:Array Oper):∀(l:List Oper) (acc:Array Nat),(∀(j:Nat) o,l[j]?=some o→∀k,((l.foldl (fun acc o=>acc.push (o.after.foldl (fun s e=>if Region.binds .any e then s ||| 2^e.on ||| acc.getD e.on 0 else s) 0)) acc).getD (acc.size+j) 0).testBit k=true →
 ∃e∈o.after,Region.binds .any e=true∧(e.on=k∨((l.foldl (fun acc o=>acc.push (o.after.foldl (fun s e=>if Region.binds .any e then s ||| 2^e.on ||| acc.getD e.on 0 else s) 0)) acc).getD e.on 0).testBit k=true)) ∧
 (∀j,j<acc.size→(l.foldl (fun acc o=>acc.push (o.after.foldl (fun s e=>if Region.binds .any e then s ||| 2^e.on ||| acc.getD e.on 0 else s) 0)) acc).getD j 0=acc.getD j 0)
 |[],acc=>⟨fun j o h=>by simp,fun j _=>rfl⟩
 |o::l,acc=>by
  generalize hf:(fun(acc:Array Nat) (o:Oper)=>acc.push (o.after.foldl (fun s e=>if Region.binds .any e then s ||| 2^e.on ||| acc.getD e.on 0 else s) 0))=F;have f:=Zj ops l (F acc o);rw[hf] at f;have n:(F acc o).size=acc.size+1:=by grind
  simp only[List.foldl_cons];have a:∀j,j<acc.size→(List.foldl F (F acc o) l).getD j 0=acc.getD j 0:=fun j c=>by
   rw[f.2 j (by omega),← hf];simp[Array.getElem?_push,Nat.ne_of_lt c]
  refine⟨fun j p c k g=>?_,a⟩;cases j with
  |zero =>
   simp only[List.getElem?_cons_zero,Option.some.injEq] at c;subst c;have i:(List.foldl F (F acc o) l).getD (acc.size+0) 0=o.after.foldl (fun s e=>if Region.binds .any e then s ||| 2^e.on ||| acc.getD e.on 0 else s) 0:=by
    rw[f.2 _ (by omega),← hf];simp
   rw[i] at g;have m:∀(b:List Edge) (s:Nat),(b.foldl (fun s e=>if Region.binds .any e then s ||| 2^e.on ||| acc.getD e.on 0 else s) s).testBit k=true →
    s.testBit k=true∨∃e∈b,Region.binds .any e=true∧(e.on=k∨(acc.getD e.on 0).testBit k=true):=fun b=>by
    induction b with
    |nil=>simp
    |cons e b d =>
     intro s h;rw[List.foldl_cons] at h;rcases d _ h with h|⟨r,i,q⟩
     ·split at h
      ·grind
      grind
     grind
   rw[← cI] at g;grind
  |succ j =>
   grind
theorem a1y(a:ops[i]?=some o)(h:((Region.before ops).getD i 0).testBit k=true) :
 ∃e∈o.after,Region.binds .any e=true∧(e.on=k∨((Region.before ops).getD e.on 0).testBit k=true):=by
 have:=(Zj ops ops.toList #[]).1 i o (by grind) k;unfold Region.before at h ⊢;grind
def Closed(ops:Array Oper)(listed:Array Bool):Prop :=
 ∀(i:Nat) (o:Oper),ops[i]?=some o→listed.getD i false=true→∀e∈o.after,Region.binds .any e=true→listed.getD e.on false=true
theorem EC(g:Closed ops a)(b:∀(i:Nat) (o:Oper),ops[i]?=some o→∀e∈o.after,Region.binds .any e=true→e.on<i):∀(i:Nat) (o:Oper) (k:Nat),ops[i]?=some o →
 (∀e∈o.after,Region.binds .any e=true→a.getD e.on false=true)→((Region.before ops).getD i 0).testBit k=true→a.getD k false=true:=by
 intro i
 induction i using Nat.strongRecOn with
 |_ i p =>
  intro o k l d c;obtain⟨e,m,n,h⟩:=a1y l c;rcases h with rfl|h
  ·grind
  ·have f:=b i o l e m n
   cases hoe:ops[e.on]? with
   |none =>
    grind
   |some j=>exact p e.on f j k hoe (g e.on j hoe (d e m n)) h
theorem V7:∀(l:List Oper) (k:Nat) (s s':St),I9 P call ops k l s=some s' →
 ∃S:Nat→St,S k=s∧S (k+l.length)=s'∧∀(i:Nat) (o:Oper),l[i]?=some o→NG P call ops (k+i) o (S (k+i))=some (S (k+i+1))
 |[],k,s,s',h=>by
  cases h;exact⟨fun _=>s,rfl,rfl,fun i o h=>by grind⟩
 |o::l,k,s,s',h=>by
  simp only[I9] at h;cases h1:NG P call ops k o s with
  |none=>grind
  |some s1 =>
   rw[h1] at h;obtain⟨S,e,d,c⟩:=V7 l (k+1) s1 s' h;refine⟨fun j=>if j≤k then s else S j,by simp,?_,fun i a b=>?_⟩
   ·grind
   grind
theorem Ic(h:NG P call ops i o s=some s2) :
 (Region.wanted o (EM ops s.t)=false∧s2.t=IE s.t o.dst undef∧∃x,s2.m=Fp s.m x∧x≤s.m.low∧x≤s.m.size) ∨
 (Region.wanted o (EM ops s.t)=true∧∃v m',BX P call (ev s.t) o (Fp s.m s.m.size)=some (v,m')∧s2.t=IE s.t o.dst v∧s2.m=Fp m' (min s.m.low m'.low) ∧
  (barrier P ops i=true∨s.m.size≤m'.low∨(rG P ops i=true∧Q8 ops i s.t=true)∨(Ru P ops i=true∧NP ops i s.t s.m m'=true))):=by
 unfold NG JC at h;split at h
 ·rename_i d a
  split at h
  ·rename_i e
   cases h;split at a
   ·rename_i b
    refine .inr ⟨b,?_⟩;unfold uU at a;split at a
    ·rename_i v m' c
     cases a;refine⟨v,m',c,rfl,rfl,?_⟩;grind
    grind
   ·rename_i b
    cases a;exact .inl ⟨by grind,rfl,_,rfl,co _ _,cw _ _⟩
  grind
 grind
theorem Ie(h:H6 ops=true):(∀(i:Nat) (o:Oper),ops[i]?=some o→∀e∈o.after,Region.binds .any e=true→e.on<i) ∧
 (∀(i:Nat) (oi:Oper) (d:Nat),ops[i]?=some oi→oi.dst=some d→∀(j:Nat) (oj:Oper),ops[j]?=some oj→j≠i →
  oj.dst≠some d∧(d∈oj.looksAt ops→(i<j→((Region.before ops).getD j 0).testBit i=true)∧(j<i→((Region.before ops).getD i 0).testBit j=true))):=by
 unfold H6 at h;simp only[List.all_eq_true,List.mem_range] at h;have lt:∀{i:Nat} {o:Oper},ops[i]?=some o→i<ops.size:=fun a=>(al.1 a).1
 refine⟨fun i o a e c k=>?_,fun i oi d a g j oj f b=>?_⟩
 ·have:=h i (lt a)
  rw[a] at this;simp only[Bool.and_eq_true] at this;have l:=bl.1 this.1.2 e c;grind
 grind
def EP(P:Program)(ops:Array Oper)(i:Nat):Bool:=match ops[i]? with|some o=>!DW P o.op&&!GN o.op&&!Oe o.op&&(barrier P ops i||rG P ops i||Ru P ops i)|none=>false
def touches(P:Program)(ops:Array Oper)(i:Nat):Bool:=match ops[i]? with|some o=>!DW P o.op&&!GN o.op|none=>false
def IG(ops:Array Oper)(i:Nat):Bool:=match ops[i]? with|some o=>Oe o.op|none=>false
theorem Vr(h:EP P ops i=true):IG ops i=false:=by
 unfold EP at h;unfold IG;cases ho:ops[i]? with
 |none=>rfl
 |some o =>
  grind
theorem Jb(h:EP P ops i=true):touches P ops i=true∧∀j,j≠i→touches P ops j=true →
 (j<i→IG ops j=true∨((Region.before ops).getD i 0).testBit j=true)∧(i<j→((Region.before ops).getD j 0).testBit i=true):=by
 unfold EP at h;cases ho:ops[i]? with
 |none=>grind
 |some o =>
  rw[ho] at h;simp only[Bool.and_eq_true] at h;refine⟨by unfold touches;grind,fun j b d=>?_⟩;unfold touches at d;cases hoj:ops[j]? with
  |none=>grind
  |some f =>
   rw[hoj] at d;have a:=(al.1 hoj).1;rcases iN.1 h.2 with c|h2
   rcases iN.1 c with h2|h2
   ·unfold barrier at h2
    grind
   ·unfold rG at h2
    simp only[Bool.and_eq_true,List.all_eq_true,List.mem_range] at h2;have h3:=h2.2 j a;simp only[hoj,Option.map_some,Option.getD_some,Bool.or_eq_true,beq_iff_eq,b,false_or] at h3;simp only[Bool.false_eq_true,false_or,ordered,Bool.and_eq_true,decide_eq_true_eq] at h3;refine⟨fun e=>?_,fun e=>?_⟩
    ·rcases h3 with h3|h3
     ·exact .inl (by unfold IG;grind)
     grind
    grind
   ·unfold Ru at h2
    simp only[List.all_eq_true,List.mem_range] at h2;have h3:=h2 j a;simp only[Bool.false_eq_true,false_or,ordered] at h3;grind
theorem tH(h:barrier P ops i=true)(d:ops[j]?=some b)(a:GN b.op=true)(c:j≠i):ordered ops i j=true:=by
 unfold barrier at h;simp only[List.all_eq_true,List.mem_range] at h;have f:=h j (al.1 d).1;have e:DW P b.op=false:=by
  cases hop:b.op<;>rw[hop] at a<;>first|rfl|cases a
 simp only[d,Option.map_some,Option.getD_some,Bool.or_eq_true,beq_iff_eq,c,false_or,e,Bool.false_eq_true] at f;assumption
theorem uf(h:barrier P ops i=true∨Ru P ops i=true)(e:IG ops j=true)(b:touches P ops j=true)(f:j<i):((Region.before ops).getD i 0).testBit j=true:=by
 unfold touches at b;cases hoj:ops[j]? with
 |none=>grind
 |some d =>
  have a:=(al.1 hoj).1;rcases h with h2|h2
  ·unfold barrier at h2
   grind
  ·unfold Ru at h2
   simp only[List.all_eq_true,List.mem_range] at h2;have c:=h2 j a;simp only[Bool.false_eq_true,false_or,ordered] at c;grind
end
section
variable {P:Program}{G:List Nat}{ds:List Deferred}{rf:Option Nat}{nn:Nat}
structure Trace(P:Program)(call:E8)(ops:Array Oper)(S:Nat→St):Prop where
 step:∀(i:Nat) (o:Oper),ops[i]?=some o→NG P call ops i o (S i)=some (S (i+1))
section
variable {call:E8}{ops:Array Oper}{S:Nat→St}
theorem wJ{p:Nat→Prop}(base:p i)(step:∀j,i≤j→p j→p (j+1))(j:Nat)(h:i≤j):p j:=by
 induction j with
 |zero=>grind
 |succ j a =>
  grind
theorem getOp(h:i<ops.size):∃o,ops[i]?=some o :=by simp_all
theorem Trace.mem(g:Trace P call ops S)(n:Dl call)(l:i<ops.size):AQ (S i).m (S (i+1)).m:=by
 obtain⟨o,j⟩:=getOp l;rcases Ic (g.step i o j) with⟨_,_,x,d,e,_⟩|⟨_,v,p,f,_,d,_⟩
 ·rw[d];exact⟨ab _,e,fun _ _ _=>rfl,fun _ _ _=>rfl,fun _ _=>rfl⟩
 ·have c:=KA n f
  rw[d];exact⟨c.size,co _ _,fun b a k=>c.keep b a (ag k (cw _ _)),fun b a h=>c.ro b a h,fun b a=>c.ro' b a⟩
theorem Trace.Fz(b:Trace P call ops S)(d:Dl call)(i:Nat):∀j,i≤j→j≤ops.size→AQ (S i).m (S j).m:=by
 refine wJ (fun _=>AQ.refl _) fun j c a e=>?_
 exact(a (by omega)).trans (b.mem d (by omega))
theorem a1f(b:DW P o.op=true)(h:BX P call ρ o m=some (v,m'))(m2:Mem) :
 m'=m∧BX P call ρ o m2=some (v,m2):=by
 unfold BX at h ⊢;split at h
 ·rename_i f c i a
  rw[a] at b;contradiction
 ·rename_i d
  obtain⟨g,e⟩:=uQ b h m2;grind
theorem Yi(q:Oe o.op=true)(h:BX P call ρ o m=some (v,m')) :
 ∃l e n,v=.slice (some ⟨m.size,0,none⟩) n 0∧m'=m.alloc (.cells l e 0 false) ∧
  ∀(ι:BJ) (g:Nat→Nat) (ρ':Operand→Value),(∀x∈o.op.operands,Az ι g (ρ x) (ρ' x))→∃cs':Array Value,(∀j,j<l.length→∃v',cs'[j]?=some v'∧Az ι g (l.getD j undef) v')∧n*P.cellsOf e≤cs'.size ∧
   ∀w:World,(execOp ρ' o).run P w=.ok (.value (.slice (some ⟨w.heap.size,0,none⟩) n n)) { w with heap:=w.heap.push (.cells cs' e (0,0)) }:=by
 obtain⟨dst,op,ty,pos,after,guard⟩:=o;cases op<;>simp only[Oe,Bool.false_eq_true] at q
 rename_i t len u;have b:len≠0:=by grind
 simp only[BX,F5] at h;split at h
 ·rename_i e p
  split at h
  ·rename_i i z r f
   split at h
   ·rename_i d
    split at h
    ·rename_i s c
     split at h
     ·first|rw[if_neg b] at h|skip
      cases h;refine⟨s.toList,e,len,rfl,rfl,fun ι g ρ' a=>?_⟩;obtain⟨cs',B,A,y⟩:=zl (ρ':=ρ') (dst:=dst) (ty:=ty) (pos:=pos) (after:=after) (guard:=guard) (ι:=ι) (g:=g) p r f d.1 d.2.1 d.2.2 (fun x k=>a x k) c;grind
     grind
    grind
   grind
  grind
 grind
theorem zZ(h:OO P t a m=some v)(c:m2.get a.block=m.get a.block)(b:a.block<m2.size):OO P t a m2=some v:=by
 unfold OO at h ⊢;split at h
 ·unfold fV Mem.Es at h ⊢
  grind
 grind
theorem jQ(h:aslice P t x j k none m=some v) :
 (∀b,IX x=some b→b<m.size)∧∀m2:Mem,(∀b,IX x=some b→b<m2.size∧m2.get b=m.get b)→aslice P t x j k none m2=some v:=by
 unfold aslice at h ⊢;simp only[Option.isSome_none,Bool.false_and,Bool.false_eq_true,if_false] at h ⊢;split at h
 ·rename_i s f
  exact⟨fun b a=>(by cases a),fun m2 _=>by omega⟩
 ·rename_i e f
  exact⟨fun b a=>(by cases a),fun m2 _=>by omega⟩
 ·rename_i e b d p f
  exact⟨fun b a=>(by cases a),fun m2 _=>by omega⟩
 ·rename_i e b d len g f
  split at h
  ·rename_i i l w n b1 b2 _
   split at h
   ·rename_i q A p ro y
    split at h
    ·rename_i z
     refine⟨fun c a=>by cases a;omega,fun m2 o=>?_⟩;obtain⟨u,r⟩:=o b rfl;grind
    grind
   grind
  ·grind
  grind
 grind
theorem a0o{o:Oper}(h:GN o.op=true):(∃t a,o.op=.load t a)∨∃t x b c,o.op=.slice t x b c none:=by
 cases hop:o.op with
 |load t a=>simp
 |slice t x b c d =>
  cases d with
  |none=>simp
  |some y=>rw[hop] at h;cases h
 |_=>rw[hop] at h;cases h
theorem Zi(p:GN o.op=true)(h:BX P call ρ o m=some (v,m')) :
 m'=m∧∃x,c8y o.op=some x∧(∀b,IX (ρ x)=some b→b<m.size)∧∀m2:Mem,(∀b,IX (ρ x)=some b→b<m2.size∧m2.get b=m.get b)→BX P call ρ o m2=some (v,m2):=by
 obtain⟨q,op,s,pos,g,guard⟩:=o;rcases a0o p with⟨t,a,c⟩|⟨t,x,y,z,c⟩
 ·subst c
  simp only[BX,F5] at h ⊢;split at h
  ·rename_i r d
   rw[ae] at h;obtain⟨u,e,f⟩:=h;cases f;refine⟨rfl,a,rfl,fun b i=>?_,fun m2 j=>?_⟩
   ·rw[d] at i
    cases i;unfold OO at e;grind
   ·obtain⟨n,l⟩:=j r.block (by rw[d];rfl)
    simp only[d,zZ e l n,Option.map_some]
  grind
 ·subst c
  simp only[BX,F5,Option.map_none] at h ⊢;rw[ae] at h;obtain⟨u,e,f⟩:=h;cases f;obtain⟨k,w⟩:=jQ e;exact⟨rfl,x,rfl,k,fun m2 j=>by grind⟩
theorem Trace.quiet(j:Trace P call ops S)(u:Dl call)(s:i<ops.size)(w:EP P ops i=false):∀b,b<(S i).m.size→(S (i+1)).m.get b=(S i).m.get b:=by
 intro b a;obtain⟨o,p⟩:=getOp s;rcases Ic (j.step i o p) with⟨_,_,x,f,A⟩|⟨_,v,g,c,_,f,d⟩
 ·rw[f];rfl
 ·rw[f]
  show g.get b=(S i).m.get b;by_cases k:DW P o.op=true
  ·obtain⟨z,_⟩:=a1f k c (S i).m
   rw[z];rfl
  ·by_cases r:GN o.op=true
   ·rw[(Zi r c).1];rfl
   ·by_cases q:Oe o.op=true
    ·obtain⟨l,e,n,_,y,_⟩:=Yi q c
     rw[y,dZ,if_neg (by show¬ (S i).m.size=b;omega)];rfl
    ·unfold EP at w
     rcases d with h|h|⟨h,_⟩|⟨h,_⟩
     ·grind
     ·exact(KA u c).keep b a (ag a h)
     ·grind
     grind
theorem Trace.JM(c:Trace P call ops S)(d:Dl call)(i:Nat):∀j,i≤j→j≤ops.size→(∀k,i≤k→k<j→EP P ops k=false)→∀b,b<(S i).m.size→(S j).m.get b=(S i).m.get b:=by
 refine wJ (fun _ _ b _=>rfl) fun j a g=>?_
 ·intro h e b f
  rw[c.quiet d (by omega) (e j a (by omega)) b (ag f (c.Fz d i j a (by omega)).size)];grind
theorem Trace.tmps(f:Trace P call ops S)(t:Nat)(i:Nat):∀j,i≤j→j≤ops.size→(∀k o,i≤k→k<j→ops[k]?=some o→o.dst≠some t)→CO (S j).t t=CO (S i).t t:=by
 refine wJ (fun _ _=>rfl) fun j b n=>?_
 ·intro p g
  obtain⟨o,c⟩:=getOp (ops:=ops) (i:=j) (by omega);have l:=g j o b (by omega) c;have hput:∀v,CO (IE (S j).t o.dst v) t=CO (S j).t t:=fun v=>by
   cases hdd:o.dst with
   |none=>rfl
   |some d=>simp only[IE];rw[Dt,if_neg (fun e=>l (by grind))]
  have a:CO (S (j+1)).t t=CO (S j).t t:=by
   rcases Ic (f.step j o c) with⟨_,h,_⟩|⟨_,v,m,_,h,_⟩
   ·grind
   grind
  grind
theorem Ed{a:Array Bool}(b:j<a.size):(a.setIfInBounds j true).getD i false=if i=j then true else a.getD i false:=by
 by_cases e:i=j
 ·simp_all
 ·rw[if_neg e];simp[Array.getElem?_setIfInBounds_ne (Ne.symm e)]
theorem Le.cut(h:x≤y):Le (cut ι x) g (cut ι y) g:=fun b a c=>by
 obtain⟨e,d⟩:=Dc c;exact⟨ab _,a,by rw[EK (by omega)];omega,fun _=>rfl⟩
theorem nF:Le (Am.cut ι x) g ι g:=fun b a c=>⟨ab _,a,(Dc c).2,fun _=>rfl⟩
structure DI(ds:List Deferred)(P:Program)(G:List Nat)(n:Nat)(ops:Array Oper)(S:Nat→St)(ι0:BJ)(w0:World)(listed:Array Bool)(ι:BJ)(a:Act)(w:World)(jp jn:Nat):Prop where
 lsz:listed.size=ops.size
 cl:Closed ops listed
 h1:jp≤jn
 h1':jn≤ops.size
 h2:∀k,jp≤k→k<jn→EP P ops k=false
 h3:jn=ops.size∨(EP P ops jn=true∧listed.getD jn false=false)
 h4:∀k,k<jp→touches P ops k=true→IG ops k=false→listed.getD k false=true
 rH:∀j,jp≤j→j≤jn→DR P G (cut ι (S j).m.size) (S j).m w
 b9r:∀b ib,ι b=some ib→b<(S jp).m.size∨∃i,listed.getD i false=true∧jp≤i∧i<jn∧(S i).m.size≤b∧b<(S (i+1)).m.size
 tsz:a.tmps.size=n
 a9n:a.defers=ds
 v1:∀(i:Nat) (o:Oper) (t:Nat),ops[i]?=some o→o.dst=some t→listed.getD i false=true→Az (cut ι (S (max (i+1) jp)).m.size) (S jn).m.gen (CO (S ops.size).t t) (a.tmps.getD t undef)
 v0:∀t,(∀(i:Nat) (o:Oper),ops[i]?=some o→o.dst=some t→listed.getD i false=false)→Az (cut ι (S 0).m.size) (S jn).m.gen (CO (S 0).t t) (a.tmps.getD t undef)
 le:Le ι0 (S 0).m.gen ι (S jn).m.gen
 back:∀b ib,ι b=some ib→(∃ZP,ι0 b=some ZP∧ZP.blk=ib.blk)∨w0.heap.size≤ib.blk
 a7x:∀b ib,ι b=some ib→(∃ZP,ι0 b=some ZP)∨(S 0).m.size≤b
 heap:w0.heap.size≤w.heap.size
 frame:∀c,c<w0.heap.size→(∀b ib,ι0 b=some ib→ib.blk=c→(S 0).m.ro b=true∨b<(S ops.size).m.low)→w.heap[c]?=w0.heap[c]?
 tape:w.tape=w0.tape
 os:w.os=w0.os
 output:w.output=w0.output
 YU:∀b ib k,ι b=some ib→k<ops.size→listed.getD k false=false→¬ ((S k).m.size≤b∧b<(S (k+1)).m.size)
 oO:∀k,k<jp→IG ops k=true→listed.getD k false=false→∀b,(S k).m.size≤b→b<(S (k+1)).m.size→(S jp).m.get b=(S (k+1)).m.get b
theorem TM{b:Array Bool}{a:Act}{o:Oper}(H:Dl call)(Q:z≤jp')(O:jp'≤ops.size)(J:Trace P call ops S)(E:H6 ops=true)(u:ops[j]?=some o)
 (U:b.size=ops.size) (W:b.getD j false=false) (I:a.tmps.size=n) (F:∀d,o.dst=some d→d<n)
 (w:∀x,Le (cut ι x) g (cut l x) y)
 (N:∀d,o.dst=some d→Az (cut l (S (max (j+1) jp')).m.size) y (CO (S (j+1)).t d) v')
 (M:∀(i:Nat) (o:Oper) (t:Nat),ops[i]?=some o→o.dst=some t→b.getD i false=true→Az (cut ι (S (max (i+1) z)).m.size) g (CO (S ops.size).t t) (a.tmps.getD t undef))
 (v0:∀t,(∀(i:Nat) (o:Oper),ops[i]?=some o→o.dst=some t→b.getD i false=false)→Az (cut ι (S 0).m.size) g (CO (S 0).t t) (a.tmps.getD t undef)) :
 (∀(i:Nat) (o':Oper) (t:Nat),ops[i]?=some o'→o'.dst=some t→(b.setIfInBounds j true).getD i false=true→Az (cut l (S (max (i+1) jp')).m.size) y (CO (S ops.size).t t) ((a.put o.dst v').tmps.getD t undef)) ∧
 (∀t,(∀(i:Nat) (o':Oper),ops[i]?=some o'→o'.dst=some t→(b.setIfInBounds j true).getD i false=false)→Az (cut l (S 0).m.size) y (CO (S 0).t t) ((a.put o.dst v').tmps.getD t undef)):=by
 have L:j<ops.size:=(al.1 u).1;have r:j<b.size:=by omega
 obtain⟨_,f⟩:=Ie E;have c:∀t,o.dst≠some t→(a.put o.dst v').tmps.getD t undef=a.tmps.getD t undef:=fun t A=>by
  cases h:o.dst with
  |none=>rfl
  |some d =>
   have:d≠t:=fun e=>A (by grind)
   simp[Act.put,Array.getElem?_setIfInBounds_ne this]
 refine⟨fun i o' t s h K=>?_,fun t p=>?_⟩
 ·by_cases e:i=j
  ·subst e
   rw[u] at s;cases s;have q:(a.put o.dst v').tmps.getD t undef=v':=by
    rw[h];have:=F t h;simp[Act.put,I,this]
   rw[q];have T:CO (S ops.size).t t=CO (S (i+1)).t t:=J.tmps t (i+1) ops.size (by omega) (ab _) fun k ok V _ B=>(f i o t u h k ok B (by omega)).1
   rw[T];exact N t h
  ·rw[Ed r,if_neg e] at K
   rw[c t (f i o' t s h j o u (Ne.symm e)).1];have R:=(al.1 s).1;exact((M i o' t s h K).mono (w _)).mono (Le.cut (J.Fz H (max (i+1) z) (max (i+1) jp') (by omega) (by omega)).size)
 ·have C:o.dst≠some t:=fun h=>by
   have:=p j o u h;rw[Ed r,if_pos rfl] at this;cases this
  rw[c t C];refine(v0 t fun i o' s h=>?_).mono (w _);have:=p i o' s h;rw[Ed r] at this;split at this
  ·cases this
  ·exact this
theorem dS(y:Trace P call ops S)(J:Dl call)(I:H6 ops=true)(B:ops[j]?=some o)
 (r:DI ds P G n ops S ι0 w0 b ι a w s C) (O:b.getD j false=false) (z:∀e∈o.after,Region.binds .any e=true→b.getD e.on false=true)  (M:t∈o.looksAt ops) :
 Az (cut ι (S (max j s)).m.size) (S C).m.gen (CO (S j).t t) (a.tmps.getD t undef):=by
 have N:j<ops.size:=(al.1 B).1;obtain⟨h,f⟩:=Ie I;have U:=r.h1;have T:=r.h1';by_cases E:∃(i:Nat) (l:Oper),ops[i]?=some l∧l.dst=some t
 ·obtain⟨i,l,x,g⟩:=E
  have q:∀(k:Nat) (ok:Oper),ops[k]?=some ok→ok.dst=some t→k=i:=fun k ok H c=>by
   grind
  have d:b.getD i false=false→j≤i→Az (cut ι (S (max j s)).m.size) (S C).m.gen (CO (S j).t t) (a.tmps.getD t undef):=fun V R=>by
   have L:=r.v0 t fun k ok H c=>by rw[q k ok H c];omega
   have A:CO (S j).t t=CO (S 0).t t:=y.tmps t 0 j (ao _) (by omega) fun k ok _ Q p c=>by grind
   rw[A];exact L.mono (Le.cut (y.Fz J 0 (max j s) (ao _) (by omega)).size)
  rcases fp i j with F|heq|hgt
  ·have K:=((f i l t x g j o B (by omega)).2 M).1 F
   have u:=EC r.cl h j o i B z K;have h1:=r.v1 i l t x g u;have A:CO (S ops.size).t t=CO (S j).t t:=y.tmps t j ops.size (by omega) (ab _) fun k ok H _ p c=>by have:=q k ok p c;omega
   rw[← A];exact h1.mono (Le.cut (y.Fz J (max (i+1) s) (max j s) (by omega) (by omega)).size)
  ·subst heq
   exact d O (ab _)
  ·have K:=((f i l t x g j o B (by omega)).2 M).2 hgt
   refine d ?_ (by omega);cases u:b.getD i false with
   |false=>rfl
   |true =>
    have:=EC r.cl h i l j x (r.cl i l x u) K;rw[O] at this;cases this
 ·have L:=r.v0 t fun i l x g=>absurd ⟨i,l,x,g⟩ E
  have A:CO (S j).t t=CO (S 0).t t:=y.tmps t 0 j (ao _) (by omega) fun k ok _ _ p c=>E ⟨k,ok,p,c⟩
  rw[A];exact L.mono (Le.cut (y.Fz J 0 (max j s) (ao _) (by omega)).size)
end
end
section
variable {P:Program}{G:List Nat}{ds:List Deferred}{rf:Option Nat}{nn:Nat}
theorem a2j{t:TypeId}(h:QT P op t d c x y=some u):plain u=true:=by
 unfold QT at h;have a:∀{b:Bool},J9 op b=some u→plain u=true:=fun{b} h=>by
  cases op<;>simp only[J9,reduceCtorEq,Option.some.injEq] at h<;>subst h<;>rfl
 split at h
 ·split at h
  ·exact(P9 (P:=P) (t:=t) (k':=.i64) (.inl rfl) h default).2
  ·exact(P9 (P:=P) (t:=t) (k':=.i64) (.inr rfl) h default).2
  ·split at h
   ·exact(vK (P:=P) (t:=t) h default).2
   grind
 ·grind
 ·grind
 ·grind
 ·grind
 ·split at h
  ·exact(Gn h).2
  grind
theorem uh{ι:BJ}{g:Nat→Nat}{ρ ρ':Operand→Value}(l:o.op=.buildSlice t len ps)(k:DW P o.op=true)(b:∀x∈o.op.operands,Az ι g (ρ x) (ρ' x))
 (h:F5 P ρ o m=some (v,m')):∃x,∀w,(execOp ρ' o).run P w=.ok (.value (.slice (some ⟨w.heap.size,0,none⟩) 0 0)) { w with heap:=w.heap.push x }∧Az ι g v (.slice (some ⟨w.heap.size,0,none⟩) 0 0):=by
 obtain⟨dst,op,ty,pos,after,guard⟩:=o;subst l;have n:len=0:=by simpa[DW] using k
 subst n;simp only[F5,if_true] at h;split at h
 ·rename_i e j
  split at h
  ·rename_i i z p f
   split at h
   ·rename_i d
    split at h
    ·rename_i q c
     split at h
     ·cases h
      obtain⟨x,a⟩:=jE (ρ':=ρ') (dst:=dst) (ty:=ty) (pos:=pos) (after:=after) (guard:=guard) (ι:=ι) (g:=g) j p f d.2.1 d.2.2 b c;exact⟨x,fun w=>⟨a w,.slE 0 0 0 _⟩⟩
     grind
    grind
   grind
  grind
 grind
theorem xZ{ι:BJ}{g:Nat→Nat}(hq:DW P o.op=true)(hns:∀t len ps,o.op≠.buildSlice t len ps)(j:∀x∈o.op.operands,Az ι g (ρ x) (ρ' x))
 (h:F5 P ρ o m=some (v,m')):∃v',(∀w,(execOp ρ' o).run P w=.ok (.value v') w)∧Az ι g v v':=by
 obtain⟨dst,op,ty,pos,U,guard⟩:=o;simp only at j hq hns;have same:∀{s:Sem Value} {u v':Value},execOp ρ' ⟨dst,op,ty,pos,U,guard⟩=(do pure (.value (← s)):Sem Next)→(∀w,s.run P w=.ok v' w)→Az ι g u v'→(u,m)=(v,m') →
  ∃v',(∀w,(execOp ρ' ⟨dst,op,ty,pos,U,guard⟩).run P w=.ok (.value v') w)∧Az ι g v v':=fun{s u v'} B Q N hm=>by
  simp_all
 cases op<;>simp only[DW,Bool.false_eq_true] at hq<;>simp only[F5,reduceCtorEq] at h
 case buildSlice t len ps=>grind
 case move x =>
  cases h;exact⟨ρ' x,fun w=>rfl,j x (by simp[Op.operands])⟩
 case assign x =>
  cases h;exact⟨ρ' x,fun w=>rfl,j x (by simp[Op.operands])⟩
 case pick c a b =>
  have hc:=j c (by simp[Op.operands]);split at h
  ·rename_i t hcc
   cases h;rw[hcc] at hc;have e:ρ' c=.bool t:=by generalize ρ' c=u at hc;cases hc;rfl
   refine⟨(if t then ρ' a else ρ' b),fun w=>?_,?_⟩
   ·simp only[execOp,e,asBool,Sem.run_bind,Sem.run_pure,Result.andThen_ok]
   ·cases t
    ·exact j b (by simp[Op.operands])
    ·exact j a (by simp[Op.operands])
  ·cases h
 case binOp op t x y yt =>
  rw[ae] at h;obtain⟨u,p,B⟩:=h;have A:=j x (by simp[Op.operands]);have hy:=j y (by simp[Op.operands]);have hall:∃v',(∀w,(do eqGuard op t x y (ρ' x) (ρ' y);binOp op t (ρ' x) (ρ' y):Sem Value).run P w=.ok v' w)∧Az ι g u v':=by
   obtain⟨v',Q,N⟩:=Vt A hy p default;refine⟨v',fun w=>?_,N⟩;obtain⟨v2,hr2,hv2⟩:=Vt A hy p w;have I:plain u=true:=a2j p;rw[N.BL I];rw[hv2.BL I] at hr2;exact hr2
  obtain⟨v',Q,N⟩:=hall;exact same rfl Q N B
 case build t ps =>
  split at h
  ·rename_i z hz
   rw[ae] at h;obtain⟨u,p,B⟩:=h;have I:WS ι g (ps.map fun(i,x)=>(i,ρ x)).toList (ps.map fun(i,x)=>(i,ρ' x)).toList:=by
    rw[bL,bL];exact WS.map fun x A=>j x (by simp only[Op.operands];simpa using A)
   obtain⟨v',Q,N⟩:=Zh I (fun z' O=>by
    obtain⟨i,zv,Z,hz1,rfl,hz3⟩:=BM hz;unfold zeroOf at O;rw[Z] at O;simp only[Option.bind_some] at O;rw[hz1] at O;cases O;exact hz3) p
   exact same rfl (fun w=>EG Q w) N B
  ·cases h
 case nilCheck x =>
  have A:=j x (by simp[Op.operands]);split at h
  ·rename_i ad had
   rw[had] at A;have L:∃E,ρ' x=.pointer (some E)∧QL ι g ad E:=by generalize ρ' x=u at A;cases A;exact⟨_,rfl,by assumption⟩
   obtain⟨E,e1,H⟩:=L;cases h;exact⟨.pointer (some E),fun w=>by simp only[execOp,e1];rfl,.ptr _ _ H⟩
  ·cases h
 case unOp op t x =>
  split at h
  ·rename_i I
   rw[ae] at h;obtain⟨u,p,B⟩:=h;have A:=(j x (by simp[Op.operands])).BL I;obtain⟨K,J⟩:=Gn p;exact same (s:=Op.unary op (ρ' x)) rfl (fun w=>by rw[A];exact EG K w) (Az.plain J) B
  ·cases h
 case convert s d x =>
  have hq':(JZ P s||JZ P d)=false:=by simpa using hq
  rw[hq'] at h;simp only[Bool.false_eq_true,if_false] at h;split at h
  ·rename_i I
   rw[ae] at h;obtain⟨u,p,B⟩:=h;have A:=(j x (by simp[Op.operands])).BL I;obtain⟨K,J⟩:=Gn p;exact same (s:=Go.convert s d (ρ' x)) rfl (fun w=>by rw[A];exact EG K w) (Az.plain J) B
  ·cases h
 case makeFunc fn fs cs =>
  cases fn<;>simp only[reduceCtorEq] at h
  rename_i f;cases h;have K:=lA (ι:=ι) (g:=g) (l:=fs.toList) (fun x A=>j x (by simp[Op.operands];exact .inl (by simpa using A)));have J:=lA (ι:=ι) (g:=g) (l:=cs.toList) (fun x A=>j x (by simp[Op.operands];exact .inr (by simpa using A)));refine⟨.func (.func f) (fs.map ρ') (cs.map ρ'),fun w=>rfl,?_⟩;have e:∀(r:Operand→Value) (a:Array Operand),a.map r=⟨a.toList.map r⟩:=fun r a=>by apply gH;simp
  rw[e ρ fs,e ρ cs,e ρ' fs,e ρ' cs];exact .fn f _ _ _ _ K.1 K.2 J.1 J.2
 case fieldAddr s x f =>
  have A:=j x (by simp[Op.operands]);split at h
  ·rename_i fs ad p had
   rw[had] at A;have L:∃E,ρ' x=.pointer (some E)∧QL ι g ad E:=by generalize ρ' x=u at A;cases A;exact⟨_,rfl,by assumption⟩
   obtain⟨E,e1,H⟩:=L;split at h
   ·rename_i fd hfd
    split at h
    ·rename_i i Z
     split at h
     ·cases h
     ·rename_i hsz
      refine same (s:=Instr.fieldAt s (ρ' x) f) (v':=.pointer (some (E.add fd.offset))) rfl (fun w=>?_) (.ptr _ _ ?_) (cr h)
      ·simp only[Instr.fieldAt,e1,Instr.sureAddr,Sem.run_bind,run_underlying p,Sem.run_pure,Result.andThen_ok,hfd,fieldPlace,run_sizeOf' Z,if_neg hsz]
      ·obtain⟨ib,hb,Y,R⟩:=H
       refine⟨ib,hb,Y,fun e=>?_⟩;rw[R e,addr_add];simp only[Addr.mk.injEq,true_and,and_true];omega
    ·cases h
   ·cases h
  ·cases h
 case field t x f =>
  rw[ae] at h;obtain⟨u,p,B⟩:=h;obtain⟨v',Q,N⟩:=YK (j x (by simp[Op.operands])) p;exact same rfl (fun w=>EG Q w) N B
 case indexAddr t x ix =>
  have A:=j x (by simp[Op.operands]);have F:=j ix (by simp[Op.operands]);split at h
  ·rename_i e b off len g1 k i p X a2r
   rw[X] at A;rw[a2r] at F;have e2:ρ' ix=.int k i:=by generalize ρ' ix=u at F;cases F;rfl
   split at h
   ·rename_i W Z
    split at h
    ·rename_i hb
     have L:∃E T,ρ' x=.slice (some E) len T∧c3e ι g b off len g1 E T:=by generalize ρ' x=u at A;cases A;exact⟨_,_,rfl,by assumption⟩
     obtain⟨E,T,e1,hsr⟩:=L;refine same (s:=Instr.indexAt t (ρ' x) (ρ' ix)) (v':=.pointer (some (E.add (i.toNat*W.size)))) rfl (fun w=>?_) (.ptr _ _ (Kv hsr (fun _=>by omega) _)) (cr h);simp only[Instr.indexAt,e1,e2,asIntOf,Sem.run_bind,run_underlying p,Sem.run_pure,Result.andThen_ok,run_sizeOf' Z,if_pos hb]
    ·cases h
   ·cases h
  ·rename_i n e ad k i p X a2r
   rw[X] at A;rw[a2r] at F;have e2:ρ' ix=.int k i:=by generalize ρ' ix=u at F;cases F;rfl
   have L:∃E,ρ' x=.pointer (some E)∧QL ι g ad E:=by generalize ρ' x=u at A;cases A;exact⟨_,rfl,by assumption⟩
   obtain⟨E,e1,H⟩:=L;split at h
   ·rename_i W Z
    split at h
    ·rename_i hb
     refine same (s:=Instr.indexAt t (ρ' x) (ρ' ix)) (v':=.pointer (some (E.add (i.toNat*W.size)))) rfl (fun w=>?_) (.ptr _ _ ?_) (cr h)
     ·simp only[Instr.indexAt,e1,e2,asIntOf,Instr.sureAddr,Sem.run_bind,run_underlying p,Sem.run_pure,Result.andThen_ok,run_sizeOf' Z,if_pos hb]
     ·obtain⟨ib,hbb,Y,R⟩:=H
      refine⟨ib,hbb,Y,fun e=>?_⟩;rw[R e,addr_add];simp only[Addr.mk.injEq,true_and,and_true];omega
    ·cases h
   ·cases h
  ·cases h
 case index t x ix =>
  split at h
  ·rename_i I
   rw[ae] at h;obtain⟨u,p,B⟩:=h;have F:=(j ix (by simp[Op.operands])).BL I;obtain⟨v',Q,N⟩:=ZC (j x (by simp[Op.operands])) p;exact same (s:=Instr.index t (ρ' x) (ρ' ix)) rfl (fun w=>by rw[F];exact EG Q w) N B
  ·cases h
 case extract t i =>
  rw[ae] at h;obtain⟨u,p,B⟩:=h;obtain⟨v',Q,N⟩:=UF (j t (by simp[Op.operands])) p;exact same rfl (fun w=>EG Q w) N B
 case call c =>
  obtain⟨V,M,aT⟩:=c;cases V<;>simp only[reduceCtorEq,Bool.false_eq_true] at hq h
  rename_i b;have C:∀x∈M,Az ι g (ρ x) (ρ' x):=fun x A=>j x (by simp[Op.operands,Call.operands,A])
  cases b<;>simp only[reduceCtorEq,Bool.false_eq_true] at hq h
  case cap =>
   rw[ae] at h;obtain⟨u,p,B⟩:=h;cases B;have I:v=.int .i64 0:=by
    unfold b2u at p
    repeat' split at p
    all_goals first|(cases p;rfl)|cases p
   subst I;refine⟨.int .i64 0,fun w=>?_,.int _ _⟩;rw[Ef];refine H9 ?_;have key:∀(ι:BJ) (g:Nat→Nat),QB ι g (M.map ρ) (M.map ρ')→(Builtin.cap_ aT ty (M.map ρ')).run P w=.ok (.int .i64 0) w:=fun ι g H=>by
    unfold b2u at p;split at p
    ·rename_i t q0
     split at p
     ·rename_i e huu
      split at p
      ·rename_i q
       obtain⟨x',K,J⟩:=H 0 _ q;cases J;simp[Builtin.cap_,q0,K,run_underlying huu,goInt]
      ·rename_i b o s q
       obtain⟨x',K,J⟩:=H 0 _ q;cases J;simp[Builtin.cap_,q0,K,run_underlying huu,goInt]
      ·cases p
     ·cases p
    ·cases p
   exact key ι g (QB.map C)
  case len =>
   rw[ae] at h;obtain⟨u,p,B⟩:=h;cases B;obtain⟨K,J⟩:=b0e ty hq (QB.map C) p;exact⟨_,fun w=>by rw[Ef];exact H9 (K w),J⟩
  case max =>
   split at h
   ·rename_i I
    rw[ae] at h;obtain⟨u,p,B⟩:=h;cases B;obtain⟨K,J⟩:=Gn p;exact⟨_,fun w=>by rw[Ef,LU C I];exact H9 (EG K w),Az.plain J⟩
   ·cases h
  case min =>
   split at h
   ·rename_i I
    rw[ae] at h;obtain⟨u,p,B⟩:=h;cases B;obtain⟨K,J⟩:=Gn p;exact⟨_,fun w=>by rw[Ef,LU C I];exact H9 (EG K w),Az.plain J⟩
   ·cases h
end
section
variable {P:Program}{G:List Nat}{call:E8}{ops:Array Oper}{S:Nat→St}{ds:List Deferred}{rf:Option Nat}{nn:Nat}
theorem DI.cO(j:Trace P call ops S)(d:Dl call)(f:DI ds P G n ops S ι0 w0 c ι a w g e)
 (k:ι b=some ib):b<(S e).m.size:=by
 rcases f.b9r b ib k with h|⟨i,_,h1,o,_,l⟩
 ·exact ag h (j.Fz d g e f.h1 f.h1').size
 ·exact ag l (j.Fz d (i+1) e o f.h1').size
theorem P5(c:Closed ops a)(d:j<a.size)(m:ops[j]?=some o)(f:∀e∈o.after,Region.binds .any e=true→a.getD e.on false=true) :
 Closed ops (a.setIfInBounds j true):=by
 intro i g h b e k l;rw[Ed d];split
 ·rfl
 ·rw[Ed d] at b
  split at b
  ·grind
  ·exact c i g h b e k l
theorem Gu{a:Array Bool}(b:j<a.size)(h:a.getD i false=true):(a.setIfInBounds j true).getD i false=true:=by
 rw[Ed b];grind
theorem E5{a:Array Bool}(b:j<a.size)(h:(a.setIfInBounds j true).getD i false=false):a.getD i false=false:=by
 cases hl:a.getD i false with
 |false=>rfl
 |true=>rw[Gu b hl] at h;cases h
theorem NU{a:Array Bool}(b:j<a.size)(h:(a.setIfInBounds j true).getD i false=false):i≠j:=fun e=>by
 simp_all
theorem Trace.apart(c:Trace P call ops S)(a:Dl call)(f:i<ops.size)(e:k<ops.size)(d:i≠k)(j:(S i).m.size≤b)(g:b<(S (i+1)).m.size):¬ ((S k).m.size≤b∧b<(S (k+1)).m.size):=fun⟨h3,h4⟩=>by
 rcases aq i k with h|h
 ·have:=(c.Fz a (i+1) k (by omega) (by omega)).size;omega
 ·have:=(c.Fz a (k+1) i (by omega) (by omega)).size;omega
theorem pq(y:Trace P call ops S)(g:Dl call)(s:H6 ops=true)
 (d:DI ds P G n ops S ι0 w0 b ι a w l p) (E:∀k,k∈G→k<(S 0).m.size) (z:ops[j]?=some o) (F:b.getD j false=false)
 (h:∀e∈o.after,Region.binds .any e=true→b.getD e.on false=true) (c:∀x∈o.op.operands,G5 G x=true) :
 ∀x∈o.op.operands,Az (cut ι (S (max j l)).m.size) (S p).m.gen (ev (S j).t x) (a.eval x):=by
 intro x u;have B:j<ops.size:=(al.1 z).1;cases x with
 |tmp t =>
  refine dS y g s z d F h (t:=t) ?_;refine cN _ ?_;rw[List.mem_filterMap];exact⟨.tmp t,by grind,rfl⟩
 |const v=>exact Az.plain (c _ u)
 |global k =>
  have A:k∈G:=by simpa[G5] using c _ u
  obtain⟨C,h1,K,J,I,H⟩:=(d.rH p d.h1 (ab _)).glob k A;have q:=ag (E k A) (y.Fz g 0 (max j l) (ao _) (by have:=d.h1;have:=d.h1';omega)).size;exact .ptr _ _ ⟨C,by rw[EK q];exact(Dc h1).2,ao _,fun _=>by grind⟩
 |func f=>exact .fn f [] [] [] [] rfl (fun i r=>absurd r (by simp)) rfl (fun i r=>absurd r (by simp))
theorem a8w(s:Trace P call ops S)(l:Dl call)(i:H6 ops=true)
 (z:DI ds P G n ops S ι0 w0 c ι a w q r) (x:ops[j]?=some o) (A:c.getD j false=false)
 (h:∀e∈o.after,Region.binds .any e=true→c.getD e.on false=true):Region.wanted o (yielded ops a.tmps)=Region.wanted o (EM ops (S j).t):=by
 unfold Region.wanted;cases hg:o.guard with
 |none=>rfl
 |some p =>
  obtain⟨k,b⟩:=p;have m:yielded ops a.tmps k=EM ops (S j).t k:=by
   unfold yielded EM;cases hdk:(ops[k]?).bind (·.dst) with
   |none=>rfl
   |some d =>
    simp only[Option.bind_some];have f:=dS s l i x z A h (t:=d) (by
     unfold Oper.looksAt;grind)
    cases ha:a.tmps[d]? with
    |none =>
     have e:a.tmps.getD d undef=undef:=by grind
     rw[e] at f;have:∀b,CO (S j).t d≠.bool b:=fun b g=>by
      have:=(f.KW b).1 g;cases this
     simp
    |some u =>
     have e:a.tmps.getD d undef=u:=by simp[ha]
     rw[e] at f;split
     ·rename_i b g
      cases g;have:=(f.KW b).2 rfl;grind
     ·rename_i y
      split
      ·rename_i b g
       have:=(f.KW b).1 g;simp_all
      ·rfl
  grind
theorem k8{o:Oper}(E:Dl call)(J:Trace P call ops S)(B:H6 ops=true)
 (f:DI ds P G n ops S ι0 w0 c ι a w q r) (y:ops[j]?=some o) (M:c.getD j false=false) (p:∀e∈o.after,Region.binds .any e=true→c.getD e.on false=true)
 (C:∀d,o.dst=some d→d<n) (K:EP P ops j=false)
 (I:∀d,o.dst=some d→Az (cut ι (S (max (j+1) q)).m.size) (S r).m.gen (CO (S (j+1)).t d) v') :
 DI ds P G n ops S ι0 w0 (c.setIfInBounds j true) ι (a.put o.dst v') w q r:=by
 have H:j<ops.size:=(al.1 y).1;have g:j<c.size:=by rw[f.lsz];omega
 obtain⟨v1,v0⟩:=TM E (ab q) (an f.h1 f.h1') J B y f.lsz M f.tsz C (fun x=>Le.refl _ _) I f.v1 f.v0;refine⟨by simpa using f.lsz,P5 f.cl g y p,f.h1,f.h1',f.h2,?_,fun k l u z=>Gu g (f.h4 k l u z),f.rH,?_,?_,?_,v1,v0,f.le,f.back,f.a7x,f.heap,f.frame,f.tape,f.os,f.output,
  fun b s k F l A=>f.YU b s k F l (E5 g A),fun k l L A=>f.oO k l L (E5 g A)⟩
 ·rcases f.h3 with h|⟨h1,h2⟩
  ·omega
  ·refine .inr ⟨h1,?_⟩
   rw[Ed g,if_neg (fun e=>by grind)];omega
 ·intro b s F
  rcases f.b9r b s F with h|⟨i,h1,h2⟩
  ·omega
  ·exact .inr ⟨i,Gu g h1,h2⟩
 ·cases hdd:o.dst<;>simp[Act.put,f.tsz]
 ·cases hdd:o.dst<;>simp[Act.put,f.a9n]
theorem DI.quiet{o:Oper}{v v':Value}(L:Trace P call ops S)(F:Dl call)(hdr:H6 ops=true)
 (r:DI ds P G n ops S ι0 w0 u ι a w jp N) (ho:ops[j]?=some o) (HY:u.getD j false=false) (hall:∀e∈o.after,Region.binds .any e=true→u.getD e.on false=true)
 (hdn:∀d,o.dst=some d→d<n) (hjp:jp≤j) (hjn:j<N) (hm':(S (j+1)).m=Fp m' y) (T:(S j).m.size≤m'.low) (W:AQ (Fp (S j).m (S j).m.size) m')
 (htv:∀d,o.dst=some d→CO (S (j+1)).t d=v)
 (s:Ext (cut ι (S j).m.size) (Fp (S j).m (S j).m.size) w B m' w') (Dk:DR P G B m' w') (QS:Az B m'.gen v v') :
 ∃z,DI ds P G n ops S ι0 w0 (u.setIfInBounds j true) z (a.put o.dst v') w' jp N:=by
 have V:j<ops.size:=(al.1 ho).1;have H:j<u.size:=by rw[r.lsz];omega
 have O:(S (j+1)).m.size=m'.size:=by rw[hm'];rfl
 have lK:∀b,(S (j+1)).m.get b=m'.get b:=fun b=>by rw[hm'];rfl
 have hgj:∀b,b<(S j).m.size→m'.get b=(S j).m.get b:=fun b l=>W.keep b l (ag l T)
 let z:BJ:=fun b=>if(S j).m.size≤b∧b<(S (j+1)).m.size then B b else ι b
 have R:∀b,(S j).m.size≤b→b<(S (j+1)).m.size→z b=B b:=fun b h1 h2=>if_pos ⟨h1,h2⟩
 have E:∀b,¬ ((S j).m.size≤b∧b<(S (j+1)).m.size)→z b=ι b:=fun b h=>if_neg h
 have f1:∀b,b<(S j).m.size→B b=ι b:=fun b l=>by
  cases hib:ι b with
  |some f =>
   have Z:cut ι (S j).m.size b=some f:=by rw[EK l];omega
   obtain⟨_,K,h2,h3⟩:=s.le b f Z;have hg:m'.gen b=(Fp (S j).m (S j).m.size).gen b:=CY (hgj b l);grind
  |none =>
   cases I:B b with
   |none=>rfl
   |some f =>
    rcases s.dom b f I with⟨ZP,h⟩|h
    ·have:=(Dc h).2;grind
    ·exact absurd l (by show¬ _;exact Nat.not_lt.2 h)
 have f2:∀b,(S j).m.size≤b→b<(S (j+1)).m.size→ι b=none:=fun b h1 h2=>by
  cases hib:ι b with
  |none=>rfl
  |some f=>exact absurd ⟨h1,h2⟩ (r.YU b f j hib V HY)
 have Zr:∀b f,ι b=some f→z b=some f:=fun b f l=>by
  grind
 have f3:∀b,cut z (S (j+1)).m.size b=B b:=fun b=>by
  by_cases h1:b<(S (j+1)).m.size
  ·rw[EK h1]
   grind
  ·have:cut z (S (j+1)).m.size b=none:=if_neg h1
   rw[this];cases I:B b with
   |none=>rfl
   |some f=>exact absurd (Dk.dom b f I).1 (by omega)
 have f5:∀c,c<w.heap.size→w'.heap[c]?=w.heap[c]?:=fun c Z=>s.frame c Z fun b f l _=>.inr (ag (Dc l).1 T)
 have d2w:∀b,b<(S (j+1)).m.size→(S N).m.gen b=m'.gen b:=fun b l=>by
  have:=L.JM F (j+1) N (by omega) r.h1' (fun k h1 h2=>r.h2 k (by omega) h2) b l;rw[CY this];exact CY (lK b)
 have hle1:∀A,j+1≤A→A≤N→Le B m'.gen (cut z (S A).m.size) (S A).m.gen:=fun A h1 h2 b f l=>by
  have M:b<(S (j+1)).m.size:=by rw[O];exact(Dk.dom b f l).1
  have hsi:=(L.Fz F (j+1) A h1 (by have:=r.h1';omega)).size;have hq:=L.JM F (j+1) A h1 (by have:=r.h1';omega) (fun k q1 Y=>r.h2 k (by omega) (by omega)) b M;refine⟨by rw[CY hq,CY (lK b)];exact ab _,f,?_,fun _=>rfl⟩;rw[EK (by omega),← l,← f3 b,EK M]
 have b8e:∀x g,Le (cut ι x) g (cut z x) g:=fun x g b f l=>by
  obtain⟨h1,h2⟩:=Dc l;exact⟨ab _,f,by rw[EK h1];exact Zr b f h2,fun _=>rfl⟩
 have b8b:∀A,jp≤A→A≤N→DR P G (cut z (S A).m.size) (S A).m w':=fun A h1 h2=>by
  have Q:=r.rH A h1 h2;by_cases hij:A≤j
  ·refine(Q.world s.heap f5).congr fun b=>?_
   by_cases l:b<(S A).m.size
   ·rw[EK l,EK l]
    refine E b fun h=>?_
    have:=(L.Fz F A j hij (by omega)).size;omega
   ·exact(if_neg l).trans (if_neg l).symm
  ·have I:j+1≤A:=by omega
   have hin:A≤ops.size:=by have:=r.h1';omega
   have hsi:=(L.Fz F (j+1) A I hin).size;have hq:∀b,b<(S (j+1)).m.size→(S A).m.get b=m'.get b:=fun b l =>
    (L.JM F (j+1) A I hin (fun k q1 Y=>r.h2 k (by omega) (by omega)) b l).trans (lK b)
   have Nc:∀b f,cut z (S A).m.size b=some f→((S j).m.size≤b∧b<(S (j+1)).m.size∧B b=some f∧w.heap.size≤f.blk)∨cut ι (S A).m.size b=some f:=fun b f l=>by
    obtain⟨hb1,J⟩:=Dc l;by_cases C:(S j).m.size≤b∧b<(S (j+1)).m.size
    ·rw[R b C.1 C.2] at J
     refine .inl ⟨C.1,C.2,J,?_⟩;rcases s.back b f J with⟨ZP,h,_⟩|h
     ·have:=(Dc h).1;omega
     ·exact h
    ·rw[E b C] at J
     exact .inr (by rw[EK hb1];exact J)
   refine⟨fun b f l=>?_,fun b f l=>?_,fun b b' f K l hb' he=>?_,fun k U=>?_⟩
   ·refine⟨(Dc l).1,?_⟩
    rcases Nc b f l with⟨_,_,h,_⟩|h
    ·exact(Dk.dom b f h).2
    ·exact ag (Q.dom b f h).2 s.heap
   ·rcases Nc b f l with⟨_,J,h,_⟩|h
    ·rw[hq b J]
     exact(Dk.blk b f h).mono (hle1 A I h2)
    ·rw[f5 _ (Q.dom b f h).2]
     exact(Q.blk b f h).mono (b8e _ _)
   ·rcases Nc b f l with⟨p1,p2,p3,p4⟩|p
    ·rcases Nc b' K hb' with⟨q1,Y,q3,q4⟩|q
     ·rcases Dk.inj b b' f K p3 q3 he with h|⟨r1,r2⟩
      ·exact .inl h
      ·exact .inr ⟨by rw[FQ (hq b p2)];exact r1,by rw[FQ (hq b' Y)];exact r2⟩
     ·have:=(Q.dom b' K q).2;omega
    ·rcases Nc b' K hb' with⟨q1,Y,q3,q4⟩|q
     ·have:=(Q.dom b f p).2;omega
     ·exact Q.inj b b' f K p q he
   ·obtain⟨f,q1,Y,q3,q4,q5⟩:=Q.glob k U
    obtain⟨r1,r2⟩:=Dc q1;exact⟨f,by rw[EK r1];exact Zr k f r2,Y,q3,q4,q5⟩
 obtain⟨v1,v0⟩:=TM (v':=v') F (ab jp) (an r.h1 r.h1') L hdr ho r.lsz HY r.tsz hdn (fun x=>b8e x (S N).m.gen) (fun d X=>by
  rw[htv d X,Nat.max_eq_left (by omega)];refine QS.mono fun b f l=>?_
  have M:b<(S (j+1)).m.size:=by rw[O];exact(Dk.dom b f l).1
  exact⟨by rw[d2w b M];exact ab _,f,by rw[f3];exact l,fun _=>rfl⟩) r.v1 r.v0
 refine⟨z,by simpa using r.lsz,P5 r.cl H ho hall,r.h1,r.h1',r.h2,?_,fun k U htk hnk=>Gu H (r.h4 k U htk hnk),b8b,?_,?_,?_,v1,v0,?_,?_,?_,an r.heap s.heap,
  fun c Z hf=>(f5 c (ag Z r.heap)).trans (r.frame c Z hf),s.tape.trans r.tape,s.os.trans r.os,s.output.trans r.output,fun b f k l U hl=>?_,fun k U C hl=>r.oO k U C (E5 H hl)⟩
 ·rcases r.h3 with h|⟨h1,h2⟩
  ·exact .inl h
  ·refine .inr ⟨h1,?_⟩
   rw[Ed H,if_neg (by omega)];exact h2
 ·intro b f l
  by_cases C:(S j).m.size≤b∧b<(S (j+1)).m.size
  ·exact .inr ⟨j,by rw[Ed H,if_pos rfl],hjp,hjn,C.1,C.2⟩
  ·rw[E b C] at l
   rcases r.b9r b f l with h|⟨i,h1,h2⟩
   ·exact .inl h
   ·exact .inr ⟨i,Gu H h1,h2⟩
 ·cases X:o.dst<;>simp[Act.put,r.tsz]
 ·cases X:o.dst<;>simp[Act.put,r.a9n]
 ·exact r.le.trans fun b f l=>⟨ab _,f,Zr b f l,fun _=>rfl⟩
 ·intro b f l
  by_cases C:(S j).m.size≤b∧b<(S (j+1)).m.size
  ·rw[R b C.1 C.2] at l
   rcases s.back b f l with⟨ZP,h,_⟩|h
   ·have:=(Dc h).1;omega
   ·exact .inr (an r.heap h)
  ·rw[E b C] at l
   exact r.back b f l
 ·intro b f l
  by_cases C:(S j).m.size≤b∧b<(S (j+1)).m.size
  ·exact .inr (an (L.Fz F 0 j (ao _) (by omega)).size C.1)
  ·rw[E b C] at l
   exact r.a7x b f l
 ·by_cases C:(S j).m.size≤b∧b<(S (j+1)).m.size
  ·exact L.apart F V U (Ne.symm (NU H hl)) C.1 C.2
  ·rw[E b C] at l
   exact r.YU b f k l U (E5 H hl)
theorem a5q(ops:Array Oper)(k:Nat)(c:k≤ops.size):∃a,k≤a∧a≤ops.size∧(∀i,k≤i→i<a→EP P ops i=false)∧(a=ops.size∨EP P ops a=true):=by
 generalize hd:ops.size-k=d
 induction d generalizing k with
 |zero=>exact⟨ops.size,c,ab _,fun i f e=>by omega,.inl rfl⟩
 |succ d b =>
  cases hb:EP P ops k with
  |true=>grind
  |false =>
   obtain⟨a,f,e,h,g⟩:=b (k+1) (by omega) (by omega);grind
theorem DI.bar{v v':Value}(A:Trace P call ops S)(p:Dl call)(hdr:H6 ops=true)
 (l:DI ds P G n ops S ι0 w0 f ι a w jp j) (ho:ops[j]?=some o) (HY:f.getD j false=false) (M:∀e∈o.after,Region.binds .any e=true→f.getD e.on false=true)
 (hdn:∀d,o.dst=some d→d<n) (hb0:∀b ib,ι0 b=some ib→b<(S 0).m.size) (L:EP P ops j=true) (H:(S (j+1)).m=Fp m' y) (hy:y≤m'.low)
 (htv:∀d,o.dst=some d→CO (S (j+1)).t d=v)
 (O:∀k,k<j→IG ops k=true→f.getD k false=false→∀b,(S k).m.size≤b→b<(S (k+1)).m.size→(S (j+1)).m.get b=(S j).m.get b)
 (g:Ext (cut ι (S j).m.size) (Fp (S j).m (S j).m.size) w z m' w') (Dk:DR P G z m' w') (QS:Az z m'.gen v v') :
 ∃ι' jp' jn',DI ds P G n ops S ι0 w0 (f.setIfInBounds j true) ι' (a.put o.dst v') w' jp' jn':=by
 have Y:j<ops.size:=(al.1 ho).1;have u:j<f.size:=by rw[l.lsz];omega
 have K:(S (j+1)).m.size=m'.size:=by rw[H];rfl
 have lK:∀b,(S (j+1)).m.get b=m'.get b:=fun b=>by rw[H];rfl
 obtain⟨E,_⟩:=Ie hdr;obtain⟨b1v,c6u⟩:=Jb L;obtain⟨C,n1,n2,n3,n4⟩:=a5q ops (j+1) (by omega);have T:∀b,b<(S (j+1)).m.size→(S C).m.get b=m'.get b:=fun b r=>(A.JM p (j+1) C n1 n2 (fun k h1 h2=>n3 k h1 h2) b r).trans (lK b)
 have B:∀b ib,z b=some ib→b<(S (j+1)).m.size:=fun b ib r=>by rw[K];exact(Dk.dom b ib r).1
 have hLow:(S ops.size).m.low≤m'.low:=by
  have h1:=(A.Fz p (j+1) ops.size (by omega) (ab _)).low;have h2:(S (j+1)).m.low=y:=by rw[H];rfl
  omega
 have d6g:∀x,Le (cut ι x) (S j).m.gen (cut z x) (S C).m.gen:=fun x b ib r=>by
  obtain⟨h1,h2⟩:=Dc r;have R:=l.cO A p h2;obtain⟨J,s,F,q3⟩:=g.le b ib (by rw[EK R];exact h2);have Z:(S C).m.gen b=m'.gen b:=CY (T b (B b s F));exact⟨by rw[Z];exact J,s,by rw[EK h1];exact F,fun e=>q3 (by rw[← Z];exact e)⟩
 obtain⟨v1,v0⟩:=TM (v':=v') (jp':=j+1) p (by have:=l.h1;omega) (by omega) A hdr ho l.lsz HY l.tsz hdn d6g (fun d Q=>by
  rw[htv d Q,Nat.max_self];refine QS.mono fun b ib r=>?_
  have hbl:=B b ib r;exact⟨by rw[CY (T b hbl)];exact ab _,ib,by rw[EK hbl];exact r,fun _=>rfl⟩) l.v1 l.v0
 refine⟨z,j+1,C,by simpa using l.lsz,P5 l.cl u ho M,n1,n2,n3,?_,?_,?_,fun b ib r=>.inl (B b ib r),?_,?_,v1,v0,?_,?_,?_,an l.heap g.heap,?_,
  g.tape.trans l.tape,g.os.trans l.os,g.output.trans l.output,fun b ib k r hk N=>?_,fun k hk hn N b h1 h2=>?_⟩
 ·rcases n4 with h|h
  ·exact .inl h
  ·refine .inr ⟨h,?_⟩
   rw[Ed u,if_neg (by omega)];cases N:f.getD C false with
   |false=>rfl
   |true =>
    obtain⟨t1,t2⟩:=Jb h;have hbit:=((t2 j (by omega) b1v).1 (by omega)).resolve_left (by rw[Vr L];simp);obtain⟨on,W⟩:=getOp (ops:=ops) (i:=C) (by
     rcases aq C ops.size with h|h
     ·exact h
     ·unfold EP at *
      rename_i hbb;rw[Array.getElem?_eq_none h] at hbb;cases hbb)
    have:=EC l.cl E C on j W (l.cl C on W N) hbit;rw[HY] at this;cases this
 ·intro k hk htk hnk
  by_cases e:k=j
  ·subst e;rw[Ed u,if_pos rfl]
  ·refine Gu u ?_
   exact EC l.cl E j o k ho M (((c6u k e htk).1 (by omega)).resolve_left (by rw[hnk];simp))
 ·intro i' h1 h2
  have V:=(A.Fz p (j+1) i' h1 (by omega)).size;have hq:∀b,b<(Fp m' y).size→(S i').m.get b=(Fp m' y).get b:=fun b r=>by
   have hb':b<(S (j+1)).m.size:=by rw[K];exact r
   exact(A.JM p (j+1) i' h1 (by omega) (fun k J F=>n3 k J (by omega)) b hb').trans (lK b)
  refine((Dk.low y).extend (m2:=(S i').m) (by rw[← H];exact V) hq).congr fun b=>?_
  cases hib:z b with
  |none =>
   unfold cut;split
   ·exact hib
   ·rfl
  |some ib=>rw[EK (ag (B b ib hib) V)];exact hib
 ·cases Q:o.dst<;>simp[Act.put,l.tsz]
 ·cases Q:o.dst<;>simp[Act.put,l.a9n]
 ·refine l.le.trans fun b ib r=>?_
  have R:=l.cO A p r;obtain⟨J,s,F,q3⟩:=g.le b ib (by rw[EK R];exact r);have Z:(S C).m.gen b=m'.gen b:=CY (T b (B b s F));exact⟨by rw[Z];exact J,s,F,fun e=>q3 (by rw[← Z];exact e)⟩
 ·intro b s r
  rcases g.back b s r with⟨ib,h1,h2⟩|h
  ·rcases l.back b ib (Dc h1).2 with⟨U,h3,h4⟩|h3
   ·exact .inl ⟨U,h3,h4.trans h2⟩
   ·exact .inr (h2▸h3)
  ·exact .inr (an l.heap h)
 ·intro b s r
  rcases g.dom b s r with⟨ib,h1⟩|h
  ·exact l.a7x b ib (Dc h1).2
  ·exact .inr (an (A.Fz p 0 j (ao _) (by omega)).size h)
 ·intro c hc hf
  rw[g.frame c (ag hc l.heap) ?_,l.frame c hc hf];intro b ib r he;rcases l.back b ib (Dc r).2 with⟨U,h3,h4⟩|h3
  ·rcases hf b U h3 (h4.trans he) with h5|h5
   ·refine .inl ?_
    show(S j).m.ro b=true;rw[(A.Fz p 0 j (ao _) (by omega)).ro' b (hb0 b U h3)];exact h5
   ·exact .inr (ag h5 hLow)
  ·omega
 ·have I:=E5 u N
  have X:=NU u N;rcases g.dom b ib r with⟨U,h1⟩|h
  ·exact l.YU b U k (Dc h1).2 hk I
  ·exact A.apart p Y hk (Ne.symm X) h (B b ib r)
 ·have I:=E5 u N
  have X:=NU u N;have hkj:k<j:=by omega
  rw[O k hkj hn I b h1 h2];rcases aq k jp with h|h
  ·rw[← l.oO k h hn I b h1 h2]
   exact A.JM p jp j l.h1 (by omega) (fun q J F=>l.h2 q J F) b (ag h2 (A.Fz p (k+1) jp (by omega) (by have:=l.h1;omega)).size)
  ·exact A.JM p (k+1) j (by omega) (by omega) (fun q J F=>l.h2 q (by omega) F) b h2
theorem pA{o:Oper}(ht:Trace P call ops S)(K:Dl call)(hdr:H6 ops=true)
 (r:DI ds P G n ops S ι0 w0 z ι a w H Q) (ho:ops[j]?=some o) (HY:z.getD j false=false) (hall:∀e∈o.after,Region.binds .any e=true→z.getD e.on false=true)
 (hdn:∀d,o.dst=some d→d<n) (hjp:j<H) (hn:Oe o.op=true) (hv:BX P call (ev (S j).t) o (Fp (S j).m (S j).m.size)=some (v,m')) (hm':(S (j+1)).m=Fp m' y)
 (htv:∀d,o.dst=some d→CO (S (j+1)).t d=v) (hρ:∀x∈o.op.operands,Az (cut ι (S (max j H)).m.size) (S Q).m.gen (ev (S j).t x) (a.eval x)) :
 ∃v' w' C,(execOp a.eval o).run P w=.ok (.value v') w'∧DI ds P G n ops S ι0 w0 (z.setIfInBounds j true) C (a.put o.dst v') w' H Q:=by
 have W:j<ops.size:=(al.1 ho).1;have I:j<z.size:=by rw[r.lsz];omega
 have T:=r.h1;have hno:=r.h1';obtain⟨l,e,len,hvv,hmm,L⟩:=Yi hn hv;rw[Nat.max_eq_right (by omega)] at hρ;obtain⟨cs',hl,hcap,L⟩:=L _ _ _ hρ;have hnews:IG ops j=true:=by unfold IG;grind
 obtain⟨B,hb0⟩:∃B,B=(S j).m.size:=⟨_,rfl⟩
 have hs1:(S (j+1)).m.size=B+1:=by rw[hm',hmm,hb0];rfl
 have hg1:(S (j+1)).m.get B=.cells l e 0 false:=by
  rw[hm',hmm];show(Mem.alloc (Fp (S j).m (S j).m.size) (.cells l e 0 false)).get B=_;rw[dZ,if_pos (by rw[hb0];rfl)]
 have Y:∀A,H≤A→A≤Q→B<(S A).m.size:=fun A h1 h2=>by
  have:=(ht.Fz K (j+1) A (by omega) (by omega)).size;omega
 have hq:∀A,H≤A→A≤Q→∀b,b<(S H).m.size→(S A).m.get b=(S H).m.get b:=fun A h1 h2=>ht.JM K H A h1 (by omega) (fun k O J=>r.h2 k O (by omega))
 have hgi:∀A,H≤A→A≤Q→(S A).m.get B=.cells l e 0 false:=fun A h1 h2=>by
  rw[hq A h1 h2 B (Y H (ab _) T),r.oO j hjp hnews HY B (by omega) (by omega),hg1]
 have hfree:ι B=none:=by
  cases hib:ι B with
  |none=>rfl
  |some f=>exact absurd ⟨by omega,by omega⟩ (r.YU B f j hib W HY)
 let X:IB:=⟨w.heap.size,0,cs'.size,P.cellsOf e⟩
 let C:BJ:=fun b=>if b=B then some X else ι b
 have M:C B=some X:=if_pos rfl;have E:∀b,b≠B→C b=ι b:=fun b h=>if_neg h
 have Zr:∀b f,ι b=some f→C b=some f:=fun b f s=>by
  rw[E b (fun h=>by rw[h,hfree] at s;cases s)];exact s
 have b8e:∀x g,Le (cut ι x) g (cut C x) g:=fun x g b f s=>by
  obtain⟨h1,h2⟩:=Dc s;exact⟨ab _,f,by rw[EK h1];exact Zr b f h2,fun _=>rfl⟩
 obtain⟨w',F⟩:∃w':World,w'={ w with heap:=w.heap.push (.cells cs' e (0,0)) }:=⟨_,rfl⟩
 have N:w.heap.size≤w'.heap.size:=by rw[F];simp only[Array.size_push];omega
 have f5:∀c,c<w.heap.size→w'.heap[c]?=w.heap[c]?:=fun c hc=>by
  rw[F];show(w.heap.push _)[c]?=w.heap[c]?;rw[gn,if_neg (by omega)]
 have b8b:∀A,H≤A→A≤Q→DR P G (cut C (S A).m.size) (S A).m w':=fun A h1 h2=>by
  have Z:=r.rH A h1 h2;have Nc:∀b f,cut C (S A).m.size b=some f→(b=B∧f=X)∨cut ι (S A).m.size b=some f:=fun b f s=>by
   obtain⟨O,J⟩:=Dc s;by_cases e:b=B
   ·rw[e,M] at J;cases J;exact .inl ⟨e,rfl⟩
   ·rw[E b e] at J;exact .inr (by rw[EK O];exact J)
  refine⟨fun b f s=>?_,fun b f s=>?_,fun b b' f R s hb' he=>?_,fun k V=>?_⟩
  ·refine⟨(Dc s).1,?_⟩
   rcases Nc b f s with⟨_,q⟩|q
   ·rw[q,F];show w.heap.size<(w.heap.push _).size;simp
   ·exact ag (Z.dom b f q).2 N
  ·rcases Nc b f s with⟨O,J⟩|q
   ·have b1u:w'.heap[f.blk]?=some (.cells cs' e (0,0)):=by
     rw[J,F];show(w.heap.push _)[w.heap.size]?=_;simp
    rw[b1u,O,hgi A h1 h2,J];refine⟨fun _=>rfl,rfl,rfl,fun i hi=>?_,fun _ j _=>by simp⟩;obtain⟨u,u1,u2⟩:=hl i hi;refine⟨u,by simpa[X] using u1,u2.mono fun b f s=>?_⟩;obtain⟨r1,r2⟩:=Dc s;have hsz:=(ht.Fz K H A h1 (by omega)).size;have e1:=CY (hq A h1 h2 b r1);have e2:=CY (hq Q T (ab _) b r1);exact⟨by rw[e1,e2];exact ab _,f,by rw[EK (by omega)];exact Zr b f r2,fun _=>rfl⟩
   ·rw[f5 _ (Z.dom b f q).2]
    exact(Z.blk b f q).mono (b8e _ _)
  ·rcases Nc b f s with⟨p1,p2⟩|p
   ·rcases Nc b' R hb' with⟨O,J⟩|q
    ·exact .inl (p1.trans O.symm)
    ·have:=(Z.dom b' R q).2
     rw[p2] at he;simp only[X] at he;omega
   ·rcases Nc b' R hb' with⟨O,J⟩|q
    ·have:=(Z.dom b f p).2
     rw[J] at he;simp only[X] at he;omega
    ·exact Z.inj b b' f R p q he
  ·obtain⟨f,O,J,q3,q4,q5⟩:=Z.glob k V
   obtain⟨r1,r2⟩:=Dc O;exact⟨f,by rw[EK r1];exact Zr k f r2,J,q3,q4,q5⟩
 obtain⟨v1,v0⟩:=TM (v':=.slice (some ⟨w.heap.size,0,none⟩) len len) K (ab H) (an r.h1 r.h1') ht hdr ho r.lsz HY r.tsz hdn (fun x=>b8e x (S Q).m.gen) (fun d hdd=>by
  rw[htv d hdd,hvv];refine .sl _ _ _ _ _ _ ⟨X,?_,ao _,ab _,fun _=>⟨rfl,rfl,.inr ⟨rfl,?_⟩⟩⟩
  ·have:(Fp (S j).m (S j).m.size).size=B:=hb0.symm
   show cut C _ (Fp (S j).m (S j).m.size).size=_;rw[this,EK (by have:=Y H (ab _) T;rw[Nat.max_eq_right (by omega)];exact this)];exact M
  ·simpa[X] using hcap) r.v1 r.v0
 refine⟨_,w',C,by rw[F];exact L w,by simpa using r.lsz,P5 r.cl I ho hall,r.h1,r.h1',r.h2,?_,fun k V htk hnk=>Gu I (r.h4 k V htk hnk),b8b,?_,?_,?_,v1,v0,?_,?_,?_,an r.heap N,
  fun c hc hf=>(f5 c (ag hc r.heap)).trans (r.frame c hc hf),by rw[F];exact r.tape,by rw[F];exact r.os,by rw[F];exact r.output,fun b f k s V U=>?_,fun k V hnk U=>r.oO k V hnk (E5 I U)⟩
 ·rcases r.h3 with h|⟨h1,h2⟩
  ·exact .inl h
  ·refine .inr ⟨h1,?_⟩
   rw[Ed I,if_neg (by omega)];exact h2
 ·intro b f s
  by_cases e:b=B
  ·exact .inl (by rw[e];exact Y H (ab _) T)
  ·rw[E b e] at s
   rcases r.b9r b f s with h|⟨i,h1,h2⟩
   ·exact .inl h
   ·exact .inr ⟨i,Gu I h1,h2⟩
 ·cases hdd:o.dst<;>simp[Act.put,r.tsz]
 ·cases hdd:o.dst<;>simp[Act.put,r.a9n]
 ·exact r.le.trans fun b f s=>⟨ab _,f,Zr b f s,fun _=>rfl⟩
 ·intro b f s
  by_cases e:b=B
  ·rw[e,M] at s;cases s
   exact .inr r.heap
  ·rw[E b e] at s
   exact r.back b f s
 ·intro b f s
  by_cases e:b=B
  ·exact .inr (by have:=(ht.Fz K 0 j (ao _) (by omega)).size;omega)
  ·rw[E b e] at s
   exact r.a7x b f s
 ·by_cases e:b=B
  ·exact ht.apart K W V (Ne.symm (NU I U)) (by omega) (by omega)
  ·rw[E b e] at s
   exact r.YU b f k s V (E5 I U)
end
section
variable {P:Program}{G:List Nat}{call:E8}{ops:Array Oper}{S:Nat→St}{ds:List Deferred}{rf:Option Nat}{nn:Nat}
theorem b5d(c:a2f o.op=some x)(h:BX P call ρ o m=some (v,m'))(j:IX v=some b):IX (ρ x)=some b:=by
 obtain⟨d,op,g,pos,a,guard⟩:=o;cases op<;>simp only[a2f,reduceCtorEq,Option.some.injEq] at c<;>subst c<;>simp only[BX,F5] at h
 case move=>grind
 case assign=>grind
 case nilCheck y=>split at h<;>first|grind|cases h
 case fieldAddr s y f =>
  repeat' split at h
  all_goals first
   |(cases h;rename_i e _ _ _ _ _;grind)
   |(cases h;simp_all [IX])
   |cases h
 case indexAddr t y i =>
  repeat' split at h
  all_goals first
   |(cases h;simp_all [IX])
   |cases h
theorem Yo(h:BR m e size l n s=some (v,m'))(i:b<m.size)(c:IX s≠some b):m'.get b=m.get b:=by
 unfold BR at h;split at h
 ·split at h
  ·grind
  ·cases h;rw[dZ,if_neg (by omega)]
 ·split at h
  ·grind
  ·cases h;rw[dZ,if_neg (by omega)]
 ·rename_i f d len g
  have a:f≠b:=fun e=>c (by rw[e];rfl)
  split at h
  ·split at h
   ·split at h
    ·cases h;rw[cg,if_neg a]
    grind
   grind
  grind
 grind
theorem tZ(d:Bo[0]?=some s)(h:Jq P f Bo m=some (v,m'))(e:b<m.size)(a:IX s≠some b):m'.get b=m.get b:=by
 unfold Jq at h;split at h
 ·rename_i i j x g n c l k
  rw[d] at c;cases c
  repeat' split at h
  all_goals first
   |exact Yo h e a
   |cases h
 grind
theorem Zt(j:a4o o.op=some x)(h:BX P call ρ o m=some (v,m'))(q:b<m.size)(i:IX (ρ x)≠some b):m'.get b=m.get b:=by
 obtain⟨r,op,z,pos,l,guard⟩:=o;cases op<;>simp only[a4o,reduceCtorEq,Option.some.injEq] at j
 case store t a y =>
  subst j;simp only[BX,F5] at h;split at h
  ·rename_i w k
   rw[ae] at h;obtain⟨m1,f,p⟩:=h;cases p;have g:w.block≠b:=fun e=>i (by rw[k,← e];rfl)
   unfold Nj at f
   repeat' split at f
   all_goals first
    |(unfold Gm at f
      split at f
      ·split at f
       ·cases f;rw[cg,if_neg g]
       grind
      grind)
    |grind
  grind
 case call c =>
  obtain⟨d,n,A⟩:=c;cases d<;>try cases j
  rename_i u;cases u<;>try cases j
  exact tZ (s:=ρ x) (by grind) h q i
theorem a0f:IX undef=none:=rfl
theorem qI(h:Z7 ops k (.tmp t)=true)(q:Nat)(o:Oper)(a:k≤q)(b:ops[q]?=some o):o.dst≠some t:=by
 unfold Z7 at h;grind
theorem lC(b:Trace P call ops S)(h:Z7 ops k r=true)(a:k≤i)(d:i≤ops.size):ev (S i).t r=ev (S k).t r:=by
 cases r with
 |tmp t=>exact b.tmps t k i a d fun q o e _ c=>qI h q o e c
 |const v=>rfl
 |global g=>rfl
 |func f=>rfl
theorem Trace.root(g:Trace P call ops S)(j:H6 ops=true)(u:i≤ops.size):∀(f q:Nat) (r r':Operand) (b:Nat),q≤ops.size→rootOf ops i f q r=some r'→IX (ev (S q).t r)=some b→IX (ev (S i).t r')=some b
 |0,_,_,_,_,_,h,_=>by cases h
 |f+1,q,r,r',b,hq,h,hb=>by
  unfold rootOf at h;split at h
  ·rename_i s
   cases h;rw[lC g s (co _ _) u,← lC g s (cw i q) hq];omega
  ·split at h
   ·rename_i t _
    split at h
    ·rename_i k y
     split at h
     ·rename_i n
      split at h
      ·rename_i x l
       have c:(ops[k]?).bind (·.dst)=some t:=by
        have:=List.find?_some y;grind
       cases hok:ops[k]? with
       |none=>grind
       |some o =>
        rw[hok] at c l;simp only[Option.bind_some] at c l;obtain⟨_,e⟩:=Ie j;have z:CO (S q).t t=CO (S (k+1)).t t:=g.tmps t (k+1) q n hq fun p op B _ m=>(e k o t hok c p op m (by omega)).1
        have a:IX (CO (S (k+1)).t t)=some b:=by rw[← z];exact hb
        rcases Ic (g.step k o hok) with⟨_,d,_⟩|⟨_,v,A,w,d,_⟩
        ·rw[d,c] at a
         simp only[IE] at a;rw[Dt,if_pos rfl,a0f] at a;grind
        ·rw[d,c] at a
         simp only[IE] at a;rw[Dt,if_pos rfl] at a;exact Trace.root g j u f k x r' b (by omega) h (b5d l w a)
      grind
     grind
    grind
   grind
theorem Trace.uV(n:Trace P call ops S)(u:Dl call)(g:H6 ops=true)(s:ops[i]?=some y)(A:ops[j]?=some l)(I:GN l.op=true)(H:c8y l.op=some a)(p:j≠i)
 (F:ordered ops i j=false) (k:IX (ev (S j).t a)=some b) (e:b<(S i).m.size):(S (i+1)).m.get b=(S i).m.get b:=by
 have K:=(al.1 s).1;have J:=(al.1 A).1;rcases Ic (n.step i y s) with⟨_,_,x,q,_⟩|⟨_,v,C,z,_,q,o⟩
 ·rw[q];rfl
 ·rw[q]
  show C.get b=(S i).m.get b;rcases o with h|h|⟨M,d⟩|⟨M,d⟩
  ·have:=tH h A I p
   grind
  ·exact(KA u z).keep _ e (ag e h)
  ·unfold Q8 at d
   rw[s] at d;split at d
   ·rename_i w E
    rw[aE] at d;have c:rootOf ops i 4 j a∈Jf ops i:=by
     unfold Jf;grind
    have f:=d _ c;cases hr:rootOf ops i 4 j a with
    |none=>grind
    |some r =>
     rw[hr] at f;simp only at f;have B:IX (ev (S i).t r)=some b:=n.root g (by omega) 4 j a r b (by omega) hr k;rw[B] at f;refine Zt (m:=Fp (S i).m (S i).m.size) E z e fun L=>?_
     rw[L] at f;simp[a6u] at f
   grind
  ·unfold NP at d
   rw[aE] at d;have c:rootOf ops i 4 j a∈Jf ops i:=by
    unfold Jf;grind
   have f:=d _ c;cases hr:rootOf ops i 4 j a with
   |none=>grind
   |some r =>
    rw[hr] at f;have B:IX (ev (S i).t r)=some b:=n.root g (by omega) 4 j a r b (by omega) hr k;grind
theorem Az.blk(h:Az ι g u d)(a:IX u=some b):∃ib,ι b=some ib:=by
 cases h<;>first|(cases a;done)|skip
 case ptr c=>cases a;obtain⟨ib,e,_⟩:=c;grind
 case sl hsr=>cases a;obtain⟨ib,e,_⟩:=hsr;grind
theorem DI.load{o:Oper}(I:Trace P call ops S)(g:Dl call)(Q:H6 ops=true)
 (E:DI ds P G n ops S ι0 w0 c ι a w F l) (ho:ops[j]?=some o) (HY:c.getD j false=false) (Z:∀e∈o.after,Region.binds .any e=true→c.getD e.on false=true)
 (O:GN o.op=true) (hv:BX P call (ev (S j).t) o (Fp (S j).m (S j).m.size)=some (v,m')) (U:∀x∈o.op.operands,Az (cut ι (S (max j F)).m.size) (S l).m.gen (ev (S j).t x) (a.eval x)) :
 ∃v',(execOp a.eval o).run P w=.ok (.value v') w∧Az (cut ι (S (max (j+1) F)).m.size) (S l).m.gen v v':=by
 have hjlt:j<ops.size:=(al.1 ho).1;have hpn:=E.h1;have hno:=E.h1';obtain⟨B,_⟩:=Ie Q;obtain⟨_,x,J,hxb,hrd⟩:=Zi O hv;have d4x:x∈o.op.operands:=by
  rcases a0o O with⟨t,y,q⟩|⟨t,y,lo,hi,q⟩<;>rw[q] at J ⊢<;>cases J<;>simp[Op.operands]
 have c7p:EP P ops j=false:=by unfold EP;grind
 obtain⟨f,hi'⟩:∃f,f=max F (min j l):=⟨_,rfl⟩
 have dom:∀b L,cut ι (S (max j F)).m.size b=some L→b<(S f).m.size∧ι b=some L:=fun b L r=>by
  obtain⟨T,R⟩:=Dc r;refine⟨?_,R⟩;have q3:=E.cO I g R;rcases aq l j with h|h
  ·rw[show f=l by omega];exact q3
  ·rw[show f=max j F by omega];exact T
 have key:∀b,IX (ev (S j).t x)=some b→b<(S f).m.size∧(S f).m.get b=(S j).m.get b:=fun b K=>by
  obtain⟨L,hc1⟩:=(U x d4x).blk K;obtain⟨hbi,hb2⟩:=dom b L hc1;have hbn:=E.cO I g hb2;have hbj:b<(S j).m.size:=hxb b K;refine⟨hbi,?_⟩;rcases aq j F with hlt|hge
  ·have e:f=F:=by omega
   rw[e];refine wJ (p:=fun k=>k≤F→(S k).m.get b=(S j).m.get b) (fun _=>rfl) (fun k X ih hkp=>?_) F (by omega) (ab _);rw[← ih (by omega)];have H:b<(S k).m.size:=ag hbj (I.Fz g j k X (by omega)).size;cases r:EP P ops k with
   |false=>exact I.quiet g (by omega) r _ H
   |true =>
    obtain⟨ok,A⟩:=getOp (ops:=ops) (i:=k) (by omega);have hne:j≠k:=fun e=>by subst e;rw[c7p] at r;cases r
    refine I.uV g Q A ho O J hne ?_ K H;cases hord:ordered ops k j with
    |false=>rfl
    |true =>
     exfalso;unfold ordered at hord;rw[if_pos (by omega)] at hord;have hlk:=E.h4 k (by omega) (Jb r).1 (Vr r);have:=EC E.cl B k ok j A (E.cl k ok A hlk) hord;rw[HY] at this;cases this
  ·rcases aq l j with hlt|e0e
   ·have e:f=l:=by omega
    rw[e];have N:EP P ops l=true∧c.getD l false=false:=by
     rcases E.h3 with h|h
     ·omega
     ·exact h
    have X:(S j).m.get b=(S l).m.get b:=by
     refine wJ (p:=fun k=>k≤j→(S k).m.get b=(S l).m.get b) (fun _=>rfl) (fun k X ih hkp=>?_) j (by omega) (ab _);rw[← ih (by omega)];have H:b<(S k).m.size:=ag hbn (I.Fz g l k X (by omega)).size;cases r:EP P ops k with
     |false=>exact I.quiet g (by omega) r _ H
     |true =>
      obtain⟨ok,A⟩:=getOp (ops:=ops) (i:=k) (by omega);have d7b:c.getD k false=false:=by
       by_cases e:k=l
       ·rw[e];exact N.2
       ·cases O:c.getD k false with
        |false=>rfl
        |true =>
         have Y:=((Jb N.1).2 k e (Jb r).1).2 (by omega);have:=EC E.cl B k ok l A (E.cl k ok A O) Y;rw[N.2] at this;cases this
      refine I.uV g Q A ho O J (by omega) ?_ K H;cases hord:ordered ops k j with
      |false=>rfl
      |true =>
       exfalso;unfold ordered at hord;rw[if_neg (by omega)] at hord;have:=EC E.cl B j o k ho Z hord;rw[d7b] at this;cases this
    exact X.symm
   ·have e:f=j:=by omega
    rw[e]
 have M:∀b,b<(S f).m.size→(S l).m.gen b=(S f).m.gen b:=fun b r =>
  CY (I.JM g f l (by omega) hno (fun k h1 h2=>E.h2 k (by omega) h2) b r)
 have d:BX P call (ev (S j).t) o (S f).m=some (v,(S f).m):=hrd _ key;have hs:=E.rH f (by omega) (by omega);have C:∀y∈o.op.operands,Az (cut ι (S f).m.size) (S f).m.gen (ev (S j).t y) (a.eval y):=fun y V=>(U y V).mono fun b L r=>by
  obtain⟨T,R⟩:=dom b L r;exact⟨by rw[M b T];exact ab _,L,by rw[EK T];exact R,fun _=>rfl⟩
 have run:∃v',(execOp a.eval o).run P w=.ok (.value v') w∧Az (cut ι (S f).m.size) (S f).m.gen v v':=by
  obtain⟨dst,op,ty,pos,after,guard⟩:=o;rcases a0o O with⟨t,y,q⟩|⟨t,y,lo,hi,q⟩
  ·simp only at q
   subst q;simp only[BX,F5] at d;split at d
   ·rename_i ad had
    rw[ae] at d;obtain⟨u,hu,he⟩:=d;cases he;have V:=C y (by simp[Op.operands]);rw[had] at V;have hsh:∃a',a.eval y=.pointer (some a')∧QL (cut ι (S f).m.size) (S f).m.gen ad a':=by generalize a.eval y=u at V;cases V;exact⟨_,rfl,by assumption⟩
    obtain⟨a',e1,har⟩:=hsh;obtain⟨v',W,QS⟩:=Q5 hs har hu;exact⟨v',H9 (s:=Instr.loadAt t (a.eval y)) (by simp only[Instr.loadAt,e1,Instr.sureAddr,Sem.run_bind,Sem.run_pure,Result.andThen_ok];exact W),QS⟩
   ·cases d
  ·simp only at q
   subst q;simp only[BX,F5,Option.map_none] at d;rw[ae] at d;obtain⟨u,hu,he⟩:=d;cases he;obtain⟨v',W,QS⟩:=Y5 hs (C y (by simp[Op.operands])) (ZM.map (o:=lo) fun z hz=>C z (by subst hz;simp[Op.operands])) (ZM.map (o:=hi) fun z hz=>C z (by subst hz;simp[Op.operands]))
    (mx':=none) (.inl ⟨rfl,rfl⟩) hu
   exact⟨v',H9 W,QS⟩
 obtain⟨v',W,QS⟩:=run;refine⟨v',W,QS.mono fun b ZP r=>?_⟩;obtain⟨T,R⟩:=Dc r;have hsz:=(I.Fz g f (max (j+1) F) (by omega) (by omega)).size;exact⟨by rw[M b T];exact ab _,ZP,by rw[EK (by omega)];exact R,fun _=>rfl⟩
theorem Wv(h:I5 G n o=true):o.semAt ro ρ=execOp ρ o:=Oper.semAt_eq _ _ _ fun c a=>by
 unfold I5 at h;grind
theorem DI.junk(x:Obj)(b:DI ds P G n ops S ι0 w0 d ι a w e f):DI ds P G n ops S ι0 w0 d ι a { w with heap:=w.heap.push x } e f :=
 ⟨b.lsz,b.cl,b.h1,b.h1',b.h2,b.h3,b.h4,fun j h1 h2=>(b.rH j h1 h2).junk x,b.b9r,b.tsz,b.a9n,b.v1,b.v0,b.le,b.back,b.a7x,
  by have:=b.heap;grind,
  fun c h g=>by
   have:=b.heap;rw[gn,if_neg (by omega)];exact b.frame c h g,b.tape,b.os,b.output,b.YU,b.oO⟩
theorem uw(h:IG ops k=true):touches P ops k=true:=by
 unfold IG at h;unfold touches;cases hk:ops[k]? with
 |none=>grind
 |some o =>
  rw[hk] at h;obtain⟨b,op,c,pos,a,guard⟩:=o;cases op<;>simp only[Oe,Bool.false_eq_true] at h
  simpa[DW,GN] using h
theorem qB{o:Oper}(h:a4o o.op=some x):x∈o.op.operands:=by
 obtain⟨g,op,j,pos,e,guard⟩:=o;cases op<;>simp only[a4o,reduceCtorEq,Option.some.injEq] at h
 case store t a y=>subst h;simp[Op.operands]
 case call c =>
  obtain⟨b,d,k⟩:=c;cases b<;>try cases h
  rename_i i;cases i<;>try cases h
  have f:d[0]?=some x:=h;have:=ir f;simp[Op.operands,Call.operands,this]
theorem a8v(hc:Kw P G call)(g:Dl call)(E:Trace P call ops S)(u:H6 ops=true)
 (Z:∀(i:Nat) (o:Oper),ops[i]?=some o→I5 G n o=true) (hG:∀k,k∈G→k<(S 0).m.size) (hb0:∀b ib,ι0 b=some ib→b<(S 0).m.size)
 (r:DI ds P G n ops S ι0 w0 p ι a w T J) (hr:j∈Region.ready .any ops p)  
 (hK:∀M a' w' jp' jn',DI ds P G n ops S ι0 w0 (p.setIfInBounds j true) M a' w' jp' jn'→K a' w'):wpOpIn (WF rf) nn P ops Q j K a w:=by
 obtain⟨hun,o,s,c⟩:=mem_ready.1 hr;have hjlt:j<ops.size:=(al.1 s).1;have R:p.getD j false=false:=by
  grind
 obtain⟨hop,C⟩:=DV (Z j o s);have I:=Z j o s;obtain⟨O,_⟩:=Ie u;have N:touches P ops j=true→(IG ops j=true∧j<T)∨T≤j∧(EP P ops j=true→j=J)∧(EP P ops j=false→j<J):=fun X=>by
  by_cases hnl:IG ops j=true∧j<T
  ·grind
  refine .inr ?_;have h1:T≤j:=by
   rcases aq j T with h|h
   ·have:=r.h4 j h X (by grind)
    grind
   omega
  have h2:j≤J:=by
   rcases r.h3 with h|⟨q1,q2⟩
   ·omega
   ·rcases aq J j with h|h
    ·obtain⟨_,t2⟩:=Jb q1
     have hbit:=(t2 j (by omega) X).2 h;have:=EC r.cl O j o J s c hbit;rw[q2] at this;cases this
    omega
  refine⟨h1,fun q=>?_,fun q=>?_⟩
  ·rcases aq j J with h|h
   ·have:=r.h2 j h1 h
    rw[q] at this;cases this
   ·omega
  ·rcases aq j J with h|h
   ·exact h
   ·have:j=J:=by omega
    subst this;rcases r.h3 with h|⟨q1,_⟩
    ·omega
    ·rw[q] at q1;cases q1
 have yJ:EP P ops j=true→touches P ops j=true:=fun h=>(Jb h).1
 have c7m:EP P ops j=true→j=J:=fun h=>by
  rcases N (yJ h) with⟨h1,_⟩|h1
  ·rw[Vr h] at h1;cases h1
  ·exact h1.2.1 h
 unfold wpOpIn;simp only[s];rw[a8w E g u r s R c];rcases Ic (E.step j o s) with⟨hw,htt,x,hm,hx1,hx2⟩|⟨hw,v,m',U,htt,hm,hor⟩
 ·rw[hw]
  simp only[Bool.false_eq_true,if_false];refine⟨fun _ _=>trivial,?_⟩;have B:∀d,o.dst=some d→CO (S (j+1)).t d=undef:=fun d A=>by
   rw[htt,A];simp only[IE];rw[Dt,if_pos rfl]
  cases q:EP P ops j with
  |true =>
   have hj:=c7m q;subst hj;have hs:=(r.rH j r.h1 (ab _)).low (S j).m.size;obtain⟨M,jp',jn',F⟩:=DI.bar (v:=undef) (v':=undef) (m':=Fp (S j).m (S j).m.size) (y:=x) E g u r s R c C hb0 q (by rw[hm];rfl) hx2 B (fun _ _ _ _ _ _ _=>by rw[hm];rfl) (Ext.refl _ _ _) hs Az.undef;exact hK _ _ _ _ _ F
  |false =>
   exact hK _ _ _ _ _ (k8 g E u r s R c C q fun d A=>by rw[B d A];exact Az.undef)
 ·rw[hw]
  simp only[if_true];have B:∀d,o.dst=some d→CO (S (j+1)).t d=v:=fun d A=>by
   rw[htt,A];simp only[IE];rw[Dt,if_pos rfl]
  have L:=pq E g u r hG s R c hop;by_cases V:DW P o.op=true
  ·
   have hv':F5 P (ev (S j).t) o (Fp (S j).m (S j).m.size)=some (v,m'):=by
    unfold BX at U;split at U
    ·rename_i f args aT d5y
     rw[d5y] at V;simp[DW] at V
    ·exact U
   have hnt:touches P ops j=false:=by unfold touches;rw[s];simp[V]
   have W:EP P ops j=false:=by
    cases q:EP P ops j with
    |false=>rfl
    |true=>have:=yJ q;rw[hnt] at this;cases this
   by_cases hns:∀t len ps,o.op≠.buildSlice t len ps
   case neg =>
    obtain⟨t,h0⟩:=ej.1 hns;obtain⟨len,h0⟩:=ej.1 h0;obtain⟨ps,h0⟩:=ej.1 h0;obtain⟨x,hx⟩:=uh (bR.1 h0) V L hv';obtain⟨z,QS⟩:=hx w;unfold Oper.wpIn;rw[Wv I,z];refine⟨fun _ _=>trivial,?_⟩;refine hK _ _ _ _ _ (DI.junk x (k8 g E u r s R c C W fun d A=>?_));rw[B d A];exact QS.mono (Le.cut (E.Fz g (max j T) (max (j+1) T) (by omega) (by have:=r.h1;have:=r.h1';omega)).size)
   obtain⟨v',z,QS⟩:=xZ V hns L hv';unfold Oper.wpIn;rw[Wv I,z w];refine⟨fun _ _=>trivial,?_⟩;refine hK _ _ _ _ _ (k8 g E u r s R c C W fun d A=>?_);rw[B d A];exact QS.mono (Le.cut (E.Fz g (max j T) (max (j+1) T) (by omega) (by have:=r.h1;have:=r.h1';omega)).size)
  by_cases hl:GN o.op=true
  ·obtain⟨v',z,QS⟩:=DI.load E g u r s R c hl U L
   have W:EP P ops j=false:=by unfold EP;rw[s];simp[hl]
   unfold Oper.wpIn;rw[Wv I,z];refine⟨fun _ _=>trivial,?_⟩;refine hK _ _ _ _ _ (k8 g E u r s R c C W fun d A=>?_);rw[B d A];exact QS
  ·have X:touches P ops j=true:=by unfold touches;rw[s];simp[V,hl]
   rcases N X with⟨hnw,hjl⟩|⟨hjp,c5z,d1k⟩
   ·have hn:Oe o.op=true:=by unfold IG at hnw;rw[s] at hnw;exact hnw
    obtain⟨v',w',M,z,F⟩:=pA E g u r s R c C hjl hn U hm B L;unfold Oper.wpIn;rw[Wv I,z];refine⟨fun _ _=>trivial,?_⟩;exact hK _ _ _ _ _ F
   have hjn:j≤J:=by
    cases q:EP P ops j with
    |true=>have:=c5z q;omega
    |false=>have:=d1k q;omega
   have hs:=(r.rH j hjp hjn).low (S j).m.size;rw[Nat.max_eq_left hjp] at L;have Y:∀x∈o.op.operands,Az (cut ι (S j).m.size) (Fp (S j).m (S j).m.size).gen (ev (S j).t x) (a.eval x):=fun x hx=>(L x hx).mono fun b ib q=>by
    have hbl:=(Dc q).1;have:=E.JM g j J hjn r.h1' (fun k h1 h2=>r.h2 k (by omega) h2) b hbl;refine⟨?_,ib,q,fun _=>rfl⟩;show(S J).m.gen b≤(S j).m.gen b;rw[CY this];exact ab _
   refine PD hc hs Y U fun v' w' hp=>?_
   obtain⟨ι1,hext,Dk,QS⟩:=hp;cases q:EP P ops j with
   |true =>
    have hj:=c5z q;subst hj;have hkeep:∀k,k<j→IG ops k=true→p.getD k false=false→∀b,(S k).m.size≤b→b<(S (k+1)).m.size→(S (j+1)).m.get b=(S j).m.get b:=fun k hk hnk hlk b h1 h2=>by
     have hbj:b<(S j).m.size:=ag h2 (E.Fz g (k+1) j (by omega) (by omega)).size;have htk:touches P ops k=true:=uw hnk;rw[hm];show m'.get b=(S j).m.get b;have H:barrier P ops j=true∨Ru P ops j=true→m'.get b=(S j).m.get b:=fun h=>by
      have:=EC r.cl O j o k s c (uf h hnk htk hk);rw[hlk] at this;cases this
     rcases hor with h|h|⟨h,_⟩|⟨h,_⟩
     ·exact H (.inl h)
     ·exact(KA g U).keep _ hbj (ag hbj h)
     ·unfold rG at h
      rw[cx,s] at h;obtain⟨x,hx⟩:=gR.1 h.1;refine Zt (m:=Fp (S j).m (S j).m.size) hx U hbj fun he=>?_
      obtain⟨ib,h3⟩:=(Y x (qB hx)).blk he;exact r.YU b ib k (Dc h3).2 (by omega) hlk ⟨h1,h2⟩
     ·exact H (.inr h)
    obtain⟨M,jp',jn',F⟩:=DI.bar (v:=v) (v':=v') (m':=m') E g u r s R c C hb0 q hm (cw _ _) B hkeep hext Dk QS;exact hK _ _ _ _ _ F
   |false =>
    have hlow:(S j).m.size≤m'.low:=by
     by_cases hn:Oe o.op=true
     ·obtain⟨l,e,k,_,h2,_⟩:=Yi hn U
      rw[h2];exact ab _
     rcases hor with h|h|⟨h,_⟩|⟨h,_⟩
     ·exfalso
      unfold EP at q;rw[s] at q;simp[V,hl,hn,h] at q
     ·exact h
     ·exfalso
      unfold EP at q;rw[s] at q;simp[V,hl,hn,h] at q
     ·exfalso
      unfold EP at q;rw[s] at q;simp[V,hl,hn,h] at q
    obtain⟨M,F⟩:=DI.quiet (v:=v) (v':=v') E g u r s R c C hjp (d1k q) hm hlow (KA g U) B hext Dk QS;exact hK _ _ _ _ _ F
def unl(ops:Array Oper)(listed:Array Bool):Nat:=((List.range ops.size).filter fun i=>listed.getD i false==false).length
theorem c0g(d:a.size=ops.size)(f:j<ops.size)(h:a.getD j false=false):unl ops (a.setIfInBounds j true)+1=unl ops a:=by
 have b:j<a.size:=by omega
 have c:∀(l:List Nat),l.Nodup→j∈l→(l.filter fun i=>(a.setIfInBounds j true).getD i false==false).length+1=(l.filter fun i=>a.getD i false==false).length:=by
  intro l
  induction l with
  |nil=>simp
  |cons x l g =>
   intro k m;by_cases e:x=j
   ·subst e
    have o:l.filter (fun i=>(a.setIfInBounds x true).getD i false==false)=l.filter (fun i=>a.getD i false==false):=by
     apply gE;intro i n;rw[Ed b,if_neg (fun e=>by grind)]
    simp_all
   ·rw[el,el,Ed b,if_neg e]
    grind
 exact c _ gS (List.mem_range.2 f)
theorem Uo(c:a.size=ops.size)(b:∀(i:Nat) (o:Oper),ops[i]?=some o→∀e∈o.after,Region.binds .any e=true→e.on<i)(h:Region.ready .any ops a=[]) :
 ∀i,i<ops.size→a.getD i false=true:=by
 intro i
 induction i using Nat.strongRecOn with
 |_ i g =>
  intro f;cases hl:a.getD i false with
  |true=>rfl
  |false =>
   obtain⟨o,d⟩:=getOp f;have:i∈Region.ready .any ops a:=mem_ready.2 ⟨by grind,o,d,fun e j k=>by
    grind⟩
   grind
theorem b3n(h:unl ops a=0):∀i,i<ops.size→a.getD i false=true:=by
 intro i b;unfold unl at h;simp_all
theorem DI.done(j:Dl call)(q:Trace P call ops S)(c:DI ds P G n ops S ι0 w0 d ι a w x o)
 (l:∀i,i<ops.size→d.getD i false=true):Reach P G ds n ι0 (S 0) w0 (S ops.size) a w:=by
 have s:o=ops.size:=by
  rcases c.h3 with h|⟨h1,B⟩
  ·exact h
  ·rcases aq o ops.size with h|h
   ·grind
   ·have:=c.h1';omega
 subst s;have g:=q.Fz j 0 ops.size (ao _) (ab _);refine⟨ι,⟨g.size,g.low,g.keep,g.ro,g.ro',c.le,c.back,c.a7x,c.heap,c.frame,c.tape,c.os,c.output⟩,?_,c.tsz,c.a9n,fun t=>?_⟩
 ·refine(c.rH ops.size c.h1 (ab _)).congr fun b=>?_
  cases hib:ι b with
  |none =>
   unfold cut;grind
  |some A=>rw[EK (c.cO q j hib)];grind
 ·by_cases p:∃(i:Nat) (f:Oper),ops[i]?=some f∧f.dst=some t
  ·obtain⟨i,f,m,e⟩:=p
   exact(c.v1 i f t m e (l i (al.1 m).1)).mono nF
  ·have y:=c.v0 t fun i f m e=>absurd ⟨i,f,m,e⟩ p
   have z:CO (S ops.size).t t=CO (S 0).t t:=q.tmps t 0 ops.size (ao _) (ab _) fun k ok _ _ r u=>p ⟨k,ok,r,u⟩
   rw[z];exact y.mono nF
theorem b2s(F:Kw P G call)(c:Dl call)(u:Trace P call ops S)(h:H6 ops=true)
 (f:∀(i:Nat) (o:Oper),ops[i]?=some o→I5 G n o=true) (H:∀k,k∈G→k<(S 0).m.size) (y:∀b ib,ι0 b=some ib→b<(S 0).m.size) 
 (B:∀a' w',Reach P G ds n ι0 (S 0) w0 (S ops.size) a' w'→Q .normal a' w'):∀(fuel:Nat) (listed:Array Bool) (ι:BJ) (a:Act) (w:World) (jp jn:Nat),
 DI ds P G n ops S ι0 w0 listed ι a w jp jn→unl ops listed=fuel→wpAnyIn (WF rf) nn P .any ops Q fuel listed a w:=by
 obtain⟨d,_⟩:=Ie h;intro fuel
 induction fuel with
 |zero =>
  intro listed ι a w jp jn e z;have l:=b3n z;refine⟨?_,B a w (e.done c u l)⟩;rw[cv];intro j p;obtain⟨I,o,A,_⟩:=mem_ready.1 p;grind
 |succ fuel C =>
  intro listed ι a w jp jn e z;refine⟨fun E=>B a w (e.done c u (Uo e.lsz d E)),fun j p=>?_⟩;refine a8v F c u h f H y e p fun q a' w' r s x=>C _ q a' w' r s x ?_
  obtain⟨I,o,A,_⟩:=mem_ready.1 p;have g:=(al.1 A).1;have J:listed.getD j false=false:=by grind
  have:=c0g (ops:=ops) e.lsz g J;omega
theorem aZ(J:Kw P G call)(j:Dl call)(T:P.follows .mixedOrders=true):mF P G call:=by
 intro ds rf nn n id ops s O ι a w Q E I h f W;obtain⟨S,e0,N,u⟩:=V7 ops.toList 0 s O h;simp only[Nat.zero_add] at N u;have M:ops.toList.length=ops.size:=by simp
 subst e0;subst N;have A:Trace P call ops S:=⟨fun i o X=>u i o (by grind)⟩
 have z:∀(i:Nat) (o:Oper),ops[i]?=some o→I5 G n o=true:=fun i o X=>E o (by
  grind)
 have hG:∀k,k∈G→k<(S 0).m.size:=fun k B=>by
  obtain⟨c,e,_⟩:=f.1.glob k B;exact(f.1.dom k c e).1
 have g:∀b c,ι b=some c→b<(S 0).m.size:=fun b c d=>(f.1.dom b c d).1
 refine wpIn_region_any T ?_;have F:∀i,(Array.replicate ops.size false).getD i false=false:=fun i=>by
  by_cases Z:i<ops.size<;>simp[Z]
 obtain⟨r,n1,R,L,n4⟩:=a5q ops 0 (ao _);have p:∀l,l≤r→∀b,b<(S 0).m.size→(S l).m.get b=(S 0).m.get b:=fun l e=>A.JM j 0 l (ao _) (by omega) (fun k _ q=>L k (ao _) (by omega))
 have H:∀x,Le (cut ι x) (S 0).m.gen (cut ι x) (S r).m.gen:=fun x b c d=>by
  have:=p r (ab _) b (g b c (Dc d).2);exact⟨by rw[CY this];simp,c,d,fun _=>rfl⟩
 refine b2s (ds:=ds) (S:=S) (ι0:=ι) (w0:={ w with drawn:=w.drawn+1 }) J j A I z hG g (fun a' w' V=>W a' w' ?_) ops.size _ ι a { w with drawn:=w.drawn+1 } 0 r ?_ ?_
 ·obtain⟨C,e,q⟩:=V
  exact⟨C,⟨e.size,e.low,e.keep,e.ro,e.ro',e.le,e.back,e.dom,e.heap,e.frame,e.tape,e.os,e.output⟩,q⟩
 ·refine⟨by simp,(fun i o _ Y=>by grind),ao _,R,fun k _ q=>L k (ao _) q,?_,fun k B=>by omega,fun l _ q=>?_,fun b c d=>.inl (g b c d),f.2.size,f.2.defers,
   (fun i o t _ _ Y=>by grind),fun t _=>?_,fun b c d=>?_,fun b c d=>.inl ⟨c,d,rfl⟩,fun b c d=>.inl ⟨c,d⟩,ab _,fun _ _ _=>rfl,rfl,rfl,rfl,
   fun b c k d B _ h=>by have:=g b c d;have:=(A.Fz j 0 k (ao _) (by omega)).size;omega,fun k B=>by omega⟩
  ·grind
  ·have y:=(A.Fz j 0 l (ao _) (by omega)).size
   refine((f.1.drawn (w.drawn+1)).extend y (p l q)).congr fun b=>?_
   cases hib:ι b with
   |none =>
    unfold cut;grind
   |some c=>rw[EK (ag (g b c hib) y)];omega
  ·refine(f.2.val t).mono fun b c d=>?_
   have K:=g b c d;have J:cut ι (S 0).m.size b=some c:=by rw[EK K];omega
   obtain⟨q1,U,q2,q3⟩:=H (S 0).m.size b c J;grind
  ·have:=p r (ab _) b (g b c d)
   exact⟨by rw[CY this];simp,c,d,fun _=>rfl⟩
 ·unfold unl
  rw[iS.2 (fun i _=>by grind)];simp
end
end Go.Am
