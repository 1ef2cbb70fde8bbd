/-
  Texts of a proof, merged (AmC). Conditions: in each statement.
-/
import Derived.OrdersIn
import Derived.Test.YtnjkoebfgcbbdaaGreatDoorKPb
set_option linter.unusedSimpArgs false
set_option linter.unusedVariables false
set_option linter.unusedSectionVars false
set_option maxRecDepth 100000
set_option maxHeartbeats 8000000
abbrev aq:=@Nat.lt_or_ge
abbrev cj:=@List.eq_nil_iff_forall_not_mem
abbrev cD:=@List.mem_append_left
abbrev cW:=@Bool.and_eq_true
abbrev du:=@Classical.not_forall
abbrev dx:=@List.filter_cons
abbrev eT:=@Nat.lt_trichotomy
abbrev gg:=@List.filter_congr
abbrev gv:=@Option.isSome_iff_exists
abbrev gw:=@List.nodup_range
abbrev gO:=@Array.mem_of_getElem?
abbrev ie:=@Bool.or_eq_true_iff
abbrev ii:=@List.filter_eq_self
namespace Go.Am
section
variable {P:Program}{G:List Nat}{ds:List Deferred}{rf:Option Nat}{nn:Nat}
structure AP(m m':Mem):Prop where
 size:m.size≤m'.size
 low:m'.low≤m.low
 keep:∀b,b<m.size→b<m'.low→m'.get b=m.get b
 ro:∀b,b<m.size→m.ro b=true→m'.get b=m.get b
 ro':∀b,b<m.size→m'.ro b=m.ro b
theorem AP.refl(m:Mem):AP m m:=⟨ab _,ab _,fun _ _ _=>rfl,fun _ _ _=>rfl,fun _ _=>rfl⟩
theorem AP.trans{m m' c:Mem}(h:AP m m')(k:AP m' c):AP m c:=by
 refine⟨am h.size k.size,am k.low h.low,fun b a d=>?_,fun b a e=>?_,fun b a=>?_⟩
 ·rw[k.keep b (ag a h.size) d,h.keep b a (ag d k.low)]
 ·rw[k.ro b (ag a h.size) (by rw[h.ro' b a];omega),h.ro b a e]
 ·rw[k.ro' b (ag a h.size),h.ro' b a]
theorem AP.alloc(m:Mem)(x:II):AP m (m.alloc x):=by
 have hget:∀b,b<m.size→(m.alloc x).get b=m.get b:=fun b a=>by rw[Mem.Bj,if_neg (by omega)]
 exact⟨cL _,ab _,fun b a _=>hget b a,fun b a _=>hget b a,fun b a=>Fp (hget b a)⟩
theorem AP.put{m:Mem}{b:Nat}{x:II}(h:m.ro b=false)(d:x.ro=false):AP m (m.put b x):=by
 have hget:∀c,c≠b→(m.put b x).get c=m.get c:=fun c a=>by rw[Mem.get_put,if_neg (fun e=>a e.symm)]
 refine⟨ab _,cd _ _,fun c a g=>hget c fun e=>?_,fun c a f=>hget c fun e=>?_,fun c a=>?_⟩
 ·subst e;have:(m.put c x).low≤c:=ck _ _;omega
 ·grind
 ·by_cases e:c=b
  ·subst e;rw[h];unfold Mem.ro;rw[Mem.get_put,if_pos rfl];omega
  ·exact Fp (hget c e)
theorem Nl{m m':Mem}{a:Addr}{l:List Value}(h:Gu m a l=some m'):AP m m':=by
 unfold Gu at h;split at h
 ·rename_i c e g b
  split at h
  ·cases h;exact AP.put (Mem.P5 b) rfl
  grind
 grind
theorem Xr{m m':Mem}{e:TypeId}{size n:Nat}{l:List Value}{s v:Value}(h:BN m e size l n s=some (v,m')):AP m m':=by
 unfold BN at h;split at h
 ·split at h
  ·cases h;exact AP.refl _
  ·cases h;exact AP.alloc _ _
 ·split at h
  ·cases h;exact AP.refl _
  ·cases h;exact AP.alloc _ _
 ·split at h
  ·rename_i b d c a
   split at h
   ·split at h
    ·cases h;exact AP.put (Mem.P5 a) rfl
    grind
   grind
  grind
 grind
theorem pO{a:Array TypeId}{Bh:Array Value}{m m':Mem}{v:Value}(h:Jm P a Bh m=some (v,m')):AP m m':=by
 unfold Jm at h
 repeat' split at h
 all_goals first
  |exact Xr h
  |cases h
theorem zf{c:Array TypeId}{Bh:Array Value}{m m':Mem}{v:Value}(h:sW P c Bh m=some (v,m')):AP m m':=by
 unfold sW at h;simp only at h
 repeat' split at h
 all_goals first
  |(cases h;exact AP.refl _)
  |(rw[ae] at h;obtain⟨m1,b,a⟩:=h;cases a;exact Nl b)
  |cases h
theorem rZ{c:Array TypeId}{Bh:Array Value}{m m':Mem}{v:Value}(h:Xh P c Bh m=some (v,m')):AP m m':=by
 unfold Xh at h
 repeat' split at h
 all_goals first
  |(cases h;exact AP.refl _)
  |(rw[ae] at h;obtain⟨m1,b,a⟩:=h;cases a;exact Nl b)
  |cases h
theorem pW{t:TypeId}{x k v:Value}{m m':Mem}(h:Jb P t x k v m=some m'):AP m m':=by
 unfold Jb at h;split at h
 ·split at h
  ·rename_i c a b
   repeat' split at h
   all_goals first
    |(cases h;exact AP.put (by unfold Mem.ro;rw[b];rfl) rfl)
    |cases h
  grind
 grind
theorem uZ{t:TypeId}{x k v:Value}{m m':Mem}(h:Un P t x k m=some (v,m')):AP m m':=by
 unfold Un at h;split at h
 ·split at h
  ·rename_i c a b
   repeat' split at h
   all_goals first
    |(cases h;exact AP.put (by unfold Mem.ro;rw[b];rfl) rfl)
    |cases h
  grind
 grind
theorem XB{x s v:Value}{m m':Mem}(h:IZ x s v m=some m'):AP m m':=by
 unfold IZ at h;split at h
 ·split at h
  ·rename_i c a b
   repeat' split at h
   all_goals first
    |(cases h;exact AP.put (by unfold Mem.ro;rw[b];rfl) rfl)
    |cases h
  grind
 grind
theorem xg{s d:TypeId}{x v:Value}{m m':Mem}(h:Yv P s d x m=some (v,m')):AP m m':=by
 unfold Yv at h
 repeat' split at h
 all_goals first
  |(cases h;exact AP.alloc _ _)
  |(cases h;exact AP.refl _)
  |cases h
theorem a9f{ρ:Operand→Value}{o:Oper}{m m':Mem}{v:Value}(h:FI P ρ o m=some (v,m')):AP m m':=by
 unfold FI at h;split at h
 all_goals(repeat' split at h)
 all_goals first
  |(cases h;exact AP.refl _)
  |(cases h;exact AP.alloc _ _)
  |exact pO h
  |exact zf h
  |exact rZ h
  |exact xg h
  |exact uZ h
  |(rw[ae] at h;obtain⟨u,a,b⟩:=h;cases b;first
   |exact AP.refl _
   |exact AP.alloc _ _
   |exact pW a
   |exact XB a
   |(unfold LM at a;(repeat' split at a)<;>first|exact Nl a|cases a))
  |cases h
theorem xC{a:Array TypeId}{Bh:Array Value}(b:Qi P a=true)(m m2:Mem):ZR P a Bh m=ZR P a Bh m2:=by
 unfold Qi at b;unfold ZR;grind
theorem vU{ρ:Operand→Value}{o:Oper}{m m':Mem}{v:Value}(f:DK P o.op=true)(h:FI P ρ o m=some (v,m'))(m2:Mem):m'=m∧FI P ρ o m2=some (v,m2):=by
 obtain⟨n,op,p,pos,i,guard⟩:=o;have g:∀{x:Option Value},x.map (fun v=>(v,m))=some (v,m')→m'=m∧x.map (fun v=>(v,m2))=some (v,m2):=fun{x} h=>by
  rw[ae] at h;grind
 simp only at f;cases op<;>simp only[DK,Bool.false_eq_true] at f<;>simp only[FI] at h ⊢
 case move=>grind
 case assign=>grind
 case makeFunc fn fs cs =>
  cases fn<;>simp only[reduceCtorEq] at h ⊢
  grind
 case pick c a b =>
  split at h
  ·grind
  grind
 case convert s d x =>
  grind
 case buildSlice t len ps =>
  have l:len=0:=by grind
  subst l;simp only[if_true] at h ⊢
  repeat' split at h
  all_goals first|(cases h;refine⟨rfl,?_⟩;grind)|cases h
 case call c =>
  obtain⟨e,k,q⟩:=c;cases e<;>simp only[reduceCtorEq,Bool.false_eq_true] at f h ⊢
  rename_i b;cases b<;>simp only[reduceCtorEq,Bool.false_eq_true] at f h ⊢
  case cap=>grind
  case len=>rw[xC f m m2] at h;grind
  case max=>split at h<;>rename_i j<;>first|grind|cases h
  grind
 all_goals first
  |exact g h
  |(split at h<;>rename_i j<;>first|(rw[if_pos j];grind)|(cases h;done))
  |(repeat' split at h
    all_goals first
     |(cases h;refine⟨rfl,?_⟩;simp_all;done)
     |(cases h;exact⟨rfl,rfl⟩)
     |exact g h
     |cases h)
end
section
variable {P:Program}{G:List Nat}{ds:List Deferred}{rf:Option Nat}{nn:Nat}
def Dc(call:EO):Prop:=∀f Bh m v m',call f Bh m=some (v,m')→AP m m'
theorem JR{call:EO}(a:Dc call){ρ:Operand→Value}{o:Oper}{m m':Mem}{v:Value}(h:BO P call ρ o m=some (v,m')):AP m m':=by
 unfold BO at h;split at h
 ·split at h
  ·exact a _ _ _ _ _ h
  grind
 ·exact a9f h
def cut(ι:BG)(n:Nat):BG:=fun b=>if b<n then ι b else none
theorem Ep{ι:BG}{n b:Nat}(h:b<n):cut ι n b=ι b:=if_pos h
theorem CX{ι:BG}{n b:Nat}{ib:IB}(h:cut ι n b=some ib):b<n∧ι b=some ib:=by
 unfold cut at h;grind
def EU(m:Mem)(x:Nat):Mem:={ m with low:=x }
theorem DF.low{ι:BG}{m:Mem}{w:World}(a:DF P G ι m w)(x:Nat):DF P G ι (EU m x) w:=⟨a.dom,a.blk,a.inj,a.glob⟩
theorem DF.extend{ι:BG}{m m2:Mem}{w:World}(d:DF P G ι m w)(i:m.size≤m2.size)(hget:∀b,b<m.size→m2.get b=m.get b):DF P G ι m2 w:=by
 have j:Le ι m.gen ι m2.gen:=fun b a c=>⟨by rw[CS (hget b (d.dom b a c).1)];simp,a,c,fun _=>rfl⟩
 refine⟨fun b a c=>⟨ag (d.dom b a c).1 i,(d.dom b a c).2⟩,fun b a c=>?_,fun b n a e c g q=>?_,fun k p=>?_⟩
 ·rw[hget b (d.dom b a c).1];exact(d.blk b a c).mono j
 ·rcases d.inj b n a e c g q with h|⟨l,o⟩
  ·omega
  ·exact .inr ⟨by rw[Fp (hget b (d.dom b a c).1)];omega,by rw[Fp (hget n (d.dom n e g).1)];omega⟩
 ·obtain⟨a,l,o,r,u,s⟩:=d.glob k p
  have f:=(d.dom k a l).1;exact⟨a,l,o,⟨r.1,by grind⟩,by rw[CS (hget k f)];omega,by rw[Fp (hget k f)];omega⟩
theorem DF.world{ι:BG}{m:Mem}{w w':World}(a:DF P G ι m w)(f:w.heap.size≤w'.heap.size)(g:∀c,c<w.heap.size→w'.heap[c]?=w.heap[c]?):DF P G ι m w' :=
 ⟨fun b d e=>⟨(a.dom b d e).1,ag (a.dom b d e).2 f⟩,fun b d e=>by rw[g _ (a.dom b d e).2];exact a.blk b d e,a.inj,a.glob⟩
theorem DF.congr{ι a:BG}{m:Mem}{w:World}(c:DF P G ι m w)(h:∀b,a b=ι b):DF P G a m w:=by
 have:a=ι:=funext h;grind
theorem Yi(ops:Array Oper):∀(l:List Oper) (acc:Array Nat),(∀(j:Nat) o,l[j]?=some o→∀k,((l.foldl (fun acc o=>acc.push (o.after.foldl (fun s e=>if Region.binds .any e then s ||| 2^e.on ||| acc.getD e.on 0 else s) 0)) acc).getD (acc.size+j) 0).testBit k=true →
 ∃e∈o.after,Region.binds .any e=true∧(e.on=k∨((l.foldl (fun acc o=>acc.push (o.after.foldl (fun s e=>if Region.binds .any e then s ||| 2^e.on ||| acc.getD e.on 0 else s) 0)) acc).getD e.on 0).testBit k=true)) ∧
 (∀j,j<acc.size→(l.foldl (fun acc o=>acc.push (o.after.foldl (fun s e=>if Region.binds .any e then s ||| 2^e.on ||| acc.getD e.on 0 else s) 0)) acc).getD j 0=acc.getD j 0)
 |[],acc=>⟨fun j o h=>by simp,fun j _=>rfl⟩
 |o::l,acc=>by
  generalize hf:(fun(acc:Array Nat) (o:Oper)=>acc.push (o.after.foldl (fun s e=>if Region.binds .any e then s ||| 2^e.on ||| acc.getD e.on 0 else s) 0))=F;have f:=Yi ops l (F acc o);rw[hf] at f;have n:(F acc o).size=acc.size+1:=by grind
  simp only[List.foldl_cons];have a:∀j,j<acc.size→(List.foldl F (F acc o) l).getD j 0=acc.getD j 0:=fun j c=>by
   rw[f.2 j (by omega),← hf];simp[Array.getElem?_push,Nat.ne_of_lt c]
  refine⟨fun j p c k g=>?_,a⟩;cases j with
  |zero =>
   simp only[List.getElem?_cons_zero,Option.some.injEq] at c;subst c;have i:(List.foldl F (F acc o) l).getD (acc.size+0) 0=o.after.foldl (fun s e=>if Region.binds .any e then s ||| 2^e.on ||| acc.getD e.on 0 else s) 0:=by
    rw[f.2 _ (by omega),← hf];simp
   rw[i] at g;have m:∀(b:List Edge) (s:Nat),(b.foldl (fun s e=>if Region.binds .any e then s ||| 2^e.on ||| acc.getD e.on 0 else s) s).testBit k=true →
    s.testBit k=true∨∃e∈b,Region.binds .any e=true∧(e.on=k∨(acc.getD e.on 0).testBit k=true):=fun b=>by
    induction b with
    |nil=>simp
    |cons e b d =>
     intro s h;rw[List.foldl_cons] at h;rcases d _ h with h|⟨r,i,q⟩
     ·split at h
      ·grind
      grind
     grind
   rw[← cv] at g;grind
  |succ j =>
   grind
theorem zQ{ops:Array Oper}{i k:Nat}{o:Oper}(a:ops[i]?=some o)(h:((Region.before ops).getD i 0).testBit k=true) :
 ∃e∈o.after,Region.binds .any e=true∧(e.on=k∨((Region.before ops).getD e.on 0).testBit k=true):=by
 have:=(Yi ops ops.toList #[]).1 i o (by grind) k;unfold Region.before at h ⊢;grind
def Closed(ops:Array Oper)(listed:Array Bool):Prop :=
 ∀(i:Nat) (o:Oper),ops[i]?=some o→listed.getD i false=true→∀e∈o.after,Region.binds .any e=true→listed.getD e.on false=true
theorem Ef{ops:Array Oper}{a:Array Bool}(g:Closed ops a)(b:∀(i:Nat) (o:Oper),ops[i]?=some o→∀e∈o.after,Region.binds .any e=true→e.on<i):∀(i:Nat) (o:Oper) (k:Nat),ops[i]?=some o →
 (∀e∈o.after,Region.binds .any e=true→a.getD e.on false=true)→((Region.before ops).getD i 0).testBit k=true→a.getD k false=true:=by
 intro i
 induction i using Nat.strongRecOn with
 |_ i p =>
  intro o k l d c;obtain⟨e,m,n,h⟩:=zQ l c;rcases h with rfl|h
  ·grind
  ·have f:=b i o l e m n
   cases hoe:ops[e.on]? with
   |none =>
    grind
   |some j=>exact p e.on f j k hoe (g e.on j hoe (d e m n)) h
theorem V3{call:EO}{ops:Array Oper}:∀(l:List Oper) (k:Nat) (s s':St),IC P call ops k l s=some s' →
 ∃S:Nat→St,S k=s∧S (k+l.length)=s'∧∀(i:Nat) (o:Oper),l[i]?=some o→MS P call ops (k+i) o (S (k+i))=some (S (k+i+1))
 |[],k,s,s',h=>by
  cases h;exact⟨fun _=>s,rfl,rfl,fun i o h=>by grind⟩
 |o::l,k,s,s',h=>by
  simp only[IC] at h;cases h1:MS P call ops k o s with
  |none=>grind
  |some s1 =>
   rw[h1] at h;obtain⟨S,e,d,c⟩:=V3 l (k+1) s1 s' h;refine⟨fun j=>if j≤k then s else S j,by simp,?_,fun i a b=>?_⟩
   ·grind
   grind
theorem GY{call:EO}{ops:Array Oper}{i:Nat}{o:Oper}{s s2:St}(h:MS P call ops i o s=some s2) :
 (Region.wanted o (Eo ops s.t)=false∧s2.t=Ic s.t o.dst undef∧∃x,s2.m=EU s.m x∧x≤s.m.low∧x≤s.m.size) ∨
 (Region.wanted o (Eo ops s.t)=true∧∃v m',BO P call (ev s.t) o (EU s.m s.m.size)=some (v,m')∧s2.t=Ic s.t o.dst v∧s2.m=EU m' (min s.m.low m'.low) ∧
  (barrier P ops i=true∨s.m.size≤m'.low∨(oH P ops i=true∧QV ops i s.t=true)∨(Qv P ops i=true∧MX ops i s.t s.m m'=true))):=by
 unfold MS Jv at h;split at h
 ·rename_i d a
  split at h
  ·rename_i e
   cases h;split at a
   ·rename_i b
    refine .inr ⟨b,?_⟩;unfold su at a;split at a
    ·rename_i v m' c
     cases a;refine⟨v,m',c,rfl,rfl,?_⟩;grind
    grind
   ·rename_i b
    cases a;exact .inl ⟨by grind,rfl,_,rfl,cd _ _,ck _ _⟩
  grind
 grind
theorem Hl{ops:Array Oper}(h:G8 ops=true):(∀(i:Nat) (o:Oper),ops[i]?=some o→∀e∈o.after,Region.binds .any e=true→e.on<i) ∧
 (∀(i:Nat) (oi:Oper) (d:Nat),ops[i]?=some oi→oi.dst=some d→∀(j:Nat) (oj:Oper),ops[j]?=some oj→j≠i →
  oj.dst≠some d∧(d∈oj.looksAt ops→(i<j→((Region.before ops).getD j 0).testBit i=true)∧(j<i→((Region.before ops).getD i 0).testBit j=true))):=by
 unfold G8 at h;simp only[List.all_eq_true,List.mem_range] at h;have lt:∀{i:Nat} {o:Oper},ops[i]?=some o→i<ops.size:=fun a=>(al.1 a).1
 refine⟨fun i o a e c k=>?_,fun i oi d a g j oj f b=>?_⟩
 ·have:=h i (lt a)
  rw[a] at this;simp only[Bool.and_eq_true] at this;have l:=be.1 this.1.2 e c;grind
 grind
def Ez(P:Program)(ops:Array Oper)(i:Nat):Bool:=match ops[i]? with|some o=>!DK P o.op&&!Gp o.op&&!Nu o.op&&(barrier P ops i||oH P ops i||Qv P ops i)|none=>false
def touches(P:Program)(ops:Array Oper)(i:Nat):Bool:=match ops[i]? with|some o=>!DK P o.op&&!Gp o.op|none=>false
def H9(ops:Array Oper)(i:Nat):Bool:=match ops[i]? with|some o=>Nu o.op|none=>false
theorem Uw{ops:Array Oper}{i:Nat}(h:Ez P ops i=true):H9 ops i=false:=by
 unfold Ez at h;unfold H9;cases ho:ops[i]? with
 |none=>rfl
 |some o =>
  grind
theorem IE{ops:Array Oper}{i:Nat}(h:Ez P ops i=true):touches P ops i=true∧∀j,j≠i→touches P ops j=true →
 (j<i→H9 ops j=true∨((Region.before ops).getD i 0).testBit j=true)∧(i<j→((Region.before ops).getD j 0).testBit i=true):=by
 unfold Ez at h;cases ho:ops[i]? with
 |none=>grind
 |some o =>
  rw[ho] at h;simp only[Bool.and_eq_true] at h;refine⟨by unfold touches;grind,fun j b d=>?_⟩;unfold touches at d;cases hoj:ops[j]? with
  |none=>grind
  |some f =>
   rw[hoj] at d;have a:=(al.1 hoj).1;rcases ie.1 h.2 with c|h2
   rcases ie.1 c with h2|h2
   ·unfold barrier at h2
    grind
   ·unfold oH at h2
    simp only[Bool.and_eq_true,List.all_eq_true,List.mem_range] at h2;have h3:=h2.2 j a;simp only[hoj,Option.map_some,Option.getD_some,Bool.or_eq_true,beq_iff_eq,b,false_or] at h3;simp only[Bool.false_eq_true,false_or,ordered,Bool.and_eq_true,decide_eq_true_eq] at h3;refine⟨fun e=>?_,fun e=>?_⟩
    ·rcases h3 with h3|h3
     ·exact .inl (by unfold H9;grind)
     grind
    grind
   ·unfold Qv at h2
    simp only[List.all_eq_true,List.mem_range] at h2;have h3:=h2 j a;simp only[Bool.false_eq_true,false_or,ordered] at h3;grind
theorem lU{ops:Array Oper}{i j:Nat}{b:Oper}(h:barrier P ops i=true)(d:ops[j]?=some b)(a:Gp b.op=true)(c:j≠i):ordered ops i j=true:=by
 unfold barrier at h;simp only[List.all_eq_true,List.mem_range] at h;have f:=h j (al.1 d).1;have e:DK P b.op=false:=by
  cases hop:b.op<;>rw[hop] at a<;>first|rfl|cases a
 simp only[d,Option.map_some,Option.getD_some,Bool.or_eq_true,beq_iff_eq,c,false_or,e,Bool.false_eq_true] at f;assumption
theorem mM{ops:Array Oper}{i j:Nat}(h:barrier P ops i=true∨Qv P ops i=true)(e:H9 ops j=true)(b:touches P ops j=true)(f:j<i):((Region.before ops).getD i 0).testBit j=true:=by
 unfold touches at b;cases hoj:ops[j]? with
 |none=>grind
 |some d =>
  have a:=(al.1 hoj).1;rcases h with h2|h2
  ·unfold barrier at h2
   grind
  ·unfold Qv at h2
   simp only[List.all_eq_true,List.mem_range] at h2;have c:=h2 j a;simp only[Bool.false_eq_true,false_or,ordered] at c;grind
end
section
variable {P:Program}{G:List Nat}{ds:List Deferred}{rf:Option Nat}{nn:Nat}
structure Trace(P:Program)(call:EO)(ops:Array Oper)(S:Nat→St):Prop where
 step:∀(i:Nat) (o:Oper),ops[i]?=some o→MS P call ops i o (S i)=some (S (i+1))
section
variable {call:EO}{ops:Array Oper}{S:Nat→St}
theorem sU{p:Nat→Prop}{i:Nat}(base:p i)(step:∀j,i≤j→p j→p (j+1))(j:Nat)(h:i≤j):p j:=by
 induction j with
 |zero=>grind
 |succ j a =>
  grind
theorem getOp{i:Nat}(h:i<ops.size):∃o,ops[i]?=some o :=by simp_all
theorem Trace.mem(g:Trace P call ops S)(n:Dc call){i:Nat}(l:i<ops.size):AP (S i).m (S (i+1)).m:=by
 obtain⟨o,j⟩:=getOp l;rcases GY (g.step i o j) with⟨_,_,x,d,e,_⟩|⟨_,v,p,f,_,d,_⟩
 ·rw[d];exact⟨ab _,e,fun _ _ _=>rfl,fun _ _ _=>rfl,fun _ _=>rfl⟩
 ·have c:=JR n f
  rw[d];exact⟨c.size,cd _ _,fun b a k=>c.keep b a (ag k (ck _ _)),fun b a h=>c.ro b a h,fun b a=>c.ro' b a⟩
theorem Trace.EZ(b:Trace P call ops S)(d:Dc call)(i:Nat):∀j,i≤j→j≤ops.size→AP (S i).m (S j).m:=by
 refine sU (fun _=>AP.refl _) fun j c a e=>?_
 exact(a (by omega)).trans (b.mem d (by omega))
theorem xu{ρ:Operand→Value}{o:Oper}{m m':Mem}{v:Value}(b:DK P o.op=true)(h:BO P call ρ o m=some (v,m'))(m2:Mem) :
 m'=m∧BO P call ρ o m2=some (v,m2):=by
 unfold BO at h ⊢;split at h
 ·rename_i f c i a
  rw[a] at b;contradiction
 ·rename_i d
  obtain⟨g,e⟩:=vU b h m2;grind
theorem Xo{ρ:Operand→Value}{o:Oper}{m m':Mem}{v:Value}(q:Nu o.op=true)(h:BO P call ρ o m=some (v,m')) :
 ∃l e n,v=.slice (some ⟨m.size,0,none⟩) n 0∧m'=m.alloc (.cells l e 0 false) ∧
  ∀(ι:BG) (g:Nat→Nat) (ρ':Operand→Value),(∀x∈o.op.operands,Aw ι g (ρ x) (ρ' x))→∃cs':Array Value,(∀j,j<l.length→∃v',cs'[j]?=some v'∧Aw ι g (l.getD j undef) v')∧n*P.cellsOf e≤cs'.size ∧
   ∀w:World,(execOp ρ' o).run P w=.ok (.value (.slice (some ⟨w.heap.size,0,none⟩) n n)) { w with heap:=w.heap.push (.cells cs' e (0,0)) }:=by
 obtain⟨dst,op,ty,pos,after,guard⟩:=o;cases op<;>simp only[Nu,Bool.false_eq_true] at q
 rename_i t len u;have b:len≠0:=by grind
 simp only[BO,FI] at h;split at h
 ·rename_i e p
  split at h
  ·rename_i i z r f
   split at h
   ·rename_i d
    split at h
    ·rename_i s c
     split at h
     ·first|rw[if_neg b] at h|skip
      cases h;refine⟨s.toList,e,len,rfl,rfl,fun ι g ρ' a=>?_⟩;obtain⟨cs',B,A,y⟩:=tN (ρ':=ρ') (dst:=dst) (ty:=ty) (pos:=pos) (after:=after) (guard:=guard) (ι:=ι) (g:=g) p r f d.1 d.2.1 d.2.2 (fun x k=>a x k) c;grind
     grind
    grind
   grind
  grind
 grind
theorem tV{t:TypeId}{a:Addr}{m m2:Mem}{v:Value}(h:NZ P t a m=some v)(c:m2.get a.block=m.get a.block)(b:a.block<m2.size):NZ P t a m2=some v:=by
 unfold NZ at h ⊢;split at h
 ·unfold aX Mem.EC at h ⊢
  grind
 grind
theorem gQ{t:TypeId}{x:Value}{j k:Option Value}{m:Mem}{v:Value}(h:aslice P t x j k none m=some v) :
 (∀b,Ik x=some b→b<m.size)∧∀m2:Mem,(∀b,Ik x=some b→b<m2.size∧m2.get b=m.get b)→aslice P t x j k none m2=some v:=by
 unfold aslice at h ⊢;simp only[Option.isSome_none,Bool.false_and,Bool.false_eq_true,if_false] at h ⊢;split at h
 ·rename_i s f
  exact⟨fun b a=>(by cases a),fun m2 _=>by omega⟩
 ·rename_i e f
  exact⟨fun b a=>(by cases a),fun m2 _=>by omega⟩
 ·rename_i e b d p f
  exact⟨fun b a=>(by cases a),fun m2 _=>by omega⟩
 ·rename_i e b d len g f
  split at h
  ·rename_i i l w n b1 b2 _
   split at h
   ·rename_i q A p ro y
    split at h
    ·rename_i z
     refine⟨fun c a=>by cases a;omega,fun m2 o=>?_⟩;obtain⟨u,r⟩:=o b rfl;grind
    grind
   grind
  ·grind
  grind
 grind
theorem xQ{o:Oper}(h:Gp o.op=true):(∃t a,o.op=.load t a)∨∃t x b c,o.op=.slice t x b c none:=by
 cases hop:o.op with
 |load t a=>simp
 |slice t x b c d =>
  cases d with
  |none=>simp
  |some y=>rw[hop] at h;cases h
 |_=>rw[hop] at h;cases h
theorem XI{ρ:Operand→Value}{o:Oper}{m m':Mem}{v:Value}(p:Gp o.op=true)(h:BO P call ρ o m=some (v,m')) :
 m'=m∧∃x,c0q o.op=some x∧(∀b,Ik (ρ x)=some b→b<m.size)∧∀m2:Mem,(∀b,Ik (ρ x)=some b→b<m2.size∧m2.get b=m.get b)→BO P call ρ o m2=some (v,m2):=by
 obtain⟨q,op,s,pos,g,guard⟩:=o;rcases xQ p with⟨t,a,c⟩|⟨t,x,y,z,c⟩
 ·subst c
  simp only[BO,FI] at h ⊢;split at h
  ·rename_i r d
   rw[ae] at h;obtain⟨u,e,f⟩:=h;cases f;refine⟨rfl,a,rfl,fun b i=>?_,fun m2 j=>?_⟩
   ·rw[d] at i
    cases i;unfold NZ at e;grind
   ·obtain⟨n,l⟩:=j r.block (by rw[d];rfl)
    simp only[d,tV e l n,Option.map_some]
  grind
 ·subst c
  simp only[BO,FI,Option.map_none] at h ⊢;rw[ae] at h;obtain⟨u,e,f⟩:=h;cases f;obtain⟨k,w⟩:=gQ e;exact⟨rfl,x,rfl,k,fun m2 j=>by grind⟩
theorem Trace.quiet(j:Trace P call ops S)(u:Dc call){i:Nat}(s:i<ops.size)(w:Ez P ops i=false):∀b,b<(S i).m.size→(S (i+1)).m.get b=(S i).m.get b:=by
 intro b a;obtain⟨o,p⟩:=getOp s;rcases GY (j.step i o p) with⟨_,_,x,f,A⟩|⟨_,v,g,c,_,f,d⟩
 ·rw[f];rfl
 ·rw[f]
  show g.get b=(S i).m.get b;by_cases k:DK P o.op=true
  ·obtain⟨z,_⟩:=xu k c (S i).m
   rw[z];rfl
  ·by_cases r:Gp o.op=true
   ·rw[(XI r c).1];rfl
   ·by_cases q:Nu o.op=true
    ·obtain⟨l,e,n,_,y,_⟩:=Xo q c
     rw[y,Mem.Bj,if_neg (by show¬ (S i).m.size=b;omega)];rfl
    ·unfold Ez at w
     rcases d with h|h|⟨h,_⟩|⟨h,_⟩
     ·grind
     ·exact(JR u c).keep b a (ag a h)
     ·grind
     grind
theorem Trace.Ju(c:Trace P call ops S)(d:Dc call)(i:Nat):∀j,i≤j→j≤ops.size→(∀k,i≤k→k<j→Ez P ops k=false)→∀b,b<(S i).m.size→(S j).m.get b=(S i).m.get b:=by
 refine sU (fun _ _ b _=>rfl) fun j a g=>?_
 ·intro h e b f
  rw[c.quiet d (by omega) (e j a (by omega)) b (ag f (c.EZ d i j a (by omega)).size)];grind
theorem Trace.tmps(f:Trace P call ops S)(t:Nat)(i:Nat):∀j,i≤j→j≤ops.size→(∀k o,i≤k→k<j→ops[k]?=some o→o.dst≠some t)→Cm (S j).t t=Cm (S i).t t:=by
 refine sU (fun _ _=>rfl) fun j b n=>?_
 ·intro p g
  obtain⟨o,c⟩:=getOp (ops:=ops) (i:=j) (by omega);have l:=g j o b (by omega) c;have hput:∀v,Cm (Ic (S j).t o.dst v) t=Cm (S j).t t:=fun v=>by
   cases hdd:o.dst with
   |none=>rfl
   |some d=>simp only[Ic];rw[Dj,if_neg (fun e=>l (by grind))]
  have a:Cm (S (j+1)).t t=Cm (S j).t t:=by
   rcases GY (f.step j o c) with⟨_,h,_⟩|⟨_,v,m,_,h,_⟩
   ·grind
   grind
  grind
theorem DN{a:Array Bool}{i j:Nat}(b:j<a.size):(a.setIfInBounds j true).getD i false=if i=j then true else a.getD i false:=by
 by_cases e:i=j
 ·simp_all
 ·rw[if_neg e];simp[Array.getElem?_setIfInBounds_ne (Ne.symm e)]
theorem Le.cut{ι:BG}{g:Nat→Nat}{x y:Nat}(h:x≤y):Le (cut ι x) g (cut ι y) g:=fun b a c=>by
 obtain⟨e,d⟩:=CX c;exact⟨ab _,a,by rw[Ep (by omega)];omega,fun _=>rfl⟩
theorem Le.b8u{ι:BG}{g:Nat→Nat}{x:Nat}:Le (Am.cut ι x) g ι g:=fun b a c=>⟨ab _,a,(CX c).2,fun _=>rfl⟩
structure DI(ds:List Deferred)(P:Program)(G:List Nat)(n:Nat)(ops:Array Oper)(S:Nat→St)(ι0:BG)(w0:World)(listed:Array Bool)(ι:BG)(a:Act)(w:World)(jp jn:Nat):Prop where
 yx:listed.size=ops.size
 cl:Closed ops listed
 h1:jp≤jn
 h1':jn≤ops.size
 h2:∀k,jp≤k→k<jn→Ez P ops k=false
 h3:jn=ops.size∨(Ez P ops jn=true∧listed.getD jn false=false)
 h4:∀k,k<jp→touches P ops k=true→H9 ops k=false→listed.getD k false=true
 nD:∀j,jp≤j→j≤jn→DF P G (cut ι (S j).m.size) (S j).m w
 b2c:∀b ib,ι b=some ib→b<(S jp).m.size∨∃i,listed.getD i false=true∧jp≤i∧i<jn∧(S i).m.size≤b∧b<(S (i+1)).m.size
 tsz:a.tmps.size=n
 a4t:a.defers=ds
 v1:∀(i:Nat) (o:Oper) (t:Nat),ops[i]?=some o→o.dst=some t→listed.getD i false=true→Aw (cut ι (S (max (i+1) jp)).m.size) (S jn).m.gen (Cm (S ops.size).t t) (a.tmps.getD t undef)
 v0:∀t,(∀(i:Nat) (o:Oper),ops[i]?=some o→o.dst=some t→listed.getD i false=false)→Aw (cut ι (S 0).m.size) (S jn).m.gen (Cm (S 0).t t) (a.tmps.getD t undef)
 le:Le ι0 (S 0).m.gen ι (S jn).m.gen
 back:∀b ib,ι b=some ib→(∃YQ,ι0 b=some YQ∧YQ.blk=ib.blk)∨w0.heap.size≤ib.blk
 a6d:∀b ib,ι b=some ib→(∃YQ,ι0 b=some YQ)∨(S 0).m.size≤b
 heap:w0.heap.size≤w.heap.size
 frame:∀c,c<w0.heap.size→(∀b ib,ι0 b=some ib→ib.blk=c→(S 0).m.ro b=true∨b<(S ops.size).m.low)→w.heap[c]?=w0.heap[c]?
 tape:w.tape=w0.tape
 os:w.os=w0.os
 output:w.output=w0.output
 Yf:∀b ib k,ι b=some ib→k<ops.size→listed.getD k false=false→¬ ((S k).m.size≤b∧b<(S (k+1)).m.size)
 iY:∀k,k<jp→H9 ops k=true→listed.getD k false=false→∀b,(S k).m.size≤b→b<(S (k+1)).m.size→(S jp).m.get b=(S (k+1)).m.get b
theorem Rq{n:Nat}{b:Array Bool}{ι l:BG}{g y:Nat→Nat}{a:Act}{j:Nat}{o:Oper}{v':Value}{z jp':Nat}(H:Dc call)(Q:z≤jp')(O:jp'≤ops.size)(J:Trace P call ops S)(E:G8 ops=true)(u:ops[j]?=some o)
 (U:b.size=ops.size) (W:b.getD j false=false) (I:a.tmps.size=n) (F:∀d,o.dst=some d→d<n)
 (w:∀x,Le (cut ι x) g (cut l x) y)
 (N:∀d,o.dst=some d→Aw (cut l (S (max (j+1) jp')).m.size) y (Cm (S (j+1)).t d) v')
 (M:∀(i:Nat) (o:Oper) (t:Nat),ops[i]?=some o→o.dst=some t→b.getD i false=true→Aw (cut ι (S (max (i+1) z)).m.size) g (Cm (S ops.size).t t) (a.tmps.getD t undef))
 (v0:∀t,(∀(i:Nat) (o:Oper),ops[i]?=some o→o.dst=some t→b.getD i false=false)→Aw (cut ι (S 0).m.size) g (Cm (S 0).t t) (a.tmps.getD t undef)) :
 (∀(i:Nat) (o':Oper) (t:Nat),ops[i]?=some o'→o'.dst=some t→(b.setIfInBounds j true).getD i false=true→Aw (cut l (S (max (i+1) jp')).m.size) y (Cm (S ops.size).t t) ((a.put o.dst v').tmps.getD t undef)) ∧
 (∀t,(∀(i:Nat) (o':Oper),ops[i]?=some o'→o'.dst=some t→(b.setIfInBounds j true).getD i false=false)→Aw (cut l (S 0).m.size) y (Cm (S 0).t t) ((a.put o.dst v').tmps.getD t undef)):=by
 have L:j<ops.size:=(al.1 u).1;have r:j<b.size:=by omega
 obtain⟨_,f⟩:=Hl E;have c:∀t,o.dst≠some t→(a.put o.dst v').tmps.getD t undef=a.tmps.getD t undef:=fun t A=>by
  cases h:o.dst with
  |none=>rfl
  |some d =>
   have:d≠t:=fun e=>A (by grind)
   simp[Act.put,Array.getElem?_setIfInBounds_ne this]
 refine⟨fun i o' t s h K=>?_,fun t p=>?_⟩
 ·by_cases e:i=j
  ·subst e
   rw[u] at s;cases s;have q:(a.put o.dst v').tmps.getD t undef=v':=by
    rw[h];have:=F t h;simp[Act.put,I,this]
   rw[q];have T:Cm (S ops.size).t t=Cm (S (i+1)).t t:=J.tmps t (i+1) ops.size (by omega) (ab _) fun k ok V _ B=>(f i o t u h k ok B (by omega)).1
   rw[T];exact N t h
  ·rw[DN r,if_neg e] at K
   rw[c t (f i o' t s h j o u (Ne.symm e)).1];have R:=(al.1 s).1;exact((M i o' t s h K).mono (w _)).mono (Le.cut (J.EZ H (max (i+1) z) (max (i+1) jp') (by omega) (by omega)).size)
 ·have C:o.dst≠some t:=fun h=>by
   have:=p j o u h;rw[DN r,if_pos rfl] at this;cases this
  rw[c t C];refine(v0 t fun i o' s h=>?_).mono (w _);have:=p i o' s h;rw[DN r] at this;split at this
  ·cases this
  ·exact this
theorem ak{n:Nat}{b:Array Bool}{ι ι0:BG}{a:Act}{w w0:World}{s C j:Nat}{o:Oper}(y:Trace P call ops S)(J:Dc call)(I:G8 ops=true)(B:ops[j]?=some o)
 (r:DI ds P G n ops S ι0 w0 b ι a w s C) (O:b.getD j false=false) (z:∀e∈o.after,Region.binds .any e=true→b.getD e.on false=true) {t:Nat} (M:t∈o.looksAt ops) :
 Aw (cut ι (S (max j s)).m.size) (S C).m.gen (Cm (S j).t t) (a.tmps.getD t undef):=by
 have N:j<ops.size:=(al.1 B).1;obtain⟨h,f⟩:=Hl I;have T:=r.h1;have U:=r.h1';by_cases E:∃(i:Nat) (l:Oper),ops[i]?=some l∧l.dst=some t
 ·obtain⟨i,l,x,g⟩:=E
  have q:∀(k:Nat) (ok:Oper),ops[k]?=some ok→ok.dst=some t→k=i:=fun k ok H c=>by
   grind
  have d:b.getD i false=false→j≤i→Aw (cut ι (S (max j s)).m.size) (S C).m.gen (Cm (S j).t t) (a.tmps.getD t undef):=fun V R=>by
   have L:=r.v0 t fun k ok H c=>by rw[q k ok H c];omega
   have A:Cm (S j).t t=Cm (S 0).t t:=y.tmps t 0 j (an _) (by omega) fun k ok _ Q p c=>by grind
   rw[A];exact L.mono (Le.cut (y.EZ J 0 (max j s) (an _) (by omega)).size)
  rcases eT i j with F|heq|hgt
  ·have K:=((f i l t x g j o B (by omega)).2 M).1 F
   have u:=Ef r.cl h j o i B z K;have h1:=r.v1 i l t x g u;have A:Cm (S ops.size).t t=Cm (S j).t t:=y.tmps t j ops.size (by omega) (ab _) fun k ok H _ p c=>by have:=q k ok p c;omega
   rw[← A];exact h1.mono (Le.cut (y.EZ J (max (i+1) s) (max j s) (by omega) (by omega)).size)
  ·subst heq
   exact d O (ab _)
  ·have K:=((f i l t x g j o B (by omega)).2 M).2 hgt
   refine d ?_ (by omega);cases u:b.getD i false with
   |false=>rfl
   |true =>
    have:=Ef r.cl h i l j x (r.cl i l x u) K;rw[O] at this;cases this
 ·have L:=r.v0 t fun i l x g=>absurd ⟨i,l,x,g⟩ E
  have A:Cm (S j).t t=Cm (S 0).t t:=y.tmps t 0 j (an _) (by omega) fun k ok _ _ p c=>E ⟨k,ok,p,c⟩
  rw[A];exact L.mono (Le.cut (y.EZ J 0 (max j s) (an _) (by omega)).size)
end
end
section
variable {P:Program}{G:List Nat}{ds:List Deferred}{rf:Option Nat}{nn:Nat}
theorem zo{op:BinOp}{t:TypeId}{d c:Operand}{x y u:Value}(h:P8 P op t d c x y=some u):plain u=true:=by
 unfold P8 at h;have a:∀{b:Bool},JI op b=some u→plain u=true:=fun{b} h=>by
  cases op<;>simp only[JI,reduceCtorEq,Option.some.injEq] at h<;>subst h<;>rfl
 split at h
 ·split at h
  ·exact(Pm (P:=P) (t:=t) (k':=.i64) (.inl rfl) h default).2
  ·exact(Pm (P:=P) (t:=t) (k':=.i64) (.inr rfl) h default).2
  ·split at h
   ·exact(qR (P:=P) (t:=t) h default).2
   grind
 ·grind
 ·grind
 ·grind
 ·grind
 ·split at h
  ·exact(FY h).2
  grind
theorem o8{ι:BG}{g:Nat→Nat}{m m':Mem}{ρ ρ':Operand→Value}{o:Oper}{v:Value}{t:TypeId}{len:Nat}{ps:Array (Nat×Operand)}(l:o.op=.buildSlice t len ps)(k:DK P o.op=true)(b:∀x∈o.op.operands,Aw ι g (ρ x) (ρ' x))
 (h:FI P ρ o m=some (v,m')):∃x,∀w,(execOp ρ' o).run P w=.ok (.value (.slice (some ⟨w.heap.size,0,none⟩) 0 0)) { w with heap:=w.heap.push x }∧Aw ι g v (.slice (some ⟨w.heap.size,0,none⟩) 0 0):=by
 obtain⟨dst,op,ty,pos,after,guard⟩:=o;subst l;have n:len=0:=by simpa[DK] using k
 subst n;simp only[FI,if_true] at h;split at h
 ·rename_i e j
  split at h
  ·rename_i i z p f
   split at h
   ·rename_i d
    split at h
    ·rename_i q c
     split at h
     ·cases h
      obtain⟨x,a⟩:=eH (ρ':=ρ') (dst:=dst) (ty:=ty) (pos:=pos) (after:=after) (guard:=guard) (ι:=ι) (g:=g) j p f d.2.1 d.2.2 b c;exact⟨x,fun w=>⟨a w,.wW 0 0 0 _⟩⟩
     grind
    grind
   grind
  grind
 grind
theorem uF{ι:BG}{g:Nat→Nat}{m m':Mem}{ρ ρ':Operand→Value}{o:Oper}{v:Value}(hq:DK P o.op=true)(hns:∀t len ps,o.op≠.buildSlice t len ps)(j:∀x∈o.op.operands,Aw ι g (ρ x) (ρ' x))
 (h:FI P ρ o m=some (v,m')):∃v',(∀w,(execOp ρ' o).run P w=.ok (.value v') w)∧Aw ι g v v':=by
 obtain⟨dst,op,ty,pos,U,guard⟩:=o;simp only at j hq hns;have same:∀{s:Sem Value} {u v':Value},execOp ρ' ⟨dst,op,ty,pos,U,guard⟩=(do pure (.value (← s)):Sem Next)→(∀w,s.run P w=.ok v' w)→Aw ι g u v'→(u,m)=(v,m') →
  ∃v',(∀w,(execOp ρ' ⟨dst,op,ty,pos,U,guard⟩).run P w=.ok (.value v') w)∧Aw ι g v v':=fun{s u v'} B Q N hm=>by
  simp_all
 cases op<;>simp only[DK,Bool.false_eq_true] at hq<;>simp only[FI,reduceCtorEq] at h
 case buildSlice t len ps=>grind
 case move x =>
  cases h;exact⟨ρ' x,fun w=>rfl,j x (by simp[Op.operands])⟩
 case assign x =>
  cases h;exact⟨ρ' x,fun w=>rfl,j x (by simp[Op.operands])⟩
 case pick c a b =>
  have hc:=j c (by simp[Op.operands]);split at h
  ·rename_i t hcc
   cases h;rw[hcc] at hc;have e:ρ' c=.bool t:=by generalize ρ' c=u at hc;cases hc;rfl
   refine⟨(if t then ρ' a else ρ' b),fun w=>?_,?_⟩
   ·simp only[execOp,e,asBool,Sem.run_bind,Sem.run_pure,Result.andThen_ok]
   ·cases t
    ·exact j b (by simp[Op.operands])
    ·exact j a (by simp[Op.operands])
  ·cases h
 case binOp op t x y yt =>
  rw[ae] at h;obtain⟨u,p,B⟩:=h;have A:=j x (by simp[Op.operands]);have hy:=j y (by simp[Op.operands]);have hall:∃v',(∀w,(do eqGuard op t x y (ρ' x) (ρ' y);binOp op t (ρ' x) (ρ' y):Sem Value).run P w=.ok v' w)∧Aw ι g u v':=by
   obtain⟨v',Q,N⟩:=Uk A hy p default;refine⟨v',fun w=>?_,N⟩;obtain⟨v2,hr2,hv2⟩:=Uk A hy p w;have I:plain u=true:=zo p;rw[N.BQ I];rw[hv2.BQ I] at hr2;exact hr2
  obtain⟨v',Q,N⟩:=hall;exact same rfl Q N B
 case build t ps =>
  split at h
  ·rename_i z hz
   rw[ae] at h;obtain⟨u,p,B⟩:=h;have I:UL ι g (ps.map fun(i,x)=>(i,ρ x)).toList (ps.map fun(i,x)=>(i,ρ' x)).toList:=by
    rw[bE,bE];exact UL.map fun x A=>j x (by simp only[Op.operands];simpa using A)
   obtain⟨v',Q,N⟩:=X5 I (fun z' O=>by
    obtain⟨i,zv,Z,hz1,rfl,hz3⟩:=BI hz;unfold zeroOf at O;rw[Z] at O;simp only[Option.bind_some] at O;rw[hz1] at O;cases O;exact hz3) p
   exact same rfl (fun w=>Ee Q w) N B
  ·cases h
 case nilCheck x =>
  have A:=j x (by simp[Op.operands]);split at h
  ·rename_i ad had
   rw[had] at A;have L:∃E,ρ' x=.pointer (some E)∧Qe ι g ad E:=by generalize ρ' x=u at A;cases A;exact⟨_,rfl,by assumption⟩
   obtain⟨E,e1,H⟩:=L;cases h;exact⟨.pointer (some E),fun w=>by simp only[execOp,e1];rfl,.ptr _ _ H⟩
  ·cases h
 case unOp op t x =>
  split at h
  ·rename_i I
   rw[ae] at h;obtain⟨u,p,B⟩:=h;have A:=(j x (by simp[Op.operands])).BQ I;obtain⟨K,J⟩:=FY p;exact same (s:=Op.unary op (ρ' x)) rfl (fun w=>by rw[A];exact Ee K w) (Aw.plain J) B
  ·cases h
 case convert s d x =>
  have hq':(JE P s||JE P d)=false:=by simpa using hq
  rw[hq'] at h;simp only[Bool.false_eq_true,if_false] at h;split at h
  ·rename_i I
   rw[ae] at h;obtain⟨u,p,B⟩:=h;have A:=(j x (by simp[Op.operands])).BQ I;obtain⟨K,J⟩:=FY p;exact same (s:=Go.convert s d (ρ' x)) rfl (fun w=>by rw[A];exact Ee K w) (Aw.plain J) B
  ·cases h
 case makeFunc fn fs cs =>
  cases fn<;>simp only[reduceCtorEq] at h
  rename_i f;cases h;have K:=BA.TV (ι:=ι) (g:=g) (l:=fs.toList) (fun x A=>j x (by simp[Op.operands];exact .inl (by simpa using A)));have J:=BA.TV (ι:=ι) (g:=g) (l:=cs.toList) (fun x A=>j x (by simp[Op.operands];exact .inr (by simpa using A)));refine⟨.func (.func f) (fs.map ρ') (cs.map ρ'),fun w=>rfl,?_⟩;have e:∀(r:Operand→Value) (a:Array Operand),a.map r=⟨a.toList.map r⟩:=fun r a=>by apply gh;simp
  rw[e ρ fs,e ρ cs,e ρ' fs,e ρ' cs];exact .fn f _ _ _ _ K.1 K.2 J.1 J.2
 case fieldAddr s x f =>
  have A:=j x (by simp[Op.operands]);split at h
  ·rename_i fs ad p had
   rw[had] at A;have L:∃E,ρ' x=.pointer (some E)∧Qe ι g ad E:=by generalize ρ' x=u at A;cases A;exact⟨_,rfl,by assumption⟩
   obtain⟨E,e1,H⟩:=L;split at h
   ·rename_i fd hfd
    split at h
    ·rename_i i Z
     split at h
     ·cases h
     ·rename_i hsz
      refine same (s:=Instr.fieldAt s (ρ' x) f) (v':=.pointer (some (E.add fd.offset))) rfl (fun w=>?_) (.ptr _ _ ?_) (ci h)
      ·simp only[Instr.fieldAt,e1,Instr.sureAddr,Sem.run_bind,run_underlying p,Sem.run_pure,Result.andThen_ok,hfd,fieldPlace,run_sizeOf' Z,if_neg hsz]
      ·obtain⟨ib,hb,Y,R⟩:=H
       refine⟨ib,hb,Y,fun e=>?_⟩;rw[R e,addr_add];simp only[Addr.mk.injEq,true_and,and_true];omega
    ·cases h
   ·cases h
  ·cases h
 case field t x f =>
  rw[ae] at h;obtain⟨u,p,B⟩:=h;obtain⟨v',Q,N⟩:=X6 (j x (by simp[Op.operands])) p;exact same rfl (fun w=>Ee Q w) N B
 case indexAddr t x ix =>
  have A:=j x (by simp[Op.operands]);have F:=j ix (by simp[Op.operands]);split at h
  ·rename_i e b off len g1 k i p X wY
   rw[X] at A;rw[wY] at F;have e2:ρ' ix=.int k i:=by generalize ρ' ix=u at F;cases F;rfl
   split at h
   ·rename_i W Z
    split at h
    ·rename_i hb
     have L:∃E T,ρ' x=.slice (some E) len T∧b4v ι g b off len g1 E T:=by generalize ρ' x=u at A;cases A;exact⟨_,_,rfl,by assumption⟩
     obtain⟨E,T,e1,hsr⟩:=L;refine same (s:=Instr.indexAt t (ρ' x) (ρ' ix)) (v':=.pointer (some (E.add (i.toNat*W.size)))) rfl (fun w=>?_) (.ptr _ _ (JV hsr (fun _=>by omega) _)) (ci h);simp only[Instr.indexAt,e1,e2,asIntOf,Sem.run_bind,run_underlying p,Sem.run_pure,Result.andThen_ok,run_sizeOf' Z,if_pos hb]
    ·cases h
   ·cases h
  ·rename_i n e ad k i p X wY
   rw[X] at A;rw[wY] at F;have e2:ρ' ix=.int k i:=by generalize ρ' ix=u at F;cases F;rfl
   have L:∃E,ρ' x=.pointer (some E)∧Qe ι g ad E:=by generalize ρ' x=u at A;cases A;exact⟨_,rfl,by assumption⟩
   obtain⟨E,e1,H⟩:=L;split at h
   ·rename_i W Z
    split at h
    ·rename_i hb
     refine same (s:=Instr.indexAt t (ρ' x) (ρ' ix)) (v':=.pointer (some (E.add (i.toNat*W.size)))) rfl (fun w=>?_) (.ptr _ _ ?_) (ci h)
     ·simp only[Instr.indexAt,e1,e2,asIntOf,Instr.sureAddr,Sem.run_bind,run_underlying p,Sem.run_pure,Result.andThen_ok,run_sizeOf' Z,if_pos hb]
     ·obtain⟨ib,hbb,Y,R⟩:=H
      refine⟨ib,hbb,Y,fun e=>?_⟩;rw[R e,addr_add];simp only[Addr.mk.injEq,true_and,and_true];omega
    ·cases h
   ·cases h
  ·cases h
 case index t x ix =>
  split at h
  ·rename_i I
   rw[ae] at h;obtain⟨u,p,B⟩:=h;have F:=(j ix (by simp[Op.operands])).BQ I;obtain⟨v',Q,N⟩:=Yb (j x (by simp[Op.operands])) p;exact same (s:=Instr.index t (ρ' x) (ρ' ix)) rfl (fun w=>by rw[F];exact Ee Q w) N B
  ·cases h
 case extract t i =>
  rw[ae] at h;obtain⟨u,p,B⟩:=h;obtain⟨v',Q,N⟩:=Tz (j t (by simp[Op.operands])) p;exact same rfl (fun w=>Ee Q w) N B
 case call c =>
  obtain⟨V,M,aT⟩:=c;cases V<;>simp only[reduceCtorEq,Bool.false_eq_true] at hq h
  rename_i b;have C:∀x∈M,Aw ι g (ρ x) (ρ' x):=fun x A=>j x (by simp[Op.operands,Call.operands,A])
  cases b<;>simp only[reduceCtorEq,Bool.false_eq_true] at hq h
  case cap =>
   rw[ae] at h;obtain⟨u,p,B⟩:=h;cases B;have I:v=.int .i64 0:=by
    unfold a7w at p
    repeat' split at p
    all_goals first|(cases p;rfl)|cases p
   subst I;refine⟨.int .i64 0,fun w=>?_,.int _ _⟩;rw[DZ];refine G7 ?_;have key:∀(ι:BG) (g:Nat→Nat),PN ι g (M.map ρ) (M.map ρ')→(Builtin.cap_ aT ty (M.map ρ')).run P w=.ok (.int .i64 0) w:=fun ι g H=>by
    unfold a7w at p;split at p
    ·rename_i t q0
     split at p
     ·rename_i e huu
      split at p
      ·rename_i q
       obtain⟨x',K,J⟩:=H 0 _ q;cases J;simp[Builtin.cap_,q0,K,run_underlying huu,goInt]
      ·rename_i b o s q
       obtain⟨x',K,J⟩:=H 0 _ q;cases J;simp[Builtin.cap_,q0,K,run_underlying huu,goInt]
      ·cases p
     ·cases p
    ·cases p
   exact key ι g (PN.map C)
  case len =>
   rw[ae] at h;obtain⟨u,p,B⟩:=h;cases B;obtain⟨K,J⟩:=a5t ty hq (PN.map C) p;exact⟨_,fun w=>by rw[DZ];exact G7 (K w),J⟩
  case max =>
   split at h
   ·rename_i I
    rw[ae] at h;obtain⟨u,p,B⟩:=h;cases B;obtain⟨K,J⟩:=FY p;exact⟨_,fun w=>by rw[DZ,KY C I];exact G7 (Ee K w),Aw.plain J⟩
   ·cases h
  case min =>
   split at h
   ·rename_i I
    rw[ae] at h;obtain⟨u,p,B⟩:=h;cases B;obtain⟨K,J⟩:=FY p;exact⟨_,fun w=>by rw[DZ,KY C I];exact G7 (Ee K w),Aw.plain J⟩
   ·cases h
end
section
variable {P:Program}{G:List Nat}{call:EO}{ops:Array Oper}{S:Nat→St}{ds:List Deferred}{rf:Option Nat}{nn:Nat}
theorem DI.ZY{n:Nat}{ι ι0:BG}{a:Act}{w w0:World}{c:Array Bool}{g e:Nat}(j:Trace P call ops S)(d:Dc call)(f:DI ds P G n ops S ι0 w0 c ι a w g e){b:Nat}{ib:IB}
 (k:ι b=some ib):b<(S e).m.size:=by
 rcases f.b2c b ib k with h|⟨i,_,h1,o,_,l⟩
 ·exact ag h (j.EZ d g e f.h1 f.h1').size
 ·exact ag l (j.EZ d (i+1) e o f.h1').size
theorem Pv{a:Array Bool}{j:Nat}{o:Oper}(c:Closed ops a)(d:j<a.size)(m:ops[j]?=some o)(f:∀e∈o.after,Region.binds .any e=true→a.getD e.on false=true) :
 Closed ops (a.setIfInBounds j true):=by
 intro i g h b e k l;rw[DN d];split
 ·rfl
 ·rw[DN d] at b
  split at b
  ·grind
  ·exact c i g h b e k l
theorem F8{a:Array Bool}{i j:Nat}(b:j<a.size)(h:a.getD i false=true):(a.setIfInBounds j true).getD i false=true:=by
 rw[DN b];grind
theorem EM{a:Array Bool}{i j:Nat}(b:j<a.size)(h:(a.setIfInBounds j true).getD i false=false):a.getD i false=false:=by
 cases hl:a.getD i false with
 |false=>rfl
 |true=>rw[F8 b hl] at h;cases h
theorem MG{a:Array Bool}{i j:Nat}(b:j<a.size)(h:(a.setIfInBounds j true).getD i false=false):i≠j:=fun e=>by
 simp_all
theorem Trace.apart(c:Trace P call ops S)(a:Dc call){i k b:Nat}(f:i<ops.size)(e:k<ops.size)(d:i≠k)(j:(S i).m.size≤b)(g:b<(S (i+1)).m.size):¬ ((S k).m.size≤b∧b<(S (k+1)).m.size):=fun⟨h3,h4⟩=>by
 rcases aq i k with h|h
 ·have:=(c.EZ a (i+1) k (by omega) (by omega)).size;omega
 ·have:=(c.EZ a (k+1) i (by omega) (by omega)).size;omega
theorem nK{n:Nat}{ι ι0:BG}{a:Act}{w w0:World}{b:Array Bool}{l p j:Nat}{o:Oper}(y:Trace P call ops S)(g:Dc call)(s:G8 ops=true)
 (d:DI ds P G n ops S ι0 w0 b ι a w l p) (E:∀k,k∈G→k<(S 0).m.size) (z:ops[j]?=some o) (F:b.getD j false=false)
 (h:∀e∈o.after,Region.binds .any e=true→b.getD e.on false=true) (c:∀x∈o.op.operands,Gw G x=true) :
 ∀x∈o.op.operands,Aw (cut ι (S (max j l)).m.size) (S p).m.gen (ev (S j).t x) (a.eval x):=by
 intro x u;have B:j<ops.size:=(al.1 z).1;cases x with
 |tmp t =>
  refine ak y g s z d F h (t:=t) ?_;refine cD _ ?_;rw[List.mem_filterMap];exact⟨.tmp t,by grind,rfl⟩
 |const v=>exact Aw.plain (c _ u)
 |global k =>
  have A:k∈G:=by simpa[Gw] using c _ u
  obtain⟨C,h1,K,J,I,H⟩:=(d.nD p d.h1 (ab _)).glob k A;have q:=ag (E k A) (y.EZ g 0 (max j l) (an _) (by have:=d.h1;have:=d.h1';omega)).size;exact .ptr _ _ ⟨C,by rw[Ep q];exact(CX h1).2,an _,fun _=>by grind⟩
 |func f=>exact .fn f [] [] [] [] rfl (fun i r=>absurd r (by simp)) rfl (fun i r=>absurd r (by simp))
theorem a4w{n:Nat}{ι ι0:BG}{a:Act}{w w0:World}{c:Array Bool}{q r j:Nat}{o:Oper}(s:Trace P call ops S)(l:Dc call)(i:G8 ops=true)
 (z:DI ds P G n ops S ι0 w0 c ι a w q r) (x:ops[j]?=some o) (A:c.getD j false=false)
 (h:∀e∈o.after,Region.binds .any e=true→c.getD e.on false=true):Region.wanted o (yielded ops a.tmps)=Region.wanted o (Eo ops (S j).t):=by
 unfold Region.wanted;cases hg:o.guard with
 |none=>rfl
 |some p =>
  obtain⟨k,b⟩:=p;have m:yielded ops a.tmps k=Eo ops (S j).t k:=by
   unfold yielded Eo;cases hdk:(ops[k]?).bind (·.dst) with
   |none=>rfl
   |some d =>
    simp only[Option.bind_some];have f:=ak s l i x z A h (t:=d) (by
     unfold Oper.looksAt;grind)
    cases ha:a.tmps[d]? with
    |none =>
     have e:a.tmps.getD d undef=undef:=by grind
     rw[e] at f;have:∀b,Cm (S j).t d≠.bool b:=fun b g=>by
      have:=(f.Kz b).1 g;cases this
     simp
    |some u =>
     have e:a.tmps.getD d undef=u:=by simp[ha]
     rw[e] at f;split
     ·rename_i b g
      cases g;have:=(f.Kz b).2 rfl;grind
     ·rename_i y
      split
      ·rename_i b g
       have:=(f.Kz b).1 g;simp_all
      ·rfl
  grind
theorem DI.still{n:Nat}{ι ι0:BG}{a:Act}{w w0:World}{c:Array Bool}{q r j:Nat}{o:Oper}{v':Value}(E:Dc call)(J:Trace P call ops S)(B:G8 ops=true)
 (f:DI ds P G n ops S ι0 w0 c ι a w q r) (y:ops[j]?=some o) (M:c.getD j false=false) (p:∀e∈o.after,Region.binds .any e=true→c.getD e.on false=true)
 (C:∀d,o.dst=some d→d<n) (K:Ez P ops j=false)
 (I:∀d,o.dst=some d→Aw (cut ι (S (max (j+1) q)).m.size) (S r).m.gen (Cm (S (j+1)).t d) v') :
 DI ds P G n ops S ι0 w0 (c.setIfInBounds j true) ι (a.put o.dst v') w q r:=by
 have H:j<ops.size:=(al.1 y).1;have g:j<c.size:=by rw[f.yx];omega
 obtain⟨v1,v0⟩:=Rq E (ab q) (am f.h1 f.h1') J B y f.yx M f.tsz C (fun x=>Le.refl _ _) I f.v1 f.v0;refine⟨by simpa using f.yx,Pv f.cl g y p,f.h1,f.h1',f.h2,?_,fun k l u z=>F8 g (f.h4 k l u z),f.nD,?_,?_,?_,v1,v0,f.le,f.back,f.a6d,f.heap,f.frame,f.tape,f.os,f.output,
  fun b s k F l A=>f.Yf b s k F l (EM g A),fun k l L A=>f.iY k l L (EM g A)⟩
 ·rcases f.h3 with h|⟨h1,h2⟩
  ·omega
  ·refine .inr ⟨h1,?_⟩
   rw[DN g,if_neg (fun e=>by grind)];omega
 ·intro b s F
  rcases f.b2c b s F with h|⟨i,h1,h2⟩
  ·omega
  ·exact .inr ⟨i,F8 g h1,h2⟩
 ·cases hdd:o.dst<;>simp[Act.put,f.tsz]
 ·cases hdd:o.dst<;>simp[Act.put,f.a4t]
theorem DI.quiet{n:Nat}{ι ι0 B:BG}{a:Act}{w w0 w':World}{u:Array Bool}{jp N j:Nat}{o:Oper}{v v':Value}{m':Mem}{y:Nat}(L:Trace P call ops S)(F:Dc call)(hdr:G8 ops=true)
 (r:DI ds P G n ops S ι0 w0 u ι a w jp N) (ho:ops[j]?=some o) (G9:u.getD j false=false) (hall:∀e∈o.after,Region.binds .any e=true→u.getD e.on false=true)
 (hdn:∀d,o.dst=some d→d<n) (hjp:jp≤j) (hjn:j<N) (hm':(S (j+1)).m=EU m' y) (T:(S j).m.size≤m'.low) (W:AP (EU (S j).m (S j).m.size) m')
 (zW:∀d,o.dst=some d→Cm (S (j+1)).t d=v)
 (s:Ext (cut ι (S j).m.size) (EU (S j).m (S j).m.size) w B m' w') (Dq:DF P G B m' w') (Qg:Aw B m'.gen v v') :
 ∃z,DI ds P G n ops S ι0 w0 (u.setIfInBounds j true) z (a.put o.dst v') w' jp N:=by
 have V:j<ops.size:=(al.1 ho).1;have H:j<u.size:=by rw[r.yx];omega
 have O:(S (j+1)).m.size=m'.size:=by rw[hm'];rfl
 have kE:∀b,(S (j+1)).m.get b=m'.get b:=fun b=>by rw[hm'];rfl
 have hgj:∀b,b<(S j).m.size→m'.get b=(S j).m.get b:=fun b l=>W.keep b l (ag l T)
 let z:BG:=fun b=>if(S j).m.size≤b∧b<(S (j+1)).m.size then B b else ι b
 have R:∀b,(S j).m.size≤b→b<(S (j+1)).m.size→z b=B b:=fun b h1 h2=>if_pos ⟨h1,h2⟩
 have E:∀b,¬ ((S j).m.size≤b∧b<(S (j+1)).m.size)→z b=ι b:=fun b h=>if_neg h
 have f1:∀b,b<(S j).m.size→B b=ι b:=fun b l=>by
  cases hib:ι b with
  |some f =>
   have Z:cut ι (S j).m.size b=some f:=by rw[Ep l];omega
   obtain⟨_,K,h2,h3⟩:=s.le b f Z;have hg:m'.gen b=(EU (S j).m (S j).m.size).gen b:=CS (hgj b l);grind
  |none =>
   cases I:B b with
   |none=>rfl
   |some f =>
    rcases s.dom b f I with⟨YQ,h⟩|h
    ·have:=(CX h).2;grind
    ·exact absurd l (by show¬ _;exact Nat.not_lt.2 h)
 have f2:∀b,(S j).m.size≤b→b<(S (j+1)).m.size→ι b=none:=fun b h1 h2=>by
  cases hib:ι b with
  |none=>rfl
  |some f=>exact absurd ⟨h1,h2⟩ (r.Yf b f j hib V G9)
 have X9:∀b f,ι b=some f→z b=some f:=fun b f l=>by
  grind
 have f3:∀b,cut z (S (j+1)).m.size b=B b:=fun b=>by
  by_cases h1:b<(S (j+1)).m.size
  ·rw[Ep h1]
   grind
  ·have:cut z (S (j+1)).m.size b=none:=if_neg h1
   rw[this];cases I:B b with
   |none=>rfl
   |some f=>exact absurd (Dq.dom b f I).1 (by omega)
 have f5:∀c,c<w.heap.size→w'.heap[c]?=w.heap[c]?:=fun c Z=>s.frame c Z fun b f l _=>.inr (ag (CX l).1 T)
 have c5t:∀b,b<(S (j+1)).m.size→(S N).m.gen b=m'.gen b:=fun b l=>by
  have:=L.Ju F (j+1) N (by omega) r.h1' (fun k h1 h2=>r.h2 k (by omega) h2) b l;rw[CS this];exact CS (kE b)
 have hle1:∀A,j+1≤A→A≤N→Le B m'.gen (cut z (S A).m.size) (S A).m.gen:=fun A h1 h2 b f l=>by
  have M:b<(S (j+1)).m.size:=by rw[O];exact(Dq.dom b f l).1
  have hsi:=(L.EZ F (j+1) A h1 (by have:=r.h1';omega)).size;have hq:=L.Ju F (j+1) A h1 (by have:=r.h1';omega) (fun k q1 Y=>r.h2 k (by omega) (by omega)) b M;refine⟨by rw[CS hq,CS (kE b)];exact ab _,f,?_,fun _=>rfl⟩;rw[Ep (by omega),← l,← f3 b,Ep M]
 have b0t:∀x g,Le (cut ι x) g (cut z x) g:=fun x g b f l=>by
  obtain⟨h1,h2⟩:=CX l;exact⟨ab _,f,by rw[Ep h1];exact X9 b f h2,fun _=>rfl⟩
 have a8x:∀A,jp≤A→A≤N→DF P G (cut z (S A).m.size) (S A).m w':=fun A h1 h2=>by
  have Q:=r.nD A h1 h2;by_cases hij:A≤j
  ·refine(Q.world s.heap f5).congr fun b=>?_
   by_cases l:b<(S A).m.size
   ·rw[Ep l,Ep l]
    refine E b fun h=>?_
    have:=(L.EZ F A j hij (by omega)).size;omega
   ·exact(if_neg l).trans (if_neg l).symm
  ·have I:j+1≤A:=by omega
   have hin:A≤ops.size:=by have:=r.h1';omega
   have hsi:=(L.EZ F (j+1) A I hin).size;have hq:∀b,b<(S (j+1)).m.size→(S A).m.get b=m'.get b:=fun b l =>
    (L.Ju F (j+1) A I hin (fun k q1 Y=>r.h2 k (by omega) (by omega)) b l).trans (kE b)
   have L6:∀b f,cut z (S A).m.size b=some f→((S j).m.size≤b∧b<(S (j+1)).m.size∧B b=some f∧w.heap.size≤f.blk)∨cut ι (S A).m.size b=some f:=fun b f l=>by
    obtain⟨hb1,J⟩:=CX l;by_cases C:(S j).m.size≤b∧b<(S (j+1)).m.size
    ·rw[R b C.1 C.2] at J
     refine .inl ⟨C.1,C.2,J,?_⟩;rcases s.back b f J with⟨YQ,h,_⟩|h
     ·have:=(CX h).1;omega
     ·exact h
    ·rw[E b C] at J
     exact .inr (by rw[Ep hb1];exact J)
   refine⟨fun b f l=>?_,fun b f l=>?_,fun b b' f K l hb' he=>?_,fun k U=>?_⟩
   ·refine⟨(CX l).1,?_⟩
    rcases L6 b f l with⟨_,_,h,_⟩|h
    ·exact(Dq.dom b f h).2
    ·exact ag (Q.dom b f h).2 s.heap
   ·rcases L6 b f l with⟨_,J,h,_⟩|h
    ·rw[hq b J]
     exact(Dq.blk b f h).mono (hle1 A I h2)
    ·rw[f5 _ (Q.dom b f h).2]
     exact(Q.blk b f h).mono (b0t _ _)
   ·rcases L6 b f l with⟨p1,p2,p3,p4⟩|p
    ·rcases L6 b' K hb' with⟨q1,Y,q3,q4⟩|q
     ·rcases Dq.inj b b' f K p3 q3 he with h|⟨r1,r2⟩
      ·exact .inl h
      ·exact .inr ⟨by rw[Fp (hq b p2)];exact r1,by rw[Fp (hq b' Y)];exact r2⟩
     ·have:=(Q.dom b' K q).2;omega
    ·rcases L6 b' K hb' with⟨q1,Y,q3,q4⟩|q
     ·have:=(Q.dom b f p).2;omega
     ·exact Q.inj b b' f K p q he
   ·obtain⟨f,q1,Y,q3,q4,q5⟩:=Q.glob k U
    obtain⟨r1,r2⟩:=CX q1;exact⟨f,by rw[Ep r1];exact X9 k f r2,Y,q3,q4,q5⟩
 obtain⟨v1,v0⟩:=Rq (v':=v') F (ab jp) (am r.h1 r.h1') L hdr ho r.yx G9 r.tsz hdn (fun x=>b0t x (S N).m.gen) (fun d X=>by
  rw[zW d X,Nat.max_eq_left (by omega)];refine Qg.mono fun b f l=>?_
  have M:b<(S (j+1)).m.size:=by rw[O];exact(Dq.dom b f l).1
  exact⟨by rw[c5t b M];exact ab _,f,by rw[f3];exact l,fun _=>rfl⟩) r.v1 r.v0
 refine⟨z,by simpa using r.yx,Pv r.cl H ho hall,r.h1,r.h1',r.h2,?_,fun k U htk hnk=>F8 H (r.h4 k U htk hnk),a8x,?_,?_,?_,v1,v0,?_,?_,?_,am r.heap s.heap,
  fun c Z hf=>(f5 c (ag Z r.heap)).trans (r.frame c Z hf),s.tape.trans r.tape,s.os.trans r.os,s.output.trans r.output,fun b f k l U hl=>?_,fun k U C hl=>r.iY k U C (EM H hl)⟩
 ·rcases r.h3 with h|⟨h1,h2⟩
  ·exact .inl h
  ·refine .inr ⟨h1,?_⟩
   rw[DN H,if_neg (by omega)];exact h2
 ·intro b f l
  by_cases C:(S j).m.size≤b∧b<(S (j+1)).m.size
  ·exact .inr ⟨j,by rw[DN H,if_pos rfl],hjp,hjn,C.1,C.2⟩
  ·rw[E b C] at l
   rcases r.b2c b f l with h|⟨i,h1,h2⟩
   ·exact .inl h
   ·exact .inr ⟨i,F8 H h1,h2⟩
 ·cases X:o.dst<;>simp[Act.put,r.tsz]
 ·cases X:o.dst<;>simp[Act.put,r.a4t]
 ·exact r.le.trans fun b f l=>⟨ab _,f,X9 b f l,fun _=>rfl⟩
 ·intro b f l
  by_cases C:(S j).m.size≤b∧b<(S (j+1)).m.size
  ·rw[R b C.1 C.2] at l
   rcases s.back b f l with⟨YQ,h,_⟩|h
   ·have:=(CX h).1;omega
   ·exact .inr (am r.heap h)
  ·rw[E b C] at l
   exact r.back b f l
 ·intro b f l
  by_cases C:(S j).m.size≤b∧b<(S (j+1)).m.size
  ·exact .inr (am (L.EZ F 0 j (an _) (by omega)).size C.1)
  ·rw[E b C] at l
   exact r.a6d b f l
 ·by_cases C:(S j).m.size≤b∧b<(S (j+1)).m.size
  ·exact L.apart F V U (Ne.symm (MG H hl)) C.1 C.2
  ·rw[E b C] at l
   exact r.Yf b f k l U (EM H hl)
theorem a3d(ops:Array Oper)(k:Nat)(c:k≤ops.size):∃a,k≤a∧a≤ops.size∧(∀i,k≤i→i<a→Ez P ops i=false)∧(a=ops.size∨Ez P ops a=true):=by
 generalize hd:ops.size-k=d
 induction d generalizing k with
 |zero=>exact⟨ops.size,c,ab _,fun i f e=>by omega,.inl rfl⟩
 |succ d b =>
  cases hb:Ez P ops k with
  |true=>grind
  |false =>
   obtain⟨a,f,e,h,g⟩:=b (k+1) (by omega) (by omega);grind
theorem DI.bar{n:Nat}{ι ι0 z:BG}{a:Act}{w w0 w':World}{f:Array Bool}{jp j:Nat}{o:Oper}{v v':Value}{m':Mem}{y:Nat}(A:Trace P call ops S)(p:Dc call)(hdr:G8 ops=true)
 (l:DI ds P G n ops S ι0 w0 f ι a w jp j) (ho:ops[j]?=some o) (G9:f.getD j false=false) (M:∀e∈o.after,Region.binds .any e=true→f.getD e.on false=true)
 (hdn:∀d,o.dst=some d→d<n) (hb0:∀b ib,ι0 b=some ib→b<(S 0).m.size) (L:Ez P ops j=true) (H:(S (j+1)).m=EU m' y) (hy:y≤m'.low)
 (zW:∀d,o.dst=some d→Cm (S (j+1)).t d=v)
 (O:∀k,k<j→H9 ops k=true→f.getD k false=false→∀b,(S k).m.size≤b→b<(S (k+1)).m.size→(S (j+1)).m.get b=(S j).m.get b)
 (g:Ext (cut ι (S j).m.size) (EU (S j).m (S j).m.size) w z m' w') (Dq:DF P G z m' w') (Qg:Aw z m'.gen v v') :
 ∃ι' jp' jn',DI ds P G n ops S ι0 w0 (f.setIfInBounds j true) ι' (a.put o.dst v') w' jp' jn':=by
 have Y:j<ops.size:=(al.1 ho).1;have u:j<f.size:=by rw[l.yx];omega
 have K:(S (j+1)).m.size=m'.size:=by rw[H];rfl
 have kE:∀b,(S (j+1)).m.get b=m'.get b:=fun b=>by rw[H];rfl
 obtain⟨E,_⟩:=Hl hdr;obtain⟨a6s,c1y⟩:=IE L;obtain⟨C,n1,n2,n3,n4⟩:=a3d ops (j+1) (by omega);have T:∀b,b<(S (j+1)).m.size→(S C).m.get b=m'.get b:=fun b r=>(A.Ju p (j+1) C n1 n2 (fun k h1 h2=>n3 k h1 h2) b r).trans (kE b)
 have B:∀b ib,z b=some ib→b<(S (j+1)).m.size:=fun b ib r=>by rw[K];exact(Dq.dom b ib r).1
 have hLow:(S ops.size).m.low≤m'.low:=by
  have h1:=(A.EZ p (j+1) ops.size (by omega) (ab _)).low;have h2:(S (j+1)).m.low=y:=by rw[H];rfl
  omega
 have d1c:∀x,Le (cut ι x) (S j).m.gen (cut z x) (S C).m.gen:=fun x b ib r=>by
  obtain⟨h1,h2⟩:=CX r;have R:=l.ZY A p h2;obtain⟨J,s,F,q3⟩:=g.le b ib (by rw[Ep R];exact h2);have Z:(S C).m.gen b=m'.gen b:=CS (T b (B b s F));exact⟨by rw[Z];exact J,s,by rw[Ep h1];exact F,fun e=>q3 (by rw[← Z];exact e)⟩
 obtain⟨v1,v0⟩:=Rq (v':=v') (jp':=j+1) p (by have:=l.h1;omega) (by omega) A hdr ho l.yx G9 l.tsz hdn d1c (fun d Q=>by
  rw[zW d Q,Nat.max_self];refine Qg.mono fun b ib r=>?_
  have hbl:=B b ib r;exact⟨by rw[CS (T b hbl)];exact ab _,ib,by rw[Ep hbl];exact r,fun _=>rfl⟩) l.v1 l.v0
 refine⟨z,j+1,C,by simpa using l.yx,Pv l.cl u ho M,n1,n2,n3,?_,?_,?_,fun b ib r=>.inl (B b ib r),?_,?_,v1,v0,?_,?_,?_,am l.heap g.heap,?_,
  g.tape.trans l.tape,g.os.trans l.os,g.output.trans l.output,fun b ib k r hk N=>?_,fun k hk hn N b h1 h2=>?_⟩
 ·rcases n4 with h|h
  ·exact .inl h
  ·refine .inr ⟨h,?_⟩
   rw[DN u,if_neg (by omega)];cases N:f.getD C false with
   |false=>rfl
   |true =>
    obtain⟨t1,t2⟩:=IE h;have hbit:=((t2 j (by omega) a6s).1 (by omega)).resolve_left (by rw[Uw L];simp);obtain⟨on,W⟩:=getOp (ops:=ops) (i:=C) (by
     rcases aq C ops.size with h|h
     ·exact h
     ·unfold Ez at *
      rename_i hbb;rw[Array.getElem?_eq_none h] at hbb;cases hbb)
    have:=Ef l.cl E C on j W (l.cl C on W N) hbit;rw[G9] at this;cases this
 ·intro k hk htk hnk
  by_cases e:k=j
  ·subst e;rw[DN u,if_pos rfl]
  ·refine F8 u ?_
   exact Ef l.cl E j o k ho M (((c1y k e htk).1 (by omega)).resolve_left (by rw[hnk];simp))
 ·intro i' h1 h2
  have V:=(A.EZ p (j+1) i' h1 (by omega)).size;have hq:∀b,b<(EU m' y).size→(S i').m.get b=(EU m' y).get b:=fun b r=>by
   have hb':b<(S (j+1)).m.size:=by rw[K];exact r
   exact(A.Ju p (j+1) i' h1 (by omega) (fun k J F=>n3 k J (by omega)) b hb').trans (kE b)
  refine((Dq.low y).extend (m2:=(S i').m) (by rw[← H];exact V) hq).congr fun b=>?_
  cases hib:z b with
  |none =>
   unfold cut;split
   ·exact hib
   ·rfl
  |some ib=>rw[Ep (ag (B b ib hib) V)];exact hib
 ·cases Q:o.dst<;>simp[Act.put,l.tsz]
 ·cases Q:o.dst<;>simp[Act.put,l.a4t]
 ·refine l.le.trans fun b ib r=>?_
  have R:=l.ZY A p r;obtain⟨J,s,F,q3⟩:=g.le b ib (by rw[Ep R];exact r);have Z:(S C).m.gen b=m'.gen b:=CS (T b (B b s F));exact⟨by rw[Z];exact J,s,F,fun e=>q3 (by rw[← Z];exact e)⟩
 ·intro b s r
  rcases g.back b s r with⟨ib,h1,h2⟩|h
  ·rcases l.back b ib (CX h1).2 with⟨U,h3,h4⟩|h3
   ·exact .inl ⟨U,h3,h4.trans h2⟩
   ·exact .inr (h2▸h3)
  ·exact .inr (am l.heap h)
 ·intro b s r
  rcases g.dom b s r with⟨ib,h1⟩|h
  ·exact l.a6d b ib (CX h1).2
  ·exact .inr (am (A.EZ p 0 j (an _) (by omega)).size h)
 ·intro c hc hf
  rw[g.frame c (ag hc l.heap) ?_,l.frame c hc hf];intro b ib r he;rcases l.back b ib (CX r).2 with⟨U,h3,h4⟩|h3
  ·rcases hf b U h3 (h4.trans he) with h5|h5
   ·refine .inl ?_
    show(S j).m.ro b=true;rw[(A.EZ p 0 j (an _) (by omega)).ro' b (hb0 b U h3)];exact h5
   ·exact .inr (ag h5 hLow)
  ·omega
 ·have I:=EM u N
  have X:=MG u N;rcases g.dom b ib r with⟨U,h1⟩|h
  ·exact l.Yf b U k (CX h1).2 hk I
  ·exact A.apart p Y hk (Ne.symm X) h (B b ib r)
 ·have I:=EM u N
  have X:=MG u N;have hkj:k<j:=by omega
  rw[O k hkj hn I b h1 h2];rcases aq k jp with h|h
  ·rw[← l.iY k h hn I b h1 h2]
   exact A.Ju p jp j l.h1 (by omega) (fun q J F=>l.h2 q J F) b (ag h2 (A.EZ p (k+1) jp (by omega) (by have:=l.h1;omega)).size)
  ·exact A.Ju p (k+1) j (by omega) (by omega) (fun q J F=>l.h2 q (by omega) F) b h2
theorem DI.late{n:Nat}{ι ι0:BG}{a:Act}{w w0:World}{z:Array Bool}{H Q j:Nat}{o:Oper}{v:Value}{m':Mem}{y:Nat}(ht:Trace P call ops S)(K:Dc call)(hdr:G8 ops=true)
 (r:DI ds P G n ops S ι0 w0 z ι a w H Q) (ho:ops[j]?=some o) (G9:z.getD j false=false) (hall:∀e∈o.after,Region.binds .any e=true→z.getD e.on false=true)
 (hdn:∀d,o.dst=some d→d<n) (hjp:j<H) (hn:Nu o.op=true) (hv:BO P call (ev (S j).t) o (EU (S j).m (S j).m.size)=some (v,m')) (hm':(S (j+1)).m=EU m' y)
 (zW:∀d,o.dst=some d→Cm (S (j+1)).t d=v) (hρ:∀x∈o.op.operands,Aw (cut ι (S (max j H)).m.size) (S Q).m.gen (ev (S j).t x) (a.eval x)) :
 ∃v' w' C,(execOp a.eval o).run P w=.ok (.value v') w'∧DI ds P G n ops S ι0 w0 (z.setIfInBounds j true) C (a.put o.dst v') w' H Q:=by
 have W:j<ops.size:=(al.1 ho).1;have I:j<z.size:=by rw[r.yx];omega
 have T:=r.h1;have hno:=r.h1';obtain⟨l,e,len,hvv,hmm,L⟩:=Xo hn hv;rw[Nat.max_eq_right (by omega)] at hρ;obtain⟨cs',hl,hcap,L⟩:=L _ _ _ hρ;have hnews:H9 ops j=true:=by unfold H9;grind
 obtain⟨B,hb0⟩:∃B,B=(S j).m.size:=⟨_,rfl⟩
 have hs1:(S (j+1)).m.size=B+1:=by rw[hm',hmm,hb0];rfl
 have hg1:(S (j+1)).m.get B=.cells l e 0 false:=by
  rw[hm',hmm];show(Mem.alloc (EU (S j).m (S j).m.size) (.cells l e 0 false)).get B=_;rw[Mem.Bj,if_pos (by rw[hb0];rfl)]
 have Y:∀A,H≤A→A≤Q→B<(S A).m.size:=fun A h1 h2=>by
  have:=(ht.EZ K (j+1) A (by omega) (by omega)).size;omega
 have hq:∀A,H≤A→A≤Q→∀b,b<(S H).m.size→(S A).m.get b=(S H).m.get b:=fun A h1 h2=>ht.Ju K H A h1 (by omega) (fun k O J=>r.h2 k O (by omega))
 have hgi:∀A,H≤A→A≤Q→(S A).m.get B=.cells l e 0 false:=fun A h1 h2=>by
  rw[hq A h1 h2 B (Y H (ab _) T),r.iY j hjp hnews G9 B (by omega) (by omega),hg1]
 have hfree:ι B=none:=by
  cases hib:ι B with
  |none=>rfl
  |some f=>exact absurd ⟨by omega,by omega⟩ (r.Yf B f j hib W G9)
 let X:IB:=⟨w.heap.size,0,cs'.size,P.cellsOf e⟩
 let C:BG:=fun b=>if b=B then some X else ι b
 have M:C B=some X:=if_pos rfl;have E:∀b,b≠B→C b=ι b:=fun b h=>if_neg h
 have X9:∀b f,ι b=some f→C b=some f:=fun b f s=>by
  rw[E b (fun h=>by rw[h,hfree] at s;cases s)];exact s
 have b0t:∀x g,Le (cut ι x) g (cut C x) g:=fun x g b f s=>by
  obtain⟨h1,h2⟩:=CX s;exact⟨ab _,f,by rw[Ep h1];exact X9 b f h2,fun _=>rfl⟩
 obtain⟨w',F⟩:∃w':World,w'={ w with heap:=w.heap.push (.cells cs' e (0,0)) }:=⟨_,rfl⟩
 have N:w.heap.size≤w'.heap.size:=by rw[F];simp only[Array.size_push];omega
 have f5:∀c,c<w.heap.size→w'.heap[c]?=w.heap[c]?:=fun c hc=>by
  rw[F];show(w.heap.push _)[c]?=w.heap[c]?;rw[fL,if_neg (by omega)]
 have a8x:∀A,H≤A→A≤Q→DF P G (cut C (S A).m.size) (S A).m w':=fun A h1 h2=>by
  have Z:=r.nD A h1 h2;have L6:∀b f,cut C (S A).m.size b=some f→(b=B∧f=X)∨cut ι (S A).m.size b=some f:=fun b f s=>by
   obtain⟨O,J⟩:=CX s;by_cases e:b=B
   ·rw[e,M] at J;cases J;exact .inl ⟨e,rfl⟩
   ·rw[E b e] at J;exact .inr (by rw[Ep O];exact J)
  refine⟨fun b f s=>?_,fun b f s=>?_,fun b b' f R s hb' he=>?_,fun k V=>?_⟩
  ·refine⟨(CX s).1,?_⟩
   rcases L6 b f s with⟨_,q⟩|q
   ·rw[q,F];show w.heap.size<(w.heap.push _).size;simp
   ·exact ag (Z.dom b f q).2 N
  ·rcases L6 b f s with⟨O,J⟩|q
   ·have a3w:w'.heap[f.blk]?=some (.cells cs' e (0,0)):=by
     rw[J,F];show(w.heap.push _)[w.heap.size]?=_;simp
    rw[a3w,O,hgi A h1 h2,J];refine⟨fun _=>rfl,rfl,rfl,fun i hi=>?_,fun _ j _=>by simp⟩;obtain⟨u,u1,u2⟩:=hl i hi;refine⟨u,by simpa[X] using u1,u2.mono fun b f s=>?_⟩;obtain⟨r1,r2⟩:=CX s;have hsz:=(ht.EZ K H A h1 (by omega)).size;have e1:=CS (hq A h1 h2 b r1);have e2:=CS (hq Q T (ab _) b r1);exact⟨by rw[e1,e2];exact ab _,f,by rw[Ep (by omega)];exact X9 b f r2,fun _=>rfl⟩
   ·rw[f5 _ (Z.dom b f q).2]
    exact(Z.blk b f q).mono (b0t _ _)
  ·rcases L6 b f s with⟨p1,p2⟩|p
   ·rcases L6 b' R hb' with⟨O,J⟩|q
    ·exact .inl (p1.trans O.symm)
    ·have:=(Z.dom b' R q).2
     rw[p2] at he;simp only[X] at he;omega
   ·rcases L6 b' R hb' with⟨O,J⟩|q
    ·have:=(Z.dom b f p).2
     rw[J] at he;simp only[X] at he;omega
    ·exact Z.inj b b' f R p q he
  ·obtain⟨f,O,J,q3,q4,q5⟩:=Z.glob k V
   obtain⟨r1,r2⟩:=CX O;exact⟨f,by rw[Ep r1];exact X9 k f r2,J,q3,q4,q5⟩
 obtain⟨v1,v0⟩:=Rq (v':=.slice (some ⟨w.heap.size,0,none⟩) len len) K (ab H) (am r.h1 r.h1') ht hdr ho r.yx G9 r.tsz hdn (fun x=>b0t x (S Q).m.gen) (fun d hdd=>by
  rw[zW d hdd,hvv];refine .sl _ _ _ _ _ _ ⟨X,?_,an _,ab _,fun _=>⟨rfl,rfl,.inr ⟨rfl,?_⟩⟩⟩
  ·have:(EU (S j).m (S j).m.size).size=B:=hb0.symm
   show cut C _ (EU (S j).m (S j).m.size).size=_;rw[this,Ep (by have:=Y H (ab _) T;rw[Nat.max_eq_right (by omega)];exact this)];exact M
  ·simpa[X] using hcap) r.v1 r.v0
 refine⟨_,w',C,by rw[F];exact L w,by simpa using r.yx,Pv r.cl I ho hall,r.h1,r.h1',r.h2,?_,fun k V htk hnk=>F8 I (r.h4 k V htk hnk),a8x,?_,?_,?_,v1,v0,?_,?_,?_,am r.heap N,
  fun c hc hf=>(f5 c (ag hc r.heap)).trans (r.frame c hc hf),by rw[F];exact r.tape,by rw[F];exact r.os,by rw[F];exact r.output,fun b f k s V U=>?_,fun k V hnk U=>r.iY k V hnk (EM I U)⟩
 ·rcases r.h3 with h|⟨h1,h2⟩
  ·exact .inl h
  ·refine .inr ⟨h1,?_⟩
   rw[DN I,if_neg (by omega)];exact h2
 ·intro b f s
  by_cases e:b=B
  ·exact .inl (by rw[e];exact Y H (ab _) T)
  ·rw[E b e] at s
   rcases r.b2c b f s with h|⟨i,h1,h2⟩
   ·exact .inl h
   ·exact .inr ⟨i,F8 I h1,h2⟩
 ·cases hdd:o.dst<;>simp[Act.put,r.tsz]
 ·cases hdd:o.dst<;>simp[Act.put,r.a4t]
 ·exact r.le.trans fun b f s=>⟨ab _,f,X9 b f s,fun _=>rfl⟩
 ·intro b f s
  by_cases e:b=B
  ·rw[e,M] at s;cases s
   exact .inr r.heap
  ·rw[E b e] at s
   exact r.back b f s
 ·intro b f s
  by_cases e:b=B
  ·exact .inr (by have:=(ht.EZ K 0 j (an _) (by omega)).size;omega)
  ·rw[E b e] at s
   exact r.a6d b f s
 ·by_cases e:b=B
  ·exact ht.apart K W V (Ne.symm (MG I U)) (by omega) (by omega)
  ·rw[E b e] at s
   exact r.Yf b f k s V (EM I U)
end
section
variable {P:Program}{G:List Nat}{call:EO}{ops:Array Oper}{S:Nat→St}{ds:List Deferred}{rf:Option Nat}{nn:Nat}
theorem a8p{ρ:Operand→Value}{o:Oper}{m m':Mem}{v:Value}{x:Operand}{b:Nat}(c:a0n o.op=some x)(h:BO P call ρ o m=some (v,m'))(j:Ik v=some b):Ik (ρ x)=some b:=by
 obtain⟨d,op,g,pos,a,guard⟩:=o;cases op<;>simp only[a0n,reduceCtorEq,Option.some.injEq] at c<;>subst c<;>simp only[BO,FI] at h
 case move=>grind
 case assign=>grind
 case nilCheck y=>split at h<;>first|grind|cases h
 case fieldAddr s y f =>
  repeat' split at h
  all_goals first
   |(cases h;rename_i e _ _ _ _ _;grind)
   |(cases h;simp_all [Ik])
   |cases h
 case indexAddr t y i =>
  repeat' split at h
  all_goals first
   |(cases h;simp_all [Ik])
   |cases h
theorem Ws{m m':Mem}{e:TypeId}{size n b:Nat}{l:List Value}{s v:Value}(h:BN m e size l n s=some (v,m'))(i:b<m.size)(c:Ik s≠some b):m'.get b=m.get b:=by
 unfold BN at h;split at h
 ·split at h
  ·grind
  ·cases h;rw[Mem.Bj,if_neg (by omega)]
 ·split at h
  ·grind
  ·cases h;rw[Mem.Bj,if_neg (by omega)]
 ·rename_i f d len g
  have a:f≠b:=fun e=>c (by rw[e];rfl)
  split at h
  ·split at h
   ·split at h
    ·cases h;rw[Mem.get_put,if_neg a]
    grind
   grind
  grind
 grind
theorem mP{f:Array TypeId}{Bh:Array Value}{m m':Mem}{v s:Value}{b:Nat}(d:Bh[0]?=some s)(h:Jm P f Bh m=some (v,m'))(e:b<m.size)(a:Ik s≠some b):m'.get b=m.get b:=by
 unfold Jm at h;split at h
 ·rename_i i j x g n c l k
  rw[d] at c;cases c
  repeat' split at h
  all_goals first
   |exact Ws h e a
   |cases h
 grind
theorem Yn{ρ:Operand→Value}{o:Oper}{m m':Mem}{v:Value}{x:Operand}{b:Nat}(j:yg o.op=some x)(h:BO P call ρ o m=some (v,m'))(q:b<m.size)(i:Ik (ρ x)≠some b):m'.get b=m.get b:=by
 obtain⟨r,op,z,pos,l,guard⟩:=o;cases op<;>simp only[yg,reduceCtorEq,Option.some.injEq] at j
 case store t a y =>
  subst j;simp only[BO,FI] at h;split at h
  ·rename_i w k
   rw[ae] at h;obtain⟨m1,f,p⟩:=h;cases p;have g:w.block≠b:=fun e=>i (by rw[k,← e];rfl)
   unfold LM at f
   repeat' split at f
   all_goals first
    |(unfold Gu at f
      split at f
      ·split at f
       ·cases f;rw[Mem.get_put,if_neg g]
       grind
      grind)
    |grind
  grind
 case call c =>
  obtain⟨d,n,A⟩:=c;cases d<;>try cases j
  rename_i u;cases u<;>try cases j
  exact mP (s:=ρ x) (by grind) h q i
theorem zD:Ik undef=none:=rfl
theorem oh{t:Tmp}{k:Nat}(h:Zr ops k (.tmp t)=true)(q:Nat)(o:Oper)(a:k≤q)(b:ops[q]?=some o):o.dst≠some t:=by
 unfold Zr at h;grind
theorem iW(b:Trace P call ops S){k i:Nat}{r:Operand}(h:Zr ops k r=true)(a:k≤i)(d:i≤ops.size):ev (S i).t r=ev (S k).t r:=by
 cases r with
 |tmp t=>exact b.tmps t k i a d fun q o e _ c=>oh h q o e c
 |const v=>rfl
 |global g=>rfl
 |func f=>rfl
theorem Trace.root(g:Trace P call ops S)(j:G8 ops=true){i:Nat}(u:i≤ops.size):∀(f q:Nat) (r r':Operand) (b:Nat),q≤ops.size→rootOf ops i f q r=some r'→Ik (ev (S q).t r)=some b→Ik (ev (S i).t r')=some b
 |0,_,_,_,_,_,h,_=>by cases h
 |f+1,q,r,r',b,hq,h,hb=>by
  unfold rootOf at h;split at h
  ·rename_i s
   cases h;rw[iW g s (cd _ _) u,← iW g s (ck i q) hq];omega
  ·split at h
   ·rename_i t _
    split at h
    ·rename_i k y
     split at h
     ·rename_i n
      split at h
      ·rename_i x l
       have c:(ops[k]?).bind (·.dst)=some t:=by
        have:=List.find?_some y;grind
       cases hok:ops[k]? with
       |none=>grind
       |some o =>
        rw[hok] at c l;simp only[Option.bind_some] at c l;obtain⟨_,e⟩:=Hl j;have z:Cm (S q).t t=Cm (S (k+1)).t t:=g.tmps t (k+1) q n hq fun p op B _ m=>(e k o t hok c p op m (by omega)).1
        have a:Ik (Cm (S (k+1)).t t)=some b:=by rw[← z];exact hb
        rcases GY (g.step k o hok) with⟨_,d,_⟩|⟨_,v,A,w,d,_⟩
        ·rw[d,c] at a
         simp only[Ic] at a;rw[Dj,if_pos rfl,zD] at a;grind
        ·rw[d,c] at a
         simp only[Ic] at a;rw[Dj,if_pos rfl] at a;exact Trace.root g j u f k x r' b (by omega) h (a8p l w a)
      grind
     grind
    grind
   grind
theorem Trace.uJ(n:Trace P call ops S)(u:Dc call)(g:G8 ops=true){i j:Nat}{y l:Oper}{a:Operand}{b:Nat}(s:ops[i]?=some y)(A:ops[j]?=some l)(I:Gp l.op=true)(H:c0q l.op=some a)(p:j≠i)
 (F:ordered ops i j=false) (k:Ik (ev (S j).t a)=some b) (e:b<(S i).m.size):(S (i+1)).m.get b=(S i).m.get b:=by
 have K:=(al.1 s).1;have J:=(al.1 A).1;rcases GY (n.step i y s) with⟨_,_,x,q,_⟩|⟨_,v,C,z,_,q,o⟩
 ·rw[q];rfl
 ·rw[q]
  show C.get b=(S i).m.get b;rcases o with h|h|⟨M,d⟩|⟨M,d⟩
  ·have:=lU h A I p
   grind
  ·exact(JR u z).keep _ e (ag e h)
  ·unfold QV at d
   rw[s] at d;split at d
   ·rename_i w E
    rw[az] at d;have c:rootOf ops i 4 j a∈I4 ops i:=by
     unfold I4;grind
    have f:=d _ c;cases hr:rootOf ops i 4 j a with
    |none=>grind
    |some r =>
     rw[hr] at f;simp only at f;have B:Ik (ev (S i).t r)=some b:=n.root g (by omega) 4 j a r b (by omega) hr k;rw[B] at f;refine Yn (m:=EU (S i).m (S i).m.size) E z e fun L=>?_
     rw[L] at f;simp[a1i] at f
   grind
  ·unfold MX at d
   rw[az] at d;have c:rootOf ops i 4 j a∈I4 ops i:=by
    unfold I4;grind
   have f:=d _ c;cases hr:rootOf ops i 4 j a with
   |none=>grind
   |some r =>
    rw[hr] at f;have B:Ik (ev (S i).t r)=some b:=n.root g (by omega) 4 j a r b (by omega) hr k;grind
theorem Aw.blk{ι:BG}{g:Nat→Nat}{u d:Value}{b:Nat}(h:Aw ι g u d)(a:Ik u=some b):∃ib,ι b=some ib:=by
 cases h<;>first|(cases a;done)|skip
 case ptr c=>cases a;obtain⟨ib,e,_⟩:=c;grind
 case sl hsr=>cases a;obtain⟨ib,e,_⟩:=hsr;grind
theorem DI.load{n:Nat}{ι ι0:BG}{a:Act}{w w0:World}{c:Array Bool}{F l j:Nat}{o:Oper}{v:Value}{m':Mem}(I:Trace P call ops S)(g:Dc call)(Q:G8 ops=true)
 (E:DI ds P G n ops S ι0 w0 c ι a w F l) (ho:ops[j]?=some o) (G9:c.getD j false=false) (Z:∀e∈o.after,Region.binds .any e=true→c.getD e.on false=true)
 (O:Gp o.op=true) (hv:BO P call (ev (S j).t) o (EU (S j).m (S j).m.size)=some (v,m')) (U:∀x∈o.op.operands,Aw (cut ι (S (max j F)).m.size) (S l).m.gen (ev (S j).t x) (a.eval x)) :
 ∃v',(execOp a.eval o).run P w=.ok (.value v') w∧Aw (cut ι (S (max (j+1) F)).m.size) (S l).m.gen v v':=by
 have hjlt:j<ops.size:=(al.1 ho).1;have hpn:=E.h1;have hno:=E.h1';obtain⟨B,_⟩:=Hl Q;obtain⟨_,x,J,hxb,hrd⟩:=XI O hv;have c7y:x∈o.op.operands:=by
  rcases xQ O with⟨t,y,q⟩|⟨t,y,lo,hi,q⟩<;>rw[q] at J ⊢<;>cases J<;>simp[Op.operands]
 have c0t:Ez P ops j=false:=by unfold Ez;grind
 obtain⟨f,hi'⟩:∃f,f=max F (min j l):=⟨_,rfl⟩
 have dom:∀b L,cut ι (S (max j F)).m.size b=some L→b<(S f).m.size∧ι b=some L:=fun b L r=>by
  obtain⟨T,R⟩:=CX r;refine⟨?_,R⟩;have q3:=E.ZY I g R;rcases aq l j with h|h
  ·rw[show f=l by omega];exact q3
  ·rw[show f=max j F by omega];exact T
 have key:∀b,Ik (ev (S j).t x)=some b→b<(S f).m.size∧(S f).m.get b=(S j).m.get b:=fun b K=>by
  obtain⟨L,hc1⟩:=(U x c7y).blk K;obtain⟨hbi,hb2⟩:=dom b L hc1;have hbn:=E.ZY I g hb2;have hbj:b<(S j).m.size:=hxb b K;refine⟨hbi,?_⟩;rcases aq j F with hlt|hge
  ·have e:f=F:=by omega
   rw[e];refine sU (p:=fun k=>k≤F→(S k).m.get b=(S j).m.get b) (fun _=>rfl) (fun k X ih hkp=>?_) F (by omega) (ab _);rw[← ih (by omega)];have H:b<(S k).m.size:=ag hbj (I.EZ g j k X (by omega)).size;cases r:Ez P ops k with
   |false=>exact I.quiet g (by omega) r _ H
   |true =>
    obtain⟨ok,A⟩:=getOp (ops:=ops) (i:=k) (by omega);have hne:j≠k:=fun e=>by subst e;rw[c0t] at r;cases r
    refine I.uJ g Q A ho O J hne ?_ K H;cases hord:ordered ops k j with
    |false=>rfl
    |true =>
     exfalso;unfold ordered at hord;rw[if_pos (by omega)] at hord;have hlk:=E.h4 k (by omega) (IE r).1 (Uw r);have:=Ef E.cl B k ok j A (E.cl k ok A hlk) hord;rw[G9] at this;cases this
  ·rcases aq l j with hlt|d2v
   ·have e:f=l:=by omega
    rw[e];have N:Ez P ops l=true∧c.getD l false=false:=by
     rcases E.h3 with h|h
     ·omega
     ·exact h
    have X:(S j).m.get b=(S l).m.get b:=by
     refine sU (p:=fun k=>k≤j→(S k).m.get b=(S l).m.get b) (fun _=>rfl) (fun k X ih hkp=>?_) j (by omega) (ab _);rw[← ih (by omega)];have H:b<(S k).m.size:=ag hbn (I.EZ g l k X (by omega)).size;cases r:Ez P ops k with
     |false=>exact I.quiet g (by omega) r _ H
     |true =>
      obtain⟨ok,A⟩:=getOp (ops:=ops) (i:=k) (by omega);have c9j:c.getD k false=false:=by
       by_cases e:k=l
       ·rw[e];exact N.2
       ·cases O:c.getD k false with
        |false=>rfl
        |true =>
         have Y:=((IE N.1).2 k e (IE r).1).2 (by omega);have:=Ef E.cl B k ok l A (E.cl k ok A O) Y;rw[N.2] at this;cases this
      refine I.uJ g Q A ho O J (by omega) ?_ K H;cases hord:ordered ops k j with
      |false=>rfl
      |true =>
       exfalso;unfold ordered at hord;rw[if_neg (by omega)] at hord;have:=Ef E.cl B j o k ho Z hord;rw[c9j] at this;cases this
    exact X.symm
   ·have e:f=j:=by omega
    rw[e]
 have M:∀b,b<(S f).m.size→(S l).m.gen b=(S f).m.gen b:=fun b r =>
  CS (I.Ju g f l (by omega) hno (fun k h1 h2=>E.h2 k (by omega) h2) b r)
 have d:BO P call (ev (S j).t) o (S f).m=some (v,(S f).m):=hrd _ key;have hs:=E.nD f (by omega) (by omega);have C:∀y∈o.op.operands,Aw (cut ι (S f).m.size) (S f).m.gen (ev (S j).t y) (a.eval y):=fun y V=>(U y V).mono fun b L r=>by
  obtain⟨T,R⟩:=dom b L r;exact⟨by rw[M b T];exact ab _,L,by rw[Ep T];exact R,fun _=>rfl⟩
 have run:∃v',(execOp a.eval o).run P w=.ok (.value v') w∧Aw (cut ι (S f).m.size) (S f).m.gen v v':=by
  obtain⟨dst,op,ty,pos,after,guard⟩:=o;rcases xQ O with⟨t,y,q⟩|⟨t,y,lo,hi,q⟩
  ·simp only at q
   subst q;simp only[BO,FI] at d;split at d
   ·rename_i ad had
    rw[ae] at d;obtain⟨u,hu,he⟩:=d;cases he;have V:=C y (by simp[Op.operands]);rw[had] at V;have hsh:∃a',a.eval y=.pointer (some a')∧Qe (cut ι (S f).m.size) (S f).m.gen ad a':=by generalize a.eval y=u at V;cases V;exact⟨_,rfl,by assumption⟩
    obtain⟨a',e1,har⟩:=hsh;obtain⟨v',W,Qg⟩:=QC hs har hu;exact⟨v',G7 (s:=Instr.loadAt t (a.eval y)) (by simp only[Instr.loadAt,e1,Instr.sureAddr,Sem.run_bind,Sem.run_pure,Result.andThen_ok];exact W),Qg⟩
   ·cases d
  ·simp only at q
   subst q;simp only[BO,FI,Option.map_none] at d;rw[ae] at d;obtain⟨u,hu,he⟩:=d;cases he;obtain⟨v',W,Qg⟩:=Yj hs (C y (by simp[Op.operands])) (YR.map (o:=lo) fun z hz=>C z (by subst hz;simp[Op.operands])) (YR.map (o:=hi) fun z hz=>C z (by subst hz;simp[Op.operands]))
    (mx':=none) (.inl ⟨rfl,rfl⟩) hu
   exact⟨v',G7 W,Qg⟩
 obtain⟨v',W,Qg⟩:=run;refine⟨v',W,Qg.mono fun b YQ r=>?_⟩;obtain⟨T,R⟩:=CX r;have hsz:=(I.EZ g f (max (j+1) F) (by omega) (by omega)).size;exact⟨by rw[M b T];exact ab _,YQ,by rw[Ep (by omega)];exact R,fun _=>rfl⟩
theorem V6{n:Nat}{o:Oper}(h:IJ G n o=true){ro:Option Nat}{ρ:Operand→Value}:o.semAt ro ρ=execOp ρ o:=Oper.semAt_eq _ _ _ fun c a=>by
 unfold IJ at h;grind
theorem DI.junk{n:Nat}{ι ι0:BG}{a:Act}{w w0:World}{d:Array Bool}{e f:Nat}(x:Obj)(b:DI ds P G n ops S ι0 w0 d ι a w e f):DI ds P G n ops S ι0 w0 d ι a { w with heap:=w.heap.push x } e f :=
 ⟨b.yx,b.cl,b.h1,b.h1',b.h2,b.h3,b.h4,fun j h1 h2=>(b.nD j h1 h2).junk x,b.b2c,b.tsz,b.a4t,b.v1,b.v0,b.le,b.back,b.a6d,
  by have:=b.heap;grind,
  fun c h g=>by
   have:=b.heap;rw[fL,if_neg (by omega)];exact b.frame c h g,b.tape,b.os,b.output,b.Yf,b.iY⟩
theorem nI{k:Nat}(h:H9 ops k=true):touches P ops k=true:=by
 unfold H9 at h;unfold touches;cases hk:ops[k]? with
 |none=>grind
 |some o =>
  rw[hk] at h;obtain⟨b,op,c,pos,a,guard⟩:=o;cases op<;>simp only[Nu,Bool.false_eq_true] at h
  simpa[DK,Gp] using h
theorem lW{o:Oper}{x:Operand}(h:yg o.op=some x):x∈o.op.operands:=by
 obtain⟨g,op,j,pos,e,guard⟩:=o;cases op<;>simp only[yg,reduceCtorEq,Option.some.injEq] at h
 case store t a y=>subst h;simp[Op.operands]
 case call c =>
  obtain⟨b,d,k⟩:=c;cases b<;>try cases h
  rename_i i;cases i<;>try cases h
  have f:d[0]?=some x:=h;have:=gO f;simp[Op.operands,Call.operands,this]
theorem a3y{n:Nat}{ι ι0:BG}{a:Act}{w w0:World}{p:Array Bool}{R I j:Nat}(hc:JM P G call)(g:Dc call)(C:Trace P call ops S)(u:G8 ops=true)
 (Z:∀(i:Nat) (o:Oper),ops[i]?=some o→IJ G n o=true) (hG:∀k,k∈G→k<(S 0).m.size) (hb0:∀b ib,ι0 b=some ib→b<(S 0).m.size)
 (r:DI ds P G n ops S ι0 w0 p ι a w R I) (hr:j∈Region.ready .any ops p) {K:Act→World→Prop} {Q:Exit→Act→World→Prop}
 (hK:∀L a' w' jp' jn',DI ds P G n ops S ι0 w0 (p.setIfInBounds j true) L a' w' jp' jn'→K a' w'):wpOpIn (WF rf) nn P ops Q j K a w:=by
 obtain⟨hun,o,s,c⟩:=mem_ready.1 hr;have hjlt:j<ops.size:=(al.1 s).1;have O:p.getD j false=false:=by
  grind
 obtain⟨hop,B⟩:=DL (Z j o s);have H:=Z j o s;obtain⟨N,_⟩:=Hl u;have M:touches P ops j=true→(H9 ops j=true∧j<R)∨R≤j∧(Ez P ops j=true→j=I)∧(Ez P ops j=false→j<I):=fun X=>by
  by_cases hnl:H9 ops j=true∧j<R
  ·grind
  refine .inr ?_;have h1:R≤j:=by
   rcases aq j R with h|h
   ·have:=r.h4 j h X (by grind)
    grind
   omega
  have h2:j≤I:=by
   rcases r.h3 with h|⟨q1,q2⟩
   ·omega
   ·rcases aq I j with h|h
    ·obtain⟨_,t2⟩:=IE q1
     have hbit:=(t2 j (by omega) X).2 h;have:=Ef r.cl N j o I s c hbit;rw[q2] at this;cases this
    omega
  refine⟨h1,fun q=>?_,fun q=>?_⟩
  ·rcases aq j I with h|h
   ·have:=r.h2 j h1 h
    rw[q] at this;cases this
   ·omega
  ·rcases aq j I with h|h
   ·exact h
   ·have:j=I:=by omega
    subst this;rcases r.h3 with h|⟨q1,_⟩
    ·omega
    ·rw[q] at q1;cases q1
 have wF:Ez P ops j=true→touches P ops j=true:=fun h=>(IE h).1
 have c2j:Ez P ops j=true→j=I:=fun h=>by
  rcases M (wF h) with⟨h1,_⟩|h1
  ·rw[Uw h] at h1;cases h1
  ·exact h1.2.1 h
 unfold wpOpIn;simp only[s];rw[a4w C g u r s O c];rcases GY (C.step j o s) with⟨hw,htt,x,hm,hx1,hx2⟩|⟨hw,v,m',T,htt,hm,hor⟩
 ·rw[hw]
  simp only[Bool.false_eq_true,if_false];refine⟨fun _ _=>trivial,?_⟩;have U:∀d,o.dst=some d→Cm (S (j+1)).t d=undef:=fun d A=>by
   rw[htt,A];simp only[Ic];rw[Dj,if_pos rfl]
  cases q:Ez P ops j with
  |true =>
   have hj:=c2j q;subst hj;have hs:=(r.nD j r.h1 (ab _)).low (S j).m.size;obtain⟨L,jp',jn',E⟩:=DI.bar (v:=undef) (v':=undef) (m':=EU (S j).m (S j).m.size) (y:=x) C g u r s O c B hb0 q (by rw[hm];rfl) hx2 U (fun _ _ _ _ _ _ _=>by rw[hm];rfl) (Ext.refl _ _ _) hs Aw.undef;exact hK _ _ _ _ _ E
  |false =>
   exact hK _ _ _ _ _ (DI.still g C u r s O c B q fun d A=>by rw[U d A];exact Aw.undef)
 ·rw[hw]
  simp only[if_true];have U:∀d,o.dst=some d→Cm (S (j+1)).t d=v:=fun d A=>by
   rw[htt,A];simp only[Ic];rw[Dj,if_pos rfl]
  have J:=nK C g u r hG s O c hop;by_cases V:DK P o.op=true
  ·
   have hv':FI P (ev (S j).t) o (EU (S j).m (S j).m.size)=some (v,m'):=by
    unfold BO at T;split at T
    ·rename_i f args aT d0r
     rw[d0r] at V;simp[DK] at V
    ·exact T
   have hnt:touches P ops j=false:=by unfold touches;rw[s];simp[V]
   have W:Ez P ops j=false:=by
    cases q:Ez P ops j with
    |false=>rfl
    |true=>have:=wF q;rw[hnt] at this;cases this
   by_cases hns:∀t len ps,o.op≠.buildSlice t len ps
   case neg =>
    obtain⟨t,h0⟩:=du.1 hns;obtain⟨len,h0⟩:=du.1 h0;obtain⟨ps,h0⟩:=du.1 h0;obtain⟨x,hx⟩:=o8 (Classical.not_not.1 h0) V J hv';obtain⟨z,Qg⟩:=hx w;unfold Oper.wpIn;rw[V6 H,z];refine⟨fun _ _=>trivial,?_⟩;refine hK _ _ _ _ _ (DI.junk x (DI.still g C u r s O c B W fun d A=>?_));rw[U d A];exact Qg.mono (Le.cut (C.EZ g (max j R) (max (j+1) R) (by omega) (by have:=r.h1;have:=r.h1';omega)).size)
   obtain⟨v',z,Qg⟩:=uF V hns J hv';unfold Oper.wpIn;rw[V6 H,z w];refine⟨fun _ _=>trivial,?_⟩;refine hK _ _ _ _ _ (DI.still g C u r s O c B W fun d A=>?_);rw[U d A];exact Qg.mono (Le.cut (C.EZ g (max j R) (max (j+1) R) (by omega) (by have:=r.h1;have:=r.h1';omega)).size)
  by_cases hl:Gp o.op=true
  ·obtain⟨v',z,Qg⟩:=DI.load C g u r s O c hl T J
   have W:Ez P ops j=false:=by unfold Ez;rw[s];simp[hl]
   unfold Oper.wpIn;rw[V6 H,z];refine⟨fun _ _=>trivial,?_⟩;refine hK _ _ _ _ _ (DI.still g C u r s O c B W fun d A=>?_);rw[U d A];exact Qg
  ·have X:touches P ops j=true:=by unfold touches;rw[s];simp[V,hl]
   rcases M X with⟨hnw,hjl⟩|⟨hjp,b7p,c6m⟩
   ·have hn:Nu o.op=true:=by unfold H9 at hnw;rw[s] at hnw;exact hnw
    obtain⟨v',w',L,z,E⟩:=DI.late C g u r s O c B hjl hn T hm U J;unfold Oper.wpIn;rw[V6 H,z];refine⟨fun _ _=>trivial,?_⟩;exact hK _ _ _ _ _ E
   have hjn:j≤I:=by
    cases q:Ez P ops j with
    |true=>have:=b7p q;omega
    |false=>have:=c6m q;omega
   have hs:=(r.nD j hjp hjn).low (S j).m.size;rw[Nat.max_eq_left hjp] at J;have Y:∀x∈o.op.operands,Aw (cut ι (S j).m.size) (EU (S j).m (S j).m.size).gen (ev (S j).t x) (a.eval x):=fun x hx=>(J x hx).mono fun b ib q=>by
    have hbl:=(CX q).1;have:=C.Ju g j I hjn r.h1' (fun k h1 h2=>r.h2 k (by omega) h2) b hbl;refine⟨?_,ib,q,fun _=>rfl⟩;show(S I).m.gen b≤(S j).m.gen b;rw[CS this];exact ab _
   refine OZ hc hs Y T fun v' w' hp=>?_
   obtain⟨ι1,hext,Dq,Qg⟩:=hp;cases q:Ez P ops j with
   |true =>
    have hj:=b7p q;subst hj;have hkeep:∀k,k<j→H9 ops k=true→p.getD k false=false→∀b,(S k).m.size≤b→b<(S (k+1)).m.size→(S (j+1)).m.get b=(S j).m.get b:=fun k hk hnk hlk b h1 h2=>by
     have hbj:b<(S j).m.size:=ag h2 (C.EZ g (k+1) j (by omega) (by omega)).size;have htk:touches P ops k=true:=nI hnk;rw[hm];show m'.get b=(S j).m.get b;have F:barrier P ops j=true∨Qv P ops j=true→m'.get b=(S j).m.get b:=fun h=>by
      have:=Ef r.cl N j o k s c (mM h hnk htk hk);rw[hlk] at this;cases this
     rcases hor with h|h|⟨h,_⟩|⟨h,_⟩
     ·exact F (.inl h)
     ·exact(JR g T).keep _ hbj (ag hbj h)
     ·unfold oH at h
      rw[cW,s] at h;obtain⟨x,hx⟩:=gv.1 h.1;refine Yn (m:=EU (S j).m (S j).m.size) hx T hbj fun he=>?_
      obtain⟨ib,h3⟩:=(Y x (lW hx)).blk he;exact r.Yf b ib k (CX h3).2 (by omega) hlk ⟨h1,h2⟩
     ·exact F (.inr h)
    obtain⟨L,jp',jn',E⟩:=DI.bar (v:=v) (v':=v') (m':=m') C g u r s O c B hb0 q hm (ck _ _) U hkeep hext Dq Qg;exact hK _ _ _ _ _ E
   |false =>
    have hlow:(S j).m.size≤m'.low:=by
     by_cases hn:Nu o.op=true
     ·obtain⟨l,e,k,_,h2,_⟩:=Xo hn T
      rw[h2];exact ab _
     rcases hor with h|h|⟨h,_⟩|⟨h,_⟩
     ·exfalso
      unfold Ez at q;rw[s] at q;simp[V,hl,hn,h] at q
     ·exact h
     ·exfalso
      unfold Ez at q;rw[s] at q;simp[V,hl,hn,h] at q
     ·exfalso
      unfold Ez at q;rw[s] at q;simp[V,hl,hn,h] at q
    obtain⟨L,E⟩:=DI.quiet (v:=v) (v':=v') C g u r s O c B hjp (c6m q) hm hlow (JR g T) U hext Dq Qg;exact hK _ _ _ _ _ E
def unl(ops:Array Oper)(listed:Array Bool):Nat:=((List.range ops.size).filter fun i=>listed.getD i false==false).length
theorem b5w{a:Array Bool}{j:Nat}(d:a.size=ops.size)(f:j<ops.size)(h:a.getD j false=false):unl ops (a.setIfInBounds j true)+1=unl ops a:=by
 have b:j<a.size:=by omega
 have c:∀(l:List Nat),l.Nodup→j∈l→(l.filter fun i=>(a.setIfInBounds j true).getD i false==false).length+1=(l.filter fun i=>a.getD i false==false).length:=by
  intro l
  induction l with
  |nil=>simp
  |cons x l g =>
   intro k m;by_cases e:x=j
   ·subst e
    have o:l.filter (fun i=>(a.setIfInBounds x true).getD i false==false)=l.filter (fun i=>a.getD i false==false):=by
     apply gg;intro i n;rw[DN b,if_neg (fun e=>by grind)]
    simp_all
   ·rw[dx,dx,DN b,if_neg e]
    grind
 exact c _ gw (List.mem_range.2 f)
theorem SL{a:Array Bool}(c:a.size=ops.size)(b:∀(i:Nat) (o:Oper),ops[i]?=some o→∀e∈o.after,Region.binds .any e=true→e.on<i)(h:Region.ready .any ops a=[]) :
 ∀i,i<ops.size→a.getD i false=true:=by
 intro i
 induction i using Nat.strongRecOn with
 |_ i g =>
  intro f;cases hl:a.getD i false with
  |true=>rfl
  |false =>
   obtain⟨o,d⟩:=getOp f;have:i∈Region.ready .any ops a:=mem_ready.2 ⟨by grind,o,d,fun e j k=>by
    grind⟩
   grind
theorem b2g{a:Array Bool}(h:unl ops a=0):∀i,i<ops.size→a.getD i false=true:=by
 intro i b;unfold unl at h;simp_all
theorem DI.done{n:Nat}{ι ι0:BG}{a:Act}{w w0:World}{d:Array Bool}{x o:Nat}(j:Dc call)(q:Trace P call ops S)(c:DI ds P G n ops S ι0 w0 d ι a w x o)
 (l:∀i,i<ops.size→d.getD i false=true):Reach P G ds n ι0 (S 0) w0 (S ops.size) a w:=by
 have s:o=ops.size:=by
  rcases c.h3 with h|⟨h1,B⟩
  ·exact h
  ·rcases aq o ops.size with h|h
   ·grind
   ·have:=c.h1';omega
 subst s;have g:=q.EZ j 0 ops.size (an _) (ab _);refine⟨ι,⟨g.size,g.low,g.keep,g.ro,g.ro',c.le,c.back,c.a6d,c.heap,c.frame,c.tape,c.os,c.output⟩,?_,c.tsz,c.a4t,fun t=>?_⟩
 ·refine(c.nD ops.size c.h1 (ab _)).congr fun b=>?_
  cases hib:ι b with
  |none =>
   unfold cut;grind
  |some A=>rw[Ep (c.ZY q j hib)];grind
 ·by_cases p:∃(i:Nat) (f:Oper),ops[i]?=some f∧f.dst=some t
  ·obtain⟨i,f,m,e⟩:=p
   exact(c.v1 i f t m e (l i (al.1 m).1)).mono Le.b8u
  ·have y:=c.v0 t fun i f m e=>absurd ⟨i,f,m,e⟩ p
   have z:Cm (S ops.size).t t=Cm (S 0).t t:=q.tmps t 0 ops.size (an _) (ab _) fun k ok _ _ r u=>p ⟨k,ok,r,u⟩
   rw[z];exact y.mono Le.b8u
theorem b2x{n:Nat}{ι0:BG}{w0:World}(F:JM P G call)(c:Dc call)(u:Trace P call ops S)(h:G8 ops=true)
 (f:∀(i:Nat) (o:Oper),ops[i]?=some o→IJ G n o=true) (H:∀k,k∈G→k<(S 0).m.size) (y:∀b ib,ι0 b=some ib→b<(S 0).m.size) {Q:Exit→Act→World→Prop}
 (B:∀a' w',Reach P G ds n ι0 (S 0) w0 (S ops.size) a' w'→Q .normal a' w'):∀(fuel:Nat) (listed:Array Bool) (ι:BG) (a:Act) (w:World) (jp jn:Nat),
 DI ds P G n ops S ι0 w0 listed ι a w jp jn→unl ops listed=fuel→wpAnyIn (WF rf) nn P .any ops Q fuel listed a w:=by
 obtain⟨d,_⟩:=Hl h;intro fuel
 induction fuel with
 |zero =>
  intro listed ι a w jp jn e z;have l:=b2g z;refine⟨?_,B a w (e.done c u l)⟩;rw[cj];intro j p;obtain⟨I,o,A,_⟩:=mem_ready.1 p;grind
 |succ fuel C =>
  intro listed ι a w jp jn e z;refine⟨fun E=>B a w (e.done c u (SL e.yx d E)),fun j p=>?_⟩;refine a3y F c u h f H y e p fun q a' w' r s x=>C _ q a' w' r s x ?_
  obtain⟨I,o,A,_⟩:=mem_ready.1 p;have g:=(al.1 A).1;have J:listed.getD j false=false:=by grind
  have:=b5w (ops:=ops) e.yx g J;omega
theorem ZB(J:JM P G call)(j:Dc call)(O:P.follows .mixedOrders=true):kP P G call:=by
 intro ds rf nn n id ops s R ι a w Q E I h f W;obtain⟨S,e0,N,u⟩:=V3 ops.toList 0 s R h;simp only[Nat.zero_add] at N u;have M:ops.toList.length=ops.size:=by simp
 subst e0;subst N;have A:Trace P call ops S:=⟨fun i o X=>u i o (by grind)⟩
 have z:∀(i:Nat) (o:Oper),ops[i]?=some o→IJ G n o=true:=fun i o X=>E o (by
  grind)
 have hG:∀k,k∈G→k<(S 0).m.size:=fun k B=>by
  obtain⟨c,e,_⟩:=f.1.glob k B;exact(f.1.dom k c e).1
 have g:∀b c,ι b=some c→b<(S 0).m.size:=fun b c d=>(f.1.dom b c d).1
 refine wpIn_region_any O ?_;have F:∀i,(Array.replicate ops.size false).getD i false=false:=fun i=>by
  by_cases Z:i<ops.size<;>simp[Z]
 obtain⟨r,n1,T,L,n4⟩:=a3d ops 0 (an _);have p:∀l,l≤r→∀b,b<(S 0).m.size→(S l).m.get b=(S 0).m.get b:=fun l e=>A.Ju j 0 l (an _) (by omega) (fun k _ q=>L k (an _) (by omega))
 have H:∀x,Le (cut ι x) (S 0).m.gen (cut ι x) (S r).m.gen:=fun x b c d=>by
  have:=p r (ab _) b (g b c (CX d).2);exact⟨by rw[CS this];simp,c,d,fun _=>rfl⟩
 refine b2x (ds:=ds) (S:=S) (ι0:=ι) (w0:={ w with drawn:=w.drawn+1 }) J j A I z hG g (fun a' w' V=>W a' w' ?_) ops.size _ ι a { w with drawn:=w.drawn+1 } 0 r ?_ ?_
 ·obtain⟨C,e,q⟩:=V
  exact⟨C,⟨e.size,e.low,e.keep,e.ro,e.ro',e.le,e.back,e.dom,e.heap,e.frame,e.tape,e.os,e.output⟩,q⟩
 ·refine⟨by simp,(fun i o _ Y=>by grind),an _,T,fun k _ q=>L k (an _) q,?_,fun k B=>by omega,fun l _ q=>?_,fun b c d=>.inl (g b c d),f.2.size,f.2.defers,
   (fun i o t _ _ Y=>by grind),fun t _=>?_,fun b c d=>?_,fun b c d=>.inl ⟨c,d,rfl⟩,fun b c d=>.inl ⟨c,d⟩,ab _,fun _ _ _=>rfl,rfl,rfl,rfl,
   fun b c k d B _ h=>by have:=g b c d;have:=(A.EZ j 0 k (an _) (by omega)).size;omega,fun k B=>by omega⟩
  ·grind
  ·have y:=(A.EZ j 0 l (an _) (by omega)).size
   refine((f.1.drawn (w.drawn+1)).extend y (p l q)).congr fun b=>?_
   cases hib:ι b with
   |none =>
    unfold cut;grind
   |some c=>rw[Ep (ag (g b c hib) y)];omega
  ·refine(f.2.val t).mono fun b c d=>?_
   have K:=g b c d;have J:cut ι (S 0).m.size b=some c:=by rw[Ep K];omega
   obtain⟨q1,U,q2,q3⟩:=H (S 0).m.size b c J;grind
  ·have:=p r (ab _) b (g b c d)
   exact⟨by rw[CS this];simp,c,d,fun _=>rfl⟩
 ·unfold unl
  rw[ii.2 (fun i _=>by grind)];simp
end
end Go.Am
