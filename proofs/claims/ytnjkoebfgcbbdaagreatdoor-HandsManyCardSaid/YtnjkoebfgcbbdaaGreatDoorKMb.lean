/-
  Texts of a proof, merged (AmC, AmD, VmA). Conditions: in each statement.
-/
import Derived.OrdersIn
import Derived.RangeFuncLeaves
import GoSem.ClaimChange
import Derived.ProofKit
import Derived.Below
import Derived.WideShapes
import Derived.ChangeMaps5
import GoSem.ClaimJoined
import Derived.Test.YtnjkoebfgcbbdaaGreatDoorKMa
set_option linter.unusedSimpArgs false
set_option linter.unusedVariables false
set_option linter.unusedSectionVars false
set_option maxRecDepth 100000
set_option maxHeartbeats 8000000
namespace Go.Am
section
variable {P:Program} {G:List Nat} {ds:List Deferred} {rf:Option Nat} {nn:Nat}
structure AV (m m':Mem):Prop where
 size:m.size≤m'.size
 low:m'.low≤m.low
 keep:∀ b,b<m.size→b<m'.low→m'.get b=m.get b
 ro:∀ b,b<m.size→m.ro b=true→m'.get b=m.get b
 ro':∀ b,b<m.size→m'.ro b=m.ro b
theorem AV.refl (m:Mem):AV m m:=⟨Nat.le_refl _,Nat.le_refl _,fun _ _ _=>rfl,fun _ _ _=>rfl,fun _ _=>rfl⟩
theorem AV.trans {m m' m'':Mem} (h:AV m m') (k:AV m' m''):AV m m'':=by
 refine ⟨Nat.le_trans h.size k.size,Nat.le_trans k.low h.low,fun b hb hl=>?_,fun b hb hr=>?_,fun b hb=>?_⟩
 ·rw [k.keep b (Nat.lt_of_lt_of_le hb h.size) hl,h.keep b hb (Nat.lt_of_lt_of_le hl k.low)]
 ·rw [k.ro b (Nat.lt_of_lt_of_le hb h.size) (by rw [h.ro' b hb];exact hr),h.ro b hb hr]
 ·rw [k.ro' b (Nat.lt_of_lt_of_le hb h.size),h.ro' b hb]
theorem AV.alloc (m:Mem) (x:HY):AV m (m.alloc x):=by
 have hget:∀ b,b<m.size→(m.alloc x).get b=m.get b:=fun b hb=>by rw [Mem.Bv,if_neg (by omega)]
 exact ⟨Nat.le_succ _,Nat.le_refl _,fun b hb _=>hget b hb,fun b hb _=>hget b hb,fun b hb=>EM (hget b hb)⟩
theorem AV.put {m:Mem} {b:Nat} {x:HY} (h:m.ro b=false) (hx:x.ro=false):AV m (m.put b x):=by
 have hget:∀ c,c≠b→(m.put b x).get c=m.get c:=fun c hc=>by rw [Mem.get_put,if_neg (fun e=>hc e.symm)]
 refine ⟨Nat.le_refl _,Nat.min_le_left _ _,fun c hc hl=>hget c fun e=>?_,fun c hc hr=>hget c fun e=>?_,fun c hc=>?_⟩
 ·subst e;have:(m.put c x).low≤c:=Nat.min_le_right _ _;omega
 ·subst e;rw [h] at hr;cases hr
 ·by_cases e:c=b
  ·subst e;rw [h];unfold Mem.ro;rw [Mem.get_put,if_pos rfl];exact hx
  ·exact EM (hget c e)
theorem Ld {m m':Mem} {a:Addr} {l:List Value} (h:Gj m a l=some m'):AV m m':=by
 unfold Gj at h
 split at h
 ·rename_i vs e g hg
  split at h
  ·cases h;exact AV.put (Mem.NQ hg) rfl
  ·cases h
 ·cases h
theorem TD {m m':Mem} {e:TypeId} {size n:Nat} {l:List Value} {s v:Value} (h:BM m e size l n s=some (v,m')):AV m m':=by
 unfold BM at h
 split at h
 ·split at h
  ·cases h;exact AV.refl _
  ·cases h;exact AV.alloc _ _
 ·split at h
  ·cases h;exact AV.refl _
  ·cases h;exact AV.alloc _ _
 ·split at h
  ·rename_i vs e' g' hg
   split at h
   ·split at h
    ·cases h;exact AV.put (Mem.NQ hg) rfl
    ·cases h
   ·cases h
  ·cases h
 ·cases h
theorem dP {aT:Array TypeId} {BF:Array Value} {m m':Mem} {v:Value} (h:Ip P aT BF m=some (v,m')):AV m m':=by
 unfold Ip at h
 repeat' split at h
 all_goals first
  |exact TD h
  |cases h
theorem mV {aT:Array TypeId} {BF:Array Value} {m m':Mem} {v:Value} (h:kW P aT BF m=some (v,m')):AV m m':=by
 unfold kW at h
 simp only at h
 repeat' split at h
 all_goals first
  |(cases h;exact AV.refl _)
  |(rw [Option.map_eq_some_iff] at h;obtain ⟨m1,h1,h2⟩:=h;cases h2;exact Ld h1)
  |cases h
theorem jJ {aT:Array TypeId} {BF:Array Value} {m m':Mem} {v:Value} (h:Uw P aT BF m=some (v,m')):AV m m':=by
 unfold Uw at h
 repeat' split at h
 all_goals first
  |(cases h;exact AV.refl _)
  |(rw [Option.map_eq_some_iff] at h;obtain ⟨m1,h1,h2⟩:=h;cases h2;exact Ld h1)
  |cases h
theorem fG {t:TypeId} {x k v:Value} {m m':Mem} (h:Ia P t x k v m=some m'):AV m m':=by
 unfold Ia at h
 split at h
 ·split at h
  ·rename_i es clock hg
   repeat' split at h
   all_goals first
    |(cases h;exact AV.put (by unfold Mem.ro;rw [hg];rfl) rfl)
    |cases h
  ·cases h
 ·cases h
theorem lF {t:TypeId} {x k v:Value} {m m':Mem} (h:QD P t x k m=some (v,m')):AV m m':=by
 unfold QD at h
 split at h
 ·split at h
  ·rename_i es clock hg
   repeat' split at h
   all_goals first
    |(cases h;exact AV.put (by unfold Mem.ro;rw [hg];rfl) rfl)
    |cases h
  ·cases h
 ·cases h
theorem Uc {x s v:Value} {m m':Mem} (h:Hg x s v m=some m'):AV m m':=by
 unfold Hg at h
 split at h
 ·split at h
  ·rename_i es clock hg
   repeat' split at h
   all_goals first
    |(cases h;exact AV.put (by unfold Mem.ro;rw [hg];rfl) rfl)
    |cases h
  ·cases h
 ·cases h
theorem qM {s d:TypeId} {x v:Value} {m m':Mem} (h:YA P s d x m=some (v,m')):AV m m':=by
 unfold YA at h
 repeat' split at h
 all_goals first
  |(cases h;exact AV.alloc _ _)
  |(cases h;exact AV.refl _)
  |cases h
theorem a0i {ρ:Operand→Value} {o:Oper} {m m':Mem} {v:Value} (h:EX P ρ o m=some (v,m')):AV m m':=by
 unfold EX at h
 split at h
 all_goals (repeat' split at h)
 all_goals first
  |(cases h;exact AV.refl _)
  |(cases h;exact AV.alloc _ _)
  |exact dP h
  |exact mV h
  |exact jJ h
  |exact qM h
  |exact lF h
  |(rw [Option.map_eq_some_iff] at h;obtain ⟨u,h1,h2⟩:=h;cases h2;first
   |exact AV.refl _
   |exact AV.alloc _ _
   |exact fG h1
   |exact Uc h1
   |(unfold Nu at h1;(repeat' split at h1)<;>first|exact Ld h1|cases h1))
  |cases h
theorem qK {aT:Array TypeId} {BF:Array Value} (hq:OE P aT=true) (m m2:Mem):VX P aT BF m=VX P aT BF m2:=by
 unfold OE at hq
 unfold VX
 cases h1:aT[0]? with
 |none=>simp [h1] at hq
 |some t =>
  rw [h1] at hq
  simp only at hq ⊢
  cases h2:BF[0]? with
  |none=>rfl
  |some x =>
   simp only
   cases h3:P.underlying t with
   |none=>simp [h3] at hq
   |some d =>
    rw [h3] at hq
    cases d<;>first|(cases hq;done)|(cases x<;>rfl)
theorem lJ {ρ:Operand→Value} {o:Oper} {m m':Mem} {v:Value} (hq:DF P o.op=true) (h:EX P ρ o m=some (v,m')) (m2:Mem):m'=m∧EX P ρ o m2=some (v,m2):=by
 obtain ⟨dst,op,ty,pos,after,guard⟩:=o
 have jK:∀ {x:Option Value},x.map (fun v=>(v,m))=some (v,m')→m'=m∧x.map (fun v=>(v,m2))=some (v,m2):=fun {x} h=>by
  rw [Option.map_eq_some_iff] at h
  obtain ⟨u,rfl,h2⟩:=h
  cases h2
  exact ⟨rfl,rfl⟩
 have mapc':∀ {x:Option Value},x.map (fun v=>(v,m))=some (v,m')→m'=m∧x.map (fun v=>(v,m2))=some (v,m2):=jK
 simp only at hq
 cases op<;>simp only [DF,Bool.false_eq_true] at hq<;>simp only [EX] at h ⊢
 case move=>cases h;exact ⟨rfl,rfl⟩
 case assign=>cases h;exact ⟨rfl,rfl⟩
 case makeFunc fn fs cs =>
  cases fn<;>simp only [reduceCtorEq] at h ⊢
  cases h;exact ⟨rfl,rfl⟩
 case pick c a b =>
  split at h
  ·cases h;exact ⟨rfl,rfl⟩
  ·cases h
 case convert s d x =>
  have hq':(Jf P s||Jf P d)=false:=by simpa using hq
  rw [hq'] at h ⊢
  simp only [Bool.false_eq_true,if_false] at h ⊢
  split at h<;>rename_i hp<;>first|(rw [if_pos hp];exact jK h)|cases h
 case buildSlice t len ps =>
  have hl:len=0:=by simpa using hq
  subst hl
  simp only [if_true] at h ⊢
  repeat' split at h
  all_goals first|(cases h;refine ⟨rfl,?_⟩;simp_all;done)|cases h
 case call c =>
  obtain ⟨callee,args,aT⟩:=c
  cases callee<;>simp only [reduceCtorEq,Bool.false_eq_true] at hq h ⊢
  rename_i b
  cases b<;>simp only [reduceCtorEq,Bool.false_eq_true] at hq h ⊢
  case cap=>exact jK h
  case len=>rw [qK hq m m2] at h;exact mapc' h
  case max=>split at h<;>rename_i hp<;>first|(rw [if_pos hp];exact jK h)|cases h
  case min=>split at h<;>rename_i hp<;>first|(rw [if_pos hp];exact jK h)|cases h
 all_goals first
  |exact jK h
  |(split at h<;>rename_i hp<;>first|(rw [if_pos hp];exact jK h)|(cases h;done))
  |(repeat' split at h
    all_goals first
     |(cases h;refine ⟨rfl,?_⟩;simp_all;done)
     |(cases h;exact ⟨rfl,rfl⟩)
     |exact jK h
     |cases h)
end
section
variable {P:Program} {G:List Nat} {ds:List Deferred} {rf:Option Nat} {nn:Nat}
def Df (call:Ep):Prop:=∀ f BF m v m',call f BF m=some (v,m')→AV m m'
theorem Ja {call:Ep} (hc:Df call) {ρ:Operand→Value} {o:Oper} {m m':Mem} {v:Value} (h:Ce P call ρ o m=some (v,m')):AV m m':=by
 unfold Ce at h
 split at h
 ·split at h
  ·exact hc _ _ _ _ _ h
  ·cases h
 ·exact a0i h
def cut (ι:BN) (n:Nat):BN:=fun b=>if b<n then ι b else none
theorem D8 {ι:BN} {n b:Nat} (h:b<n):cut ι n b=ι b:=if_pos h
theorem CY {ι:BN} {n b:Nat} {ib:IB} (h:cut ι n b=some ib):b<n∧ι b=some ib:=by
 unfold cut at h
 split at h
 ·exact ⟨by assumption,h⟩
 ·cases h
def EF (m:Mem) (x:Nat):Mem:={ m with low:=x }
theorem DL.low {ι:BN} {m:Mem} {w:World} (hs:DL P G ι m w) (x:Nat):DL P G ι (EF m x) w:=⟨hs.dom,hs.blk,hs.inj,hs.glob⟩
theorem DL.extend {ι:BN} {m m2:Mem} {w:World} (hs:DL P G ι m w) (hsz:m.size≤m2.size) (hget:∀ b,b<m.size→m2.get b=m.get b):DL P G ι m2 w:=by
 have hle:Le ι m.gen ι m2.gen:=fun b ib hb=>⟨by rw [CS (hget b (hs.dom b ib hb).1)];exact Nat.le_refl _,ib,hb,fun _=>rfl⟩
 refine ⟨fun b ib hb=>⟨Nat.lt_of_lt_of_le (hs.dom b ib hb).1 hsz,(hs.dom b ib hb).2⟩,fun b ib hb=>?_,fun b b' ib ib' hb hb' he=>?_,fun k hk=>?_⟩
 ·rw [hget b (hs.dom b ib hb).1];exact (hs.blk b ib hb).mono hle
 ·rcases hs.inj b b' ib ib' hb hb' he with h|⟨h1,h2⟩
  ·exact .inl h
  ·exact .inr ⟨by rw [EM (hget b (hs.dom b ib hb).1)];exact h1,by rw [EM (hget b' (hs.dom b' ib' hb').1)];exact h2⟩
 ·obtain ⟨ib,h1,h2,h3,h4,h5⟩:=hs.glob k hk
  have hlt:=(hs.dom k ib h1).1
  exact ⟨ib,h1,h2,⟨h3.1,by rw [hget k hlt];exact h3.2⟩,by rw [CS (hget k hlt)];exact h4,by rw [EM (hget k hlt)];exact h5⟩
theorem DL.world {ι:BN} {m:Mem} {w w':World} (hs:DL P G ι m w) (hsz:w.heap.size≤w'.heap.size) (hh:∀ c,c<w.heap.size→w'.heap[c]?=w.heap[c]?):DL P G ι m w' :=
 ⟨fun b ib hb=>⟨(hs.dom b ib hb).1,Nat.lt_of_lt_of_le (hs.dom b ib hb).2 hsz⟩,fun b ib hb=>by rw [hh _ (hs.dom b ib hb).2];exact hs.blk b ib hb,hs.inj,hs.glob⟩
theorem DL.congr {ι ι':BN} {m:Mem} {w:World} (hs:DL P G ι m w) (h:∀ b,ι' b=ι b):DL P G ι' m w:=by
 have:ι'=ι:=funext h
 rw [this];exact hs
theorem U4 (ops:Array Oper):∀ (l:List Oper) (acc:Array Nat),(∀ (j:Nat) o,l[j]?=some o→∀ k,((l.foldl (fun acc o=>acc.push (o.after.foldl (fun s e=>if Region.binds .any e then s ||| 2 ^ e.on ||| acc.getD e.on 0 else s) 0)) acc).getD (acc.size+j) 0).testBit k=true →
 ∃ e∈o.after,Region.binds .any e=true∧(e.on=k∨((l.foldl (fun acc o=>acc.push (o.after.foldl (fun s e=>if Region.binds .any e then s ||| 2 ^ e.on ||| acc.getD e.on 0 else s) 0)) acc).getD e.on 0).testBit k=true)) ∧
 (∀ j,j<acc.size→(l.foldl (fun acc o=>acc.push (o.after.foldl (fun s e=>if Region.binds .any e then s ||| 2 ^ e.on ||| acc.getD e.on 0 else s) 0)) acc).getD j 0=acc.getD j 0)
 |[],acc=>⟨fun j o h=>by simp at h,fun j _=>rfl⟩
 |o::l,acc=>by
  generalize hf:(fun (acc:Array Nat) (o:Oper)=>acc.push (o.after.foldl (fun s e=>if Region.binds .any e then s ||| 2 ^ e.on ||| acc.getD e.on 0 else s) 0))=F
  have ih:=U4 ops l (F acc o)
  rw [hf] at ih
  have hsz:(F acc o).size=acc.size+1:=by rw [← hf];simp
  simp only [List.foldl_cons]
  have hkeep:∀ j,j<acc.size→(List.foldl F (F acc o) l).getD j 0=acc.getD j 0:=fun j hj=>by
   rw [ih.2 j (by omega),← hf]
   simp [Array.getElem?_push,Nat.ne_of_lt hj]
  refine ⟨fun j o' hj k hk=>?_,hkeep⟩
  cases j with
  |zero =>
   simp only [List.getElem?_cons_zero,Option.some.injEq] at hj
   subst hj
   have h1:(List.foldl F (F acc o) l).getD (acc.size+0) 0=o.after.foldl (fun s e=>if Region.binds .any e then s ||| 2 ^ e.on ||| acc.getD e.on 0 else s) 0:=by
    rw [ih.2 _ (by omega),← hf]
    simp
   rw [h1] at hk
   have key:∀ (es:List Edge) (s:Nat),(es.foldl (fun s e=>if Region.binds .any e then s ||| 2 ^ e.on ||| acc.getD e.on 0 else s) s).testBit k=true →
    s.testBit k=true∨∃ e∈es,Region.binds .any e=true∧(e.on=k∨(acc.getD e.on 0).testBit k=true):=fun es=>by
    induction es with
    |nil=>intro s h;exact .inl h
    |cons e es ihe =>
     intro s h
     rw [List.foldl_cons] at h
     rcases ihe _ h with h|⟨e',h1,h2⟩
     ·split at h
      ·rename_i hb
       simp only [Nat.testBit_or,Bool.or_eq_true] at h
       rcases h with (h|h)|h
       ·exact .inl h
       ·refine .inr ⟨e,by simp,hb,.inl ?_⟩
        rw [Nat.testBit_two_pow] at h
        simpa using h
       ·exact .inr ⟨e,by simp,hb,.inr h⟩
      ·exact .inl h
     ·exact .inr ⟨e',by simp [h1],h2⟩
   rw [← Array.foldl_toList] at hk
   rcases key _ _ hk with h|⟨e,h1,h2,h3⟩
   ·simp at h
   ·refine ⟨e,by simpa using h1,h2,?_⟩
    rcases h3 with h3|h3
    ·exact .inl h3
    ·refine .inr ?_
     by_cases he:e.on<acc.size
     ·rw [hkeep _ he];exact h3
     ·have:acc.getD e.on 0=0:=by simp [Array.getElem?_eq_none (by omega:acc.size≤e.on)]
      rw [this] at h3;simp at h3
  |succ j =>
   have:=ih.1 j o' (by simpa using hj) k
   rw [hsz] at this
   have e1:acc.size+1+j=acc.size+(j+1):=by omega
   rw [e1] at this
   exact this hk
theorem oK {ops:Array Oper} {i k:Nat} {o:Oper} (ho:ops[i]?=some o) (h:((Region.before ops).getD i 0).testBit k=true) :
 ∃ e∈o.after,Region.binds .any e=true∧(e.on=k∨((Region.before ops).getD e.on 0).testBit k=true):=by
 have:=(U4 ops ops.toList #[]).1 i o (by simpa using ho) k
 simp only [Array.size_empty,Nat.zero_add] at this
 unfold Region.before at h ⊢
 rw [← Array.foldl_toList] at h ⊢
 exact this h
def Closed (ops:Array Oper) (listed:Array Bool):Prop :=
 ∀ (i:Nat) (o:Oper),ops[i]?=some o→listed.getD i false=true→∀ e∈o.after,Region.binds .any e=true→listed.getD e.on false=true
theorem D5 {ops:Array Oper} {listed:Array Bool} (hcl:Closed ops listed) (hback:∀ (i:Nat) (o:Oper),ops[i]?=some o→∀ e∈o.after,Region.binds .any e=true→e.on<i):∀ (i:Nat) (o:Oper) (k:Nat),ops[i]?=some o →
 (∀ e∈o.after,Region.binds .any e=true→listed.getD e.on false=true)→((Region.before ops).getD i 0).testBit k=true→listed.getD k false=true:=by
 intro i
 induction i using Nat.strongRecOn with
 |_ i ih =>
  intro o k ho hall hbit
  obtain ⟨e,he,hb,h⟩:=oK ho hbit
  rcases h with rfl|h
  ·exact hall e he hb
  ·have hlt:=hback i o ho e he hb
   cases hoe:ops[e.on]? with
   |none =>
    have:ops.size≤e.on:=by
     rcases Nat.lt_or_ge e.on ops.size with h|h
     ·rw [Array.getElem?_eq_getElem h] at hoe;cases hoe
     ·exact h
    have hi:i<ops.size:=(Array.getElem?_eq_some_iff.1 ho).1
    omega
   |some oe=>exact ih e.on hlt oe k hoe (hcl e.on oe hoe (hall e he hb)) h
theorem SN {call:Ep} {ops:Array Oper}:∀ (l:List Oper) (k:Nat) (s s':St),Js P call ops k l s=some s' →
 ∃ S:Nat→St,S k=s∧S (k+l.length)=s'∧∀ (i:Nat) (o:Oper),l[i]?=some o→N7 P call ops (k+i) o (S (k+i))=some (S (k+i+1))
 |[],k,s,s',h=>by
  cases h
  exact ⟨fun _=>s,rfl,rfl,fun i o h=>by simp at h⟩
 |o::l,k,s,s',h=>by
  simp only [Js] at h
  cases h1:N7 P call ops k o s with
  |none=>rw [h1] at h;cases h
  |some s1 =>
   rw [h1] at h
   obtain ⟨S,e1,e2,e3⟩:=SN l (k+1) s1 s' h
   refine ⟨fun j=>if j≤k then s else S j,by simp,?_,fun i o' hi=>?_⟩
   ·have:¬ (k+(o::l).length≤k):=by simp
    simp only [this,if_false]
    rw [← e2];congr 1;simp;omega
   ·cases i with
    |zero =>
     simp only [List.getElem?_cons_zero,Option.some.injEq] at hi
     subst hi
     have:¬ (k+0+1≤k):=by omega
     simp only [Nat.add_zero,Nat.le_refl,if_true]
     rw [if_neg (by omega),e1];exact h1
    |succ i =>
     have h2:=e3 i o' (by simpa using hi)
     have q1:¬ (k+(i+1)≤k):=by omega
     have q2:¬ (k+(i+1)+1≤k):=by omega
     simp only [q1,q2,if_false]
     have q3:k+(i+1)=k+1+i:=by omega
     rw [q3];exact h2
theorem Gq {call:Ep} {ops:Array Oper} {i:Nat} {o:Oper} {s s2:St} (h:N7 P call ops i o s=some s2) :
 (Region.wanted o (D6 ops s.t)=false∧s2.t=Gz s.t o.dst undef∧∃ x,s2.m=EF s.m x∧x≤s.m.low∧x≤s.m.size) ∨
 (Region.wanted o (D6 ops s.t)=true∧∃ v m',Ce P call (ev s.t) o (EF s.m s.m.size)=some (v,m')∧s2.t=Gz s.t o.dst v∧s2.m=EF m' (min s.m.low m'.low) ∧
  (barrier P ops i=true∨s.m.size≤m'.low∨(dM P ops i=true∧OV ops i s.t=true)∨(OD P ops i=true∧KN ops i s.t s.m m'=true))):=by
 unfold N7 KZ at h
 split at h
 ·rename_i s' h1
  split at h
  ·rename_i hc
   cases h
   split at h1
   ·rename_i hw
    refine .inr ⟨hw,?_⟩
    unfold nM at h1
    split at h1
    ·rename_i v m' hv
     cases h1
     refine ⟨v,m',hv,rfl,rfl,?_⟩
     simp only [Bool.or_eq_true,Bool.and_eq_true,decide_eq_true_eq,or_assoc] at hc
     exact hc
    ·cases h1
   ·rename_i hw
    cases h1
    exact .inl ⟨by simpa using hw,rfl,_,rfl,Nat.min_le_left _ _,Nat.min_le_right _ _⟩
  ·cases h
 ·cases h
theorem Gh {ops:Array Oper} (h:Gn ops=true):(∀ (i:Nat) (o:Oper),ops[i]?=some o→∀ e∈o.after,Region.binds .any e=true→e.on<i) ∧
 (∀ (i:Nat) (oi:Oper) (d:Nat),ops[i]?=some oi→oi.dst=some d→∀ (j:Nat) (oj:Oper),ops[j]?=some oj→j≠i →
  oj.dst≠some d∧(d∈oj.looksAt ops→(i<j→((Region.before ops).getD j 0).testBit i=true)∧(j<i→((Region.before ops).getD i 0).testBit j=true))):=by
 unfold Gn at h
 simp only [List.all_eq_true,List.mem_range] at h
 have lt:∀ {i:Nat} {o:Oper},ops[i]?=some o→i<ops.size:=fun hi=>(Array.getElem?_eq_some_iff.1 hi).1
 refine ⟨fun i o hi e he hb=>?_,fun i oi d hi hd j oj hj hne=>?_⟩
 ·have:=h i (lt hi)
  rw [hi] at this
  simp only [Bool.and_eq_true] at this
  have h2:=Array.all_eq_true_iff_forall_mem.1 this.1.2 e he
  simpa [hb] using h2
 ·have:=h i (lt hi)
  rw [hi] at this
  simp only [Bool.and_eq_true,hd,List.all_eq_true,List.mem_range] at this
  have h2:=this.2 j (lt hj)
  rw [hj] at h2
  simp only [Bool.or_eq_true,beq_iff_eq,hne,false_or,Bool.and_eq_true,bne_iff_ne,ne_eq] at h2
  refine ⟨h2.1,fun hl=>?_⟩
  rcases h2.2 with h3|h3
  ·simp [hl] at h3
  ·refine ⟨fun hlt=>?_,fun hlt=>?_⟩
   ·rw [if_pos hlt] at h3;exact h3
   ·rw [if_neg (by omega)] at h3;exact h3
def D9 (P:Program) (ops:Array Oper) (i:Nat):Bool:=match ops[i]? with|some o=>!DF P o.op&&!FH o.op&&!Lc o.op&&(barrier P ops i||dM P ops i||OD P ops i)|none=>false
def touches (P:Program) (ops:Array Oper) (i:Nat):Bool:=match ops[i]? with|some o=>!DF P o.op&&!FH o.op|none=>false
def FP (ops:Array Oper) (i:Nat):Bool:=match ops[i]? with|some o=>Lc o.op|none=>false
theorem Q8 {ops:Array Oper} {i:Nat} (h:D9 P ops i=true):FP ops i=false:=by
 unfold D9 at h
 unfold FP
 cases ho:ops[i]? with
 |none=>rfl
 |some o =>
  rw [ho] at h
  simp only [Bool.and_eq_true,Bool.not_eq_true'] at h
  exact h.1.2
theorem G8 {ops:Array Oper} {i:Nat} (h:D9 P ops i=true):touches P ops i=true∧∀ j,j≠i→touches P ops j=true →
 (j<i→FP ops j=true∨((Region.before ops).getD i 0).testBit j=true)∧(i<j→((Region.before ops).getD j 0).testBit i=true):=by
 unfold D9 at h
 cases ho:ops[i]? with
 |none=>rw [ho] at h;cases h
 |some o =>
  rw [ho] at h
  simp only [Bool.and_eq_true] at h
  refine ⟨by unfold touches;rw [ho];simp only [Bool.and_eq_true];exact h.1.1,fun j hne ht=>?_⟩
  unfold touches at ht
  cases hoj:ops[j]? with
  |none=>rw [hoj] at ht;cases ht
  |some oj =>
   rw [hoj] at ht
   simp only [Bool.and_eq_true,Bool.not_eq_true'] at ht
   have hlt:=(Array.getElem?_eq_some_iff.1 hoj).1
   rcases Bool.or_eq_true_iff.1 h.2 with h2'|h2
   rcases Bool.or_eq_true_iff.1 h2' with h2|h2
   ·unfold barrier at h2
    simp only [List.all_eq_true,List.mem_range] at h2
    have h3:=h2 j hlt
    simp only [hoj,Option.map_some,Option.getD_some,Bool.or_eq_true,beq_iff_eq,hne,false_or] at h3
    rw [ht.1] at h3
    simp only [Bool.false_eq_true,false_or] at h3
    refine ⟨fun hl=>.inr ?_,fun hl=>?_⟩
    ·rw [if_pos hl] at h3;exact h3
    ·rw [if_neg (by omega)] at h3;exact h3
   ·unfold dM at h2
    simp only [Bool.and_eq_true,List.all_eq_true,List.mem_range] at h2
    have h3:=h2.2 j hlt
    simp only [hoj,Option.map_some,Option.getD_some,Bool.or_eq_true,beq_iff_eq,hne,false_or] at h3
    rw [ht.1,ht.2] at h3
    simp only [Bool.false_eq_true,false_or,ordered,Bool.and_eq_true,decide_eq_true_eq] at h3
    refine ⟨fun hl=>?_,fun hl=>?_⟩
    ·rw [if_pos hl] at h3
     rcases h3 with h3|h3
     ·exact .inl (by unfold FP;rw [hoj];exact h3.2)
     ·exact .inr h3
    ·rw [if_neg (by omega)] at h3
     rcases h3 with h3|h3
     ·omega
     ·exact h3
   ·unfold OD at h2
    simp only [List.all_eq_true,List.mem_range] at h2
    have h3:=h2 j hlt
    simp only [hoj,Option.map_some,Option.getD_some,Bool.or_eq_true,beq_iff_eq,hne,false_or] at h3
    rw [ht.1,ht.2] at h3
    simp only [Bool.false_eq_true,false_or,ordered] at h3
    refine ⟨fun hl=>.inr ?_,fun hl=>?_⟩
    ·rw [if_pos hl] at h3;exact h3
    ·rw [if_neg (by omega)] at h3;exact h3
theorem bV {ops:Array Oper} {i j:Nat} {oj:Oper} (h:barrier P ops i=true) (hj:ops[j]?=some oj) (hld:FH oj.op=true) (hne:j≠i):ordered ops i j=true:=by
 unfold barrier at h
 simp only [List.all_eq_true,List.mem_range] at h
 have h3:=h j (Array.getElem?_eq_some_iff.1 hj).1
 have hq:DF P oj.op=false:=by
  cases hop:oj.op<;>rw [hop] at hld<;>first|rfl|cases hld
 simp only [hj,Option.map_some,Option.getD_some,Bool.or_eq_true,beq_iff_eq,hne,false_or,hq,Bool.false_eq_true] at h3
 unfold ordered
 exact h3
theorem cu {ops:Array Oper} {i j:Nat} (h:barrier P ops i=true∨OD P ops i=true) (hn:FP ops j=true) (hq:touches P ops j=true) (hl:j<i):((Region.before ops).getD i 0).testBit j=true:=by
 unfold FP at hn
 unfold touches at hq
 cases hoj:ops[j]? with
 |none=>rw [hoj] at hn;cases hn
 |some oj =>
  rw [hoj] at hq
  simp only [Bool.and_eq_true,Bool.not_eq_true'] at hq
  have hlt:=(Array.getElem?_eq_some_iff.1 hoj).1
  have hne:j≠i:=by omega
  rcases h with h2|h2
  ·unfold barrier at h2
   simp only [List.all_eq_true,List.mem_range] at h2
   have h3:=h2 j hlt
   simp only [hoj,Option.map_some,Option.getD_some,Bool.or_eq_true,beq_iff_eq,hne,false_or] at h3
   rw [hq.1] at h3
   simp only [Bool.false_eq_true,false_or] at h3
   rw [if_pos hl] at h3;exact h3
  ·unfold OD at h2
   simp only [List.all_eq_true,List.mem_range] at h2
   have h3:=h2 j hlt
   simp only [hoj,Option.map_some,Option.getD_some,Bool.or_eq_true,beq_iff_eq,hne,false_or] at h3
   rw [hq.1,hq.2] at h3
   simp only [Bool.false_eq_true,false_or,ordered] at h3
   rw [if_pos hl] at h3;exact h3
end
section
variable {P:Program} {G:List Nat} {ds:List Deferred} {rf:Option Nat} {nn:Nat}
structure Trace (P:Program) (call:Ep) (ops:Array Oper) (S:Nat→St):Prop where
 step:∀ (i:Nat) (o:Oper),ops[i]?=some o→N7 P call ops i o (S i)=some (S (i+1))
section
variable {call:Ep} {ops:Array Oper} {S:Nat→St}
theorem kS {p:Nat→Prop} {i:Nat} (base:p i) (step:∀ j,i≤j→p j→p (j+1)) (j:Nat) (h:i≤j):p j:=by
 induction j with
 |zero=>have:i=0:=by omega
        subst this;exact base
 |succ j ih =>
  by_cases e:i=j+1
  ·subst e;exact base
  ·exact step j (by omega) (ih (by omega))
theorem getOp {i:Nat} (h:i<ops.size):∃ o,ops[i]?=some o:=⟨ops[i],Array.getElem?_eq_getElem h⟩
theorem Trace.mem (ht:Trace P call ops S) (hc:Df call) {i:Nat} (hi:i<ops.size):AV (S i).m (S (i+1)).m:=by
 obtain ⟨o,ho⟩:=getOp hi
 rcases Gq (ht.step i o ho) with ⟨_,_,x,hm,hx,_⟩|⟨_,v,m',hv,_,hm,_⟩
 ·rw [hm];exact ⟨Nat.le_refl _,hx,fun _ _ _=>rfl,fun _ _ _=>rfl,fun _ _=>rfl⟩
 ·have hs:=Ja hc hv
  rw [hm]
  exact ⟨hs.size,Nat.min_le_left _ _,fun b hb hl=>hs.keep b hb (Nat.lt_of_lt_of_le hl (Nat.min_le_right _ _)),fun b hb hr=>hs.ro b hb hr,fun b hb=>hs.ro' b hb⟩
theorem Trace.Es (ht:Trace P call ops S) (hc:Df call) (i:Nat):∀ j,i≤j→j≤ops.size→AV (S i).m (S j).m:=by
 refine kS (fun _=>AV.refl _) fun j hij ih hj=>?_
 exact (ih (by omega)).trans (ht.mem hc (by omega))
theorem pI {ρ:Operand→Value} {o:Oper} {m m':Mem} {v:Value} (hq:DF P o.op=true) (h:Ce P call ρ o m=some (v,m')) (m2:Mem) :
 m'=m∧Ce P call ρ o m2=some (v,m2):=by
 unfold Ce at h ⊢
 split at h
 ·rename_i f args aT hop
  rw [hop] at hq
  simp [DF] at hq
 ·rename_i hne
  obtain ⟨h1,h2⟩:=lJ hq h m2
  exact ⟨h1,h2⟩
theorem TY {ρ:Operand→Value} {o:Oper} {m m':Mem} {v:Value} (hn:Lc o.op=true) (h:Ce P call ρ o m=some (v,m')) :
 ∃ l e n,v=.slice (some ⟨m.size,0,none⟩) n 0∧m'=m.alloc (.cells l e 0 false) ∧
  ∀ (ι:BN) (g:Nat→Nat) (ρ':Operand→Value),(∀ x∈o.op.operands,AA ι g (ρ x) (ρ' x))→∃ cs':Array Value,(∀ j,j<l.length→∃ v',cs'[j]?=some v'∧AA ι g (l.getD j undef) v')∧n*P.cellsOf e≤cs'.size ∧
   ∀ w:World,(execOp ρ' o).run P w=.ok (.value (.slice (some ⟨w.heap.size,0,none⟩) n n)) { w with heap:=w.heap.push (.cells cs' e (0,0)) }:=by
 obtain ⟨dst,op,ty,pos,after,guard⟩:=o
 simp only at hn
 cases op<;>simp only [Lc,Bool.false_eq_true] at hn
 rename_i t len ps
 have hl0:len≠0:=by simpa using hn
 simp only [Ce,EX] at h
 split at h
 ·rename_i e hu
  split at h
  ·rename_i i z hi hz
   split at h
   ·rename_i hc
    split at h
    ·rename_i cs hcs
     split at h
     ·first|rw [if_neg hl0] at h|skip
      cases h
      refine ⟨cs.toList,e,len,rfl,rfl,fun ι g ρ' hρ=>?_⟩
      obtain ⟨cs',h1,h2,h3⟩:=kT (ρ':=ρ') (dst:=dst) (ty:=ty) (pos:=pos) (after:=after) (guard:=guard) (ι:=ι) (g:=g) hu hi hz hc.1 hc.2.1 hc.2.2 (fun x hx=>hρ x hx) hcs
      exact ⟨cs',h1,h2,h3⟩
     ·cases h
    ·cases h
   ·cases h
  ·cases h
 ·cases h
theorem iR {t:TypeId} {a:Addr} {m m2:Mem} {v:Value} (h:LD P t a m=some v) (hg:m2.get a.block=m.get a.block) (hlt:a.block<m2.size):LD P t a m2=some v:=by
 unfold LD at h ⊢
 split at h
 ·rw [if_pos hlt]
  unfold Xg Mem.EK at h ⊢
  rw [hg]
  exact h
 ·cases h
theorem Zj {t:TypeId} {x:Value} {lo hi:Option Value} {m:Mem} {v:Value} (h:aslice P t x lo hi none m=some v) :
 (∀ b,GR x=some b→b<m.size)∧∀ m2:Mem,(∀ b,GR x=some b→b<m2.size∧m2.get b=m.get b)→aslice P t x lo hi none m2=some v:=by
 unfold aslice at h ⊢
 simp only [Option.isSome_none,Bool.false_and,Bool.false_eq_true,if_false] at h ⊢
 split at h
 ·rename_i s hu
  exact ⟨fun b hb=>(by cases hb),fun m2 _=>by first|exact h|(simp only [hu];exact h)⟩
 ·rename_i e hu
  exact ⟨fun b hb=>(by cases hb),fun m2 _=>by first|exact h|(simp only [hu];exact h)⟩
 ·rename_i e b off g' hu
  exact ⟨fun b hb=>(by cases hb),fun m2 _=>by first|exact h|(simp only [hu];exact h)⟩
 ·rename_i e b off len g hu
  split at h
  ·rename_i i l hh hi0 b1 b2 _
   split at h
   ·rename_i vs e' g' ro hg
    split at h
    ·rename_i hc
     refine ⟨fun c hb=>by cases hb;exact hc.2,fun m2 h2=>?_⟩
     obtain ⟨q1,q2⟩:=h2 b rfl
     simp only [hu,hi0,b1,b2,q2,hg,hc.1,q1,and_self,if_true]
     exact h
    ·cases h
   ·cases h
  ·rename_i hc;cases hc
  ·cases h
 ·cases h
theorem nG {o:Oper} (h:FH o.op=true):(∃ t a,o.op=.load t a)∨∃ t x lo hi,o.op=.slice t x lo hi none:=by
 cases hop:o.op with
 |load t a=>exact .inl ⟨t,a,rfl⟩
 |slice t x lo hi mx =>
  cases mx with
  |none=>exact .inr ⟨t,x,lo,hi,rfl⟩
  |some y=>rw [hop] at h;cases h
 |_=>rw [hop] at h;cases h
theorem UR {ρ:Operand→Value} {o:Oper} {m m':Mem} {v:Value} (hl:FH o.op=true) (h:Ce P call ρ o m=some (v,m')) :
 m'=m∧∃ x,a9l o.op=some x∧(∀ b,GR (ρ x)=some b→b<m.size)∧∀ m2:Mem,(∀ b,GR (ρ x)=some b→b<m2.size∧m2.get b=m.get b)→Ce P call ρ o m2=some (v,m2):=by
 obtain ⟨dst,op,ty,pos,after,guard⟩:=o
 rcases nG hl with ⟨t,a,hop⟩|⟨t,x,lo,hi,hop⟩
 ·simp only at hop
  subst hop
  simp only [Ce,EX] at h ⊢
  split at h
  ·rename_i ad had
   rw [Option.map_eq_some_iff] at h
   obtain ⟨u,hu,he⟩:=h
   cases he
   refine ⟨rfl,a,rfl,fun b hb=>?_,fun m2 h2=>?_⟩
   ·rw [had] at hb
    cases hb
    unfold LD at hu
    split at hu
    ·assumption
    ·cases hu
   ·obtain ⟨q1,q2⟩:=h2 ad.block (by rw [had];rfl)
    simp only [had,iR hu q2 q1,Option.map_some]
  ·cases h
 ·simp only at hop
  subst hop
  simp only [Ce,EX,Option.map_none] at h ⊢
  rw [Option.map_eq_some_iff] at h
  obtain ⟨u,hu,he⟩:=h
  cases he
  obtain ⟨r1,r2⟩:=Zj hu
  exact ⟨rfl,x,rfl,r1,fun m2 h2=>by rw [r2 m2 h2];rfl⟩
theorem Trace.quiet (ht:Trace P call ops S) (hc:Df call) {i:Nat} (hi:i<ops.size) (hb:D9 P ops i=false):∀ b,b<(S i).m.size→(S (i+1)).m.get b=(S i).m.get b:=by
 intro b hlt
 obtain ⟨o,ho⟩:=getOp hi
 rcases Gq (ht.step i o ho) with ⟨_,_,x,hm,hx⟩|⟨_,v,m',hv,_,hm,hor⟩
 ·rw [hm];rfl
 ·rw [hm]
  show m'.get b=(S i).m.get b
  by_cases hq:DF P o.op=true
  ·obtain ⟨h1,_⟩:=pI hq hv (S i).m
   rw [h1];rfl
  ·by_cases hl:FH o.op=true
   ·rw [(UR hl hv).1];rfl
   ·by_cases hn:Lc o.op=true
    ·obtain ⟨l,e,n,_,h2,_⟩:=TY hn hv
     rw [h2,Mem.Bv,if_neg (by show ¬ (S i).m.size=b;omega)];rfl
    ·unfold D9 at hb
     rw [ho] at hb
     rcases hor with h|h|⟨h,_⟩|⟨h,_⟩
     ·simp [hq,hl,hn,h] at hb
     ·exact (Ja hc hv).keep b hlt (Nat.lt_of_lt_of_le hlt h)
     ·simp [hq,hl,hn,h] at hb
     ·simp [hq,hl,hn,h] at hb
theorem Trace.Ii (ht:Trace P call ops S) (hc:Df call) (i:Nat):∀ j,i≤j→j≤ops.size→(∀ k,i≤k→k<j→D9 P ops k=false)→∀ b,b<(S i).m.size→(S j).m.get b=(S i).m.get b:=by
 refine kS (fun _ _ b _=>rfl) fun j hij ih=>?_
 ·intro hj hq b hb
  rw [ht.quiet hc (by omega) (hq j hij (by omega)) b (Nat.lt_of_lt_of_le hb (ht.Es hc i j hij (by omega)).size)]
  exact ih (by omega) (fun k h1 h2=>hq k h1 (by omega)) b hb
theorem Trace.tmps (ht:Trace P call ops S) (t:Nat) (i:Nat):∀ j,i≤j→j≤ops.size→(∀ k o,i≤k→k<j→ops[k]?=some o→o.dst≠some t)→CB (S j).t t=CB (S i).t t:=by
 refine kS (fun _ _=>rfl) fun j hij ih=>?_
 ·intro hj hq
  obtain ⟨o,ho⟩:=getOp (ops:=ops) (i:=j) (by omega)
  have hd:=hq j o hij (by omega) ho
  have hput:∀ v,CB (Gz (S j).t o.dst v) t=CB (S j).t t:=fun v=>by
   cases hdd:o.dst with
   |none=>rfl
   |some d=>simp only [Gz];rw [Di,if_neg (fun e=>hd (by rw [hdd,e]))]
  have hstep:CB (S (j+1)).t t=CB (S j).t t:=by
   rcases Gq (ht.step j o ho) with ⟨_,h,_⟩|⟨_,v,m',_,h,_⟩
   ·rw [h];exact hput _
   ·rw [h];exact hput _
  rw [hstep]
  exact ih (by omega) fun k o h1 h2=>hq k o h1 (by omega)
theorem Dz {listed:Array Bool} {i j:Nat} (hj:j<listed.size):(listed.setIfInBounds j true).getD i false=if i=j then true else listed.getD i false:=by
 by_cases e:i=j
 ·subst e;simp [hj]
 ·rw [if_neg e];simp [Array.getElem?_setIfInBounds_ne (Ne.symm e)]
theorem Le.cut {ι:BN} {g:Nat→Nat} {x y:Nat} (h:x≤y):Le (cut ι x) g (cut ι y) g:=fun b ib hb=>by
 obtain ⟨h1,h2⟩:=CY hb
 exact ⟨Nat.le_refl _,ib,by rw [D8 (by omega)];exact h2,fun _=>rfl⟩
theorem Le.a5l {ι:BN} {g:Nat→Nat} {x:Nat}:Le (Am.cut ι x) g ι g:=fun b ib hb=>⟨Nat.le_refl _,ib,(CY hb).2,fun _=>rfl⟩
structure DI (ds:List Deferred) (P:Program) (G:List Nat) (n:Nat) (ops:Array Oper) (S:Nat→St) (ι0:BN) (w0:World) (listed:Array Bool) (ι:BN) (a:Act) (w:World) (jp jn:Nat):Prop where
 gV:listed.size=ops.size
 cl:Closed ops listed
 h1:jp≤jn
 h1':jn≤ops.size
 h2:∀ k,jp≤k→k<jn→D9 P ops k=false
 h3:jn=ops.size∨(D9 P ops jn=true∧listed.getD jn false=false)
 h4:∀ k,k<jp→touches P ops k=true→FP ops k=false→listed.getD k false=true
 gI:∀ j,jp≤j→j≤jn→DL P G (cut ι (S j).m.size) (S j).m w
 a1i:∀ b ib,ι b=some ib→b<(S jp).m.size∨∃ i,listed.getD i false=true∧jp≤i∧i<jn∧(S i).m.size≤b∧b<(S (i+1)).m.size
 tsz:a.tmps.size=n
 vJ:a.defers=ds
 v1:∀ (i:Nat) (o:Oper) (t:Nat),ops[i]?=some o→o.dst=some t→listed.getD i false=true→AA (cut ι (S (max (i+1) jp)).m.size) (S jn).m.gen (CB (S ops.size).t t) (a.tmps.getD t undef)
 v0:∀ t,(∀ (i:Nat) (o:Oper),ops[i]?=some o→o.dst=some t→listed.getD i false=false)→AA (cut ι (S 0).m.size) (S jn).m.gen (CB (S 0).t t) (a.tmps.getD t undef)
 le:Le ι0 (S 0).m.gen ι (S jn).m.gen
 back:∀ b ib,ι b=some ib→(∃ V6,ι0 b=some V6∧V6.blk=ib.blk)∨w0.heap.size≤ib.blk
 xC:∀ b ib,ι b=some ib→(∃ V6,ι0 b=some V6)∨(S 0).m.size≤b
 heap:w0.heap.size≤w.heap.size
 frame:∀ c,c<w0.heap.size→(∀ b ib,ι0 b=some ib→ib.blk=c→(S 0).m.ro b=true∨b<(S ops.size).m.low)→w.heap[c]?=w0.heap[c]?
 tape:w.tape=w0.tape
 os:w.os=w0.os
 output:w.output=w0.output
 UK:∀ b ib k,ι b=some ib→k<ops.size→listed.getD k false=false→¬ ((S k).m.size≤b∧b<(S (k+1)).m.size)
 ZM:∀ k,k<jp→FP ops k=true→listed.getD k false=false→∀ b,(S k).m.size≤b→b<(S (k+1)).m.size→(S jp).m.get b=(S (k+1)).m.get b
theorem P5 {n:Nat} {listed:Array Bool} {ι ι':BN} {g g':Nat→Nat} {a:Act} {j:Nat} {o:Oper} {v':Value} {jp jp':Nat} (hcs:Df call) (hjj:jp≤jp') (hjs:jp'≤ops.size) (ht:Trace P call ops S) (hdr:Gn ops=true) (ho:ops[j]?=some o)
 (c2a:listed.size=ops.size) (FZ:listed.getD j false=false) (b6p:a.tmps.size=n) (hdn:∀ d,o.dst=some d→d<n)
 (hle:∀ x,Le (cut ι x) g (cut ι' x) g')
 (hv:∀ d,o.dst=some d→AA (cut ι' (S (max (j+1) jp')).m.size) g' (CB (S (j+1)).t d) v')
 (v1:∀ (i:Nat) (o:Oper) (t:Nat),ops[i]?=some o→o.dst=some t→listed.getD i false=true→AA (cut ι (S (max (i+1) jp)).m.size) g (CB (S ops.size).t t) (a.tmps.getD t undef))
 (v0:∀ t,(∀ (i:Nat) (o:Oper),ops[i]?=some o→o.dst=some t→listed.getD i false=false)→AA (cut ι (S 0).m.size) g (CB (S 0).t t) (a.tmps.getD t undef)) :
 (∀ (i:Nat) (o':Oper) (t:Nat),ops[i]?=some o'→o'.dst=some t→(listed.setIfInBounds j true).getD i false=true→AA (cut ι' (S (max (i+1) jp')).m.size) g' (CB (S ops.size).t t) ((a.put o.dst v').tmps.getD t undef)) ∧
 (∀ t,(∀ (i:Nat) (o':Oper),ops[i]?=some o'→o'.dst=some t→(listed.setIfInBounds j true).getD i false=false)→AA (cut ι' (S 0).m.size) g' (CB (S 0).t t) ((a.put o.dst v').tmps.getD t undef)):=by
 have hjlt:j<ops.size:=(Array.getElem?_eq_some_iff.1 ho).1
 have hj':j<listed.size:=by omega
 obtain ⟨_,hdist⟩:=Gh hdr
 have hother:∀ t,o.dst≠some t→(a.put o.dst v').tmps.getD t undef=a.tmps.getD t undef:=fun t ht'=>by
  cases hd:o.dst with
  |none=>rfl
  |some d =>
   have:d≠t:=fun e=>ht' (by rw [hd,e])
   simp [Act.put,Array.getElem?_setIfInBounds_ne this]
 refine ⟨fun i o' t hi hd hl=>?_,fun t hall=>?_⟩
 ·by_cases e:i=j
  ·subst e
   rw [ho] at hi;cases hi
   have hself:(a.put o.dst v').tmps.getD t undef=v':=by
    rw [hd]
    have:=hdn t hd
    simp [Act.put,b6p,this]
   rw [hself]
   have h1:CB (S ops.size).t t=CB (S (i+1)).t t:=ht.tmps t (i+1) ops.size (by omega) (Nat.le_refl _) fun k ok hk _ hok=>(hdist i o t ho hd k ok hok (by omega)).1
   rw [h1]
   exact hv t hd
  ·rw [Dz hj',if_neg e] at hl
   rw [hother t (hdist i o' t hi hd j o ho (Ne.symm e)).1]
   have hil:=(Array.getElem?_eq_some_iff.1 hi).1
   exact ((v1 i o' t hi hd hl).mono (hle _)).mono (Le.cut (ht.Es hcs (max (i+1) jp) (max (i+1) jp') (by omega) (by omega)).size)
 ·have hne:o.dst≠some t:=fun hd=>by
   have:=hall j o ho hd
   rw [Dz hj',if_pos rfl] at this
   cases this
  rw [hother t hne]
  refine (v0 t fun i o' hi hd=>?_).mono (hle _)
  have:=hall i o' hi hd
  rw [Dz hj'] at this
  split at this
  ·cases this
  ·exact this
theorem XM {n:Nat} {listed:Array Bool} {ι ι0:BN} {a:Act} {w w0:World} {jp jn j:Nat} {o:Oper} (ht:Trace P call ops S) (hc:Df call) (hdr:Gn ops=true) (ho:ops[j]?=some o)
 (hd:DI ds P G n ops S ι0 w0 listed ι a w jp jn) (FZ:listed.getD j false=false) (hall:∀ e∈o.after,Region.binds .any e=true→listed.getD e.on false=true) {t:Nat} (hl:t∈o.looksAt ops) :
 AA (cut ι (S (max j jp)).m.size) (S jn).m.gen (CB (S j).t t) (a.tmps.getD t undef):=by
 have hjlt:j<ops.size:=(Array.getElem?_eq_some_iff.1 ho).1
 obtain ⟨hback,hdist⟩:=Gh hdr
 have c0n:=hd.h1
 have c1b:=hd.h1'
 by_cases hw:∃ (i:Nat) (oi:Oper),ops[i]?=some oi∧oi.dst=some t
 ·obtain ⟨i,oi,hi,hdi⟩:=hw
  have hilt:i<ops.size:=(Array.getElem?_eq_some_iff.1 hi).1
  have uniq:∀ (k:Nat) (ok:Oper),ops[k]?=some ok→ok.dst=some t→k=i:=fun k ok hk hdk=>by
   by_cases e:k=i
   ·exact e
   ·exact absurd hdk (hdist i oi t hi hdi k ok hk e).1
  have notYet:listed.getD i false=false→j≤i→AA (cut ι (S (max j jp)).m.size) (S jn).m.gen (CB (S j).t t) (a.tmps.getD t undef):=fun hu hji=>by
   have h0:=hd.v0 t fun k ok hk hdk=>by rw [uniq k ok hk hdk];exact hu
   have e1:CB (S j).t t=CB (S 0).t t:=ht.tmps t 0 j (Nat.zero_le _) (by omega) fun k ok _ hkj hok hdk=>by have:=uniq k ok hok hdk;omega
   rw [e1]
   exact h0.mono (Le.cut (ht.Es hc 0 (max j jp) (Nat.zero_le _) (by omega)).size)
  rcases Nat.lt_trichotomy i j with hlt|heq|hgt
  ·have hb:=((hdist i oi t hi hdi j o ho (by omega)).2 hl).1 hlt
   have hli:=D5 hd.cl hback j o i ho hall hb
   have h1:=hd.v1 i oi t hi hdi hli
   have e1:CB (S ops.size).t t=CB (S j).t t:=ht.tmps t j ops.size (by omega) (Nat.le_refl _) fun k ok hk _ hok hdk=>by have:=uniq k ok hok hdk;omega
   rw [← e1]
   exact h1.mono (Le.cut (ht.Es hc (max (i+1) jp) (max j jp) (by omega) (by omega)).size)
  ·subst heq
   exact notYet FZ (Nat.le_refl _)
  ·have hb:=((hdist i oi t hi hdi j o ho (by omega)).2 hl).2 hgt
   refine notYet ?_ (by omega)
   cases hli:listed.getD i false with
   |false=>rfl
   |true =>
    have:=D5 hd.cl hback i oi j hi (hd.cl i oi hi hli) hb
    rw [FZ] at this;cases this
 ·have h0:=hd.v0 t fun i oi hi hdi=>absurd ⟨i,oi,hi,hdi⟩ hw
  have e1:CB (S j).t t=CB (S 0).t t:=ht.tmps t 0 j (Nat.zero_le _) (by omega) fun k ok _ _ hok hdk=>hw ⟨k,ok,hok,hdk⟩
  rw [e1]
  exact h0.mono (Le.cut (ht.Es hc 0 (max j jp) (Nat.zero_le _) (by omega)).size)
end
end
section
variable {P:Program} {G:List Nat} {ds:List Deferred} {rf:Option Nat} {nn:Nat}
theorem pJ {op:BinOp} {t:TypeId} {xo yo:Operand} {x y u:Value} (h:NY P op t xo yo x y=some u):plain u=true:=by
 unfold NY at h
 have hnil:∀ {b:Bool},I9 op b=some u→plain u=true:=fun {b} h=>by
  cases op<;>simp only [I9,reduceCtorEq,Option.some.injEq] at h<;>subst h<;>rfl
 split at h
 ·split at h
  ·exact (Ns (P:=P) (t:=t) (k':=.i64) (.inl rfl) h default).2
  ·exact (Ns (P:=P) (t:=t) (k':=.i64) (.inr rfl) h default).2
  ·split at h
   ·exact (lX (P:=P) (t:=t) h default).2
   ·cases h
 ·split at h
  ·exact hnil h
  ·cases h
 ·split at h
  ·exact hnil h
  ·cases h
 ·split at h
  ·exact hnil h
  ·cases h
 ·split at h
  ·exact hnil h
  ·cases h
 ·split at h
  ·exact (Fa h).2
  ·cases h
theorem gG {ι:BN} {g:Nat→Nat} {m m':Mem} {ρ ρ':Operand→Value} {o:Oper} {v:Value} {t:TypeId} {len:Nat} {ps:Array (Nat×Operand)} (ho:o.op=.buildSlice t len ps) (hq:DF P o.op=true) (hρ:∀ x∈o.op.operands,AA ι g (ρ x) (ρ' x))
 (h:EX P ρ o m=some (v,m')):∃ x,∀ w,(execOp ρ' o).run P w=.ok (.value (.slice (some ⟨w.heap.size,0,none⟩) 0 0)) { w with heap:=w.heap.push x }∧AA ι g v (.slice (some ⟨w.heap.size,0,none⟩) 0 0):=by
 obtain ⟨dst,op,ty,pos,after,guard⟩:=o
 simp only at ho hρ hq
 subst ho
 have hl:len=0:=by simpa [DF] using hq
 subst hl
 simp only [EX,if_true] at h
 split at h
 ·rename_i e hu
  split at h
  ·rename_i i z hi hz
   split at h
   ·rename_i hc
    split at h
    ·rename_i cs hcs
     split at h
     ·cases h
      obtain ⟨x,hrun⟩:=Ym (ρ':=ρ') (dst:=dst) (ty:=ty) (pos:=pos) (after:=after) (guard:=guard) (ι:=ι) (g:=g) hu hi hz hc.2.1 hc.2.2 hρ hcs
      exact ⟨x,fun w=>⟨hrun w,.mM 0 0 0 _⟩⟩
     ·cases h
    ·cases h
   ·cases h
  ·cases h
 ·cases h
theorem gY {ι:BN} {g:Nat→Nat} {m m':Mem} {ρ ρ':Operand→Value} {o:Oper} {v:Value} (hq:DF P o.op=true) (hns:∀ t len ps,o.op≠.buildSlice t len ps) (hρ:∀ x∈o.op.operands,AA ι g (ρ x) (ρ' x))
 (h:EX P ρ o m=some (v,m')):∃ v',(∀ w,(execOp ρ' o).run P w=.ok (.value v') w)∧AA ι g v v':=by
 obtain ⟨dst,op,ty,pos,after,guard⟩:=o
 simp only at hρ hq hns
 have same:∀ {s:Sem Value} {u v':Value},execOp ρ' ⟨dst,op,ty,pos,after,guard⟩=(do pure (.value (← s)):Sem Next)→(∀ w,s.run P w=.ok v' w)→AA ι g u v'→(u,m)=(v,m') →
  ∃ v',(∀ w,(execOp ρ' ⟨dst,op,ty,pos,after,guard⟩).run P w=.ok (.value v') w)∧AA ι g v v':=fun {s u v'} he hr hv hm=>by
  cases hm
  exact ⟨v',fun w=>by rw [he];exact FU (hr w),hv⟩
 cases op<;>simp only [DF,Bool.false_eq_true] at hq<;>simp only [EX,reduceCtorEq] at h
 case buildSlice t len ps=>exact (hns t len ps rfl).elim
 case move x =>
  cases h
  exact ⟨ρ' x,fun w=>rfl,hρ x (by simp [Op.operands])⟩
 case assign x =>
  cases h
  exact ⟨ρ' x,fun w=>rfl,hρ x (by simp [Op.operands])⟩
 case pick c a b =>
  have hc:=hρ c (by simp [Op.operands])
  split at h
  ·rename_i t hcc
   cases h
   rw [hcc] at hc
   have e:ρ' c=.bool t:=by generalize ρ' c=u at hc;cases hc;rfl
   refine ⟨(if t then ρ' a else ρ' b),fun w=>?_,?_⟩
   ·simp only [execOp,e,asBool,Sem.run_bind,Sem.run_pure,Result.andThen_ok]
   ·cases t
    ·exact hρ b (by simp [Op.operands])
    ·exact hρ a (by simp [Op.operands])
  ·cases h
 case binOp op t x y yt =>
  rw [Option.map_eq_some_iff] at h
  obtain ⟨u,hu,he⟩:=h
  have hx:=hρ x (by simp [Op.operands])
  have hy:=hρ y (by simp [Op.operands])
  have hall:∃ v',(∀ w,(do eqGuard op t x y (ρ' x) (ρ' y);binOp op t (ρ' x) (ρ' y):Sem Value).run P w=.ok v' w)∧AA ι g u v':=by
   obtain ⟨v',hr,hv⟩:=QS hx hy hu default
   refine ⟨v',fun w=>?_,hv⟩
   obtain ⟨v2,hr2,hv2⟩:=QS hx hy hu w
   have hp:plain u=true:=pJ hu
   rw [hv.Cc hp]
   rw [hv2.Cc hp] at hr2
   exact hr2
  obtain ⟨v',hr,hv⟩:=hall
  exact same rfl hr hv he
 case build t ps =>
  split at h
  ·rename_i z hz
   rw [Option.map_eq_some_iff] at h
   obtain ⟨u,hu,he⟩:=h
   have hp:Rk ι g (ps.map fun (i,x)=>(i,ρ x)).toList (ps.map fun (i,x)=>(i,ρ' x)).toList:=by
    rw [Array.toList_map,Array.toList_map]
    exact Rk.map fun x hx=>hρ x (by simp only [Op.operands];simpa using hx)
   obtain ⟨v',hr,hv⟩:=UW hp (fun z' hz'=>by
    obtain ⟨i,zv,hi,hz1,rfl,hz3⟩:=BP hz
    unfold zeroOf at hz'
    rw [hi] at hz'
    simp only [Option.bind_some] at hz'
    rw [hz1] at hz'
    cases hz'
    exact hz3) hu
   exact same rfl (fun w=>DZ hr w) hv he
  ·cases h
 case nilCheck x =>
  have hx:=hρ x (by simp [Op.operands])
  split at h
  ·rename_i ad had
   rw [had] at hx
   have hsh:∃ a',ρ' x=.pointer (some a')∧NV ι g ad a':=by generalize ρ' x=u at hx;cases hx;exact ⟨_,rfl,by assumption⟩
   obtain ⟨a',e1,har⟩:=hsh
   cases h
   exact ⟨.pointer (some a'),fun w=>by simp only [execOp,e1];rfl,.ptr _ _ har⟩
  ·cases h
 case unOp op t x =>
  split at h
  ·rename_i hp
   rw [Option.map_eq_some_iff] at h
   obtain ⟨u,hu,he⟩:=h
   have hx:=(hρ x (by simp [Op.operands])).Cc hp
   obtain ⟨h1,h2⟩:=Fa hu
   exact same (s:=Op.unary op (ρ' x)) rfl (fun w=>by rw [hx];exact DZ h1 w) (AA.plain h2) he
  ·cases h
 case convert s d x =>
  have hq':(Jf P s||Jf P d)=false:=by simpa using hq
  rw [hq'] at h
  simp only [Bool.false_eq_true,if_false] at h
  split at h
  ·rename_i hp
   rw [Option.map_eq_some_iff] at h
   obtain ⟨u,hu,he⟩:=h
   have hx:=(hρ x (by simp [Op.operands])).Cc hp
   obtain ⟨h1,h2⟩:=Fa hu
   exact same (s:=Go.convert s d (ρ' x)) rfl (fun w=>by rw [hx];exact DZ h1 w) (AA.plain h2) he
  ·cases h
 case makeFunc fn fs cs =>
  cases fn<;>simp only [reduceCtorEq] at h
  rename_i f
  cases h
  have h1:=BI.QK (ι:=ι) (g:=g) (l:=fs.toList) (fun x hx=>hρ x (by simp [Op.operands];exact .inl (by simpa using hx)))
  have h2:=BI.QK (ι:=ι) (g:=g) (l:=cs.toList) (fun x hx=>hρ x (by simp [Op.operands];exact .inr (by simpa using hx)))
  refine ⟨.func (.func f) (fs.map ρ') (cs.map ρ'),fun w=>rfl,?_⟩
  have e:∀ (r:Operand→Value) (a:Array Operand),a.map r=⟨a.toList.map r⟩:=fun r a=>by apply Array.ext';simp
  rw [e ρ fs,e ρ cs,e ρ' fs,e ρ' cs]
  exact .fn f _ _ _ _ h1.1 h1.2 h2.1 h2.2
 case fieldAddr s x f =>
  have hx:=hρ x (by simp [Op.operands])
  split at h
  ·rename_i fs ad hu had
   rw [had] at hx
   have hsh:∃ a',ρ' x=.pointer (some a')∧NV ι g ad a':=by generalize ρ' x=u at hx;cases hx;exact ⟨_,rfl,by assumption⟩
   obtain ⟨a',e1,har⟩:=hsh
   split at h
   ·rename_i fd hfd
    split at h
    ·rename_i i hi
     split at h
     ·cases h
     ·rename_i hsz
      refine same (s:=Instr.fieldAt s (ρ' x) f) (v':=.pointer (some (a'.add fd.offset))) rfl (fun w=>?_) (.ptr _ _ ?_) (Option.some.inj h)
      ·simp only [Instr.fieldAt,e1,Instr.sureAddr,Sem.run_bind,run_underlying hu,Sem.run_pure,Result.andThen_ok,hfd,fieldPlace,run_sizeOf' hi,if_neg hsz]
      ·obtain ⟨ib,hb,hle,hcur⟩:=har
       refine ⟨ib,hb,hle,fun e=>?_⟩
       rw [hcur e,addr_add]
       simp only [Addr.mk.injEq,true_and,and_true]
       omega
    ·cases h
   ·cases h
  ·cases h
 case field t x f =>
  rw [Option.map_eq_some_iff] at h
  obtain ⟨u,hu,he⟩:=h
  obtain ⟨v',hr,hv⟩:=Vj (hρ x (by simp [Op.operands])) hu
  exact same rfl (fun w=>DZ hr w) hv he
 case indexAddr t x ix =>
  have hx:=hρ x (by simp [Op.operands])
  have hix:=hρ ix (by simp [Op.operands])
  split at h
  ·rename_i e b off len g1 k i hu hxx pq
   rw [hxx] at hx;rw [pq] at hix
   have e2:ρ' ix=.int k i:=by generalize ρ' ix=u at hix;cases hix;rfl
   split at h
   ·rename_i inf hi
    split at h
    ·rename_i hb
     have hsh:∃ a' cap',ρ' x=.slice (some a') len cap'∧a2v ι g b off len g1 a' cap':=by generalize ρ' x=u at hx;cases hx;exact ⟨_,_,rfl,by assumption⟩
     obtain ⟨a',cap',e1,hsr⟩:=hsh
     refine same (s:=Instr.indexAt t (ρ' x) (ρ' ix)) (v':=.pointer (some (a'.add (i.toNat*inf.size)))) rfl (fun w=>?_) (.ptr _ _ (IQ hsr (fun _=>by omega) _)) (Option.some.inj h)
     simp only [Instr.indexAt,e1,e2,asIntOf,Sem.run_bind,run_underlying hu,Sem.run_pure,Result.andThen_ok,run_sizeOf' hi,if_pos hb]
    ·cases h
   ·cases h
  ·rename_i n e ad k i hu hxx pq
   rw [hxx] at hx;rw [pq] at hix
   have e2:ρ' ix=.int k i:=by generalize ρ' ix=u at hix;cases hix;rfl
   have hsh:∃ a',ρ' x=.pointer (some a')∧NV ι g ad a':=by generalize ρ' x=u at hx;cases hx;exact ⟨_,rfl,by assumption⟩
   obtain ⟨a',e1,har⟩:=hsh
   split at h
   ·rename_i inf hi
    split at h
    ·rename_i hb
     refine same (s:=Instr.indexAt t (ρ' x) (ρ' ix)) (v':=.pointer (some (a'.add (i.toNat*inf.size)))) rfl (fun w=>?_) (.ptr _ _ ?_) (Option.some.inj h)
     ·simp only [Instr.indexAt,e1,e2,asIntOf,Instr.sureAddr,Sem.run_bind,run_underlying hu,Sem.run_pure,Result.andThen_ok,run_sizeOf' hi,if_pos hb]
     ·obtain ⟨ib,hbb,hle,hcur⟩:=har
      refine ⟨ib,hbb,hle,fun e=>?_⟩
      rw [hcur e,addr_add]
      simp only [Addr.mk.injEq,true_and,and_true]
      omega
    ·cases h
   ·cases h
  ·cases h
 case index t x ix =>
  split at h
  ·rename_i hp
   rw [Option.map_eq_some_iff] at h
   obtain ⟨u,hu,he⟩:=h
   have hix:=(hρ ix (by simp [Op.operands])).Cc hp
   obtain ⟨v',hr,hv⟩:=Ve (hρ x (by simp [Op.operands])) hu
   exact same (s:=Instr.index t (ρ' x) (ρ' ix)) rfl (fun w=>by rw [hix];exact DZ hr w) hv he
  ·cases h
 case extract t i =>
  rw [Option.map_eq_some_iff] at h
  obtain ⟨u,hu,he⟩:=h
  obtain ⟨v',hr,hv⟩:=Qv (hρ t (by simp [Op.operands])) hu
  exact same rfl (fun w=>DZ hr w) hv he
 case call c =>
  obtain ⟨callee,args,aT⟩:=c
  cases callee<;>simp only [reduceCtorEq,Bool.false_eq_true] at hq h
  rename_i b
  have hargs:∀ x∈args,AA ι g (ρ x) (ρ' x):=fun x hx=>hρ x (by simp [Op.operands,Call.operands,hx])
  cases b<;>simp only [reduceCtorEq,Bool.false_eq_true] at hq h
  case cap =>
   rw [Option.map_eq_some_iff] at h
   obtain ⟨u,hu,he⟩:=h
   cases he
   have hp:v=.int .i64 0:=by
    unfold a0t at hu
    repeat' split at hu
    all_goals first|(cases hu;rfl)|cases hu
   subst hp
   refine ⟨.int .i64 0,fun w=>?_,.int _ _⟩
   rw [DU]
   refine FU ?_
   have key:∀ (ι:BN) (g:Nat→Nat),NS ι g (args.map ρ) (args.map ρ')→(Builtin.cap_ aT ty (args.map ρ')).run P w=.ok (.int .i64 0) w:=fun ι g har=>by
    unfold a0t at hu
    split at hu
    ·rename_i t q0
     split at hu
     ·rename_i e huu
      split at hu
      ·rename_i q
       obtain ⟨x',h1,h2⟩:=har 0 _ q
       cases h2
       simp [Builtin.cap_,q0,h1,run_underlying huu,goInt]
      ·rename_i b o s q
       obtain ⟨x',h1,h2⟩:=har 0 _ q
       cases h2
       simp [Builtin.cap_,q0,h1,run_underlying huu,goInt]
      ·cases hu
     ·cases hu
    ·cases hu
   exact key ι g (NS.map hargs)
  case len =>
   rw [Option.map_eq_some_iff] at h
   obtain ⟨u,hu,he⟩:=h
   cases he
   obtain ⟨h1,h2⟩:=wK ty hq (NS.map hargs) hu
   exact ⟨_,fun w=>by rw [DU];exact FU (h1 w),h2⟩
  case max =>
   split at h
   ·rename_i hp
    rw [Option.map_eq_some_iff] at h
    obtain ⟨u,hu,he⟩:=h
    cases he
    obtain ⟨h1,h2⟩:=Fa hu
    exact ⟨_,fun w=>by rw [DU,JF hargs hp];exact FU (DZ h1 w),AA.plain h2⟩
   ·cases h
  case min =>
   split at h
   ·rename_i hp
    rw [Option.map_eq_some_iff] at h
    obtain ⟨u,hu,he⟩:=h
    cases he
    obtain ⟨h1,h2⟩:=Fa hu
    exact ⟨_,fun w=>by rw [DU,JF hargs hp];exact FU (DZ h1 w),AA.plain h2⟩
   ·cases h
end
section
variable {P:Program} {G:List Nat} {call:Ep} {ops:Array Oper} {S:Nat→St} {ds:List Deferred} {rf:Option Nat} {nn:Nat}
theorem DI.Xh {n:Nat} {ι ι0:BN} {a:Act} {w w0:World} {listed:Array Bool} {jp jn:Nat} (ht:Trace P call ops S) (hcs:Df call) (hd:DI ds P G n ops S ι0 w0 listed ι a w jp jn) {b:Nat} {ib:IB}
 (hb:ι b=some ib):b<(S jn).m.size:=by
 rcases hd.a1i b ib hb with h|⟨i,_,h1,h2,_,h3⟩
 ·exact Nat.lt_of_lt_of_le h (ht.Es hcs jp jn hd.h1 hd.h1').size
 ·exact Nat.lt_of_lt_of_le h3 (ht.Es hcs (i+1) jn h2 hd.h1').size
theorem MN {listed:Array Bool} {j:Nat} {o:Oper} (hcl:Closed ops listed) (hj:j<listed.size) (ho:ops[j]?=some o) (hall:∀ e∈o.after,Region.binds .any e=true→listed.getD e.on false=true) :
 Closed ops (listed.setIfInBounds j true):=by
 intro i oi hi hl e he hb
 rw [Dz hj]
 split
 ·rfl
 ·rw [Dz hj] at hl
  split at hl
  ·rename_i h1 h2
   subst h2
   rw [ho] at hi;cases hi
   exact hall e he hb
  ·exact hcl i oi hi hl e he hb
theorem Fe {listed:Array Bool} {i j:Nat} (hj:j<listed.size) (h:listed.getD i false=true):(listed.setIfInBounds j true).getD i false=true:=by
 rw [Dz hj];split
 ·rfl
 ·exact h
theorem Eo {listed:Array Bool} {i j:Nat} (hj:j<listed.size) (h:(listed.setIfInBounds j true).getD i false=false):listed.getD i false=false:=by
 cases hl:listed.getD i false with
 |false=>rfl
 |true=>rw [Fe hj hl] at h;cases h
theorem KP {listed:Array Bool} {i j:Nat} (hj:j<listed.size) (h:(listed.setIfInBounds j true).getD i false=false):i≠j:=fun e=>by
 rw [Dz hj,if_pos e] at h;cases h
theorem Trace.apart (ht:Trace P call ops S) (hcs:Df call) {i k b:Nat} (hi:i<ops.size) (hk:k<ops.size) (hne:i≠k) (h1:(S i).m.size≤b) (h2:b<(S (i+1)).m.size):¬ ((S k).m.size≤b∧b<(S (k+1)).m.size):=fun ⟨h3,h4⟩=>by
 rcases Nat.lt_or_ge i k with h|h
 ·have:=(ht.Es hcs (i+1) k (by omega) (by omega)).size;omega
 ·have:=(ht.Es hcs (k+1) i (by omega) (by omega)).size;omega
theorem gq {n:Nat} {ι ι0:BN} {a:Act} {w w0:World} {listed:Array Bool} {jp jn j:Nat} {o:Oper} (ht:Trace P call ops S) (hcs:Df call) (hdr:Gn ops=true)
 (hd:DI ds P G n ops S ι0 w0 listed ι a w jp jn) (hG:∀ k,k∈G→k<(S 0).m.size) (ho:ops[j]?=some o) (FZ:listed.getD j false=false)
 (hall:∀ e∈o.after,Region.binds .any e=true→listed.getD e.on false=true) (hop:∀ x∈o.op.operands,FI G x=true) :
 ∀ x∈o.op.operands,AA (cut ι (S (max j jp)).m.size) (S jn).m.gen (ev (S j).t x) (a.eval x):=by
 intro x hx
 have hjlt:j<ops.size:=(Array.getElem?_eq_some_iff.1 ho).1
 cases x with
 |tmp t =>
  refine XM ht hcs hdr ho hd FZ hall (t:=t) ?_
  unfold Oper.looksAt
  refine List.mem_append_left _ ?_
  rw [List.mem_filterMap]
  exact ⟨.tmp t,by simpa using hx,rfl⟩
 |const v=>exact AA.plain (hop _ hx)
 |global k =>
  have hk:k∈G:=by simpa [FI] using hop _ hx
  obtain ⟨ib,h1,h2,h3,h4,h5⟩:=(hd.gI jn hd.h1 (Nat.le_refl _)).glob k hk
  have hlt:=Nat.lt_of_lt_of_le (hG k hk) (ht.Es hcs 0 (max j jp) (Nat.zero_le _) (by have:=hd.h1;have:=hd.h1';omega)).size
  exact .ptr _ _ ⟨ib,by rw [D8 hlt];exact (CY h1).2,Nat.zero_le _,fun _=>by simp [h2,h3]⟩
 |func f=>exact .fn f [] [] [] [] rfl (fun i hi=>absurd hi (by simp)) rfl (fun i hi=>absurd hi (by simp))
theorem wL {n:Nat} {ι ι0:BN} {a:Act} {w w0:World} {listed:Array Bool} {jp jn j:Nat} {o:Oper} (ht:Trace P call ops S) (hcs:Df call) (hdr:Gn ops=true)
 (hd:DI ds P G n ops S ι0 w0 listed ι a w jp jn) (ho:ops[j]?=some o) (FZ:listed.getD j false=false)
 (hall:∀ e∈o.after,Region.binds .any e=true→listed.getD e.on false=true):Region.wanted o (yielded ops a.tmps)=Region.wanted o (D6 ops (S j).t):=by
 unfold Region.wanted
 cases hg:o.guard with
 |none=>rfl
 |some p =>
  obtain ⟨k,b⟩:=p
  have key:yielded ops a.tmps k=D6 ops (S j).t k:=by
   unfold yielded D6
   cases hdk:(ops[k]?).bind (·.dst) with
   |none=>rfl
   |some d =>
    simp only [Option.bind_some]
    have hv:=XM ht hcs hdr ho hd FZ hall (t:=d) (by
     unfold Oper.looksAt
     refine List.mem_append_right _ ?_
     rw [hg]
     simp only [hdk,Option.toList_some,List.mem_singleton])
    cases ha:a.tmps[d]? with
    |none =>
     have e:a.tmps.getD d undef=undef:=by simp [ha]
     rw [e] at hv
     have:∀ b,CB (S j).t d≠.bool b:=fun b hb=>by
      have:=(hv.Jk b).1 hb
      cases this
     split
     ·rename_i h;cases h
     ·split
      ·rename_i b hb;exact absurd hb (this b)
      ·rfl
    |some u =>
     have e:a.tmps.getD d undef=u:=by simp [ha]
     rw [e] at hv
     split
     ·rename_i b hb
      cases hb
      have:=(hv.Jk b).2 rfl
      rw [this]
     ·rename_i hne
      split
      ·rename_i b hb
       have:=(hv.Jk b).1 hb
       exact absurd (by rw [this]) (hne b)
      ·rfl
  simp only [key]
theorem DI.still {n:Nat} {ι ι0:BN} {a:Act} {w w0:World} {listed:Array Bool} {jp jn j:Nat} {o:Oper} {v':Value} (hcs:Df call) (ht:Trace P call ops S) (hdr:Gn ops=true)
 (hd:DI ds P G n ops S ι0 w0 listed ι a w jp jn) (ho:ops[j]?=some o) (FZ:listed.getD j false=false) (hall:∀ e∈o.after,Region.binds .any e=true→listed.getD e.on false=true)
 (hdn:∀ d,o.dst=some d→d<n) (hnb:D9 P ops j=false)
 (hv:∀ d,o.dst=some d→AA (cut ι (S (max (j+1) jp)).m.size) (S jn).m.gen (CB (S (j+1)).t d) v') :
 DI ds P G n ops S ι0 w0 (listed.setIfInBounds j true) ι (a.put o.dst v') w jp jn:=by
 have hjlt:j<ops.size:=(Array.getElem?_eq_some_iff.1 ho).1
 have hj':j<listed.size:=by rw [hd.gV];exact hjlt
 obtain ⟨v1,v0⟩:=P5 hcs (Nat.le_refl jp) (Nat.le_trans hd.h1 hd.h1') ht hdr ho hd.gV FZ hd.tsz hdn (fun x=>Le.refl _ _) hv hd.v1 hd.v0
 refine ⟨by simpa using hd.gV,MN hd.cl hj' ho hall,hd.h1,hd.h1',hd.h2,?_,fun k hk htk hnk=>Fe hj' (hd.h4 k hk htk hnk),hd.gI,?_,?_,?_,v1,v0,hd.le,hd.back,hd.xC,hd.heap,hd.frame,hd.tape,hd.os,hd.output,
  fun b ib k hb hk hl=>hd.UK b ib k hb hk (Eo hj' hl),fun k hk hn hl=>hd.ZM k hk hn (Eo hj' hl)⟩
 ·rcases hd.h3 with h|⟨h1,h2⟩
  ·exact .inl h
  ·refine .inr ⟨h1,?_⟩
   rw [Dz hj',if_neg (fun e=>by subst e;rw [h1] at hnb;cases hnb)]
   exact h2
 ·intro b ib hb
  rcases hd.a1i b ib hb with h|⟨i,h1,h2⟩
  ·exact .inl h
  ·exact .inr ⟨i,Fe hj' h1,h2⟩
 ·cases hdd:o.dst<;>simp [Act.put,hd.tsz]
 ·cases hdd:o.dst<;>simp [Act.put,hd.vJ]
theorem DI.quiet {n:Nat} {ι ι0 ι1:BN} {a:Act} {w w0 w':World} {listed:Array Bool} {jp jn j:Nat} {o:Oper} {v v':Value} {m':Mem} {y:Nat} (ht:Trace P call ops S) (hcs:Df call) (hdr:Gn ops=true)
 (hd:DI ds P G n ops S ι0 w0 listed ι a w jp jn) (ho:ops[j]?=some o) (FZ:listed.getD j false=false) (hall:∀ e∈o.after,Region.binds .any e=true→listed.getD e.on false=true)
 (hdn:∀ d,o.dst=some d→d<n) (hjp:jp≤j) (hjn:j<jn) (hm':(S (j+1)).m=EF m' y) (hlow:(S j).m.size≤m'.low) (hstep:AV (EF (S j).m (S j).m.size) m')
 (oN:∀ d,o.dst=some d→CB (S (j+1)).t d=v)
 (hext:Ext (cut ι (S j).m.size) (EF (S j).m (S j).m.size) w ι1 m' w') (Dp:DL P G ι1 m' w') (NZ:AA ι1 m'.gen v v') :
 ∃ ι',DI ds P G n ops S ι0 w0 (listed.setIfInBounds j true) ι' (a.put o.dst v') w' jp jn:=by
 have hjlt:j<ops.size:=(Array.getElem?_eq_some_iff.1 ho).1
 have hj':j<listed.size:=by rw [hd.gV];exact hjlt
 have hsz1:(S (j+1)).m.size=m'.size:=by rw [hm'];rfl
 have bg:∀ b,(S (j+1)).m.get b=m'.get b:=fun b=>by rw [hm'];rfl
 have hgj:∀ b,b<(S j).m.size→m'.get b=(S j).m.get b:=fun b hb=>hstep.keep b hb (Nat.lt_of_lt_of_le hb hlow)
 have b8u:(S j).m.size≤(S (j+1)).m.size:=by rw [hsz1];exact hstep.size
 let ι':BN:=fun b=>if (S j).m.size≤b∧b<(S (j+1)).m.size then ι1 b else ι b
 have hnew:∀ b,(S j).m.size≤b→b<(S (j+1)).m.size→ι' b=ι1 b:=fun b h1 h2=>if_pos ⟨h1,h2⟩
 have hold:∀ b,¬ ((S j).m.size≤b∧b<(S (j+1)).m.size)→ι' b=ι b:=fun b h=>if_neg h
 have f1:∀ b,b<(S j).m.size→ι1 b=ι b:=fun b hb=>by
  cases hib:ι b with
  |some ib =>
   have hc:cut ι (S j).m.size b=some ib:=by rw [D8 hb];exact hib
   obtain ⟨_,ib',h2,h3⟩:=hext.le b ib hc
   have hg:m'.gen b=(EF (S j).m (S j).m.size).gen b:=CS (hgj b hb)
   rw [h2,h3 hg]
  |none =>
   cases hi1:ι1 b with
   |none=>rfl
   |some ib =>
    rcases hext.dom b ib hi1 with ⟨V6,h⟩|h
    ·have:=(CY h).2;rw [hib] at this;cases this
    ·exact absurd hb (by show ¬ _;exact Nat.not_lt.2 h)
 have f2:∀ b,(S j).m.size≤b→b<(S (j+1)).m.size→ι b=none:=fun b h1 h2=>by
  cases hib:ι b with
  |none=>rfl
  |some ib=>exact absurd ⟨h1,h2⟩ (hd.UK b ib j hib hjlt FZ)
 have UL:∀ b ib,ι b=some ib→ι' b=some ib:=fun b ib hb=>by
  rw [hold b (fun h=>by have:=f2 b h.1 h.2;rw [hb] at this;cases this)];exact hb
 have f3:∀ b,cut ι' (S (j+1)).m.size b=ι1 b:=fun b=>by
  by_cases h1:b<(S (j+1)).m.size
  ·rw [D8 h1]
   by_cases h2:(S j).m.size≤b
   ·exact hnew b h2 h1
   ·rw [hold b (fun h=>h2 h.1),f1 b (by omega)]
  ·have:cut ι' (S (j+1)).m.size b=none:=if_neg h1
   rw [this]
   cases hi1:ι1 b with
   |none=>rfl
   |some ib=>exact absurd (Dp.dom b ib hi1).1 (by rw [← hsz1];exact h1)
 have f5:∀ c,c<w.heap.size→w'.heap[c]?=w.heap[c]?:=fun c hc=>hext.frame c hc fun b ib hb _=>.inr (Nat.lt_of_lt_of_le (CY hb).1 hlow)
 have b3p:∀ b,b<(S (j+1)).m.size→(S jn).m.gen b=m'.gen b:=fun b hb=>by
  have:=ht.Ii hcs (j+1) jn (by omega) hd.h1' (fun k h1 h2=>hd.h2 k (by omega) h2) b hb
  rw [CS this];exact CS (bg b)
 have hle1:∀ i',j+1≤i'→i'≤jn→Le ι1 m'.gen (cut ι' (S i').m.size) (S i').m.gen:=fun i' h1 h2 b ib hb=>by
  have hbl:b<(S (j+1)).m.size:=by rw [hsz1];exact (Dp.dom b ib hb).1
  have hsi:=(ht.Es hcs (j+1) i' h1 (by have:=hd.h1';omega)).size
  have hq:=ht.Ii hcs (j+1) i' h1 (by have:=hd.h1';omega) (fun k q1 q2=>hd.h2 k (by omega) (by omega)) b hbl
  refine ⟨by rw [CS hq,CS (bg b)];exact Nat.le_refl _,ib,?_,fun _=>rfl⟩
  rw [D8 (by omega),← hb,← f3 b,D8 hbl]
 have a1g:∀ x g,Le (cut ι x) g (cut ι' x) g:=fun x g b ib hb=>by
  obtain ⟨h1,h2⟩:=CY hb
  exact ⟨Nat.le_refl _,ib,by rw [D8 h1];exact UL b ib h2,fun _=>rfl⟩
 have zF:∀ i',jp≤i'→i'≤jn→DL P G (cut ι' (S i').m.size) (S i').m w':=fun i' h1 h2=>by
  have hs:=hd.gI i' h1 h2
  by_cases hij:i'≤j
  ·refine (hs.world hext.heap f5).congr fun b=>?_
   by_cases hb:b<(S i').m.size
   ·rw [D8 hb,D8 hb]
    refine hold b fun h=>?_
    have:=(ht.Es hcs i' j hij (by omega)).size
    omega
   ·exact (if_neg hb).trans (if_neg hb).symm
  ·have hi1:j+1≤i':=by omega
   have hin:i'≤ops.size:=by have:=hd.h1';omega
   have hsi:=(ht.Es hcs (j+1) i' hi1 hin).size
   have hq:∀ b,b<(S (j+1)).m.size→(S i').m.get b=m'.get b:=fun b hb =>
    (ht.Ii hcs (j+1) i' hi1 hin (fun k q1 q2=>hd.h2 k (by omega) (by omega)) b hb).trans (bg b)
   have J3:∀ b ib,cut ι' (S i').m.size b=some ib→((S j).m.size≤b∧b<(S (j+1)).m.size∧ι1 b=some ib∧w.heap.size≤ib.blk)∨cut ι (S i').m.size b=some ib:=fun b ib hb=>by
    obtain ⟨hb1,hb2⟩:=CY hb
    by_cases hn:(S j).m.size≤b∧b<(S (j+1)).m.size
    ·rw [hnew b hn.1 hn.2] at hb2
     refine .inl ⟨hn.1,hn.2,hb2,?_⟩
     rcases hext.back b ib hb2 with ⟨V6,h,_⟩|h
     ·have:=(CY h).1;omega
     ·exact h
    ·rw [hold b hn] at hb2
     exact .inr (by rw [D8 hb1];exact hb2)
   refine ⟨fun b ib hb=>?_,fun b ib hb=>?_,fun b b' ib ib' hb hb' he=>?_,fun k hk=>?_⟩
   ·refine ⟨(CY hb).1,?_⟩
    rcases J3 b ib hb with ⟨_,_,h,_⟩|h
    ·exact (Dp.dom b ib h).2
    ·exact Nat.lt_of_lt_of_le (hs.dom b ib h).2 hext.heap
   ·rcases J3 b ib hb with ⟨_,hb2,h,_⟩|h
    ·rw [hq b hb2]
     exact (Dp.blk b ib h).mono (hle1 i' hi1 h2)
    ·rw [f5 _ (hs.dom b ib h).2]
     exact (hs.blk b ib h).mono (a1g _ _)
   ·rcases J3 b ib hb with ⟨p1,p2,p3,p4⟩|p
    ·rcases J3 b' ib' hb' with ⟨q1,q2,q3,q4⟩|q
     ·rcases Dp.inj b b' ib ib' p3 q3 he with h|⟨r1,r2⟩
      ·exact .inl h
      ·exact .inr ⟨by rw [EM (hq b p2)];exact r1,by rw [EM (hq b' q2)];exact r2⟩
     ·have:=(hs.dom b' ib' q).2;omega
    ·rcases J3 b' ib' hb' with ⟨q1,q2,q3,q4⟩|q
     ·have:=(hs.dom b ib p).2;omega
     ·exact hs.inj b b' ib ib' p q he
   ·obtain ⟨ib,q1,q2,q3,q4,q5⟩:=hs.glob k hk
    obtain ⟨r1,r2⟩:=CY q1
    exact ⟨ib,by rw [D8 r1];exact UL k ib r2,q2,q3,q4,q5⟩
 obtain ⟨v1,v0⟩:=P5 (v':=v') hcs (Nat.le_refl jp) (Nat.le_trans hd.h1 hd.h1') ht hdr ho hd.gV FZ hd.tsz hdn (fun x=>a1g x (S jn).m.gen) (fun d hdd=>by
  rw [oN d hdd,Nat.max_eq_left (by omega)]
  refine NZ.mono fun b ib hb=>?_
  have hbl:b<(S (j+1)).m.size:=by rw [hsz1];exact (Dp.dom b ib hb).1
  exact ⟨by rw [b3p b hbl];exact Nat.le_refl _,ib,by rw [f3];exact hb,fun _=>rfl⟩) hd.v1 hd.v0
 refine ⟨ι',by simpa using hd.gV,MN hd.cl hj' ho hall,hd.h1,hd.h1',hd.h2,?_,fun k hk htk hnk=>Fe hj' (hd.h4 k hk htk hnk),zF,?_,?_,?_,v1,v0,?_,?_,?_,Nat.le_trans hd.heap hext.heap,
  fun c hc hf=>(f5 c (Nat.lt_of_lt_of_le hc hd.heap)).trans (hd.frame c hc hf),hext.tape.trans hd.tape,hext.os.trans hd.os,hext.output.trans hd.output,fun b ib k hb hk hl=>?_,fun k hk hn hl=>hd.ZM k hk hn (Eo hj' hl)⟩
 ·rcases hd.h3 with h|⟨h1,h2⟩
  ·exact .inl h
  ·refine .inr ⟨h1,?_⟩
   rw [Dz hj',if_neg (by omega)]
   exact h2
 ·intro b ib hb
  by_cases hn:(S j).m.size≤b∧b<(S (j+1)).m.size
  ·exact .inr ⟨j,by rw [Dz hj',if_pos rfl],hjp,hjn,hn.1,hn.2⟩
  ·rw [hold b hn] at hb
   rcases hd.a1i b ib hb with h|⟨i,h1,h2⟩
   ·exact .inl h
   ·exact .inr ⟨i,Fe hj' h1,h2⟩
 ·cases hdd:o.dst<;>simp [Act.put,hd.tsz]
 ·cases hdd:o.dst<;>simp [Act.put,hd.vJ]
 ·exact hd.le.trans fun b ib hb=>⟨Nat.le_refl _,ib,UL b ib hb,fun _=>rfl⟩
 ·intro b ib hb
  by_cases hn:(S j).m.size≤b∧b<(S (j+1)).m.size
  ·rw [hnew b hn.1 hn.2] at hb
   rcases hext.back b ib hb with ⟨V6,h,_⟩|h
   ·have:=(CY h).1;omega
   ·exact .inr (Nat.le_trans hd.heap h)
  ·rw [hold b hn] at hb
   exact hd.back b ib hb
 ·intro b ib hb
  by_cases hn:(S j).m.size≤b∧b<(S (j+1)).m.size
  ·exact .inr (Nat.le_trans (ht.Es hcs 0 j (Nat.zero_le _) (by omega)).size hn.1)
  ·rw [hold b hn] at hb
   exact hd.xC b ib hb
 ·by_cases hn:(S j).m.size≤b∧b<(S (j+1)).m.size
  ·exact ht.apart hcs hjlt hk (Ne.symm (KP hj' hl)) hn.1 hn.2
  ·rw [hold b hn] at hb
   exact hd.UK b ib k hb hk (Eo hj' hl)
theorem sJ (ops:Array Oper) (k:Nat) (hk:k≤ops.size):∃ jn,k≤jn∧jn≤ops.size∧(∀ i,k≤i→i<jn→D9 P ops i=false)∧(jn=ops.size∨D9 P ops jn=true):=by
 generalize hd:ops.size-k=d
 induction d generalizing k with
 |zero=>exact ⟨ops.size,hk,Nat.le_refl _,fun i h1 h2=>by omega,.inl rfl⟩
 |succ d ih =>
  cases hb:D9 P ops k with
  |true=>exact ⟨k,Nat.le_refl _,hk,fun i h1 h2=>by omega,.inr hb⟩
  |false =>
   obtain ⟨jn,h1,h2,h3,h4⟩:=ih (k+1) (by omega) (by omega)
   refine ⟨jn,by omega,h2,fun i q1 q2=>?_,h4⟩
   by_cases e:i=k
   ·subst e;exact hb
   ·exact h3 i (by omega) q2
theorem DI.bar {n:Nat} {ι ι0 ι1:BN} {a:Act} {w w0 w':World} {listed:Array Bool} {jp j:Nat} {o:Oper} {v v':Value} {m':Mem} {y:Nat} (ht:Trace P call ops S) (hcs:Df call) (hdr:Gn ops=true)
 (hd:DI ds P G n ops S ι0 w0 listed ι a w jp j) (ho:ops[j]?=some o) (FZ:listed.getD j false=false) (hall:∀ e∈o.after,Region.binds .any e=true→listed.getD e.on false=true)
 (hdn:∀ d,o.dst=some d→d<n) (hb0:∀ b ib,ι0 b=some ib→b<(S 0).m.size) (hbar:D9 P ops j=true) (hm':(S (j+1)).m=EF m' y) (hy:y≤m'.low)
 (oN:∀ d,o.dst=some d→CB (S (j+1)).t d=v)
 (hkeep:∀ k,k<j→FP ops k=true→listed.getD k false=false→∀ b,(S k).m.size≤b→b<(S (k+1)).m.size→(S (j+1)).m.get b=(S j).m.get b)
 (hext:Ext (cut ι (S j).m.size) (EF (S j).m (S j).m.size) w ι1 m' w') (Dp:DL P G ι1 m' w') (NZ:AA ι1 m'.gen v v') :
 ∃ ι' jp' jn',DI ds P G n ops S ι0 w0 (listed.setIfInBounds j true) ι' (a.put o.dst v') w' jp' jn':=by
 have hjlt:j<ops.size:=(Array.getElem?_eq_some_iff.1 ho).1
 have hj':j<listed.size:=by rw [hd.gV];exact hjlt
 have hsz1:(S (j+1)).m.size=m'.size:=by rw [hm'];rfl
 have bg:∀ b,(S (j+1)).m.get b=m'.get b:=fun b=>by rw [hm'];rfl
 obtain ⟨hback,_⟩:=Gh hdr
 obtain ⟨xw,a8c⟩:=G8 hbar
 obtain ⟨jn,n1,n2,n3,n4⟩:=sJ ops (j+1) (by omega)
 have hsj:(S (j+1)).m.size≤(S jn).m.size:=(ht.Es hcs (j+1) jn n1 n2).size
 have xW:∀ b,b<(S (j+1)).m.size→(S jn).m.get b=m'.get b:=fun b hb=>(ht.Ii hcs (j+1) jn n1 n2 (fun k h1 h2=>n3 k h1 h2) b hb).trans (bg b)
 have hdl:∀ b ib,ι1 b=some ib→b<(S (j+1)).m.size:=fun b ib hb=>by rw [hsz1];exact (Dp.dom b ib hb).1
 have hLow:(S ops.size).m.low≤m'.low:=by
  have h1:=(ht.Es hcs (j+1) ops.size (by omega) (Nat.le_refl _)).low
  have h2:(S (j+1)).m.low=y:=by rw [hm'];rfl
  omega
 have b5z:∀ x,Le (cut ι x) (S j).m.gen (cut ι1 x) (S jn).m.gen:=fun x b ib hb=>by
  obtain ⟨h1,h2⟩:=CY hb
  have hbj:=hd.Xh ht hcs h2
  obtain ⟨q1,ib',q2,q3⟩:=hext.le b ib (by rw [D8 hbj];exact h2)
  have hg:(S jn).m.gen b=m'.gen b:=CS (xW b (hdl b ib' q2))
  exact ⟨by rw [hg];exact q1,ib',by rw [D8 h1];exact q2,fun e=>q3 (by rw [← hg];exact e)⟩
 obtain ⟨v1,v0⟩:=P5 (v':=v') (jp':=j+1) hcs (by have:=hd.h1;omega) (by omega) ht hdr ho hd.gV FZ hd.tsz hdn b5z (fun d hdd=>by
  rw [oN d hdd,Nat.max_self]
  refine NZ.mono fun b ib hb=>?_
  have hbl:=hdl b ib hb
  exact ⟨by rw [CS (xW b hbl)];exact Nat.le_refl _,ib,by rw [D8 hbl];exact hb,fun _=>rfl⟩) hd.v1 hd.v0
 refine ⟨ι1,j+1,jn,by simpa using hd.gV,MN hd.cl hj' ho hall,n1,n2,n3,?_,?_,?_,fun b ib hb=>.inl (hdl b ib hb),?_,?_,v1,v0,?_,?_,?_,Nat.le_trans hd.heap hext.heap,?_,
  hext.tape.trans hd.tape,hext.os.trans hd.os,hext.output.trans hd.output,fun b ib k hb hk hl=>?_,fun k hk hn hl b h1 h2=>?_⟩
 ·rcases n4 with h|h
  ·exact .inl h
  ·refine .inr ⟨h,?_⟩
   rw [Dz hj',if_neg (by omega)]
   cases hl:listed.getD jn false with
   |false=>rfl
   |true =>
    obtain ⟨t1,t2⟩:=G8 h
    have hbit:=((t2 j (by omega) xw).1 (by omega)).resolve_left (by rw [Q8 hbar];simp)
    obtain ⟨on,hon⟩:=getOp (ops:=ops) (i:=jn) (by
     rcases Nat.lt_or_ge jn ops.size with h|h
     ·exact h
     ·unfold D9 at *
      rename_i hbb
      rw [Array.getElem?_eq_none h] at hbb
      cases hbb)
    have:=D5 hd.cl hback jn on j hon (hd.cl jn on hon hl) hbit
    rw [FZ] at this;cases this
 ·intro k hk htk hnk
  by_cases e:k=j
  ·subst e;rw [Dz hj',if_pos rfl]
  ·refine Fe hj' ?_
   exact D5 hd.cl hback j o k ho hall (((a8c k e htk).1 (by omega)).resolve_left (by rw [hnk];simp))
 ·intro i' h1 h2
  have hsi:=(ht.Es hcs (j+1) i' h1 (by omega)).size
  have hq:∀ b,b<(EF m' y).size→(S i').m.get b=(EF m' y).get b:=fun b hb=>by
   have hb':b<(S (j+1)).m.size:=by rw [hsz1];exact hb
   exact (ht.Ii hcs (j+1) i' h1 (by omega) (fun k q1 q2=>n3 k q1 (by omega)) b hb').trans (bg b)
  refine ((Dp.low y).extend (m2:=(S i').m) (by rw [← hm'];exact hsi) hq).congr fun b=>?_
  cases hib:ι1 b with
  |none =>
   unfold cut;split
   ·exact hib
   ·rfl
  |some ib=>rw [D8 (Nat.lt_of_lt_of_le (hdl b ib hib) hsi)];exact hib
 ·cases hdd:o.dst<;>simp [Act.put,hd.tsz]
 ·cases hdd:o.dst<;>simp [Act.put,hd.vJ]
 ·refine hd.le.trans fun b ib hb=>?_
  have hbj:=hd.Xh ht hcs hb
  obtain ⟨q1,ib',q2,q3⟩:=hext.le b ib (by rw [D8 hbj];exact hb)
  have hg:(S jn).m.gen b=m'.gen b:=CS (xW b (hdl b ib' q2))
  exact ⟨by rw [hg];exact q1,ib',q2,fun e=>q3 (by rw [← hg];exact e)⟩
 ·intro b ib' hb
  rcases hext.back b ib' hb with ⟨ib,h1,h2⟩|h
  ·rcases hd.back b ib (CY h1).2 with ⟨V6,h3,h4⟩|h3
   ·exact .inl ⟨V6,h3,h4.trans h2⟩
   ·exact .inr (h2▸h3)
  ·exact .inr (Nat.le_trans hd.heap h)
 ·intro b ib' hb
  rcases hext.dom b ib' hb with ⟨ib,h1⟩|h
  ·exact hd.xC b ib (CY h1).2
  ·exact .inr (Nat.le_trans (ht.Es hcs 0 j (Nat.zero_le _) (by omega)).size h)
 ·intro c hc hf
  rw [hext.frame c (Nat.lt_of_lt_of_le hc hd.heap) ?_,hd.frame c hc hf]
  intro b ib hb he
  rcases hd.back b ib (CY hb).2 with ⟨V6,h3,h4⟩|h3
  ·rcases hf b V6 h3 (h4.trans he) with h5|h5
   ·refine .inl ?_
    show (S j).m.ro b=true
    rw [(ht.Es hcs 0 j (Nat.zero_le _) (by omega)).ro' b (hb0 b V6 h3)]
    exact h5
   ·exact .inr (Nat.lt_of_lt_of_le h5 hLow)
  ·omega
 ·have hlk:=Eo hj' hl
  have hne:=KP hj' hl
  rcases hext.dom b ib hb with ⟨V6,h1⟩|h
  ·exact hd.UK b V6 k (CY h1).2 hk hlk
  ·exact ht.apart hcs hjlt hk (Ne.symm hne) h (hdl b ib hb)
 ·have hlk:=Eo hj' hl
  have hne:=KP hj' hl
  have hkj:k<j:=by omega
  rw [hkeep k hkj hn hlk b h1 h2]
  rcases Nat.lt_or_ge k jp with h|h
  ·rw [← hd.ZM k h hn hlk b h1 h2]
   exact ht.Ii hcs jp j hd.h1 (by omega) (fun q q1 q2=>hd.h2 q q1 q2) b (Nat.lt_of_lt_of_le h2 (ht.Es hcs (k+1) jp (by omega) (by have:=hd.h1;omega)).size)
  ·exact ht.Ii hcs (k+1) j (by omega) (by omega) (fun q q1 q2=>hd.h2 q (by omega) q2) b h2
theorem DI.late {n:Nat} {ι ι0:BN} {a:Act} {w w0:World} {listed:Array Bool} {jp jn j:Nat} {o:Oper} {v:Value} {m':Mem} {y:Nat} (ht:Trace P call ops S) (hcs:Df call) (hdr:Gn ops=true)
 (hd:DI ds P G n ops S ι0 w0 listed ι a w jp jn) (ho:ops[j]?=some o) (FZ:listed.getD j false=false) (hall:∀ e∈o.after,Region.binds .any e=true→listed.getD e.on false=true)
 (hdn:∀ d,o.dst=some d→d<n) (hjp:j<jp) (hn:Lc o.op=true) (hv:Ce P call (ev (S j).t) o (EF (S j).m (S j).m.size)=some (v,m')) (hm':(S (j+1)).m=EF m' y)
 (oN:∀ d,o.dst=some d→CB (S (j+1)).t d=v) (hρ:∀ x∈o.op.operands,AA (cut ι (S (max j jp)).m.size) (S jn).m.gen (ev (S j).t x) (a.eval x)) :
 ∃ v' w' ι',(execOp a.eval o).run P w=.ok (.value v') w'∧DI ds P G n ops S ι0 w0 (listed.setIfInBounds j true) ι' (a.put o.dst v') w' jp jn:=by
 have hjlt:j<ops.size:=(Array.getElem?_eq_some_iff.1 ho).1
 have hj':j<listed.size:=by rw [hd.gV];exact hjlt
 have hpn:=hd.h1
 have hno:=hd.h1'
 obtain ⟨l,e,len,hvv,hmm,hrun⟩:=TY hn hv
 rw [Nat.max_eq_right (by omega)] at hρ
 obtain ⟨cs',hl,hcap,hrun⟩:=hrun _ _ _ hρ
 have hnews:FP ops j=true:=by unfold FP;rw [ho];exact hn
 obtain ⟨b0,hb0⟩:∃ b0,b0=(S j).m.size:=⟨_,rfl⟩
 have hs1:(S (j+1)).m.size=b0+1:=by rw [hm',hmm,hb0];rfl
 have hg1:(S (j+1)).m.get b0=.cells l e 0 false:=by
  rw [hm',hmm]
  show (Mem.alloc (EF (S j).m (S j).m.size) (.cells l e 0 false)).get b0=_
  rw [Mem.Bv,if_pos (by rw [hb0];rfl)]
 have hsp:∀ i',jp≤i'→i'≤jn→b0<(S i').m.size:=fun i' h1 h2=>by
  have:=(ht.Es hcs (j+1) i' (by omega) (by omega)).size;omega
 have hq:∀ i',jp≤i'→i'≤jn→∀ b,b<(S jp).m.size→(S i').m.get b=(S jp).m.get b:=fun i' h1 h2=>ht.Ii hcs jp i' h1 (by omega) (fun k q1 q2=>hd.h2 k q1 (by omega))
 have hgi:∀ i',jp≤i'→i'≤jn→(S i').m.get b0=.cells l e 0 false:=fun i' h1 h2=>by
  rw [hq i' h1 h2 b0 (hsp jp (Nat.le_refl _) hpn),hd.ZM j hjp hnews FZ b0 (by omega) (by omega),hg1]
 have hfree:ι b0=none:=by
  cases hib:ι b0 with
  |none=>rfl
  |some ib=>exact absurd ⟨by omega,by omega⟩ (hd.UK b0 ib j hib hjlt FZ)
 let V6:IB:=⟨w.heap.size,0,cs'.size,P.cellsOf e⟩
 let ι':BN:=fun b=>if b=b0 then some V6 else ι b
 have hnew:ι' b0=some V6:=if_pos rfl
 have hold:∀ b,b≠b0→ι' b=ι b:=fun b h=>if_neg h
 have UL:∀ b ib,ι b=some ib→ι' b=some ib:=fun b ib hb=>by
  rw [hold b (fun h=>by rw [h,hfree] at hb;cases hb)];exact hb
 have a1g:∀ x g,Le (cut ι x) g (cut ι' x) g:=fun x g b ib hb=>by
  obtain ⟨h1,h2⟩:=CY hb
  exact ⟨Nat.le_refl _,ib,by rw [D8 h1];exact UL b ib h2,fun _=>rfl⟩
 obtain ⟨w',hw'⟩:∃ w':World,w'={ w with heap:=w.heap.push (.cells cs' e (0,0)) }:=⟨_,rfl⟩
 have hheap:w.heap.size≤w'.heap.size:=by rw [hw'];simp only [Array.size_push];omega
 have f5:∀ c,c<w.heap.size→w'.heap[c]?=w.heap[c]?:=fun c hc=>by
  rw [hw']
  show (w.heap.push _)[c]?=w.heap[c]?
  rw [Array.getElem?_push,if_neg (by omega)]
 have zF:∀ i',jp≤i'→i'≤jn→DL P G (cut ι' (S i').m.size) (S i').m w':=fun i' h1 h2=>by
  have hs:=hd.gI i' h1 h2
  have J3:∀ b ib,cut ι' (S i').m.size b=some ib→(b=b0∧ib=V6)∨cut ι (S i').m.size b=some ib:=fun b ib hb=>by
   obtain ⟨q1,q2⟩:=CY hb
   by_cases e:b=b0
   ·rw [e,hnew] at q2;cases q2;exact .inl ⟨e,rfl⟩
   ·rw [hold b e] at q2;exact .inr (by rw [D8 q1];exact q2)
  refine ⟨fun b ib hb=>?_,fun b ib hb=>?_,fun b b' ib ib' hb hb' he=>?_,fun k hk=>?_⟩
  ·refine ⟨(CY hb).1,?_⟩
   rcases J3 b ib hb with ⟨_,q⟩|q
   ·rw [q,hw'];show w.heap.size<(w.heap.push _).size;simp
   ·exact Nat.lt_of_lt_of_le (hs.dom b ib q).2 hheap
  ·rcases J3 b ib hb with ⟨q1,q2⟩|q
   ·have XH:w'.heap[ib.blk]?=some (.cells cs' e (0,0)):=by
     rw [q2,hw']
     show (w.heap.push _)[w.heap.size]?=_
     simp
    rw [XH,q1,hgi i' h1 h2,q2]
    refine ⟨fun _=>rfl,rfl,rfl,fun i hi=>?_,fun _ j _=>by simp⟩
    obtain ⟨u,u1,u2⟩:=hl i hi
    refine ⟨u,by simpa [V6] using u1,u2.mono fun b ib hb=>?_⟩
    obtain ⟨r1,r2⟩:=CY hb
    have hsz:=(ht.Es hcs jp i' h1 (by omega)).size
    have e1:=CS (hq i' h1 h2 b r1)
    have e2:=CS (hq jn hpn (Nat.le_refl _) b r1)
    exact ⟨by rw [e1,e2];exact Nat.le_refl _,ib,by rw [D8 (by omega)];exact UL b ib r2,fun _=>rfl⟩
   ·rw [f5 _ (hs.dom b ib q).2]
    exact (hs.blk b ib q).mono (a1g _ _)
  ·rcases J3 b ib hb with ⟨p1,p2⟩|p
   ·rcases J3 b' ib' hb' with ⟨q1,q2⟩|q
    ·exact .inl (p1.trans q1.symm)
    ·have:=(hs.dom b' ib' q).2
     rw [p2] at he
     simp only [V6] at he
     omega
   ·rcases J3 b' ib' hb' with ⟨q1,q2⟩|q
    ·have:=(hs.dom b ib p).2
     rw [q2] at he
     simp only [V6] at he
     omega
    ·exact hs.inj b b' ib ib' p q he
  ·obtain ⟨ib,q1,q2,q3,q4,q5⟩:=hs.glob k hk
   obtain ⟨r1,r2⟩:=CY q1
   exact ⟨ib,by rw [D8 r1];exact UL k ib r2,q2,q3,q4,q5⟩
 have hgN:(S jn).m.gen b0=0:=by unfold Mem.gen;rw [hgi jn hpn (Nat.le_refl _)];rfl
 obtain ⟨v1,v0⟩:=P5 (v':=.slice (some ⟨w.heap.size,0,none⟩) len len) hcs (Nat.le_refl jp) (Nat.le_trans hd.h1 hd.h1') ht hdr ho hd.gV FZ hd.tsz hdn (fun x=>a1g x (S jn).m.gen) (fun d hdd=>by
  rw [oN d hdd,hvv]
  refine .sl _ _ _ _ _ _ ⟨V6,?_,Nat.zero_le _,Nat.le_refl _,fun _=>⟨rfl,rfl,.inr ⟨rfl,?_⟩⟩⟩
  ·have:(EF (S j).m (S j).m.size).size=b0:=hb0.symm
   show cut ι' _ (EF (S j).m (S j).m.size).size=_
   rw [this,D8 (by have:=hsp jp (Nat.le_refl _) hpn;rw [Nat.max_eq_right (by omega)];exact this)]
   exact hnew
  ·simpa [V6] using hcap) hd.v1 hd.v0
 refine ⟨_,w',ι',by rw [hw'];exact hrun w,by simpa using hd.gV,MN hd.cl hj' ho hall,hd.h1,hd.h1',hd.h2,?_,fun k hk htk hnk=>Fe hj' (hd.h4 k hk htk hnk),zF,?_,?_,?_,v1,v0,?_,?_,?_,Nat.le_trans hd.heap hheap,
  fun c hc hf=>(f5 c (Nat.lt_of_lt_of_le hc hd.heap)).trans (hd.frame c hc hf),by rw [hw'];exact hd.tape,by rw [hw'];exact hd.os,by rw [hw'];exact hd.output,fun b ib k hb hk hlk=>?_,fun k hk hnk hlk=>hd.ZM k hk hnk (Eo hj' hlk)⟩
 ·rcases hd.h3 with h|⟨h1,h2⟩
  ·exact .inl h
  ·refine .inr ⟨h1,?_⟩
   rw [Dz hj',if_neg (by omega)]
   exact h2
 ·intro b ib hb
  by_cases e:b=b0
  ·exact .inl (by rw [e];exact hsp jp (Nat.le_refl _) hpn)
  ·rw [hold b e] at hb
   rcases hd.a1i b ib hb with h|⟨i,h1,h2⟩
   ·exact .inl h
   ·exact .inr ⟨i,Fe hj' h1,h2⟩
 ·cases hdd:o.dst<;>simp [Act.put,hd.tsz]
 ·cases hdd:o.dst<;>simp [Act.put,hd.vJ]
 ·exact hd.le.trans fun b ib hb=>⟨Nat.le_refl _,ib,UL b ib hb,fun _=>rfl⟩
 ·intro b ib hb
  by_cases e:b=b0
  ·rw [e,hnew] at hb;cases hb
   exact .inr hd.heap
  ·rw [hold b e] at hb
   exact hd.back b ib hb
 ·intro b ib hb
  by_cases e:b=b0
  ·exact .inr (by have:=(ht.Es hcs 0 j (Nat.zero_le _) (by omega)).size;omega)
  ·rw [hold b e] at hb
   exact hd.xC b ib hb
 ·by_cases e:b=b0
  ·exact ht.apart hcs hjlt hk (Ne.symm (KP hj' hlk)) (by omega) (by omega)
  ·rw [hold b e] at hb
   exact hd.UK b ib k hb hk (Eo hj' hlk)
end
section
variable {P:Program} {G:List Nat} {call:Ep} {ops:Array Oper} {S:Nat→St} {ds:List Deferred} {rf:Option Nat} {nn:Nat}
theorem zG {ρ:Operand→Value} {o:Oper} {m m':Mem} {v:Value} {x:Operand} {b:Nat} (hx:nD o.op=some x) (h:Ce P call ρ o m=some (v,m')) (hv:GR v=some b):GR (ρ x)=some b:=by
 obtain ⟨dst,op,ty,pos,after,guard⟩:=o
 simp only at hx
 cases op<;>simp only [nD,reduceCtorEq,Option.some.injEq] at hx<;>subst hx<;>simp only [Ce,EX] at h
 case move=>cases h;exact hv
 case assign=>cases h;exact hv
 case nilCheck y=>split at h<;>first|(rename_i e;rw [e];cases h;exact hv)|cases h
 case fieldAddr s y f =>
  repeat' split at h
  all_goals first
   |(cases h;rename_i e _ _ _ _ _;simp only [GR] at hv ⊢;simp_all;done)
   |(cases h;simp_all [GR];done)
   |cases h
 case indexAddr t y ix =>
  repeat' split at h
  all_goals first
   |(cases h;simp_all [GR];done)
   |cases h
theorem TA {m m':Mem} {e:TypeId} {size n b:Nat} {l:List Value} {s v:Value} (h:BM m e size l n s=some (v,m')) (hb:b<m.size) (hne:GR s≠some b):m'.get b=m.get b:=by
 unfold BM at h
 split at h
 ·split at h
  ·cases h;rfl
  ·cases h;rw [Mem.Bv,if_neg (by omega)]
 ·split at h
  ·cases h;rfl
  ·cases h;rw [Mem.Bv,if_neg (by omega)]
 ·rename_i b0 off len g
  have hne':b0≠b:=fun e=>hne (by rw [e];rfl)
  split at h
  ·split at h
   ·split at h
    ·cases h;rw [Mem.get_put,if_neg hne']
    ·cases h
   ·cases h
  ·cases h
 ·cases h
theorem fC {aT:Array TypeId} {BF:Array Value} {m m':Mem} {v s:Value} {b:Nat} (hs:BF[0]?=some s) (h:Ip P aT BF m=some (v,m')) (hb:b<m.size) (hne:GR s≠some b):m'.get b=m.get b:=by
 unfold Ip at h
 split at h
 ·rename_i sT s' x xT h1 h2 h3 h4
  rw [hs] at h2
  cases h2
  repeat' split at h
  all_goals first
   |exact TA h hb hne
   |cases h
 ·cases h
theorem Vo {ρ:Operand→Value} {o:Oper} {m m':Mem} {v:Value} {x:Operand} {b:Nat} (hx:qC o.op=some x) (h:Ce P call ρ o m=some (v,m')) (hb:b<m.size) (hne:GR (ρ x)≠some b):m'.get b=m.get b:=by
 obtain ⟨dst,op,ty,pos,after,guard⟩:=o
 simp only at hx
 cases op<;>simp only [qC,reduceCtorEq,Option.some.injEq] at hx
 case store t a y =>
  subst hx
  simp only [Ce,EX] at h
  split at h
  ·rename_i ad had
   rw [Option.map_eq_some_iff] at h
   obtain ⟨m1,h1,he⟩:=h
   cases he
   have hne':ad.block≠b:=fun e=>hne (by rw [had,← e];rfl)
   unfold Nu at h1
   repeat' split at h1
   all_goals first
    |(unfold Gj at h1
      split at h1
      ·split at h1
       ·cases h1;rw [Mem.get_put,if_neg hne']
       ·cases h1
      ·cases h1)
    |cases h1
  ·cases h
 case call c =>
  obtain ⟨callee,args,aT⟩:=c
  cases callee<;>try cases hx
  rename_i bi
  cases bi<;>try cases hx
  have hx':args[0]?=some x:=hx
  simp only [Ce,EX] at h
  exact fC (s:=ρ x) (by rw [Array.getElem?_map,hx'];rfl) h hb hne
theorem pG:GR undef=none:=rfl
theorem dX {t:Tmp} {k:Nat} (h:V8 ops k (.tmp t)=true) (q:Nat) (o:Oper) (hq:k≤q) (ho:ops[q]?=some o):o.dst≠some t:=by
 unfold V8 at h
 simp only [List.all_eq_true,List.mem_range] at h
 have:=h q (Array.getElem?_eq_some_iff.1 ho).1
 simp only [Bool.or_eq_true,decide_eq_true_eq,show ¬ q<k by omega,false_or,ho,Option.bind_some,bne_iff_ne,ne_eq] at this
 exact this
theorem ZT (ht:Trace P call ops S) {k i:Nat} {r:Operand} (h:V8 ops k r=true) (hki:k≤i) (hi:i≤ops.size):ev (S i).t r=ev (S k).t r:=by
 cases r with
 |tmp t=>exact ht.tmps t k i hki hi fun q o h1 _ ho=>dX h q o h1 ho
 |const v=>rfl
 |global g=>rfl
 |func f=>rfl
theorem Trace.root (ht:Trace P call ops S) (hdr:Gn ops=true) {i:Nat} (hi:i≤ops.size):∀ (f q:Nat) (r r':Operand) (b:Nat),q≤ops.size→rootOf ops i f q r=some r'→GR (ev (S q).t r)=some b→GR (ev (S i).t r')=some b
 |0,_,_,_,_,_,h,_=>by cases h
 |f+1,q,r,r',b,hq,h,hb=>by
  unfold rootOf at h
  split at h
  ·rename_i hn
   cases h
   rw [ZT ht hn (Nat.min_le_left _ _) hi,← ZT ht hn (Nat.min_le_right i q) hq]
   exact hb
  ·split at h
   ·rename_i t _
    split at h
    ·rename_i k hk
     split at h
     ·rename_i hkq
      split at h
      ·rename_i x hx
       have hdk:(ops[k]?).bind (·.dst)=some t:=by
        have:=List.find?_some hk
        simpa using this
       cases hok:ops[k]? with
       |none=>rw [hok] at hdk;cases hdk
       |some o =>
        rw [hok] at hdk hx
        simp only [Option.bind_some] at hdk hx
        obtain ⟨_,hdist⟩:=Gh hdr
        have e1:CB (S q).t t=CB (S (k+1)).t t:=ht.tmps t (k+1) q hkq hq fun p op hp _ hop=>(hdist k o t hok hdk p op hop (by omega)).1
        have hb':GR (CB (S (k+1)).t t)=some b:=by rw [← e1];exact hb
        have hkl:=(Array.getElem?_eq_some_iff.1 hok).1
        rcases Gq (ht.step k o hok) with ⟨_,htt,_⟩|⟨_,v,m',hv,htt,_⟩
        ·exfalso
         rw [htt,hdk] at hb'
         simp only [Gz] at hb'
         rw [Di,if_pos rfl,pG] at hb'
         cases hb'
        ·rw [htt,hdk] at hb'
         simp only [Gz] at hb'
         rw [Di,if_pos rfl] at hb'
         exact Trace.root ht hdr hi f k x r' b (by omega) h (zG hx hv hb')
      ·cases h
     ·cases h
    ·cases h
   ·cases h
theorem Trace.jP (ht:Trace P call ops S) (hcs:Df call) (hdr:Gn ops=true) {i j:Nat} {oi oj:Oper} {a:Operand} {b:Nat} (hi:ops[i]?=some oi) (hj:ops[j]?=some oj) (hl:FH oj.op=true) (hop:a9l oj.op=some a) (hne:j≠i)
 (hun:ordered ops i j=false) (had:GR (ev (S j).t a)=some b) (hlt:b<(S i).m.size):(S (i+1)).m.get b=(S i).m.get b:=by
 have hil:=(Array.getElem?_eq_some_iff.1 hi).1
 have hjl:=(Array.getElem?_eq_some_iff.1 hj).1
 rcases Gq (ht.step i oi hi) with ⟨_,_,x,hm,_⟩|⟨_,v,m',hv,_,hm,hor⟩
 ·rw [hm];rfl
 ·rw [hm]
  show m'.get b=(S i).m.get b
  rcases hor with h|h|⟨h1,h2⟩|⟨h1,h2⟩
  ·have:=bV h hj hl hne
   rw [hun] at this;cases this
  ·exact (Ja hcs hv).keep _ hlt (Nat.lt_of_lt_of_le hlt h)
  ·unfold OV at h2
   rw [hi] at h2
   simp only [Option.bind_some] at h2
   split at h2
   ·rename_i w hw
    rw [List.all_eq_true] at h2
    have hmem':rootOf ops i 4 j a∈Hq ops i:=by
     unfold Hq
     rw [List.mem_filterMap]
     refine ⟨j,List.mem_range.2 hjl,?_⟩
     rw [hj]
     simp only [Option.bind_some,hop]
     rw [if_neg (by simp [hne,hun])]
    have h3:=h2 _ hmem'
    cases hr:rootOf ops i 4 j a with
    |none=>rw [hr] at h3;cases h3
    |some r =>
     rw [hr] at h3
     simp only at h3
     have hb:GR (ev (S i).t r)=some b:=ht.root hdr (by omega) 4 j a r b (by omega) hr had
     rw [hb] at h3
     refine Vo (m:=EF (S i).m (S i).m.size) hw hv hlt fun he=>?_
     rw [he] at h3
     simp [rW] at h3
   ·cases h2
  ·unfold KN at h2
   rw [List.all_eq_true] at h2
   have hmem':rootOf ops i 4 j a∈Hq ops i:=by
    unfold Hq
    rw [List.mem_filterMap]
    refine ⟨j,List.mem_range.2 hjl,?_⟩
    rw [hj]
    simp only [Option.bind_some,hop]
    rw [if_neg (by simp [hne,hun])]
   have h3:=h2 _ hmem'
   cases hr:rootOf ops i 4 j a with
   |none=>rw [hr] at h3;cases h3
   |some r =>
    rw [hr] at h3
    simp only at h3
    have hb:GR (ev (S i).t r)=some b:=ht.root hdr (by omega) 4 j a r b (by omega) hr had
    rw [hb] at h3
    exact @of_decide_eq_true _ (Classical.propDecidable _) h3
theorem AA.blk {ι:BN} {g:Nat→Nat} {u u':Value} {b:Nat} (h:AA ι g u u') (hb:GR u=some b):∃ ib,ι b=some ib:=by
 cases h<;>first|(cases hb;done)|skip
 case ptr har=>cases hb;obtain ⟨ib,h1,_⟩:=har;exact ⟨ib,h1⟩
 case sl hsr=>cases hb;obtain ⟨ib,h1,_⟩:=hsr;exact ⟨ib,h1⟩
theorem DI.load {n:Nat} {ι ι0:BN} {a:Act} {w w0:World} {listed:Array Bool} {jp jn j:Nat} {o:Oper} {v:Value} {m':Mem} (ht:Trace P call ops S) (hcs:Df call) (hdr:Gn ops=true)
 (hd:DI ds P G n ops S ι0 w0 listed ι a w jp jn) (ho:ops[j]?=some o) (FZ:listed.getD j false=false) (hall:∀ e∈o.after,Region.binds .any e=true→listed.getD e.on false=true)
 (hl:FH o.op=true) (hv:Ce P call (ev (S j).t) o (EF (S j).m (S j).m.size)=some (v,m')) (hρ:∀ x∈o.op.operands,AA (cut ι (S (max j jp)).m.size) (S jn).m.gen (ev (S j).t x) (a.eval x)) :
 ∃ v',(execOp a.eval o).run P w=.ok (.value v') w∧AA (cut ι (S (max (j+1) jp)).m.size) (S jn).m.gen v v':=by
 have hjlt:j<ops.size:=(Array.getElem?_eq_some_iff.1 ho).1
 have hpn:=hd.h1
 have hno:=hd.h1'
 obtain ⟨hback,_⟩:=Gh hdr
 obtain ⟨_,x,hxo,hxb,hrd⟩:=UR hl hv
 have b5o:x∈o.op.operands:=by
  rcases nG hl with ⟨t,y,hop⟩|⟨t,y,lo,hi,hop⟩<;>rw [hop] at hxo ⊢<;>cases hxo<;>simp [Op.operands]
 have a7t:D9 P ops j=false:=by unfold D9;rw [ho];simp [hl]
 obtain ⟨i',hi'⟩:∃ i',i'=max jp (min j jn):=⟨_,rfl⟩
 have dom:∀ b ib,cut ι (S (max j jp)).m.size b=some ib→b<(S i').m.size∧ι b=some ib:=fun b ib hb=>by
  obtain ⟨q1,q2⟩:=CY hb
  refine ⟨?_,q2⟩
  have q3:=hd.Xh ht hcs q2
  rcases Nat.lt_or_ge jn j with h|h
  ·rw [show i'=jn by omega];exact q3
  ·rw [show i'=max j jp by omega];exact q1
 have key:∀ b,GR (ev (S j).t x)=some b→b<(S i').m.size∧(S i').m.get b=(S j).m.get b:=fun b hbv=>by
  obtain ⟨ib,hc1⟩:=(hρ x b5o).blk hbv
  obtain ⟨hbi,hb2⟩:=dom b ib hc1
  have hbn:=hd.Xh ht hcs hb2
  have hbj:b<(S j).m.size:=hxb b hbv
  refine ⟨hbi,?_⟩
  rcases Nat.lt_or_ge j jp with hlt|hge
  ·have e:i'=jp:=by omega
   rw [e]
   refine kS (p:=fun k=>k≤jp→(S k).m.get b=(S j).m.get b) (fun _=>rfl) (fun k hk ih hkp=>?_) jp (by omega) (Nat.le_refl _)
   rw [← ih (by omega)]
   have hbk:b<(S k).m.size:=Nat.lt_of_lt_of_le hbj (ht.Es hcs j k hk (by omega)).size
   cases hb:D9 P ops k with
   |false=>exact ht.quiet hcs (by omega) hb _ hbk
   |true =>
    obtain ⟨ok,hok⟩:=getOp (ops:=ops) (i:=k) (by omega)
    have hne:j≠k:=fun e=>by subst e;rw [a7t] at hb;cases hb
    refine ht.jP hcs hdr hok ho hl hxo hne ?_ hbv hbk
    cases hord:ordered ops k j with
    |false=>rfl
    |true =>
     exfalso
     unfold ordered at hord
     rw [if_pos (by omega)] at hord
     have hlk:=hd.h4 k (by omega) (G8 hb).1 (Q8 hb)
     have:=D5 hd.cl hback k ok j hok (hd.cl k ok hok hlk) hord
     rw [FZ] at this;cases this
  ·rcases Nat.lt_or_ge jn j with hlt|c1r
   ·have e:i'=jn:=by omega
    rw [e]
    have hun:D9 P ops jn=true∧listed.getD jn false=false:=by
     rcases hd.h3 with h|h
     ·omega
     ·exact h
    have hk:(S j).m.get b=(S jn).m.get b:=by
     refine kS (p:=fun k=>k≤j→(S k).m.get b=(S jn).m.get b) (fun _=>rfl) (fun k hk ih hkp=>?_) j (by omega) (Nat.le_refl _)
     rw [← ih (by omega)]
     have hbk:b<(S k).m.size:=Nat.lt_of_lt_of_le hbn (ht.Es hcs jn k hk (by omega)).size
     cases hb:D9 P ops k with
     |false=>exact ht.quiet hcs (by omega) hb _ hbk
     |true =>
      obtain ⟨ok,hok⟩:=getOp (ops:=ops) (i:=k) (by omega)
      have b5v:listed.getD k false=false:=by
       by_cases e:k=jn
       ·rw [e];exact hun.2
       ·cases hl:listed.getD k false with
        |false=>rfl
        |true =>
         have hbit:=((G8 hun.1).2 k e (G8 hb).1).2 (by omega)
         have:=D5 hd.cl hback k ok jn hok (hd.cl k ok hok hl) hbit
         rw [hun.2] at this;cases this
      refine ht.jP hcs hdr hok ho hl hxo (by omega) ?_ hbv hbk
      cases hord:ordered ops k j with
      |false=>rfl
      |true =>
       exfalso
       unfold ordered at hord
       rw [if_neg (by omega)] at hord
       have:=D5 hd.cl hback j o k ho hall hord
       rw [b5v] at this;cases this
    exact hk.symm
   ·have e:i'=j:=by omega
    rw [e]
 have hgen:∀ b,b<(S i').m.size→(S jn).m.gen b=(S i').m.gen b:=fun b hb =>
  CS (ht.Ii hcs i' jn (by omega) hno (fun k h1 h2=>hd.h2 k (by omega) h2) b hb)
 have hal':Ce P call (ev (S j).t) o (S i').m=some (v,(S i').m):=hrd _ key
 have hs:=hd.gI i' (by omega) (by omega)
 have hρ':∀ y∈o.op.operands,AA (cut ι (S i').m.size) (S i').m.gen (ev (S j).t y) (a.eval y):=fun y hy=>(hρ y hy).mono fun b ib hb=>by
  obtain ⟨q1,q2⟩:=dom b ib hb
  exact ⟨by rw [hgen b q1];exact Nat.le_refl _,ib,by rw [D8 q1];exact q2,fun _=>rfl⟩
 have run:∃ v',(execOp a.eval o).run P w=.ok (.value v') w∧AA (cut ι (S i').m.size) (S i').m.gen v v':=by
  obtain ⟨dst,op,ty,pos,after,guard⟩:=o
  rcases nG hl with ⟨t,y,hop⟩|⟨t,y,lo,hi,hop⟩
  ·simp only at hop
   subst hop
   simp only [Ce,EX] at hal'
   split at hal'
   ·rename_i ad had
    rw [Option.map_eq_some_iff] at hal'
    obtain ⟨u,hu,he⟩:=hal'
    cases he
    have hy:=hρ' y (by simp [Op.operands])
    rw [had] at hy
    have hsh:∃ a',a.eval y=.pointer (some a')∧NV (cut ι (S i').m.size) (S i').m.gen ad a':=by generalize a.eval y=u at hy;cases hy;exact ⟨_,rfl,by assumption⟩
    obtain ⟨a',e1,har⟩:=hsh
    obtain ⟨v',hr,NZ⟩:=Ox hs har hu
    exact ⟨v',FU (s:=Instr.loadAt t (a.eval y)) (by simp only [Instr.loadAt,e1,Instr.sureAddr,Sem.run_bind,Sem.run_pure,Result.andThen_ok];exact hr),NZ⟩
   ·cases hal'
  ·simp only at hop
   subst hop
   simp only [Ce,EX,Option.map_none] at hal'
   rw [Option.map_eq_some_iff] at hal'
   obtain ⟨u,hu,he⟩:=hal'
   cases he
   obtain ⟨v',hr,NZ⟩:=Vq hs (hρ' y (by simp [Op.operands])) (VU.map (o:=lo) fun z hz=>hρ' z (by subst hz;simp [Op.operands])) (VU.map (o:=hi) fun z hz=>hρ' z (by subst hz;simp [Op.operands]))
    (mx':=none) (.inl ⟨rfl,rfl⟩) hu
   exact ⟨v',FU hr,NZ⟩
 obtain ⟨v',hr,NZ⟩:=run
 refine ⟨v',hr,NZ.mono fun b V6 hb=>?_⟩
 obtain ⟨q1,q2⟩:=CY hb
 have hsz:=(ht.Es hcs i' (max (j+1) jp) (by omega) (by omega)).size
 exact ⟨by rw [hgen b q1];exact Nat.le_refl _,V6,by rw [D8 (by omega)];exact q2,fun _=>rfl⟩
theorem RJ {n:Nat} {o:Oper} (h:G5 G n o=true) {ro:Option Nat} {ρ:Operand→Value}:o.semAt ro ρ=execOp ρ o:=Oper.semAt_eq _ _ _ fun c hc=>by
 unfold G5 at h;rw [hc] at h;simp at h
theorem DI.junk {n:Nat} {ι ι0:BN} {a:Act} {w w0:World} {listed:Array Bool} {jp jn:Nat} (x:Obj) (hd:DI ds P G n ops S ι0 w0 listed ι a w jp jn):DI ds P G n ops S ι0 w0 listed ι a { w with heap:=w.heap.push x } jp jn :=
 ⟨hd.gV,hd.cl,hd.h1,hd.h1',hd.h2,hd.h3,hd.h4,fun j h1 h2=>(hd.gI j h1 h2).junk x,hd.a1i,hd.tsz,hd.vJ,hd.v1,hd.v0,hd.le,hd.back,hd.xC,
  by have:=hd.heap;simp only [Array.size_push];omega,
  fun c hc hf=>by
   have:=hd.heap
   show (w.heap.push x)[c]?=w0.heap[c]?
   rw [Array.getElem?_push,if_neg (by omega)]
   exact hd.frame c hc hf,hd.tape,hd.os,hd.output,hd.UK,hd.ZM⟩
theorem dS {k:Nat} (h:FP ops k=true):touches P ops k=true:=by
 unfold FP at h
 unfold touches
 cases hk:ops[k]? with
 |none=>rw [hk] at h;cases h
 |some o =>
  rw [hk] at h
  obtain ⟨dst,op,ty,pos,after,guard⟩:=o
  simp only at h ⊢
  cases op<;>simp only [Lc,Bool.false_eq_true] at h
  simpa [DF,FH] using h
theorem dL {o:Oper} {x:Operand} (h:qC o.op=some x):x∈o.op.operands:=by
 obtain ⟨dst,op,ty,pos,after,guard⟩:=o
 simp only at h ⊢
 cases op<;>simp only [qC,reduceCtorEq,Option.some.injEq] at h
 case store t a y=>subst h;simp [Op.operands]
 case call c =>
  obtain ⟨callee,args,aT⟩:=c
  cases callee<;>try cases h
  rename_i bi
  cases bi<;>try cases h
  have h':args[0]?=some x:=h
  have:=Array.mem_of_getElem? h'
  simp [Op.operands,Call.operands,this]
theorem wM {n:Nat} {ι ι0:BN} {a:Act} {w w0:World} {listed:Array Bool} {jp jn j:Nat} (hc:IY P G call) (hcs:Df call) (ht:Trace P call ops S) (hdr:Gn ops=true)
 (hops:∀ (i:Nat) (o:Oper),ops[i]?=some o→G5 G n o=true) (hG:∀ k,k∈G→k<(S 0).m.size) (hb0:∀ b ib,ι0 b=some ib→b<(S 0).m.size)
 (hd:DI ds P G n ops S ι0 w0 listed ι a w jp jn) (hr:j∈Region.ready .any ops listed) {K:Act→World→Prop} {Q:Exit→Act→World→Prop}
 (hK:∀ ι' a' w' jp' jn',DI ds P G n ops S ι0 w0 (listed.setIfInBounds j true) ι' a' w' jp' jn'→K a' w'):wpOpIn (WF rf) nn P ops Q j K a w:=by
 obtain ⟨hun,o,ho,hall⟩:=mem_ready.1 hr
 have hjlt:j<ops.size:=(Array.getElem?_eq_some_iff.1 ho).1
 have FZ:listed.getD j false=false:=by
  have hlt:j<listed.size:=by rw [hd.gV];exact hjlt
  simp [hlt] at hun ⊢
  exact hun
 obtain ⟨hop,hdn⟩:=DK (hops j o ho)
 have hop':=hops j o ho
 obtain ⟨hback,_⟩:=Gh hdr
 have place:touches P ops j=true→(FP ops j=true∧j<jp)∨jp≤j∧(D9 P ops j=true→j=jn)∧(D9 P ops j=false→j<jn):=fun xw=>by
  by_cases hnl:FP ops j=true∧j<jp
  ·exact .inl hnl
  refine .inr ?_
  have h1:jp≤j:=by
   rcases Nat.lt_or_ge j jp with h|h
   ·have:=hd.h4 j h xw (by cases hx:FP ops j with|false=>rfl|true=>exact absurd ⟨hx,h⟩ hnl)
    rw [FZ] at this;cases this
   ·exact h
  have h2:j≤jn:=by
   rcases hd.h3 with h|⟨q1,q2⟩
   ·omega
   ·rcases Nat.lt_or_ge jn j with h|h
    ·obtain ⟨_,t2⟩:=G8 q1
     have hbit:=(t2 j (by omega) xw).2 h
     have:=D5 hd.cl hback j o jn ho hall hbit
     rw [q2] at this;cases this
    ·exact h
  refine ⟨h1,fun hb=>?_,fun hb=>?_⟩
  ·rcases Nat.lt_or_ge j jn with h|h
   ·have:=hd.h2 j h1 h
    rw [hb] at this;cases this
   ·omega
  ·rcases Nat.lt_or_ge j jn with h|h
   ·exact h
   ·have:j=jn:=by omega
    subst this
    rcases hd.h3 with h|⟨q1,_⟩
    ·omega
    ·rw [hb] at q1;cases q1
 have lU:D9 P ops j=true→touches P ops j=true:=fun h=>(G8 h).1
 have a9h:D9 P ops j=true→j=jn:=fun h=>by
  rcases place (lU h) with ⟨h1,_⟩|h1
  ·rw [Q8 h] at h1;cases h1
  ·exact h1.2.1 h
 unfold wpOpIn
 simp only [ho]
 rw [wL ht hcs hdr hd ho FZ hall]
 rcases Gq (ht.step j o ho) with ⟨hw,htt,x,hm,hx1,hx2⟩|⟨hw,v,m',hv,htt,hm,hor⟩
 ·rw [hw]
  simp only [Bool.false_eq_true,if_false]
  refine ⟨fun _ _=>trivial,?_⟩
  have oN:∀ d,o.dst=some d→CB (S (j+1)).t d=undef:=fun d hdd=>by
   rw [htt,hdd];simp only [Gz];rw [Di,if_pos rfl]
  cases hb:D9 P ops j with
  |true =>
   have hj:=a9h hb
   subst hj
   have hs:=(hd.gI j hd.h1 (Nat.le_refl _)).low (S j).m.size
   obtain ⟨ι',jp',jn',hd'⟩:=DI.bar (v:=undef) (v':=undef) (m':=EF (S j).m (S j).m.size) (y:=x) ht hcs hdr hd ho FZ hall hdn hb0 hb (by rw [hm];rfl) hx2 oN (fun _ _ _ _ _ _ _=>by rw [hm];rfl) (Ext.refl _ _ _) hs AA.undef
   exact hK _ _ _ _ _ hd'
  |false =>
   exact hK _ _ _ _ _ (DI.still hcs ht hdr hd ho FZ hall hdn hb fun d hdd=>by rw [oN d hdd];exact AA.undef)
 ·rw [hw]
  simp only [if_true]
  have oN:∀ d,o.dst=some d→CB (S (j+1)).t d=v:=fun d hdd=>by
   rw [htt,hdd];simp only [Gz];rw [Di,if_pos rfl]
  have hρ:=gq ht hcs hdr hd hG ho FZ hall hop
  by_cases hq:DF P o.op=true
  ·
   have hv':EX P (ev (S j).t) o (EF (S j).m (S j).m.size)=some (v,m'):=by
    unfold Ce at hv
    split at hv
    ·rename_i f args aT b5e
     rw [b5e] at hq
     simp [DF] at hq
    ·exact hv
   have hnt:touches P ops j=false:=by unfold touches;rw [ho];simp [hq]
   have hnb:D9 P ops j=false:=by
    cases hb:D9 P ops j with
    |false=>rfl
    |true=>have:=lU hb;rw [hnt] at this;cases this
   by_cases hns:∀ t len ps,o.op≠.buildSlice t len ps
   case neg =>
    obtain ⟨t,h0⟩:=Classical.not_forall.1 hns
    obtain ⟨len,h0⟩:=Classical.not_forall.1 h0
    obtain ⟨ps,h0⟩:=Classical.not_forall.1 h0
    obtain ⟨x,hx⟩:=gG (Classical.not_not.1 h0) hq hρ hv'
    obtain ⟨hrun,NZ⟩:=hx w
    unfold Oper.wpIn
    rw [RJ hop',hrun]
    refine ⟨fun _ _=>trivial,?_⟩
    refine hK _ _ _ _ _ (DI.junk x (DI.still hcs ht hdr hd ho FZ hall hdn hnb fun d hdd=>?_))
    rw [oN d hdd]
    exact NZ.mono (Le.cut (ht.Es hcs (max j jp) (max (j+1) jp) (by omega) (by have:=hd.h1;have:=hd.h1';omega)).size)
   obtain ⟨v',hrun,NZ⟩:=gY hq hns hρ hv'
   unfold Oper.wpIn
   rw [RJ hop',hrun w]
   refine ⟨fun _ _=>trivial,?_⟩
   refine hK _ _ _ _ _ (DI.still hcs ht hdr hd ho FZ hall hdn hnb fun d hdd=>?_)
   rw [oN d hdd]
   exact NZ.mono (Le.cut (ht.Es hcs (max j jp) (max (j+1) jp) (by omega) (by have:=hd.h1;have:=hd.h1';omega)).size)
  by_cases hl:FH o.op=true
  ·obtain ⟨v',hrun,NZ⟩:=DI.load ht hcs hdr hd ho FZ hall hl hv hρ
   have hnb:D9 P ops j=false:=by unfold D9;rw [ho];simp [hl]
   unfold Oper.wpIn
   rw [RJ hop',hrun]
   refine ⟨fun _ _=>trivial,?_⟩
   refine hK _ _ _ _ _ (DI.still hcs ht hdr hd ho FZ hall hdn hnb fun d hdd=>?_)
   rw [oN d hdd]
   exact NZ
  ·have xw:touches P ops j=true:=by unfold touches;rw [ho];simp [hq,hl]
   rcases place xw with ⟨hnw,hjl⟩|⟨hjp,a6d,b1o⟩
   ·have hn:Lc o.op=true:=by unfold FP at hnw;rw [ho] at hnw;exact hnw
    obtain ⟨v',w',ι',hrun,hd'⟩:=DI.late ht hcs hdr hd ho FZ hall hdn hjl hn hv hm oN hρ
    unfold Oper.wpIn
    rw [RJ hop',hrun]
    refine ⟨fun _ _=>trivial,?_⟩
    exact hK _ _ _ _ _ hd'
   have hjn:j≤jn:=by
    cases hb:D9 P ops j with
    |true=>have:=a6d hb;omega
    |false=>have:=b1o hb;omega
   have hs:=(hd.gI j hjp hjn).low (S j).m.size
   rw [Nat.max_eq_left hjp] at hρ
   have hρ':∀ x∈o.op.operands,AA (cut ι (S j).m.size) (EF (S j).m (S j).m.size).gen (ev (S j).t x) (a.eval x):=fun x hx=>(hρ x hx).mono fun b ib hb=>by
    have hbl:=(CY hb).1
    have:=ht.Ii hcs j jn hjn hd.h1' (fun k h1 h2=>hd.h2 k (by omega) h2) b hbl
    refine ⟨?_,ib,hb,fun _=>rfl⟩
    show (S jn).m.gen b≤(S j).m.gen b
    rw [CS this];exact Nat.le_refl _
   refine MW hc hs hρ' hv fun v' w' hp=>?_
   obtain ⟨ι1,hext,Dp,NZ⟩:=hp
   cases hb:D9 P ops j with
   |true =>
    have hj:=a6d hb
    subst hj
    have hkeep:∀ k,k<j→FP ops k=true→listed.getD k false=false→∀ b,(S k).m.size≤b→b<(S (k+1)).m.size→(S (j+1)).m.get b=(S j).m.get b:=fun k hk hnk hlk b h1 h2=>by
     have hbj:b<(S j).m.size:=Nat.lt_of_lt_of_le h2 (ht.Es hcs (k+1) j (by omega) (by omega)).size
     have htk:touches P ops k=true:=dS hnk
     rw [hm]
     show m'.get b=(S j).m.get b
     have strict:barrier P ops j=true∨OD P ops j=true→m'.get b=(S j).m.get b:=fun h=>by
      have:=D5 hd.cl hback j o k ho hall (cu h hnk htk hk)
      rw [hlk] at this;cases this
     rcases hor with h|h|⟨h,_⟩|⟨h,_⟩
     ·exact strict (.inl h)
     ·exact (Ja hcs hv).keep _ hbj (Nat.lt_of_lt_of_le hbj h)
     ·unfold dM at h
      rw [Bool.and_eq_true,ho] at h
      obtain ⟨x,hx⟩:=Option.isSome_iff_exists.1 h.1
      refine Vo (m:=EF (S j).m (S j).m.size) hx hv hbj fun he=>?_
      obtain ⟨ib,h3⟩:=(hρ' x (dL hx)).blk he
      exact hd.UK b ib k (CY h3).2 (by omega) hlk ⟨h1,h2⟩
     ·exact strict (.inr h)
    obtain ⟨ι',jp',jn',hd'⟩:=DI.bar (v:=v) (v':=v') (m':=m') ht hcs hdr hd ho FZ hall hdn hb0 hb hm (Nat.min_le_right _ _) oN hkeep hext Dp NZ
    exact hK _ _ _ _ _ hd'
   |false =>
    have hlow:(S j).m.size≤m'.low:=by
     by_cases hn:Lc o.op=true
     ·obtain ⟨l,e,k,_,h2,_⟩:=TY hn hv
      rw [h2];exact Nat.le_refl _
     rcases hor with h|h|⟨h,_⟩|⟨h,_⟩
     ·exfalso
      unfold D9 at hb
      rw [ho] at hb
      simp [hq,hl,hn,h] at hb
     ·exact h
     ·exfalso
      unfold D9 at hb
      rw [ho] at hb
      simp [hq,hl,hn,h] at hb
     ·exfalso
      unfold D9 at hb
      rw [ho] at hb
      simp [hq,hl,hn,h] at hb
    obtain ⟨ι',hd'⟩:=DI.quiet (v:=v) (v':=v') ht hcs hdr hd ho FZ hall hdn hjp (b1o hb) hm hlow (Ja hcs hv) oN hext Dp NZ
    exact hK _ _ _ _ _ hd'
def unl (ops:Array Oper) (listed:Array Bool):Nat:=((List.range ops.size).filter fun i=>listed.getD i false==false).length
theorem a3j {listed:Array Bool} {j:Nat} (hsz:listed.size=ops.size) (hj:j<ops.size) (hu:listed.getD j false=false):unl ops (listed.setIfInBounds j true)+1=unl ops listed:=by
 have hj':j<listed.size:=by omega
 have key:∀ (l:List Nat),l.Nodup→j∈l→(l.filter fun i=>(listed.setIfInBounds j true).getD i false==false).length+1=(l.filter fun i=>listed.getD i false==false).length:=by
  intro l
  induction l with
  |nil=>intro _ h;cases h
  |cons x l ih =>
   intro hn hm
   rw [List.nodup_cons] at hn
   by_cases e:x=j
   ·subst e
    have e1:l.filter (fun i=>(listed.setIfInBounds x true).getD i false==false)=l.filter (fun i=>listed.getD i false==false):=by
     apply List.filter_congr
     intro i hi
     rw [Dz hj',if_neg (fun e=>by subst e;exact hn.1 hi)]
    rw [List.filter_cons,List.filter_cons,Dz hj',if_pos rfl,hu,e1]
    simp
   ·have hm':j∈l:=by
     rcases List.mem_cons.1 hm with h|h
     ·exact absurd h.symm e
     ·exact h
    have:=ih hn.2 hm'
    rw [List.filter_cons,List.filter_cons,Dz hj',if_neg e]
    split
    ·simp only [List.length_cons];omega
    ·omega
 exact key _ List.nodup_range (List.mem_range.2 hj)
theorem Qg {listed:Array Bool} (hsz:listed.size=ops.size) (hback:∀ (i:Nat) (o:Oper),ops[i]?=some o→∀ e∈o.after,Region.binds .any e=true→e.on<i) (h:Region.ready .any ops listed=[]) :
 ∀ i,i<ops.size→listed.getD i false=true:=by
 intro i
 induction i using Nat.strongRecOn with
 |_ i ih =>
  intro hi
  cases hl:listed.getD i false with
  |true=>rfl
  |false =>
   exfalso
   obtain ⟨o,ho⟩:=getOp hi
   have hil:i<listed.size:=by omega
   have:i∈Region.ready .any ops listed:=mem_ready.2 ⟨by simp [hil] at hl ⊢;exact hl,o,ho,fun e he hb=>by
    have hlt:=hback i o ho e he hb
    exact ih e.on hlt (by omega)⟩
   rw [h] at this
   cases this
theorem a0u {listed:Array Bool} (h:unl ops listed=0):∀ i,i<ops.size→listed.getD i false=true:=by
 intro i hi
 unfold unl at h
 have h0:=List.length_eq_zero_iff.1 h
 cases hl:listed.getD i false with
 |true=>rfl
 |false =>
  have:i∈(List.range ops.size).filter fun i=>listed.getD i false==false:=List.mem_filter.2 ⟨List.mem_range.2 hi,by rw [hl];rfl⟩
  rw [h0] at this
  cases this
theorem DI.done {n:Nat} {ι ι0:BN} {a:Act} {w w0:World} {listed:Array Bool} {jp jn:Nat} (hcs:Df call) (ht:Trace P call ops S) (hd:DI ds P G n ops S ι0 w0 listed ι a w jp jn)
 (hall:∀ i,i<ops.size→listed.getD i false=true):Reach P G ds n ι0 (S 0) w0 (S ops.size) a w:=by
 have hjn:jn=ops.size:=by
  rcases hd.h3 with h|⟨h1,h2⟩
  ·exact h
  ·rcases Nat.lt_or_ge jn ops.size with h|h
   ·rw [hall jn h] at h2;cases h2
   ·have:=hd.h1';omega
 subst hjn
 have hm:=ht.Es hcs 0 ops.size (Nat.zero_le _) (Nat.le_refl _)
 refine ⟨ι,⟨hm.size,hm.low,hm.keep,hm.ro,hm.ro',hd.le,hd.back,hd.xC,hd.heap,hd.frame,hd.tape,hd.os,hd.output⟩,?_,hd.tsz,hd.vJ,fun t=>?_⟩
 ·refine (hd.gI ops.size hd.h1 (Nat.le_refl _)).congr fun b=>?_
  cases hib:ι b with
  |none =>
   unfold cut;split
   ·exact hib.symm
   ·rfl
  |some ib=>rw [D8 (hd.Xh ht hcs hib)];exact hib.symm
 ·by_cases hw:∃ (i:Nat) (oi:Oper),ops[i]?=some oi∧oi.dst=some t
  ·obtain ⟨i,oi,hi,hdi⟩:=hw
   exact (hd.v1 i oi t hi hdi (hall i (Array.getElem?_eq_some_iff.1 hi).1)).mono Le.a5l
  ·have h0:=hd.v0 t fun i oi hi hdi=>absurd ⟨i,oi,hi,hdi⟩ hw
   have e1:CB (S ops.size).t t=CB (S 0).t t:=ht.tmps t 0 ops.size (Nat.zero_le _) (Nat.le_refl _) fun k ok _ _ hok hdk=>hw ⟨k,ok,hok,hdk⟩
   rw [e1]
   exact h0.mono Le.a5l
theorem zM {n:Nat} {ι0:BN} {w0:World} (hc:IY P G call) (hcs:Df call) (ht:Trace P call ops S) (hdr:Gn ops=true)
 (hops:∀ (i:Nat) (o:Oper),ops[i]?=some o→G5 G n o=true) (hG:∀ k,k∈G→k<(S 0).m.size) (hb0:∀ b ib,ι0 b=some ib→b<(S 0).m.size) {Q:Exit→Act→World→Prop}
 (hQ:∀ a' w',Reach P G ds n ι0 (S 0) w0 (S ops.size) a' w'→Q .normal a' w'):∀ (fuel:Nat) (listed:Array Bool) (ι:BN) (a:Act) (w:World) (jp jn:Nat),
 DI ds P G n ops S ι0 w0 listed ι a w jp jn→unl ops listed=fuel→wpAnyIn (WF rf) nn P .any ops Q fuel listed a w:=by
 obtain ⟨hback,_⟩:=Gh hdr
 intro fuel
 induction fuel with
 |zero =>
  intro listed ι a w jp jn hd hu
  have hall:=a0u hu
  refine ⟨?_,hQ a w (hd.done hcs ht hall)⟩
  rw [List.eq_nil_iff_forall_not_mem]
  intro j hj
  obtain ⟨h1,o,ho,_⟩:=mem_ready.1 hj
  have hjlt:=(Array.getElem?_eq_some_iff.1 ho).1
  have h2:=hall j hjlt
  have hjl:j<listed.size:=by rw [hd.gV];exact hjlt
  simp [hjl] at h1 h2
  rw [h1] at h2;cases h2
 |succ fuel ih =>
  intro listed ι a w jp jn hd hu
  refine ⟨fun hr=>hQ a w (hd.done hcs ht (Qg hd.gV hback hr)),fun j hj=>?_⟩
  refine wM hc hcs ht hdr hops hG hb0 hd hj fun ι' a' w' jp' jn' hd'=>ih _ ι' a' w' jp' jn' hd' ?_
  obtain ⟨h1,o,ho,_⟩:=mem_ready.1 hj
  have hjlt:=(Array.getElem?_eq_some_iff.1 ho).1
  have hjl:j<listed.size:=by rw [hd.gV];exact hjlt
  have FZ:listed.getD j false=false:=by simp [hjl] at h1 ⊢;exact h1
  have:=a3j (ops:=ops) hd.gV hjlt FZ
  omega
theorem YU (hc:IY P G call) (hcs:Df call) (jq:P.follows .mixedOrders=true):bD P G call:=by
 intro ds rf nn n id ops s s' ι a w Q hok hdr h hst hq
 obtain ⟨S,e0,eN,htr⟩:=SN ops.toList 0 s s' h
 simp only [Nat.zero_add] at eN htr
 have hlen:ops.toList.length=ops.size:=by simp
 rw [hlen] at eN
 subst e0;subst eN
 have ht:Trace P call ops S:=⟨fun i o ho=>htr i o (by simpa using ho)⟩
 have hops:∀ (i:Nat) (o:Oper),ops[i]?=some o→G5 G n o=true:=fun i o ho=>hok o (by
  have:=Array.mem_of_getElem? ho
  simpa using this)
 have hG:∀ k,k∈G→k<(S 0).m.size:=fun k hk=>by
  obtain ⟨ib,h1,_⟩:=hst.1.glob k hk
  exact (hst.1.dom k ib h1).1
 have hb0:∀ b ib,ι b=some ib→b<(S 0).m.size:=fun b ib hb=>(hst.1.dom b ib hb).1
 refine wpIn_region_any jq ?_
 have hnone:∀ i,(Array.replicate ops.size false).getD i false=false:=fun i=>by
  by_cases hi:i<ops.size<;>simp [hi]
 obtain ⟨jn,n1,n2,n3,n4⟩:=sJ ops 0 (Nat.zero_le _)
 have hq0:∀ i',i'≤jn→∀ b,b<(S 0).m.size→(S i').m.get b=(S 0).m.get b:=fun i' h1=>ht.Ii hcs 0 i' (Nat.zero_le _) (by omega) (fun k _ h2=>n3 k (Nat.zero_le _) (by omega))
 have hle:∀ x,Le (cut ι x) (S 0).m.gen (cut ι x) (S jn).m.gen:=fun x b ib hb=>by
  have:=hq0 jn (Nat.le_refl _) b (hb0 b ib (CY hb).2)
  exact ⟨by rw [CS this];exact Nat.le_refl _,ib,hb,fun _=>rfl⟩
 refine zM (ds:=ds) (S:=S) (ι0:=ι) (w0:={ w with drawn:=w.drawn+1 }) hc hcs ht hdr hops hG hb0 (fun a' w' hr=>hq a' w' ?_) ops.size _ ι a { w with drawn:=w.drawn+1 } 0 jn ?_ ?_
 ·obtain ⟨ι',h1,h2⟩:=hr
  exact ⟨ι',⟨h1.size,h1.low,h1.keep,h1.ro,h1.ro',h1.le,h1.back,h1.dom,h1.heap,h1.frame,h1.tape,h1.os,h1.output⟩,h2⟩
 ·refine ⟨by simp,(fun i o _ hl=>by rw [hnone] at hl;cases hl),Nat.zero_le _,n2,fun k _ h2=>n3 k (Nat.zero_le _) h2,?_,fun k hk=>by omega,fun i' _ h2=>?_,fun b ib hb=>.inl (hb0 b ib hb),hst.2.size,hst.2.defers,
   (fun i o t _ _ hl=>by rw [hnone] at hl;cases hl),fun t _=>?_,fun b ib hb=>?_,fun b ib hb=>.inl ⟨ib,hb,rfl⟩,fun b ib hb=>.inl ⟨ib,hb⟩,Nat.le_refl _,fun _ _ _=>rfl,rfl,rfl,rfl,
   fun b ib k hb hk _ h=>by have:=hb0 b ib hb;have:=(ht.Es hcs 0 k (Nat.zero_le _) (by omega)).size;omega,fun k hk=>by omega⟩
  ·rcases n4 with h|h
   ·exact .inl h
   ·exact .inr ⟨h,hnone jn⟩
  ·have hsz:=(ht.Es hcs 0 i' (Nat.zero_le _) (by omega)).size
   refine ((hst.1.drawn (w.drawn+1)).extend hsz (hq0 i' h2)).congr fun b=>?_
   cases hib:ι b with
   |none =>
    unfold cut;split
    ·exact hib
    ·rfl
   |some ib=>rw [D8 (Nat.lt_of_lt_of_le (hb0 b ib hib) hsz)];exact hib
  ·refine (hst.2.val t).mono fun b ib hb=>?_
   have hbl:=hb0 b ib hb
   have hc:cut ι (S 0).m.size b=some ib:=by rw [D8 hbl];exact hb
   obtain ⟨q1,ib',q2,q3⟩:=hle (S 0).m.size b ib hc
   exact ⟨q1,ib',q2,q3⟩
  ·have:=hq0 jn (Nat.le_refl _) b (hb0 b ib hb)
   exact ⟨by rw [CS this];exact Nat.le_refl _,ib,hb,fun _=>rfl⟩
 ·unfold unl
  rw [List.filter_eq_self.2 (fun i _=>by rw [hnone];rfl)]
  simp
end
section
variable {P:Program} {G:List Nat} {ds:List Deferred} {rf:Option Nat} {nn:Nat}
theorem VA {call:Ep} (hc:Df call) {ops:Array Oper}:∀ (l:List Oper) (s s':St),J4 P call ops l s=some s'→AV s.m s'.m
 |[],s,s',h=>by cases h;exact AV.refl _
 |o::l,s,s',h=>by
  simp only [J4] at h
  cases h1:KZ P call ops o s with
  |none=>rw [h1] at h;cases h
  |some s1 =>
   rw [h1] at h
   refine AV.trans ?_ (VA hc l s1 s' h)
   unfold KZ at h1
   split at h1
   ·unfold nM at h1
    split at h1
    ·rename_i v m hv;cases h1;exact Ja hc hv
    ·cases h1
   ·cases h1;exact AV.refl _
theorem Vk {call:Ep} (hc:Df call) {ops:Array Oper}:∀ (l:List Oper) (i:Nat) (s s':St),Js P call ops i l s=some s'→AV s.m s'.m
 |[],i,s,s',h=>by cases h;exact AV.refl _
 |o::l,i,s,s',h=>by
  simp only [Js] at h
  cases h1:N7 P call ops i o s with
  |none=>rw [h1] at h;cases h
  |some s1 =>
   rw [h1] at h
   refine AV.trans ?_ (Vk hc l (i+1) s1 s' h)
   rcases Gq h1 with ⟨_,_,x,hm,hx,_⟩|⟨_,v,m',hv,_,hm,_⟩
   ·rw [hm];exact ⟨Nat.le_refl _,hx,fun _ _ _=>rfl,fun _ _ _=>rfl,fun _ _=>rfl⟩
   ·have hs:=Ja hc hv
    rw [hm]
    exact ⟨hs.size,Nat.min_le_left _ _,fun b hb hl=>hs.keep b hb (Nat.lt_of_lt_of_le hl (Nat.min_le_right _ _)),fun b hb hr=>hs.ro b hb hr,fun b hb=>hs.ro' b hb⟩
theorem Ob {n:Nat} {NT body:St→Option (BZ×St)} {ask:Mem→Prop} {t:Tr Value} {ps:List Tmp} (ha:∀ s s' x,NT s=some (x,s')→AV s.m s'.m) (hb:∀ s s' x,body s=some (x,s')→AV s.m s'.m) :
 ∀ (rows:List (List Value)) (m m':Mem) (x:BZ),Ea n NT body ask t ps rows m=some (x,m')→AV m m'
 |[],m,m',x,h=>by
  simp only [Ea,Option.some.injEq,Prod.mk.injEq] at h
  rw [h.2];exact AV.refl _
 |vs::rest,m,m',x,h=>by
  obtain ⟨_,_,s1,e3,xb,s2,e5,e7⟩:=Ky h
  have hs:=(ha _ _ _ e3).trans (hb _ _ _ e5)
  have h1:AV m (Ie s2.m (min m.low s2.m.low)):=⟨hs.size,Nat.min_le_left _ _,fun b hb hl=>hs.keep b hb (Nat.lt_of_lt_of_le hl (Nat.min_le_right _ _)),fun b hb hr=>hs.ro b hb hr,fun b hb=>hs.ro' b hb⟩
  rcases e7 with ⟨_,_,q⟩|⟨_,_,q⟩
  ·exact h1.trans (Ob ha hb rest _ _ _ q)
  ·rw [q];exact h1
theorem YM {call:Ep} (hc:Df call) {N:Nat}:∀ (c:Code) (s s':St) (x:BZ),BX P call N c s=some (x,s')→AV s.m s'.m:=by
 intro c
 induction c with
 |skip=>intro s s' x h;cases h;exact AV.refl _
 |label l=>intro s s' x h;cases h;exact AV.refl _
 |ret=>intro s s' x h;cases h;exact AV.refl _
 |exit id=>intro s s' x h;cases h;exact AV.refl _
 |goto l=>intro s s' x h;cases h
 |scope b _=>intro s s' x h;cases h
 |refuse y=>intro s s' x h;cases h
 |rangeFunc f ps y z ihy ihz =>
  intro s s' x h
  simp only [BX] at h
  split at h
  case h_2=>cases h
  split at h
  case h_2=>cases h
  split at h
  case isFalse=>cases h
  split at h
  case h_2=>cases h
  split at h
  case h_2=>cases h
  rw [Option.map_eq_some_iff] at h
  obtain ⟨⟨x1,m'⟩,hrun,he⟩:=h
  cases he
  exact Ob ihy ihz _ _ _ _ hrun
 |seq c1 c2 ih1 ih2 =>
  intro s s' x h
  simp only [BX] at h
  cases h1:BX P call N c1 s with
  |none=>rw [h1] at h;cases h
  |some r =>
   obtain ⟨x1,s1⟩:=r
   rw [h1] at h
   have:=ih1 s s1 x1 h1
   cases x1 with
   |normal=>exact this.trans (ih2 s1 s' x h)
   |ret=>cases h;exact this
   |exit id=>cases h;exact this
 |cond c0 c1 c2 ih1 ih2 =>
  intro s s' x h
  simp only [BX] at h
  split at h
  ·exact ih1 s s' x h
  ·exact ih2 s s' x h
  ·cases h
 |block id b ih =>
  intro s s' x h
  simp only [BX] at h
  cases h1:BX P call N b s with
  |none=>rw [h1] at h;cases h
  |some r =>
   obtain ⟨x1,s1⟩:=r
   rw [h1] at h
   have:=ih s s1 x1 h1
   cases x1 with
   |normal=>cases h;exact this
   |ret=>cases h;exact this
   |exit i=>simp only at h;split at h<;>(cases h;exact this)
 |loop b ih =>
  intro s s' x h
  simp only [BX] at h
  have key:∀ (k:Nat) (s s':St) (x:BZ),iterate (BX P call N b) k s=some (x,s')→AV s.m s'.m:=by
   intro k
   induction k with
   |zero=>intro s s' x h;cases h
   |succ k ihk =>
    intro s s' x h
    simp only [iterate] at h
    cases h1:BX P call N b s with
    |none=>rw [h1] at h;cases h
    |some r =>
     obtain ⟨x1,s1⟩:=r
     rw [h1] at h
     have:=ih s s1 x1 h1
     cases x1 with
     |normal=>exact this.trans (ihk s1 s' x h)
     |ret=>cases h;exact this
     |exit id=>cases h;exact this
  exact key N s s' x h
 |region id ops draw =>
  intro s s' x h
  cases draw with
  |false =>
   simp only [BX,Option.map_eq_some_iff] at h
   obtain ⟨s1,h1,he⟩:=h
   cases he
   exact VA hc _ _ _ h1
  |true =>
   simp only [BX,Option.map_eq_some_iff] at h
   obtain ⟨s1,h1,he⟩:=h
   cases he
   exact Vk hc _ _ _ _ h1
theorem F9:∀ (l:List Value) (k:Nat) (t:Tr Value) (i:Nat),CB (tmpsOf k l t) i=if k≤i∧i<k+l.length then l.getD (i-k) undef else CB t i
 |[],k,t,i=>by simp only [tmpsOf];rw [if_neg (by simp)]
 |v::l,k,t,i=>by
  simp only [tmpsOf]
  rw [F9 l (k+1) (Og t k v) i,Di]
  by_cases h1:k+1≤i∧i<k+1+l.length
  ·rw [if_pos h1,if_pos (by simp only [List.length_cons];omega)]
   have:i-k=(i-(k+1))+1:=by omega
   rw [this,List.getD_cons_succ]
  ·rw [if_neg h1]
   by_cases h2:k=i
   ·subst h2
    rw [if_pos rfl,if_pos (by simp only [List.length_cons];omega)]
    simp
   ·rw [if_neg h2,if_neg (by simp only [List.length_cons];omega)]
def eY (tmps:Array Value):ResultVar→Sem Value
 | .tmp t=>pure (tmps.getD t undef)
 | .cell a t=>do loadVar t (← asAddr (tmps.getD a undef))
theorem Yo {ι:BN} {s:St} {n:Nat} {a:Act} {w:World} (hst:DV P G ds n s ι a w) {r:ResultVar} {v:Value} (h:Je P s r=some v) :
 ∃ v',(eY a.tmps r).run P w=.ok v' w∧AA ι s.m.gen v v':=by
 cases r with
 |tmp t=>cases h;exact ⟨_,rfl,hst.2.val t⟩
 |cell c t =>
  simp only [Je] at h
  have hv:=hst.2.val c
  cases hc:CB s.t c<;>rw [hc] at h hv<;>first|(cases h;done)|skip
  rename_i ad
  cases ad with
  |none=>cases h
  |some ad =>
   obtain ⟨a',e1,har⟩:∃ a',a.tmps.getD c undef=.pointer (some a')∧NV ι s.m.gen ad a':=by
    generalize a.tmps.getD c undef=u at hv
    cases hv;exact ⟨_,rfl,by assumption⟩
   obtain ⟨v',hr,NZ⟩:=Ox hst.1 har h
   exact ⟨v',by simp only [eY,e1,asAddr,Sem.run_bind,Sem.run_pure,Result.andThen_ok];exact hr,NZ⟩
theorem Qz {ι:BN} {s:St} {n:Nat} {a:Act} {w:World} (hst:DV P G ds n s ι a w):∀ (rs:List ResultVar) (vs:List Value),NH (Je P s) rs=some vs →
 ∃ vs',(rs.mapM (eY a.tmps)).run P w=.ok vs' w∧BI ι s.m.gen vs vs'
 |[],vs,h=>by cases h;exact ⟨[],rfl,BI.nil⟩
 |r::rs,vs,h=>by
  simp only [NH] at h
  split at h
  ·rename_i v l h1 h2
   cases h
   obtain ⟨v',q1,q2⟩:=Yo hst h1
   obtain ⟨l',r1,r2⟩:=Qz hst rs l h2
   refine ⟨v'::l',?_,BI.cons q2 r2⟩
   rw [List.mapM_cons]
   simp only [Sem.run_bind,q1,Result.andThen_ok,r1,Sem.run_pure]
  ·cases h
theorem NJ {ι:BN} {s:St} {n:Nat} {a:Act} {w:World} {fn:Func} {v:Value} (hst:DV P G ds n s ι a w) (h:EN P fn s=some v) :
 ∃ v',(results fn a.tmps).run P w=.ok v' w∧AA ι s.m.gen v v':=by
 have heq:results fn a.tmps=(do let vs ← fn.results.mapM (eY a.tmps);pure (if h:vs.size=1 then vs[0] else .tuple vs)):=by
  unfold results
  first
   |rfl
   |(congr 1;congr 1;funext r;cases r<;>rfl)
 unfold EN at h
 have run:∀ vs,NH (Je P s) fn.results.toList=some vs→∃ vs':List Value,BI ι s.m.gen vs vs'∧(results fn a.tmps).run P w=.ok (if h:vs'.toArray.size=1 then vs'.toArray[0] else .tuple vs'.toArray) w:=fun vs hvs=>by
  obtain ⟨vs',h1,h2⟩:=Qz hst _ _ hvs
  refine ⟨vs',h2,?_⟩
  rw [heq,Array.mapM_eq_mapM_toList]
  simp only [Sem.run_bind,Sem.run_map,h1,Result.andThen_ok,Sem.run_pure]
 split at h
 ·rename_i v0 hl
  cases h
  obtain ⟨vs',h1,h2⟩:=run _ hl
  obtain ⟨v',k',rfl,hv,hk⟩:=h1.Jt
  have:k'=[]:=List.length_eq_zero_iff.1 hk.1.symm
  subst this
  exact ⟨v',by rw [h2];simp,hv⟩
 ·rename_i vs hne hl
  cases h
  obtain ⟨vs',h1,h2⟩:=run _ hl
  have hlen:vs'.length≠1:=fun e=>by
   have:vs.length=1:=h1.1.trans e
   match vs,this with
   |[x],_=>exact hne x rfl
  exact ⟨.tuple vs'.toArray,by rw [h2];simp [hlen],.tuple vs vs' h1.1 h1.2⟩
 ·cases h
def Vy (P:Program) (G:List Nat) (f:FuncId) (F:List Value→Mem→Option (Value×Mem)):Prop:=∀ (fn:Func) (lb:List Value) (m m1:Mem) (v:Value) (rows:List (List Value)),P.funcs[f]?=some fn→F (Ed fn.ntmps lb) m=some (v,m1)→MK v=some rows →
 ∀ (ι:BN) (w:World) (lb':Array Value),DL P G ι m w→BI ι m.gen lb lb'.toList→YB P f lb' rows (Np P G (fun m'=>∃ m1',F (Ed fn.ntmps lb) m'=some (v,m1')) ι m.gen lb lb') w
theorem Vy.a3f {f:FuncId} {F:List Value→Mem→Option (Value×Mem)} (h:∀ BF m v m',F BF m=some (v,m')→MK v=none):Vy P G f F:=fun fn lb m m1 v rows _ h1 h2=>by rw [h _ _ _ _ h1] at h2;cases h2
theorem Yn (n:Nat) (lb:List Value):Ed n lb=SL::(List.replicate n SL++lb):=rfl
theorem Vy.none {f:FuncId} {F:List Value→Mem→Option (Value×Mem)} (h:∀ n lb m,F (Ed n lb) m=none):Vy P G f F:=fun fn lb m m1 v rows _ h1=>by rw [h] at h1;cases h1
def FT (P:Program) (G:List Nat) (O:CJ):Prop:=∀ f F,O f=some F→rF P G f F∧(∀ BF m v m',F BF m=some (v,m')→AV m m')∧Enters P f∧Vy P G f F
theorem MV {O:CJ} {N:Nat} (hO:FT P G O):∀ D,Df (EP P O G N D)
 |0=>fun f BF m v m' h=>by cases h
 |D+1=>fun f BF m v m' h=>by
  simp only [EP] at h
  split at h
  ·rename_i r hF
   rw [Option.bind_eq_some_iff] at hF
   obtain ⟨F,hF,hr⟩:=hF
   cases h
   exact (hO f F hF).2.1 BF m v m' hr
  ·split at h
   ·cases h
   ·split at h
    ·cases h
    ·split at h
     ·split at h
      ·rename_i s' hx
       rw [Option.map_eq_some_iff] at h
       obtain ⟨u,_,h2⟩:=h
       cases h2
       exact YM (MV hO D) _ _ _ _ hx
      ·rename_i s' hx
       rw [Option.map_eq_some_iff] at h
       obtain ⟨u,_,h2⟩:=h
       cases h2
       exact YM (MV hO D) _ _ _ _ hx
      ·cases h
     ·cases h
theorem Sj (n:Nat) (lb:List Value):n<(Ed n lb).length:=by unfold Ed;simp;omega
theorem aN {O:CJ} {N:Nat} (hO:FT P G O):∀ D,XK P G (EP P O G N D)
 |0=>fun g fn lb m m1 v rows _ h=>by cases h
 |D+1=>fun g fn lb m m1 v rows hfn h hr=>by
  have hrun:∀ m',(O g).bind (fun F=>F (Ed fn.ntmps lb) m')=none→EP P O G N (D+1) g (Ed fn.ntmps lb) m'=none:=fun m' h0=>by
   have:=Sj fn.ntmps lb
   simp only [EP,h0,hfn]
   split
   ·rfl
   ·rw [if_neg (by simp only [Bool.and_eq_true,decide_eq_true_eq];omega)]
  have hall:∀ m',EP P O G N (D+1) g (Ed fn.ntmps lb) m'=(O g).bind (fun F=>F (Ed fn.ntmps lb) m'):=fun m'=>by
   cases h0:(O g).bind (fun F=>F (Ed fn.ntmps lb) m') with
   |none=>exact hrun m' h0
   |some r=>simp only [EP,h0]
  rw [hall] at h
  rw [Option.bind_eq_some_iff] at h
  obtain ⟨F,hg,hF⟩:=h
  obtain ⟨_,_,h3,h4⟩:=hO g F hg
  refine ⟨h3,fun ι w lb' hs hl=>?_⟩
  simp only [hall,hg,Option.bind_some]
  exact h4 fn lb m m1 v rows hfn hF hr ι w lb' hs hl
theorem sim_put' {ι:BN} {m:Mem} {W:World} {l:Nat} {ds:List Deferred} (hs:DL P G ι m W) (ho:W.heap[l]?=some (.deferred (some ds))) (x:Obj):DL P G ι m (W.putObj l x):=by
 have hg:=grownBy_putObj' W l x
 refine ⟨fun b ib hb=>⟨(hs.dom b ib hb).1,Nat.lt_of_lt_of_le (hs.dom b ib hb).2 hg.size⟩,fun b ib hb=>?_,hs.inj,hs.glob⟩
 rw [hg.block ib.blk (hs.dom b ib hb).2 ?_];exact hs.blk b ib hb
 intro e
 have e':ib.blk=l:=by cases e;rfl
 have h4:=hs.blk b ib hb
 rw [e',ho] at h4
 obtain ⟨_,_,h5⟩:=LK h4 rfl
 cases h5
theorem Marks.put {B:Nat} {w:World} {D:Nat} {x:Obj}:∀ {ds:List Deferred},(∀ d'∈ds,d'≠{ target:=.collected D,args:=#[] })→Marks B w ds→Marks B (w.putObj D x) ds
 |[],_,h=>by
  have:B≤w.heap.size:=h
  simpa [Marks] using this
 |d::ds,hn,⟨⟨D',e,hBD,hD,hne⟩,hr⟩=>by
  refine ⟨⟨D',e,hBD,?_,hne⟩,Marks.put (fun d' hd=>hn d' (List.mem_cons_of_mem _ hd)) hr⟩
  rw [World.putObj_heap_other (fun e'=>hn d (List.mem_cons_self ..) (by rw [e,e']))];exact hD
theorem MH {fn:Func} {tmps:Array Value} {R:Ending→World→Prop} {ι:BN} {m:Mem} {B:Nat}:∀ (ds:List Deferred) (w:World),Marks B w ds→DL P G ι m w →
 (∀ w',DL P G ι m w'→w.heap.size≤w'.heap.size→(∀ c,c<B→w'.heap[c]?=w.heap[c]?)→w'.tape=w.tape→w'.os=w.os→w'.output=w.output→LeavesIn Fence.wide 0 P fn tmps R [] .returning w')→LeavesInM Fence.wide 0 P fn tmps R ds .returning w
 |[],w,_,hs,h=>h w hs (Nat.le_refl _) (fun _ _=>rfl) rfl rfl rfl
 |d::ds,w,⟨⟨D,e,hBD,hD,hne⟩,hr⟩,hs,h=>by
  refine ⟨(by simp),.inl ⟨D,_,by rw [e],run_takeDeferred hD,?_⟩⟩
  have hlt:=(Array.getElem?_eq_some_iff.1 hD).1
  have hot:∀ c,c≠D→(w.putObj D (.deferred none)).heap[c]?=w.heap[c]?:=fun c hc=>World.putObj_heap_other hc
  refine MH ds _ ?_ ?_ fun w' h1 h2 h3 h4 h5 h6=>h w' h1 (by simpa using h2) (fun c hc=>(h3 c hc).trans (hot c (by omega))) h4 h5 h6
  ·rw [e] at hne;exact Marks.put hne hr
  ·exact sim_put' hs hD _
theorem Hr {O:CJ} {N:Nat} (hO:FT P G O) (jq:P.follows .mixedOrders=true):∀ D,IY P G (EP P O G N D)
 |0=>fun f=>⟨(fun BF m v m' h=>by cases h),(fun BF m r h=>by cases h)⟩
 |D+1=>fun f=>by
  have hcs:=MV (N:=N) hO D
  have hc:=Hr (N:=N) hO jq D
  refine ⟨fun BF m v m' h ι w as' hs hargs=>?_,fun BF m r h=>?_⟩
  ·simp only [EP] at h
   split at h
   ·rename_i r hF
    rw [Option.bind_eq_some_iff] at hF
    obtain ⟨F,hF,hr⟩:=hF
    cases h
    exact (hO f F hF).1 BF m v m' hr ι w as' hs hargs
   ·split at h
    ·cases h
    ·rename_i fn hfn
     split at h
     ·cases h
     ·rename_i c hb
      split at h
      ·rename_i hok
       simp only [Bool.and_eq_true,decide_eq_true_eq] at hok
       obtain ⟨hok1,hlen⟩:=hok
       unfold Ij at hok1
       simp only [Bool.and_eq_true] at hok1
       have hlen':as'.size=BF.length:=by have:=hargs.1;simpa using this.symm
       have hst:DV P G [] fn.ntmps { t:=tmpsOf 0 BF .leaf,m:=m } ι { tmps:=as'++Array.replicate (fn.ntmps-as'.size) undef,defers:=[] } w:=by
        refine ⟨hs,by simp;omega,rfl,fun i=>?_⟩
        rw [F9]
        by_cases hi:i<BF.length
        ·rw [if_pos (by omega)]
         have h1:=hargs.2 i hi
         have hi':i<as'.size:=by omega
         have e:(as'++Array.replicate (fn.ntmps-as'.size) undef).getD i undef=as'.toList.getD i undef:=by
          rw [Array.getD_eq_getD_getElem?,Array.getElem?_append_left hi',getD_eq,Array.getElem?_toList]
         rw [e,Nat.sub_zero]
         exact h1
        ·rw [if_neg (by omega)]
         have e1:CB (.leaf:Tr Value) i=undef:=Tr.SY _ _
         have e2:(as'++Array.replicate (fn.ntmps-as'.size) undef).getD i undef=undef:=by
          rw [Array.getD_eq_getD_getElem?,Array.getElem?_append_right (by omega)]
          by_cases hr:i-as'.size<fn.ntmps-as'.size
          ·simp [hr]
          ·simp [hr]
         rw [e1,e2]
         exact AA.undef
       have main:∀ (x:BZ) (s':St),BX P (EP P O G N D) N c { t:=tmpsOf 0 BF .leaf,m:=m }=some (x,s')→(x=.normal∨x=.ret)→(EN P fn s').map (fun v=>(v,s'.m))=some (v,m') →
        Calls P f as' w fun e w'=>∃ v',e=.returned v'∧Post P G ι m w v m' v' w':=fun x s' hx hxx hres=>by
        rw [Option.map_eq_some_iff] at hres
        obtain ⟨v0,hr0,he⟩:=hres
        cases he
        refine (callsIn_wide (n:=0)).1 (callsIn_of_wp_marks hfn hb trivial ?_)
        refine (wpIn_wide (n:=0)).2 ((wpIn_wide (n:=0)).1 (VD hc (aN hO D) (YU hc hcs jq) c w.heap.size [] none 0 _ s' x ι _ w _ (.inl rfl) hok1.2 hx hst (Nat.le_refl _) fun ds' a' w' hr hm' _=>?_))
        obtain ⟨ι',hext,hst'⟩:=hr
        have hpost:LeavesInM Fence.wide 0 P fn a'.tmps (fun e w'=>∃ v',e=.returned v'∧Post P G ι m w v s'.m v' w') a'.defers .returning w':=by
         rw [hst'.2.defers]
         refine MH ds' w' hm' hst'.1 fun w'' h1 h2 h3 h4 h5 h6=>?_
         have hst2:DV P G ds' fn.ntmps s' ι' a' w'':=⟨h1,hst'.2⟩
         obtain ⟨v',q1,q2⟩:=NJ hst2 hr0
         refine ⟨v',q1,v',rfl,ι',?_,h1,q2⟩
         exact ⟨hext.size,hext.low,hext.keep,hext.ro,hext.ro',hext.le,hext.back,hext.dom,Nat.le_trans hext.heap h2,fun c hc' hf=>(h3 c hc').trans (hext.frame c hc' hf),h4.trans hext.tape,h5.trans hext.os,h6.trans hext.output⟩
        rcases hxx with rfl|rfl<;>exact hpost
       split at h
       ·rename_i s' hx;exact main .normal s' hx (.inl rfl) h
       ·rename_i s' hx;exact main .ret s' hx (.inr rfl) h
       ·cases h
      ·cases h
  ·simp only [EP] at h
   split at h
   ·rename_i r hF
    rw [Option.bind_eq_some_iff] at hF
    obtain ⟨F,hF,_⟩:=hF
    exact (hO f F hF).2.2.1
   ·split at h
    ·cases h
    ·rename_i fn hfn
     split at h
     ·cases h
     ·rename_i c hb
      split at h
      ·rename_i hok
       simp only [Bool.and_eq_true,decide_eq_true_eq] at hok
       have hok1:=hok.1
       unfold Ij at hok1
       simp only [Bool.and_eq_true,Bool.not_eq_true'] at hok1
       exact ⟨fn,hfn,by rw [hb];rfl,hok1.1⟩
      ·cases h
end
section
variable {P:Program} {G:List Nat}
def Oi (m:Mem):Prop:=∀ b,b<m.size→m.ro b=true
structure Grow (ι:BN) (m:Mem) (ι':BN) (m':Mem):Prop where
 le:Le ι m.gen ι' m'.gen
 size:m.size≤m'.size
 get:∀ b,b<m.size→m'.get b=m.get b
theorem Grow.refl (ι:BN) (m:Mem):Grow ι m ι m:=⟨Le.refl _ _,Nat.le_refl _,fun _ _=>rfl⟩
theorem Grow.trans {ι ι' ι'':BN} {m m' m'':Mem} (h:Grow ι m ι' m') (k:Grow ι' m' ι'' m''):Grow ι m ι'' m'' :=
 ⟨h.le.trans k.le,Nat.le_trans h.size k.size,fun b hb=>(k.get b (Nat.lt_of_lt_of_le hb h.size)).trans (h.get b hb)⟩
theorem oL {ι:BN} {m:Mem} {W:World} {c sh:Nat} {cs:Array Value} {e e':TypeId} {fr:Nat×Nat} {vs:List Value} (hs:DL P G ι m W) (hro:Oi m)
 (hc:W.heap[c]?=some (.cells cs e' fr)) (hv:∀ i,i<vs.length→∃ v',cs[sh+i]?=some v'∧AA ι m.gen (vs.getD i undef) v') :
 ∃ ι',DL P G ι' (m.alloc (.cells vs e 0 true)) W∧ι' m.size=some ⟨c,sh,cs.size,P.cellsOf e⟩∧Grow ι m ι' (m.alloc (.cells vs e 0 true))∧Oi (m.alloc (.cells vs e 0 true)):=by
 have hget:∀ b,b<m.size→(m.alloc (.cells vs e 0 true)).get b=m.get b:=fun b hb=>by rw [Mem.Bv,if_neg (by omega)]
 have hgen:∀ b,b<m.size→(m.alloc (.cells vs e 0 true)).gen b=m.gen b:=fun b hb=>CS (hget b hb)
 have hself:(m.alloc (.cells vs e 0 true)).get m.size=.cells vs e 0 true:=by rw [Mem.Bv,if_pos rfl]
 have a7x:Oi (m.alloc (.cells vs e 0 true)):=fun b hb=>by
  by_cases h:b=m.size
  ·subst h;exact Mem.NQ hself
  ·have:b<m.size:=by simp only [Mem.alloc] at hb;omega
   rw [EM (hget b this)];exact hro b this
 let ι':BN:=fun b=>if b=m.size then some ⟨c,sh,cs.size,P.cellsOf e⟩ else ι b
 have hle:Le ι m.gen ι' (m.alloc (.cells vs e 0 true)).gen:=fun b ib hb=>by
  have hlt:=(hs.dom b ib hb).1
  refine ⟨by rw [hgen b hlt];exact Nat.le_refl _,ib,?_,fun _=>rfl⟩
  show (if b=m.size then _ else ι b)=some ib
  rw [if_neg (by omega)];exact hb
 have b5p:c<W.heap.size:=(Array.getElem?_eq_some_iff.1 hc).1
 refine ⟨ι',⟨fun b ib hb=>?_,fun b ib hb=>?_,fun b b' ib ib' hb hb' he=>?_,fun k hk=>?_⟩,if_pos rfl,⟨hle,by simp [Mem.alloc],hget⟩,a7x⟩
 ·change (if b=m.size then some _ else ι b)=some ib at hb
  split at hb
  ·cases hb;exact ⟨by simp [Mem.alloc];omega,b5p⟩
  ·have:=hs.dom b ib hb
   exact ⟨by simp only [Mem.alloc];omega,this.2⟩
 ·change (if b=m.size then some _ else ι b)=some ib at hb
  split at hb
  ·rename_i hbe;cases hb;subst hbe
   rw [hself,hc]
   refine ⟨(fun h=>by cases h),rfl,rfl,fun i hi=>?_,(fun h=>by cases h)⟩
   obtain ⟨v',h1,h2⟩:=hv i hi
   exact ⟨v',h1,h2.mono hle⟩
  ·rw [hget b (hs.dom b ib hb).1]
   exact (hs.blk b ib hb).mono hle
 ·refine .inr ⟨a7x b ?_,a7x b' ?_⟩
  ·change (if b=m.size then some _ else ι b)=some ib at hb
   split at hb
   ·simp [Mem.alloc];omega
   ·have:=(hs.dom b ib hb).1;simp only [Mem.alloc];omega
  ·change (if b'=m.size then some _ else ι b')=some ib' at hb'
   split at hb'
   ·simp [Mem.alloc];omega
   ·have:=(hs.dom b' ib' hb').1;simp only [Mem.alloc];omega
 ·obtain ⟨ib,h1,h2,h3,h4,h5⟩:=hs.glob k hk
  have hlt:=(hs.dom k ib h1).1
  refine ⟨ib,?_,h2,⟨h3.1,by rw [hget k hlt];exact h3.2⟩,by rw [hgen k hlt];exact h4,by rw [EM (hget k hlt)];exact h5⟩
  show (if k=m.size then some _ else ι k)=some ib
  rw [if_neg (by omega)];exact h1
def TK {H:Type} (g:TypeId→DataW H→Mem→Option (List Value×Mem)):List (TypeId×DataW H)→Mem→Option (List Value×Mem)
 |[],m=>some ([],m)
 |(t,d)::rest,m=>match g t d m with
  |some (l,m1)=>match TK g rest m1 with
   |some (r,m2)=>some (l++r,m2)
   |none=>none
  |none=>none
def Qd {H:Type} (P:Program):Nat→TypeId→DataW H→Mem→Option (List Value×Mem)
 |0,_,_,_=>none
 |f+1,t,d,m =>
  match P.underlying t,d with
  |some .bool,.lit (.bool b)=>some ([.bool b],m)
  |some (.int k),.lit (.int _ n)=>some ([.int k n],m)
  |some .string,.lit (.string s)=>some ([.string ⟨s.toArray⟩],m)
  |some (.slice _),.nil=>some ([.slice none 0 0],m)
  |some (.slice e),.slice elems spare =>
   if P.cellsOf e=0 then none else
   if elems.isEmpty&&spare.isEmpty then some ([.slice (some ⟨0,0,some 0⟩) 0 0],m) else
   match TK (Qd P f) (elems.map fun x=>(e,x)) m with
   |some (l,m1)=>some ([.slice (some ⟨m1.size,0,none⟩) elems.length 0],m1.alloc (.cells l e 0 true))
   |none=>none
  |some (.struct fs),.agg parts =>
   if (fs.toList.map fun fd=>((List.range (P.cellsOf t)).drop fd.offset).take (P.cellsOf fd.type)).flatten=List.range (P.cellsOf t) then
    TK (Qd P f) ((fs.toList.map (·.type)).zip parts) m else none
  |some (.array n e),.agg parts =>
   if ((List.range n).map fun i=>((List.range (P.cellsOf t)).drop (i*P.cellsOf e)).take (P.cellsOf e)).flatten=List.range (P.cellsOf t) then
    TK (Qd P f) (parts.map fun x=>(e,x)) m else none
  |_,_=>none
theorem mapM_some {α β:Type} {f:α→Option β}:∀ {l:List α} {r:List β},l.mapM f=some r→r.length=l.length∧∀ (i:Nat) a,l[i]?=some a→∃ b,r[i]?=some b∧f a=some b
 |[],r,h=>by
  simp only [List.mapM_nil,pure,Option.some.injEq] at h
  subst h
  exact ⟨rfl,fun i a h=>by simp at h⟩
 |x::l,r,h=>by
  rw [List.mapM_cons] at h
  simp only [bind,Option.bind_eq_some_iff,pure,Option.some.injEq] at h
  obtain ⟨y,h1,ys,h2,rfl⟩:=h
  obtain ⟨q1,q2⟩:=mapM_some h2
  refine ⟨by simp [q1],fun i a hi=>?_⟩
  cases i with
  |zero=>simp only [List.getElem?_cons_zero,Option.some.injEq] at hi;subst hi;exact ⟨y,by simp,h1⟩
  |succ i=>simpa using q2 i a (by simpa using hi)
def L6 (P:Program) (G:List Nat) (W:World) (ι:BN) (m:Mem) (l:List Value) (m':Mem) (cs:List Value):Prop :=
 ∃ ι',DL P G ι' m' W∧Grow ι m ι' m'∧Oi m'∧BI ι' m'.gen l cs
theorem ND {H:Type} {W:World} {g:TypeId→DataW H→Mem→Option (List Value×Mem)}:∀ (xs:List (TypeId×DataW H)) (css:List (List Value)) (ι:BN) (m m':Mem) (l:List Value),
 xs.length=css.length→(∀ (i:Nat) (t:TypeId) (d:DataW H) (cs:List Value),xs[i]?=some (t,d)→css[i]?=some cs→∀ (ι:BN) (m m':Mem) (l:List Value),DL P G ι m W→Oi m→g t d m=some (l,m')→L6 P G W ι m l m' cs) →
 DL P G ι m W→Oi m→TK g xs m=some (l,m')→L6 P G W ι m l m' css.flatten
 |[],css,ι,m,m',l,hlen,_,hs,hro,h=>by
  cases h
  have:css=[]:=List.length_eq_zero_iff.1 hlen.symm
  subst this
  exact ⟨ι,hs,Grow.refl _ _,hro,BI.nil⟩
 |(t,d)::xs,css,ι,m,m',l,hlen,hg,hs,hro,h=>by
  match css,hlen with
  |cs::css,hlen =>
   simp only [TK] at h
   cases h1:g t d m with
   |none=>rw [h1] at h;cases h
   |some r =>
    obtain ⟨l1,m1⟩:=r
    rw [h1] at h
    simp only at h
    cases h2:TK g xs m1 with
    |none=>rw [h2] at h;cases h
    |some r2 =>
     obtain ⟨l2,m2⟩:=r2
     rw [h2] at h
     cases h
     obtain ⟨ι1,a1,a2,a3,a4⟩:=hg 0 t d cs (by simp) (by simp) ι m m1 l1 hs hro h1
     obtain ⟨ι2,b1,b2,b3,b4⟩:=ND xs css ι1 m1 m' l2 (by simpa using hlen) (fun i t d cs q1 q2=>hg (i+1) t d cs (by simpa using q1) (by simpa using q2)) a1 a3 h2
     refine ⟨ι2,b1,a2.trans b2,b3,?_⟩
     rw [List.flatten_cons]
     exact (a4.mono b2.le).append b4
theorem Ou (cs:List Value):(List.range cs.length).map (fun i=>cs.getD i undef)=cs:=by
 apply List.ext_getElem?
 intro i
 by_cases hi:i<cs.length
 ·rw [List.getElem?_map,List.getElem?_range hi,List.getElem?_eq_getElem hi]
  simp only [Option.map_some,getD_lt hi]
 ·rw [List.getElem?_eq_none (by simpa using hi),List.getElem?_eq_none (by omega)]
theorem Qy {α:Type} (cs:List Value) (l:List α) (off size:α→Nat)
 (h:(l.map fun a=>((List.range cs.length).drop (off a)).take (size a)).flatten=List.range cs.length):(l.map fun a=>(cs.drop (off a)).take (size a)).flatten=cs:=by
 have h2:=congrArg (List.map fun i=>cs.getD i undef) h
 rw [Ou,List.map_flatten,List.map_map] at h2
 refine Eq.trans ?_ h2
 congr 1
 apply List.map_congr_left
 intro a _
 simp only [Function.comp,List.map_take,List.map_drop,Ou]
theorem dN (sz:Nat):∀ (n:Nat) (row:List Value),row.length=n*sz→((List.range n).map fun i=>(row.drop (i*sz)).take sz).flatten=row:=by
 intro n
 induction n with
 |zero=>intro row h;simp at h;subst h;rfl
 |succ n ih =>
  intro row h
  rw [List.range_succ_eq_map,List.map_cons,List.flatten_cons,List.map_map]
  have h1:(row.drop sz).length=n*sz:=by rw [List.length_drop,h,Nat.succ_mul];omega
  have h2:=ih (row.drop sz) h1
  have h3:(List.map ((fun i=>List.take sz (List.drop (i*sz) row)) ∘ Nat.succ) (List.range n))=(List.map (fun i=>List.take sz (List.drop (i*sz) (List.drop sz row))) (List.range n)):=by
   apply List.map_congr_left
   intro i _
   simp only [Function.comp,List.drop_drop]
   congr 2
   rw [Nat.succ_mul,Nat.add_comm]
  rw [h3,h2]
  simp
theorem cells?_some {W:World} {a:Addr} {n:Nat} {cs:List Value} (h:W.cells? 0 a n=some cs):cs.length=n∧∀ i,i<n→W.cell? (a.add i)=cs[i]?:=by
 unfold World.cells? at h
 rw [if_pos (Nat.zero_le _)] at h
 obtain ⟨h1,h2⟩:=mapM_some h
 refine ⟨by simpa using h1,fun i hi=>?_⟩
 obtain ⟨b,q1,q2⟩:=h2 i i (List.getElem?_range hi)
 rw [q1];exact q2
theorem XZ {H:Type} {enc:TypeId×Value→H} {W:World} {held:Bool}:∀ (f:Nat) (t:TypeId) (cs:List Value) (d:DataW H) (ps:List MemPlace),
 DataW.trod enc P W 0 (fun _=>true) held f t cs=some (d,ps)→∀ (ι:BN) (m m':Mem) (l:List Value),DL P G ι m W→Oi m→Qd P f t d m=some (l,m')→L6 P G W ι m l m' cs:=by
 intro f
 induction f with
 |zero=>intro t cs d ps h;cases h
 |succ f ih =>
  intro t cs d ps h ι m m' l hs hro ha
  have one:∀ {v:Value},plain v=true→L6 P G W ι m [v] m [v]:=fun {v} hp=>⟨ι,hs,Grow.refl _ _,hro,BI.cons (AA.plain hp) BI.nil⟩
  unfold DataW.trod at h
  unfold Qd at ha
  cases hu:P.underlying t with
  |none=>rw [hu] at h;simp at h
  |some u =>
   rw [hu] at h ha
   cases u with
   |bool =>
    match cs,h with
    |[.bool b],h =>
     simp only [Option.some.injEq,Prod.mk.injEq] at h
     obtain ⟨rfl,rfl⟩:=h
     simp only [Option.some.injEq,Prod.mk.injEq] at ha
     obtain ⟨rfl,rfl⟩:=ha
     exact one rfl
   |int k =>
    match cs,h with
    |[.int k' n],h =>
     simp only at h
     split at h
     ·rename_i hc
      obtain ⟨rfl,_⟩:=hc
      simp only [Option.some.injEq,Prod.mk.injEq] at h
      obtain ⟨rfl,rfl⟩:=h
      simp only [Option.some.injEq,Prod.mk.injEq] at ha
      obtain ⟨rfl,rfl⟩:=ha
      exact one rfl
     ·cases h
   |string =>
    match cs,h with
    |[.string s],h =>
     simp only at h
     split at h
     ·simp only [Option.some.injEq,Prod.mk.injEq] at h
      obtain ⟨rfl,rfl⟩:=h
      simp only [Option.some.injEq,Prod.mk.injEq] at ha
      obtain ⟨rfl,rfl⟩:=ha
      exact one rfl
     ·cases h
   |struct fs =>
    simp only at h
    split at h
    ·rename_i hlen
     rw [Option.map_eq_some_iff] at h
     obtain ⟨xs,hxs,he⟩:=h
     simp only [Prod.mk.injEq] at he
     obtain ⟨rfl,rfl⟩:=he
     simp only at ha
     split at ha
     ·rename_i hcov
      obtain ⟨q1,q2⟩:=mapM_some hxs
      have hfl:=Qy cs fs.toList (fun fd=>fd.offset) (fun fd=>P.cellsOf fd.type) (by rw [hlen];exact hcov)
      have:=ND (W:=W) (P:=P) (G:=G) ((fs.toList.map (·.type)).zip (xs.map (·.1))) (fs.toList.map fun fd=>(cs.drop fd.offset).take (P.cellsOf fd.type)) ι m m' l
       (by simp only [List.length_zip,List.length_map,q1,Nat.min_self]) (fun i t' d' cs' r1 r2 ι m m' l hs hro ha=>by
        rw [List.getElem?_zip_eq_some] at r1
        obtain ⟨r3,r4⟩:=r1
        rw [List.getElem?_map,Option.map_eq_some_iff] at r2 r3 r4
        obtain ⟨fd,s1,rfl⟩:=r2
        obtain ⟨fd',s2,rfl⟩:=r3
        obtain ⟨x,s3,rfl⟩:=r4
        rw [s1] at s2;cases s2
        obtain ⟨b,u1,u2⟩:=q2 i fd s1
        rw [s3] at u1;cases u1
        exact ih _ _ x.1 x.2 u2 ι m m' l hs hro ha) hs hro ha
      rw [hfl] at this
      exact this
     ·cases ha
    ·cases h
   |array n e =>
    simp only at h
    split at h
    ·rename_i hlen
     rw [Option.map_eq_some_iff] at h
     obtain ⟨xs,hxs,he⟩:=h
     simp only [Prod.mk.injEq] at he
     obtain ⟨rfl,rfl⟩:=he
     simp only at ha
     split at ha
     ·rename_i hcov
      obtain ⟨q1,q2⟩:=mapM_some hxs
      have hfl:=Qy cs (List.range n) (fun i=>i*P.cellsOf e) (fun _=>P.cellsOf e) (by rw [hlen];exact hcov)
      have:=ND (W:=W) (P:=P) (G:=G) ((xs.map (·.1)).map fun x=>(e,x)) ((List.range n).map fun i=>(cs.drop (i*P.cellsOf e)).take (P.cellsOf e)) ι m m' l
       (by simp only [List.length_map,q1]) (fun i t' d' cs' r1 r2 ι m m' l hs hro ha=>by
        rw [List.getElem?_map,List.getElem?_map] at r1
        rw [List.getElem?_map,Option.map_eq_some_iff] at r2
        obtain ⟨j,s1,rfl⟩:=r2
        simp only [Option.map_map,Option.map_eq_some_iff,Function.comp,Prod.mk.injEq] at r1
        obtain ⟨x,s3,rfl,rfl⟩:=r1
        obtain ⟨b,u1,u2⟩:=q2 i j s1
        rw [s3] at u1;cases u1
        exact ih _ _ x.1 x.2 u2 ι m m' l hs hro ha) hs hro ha
      rw [hfl] at this
      exact this
     ·cases ha
    ·cases h
   |slice e =>
    match cs,h with
    |[.slice none 0 0],h =>
     simp only [Option.some.injEq,Prod.mk.injEq] at h
     obtain ⟨rfl,rfl⟩:=h
     simp only [Option.some.injEq,Prod.mk.injEq] at ha
     obtain ⟨rfl,rfl⟩:=ha
     exact one rfl
    |[.slice (some a) len cap],h =>
     simp only [if_true] at h
     split at h
     ·rename_i hc
      rw [Option.bind_eq_some_iff] at h
      obtain ⟨elems,he,h⟩:=h
      rw [Option.map_eq_some_iff] at h
      obtain ⟨rest,hr,hd⟩:=h
      simp only [Prod.mk.injEq] at hd
      obtain ⟨rfl,rfl⟩:=hd
      simp only at ha
      split at ha
      ·cases ha
      ·rename_i hsz
       obtain ⟨q1,q2⟩:=mapM_some he
       obtain ⟨r1,r2⟩:=mapM_some hr
       rw [List.length_range] at q1 r1
       have cell:∀ i,i<cap→∃ ce,W.cells? 0 (a.add (i*P.cellsOf e)) (P.cellsOf e)=some ce:=fun i hi=>by
        by_cases h1:i<len
        ·obtain ⟨b,_,u2⟩:=q2 i i (List.getElem?_range h1)
         rw [Option.bind_eq_some_iff] at u2
         obtain ⟨ce,u3,_⟩:=u2
         exact ⟨ce,u3⟩
        ·obtain ⟨b,_,u2⟩:=r2 (i-len) (i-len) (List.getElem?_range (by omega))
         rw [Option.bind_eq_some_iff] at u2
         obtain ⟨ce,u3,_⟩:=u2
         exact ⟨ce,by rw [← u3];congr 3;omega⟩
       split at ha
       ·rename_i hemp
        simp only [Option.some.injEq,Prod.mk.injEq] at ha
        obtain ⟨rfl,rfl⟩:=ha
        simp only [Bool.and_eq_true,List.isEmpty_iff,List.map_eq_nil_iff] at hemp
        obtain ⟨e1,e2⟩:=hemp
        have hl0:len=0:=by rw [← q1,e1];rfl
        have hc0:cap=0:=by
         have:cap-len=0:=by rw [← r1,e2];rfl
         omega
        subst hl0;subst hc0
        exact ⟨ι,hs,Grow.refl _ _,hro,BI.cons (.mM _ _ _ _) BI.nil⟩
       ·rename_i hemp
        have hcap:0<cap:=by
         rcases Nat.eq_zero_or_pos cap with h|h
         ·exfalso
          subst h
          have e1:elems=[]:=List.length_eq_zero_iff.1 (by omega)
          have e2:rest=[]:=List.length_eq_zero_iff.1 (by omega)
          rw [e1,e2] at hemp
          simp at hemp
         ·exact h
        have hsz0:0<P.cellsOf e:=by omega
        obtain ⟨ce0,b1v⟩:=cell 0 hcap
        rw [Nat.zero_mul,Addr.add_zero'] at b1v
        obtain ⟨l0,c0⟩:=cells?_some b1v
        have hfirst:=c0 0 hsz0
        rw [Addr.add_zero',List.getElem?_eq_getElem (by omega:0<ce0.length)] at hfirst
        obtain ⟨c,off,spot⟩:=a
        have hspot:spot=none:=by
         unfold World.cell? at hfirst
         cases spot with
         |none=>rfl
         |some s=>split at hfirst<;>simp at hfirst
        subst hspot
        have hrow:∃ cs0 e' fr,W.heap[c]?=some (.cells cs0 e' fr):=by
         unfold World.cell? at hfirst
         simp only at hfirst
         split at hfirst
         ·rename_i cs0 e' fr hh;exact ⟨cs0,e',fr,hh⟩
         ·cases hfirst
        obtain ⟨cs0,e',fr,hrow⟩:=hrow
        have cellAt:∀ k,k<cap*P.cellsOf e→∃ v,cs0[off+k]?=some v:=fun k hk=>by
         have hi:k / P.cellsOf e<cap:=(Nat.div_lt_iff_lt_mul hsz0).2 hk
         obtain ⟨ce,hce⟩:=cell (k / P.cellsOf e) hi
         obtain ⟨l1,c1⟩:=cells?_some hce
         have hm:k % P.cellsOf e<P.cellsOf e:=Nat.mod_lt _ hsz0
         have h1:=c1 (k % P.cellsOf e) hm
         rw [addr_add,addr_add,cell_of_row hrow,List.getElem?_eq_getElem (by omega:k % P.cellsOf e<ce.length)] at h1
         have e1:off+k / P.cellsOf e*P.cellsOf e+k % P.cellsOf e=off+k:=by
          have:=Nat.div_add_mod' k (P.cellsOf e);omega
         rw [e1] at h1
         exact ⟨_,h1⟩
        let row:List Value:=(List.range (len*P.cellsOf e)).map fun k=>cs0.getD (off+k) undef
        have hrl:row.length=len*P.cellsOf e:=by simp [row]
        have hlc:len*P.cellsOf e≤cap*P.cellsOf e:=Nat.mul_le_mul_right _ hc.2.1
        have rowAt:∀ k,k<len*P.cellsOf e→row[k]?=cs0[off+k]?:=fun k hk=>by
         obtain ⟨v,hv⟩:=cellAt k (by omega)
         show ((List.range (len*P.cellsOf e)).map fun k=>cs0.getD (off+k) undef)[k]?=_
         rw [List.getElem?_map,List.getElem?_range hk,hv]
         simp [hv]
        split at ha
        ·rename_i l1 m1 habs
         simp only [Option.some.injEq,Prod.mk.injEq] at ha
         obtain ⟨rfl,rfl⟩:=ha
         have hop:=ND (W:=W) (P:=P) (G:=G) ((elems.map (·.1)).map fun x=>(e,x)) ((List.range len).map fun i=>(row.drop (i*P.cellsOf e)).take (P.cellsOf e)) ι m m1 l1
          (by simp only [List.length_map,q1,List.length_range]) (fun i t' d' cs' u1 u2 ι m m' l hs hro ha=>by
           rw [List.getElem?_map,List.getElem?_map] at u1
           rw [List.getElem?_map,Option.map_eq_some_iff] at u2
           obtain ⟨j,s1,rfl⟩:=u2
           simp only [Option.map_map,Option.map_eq_some_iff,Function.comp,Prod.mk.injEq] at u1
           obtain ⟨x,s3,rfl,rfl⟩:=u1
           have hil:i<len:=by
            rcases Nat.lt_or_ge i len with h|h
            ·exact h
            ·rw [List.getElem?_eq_none (by simpa using h)] at s1;cases s1
           rw [List.getElem?_range hil] at s1
           cases s1
           obtain ⟨b,w1,w2⟩:=q2 i i (List.getElem?_range hil)
           rw [s3] at w1;cases w1
           rw [Option.bind_eq_some_iff] at w2
           obtain ⟨ce,w3,w4⟩:=w2
           obtain ⟨l2,c2⟩:=cells?_some w3
           have hce:ce=(row.drop (i*P.cellsOf e)).take (P.cellsOf e):=by
            apply List.ext_getElem?
            intro j
            by_cases hj:j<P.cellsOf e
            ·have h1:=c2 j hj
             rw [addr_add,addr_add,cell_of_row hrow] at h1
             rw [← h1,List.getElem?_take,if_pos hj,List.getElem?_drop,rowAt _ (by
              have:(i+1)*P.cellsOf e≤len*P.cellsOf e:=Nat.mul_le_mul_right _ (by omega)
              rw [Nat.succ_mul] at this;omega)]
             congr 1;omega
            ·rw [List.getElem?_eq_none (by omega),List.getElem?_take,if_neg hj]
           rw [← hce]
           exact ih _ _ x.1 x.2 w4 ι m m' l hs hro ha) hs hro habs
         rw [dN _ _ _ hrl] at hop
         obtain ⟨ι1,o1,o2,o3,o4⟩:=hop
         obtain ⟨ι2,p1,p2,p3,p4⟩:=oL (e:=e) (sh:=off) (vs:=l1) o1 o3 hrow (fun i hi=>by
          obtain ⟨v',h1,h2⟩:=o4.get (List.getElem?_eq_getElem hi)
          refine ⟨v',?_,by rw [getD_lt hi];exact h2⟩
          have hil:i<len*P.cellsOf e:=by rw [← hrl,← o4.1];exact hi
          rw [← rowAt i hil];exact h1)
         refine ⟨ι2,p1,o2.trans p3,p4,BI.cons ?_ BI.nil⟩
         rw [show (elems.map (·.1)).length=len from by rw [List.length_map,q1]]
         refine .sl _ _ _ _ _ _ ⟨_,p2,Nat.zero_le _,?_,fun _=>⟨rfl,rfl,.inr ⟨(Nat.zero_add off).symm,?_⟩⟩⟩
         ·exact hc.2.1
         ·simp only
          obtain ⟨v,hv⟩:=cellAt (cap*P.cellsOf e-1) (by
           have:0<cap*P.cellsOf e:=Nat.mul_pos hcap hsz0
           omega)
          have:=(Array.getElem?_eq_some_iff.1 hv).1
          have hp:0<cap*P.cellsOf e:=Nat.mul_pos hcap hsz0
          omega
        ·cases ha
     ·cases h
   |_=>simp at ha
end
section
variable {P:Program} {G:List Nat}
theorem PD {H:Type} {g g':TypeId→DataW H→Mem→Option (List Value×Mem)} (hg:∀ t d m r,g t d m=some r→g' t d m=some r) :
 ∀ (xs:List (TypeId×DataW H)) (m:Mem) (r:List Value×Mem),TK g xs m=some r→TK g' xs m=some r
 |[],m,r,h=>h
 |(t,d)::xs,m,r,h=>by
  simp only [TK] at h ⊢
  cases h1:g t d m with
  |none=>rw [h1] at h;cases h
  |some a =>
   rw [h1] at h
   rw [hg _ _ _ _ h1]
   simp only at h ⊢
   cases h2:TK g xs a.2 with
   |none=>rw [h2] at h;cases h
   |some b =>
    rw [h2] at h
    rw [PD hg xs _ _ h2]
    exact h
theorem Z9 {H:Type}:∀ (f:Nat) (t:TypeId) (d:DataW H) (m:Mem) (r:List Value×Mem),Qd P f t d m=some r→Qd P (f+1) t d m=some r
 |0,_,_,_,_,h=>by cases h
 |f+1,t,d,m,r,h=>by
  have ih:=fun t d m r=>Z9 (H:=H) f t d m r
  unfold Qd at h ⊢
  split at h
  all_goals try exact h
  all_goals try (cases h;done)
  all_goals split at h
  all_goals try (cases h;done)
  all_goals rename_i h0
  ·simp only [if_neg h0]
   split at h
   ·rename_i h1;simp only [if_pos h1];exact h
   ·rename_i h1
    simp only [if_neg h1]
    split at h
    ·rename_i l m1 h2
     rw [PD ih _ _ _ h2]
     exact h
    ·cases h
  ·simp only [if_pos h0];exact PD ih _ _ _ h
  ·simp only [if_pos h0];exact PD ih _ _ _ h
theorem uo {H:Type} {f g:Nat} {t:TypeId} {d:DataW H} {m:Mem} {r:List Value×Mem} (hfg:f≤g) (h:Qd P f t d m=some r):Qd P g t d m=some r:=by
 induction hfg with
 |refl=>exact h
 |step _ ih=>exact Z9 _ _ _ _ _ ih
theorem vI {H:Type} {enc:TypeId×Value→H} {W:World} {held:Bool} {t:TypeId} {v:Value} {d:DataW H} {ps:List MemPlace} (h:DataW.Trod enc P W 0 (fun _=>true) held t v d ps)
 {F:Nat} {ι:BN} {m m':Mem} {l:List Value} (hs:DL P G ι m W) (hro:Oi m) (ha:Qd P F t d m=some (l,m')):L6 P G W ι m l m' v.cells.toList:=by
 obtain ⟨f,hf⟩:=h
 exact XZ (max f F) t _ d ps (DataW.trod_le (Nat.le_max_left _ _) hf) ι m m' l hs hro (uo (Nat.le_max_right _ _) ha)
def iE (P:Program) (t:TypeId) (l:List Value):Option Value :=
 match P.underlying t,l with
 |some (.struct _),l=>some (.agg ⟨l⟩)
 |some (.array _ _),l=>some (.agg ⟨l⟩)
 |some .bool,[v]|some (.int _),[v]|some .string,[v]|some (.slice _),[v]=>some v
 |_,_=>none
def Rq {H:Type} (P:Program) (F:Nat):List TypeId→List (DataW H)→Mem→Option (List Value×Mem)
 |[],[],m=>some ([],m)
 |t::ts,d::ds,m=>match Qd P F t d m with
  |some (l,m1)=>match iE P t l with
   |some v=>match Rq P F ts ds m1 with
    |some (r,m2)=>some (v::r,m2)
    |none=>none
   |none=>none
  |none=>none
 |_,_,_=>none
theorem a1n {W:World} {r:Go.Reach} {b0:Nat} {ι:BN} {g:Nat→Nat} {t:TypeId} {v x:Value} {l:List Value} (hv:Value.okWide P W r b0 t v) (hp:iE P t l=some x)
 (hl:BI ι g l v.cells.toList):AA ι g x v:=by
 unfold iE at hp
 split at hp
 ·rename_i hu
  cases hp
  simp only [Value.okWide,hu] at hv
  obtain ⟨⟨cs⟩,rfl,-⟩:=hv
  exact .agg _ _ hl.1 hl.2
 ·rename_i hu
  cases hp
  simp only [Value.okWide,hu] at hv
  obtain ⟨⟨cs⟩,rfl,-⟩:=hv
  exact .agg _ _ hl.1 hl.2
 all_goals first
  |(rename_i hu
    cases hp
    simp only [Value.okWide,hu,Cell.okWide] at hv
    have hc:v.cells=#[v]:=by cases v<;>simp_all [Cell.ok,Value.cells]
    rw [hc] at hl
    have:=hl.2 0 (by simp)
    simpa using this)
  |cases hp
theorem Un {H:Type} {enc:TypeId×Value→H} {W:World} {held:Bool} {r:Go.Reach} {b0:Nat} {F:Nat}:∀ (ts:List TypeId) (vs:List Value) (ds:List (DataW H)) (ps:List MemPlace),
 DataW.TrodAll enc P W 0 (fun _=>true) held ts vs ds ps→(∀ (j:Nat) t v,ts[j]?=some t→vs[j]?=some v→Value.okWide P W r b0 t v) →
 ∀ (ι:BN) (m m':Mem) (BF:List Value),DL P G ι m W→Oi m→Rq P F ts ds m=some (BF,m')→L6 P G W ι m BF m' vs
 |[],[],[],ps,h,hv,ι,m,m',BF,hs,hro,ha=>by
  cases ha
  exact ⟨ι,hs,Grow.refl _ _,hro,BI.nil⟩
 |t::ts,v::vs,d::ds,ps,h,hv,ι,m,m',BF,hs,hro,ha=>by
  obtain ⟨p,q,h1,h2,-⟩:=h
  simp only [Rq] at ha
  split at ha
  ·rename_i l m1 e1
   split at ha
   ·rename_i x e2
    split at ha
    ·rename_i r' m2 e3
     cases ha
     obtain ⟨ι1,o1,o2,o3,o4⟩:=vI h1 hs hro e1
     obtain ⟨ι2,p1,p2,p3,p4⟩:=Un ts vs ds q h2 (fun j t v ht hv'=>hv (j+1) t v (by simpa using ht) (by simpa using hv')) ι1 m1 _ r' o1 o3 e3
     exact ⟨ι2,p1,o2.trans p2,p3,BI.cons ((a1n (hv 0 t v rfl rfl) e2 o4).mono p2.le) p4⟩
    ·cases ha
   ·cases ha
  ·cases ha
 |[],[],_::_,ps,h,_,_,_,_,_,_,_,_=>h.elim
 |[],_::_,_,ps,h,_,_,_,_,_,_,_,_=>h.elim
 |_::_,[],_,ps,h,_,_,_,_,_,_,_,_=>h.elim
 |_::_,_::_,[],ps,h,_,_,_,_,_,_,_,_=>h.elim
def allocs (m:Mem):List HY→Mem
 |[]=>m
 |b::r=>allocs (m.alloc b) r
theorem Oy:∀ (l:List HY) (m:Mem),(allocs m l).size=m.size+l.length
 |[],m=>rfl
 |b::r,m=>by rw [allocs,Oy r];simp [Mem.alloc];omega
theorem QV:∀ (l:List HY) (m:Mem) (b:Nat),(allocs m l).get b=if b<m.size then m.get b else match l[b-m.size]? with|some x=>x|none=>m.get b
 |[],m,b=>by simp [allocs]
 |x::r,m,b=>by
  rw [allocs,QV r,Mem.Bv]
  have hsz:(m.alloc x).size=m.size+1:=rfl
  rw [hsz]
  by_cases h1:b<m.size
  ·rw [if_pos (by omega),if_pos h1,if_neg (by omega)]
  ·by_cases h2:b=m.size
   ·subst h2;simp
   ·rw [if_neg (by omega),if_neg h1,if_neg (by omega)]
    have:b-m.size=(b-(m.size+1))+1:=by omega
    rw [this,List.getElem?_cons_succ]
def empty:Mem:=⟨.leaf,0,0⟩
def absP (P:Program) (F:Nat) (t:TypeId) (d:DataW Unit):Option (List Value) :=
 match Qd P F t d empty with
 |some (l,_)=>if l.all plainCell then some l else none
 |none=>none
def b1p (P:Program) (t:TypeId):TypeId:=match P.underlying t with|some (.array _ e)=>e|_=>t
def Gg (P:Program) (F:Nat) (laid:List (String×DataW Unit)) (k:Nat):Option (TypeId×List Value) :=
 match laid.find? (fun x=>P.globalNamed x.1==some k),P.globals[k]? with
 |some x,some g=>(absP P F g.type x.2).map fun l=>(b1p P g.type,l)
 |_,_=>none
def BD (P:Program) (F:Nat) (laid:List (String×DataW Unit)):Mem :=
 allocs empty ((List.range P.globals.size).map fun k=>match Gg P F laid k with
  |some (e,l)=>.cells l e 0 true
  |none=>.cells [] 0 0 true)
def AX (P:Program) (F:Nat) (laid:List (String×DataW Unit)):List Nat:=(List.range P.globals.size).filter fun k=>(Gg P F laid k).isSome
theorem sW {W:World}:∀ {laid:List (String×DataW Unit)} {ps:List MemPlace},DataW.LaidVars P W laid ps→∀ x∈laid,∃ g t cs fuel p,P.globalNamed x.1=some g∧(P.globals[g]?).map (·.type)=some t ∧
 W.var? P x.1=some cs∧DataW.trod (fun _=>()) P W 0 (fun _=>true) false fuel t cs.toList=some (x.2,p)
 |[],_,_,x,hx=>by cases hx
 |(n,d)::r,ps,h,x,hx=>by
  obtain ⟨g,t,cs,fuel,p,q,h1,h2,h3,h4,h5,-⟩:=h
  rcases List.mem_cons.1 hx with rfl|hx
  ·exact ⟨g,t,cs,fuel,p,h1,h2,h3,h4⟩
  ·exact sW h5 x hx
theorem yB (W:World):DL P [] (fun _=>none) empty W :=
 ⟨fun _ _ h=>(by cases h),fun _ _ h=>(by cases h),fun _ _ _ _ h=>(by cases h),fun _ h=>(by cases h)⟩
theorem Xd {F:Nat} {laid:List (String×DataW Unit)} {W:World} (hL:laidMet P laid W) {k:Nat} {e:TypeId} {l:List Value} (hk:Gg P F laid k=some (e,l)) :
 l.all plainCell=true∧∃ cs e' fr,W.heap[k]?=some (.cells cs e' fr)∧cs.toList=l:=by
 obtain ⟨ps,hL,-⟩:=hL
 unfold Gg at hk
 split at hk
 ·rename_i x g hx hg
  rw [Option.map_eq_some_iff] at hk
  obtain ⟨l',h1,h2⟩:=hk
  cases h2
  have hmem:=List.mem_of_find?_eq_some hx
  have hn:P.globalNamed x.1=some k:=by simpa using List.find?_some hx
  obtain ⟨g',t,cs,fuel,p,q1,q2,q3,q4⟩:=sW hL x hmem
  obtain rfl:g'=k:=Option.some.inj (q1.symm.trans hn)
  have ht:t=g.type:=by rw [hg] at q2;exact (Option.some.inj q2).symm
  subst ht
  unfold absP at h1
  split at h1
  ·rename_i l2 m' ha
   split at h1
   ·rename_i hp
    cases h1
    obtain ⟨ι',o1,o2,o3,o4⟩:=XZ (G:=[]) (max fuel F) _ _ _ _ (DataW.trod_le (Nat.le_max_left _ _) q4) (fun _=>none) empty _ _ (yB W) (fun b hb=>by cases hb) (uo (Nat.le_max_right _ _) ha)
    refine ⟨hp,?_⟩
    have hcs:cs.toList=l:=by
     apply List.ext_getElem?
     intro i
     by_cases hi:i<l.length
     ·obtain ⟨v',h1,h2⟩:=o4.get (List.getElem?_eq_getElem hi)
      rw [h1,List.getElem?_eq_getElem hi,h2.DT (List.all_eq_true.1 hp _ (List.getElem_mem hi))]
     ·rw [List.getElem?_eq_none (by have:=o4.1;omega),List.getElem?_eq_none (by omega)]
    simp only [World.var?,q1,Option.bind_some] at q3
    split at q3
    ·rename_i cs' e' fr hh
     cases q3
     exact ⟨cs,e',fr,hh,hcs⟩
    ·cases q3
   ·cases h1
  ·cases h1
 ·cases hk
theorem Z5 {F:Nat} {laid:List (String×DataW Unit)} {W:World} (hL:laidMet P laid W):∃ ι,DL P (AX P F laid) ι (BD P F laid) W∧Oi (BD P F laid):=by
 have hsz:(BD P F laid).size=P.globals.size:=by rw [BD,Oy];simp [empty]
 have hget:∀ k,k<P.globals.size→(BD P F laid).get k=match Gg P F laid k with|some (e,l)=>.cells l e 0 true|none=>.cells [] 0 0 true:=fun k hk=>by
  rw [BD,QV,if_neg (by simp [empty])]
  simp only [empty,Nat.sub_zero,List.getElem?_map,List.getElem?_range hk,Option.map_some]
 have hro:Oi (BD P F laid):=fun b hb=>by
  have h:=hget b (hsz▸hb)
  split at h<;>exact Mem.NQ h
 let ι:BN:=fun k=>match Gg P F laid k,W.heap[k]? with
  |some (e,l),some (.cells cs _ _)=>if k<P.globals.size then some ⟨k,0,cs.size,P.cellsOf e⟩ else none
  |_,_=>none
 have hι:∀ k ib,ι k=some ib→k<P.globals.size∧∃ e l cs e' fr,Gg P F laid k=some (e,l)∧W.heap[k]?=some (.cells cs e' fr)∧ib=⟨k,0,cs.size,P.cellsOf e⟩:=fun k ib h=>by
  simp only [ι] at h
  split at h
  ·rename_i e l cs e' fr h1 h2
   split at h
   ·rename_i h3
    cases h
    exact ⟨h3,e,l,cs,e',fr,h1,h2,rfl⟩
   ·cases h
  ·cases h
 refine ⟨ι,⟨fun k ib h=>?_,fun k ib h=>?_,fun k k' ib ib' h h' _=>?_,fun k hk=>?_⟩,hro⟩
 ·obtain ⟨h1,e,l,cs,e',fr,h2,h3,rfl⟩:=hι k ib h
  exact ⟨hsz▸h1,(Array.getElem?_eq_some_iff.1 h3).1⟩
 ·obtain ⟨h1,e,l,cs,e',fr,h2,h3,rfl⟩:=hι k ib h
  have hg:=hget k h1
  rw [h2] at hg
  simp only at hg
  obtain ⟨hp,cs',e2,fr2,h4,h5⟩:=Xd hL h2
  rw [h3] at h4
  cases h4
  simp only [hg,h3]
  refine ⟨fun h=>(by cases h),rfl,rfl,fun i hi=>?_,fun h=>(by cases h)⟩
  refine ⟨l.getD i undef,?_,AA.plainCell (List.all_eq_true.1 hp _ (getD_mem hi))⟩
  rw [Nat.zero_add,← Array.getElem?_toList,h5,getD_lt hi]
  exact List.getElem?_eq_getElem hi
 ·exact .inr ⟨hro k (hsz▸(hι k ib h).1),hro k' (hsz▸(hι k' ib' h').1)⟩
 ·simp only [AX,List.mem_filter,List.mem_range] at hk
  obtain ⟨h1,h2⟩:=hk
  obtain ⟨⟨e,l⟩,h3⟩:=Option.isSome_iff_exists.1 h2
  obtain ⟨hp,cs,e',fr,h4,h5⟩:=Xd hL h3
  refine ⟨⟨k,0,cs.size,P.cellsOf e⟩,?_,rfl,⟨rfl,fun vs e2 g ro hg=>?_⟩,?_,hro k (hsz▸h1)⟩
  ·simp only [ι,h3,h4,if_pos h1]
  ·have hg':=hget k h1
   rw [h3] at hg'
   rw [hg'] at hg
   cases hg
   rw [← h5];rfl
  ·have hg:=hget k h1
   rw [h3] at hg
   simp only [Mem.gen,hg,HY.gen]
end
section
variable {P:Program} {G:List Nat} {O:CJ}
def Ev {α β:Type} (F:Nat→Nat→Option (α×β)) (Q:α→β→Prop):Prop:=∃ a b,(∃ K,∀ N D,K≤N→K≤D→F N D=some (a,b))∧Q a b
def H8 (P:Program) (O:CJ) (G:List Nat) (f:FuncId) (BF:List Value) (m:Mem) (Q:Value→Mem→Prop):Prop :=
 Ev (fun N D=>EP P O G N D f BF m) Q
def LM (P:Program) (O:CJ) (G:List Nat) (c:Code) (s:St) (Q:BZ→St→Prop):Prop :=
 Ev (fun N D=>BX P (EP P O G N D) N c s) Q
def F5 (P:Program) (O:CJ) (G:List Nat) (o:Oper) (s:St) (Q:Value→Mem→Prop):Prop :=
 Ev (fun N D=>Ce P (EP P O G N D) (ev s.t) o s.m) Q
theorem Ev.mono {α β:Type} {F:Nat→Nat→Option (α×β)} {Q R:α→β→Prop} (h:Ev F Q) (hq:∀ a b,Q a b→R a b):Ev F R:=by
 obtain ⟨a,b,h,q⟩:=h
 exact ⟨a,b,h,hq _ _ q⟩
theorem Ev.now {α β:Type} {F:Nat→Nat→Option (α×β)} {Q:α→β→Prop} {a:α} {b:β} (h:∀ N D,F N D=some (a,b)) (q:Q a b):Ev F Q:=⟨a,b,⟨0,fun N D _ _=>h N D⟩,q⟩
theorem LM.seq {a b:Code} {s:St} {Q:BZ→St→Prop} (ha:LM P O G a s fun e s'=>match e with| .normal=>LM P O G b s' Q|e=>Q e s'):LM P O G (.seq a b) s Q:=by
 obtain ⟨e,s',⟨K,h⟩,q⟩:=ha
 cases e with
 |normal =>
  obtain ⟨e2,s2,⟨K2,h2⟩,q2⟩:=q
  refine ⟨e2,s2,⟨max K K2,fun N D hN hD=>?_⟩,q2⟩
  have:=h N D (by omega) (by omega)
  simp only [BX,this]
  exact h2 N D (by omega) (by omega)
 |ret=>exact ⟨_,s',⟨K,fun N D hN hD=>by simp only [BX,h N D hN hD]⟩,q⟩
 |exit i=>exact ⟨_,s',⟨K,fun N D hN hD=>by simp only [BX,h N D hN hD]⟩,q⟩
theorem LM.skip {s:St} {Q:BZ→St→Prop} (h:Q .normal s):LM P O G .skip s Q:=Ev.now (fun _ _=>rfl) h
theorem LM.ret {s:St} {Q:BZ→St→Prop} (h:Q .ret s):LM P O G .ret s Q:=Ev.now (fun _ _=>rfl) h
theorem LM.exit {id:Nat} {s:St} {Q:BZ→St→Prop} (h:Q (.exit id) s):LM P O G (.exit id) s Q:=Ev.now (fun _ _=>rfl) h
theorem LM.cond {c:Operand} {a b:Code} {s:St} {Q:BZ→St→Prop} (t:Bool) (hc:ev s.t c=.bool t) (ht:t=true→LM P O G a s Q) (hf:t=false→LM P O G b s Q) :
 LM P O G (.cond c a b) s Q:=by
 cases t
 ·obtain ⟨e,s',⟨K,h⟩,q⟩:=hf rfl
  exact ⟨e,s',⟨K,fun N D hN hD=>by simp only [BX,hc];exact h N D hN hD⟩,q⟩
 ·obtain ⟨e,s',⟨K,h⟩,q⟩:=ht rfl
  exact ⟨e,s',⟨K,fun N D hN hD=>by simp only [BX,hc];exact h N D hN hD⟩,q⟩
theorem LM.block {id:Nat} {b:Code} {s:St} {Q:BZ→St→Prop} (h:LM P O G b s fun e s'=>match e with| .exit i=>if i=id then Q .normal s' else Q (.exit i) s'|e=>Q e s'):LM P O G (.block id b) s Q:=by
 obtain ⟨e,s',⟨K,h⟩,q⟩:=h
 cases e with
 |normal=>exact ⟨_,s',⟨K,fun N D hN hD=>by simp only [BX,h N D hN hD]⟩,q⟩
 |ret=>exact ⟨_,s',⟨K,fun N D hN hD=>by simp only [BX,h N D hN hD]⟩,q⟩
 |exit i =>
  simp only at q
  split at q
  ·rename_i hi
   exact ⟨_,s',⟨K,fun N D hN hD=>by simp only [BX,h N D hN hD,if_pos hi]⟩,q⟩
  ·rename_i hi
   exact ⟨_,s',⟨K,fun N D hN hD=>by simp only [BX,h N D hN hD,if_neg hi]⟩,q⟩
theorem LM.loop {b:Code} {s:St} {Q:BZ→St→Prop} (I:Nat→St→Prop) (n:Nat) (h0:I n s)
 (hstep:∀ n s,I n s→LM P O G b s fun e s'=>match e with| .normal=>∃ n',n'<n∧I n' s'|e=>Q e s'):LM P O G (.loop b) s Q:=by
 have key:∀ n s,I n s→∃ e s',(∃ K,∀ N D k,K≤N→K≤D→K≤k→iterate (BX P (EP P O G N D) N b) k s=some (e,s'))∧Q e s':=by
  intro n
  induction n using Nat.strongRecOn with
  |_ n ih =>
   intro s hI
   obtain ⟨e,s',⟨K,h⟩,q⟩:=hstep n s hI
   cases e with
   |normal =>
    obtain ⟨n',hn,hI'⟩:=q
    obtain ⟨e2,s2,⟨K2,h2⟩,q2⟩:=ih n' hn s' hI'
    refine ⟨e2,s2,⟨max K K2+1,fun N D k hN hD hk=>?_⟩,q2⟩
    obtain ⟨k,rfl⟩:∃ j,k=j+1:=⟨k-1,by omega⟩
    simp only [iterate,h N D (by omega) (by omega)]
    exact h2 N D k (by omega) (by omega) (by omega)
   |ret =>
    refine ⟨_,s',⟨K+1,fun N D k hN hD hk=>?_⟩,q⟩
    obtain ⟨k,rfl⟩:∃ j,k=j+1:=⟨k-1,by omega⟩
    simp only [iterate,h N D (by omega) (by omega)]
   |exit i =>
    refine ⟨_,s',⟨K+1,fun N D k hN hD hk=>?_⟩,q⟩
    obtain ⟨k,rfl⟩:∃ j,k=j+1:=⟨k-1,by omega⟩
    simp only [iterate,h N D (by omega) (by omega)]
 obtain ⟨e,s',⟨K,h⟩,q⟩:=key n s h0
 exact ⟨e,s',⟨K,fun N D hN hD=>by simp only [BX];exact h N D N hN hD hN⟩,q⟩
def Rn (P:Program) (O:CJ) (G:List Nat) (ops:Array Oper) (l:List Oper) (s:St) (Q:St→Prop):Prop :=
 ∃ s',(∃ K,∀ N D,K≤N→K≤D→J4 P (EP P O G N D) ops l s=some s')∧Q s'
def Ig (P:Program) (O:CJ) (G:List Nat) (ops:Array Oper) (i:Nat) (l:List Oper) (s:St) (Q:St→Prop):Prop :=
 ∃ s',(∃ K,∀ N D,K≤N→K≤D→Js P (EP P O G N D) ops i l s=some s')∧Q s'
theorem LM.region {id:Nat} {ops:Array Oper} {s:St} {Q:BZ→St→Prop} (h:Rn P O G ops ops.toList s (Q .normal)):LM P O G (.region id ops false) s Q:=by
 obtain ⟨s',⟨K,h⟩,q⟩:=h
 exact ⟨_,s',⟨K,fun N D hN hD=>by simp only [BX,h N D hN hD,Option.map_some]⟩,q⟩
theorem LM.Gv {id:Nat} {ops:Array Oper} {s:St} {Q:BZ→St→Prop} (h:Ig P O G ops 0 ops.toList s (Q .normal)):LM P O G (.region id ops true) s Q:=by
 obtain ⟨s',⟨K,h⟩,q⟩:=h
 exact ⟨_,s',⟨K,fun N D hN hD=>by simp only [BX,h N D hN hD,Option.map_some]⟩,q⟩
theorem Rn.nil {ops:Array Oper} {s:St} {Q:St→Prop} (h:Q s):Rn P O G ops [] s Q:=⟨_,⟨0,fun _ _ _ _=>rfl⟩,h⟩
theorem Ig.nil {ops:Array Oper} {i:Nat} {s:St} {Q:St→Prop} (h:Q s):Ig P O G ops i [] s Q:=⟨_,⟨0,fun _ _ _ _=>rfl⟩,h⟩
theorem Rn.cons {ops:Array Oper} {o:Oper} {l:List Oper} {s:St} {Q:St→Prop} (hw:Region.wanted o (D6 ops s.t)=true)
 (h:F5 P O G o s fun v m'=>Rn P O G ops l { t:=Gz s.t o.dst v,m:=m' } Q):Rn P O G ops (o::l) s Q:=by
 obtain ⟨v,m',⟨K,h⟩,s',⟨K2,h2⟩,q⟩:=h
 refine ⟨s',⟨max K K2,fun N D hN hD=>?_⟩,q⟩
 simp only [J4,KZ,hw,if_true,nM,h N D (by omega) (by omega)]
 exact h2 N D (by omega) (by omega)
theorem Rn.skip {ops:Array Oper} {o:Oper} {l:List Oper} {s:St} {Q:St→Prop} (hw:Region.wanted o (D6 ops s.t)=false)
 (h:Rn P O G ops l { t:=Gz s.t o.dst undef,m:=s.m } Q):Rn P O G ops (o::l) s Q:=by
 obtain ⟨s',⟨K2,h2⟩,q⟩:=h
 refine ⟨s',⟨K2,fun N D hN hD=>?_⟩,q⟩
 simp only [J4,KZ,hw]
 exact h2 N D (by omega) (by omega)
def Mem.at (m:Mem) (k:Nat):Mem:={ m with low:=k }
@[simp] theorem Mem.b6e (m:Mem) (k b:Nat):(m.at k).get b=m.get b:=rfl
@[simp] theorem Mem.b4p (m:Mem) (k:Nat):(m.at k).size=m.size:=rfl
@[simp] theorem Mem.a1f (m:Mem) (k:Nat):(m.at k).low=k:=rfl
@[simp] theorem Mem.at_at (m:Mem) (k j:Nat):(m.at k).at j=m.at j:=rfl
theorem Ig.cons {ops:Array Oper} {i:Nat} {o:Oper} {l:List Oper} {s:St} {Q:St→Prop} (hw:Region.wanted o (D6 ops s.t)=true)
 (h:F5 P O G o { t:=s.t,m:=s.m.at s.m.size } fun v m'=>(barrier P ops i=true∨s.m.size≤m'.low∨(dM P ops i=true∧OV ops i s.t=true)∨(OD P ops i=true∧KN ops i s.t s.m m'=true))∧Ig P O G ops (i+1) l { t:=Gz s.t o.dst v,m:=m'.at (min s.m.low m'.low) } Q) :
 Ig P O G ops i (o::l) s Q:=by
 obtain ⟨v,m',⟨K,h⟩,hb,s',⟨K2,h2⟩,q⟩:=h
 refine ⟨s',⟨max K K2,fun N D hN hD=>?_⟩,q⟩
 have h1:=h N D (by omega) (by omega)
 simp only [Mem.at] at h1
 have hb':(barrier P ops i||decide (s.m.size≤m'.low)||(dM P ops i&&OV ops i s.t)||(OD P ops i&&KN ops i s.t s.m m'))=true:=by
  rcases hb with h|h|⟨h1,h2⟩|⟨h1,h2⟩
  ·rw [h];rfl
  ·rw [decide_eq_true h];simp
  ·rw [h1,h2];simp
  ·rw [h1,h2];simp
 simp only [Js,N7,KZ,hw,if_true,nM,h1,hb']
 exact h2 N D (by omega) (by omega)
theorem Ig.skip {ops:Array Oper} {i:Nat} {o:Oper} {l:List Oper} {s:St} {Q:St→Prop} (hw:Region.wanted o (D6 ops s.t)=false)
 (h:Ig P O G ops (i+1) l { t:=Gz s.t o.dst undef,m:=s.m.at (min s.m.low s.m.size) } Q):Ig P O G ops i (o::l) s Q:=by
 obtain ⟨s',⟨K2,h2⟩,q⟩:=h
 refine ⟨s',⟨K2,fun N D hN hD=>?_⟩,q⟩
 have hb':(barrier P ops i||decide (s.m.size≤s.m.size)||(dM P ops i&&OV ops i s.t)||(OD P ops i&&KN ops i s.t s.m { s.m with low:=s.m.size }))=true:=by simp
 simp only [Js,N7,KZ,hw]
 simp only [Bool.false_eq_true,if_false,hb',if_true]
 exact h2 N D (by omega) (by omega)
theorem F5.op {o:Oper} {s:St} {Q:Value→Mem→Prop} {v:Value} {m':Mem} (hc:∀ call,Ce P call (ev s.t) o s.m=some (v,m')) (q:Q v m'):F5 P O G o s Q:=Ev.now (fun _ _=>hc _) q
theorem F5.call {o:Oper} {s:St} {Q:Value→Mem→Prop} {f:FuncId} {BF:List Value} (hc:∀ call:Ep,Ce P call (ev s.t) o s.m=call f BF s.m) (h:H8 P O G f BF s.m Q):F5 P O G o s Q:=by
 obtain ⟨v,m',⟨K,h⟩,q⟩:=h
 exact ⟨v,m',⟨K,fun N D hN hD=>(hc _).trans (h N D hN hD)⟩,q⟩
theorem H8.enter {f:FuncId} {fn:Func} {c:Code} {BF:List Value} {m:Mem} {Q:Value→Mem→Prop} (ho:O f=none) (hf:P.funcs[f]?=some fn) (hb:fn.body=some c) (hok:Ij G fn c=true) (hn:BF.length≤fn.ntmps)
 (h:LM P O G c { t:=tmpsOf 0 BF .leaf,m:=m } fun e s=>match e with| .exit _=>False|_=>∃ v,EN P fn s=some v∧Q v s.m):H8 P O G f BF m Q:=by
 obtain ⟨e,s,⟨K,h⟩,q⟩:=h
 have:∃ v,EN P fn s=some v∧Q v s.m∧(e=.normal∨e=.ret):=by
  cases e with
  |normal=>obtain ⟨v,h1,h2⟩:=q;exact ⟨v,h1,h2,.inl rfl⟩
  |ret=>obtain ⟨v,h1,h2⟩:=q;exact ⟨v,h1,h2,.inr rfl⟩
  |exit i=>exact q.elim
 obtain ⟨v,h1,h2,h3⟩:=this
 refine ⟨v,s.m,⟨K+1,fun N D hN hD=>?_⟩,h2⟩
 obtain ⟨D,rfl⟩:∃ j,D=j+1:=⟨D-1,by omega⟩
 have hx:=h N D (by omega) (by omega)
 rcases h3 with rfl|rfl<;>simp only [EP,ho,Option.bind_none,hf,hb,hok,decide_eq_true hn,Bool.and_self,if_true,hx,h1,Option.map_some]
theorem H8.Xv {f:FuncId} {F:List Value→Mem→Option (Value×Mem)} {BF:List Value} {m m':Mem} {v:Value} {Q:Value→Mem→Prop} (ho:O f=some F) (h:F BF m=some (v,m')) (q:Q v m'):H8 P O G f BF m Q:=by
 refine ⟨v,m',⟨1,fun N D hN hD=>?_⟩,q⟩
 obtain ⟨D,rfl⟩:∃ j,D=j+1:=⟨D-1,by omega⟩
 simp only [EP,ho,Option.bind_some,h]
structure Fr (m m':Mem):Prop where
 size:m.size≤m'.size
 get:∀ b,b<m.size→m'.get b=m.get b
 low:min m.low m.size≤m'.low
end
end Go.Am
namespace Go.Vm
section
open Go.Am
inductive FV where
 |int (k:IntKind) (n:Int)
 |bool (b:Bool)
 |str (s:ByteArray)
 |val (x:Value)
 |agg (cs:List FV)
 |lst (e:TypeId) (cs:List FV) (n:Nat)
 |EL (cs:List FV)
 |own (e:TypeId) (cs:List FV) (n:Nat)
inductive PV where
 |p (x:FV)
 |agg (cs:List PV)
 |Ee (vs:List PV)
 |vec (b tag off len:Nat)
 |ref (b off:Nat)
 |Fq (b tag off:Nat)
 |mref (b:Nat)
 |clo (f:FuncId) (fs cs:List PV)
inductive HB where
 |box (e:TypeId) (cs:List PV)
 |vec (e:TypeId) (cs:List FV) (n:Nat) (z:Bool)
 |map (es:List (FV×FV))
 |OY (e:TypeId) (cs:List PV) (n:Nat)
 |IU (ks:List FV) (cs:List PV)
abbrev Heap:=List (Nat×HB)
abbrev Frame:=List (Nat×PV)
inductive Tg where
 |box
 |vec (n:Nat)
 |map
def Tg.le:Tg→Tg→Prop
 | .box,.box=>True
 | .map,.map=>True
 | .vec n,.vec k=>n≤k
 |_,_=>False
def HB.tag:HB→Tg
 | .box ..=>.box
 | .vec _ _ n _=>.vec n
 | .map _=>.map
 | .OY _ _ n=>.vec n
 | .IU _ _=>.map
def hget:Heap→Nat→Option HB
 |[],_=>none
 |(a,x)::H,b=>match Nat.decEq a b with
  | .isTrue _=>some x
  | .isFalse _=>hget H b
def hput:Heap→Nat→HB→Heap
 |[],_,_=>[]
 |(a,x)::H,b,y=>match Nat.decEq a b with
  | .isTrue _=>(a,y)::H
  | .isFalse _=>(a,x)::hput H b y
def ET:Frame→Nat→Option PV
 |[],_=>none
 |(a,x)::L,b=>match Nat.decEq a b with
  | .isTrue _=>some x
  | .isFalse _=>ET L b
theorem BA (a:Nat) (x:HB) (H:Heap) (b:Nat):hget ((a,x)::H) b=if a=b then some x else hget H b:=by
 simp only [hget]
 cases Nat.decEq a b with
 |isTrue h=>simp [h]
 |isFalse h=>simp [h]
theorem DW (a:Nat) (x:PV) (H:Frame) (b:Nat):ET ((a,x)::H) b=if a=b then some x else ET H b:=by
 simp only [ET]
 cases Nat.decEq a b with
 |isTrue h=>simp [h]
 |isFalse h=>simp [h]
theorem LP (H:Heap) (b c:Nat) (y:HB):hget (hput H b y) c=if b=c then (hget H b).map (fun _=>y) else hget H c:=by
 induction H with
 |nil=>simp [hput,hget]
 |cons a H ih =>
  obtain ⟨a,x⟩:=a
  simp only [hput]
  cases hd:Nat.decEq a b with
  |isTrue h =>
   subst h
   simp only [BA]
   by_cases hc:a=c<;>simp [hc]
  |isFalse h =>
   simp only [BA,ih]
   by_cases hbc:b=c
   ·subst hbc
    simp [h]
   ·simp [hbc]
def htag (H:Heap) (b:Nat):Option Tg:=(hget H b).map HB.tag
def Dh:Value:=.slice none 0 0
mutual
inductive RF (m:Mem) (F:Nat→Prop):FV→Value→Prop
 |int (k:IntKind) (n:Int):RF m F (.int k n) (.int k n)
 |bool (b:Bool):RF m F (.bool b) (.bool b)
 |str (s:ByteArray):RF m F (.str s) (.string s)
 |val {x:Value} (h:Am.plainCell x=true):RF m F (.val x) x
 |agg {cs:List FV} {vs:List Value} (h:Dv m F cs vs) (hc:vs.all BO=true):RF m F (.agg cs) (.agg vs.toArray)
 |nil (e:TypeId):RF m F (.lst e [] 0) (.slice none 0 0)
 |room (e:TypeId) (b o g:Nat):RF m F (.lst e [] 0) (.slice (some ⟨b,o,some g⟩) 0 0)
 |lst {e:TypeId} {cs:List FV} {n b o g:Nat} {vs ws:List Value} {ro:Bool} (hF:F b) (hm:m.get b=.cells vs e g ro) (hw:takeN cs.length (vs.drop o)=some ws) (h:Dv m F cs ws) (hc:ws.all BO=true) :
  RF m F (.lst e cs n) (.slice (some ⟨b,o,none⟩) n g)
 |EL {cs:List FV} {b o g:Nat} {sp:Option Nat} {e:TypeId} {vs ws:List Value} {ro:Bool} (hF:F b) (hm:m.get b=.cells vs e g ro) (hg:LZ ⟨b,o,sp⟩=g) (hw:takeN cs.length (vs.drop o)=some ws) (h:Dv m F cs ws) (hc:ws.all BO=true) :
  RF m F (.EL cs) (.pointer (some ⟨b,o,sp⟩))
 |own {e:TypeId} {cs:List FV} {n b o g:Nat} {vs ws:List Value} (hF:F b) (hm:m.get b=.cells vs e g false) (hw:takeN cs.length (vs.drop o)=some ws) (h:Dv m F cs ws) (hc:ws.all BO=true) :
  RF m F (.own e cs n) (.slice (some ⟨b,o,none⟩) n g)
 |QI (e:TypeId):RF m F (.own e [] 0) (.slice none 0 0)
 |O7 (e:TypeId) (b o g:Nat):RF m F (.own e [] 0) (.slice (some ⟨b,o,some g⟩) 0 0)
inductive Dv (m:Mem) (F:Nat→Prop):List FV→List Value→Prop
 |nil:Dv m F [] []
 |cons {c:FV} {v:Value} {cs:List FV} {vs:List Value} (h:RF m F c v) (t:Dv m F cs vs):Dv m F (c::cs) (v::vs)
end
def EW (s:Value) (off len:Nat) (v:Value):Prop :=
 match s with
 | .slice (some ⟨c,0,none⟩) _ g=>v=.slice (some ⟨c,off,none⟩) len g
 |s=>v=s∧off=0∧len=0
mutual
inductive RP (m:Mem) (F:Nat→Prop) (T:Nat→Option Tg) (σ:Nat→Value) (nx:Nat):PV→Value→Prop
 |p {x:FV} {v:Value} (h:RF m F x v):RP m F T σ nx (.p x) v
 |agg {cs:List PV} {vs:List Value} (h:Dx m F T σ nx cs vs) (hc:vs.all BO=true):RP m F T σ nx (.agg cs) (.agg vs.toArray)
 |Ee {cs:List PV} {vs:List Value} (h:Dx m F T σ nx cs vs):RP m F T σ nx (.Ee cs) (.tuple vs.toArray)
 |vec {b tag off len:Nat} {v:Value} (hb:b<nx) (hc:BO v=true) (h:∀ n,T b=some (.vec n)→tag≤n∧(tag=n→EW (σ b) off len v)):RP m F T σ nx (.vec b tag off len) v
 |ref {b off:Nat} {v:Value} (hb:b<nx) (hc:BO v=true) (h:T b=some .box→∃ c,σ b=.pointer (some ⟨c,0,none⟩)∧v=.pointer (some ⟨c,off,none⟩)):RP m F T σ nx (.ref b off) v
 |Fq {b tag off:Nat} {v:Value} (hb:b<nx) (hc:BO v=true) (h:∀ n,T b=some (.vec n)→tag≤n∧(tag=n→∃ c k g,σ b=.slice (some ⟨c,0,none⟩) k g∧v=.pointer (some ⟨c,off,some g⟩))) :
  RP m F T σ nx (.Fq b tag off) v
 |mref {b:Nat} {v:Value} (hb:b<nx) (hc:BO v=true) (h:T b=some .map→v=σ b):RP m F T σ nx (.mref b) v
 |clo {f:FuncId} {fs cs:List PV} {vf vc:List Value} (h1:Dx m F T σ nx fs vf) (h2:Dx m F T σ nx cs vc):RP m F T σ nx (.clo f fs cs) (.func (.func f) vf.toArray vc.toArray)
inductive Dx (m:Mem) (F:Nat→Prop) (T:Nat→Option Tg) (σ:Nat→Value) (nx:Nat):List PV→List Value→Prop
 |nil:Dx m F T σ nx [] []
 |cons {c:PV} {v:Value} {cs:List PV} {vs:List Value} (h:RP m F T σ nx c v) (t:Dx m F T σ nx cs vs):Dx m F T σ nx (c::cs) (v::vs)
end
mutual
theorem RF.mono {m m':Mem} {F F':Nat→Prop} (hF:∀ c,F c→F' c∧m'.get c=m.get c):∀ {x:FV} {v:Value},RF m F x v→RF m' F' x v
 |_,_,.int k n=>.int k n
 |_,_,.bool b=>.bool b
 |_,_,.str s=>.str s
 |_,_,.val h=>.val h
 |_,_,.agg h hc=>.agg (Dv.mono hF h) hc
 |_,_,.nil e=>.nil e
 |_,_,.room e b o g=>.room e b o g
 |_,_,.lst hb hm hw h hc=>.lst (hF _ hb).1 ((hF _ hb).2.trans hm) hw (Dv.mono hF h) hc
 |_,_,.EL hb hm hg hw h hc=>.EL (hF _ hb).1 ((hF _ hb).2.trans hm) hg hw (Dv.mono hF h) hc
 |_,_,.own hb hm hw h hc=>.own (hF _ hb).1 ((hF _ hb).2.trans hm) hw (Dv.mono hF h) hc
 |_,_,.QI e=>.QI e
 |_,_,.O7 e b o g=>.O7 e b o g
theorem Dv.mono {m m':Mem} {F F':Nat→Prop} (hF:∀ c,F c→F' c∧m'.get c=m.get c):∀ {x:List FV} {v:List Value},Dv m F x v→Dv m' F' x v
 |_,_,.nil=>.nil
 |_,_,.cons h t=>.cons (RF.mono hF h) (Dv.mono hF t)
end
def UC:Option Tg→Option Tg→Prop
 |_,none=>True
 |some t,some t'=>t.le t'
 |none,some _=>False
def Names (nx:Nat) (T:Nat→Option Tg) (σ:Nat→Value) (T':Nat→Option Tg) (σ':Nat→Value):Prop :=
 ∀ b,b<nx→UC (T b) (T' b)∧(∀ t,T b=some t→T' b=some t→σ' b=σ b)
theorem Names.vec {nx:Nat} {T T':Nat→Option Tg} {σ σ':Nat→Value} (h:Names nx T σ T' σ') {b n:Nat} (hb:b<nx) (ht:T' b=some (.vec n)):∃ k,T b=some (.vec k)∧k≤n∧(k=n→σ' b=σ b):=by
 obtain ⟨h1,h2⟩:=h b hb
 rw [ht] at h1
 cases hT:T b with
 |none=>rw [hT] at h1;exact h1.elim
 |some t =>
  rw [hT] at h1
  cases t with
  |vec k=>exact ⟨k,rfl,h1,fun e=>h2 _ (by rw [hT,e]) ht⟩
  |box=>exact h1.elim
  |map=>exact h1.elim
theorem Names.box {nx:Nat} {T T':Nat→Option Tg} {σ σ':Nat→Value} (h:Names nx T σ T' σ') {b:Nat} (hb:b<nx) (ht:T' b=some .box):T b=some .box∧σ' b=σ b:=by
 obtain ⟨h1,h2⟩:=h b hb
 rw [ht] at h1
 cases hT:T b with
 |none=>rw [hT] at h1;exact h1.elim
 |some t =>
  rw [hT] at h1
  cases t with
  |box=>exact ⟨rfl,h2 _ hT ht⟩
  |vec k=>exact h1.elim
  |map=>exact h1.elim
theorem Names.map {nx:Nat} {T T':Nat→Option Tg} {σ σ':Nat→Value} (h:Names nx T σ T' σ') {b:Nat} (hb:b<nx) (ht:T' b=some .map):T b=some .map∧σ' b=σ b:=by
 obtain ⟨h1,h2⟩:=h b hb
 rw [ht] at h1
 cases hT:T b with
 |none=>rw [hT] at h1;exact h1.elim
 |some t =>
  rw [hT] at h1
  cases t with
  |map=>exact ⟨rfl,h2 _ hT ht⟩
  |vec k=>exact h1.elim
  |box=>exact h1.elim
theorem UC.refl (t:Option Tg):UC t t:=by
 cases t with
 |none=>trivial
 |some t=>cases t<;>simp [UC,Tg.le]
theorem UC.trans {a b c:Option Tg} (h:UC a b) (k:UC b c):UC a c:=by
 cases c with
 |none=>trivial
 |some c =>
  cases b with
  |none=>exact k.elim
  |some b =>
   cases a with
   |none=>exact h.elim
   |some a =>
    cases a<;>cases b<;>cases c<;>simp_all [UC,Tg.le]
    omega
theorem UC.antisymm {a b c:Option Tg} (h:UC a b) (k:UC b c) (e:c=a):b=a:=by
 subst e
 cases c with
 |none =>
  cases b with
  |none=>rfl
  |some b=>exact h.elim
 |some c =>
  cases b with
  |none=>exact k.elim
  |some b =>
   cases c<;>cases b<;>simp_all [UC,Tg.le]
   omega
theorem Names.refl (nx:Nat) (T:Nat→Option Tg) (σ:Nat→Value):Names nx T σ T σ:=fun _ _=>⟨UC.refl _,fun _ _ _=>rfl⟩
theorem Names.trans {nx nx':Nat} {T T' T'':Nat→Option Tg} {σ σ' σ'':Nat→Value} (h:Names nx T σ T' σ') (k:Names nx' T' σ' T'' σ'') (hn:nx≤nx'):Names nx T σ T'' σ'':=fun b hb=>by
 obtain ⟨h1,h2⟩:=h b hb
 obtain ⟨k1,k2⟩:=k b (Nat.lt_of_lt_of_le hb hn)
 refine ⟨h1.trans k1,fun t e1 e2=>?_⟩
 have e':=UC.antisymm h1 k1 (e2.trans e1.symm)
 rw [k2 t (e'.trans e1) e2,h2 t e1 (e'.trans e1)]
section
variable {m m':Mem} {F F':Nat→Prop} {T T':Nat→Option Tg} {σ σ':Nat→Value} {nx nx':Nat}
mutual
theorem RP.mono (hF:∀ c,F c→F' c∧m'.get c=m.get c) (hN:Names nx T σ T' σ') (hn:nx≤nx'):∀ {x:PV} {v:Value},RP m F T σ nx x v→RP m' F' T' σ' nx' x v
 |_,_,.p h=>.p (h.mono hF)
 |_,_,.agg h hc=>.agg (Dx.mono hF hN hn h) hc
 |_,_,.Ee h=>.Ee (Dx.mono hF hN hn h)
 |_,_,.vec hb hc h=>.vec (Nat.lt_of_lt_of_le hb hn) hc fun n ht=>by
  obtain ⟨k,h1,h2,h3⟩:=hN.vec hb ht
  obtain ⟨h4,h5⟩:=h k h1
  exact ⟨by omega,fun e=>by rw [h3 (by omega)];exact h5 (by omega)⟩
 |_,_,.ref hb hc h=>.ref (Nat.lt_of_lt_of_le hb hn) hc fun ht=>by
  obtain ⟨h1,h2⟩:=hN.box hb ht
  rw [h2];exact h h1
 |_,_,.Fq hb hc h=>.Fq (Nat.lt_of_lt_of_le hb hn) hc fun n ht=>by
  obtain ⟨k,h1,h2,h3⟩:=hN.vec hb ht
  obtain ⟨h4,h5⟩:=h k h1
  exact ⟨by omega,fun e=>by rw [h3 (by omega)];exact h5 (by omega)⟩
 |_,_,.mref hb hc h=>.mref (Nat.lt_of_lt_of_le hb hn) hc fun ht=>by
  obtain ⟨h1,h2⟩:=hN.map hb ht
  rw [h2];exact h h1
 |_,_,.clo h1 h2=>.clo (Dx.mono hF hN hn h1) (Dx.mono hF hN hn h2)
theorem Dx.mono (hF:∀ c,F c→F' c∧m'.get c=m.get c) (hN:Names nx T σ T' σ') (hn:nx≤nx'):∀ {x:List PV} {v:List Value},Dx m F T σ nx x v→Dx m' F' T' σ' nx' x v
 |_,_,.nil=>.nil
 |_,_,.cons h t=>.cons (RP.mono hF hN hn h) (Dx.mono hF hN hn t)
end
end
def Dl:Value→Option Nat
 | .pointer (some a)=>some a.block
 | .slice (some ⟨c,_,none⟩) _ _=>some c
 | .map (some r)=>some r
 |_=>none
def eP (m:Mem) (F:Nat→Prop) (es:List (FV×FV)) (l:List MapEntry):Prop :=
 Dv m F (es.map (·.1)) (l.map (·.key))∧Dv m F (es.map (·.2)) (l.map (·.val))
def Stamped (l:List MapEntry) (clock:Nat):Prop:=l.map (·.born)=List.range l.length∧clock=l.length
def RB (m:Mem) (F:Nat→Prop) (T:Nat→Option Tg) (σ:Nat→Value) (nx:Nat) (s:Value):HB→Prop
 | .box e cs=>∃ c vs,s=.pointer (some ⟨c,0,none⟩)∧c<m.size∧¬ F c∧m.get c=.cells vs e 0 false∧Dx m F T σ nx cs vs∧vs.all BO=true
 | .vec e cs n z=>(cs=[]∧n=0∧(s=Dh∧z=true∨∃ b o g,s=.slice (some ⟨b,o,some g⟩) 0 0∧z=false)) ∨
  ∃ c g vs,s=.slice (some ⟨c,0,none⟩) n g∧c<m.size∧¬ F c∧m.get c=.cells vs e g false∧Dv m F cs vs∧vs.all BO=true∧(n=0→z=false)
 | .map es=>∃ r l clock,s=.map (some r)∧r<m.size∧¬ F r∧m.get r=.map l clock∧eP m F es l
 | .OY e cs n=>∃ c g vs,s=.slice (some ⟨c,0,none⟩) n g∧c<m.size∧¬ F c∧m.get c=.cells vs e g false∧Dx m F T σ nx cs vs∧vs.all BO=true
 | .IU ks cs=>∃ r l clock,s=.map (some r)∧r<m.size∧¬ F r∧m.get r=.map l clock∧Dv m F ks (l.map (·.key))∧Dx m F T σ nx cs (l.map (·.val))∧Stamped l clock
structure Ctx (Γ:Nat→Option (List Value×TypeId)) (m:Mem) (F:Nat→Prop) (σ:Nat→Value) (H:Heap) (nx:Nat):Prop where
 fr:∀ c,F c→c<m.size
 hp:∀ b x,hget H b=some x→b<nx∧RB m F (htag H) σ nx (σ b) x
 sep:∀ b b' x x' c,hget H b=some x→hget H b'=some x'→Dl (σ b)=some c→Dl (σ b')=some c→b=b'
 gl:∀ g vs e,Γ g=some (vs,e)→F g∧m.get g=.cells vs e 0 true∧vs.all Am.plainCell=true
def own (H:Heap) (σ:Nat→Value) (c:Nat):Prop:=∃ b x,hget H b=some x∧Dl (σ b)=some c
structure Step (m:Mem) (F:Nat→Prop) (σ:Nat→Value) (H:Heap) (nx:Nat) (m':Mem) (F':Nat→Prop) (σ':Nat→Value) (H':Heap) (nx':Nat):Prop where
 size:m.size≤m'.size
 keep:∀ c,c<m.size→¬ own H σ c→m'.get c=m.get c
 JC:∀ c,F c→F' c
 JA:∀ c,c<m.size→F' c→F c∨own H σ c
 IK:∀ c,c<m.size→own H' σ' c→own H σ c
 Ud:nx≤nx'
 names:Names nx (htag H) σ (htag H') σ'
 low:∀ k,k≤m.low→k≤m.size→(∀ c,own H σ c→k≤c)→k≤m'.low
variable {Γ:Nat→Option (List Value×TypeId)}
theorem Ctx.KD {m:Mem} {F:Nat→Prop} {σ:Nat→Value} {H:Heap} {nx c:Nat} (h:Ctx Γ m F σ H nx) (ho:own H σ c):¬ F c∧c<m.size:=by
 obtain ⟨b,x,hb,hc⟩:=ho
 obtain ⟨_,hr⟩:=h.hp b x hb
 cases x with
 |box e cs =>
  obtain ⟨c',vs,h1,h2,h3,_⟩:=hr
  rw [h1] at hc
  simp only [Dl,Option.some.injEq] at hc
  subst hc
  exact ⟨h3,h2⟩
 |vec e cs n z =>
  rcases hr with ⟨_,_,h1⟩|⟨c',g,vs,h1,h2,h3,_⟩
  ·rcases h1 with ⟨h1,_⟩|⟨b',o,g,h1,_⟩<;>rw [h1] at hc<;>simp [Dl,Dh] at hc
  ·rw [h1] at hc
   simp only [Dl,Option.some.injEq] at hc
   subst hc
   exact ⟨h3,h2⟩
 |map es =>
  obtain ⟨r,l,clock,h1,h2,h3,_⟩:=hr
  rw [h1] at hc
  simp only [Dl,Option.some.injEq] at hc
  subst hc
  exact ⟨h3,h2⟩
 |OY e cs n =>
  obtain ⟨c',g,vs,h1,h2,h3,_⟩:=hr
  rw [h1] at hc
  simp only [Dl,Option.some.injEq] at hc
  subst hc
  exact ⟨h3,h2⟩
 |IU ks cs =>
  obtain ⟨r,l,clock,h1,h2,h3,_⟩:=hr
  rw [h1] at hc
  simp only [Dl,Option.some.injEq] at hc
  subst hc
  exact ⟨h3,h2⟩
theorem Step.refl (m:Mem) (F:Nat→Prop) (σ:Nat→Value) (H:Heap) (nx:Nat):Step m F σ H nx m F σ H nx :=
 ⟨Nat.le_refl _,fun _ _ _=>rfl,fun _ h=>h,fun _ _ h=>.inl h,fun _ _ h=>h,Nat.le_refl _,Names.refl _ _ _,fun _ h _ _=>h⟩
theorem Step.trans {m m' m'':Mem} {F F' F'':Nat→Prop} {σ σ' σ'':Nat→Value} {H H' H'':Heap} {nx nx' nx'':Nat} (h:Step m F σ H nx m' F' σ' H' nx') (k:Step m' F' σ' H' nx' m'' F'' σ'' H'' nx'') :
 Step m F σ H nx m'' F'' σ'' H'' nx'' where
 size:=Nat.le_trans h.size k.size
 keep c hc ho:=(k.keep c (Nat.lt_of_lt_of_le hc h.size) fun o=>ho (h.IK c hc o)).trans (h.keep c hc ho)
 JC c hc:=k.JC c (h.JC c hc)
 JA c hc hf:=by
  rcases k.JA c (Nat.lt_of_lt_of_le hc h.size) hf with h1|h1
  ·exact h.JA c hc h1
  ·exact .inr (h.IK c hc h1)
 IK c hc ho:=h.IK c hc (k.IK c (Nat.lt_of_lt_of_le hc h.size) ho)
 Ud:=Nat.le_trans h.Ud k.Ud
 names:=h.names.trans k.names h.Ud
 low j h1 h2 h3:=k.low j (h.low j h1 h2 h3) (Nat.le_trans h2 h.size) fun c ho=>by
  by_cases hc:c<m.size
  ·exact h3 c (h.IK c hc ho)
  ·omega
theorem Step.frozen {m m':Mem} {F F':Nat→Prop} {σ σ':Nat→Value} {H H':Heap} {nx nx':Nat} (h:Step m F σ H nx m' F' σ' H' nx') (hx:Ctx Γ m F σ H nx):∀ c,F c→F' c∧m'.get c=m.get c:=fun c hc =>
 ⟨h.JC c hc,h.keep c (hx.fr c hc) fun ho=>(hx.KD ho).1 hc⟩
theorem RP.step {m m':Mem} {F F':Nat→Prop} {σ σ':Nat→Value} {H H':Heap} {nx nx':Nat} (h:Step m F σ H nx m' F' σ' H' nx') (hx:Ctx Γ m F σ H nx) {x:PV} {v:Value} (hr:RP m F (htag H) σ nx x v) :
 RP m' F' (htag H') σ' nx' x v:=hr.mono (h.frozen hx) h.names h.Ud
def RL (m:Mem) (F:Nat→Prop) (T:Nat→Option Tg) (σ:Nat→Value) (nx:Nat) (L:Frame) (t:Tr Value):Prop:=∀ i v,ET L i=some v→RP m F T σ nx v (CB t i)
theorem RL.step {m m':Mem} {F F':Nat→Prop} {σ σ':Nat→Value} {H H':Heap} {nx nx':Nat} (h:Step m F σ H nx m' F' σ' H' nx') (hx:Ctx Γ m F σ H nx) {L:Frame} {t:Tr Value} (hr:RL m F (htag H) σ nx L t) :
 RL m' F' (htag H') σ' nx' L t:=fun i v hi=>(hr i v hi).step h hx
theorem RL.set {m:Mem} {F:Nat→Prop} {T:Nat→Option Tg} {σ:Nat→Value} {nx:Nat} {L:Frame} {t:Tr Value} (hr:RL m F T σ nx L t) {d:Nat} {x:PV} {v:Value} (h:RP m F T σ nx x v) :
 RL m F T σ nx ((d,x)::L) (Og t d v):=fun i y hi=>by
 rw [DW] at hi
 rw [Di]
 by_cases e:d=i
 ·rw [if_pos e] at hi ⊢
  cases hi
  exact h
 ·rw [if_neg e] at hi ⊢
  exact hr i y hi
def Gy (L:Frame) (dst:Option Nat) (x:PV):Frame :=
 match dst with
 |some d=>(d,x)::L
 |none=>L
theorem RL.put {m:Mem} {F:Nat→Prop} {T:Nat→Option Tg} {σ:Nat→Value} {nx:Nat} {L:Frame} {t:Tr Value} (hr:RL m F T σ nx L t) {d:Option Nat} {x:PV} {v:Value} (h:RP m F T σ nx x v) :
 RL m F T σ nx (Gy L d x) (Gz t d v):=by
 cases d with
 |none=>exact hr
 |some d=>exact hr.set h
def GL:Value→FV
 | .int k n=>.int k n
 | .bool b=>.bool b
 | .string s=>.str s
 |x=>.val x
theorem nP {m:Mem} {F:Nat→Prop} {x:Value} (h:Am.plainCell x=true):RF m F (GL x) x:=by
 unfold GL
 split
 ·exact .int _ _
 ·exact .bool _
 ·exact .str _
 ·exact .val h
theorem Ho {m:Mem} {F:Nat→Prop}:∀ {l:List Value},l.all Am.plainCell=true→Dv m F (l.map GL) l
 |[],_=>.nil
 |v::l,h=>by
  simp only [List.all_cons,Bool.and_eq_true] at h
  exact .cons (nP h.1) (Ho h.2)
def WL:Value→Option PV
 | .int k n=>some (.p (.int k n))
 | .bool b=>some (.p (.bool b))
 | .string s=>some (.p (.str s))
 | .agg cs=>if cs.toList.all Am.plainCell then some (.p (.agg (cs.toList.map GL))) else none
 |x=>if Am.plainCell x then some (.p (.val x)) else none
def Bh (Γ:Nat→Option (List Value×TypeId)) (L:Frame):Operand→Option PV
 | .tmp i=>ET L i
 | .const v=>WL v
 | .global g=>(Γ g).map fun x=>.p (.EL (x.1.map GL))
 | .func f=>some (.clo f [] [])
theorem U3 {m:Mem} {F:Nat→Prop} {T:Nat→Option Tg} {σ:Nat→Value} {nx:Nat} {v:Value} {x:PV} (h:WL v=some x):RP m F T σ nx x v:=by
 unfold WL at h
 split at h
 ·cases h;exact .p (.int _ _)
 ·cases h;exact .p (.bool _)
 ·cases h;exact .p (.str _)
 ·split at h
  ·rename_i cs hc
   cases h
   exact .p (.agg (Ho hc) (Dj hc))
  ·cases h
 ·split at h
  ·rename_i hc
   cases h
   exact .p (.val hc)
  ·cases h
theorem Dv.length {m:Mem} {F:Nat→Prop}:∀ {cs:List FV} {vs:List Value},Dv m F cs vs→cs.length=vs.length
 |_,_,.nil=>rfl
 |_,_,.cons _ t=>by simp [t.length]
theorem BK {m:Mem} {F:Nat→Prop} {σ:Nat→Value} {H:Heap} {nx:Nat} {L:Frame} {t:Tr Value} (hx:Ctx Γ m F σ H nx) (hl:RL m F (htag H) σ nx L t) {o:Operand} {x:PV} (h:Bh Γ L o=some x) :
 RP m F (htag H) σ nx x (ev t o):=by
 cases o with
 |tmp i=>exact hl i x h
 |const v=>exact U3 h
 |global g =>
  simp only [Bh,Option.map_eq_some_iff] at h
  obtain ⟨⟨vs,e⟩,h1,rfl⟩:=h
  obtain ⟨h2,h3,h4⟩:=hx.gl g vs e h1
  exact .p (.EL h2 h3 rfl (by simp [takeN]) (Ho h4) (Dj h4))
 |func f =>
  cases h
  exact .clo .nil .nil
end
section
open Go.Am
structure Env where
 P:Program
 O:CJ
 G:List Nat
 Γ:Nat→Option (List Value×TypeId)
structure Base where
 m:Mem
 F:Nat→Prop
 σ:Nat→Value
 H:Heap
 nx:Nat
def Base.to (B:Base) (m:Mem) (F:Nat→Prop) (σ:Nat→Value) (H:Heap) (nx:Nat):Prop:=Step B.m B.F B.σ B.H B.nx m F σ H nx
def Quiet (m m':Mem):Prop:=∀ k,k≤m.low→k≤m.size→k≤m'.low
def Aa (E:Env) (w:Bool) (o:Oper) (L:Frame) (H:Heap) (nx:Nat) (Q:PV→Heap→Nat→Prop):Prop :=
 ∀ m F σ t,Ctx E.Γ m F σ H nx→RL m F (htag H) σ nx L t →
  F5 E.P E.O E.G o ⟨t,m⟩ fun v m'=>∃ r H' nx' F' σ',Q r H' nx'∧Ctx E.Γ m' F' σ' H' nx'∧RP m' F' (htag H') σ' nx' r v∧Step m F σ H nx m' F' σ' H' nx'∧(w=false→Quiet m m')
def Ad (E:Env) (bn:Nat) (ops:Array Oper) (l:List Oper) (L:Frame) (H:Heap) (nx:Nat) (Q:Frame→Heap→Nat→Prop):Prop :=
 ∀ (B:Base),B.nx=bn→∀ m F σ t,Ctx E.Γ m F σ H nx→RL m F (htag H) σ nx L t→B.to m F σ H nx →
  Rn E.P E.O E.G ops l ⟨t,m⟩ fun s'=>∃ L' H' nx' F' σ',Q L' H' nx'∧Ctx E.Γ s'.m F' σ' H' nx'∧RL s'.m F' (htag H') σ' nx' L' s'.t∧B.to s'.m F' σ' H' nx'
def Af (E:Env) (bn:Nat) (ops:Array Oper) (i:Nat) (l:List Oper) (L:Frame) (H:Heap) (nx:Nat) (Q:Frame→Heap→Nat→Prop):Prop :=
 ∀ (B:Base),B.nx=bn→∀ m F σ t,Ctx E.Γ m F σ H nx→RL m F (htag H) σ nx L t→B.to m F σ H nx →
  Ig E.P E.O E.G ops i l ⟨t,m⟩ fun s'=>∃ L' H' nx' F' σ',Q L' H' nx'∧Ctx E.Γ s'.m F' σ' H' nx'∧RL s'.m F' (htag H') σ' nx' L' s'.t∧B.to s'.m F' σ' H' nx'
def Ac (E:Env) (bn:Nat) (c:Code) (L:Frame) (H:Heap) (nx:Nat) (Q:BZ→Frame→Heap→Nat→Prop):Prop :=
 ∀ (B:Base),B.nx=bn→∀ m F σ t,Ctx E.Γ m F σ H nx→RL m F (htag H) σ nx L t→B.to m F σ H nx →
  LM E.P E.O E.G c ⟨t,m⟩ fun e s'=>∃ L' H' nx' F' σ',Q e L' H' nx'∧Ctx E.Γ s'.m F' σ' H' nx'∧RL s'.m F' (htag H') σ' nx' L' s'.t∧B.to s'.m F' σ' H' nx'
def Ba (E:Env) (f:FuncId) (args:List PV) (H:Heap) (nx:Nat) (Q:PV→Heap→Nat→Prop):Prop :=
 ∀ m F σ BF,Ctx E.Γ m F σ H nx→Dx m F (htag H) σ nx args BF →
  H8 E.P E.O E.G f BF m fun v m'=>∃ r H' nx' F' σ',Q r H' nx'∧Ctx E.Γ m' F' σ' H' nx'∧RP m' F' (htag H') σ' nx' r v∧Step m F σ H nx m' F' σ' H' nx'
variable {E:Env} {bn:Nat} {L:Frame} {H:Heap} {nx:Nat} {Q:BZ→Frame→Heap→Nat→Prop}
theorem Ac.mono {c:Code} {R:BZ→Frame→Heap→Nat→Prop} (h:Ac E bn c L H nx R) (hq:∀ e L' H' nx',R e L' H' nx'→Q e L' H' nx'):Ac E bn c L H nx Q :=
 fun B hB m F σ t h1 h2 h3=>(h B hB m F σ t h1 h2 h3).mono fun _ _ ⟨L',H',nx',F',σ',q,r⟩=>⟨L',H',nx',F',σ',hq _ _ _ _ q,r⟩
theorem Ac.seq {a b:Code} (h:Ac E bn a L H nx fun e L' H' nx'=>match e with| .normal=>Ac E bn b L' H' nx' Q| .ret=>Q .ret L' H' nx'| .exit i=>Q (.exit i) L' H' nx'):Ac E bn (.seq a b) L H nx Q:=by
 intro B hB m F σ t h1 h2 h3
 refine LM.seq ((h B hB m F σ t h1 h2 h3).mono ?_)
 rintro e s' ⟨L',H',nx',F',σ',q,c1,c2,c3⟩
 cases e with
 |normal=>exact q B hB _ _ _ _ c1 c2 c3
 |ret=>exact ⟨L',H',nx',F',σ',q,c1,c2,c3⟩
 |exit i=>exact ⟨L',H',nx',F',σ',q,c1,c2,c3⟩
theorem Ac.skip (h:Q .normal L H nx):Ac E bn .skip L H nx Q:=fun _ _ _ F σ _ h1 h2 h3=>LM.skip ⟨L,H,nx,F,σ,h,h1,h2,h3⟩
theorem Ac.ret (h:Q .ret L H nx):Ac E bn .ret L H nx Q:=fun _ _ _ F σ _ h1 h2 h3=>LM.ret ⟨L,H,nx,F,σ,h,h1,h2,h3⟩
theorem Ac.exit {i:Nat} (h:Q (.exit i) L H nx):Ac E bn (.exit i) L H nx Q:=fun _ _ _ F σ _ h1 h2 h3=>LM.exit ⟨L,H,nx,F,σ,h,h1,h2,h3⟩
theorem GX {Γ:Nat→Option (List Value×TypeId)} {m:Mem} {F:Nat→Prop} {σ:Nat→Value} {t:Tr Value} {b:Bool} {o:Operand} (hx:Ctx Γ m F σ H nx) (hl:RL m F (htag H) σ nx L t) (h:Bh Γ L o=some (.p (.bool b))):ev t o=.bool b:=by
 have:=BK hx hl h
 generalize hv:ev t o=v at this
 rcases this with ⟨h⟩
 rename_i h
 cases h
 rfl
theorem Ac.cond {c:Operand} {a b:Code} (t:Bool) (hc:Bh E.Γ L c=some (.p (.bool t))) (ht:t=true→Ac E bn a L H nx Q) (hf:t=false→Ac E bn b L H nx Q):Ac E bn (.cond c a b) L H nx Q :=
 fun B hB m F σ u h1 h2 h3=>LM.cond t (GX h1 h2 hc) (fun e=>ht e B hB m F σ u h1 h2 h3) (fun e=>hf e B hB m F σ u h1 h2 h3)
theorem Ac.cond_true {c:Operand} {a b:Code} (hc:Bh E.Γ L c=some (.p (.bool true))) (ht:Ac E bn a L H nx Q):Ac E bn (.cond c a b) L H nx Q:=Ac.cond true hc (fun _=>ht) (fun h=>by cases h)
theorem Ac.cond_false {c:Operand} {a b:Code} (hc:Bh E.Γ L c=some (.p (.bool false))) (hf:Ac E bn b L H nx Q):Ac E bn (.cond c a b) L H nx Q:=Ac.cond false hc (fun h=>by cases h) (fun _=>hf)
theorem Ac.AZ {c:Operand} {a b:Code} {p:Prop} {_:Decidable p} (hc:Bh E.Γ L c=some (.p (.bool (decide p)))) (ht:p→Ac E bn a L H nx Q) (hf:¬ p→Ac E bn b L H nx Q):Ac E bn (.cond c a b) L H nx Q :=
 Ac.cond (decide p) hc (fun h=>ht (of_decide_eq_true h)) (fun h=>hf (of_decide_eq_false h))
theorem Ac.block {id:Nat} {b:Code} (h:Ac E bn b L H nx fun e L' H' nx'=>match e with| .normal=>Q .normal L' H' nx'| .ret=>Q .ret L' H' nx'| .exit i=>if i=id then Q .normal L' H' nx' else Q (.exit i) L' H' nx') :
 Ac E bn (.block id b) L H nx Q:=by
 intro B hB m F σ t h1 h2 h3
 refine LM.block ((h B hB m F σ t h1 h2 h3).mono ?_)
 rintro e s' ⟨L',H',nx',F',σ',q,c⟩
 cases e with
 |normal=>exact ⟨L',H',nx',F',σ',q,c⟩
 |ret=>exact ⟨L',H',nx',F',σ',q,c⟩
 |exit i =>
  simp only at q ⊢
  split
  ·rename_i hi;rw [if_pos hi] at q;exact ⟨L',H',nx',F',σ',q,c⟩
  ·rename_i hi;rw [if_neg hi] at q;exact ⟨L',H',nx',F',σ',q,c⟩
theorem Ac.region {id:Nat} {ops:Array Oper} (h:Ad E bn ops ops.toList L H nx (Q .normal)):Ac E bn (.region id ops false) L H nx Q :=
 fun B hB m F σ t h1 h2 h3=>LM.region (h B hB m F σ t h1 h2 h3)
theorem Ac.Gv {id:Nat} {ops:Array Oper} (h:Af E bn ops 0 ops.toList L H nx (Q .normal)):Ac E bn (.region id ops true) L H nx Q :=
 fun B hB m F σ t h1 h2 h3=>LM.Gv (h B hB m F σ t h1 h2 h3)
mutual
inductive vw:FV→FV→Prop
 |refl (x:FV):vw x x
 |nil (e:TypeId):vw (.val (.slice none 0 0)) (.lst e [] 0)
 |agg {cs ds:List FV} (h:IG cs ds):vw (.agg cs) (.agg ds)
 |lst {e:TypeId} {n:Nat} {cs ds:List FV} (h:IG cs ds):vw (.lst e cs n) (.lst e ds n)
 |EL {cs ds:List FV} (h:IG cs ds):vw (.EL cs) (.EL ds)
 |own {e:TypeId} {n:Nat} {cs:List FV}:vw (.own e cs n) (.lst e cs n)
inductive IG:List FV→List FV→Prop
 |refl (l:List FV):IG l l
 |cons {a b:FV} {l l':List FV} (h:vw a b) (t:IG l l'):IG (a::l) (b::l')
end
mutual
inductive xM:PV→PV→Prop
 |refl (x:PV):xM x x
 |p {x y:FV} (h:vw x y):xM (.p x) (.p y)
 |agg {cs ds:List PV} (h:MF cs ds):xM (.agg cs) (.agg ds)
 |Ee {cs ds:List PV} (h:MF cs ds):xM (.Ee cs) (.Ee ds)
inductive MF:List PV→List PV→Prop
 |refl (l:List PV):MF l l
 |cons {a b:PV} {l l':List PV} (h:xM a b) (t:MF l l'):MF (a::l) (b::l')
end
theorem MF.of_eq {x y:List PV} (h:x=y):MF x y:=h▸.refl _
mutual
theorem vw.length {cs ds:List FV}:IG cs ds→cs.length=ds.length
 | .refl _=>rfl
 | .cons _ t=>by simp [vw.length t]
end
section
variable {m:Mem} {F:Nat→Prop}
mutual
theorem RF.le:∀ {x y:FV},vw x y→∀ {v:Value},RF m F x v→RF m F y v
 |_,_,.refl _,_,h=>h
 |_,_,.nil e,_,h=>by cases h;exact RF.nil e
 |_,_,.agg h,_,r=>by cases r with|agg h1 hc=>exact .agg (Dv.le h h1) hc
 |_,_,.lst h,_,r=>by
  cases r with
  |nil=>cases h with|refl=>exact .nil _
  |room=>cases h with|refl=>exact .room _ _ _ _
  |lst hF hm hw h1 hc=>exact .lst hF hm (by rw [← vw.length h];exact hw) (Dv.le h h1) hc
 |_,_,.EL h,_,r=>by cases r with|EL hF hm hg hw h1 hc=>exact .EL hF hm hg (by rw [← vw.length h];exact hw) (Dv.le h h1) hc
 |_,_,.own,_,r=>by
  cases r with
  |own hF hm hw h1 hc=>exact .lst hF hm hw h1 hc
  |QI=>exact .nil _
  |O7=>exact .room _ _ _ _
theorem Dv.le:∀ {x y:List FV},IG x y→∀ {v:List Value},Dv m F x v→Dv m F y v
 |_,_,.refl _,_,h=>h
 |_,_,.cons h t,_,r=>by cases r with|cons h1 t1=>exact .cons (RF.le h h1) (Dv.le t t1)
end
variable {T:Nat→Option Tg} {σ:Nat→Value} {n:Nat}
mutual
theorem RP.le:∀ {x y:PV},xM x y→∀ {v:Value},RP m F T σ n x v→RP m F T σ n y v
 |_,_,.refl _,_,h=>h
 |_,_,.p h,_,r=>by cases r with|p h1=>exact .p (RF.le h h1)
 |_,_,.agg h,_,r=>by cases r with|agg h1 hc=>exact .agg (Dx.le h h1) hc
 |_,_,.Ee h,_,r=>by cases r with|Ee h1=>exact .Ee (Dx.le h h1)
theorem Dx.le:∀ {x y:List PV},MF x y→∀ {v:List Value},Dx m F T σ n x v→Dx m F T σ n y v
 |_,_,.refl _,_,h=>h
 |_,_,.cons h t,_,r=>by cases r with|cons h1 t1=>exact .cons (RP.le h h1) (Dx.le t t1)
end
end
mutual
def PV.under (k:Nat):PV→Prop
 | .p _=>True
 | .agg cs=>CZ.under k cs
 | .Ee cs=>CZ.under k cs
 | .vec b _ _ _=>b<k
 | .ref b _=>b<k
 | .Fq b _ _=>b<k
 | .mref b=>b<k
 | .clo _ fs cs=>CZ.under k fs∧CZ.under k cs
def CZ.under (k:Nat):List PV→Prop
 |[]=>True
 |c::cs=>PV.under k c∧CZ.under k cs
end
theorem CZ.Bz (k:Nat):∀ cs:List FV,CZ.under k (cs.map .p)
 |[]=>trivial
 |_::cs=>⟨trivial,CZ.Bz k cs⟩
section
variable {m:Mem} {F:Nat→Prop} {T T':Nat→Option Tg} {σ:Nat→Value} {nx nx':Nat}
mutual
theorem RP.low (hT:∀ b t,T' b=some t→T b=some t):∀ {x:PV} {v:Value},x.under nx'→RP m F T σ nx x v→RP m F T' σ nx' x v
 |_,_,_,.p h=>.p h
 |_,_,hb,.agg h hc=>.agg (Dx.low hT hb h) hc
 |_,_,hb,.Ee h=>.Ee (Dx.low hT hb h)
 |_,_,hb,.vec _ hc h=>.vec hb hc fun n ht=>h n (hT _ _ ht)
 |_,_,hb,.ref _ hc h=>.ref hb hc fun ht=>h (hT _ _ ht)
 |_,_,hb,.Fq _ hc h=>.Fq hb hc fun n ht=>h n (hT _ _ ht)
 |_,_,hb,.mref _ hc h=>.mref hb hc fun ht=>h (hT _ _ ht)
 |_,_,hb,.clo h1 h2=>.clo (Dx.low hT hb.1 h1) (Dx.low hT hb.2 h2)
theorem Dx.low (hT:∀ b t,T' b=some t→T b=some t):∀ {x:List PV} {v:List Value},CZ.under nx' x→Dx m F T σ nx x v→Dx m F T' σ nx' x v
 |_,_,_,.nil=>.nil
 |_,_,hb,.cons h t=>.cons (RP.low hT hb.1 h) (Dx.low hT hb.2 t)
end
end
def FY (k:Nat):Frame→Frame→Prop
 |[],_=>True
 |(i,v0)::L0,L=>(v0.under k∧∃ v,ET L i=some v∧xM v v0)∧FY k L0 L
inductive Jj:HB→HB→Prop
 |refl (x:HB):Jj x x
 |box {e:TypeId} {cs ds:List PV} (h:MF cs ds):Jj (.box e cs) (.box e ds)
 |vec {e:TypeId} {cs ds:List FV} {n k:Nat} {z:Bool} (h:IG cs ds) (hn:n=k):Jj (.vec e cs n z) (.vec e ds k z)
theorem Jj.of_eq {x y:HB} (h:x=y):Jj x y:=h▸.refl _
def HB.under (k:Nat):HB→Prop
 | .box _ cs=>CZ.under k cs
 | .OY _ cs _=>CZ.under k cs
 | .IU _ cs=>CZ.under k cs
 |_=>True
def Ci (k:Nat):Heap→Heap→Prop
 |[],_=>True
 |(i,x0)::H0,H=>(i<k∧x0.under k∧∃ x,hget H i=some x∧Jj x x0)∧Ci k H0 H
structure Yi (L:Frame) (H:Heap) (nx:Nat) (L0:Frame) (H0:Heap) (DC:Nat):Prop where
 n:DC≤nx
 l:FY DC L0 L
 h:Ci DC H0 H
theorem FY.get {k:Nat} {L:Frame}:∀ {L0:Frame},FY k L0 L→∀ i v0,ET L0 i=some v0→v0.under k∧∃ v,ET L i=some v∧xM v v0
 |[],_,_,_,h=>by cases h
 |(j,w)::L0,⟨h1,h2⟩,i,v0,h=>by
  rw [DW] at h
  by_cases e:j=i
  ·rw [if_pos e] at h;cases h;subst e;exact h1
  ·rw [if_neg e] at h;exact FY.get h2 i v0 h
theorem Ci.get {k:Nat} {H:Heap}:∀ {H0:Heap},Ci k H0 H→∀ i v0,hget H0 i=some v0→i<k∧v0.under k∧∃ v,hget H i=some v∧Jj v v0
 |[],_,_,_,h=>by cases h
 |(j,w)::L0,⟨h1,h2⟩,i,v0,h=>by
  rw [BA] at h
  by_cases e:j=i
  ·rw [if_pos e] at h;cases h;subst e;exact h1
  ·rw [if_neg e] at h;exact Ci.get h2 i v0 h
theorem Jj.tag {x y:HB} (h:Jj x y):x.tag=y.tag:=by
 cases h with
 |refl=>rfl
 |box=>rfl
 |vec _ hn=>simp [HB.tag,hn]
theorem Ci.tag {k:Nat} {H H0:Heap} (h:Ci k H0 H) (b:Nat) (t:Tg) (ht:htag H0 b=some t):htag H b=some t:=by
 unfold htag at ht ⊢
 cases h0:hget H0 b with
 |none=>rw [h0] at ht;cases ht
 |some x0 =>
  rw [h0] at ht
  obtain ⟨_,_,x,hx,hle⟩:=h.get b x0 h0
  rw [hx,Option.map_some,hle.tag]
  exact ht
theorem Yi.own {L0:Frame} {H0:Heap} {DC:Nat} (h:Yi L H nx L0 H0 DC) {σ:Nat→Value} {c:Nat} (ho:Vm.own H0 σ c):Vm.own H σ c:=by
 obtain ⟨b,x,hb,hc⟩:=ho
 obtain ⟨_,_,y,hy,_⟩:=h.h.get b x hb
 exact ⟨b,y,hy,hc⟩
theorem Yi.ctx {Γ:Nat→Option (List Value×TypeId)} {m:Mem} {F:Nat→Prop} {σ:Nat→Value} {L0:Frame} {H0:Heap} {DC:Nat} (h:Yi L H nx L0 H0 DC) (hx:Ctx Γ m F σ H nx):Ctx Γ m F σ H0 DC where
 fr:=hx.fr
 hp b x0 hb:=by
  obtain ⟨h1,h2,x,h3,h4⟩:=h.h.get b x0 hb
  refine ⟨h1,?_⟩
  obtain ⟨_,hr⟩:=hx.hp b x h3
  have hT:=fun b t=>Ci.tag h.h b t
  cases h4 with
  |refl =>
   cases x0 with
   |box e cs=>obtain ⟨c,vs,r1,r2,r3,r4,r5,r6⟩:=hr;exact ⟨c,vs,r1,r2,r3,r4,Dx.low hT h2 r5,r6⟩
   |vec e cs n z=>exact hr
   |map es=>exact hr
   |OY e cs n=>obtain ⟨c,g,vs,r1,r2,r3,r4,r5,r6⟩:=hr;exact ⟨c,g,vs,r1,r2,r3,r4,Dx.low hT h2 r5,r6⟩
   |IU ks cs=>obtain ⟨r,l,clock,r1,r2,r3,r4,r5,r6,r7⟩:=hr;exact ⟨r,l,clock,r1,r2,r3,r4,r5,Dx.low hT h2 r6,r7⟩
  |box hle=>obtain ⟨c,vs,r1,r2,r3,r4,r5,r6⟩:=hr;exact ⟨c,vs,r1,r2,r3,r4,Dx.low hT h2 (Dx.le hle r5),r6⟩
  |vec hle hn =>
   subst hn
   rcases hr with ⟨r1,r2,r3⟩|⟨c,g,vs,r1,r2,r3,r4,r5,r6⟩
   ·subst r1
    cases hle with|refl=>exact .inl ⟨rfl,r2,r3⟩
   ·exact .inr ⟨c,g,vs,r1,r2,r3,r4,Dv.le hle r5,r6⟩
 sep b b' x x' c h1 h2 h3 h4:=by
  obtain ⟨_,_,y,hy,_⟩:=h.h.get b x h1
  obtain ⟨_,_,y',hy',_⟩:=h.h.get b' x' h2
  exact hx.sep b b' y y' c hy hy' h3 h4
 gl:=hx.gl
theorem Yi.rl {m:Mem} {F:Nat→Prop} {σ:Nat→Value} {L0:Frame} {H0:Heap} {DC:Nat} (h:Yi L H nx L0 H0 DC) {t:Tr Value} (hl:RL m F (htag H) σ nx L t):RL m F (htag H0) σ DC L0 t:=fun i v hi=>by
 obtain ⟨h1,w,h2,h3⟩:=h.l.get i v hi
 exact RP.low (fun b t=>Ci.tag h.h b t) h1 (RP.le h3 (hl i w h2))
theorem Yi.step {B:Base} {m:Mem} {F:Nat→Prop} {σ:Nat→Value} {L0:Frame} {H0:Heap} {DC:Nat} (h:Yi L H nx L0 H0 DC) (hb:B.nx≤DC) (hs:B.to m F σ H nx):B.to m F σ H0 DC where
 size:=hs.size
 keep:=hs.keep
 JC:=hs.JC
 JA:=hs.JA
 IK c hc ho:=hs.IK c hc (h.own ho)
 Ud:=hb
 names b hb:=by
  obtain ⟨h1,h2⟩:=hs.names b hb
  cases h0:htag H0 b with
  |none=>exact ⟨trivial,fun _ _ e=>by cases e⟩
  |some t =>
   have:=Ci.tag h.h b t h0
   rw [this] at h1 h2
   exact ⟨h1,h2⟩
 low:=hs.low
end
section
open Go.Am
variable {E:Env} {bn:Nat} {L:Frame} {H:Heap} {nx:Nat} {Q:BZ→Frame→Heap→Nat→Prop}
theorem Ac.loop {α:Type} {b:Code} (Lf:α→Frame) (Hf:α→Heap) (DC:Nat) (inv:α→Prop) (μ:α→Nat) (a0:α) (hb:bn≤DC) (h0:inv a0) (hc:Yi L H nx (Lf a0) (Hf a0) DC)
 (hs:∀ a,inv a→Ac E bn b (Lf a) (Hf a) DC fun e L' H' nx'=>match e with| .normal=>∃ a',inv a'∧μ a'<μ a∧Yi L' H' nx' (Lf a') (Hf a') DC| .ret=>Q .ret L' H' nx'| .exit i=>Q (.exit i) L' H' nx') :
 Ac E bn (.loop b) L H nx Q:=by
 intro B hB m F σ t h1 h2 h3
 refine LM.loop (fun n s=>∃ a F σ,inv a∧μ a=n∧Ctx E.Γ s.m F σ (Hf a) DC∧RL s.m F (htag (Hf a)) σ DC (Lf a) s.t∧B.to s.m F σ (Hf a) DC) (μ a0) ⟨a0,F,σ,h0,rfl,hc.ctx h1,hc.rl h2,hc.step (by omega) h3⟩ ?_
 rintro n s ⟨a,F1,σ1,ha,rfl,c1,c2,c3⟩
 refine (hs a ha B hB s.m F1 σ1 s.t c1 c2 c3).mono ?_
 rintro e s' ⟨L',H',nx',F',σ',q,d1,d2,d3⟩
 cases e with
 |normal =>
  obtain ⟨a',i1,i2,i3⟩:=q
  exact ⟨_,i2,a',F',σ',i1,rfl,i3.ctx d1,i3.rl d2,i3.step (by omega) d3⟩
 |ret=>exact ⟨L',H',nx',F',σ',q,d1,d2,d3⟩
 |exit i=>exact ⟨L',H',nx',F',σ',q,d1,d2,d3⟩
section
variable {ops:Array Oper} {o:Oper} {l:List Oper} {i:Nat} {R:Frame→Heap→Nat→Prop}
theorem Ad.nil (h:R L H nx):Ad E bn ops [] L H nx R:=fun _ _ _ F σ _ h1 h2 h3=>Rn.nil ⟨L,H,nx,F,σ,h,h1,h2,h3⟩
theorem Af.nil (h:R L H nx):Af E bn ops i [] L H nx R:=fun _ _ _ F σ _ h1 h2 h3=>Ig.nil ⟨L,H,nx,F,σ,h,h1,h2,h3⟩
def Iw (ops:Array Oper) (L:Frame) (o:Oper) (w:Bool):Prop :=
 match o.guard with
 |none=>w=true
 |some (j,want)=>∃ b d,(ops[j]?).bind (·.dst)=some d∧ET L d=some (.p (.bool b))∧w=(b==want)
theorem Iw.wanted {Γ:Nat→Option (List Value×TypeId)} {m:Mem} {F:Nat→Prop} {σ:Nat→Value} {t:Tr Value} {w:Bool} (hx:Ctx Γ m F σ H nx) (hl:RL m F (htag H) σ nx L t) (h:Iw ops L o w):Region.wanted o (D6 ops t)=w:=by
 unfold Iw at h
 unfold Region.wanted
 split at h
 ·rename_i hg;rw [hg];exact h.symm
 ·rename_i j want hg
  obtain ⟨b,d,h1,h2,h3⟩:=h
  have hb:CB t d=.bool b:=GX (o:=.tmp d) hx hl h2
  rw [hg]
  simp only [D6,h1,hb,h3]
  cases b<;>cases want<;>rfl
theorem Ad.cons (hg:Iw ops L o true) (h:Aa E true o L H nx fun r H' nx'=>Ad E bn ops l (Gy L o.dst r) H' nx' R):Ad E bn ops (o::l) L H nx R:=by
 intro B hB m F σ t h1 h2 h3
 refine Rn.cons (hg.wanted h1 h2) ((h m F σ t h1 h2).mono ?_)
 rintro v m' ⟨r,H',nx',F',σ',q,c1,c2,c3,_⟩
 exact q B hB m' F' σ' _ c1 ((h2.step c3 h1).put c2) (h3.trans c3)
theorem Ad.skip (hg:Iw ops L o false) (h:Ad E bn ops l (Gy L o.dst (.Ee [])) H nx R):Ad E bn ops (o::l) L H nx R:=by
 intro B hB m F σ t h1 h2 h3
 refine Rn.skip (hg.wanted h1 h2) (h B hB m F σ _ h1 (h2.put ?_) h3)
 exact .Ee .nil
theorem Vd (m:Mem) (k:Nat) (F:Nat→Prop):∀ c,F c→F c∧(m.at k).get c=m.get c:=fun _ hc=>⟨hc,rfl⟩
theorem RL.at {Γ:Nat→Option (List Value×TypeId)} {m:Mem} {F:Nat→Prop} {T:Nat→Option Tg} {σ:Nat→Value} {t:Tr Value} (k:Nat) (h:RL m F T σ nx L t):RL (m.at k) F T σ nx L t :=
 fun i v hi=>(h i v hi).mono (Vd m k F) (Names.refl _ _ _) (Nat.le_refl _)
theorem Ctx.at {Γ:Nat→Option (List Value×TypeId)} {m:Mem} {F:Nat→Prop} {σ:Nat→Value} (k:Nat) (h:Ctx Γ m F σ H nx):Ctx Γ (m.at k) F σ H nx where
 fr:=h.fr
 hp b x hb:=by
  obtain ⟨h1,h2⟩:=h.hp b x hb
  refine ⟨h1,?_⟩
  cases x with
  |box e cs=>obtain ⟨c,vs,r1,r2,r3,r4,r5,r6⟩:=h2;exact ⟨c,vs,r1,r2,r3,r4,r5.mono (Vd m k F) (Names.refl _ _ _) (Nat.le_refl _),r6⟩
  |vec e cs n z =>
   rcases h2 with h2|⟨c,g,vs,r1,r2,r3,r4,r5,r6⟩
   ·exact .inl h2
   ·exact .inr ⟨c,g,vs,r1,r2,r3,r4,r5.mono (Vd m k F),r6⟩
  |map es=>obtain ⟨r,l,clock,r1,r2,r3,r4,r5,r6⟩:=h2;exact ⟨r,l,clock,r1,r2,r3,r4,r5.mono (Vd m k F),r6.mono (Vd m k F)⟩
  |OY e cs n=>obtain ⟨c,g,vs,r1,r2,r3,r4,r5,r6⟩:=h2;exact ⟨c,g,vs,r1,r2,r3,r4,r5.mono (Vd m k F) (Names.refl _ _ _) (Nat.le_refl _),r6⟩
  |IU ks cs=>obtain ⟨r,l,clock,r1,r2,r3,r4,r5,r6,r7⟩:=h2;exact ⟨r,l,clock,r1,r2,r3,r4,r5.mono (Vd m k F),r6.mono (Vd m k F) (Names.refl _ _ _) (Nat.le_refl _),r7⟩
 sep:=h.sep
 gl:=h.gl
theorem Step.at {m m':Mem} {F F':Nat→Prop} {σ σ':Nat→Value} {H H':Heap} {nx nx':Nat} (h:Step (m.at m.size) F σ H nx m' F' σ' H' nx'):Step m F σ H nx (m'.at (min m.low m'.low)) F' σ' H' nx' where
 size:=h.size
 keep:=h.keep
 JC:=h.JC
 JA:=h.JA
 IK:=h.IK
 Ud:=h.Ud
 names:=h.names
 low k h1 h2 h3:=by
  have:=h.low k h2 h2 h3
  simp only [Mem.a1f]
  omega
theorem Step.at0 (m:Mem) (k:Nat) (F:Nat→Prop) (σ:Nat→Value) (H:Heap) (nx:Nat) (hk:min m.low m.size≤k):Step m F σ H nx (m.at k) F σ H nx where
 size:=Nat.le_refl _
 keep _ _ _:=rfl
 JC _ h:=h
 JA _ _ h:=.inl h
 IK _ _ h:=h
 Ud:=Nat.le_refl _
 names:=Names.refl _ _ _
 low j h1 h2 _:=by simp only [Mem.a1f];omega
theorem Af.cons {w:Bool} (hg:Iw ops L o true) (hw:barrier E.P ops i=w) (h:Aa E w o L H nx fun r H' nx'=>Af E bn ops (i+1) l (Gy L o.dst r) H' nx' R):Af E bn ops i (o::l) L H nx R:=by
 intro B hB m F σ t h1 h2 h3
 refine Ig.cons (hg.wanted h1 h2) ((h (m.at m.size) F σ t (h1.at _) (RL.at (Γ:=E.Γ) _ h2)).mono ?_)
 rintro v m' ⟨r,H',nx',F',σ',q,c1,c2,c3,c4⟩
 refine ⟨?_,?_⟩
 ·cases w with
  |true=>exact .inl hw
  |false=>exact .inr (.inl (c4 rfl m.size (Nat.le_refl _) (Nat.le_refl _)))
 ·refine q B hB _ F' σ' _ (c1.at _) (RL.at (Γ:=E.Γ) _ (((RL.at (Γ:=E.Γ) _ h2).step c3 (h1.at _)).put c2)) (h3.trans c3.at)
theorem Af.skip (hg:Iw ops L o false) (h:Af E bn ops (i+1) l (Gy L o.dst (.Ee [])) H nx R):Af E bn ops i (o::l) L H nx R:=by
 intro B hB m F σ t h1 h2 h3
 refine Ig.skip (hg.wanted h1 h2) (h B hB _ F σ _ (h1.at _) (RL.at (Γ:=E.Γ) _ (h2.put (.Ee .nil))) (h3.trans (Step.at0 _ _ _ _ _ _ (Nat.le_refl _))))
theorem Ad.split {j d:Nat} {want:Bool} {p:Prop} {_:Decidable p} (hg:o.guard=some (j,want)) (hd:(ops[j]?).bind (·.dst)=some d) (hb:ET L d=some (.p (.bool (decide p))))
 (ht:p→Ad E bn ops (o::l) ((d,.p (.bool true))::L) H nx R) (hf:¬ p→Ad E bn ops (o::l) ((d,.p (.bool false))::L) H nx R):Ad E bn ops (o::l) L H nx R:=by
 have key:∀ b,decide p=b→Ad E bn ops (o::l) ((d,.p (.bool b))::L) H nx R→Ad E bn ops (o::l) L H nx R:=by
  intro b he h B hB m F σ t h1 h2 h3
  refine h B hB m F σ t h1 (fun k x hk=>?_) h3
  rw [DW] at hk
  by_cases e:d=k
  ·rw [if_pos e] at hk
   cases hk
   subst e
   have:=h2 d _ hb
   rw [he] at this
   exact this
  ·rw [if_neg e] at hk;exact h2 k x hk
 by_cases h:p
 ·exact key true (decide_eq_true h) (ht h)
 ·exact key false (decide_eq_false h) (hf h)
theorem Af.split {j d:Nat} {want:Bool} {p:Prop} {_:Decidable p} (hg:o.guard=some (j,want)) (hd:(ops[j]?).bind (·.dst)=some d) (hb:ET L d=some (.p (.bool (decide p))))
 (ht:p→Af E bn ops i (o::l) ((d,.p (.bool true))::L) H nx R) (hf:¬ p→Af E bn ops i (o::l) ((d,.p (.bool false))::L) H nx R):Af E bn ops i (o::l) L H nx R:=by
 have key:∀ b,decide p=b→Af E bn ops i (o::l) ((d,.p (.bool b))::L) H nx R→Af E bn ops i (o::l) L H nx R:=by
  intro b he h B hB m F σ t h1 h2 h3
  refine h B hB m F σ t h1 (fun k x hk=>?_) h3
  rw [DW] at hk
  by_cases e:d=k
  ·rw [if_pos e] at hk
   cases hk
   subst e
   have:=h2 d _ hb
   rw [he] at this
   exact this
  ·rw [if_neg e] at hk;exact h2 k x hk
 by_cases h:p
 ·exact key true (decide_eq_true h) (ht h)
 ·exact key false (decide_eq_false h) (hf h)
end
def X3 {α:Type}:Nat→List α→Option (List α)
 |0,_=>some []
 |_+1,[]=>none
 |n+1,a::l=>(X3 n l).map (a::·)
def a1e:List PV→Option (List FV)
 |[]=>some []
 | .p x::l=>(a1e l).map (x::·)
 |_::_=>none
def jg (l:List PV):PV:=match a1e l with
 |some fs=>.p (.agg fs)
 |none=>.agg l
def Z4 (P:Program) (t:TypeId) (cs:List FV):Option FV :=
 match GI P t with
 |some false=>cs.head?
 |some true=>match P.info? t with
  |some i=>(X3 i.size cs).map .agg
  |none=>none
 |none=>none
def a1k (P:Program) (t:TypeId) (cs:List PV):Option PV :=
 match GI P t with
 |some false=>cs.head?
 |some true=>match P.info? t with
  |some i=>(X3 i.size cs).map jg
  |none=>none
 |none=>none
def lI (P:Program) (t:TypeId) (H:Heap):PV→Option PV
 | .p (.EL cs)=>(Z4 P t cs).map .p
 | .ref b off=>match hget H b with
  |some (.box _ cs)=>a1k P t (cs.drop off)
  |_=>none
 | .Fq b tag off=>match hget H b with
  |some (.vec _ cs n _)=>match Nat.decEq tag n with
   | .isTrue _=>(Z4 P t (cs.drop off)).map .p
   | .isFalse _=>none
  |_=>none
 |_=>none
theorem Vz {m:Mem} {F:Nat→Prop}:∀ {n:Nat} {cs:List FV} {ws:List Value} {l:List FV},Dv m F cs ws→X3 n cs=some l→∃ w,takeN n ws=some w∧Dv m F l w
 |0,_,_,_,_,h=>by cases h;exact ⟨[],by simp [takeN],.nil⟩
 |n+1,[],_,_,_,h=>by cases h
 |n+1,c::cs,_,l,.cons h t,hl=>by
  simp only [X3,Option.map_eq_some_iff] at hl
  obtain ⟨l',h1,rfl⟩:=hl
  obtain ⟨w,h2,h3⟩:=Vz t h1
  refine ⟨_::w,?_,.cons h h3⟩
  unfold takeN at h2 ⊢
  split at h2
  ·rename_i hn
   cases h2
   simp [hn]
  ·cases h2
section
variable {m:Mem} {F:Nat→Prop} {T:Nat→Option Tg} {σ:Nat→Value} {n':Nat}
theorem SH:∀ {n:Nat} {cs:List PV} {ws:List Value} {l:List PV},Dx m F T σ n' cs ws→X3 n cs=some l→∃ w,takeN n ws=some w∧Dx m F T σ n' l w
 |0,_,_,_,_,h=>by cases h;exact ⟨[],by simp [takeN],.nil⟩
 |n+1,[],_,_,_,h=>by cases h
 |n+1,c::cs,_,l,.cons h t,hl=>by
  simp only [X3,Option.map_eq_some_iff] at hl
  obtain ⟨l',h1,rfl⟩:=hl
  obtain ⟨w,h2,h3⟩:=SH t h1
  refine ⟨_::w,?_,.cons h h3⟩
  unfold takeN at h2 ⊢
  split at h2
  ·rename_i hn
   cases h2
   simp [hn]
  ·cases h2
theorem Dv.drop:∀ {cs:List FV} {vs:List Value} (k:Nat),Dv m F cs vs→Dv m F (cs.drop k) (vs.drop k)
 |_,_,0,h=>h
 |_,_,_+1,.nil=>.nil
 |_,_,k+1,.cons _ t=>Dv.drop k t
theorem Dx.drop:∀ {cs:List PV} {vs:List Value} (k:Nat),Dx m F T σ n' cs vs→Dx m F T σ n' (cs.drop k) (vs.drop k)
 |_,_,0,h=>h
 |_,_,_+1,.nil=>.nil
 |_,_,k+1,.cons _ t=>Dx.drop k t
theorem Yw:∀ {l:List PV} {fs:List FV} {vs:List Value},a1e l=some fs→Dx m F T σ n' l vs→Dv m F fs vs
 |[],_,_,h,.nil=>by cases h;exact .nil
 | .p x::l,_,_,h,.cons h1 t=>by
  simp only [a1e,Option.map_eq_some_iff] at h
  obtain ⟨fs,h2,rfl⟩:=h
  cases h1 with
  |p h1=>exact .cons h1 (Yw h2 t)
 | .agg _::_,_,_,h,_=>by cases h
 | .Ee _::_,_,_,h,_=>by cases h
 | .vec ..::_,_,_,h,_=>by cases h
 | .ref ..::_,_,_,h,_=>by cases h
 | .Fq ..::_,_,_,h,_=>by cases h
 | .mref ..::_,_,_,h,_=>by cases h
 | .clo ..::_,_,_,h,_=>by cases h
theorem Uh {l:List PV} {vs:List Value} (h:Dx m F T σ n' l vs) (hc:vs.all BO=true):RP m F T σ n' (jg l) (.agg vs.toArray):=by
 unfold jg
 split
 ·rename_i fs hf
  exact .p (.agg (Yw hf h) hc)
 ·exact .agg h hc
end
theorem EU {k:Nat} {l w:List Value} (h:takeN k l=some w):w=l.take k∧k≤l.length:=by
 unfold takeN at h
 split at h
 ·rename_i hk;cases h;exact ⟨rfl,hk⟩
 ·cases h
theorem Ls {l:List Value} (h:l.all BO=true) (k:Nat):(l.take k).all BO=true:=by
 rw [List.all_eq_true] at h ⊢
 exact fun x hx=>h x (List.mem_of_mem_take hx)
theorem J8 {l:List Value} (h:l.all BO=true) (k:Nat):(l.drop k).all BO=true:=by
 rw [List.all_eq_true] at h ⊢
 exact fun x hx=>h x (List.mem_of_mem_drop hx)
end
section
open Go.Am
variable {E:Env} {bn:Nat} {L:Frame} {H:Heap} {nx:Nat}
theorem iQ {j k:Nat} {l ws w:List Value} (h:takeN k l=some ws) (h2:takeN j ws=some w):takeN j l=some w:=by
 obtain ⟨rfl,hk⟩:=EU h
 obtain ⟨rfl,hj⟩:=EU h2
 simp only [List.length_take] at hj
 unfold takeN
 rw [if_pos (by omega),List.take_take,Nat.min_eq_left (by omega)]
theorem yg {m:Mem} {F:Nat→Prop} {cs:List FV} {ws:List Value} {x:FV} (h:Dv m F cs ws) (hx:cs.head?=some x):∃ v,takeN 1 ws=some [v]∧RF m F x v:=by
 cases h with
 |nil=>cases hx
 |cons h t=>cases hx;exact ⟨_,by simp [takeN],h⟩
section
variable {m:Mem} {F:Nat→Prop} {T:Nat→Option Tg} {σ:Nat→Value} {n':Nat}
theorem wR {cs:List PV} {ws:List Value} {x:PV} (h:Dx m F T σ n' cs ws) (hx:cs.head?=some x):∃ v,takeN 1 ws=some [v]∧RP m F T σ n' x v:=by
 cases h with
 |nil=>cases hx
 |cons h t=>cases hx;exact ⟨_,by simp [takeN],h⟩
end
theorem ZY {P:Program} {m:Mem} {F:Nat→Prop} {t:TypeId} {a:Addr} {cs:List FV} {vs ws:List Value} {e:TypeId} {g:Nat} {ro:Bool} {x:FV} (hm:m.get a.block=.cells vs e g ro) (hlt:a.block<m.size) (hg:LZ a=g)
 (hw:takeN cs.length (vs.drop a.off)=some ws) (h:Dv m F cs ws) (hc:ws.all BO=true) (hx:Z4 P t cs=some x):∃ v,LD P t a m=some v∧RF m F x v:=by
 unfold Z4 at hx
 unfold LD
 rw [if_pos hlt]
 unfold Xg
 have key:∀ n w,takeN n ws=some w→m.EK a n=some w:=by
  intro n w hn
  unfold Mem.EK
  rw [hm]
  simp only [hg,if_true]
  exact iQ hw hn
 cases hag:GI P t with
 |none=>rw [hag] at hx;cases hx
 |some b =>
  rw [hag] at hx
  cases b with
  |false =>
   obtain ⟨v,h1,h2⟩:=yg h hx
   exact ⟨v,by simp only [key 1 _ h1,Option.bind_some,List.head?_cons],h2⟩
  |true =>
   cases hi:P.info? t with
   |none=>rw [hi] at hx;cases hx
   |some i =>
    rw [hi] at hx
    simp only [Option.map_eq_some_iff] at hx
    obtain ⟨l,h1,rfl⟩:=hx
    obtain ⟨w,h2,h3⟩:=Vz h h1
    refine ⟨.agg w.toArray,by simp only [key _ _ h2,Option.map_some],.agg h3 ?_⟩
    rw [(EU h2).1]
    exact Ls hc _
theorem wF {P:Program} {m:Mem} {F:Nat→Prop} {T:Nat→Option Tg} {σ:Nat→Value} {n':Nat} {t:TypeId} {a:Addr} {cs:List PV} {vs ws:List Value} {e:TypeId} {g:Nat} {ro:Bool} {x:PV} (hm:m.get a.block=.cells vs e g ro) (hlt:a.block<m.size) (hg:LZ a=g)
 (hw:vs.drop a.off=ws) (h:Dx m F T σ n' cs ws) (hc:ws.all BO=true) (hx:a1k P t cs=some x):∃ v,LD P t a m=some v∧RP m F T σ n' x v:=by
 unfold a1k at hx
 unfold LD
 rw [if_pos hlt]
 unfold Xg
 have key:∀ n w,takeN n ws=some w→m.EK a n=some w:=by
  intro n w hn
  unfold Mem.EK
  rw [hm]
  simp only [hg,if_true,hw]
  exact hn
 cases hag:GI P t with
 |none=>rw [hag] at hx;cases hx
 |some b =>
  rw [hag] at hx
  cases b with
  |false =>
   obtain ⟨v,h1,h2⟩:=wR h hx
   exact ⟨v,by simp only [key 1 _ h1,Option.bind_some,List.head?_cons],h2⟩
  |true =>
   cases hi:P.info? t with
   |none=>rw [hi] at hx;cases hx
   |some i =>
    rw [hi] at hx
    simp only [Option.map_eq_some_iff] at hx
    obtain ⟨l,h1,rfl⟩:=hx
    obtain ⟨w,h2,h3⟩:=SH h h1
    refine ⟨.agg w.toArray,by simp only [key _ _ h2,Option.map_some],Uh h3 ?_⟩
    rw [(EU h2).1]
    exact Ls hc _
theorem ZB {P:Program} {Γ:Nat→Option (List Value×TypeId)} {m:Mem} {F:Nat→Prop} {σ:Nat→Value} {t:TypeId} {a x:PV} {v:Value} (hx:Ctx Γ m F σ H nx) (ha:RP m F (htag H) σ nx a v) (hl:lI P t H a=some x) :
 ∃ p u,v=.pointer (some p)∧LD P t p m=some u∧RP m F (htag H) σ nx x u:=by
 unfold lI at hl
 split at hl
 ·simp only [Option.map_eq_some_iff] at hl
  obtain ⟨y,h1,rfl⟩:=hl
  cases ha with
  |p h =>
   cases h with
   |EL hF hm hg hw h hc =>
    obtain ⟨u,h2,h3⟩:=ZY (a:=⟨_,_,_⟩) hm (hx.fr _ hF) hg hw h hc h1
    exact ⟨_,u,rfl,h2,.p h3⟩
 ·rename_i b off
  cases hb:hget H b with
  |none=>rw [hb] at hl;cases hl
  |some y =>
   rw [hb] at hl
   cases y with
   |box e cs =>
    obtain ⟨_,c,vs,r1,r2,r3,r4,r5,r6⟩:=hx.hp b _ hb
    cases ha with
    |ref hb' hc h =>
     obtain ⟨c',h1,h2⟩:=h (by simp [htag,hb,HB.tag])
     rw [r1] at h1
     cases h1
     subst h2
     obtain ⟨u,h3,h4⟩:=wF (a:=⟨c,off,none⟩) r4 r2 rfl rfl (Dx.drop off r5) (J8 r6 _) hl
     exact ⟨_,u,rfl,h3,h4⟩
   |vec e cs n z=>cases hl
   |map es=>cases hl
   |OY e cs n=>cases hl
   |IU ks cs=>cases hl
 ·rename_i b tag off
  cases hb:hget H b with
  |none=>rw [hb] at hl;cases hl
  |some y =>
   rw [hb] at hl
   cases y with
   |vec e cs n z =>
    simp only at hl
    split at hl
    ·rename_i hn _
     subst hn
     simp only [Option.map_eq_some_iff] at hl
     obtain ⟨y,hl,rfl⟩:=hl
     cases ha with
     |Fq hb' hc h =>
      obtain ⟨_,h0⟩:=h tag (by simp [htag,hb,HB.tag])
      obtain ⟨c,k,g,h1,h2⟩:=h0 rfl
      rcases (hx.hp b _ hb).2 with ⟨r1,r2,r3⟩|⟨c',g',vs,r1,r2,r3,r4,r5,r6,r7⟩
      ·rcases r3 with ⟨r3,_⟩|⟨_,_,_,r3,_⟩<;>rw [r3] at h1<;>cases h1
      ·rw [r1] at h1
       cases h1
       subst h2
       obtain ⟨u,h3,h4⟩:=ZY (a:=⟨c,off,some g⟩) (cs:=cs.drop off) (ws:=vs.drop off) r4 r2 rfl (by simp only [takeN,List.length_drop,r5.length];rw [if_pos (Nat.le_refl _),← List.length_drop,List.take_length]) (Dv.drop off r5) (J8 r6 _) hl
       exact ⟨_,u,rfl,h3,.p h4⟩
    ·cases hl
   |box e cs=>cases hl
   |map es=>cases hl
   |OY e cs n=>cases hl
   |IU ks cs=>cases hl
 ·cases hl
def CP:Nat→List PV→Frame
 |_,[]=>[]
 |i,a::l=>(i,a)::CP (i+1) l
theorem Ik:∀ (l:List PV) (k i:Nat) (v:PV),ET (CP k l) i=some v→k≤i∧l[i-k]?=some v
 |[],_,_,_,h=>by cases h
 |a::l,k,i,v,h=>by
  simp only [CP,DW] at h
  by_cases e:k=i
  ·rw [if_pos e] at h;cases h;subst e;simp
  ·rw [if_neg e] at h
   obtain ⟨h1,h2⟩:=Ik l (k+1) i v h
   refine ⟨by omega,?_⟩
   have:i-k=(i-(k+1))+1:=by omega
   rw [this];exact h2
theorem Dx.get {m:Mem} {F:Nat→Prop} {T:Nat→Option Tg} {σ:Nat→Value} {n':Nat}:∀ {cs:List PV} {vs:List Value} {i:Nat} {c:PV},Dx m F T σ n' cs vs→cs[i]?=some c→∃ v,vs[i]?=some v∧RP m F T σ n' c v
 |_,_,i,_,.nil,h=>by simp at h
 |_,_,0,_,.cons h _,hc=>by simp at hc;subst hc;exact ⟨_,rfl,h⟩
 |_,_,i+1,c,.cons (cs:=cs) _ t,hc=>by
  have hc':cs[i]?=some c:=by simpa using hc
  obtain ⟨v,h1,h2⟩:=Dx.get t hc'
  exact ⟨v,by simpa using h1,h2⟩
theorem Dx.length {m:Mem} {F:Nat→Prop} {T:Nat→Option Tg} {σ:Nat→Value} {n':Nat}:∀ {cs:List PV} {vs:List Value},Dx m F T σ n' cs vs→cs.length=vs.length
 |_,_,.nil=>rfl
 |_,_,.cons _ t=>by simp [t.length]
def PS (P:Program) (L:Frame) (H:Heap):ResultVar→Option PV
 | .tmp t=>ET L t
 | .cell a t=>match ET L a with
  |some p=>lI P t H p
  |none=>none
def jI {α β:Type} (f:α→Option β):List α→Option (List β)
 |[]=>some []
 |a::l=>match f a with
  |some b=>match jI f l with
   |some r=>some (b::r)
   |none=>none
  |none=>none
def Ei (P:Program) (rs:List ResultVar) (L:Frame) (H:Heap):Option PV :=
 match jI (PS P L H) rs with
 |some [v]=>some v
 |some vs=>some (.Ee vs)
 |none=>none
theorem jm {P:Program} {Γ:Nat→Option (List Value×TypeId)} {m:Mem} {F:Nat→Prop} {σ:Nat→Value} {t:Tr Value} {r:ResultVar} {x:PV} (hx:Ctx Γ m F σ H nx) (hl:RL m F (htag H) σ nx L t) (h:PS P L H r=some x) :
 ∃ v,Je P ⟨t,m⟩ r=some v∧RP m F (htag H) σ nx x v:=by
 cases r with
 |tmp i=>exact ⟨_,rfl,hl i x h⟩
 |cell a ty =>
  simp only [PS] at h
  cases ha:ET L a with
  |none=>rw [ha] at h;cases h
  |some p =>
   rw [ha] at h
   obtain ⟨q,u,h1,h2,h3⟩:=ZB hx (hl a p ha) h
   refine ⟨u,?_,h3⟩
   simp only [Je,h1,h2]
theorem UG {P:Program} {Γ:Nat→Option (List Value×TypeId)} {m:Mem} {F:Nat→Prop} {σ:Nat→Value} {t:Tr Value} (hx:Ctx Γ m F σ H nx) (hl:RL m F (htag H) σ nx L t):∀ {rs:List ResultVar} {xs:List PV},jI (PS P L H) rs=some xs →
 ∃ vs,NH (Je P ⟨t,m⟩) rs=some vs∧Dx m F (htag H) σ nx xs vs
 |[],_,h=>by cases h;exact ⟨[],rfl,.nil⟩
 |r::rs,xs,h=>by
  simp only [jI] at h
  cases h1:PS P L H r with
  |none=>rw [h1] at h;cases h
  |some x =>
   rw [h1] at h
   cases h2:jI (PS P L H) rs with
   |none=>rw [h2] at h;cases h
   |some ys =>
    rw [h2] at h
    cases h
    obtain ⟨v,h3,h4⟩:=jm hx hl h1
    obtain ⟨vs,h5,h6⟩:=UG hx hl h2
    exact ⟨v::vs,by simp only [NH,h3,h5],.cons h4 h6⟩
theorem JG {P:Program} {Γ:Nat→Option (List Value×TypeId)} {m:Mem} {F:Nat→Prop} {σ:Nat→Value} {t:Tr Value} {fn:Func} {x:PV} (hx:Ctx Γ m F σ H nx) (hl:RL m F (htag H) σ nx L t) (h:Ei P fn.results.toList L H=some x) :
 ∃ v,EN P fn ⟨t,m⟩=some v∧RP m F (htag H) σ nx x v:=by
 unfold Ei at h
 split at h
 ·rename_i v0 hv
  cases h
  obtain ⟨vs,h1,h2⟩:=UG hx hl hv
  cases h2 with
  |cons h3 t3 =>
   cases t3
   exact ⟨_,by simp only [EN,h1],h3⟩
 ·rename_i _ vs0 hne hv
  cases h
  obtain ⟨vs,h1,h2⟩:=UG hx hl hv
  refine ⟨.tuple vs.toArray,?_,.Ee h2⟩
  simp only [EN,h1]
  split
  ·rename_i hh
   simp only [Option.some.injEq] at hh
   subst hh
   cases h2 with
   |cons h3 t3=>cases t3;exact (hne _ rfl).elim
  ·rename_i hh
   simp only [Option.some.injEq] at hh
   rw [hh]
  ·rename_i hh;cases hh
 ·cases h
def Ret (bn:Nat) (Q:PV→Heap→Nat→Prop) (r0:PV) (H:Heap) (nx:Nat):Prop :=
 ∃ r H0 DC,xM r0 r∧r.under DC∧Ci DC H0 H∧DC≤nx∧bn≤DC∧Q r H0 DC
def Done (P:Program) (rs:List ResultVar) (bn:Nat) (Q:PV→Heap→Nat→Prop) (e:BZ) (L:Frame) (H:Heap) (nx:Nat):Prop :=
 match e with
 | .exit _=>False
 | .normal=>∃ r,Ei P rs L H=some r∧Ret bn Q r H nx
 | .ret=>∃ r,Ei P rs L H=some r∧Ret bn Q r H nx
theorem Ba.enter {f:FuncId} {fn:Func} {c:Code} {args:List PV} {Q:PV→Heap→Nat→Prop} (ho:E.O f=none) (hf:E.P.funcs[f]?=some fn) (hb:fn.body=some c) (hok:Ij E.G fn c=true) (hn:args.length≤fn.ntmps)
 (h:Ac E nx c (CP 0 args) H nx (Done E.P fn.results.toList nx Q)):Ba E f args H nx Q:=by
 intro m F σ BF h1 h2
 refine H8.enter ho hf hb hok (by rw [← h2.length];exact hn) ((h ⟨m,F,σ,H,nx⟩ rfl m F σ _ h1 ?_ (Step.refl _ _ _ _ _)).mono ?_)
 ·intro i v hi
  obtain ⟨_,h3⟩:=Ik args 0 i v hi
  obtain ⟨u,h4,h5⟩:=h2.get h3
  have:=F9 BF 0 .leaf i
  simp only [Nat.sub_zero] at h4
  have hlt:i<BF.length:=by
   rcases Nat.lt_or_ge i BF.length with h|h
   ·exact h
   ·rw [List.getElem?_eq_none h] at h4;cases h4
  rw [this,if_pos ⟨Nat.zero_le _,by omega⟩,Nat.sub_zero,List.getD_eq_getElem?_getD,h4]
  exact h5
 ·rintro e s ⟨L',H',nx',F',σ',q,c1,c2,c3⟩
  have key:(∃ r,Ei E.P fn.results.toList L' H'=some r∧Ret nx Q r H' nx')→∃ v,EN E.P fn s=some v∧∃ r H' nx' F' σ',Q r H' nx'∧Ctx E.Γ s.m F' σ' H' nx'∧RP s.m F' (htag H') σ' nx' r v∧Step m F σ H nx s.m F' σ' H' nx':=by
   rintro ⟨r0,hr,r,H0,DC,q1,q2,q3,q4,q5,q6⟩
   obtain ⟨v,h3,h4⟩:=JG c1 c2 hr
   have hcov:Yi L' H' nx' [] H0 DC:=⟨q4,trivial,q3⟩
   exact ⟨v,h3,r,H0,DC,F',σ',q6,hcov.ctx c1,RP.low (fun b t=>Ci.tag q3 b t) q2 (RP.le q1 h4),hcov.step (B:=⟨m,F,σ,H,nx⟩) q5 c3⟩
  cases e with
  |exit i=>exact q.elim
  |normal=>exact key q
  |ret=>exact key q
end
section
open Go.Am
variable {E:Env} {L:Frame} {H:Heap} {nx:Nat} {Q:PV→Heap→Nat→Prop} {w:Bool}
theorem Aa.quiet {o:Oper} {r:PV} (q:Q r H nx) (h:∀ m F σ t,Ctx E.Γ m F σ H nx→RL m F (htag H) σ nx L t→∃ v,(∀ call,Ce E.P call (ev t) o m=some (v,m))∧RP m F (htag H) σ nx r v):Aa E w o L H nx Q :=
 fun m F σ t h1 h2=>by
  obtain ⟨v,h3,h4⟩:=h m F σ t h1 h2
  exact F5.op h3 ⟨r,H,nx,F,σ,q,h1,h4,Step.refl _ _ _ _ _,fun _ k hk _=>hk⟩
section
variable {m:Mem} {F:Nat→Prop} {T:Nat→Option Tg} {σ:Nat→Value} {n:Nat}
theorem RF.cell {x:FV} {v:Value} (h:RF m F x v):(∃ cs,x=.agg cs)∨BO v=true:=by
 cases h with
 |agg h hc=>exact .inl ⟨_,rfl⟩
 |val h=>exact .inr (by have:=Dj (l:=[_]) (by simpa using h);simpa using this)
 |_=>exact .inr rfl
def La:PV→List PV
 | .p (.agg cs)=>cs.map .p
 | .agg cs=>cs
 |x=>[x]
def Uz:PV→Prop
 | .Ee _=>False
 |_=>True
theorem Dx.jZ:∀ {cs:List FV} {vs:List Value},Dv m F cs vs→Dx m F T σ n (cs.map .p) vs
 |_,_,.nil=>.nil
 |_,_,.cons h t=>.cons (.p h) (Dx.jZ t)
theorem Dv.YI:∀ {cs:List FV} {vs:List Value},Dx m F T σ n (cs.map .p) vs→Dv m F cs vs
 |[],_,.nil=>.nil
 |_::_,_,.cons (.p h) t=>.cons h (Dv.YI t)
theorem cells_one {v:Value} (h:BO v=true):v.cells=#[v]:=by
 cases v<;>first|rfl|cases h
theorem MJ {x:PV} {v:Value} (hn:Uz x) (h:RP m F T σ n x v):Dx m F T σ n (La x) v.cells.toList∧v.cells.toList.all BO=true:=by
 cases h with
 |Ee h=>exact hn.elim
 |agg h hc=>exact ⟨h,hc⟩
 |p h =>
  rcases h.cell with ⟨cs,rfl⟩|hc
  ·cases h with|agg h hc=>exact ⟨Dx.jZ h,hc⟩
  ·rw [cells_one hc]
   refine ⟨?_,by simp [hc]⟩
   cases h<;>first|exact .cons (.p (by assumption)) .nil|skip
   ·exact .cons (.p (.int _ _)) .nil
   ·exact .cons (.p (.bool _)) .nil
   ·exact .cons (.p (.str _)) .nil
   ·rename_i h;exact .cons (.p (.val h)) .nil
   ·cases hc
   ·exact .cons (.p (.nil _)) .nil
   ·exact .cons (.p (.room _ _ _ _)) .nil
   ·rename_i h1 h2 h3 h4 h5;exact .cons (.p (.lst h1 h2 h3 h4 h5)) .nil
   ·rename_i h1 h2 h3 h4 h5 h6;exact .cons (.p (.EL h1 h2 h3 h4 h5 h6)) .nil
   ·rename_i h1 h2 h3 h4 h5;exact .cons (.p (.own h1 h2 h3 h4 h5)) .nil
   ·exact .cons (.p (.QI _)) .nil
   ·exact .cons (.p (.O7 _ _ _ _)) .nil
 |vec hb hc h=>rw [cells_one hc];exact ⟨.cons (.vec hb hc h) .nil,by simp [hc]⟩
 |ref hb hc h=>rw [cells_one hc];exact ⟨.cons (.ref hb hc h) .nil,by simp [hc]⟩
 |Fq hb hc h=>rw [cells_one hc];exact ⟨.cons (.Fq hb hc h) .nil,by simp [hc]⟩
 |mref hb hc h=>rw [cells_one hc];exact ⟨.cons (.mref hb hc h) .nil,by simp [hc]⟩
 |clo h1 h2=>exact ⟨.cons (.clo h1 h2) .nil,rfl⟩
end
theorem He (b:Nat) (x:HB) (H:Heap) (c:Nat):htag ((b,x)::H) c=if b=c then some x.tag else htag H c:=by
 unfold htag
 rw [BA]
 split<;>rfl
theorem Pn (H:Heap) (b c:Nat) (y:HB):htag (hput H b y) c=if b=c then (htag H b).map (fun _=>y.tag) else htag H c:=by
 unfold htag
 rw [LP]
 split
 ·cases hget H b<;>rfl
 ·rfl
theorem Ctx.tX {Γ:Nat→Option (List Value×TypeId)} {m:Mem} {F:Nat→Prop} {σ:Nat→Value} (h:Ctx Γ m F σ H nx) {b:Nat} (hb:nx≤b):hget H b=none:=by
 cases hh:hget H b with
 |none=>rfl
 |some x=>have:=(h.hp b x hh).1;omega
def upd (σ:Nat→Value) (b:Nat) (v:Value):Nat→Value:=fun c=>if c=b then v else σ c
theorem upd_same (σ:Nat→Value) (b:Nat) (v:Value):upd σ b v b=v:=if_pos rfl
theorem CQ (σ:Nat→Value) {b c:Nat} (v:Value) (h:c≠b):upd σ b v c=σ c:=if_neg h
theorem RB.mono {m m':Mem} {F F':Nat→Prop} {T T':Nat→Option Tg} {σ σ':Nat→Value} {n n':Nat} {s:Value} {x:HB} (hF:∀ c,F c→F' c∧m'.get c=m.get c) (hN:Names n T σ T' σ') (hn:n≤n')
 (hs:m.size≤m'.size) (ho:∀ c,Dl s=some c→m'.get c=m.get c∧¬ F' c) (h:RB m F T σ n s x):RB m' F' T' σ' n' s x:=by
 cases x with
 |box e cs =>
  obtain ⟨c,vs,r1,r2,r3,r4,r5,r6⟩:=h
  obtain ⟨h1,h2⟩:=ho c (by rw [r1];rfl)
  exact ⟨c,vs,r1,by omega,h2,h1.trans r4,r5.mono hF hN hn,r6⟩
 |vec e cs k z =>
  rcases h with h|⟨c,g,vs,r1,r2,r3,r4,r5,r6⟩
  ·exact .inl h
  ·obtain ⟨h1,h2⟩:=ho c (by rw [r1];rfl)
   exact .inr ⟨c,g,vs,r1,by omega,h2,h1.trans r4,r5.mono hF,r6⟩
 |map es =>
  obtain ⟨r,l,clock,r1,r2,r3,r4,r5,r6⟩:=h
  obtain ⟨h1,h2⟩:=ho r (by rw [r1];rfl)
  exact ⟨r,l,clock,r1,by omega,h2,h1.trans r4,r5.mono hF,r6.mono hF⟩
 |OY e cs k =>
  obtain ⟨c,g,vs,r1,r2,r3,r4,r5,r6⟩:=h
  obtain ⟨h1,h2⟩:=ho c (by rw [r1];rfl)
  exact ⟨c,g,vs,r1,by omega,h2,h1.trans r4,r5.mono hF hN hn,r6⟩
 |IU ks cs =>
  obtain ⟨r,l,clock,r1,r2,r3,r4,r5,r6,r7⟩:=h
  obtain ⟨h1,h2⟩:=ho r (by rw [r1];rfl)
  exact ⟨r,l,clock,r1,by omega,h2,h1.trans r4,r5.mono hF,r6.mono hF hN hn,r7⟩
theorem aH {Γ:Nat→Option (List Value×TypeId)} {m:Mem} {F:Nat→Prop} {σ:Nat→Value} (x:HB) (s:Value):Names nx (htag H) σ (htag ((nx,x)::H)) (upd σ nx s):=fun b hb=>by
 rw [He,if_neg (by omega),CQ _ _ (by omega)]
 exact ⟨UC.refl _,fun _ _ _=>rfl⟩
theorem Ctx.new {Γ:Nat→Option (List Value×TypeId)} {m m':Mem} {F:Nat→Prop} {σ:Nat→Value} {x:HB} {s:Value} (h:Ctx Γ m F σ H nx) (hsz:m.size≤m'.size) (hget':∀ c,c<m.size→m'.get c=m.get c) (hlow:min m.low m.size≤m'.low)
 (hs:∀ c,Dl s=some c→m.size≤c) (hr:RB m' F (htag ((nx,x)::H)) (upd σ nx s) (nx+1) s x) :
 Ctx Γ m' F (upd σ nx s) ((nx,x)::H) (nx+1)∧Step m F σ H nx m' F (upd σ nx s) ((nx,x)::H) (nx+1)∧Quiet m m':=by
 have hfz:∀ c,F c→F c∧m'.get c=m.get c:=fun c hc=>⟨hc,hget' c (h.fr c hc)⟩
 have hN:=aH (Γ:=Γ) (m:=m) (F:=F) (σ:=σ) (H:=H) (nx:=nx) x s
 refine ⟨⟨fun c hc=>Nat.lt_of_lt_of_le (h.fr c hc) hsz,?_,?_,?_⟩,⟨hsz,fun c hc _=>hget' c hc,fun _ h=>h,fun _ _ h=>.inl h,?_,Nat.le_succ _,hN,?_⟩,?_⟩
 ·intro b y hb
  rw [BA] at hb
  by_cases e:nx=b
  ·rw [if_pos e] at hb;cases hb;subst e
   rw [upd_same]
   exact ⟨by omega,hr⟩
  ·rw [if_neg e] at hb
   obtain ⟨h1,h2⟩:=h.hp b y hb
   rw [CQ _ _ (Ne.symm e)]
   refine ⟨by omega,h2.mono hfz hN (Nat.le_succ _) hsz fun c hc=>?_⟩
   have:=h.KD ⟨b,y,hb,hc⟩
   exact ⟨hget' c this.2,this.1⟩
 ·intro b b' y y' c h1 h2 h3 h4
  rw [BA] at h1 h2
  by_cases e:nx=b<;>by_cases e':nx=b'
  ·omega
  ·subst e
   rw [if_neg e'] at h2
   rw [upd_same] at h3
   rw [CQ _ _ (Ne.symm e')] at h4
   have:=(h.KD ⟨b',y',h2,h4⟩).2
   have:=hs c h3
   omega
  ·subst e'
   rw [if_neg e] at h1
   rw [upd_same] at h4
   rw [CQ _ _ (Ne.symm e)] at h3
   have:=(h.KD ⟨b,y,h1,h3⟩).2
   have:=hs c h4
   omega
  ·rw [if_neg e] at h1
   rw [if_neg e'] at h2
   rw [CQ _ _ (Ne.symm e)] at h3
   rw [CQ _ _ (Ne.symm e')] at h4
   exact h.sep b b' y y' c h1 h2 h3 h4
 ·intro g vs e hg
  obtain ⟨h1,h2,h3⟩:=h.gl g vs e hg
  exact ⟨h1,(hget' g (h.fr g h1)).trans h2,h3⟩
 ·rintro c hc ⟨b,y,hb,hbc⟩
  rw [BA] at hb
  by_cases e:nx=b
  ·subst e
   rw [upd_same] at hbc
   have:=hs c hbc
   omega
  ·rw [if_neg e] at hb
   rw [CQ _ _ (Ne.symm e)] at hbc
   exact ⟨b,y,hb,hbc⟩
 ·intro k h1 h2 _;omega
 ·intro k h1 h2;omega
theorem Gt {b0:Nat} {x0 x':HB} {σ:Nat→Value} {s':Value} (hb:hget H b0=some x0) (ht:UC (some x0.tag) (some x'.tag)) (hs:x0.tag=x'.tag→s'=σ b0) :
 Names nx (htag H) σ (htag (hput H b0 x')) (upd σ b0 s'):=fun b _=>by
 rw [Pn]
 by_cases e:b0=b
 ·subst e
  have h0:htag H b0=some x0.tag:=by simp [htag,hb]
  rw [if_pos rfl,h0,upd_same]
  refine ⟨ht,fun t h1 h2=>hs ?_⟩
  simp only [Option.map_some,Option.some.injEq] at h1 h2
  rw [h1,h2]
 ·rw [if_neg e,CQ _ _ (Ne.symm e)]
  exact ⟨UC.refl _,fun _ _ _=>rfl⟩
theorem Ctx.change {Γ:Nat→Option (List Value×TypeId)} {m m':Mem} {F:Nat→Prop} {σ:Nat→Value} {b0:Nat} {x0 x':HB} {s':Value} (h:Ctx Γ m F σ H nx) (hb:hget H b0=some x0) (ht:UC (some x0.tag) (some x'.tag)) (hs:x0.tag=x'.tag→s'=σ b0)
 (hsz:m.size≤m'.size) (hget':∀ c,c<m.size→Dl (σ b0)≠some c→m'.get c=m.get c) (hlow:∀ k,k≤m.low→k≤m.size→(∀ c,Dl (σ b0)=some c→k≤c)→k≤m'.low)
 (hblk:∀ c,Dl s'=some c→Dl (σ b0)=some c∨m.size≤c) (hr:RB m' F (htag (hput H b0 x')) (upd σ b0 s') nx s' x') :
 Ctx Γ m' F (upd σ b0 s') (hput H b0 x') nx∧Step m F σ H nx m' F (upd σ b0 s') (hput H b0 x') nx:=by
 have hown:∀ c,Dl (σ b0)=some c→own H σ c:=fun c hc=>⟨b0,x0,hb,hc⟩
 have hfz:∀ c,F c→F c∧m'.get c=m.get c:=fun c hc=>⟨hc,hget' c (h.fr c hc) fun e=>(h.KD (hown c e)).1 hc⟩
 have hN:Names nx (htag H) σ (htag (hput H b0 x')) (upd σ b0 s'):=Gt hb ht hs
 have hg0:hget (hput H b0 x') b0=some x':=by rw [LP,if_pos rfl,hb];rfl
 have hgo:∀ b,b≠b0→hget (hput H b0 x') b=hget H b:=fun b e=>by rw [LP,if_neg (Ne.symm e)]
 refine ⟨⟨fun c hc=>Nat.lt_of_lt_of_le (h.fr c hc) hsz,?_,?_,?_⟩,⟨hsz,fun c hc ho=>hget' c hc fun e=>ho (hown c e),fun _ h=>h,fun _ _ h=>.inl h,?_,Nat.le_refl _,hN,?_⟩⟩
 ·intro b y hy
  by_cases e:b=b0
  ·subst e
   rw [hg0] at hy;cases hy
   rw [upd_same]
   exact ⟨(h.hp b x0 hb).1,hr⟩
  ·rw [hgo b e] at hy
   obtain ⟨h1,h2⟩:=h.hp b y hy
   rw [CQ _ _ e]
   refine ⟨h1,h2.mono hfz hN (Nat.le_refl _) hsz fun c hc=>?_⟩
   have:=h.KD ⟨b,y,hy,hc⟩
   exact ⟨hget' c this.2 fun e'=>e (h.sep b b0 y x0 c hy hb hc e'),this.1⟩
 ·intro b b' y y' c h1 h2 h3 h4
  by_cases e:b=b0<;>by_cases e':b'=b0
  ·omega
  ·subst e
   rw [hgo b' e'] at h2
   rw [upd_same] at h3
   rw [CQ _ _ e'] at h4
   rcases hblk c h3 with h5|h5
   ·exact h.sep b b' x0 y' c hb h2 h5 h4
   ·have:=(h.KD ⟨b',y',h2,h4⟩).2;omega
  ·subst e'
   rw [hgo b e] at h1
   rw [upd_same] at h4
   rw [CQ _ _ e] at h3
   rcases hblk c h4 with h5|h5
   ·exact h.sep b b' y x0 c h1 hb h3 h5
   ·have:=(h.KD ⟨b,y,h1,h3⟩).2;omega
  ·rw [hgo b e] at h1
   rw [hgo b' e'] at h2
   rw [CQ _ _ e] at h3
   rw [CQ _ _ e'] at h4
   exact h.sep b b' y y' c h1 h2 h3 h4
 ·intro g vs e hg
  obtain ⟨h1,h2,h3⟩:=h.gl g vs e hg
  exact ⟨h1,(hfz g h1).2.trans h2,h3⟩
 ·rintro c hc ⟨b,y,hy,hbc⟩
  by_cases e:b=b0
  ·subst e
   rw [upd_same] at hbc
   rcases hblk c hbc with h5|h5
   ·exact hown c h5
   ·omega
  ·rw [hgo b e] at hy
   rw [CQ _ _ e] at hbc
   exact ⟨b,y,hy,hbc⟩
 ·intro k h1 h2 h3
  exact hlow k h1 h2 fun c hc=>h3 c (hown c hc)
def Dk {α:Type} (cs:List α):Nat→List α→List α
 |_,[]=>cs
 |o,v::l=>Dk (cs.set o v) (o+1) l
section
variable {m:Mem} {F:Nat→Prop} {T:Nat→Option Tg} {σ:Nat→Value} {n:Nat}
theorem Dx.set:∀ {cs:List PV} {vs:List Value} (i:Nat) {x:PV} {v:Value},Dx m F T σ n cs vs→RP m F T σ n x v→Dx m F T σ n (cs.set i x) (vs.set i v)
 |_,_,_,_,_,.nil,_=>.nil
 |_,_,0,_,_,.cons _ t,h=>.cons h t
 |_,_,i+1,_,_,.cons h t,h'=>.cons h (Dx.set i t h')
theorem Dv.set:∀ {cs:List FV} {vs:List Value} (i:Nat) {x:FV} {v:Value},Dv m F cs vs→RF m F x v→Dv m F (cs.set i x) (vs.set i v)
 |_,_,_,_,_,.nil,_=>.nil
 |_,_,0,_,_,.cons _ t,h=>.cons h t
 |_,_,i+1,_,_,.cons h t,h'=>.cons h (Dv.set i t h')
theorem Dx.splice:∀ {l:List PV} {ws:List Value} {cs:List PV} {vs:List Value} (o:Nat),Dx m F T σ n cs vs→Dx m F T σ n l ws→Dx m F T σ n (Dk cs o l) (splice vs o ws)
 |_,_,_,_,_,h,.nil=>h
 |_,_,_,_,o,h,.cons h1 t=>Dx.splice (o+1) (h.set o h1) t
theorem Dv.splice:∀ {l:List FV} {ws:List Value} {cs:List FV} {vs:List Value} (o:Nat),Dv m F cs vs→Dv m F l ws→Dv m F (Dk cs o l) (splice vs o ws)
 |_,_,_,_,_,h,.nil=>h
 |_,_,_,_,o,h,.cons h1 t=>Dv.splice (o+1) (h.set o h1) t
theorem Dv.append:∀ {cs ds:List FV} {vs ws:List Value},Dv m F cs vs→Dv m F ds ws→Dv m F (cs++ds) (vs++ws)
 |_,_,_,_,.nil,h=>h
 |_,_,_,_,.cons h t,h'=>.cons h (Dv.append t h')
end
theorem a3x {l:List Value} (h:l.all BO=true) {v:Value} (hv:BO v=true) (i:Nat):(l.set i v).all BO=true:=by
 rw [List.all_eq_true] at h ⊢
 intro x hx
 rcases List.mem_or_eq_of_mem_set hx with hx|rfl
 ·exact h x hx
 ·exact hv
theorem Kr:∀ {ws l:List Value} (o:Nat),l.all BO=true→ws.all BO=true→(splice l o ws).all BO=true
 |[],_,_,h,_=>h
 |v::ws,l,o,h,hw=>by
  simp only [List.all_cons,Bool.and_eq_true] at hw
  exact Kr (o+1) (a3x h hw.1 o) hw.2
end
section
open Go.Am
variable {E:Env} {L:Frame} {H:Heap} {nx:Nat} {Q:PV→Heap→Nat→Prop} {w:Bool}
variable {dst:Option Tmp} {ty:TypeId} {pos:String} {af:Array Edge} {gd:Option (Nat×Bool)}
theorem Aa.move {x:Operand} {r:PV} (h:Bh E.Γ L x=some r) (q:Q r H nx):Aa E w ⟨dst,.move x,ty,pos,af,gd⟩ L H nx Q :=
 Aa.quiet q fun _ _ _ _ h1 h2=>⟨_,fun _=>rfl,BK h1 h2 h⟩
theorem Aa.assign {x:Operand} {r:PV} (h:Bh E.Γ L x=some r) (q:Q r H nx):Aa E w ⟨dst,.assign x,ty,pos,af,gd⟩ L H nx Q :=
 Aa.quiet q fun _ _ _ _ h1 h2=>⟨_,fun _=>rfl,BK h1 h2 h⟩
theorem Aa.Bc {c a b:Operand} {r:PV} (hc:Bh E.Γ L c=some (.p (.bool true))) (h:Bh E.Γ L a=some r) (q:Q r H nx):Aa E w ⟨dst,.pick c a b,ty,pos,af,gd⟩ L H nx Q :=
 Aa.quiet q fun m _ _ t h1 h2=>⟨ev t a,fun _=>by simp only [Ce,EX,GX h1 h2 hc,if_true],BK h1 h2 h⟩
theorem Aa.AL {c a b:Operand} {r:PV} (hc:Bh E.Γ L c=some (.p (.bool false))) (h:Bh E.Γ L b=some r) (q:Q r H nx):Aa E w ⟨dst,.pick c a b,ty,pos,af,gd⟩ L H nx Q :=
 Aa.quiet q fun m _ _ t h1 h2=>⟨ev t b,fun _=>by simp only [Ce,EX,GX h1 h2 hc,Bool.false_eq_true,if_false],BK h1 h2 h⟩
theorem Dc {Γ:Nat→Option (List Value×TypeId)} {m:Mem} {F:Nat→Prop} {σ:Nat→Value} {t:Tr Value} {k:IntKind} {n:Int} {o:Operand} (hx:Ctx Γ m F σ H nx) (hl:RL m F (htag H) σ nx L t) (h:Bh Γ L o=some (.p (.int k n))):ev t o=.int k n:=by
 have:=BK hx hl h
 generalize ev t o=v at this
 cases this with|p h=>cases h;rfl
theorem KL {Γ:Nat→Option (List Value×TypeId)} {m:Mem} {F:Nat→Prop} {σ:Nat→Value} {t:Tr Value} {s:ByteArray} {o:Operand} (hx:Ctx Γ m F σ H nx) (hl:RL m F (htag H) σ nx L t) (h:Bh Γ L o=some (.p (.str s))):ev t o=.string s:=by
 have:=BK hx hl h
 generalize ev t o=v at this
 cases this with|p h=>cases h;rfl
def VK (op:BinOp) (k:IntKind) (x y:Int):Option FV :=
 match op with
 | .add=>some (.int k (k.wrap (x+y)))
 | .sub=>some (.int k (k.wrap (x-y)))
 | .mul=>some (.int k (k.wrap (x*y)))
 | .eql=>some (.bool (decide (x=y)))
 | .neq=>some (.bool (decide (x≠y)))
 | .lss=>some (.bool (decide (x<y)))
 | .leq=>some (.bool (decide (x≤y)))
 | .gtr=>some (.bool (decide (x>y)))
 | .geq=>some (.bool (decide (x≥y)))
 | .quo=>if y=0 then none else some (.int k (k.wrap (x.tdiv y)))
 | .rem=>if y=0 then none else some (.int k (x.tmod y))
 | .and=>some (.int k (k.wrap (BitVec.ofInt k.bits x &&& BitVec.ofInt k.bits y).toNat))
 | .or=>some (.int k (k.wrap (BitVec.ofInt k.bits x ||| BitVec.ofInt k.bits y).toNat))
 | .xor=>some (.int k (k.wrap (BitVec.ofInt k.bits x ^^^ BitVec.ofInt k.bits y).toNat))
 | .andNot=>some (.int k (k.wrap (BitVec.ofInt k.bits x &&& ~~~ BitVec.ofInt k.bits y).toNat))
 |_=>none
theorem yT {m:Mem} {F:Nat→Prop} {op:BinOp} {k:IntKind} {x y:Int} {r:FV} (h:VK op k x y=some r):∃ v,xX op k x y=some v∧RF m F r v∧op≠.shl∧op≠.shr:=by
 have e1:(x==y)=decide (x=y):=Bool.eq_iff_iff.2 (by simp)
 have e2:(x != y)=decide (x≠y):=Bool.eq_iff_iff.2 (by simp)
 cases op<;>simp only [VK,xX,e1,e2] at h ⊢<;>first
  |(cases h;done)
  |(cases h;exact ⟨_,rfl,.int _ _,by simp,by simp⟩)
  |(cases h;exact ⟨_,rfl,.bool _,by simp,by simp⟩)
  |(split at h
    ·cases h
    ·rename_i h0;cases h;exact ⟨_,by rw [if_neg h0],.int _ _,by simp,by simp⟩)
theorem Aa.int {op:BinOp} {t t2:TypeId} {x y:Operand} {k:IntKind} {a b:Int} {r:FV} (hx:Bh E.Γ L x=some (.p (.int k a))) (hy:Bh E.Γ L y=some (.p (.int k b))) (h:VK op k a b=some r) (q:Q (.p r) H nx) :
 Aa E w ⟨dst,.binOp op t x y t2,ty,pos,af,gd⟩ L H nx Q :=
 Aa.quiet q fun m F σ tt h1 h2=>by
  obtain ⟨v,h3,h4,h5,h6⟩:=yT (m:=m) (F:=F) h
  refine ⟨v,fun _=>?_,.p h4⟩
  have e:NY E.P op t x y (.int k a) (.int k b)=some v:=by
   rw [← h3]
   cases op<;>first|exact absurd rfl h5|exact absurd rfl h6|simp only [NY,if_true]
  simp only [Ce,EX,Dc h1 h2 hx,Dc h1 h2 hy,e,Option.map_some]
theorem wrap_i64 {n:Int} (h:-9223372036854775808≤n∧n<9223372036854775808):IntKind.i64.wrap n=n:=by
 have e:IntKind.i64.wrap n=(n+2^63) % 2^64-2^63:=by
  simp [IntKind.wrap,IntKind.signed,IntKind.bits]
  try omega
 rw [e]
 omega
theorem Aa.BU {t t2:TypeId} {x y:Operand} {a b:Int} (hx:Bh E.Γ L x=some (.p (.int .i64 a))) (hy:Bh E.Γ L y=some (.p (.int .i64 b))) (h:-9223372036854775808≤a+b∧a+b<9223372036854775808) (q:Q (.p (.int .i64 (a+b))) H nx) :
 Aa E w ⟨dst,.binOp .add t x y t2,ty,pos,af,gd⟩ L H nx Q:=Aa.int hx hy (r:=.int .i64 (a+b)) (by simp only [VK,wrap_i64 h]) q
theorem Aa.Jv {t t2:TypeId} {x y:Operand} {a b:Int} (hx:Bh E.Γ L x=some (.p (.int .i64 a))) (hy:Bh E.Γ L y=some (.p (.int .i64 b))) (h:-9223372036854775808≤a-b∧a-b<9223372036854775808) (q:Q (.p (.int .i64 (a-b))) H nx) :
 Aa E w ⟨dst,.binOp .sub t x y t2,ty,pos,af,gd⟩ L H nx Q:=Aa.int hx hy (r:=.int .i64 (a-b)) (by simp only [VK,wrap_i64 h]) q
theorem Aa.a6j {t t2:TypeId} {x y:Operand} {a b:Int} (hx:Bh E.Γ L x=some (.p (.int .i64 a))) (hy:Bh E.Γ L y=some (.p (.int .i64 b))) (h:-9223372036854775808≤a*b∧a*b<9223372036854775808) (q:Q (.p (.int .i64 (a*b))) H nx) :
 Aa E w ⟨dst,.binOp .mul t x y t2,ty,pos,af,gd⟩ L H nx Q:=Aa.int hx hy (r:=.int .i64 (a*b)) (by simp only [VK,wrap_i64 h]) q
theorem Aa.shift {op:BinOp} {t t2:TypeId} {x y:Operand} {k k':IntKind} {a b:Int} {r:FV} (hop:op=.shl∨op=.shr) (hx:Bh E.Γ L x=some (.p (.int k a))) (hy:Bh E.Γ L y=some (.p (.int k' b))) (hb:0≤b)
 (hr:r=if op=.shl then .int k (k.wrap (a*2 ^ (min b.toNat k.bits))) else .int k (a.fdiv (2 ^ (min b.toNat k.bits)))) (q:Q (.p r) H nx) :
 Aa E w ⟨dst,.binOp op t x y t2,ty,pos,af,gd⟩ L H nx Q :=
 Aa.quiet q fun m F σ tt h1 h2=>by
  have hb':¬ b<0:=by omega
  rcases hop with rfl|rfl
  ·refine ⟨.int k (k.wrap (a*2 ^ (min b.toNat k.bits))),fun _=>?_,by rw [hr];exact .p (.int _ _)⟩
   simp only [Ce,EX,Dc h1 h2 hx,Dc h1 h2 hy,NY,XL,if_neg hb',Option.map_some]
  ·refine ⟨.int k (a.fdiv (2 ^ (min b.toNat k.bits))),fun _=>?_,by rw [hr];exact .p (.int _ _)⟩
   simp only [Ce,EX,Dc h1 h2 hx,Dc h1 h2 hy,NY,XL,if_neg hb',Option.map_some]
theorem Aa.shl {t t2:TypeId} {x y:Operand} {k k':IntKind} {a b:Int} (hx:Bh E.Γ L x=some (.p (.int k a))) (hy:Bh E.Γ L y=some (.p (.int k' b))) (hb:0≤b) (q:Q (.p (.int k (k.wrap (a*2 ^ (min b.toNat k.bits))))) H nx) :
 Aa E w ⟨dst,.binOp .shl t x y t2,ty,pos,af,gd⟩ L H nx Q:=Aa.shift (.inl rfl) hx hy hb rfl q
theorem Aa.shr {t t2:TypeId} {x y:Operand} {k k':IntKind} {a b:Int} (hx:Bh E.Γ L x=some (.p (.int k a))) (hy:Bh E.Γ L y=some (.p (.int k' b))) (hb:0≤b) (q:Q (.p (.int k (a.fdiv (2 ^ (min b.toNat k.bits))))) H nx) :
 Aa E w ⟨dst,.binOp .shr t x y t2,ty,pos,af,gd⟩ L H nx Q:=Aa.shift (.inr rfl) hx hy hb rfl q
theorem KJ {P:Program} {s:Sem Value} {v:Value} (h:DJ P s=some v) (hp:plain v=true):VR P s=some v:=by
 simp only [VR,h,hp,if_true]
def jf:TypeDesc→Bool
 | .slice _=>false
 |_=>true
theorem Aa.Wn {s d:TypeId} {x:Operand} {k k':IntKind} {n:Int} {sd:TypeDesc} (hx:Bh E.Γ L x=some (.p (.int k' n))) (hs:E.P.underlying s=some sd) (hns:jf sd=true) (hd:E.P.underlying d=some (.int k)) (q:Q (.p (.int k (k.wrap n))) H nx) :
 Aa E w ⟨dst,.convert s d x,ty,pos,af,gd⟩ L H nx Q :=
 Aa.quiet q fun m F σ tt h1 h2=>by
  refine ⟨.int k (k.wrap n),fun _=>?_,.p (.int _ _)⟩
  have:DJ E.P (convert s d (.int k' n))=some (.int k (k.wrap n)):=by
   unfold convert
   simp only [Ar,Bg,hs,hd,Option.bind_some]
   cases sd<;>rfl
  have hsl:(Jf E.P s||Jf E.P d)=false:=by
   simp only [Jf,hs,hd]
   cases sd<;>first|rfl|cases hns
  simp only [Ce,EX,Dc h1 h2 hx,KJ this rfl,Option.map_some,hsl]
  rfl
theorem Aa.extract {t:Operand} {i:Nat} {vs:List PV} {r:PV} (h:Bh E.Γ L t=some (.Ee vs)) (hr:vs[i]?=some r) (q:Q r H nx):Aa E w ⟨dst,.extract t i,ty,pos,af,gd⟩ L H nx Q :=
 Aa.quiet q fun m F σ tt h1 h2=>by
  have:=BK h1 h2 h
  generalize hv:ev tt t=v at this
  cases this with
  |Ee hrs =>
   obtain ⟨u,h3,h4⟩:=hrs.get hr
   refine ⟨u,fun _=>?_,h4⟩
   simp only [Ce,EX,hv,Instr.extract,List.getElem?_toArray,h3]
   rfl
def RS (P:Program) (s:TypeId) (f:Nat):Option Nat :=
 match P.underlying s with
 |some (.struct fs)=>match fs[f]? with
  |some fd=>match P.info? fd.type with
   |some i=>if i.size=0 then none else some fd.offset
   |none=>none
  |none=>none
 |_=>none
theorem Qo {P:Program} {ρ:Operand→Value} {s:TypeId} {f k:Nat} {x:Operand} {a:Addr} {m:Mem} (h:RS P s f=some k) (hx:ρ x=.pointer (some a)) :
 EX P ρ ⟨dst,.fieldAddr s x f,ty,pos,af,gd⟩ m=some (.pointer (some { a with off:=a.off+k }),m):=by
 unfold RS at h
 simp only [EX,hx]
 cases hu:P.underlying s with
 |none=>rw [hu] at h;cases h
 |some d =>
  rw [hu] at h
  cases d with
  |struct fs =>
   simp only at h ⊢
   cases hf:fs[f]? with
   |none=>rw [hf] at h;cases h
   |some fd =>
    rw [hf] at h
    simp only at h ⊢
    cases hi:P.info? fd.type with
    |none=>rw [hi] at h;cases h
    |some i =>
     rw [hi] at h
     simp only at h ⊢
     split at h
     ·cases h
     ·rename_i h0;cases h;simp only [h0,if_false]
  |_=>cases h
theorem MR {n k:Nat} {l ws:List Value} (h:takeN n l=some ws):takeN (n-k) (l.drop k)=some (ws.drop k):=by
 obtain ⟨rfl,hn⟩:=EU h
 unfold takeN
 rw [List.length_drop,if_pos (by omega),List.drop_take]
theorem RF.uQ {m:Mem} {F:Nat→Prop} {cs:List FV} {a:Addr} (k:Nat) (h:RF m F (.EL cs) (.pointer (some a))):RF m F (.EL (cs.drop k)) (.pointer (some { a with off:=a.off+k })):=by
 cases h with
 |EL hF hm hg hw h hc =>
  refine .EL hF hm hg (ws:=_) ?_ (Dv.drop k h) (J8 hc k)
  have:=MR (k:=k) hw
  rw [List.length_drop,← List.drop_drop]
  exact this
theorem Xi {Γ:Nat→Option (List Value×TypeId)} {m:Mem} {F:Nat→Prop} {σ:Nat→Value} {t:Tr Value} {cs:List FV} {o:Operand} (hx:Ctx Γ m F σ H nx) (hl:RL m F (htag H) σ nx L t) (h:Bh Γ L o=some (.p (.EL cs))) :
 ∃ a,ev t o=.pointer (some a)∧RF m F (.EL cs) (.pointer (some a)):=by
 have:=BK hx hl h
 generalize ev t o=v at this
 cases this with
 |p h =>
  cases h with
  |EL h1 h2 h3 h4 h5 h6=>exact ⟨_,rfl,.EL h1 h2 h3 h4 h5 h6⟩
theorem WG {Γ:Nat→Option (List Value×TypeId)} {m:Mem} {F:Nat→Prop} {σ:Nat→Value} {t:Tr Value} {b off:Nat} {o:Operand} {e:TypeId} {cs:List PV} (hx:Ctx Γ m F σ H nx) (hl:RL m F (htag H) σ nx L t) (h:Bh Γ L o=some (.ref b off)) (hb:hget H b=some (.box e cs)) :
 ∃ c,ev t o=.pointer (some ⟨c,off,none⟩)∧σ b=.pointer (some ⟨c,0,none⟩):=by
 have:=BK hx hl h
 generalize ev t o=v at this
 cases this with
 |ref h1 h2 h3 =>
  obtain ⟨c,h4,h5⟩:=h3 (by simp [htag,hb,HB.tag])
  exact ⟨c,h5,h4⟩
theorem jX {Γ:Nat→Option (List Value×TypeId)} {m:Mem} {F:Nat→Prop} {σ:Nat→Value} {t:Tr Value} {b tag off:Nat} {o:Operand} {e:TypeId} {cs:List FV} {z:Bool} (hx:Ctx Γ m F σ H nx) (hl:RL m F (htag H) σ nx L t) (h:Bh Γ L o=some (.Fq b tag off)) (hb:hget H b=some (.vec e cs tag z)) :
 ∃ c k g,ev t o=.pointer (some ⟨c,off,some g⟩)∧σ b=.slice (some ⟨c,0,none⟩) k g:=by
 have:=BK hx hl h
 generalize ev t o=v at this
 cases this with
 |Fq h1 h2 h3 =>
  obtain ⟨_,h4⟩:=h3 tag (by simp [htag,hb,HB.tag])
  obtain ⟨c,k,g,h5,h6⟩:=h4 rfl
  exact ⟨c,k,g,h6,h5⟩
theorem Aa.GY {s:TypeId} {x:Operand} {f k:Nat} {cs:List FV} (hx:Bh E.Γ L x=some (.p (.EL cs))) (hk:RS E.P s f=some k) (q:Q (.p (.EL (cs.drop k))) H nx):Aa E w ⟨dst,.fieldAddr s x f,ty,pos,af,gd⟩ L H nx Q :=
 Aa.quiet q fun m F σ tt h1 h2=>by
  obtain ⟨a,h3,h4⟩:=Xi h1 h2 hx
  exact ⟨_,fun _=>Qo (dst:=dst) (ty:=ty) (pos:=pos) (af:=af) (gd:=gd) hk h3,.p (h4.uQ k)⟩
theorem Aa.Aw {s:TypeId} {x:Operand} {f k b off:Nat} {e:TypeId} {cs:List PV} (hx:Bh E.Γ L x=some (.ref b off)) (hb:hget H b=some (.box e cs)) (hk:RS E.P s f=some k) (q:Q (.ref b (off+k)) H nx):Aa E w ⟨dst,.fieldAddr s x f,ty,pos,af,gd⟩ L H nx Q :=
 Aa.quiet q fun m F σ tt h1 h2=>by
  obtain ⟨c,h3,h4⟩:=WG h1 h2 hx hb
  exact ⟨_,fun _=>Qo (dst:=dst) (ty:=ty) (pos:=pos) (af:=af) (gd:=gd) hk h3,.ref (h1.hp b _ hb).1 rfl fun _=>⟨c,h4,rfl⟩⟩
theorem Aa.load {t:TypeId} {a:Operand} {x r:PV} (ha:Bh E.Γ L a=some x) (h:lI E.P t H x=some r) (q:Q r H nx):Aa E w ⟨dst,.load t a,ty,pos,af,gd⟩ L H nx Q :=
 Aa.quiet q fun m F σ tt h1 h2=>by
  obtain ⟨p,u,h3,h4,h5⟩:=ZB h1 (BK h1 h2 ha) h
  exact ⟨u,fun _=>by simp only [Ce,EX,h3,h4,Option.map_some],h5⟩
theorem Aa.b3d {t:TypeId} {a:Operand} {b tag off:Nat} {e:TypeId} {cs:List FV} {z:Bool} {r:FV} (ha:Bh E.Γ L a=some (.Fq b tag off)) (hb:hget H b=some (.vec e cs tag z)) (h:Z4 E.P t (cs.drop off)=some r) (q:Q (.p r) H nx) :
 Aa E w ⟨dst,.load t a,ty,pos,af,gd⟩ L H nx Q:=by
 refine Aa.load ha ?_ q
 simp only [lI,hb]
 split
 ·simp only [h,Option.map_some]
 ·rename_i hn _;exact absurd rfl hn
def elemSize (P:Program) (t:TypeId):Option Nat :=
 match P.underlying t with
 |some (.slice e)=>(P.info? e).map (·.size)
 |_=>none
theorem Ll {P:Program} {t:TypeId} {sz:Nat} (h:elemSize P t=some sz):∃ e i,P.underlying t=some (.slice e)∧P.info? e=some i∧i.size=sz:=by
 unfold elemSize at h
 split at h
 ·rename_i e hu
  simp only [Option.map_eq_some_iff] at h
  obtain ⟨i,h1,h2⟩:=h
  exact ⟨e,i,hu,h1,h2⟩
 ·cases h
theorem Aa.a9m {t:TypeId} {x ix:Operand} {e:TypeId} {cs:List FV} {n sz:Nat} {k:IntKind} {i:Int} (hx:Bh E.Γ L x=some (.p (.lst e cs n))) (hi:Bh E.Γ L ix=some (.p (.int k i))) (hs:elemSize E.P t=some sz) (h0:0≤i) (h1:i<n)
 (q:Q (.p (.EL (cs.drop (i.toNat*sz)))) H nx):Aa E w ⟨dst,.indexAddr t x ix,ty,pos,af,gd⟩ L H nx Q :=
 Aa.quiet q fun m F σ tt c1 c2=>by
  obtain ⟨e',inf,h3,h4,h5⟩:=Ll hs
  have hix:=Dc c1 c2 hi
  have:=BK c1 c2 hx
  generalize hv:ev tt x=v at this
  cases this with
  |p hr =>
   cases hr with
   |nil=>exact absurd h1 (by simp only [Int.ofNat_zero] at *;omega)
   |room=>exact absurd h1 (by simp only [Int.ofNat_zero] at *;omega)
   |lst hF hm hw hr hc =>
    rename_i b o g vs ws ro
    refine ⟨.pointer (some ⟨b,o+i.toNat*sz,some g⟩),fun _=>by simp only [Ce,EX,h3,hv,hix,h4,h0,h1,and_self,if_true,h5],.p ?_⟩
    refine .EL hF hm rfl ?_ (Dv.drop _ hr) (J8 hc _)
    have:=MR (k:=i.toNat*sz) hw
    rw [List.length_drop,← List.drop_drop]
    exact this
theorem JK {Γ:Nat→Option (List Value×TypeId)} {m:Mem} {F:Nat→Prop} {σ:Nat→Value} {t:Tr Value} {b tag off len:Nat} {o:Operand} {e:TypeId} {cs:List FV} {z:Bool} (hx:Ctx Γ m F σ H nx) (hl:RL m F (htag H) σ nx L t) (h:Bh Γ L o=some (.vec b tag off len)) (hb:hget H b=some (.vec e cs tag z)) :
 EW (σ b) off len (ev t o):=by
 have:=BK hx hl h
 generalize ev t o=v at this
 cases this with
 |vec h1 h2 h3=>exact (h3 tag (by simp [htag,hb,HB.tag])).2 rfl
theorem Aa.a1c {t:TypeId} {x ix:Operand} {e:TypeId} {cs:List FV} {b tag off len sz:Nat} {z:Bool} {k:IntKind} {i:Int} (hx:Bh E.Γ L x=some (.vec b tag off len)) (hb:hget H b=some (.vec e cs tag z)) (hi:Bh E.Γ L ix=some (.p (.int k i)))
 (hs:elemSize E.P t=some sz) (h0:0≤i) (h1:i<len) (q:Q (.Fq b tag (off+i.toNat*sz)) H nx):Aa E w ⟨dst,.indexAddr t x ix,ty,pos,af,gd⟩ L H nx Q :=
 Aa.quiet q fun m F σ tt c1 c2=>by
  obtain ⟨e',inf,h3,h4,h5⟩:=Ll hs
  have hix:=Dc c1 c2 hi
  have hsub:=JK c1 c2 hx hb
  obtain ⟨hlt,hr⟩:=c1.hp b _ hb
  rcases hr with ⟨r1,r2,r3⟩|⟨c,g,vs,r1,r2,r3,r4,r5,r6,r7⟩
  ·rcases r3 with ⟨r3,_⟩|⟨b',o',g',r3,_⟩<;>rw [r3] at hsub<;>simp only [EW,Dh] at hsub<;>omega
  ·rw [r1] at hsub
   simp only [EW] at hsub
   refine ⟨.pointer (some ⟨c,off+i.toNat*sz,some g⟩),fun _=>by simp only [Ce,EX,h3,hsub,hix,h4,h0,h1,and_self,if_true,h5],.Fq hlt rfl fun n hn=>?_⟩
   simp only [htag,hb,HB.tag,Option.map_some,Option.some.injEq,Tg.vec.injEq] at hn
   exact ⟨by omega,fun _=>⟨c,tag,g,r1,rfl⟩⟩
theorem Aa.CX {x:Operand} {t e e':TypeId} {cs:List FV} {n:Nat} (hx:Bh E.Γ L x=some (.p (.lst e cs n))) (ht:E.P.underlying t=some (.slice e')) (q:Q (.p (.int .i64 n)) H nx) :
 Aa E w ⟨dst,.call { callee:=.builtin .len,args:=#[x],argTypes:=#[t] },ty,pos,af,gd⟩ L H nx Q :=
 Aa.quiet q fun m F σ tt c1 c2=>by
  have:=BK c1 c2 hx
  generalize hv:ev tt x=v at this
  refine ⟨.int .i64 n,fun _=>?_,.p (.int _ _)⟩
  have hg:v=.slice none 0 0∧n=0∨∃ a g,v=.slice a n g:=by
   cases this with
   |p hr =>
    cases hr with
    |nil=>exact .inl ⟨rfl,rfl⟩
    |room=>exact .inr ⟨_,_,rfl⟩
    |lst=>exact .inr ⟨_,_,rfl⟩
  rcases hg with ⟨rfl,rfl⟩|⟨a,g,rfl⟩<;>simp [Ce,EX,VX,ht,hv]
theorem Aa.lenV {x:Operand} {t e e':TypeId} {cs:List FV} {b tag off len:Nat} {z:Bool} (hx:Bh E.Γ L x=some (.vec b tag off len)) (hb:hget H b=some (.vec e cs tag z)) (ht:E.P.underlying t=some (.slice e')) (q:Q (.p (.int .i64 len)) H nx) :
 Aa E w ⟨dst,.call { callee:=.builtin .len,args:=#[x],argTypes:=#[t] },ty,pos,af,gd⟩ L H nx Q :=
 Aa.quiet q fun m F σ tt c1 c2=>by
  have hsub:=JK c1 c2 hx hb
  obtain ⟨hlt,hr⟩:=c1.hp b _ hb
  refine ⟨.int .i64 len,fun _=>?_,.p (.int _ _)⟩
  have hg:∃ a g,ev tt x=.slice a len g:=by
   rcases hr with ⟨r1,r2,r3⟩|⟨c,g,vs,r1,r2,r3,r4,r5,r6,r7⟩
   ·rcases r3 with ⟨r3,_⟩|⟨b',o',g',r3,_⟩<;>rw [r3] at hsub<;>simp only [EW,Dh] at hsub<;>obtain ⟨h1,h2,h3⟩:=hsub<;>subst h3<;>exact ⟨_,_,h1⟩
   ·rw [r1] at hsub
    exact ⟨_,_,hsub⟩
  obtain ⟨a,g,hg⟩:=hg
  simp [Ce,EX,VX,ht,hg]
theorem Aa.b6q {x:Operand} {t:TypeId} {s:ByteArray} (hx:Bh E.Γ L x=some (.p (.str s))) (ht:E.P.underlying t=some .string) (q:Q (.p (.int .i64 s.size)) H nx) :
 Aa E w ⟨dst,.call { callee:=.builtin .len,args:=#[x],argTypes:=#[t] },ty,pos,af,gd⟩ L H nx Q :=
 Aa.quiet q fun m F σ tt c1 c2=>⟨.int .i64 s.size,fun _=>by simp [Ce,EX,VX,ht,KL c1 c2 hx],.p (.int _ _)⟩
theorem bC {Γ:Nat→Option (List Value×TypeId)} {m:Mem} {F:Nat→Prop} {σ:Nat→Value} {e:TypeId} {cs:List PV} {vs:List Value} (h:Ctx Γ m F σ H nx) (hr:Dx m F (htag H) σ nx cs vs) (hc:vs.all BO=true) :
 Ctx Γ (m.alloc (.cells vs e 0 false)) F (upd σ nx (.pointer (some ⟨m.size,0,none⟩))) ((nx,.box e cs)::H) (nx+1) ∧
 Step m F σ H nx (m.alloc (.cells vs e 0 false)) F (upd σ nx (.pointer (some ⟨m.size,0,none⟩))) ((nx,.box e cs)::H) (nx+1)∧Quiet m (m.alloc (.cells vs e 0 false)):=by
 refine h.new (by simp [Mem.alloc]) (fun c hc=>by rw [Mem.Bv,if_neg (by omega)]) (by simp only [Mem.alloc];omega) (fun c hc=>by simp only [Dl,Option.some.injEq] at hc;omega) ?_
 refine ⟨m.size,vs,rfl,by simp [Mem.alloc],fun hf=>Nat.lt_irrefl _ (h.fr _ hf),by rw [Mem.Bv,if_pos rfl],?_,hc⟩
 exact hr.mono (fun c hf=>⟨hf,by rw [Mem.Bv,if_neg (by have:=h.fr c hf;omega)]⟩) (aH (Γ:=Γ) (m:=m) (F:=F) _ _) (Nat.le_succ _)
theorem Aa.box {e:TypeId} {x:Operand} {r:PV} (hx:Bh E.Γ L x=some r) (hn:Uz r) (q:Q (.ref nx 0) ((nx,.box e (La r))::H) (nx+1)):Aa E w ⟨dst,.box e x,ty,pos,af,gd⟩ L H nx Q:=by
 intro m F σ t h1 h2
 obtain ⟨h3,h4⟩:=MJ hn (BK h1 h2 hx)
 obtain ⟨c1,c2,c3⟩:=bC (e:=e) h1 h3 h4
 refine F5.op (v:=.pointer (some ⟨m.size,0,none⟩)) (fun _=>?_) ⟨_,_,_,F,_,q,c1,?_,c2,fun _=>c3⟩
 ·simp only [Ce,EX,h4,if_true]
 ·exact .ref (Nat.lt_succ_self _) rfl fun _=>⟨m.size,upd_same _ _ _,rfl⟩
theorem Dx.zero {m:Mem} {F:Nat→Prop} {T:Nat→Option Tg} {σ:Nat→Value} {n:Nat} {z:List Value} (h:z.all Am.plainCell=true):Dx m F T σ n (z.map fun v=>.p (GL v)) z:=by
 have:=Dx.jZ (T:=T) (σ:=σ) (n:=n) (Ho (m:=m) (F:=F) h)
 rw [List.map_map] at this
 exact this
theorem Aa.alloc {e:TypeId} {z:List Value} (hz:Cj E.P e=some z) (q:Q (.ref nx 0) ((nx,.box e (z.map fun v=>.p (GL v)))::H) (nx+1)):Aa E w ⟨dst,.alloc e,ty,pos,af,gd⟩ L H nx Q:=by
 intro m F σ t h1 h2
 obtain ⟨_,_,_,_,_,hp⟩:=BP hz
 obtain ⟨c1,c2,c3⟩:=bC (e:=e) h1 (Dx.zero hp) (Dj hp)
 refine F5.op (v:=.pointer (some ⟨m.size,0,none⟩)) (fun _=>?_) ⟨_,_,_,F,_,q,c1,?_,c2,fun _=>c3⟩
 ·simp only [Ce,EX,hz,Option.map_some]
 ·exact .ref (Nat.lt_succ_self _) rfl fun _=>⟨m.size,upd_same _ _ _,rfl⟩
theorem Aa.Bd {t:TypeId} {a x:Operand} {b off:Nat} {e:TypeId} {cs:List PV} {r:PV} {i:TypeInfo} (ha:Bh E.Γ L a=some (.ref b off)) (hx:Bh E.Γ L x=some r) (hb:hget H b=some (.box e cs)) (hn:Uz r)
 (hi:E.P.info? t=some i) (hl:(La r).length=i.size) (h0:0<i.size) (hle:off+i.size≤cs.length) (q:Q (.Ee []) (hput H b (.box e (Dk cs off (La r)))) nx):Aa E true ⟨dst,.store t a x,ty,pos,af,gd⟩ L H nx Q:=by
 intro m F σ tt h1 h2
 obtain ⟨c,h3,h4⟩:=WG h1 h2 ha hb
 obtain ⟨h5,h6⟩:=MJ hn (BK h1 h2 hx)
 obtain ⟨hlt,c',vs,r1,r2,r3,r4,r5,r6⟩:=h1.hp b _ hb
 rw [h4] at r1
 cases r1
 have hlen:=h5.length
 have hlen2:=r5.length
 have hst:Nu E.P t ⟨c,off,none⟩ (ev tt x) m=some (m.put c (.cells (splice vs off (ev tt x).cells.toList) e 0 false)):=by
  unfold Nu Gj
  rw [hi]
  simp only [r4]
  rw [if_pos (by simpa using hlen.symm.trans hl),if_pos]
  simp only [LZ,Option.getD_none,beq_self_eq_true,Bool.true_and,Bool.and_eq_true,decide_eq_true_eq]
  refine ⟨⟨?_,?_⟩,h6⟩
  ·rw [← hlen,hl,← hlen2];exact ⟨trivial,hle⟩
  ·rw [← hlen,hl];exact h0
 have hput':∀ d,c≠d→(m.put c (.cells (splice vs off (ev tt x).cells.toList) e 0 false)).get d=m.get d:=fun d hd=>by rw [Mem.get_put,if_neg hd]
 obtain ⟨c1,c2⟩:=h1.change (m':=m.put c (.cells (splice vs off (ev tt x).cells.toList) e 0 false)) (x':=.box e (Dk cs off (La r))) (s':=σ b) hb trivial (fun _=>rfl) (Nat.le_refl _)
  (fun d _ hd=>hput' d fun e=>hd (by rw [h4,e];rfl)) (fun k k1 k2 k3=>by
   have:=k3 c (by rw [h4];rfl)
   simp only [Mem.put];omega) (fun d hd=>.inl hd) (by
   refine ⟨c,splice vs off (ev tt x).cells.toList,h4,r2,r3,by rw [Mem.get_put,if_pos rfl],?_,Kr _ r6 h6⟩
   refine (Dx.splice off r5 h5).mono (fun d hd=>⟨hd,hput' d fun e=>r3 (e▸hd)⟩) (Gt (x':=.box e (Dk cs off (La r))) hb trivial fun _=>rfl) (Nat.le_refl _))
 refine F5.op (v:=undef) (fun _=>?_) ⟨_,_,_,F,_,q,c1,.Ee .nil,c2,fun h=>by cases h⟩
 simp only [Ce,EX,h3,hst,Option.map_some]
theorem Aa.a7q {t:TypeId} {a x:Operand} {b tag off:Nat} {e:TypeId} {cs fs:List FV} {z:Bool} {r:PV} {i:TypeInfo} (ha:Bh E.Γ L a=some (.Fq b tag off)) (hx:Bh E.Γ L x=some r) (hb:hget H b=some (.vec e cs tag z)) (hn:Uz r)
 (hf:La r=fs.map .p) (hi:E.P.info? t=some i) (hl:fs.length=i.size) (h0:0<i.size) (hle:off+i.size≤cs.length) (q:Q (.Ee []) (hput H b (.vec e (Dk cs off fs) tag z)) nx):Aa E true ⟨dst,.store t a x,ty,pos,af,gd⟩ L H nx Q:=by
 intro m F σ tt h1 h2
 obtain ⟨c,k,g,h3,h4⟩:=jX h1 h2 ha hb
 obtain ⟨h5,h6⟩:=MJ hn (BK h1 h2 hx)
 rw [hf] at h5
 obtain ⟨hlt,hr⟩:=h1.hp b _ hb
 rcases hr with ⟨r1,r2,r3⟩|⟨c',g',vs,r1,r2,r3,r4,r5,r6,r7⟩
 ·rcases r3 with ⟨r3,_⟩|⟨b',o',g',r3,_⟩<;>rw [r3] at h4<;>cases h4
 rw [h4] at r1
 cases r1
 have hlen:=h5.length
 rw [List.length_map] at hlen
 have hlen2:=r5.length
 have hst:Nu E.P t ⟨c,off,some g⟩ (ev tt x) m=some (m.put c (.cells (splice vs off (ev tt x).cells.toList) e g false)):=by
  unfold Nu Gj
  rw [hi]
  simp only [r4]
  rw [if_pos (by simpa using hlen.symm.trans hl),if_pos]
  simp only [LZ,Option.getD_some,beq_self_eq_true,Bool.true_and,Bool.and_eq_true,decide_eq_true_eq]
  refine ⟨⟨?_,?_⟩,h6⟩
  ·rw [← hlen,hl,← hlen2];exact ⟨trivial,hle⟩
  ·rw [← hlen,hl];exact h0
 have hput':∀ d,c≠d→(m.put c (.cells (splice vs off (ev tt x).cells.toList) e g false)).get d=m.get d:=fun d hd=>by rw [Mem.get_put,if_neg hd]
 obtain ⟨c1,c2⟩:=h1.change (m':=m.put c (.cells (splice vs off (ev tt x).cells.toList) e g false)) (x':=.vec e (Dk cs off fs) tag z) (s':=σ b) hb (Nat.le_refl _) (fun _=>rfl) (Nat.le_refl _)
  (fun d _ hd=>hput' d fun e=>hd (by rw [h4,e];rfl)) (fun k k1 k2 k3=>by
   have:=k3 c (by rw [h4];rfl)
   simp only [Mem.put];omega) (fun d hd=>.inl hd) (by
   refine .inr ⟨c,g,splice vs off (ev tt x).cells.toList,h4,r2,r3,by rw [Mem.get_put,if_pos rfl],?_,Kr _ r6 h6,r7⟩
   exact (Dv.splice off r5 (Dv.YI h5)).mono (fun d hd=>⟨hd,hput' d fun e=>r3 (e▸hd)⟩))
 refine F5.op (v:=undef) (fun _=>?_) ⟨_,_,_,F,_,q,c1,.Ee .nil,c2,fun h=>by cases h⟩
 simp only [Ce,EX,h3,hst,Option.map_some]
end
end Go.Vm
