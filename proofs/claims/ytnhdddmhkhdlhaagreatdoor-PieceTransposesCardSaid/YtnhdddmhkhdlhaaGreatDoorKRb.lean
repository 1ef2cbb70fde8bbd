/-
  Texts of a proof, merged (AmC, AmD, VmA). Conditions: in each statement.
-/
import Derived.OrdersIn
import Derived.RangeFuncLeaves
import GoSem.ClaimChange
import Derived.ProofKit
import Derived.Below
import Derived.WideShapes
import Derived.ChangeMaps5
import GoSem.ClaimJoined
import Derived.Test.YtnhdddmhkhdlhaaGreatDoorKRa
set_option linter.unusedSimpArgs false
set_option linter.unusedVariables false
set_option linter.unusedSectionVars false
set_option maxRecDepth 100000
set_option maxHeartbeats 8000000
namespace Go.Am
variable {P:Program} {G:List Nat} {ds:List Deferred} {rf:Option Nat} {nn:Nat}
structure MemStep (m m':Mem):Prop where
 size:m.size≤m'.size
 low:m'.low≤m.low
 keep:∀ b,b<m.size→b<m'.low→m'.get b=m.get b
 ro:∀ b,b<m.size→m.ro b=true→m'.get b=m.get b
 ro':∀ b,b<m.size→m'.ro b=m.ro b
theorem MemStep.refl (m:Mem):MemStep m m:=⟨Nat.le_refl _,Nat.le_refl _,fun _ _ _=>rfl,fun _ _ _=>rfl,fun _ _=>rfl⟩
theorem MemStep.trans {m m' m'':Mem} (h:MemStep m m') (k:MemStep m' m''):MemStep m m'':=by
 refine ⟨Nat.le_trans h.size k.size,Nat.le_trans k.low h.low,fun b hb hl=>?_,fun b hb hr=>?_,fun b hb=>?_⟩
 ·rw [k.keep b (Nat.lt_of_lt_of_le hb h.size) hl,h.keep b hb (Nat.lt_of_lt_of_le hl k.low)]
 ·rw [k.ro b (Nat.lt_of_lt_of_le hb h.size) (by rw [h.ro' b hb];exact hr),h.ro b hb hr]
 ·rw [k.ro' b (Nat.lt_of_lt_of_le hb h.size),h.ro' b hb]
theorem MemStep.alloc (m:Mem) (x:ABlk):MemStep m (m.alloc x):=by
 have hget:∀ b,b<m.size→(m.alloc x).get b=m.get b:=fun b hb=>by rw [Mem.get_alloc,if_neg (by omega)]
 exact ⟨Nat.le_succ _,Nat.le_refl _,fun b hb _=>hget b hb,fun b hb _=>hget b hb,fun b hb=>ro_of_get (hget b hb)⟩
theorem MemStep.put {m:Mem} {b:Nat} {x:ABlk} (h:m.ro b=false) (hx:x.ro=false):MemStep m (m.put b x):=by
 have hget:∀ c,c≠b→(m.put b x).get c=m.get c:=fun c hc=>by rw [Mem.get_put,if_neg (fun e=>hc e.symm)]
 refine ⟨Nat.le_refl _,Nat.min_le_left _ _,fun c hc hl=>hget c fun e=>?_,fun c hc hr=>hget c fun e=>?_,fun c hc=>?_⟩
 ·subst e;have:(m.put c x).low≤c:=Nat.min_le_right _ _;omega
 ·subst e;rw [h] at hr;cases hr
 ·by_cases e:c=b
  ·subst e;rw [h];unfold Mem.ro;rw [Mem.get_put,if_pos rfl];exact hx
  ·exact ro_of_get (hget c e)
theorem storeRow_step {m m':Mem} {a:Addr} {l:List Value} (h:storeRow m a l=some m'):MemStep m m':=by
 unfold storeRow at h
 split at h
 ·rename_i vs e g hg
  split at h
  ·cases h;exact MemStep.put (Mem.ro_eq hg) rfl
  ·cases h
 ·cases h
theorem appendCells_step {m m':Mem} {e:TypeId} {size n:Nat} {l:List Value} {s v:Value} (h:appendCells m e size l n s=some (v,m')):MemStep m m':=by
 unfold appendCells at h
 split at h
 ·split at h
  ·cases h;exact MemStep.refl _
  ·cases h;exact MemStep.alloc _ _
 ·split at h
  ·cases h;exact MemStep.refl _
  ·cases h;exact MemStep.alloc _ _
 ·split at h
  ·rename_i vs e' g' hg
   split at h
   ·split at h
    ·cases h;exact MemStep.put (Mem.ro_eq hg) rfl
    ·cases h
   ·cases h
  ·cases h
 ·cases h
theorem aappend_step {aT:Array TypeId} {asW:Array Value} {m m':Mem} {v:Value} (h:aappend P aT asW m=some (v,m')):MemStep m m':=by
 unfold aappend at h
 repeat' split at h
 all_goals first
  |exact appendCells_step h
  |cases h
theorem acopy_step {aT:Array TypeId} {asW:Array Value} {m m':Mem} {v:Value} (h:acopy P aT asW m=some (v,m')):MemStep m m':=by
 unfold acopy at h
 simp only at h
 repeat' split at h
 all_goals first
  |(cases h;exact MemStep.refl _)
  |(rw [Option.map_eq_some_iff] at h;obtain ⟨m1,h1,h2⟩:=h;cases h2;exact storeRow_step h1)
  |cases h
theorem aclear_step {aT:Array TypeId} {asW:Array Value} {m m':Mem} {v:Value} (h:aclear P aT asW m=some (v,m')):MemStep m m':=by
 unfold aclear at h
 repeat' split at h
 all_goals first
  |(cases h;exact MemStep.refl _)
  |(rw [Option.map_eq_some_iff] at h;obtain ⟨m1,h1,h2⟩:=h;cases h2;exact storeRow_step h1)
  |cases h
theorem aupdate_step {t:TypeId} {x k v:Value} {m m':Mem} (h:aupdate P t x k v m=some m'):MemStep m m':=by
 unfold aupdate at h
 split at h
 ·split at h
  ·rename_i es clock hg
   repeat' split at h
   all_goals first
    |(cases h;exact MemStep.put (by unfold Mem.ro;rw [hg];rfl) rfl)
    |cases h
  ·cases h
 ·cases h
theorem aentry_step {t:TypeId} {x k v:Value} {m m':Mem} (h:aentry P t x k m=some (v,m')):MemStep m m':=by
 unfold aentry at h
 split at h
 ·split at h
  ·rename_i es clock hg
   repeat' split at h
   all_goals first
    |(cases h;exact MemStep.put (by unfold Mem.ro;rw [hg];rfl) rfl)
    |cases h
  ·cases h
 ·cases h
theorem aentryStore_step {x s v:Value} {m m':Mem} (h:aentryStore x s v m=some m'):MemStep m m':=by
 unfold aentryStore at h
 split at h
 ·split at h
  ·rename_i es clock hg
   repeat' split at h
   all_goals first
    |(cases h;exact MemStep.put (by unfold Mem.ro;rw [hg];rfl) rfl)
    |cases h
  ·cases h
 ·cases h
theorem aconv_step {s d:TypeId} {x v:Value} {m m':Mem} (h:aconv P s d x m=some (v,m')):MemStep m m':=by
 unfold aconv at h
 repeat' split at h
 all_goals first
  |(cases h;exact MemStep.alloc _ _)
  |(cases h;exact MemStep.refl _)
  |cases h
theorem aop_step {ρ:Operand→Value} {o:Oper} {m m':Mem} {v:Value} (h:aop P ρ o m=some (v,m')):MemStep m m':=by
 unfold aop at h
 split at h
 all_goals (repeat' split at h)
 all_goals first
  |(cases h;exact MemStep.refl _)
  |(cases h;exact MemStep.alloc _ _)
  |exact aappend_step h
  |exact acopy_step h
  |exact aclear_step h
  |exact aconv_step h
  |exact aentry_step h
  |(rw [Option.map_eq_some_iff] at h;obtain ⟨u,h1,h2⟩:=h;cases h2;first
   |exact MemStep.refl _
   |exact MemStep.alloc _ _
   |exact aupdate_step h1
   |exact aentryStore_step h1
   |(unfold astore at h1;(repeat' split at h1)<;>first|exact storeRow_step h1|cases h1))
  |cases h
theorem alen_indep {aT:Array TypeId} {asW:Array Value} (hq:lenQuiet P aT=true) (m m2:Mem):alen P aT asW m=alen P aT asW m2:=by
 unfold lenQuiet at hq
 unfold alen
 cases h1:aT[0]? with
 |none=>simp [h1] at hq
 |some t =>
  rw [h1] at hq
  simp only at hq ⊢
  cases h2:asW[0]? with
  |none=>rfl
  |some x =>
   simp only
   cases h3:P.underlying t with
   |none=>simp [h3] at hq
   |some d =>
    rw [h3] at hq
    cases d<;>first|(cases hq;done)|(cases x<;>rfl)
theorem quiet_indep {ρ:Operand→Value} {o:Oper} {m m':Mem} {v:Value} (hq:quietKind P o.op=true) (h:aop P ρ o m=some (v,m')) (m2:Mem):m'=m∧aop P ρ o m2=some (v,m2):=by
 obtain ⟨dst,op,ty,pos,after,guard⟩:=o
 have mapc:∀ {x:Option Value},x.map (fun v=>(v,m))=some (v,m')→m'=m∧x.map (fun v=>(v,m2))=some (v,m2):=fun {x} h=>by
  rw [Option.map_eq_some_iff] at h
  obtain ⟨u,rfl,h2⟩:=h
  cases h2
  exact ⟨rfl,rfl⟩
 have mapc':∀ {x:Option Value},x.map (fun v=>(v,m))=some (v,m')→m'=m∧x.map (fun v=>(v,m2))=some (v,m2):=mapc
 simp only at hq
 cases op<;>simp only [quietKind,Bool.false_eq_true] at hq<;>simp only [aop] at h ⊢
 case move=>cases h;exact ⟨rfl,rfl⟩
 case assign=>cases h;exact ⟨rfl,rfl⟩
 case makeFunc fn fs cs =>
  cases fn<;>simp only [reduceCtorEq] at h ⊢
  cases h;exact ⟨rfl,rfl⟩
 case pick c a b =>
  split at h
  ·cases h;exact ⟨rfl,rfl⟩
  ·cases h
 case convert s d x =>
  have hq':(isSlT P s||isSlT P d)=false:=by simpa using hq
  rw [hq'] at h ⊢
  simp only [Bool.false_eq_true,if_false] at h ⊢
  split at h<;>rename_i hp<;>first|(rw [if_pos hp];exact mapc h)|cases h
 case buildSlice t len ps =>
  have hl:len=0:=by simpa using hq
  subst hl
  simp only [if_true] at h ⊢
  repeat' split at h
  all_goals first|(cases h;refine ⟨rfl,?_⟩;simp_all;done)|cases h
 case call c =>
  obtain ⟨callee,args,aT⟩:=c
  cases callee<;>simp only [reduceCtorEq,Bool.false_eq_true] at hq h ⊢
  rename_i b
  cases b<;>simp only [reduceCtorEq,Bool.false_eq_true] at hq h ⊢
  case cap=>exact mapc h
  case len=>rw [alen_indep hq m m2] at h;exact mapc' h
  case max=>split at h<;>rename_i hp<;>first|(rw [if_pos hp];exact mapc h)|cases h
  case min=>split at h<;>rename_i hp<;>first|(rw [if_pos hp];exact mapc h)|cases h
 all_goals first
  |exact mapc h
  |(split at h<;>rename_i hp<;>first|(rw [if_pos hp];exact mapc h)|(cases h;done))
  |(repeat' split at h
    all_goals first
     |(cases h;refine ⟨rfl,?_⟩;simp_all;done)
     |(cases h;exact ⟨rfl,rfl⟩)
     |exact mapc h
     |cases h)
end Go.Am
namespace Go.Am
variable {P:Program} {G:List Nat} {ds:List Deferred} {rf:Option Nat} {nn:Nat}
def CallStep (call:CallF):Prop:=∀ f asW m v m',call f asW m=some (v,m')→MemStep m m'
theorem aval_step {call:CallF} (hc:CallStep call) {ρ:Operand→Value} {o:Oper} {m m':Mem} {v:Value} (h:aval P call ρ o m=some (v,m')):MemStep m m':=by
 unfold aval at h
 split at h
 ·split at h
  ·exact hc _ _ _ _ _ h
  ·cases h
 ·exact aop_step h
def cut (ι:Inj) (n:Nat):Inj:=fun b=>if b<n then ι b else none
theorem cut_lt {ι:Inj} {n b:Nat} (h:b<n):cut ι n b=ι b:=if_pos h
theorem cut_some {ι:Inj} {n b:Nat} {ib:IB} (h:cut ι n b=some ib):b<n∧ι b=some ib:=by
 unfold cut at h
 split at h
 ·exact ⟨by assumption,h⟩
 ·cases h
def setLow (m:Mem) (x:Nat):Mem:={ m with low:=x }
theorem Sim.low {ι:Inj} {m:Mem} {w:World} (hs:Sim P G ι m w) (x:Nat):Sim P G ι (setLow m x) w:=⟨hs.dom,hs.blk,hs.inj,hs.glob⟩
theorem Sim.extend {ι:Inj} {m m2:Mem} {w:World} (hs:Sim P G ι m w) (hsz:m.size≤m2.size) (hget:∀ b,b<m.size→m2.get b=m.get b):Sim P G ι m2 w:=by
 have hle:Le ι m.gen ι m2.gen:=fun b ib hb=>⟨by rw [gen_of_get (hget b (hs.dom b ib hb).1)];exact Nat.le_refl _,ib,hb,fun _=>rfl⟩
 refine ⟨fun b ib hb=>⟨Nat.lt_of_lt_of_le (hs.dom b ib hb).1 hsz,(hs.dom b ib hb).2⟩,fun b ib hb=>?_,fun b b' ib ib' hb hb' he=>?_,fun k hk=>?_⟩
 ·rw [hget b (hs.dom b ib hb).1];exact (hs.blk b ib hb).mono hle
 ·rcases hs.inj b b' ib ib' hb hb' he with h|⟨h1,h2⟩
  ·exact .inl h
  ·exact .inr ⟨by rw [ro_of_get (hget b (hs.dom b ib hb).1)];exact h1,by rw [ro_of_get (hget b' (hs.dom b' ib' hb').1)];exact h2⟩
 ·obtain ⟨ib,h1,h2,h3,h4,h5⟩:=hs.glob k hk
  have hlt:=(hs.dom k ib h1).1
  exact ⟨ib,h1,h2,⟨h3.1,by rw [hget k hlt];exact h3.2⟩,by rw [gen_of_get (hget k hlt)];exact h4,by rw [ro_of_get (hget k hlt)];exact h5⟩
theorem Sim.world {ι:Inj} {m:Mem} {w w':World} (hs:Sim P G ι m w) (hsz:w.heap.size≤w'.heap.size) (hh:∀ c,c<w.heap.size→w'.heap[c]?=w.heap[c]?):Sim P G ι m w' :=
 ⟨fun b ib hb=>⟨(hs.dom b ib hb).1,Nat.lt_of_lt_of_le (hs.dom b ib hb).2 hsz⟩,fun b ib hb=>by rw [hh _ (hs.dom b ib hb).2];exact hs.blk b ib hb,hs.inj,hs.glob⟩
theorem Sim.congr {ι ι':Inj} {m:Mem} {w:World} (hs:Sim P G ι m w) (h:∀ b,ι' b=ι b):Sim P G ι' m w:=by
 have:ι'=ι:=funext h
 rw [this];exact hs
theorem before_spec (ops:Array Oper):∀ (l:List Oper) (acc:Array Nat),(∀ (j:Nat) o,l[j]?=some o→∀ k,((l.foldl (fun acc o=>acc.push (o.after.foldl (fun s e=>if Region.binds .any e then s ||| 2 ^ e.on ||| acc.getD e.on 0 else s) 0)) acc).getD (acc.size+j) 0).testBit k=true →
 ∃ e∈o.after,Region.binds .any e=true∧(e.on=k∨((l.foldl (fun acc o=>acc.push (o.after.foldl (fun s e=>if Region.binds .any e then s ||| 2 ^ e.on ||| acc.getD e.on 0 else s) 0)) acc).getD e.on 0).testBit k=true)) ∧
 (∀ j,j<acc.size→(l.foldl (fun acc o=>acc.push (o.after.foldl (fun s e=>if Region.binds .any e then s ||| 2 ^ e.on ||| acc.getD e.on 0 else s) 0)) acc).getD j 0=acc.getD j 0)
 |[],acc=>⟨fun j o h=>by simp at h,fun j _=>rfl⟩
 |o::l,acc=>by
  generalize hf:(fun (acc:Array Nat) (o:Oper)=>acc.push (o.after.foldl (fun s e=>if Region.binds .any e then s ||| 2 ^ e.on ||| acc.getD e.on 0 else s) 0))=F
  have ih:=before_spec ops l (F acc o)
  rw [hf] at ih
  have hsz:(F acc o).size=acc.size+1:=by rw [← hf];simp
  simp only [List.foldl_cons]
  have hkeep:∀ j,j<acc.size→(List.foldl F (F acc o) l).getD j 0=acc.getD j 0:=fun j hj=>by
   rw [ih.2 j (by omega),← hf]
   simp [Array.getElem?_push,Nat.ne_of_lt hj]
  refine ⟨fun j o' hj k hk=>?_,hkeep⟩
  cases j with
  |zero =>
   simp only [List.getElem?_cons_zero,Option.some.injEq] at hj
   subst hj
   have h1:(List.foldl F (F acc o) l).getD (acc.size+0) 0=o.after.foldl (fun s e=>if Region.binds .any e then s ||| 2 ^ e.on ||| acc.getD e.on 0 else s) 0:=by
    rw [ih.2 _ (by omega),← hf]
    simp
   rw [h1] at hk
   have key:∀ (es:List Edge) (s:Nat),(es.foldl (fun s e=>if Region.binds .any e then s ||| 2 ^ e.on ||| acc.getD e.on 0 else s) s).testBit k=true →
    s.testBit k=true∨∃ e∈es,Region.binds .any e=true∧(e.on=k∨(acc.getD e.on 0).testBit k=true):=fun es=>by
    induction es with
    |nil=>intro s h;exact .inl h
    |cons e es ihe =>
     intro s h
     rw [List.foldl_cons] at h
     rcases ihe _ h with h|⟨e',h1,h2⟩
     ·split at h
      ·rename_i hb
       simp only [Nat.testBit_or,Bool.or_eq_true] at h
       rcases h with (h|h)|h
       ·exact .inl h
       ·refine .inr ⟨e,by simp,hb,.inl ?_⟩
        rw [Nat.testBit_two_pow] at h
        simpa using h
       ·exact .inr ⟨e,by simp,hb,.inr h⟩
      ·exact .inl h
     ·exact .inr ⟨e',by simp [h1],h2⟩
   rw [← Array.foldl_toList] at hk
   rcases key _ _ hk with h|⟨e,h1,h2,h3⟩
   ·simp at h
   ·refine ⟨e,by simpa using h1,h2,?_⟩
    rcases h3 with h3|h3
    ·exact .inl h3
    ·refine .inr ?_
     by_cases he:e.on<acc.size
     ·rw [hkeep _ he];exact h3
     ·have:acc.getD e.on 0=0:=by simp [Array.getElem?_eq_none (by omega:acc.size≤e.on)]
      rw [this] at h3;simp at h3
  |succ j =>
   have:=ih.1 j o' (by simpa using hj) k
   rw [hsz] at this
   have e1:acc.size+1+j=acc.size+(j+1):=by omega
   rw [e1] at this
   exact this hk
theorem before_bit {ops:Array Oper} {i k:Nat} {o:Oper} (ho:ops[i]?=some o) (h:((Region.before ops).getD i 0).testBit k=true) :
 ∃ e∈o.after,Region.binds .any e=true∧(e.on=k∨((Region.before ops).getD e.on 0).testBit k=true):=by
 have:=(before_spec ops ops.toList #[]).1 i o (by simpa using ho) k
 simp only [Array.size_empty,Nat.zero_add] at this
 unfold Region.before at h ⊢
 rw [← Array.foldl_toList] at h ⊢
 exact this h
def Closed (ops:Array Oper) (listed:Array Bool):Prop :=
 ∀ (i:Nat) (o:Oper),ops[i]?=some o→listed.getD i false=true→∀ e∈o.after,Region.binds .any e=true→listed.getD e.on false=true
theorem closed_before {ops:Array Oper} {listed:Array Bool} (hcl:Closed ops listed) (hback:∀ (i:Nat) (o:Oper),ops[i]?=some o→∀ e∈o.after,Region.binds .any e=true→e.on<i):∀ (i:Nat) (o:Oper) (k:Nat),ops[i]?=some o →
 (∀ e∈o.after,Region.binds .any e=true→listed.getD e.on false=true)→((Region.before ops).getD i 0).testBit k=true→listed.getD k false=true:=by
 intro i
 induction i using Nat.strongRecOn with
 |_ i ih =>
  intro o k ho hall hbit
  obtain ⟨e,he,hb,h⟩:=before_bit ho hbit
  rcases h with rfl|h
  ·exact hall e he hb
  ·have hlt:=hback i o ho e he hb
   cases hoe:ops[e.on]? with
   |none =>
    have:ops.size≤e.on:=by
     rcases Nat.lt_or_ge e.on ops.size with h|h
     ·rw [Array.getElem?_eq_getElem h] at hoe;cases hoe
     ·exact h
    have hi:i<ops.size:=(Array.getElem?_eq_some_iff.1 ho).1
    omega
   |some oe=>exact ih e.on hlt oe k hoe (hcl e.on oe hoe (hall e he hb)) h
theorem dsteps_trace {call:CallF} {ops:Array Oper}:∀ (l:List Oper) (k:Nat) (s s':St),dsteps P call ops k l s=some s' →
 ∃ S:Nat→St,S k=s∧S (k+l.length)=s'∧∀ (i:Nat) (o:Oper),l[i]?=some o→dstep P call ops (k+i) o (S (k+i))=some (S (k+i+1))
 |[],k,s,s',h=>by
  cases h
  exact ⟨fun _=>s,rfl,rfl,fun i o h=>by simp at h⟩
 |o::l,k,s,s',h=>by
  simp only [dsteps] at h
  cases h1:dstep P call ops k o s with
  |none=>rw [h1] at h;cases h
  |some s1 =>
   rw [h1] at h
   obtain ⟨S,e1,e2,e3⟩:=dsteps_trace l (k+1) s1 s' h
   refine ⟨fun j=>if j≤k then s else S j,by simp,?_,fun i o' hi=>?_⟩
   ·have:¬ (k+(o::l).length≤k):=by simp
    simp only [this,if_false]
    rw [← e2];congr 1;simp;omega
   ·cases i with
    |zero =>
     simp only [List.getElem?_cons_zero,Option.some.injEq] at hi
     subst hi
     have:¬ (k+0+1≤k):=by omega
     simp only [Nat.add_zero,Nat.le_refl,if_true]
     rw [if_neg (by omega),e1];exact h1
    |succ i =>
     have h2:=e3 i o' (by simpa using hi)
     have q1:¬ (k+(i+1)≤k):=by omega
     have q2:¬ (k+(i+1)+1≤k):=by omega
     simp only [q1,q2,if_false]
     have q3:k+(i+1)=k+1+i:=by omega
     rw [q3];exact h2
theorem dstep_cases {call:CallF} {ops:Array Oper} {i:Nat} {o:Oper} {s s2:St} (h:dstep P call ops i o s=some s2) :
 (Region.wanted o (ayielded ops s.t)=false∧s2.t=tput s.t o.dst undef∧∃ x,s2.m=setLow s.m x∧x≤s.m.low∧x≤s.m.size) ∨
 (Region.wanted o (ayielded ops s.t)=true∧∃ v m',aval P call (ev s.t) o (setLow s.m s.m.size)=some (v,m')∧s2.t=tput s.t o.dst v∧s2.m=setLow m' (min s.m.low m'.low) ∧
  (barrier P ops i=true∨s.m.size≤m'.low∨(wbar P ops i=true∧freeAt ops i s.t=true)∨(wbarC P ops i=true∧leaveAt ops i s.t s.m m'=true))):=by
 unfold dstep astep at h
 split at h
 ·rename_i s' h1
  split at h
  ·rename_i hc
   cases h
   split at h1
   ·rename_i hw
    refine .inr ⟨hw,?_⟩
    unfold aact at h1
    split at h1
    ·rename_i v m' hv
     cases h1
     refine ⟨v,m',hv,rfl,rfl,?_⟩
     simp only [Bool.or_eq_true,Bool.and_eq_true,decide_eq_true_eq,or_assoc] at hc
     exact hc
    ·cases h1
   ·rename_i hw
    cases h1
    exact .inl ⟨by simpa using hw,rfl,_,rfl,Nat.min_le_left _ _,Nat.min_le_right _ _⟩
  ·cases h
 ·cases h
theorem drawOk_spec {ops:Array Oper} (h:drawOk ops=true):(∀ (i:Nat) (o:Oper),ops[i]?=some o→∀ e∈o.after,Region.binds .any e=true→e.on<i) ∧
 (∀ (i:Nat) (oi:Oper) (d:Nat),ops[i]?=some oi→oi.dst=some d→∀ (j:Nat) (oj:Oper),ops[j]?=some oj→j≠i →
  oj.dst≠some d∧(d∈oj.looksAt ops→(i<j→((Region.before ops).getD j 0).testBit i=true)∧(j<i→((Region.before ops).getD i 0).testBit j=true))):=by
 unfold drawOk at h
 simp only [List.all_eq_true,List.mem_range] at h
 have lt:∀ {i:Nat} {o:Oper},ops[i]?=some o→i<ops.size:=fun hi=>(Array.getElem?_eq_some_iff.1 hi).1
 refine ⟨fun i o hi e he hb=>?_,fun i oi d hi hd j oj hj hne=>?_⟩
 ·have:=h i (lt hi)
  rw [hi] at this
  simp only [Bool.and_eq_true] at this
  have h2:=Array.all_eq_true_iff_forall_mem.1 this.1.2 e he
  simpa [hb] using h2
 ·have:=h i (lt hi)
  rw [hi] at this
  simp only [Bool.and_eq_true,hd,List.all_eq_true,List.mem_range] at this
  have h2:=this.2 j (lt hj)
  rw [hj] at h2
  simp only [Bool.or_eq_true,beq_iff_eq,hne,false_or,Bool.and_eq_true,bne_iff_ne,ne_eq] at h2
  refine ⟨h2.1,fun hl=>?_⟩
  rcases h2.2 with h3|h3
  ·simp [hl] at h3
  ·refine ⟨fun hlt=>?_,fun hlt=>?_⟩
   ·rw [if_pos hlt] at h3;exact h3
   ·rw [if_neg (by omega)] at h3;exact h3
def isBar (P:Program) (ops:Array Oper) (i:Nat):Bool:=match ops[i]? with|some o=>!quietKind P o.op&&!isLoadOp o.op&&!newsOp o.op&&(barrier P ops i||wbar P ops i||wbarC P ops i)|none=>false
def touches (P:Program) (ops:Array Oper) (i:Nat):Bool:=match ops[i]? with|some o=>!quietKind P o.op&&!isLoadOp o.op|none=>false
def newsAt (ops:Array Oper) (i:Nat):Bool:=match ops[i]? with|some o=>newsOp o.op|none=>false
theorem isBar_news {ops:Array Oper} {i:Nat} (h:isBar P ops i=true):newsAt ops i=false:=by
 unfold isBar at h
 unfold newsAt
 cases ho:ops[i]? with
 |none=>rfl
 |some o =>
  rw [ho] at h
  simp only [Bool.and_eq_true,Bool.not_eq_true'] at h
  exact h.1.2
theorem isBar_spec {ops:Array Oper} {i:Nat} (h:isBar P ops i=true):touches P ops i=true∧∀ j,j≠i→touches P ops j=true →
 (j<i→newsAt ops j=true∨((Region.before ops).getD i 0).testBit j=true)∧(i<j→((Region.before ops).getD j 0).testBit i=true):=by
 unfold isBar at h
 cases ho:ops[i]? with
 |none=>rw [ho] at h;cases h
 |some o =>
  rw [ho] at h
  simp only [Bool.and_eq_true] at h
  refine ⟨by unfold touches;rw [ho];simp only [Bool.and_eq_true];exact h.1.1,fun j hne ht=>?_⟩
  unfold touches at ht
  cases hoj:ops[j]? with
  |none=>rw [hoj] at ht;cases ht
  |some oj =>
   rw [hoj] at ht
   simp only [Bool.and_eq_true,Bool.not_eq_true'] at ht
   have hlt:=(Array.getElem?_eq_some_iff.1 hoj).1
   rcases Bool.or_eq_true_iff.1 h.2 with h2'|h2
   rcases Bool.or_eq_true_iff.1 h2' with h2|h2
   ·unfold barrier at h2
    simp only [List.all_eq_true,List.mem_range] at h2
    have h3:=h2 j hlt
    simp only [hoj,Option.map_some,Option.getD_some,Bool.or_eq_true,beq_iff_eq,hne,false_or] at h3
    rw [ht.1] at h3
    simp only [Bool.false_eq_true,false_or] at h3
    refine ⟨fun hl=>.inr ?_,fun hl=>?_⟩
    ·rw [if_pos hl] at h3;exact h3
    ·rw [if_neg (by omega)] at h3;exact h3
   ·unfold wbar at h2
    simp only [Bool.and_eq_true,List.all_eq_true,List.mem_range] at h2
    have h3:=h2.2 j hlt
    simp only [hoj,Option.map_some,Option.getD_some,Bool.or_eq_true,beq_iff_eq,hne,false_or] at h3
    rw [ht.1,ht.2] at h3
    simp only [Bool.false_eq_true,false_or,ordered,Bool.and_eq_true,decide_eq_true_eq] at h3
    refine ⟨fun hl=>?_,fun hl=>?_⟩
    ·rw [if_pos hl] at h3
     rcases h3 with h3|h3
     ·exact .inl (by unfold newsAt;rw [hoj];exact h3.2)
     ·exact .inr h3
    ·rw [if_neg (by omega)] at h3
     rcases h3 with h3|h3
     ·omega
     ·exact h3
   ·unfold wbarC at h2
    simp only [List.all_eq_true,List.mem_range] at h2
    have h3:=h2 j hlt
    simp only [hoj,Option.map_some,Option.getD_some,Bool.or_eq_true,beq_iff_eq,hne,false_or] at h3
    rw [ht.1,ht.2] at h3
    simp only [Bool.false_eq_true,false_or,ordered] at h3
    refine ⟨fun hl=>.inr ?_,fun hl=>?_⟩
    ·rw [if_pos hl] at h3;exact h3
    ·rw [if_neg (by omega)] at h3;exact h3
theorem barrier_load {ops:Array Oper} {i j:Nat} {oj:Oper} (h:barrier P ops i=true) (hj:ops[j]?=some oj) (hld:isLoadOp oj.op=true) (hne:j≠i):ordered ops i j=true:=by
 unfold barrier at h
 simp only [List.all_eq_true,List.mem_range] at h
 have h3:=h j (Array.getElem?_eq_some_iff.1 hj).1
 have hq:quietKind P oj.op=false:=by
  cases hop:oj.op<;>rw [hop] at hld<;>first|rfl|cases hld
 simp only [hj,Option.map_some,Option.getD_some,Bool.or_eq_true,beq_iff_eq,hne,false_or,hq,Bool.false_eq_true] at h3
 unfold ordered
 exact h3
theorem barrier_news {ops:Array Oper} {i j:Nat} (h:barrier P ops i=true∨wbarC P ops i=true) (hn:newsAt ops j=true) (hq:touches P ops j=true) (hl:j<i):((Region.before ops).getD i 0).testBit j=true:=by
 unfold newsAt at hn
 unfold touches at hq
 cases hoj:ops[j]? with
 |none=>rw [hoj] at hn;cases hn
 |some oj =>
  rw [hoj] at hq
  simp only [Bool.and_eq_true,Bool.not_eq_true'] at hq
  have hlt:=(Array.getElem?_eq_some_iff.1 hoj).1
  have hne:j≠i:=by omega
  rcases h with h2|h2
  ·unfold barrier at h2
   simp only [List.all_eq_true,List.mem_range] at h2
   have h3:=h2 j hlt
   simp only [hoj,Option.map_some,Option.getD_some,Bool.or_eq_true,beq_iff_eq,hne,false_or] at h3
   rw [hq.1] at h3
   simp only [Bool.false_eq_true,false_or] at h3
   rw [if_pos hl] at h3;exact h3
  ·unfold wbarC at h2
   simp only [List.all_eq_true,List.mem_range] at h2
   have h3:=h2 j hlt
   simp only [hoj,Option.map_some,Option.getD_some,Bool.or_eq_true,beq_iff_eq,hne,false_or] at h3
   rw [hq.1,hq.2] at h3
   simp only [Bool.false_eq_true,false_or,ordered] at h3
   rw [if_pos hl] at h3;exact h3
end Go.Am
namespace Go.Am
variable {P:Program} {G:List Nat} {ds:List Deferred} {rf:Option Nat} {nn:Nat}
structure Trace (P:Program) (call:CallF) (ops:Array Oper) (S:Nat→St):Prop where
 step:∀ (i:Nat) (o:Oper),ops[i]?=some o→dstep P call ops i o (S i)=some (S (i+1))
section
variable {call:CallF} {ops:Array Oper} {S:Nat→St}
theorem leInd {p:Nat→Prop} {i:Nat} (base:p i) (step:∀ j,i≤j→p j→p (j+1)) (j:Nat) (h:i≤j):p j:=by
 induction j with
 |zero=>have:i=0:=by omega
        subst this;exact base
 |succ j ih =>
  by_cases e:i=j+1
  ·subst e;exact base
  ·exact step j (by omega) (ih (by omega))
theorem getOp {i:Nat} (h:i<ops.size):∃ o,ops[i]?=some o:=⟨ops[i],Array.getElem?_eq_getElem h⟩
theorem Trace.mem (ht:Trace P call ops S) (hc:CallStep call) {i:Nat} (hi:i<ops.size):MemStep (S i).m (S (i+1)).m:=by
 obtain ⟨o,ho⟩:=getOp hi
 rcases dstep_cases (ht.step i o ho) with ⟨_,_,x,hm,hx,_⟩|⟨_,v,m',hv,_,hm,_⟩
 ·rw [hm];exact ⟨Nat.le_refl _,hx,fun _ _ _=>rfl,fun _ _ _=>rfl,fun _ _=>rfl⟩
 ·have hs:=aval_step hc hv
  rw [hm]
  exact ⟨hs.size,Nat.min_le_left _ _,fun b hb hl=>hs.keep b hb (Nat.lt_of_lt_of_le hl (Nat.min_le_right _ _)),fun b hb hr=>hs.ro b hb hr,fun b hb=>hs.ro' b hb⟩
theorem Trace.memTo (ht:Trace P call ops S) (hc:CallStep call) (i:Nat):∀ j,i≤j→j≤ops.size→MemStep (S i).m (S j).m:=by
 refine leInd (fun _=>MemStep.refl _) fun j hij ih hj=>?_
 exact (ih (by omega)).trans (ht.mem hc (by omega))
theorem aval_quiet {ρ:Operand→Value} {o:Oper} {m m':Mem} {v:Value} (hq:quietKind P o.op=true) (h:aval P call ρ o m=some (v,m')) (m2:Mem) :
 m'=m∧aval P call ρ o m2=some (v,m2):=by
 unfold aval at h ⊢
 split at h
 ·rename_i f args aT hop
  rw [hop] at hq
  simp [quietKind] at hq
 ·rename_i hne
  obtain ⟨h1,h2⟩:=quiet_indep hq h m2
  exact ⟨h1,h2⟩
theorem aval_news {ρ:Operand→Value} {o:Oper} {m m':Mem} {v:Value} (hn:newsOp o.op=true) (h:aval P call ρ o m=some (v,m')) :
 ∃ l e n,v=.slice (some ⟨m.size,0,none⟩) n 0∧m'=m.alloc (.cells l e 0 false) ∧
  ∀ (ι:Inj) (g:Nat→Nat) (ρ':Operand→Value),(∀ x∈o.op.operands,VRel ι g (ρ x) (ρ' x))→∃ cs':Array Value,(∀ j,j<l.length→∃ v',cs'[j]?=some v'∧VRel ι g (l.getD j undef) v')∧n*P.cellsOf e≤cs'.size ∧
   ∀ w:World,(execOp ρ' o).run P w=.ok (.value (.slice (some ⟨w.heap.size,0,none⟩) n n)) { w with heap:=w.heap.push (.cells cs' e (0,0)) }:=by
 obtain ⟨dst,op,ty,pos,after,guard⟩:=o
 simp only at hn
 cases op<;>simp only [newsOp,Bool.false_eq_true] at hn
 rename_i t len ps
 have hl0:len≠0:=by simpa using hn
 simp only [aval,aop] at h
 split at h
 ·rename_i e hu
  split at h
  ·rename_i i z hi hz
   split at h
   ·rename_i hc
    split at h
    ·rename_i cs hcs
     split at h
     ·first|rw [if_neg hl0] at h|skip
      cases h
      refine ⟨cs.toList,e,len,rfl,rfl,fun ι g ρ' hρ=>?_⟩
      obtain ⟨cs',h1,h2,h3⟩:=news_run (ρ':=ρ') (dst:=dst) (ty:=ty) (pos:=pos) (after:=after) (guard:=guard) (ι:=ι) (g:=g) hu hi hz hc.1 hc.2.1 hc.2.2 (fun x hx=>hρ x hx) hcs
      exact ⟨cs',h1,h2,h3⟩
     ·cases h
    ·cases h
   ·cases h
  ·cases h
 ·cases h
theorem aload_congr {t:TypeId} {a:Addr} {m m2:Mem} {v:Value} (h:aload P t a m=some v) (hg:m2.get a.block=m.get a.block) (hlt:a.block<m2.size):aload P t a m2=some v:=by
 unfold aload at h ⊢
 split at h
 ·rw [if_pos hlt]
  unfold aload0 Mem.cellsAt at h ⊢
  rw [hg]
  exact h
 ·cases h
theorem aslice_reader {t:TypeId} {x:Value} {lo hi:Option Value} {m:Mem} {v:Value} (h:aslice P t x lo hi none m=some v) :
 (∀ b,blkV x=some b→b<m.size)∧∀ m2:Mem,(∀ b,blkV x=some b→b<m2.size∧m2.get b=m.get b)→aslice P t x lo hi none m2=some v:=by
 unfold aslice at h ⊢
 simp only [Option.isSome_none,Bool.false_and,Bool.false_eq_true,if_false] at h ⊢
 split at h
 ·rename_i s hu
  exact ⟨fun b hb=>(by cases hb),fun m2 _=>by first|exact h|(simp only [hu];exact h)⟩
 ·rename_i e hu
  exact ⟨fun b hb=>(by cases hb),fun m2 _=>by first|exact h|(simp only [hu];exact h)⟩
 ·rename_i e b off g' hu
  exact ⟨fun b hb=>(by cases hb),fun m2 _=>by first|exact h|(simp only [hu];exact h)⟩
 ·rename_i e b off len g hu
  split at h
  ·rename_i i l hh hi0 b1 b2 _
   split at h
   ·rename_i vs e' g' ro hg
    split at h
    ·rename_i hc
     refine ⟨fun c hb=>by cases hb;exact hc.2,fun m2 h2=>?_⟩
     obtain ⟨q1,q2⟩:=h2 b rfl
     simp only [hu,hi0,b1,b2,q2,hg,hc.1,q1,and_self,if_true]
     exact h
    ·cases h
   ·cases h
  ·rename_i hc;cases hc
  ·cases h
 ·cases h
theorem loadOp {o:Oper} (h:isLoadOp o.op=true):(∃ t a,o.op=.load t a)∨∃ t x lo hi,o.op=.slice t x lo hi none:=by
 cases hop:o.op with
 |load t a=>exact .inl ⟨t,a,rfl⟩
 |slice t x lo hi mx =>
  cases mx with
  |none=>exact .inr ⟨t,x,lo,hi,rfl⟩
  |some y=>rw [hop] at h;cases h
 |_=>rw [hop] at h;cases h
theorem aval_reader {ρ:Operand→Value} {o:Oper} {m m':Mem} {v:Value} (hl:isLoadOp o.op=true) (h:aval P call ρ o m=some (v,m')) :
 m'=m∧∃ x,ldOp o.op=some x∧(∀ b,blkV (ρ x)=some b→b<m.size)∧∀ m2:Mem,(∀ b,blkV (ρ x)=some b→b<m2.size∧m2.get b=m.get b)→aval P call ρ o m2=some (v,m2):=by
 obtain ⟨dst,op,ty,pos,after,guard⟩:=o
 rcases loadOp hl with ⟨t,a,hop⟩|⟨t,x,lo,hi,hop⟩
 ·simp only at hop
  subst hop
  simp only [aval,aop] at h ⊢
  split at h
  ·rename_i ad had
   rw [Option.map_eq_some_iff] at h
   obtain ⟨u,hu,he⟩:=h
   cases he
   refine ⟨rfl,a,rfl,fun b hb=>?_,fun m2 h2=>?_⟩
   ·rw [had] at hb
    cases hb
    unfold aload at hu
    split at hu
    ·assumption
    ·cases hu
   ·obtain ⟨q1,q2⟩:=h2 ad.block (by rw [had];rfl)
    simp only [had,aload_congr hu q2 q1,Option.map_some]
  ·cases h
 ·simp only at hop
  subst hop
  simp only [aval,aop,Option.map_none] at h ⊢
  rw [Option.map_eq_some_iff] at h
  obtain ⟨u,hu,he⟩:=h
  cases he
  obtain ⟨r1,r2⟩:=aslice_reader hu
  exact ⟨rfl,x,rfl,r1,fun m2 h2=>by rw [r2 m2 h2];rfl⟩
theorem Trace.quiet (ht:Trace P call ops S) (hc:CallStep call) {i:Nat} (hi:i<ops.size) (hb:isBar P ops i=false):∀ b,b<(S i).m.size→(S (i+1)).m.get b=(S i).m.get b:=by
 intro b hlt
 obtain ⟨o,ho⟩:=getOp hi
 rcases dstep_cases (ht.step i o ho) with ⟨_,_,x,hm,hx⟩|⟨_,v,m',hv,_,hm,hor⟩
 ·rw [hm];rfl
 ·rw [hm]
  show m'.get b=(S i).m.get b
  by_cases hq:quietKind P o.op=true
  ·obtain ⟨h1,_⟩:=aval_quiet hq hv (S i).m
   rw [h1];rfl
  ·by_cases hl:isLoadOp o.op=true
   ·rw [(aval_reader hl hv).1];rfl
   ·by_cases hn:newsOp o.op=true
    ·obtain ⟨l,e,n,_,h2,_⟩:=aval_news hn hv
     rw [h2,Mem.get_alloc,if_neg (by show ¬ (S i).m.size=b;omega)];rfl
    ·unfold isBar at hb
     rw [ho] at hb
     rcases hor with h|h|⟨h,_⟩|⟨h,_⟩
     ·simp [hq,hl,hn,h] at hb
     ·exact (aval_step hc hv).keep b hlt (Nat.lt_of_lt_of_le hlt h)
     ·simp [hq,hl,hn,h] at hb
     ·simp [hq,hl,hn,h] at hb
theorem Trace.quietTo (ht:Trace P call ops S) (hc:CallStep call) (i:Nat):∀ j,i≤j→j≤ops.size→(∀ k,i≤k→k<j→isBar P ops k=false)→∀ b,b<(S i).m.size→(S j).m.get b=(S i).m.get b:=by
 refine leInd (fun _ _ b _=>rfl) fun j hij ih=>?_
 ·intro hj hq b hb
  rw [ht.quiet hc (by omega) (hq j hij (by omega)) b (Nat.lt_of_lt_of_le hb (ht.memTo hc i j hij (by omega)).size)]
  exact ih (by omega) (fun k h1 h2=>hq k h1 (by omega)) b hb
theorem Trace.tmps (ht:Trace P call ops S) (t:Nat) (i:Nat):∀ j,i≤j→j≤ops.size→(∀ k o,i≤k→k<j→ops[k]?=some o→o.dst≠some t)→tget (S j).t t=tget (S i).t t:=by
 refine leInd (fun _ _=>rfl) fun j hij ih=>?_
 ·intro hj hq
  obtain ⟨o,ho⟩:=getOp (ops:=ops) (i:=j) (by omega)
  have hd:=hq j o hij (by omega) ho
  have hput:∀ v,tget (tput (S j).t o.dst v) t=tget (S j).t t:=fun v=>by
   cases hdd:o.dst with
   |none=>rfl
   |some d=>simp only [tput];rw [tget_tset,if_neg (fun e=>hd (by rw [hdd,e]))]
  have hstep:tget (S (j+1)).t t=tget (S j).t t:=by
   rcases dstep_cases (ht.step j o ho) with ⟨_,h,_⟩|⟨_,v,m',_,h,_⟩
   ·rw [h];exact hput _
   ·rw [h];exact hput _
  rw [hstep]
  exact ih (by omega) fun k o h1 h2=>hq k o h1 (by omega)
theorem listed_set {listed:Array Bool} {i j:Nat} (hj:j<listed.size):(listed.setIfInBounds j true).getD i false=if i=j then true else listed.getD i false:=by
 by_cases e:i=j
 ·subst e;simp [hj]
 ·rw [if_neg e];simp [Array.getElem?_setIfInBounds_ne (Ne.symm e)]
theorem Le.cut {ι:Inj} {g:Nat→Nat} {x y:Nat} (h:x≤y):Le (cut ι x) g (cut ι y) g:=fun b ib hb=>by
 obtain ⟨h1,h2⟩:=cut_some hb
 exact ⟨Nat.le_refl _,ib,by rw [cut_lt (by omega)];exact h2,fun _=>rfl⟩
theorem Le.uncut {ι:Inj} {g:Nat→Nat} {x:Nat}:Le (Am.cut ι x) g ι g:=fun b ib hb=>⟨Nat.le_refl _,ib,(cut_some hb).2,fun _=>rfl⟩
structure DI (ds:List Deferred) (P:Program) (G:List Nat) (n:Nat) (ops:Array Oper) (S:Nat→St) (ι0:Inj) (w0:World) (listed:Array Bool) (ι:Inj) (a:Act) (w:World) (jp jn:Nat):Prop where
 lsz:listed.size=ops.size
 cl:Closed ops listed
 h1:jp≤jn
 h1':jn≤ops.size
 h2:∀ k,jp≤k→k<jn→isBar P ops k=false
 h3:jn=ops.size∨(isBar P ops jn=true∧listed.getD jn false=false)
 h4:∀ k,k<jp→touches P ops k=true→newsAt ops k=false→listed.getD k false=true
 sims:∀ j,jp≤j→j≤jn→Sim P G (cut ι (S j).m.size) (S j).m w
 dome:∀ b ib,ι b=some ib→b<(S jp).m.size∨∃ i,listed.getD i false=true∧jp≤i∧i<jn∧(S i).m.size≤b∧b<(S (i+1)).m.size
 tsz:a.tmps.size=n
 tdef:a.defers=ds
 v1:∀ (i:Nat) (o:Oper) (t:Nat),ops[i]?=some o→o.dst=some t→listed.getD i false=true→VRel (cut ι (S (max (i+1) jp)).m.size) (S jn).m.gen (tget (S ops.size).t t) (a.tmps.getD t undef)
 v0:∀ t,(∀ (i:Nat) (o:Oper),ops[i]?=some o→o.dst=some t→listed.getD i false=false)→VRel (cut ι (S 0).m.size) (S jn).m.gen (tget (S 0).t t) (a.tmps.getD t undef)
 le:Le ι0 (S 0).m.gen ι (S jn).m.gen
 back:∀ b ib,ι b=some ib→(∃ ib0,ι0 b=some ib0∧ib0.blk=ib.blk)∨w0.heap.size≤ib.blk
 dom0:∀ b ib,ι b=some ib→(∃ ib0,ι0 b=some ib0)∨(S 0).m.size≤b
 heap:w0.heap.size≤w.heap.size
 frame:∀ c,c<w0.heap.size→(∀ b ib,ι0 b=some ib→ib.blk=c→(S 0).m.ro b=true∨b<(S ops.size).m.low)→w.heap[c]?=w0.heap[c]?
 tape:w.tape=w0.tape
 os:w.os=w0.os
 output:w.output=w0.output
 dfree:∀ b ib k,ι b=some ib→k<ops.size→listed.getD k false=false→¬ ((S k).m.size≤b∧b<(S (k+1)).m.size)
 keepN:∀ k,k<jp→newsAt ops k=true→listed.getD k false=false→∀ b,(S k).m.size≤b→b<(S (k+1)).m.size→(S jp).m.get b=(S (k+1)).m.get b
theorem slots_put {n:Nat} {listed:Array Bool} {ι ι':Inj} {g g':Nat→Nat} {a:Act} {j:Nat} {o:Oper} {v':Value} {jp jp':Nat} (hcs:CallStep call) (hjj:jp≤jp') (hjs:jp'≤ops.size) (ht:Trace P call ops S) (hdr:drawOk ops=true) (ho:ops[j]?=some o)
 (hlsz:listed.size=ops.size) (hunl:listed.getD j false=false) (htsz:a.tmps.size=n) (hdn:∀ d,o.dst=some d→d<n)
 (hle:∀ x,Le (cut ι x) g (cut ι' x) g')
 (hv:∀ d,o.dst=some d→VRel (cut ι' (S (max (j+1) jp')).m.size) g' (tget (S (j+1)).t d) v')
 (v1:∀ (i:Nat) (o:Oper) (t:Nat),ops[i]?=some o→o.dst=some t→listed.getD i false=true→VRel (cut ι (S (max (i+1) jp)).m.size) g (tget (S ops.size).t t) (a.tmps.getD t undef))
 (v0:∀ t,(∀ (i:Nat) (o:Oper),ops[i]?=some o→o.dst=some t→listed.getD i false=false)→VRel (cut ι (S 0).m.size) g (tget (S 0).t t) (a.tmps.getD t undef)) :
 (∀ (i:Nat) (o':Oper) (t:Nat),ops[i]?=some o'→o'.dst=some t→(listed.setIfInBounds j true).getD i false=true→VRel (cut ι' (S (max (i+1) jp')).m.size) g' (tget (S ops.size).t t) ((a.put o.dst v').tmps.getD t undef)) ∧
 (∀ t,(∀ (i:Nat) (o':Oper),ops[i]?=some o'→o'.dst=some t→(listed.setIfInBounds j true).getD i false=false)→VRel (cut ι' (S 0).m.size) g' (tget (S 0).t t) ((a.put o.dst v').tmps.getD t undef)):=by
 have hjlt:j<ops.size:=(Array.getElem?_eq_some_iff.1 ho).1
 have hj':j<listed.size:=by omega
 obtain ⟨_,hdist⟩:=drawOk_spec hdr
 have hother:∀ t,o.dst≠some t→(a.put o.dst v').tmps.getD t undef=a.tmps.getD t undef:=fun t ht'=>by
  cases hd:o.dst with
  |none=>rfl
  |some d =>
   have:d≠t:=fun e=>ht' (by rw [hd,e])
   simp [Act.put,Array.getElem?_setIfInBounds_ne this]
 refine ⟨fun i o' t hi hd hl=>?_,fun t hall=>?_⟩
 ·by_cases e:i=j
  ·subst e
   rw [ho] at hi;cases hi
   have hself:(a.put o.dst v').tmps.getD t undef=v':=by
    rw [hd]
    have:=hdn t hd
    simp [Act.put,htsz,this]
   rw [hself]
   have h1:tget (S ops.size).t t=tget (S (i+1)).t t:=ht.tmps t (i+1) ops.size (by omega) (Nat.le_refl _) fun k ok hk _ hok=>(hdist i o t ho hd k ok hok (by omega)).1
   rw [h1]
   exact hv t hd
  ·rw [listed_set hj',if_neg e] at hl
   rw [hother t (hdist i o' t hi hd j o ho (Ne.symm e)).1]
   have hil:=(Array.getElem?_eq_some_iff.1 hi).1
   exact ((v1 i o' t hi hd hl).mono (hle _)).mono (Le.cut (ht.memTo hcs (max (i+1) jp) (max (i+1) jp') (by omega) (by omega)).size)
 ·have hne:o.dst≠some t:=fun hd=>by
   have:=hall j o ho hd
   rw [listed_set hj',if_pos rfl] at this
   cases this
  rw [hother t hne]
  refine (v0 t fun i o' hi hd=>?_).mono (hle _)
  have:=hall i o' hi hd
  rw [listed_set hj'] at this
  split at this
  ·cases this
  ·exact this
theorem slots_read {n:Nat} {listed:Array Bool} {ι ι0:Inj} {a:Act} {w w0:World} {jp jn j:Nat} {o:Oper} (ht:Trace P call ops S) (hc:CallStep call) (hdr:drawOk ops=true) (ho:ops[j]?=some o)
 (hd:DI ds P G n ops S ι0 w0 listed ι a w jp jn) (hunl:listed.getD j false=false) (hall:∀ e∈o.after,Region.binds .any e=true→listed.getD e.on false=true) {t:Nat} (hl:t∈o.looksAt ops) :
 VRel (cut ι (S (max j jp)).m.size) (S jn).m.gen (tget (S j).t t) (a.tmps.getD t undef):=by
 have hjlt:j<ops.size:=(Array.getElem?_eq_some_iff.1 ho).1
 obtain ⟨hback,hdist⟩:=drawOk_spec hdr
 have hjpn:=hd.h1
 have hjno:=hd.h1'
 by_cases hw:∃ (i:Nat) (oi:Oper),ops[i]?=some oi∧oi.dst=some t
 ·obtain ⟨i,oi,hi,hdi⟩:=hw
  have hilt:i<ops.size:=(Array.getElem?_eq_some_iff.1 hi).1
  have uniq:∀ (k:Nat) (ok:Oper),ops[k]?=some ok→ok.dst=some t→k=i:=fun k ok hk hdk=>by
   by_cases e:k=i
   ·exact e
   ·exact absurd hdk (hdist i oi t hi hdi k ok hk e).1
  have notYet:listed.getD i false=false→j≤i→VRel (cut ι (S (max j jp)).m.size) (S jn).m.gen (tget (S j).t t) (a.tmps.getD t undef):=fun hu hji=>by
   have h0:=hd.v0 t fun k ok hk hdk=>by rw [uniq k ok hk hdk];exact hu
   have e1:tget (S j).t t=tget (S 0).t t:=ht.tmps t 0 j (Nat.zero_le _) (by omega) fun k ok _ hkj hok hdk=>by have:=uniq k ok hok hdk;omega
   rw [e1]
   exact h0.mono (Le.cut (ht.memTo hc 0 (max j jp) (Nat.zero_le _) (by omega)).size)
  rcases Nat.lt_trichotomy i j with hlt|heq|hgt
  ·have hb:=((hdist i oi t hi hdi j o ho (by omega)).2 hl).1 hlt
   have hli:=closed_before hd.cl hback j o i ho hall hb
   have h1:=hd.v1 i oi t hi hdi hli
   have e1:tget (S ops.size).t t=tget (S j).t t:=ht.tmps t j ops.size (by omega) (Nat.le_refl _) fun k ok hk _ hok hdk=>by have:=uniq k ok hok hdk;omega
   rw [← e1]
   exact h1.mono (Le.cut (ht.memTo hc (max (i+1) jp) (max j jp) (by omega) (by omega)).size)
  ·subst heq
   exact notYet hunl (Nat.le_refl _)
  ·have hb:=((hdist i oi t hi hdi j o ho (by omega)).2 hl).2 hgt
   refine notYet ?_ (by omega)
   cases hli:listed.getD i false with
   |false=>rfl
   |true =>
    have:=closed_before hd.cl hback i oi j hi (hd.cl i oi hi hli) hb
    rw [hunl] at this;cases this
 ·have h0:=hd.v0 t fun i oi hi hdi=>absurd ⟨i,oi,hi,hdi⟩ hw
  have e1:tget (S j).t t=tget (S 0).t t:=ht.tmps t 0 j (Nat.zero_le _) (by omega) fun k ok _ _ hok hdk=>hw ⟨k,ok,hok,hdk⟩
  rw [e1]
  exact h0.mono (Le.cut (ht.memTo hc 0 (max j jp) (Nat.zero_le _) (by omega)).size)
end
end Go.Am
namespace Go.Am
variable {P:Program} {G:List Nat} {ds:List Deferred} {rf:Option Nat} {nn:Nat}
theorem abin_plain {op:BinOp} {t:TypeId} {xo yo:Operand} {x y u:Value} (h:abin P op t xo yo x y=some u):plain u=true:=by
 unfold abin at h
 have hnil:∀ {b:Bool},aeqNil op b=some u→plain u=true:=fun {b} h=>by
  cases op<;>simp only [aeqNil,reduceCtorEq,Option.some.injEq] at h<;>subst h<;>rfl
 split at h
 ·split at h
  ·exact (ashift_run (P:=P) (t:=t) (k':=.i64) (.inl rfl) h default).2
  ·exact (ashift_run (P:=P) (t:=t) (k':=.i64) (.inr rfl) h default).2
  ·split at h
   ·exact (aint_run (P:=P) (t:=t) h default).2
   ·cases h
 ·split at h
  ·exact hnil h
  ·cases h
 ·split at h
  ·exact hnil h
  ·cases h
 ·split at h
  ·exact hnil h
  ·cases h
 ·split at h
  ·exact hnil h
  ·cases h
 ·split at h
  ·exact (dryV_some h).2
  ·cases h
theorem build0_sound {ι:Inj} {g:Nat→Nat} {m m':Mem} {ρ ρ':Operand→Value} {o:Oper} {v:Value} {t:TypeId} {len:Nat} {ps:Array (Nat×Operand)} (ho:o.op=.buildSlice t len ps) (hq:quietKind P o.op=true) (hρ:∀ x∈o.op.operands,VRel ι g (ρ x) (ρ' x))
 (h:aop P ρ o m=some (v,m')):∃ x,∀ w,(execOp ρ' o).run P w=.ok (.value (.slice (some ⟨w.heap.size,0,none⟩) 0 0)) { w with heap:=w.heap.push x }∧VRel ι g v (.slice (some ⟨w.heap.size,0,none⟩) 0 0):=by
 obtain ⟨dst,op,ty,pos,after,guard⟩:=o
 simp only at ho hρ hq
 subst ho
 have hl:len=0:=by simpa [quietKind] using hq
 subst hl
 simp only [aop,if_true] at h
 split at h
 ·rename_i e hu
  split at h
  ·rename_i i z hi hz
   split at h
   ·rename_i hc
    split at h
    ·rename_i cs hcs
     split at h
     ·cases h
      obtain ⟨x,hrun⟩:=build0_run (ρ':=ρ') (dst:=dst) (ty:=ty) (pos:=pos) (after:=after) (guard:=guard) (ι:=ι) (g:=g) hu hi hz hc.2.1 hc.2.2 hρ hcs
      exact ⟨x,fun w=>⟨hrun w,.slE 0 0 0 _⟩⟩
     ·cases h
    ·cases h
   ·cases h
  ·cases h
 ·cases h
theorem quiet_sound {ι:Inj} {g:Nat→Nat} {m m':Mem} {ρ ρ':Operand→Value} {o:Oper} {v:Value} (hq:quietKind P o.op=true) (hns:∀ t len ps,o.op≠.buildSlice t len ps) (hρ:∀ x∈o.op.operands,VRel ι g (ρ x) (ρ' x))
 (h:aop P ρ o m=some (v,m')):∃ v',(∀ w,(execOp ρ' o).run P w=.ok (.value v') w)∧VRel ι g v v':=by
 obtain ⟨dst,op,ty,pos,after,guard⟩:=o
 simp only at hρ hq hns
 have same:∀ {s:Sem Value} {u v':Value},execOp ρ' ⟨dst,op,ty,pos,after,guard⟩=(do pure (.value (← s)):Sem Next)→(∀ w,s.run P w=.ok v' w)→VRel ι g u v'→(u,m)=(v,m') →
  ∃ v',(∀ w,(execOp ρ' ⟨dst,op,ty,pos,after,guard⟩).run P w=.ok (.value v') w)∧VRel ι g v v':=fun {s u v'} he hr hv hm=>by
  cases hm
  exact ⟨v',fun w=>by rw [he];exact run_v (hr w),hv⟩
 cases op<;>simp only [quietKind,Bool.false_eq_true] at hq<;>simp only [aop,reduceCtorEq] at h
 case buildSlice t len ps=>exact (hns t len ps rfl).elim
 case move x =>
  cases h
  exact ⟨ρ' x,fun w=>rfl,hρ x (by simp [Op.operands])⟩
 case assign x =>
  cases h
  exact ⟨ρ' x,fun w=>rfl,hρ x (by simp [Op.operands])⟩
 case pick c a b =>
  have hc:=hρ c (by simp [Op.operands])
  split at h
  ·rename_i t hcc
   cases h
   rw [hcc] at hc
   have e:ρ' c=.bool t:=by generalize ρ' c=u at hc;cases hc;rfl
   refine ⟨(if t then ρ' a else ρ' b),fun w=>?_,?_⟩
   ·simp only [execOp,e,asBool,Sem.run_bind,Sem.run_pure,Result.andThen_ok]
   ·cases t
    ·exact hρ b (by simp [Op.operands])
    ·exact hρ a (by simp [Op.operands])
  ·cases h
 case binOp op t x y yt =>
  rw [Option.map_eq_some_iff] at h
  obtain ⟨u,hu,he⟩:=h
  have hx:=hρ x (by simp [Op.operands])
  have hy:=hρ y (by simp [Op.operands])
  have hall:∃ v',(∀ w,(do eqGuard op t x y (ρ' x) (ρ' y);binOp op t (ρ' x) (ρ' y):Sem Value).run P w=.ok v' w)∧VRel ι g u v':=by
   obtain ⟨v',hr,hv⟩:=abin_sound hx hy hu default
   refine ⟨v',fun w=>?_,hv⟩
   obtain ⟨v2,hr2,hv2⟩:=abin_sound hx hy hu w
   have hp:plain u=true:=abin_plain hu
   rw [hv.eq_of_plain hp]
   rw [hv2.eq_of_plain hp] at hr2
   exact hr2
  obtain ⟨v',hr,hv⟩:=hall
  exact same rfl hr hv he
 case build t ps =>
  split at h
  ·rename_i z hz
   rw [Option.map_eq_some_iff] at h
   obtain ⟨u,hu,he⟩:=h
   have hp:PRel ι g (ps.map fun (i,x)=>(i,ρ x)).toList (ps.map fun (i,x)=>(i,ρ' x)).toList:=by
    rw [Array.toList_map,Array.toList_map]
    exact PRel.map fun x hx=>hρ x (by simp only [Op.operands];simpa using hx)
   obtain ⟨v',hr,hv⟩:=build_sound hp (fun z' hz'=>by
    obtain ⟨i,zv,hi,hz1,rfl,hz3⟩:=zeroCellsOf_some hz
    unfold zeroOf at hz'
    rw [hi] at hz'
    simp only [Option.bind_some] at hz'
    rw [hz1] at hz'
    cases hz'
    exact hz3) hu
   exact same rfl (fun w=>dry_run hr w) hv he
  ·cases h
 case nilCheck x =>
  have hx:=hρ x (by simp [Op.operands])
  split at h
  ·rename_i ad had
   rw [had] at hx
   have hsh:∃ a',ρ' x=.pointer (some a')∧ARel ι g ad a':=by generalize ρ' x=u at hx;cases hx;exact ⟨_,rfl,by assumption⟩
   obtain ⟨a',e1,har⟩:=hsh
   cases h
   exact ⟨.pointer (some a'),fun w=>by simp only [execOp,e1];rfl,.ptr _ _ har⟩
  ·cases h
 case unOp op t x =>
  split at h
  ·rename_i hp
   rw [Option.map_eq_some_iff] at h
   obtain ⟨u,hu,he⟩:=h
   have hx:=(hρ x (by simp [Op.operands])).eq_of_plain hp
   obtain ⟨h1,h2⟩:=dryV_some hu
   exact same (s:=Op.unary op (ρ' x)) rfl (fun w=>by rw [hx];exact dry_run h1 w) (VRel.plain h2) he
  ·cases h
 case convert s d x =>
  have hq':(isSlT P s||isSlT P d)=false:=by simpa using hq
  rw [hq'] at h
  simp only [Bool.false_eq_true,if_false] at h
  split at h
  ·rename_i hp
   rw [Option.map_eq_some_iff] at h
   obtain ⟨u,hu,he⟩:=h
   have hx:=(hρ x (by simp [Op.operands])).eq_of_plain hp
   obtain ⟨h1,h2⟩:=dryV_some hu
   exact same (s:=Go.convert s d (ρ' x)) rfl (fun w=>by rw [hx];exact dry_run h1 w) (VRel.plain h2) he
  ·cases h
 case makeFunc fn fs cs =>
  cases fn<;>simp only [reduceCtorEq] at h
  rename_i f
  cases h
  have h1:=LRel.mapArr (ι:=ι) (g:=g) (l:=fs.toList) (fun x hx=>hρ x (by simp [Op.operands];exact .inl (by simpa using hx)))
  have h2:=LRel.mapArr (ι:=ι) (g:=g) (l:=cs.toList) (fun x hx=>hρ x (by simp [Op.operands];exact .inr (by simpa using hx)))
  refine ⟨.func (.func f) (fs.map ρ') (cs.map ρ'),fun w=>rfl,?_⟩
  have e:∀ (r:Operand→Value) (a:Array Operand),a.map r=⟨a.toList.map r⟩:=fun r a=>by apply Array.ext';simp
  rw [e ρ fs,e ρ cs,e ρ' fs,e ρ' cs]
  exact .fn f _ _ _ _ h1.1 h1.2 h2.1 h2.2
 case fieldAddr s x f =>
  have hx:=hρ x (by simp [Op.operands])
  split at h
  ·rename_i fs ad hu had
   rw [had] at hx
   have hsh:∃ a',ρ' x=.pointer (some a')∧ARel ι g ad a':=by generalize ρ' x=u at hx;cases hx;exact ⟨_,rfl,by assumption⟩
   obtain ⟨a',e1,har⟩:=hsh
   split at h
   ·rename_i fd hfd
    split at h
    ·rename_i i hi
     split at h
     ·cases h
     ·rename_i hsz
      refine same (s:=Instr.fieldAt s (ρ' x) f) (v':=.pointer (some (a'.add fd.offset))) rfl (fun w=>?_) (.ptr _ _ ?_) (Option.some.inj h)
      ·simp only [Instr.fieldAt,e1,Instr.sureAddr,Sem.run_bind,run_underlying hu,Sem.run_pure,Result.andThen_ok,hfd,fieldPlace,run_sizeOf' hi,if_neg hsz]
      ·obtain ⟨ib,hb,hle,hcur⟩:=har
       refine ⟨ib,hb,hle,fun e=>?_⟩
       rw [hcur e,addr_add]
       simp only [Addr.mk.injEq,true_and,and_true]
       omega
    ·cases h
   ·cases h
  ·cases h
 case field t x f =>
  rw [Option.map_eq_some_iff] at h
  obtain ⟨u,hu,he⟩:=h
  obtain ⟨v',hr,hv⟩:=field_sound (hρ x (by simp [Op.operands])) hu
  exact same rfl (fun w=>dry_run hr w) hv he
 case indexAddr t x ix =>
  have hx:=hρ x (by simp [Op.operands])
  have hix:=hρ ix (by simp [Op.operands])
  split at h
  ·rename_i e b off len g1 k i hu hxx hixx
   rw [hxx] at hx;rw [hixx] at hix
   have e2:ρ' ix=.int k i:=by generalize ρ' ix=u at hix;cases hix;rfl
   split at h
   ·rename_i inf hi
    split at h
    ·rename_i hb
     have hsh:∃ a' cap',ρ' x=.slice (some a') len cap'∧SRel ι g b off len g1 a' cap':=by generalize ρ' x=u at hx;cases hx;exact ⟨_,_,rfl,by assumption⟩
     obtain ⟨a',cap',e1,hsr⟩:=hsh
     refine same (s:=Instr.indexAt t (ρ' x) (ρ' ix)) (v':=.pointer (some (a'.add (i.toNat*inf.size)))) rfl (fun w=>?_) (.ptr _ _ (slice_addr hsr (fun _=>by omega) _)) (Option.some.inj h)
     simp only [Instr.indexAt,e1,e2,asIntOf,Sem.run_bind,run_underlying hu,Sem.run_pure,Result.andThen_ok,run_sizeOf' hi,if_pos hb]
    ·cases h
   ·cases h
  ·rename_i n e ad k i hu hxx hixx
   rw [hxx] at hx;rw [hixx] at hix
   have e2:ρ' ix=.int k i:=by generalize ρ' ix=u at hix;cases hix;rfl
   have hsh:∃ a',ρ' x=.pointer (some a')∧ARel ι g ad a':=by generalize ρ' x=u at hx;cases hx;exact ⟨_,rfl,by assumption⟩
   obtain ⟨a',e1,har⟩:=hsh
   split at h
   ·rename_i inf hi
    split at h
    ·rename_i hb
     refine same (s:=Instr.indexAt t (ρ' x) (ρ' ix)) (v':=.pointer (some (a'.add (i.toNat*inf.size)))) rfl (fun w=>?_) (.ptr _ _ ?_) (Option.some.inj h)
     ·simp only [Instr.indexAt,e1,e2,asIntOf,Instr.sureAddr,Sem.run_bind,run_underlying hu,Sem.run_pure,Result.andThen_ok,run_sizeOf' hi,if_pos hb]
     ·obtain ⟨ib,hbb,hle,hcur⟩:=har
      refine ⟨ib,hbb,hle,fun e=>?_⟩
      rw [hcur e,addr_add]
      simp only [Addr.mk.injEq,true_and,and_true]
      omega
    ·cases h
   ·cases h
  ·cases h
 case index t x ix =>
  split at h
  ·rename_i hp
   rw [Option.map_eq_some_iff] at h
   obtain ⟨u,hu,he⟩:=h
   have hix:=(hρ ix (by simp [Op.operands])).eq_of_plain hp
   obtain ⟨v',hr,hv⟩:=index_sound (hρ x (by simp [Op.operands])) hu
   exact same (s:=Instr.index t (ρ' x) (ρ' ix)) rfl (fun w=>by rw [hix];exact dry_run hr w) hv he
  ·cases h
 case extract t i =>
  rw [Option.map_eq_some_iff] at h
  obtain ⟨u,hu,he⟩:=h
  obtain ⟨v',hr,hv⟩:=extract_sound (hρ t (by simp [Op.operands])) hu
  exact same rfl (fun w=>dry_run hr w) hv he
 case call c =>
  obtain ⟨callee,args,aT⟩:=c
  cases callee<;>simp only [reduceCtorEq,Bool.false_eq_true] at hq h
  rename_i b
  have hargs:∀ x∈args,VRel ι g (ρ x) (ρ' x):=fun x hx=>hρ x (by simp [Op.operands,Call.operands,hx])
  cases b<;>simp only [reduceCtorEq,Bool.false_eq_true] at hq h
  case cap =>
   rw [Option.map_eq_some_iff] at h
   obtain ⟨u,hu,he⟩:=h
   cases he
   have hp:v=.int .i64 0:=by
    unfold acap at hu
    repeat' split at hu
    all_goals first|(cases hu;rfl)|cases hu
   subst hp
   refine ⟨.int .i64 0,fun w=>?_,.int _ _⟩
   rw [run_builtin]
   refine run_v ?_
   have key:∀ (ι:Inj) (g:Nat→Nat),ARels ι g (args.map ρ) (args.map ρ')→(Builtin.cap_ aT ty (args.map ρ')).run P w=.ok (.int .i64 0) w:=fun ι g har=>by
    unfold acap at hu
    split at hu
    ·rename_i t q0
     split at hu
     ·rename_i e huu
      split at hu
      ·rename_i q
       obtain ⟨x',h1,h2⟩:=har 0 _ q
       cases h2
       simp [Builtin.cap_,q0,h1,run_underlying huu,goInt]
      ·rename_i b o s q
       obtain ⟨x',h1,h2⟩:=har 0 _ q
       cases h2
       simp [Builtin.cap_,q0,h1,run_underlying huu,goInt]
      ·cases hu
     ·cases hu
    ·cases hu
   exact key ι g (ARels.map hargs)
  case len =>
   rw [Option.map_eq_some_iff] at h
   obtain ⟨u,hu,he⟩:=h
   cases he
   obtain ⟨h1,h2⟩:=len_quiet ty hq (ARels.map hargs) hu
   exact ⟨_,fun w=>by rw [run_builtin];exact run_v (h1 w),h2⟩
  case max =>
   split at h
   ·rename_i hp
    rw [Option.map_eq_some_iff] at h
    obtain ⟨u,hu,he⟩:=h
    cases he
    obtain ⟨h1,h2⟩:=dryV_some hu
    exact ⟨_,fun w=>by rw [run_builtin,plain_map_eq hargs hp];exact run_v (dry_run h1 w),VRel.plain h2⟩
   ·cases h
  case min =>
   split at h
   ·rename_i hp
    rw [Option.map_eq_some_iff] at h
    obtain ⟨u,hu,he⟩:=h
    cases he
    obtain ⟨h1,h2⟩:=dryV_some hu
    exact ⟨_,fun w=>by rw [run_builtin,plain_map_eq hargs hp];exact run_v (dry_run h1 w),VRel.plain h2⟩
   ·cases h
end Go.Am
namespace Go.Am
variable {P:Program} {G:List Nat} {call:CallF} {ops:Array Oper} {S:Nat→St} {ds:List Deferred} {rf:Option Nat} {nn:Nat}
theorem DI.dom_lt {n:Nat} {ι ι0:Inj} {a:Act} {w w0:World} {listed:Array Bool} {jp jn:Nat} (ht:Trace P call ops S) (hcs:CallStep call) (hd:DI ds P G n ops S ι0 w0 listed ι a w jp jn) {b:Nat} {ib:IB}
 (hb:ι b=some ib):b<(S jn).m.size:=by
 rcases hd.dome b ib hb with h|⟨i,_,h1,h2,_,h3⟩
 ·exact Nat.lt_of_lt_of_le h (ht.memTo hcs jp jn hd.h1 hd.h1').size
 ·exact Nat.lt_of_lt_of_le h3 (ht.memTo hcs (i+1) jn h2 hd.h1').size
theorem closed_set {listed:Array Bool} {j:Nat} {o:Oper} (hcl:Closed ops listed) (hj:j<listed.size) (ho:ops[j]?=some o) (hall:∀ e∈o.after,Region.binds .any e=true→listed.getD e.on false=true) :
 Closed ops (listed.setIfInBounds j true):=by
 intro i oi hi hl e he hb
 rw [listed_set hj]
 split
 ·rfl
 ·rw [listed_set hj] at hl
  split at hl
  ·rename_i h1 h2
   subst h2
   rw [ho] at hi;cases hi
   exact hall e he hb
  ·exact hcl i oi hi hl e he hb
theorem listed_mono {listed:Array Bool} {i j:Nat} (hj:j<listed.size) (h:listed.getD i false=true):(listed.setIfInBounds j true).getD i false=true:=by
 rw [listed_set hj];split
 ·rfl
 ·exact h
theorem unlisted_mono {listed:Array Bool} {i j:Nat} (hj:j<listed.size) (h:(listed.setIfInBounds j true).getD i false=false):listed.getD i false=false:=by
 cases hl:listed.getD i false with
 |false=>rfl
 |true=>rw [listed_mono hj hl] at h;cases h
theorem unlisted_ne {listed:Array Bool} {i j:Nat} (hj:j<listed.size) (h:(listed.setIfInBounds j true).getD i false=false):i≠j:=fun e=>by
 rw [listed_set hj,if_pos e] at h;cases h
theorem Trace.apart (ht:Trace P call ops S) (hcs:CallStep call) {i k b:Nat} (hi:i<ops.size) (hk:k<ops.size) (hne:i≠k) (h1:(S i).m.size≤b) (h2:b<(S (i+1)).m.size):¬ ((S k).m.size≤b∧b<(S (k+1)).m.size):=fun ⟨h3,h4⟩=>by
 rcases Nat.lt_or_ge i k with h|h
 ·have:=(ht.memTo hcs (i+1) k (by omega) (by omega)).size;omega
 ·have:=(ht.memTo hcs (k+1) i (by omega) (by omega)).size;omega
theorem operands_rel {n:Nat} {ι ι0:Inj} {a:Act} {w w0:World} {listed:Array Bool} {jp jn j:Nat} {o:Oper} (ht:Trace P call ops S) (hcs:CallStep call) (hdr:drawOk ops=true)
 (hd:DI ds P G n ops S ι0 w0 listed ι a w jp jn) (hG:∀ k,k∈G→k<(S 0).m.size) (ho:ops[j]?=some o) (hunl:listed.getD j false=false)
 (hall:∀ e∈o.after,Region.binds .any e=true→listed.getD e.on false=true) (hop:∀ x∈o.op.operands,operandOk G x=true) :
 ∀ x∈o.op.operands,VRel (cut ι (S (max j jp)).m.size) (S jn).m.gen (ev (S j).t x) (a.eval x):=by
 intro x hx
 have hjlt:j<ops.size:=(Array.getElem?_eq_some_iff.1 ho).1
 cases x with
 |tmp t =>
  refine slots_read ht hcs hdr ho hd hunl hall (t:=t) ?_
  unfold Oper.looksAt
  refine List.mem_append_left _ ?_
  rw [List.mem_filterMap]
  exact ⟨.tmp t,by simpa using hx,rfl⟩
 |const v=>exact VRel.plain (hop _ hx)
 |global k =>
  have hk:k∈G:=by simpa [operandOk] using hop _ hx
  obtain ⟨ib,h1,h2,h3,h4,h5⟩:=(hd.sims jn hd.h1 (Nat.le_refl _)).glob k hk
  have hlt:=Nat.lt_of_lt_of_le (hG k hk) (ht.memTo hcs 0 (max j jp) (Nat.zero_le _) (by have:=hd.h1;have:=hd.h1';omega)).size
  exact .ptr _ _ ⟨ib,by rw [cut_lt hlt];exact (cut_some h1).2,Nat.zero_le _,fun _=>by simp [h2,h3]⟩
 |func f=>exact .fn f [] [] [] [] rfl (fun i hi=>absurd hi (by simp)) rfl (fun i hi=>absurd hi (by simp))
theorem wanted_at {n:Nat} {ι ι0:Inj} {a:Act} {w w0:World} {listed:Array Bool} {jp jn j:Nat} {o:Oper} (ht:Trace P call ops S) (hcs:CallStep call) (hdr:drawOk ops=true)
 (hd:DI ds P G n ops S ι0 w0 listed ι a w jp jn) (ho:ops[j]?=some o) (hunl:listed.getD j false=false)
 (hall:∀ e∈o.after,Region.binds .any e=true→listed.getD e.on false=true):Region.wanted o (yielded ops a.tmps)=Region.wanted o (ayielded ops (S j).t):=by
 unfold Region.wanted
 cases hg:o.guard with
 |none=>rfl
 |some p =>
  obtain ⟨k,b⟩:=p
  have key:yielded ops a.tmps k=ayielded ops (S j).t k:=by
   unfold yielded ayielded
   cases hdk:(ops[k]?).bind (·.dst) with
   |none=>rfl
   |some d =>
    simp only [Option.bind_some]
    have hv:=slots_read ht hcs hdr ho hd hunl hall (t:=d) (by
     unfold Oper.looksAt
     refine List.mem_append_right _ ?_
     rw [hg]
     simp only [hdk,Option.toList_some,List.mem_singleton])
    cases ha:a.tmps[d]? with
    |none =>
     have e:a.tmps.getD d undef=undef:=by simp [ha]
     rw [e] at hv
     have:∀ b,tget (S j).t d≠.bool b:=fun b hb=>by
      have:=(hv.bool_iff b).1 hb
      cases this
     split
     ·rename_i h;cases h
     ·split
      ·rename_i b hb;exact absurd hb (this b)
      ·rfl
    |some u =>
     have e:a.tmps.getD d undef=u:=by simp [ha]
     rw [e] at hv
     split
     ·rename_i b hb
      cases hb
      have:=(hv.bool_iff b).2 rfl
      rw [this]
     ·rename_i hne
      split
      ·rename_i b hb
       have:=(hv.bool_iff b).1 hb
       exact absurd (by rw [this]) (hne b)
      ·rfl
  simp only [key]
theorem DI.still {n:Nat} {ι ι0:Inj} {a:Act} {w w0:World} {listed:Array Bool} {jp jn j:Nat} {o:Oper} {v':Value} (hcs:CallStep call) (ht:Trace P call ops S) (hdr:drawOk ops=true)
 (hd:DI ds P G n ops S ι0 w0 listed ι a w jp jn) (ho:ops[j]?=some o) (hunl:listed.getD j false=false) (hall:∀ e∈o.after,Region.binds .any e=true→listed.getD e.on false=true)
 (hdn:∀ d,o.dst=some d→d<n) (hnb:isBar P ops j=false)
 (hv:∀ d,o.dst=some d→VRel (cut ι (S (max (j+1) jp)).m.size) (S jn).m.gen (tget (S (j+1)).t d) v') :
 DI ds P G n ops S ι0 w0 (listed.setIfInBounds j true) ι (a.put o.dst v') w jp jn:=by
 have hjlt:j<ops.size:=(Array.getElem?_eq_some_iff.1 ho).1
 have hj':j<listed.size:=by rw [hd.lsz];exact hjlt
 obtain ⟨v1,v0⟩:=slots_put hcs (Nat.le_refl jp) (Nat.le_trans hd.h1 hd.h1') ht hdr ho hd.lsz hunl hd.tsz hdn (fun x=>Le.refl _ _) hv hd.v1 hd.v0
 refine ⟨by simpa using hd.lsz,closed_set hd.cl hj' ho hall,hd.h1,hd.h1',hd.h2,?_,fun k hk htk hnk=>listed_mono hj' (hd.h4 k hk htk hnk),hd.sims,?_,?_,?_,v1,v0,hd.le,hd.back,hd.dom0,hd.heap,hd.frame,hd.tape,hd.os,hd.output,
  fun b ib k hb hk hl=>hd.dfree b ib k hb hk (unlisted_mono hj' hl),fun k hk hn hl=>hd.keepN k hk hn (unlisted_mono hj' hl)⟩
 ·rcases hd.h3 with h|⟨h1,h2⟩
  ·exact .inl h
  ·refine .inr ⟨h1,?_⟩
   rw [listed_set hj',if_neg (fun e=>by subst e;rw [h1] at hnb;cases hnb)]
   exact h2
 ·intro b ib hb
  rcases hd.dome b ib hb with h|⟨i,h1,h2⟩
  ·exact .inl h
  ·exact .inr ⟨i,listed_mono hj' h1,h2⟩
 ·cases hdd:o.dst<;>simp [Act.put,hd.tsz]
 ·cases hdd:o.dst<;>simp [Act.put,hd.tdef]
theorem DI.quiet {n:Nat} {ι ι0 ι1:Inj} {a:Act} {w w0 w':World} {listed:Array Bool} {jp jn j:Nat} {o:Oper} {v v':Value} {m':Mem} {y:Nat} (ht:Trace P call ops S) (hcs:CallStep call) (hdr:drawOk ops=true)
 (hd:DI ds P G n ops S ι0 w0 listed ι a w jp jn) (ho:ops[j]?=some o) (hunl:listed.getD j false=false) (hall:∀ e∈o.after,Region.binds .any e=true→listed.getD e.on false=true)
 (hdn:∀ d,o.dst=some d→d<n) (hjp:jp≤j) (hjn:j<jn) (hm':(S (j+1)).m=setLow m' y) (hlow:(S j).m.size≤m'.low) (hstep:MemStep (setLow (S j).m (S j).m.size) m')
 (htv:∀ d,o.dst=some d→tget (S (j+1)).t d=v)
 (hext:Ext (cut ι (S j).m.size) (setLow (S j).m (S j).m.size) w ι1 m' w') (hsim:Sim P G ι1 m' w') (hvr:VRel ι1 m'.gen v v') :
 ∃ ι',DI ds P G n ops S ι0 w0 (listed.setIfInBounds j true) ι' (a.put o.dst v') w' jp jn:=by
 have hjlt:j<ops.size:=(Array.getElem?_eq_some_iff.1 ho).1
 have hj':j<listed.size:=by rw [hd.lsz];exact hjlt
 have hsz1:(S (j+1)).m.size=m'.size:=by rw [hm'];rfl
 have hget1:∀ b,(S (j+1)).m.get b=m'.get b:=fun b=>by rw [hm'];rfl
 have hgj:∀ b,b<(S j).m.size→m'.get b=(S j).m.get b:=fun b hb=>hstep.keep b hb (Nat.lt_of_lt_of_le hb hlow)
 have hle01:(S j).m.size≤(S (j+1)).m.size:=by rw [hsz1];exact hstep.size
 let ι':Inj:=fun b=>if (S j).m.size≤b∧b<(S (j+1)).m.size then ι1 b else ι b
 have hnew:∀ b,(S j).m.size≤b→b<(S (j+1)).m.size→ι' b=ι1 b:=fun b h1 h2=>if_pos ⟨h1,h2⟩
 have hold:∀ b,¬ ((S j).m.size≤b∧b<(S (j+1)).m.size)→ι' b=ι b:=fun b h=>if_neg h
 have f1:∀ b,b<(S j).m.size→ι1 b=ι b:=fun b hb=>by
  cases hib:ι b with
  |some ib =>
   have hc:cut ι (S j).m.size b=some ib:=by rw [cut_lt hb];exact hib
   obtain ⟨_,ib',h2,h3⟩:=hext.le b ib hc
   have hg:m'.gen b=(setLow (S j).m (S j).m.size).gen b:=gen_of_get (hgj b hb)
   rw [h2,h3 hg]
  |none =>
   cases hi1:ι1 b with
   |none=>rfl
   |some ib =>
    rcases hext.dom b ib hi1 with ⟨ib0,h⟩|h
    ·have:=(cut_some h).2;rw [hib] at this;cases this
    ·exact absurd hb (by show ¬ _;exact Nat.not_lt.2 h)
 have f2:∀ b,(S j).m.size≤b→b<(S (j+1)).m.size→ι b=none:=fun b h1 h2=>by
  cases hib:ι b with
  |none=>rfl
  |some ib=>exact absurd ⟨h1,h2⟩ (hd.dfree b ib j hib hjlt hunl)
 have holdS:∀ b ib,ι b=some ib→ι' b=some ib:=fun b ib hb=>by
  rw [hold b (fun h=>by have:=f2 b h.1 h.2;rw [hb] at this;cases this)];exact hb
 have f3:∀ b,cut ι' (S (j+1)).m.size b=ι1 b:=fun b=>by
  by_cases h1:b<(S (j+1)).m.size
  ·rw [cut_lt h1]
   by_cases h2:(S j).m.size≤b
   ·exact hnew b h2 h1
   ·rw [hold b (fun h=>h2 h.1),f1 b (by omega)]
  ·have:cut ι' (S (j+1)).m.size b=none:=if_neg h1
   rw [this]
   cases hi1:ι1 b with
   |none=>rfl
   |some ib=>exact absurd (hsim.dom b ib hi1).1 (by rw [← hsz1];exact h1)
 have f5:∀ c,c<w.heap.size→w'.heap[c]?=w.heap[c]?:=fun c hc=>hext.frame c hc fun b ib hb _=>.inr (Nat.lt_of_lt_of_le (cut_some hb).1 hlow)
 have hgenN:∀ b,b<(S (j+1)).m.size→(S jn).m.gen b=m'.gen b:=fun b hb=>by
  have:=ht.quietTo hcs (j+1) jn (by omega) hd.h1' (fun k h1 h2=>hd.h2 k (by omega) h2) b hb
  rw [gen_of_get this];exact gen_of_get (hget1 b)
 have hle1:∀ i',j+1≤i'→i'≤jn→Le ι1 m'.gen (cut ι' (S i').m.size) (S i').m.gen:=fun i' h1 h2 b ib hb=>by
  have hbl:b<(S (j+1)).m.size:=by rw [hsz1];exact (hsim.dom b ib hb).1
  have hsi:=(ht.memTo hcs (j+1) i' h1 (by have:=hd.h1';omega)).size
  have hq:=ht.quietTo hcs (j+1) i' h1 (by have:=hd.h1';omega) (fun k q1 q2=>hd.h2 k (by omega) (by omega)) b hbl
  refine ⟨by rw [gen_of_get hq,gen_of_get (hget1 b)];exact Nat.le_refl _,ib,?_,fun _=>rfl⟩
  rw [cut_lt (by omega),← hb,← f3 b,cut_lt hbl]
 have hleS:∀ x g,Le (cut ι x) g (cut ι' x) g:=fun x g b ib hb=>by
  obtain ⟨h1,h2⟩:=cut_some hb
  exact ⟨Nat.le_refl _,ib,by rw [cut_lt h1];exact holdS b ib h2,fun _=>rfl⟩
 have hsims:∀ i',jp≤i'→i'≤jn→Sim P G (cut ι' (S i').m.size) (S i').m w':=fun i' h1 h2=>by
  have hs:=hd.sims i' h1 h2
  by_cases hij:i'≤j
  ·refine (hs.world hext.heap f5).congr fun b=>?_
   by_cases hb:b<(S i').m.size
   ·rw [cut_lt hb,cut_lt hb]
    refine hold b fun h=>?_
    have:=(ht.memTo hcs i' j hij (by omega)).size
    omega
   ·exact (if_neg hb).trans (if_neg hb).symm
  ·have hi1:j+1≤i':=by omega
   have hin:i'≤ops.size:=by have:=hd.h1';omega
   have hsi:=(ht.memTo hcs (j+1) i' hi1 hin).size
   have hq:∀ b,b<(S (j+1)).m.size→(S i').m.get b=m'.get b:=fun b hb =>
    (ht.quietTo hcs (j+1) i' hi1 hin (fun k q1 q2=>hd.h2 k (by omega) (by omega)) b hb).trans (hget1 b)
   have cases2:∀ b ib,cut ι' (S i').m.size b=some ib→((S j).m.size≤b∧b<(S (j+1)).m.size∧ι1 b=some ib∧w.heap.size≤ib.blk)∨cut ι (S i').m.size b=some ib:=fun b ib hb=>by
    obtain ⟨hb1,hb2⟩:=cut_some hb
    by_cases hn:(S j).m.size≤b∧b<(S (j+1)).m.size
    ·rw [hnew b hn.1 hn.2] at hb2
     refine .inl ⟨hn.1,hn.2,hb2,?_⟩
     rcases hext.back b ib hb2 with ⟨ib0,h,_⟩|h
     ·have:=(cut_some h).1;omega
     ·exact h
    ·rw [hold b hn] at hb2
     exact .inr (by rw [cut_lt hb1];exact hb2)
   refine ⟨fun b ib hb=>?_,fun b ib hb=>?_,fun b b' ib ib' hb hb' he=>?_,fun k hk=>?_⟩
   ·refine ⟨(cut_some hb).1,?_⟩
    rcases cases2 b ib hb with ⟨_,_,h,_⟩|h
    ·exact (hsim.dom b ib h).2
    ·exact Nat.lt_of_lt_of_le (hs.dom b ib h).2 hext.heap
   ·rcases cases2 b ib hb with ⟨_,hb2,h,_⟩|h
    ·rw [hq b hb2]
     exact (hsim.blk b ib h).mono (hle1 i' hi1 h2)
    ·rw [f5 _ (hs.dom b ib h).2]
     exact (hs.blk b ib h).mono (hleS _ _)
   ·rcases cases2 b ib hb with ⟨p1,p2,p3,p4⟩|p
    ·rcases cases2 b' ib' hb' with ⟨q1,q2,q3,q4⟩|q
     ·rcases hsim.inj b b' ib ib' p3 q3 he with h|⟨r1,r2⟩
      ·exact .inl h
      ·exact .inr ⟨by rw [ro_of_get (hq b p2)];exact r1,by rw [ro_of_get (hq b' q2)];exact r2⟩
     ·have:=(hs.dom b' ib' q).2;omega
    ·rcases cases2 b' ib' hb' with ⟨q1,q2,q3,q4⟩|q
     ·have:=(hs.dom b ib p).2;omega
     ·exact hs.inj b b' ib ib' p q he
   ·obtain ⟨ib,q1,q2,q3,q4,q5⟩:=hs.glob k hk
    obtain ⟨r1,r2⟩:=cut_some q1
    exact ⟨ib,by rw [cut_lt r1];exact holdS k ib r2,q2,q3,q4,q5⟩
 obtain ⟨v1,v0⟩:=slots_put (v':=v') hcs (Nat.le_refl jp) (Nat.le_trans hd.h1 hd.h1') ht hdr ho hd.lsz hunl hd.tsz hdn (fun x=>hleS x (S jn).m.gen) (fun d hdd=>by
  rw [htv d hdd,Nat.max_eq_left (by omega)]
  refine hvr.mono fun b ib hb=>?_
  have hbl:b<(S (j+1)).m.size:=by rw [hsz1];exact (hsim.dom b ib hb).1
  exact ⟨by rw [hgenN b hbl];exact Nat.le_refl _,ib,by rw [f3];exact hb,fun _=>rfl⟩) hd.v1 hd.v0
 refine ⟨ι',by simpa using hd.lsz,closed_set hd.cl hj' ho hall,hd.h1,hd.h1',hd.h2,?_,fun k hk htk hnk=>listed_mono hj' (hd.h4 k hk htk hnk),hsims,?_,?_,?_,v1,v0,?_,?_,?_,Nat.le_trans hd.heap hext.heap,
  fun c hc hf=>(f5 c (Nat.lt_of_lt_of_le hc hd.heap)).trans (hd.frame c hc hf),hext.tape.trans hd.tape,hext.os.trans hd.os,hext.output.trans hd.output,fun b ib k hb hk hl=>?_,fun k hk hn hl=>hd.keepN k hk hn (unlisted_mono hj' hl)⟩
 ·rcases hd.h3 with h|⟨h1,h2⟩
  ·exact .inl h
  ·refine .inr ⟨h1,?_⟩
   rw [listed_set hj',if_neg (by omega)]
   exact h2
 ·intro b ib hb
  by_cases hn:(S j).m.size≤b∧b<(S (j+1)).m.size
  ·exact .inr ⟨j,by rw [listed_set hj',if_pos rfl],hjp,hjn,hn.1,hn.2⟩
  ·rw [hold b hn] at hb
   rcases hd.dome b ib hb with h|⟨i,h1,h2⟩
   ·exact .inl h
   ·exact .inr ⟨i,listed_mono hj' h1,h2⟩
 ·cases hdd:o.dst<;>simp [Act.put,hd.tsz]
 ·cases hdd:o.dst<;>simp [Act.put,hd.tdef]
 ·exact hd.le.trans fun b ib hb=>⟨Nat.le_refl _,ib,holdS b ib hb,fun _=>rfl⟩
 ·intro b ib hb
  by_cases hn:(S j).m.size≤b∧b<(S (j+1)).m.size
  ·rw [hnew b hn.1 hn.2] at hb
   rcases hext.back b ib hb with ⟨ib0,h,_⟩|h
   ·have:=(cut_some h).1;omega
   ·exact .inr (Nat.le_trans hd.heap h)
  ·rw [hold b hn] at hb
   exact hd.back b ib hb
 ·intro b ib hb
  by_cases hn:(S j).m.size≤b∧b<(S (j+1)).m.size
  ·exact .inr (Nat.le_trans (ht.memTo hcs 0 j (Nat.zero_le _) (by omega)).size hn.1)
  ·rw [hold b hn] at hb
   exact hd.dom0 b ib hb
 ·by_cases hn:(S j).m.size≤b∧b<(S (j+1)).m.size
  ·exact ht.apart hcs hjlt hk (Ne.symm (unlisted_ne hj' hl)) hn.1 hn.2
  ·rw [hold b hn] at hb
   exact hd.dfree b ib k hb hk (unlisted_mono hj' hl)
theorem nextBar (ops:Array Oper) (k:Nat) (hk:k≤ops.size):∃ jn,k≤jn∧jn≤ops.size∧(∀ i,k≤i→i<jn→isBar P ops i=false)∧(jn=ops.size∨isBar P ops jn=true):=by
 generalize hd:ops.size-k=d
 induction d generalizing k with
 |zero=>exact ⟨ops.size,hk,Nat.le_refl _,fun i h1 h2=>by omega,.inl rfl⟩
 |succ d ih =>
  cases hb:isBar P ops k with
  |true=>exact ⟨k,Nat.le_refl _,hk,fun i h1 h2=>by omega,.inr hb⟩
  |false =>
   obtain ⟨jn,h1,h2,h3,h4⟩:=ih (k+1) (by omega) (by omega)
   refine ⟨jn,by omega,h2,fun i q1 q2=>?_,h4⟩
   by_cases e:i=k
   ·subst e;exact hb
   ·exact h3 i (by omega) q2
theorem DI.bar {n:Nat} {ι ι0 ι1:Inj} {a:Act} {w w0 w':World} {listed:Array Bool} {jp j:Nat} {o:Oper} {v v':Value} {m':Mem} {y:Nat} (ht:Trace P call ops S) (hcs:CallStep call) (hdr:drawOk ops=true)
 (hd:DI ds P G n ops S ι0 w0 listed ι a w jp j) (ho:ops[j]?=some o) (hunl:listed.getD j false=false) (hall:∀ e∈o.after,Region.binds .any e=true→listed.getD e.on false=true)
 (hdn:∀ d,o.dst=some d→d<n) (hb0:∀ b ib,ι0 b=some ib→b<(S 0).m.size) (hbar:isBar P ops j=true) (hm':(S (j+1)).m=setLow m' y) (hy:y≤m'.low)
 (htv:∀ d,o.dst=some d→tget (S (j+1)).t d=v)
 (hkeep:∀ k,k<j→newsAt ops k=true→listed.getD k false=false→∀ b,(S k).m.size≤b→b<(S (k+1)).m.size→(S (j+1)).m.get b=(S j).m.get b)
 (hext:Ext (cut ι (S j).m.size) (setLow (S j).m (S j).m.size) w ι1 m' w') (hsim:Sim P G ι1 m' w') (hvr:VRel ι1 m'.gen v v') :
 ∃ ι' jp' jn',DI ds P G n ops S ι0 w0 (listed.setIfInBounds j true) ι' (a.put o.dst v') w' jp' jn':=by
 have hjlt:j<ops.size:=(Array.getElem?_eq_some_iff.1 ho).1
 have hj':j<listed.size:=by rw [hd.lsz];exact hjlt
 have hsz1:(S (j+1)).m.size=m'.size:=by rw [hm'];rfl
 have hget1:∀ b,(S (j+1)).m.get b=m'.get b:=fun b=>by rw [hm'];rfl
 obtain ⟨hback,_⟩:=drawOk_spec hdr
 obtain ⟨htch,horder⟩:=isBar_spec hbar
 obtain ⟨jn,n1,n2,n3,n4⟩:=nextBar ops (j+1) (by omega)
 have hsj:(S (j+1)).m.size≤(S jn).m.size:=(ht.memTo hcs (j+1) jn n1 n2).size
 have hgetN:∀ b,b<(S (j+1)).m.size→(S jn).m.get b=m'.get b:=fun b hb=>(ht.quietTo hcs (j+1) jn n1 n2 (fun k h1 h2=>n3 k h1 h2) b hb).trans (hget1 b)
 have hdl:∀ b ib,ι1 b=some ib→b<(S (j+1)).m.size:=fun b ib hb=>by rw [hsz1];exact (hsim.dom b ib hb).1
 have hLow:(S ops.size).m.low≤m'.low:=by
  have h1:=(ht.memTo hcs (j+1) ops.size (by omega) (Nat.le_refl _)).low
  have h2:(S (j+1)).m.low=y:=by rw [hm'];rfl
  omega
 have hleX:∀ x,Le (cut ι x) (S j).m.gen (cut ι1 x) (S jn).m.gen:=fun x b ib hb=>by
  obtain ⟨h1,h2⟩:=cut_some hb
  have hbj:=hd.dom_lt ht hcs h2
  obtain ⟨q1,ib',q2,q3⟩:=hext.le b ib (by rw [cut_lt hbj];exact h2)
  have hg:(S jn).m.gen b=m'.gen b:=gen_of_get (hgetN b (hdl b ib' q2))
  exact ⟨by rw [hg];exact q1,ib',by rw [cut_lt h1];exact q2,fun e=>q3 (by rw [← hg];exact e)⟩
 obtain ⟨v1,v0⟩:=slots_put (v':=v') (jp':=j+1) hcs (by have:=hd.h1;omega) (by omega) ht hdr ho hd.lsz hunl hd.tsz hdn hleX (fun d hdd=>by
  rw [htv d hdd,Nat.max_self]
  refine hvr.mono fun b ib hb=>?_
  have hbl:=hdl b ib hb
  exact ⟨by rw [gen_of_get (hgetN b hbl)];exact Nat.le_refl _,ib,by rw [cut_lt hbl];exact hb,fun _=>rfl⟩) hd.v1 hd.v0
 refine ⟨ι1,j+1,jn,by simpa using hd.lsz,closed_set hd.cl hj' ho hall,n1,n2,n3,?_,?_,?_,fun b ib hb=>.inl (hdl b ib hb),?_,?_,v1,v0,?_,?_,?_,Nat.le_trans hd.heap hext.heap,?_,
  hext.tape.trans hd.tape,hext.os.trans hd.os,hext.output.trans hd.output,fun b ib k hb hk hl=>?_,fun k hk hn hl b h1 h2=>?_⟩
 ·rcases n4 with h|h
  ·exact .inl h
  ·refine .inr ⟨h,?_⟩
   rw [listed_set hj',if_neg (by omega)]
   cases hl:listed.getD jn false with
   |false=>rfl
   |true =>
    obtain ⟨t1,t2⟩:=isBar_spec h
    have hbit:=((t2 j (by omega) htch).1 (by omega)).resolve_left (by rw [isBar_news hbar];simp)
    obtain ⟨on,hon⟩:=getOp (ops:=ops) (i:=jn) (by
     rcases Nat.lt_or_ge jn ops.size with h|h
     ·exact h
     ·unfold isBar at *
      rename_i hbb
      rw [Array.getElem?_eq_none h] at hbb
      cases hbb)
    have:=closed_before hd.cl hback jn on j hon (hd.cl jn on hon hl) hbit
    rw [hunl] at this;cases this
 ·intro k hk htk hnk
  by_cases e:k=j
  ·subst e;rw [listed_set hj',if_pos rfl]
  ·refine listed_mono hj' ?_
   exact closed_before hd.cl hback j o k ho hall (((horder k e htk).1 (by omega)).resolve_left (by rw [hnk];simp))
 ·intro i' h1 h2
  have hsi:=(ht.memTo hcs (j+1) i' h1 (by omega)).size
  have hq:∀ b,b<(setLow m' y).size→(S i').m.get b=(setLow m' y).get b:=fun b hb=>by
   have hb':b<(S (j+1)).m.size:=by rw [hsz1];exact hb
   exact (ht.quietTo hcs (j+1) i' h1 (by omega) (fun k q1 q2=>n3 k q1 (by omega)) b hb').trans (hget1 b)
  refine ((hsim.low y).extend (m2:=(S i').m) (by rw [← hm'];exact hsi) hq).congr fun b=>?_
  cases hib:ι1 b with
  |none =>
   unfold cut;split
   ·exact hib
   ·rfl
  |some ib=>rw [cut_lt (Nat.lt_of_lt_of_le (hdl b ib hib) hsi)];exact hib
 ·cases hdd:o.dst<;>simp [Act.put,hd.tsz]
 ·cases hdd:o.dst<;>simp [Act.put,hd.tdef]
 ·refine hd.le.trans fun b ib hb=>?_
  have hbj:=hd.dom_lt ht hcs hb
  obtain ⟨q1,ib',q2,q3⟩:=hext.le b ib (by rw [cut_lt hbj];exact hb)
  have hg:(S jn).m.gen b=m'.gen b:=gen_of_get (hgetN b (hdl b ib' q2))
  exact ⟨by rw [hg];exact q1,ib',q2,fun e=>q3 (by rw [← hg];exact e)⟩
 ·intro b ib' hb
  rcases hext.back b ib' hb with ⟨ib,h1,h2⟩|h
  ·rcases hd.back b ib (cut_some h1).2 with ⟨ib0,h3,h4⟩|h3
   ·exact .inl ⟨ib0,h3,h4.trans h2⟩
   ·exact .inr (h2▸h3)
  ·exact .inr (Nat.le_trans hd.heap h)
 ·intro b ib' hb
  rcases hext.dom b ib' hb with ⟨ib,h1⟩|h
  ·exact hd.dom0 b ib (cut_some h1).2
  ·exact .inr (Nat.le_trans (ht.memTo hcs 0 j (Nat.zero_le _) (by omega)).size h)
 ·intro c hc hf
  rw [hext.frame c (Nat.lt_of_lt_of_le hc hd.heap) ?_,hd.frame c hc hf]
  intro b ib hb he
  rcases hd.back b ib (cut_some hb).2 with ⟨ib0,h3,h4⟩|h3
  ·rcases hf b ib0 h3 (h4.trans he) with h5|h5
   ·refine .inl ?_
    show (S j).m.ro b=true
    rw [(ht.memTo hcs 0 j (Nat.zero_le _) (by omega)).ro' b (hb0 b ib0 h3)]
    exact h5
   ·exact .inr (Nat.lt_of_lt_of_le h5 hLow)
  ·omega
 ·have hlk:=unlisted_mono hj' hl
  have hne:=unlisted_ne hj' hl
  rcases hext.dom b ib hb with ⟨ib0,h1⟩|h
  ·exact hd.dfree b ib0 k (cut_some h1).2 hk hlk
  ·exact ht.apart hcs hjlt hk (Ne.symm hne) h (hdl b ib hb)
 ·have hlk:=unlisted_mono hj' hl
  have hne:=unlisted_ne hj' hl
  have hkj:k<j:=by omega
  rw [hkeep k hkj hn hlk b h1 h2]
  rcases Nat.lt_or_ge k jp with h|h
  ·rw [← hd.keepN k h hn hlk b h1 h2]
   exact ht.quietTo hcs jp j hd.h1 (by omega) (fun q q1 q2=>hd.h2 q q1 q2) b (Nat.lt_of_lt_of_le h2 (ht.memTo hcs (k+1) jp (by omega) (by have:=hd.h1;omega)).size)
  ·exact ht.quietTo hcs (k+1) j (by omega) (by omega) (fun q q1 q2=>hd.h2 q (by omega) q2) b h2
theorem DI.late {n:Nat} {ι ι0:Inj} {a:Act} {w w0:World} {listed:Array Bool} {jp jn j:Nat} {o:Oper} {v:Value} {m':Mem} {y:Nat} (ht:Trace P call ops S) (hcs:CallStep call) (hdr:drawOk ops=true)
 (hd:DI ds P G n ops S ι0 w0 listed ι a w jp jn) (ho:ops[j]?=some o) (hunl:listed.getD j false=false) (hall:∀ e∈o.after,Region.binds .any e=true→listed.getD e.on false=true)
 (hdn:∀ d,o.dst=some d→d<n) (hjp:j<jp) (hn:newsOp o.op=true) (hv:aval P call (ev (S j).t) o (setLow (S j).m (S j).m.size)=some (v,m')) (hm':(S (j+1)).m=setLow m' y)
 (htv:∀ d,o.dst=some d→tget (S (j+1)).t d=v) (hρ:∀ x∈o.op.operands,VRel (cut ι (S (max j jp)).m.size) (S jn).m.gen (ev (S j).t x) (a.eval x)) :
 ∃ v' w' ι',(execOp a.eval o).run P w=.ok (.value v') w'∧DI ds P G n ops S ι0 w0 (listed.setIfInBounds j true) ι' (a.put o.dst v') w' jp jn:=by
 have hjlt:j<ops.size:=(Array.getElem?_eq_some_iff.1 ho).1
 have hj':j<listed.size:=by rw [hd.lsz];exact hjlt
 have hpn:=hd.h1
 have hno:=hd.h1'
 obtain ⟨l,e,len,hvv,hmm,hrun⟩:=aval_news hn hv
 rw [Nat.max_eq_right (by omega)] at hρ
 obtain ⟨cs',hl,hcap,hrun⟩:=hrun _ _ _ hρ
 have hnews:newsAt ops j=true:=by unfold newsAt;rw [ho];exact hn
 obtain ⟨b0,hb0⟩:∃ b0,b0=(S j).m.size:=⟨_,rfl⟩
 have hs1:(S (j+1)).m.size=b0+1:=by rw [hm',hmm,hb0];rfl
 have hg1:(S (j+1)).m.get b0=.cells l e 0 false:=by
  rw [hm',hmm]
  show (Mem.alloc (setLow (S j).m (S j).m.size) (.cells l e 0 false)).get b0=_
  rw [Mem.get_alloc,if_pos (by rw [hb0];rfl)]
 have hsp:∀ i',jp≤i'→i'≤jn→b0<(S i').m.size:=fun i' h1 h2=>by
  have:=(ht.memTo hcs (j+1) i' (by omega) (by omega)).size;omega
 have hq:∀ i',jp≤i'→i'≤jn→∀ b,b<(S jp).m.size→(S i').m.get b=(S jp).m.get b:=fun i' h1 h2=>ht.quietTo hcs jp i' h1 (by omega) (fun k q1 q2=>hd.h2 k q1 (by omega))
 have hgi:∀ i',jp≤i'→i'≤jn→(S i').m.get b0=.cells l e 0 false:=fun i' h1 h2=>by
  rw [hq i' h1 h2 b0 (hsp jp (Nat.le_refl _) hpn),hd.keepN j hjp hnews hunl b0 (by omega) (by omega),hg1]
 have hfree:ι b0=none:=by
  cases hib:ι b0 with
  |none=>rfl
  |some ib=>exact absurd ⟨by omega,by omega⟩ (hd.dfree b0 ib j hib hjlt hunl)
 let ib0:IB:=⟨w.heap.size,0,cs'.size,P.cellsOf e⟩
 let ι':Inj:=fun b=>if b=b0 then some ib0 else ι b
 have hnew:ι' b0=some ib0:=if_pos rfl
 have hold:∀ b,b≠b0→ι' b=ι b:=fun b h=>if_neg h
 have holdS:∀ b ib,ι b=some ib→ι' b=some ib:=fun b ib hb=>by
  rw [hold b (fun h=>by rw [h,hfree] at hb;cases hb)];exact hb
 have hleS:∀ x g,Le (cut ι x) g (cut ι' x) g:=fun x g b ib hb=>by
  obtain ⟨h1,h2⟩:=cut_some hb
  exact ⟨Nat.le_refl _,ib,by rw [cut_lt h1];exact holdS b ib h2,fun _=>rfl⟩
 obtain ⟨w',hw'⟩:∃ w':World,w'={ w with heap:=w.heap.push (.cells cs' e (0,0)) }:=⟨_,rfl⟩
 have hheap:w.heap.size≤w'.heap.size:=by rw [hw'];simp only [Array.size_push];omega
 have f5:∀ c,c<w.heap.size→w'.heap[c]?=w.heap[c]?:=fun c hc=>by
  rw [hw']
  show (w.heap.push _)[c]?=w.heap[c]?
  rw [Array.getElem?_push,if_neg (by omega)]
 have hsims:∀ i',jp≤i'→i'≤jn→Sim P G (cut ι' (S i').m.size) (S i').m w':=fun i' h1 h2=>by
  have hs:=hd.sims i' h1 h2
  have cases2:∀ b ib,cut ι' (S i').m.size b=some ib→(b=b0∧ib=ib0)∨cut ι (S i').m.size b=some ib:=fun b ib hb=>by
   obtain ⟨q1,q2⟩:=cut_some hb
   by_cases e:b=b0
   ·rw [e,hnew] at q2;cases q2;exact .inl ⟨e,rfl⟩
   ·rw [hold b e] at q2;exact .inr (by rw [cut_lt q1];exact q2)
  refine ⟨fun b ib hb=>?_,fun b ib hb=>?_,fun b b' ib ib' hb hb' he=>?_,fun k hk=>?_⟩
  ·refine ⟨(cut_some hb).1,?_⟩
   rcases cases2 b ib hb with ⟨_,q⟩|q
   ·rw [q,hw'];show w.heap.size<(w.heap.push _).size;simp
   ·exact Nat.lt_of_lt_of_le (hs.dom b ib q).2 hheap
  ·rcases cases2 b ib hb with ⟨q1,q2⟩|q
   ·have hobj:w'.heap[ib.blk]?=some (.cells cs' e (0,0)):=by
     rw [q2,hw']
     show (w.heap.push _)[w.heap.size]?=_
     simp
    rw [hobj,q1,hgi i' h1 h2,q2]
    refine ⟨fun _=>rfl,rfl,rfl,fun i hi=>?_,fun _ j _=>by simp⟩
    obtain ⟨u,u1,u2⟩:=hl i hi
    refine ⟨u,by simpa [ib0] using u1,u2.mono fun b ib hb=>?_⟩
    obtain ⟨r1,r2⟩:=cut_some hb
    have hsz:=(ht.memTo hcs jp i' h1 (by omega)).size
    have e1:=gen_of_get (hq i' h1 h2 b r1)
    have e2:=gen_of_get (hq jn hpn (Nat.le_refl _) b r1)
    exact ⟨by rw [e1,e2];exact Nat.le_refl _,ib,by rw [cut_lt (by omega)];exact holdS b ib r2,fun _=>rfl⟩
   ·rw [f5 _ (hs.dom b ib q).2]
    exact (hs.blk b ib q).mono (hleS _ _)
  ·rcases cases2 b ib hb with ⟨p1,p2⟩|p
   ·rcases cases2 b' ib' hb' with ⟨q1,q2⟩|q
    ·exact .inl (p1.trans q1.symm)
    ·have:=(hs.dom b' ib' q).2
     rw [p2] at he
     simp only [ib0] at he
     omega
   ·rcases cases2 b' ib' hb' with ⟨q1,q2⟩|q
    ·have:=(hs.dom b ib p).2
     rw [q2] at he
     simp only [ib0] at he
     omega
    ·exact hs.inj b b' ib ib' p q he
  ·obtain ⟨ib,q1,q2,q3,q4,q5⟩:=hs.glob k hk
   obtain ⟨r1,r2⟩:=cut_some q1
   exact ⟨ib,by rw [cut_lt r1];exact holdS k ib r2,q2,q3,q4,q5⟩
 have hgN:(S jn).m.gen b0=0:=by unfold Mem.gen;rw [hgi jn hpn (Nat.le_refl _)];rfl
 obtain ⟨v1,v0⟩:=slots_put (v':=.slice (some ⟨w.heap.size,0,none⟩) len len) hcs (Nat.le_refl jp) (Nat.le_trans hd.h1 hd.h1') ht hdr ho hd.lsz hunl hd.tsz hdn (fun x=>hleS x (S jn).m.gen) (fun d hdd=>by
  rw [htv d hdd,hvv]
  refine .sl _ _ _ _ _ _ ⟨ib0,?_,Nat.zero_le _,Nat.le_refl _,fun _=>⟨rfl,rfl,.inr ⟨rfl,?_⟩⟩⟩
  ·have:(setLow (S j).m (S j).m.size).size=b0:=hb0.symm
   show cut ι' _ (setLow (S j).m (S j).m.size).size=_
   rw [this,cut_lt (by have:=hsp jp (Nat.le_refl _) hpn;rw [Nat.max_eq_right (by omega)];exact this)]
   exact hnew
  ·simpa [ib0] using hcap) hd.v1 hd.v0
 refine ⟨_,w',ι',by rw [hw'];exact hrun w,by simpa using hd.lsz,closed_set hd.cl hj' ho hall,hd.h1,hd.h1',hd.h2,?_,fun k hk htk hnk=>listed_mono hj' (hd.h4 k hk htk hnk),hsims,?_,?_,?_,v1,v0,?_,?_,?_,Nat.le_trans hd.heap hheap,
  fun c hc hf=>(f5 c (Nat.lt_of_lt_of_le hc hd.heap)).trans (hd.frame c hc hf),by rw [hw'];exact hd.tape,by rw [hw'];exact hd.os,by rw [hw'];exact hd.output,fun b ib k hb hk hlk=>?_,fun k hk hnk hlk=>hd.keepN k hk hnk (unlisted_mono hj' hlk)⟩
 ·rcases hd.h3 with h|⟨h1,h2⟩
  ·exact .inl h
  ·refine .inr ⟨h1,?_⟩
   rw [listed_set hj',if_neg (by omega)]
   exact h2
 ·intro b ib hb
  by_cases e:b=b0
  ·exact .inl (by rw [e];exact hsp jp (Nat.le_refl _) hpn)
  ·rw [hold b e] at hb
   rcases hd.dome b ib hb with h|⟨i,h1,h2⟩
   ·exact .inl h
   ·exact .inr ⟨i,listed_mono hj' h1,h2⟩
 ·cases hdd:o.dst<;>simp [Act.put,hd.tsz]
 ·cases hdd:o.dst<;>simp [Act.put,hd.tdef]
 ·exact hd.le.trans fun b ib hb=>⟨Nat.le_refl _,ib,holdS b ib hb,fun _=>rfl⟩
 ·intro b ib hb
  by_cases e:b=b0
  ·rw [e,hnew] at hb;cases hb
   exact .inr hd.heap
  ·rw [hold b e] at hb
   exact hd.back b ib hb
 ·intro b ib hb
  by_cases e:b=b0
  ·exact .inr (by have:=(ht.memTo hcs 0 j (Nat.zero_le _) (by omega)).size;omega)
  ·rw [hold b e] at hb
   exact hd.dom0 b ib hb
 ·by_cases e:b=b0
  ·exact ht.apart hcs hjlt hk (Ne.symm (unlisted_ne hj' hlk)) (by omega) (by omega)
  ·rw [hold b e] at hb
   exact hd.dfree b ib k hb hk (unlisted_mono hj' hlk)
end Go.Am
namespace Go.Am
variable {P:Program} {G:List Nat} {call:CallF} {ops:Array Oper} {S:Nat→St} {ds:List Deferred} {rf:Option Nat} {nn:Nat}
theorem base_blk {ρ:Operand→Value} {o:Oper} {m m':Mem} {v:Value} {x:Operand} {b:Nat} (hx:baseOp o.op=some x) (h:aval P call ρ o m=some (v,m')) (hv:blkV v=some b):blkV (ρ x)=some b:=by
 obtain ⟨dst,op,ty,pos,after,guard⟩:=o
 simp only at hx
 cases op<;>simp only [baseOp,reduceCtorEq,Option.some.injEq] at hx<;>subst hx<;>simp only [aval,aop] at h
 case move=>cases h;exact hv
 case assign=>cases h;exact hv
 case nilCheck y=>split at h<;>first|(rename_i e;rw [e];cases h;exact hv)|cases h
 case fieldAddr s y f =>
  repeat' split at h
  all_goals first
   |(cases h;rename_i e _ _ _ _ _;simp only [blkV] at hv ⊢;simp_all;done)
   |(cases h;simp_all [blkV];done)
   |cases h
 case indexAddr t y ix =>
  repeat' split at h
  all_goals first
   |(cases h;simp_all [blkV];done)
   |cases h
theorem appendCells_keep {m m':Mem} {e:TypeId} {size n b:Nat} {l:List Value} {s v:Value} (h:appendCells m e size l n s=some (v,m')) (hb:b<m.size) (hne:blkV s≠some b):m'.get b=m.get b:=by
 unfold appendCells at h
 split at h
 ·split at h
  ·cases h;rfl
  ·cases h;rw [Mem.get_alloc,if_neg (by omega)]
 ·split at h
  ·cases h;rfl
  ·cases h;rw [Mem.get_alloc,if_neg (by omega)]
 ·rename_i b0 off len g
  have hne':b0≠b:=fun e=>hne (by rw [e];rfl)
  split at h
  ·split at h
   ·split at h
    ·cases h;rw [Mem.get_put,if_neg hne']
    ·cases h
   ·cases h
  ·cases h
 ·cases h
theorem aappend_keep {aT:Array TypeId} {asW:Array Value} {m m':Mem} {v s:Value} {b:Nat} (hs:asW[0]?=some s) (h:aappend P aT asW m=some (v,m')) (hb:b<m.size) (hne:blkV s≠some b):m'.get b=m.get b:=by
 unfold aappend at h
 split at h
 ·rename_i sT s' x xT h1 h2 h3 h4
  rw [hs] at h2
  cases h2
  repeat' split at h
  all_goals first
   |exact appendCells_keep h hb hne
   |cases h
 ·cases h
theorem aval_writes {ρ:Operand→Value} {o:Oper} {m m':Mem} {v:Value} {x:Operand} {b:Nat} (hx:wrOp o.op=some x) (h:aval P call ρ o m=some (v,m')) (hb:b<m.size) (hne:blkV (ρ x)≠some b):m'.get b=m.get b:=by
 obtain ⟨dst,op,ty,pos,after,guard⟩:=o
 simp only at hx
 cases op<;>simp only [wrOp,reduceCtorEq,Option.some.injEq] at hx
 case store t a y =>
  subst hx
  simp only [aval,aop] at h
  split at h
  ·rename_i ad had
   rw [Option.map_eq_some_iff] at h
   obtain ⟨m1,h1,he⟩:=h
   cases he
   have hne':ad.block≠b:=fun e=>hne (by rw [had,← e];rfl)
   unfold astore at h1
   repeat' split at h1
   all_goals first
    |(unfold storeRow at h1
      split at h1
      ·split at h1
       ·cases h1;rw [Mem.get_put,if_neg hne']
       ·cases h1
      ·cases h1)
    |cases h1
  ·cases h
 case call c =>
  obtain ⟨callee,args,aT⟩:=c
  cases callee<;>try cases hx
  rename_i bi
  cases bi<;>try cases hx
  have hx':args[0]?=some x:=hx
  simp only [aval,aop] at h
  exact aappend_keep (s:=ρ x) (by rw [Array.getElem?_map,hx'];rfl) h hb hne
theorem blkV_undef:blkV undef=none:=rfl
theorem noWrite_spec {t:Tmp} {k:Nat} (h:noWrite ops k (.tmp t)=true) (q:Nat) (o:Oper) (hq:k≤q) (ho:ops[q]?=some o):o.dst≠some t:=by
 unfold noWrite at h
 simp only [List.all_eq_true,List.mem_range] at h
 have:=h q (Array.getElem?_eq_some_iff.1 ho).1
 simp only [Bool.or_eq_true,decide_eq_true_eq,show ¬ q<k by omega,false_or,ho,Option.bind_some,bne_iff_ne,ne_eq] at this
 exact this
theorem ev_stable (ht:Trace P call ops S) {k i:Nat} {r:Operand} (h:noWrite ops k r=true) (hki:k≤i) (hi:i≤ops.size):ev (S i).t r=ev (S k).t r:=by
 cases r with
 |tmp t=>exact ht.tmps t k i hki hi fun q o h1 _ ho=>noWrite_spec h q o h1 ho
 |const v=>rfl
 |global g=>rfl
 |func f=>rfl
theorem Trace.root (ht:Trace P call ops S) (hdr:drawOk ops=true) {i:Nat} (hi:i≤ops.size):∀ (f q:Nat) (r r':Operand) (b:Nat),q≤ops.size→rootOf ops i f q r=some r'→blkV (ev (S q).t r)=some b→blkV (ev (S i).t r')=some b
 |0,_,_,_,_,_,h,_=>by cases h
 |f+1,q,r,r',b,hq,h,hb=>by
  unfold rootOf at h
  split at h
  ·rename_i hn
   cases h
   rw [ev_stable ht hn (Nat.min_le_left _ _) hi,← ev_stable ht hn (Nat.min_le_right i q) hq]
   exact hb
  ·split at h
   ·rename_i t _
    split at h
    ·rename_i k hk
     split at h
     ·rename_i hkq
      split at h
      ·rename_i x hx
       have hdk:(ops[k]?).bind (·.dst)=some t:=by
        have:=List.find?_some hk
        simpa using this
       cases hok:ops[k]? with
       |none=>rw [hok] at hdk;cases hdk
       |some o =>
        rw [hok] at hdk hx
        simp only [Option.bind_some] at hdk hx
        obtain ⟨_,hdist⟩:=drawOk_spec hdr
        have e1:tget (S q).t t=tget (S (k+1)).t t:=ht.tmps t (k+1) q hkq hq fun p op hp _ hop=>(hdist k o t hok hdk p op hop (by omega)).1
        have hb':blkV (tget (S (k+1)).t t)=some b:=by rw [← e1];exact hb
        have hkl:=(Array.getElem?_eq_some_iff.1 hok).1
        rcases dstep_cases (ht.step k o hok) with ⟨_,htt,_⟩|⟨_,v,m',hv,htt,_⟩
        ·exfalso
         rw [htt,hdk] at hb'
         simp only [tput] at hb'
         rw [tget_tset,if_pos rfl,blkV_undef] at hb'
         cases hb'
        ·rw [htt,hdk] at hb'
         simp only [tput] at hb'
         rw [tget_tset,if_pos rfl] at hb'
         exact Trace.root ht hdr hi f k x r' b (by omega) h (base_blk hx hv hb')
      ·cases h
     ·cases h
    ·cases h
   ·cases h
theorem Trace.keepLoad (ht:Trace P call ops S) (hcs:CallStep call) (hdr:drawOk ops=true) {i j:Nat} {oi oj:Oper} {a:Operand} {b:Nat} (hi:ops[i]?=some oi) (hj:ops[j]?=some oj) (hl:isLoadOp oj.op=true) (hop:ldOp oj.op=some a) (hne:j≠i)
 (hun:ordered ops i j=false) (had:blkV (ev (S j).t a)=some b) (hlt:b<(S i).m.size):(S (i+1)).m.get b=(S i).m.get b:=by
 have hil:=(Array.getElem?_eq_some_iff.1 hi).1
 have hjl:=(Array.getElem?_eq_some_iff.1 hj).1
 rcases dstep_cases (ht.step i oi hi) with ⟨_,_,x,hm,_⟩|⟨_,v,m',hv,_,hm,hor⟩
 ·rw [hm];rfl
 ·rw [hm]
  show m'.get b=(S i).m.get b
  rcases hor with h|h|⟨h1,h2⟩|⟨h1,h2⟩
  ·have:=barrier_load h hj hl hne
   rw [hun] at this;cases this
  ·exact (aval_step hcs hv).keep _ hlt (Nat.lt_of_lt_of_le hlt h)
  ·unfold freeAt at h2
   rw [hi] at h2
   simp only [Option.bind_some] at h2
   split at h2
   ·rename_i w hw
    rw [List.all_eq_true] at h2
    have hmem':rootOf ops i 4 j a∈freeRoots ops i:=by
     unfold freeRoots
     rw [List.mem_filterMap]
     refine ⟨j,List.mem_range.2 hjl,?_⟩
     rw [hj]
     simp only [Option.bind_some,hop]
     rw [if_neg (by simp [hne,hun])]
    have h3:=h2 _ hmem'
    cases hr:rootOf ops i 4 j a with
    |none=>rw [hr] at h3;cases h3
    |some r =>
     rw [hr] at h3
     simp only at h3
     have hb:blkV (ev (S i).t r)=some b:=ht.root hdr (by omega) 4 j a r b (by omega) hr had
     rw [hb] at h3
     refine aval_writes (m:=setLow (S i).m (S i).m.size) hw hv hlt fun he=>?_
     rw [he] at h3
     simp [blkNe] at h3
   ·cases h2
  ·unfold leaveAt at h2
   rw [List.all_eq_true] at h2
   have hmem':rootOf ops i 4 j a∈freeRoots ops i:=by
    unfold freeRoots
    rw [List.mem_filterMap]
    refine ⟨j,List.mem_range.2 hjl,?_⟩
    rw [hj]
    simp only [Option.bind_some,hop]
    rw [if_neg (by simp [hne,hun])]
   have h3:=h2 _ hmem'
   cases hr:rootOf ops i 4 j a with
   |none=>rw [hr] at h3;cases h3
   |some r =>
    rw [hr] at h3
    simp only at h3
    have hb:blkV (ev (S i).t r)=some b:=ht.root hdr (by omega) 4 j a r b (by omega) hr had
    rw [hb] at h3
    exact @of_decide_eq_true _ (Classical.propDecidable _) h3
theorem VRel.blk {ι:Inj} {g:Nat→Nat} {u u':Value} {b:Nat} (h:VRel ι g u u') (hb:blkV u=some b):∃ ib,ι b=some ib:=by
 cases h<;>first|(cases hb;done)|skip
 case ptr har=>cases hb;obtain ⟨ib,h1,_⟩:=har;exact ⟨ib,h1⟩
 case sl hsr=>cases hb;obtain ⟨ib,h1,_⟩:=hsr;exact ⟨ib,h1⟩
theorem DI.load {n:Nat} {ι ι0:Inj} {a:Act} {w w0:World} {listed:Array Bool} {jp jn j:Nat} {o:Oper} {v:Value} {m':Mem} (ht:Trace P call ops S) (hcs:CallStep call) (hdr:drawOk ops=true)
 (hd:DI ds P G n ops S ι0 w0 listed ι a w jp jn) (ho:ops[j]?=some o) (hunl:listed.getD j false=false) (hall:∀ e∈o.after,Region.binds .any e=true→listed.getD e.on false=true)
 (hl:isLoadOp o.op=true) (hv:aval P call (ev (S j).t) o (setLow (S j).m (S j).m.size)=some (v,m')) (hρ:∀ x∈o.op.operands,VRel (cut ι (S (max j jp)).m.size) (S jn).m.gen (ev (S j).t x) (a.eval x)) :
 ∃ v',(execOp a.eval o).run P w=.ok (.value v') w∧VRel (cut ι (S (max (j+1) jp)).m.size) (S jn).m.gen v v':=by
 have hjlt:j<ops.size:=(Array.getElem?_eq_some_iff.1 ho).1
 have hpn:=hd.h1
 have hno:=hd.h1'
 obtain ⟨hback,_⟩:=drawOk_spec hdr
 obtain ⟨_,x,hxo,hxb,hrd⟩:=aval_reader hl hv
 have hxin:x∈o.op.operands:=by
  rcases loadOp hl with ⟨t,y,hop⟩|⟨t,y,lo,hi,hop⟩<;>rw [hop] at hxo ⊢<;>cases hxo<;>simp [Op.operands]
 have notBar:isBar P ops j=false:=by unfold isBar;rw [ho];simp [hl]
 obtain ⟨i',hi'⟩:∃ i',i'=max jp (min j jn):=⟨_,rfl⟩
 have dom:∀ b ib,cut ι (S (max j jp)).m.size b=some ib→b<(S i').m.size∧ι b=some ib:=fun b ib hb=>by
  obtain ⟨q1,q2⟩:=cut_some hb
  refine ⟨?_,q2⟩
  have q3:=hd.dom_lt ht hcs q2
  rcases Nat.lt_or_ge jn j with h|h
  ·rw [show i'=jn by omega];exact q3
  ·rw [show i'=max j jp by omega];exact q1
 have key:∀ b,blkV (ev (S j).t x)=some b→b<(S i').m.size∧(S i').m.get b=(S j).m.get b:=fun b hbv=>by
  obtain ⟨ib,hc1⟩:=(hρ x hxin).blk hbv
  obtain ⟨hbi,hb2⟩:=dom b ib hc1
  have hbn:=hd.dom_lt ht hcs hb2
  have hbj:b<(S j).m.size:=hxb b hbv
  refine ⟨hbi,?_⟩
  rcases Nat.lt_or_ge j jp with hlt|hge
  ·have e:i'=jp:=by omega
   rw [e]
   refine leInd (p:=fun k=>k≤jp→(S k).m.get b=(S j).m.get b) (fun _=>rfl) (fun k hk ih hkp=>?_) jp (by omega) (Nat.le_refl _)
   rw [← ih (by omega)]
   have hbk:b<(S k).m.size:=Nat.lt_of_lt_of_le hbj (ht.memTo hcs j k hk (by omega)).size
   cases hb:isBar P ops k with
   |false=>exact ht.quiet hcs (by omega) hb _ hbk
   |true =>
    obtain ⟨ok,hok⟩:=getOp (ops:=ops) (i:=k) (by omega)
    have hne:j≠k:=fun e=>by subst e;rw [notBar] at hb;cases hb
    refine ht.keepLoad hcs hdr hok ho hl hxo hne ?_ hbv hbk
    cases hord:ordered ops k j with
    |false=>rfl
    |true =>
     exfalso
     unfold ordered at hord
     rw [if_pos (by omega)] at hord
     have hlk:=hd.h4 k (by omega) (isBar_spec hb).1 (isBar_news hb)
     have:=closed_before hd.cl hback k ok j hok (hd.cl k ok hok hlk) hord
     rw [hunl] at this;cases this
  ·rcases Nat.lt_or_ge jn j with hlt|hge2
   ·have e:i'=jn:=by omega
    rw [e]
    have hun:isBar P ops jn=true∧listed.getD jn false=false:=by
     rcases hd.h3 with h|h
     ·omega
     ·exact h
    have hk:(S j).m.get b=(S jn).m.get b:=by
     refine leInd (p:=fun k=>k≤j→(S k).m.get b=(S jn).m.get b) (fun _=>rfl) (fun k hk ih hkp=>?_) j (by omega) (Nat.le_refl _)
     rw [← ih (by omega)]
     have hbk:b<(S k).m.size:=Nat.lt_of_lt_of_le hbn (ht.memTo hcs jn k hk (by omega)).size
     cases hb:isBar P ops k with
     |false=>exact ht.quiet hcs (by omega) hb _ hbk
     |true =>
      obtain ⟨ok,hok⟩:=getOp (ops:=ops) (i:=k) (by omega)
      have hulk:listed.getD k false=false:=by
       by_cases e:k=jn
       ·rw [e];exact hun.2
       ·cases hl:listed.getD k false with
        |false=>rfl
        |true =>
         have hbit:=((isBar_spec hun.1).2 k e (isBar_spec hb).1).2 (by omega)
         have:=closed_before hd.cl hback k ok jn hok (hd.cl k ok hok hl) hbit
         rw [hun.2] at this;cases this
      refine ht.keepLoad hcs hdr hok ho hl hxo (by omega) ?_ hbv hbk
      cases hord:ordered ops k j with
      |false=>rfl
      |true =>
       exfalso
       unfold ordered at hord
       rw [if_neg (by omega)] at hord
       have:=closed_before hd.cl hback j o k ho hall hord
       rw [hulk] at this;cases this
    exact hk.symm
   ·have e:i'=j:=by omega
    rw [e]
 have hgen:∀ b,b<(S i').m.size→(S jn).m.gen b=(S i').m.gen b:=fun b hb =>
  gen_of_get (ht.quietTo hcs i' jn (by omega) hno (fun k h1 h2=>hd.h2 k (by omega) h2) b hb)
 have hal':aval P call (ev (S j).t) o (S i').m=some (v,(S i').m):=hrd _ key
 have hs:=hd.sims i' (by omega) (by omega)
 have hρ':∀ y∈o.op.operands,VRel (cut ι (S i').m.size) (S i').m.gen (ev (S j).t y) (a.eval y):=fun y hy=>(hρ y hy).mono fun b ib hb=>by
  obtain ⟨q1,q2⟩:=dom b ib hb
  exact ⟨by rw [hgen b q1];exact Nat.le_refl _,ib,by rw [cut_lt q1];exact q2,fun _=>rfl⟩
 have run:∃ v',(execOp a.eval o).run P w=.ok (.value v') w∧VRel (cut ι (S i').m.size) (S i').m.gen v v':=by
  obtain ⟨dst,op,ty,pos,after,guard⟩:=o
  rcases loadOp hl with ⟨t,y,hop⟩|⟨t,y,lo,hi,hop⟩
  ·simp only at hop
   subst hop
   simp only [aval,aop] at hal'
   split at hal'
   ·rename_i ad had
    rw [Option.map_eq_some_iff] at hal'
    obtain ⟨u,hu,he⟩:=hal'
    cases he
    have hy:=hρ' y (by simp [Op.operands])
    rw [had] at hy
    have hsh:∃ a',a.eval y=.pointer (some a')∧ARel (cut ι (S i').m.size) (S i').m.gen ad a':=by generalize a.eval y=u at hy;cases hy;exact ⟨_,rfl,by assumption⟩
    obtain ⟨a',e1,har⟩:=hsh
    obtain ⟨v',hr,hvr⟩:=aload_sound hs har hu
    exact ⟨v',run_v (s:=Instr.loadAt t (a.eval y)) (by simp only [Instr.loadAt,e1,Instr.sureAddr,Sem.run_bind,Sem.run_pure,Result.andThen_ok];exact hr),hvr⟩
   ·cases hal'
  ·simp only at hop
   subst hop
   simp only [aval,aop,Option.map_none] at hal'
   rw [Option.map_eq_some_iff] at hal'
   obtain ⟨u,hu,he⟩:=hal'
   cases he
   obtain ⟨v',hr,hvr⟩:=slice_sound hs (hρ' y (by simp [Op.operands])) (ORel.map (o:=lo) fun z hz=>hρ' z (by subst hz;simp [Op.operands])) (ORel.map (o:=hi) fun z hz=>hρ' z (by subst hz;simp [Op.operands]))
    (mx':=none) (.inl ⟨rfl,rfl⟩) hu
   exact ⟨v',run_v hr,hvr⟩
 obtain ⟨v',hr,hvr⟩:=run
 refine ⟨v',hr,hvr.mono fun b ib0 hb=>?_⟩
 obtain ⟨q1,q2⟩:=cut_some hb
 have hsz:=(ht.memTo hcs i' (max (j+1) jp) (by omega) (by omega)).size
 exact ⟨by rw [hgen b q1];exact Nat.le_refl _,ib0,by rw [cut_lt (by omega)];exact q2,fun _=>rfl⟩
theorem semAt_of {n:Nat} {o:Oper} (h:operOk G n o=true) {ro:Option Nat} {ρ:Operand→Value}:o.semAt ro ρ=execOp ρ o:=Oper.semAt_eq _ _ _ fun c hc=>by
 unfold operOk at h;rw [hc] at h;simp at h
theorem DI.junk {n:Nat} {ι ι0:Inj} {a:Act} {w w0:World} {listed:Array Bool} {jp jn:Nat} (x:Obj) (hd:DI ds P G n ops S ι0 w0 listed ι a w jp jn):DI ds P G n ops S ι0 w0 listed ι a { w with heap:=w.heap.push x } jp jn :=
 ⟨hd.lsz,hd.cl,hd.h1,hd.h1',hd.h2,hd.h3,hd.h4,fun j h1 h2=>(hd.sims j h1 h2).junk x,hd.dome,hd.tsz,hd.tdef,hd.v1,hd.v0,hd.le,hd.back,hd.dom0,
  by have:=hd.heap;simp only [Array.size_push];omega,
  fun c hc hf=>by
   have:=hd.heap
   show (w.heap.push x)[c]?=w0.heap[c]?
   rw [Array.getElem?_push,if_neg (by omega)]
   exact hd.frame c hc hf,hd.tape,hd.os,hd.output,hd.dfree,hd.keepN⟩
theorem news_touches {k:Nat} (h:newsAt ops k=true):touches P ops k=true:=by
 unfold newsAt at h
 unfold touches
 cases hk:ops[k]? with
 |none=>rw [hk] at h;cases h
 |some o =>
  rw [hk] at h
  obtain ⟨dst,op,ty,pos,after,guard⟩:=o
  simp only at h ⊢
  cases op<;>simp only [newsOp,Bool.false_eq_true] at h
  simpa [quietKind,isLoadOp] using h
theorem wrOp_operand {o:Oper} {x:Operand} (h:wrOp o.op=some x):x∈o.op.operands:=by
 obtain ⟨dst,op,ty,pos,after,guard⟩:=o
 simp only at h ⊢
 cases op<;>simp only [wrOp,reduceCtorEq,Option.some.injEq] at h
 case store t a y=>subst h;simp [Op.operands]
 case call c =>
  obtain ⟨callee,args,aT⟩:=c
  cases callee<;>try cases h
  rename_i bi
  cases bi<;>try cases h
  have h':args[0]?=some x:=h
  have:=Array.mem_of_getElem? h'
  simp [Op.operands,Call.operands,this]
theorem draw_step {n:Nat} {ι ι0:Inj} {a:Act} {w w0:World} {listed:Array Bool} {jp jn j:Nat} (hc:CallSound P G call) (hcs:CallStep call) (ht:Trace P call ops S) (hdr:drawOk ops=true)
 (hops:∀ (i:Nat) (o:Oper),ops[i]?=some o→operOk G n o=true) (hG:∀ k,k∈G→k<(S 0).m.size) (hb0:∀ b ib,ι0 b=some ib→b<(S 0).m.size)
 (hd:DI ds P G n ops S ι0 w0 listed ι a w jp jn) (hr:j∈Region.ready .any ops listed) {K:Act→World→Prop} {Q:Exit→Act→World→Prop}
 (hK:∀ ι' a' w' jp' jn',DI ds P G n ops S ι0 w0 (listed.setIfInBounds j true) ι' a' w' jp' jn'→K a' w'):wpOpIn (WF rf) nn P ops Q j K a w:=by
 obtain ⟨hun,o,ho,hall⟩:=mem_ready.1 hr
 have hjlt:j<ops.size:=(Array.getElem?_eq_some_iff.1 ho).1
 have hunl:listed.getD j false=false:=by
  have hlt:j<listed.size:=by rw [hd.lsz];exact hjlt
  simp [hlt] at hun ⊢
  exact hun
 obtain ⟨hop,hdn⟩:=operOk_spec (hops j o ho)
 have hop':=hops j o ho
 obtain ⟨hback,_⟩:=drawOk_spec hdr
 have place:touches P ops j=true→(newsAt ops j=true∧j<jp)∨jp≤j∧(isBar P ops j=true→j=jn)∧(isBar P ops j=false→j<jn):=fun htch=>by
  by_cases hnl:newsAt ops j=true∧j<jp
  ·exact .inl hnl
  refine .inr ?_
  have h1:jp≤j:=by
   rcases Nat.lt_or_ge j jp with h|h
   ·have:=hd.h4 j h htch (by cases hx:newsAt ops j with|false=>rfl|true=>exact absurd ⟨hx,h⟩ hnl)
    rw [hunl] at this;cases this
   ·exact h
  have h2:j≤jn:=by
   rcases hd.h3 with h|⟨q1,q2⟩
   ·omega
   ·rcases Nat.lt_or_ge jn j with h|h
    ·obtain ⟨_,t2⟩:=isBar_spec q1
     have hbit:=(t2 j (by omega) htch).2 h
     have:=closed_before hd.cl hback j o jn ho hall hbit
     rw [q2] at this;cases this
    ·exact h
  refine ⟨h1,fun hb=>?_,fun hb=>?_⟩
  ·rcases Nat.lt_or_ge j jn with h|h
   ·have:=hd.h2 j h1 h
    rw [hb] at this;cases this
   ·omega
  ·rcases Nat.lt_or_ge j jn with h|h
   ·exact h
   ·have:j=jn:=by omega
    subst this
    rcases hd.h3 with h|⟨q1,_⟩
    ·omega
    ·rw [hb] at q1;cases q1
 have barTouch:isBar P ops j=true→touches P ops j=true:=fun h=>(isBar_spec h).1
 have placeB:isBar P ops j=true→j=jn:=fun h=>by
  rcases place (barTouch h) with ⟨h1,_⟩|h1
  ·rw [isBar_news h] at h1;cases h1
  ·exact h1.2.1 h
 unfold wpOpIn
 simp only [ho]
 rw [wanted_at ht hcs hdr hd ho hunl hall]
 rcases dstep_cases (ht.step j o ho) with ⟨hw,htt,x,hm,hx1,hx2⟩|⟨hw,v,m',hv,htt,hm,hor⟩
 ·rw [hw]
  simp only [Bool.false_eq_true,if_false]
  refine ⟨fun _ _=>trivial,?_⟩
  have htv:∀ d,o.dst=some d→tget (S (j+1)).t d=undef:=fun d hdd=>by
   rw [htt,hdd];simp only [tput];rw [tget_tset,if_pos rfl]
  cases hb:isBar P ops j with
  |true =>
   have hj:=placeB hb
   subst hj
   have hs:=(hd.sims j hd.h1 (Nat.le_refl _)).low (S j).m.size
   obtain ⟨ι',jp',jn',hd'⟩:=DI.bar (v:=undef) (v':=undef) (m':=setLow (S j).m (S j).m.size) (y:=x) ht hcs hdr hd ho hunl hall hdn hb0 hb (by rw [hm];rfl) hx2 htv (fun _ _ _ _ _ _ _=>by rw [hm];rfl) (Ext.refl _ _ _) hs VRel.undef
   exact hK _ _ _ _ _ hd'
  |false =>
   exact hK _ _ _ _ _ (DI.still hcs ht hdr hd ho hunl hall hdn hb fun d hdd=>by rw [htv d hdd];exact VRel.undef)
 ·rw [hw]
  simp only [if_true]
  have htv:∀ d,o.dst=some d→tget (S (j+1)).t d=v:=fun d hdd=>by
   rw [htt,hdd];simp only [tput];rw [tget_tset,if_pos rfl]
  have hρ:=operands_rel ht hcs hdr hd hG ho hunl hall hop
  by_cases hq:quietKind P o.op=true
  ·
   have hv':aop P (ev (S j).t) o (setLow (S j).m (S j).m.size)=some (v,m'):=by
    unfold aval at hv
    split at hv
    ·rename_i f args aT hopp
     rw [hopp] at hq
     simp [quietKind] at hq
    ·exact hv
   have hnt:touches P ops j=false:=by unfold touches;rw [ho];simp [hq]
   have hnb:isBar P ops j=false:=by
    cases hb:isBar P ops j with
    |false=>rfl
    |true=>have:=barTouch hb;rw [hnt] at this;cases this
   by_cases hns:∀ t len ps,o.op≠.buildSlice t len ps
   case neg =>
    obtain ⟨t,h0⟩:=Classical.not_forall.1 hns
    obtain ⟨len,h0⟩:=Classical.not_forall.1 h0
    obtain ⟨ps,h0⟩:=Classical.not_forall.1 h0
    obtain ⟨x,hx⟩:=build0_sound (Classical.not_not.1 h0) hq hρ hv'
    obtain ⟨hrun,hvr⟩:=hx w
    unfold Oper.wpIn
    rw [semAt_of hop',hrun]
    refine ⟨fun _ _=>trivial,?_⟩
    refine hK _ _ _ _ _ (DI.junk x (DI.still hcs ht hdr hd ho hunl hall hdn hnb fun d hdd=>?_))
    rw [htv d hdd]
    exact hvr.mono (Le.cut (ht.memTo hcs (max j jp) (max (j+1) jp) (by omega) (by have:=hd.h1;have:=hd.h1';omega)).size)
   obtain ⟨v',hrun,hvr⟩:=quiet_sound hq hns hρ hv'
   unfold Oper.wpIn
   rw [semAt_of hop',hrun w]
   refine ⟨fun _ _=>trivial,?_⟩
   refine hK _ _ _ _ _ (DI.still hcs ht hdr hd ho hunl hall hdn hnb fun d hdd=>?_)
   rw [htv d hdd]
   exact hvr.mono (Le.cut (ht.memTo hcs (max j jp) (max (j+1) jp) (by omega) (by have:=hd.h1;have:=hd.h1';omega)).size)
  by_cases hl:isLoadOp o.op=true
  ·obtain ⟨v',hrun,hvr⟩:=DI.load ht hcs hdr hd ho hunl hall hl hv hρ
   have hnb:isBar P ops j=false:=by unfold isBar;rw [ho];simp [hl]
   unfold Oper.wpIn
   rw [semAt_of hop',hrun]
   refine ⟨fun _ _=>trivial,?_⟩
   refine hK _ _ _ _ _ (DI.still hcs ht hdr hd ho hunl hall hdn hnb fun d hdd=>?_)
   rw [htv d hdd]
   exact hvr
  ·have htch:touches P ops j=true:=by unfold touches;rw [ho];simp [hq,hl]
   rcases place htch with ⟨hnw,hjl⟩|⟨hjp,hbarj,hnbj⟩
   ·have hn:newsOp o.op=true:=by unfold newsAt at hnw;rw [ho] at hnw;exact hnw
    obtain ⟨v',w',ι',hrun,hd'⟩:=DI.late ht hcs hdr hd ho hunl hall hdn hjl hn hv hm htv hρ
    unfold Oper.wpIn
    rw [semAt_of hop',hrun]
    refine ⟨fun _ _=>trivial,?_⟩
    exact hK _ _ _ _ _ hd'
   have hjn:j≤jn:=by
    cases hb:isBar P ops j with
    |true=>have:=hbarj hb;omega
    |false=>have:=hnbj hb;omega
   have hs:=(hd.sims j hjp hjn).low (S j).m.size
   rw [Nat.max_eq_left hjp] at hρ
   have hρ':∀ x∈o.op.operands,VRel (cut ι (S j).m.size) (setLow (S j).m (S j).m.size).gen (ev (S j).t x) (a.eval x):=fun x hx=>(hρ x hx).mono fun b ib hb=>by
    have hbl:=(cut_some hb).1
    have:=ht.quietTo hcs j jn hjn hd.h1' (fun k h1 h2=>hd.h2 k (by omega) h2) b hbl
    refine ⟨?_,ib,hb,fun _=>rfl⟩
    show (S jn).m.gen b≤(S j).m.gen b
    rw [gen_of_get this];exact Nat.le_refl _
   refine aval_sound hc hs hρ' hv fun v' w' hp=>?_
   obtain ⟨ι1,hext,hsim,hvr⟩:=hp
   cases hb:isBar P ops j with
   |true =>
    have hj:=hbarj hb
    subst hj
    have hkeep:∀ k,k<j→newsAt ops k=true→listed.getD k false=false→∀ b,(S k).m.size≤b→b<(S (k+1)).m.size→(S (j+1)).m.get b=(S j).m.get b:=fun k hk hnk hlk b h1 h2=>by
     have hbj:b<(S j).m.size:=Nat.lt_of_lt_of_le h2 (ht.memTo hcs (k+1) j (by omega) (by omega)).size
     have htk:touches P ops k=true:=news_touches hnk
     rw [hm]
     show m'.get b=(S j).m.get b
     have strict:barrier P ops j=true∨wbarC P ops j=true→m'.get b=(S j).m.get b:=fun h=>by
      have:=closed_before hd.cl hback j o k ho hall (barrier_news h hnk htk hk)
      rw [hlk] at this;cases this
     rcases hor with h|h|⟨h,_⟩|⟨h,_⟩
     ·exact strict (.inl h)
     ·exact (aval_step hcs hv).keep _ hbj (Nat.lt_of_lt_of_le hbj h)
     ·unfold wbar at h
      rw [Bool.and_eq_true,ho] at h
      obtain ⟨x,hx⟩:=Option.isSome_iff_exists.1 h.1
      refine aval_writes (m:=setLow (S j).m (S j).m.size) hx hv hbj fun he=>?_
      obtain ⟨ib,h3⟩:=(hρ' x (wrOp_operand hx)).blk he
      exact hd.dfree b ib k (cut_some h3).2 (by omega) hlk ⟨h1,h2⟩
     ·exact strict (.inr h)
    obtain ⟨ι',jp',jn',hd'⟩:=DI.bar (v:=v) (v':=v') (m':=m') ht hcs hdr hd ho hunl hall hdn hb0 hb hm (Nat.min_le_right _ _) htv hkeep hext hsim hvr
    exact hK _ _ _ _ _ hd'
   |false =>
    have hlow:(S j).m.size≤m'.low:=by
     by_cases hn:newsOp o.op=true
     ·obtain ⟨l,e,k,_,h2,_⟩:=aval_news hn hv
      rw [h2];exact Nat.le_refl _
     rcases hor with h|h|⟨h,_⟩|⟨h,_⟩
     ·exfalso
      unfold isBar at hb
      rw [ho] at hb
      simp [hq,hl,hn,h] at hb
     ·exact h
     ·exfalso
      unfold isBar at hb
      rw [ho] at hb
      simp [hq,hl,hn,h] at hb
     ·exfalso
      unfold isBar at hb
      rw [ho] at hb
      simp [hq,hl,hn,h] at hb
    obtain ⟨ι',hd'⟩:=DI.quiet (v:=v) (v':=v') ht hcs hdr hd ho hunl hall hdn hjp (hnbj hb) hm hlow (aval_step hcs hv) htv hext hsim hvr
    exact hK _ _ _ _ _ hd'
def unl (ops:Array Oper) (listed:Array Bool):Nat:=((List.range ops.size).filter fun i=>listed.getD i false==false).length
theorem unl_set {listed:Array Bool} {j:Nat} (hsz:listed.size=ops.size) (hj:j<ops.size) (hu:listed.getD j false=false):unl ops (listed.setIfInBounds j true)+1=unl ops listed:=by
 have hj':j<listed.size:=by omega
 have key:∀ (l:List Nat),l.Nodup→j∈l→(l.filter fun i=>(listed.setIfInBounds j true).getD i false==false).length+1=(l.filter fun i=>listed.getD i false==false).length:=by
  intro l
  induction l with
  |nil=>intro _ h;cases h
  |cons x l ih =>
   intro hn hm
   rw [List.nodup_cons] at hn
   by_cases e:x=j
   ·subst e
    have e1:l.filter (fun i=>(listed.setIfInBounds x true).getD i false==false)=l.filter (fun i=>listed.getD i false==false):=by
     apply List.filter_congr
     intro i hi
     rw [listed_set hj',if_neg (fun e=>by subst e;exact hn.1 hi)]
    rw [List.filter_cons,List.filter_cons,listed_set hj',if_pos rfl,hu,e1]
    simp
   ·have hm':j∈l:=by
     rcases List.mem_cons.1 hm with h|h
     ·exact absurd h.symm e
     ·exact h
    have:=ih hn.2 hm'
    rw [List.filter_cons,List.filter_cons,listed_set hj',if_neg e]
    split
    ·simp only [List.length_cons];omega
    ·omega
 exact key _ List.nodup_range (List.mem_range.2 hj)
theorem all_listed_of_ready {listed:Array Bool} (hsz:listed.size=ops.size) (hback:∀ (i:Nat) (o:Oper),ops[i]?=some o→∀ e∈o.after,Region.binds .any e=true→e.on<i) (h:Region.ready .any ops listed=[]) :
 ∀ i,i<ops.size→listed.getD i false=true:=by
 intro i
 induction i using Nat.strongRecOn with
 |_ i ih =>
  intro hi
  cases hl:listed.getD i false with
  |true=>rfl
  |false =>
   exfalso
   obtain ⟨o,ho⟩:=getOp hi
   have hil:i<listed.size:=by omega
   have:i∈Region.ready .any ops listed:=mem_ready.2 ⟨by simp [hil] at hl ⊢;exact hl,o,ho,fun e he hb=>by
    have hlt:=hback i o ho e he hb
    exact ih e.on hlt (by omega)⟩
   rw [h] at this
   cases this
theorem unl_zero {listed:Array Bool} (h:unl ops listed=0):∀ i,i<ops.size→listed.getD i false=true:=by
 intro i hi
 unfold unl at h
 have h0:=List.length_eq_zero_iff.1 h
 cases hl:listed.getD i false with
 |true=>rfl
 |false =>
  have:i∈(List.range ops.size).filter fun i=>listed.getD i false==false:=List.mem_filter.2 ⟨List.mem_range.2 hi,by rw [hl];rfl⟩
  rw [h0] at this
  cases this
theorem DI.done {n:Nat} {ι ι0:Inj} {a:Act} {w w0:World} {listed:Array Bool} {jp jn:Nat} (hcs:CallStep call) (ht:Trace P call ops S) (hd:DI ds P G n ops S ι0 w0 listed ι a w jp jn)
 (hall:∀ i,i<ops.size→listed.getD i false=true):Reach P G ds n ι0 (S 0) w0 (S ops.size) a w:=by
 have hjn:jn=ops.size:=by
  rcases hd.h3 with h|⟨h1,h2⟩
  ·exact h
  ·rcases Nat.lt_or_ge jn ops.size with h|h
   ·rw [hall jn h] at h2;cases h2
   ·have:=hd.h1';omega
 subst hjn
 have hm:=ht.memTo hcs 0 ops.size (Nat.zero_le _) (Nat.le_refl _)
 refine ⟨ι,⟨hm.size,hm.low,hm.keep,hm.ro,hm.ro',hd.le,hd.back,hd.dom0,hd.heap,hd.frame,hd.tape,hd.os,hd.output⟩,?_,hd.tsz,hd.tdef,fun t=>?_⟩
 ·refine (hd.sims ops.size hd.h1 (Nat.le_refl _)).congr fun b=>?_
  cases hib:ι b with
  |none =>
   unfold cut;split
   ·exact hib.symm
   ·rfl
  |some ib=>rw [cut_lt (hd.dom_lt ht hcs hib)];exact hib.symm
 ·by_cases hw:∃ (i:Nat) (oi:Oper),ops[i]?=some oi∧oi.dst=some t
  ·obtain ⟨i,oi,hi,hdi⟩:=hw
   exact (hd.v1 i oi t hi hdi (hall i (Array.getElem?_eq_some_iff.1 hi).1)).mono Le.uncut
  ·have h0:=hd.v0 t fun i oi hi hdi=>absurd ⟨i,oi,hi,hdi⟩ hw
   have e1:tget (S ops.size).t t=tget (S 0).t t:=ht.tmps t 0 ops.size (Nat.zero_le _) (Nat.le_refl _) fun k ok _ _ hok hdk=>hw ⟨k,ok,hok,hdk⟩
   rw [e1]
   exact h0.mono Le.uncut
theorem draw_any {n:Nat} {ι0:Inj} {w0:World} (hc:CallSound P G call) (hcs:CallStep call) (ht:Trace P call ops S) (hdr:drawOk ops=true)
 (hops:∀ (i:Nat) (o:Oper),ops[i]?=some o→operOk G n o=true) (hG:∀ k,k∈G→k<(S 0).m.size) (hb0:∀ b ib,ι0 b=some ib→b<(S 0).m.size) {Q:Exit→Act→World→Prop}
 (hQ:∀ a' w',Reach P G ds n ι0 (S 0) w0 (S ops.size) a' w'→Q .normal a' w'):∀ (fuel:Nat) (listed:Array Bool) (ι:Inj) (a:Act) (w:World) (jp jn:Nat),
 DI ds P G n ops S ι0 w0 listed ι a w jp jn→unl ops listed=fuel→wpAnyIn (WF rf) nn P .any ops Q fuel listed a w:=by
 obtain ⟨hback,_⟩:=drawOk_spec hdr
 intro fuel
 induction fuel with
 |zero =>
  intro listed ι a w jp jn hd hu
  have hall:=unl_zero hu
  refine ⟨?_,hQ a w (hd.done hcs ht hall)⟩
  rw [List.eq_nil_iff_forall_not_mem]
  intro j hj
  obtain ⟨h1,o,ho,_⟩:=mem_ready.1 hj
  have hjlt:=(Array.getElem?_eq_some_iff.1 ho).1
  have h2:=hall j hjlt
  have hjl:j<listed.size:=by rw [hd.lsz];exact hjlt
  simp [hjl] at h1 h2
  rw [h1] at h2;cases h2
 |succ fuel ih =>
  intro listed ι a w jp jn hd hu
  refine ⟨fun hr=>hQ a w (hd.done hcs ht (all_listed_of_ready hd.lsz hback hr)),fun j hj=>?_⟩
  refine draw_step hc hcs ht hdr hops hG hb0 hd hj fun ι' a' w' jp' jn' hd'=>ih _ ι' a' w' jp' jn' hd' ?_
  obtain ⟨h1,o,ho,_⟩:=mem_ready.1 hj
  have hjlt:=(Array.getElem?_eq_some_iff.1 ho).1
  have hjl:j<listed.size:=by rw [hd.lsz];exact hjlt
  have hunl:listed.getD j false=false:=by simp [hjl] at h1 ⊢;exact h1
  have:=unl_set (ops:=ops) hd.lsz hjlt hunl
  omega
theorem draw_sound (hc:CallSound P G call) (hcs:CallStep call) (hmix:P.follows .mixedOrders=true):DrawSound P G call:=by
 intro ds rf nn n id ops s s' ι a w Q hok hdr h hst hq
 obtain ⟨S,e0,eN,htr⟩:=dsteps_trace ops.toList 0 s s' h
 simp only [Nat.zero_add] at eN htr
 have hlen:ops.toList.length=ops.size:=by simp
 rw [hlen] at eN
 subst e0;subst eN
 have ht:Trace P call ops S:=⟨fun i o ho=>htr i o (by simpa using ho)⟩
 have hops:∀ (i:Nat) (o:Oper),ops[i]?=some o→operOk G n o=true:=fun i o ho=>hok o (by
  have:=Array.mem_of_getElem? ho
  simpa using this)
 have hG:∀ k,k∈G→k<(S 0).m.size:=fun k hk=>by
  obtain ⟨ib,h1,_⟩:=hst.1.glob k hk
  exact (hst.1.dom k ib h1).1
 have hb0:∀ b ib,ι b=some ib→b<(S 0).m.size:=fun b ib hb=>(hst.1.dom b ib hb).1
 refine wpIn_region_any hmix ?_
 have hnone:∀ i,(Array.replicate ops.size false).getD i false=false:=fun i=>by
  by_cases hi:i<ops.size<;>simp [hi]
 obtain ⟨jn,n1,n2,n3,n4⟩:=nextBar ops 0 (Nat.zero_le _)
 have hq0:∀ i',i'≤jn→∀ b,b<(S 0).m.size→(S i').m.get b=(S 0).m.get b:=fun i' h1=>ht.quietTo hcs 0 i' (Nat.zero_le _) (by omega) (fun k _ h2=>n3 k (Nat.zero_le _) (by omega))
 have hle:∀ x,Le (cut ι x) (S 0).m.gen (cut ι x) (S jn).m.gen:=fun x b ib hb=>by
  have:=hq0 jn (Nat.le_refl _) b (hb0 b ib (cut_some hb).2)
  exact ⟨by rw [gen_of_get this];exact Nat.le_refl _,ib,hb,fun _=>rfl⟩
 refine draw_any (ds:=ds) (S:=S) (ι0:=ι) (w0:={ w with drawn:=w.drawn+1 }) hc hcs ht hdr hops hG hb0 (fun a' w' hr=>hq a' w' ?_) ops.size _ ι a { w with drawn:=w.drawn+1 } 0 jn ?_ ?_
 ·obtain ⟨ι',h1,h2⟩:=hr
  exact ⟨ι',⟨h1.size,h1.low,h1.keep,h1.ro,h1.ro',h1.le,h1.back,h1.dom,h1.heap,h1.frame,h1.tape,h1.os,h1.output⟩,h2⟩
 ·refine ⟨by simp,(fun i o _ hl=>by rw [hnone] at hl;cases hl),Nat.zero_le _,n2,fun k _ h2=>n3 k (Nat.zero_le _) h2,?_,fun k hk=>by omega,fun i' _ h2=>?_,fun b ib hb=>.inl (hb0 b ib hb),hst.2.size,hst.2.defers,
   (fun i o t _ _ hl=>by rw [hnone] at hl;cases hl),fun t _=>?_,fun b ib hb=>?_,fun b ib hb=>.inl ⟨ib,hb,rfl⟩,fun b ib hb=>.inl ⟨ib,hb⟩,Nat.le_refl _,fun _ _ _=>rfl,rfl,rfl,rfl,
   fun b ib k hb hk _ h=>by have:=hb0 b ib hb;have:=(ht.memTo hcs 0 k (Nat.zero_le _) (by omega)).size;omega,fun k hk=>by omega⟩
  ·rcases n4 with h|h
   ·exact .inl h
   ·exact .inr ⟨h,hnone jn⟩
  ·have hsz:=(ht.memTo hcs 0 i' (Nat.zero_le _) (by omega)).size
   refine ((hst.1.drawn (w.drawn+1)).extend hsz (hq0 i' h2)).congr fun b=>?_
   cases hib:ι b with
   |none =>
    unfold cut;split
    ·exact hib
    ·rfl
   |some ib=>rw [cut_lt (Nat.lt_of_lt_of_le (hb0 b ib hib) hsz)];exact hib
  ·refine (hst.2.val t).mono fun b ib hb=>?_
   have hbl:=hb0 b ib hb
   have hc:cut ι (S 0).m.size b=some ib:=by rw [cut_lt hbl];exact hb
   obtain ⟨q1,ib',q2,q3⟩:=hle (S 0).m.size b ib hc
   exact ⟨q1,ib',q2,q3⟩
  ·have:=hq0 jn (Nat.le_refl _) b (hb0 b ib hb)
   exact ⟨by rw [gen_of_get this];exact Nat.le_refl _,ib,hb,fun _=>rfl⟩
 ·unfold unl
  rw [List.filter_eq_self.2 (fun i _=>by rw [hnone];rfl)]
  simp
end Go.Am
namespace Go.Am
variable {P:Program} {G:List Nat} {ds:List Deferred} {rf:Option Nat} {nn:Nat}
theorem asteps_step {call:CallF} (hc:CallStep call) {ops:Array Oper}:∀ (l:List Oper) (s s':St),asteps P call ops l s=some s'→MemStep s.m s'.m
 |[],s,s',h=>by cases h;exact MemStep.refl _
 |o::l,s,s',h=>by
  simp only [asteps] at h
  cases h1:astep P call ops o s with
  |none=>rw [h1] at h;cases h
  |some s1 =>
   rw [h1] at h
   refine MemStep.trans ?_ (asteps_step hc l s1 s' h)
   unfold astep at h1
   split at h1
   ·unfold aact at h1
    split at h1
    ·rename_i v m hv;cases h1;exact aval_step hc hv
    ·cases h1
   ·cases h1;exact MemStep.refl _
theorem dsteps_step {call:CallF} (hc:CallStep call) {ops:Array Oper}:∀ (l:List Oper) (i:Nat) (s s':St),dsteps P call ops i l s=some s'→MemStep s.m s'.m
 |[],i,s,s',h=>by cases h;exact MemStep.refl _
 |o::l,i,s,s',h=>by
  simp only [dsteps] at h
  cases h1:dstep P call ops i o s with
  |none=>rw [h1] at h;cases h
  |some s1 =>
   rw [h1] at h
   refine MemStep.trans ?_ (dsteps_step hc l (i+1) s1 s' h)
   rcases dstep_cases h1 with ⟨_,_,x,hm,hx,_⟩|⟨_,v,m',hv,_,hm,_⟩
   ·rw [hm];exact ⟨Nat.le_refl _,hx,fun _ _ _=>rfl,fun _ _ _=>rfl,fun _ _=>rfl⟩
   ·have hs:=aval_step hc hv
    rw [hm]
    exact ⟨hs.size,Nat.min_le_left _ _,fun b hb hl=>hs.keep b hb (Nat.lt_of_lt_of_le hl (Nat.min_le_right _ _)),fun b hb hr=>hs.ro b hb hr,fun b hb=>hs.ro' b hb⟩
theorem rangeRows_step {n:Nat} {asg body:St→Option (AExit×St)} {ask:Mem→Prop} {t:Tr Value} {ps:List Tmp} (ha:∀ s s' x,asg s=some (x,s')→MemStep s.m s'.m) (hb:∀ s s' x,body s=some (x,s')→MemStep s.m s'.m) :
 ∀ (rows:List (List Value)) (m m':Mem) (x:AExit),rangeRows n asg body ask t ps rows m=some (x,m')→MemStep m m'
 |[],m,m',x,h=>by
  simp only [rangeRows,Option.some.injEq,Prod.mk.injEq] at h
  rw [h.2];exact MemStep.refl _
 |vs::rest,m,m',x,h=>by
  obtain ⟨_,_,s1,e3,xb,s2,e5,e7⟩:=rangeRows_cons h
  have hs:=(ha _ _ _ e3).trans (hb _ _ _ e5)
  have h1:MemStep m (lowTo s2.m (min m.low s2.m.low)):=⟨hs.size,Nat.min_le_left _ _,fun b hb hl=>hs.keep b hb (Nat.lt_of_lt_of_le hl (Nat.min_le_right _ _)),fun b hb hr=>hs.ro b hb hr,fun b hb=>hs.ro' b hb⟩
  rcases e7 with ⟨_,_,q⟩|⟨_,_,q⟩
  ·exact h1.trans (rangeRows_step ha hb rest _ _ _ q)
  ·rw [q];exact h1
theorem aexec_step {call:CallF} (hc:CallStep call) {N:Nat}:∀ (c:Code) (s s':St) (x:AExit),aexec P call N c s=some (x,s')→MemStep s.m s'.m:=by
 intro c
 induction c with
 |skip=>intro s s' x h;cases h;exact MemStep.refl _
 |label l=>intro s s' x h;cases h;exact MemStep.refl _
 |ret=>intro s s' x h;cases h;exact MemStep.refl _
 |exit id=>intro s s' x h;cases h;exact MemStep.refl _
 |goto l=>intro s s' x h;cases h
 |scope b _=>intro s s' x h;cases h
 |refuse y=>intro s s' x h;cases h
 |rangeFunc f ps y z ihy ihz =>
  intro s s' x h
  simp only [aexec] at h
  split at h
  case h_2=>cases h
  split at h
  case h_2=>cases h
  split at h
  case isFalse=>cases h
  split at h
  case h_2=>cases h
  split at h
  case h_2=>cases h
  rw [Option.map_eq_some_iff] at h
  obtain ⟨⟨x1,m'⟩,hrun,he⟩:=h
  cases he
  exact rangeRows_step ihy ihz _ _ _ _ hrun
 |seq c1 c2 ih1 ih2 =>
  intro s s' x h
  simp only [aexec] at h
  cases h1:aexec P call N c1 s with
  |none=>rw [h1] at h;cases h
  |some r =>
   obtain ⟨x1,s1⟩:=r
   rw [h1] at h
   have:=ih1 s s1 x1 h1
   cases x1 with
   |normal=>exact this.trans (ih2 s1 s' x h)
   |ret=>cases h;exact this
   |exit id=>cases h;exact this
 |cond c0 c1 c2 ih1 ih2 =>
  intro s s' x h
  simp only [aexec] at h
  split at h
  ·exact ih1 s s' x h
  ·exact ih2 s s' x h
  ·cases h
 |block id b ih =>
  intro s s' x h
  simp only [aexec] at h
  cases h1:aexec P call N b s with
  |none=>rw [h1] at h;cases h
  |some r =>
   obtain ⟨x1,s1⟩:=r
   rw [h1] at h
   have:=ih s s1 x1 h1
   cases x1 with
   |normal=>cases h;exact this
   |ret=>cases h;exact this
   |exit i=>simp only at h;split at h<;>(cases h;exact this)
 |loop b ih =>
  intro s s' x h
  simp only [aexec] at h
  have key:∀ (k:Nat) (s s':St) (x:AExit),iterate (aexec P call N b) k s=some (x,s')→MemStep s.m s'.m:=by
   intro k
   induction k with
   |zero=>intro s s' x h;cases h
   |succ k ihk =>
    intro s s' x h
    simp only [iterate] at h
    cases h1:aexec P call N b s with
    |none=>rw [h1] at h;cases h
    |some r =>
     obtain ⟨x1,s1⟩:=r
     rw [h1] at h
     have:=ih s s1 x1 h1
     cases x1 with
     |normal=>exact this.trans (ihk s1 s' x h)
     |ret=>cases h;exact this
     |exit id=>cases h;exact this
  exact key N s s' x h
 |region id ops draw =>
  intro s s' x h
  cases draw with
  |false =>
   simp only [aexec,Option.map_eq_some_iff] at h
   obtain ⟨s1,h1,he⟩:=h
   cases he
   exact asteps_step hc _ _ _ h1
  |true =>
   simp only [aexec,Option.map_eq_some_iff] at h
   obtain ⟨s1,h1,he⟩:=h
   cases he
   exact dsteps_step hc _ _ _ _ h1
theorem tget_tmpsOf:∀ (l:List Value) (k:Nat) (t:Tr Value) (i:Nat),tget (tmpsOf k l t) i=if k≤i∧i<k+l.length then l.getD (i-k) undef else tget t i
 |[],k,t,i=>by simp only [tmpsOf];rw [if_neg (by simp)]
 |v::l,k,t,i=>by
  simp only [tmpsOf]
  rw [tget_tmpsOf l (k+1) (tset t k v) i,tget_tset]
  by_cases h1:k+1≤i∧i<k+1+l.length
  ·rw [if_pos h1,if_pos (by simp only [List.length_cons];omega)]
   have:i-k=(i-(k+1))+1:=by omega
   rw [this,List.getD_cons_succ]
  ·rw [if_neg h1]
   by_cases h2:k=i
   ·subst h2
    rw [if_pos rfl,if_pos (by simp only [List.length_cons];omega)]
    simp
   ·rw [if_neg h2,if_neg (by simp only [List.length_cons];omega)]
def resSem (tmps:Array Value):ResultVar→Sem Value
 | .tmp t=>pure (tmps.getD t undef)
 | .cell a t=>do loadVar t (← asAddr (tmps.getD a undef))
theorem resultOf_sound {ι:Inj} {s:St} {n:Nat} {a:Act} {w:World} (hst:Stands P G ds n s ι a w) {r:ResultVar} {v:Value} (h:resultOf P s r=some v) :
 ∃ v',(resSem a.tmps r).run P w=.ok v' w∧VRel ι s.m.gen v v':=by
 cases r with
 |tmp t=>cases h;exact ⟨_,rfl,hst.2.val t⟩
 |cell c t =>
  simp only [resultOf] at h
  have hv:=hst.2.val c
  cases hc:tget s.t c<;>rw [hc] at h hv<;>first|(cases h;done)|skip
  rename_i ad
  cases ad with
  |none=>cases h
  |some ad =>
   obtain ⟨a',e1,har⟩:∃ a',a.tmps.getD c undef=.pointer (some a')∧ARel ι s.m.gen ad a':=by
    generalize a.tmps.getD c undef=u at hv
    cases hv;exact ⟨_,rfl,by assumption⟩
   obtain ⟨v',hr,hvr⟩:=aload_sound hst.1 har h
   exact ⟨v',by simp only [resSem,e1,asAddr,Sem.run_bind,Sem.run_pure,Result.andThen_ok];exact hr,hvr⟩
theorem listAll_sound {ι:Inj} {s:St} {n:Nat} {a:Act} {w:World} (hst:Stands P G ds n s ι a w):∀ (rs:List ResultVar) (vs:List Value),listAll (resultOf P s) rs=some vs →
 ∃ vs',(rs.mapM (resSem a.tmps)).run P w=.ok vs' w∧LRel ι s.m.gen vs vs'
 |[],vs,h=>by cases h;exact ⟨[],rfl,LRel.nil⟩
 |r::rs,vs,h=>by
  simp only [listAll] at h
  split at h
  ·rename_i v l h1 h2
   cases h
   obtain ⟨v',q1,q2⟩:=resultOf_sound hst h1
   obtain ⟨l',r1,r2⟩:=listAll_sound hst rs l h2
   refine ⟨v'::l',?_,LRel.cons q2 r2⟩
   rw [List.mapM_cons]
   simp only [Sem.run_bind,q1,Result.andThen_ok,r1,Sem.run_pure]
  ·cases h
theorem resultsOf_sound {ι:Inj} {s:St} {n:Nat} {a:Act} {w:World} {fn:Func} {v:Value} (hst:Stands P G ds n s ι a w) (h:resultsOf P fn s=some v) :
 ∃ v',(results fn a.tmps).run P w=.ok v' w∧VRel ι s.m.gen v v':=by
 have heq:results fn a.tmps=(do let vs ← fn.results.mapM (resSem a.tmps);pure (if h:vs.size=1 then vs[0] else .tuple vs)):=by
  unfold results
  first
   |rfl
   |(congr 1;congr 1;funext r;cases r<;>rfl)
 unfold resultsOf at h
 have run:∀ vs,listAll (resultOf P s) fn.results.toList=some vs→∃ vs':List Value,LRel ι s.m.gen vs vs'∧(results fn a.tmps).run P w=.ok (if h:vs'.toArray.size=1 then vs'.toArray[0] else .tuple vs'.toArray) w:=fun vs hvs=>by
  obtain ⟨vs',h1,h2⟩:=listAll_sound hst _ _ hvs
  refine ⟨vs',h2,?_⟩
  rw [heq,Array.mapM_eq_mapM_toList]
  simp only [Sem.run_bind,Sem.run_map,h1,Result.andThen_ok,Sem.run_pure]
 split at h
 ·rename_i v0 hl
  cases h
  obtain ⟨vs',h1,h2⟩:=run _ hl
  obtain ⟨v',k',rfl,hv,hk⟩:=h1.uncons
  have:k'=[]:=List.length_eq_zero_iff.1 hk.1.symm
  subst this
  exact ⟨v',by rw [h2];simp,hv⟩
 ·rename_i vs hne hl
  cases h
  obtain ⟨vs',h1,h2⟩:=run _ hl
  have hlen:vs'.length≠1:=fun e=>by
   have:vs.length=1:=h1.1.trans e
   match vs,this with
   |[x],_=>exact hne x rfl
  exact ⟨.tuple vs'.toArray,by rw [h2];simp [hlen],.tuple vs vs' h1.1 h1.2⟩
 ·cases h
def SeqFn (P:Program) (G:List Nat) (f:FuncId) (F:List Value→Mem→Option (Value×Mem)):Prop:=∀ (fn:Func) (lb:List Value) (m m1:Mem) (v:Value) (rows:List (List Value)),P.funcs[f]?=some fn→F (seqAs fn.ntmps lb) m=some (v,m1)→seqRows v=some rows →
 ∀ (ι:Inj) (w:World) (lb':Array Value),Sim P G ι m w→LRel ι m.gen lb lb'.toList→SeqOf P f lb' rows (SeqInv P G (fun m'=>∃ m1',F (seqAs fn.ntmps lb) m'=some (v,m1')) ι m.gen lb lb') w
theorem seqAs_cons (n:Nat) (lb:List Value):seqAs n lb=seqMark::(List.replicate n seqMark++lb):=rfl
theorem SeqFn.none {f:FuncId} {F:List Value→Mem→Option (Value×Mem)} (h:∀ n lb m,F (seqAs n lb) m=none):SeqFn P G f F:=fun fn lb m m1 v rows _ h1=>by rw [h] at h1;cases h1
def OSound (P:Program) (G:List Nat) (O:Oracle):Prop:=∀ f F,O f=some F→FnSound P G f F∧(∀ asW m v m',F asW m=some (v,m')→MemStep m m')∧Enters P f∧SeqFn P G f F
theorem acall_step {O:Oracle} {N:Nat} (hO:OSound P G O):∀ D,CallStep (acall P O G N D)
 |0=>fun f asW m v m' h=>by cases h
 |D+1=>fun f asW m v m' h=>by
  simp only [acall] at h
  split at h
  ·rename_i r hF
   rw [Option.bind_eq_some_iff] at hF
   obtain ⟨F,hF,hr⟩:=hF
   cases h
   exact (hO f F hF).2.1 asW m v m' hr
  ·split at h
   ·cases h
   ·split at h
    ·cases h
    ·split at h
     ·split at h
      ·rename_i s' hx
       rw [Option.map_eq_some_iff] at h
       obtain ⟨u,_,h2⟩:=h
       cases h2
       exact aexec_step (acall_step hO D) _ _ _ _ hx
      ·rename_i s' hx
       rw [Option.map_eq_some_iff] at h
       obtain ⟨u,_,h2⟩:=h
       cases h2
       exact aexec_step (acall_step hO D) _ _ _ _ hx
      ·cases h
     ·cases h
theorem seqAs_length (n:Nat) (lb:List Value):n<(seqAs n lb).length:=by unfold seqAs;simp;omega
theorem acall_seq {O:Oracle} {N:Nat} (hO:OSound P G O):∀ D,SeqSound P G (acall P O G N D)
 |0=>fun g fn lb m m1 v rows _ h=>by cases h
 |D+1=>fun g fn lb m m1 v rows hfn h hr=>by
  have hrun:∀ m',(O g).bind (fun F=>F (seqAs fn.ntmps lb) m')=none→acall P O G N (D+1) g (seqAs fn.ntmps lb) m'=none:=fun m' h0=>by
   have:=seqAs_length fn.ntmps lb
   simp only [acall,h0,hfn]
   split
   ·rfl
   ·rw [if_neg (by simp only [Bool.and_eq_true,decide_eq_true_eq];omega)]
  have hall:∀ m',acall P O G N (D+1) g (seqAs fn.ntmps lb) m'=(O g).bind (fun F=>F (seqAs fn.ntmps lb) m'):=fun m'=>by
   cases h0:(O g).bind (fun F=>F (seqAs fn.ntmps lb) m') with
   |none=>exact hrun m' h0
   |some r=>simp only [acall,h0]
  rw [hall] at h
  rw [Option.bind_eq_some_iff] at h
  obtain ⟨F,hg,hF⟩:=h
  obtain ⟨_,_,h3,h4⟩:=hO g F hg
  refine ⟨h3,fun ι w lb' hs hl=>?_⟩
  simp only [hall,hg,Option.bind_some]
  exact h4 fn lb m m1 v rows hfn hF hr ι w lb' hs hl
theorem sim_put' {ι:Inj} {m:Mem} {W:World} {l:Nat} {ds:List Deferred} (hs:Sim P G ι m W) (ho:W.heap[l]?=some (.deferred (some ds))) (x:Obj):Sim P G ι m (W.putObj l x):=by
 have hg:=grownBy_putObj' W l x
 refine ⟨fun b ib hb=>⟨(hs.dom b ib hb).1,Nat.lt_of_lt_of_le (hs.dom b ib hb).2 hg.size⟩,fun b ib hb=>?_,hs.inj,hs.glob⟩
 rw [hg.block ib.blk (hs.dom b ib hb).2 ?_];exact hs.blk b ib hb
 intro e
 have e':ib.blk=l:=by cases e;rfl
 have h4:=hs.blk b ib hb
 rw [e',ho] at h4
 obtain ⟨_,_,h5⟩:=brel_not h4 rfl
 cases h5
theorem Marks.put {B:Nat} {w:World} {D:Nat} {x:Obj}:∀ {ds:List Deferred},(∀ d'∈ds,d'≠{ target:=.collected D,args:=#[] })→Marks B w ds→Marks B (w.putObj D x) ds
 |[],_,h=>by
  have:B≤w.heap.size:=h
  simpa [Marks] using this
 |d::ds,hn,⟨⟨D',e,hBD,hD,hne⟩,hr⟩=>by
  refine ⟨⟨D',e,hBD,?_,hne⟩,Marks.put (fun d' hd=>hn d' (List.mem_cons_of_mem _ hd)) hr⟩
  rw [World.putObj_heap_other (fun e'=>hn d (List.mem_cons_self ..) (by rw [e,e']))];exact hD
theorem leaves_marks {fn:Func} {tmps:Array Value} {R:Ending→World→Prop} {ι:Inj} {m:Mem} {B:Nat}:∀ (ds:List Deferred) (w:World),Marks B w ds→Sim P G ι m w →
 (∀ w',Sim P G ι m w'→w.heap.size≤w'.heap.size→(∀ c,c<B→w'.heap[c]?=w.heap[c]?)→w'.tape=w.tape→w'.os=w.os→w'.output=w.output→LeavesIn Fence.wide 0 P fn tmps R [] .returning w')→LeavesInM Fence.wide 0 P fn tmps R ds .returning w
 |[],w,_,hs,h=>h w hs (Nat.le_refl _) (fun _ _=>rfl) rfl rfl rfl
 |d::ds,w,⟨⟨D,e,hBD,hD,hne⟩,hr⟩,hs,h=>by
  refine ⟨(by simp),.inl ⟨D,_,by rw [e],run_takeDeferred hD,?_⟩⟩
  have hlt:=(Array.getElem?_eq_some_iff.1 hD).1
  have hot:∀ c,c≠D→(w.putObj D (.deferred none)).heap[c]?=w.heap[c]?:=fun c hc=>World.putObj_heap_other hc
  refine leaves_marks ds _ ?_ ?_ fun w' h1 h2 h3 h4 h5 h6=>h w' h1 (by simpa using h2) (fun c hc=>(h3 c hc).trans (hot c (by omega))) h4 h5 h6
  ·rw [e] at hne;exact Marks.put hne hr
  ·exact sim_put' hs hD _
theorem acall_sound {O:Oracle} {N:Nat} (hO:OSound P G O) (hmix:P.follows .mixedOrders=true):∀ D,CallSound P G (acall P O G N D)
 |0=>fun f=>⟨(fun asW m v m' h=>by cases h),(fun asW m r h=>by cases h)⟩
 |D+1=>fun f=>by
  have hcs:=acall_step (N:=N) hO D
  have hc:=acall_sound (N:=N) hO hmix D
  refine ⟨fun asW m v m' h ι w as' hs hargs=>?_,fun asW m r h=>?_⟩
  ·simp only [acall] at h
   split at h
   ·rename_i r hF
    rw [Option.bind_eq_some_iff] at hF
    obtain ⟨F,hF,hr⟩:=hF
    cases h
    exact (hO f F hF).1 asW m v m' hr ι w as' hs hargs
   ·split at h
    ·cases h
    ·rename_i fn hfn
     split at h
     ·cases h
     ·rename_i c hb
      split at h
      ·rename_i hok
       simp only [Bool.and_eq_true,decide_eq_true_eq] at hok
       obtain ⟨hok1,hlen⟩:=hok
       unfold fnOk at hok1
       simp only [Bool.and_eq_true] at hok1
       have hlen':as'.size=asW.length:=by have:=hargs.1;simpa using this.symm
       have hst:Stands P G [] fn.ntmps { t:=tmpsOf 0 asW .leaf,m:=m } ι { tmps:=as'++Array.replicate (fn.ntmps-as'.size) undef,defers:=[] } w:=by
        refine ⟨hs,by simp;omega,rfl,fun i=>?_⟩
        rw [tget_tmpsOf]
        by_cases hi:i<asW.length
        ·rw [if_pos (by omega)]
         have h1:=hargs.2 i hi
         have hi':i<as'.size:=by omega
         have e:(as'++Array.replicate (fn.ntmps-as'.size) undef).getD i undef=as'.toList.getD i undef:=by
          rw [Array.getD_eq_getD_getElem?,Array.getElem?_append_left hi',getD_eq,Array.getElem?_toList]
         rw [e,Nat.sub_zero]
         exact h1
        ·rw [if_neg (by omega)]
         have e1:tget (.leaf:Tr Value) i=undef:=Tr.get_leaf _ _
         have e2:(as'++Array.replicate (fn.ntmps-as'.size) undef).getD i undef=undef:=by
          rw [Array.getD_eq_getD_getElem?,Array.getElem?_append_right (by omega)]
          by_cases hr:i-as'.size<fn.ntmps-as'.size
          ·simp [hr]
          ·simp [hr]
         rw [e1,e2]
         exact VRel.undef
       have main:∀ (x:AExit) (s':St),aexec P (acall P O G N D) N c { t:=tmpsOf 0 asW .leaf,m:=m }=some (x,s')→(x=.normal∨x=.ret)→(resultsOf P fn s').map (fun v=>(v,s'.m))=some (v,m') →
        Calls P f as' w fun e w'=>∃ v',e=.returned v'∧Post P G ι m w v m' v' w':=fun x s' hx hxx hres=>by
        rw [Option.map_eq_some_iff] at hres
        obtain ⟨v0,hr0,he⟩:=hres
        cases he
        refine (callsIn_wide (n:=0)).1 (callsIn_of_wp_marks hfn hb trivial ?_)
        refine (wpIn_wide (n:=0)).2 ((wpIn_wide (n:=0)).1 (aexec_sound hc (acall_seq hO D) (draw_sound hc hcs hmix) c w.heap.size [] none 0 _ s' x ι _ w _ (.inl rfl) hok1.2 hx hst (Nat.le_refl _) fun ds' a' w' hr hm' _=>?_))
        obtain ⟨ι',hext,hst'⟩:=hr
        have hpost:LeavesInM Fence.wide 0 P fn a'.tmps (fun e w'=>∃ v',e=.returned v'∧Post P G ι m w v s'.m v' w') a'.defers .returning w':=by
         rw [hst'.2.defers]
         refine leaves_marks ds' w' hm' hst'.1 fun w'' h1 h2 h3 h4 h5 h6=>?_
         have hst2:Stands P G ds' fn.ntmps s' ι' a' w'':=⟨h1,hst'.2⟩
         obtain ⟨v',q1,q2⟩:=resultsOf_sound hst2 hr0
         refine ⟨v',q1,v',rfl,ι',?_,h1,q2⟩
         exact ⟨hext.size,hext.low,hext.keep,hext.ro,hext.ro',hext.le,hext.back,hext.dom,Nat.le_trans hext.heap h2,fun c hc' hf=>(h3 c hc').trans (hext.frame c hc' hf),h4.trans hext.tape,h5.trans hext.os,h6.trans hext.output⟩
        rcases hxx with rfl|rfl<;>exact hpost
       split at h
       ·rename_i s' hx;exact main .normal s' hx (.inl rfl) h
       ·rename_i s' hx;exact main .ret s' hx (.inr rfl) h
       ·cases h
      ·cases h
  ·simp only [acall] at h
   split at h
   ·rename_i r hF
    rw [Option.bind_eq_some_iff] at hF
    obtain ⟨F,hF,_⟩:=hF
    exact (hO f F hF).2.2.1
   ·split at h
    ·cases h
    ·rename_i fn hfn
     split at h
     ·cases h
     ·rename_i c hb
      split at h
      ·rename_i hok
       simp only [Bool.and_eq_true,decide_eq_true_eq] at hok
       have hok1:=hok.1
       unfold fnOk at hok1
       simp only [Bool.and_eq_true,Bool.not_eq_true'] at hok1
       exact ⟨fn,hfn,by rw [hb];rfl,hok1.1⟩
      ·cases h
end Go.Am
namespace Go.Am
variable {P:Program} {G:List Nat}
def AllRo (m:Mem):Prop:=∀ b,b<m.size→m.ro b=true
structure Grow (ι:Inj) (m:Mem) (ι':Inj) (m':Mem):Prop where
 le:Le ι m.gen ι' m'.gen
 size:m.size≤m'.size
 get:∀ b,b<m.size→m'.get b=m.get b
theorem Grow.refl (ι:Inj) (m:Mem):Grow ι m ι m:=⟨Le.refl _ _,Nat.le_refl _,fun _ _=>rfl⟩
theorem Grow.trans {ι ι' ι'':Inj} {m m' m'':Mem} (h:Grow ι m ι' m') (k:Grow ι' m' ι'' m''):Grow ι m ι'' m'' :=
 ⟨h.le.trans k.le,Nat.le_trans h.size k.size,fun b hb=>(k.get b (Nat.lt_of_lt_of_le hb h.size)).trans (h.get b hb)⟩
theorem open_block {ι:Inj} {m:Mem} {W:World} {c sh:Nat} {cs:Array Value} {e e':TypeId} {fr:Nat×Nat} {vs:List Value} (hs:Sim P G ι m W) (hro:AllRo m)
 (hc:W.heap[c]?=some (.cells cs e' fr)) (hv:∀ i,i<vs.length→∃ v',cs[sh+i]?=some v'∧VRel ι m.gen (vs.getD i undef) v') :
 ∃ ι',Sim P G ι' (m.alloc (.cells vs e 0 true)) W∧ι' m.size=some ⟨c,sh,cs.size,P.cellsOf e⟩∧Grow ι m ι' (m.alloc (.cells vs e 0 true))∧AllRo (m.alloc (.cells vs e 0 true)):=by
 have hget:∀ b,b<m.size→(m.alloc (.cells vs e 0 true)).get b=m.get b:=fun b hb=>by rw [Mem.get_alloc,if_neg (by omega)]
 have hgen:∀ b,b<m.size→(m.alloc (.cells vs e 0 true)).gen b=m.gen b:=fun b hb=>gen_of_get (hget b hb)
 have hself:(m.alloc (.cells vs e 0 true)).get m.size=.cells vs e 0 true:=by rw [Mem.get_alloc,if_pos rfl]
 have hroA:AllRo (m.alloc (.cells vs e 0 true)):=fun b hb=>by
  by_cases h:b=m.size
  ·subst h;exact Mem.ro_eq hself
  ·have:b<m.size:=by simp only [Mem.alloc] at hb;omega
   rw [ro_of_get (hget b this)];exact hro b this
 let ι':Inj:=fun b=>if b=m.size then some ⟨c,sh,cs.size,P.cellsOf e⟩ else ι b
 have hle:Le ι m.gen ι' (m.alloc (.cells vs e 0 true)).gen:=fun b ib hb=>by
  have hlt:=(hs.dom b ib hb).1
  refine ⟨by rw [hgen b hlt];exact Nat.le_refl _,ib,?_,fun _=>rfl⟩
  show (if b=m.size then _ else ι b)=some ib
  rw [if_neg (by omega)];exact hb
 have hclt:c<W.heap.size:=(Array.getElem?_eq_some_iff.1 hc).1
 refine ⟨ι',⟨fun b ib hb=>?_,fun b ib hb=>?_,fun b b' ib ib' hb hb' he=>?_,fun k hk=>?_⟩,if_pos rfl,⟨hle,by simp [Mem.alloc],hget⟩,hroA⟩
 ·change (if b=m.size then some _ else ι b)=some ib at hb
  split at hb
  ·cases hb;exact ⟨by simp [Mem.alloc];omega,hclt⟩
  ·have:=hs.dom b ib hb
   exact ⟨by simp only [Mem.alloc];omega,this.2⟩
 ·change (if b=m.size then some _ else ι b)=some ib at hb
  split at hb
  ·rename_i hbe;cases hb;subst hbe
   rw [hself,hc]
   refine ⟨(fun h=>by cases h),rfl,rfl,fun i hi=>?_,(fun h=>by cases h)⟩
   obtain ⟨v',h1,h2⟩:=hv i hi
   exact ⟨v',h1,h2.mono hle⟩
  ·rw [hget b (hs.dom b ib hb).1]
   exact (hs.blk b ib hb).mono hle
 ·refine .inr ⟨hroA b ?_,hroA b' ?_⟩
  ·change (if b=m.size then some _ else ι b)=some ib at hb
   split at hb
   ·simp [Mem.alloc];omega
   ·have:=(hs.dom b ib hb).1;simp only [Mem.alloc];omega
  ·change (if b'=m.size then some _ else ι b')=some ib' at hb'
   split at hb'
   ·simp [Mem.alloc];omega
   ·have:=(hs.dom b' ib' hb').1;simp only [Mem.alloc];omega
 ·obtain ⟨ib,h1,h2,h3,h4,h5⟩:=hs.glob k hk
  have hlt:=(hs.dom k ib h1).1
  refine ⟨ib,?_,h2,⟨h3.1,by rw [hget k hlt];exact h3.2⟩,by rw [hgen k hlt];exact h4,by rw [ro_of_get (hget k hlt)];exact h5⟩
  show (if k=m.size then some _ else ι k)=some ib
  rw [if_neg (by omega)];exact h1
def absL {H:Type} (g:TypeId→DataW H→Mem→Option (List Value×Mem)):List (TypeId×DataW H)→Mem→Option (List Value×Mem)
 |[],m=>some ([],m)
 |(t,d)::rest,m=>match g t d m with
  |some (l,m1)=>match absL g rest m1 with
   |some (r,m2)=>some (l++r,m2)
   |none=>none
  |none=>none
def absD {H:Type} (P:Program):Nat→TypeId→DataW H→Mem→Option (List Value×Mem)
 |0,_,_,_=>none
 |f+1,t,d,m =>
  match P.underlying t,d with
  |some .bool,.lit (.bool b)=>some ([.bool b],m)
  |some (.int k),.lit (.int _ n)=>some ([.int k n],m)
  |some .string,.lit (.string s)=>some ([.string ⟨s.toArray⟩],m)
  |some (.slice _),.nil=>some ([.slice none 0 0],m)
  |some (.slice e),.slice elems spare =>
   if P.cellsOf e=0 then none else
   if elems.isEmpty&&spare.isEmpty then some ([.slice (some ⟨0,0,some 0⟩) 0 0],m) else
   match absL (absD P f) (elems.map fun x=>(e,x)) m with
   |some (l,m1)=>some ([.slice (some ⟨m1.size,0,none⟩) elems.length 0],m1.alloc (.cells l e 0 true))
   |none=>none
  |some (.struct fs),.agg parts =>
   if (fs.toList.map fun fd=>((List.range (P.cellsOf t)).drop fd.offset).take (P.cellsOf fd.type)).flatten=List.range (P.cellsOf t) then
    absL (absD P f) ((fs.toList.map (·.type)).zip parts) m else none
  |some (.array n e),.agg parts =>
   if ((List.range n).map fun i=>((List.range (P.cellsOf t)).drop (i*P.cellsOf e)).take (P.cellsOf e)).flatten=List.range (P.cellsOf t) then
    absL (absD P f) (parts.map fun x=>(e,x)) m else none
  |_,_=>none
theorem mapM_some {α β:Type} {f:α→Option β}:∀ {l:List α} {r:List β},l.mapM f=some r→r.length=l.length∧∀ (i:Nat) a,l[i]?=some a→∃ b,r[i]?=some b∧f a=some b
 |[],r,h=>by
  simp only [List.mapM_nil,pure,Option.some.injEq] at h
  subst h
  exact ⟨rfl,fun i a h=>by simp at h⟩
 |x::l,r,h=>by
  rw [List.mapM_cons] at h
  simp only [bind,Option.bind_eq_some_iff,pure,Option.some.injEq] at h
  obtain ⟨y,h1,ys,h2,rfl⟩:=h
  obtain ⟨q1,q2⟩:=mapM_some h2
  refine ⟨by simp [q1],fun i a hi=>?_⟩
  cases i with
  |zero=>simp only [List.getElem?_cons_zero,Option.some.injEq] at hi;subst hi;exact ⟨y,by simp,h1⟩
  |succ i=>simpa using q2 i a (by simpa using hi)
def OpenedTo (P:Program) (G:List Nat) (W:World) (ι:Inj) (m:Mem) (l:List Value) (m':Mem) (cs:List Value):Prop :=
 ∃ ι',Sim P G ι' m' W∧Grow ι m ι' m'∧AllRo m'∧LRel ι' m'.gen l cs
theorem absL_sound {H:Type} {W:World} {g:TypeId→DataW H→Mem→Option (List Value×Mem)}:∀ (xs:List (TypeId×DataW H)) (css:List (List Value)) (ι:Inj) (m m':Mem) (l:List Value),
 xs.length=css.length→(∀ (i:Nat) (t:TypeId) (d:DataW H) (cs:List Value),xs[i]?=some (t,d)→css[i]?=some cs→∀ (ι:Inj) (m m':Mem) (l:List Value),Sim P G ι m W→AllRo m→g t d m=some (l,m')→OpenedTo P G W ι m l m' cs) →
 Sim P G ι m W→AllRo m→absL g xs m=some (l,m')→OpenedTo P G W ι m l m' css.flatten
 |[],css,ι,m,m',l,hlen,_,hs,hro,h=>by
  cases h
  have:css=[]:=List.length_eq_zero_iff.1 hlen.symm
  subst this
  exact ⟨ι,hs,Grow.refl _ _,hro,LRel.nil⟩
 |(t,d)::xs,css,ι,m,m',l,hlen,hg,hs,hro,h=>by
  match css,hlen with
  |cs::css,hlen =>
   simp only [absL] at h
   cases h1:g t d m with
   |none=>rw [h1] at h;cases h
   |some r =>
    obtain ⟨l1,m1⟩:=r
    rw [h1] at h
    simp only at h
    cases h2:absL g xs m1 with
    |none=>rw [h2] at h;cases h
    |some r2 =>
     obtain ⟨l2,m2⟩:=r2
     rw [h2] at h
     cases h
     obtain ⟨ι1,a1,a2,a3,a4⟩:=hg 0 t d cs (by simp) (by simp) ι m m1 l1 hs hro h1
     obtain ⟨ι2,b1,b2,b3,b4⟩:=absL_sound xs css ι1 m1 m' l2 (by simpa using hlen) (fun i t d cs q1 q2=>hg (i+1) t d cs (by simpa using q1) (by simpa using q2)) a1 a3 h2
     refine ⟨ι2,b1,a2.trans b2,b3,?_⟩
     rw [List.flatten_cons]
     exact (a4.mono b2.le).append b4
theorem map_getD_range (cs:List Value):(List.range cs.length).map (fun i=>cs.getD i undef)=cs:=by
 apply List.ext_getElem?
 intro i
 by_cases hi:i<cs.length
 ·rw [List.getElem?_map,List.getElem?_range hi,List.getElem?_eq_getElem hi]
  simp only [Option.map_some,getD_lt hi]
 ·rw [List.getElem?_eq_none (by simpa using hi),List.getElem?_eq_none (by omega)]
theorem parts_flatten {α:Type} (cs:List Value) (l:List α) (off size:α→Nat)
 (h:(l.map fun a=>((List.range cs.length).drop (off a)).take (size a)).flatten=List.range cs.length):(l.map fun a=>(cs.drop (off a)).take (size a)).flatten=cs:=by
 have h2:=congrArg (List.map fun i=>cs.getD i undef) h
 rw [map_getD_range,List.map_flatten,List.map_map] at h2
 refine Eq.trans ?_ h2
 congr 1
 apply List.map_congr_left
 intro a _
 simp only [Function.comp,List.map_take,List.map_drop,map_getD_range]
theorem rows_flatten (sz:Nat):∀ (n:Nat) (row:List Value),row.length=n*sz→((List.range n).map fun i=>(row.drop (i*sz)).take sz).flatten=row:=by
 intro n
 induction n with
 |zero=>intro row h;simp at h;subst h;rfl
 |succ n ih =>
  intro row h
  rw [List.range_succ_eq_map,List.map_cons,List.flatten_cons,List.map_map]
  have h1:(row.drop sz).length=n*sz:=by rw [List.length_drop,h,Nat.succ_mul];omega
  have h2:=ih (row.drop sz) h1
  have h3:(List.map ((fun i=>List.take sz (List.drop (i*sz) row)) ∘ Nat.succ) (List.range n))=(List.map (fun i=>List.take sz (List.drop (i*sz) (List.drop sz row))) (List.range n)):=by
   apply List.map_congr_left
   intro i _
   simp only [Function.comp,List.drop_drop]
   congr 2
   rw [Nat.succ_mul,Nat.add_comm]
  rw [h3,h2]
  simp
theorem cells?_some {W:World} {a:Addr} {n:Nat} {cs:List Value} (h:W.cells? 0 a n=some cs):cs.length=n∧∀ i,i<n→W.cell? (a.add i)=cs[i]?:=by
 unfold World.cells? at h
 rw [if_pos (Nat.zero_le _)] at h
 obtain ⟨h1,h2⟩:=mapM_some h
 refine ⟨by simpa using h1,fun i hi=>?_⟩
 obtain ⟨b,q1,q2⟩:=h2 i i (List.getElem?_range hi)
 rw [q1];exact q2
theorem absD_sound {H:Type} {enc:TypeId×Value→H} {W:World} {held:Bool}:∀ (f:Nat) (t:TypeId) (cs:List Value) (d:DataW H) (ps:List MemPlace),
 DataW.trod enc P W 0 (fun _=>true) held f t cs=some (d,ps)→∀ (ι:Inj) (m m':Mem) (l:List Value),Sim P G ι m W→AllRo m→absD P f t d m=some (l,m')→OpenedTo P G W ι m l m' cs:=by
 intro f
 induction f with
 |zero=>intro t cs d ps h;cases h
 |succ f ih =>
  intro t cs d ps h ι m m' l hs hro ha
  have one:∀ {v:Value},plain v=true→OpenedTo P G W ι m [v] m [v]:=fun {v} hp=>⟨ι,hs,Grow.refl _ _,hro,LRel.cons (VRel.plain hp) LRel.nil⟩
  unfold DataW.trod at h
  unfold absD at ha
  cases hu:P.underlying t with
  |none=>rw [hu] at h;simp at h
  |some u =>
   rw [hu] at h ha
   cases u with
   |bool =>
    match cs,h with
    |[.bool b],h =>
     simp only [Option.some.injEq,Prod.mk.injEq] at h
     obtain ⟨rfl,rfl⟩:=h
     simp only [Option.some.injEq,Prod.mk.injEq] at ha
     obtain ⟨rfl,rfl⟩:=ha
     exact one rfl
   |int k =>
    match cs,h with
    |[.int k' n],h =>
     simp only at h
     split at h
     ·rename_i hc
      obtain ⟨rfl,_⟩:=hc
      simp only [Option.some.injEq,Prod.mk.injEq] at h
      obtain ⟨rfl,rfl⟩:=h
      simp only [Option.some.injEq,Prod.mk.injEq] at ha
      obtain ⟨rfl,rfl⟩:=ha
      exact one rfl
     ·cases h
   |string =>
    match cs,h with
    |[.string s],h =>
     simp only at h
     split at h
     ·simp only [Option.some.injEq,Prod.mk.injEq] at h
      obtain ⟨rfl,rfl⟩:=h
      simp only [Option.some.injEq,Prod.mk.injEq] at ha
      obtain ⟨rfl,rfl⟩:=ha
      exact one rfl
     ·cases h
   |struct fs =>
    simp only at h
    split at h
    ·rename_i hlen
     rw [Option.map_eq_some_iff] at h
     obtain ⟨xs,hxs,he⟩:=h
     simp only [Prod.mk.injEq] at he
     obtain ⟨rfl,rfl⟩:=he
     simp only at ha
     split at ha
     ·rename_i hcov
      obtain ⟨q1,q2⟩:=mapM_some hxs
      have hfl:=parts_flatten cs fs.toList (fun fd=>fd.offset) (fun fd=>P.cellsOf fd.type) (by rw [hlen];exact hcov)
      have:=absL_sound (W:=W) (P:=P) (G:=G) ((fs.toList.map (·.type)).zip (xs.map (·.1))) (fs.toList.map fun fd=>(cs.drop fd.offset).take (P.cellsOf fd.type)) ι m m' l
       (by simp only [List.length_zip,List.length_map,q1,Nat.min_self]) (fun i t' d' cs' r1 r2 ι m m' l hs hro ha=>by
        rw [List.getElem?_zip_eq_some] at r1
        obtain ⟨r3,r4⟩:=r1
        rw [List.getElem?_map,Option.map_eq_some_iff] at r2 r3 r4
        obtain ⟨fd,s1,rfl⟩:=r2
        obtain ⟨fd',s2,rfl⟩:=r3
        obtain ⟨x,s3,rfl⟩:=r4
        rw [s1] at s2;cases s2
        obtain ⟨b,u1,u2⟩:=q2 i fd s1
        rw [s3] at u1;cases u1
        exact ih _ _ x.1 x.2 u2 ι m m' l hs hro ha) hs hro ha
      rw [hfl] at this
      exact this
     ·cases ha
    ·cases h
   |array n e =>
    simp only at h
    split at h
    ·rename_i hlen
     rw [Option.map_eq_some_iff] at h
     obtain ⟨xs,hxs,he⟩:=h
     simp only [Prod.mk.injEq] at he
     obtain ⟨rfl,rfl⟩:=he
     simp only at ha
     split at ha
     ·rename_i hcov
      obtain ⟨q1,q2⟩:=mapM_some hxs
      have hfl:=parts_flatten cs (List.range n) (fun i=>i*P.cellsOf e) (fun _=>P.cellsOf e) (by rw [hlen];exact hcov)
      have:=absL_sound (W:=W) (P:=P) (G:=G) ((xs.map (·.1)).map fun x=>(e,x)) ((List.range n).map fun i=>(cs.drop (i*P.cellsOf e)).take (P.cellsOf e)) ι m m' l
       (by simp only [List.length_map,q1]) (fun i t' d' cs' r1 r2 ι m m' l hs hro ha=>by
        rw [List.getElem?_map,List.getElem?_map] at r1
        rw [List.getElem?_map,Option.map_eq_some_iff] at r2
        obtain ⟨j,s1,rfl⟩:=r2
        simp only [Option.map_map,Option.map_eq_some_iff,Function.comp,Prod.mk.injEq] at r1
        obtain ⟨x,s3,rfl,rfl⟩:=r1
        obtain ⟨b,u1,u2⟩:=q2 i j s1
        rw [s3] at u1;cases u1
        exact ih _ _ x.1 x.2 u2 ι m m' l hs hro ha) hs hro ha
      rw [hfl] at this
      exact this
     ·cases ha
    ·cases h
   |slice e =>
    match cs,h with
    |[.slice none 0 0],h =>
     simp only [Option.some.injEq,Prod.mk.injEq] at h
     obtain ⟨rfl,rfl⟩:=h
     simp only [Option.some.injEq,Prod.mk.injEq] at ha
     obtain ⟨rfl,rfl⟩:=ha
     exact one rfl
    |[.slice (some a) len cap],h =>
     simp only [if_true] at h
     split at h
     ·rename_i hc
      rw [Option.bind_eq_some_iff] at h
      obtain ⟨elems,he,h⟩:=h
      rw [Option.map_eq_some_iff] at h
      obtain ⟨rest,hr,hd⟩:=h
      simp only [Prod.mk.injEq] at hd
      obtain ⟨rfl,rfl⟩:=hd
      simp only at ha
      split at ha
      ·cases ha
      ·rename_i hsz
       obtain ⟨q1,q2⟩:=mapM_some he
       obtain ⟨r1,r2⟩:=mapM_some hr
       rw [List.length_range] at q1 r1
       have cell:∀ i,i<cap→∃ ce,W.cells? 0 (a.add (i*P.cellsOf e)) (P.cellsOf e)=some ce:=fun i hi=>by
        by_cases h1:i<len
        ·obtain ⟨b,_,u2⟩:=q2 i i (List.getElem?_range h1)
         rw [Option.bind_eq_some_iff] at u2
         obtain ⟨ce,u3,_⟩:=u2
         exact ⟨ce,u3⟩
        ·obtain ⟨b,_,u2⟩:=r2 (i-len) (i-len) (List.getElem?_range (by omega))
         rw [Option.bind_eq_some_iff] at u2
         obtain ⟨ce,u3,_⟩:=u2
         exact ⟨ce,by rw [← u3];congr 3;omega⟩
       split at ha
       ·rename_i hemp
        simp only [Option.some.injEq,Prod.mk.injEq] at ha
        obtain ⟨rfl,rfl⟩:=ha
        simp only [Bool.and_eq_true,List.isEmpty_iff,List.map_eq_nil_iff] at hemp
        obtain ⟨e1,e2⟩:=hemp
        have hl0:len=0:=by rw [← q1,e1];rfl
        have hc0:cap=0:=by
         have:cap-len=0:=by rw [← r1,e2];rfl
         omega
        subst hl0;subst hc0
        exact ⟨ι,hs,Grow.refl _ _,hro,LRel.cons (.slE _ _ _ _) LRel.nil⟩
       ·rename_i hemp
        have hcap:0<cap:=by
         rcases Nat.eq_zero_or_pos cap with h|h
         ·exfalso
          subst h
          have e1:elems=[]:=List.length_eq_zero_iff.1 (by omega)
          have e2:rest=[]:=List.length_eq_zero_iff.1 (by omega)
          rw [e1,e2] at hemp
          simp at hemp
         ·exact h
        have hsz0:0<P.cellsOf e:=by omega
        obtain ⟨ce0,hce0⟩:=cell 0 hcap
        rw [Nat.zero_mul,Addr.add_zero'] at hce0
        obtain ⟨l0,c0⟩:=cells?_some hce0
        have hfirst:=c0 0 hsz0
        rw [Addr.add_zero',List.getElem?_eq_getElem (by omega:0<ce0.length)] at hfirst
        obtain ⟨c,off,spot⟩:=a
        have hspot:spot=none:=by
         unfold World.cell? at hfirst
         cases spot with
         |none=>rfl
         |some s=>split at hfirst<;>simp at hfirst
        subst hspot
        have hrow:∃ cs0 e' fr,W.heap[c]?=some (.cells cs0 e' fr):=by
         unfold World.cell? at hfirst
         simp only at hfirst
         split at hfirst
         ·rename_i cs0 e' fr hh;exact ⟨cs0,e',fr,hh⟩
         ·cases hfirst
        obtain ⟨cs0,e',fr,hrow⟩:=hrow
        have cellAt:∀ k,k<cap*P.cellsOf e→∃ v,cs0[off+k]?=some v:=fun k hk=>by
         have hi:k / P.cellsOf e<cap:=(Nat.div_lt_iff_lt_mul hsz0).2 hk
         obtain ⟨ce,hce⟩:=cell (k / P.cellsOf e) hi
         obtain ⟨l1,c1⟩:=cells?_some hce
         have hm:k % P.cellsOf e<P.cellsOf e:=Nat.mod_lt _ hsz0
         have h1:=c1 (k % P.cellsOf e) hm
         rw [addr_add,addr_add,cell_of_row hrow,List.getElem?_eq_getElem (by omega:k % P.cellsOf e<ce.length)] at h1
         have e1:off+k / P.cellsOf e*P.cellsOf e+k % P.cellsOf e=off+k:=by
          have:=Nat.div_add_mod' k (P.cellsOf e);omega
         rw [e1] at h1
         exact ⟨_,h1⟩
        let row:List Value:=(List.range (len*P.cellsOf e)).map fun k=>cs0.getD (off+k) undef
        have hrl:row.length=len*P.cellsOf e:=by simp [row]
        have hlc:len*P.cellsOf e≤cap*P.cellsOf e:=Nat.mul_le_mul_right _ hc.2.1
        have rowAt:∀ k,k<len*P.cellsOf e→row[k]?=cs0[off+k]?:=fun k hk=>by
         obtain ⟨v,hv⟩:=cellAt k (by omega)
         show ((List.range (len*P.cellsOf e)).map fun k=>cs0.getD (off+k) undef)[k]?=_
         rw [List.getElem?_map,List.getElem?_range hk,hv]
         simp [hv]
        split at ha
        ·rename_i l1 m1 habs
         simp only [Option.some.injEq,Prod.mk.injEq] at ha
         obtain ⟨rfl,rfl⟩:=ha
         have hop:=absL_sound (W:=W) (P:=P) (G:=G) ((elems.map (·.1)).map fun x=>(e,x)) ((List.range len).map fun i=>(row.drop (i*P.cellsOf e)).take (P.cellsOf e)) ι m m1 l1
          (by simp only [List.length_map,q1,List.length_range]) (fun i t' d' cs' u1 u2 ι m m' l hs hro ha=>by
           rw [List.getElem?_map,List.getElem?_map] at u1
           rw [List.getElem?_map,Option.map_eq_some_iff] at u2
           obtain ⟨j,s1,rfl⟩:=u2
           simp only [Option.map_map,Option.map_eq_some_iff,Function.comp,Prod.mk.injEq] at u1
           obtain ⟨x,s3,rfl,rfl⟩:=u1
           have hil:i<len:=by
            rcases Nat.lt_or_ge i len with h|h
            ·exact h
            ·rw [List.getElem?_eq_none (by simpa using h)] at s1;cases s1
           rw [List.getElem?_range hil] at s1
           cases s1
           obtain ⟨b,w1,w2⟩:=q2 i i (List.getElem?_range hil)
           rw [s3] at w1;cases w1
           rw [Option.bind_eq_some_iff] at w2
           obtain ⟨ce,w3,w4⟩:=w2
           obtain ⟨l2,c2⟩:=cells?_some w3
           have hce:ce=(row.drop (i*P.cellsOf e)).take (P.cellsOf e):=by
            apply List.ext_getElem?
            intro j
            by_cases hj:j<P.cellsOf e
            ·have h1:=c2 j hj
             rw [addr_add,addr_add,cell_of_row hrow] at h1
             rw [← h1,List.getElem?_take,if_pos hj,List.getElem?_drop,rowAt _ (by
              have:(i+1)*P.cellsOf e≤len*P.cellsOf e:=Nat.mul_le_mul_right _ (by omega)
              rw [Nat.succ_mul] at this;omega)]
             congr 1;omega
            ·rw [List.getElem?_eq_none (by omega),List.getElem?_take,if_neg hj]
           rw [← hce]
           exact ih _ _ x.1 x.2 w4 ι m m' l hs hro ha) hs hro habs
         rw [rows_flatten _ _ _ hrl] at hop
         obtain ⟨ι1,o1,o2,o3,o4⟩:=hop
         obtain ⟨ι2,p1,p2,p3,p4⟩:=open_block (e:=e) (sh:=off) (vs:=l1) o1 o3 hrow (fun i hi=>by
          obtain ⟨v',h1,h2⟩:=o4.get (List.getElem?_eq_getElem hi)
          refine ⟨v',?_,by rw [getD_lt hi];exact h2⟩
          have hil:i<len*P.cellsOf e:=by rw [← hrl,← o4.1];exact hi
          rw [← rowAt i hil];exact h1)
         refine ⟨ι2,p1,o2.trans p3,p4,LRel.cons ?_ LRel.nil⟩
         rw [show (elems.map (·.1)).length=len from by rw [List.length_map,q1]]
         refine .sl _ _ _ _ _ _ ⟨_,p2,Nat.zero_le _,?_,fun _=>⟨rfl,rfl,.inr ⟨(Nat.zero_add off).symm,?_⟩⟩⟩
         ·exact hc.2.1
         ·simp only
          obtain ⟨v,hv⟩:=cellAt (cap*P.cellsOf e-1) (by
           have:0<cap*P.cellsOf e:=Nat.mul_pos hcap hsz0
           omega)
          have:=(Array.getElem?_eq_some_iff.1 hv).1
          have hp:0<cap*P.cellsOf e:=Nat.mul_pos hcap hsz0
          omega
        ·cases ha
     ·cases h
   |_=>simp at ha
end Go.Am
namespace Go.Am
variable {P:Program} {G:List Nat}
theorem absL_mono {H:Type} {g g':TypeId→DataW H→Mem→Option (List Value×Mem)} (hg:∀ t d m r,g t d m=some r→g' t d m=some r) :
 ∀ (xs:List (TypeId×DataW H)) (m:Mem) (r:List Value×Mem),absL g xs m=some r→absL g' xs m=some r
 |[],m,r,h=>h
 |(t,d)::xs,m,r,h=>by
  simp only [absL] at h ⊢
  cases h1:g t d m with
  |none=>rw [h1] at h;cases h
  |some a =>
   rw [h1] at h
   rw [hg _ _ _ _ h1]
   simp only at h ⊢
   cases h2:absL g xs a.2 with
   |none=>rw [h2] at h;cases h
   |some b =>
    rw [h2] at h
    rw [absL_mono hg xs _ _ h2]
    exact h
theorem absD_succ {H:Type}:∀ (f:Nat) (t:TypeId) (d:DataW H) (m:Mem) (r:List Value×Mem),absD P f t d m=some r→absD P (f+1) t d m=some r
 |0,_,_,_,_,h=>by cases h
 |f+1,t,d,m,r,h=>by
  have ih:=fun t d m r=>absD_succ (H:=H) f t d m r
  unfold absD at h ⊢
  split at h
  all_goals try exact h
  all_goals try (cases h;done)
  all_goals split at h
  all_goals try (cases h;done)
  all_goals rename_i h0
  ·simp only [if_neg h0]
   split at h
   ·rename_i h1;simp only [if_pos h1];exact h
   ·rename_i h1
    simp only [if_neg h1]
    split at h
    ·rename_i l m1 h2
     rw [absL_mono ih _ _ _ h2]
     exact h
    ·cases h
  ·simp only [if_pos h0];exact absL_mono ih _ _ _ h
  ·simp only [if_pos h0];exact absL_mono ih _ _ _ h
theorem absD_le {H:Type} {f g:Nat} {t:TypeId} {d:DataW H} {m:Mem} {r:List Value×Mem} (hfg:f≤g) (h:absD P f t d m=some r):absD P g t d m=some r:=by
 induction hfg with
 |refl=>exact h
 |step _ ih=>exact absD_succ _ _ _ _ _ ih
theorem trod_open {H:Type} {enc:TypeId×Value→H} {W:World} {held:Bool} {t:TypeId} {v:Value} {d:DataW H} {ps:List MemPlace} (h:DataW.Trod enc P W 0 (fun _=>true) held t v d ps)
 {F:Nat} {ι:Inj} {m m':Mem} {l:List Value} (hs:Sim P G ι m W) (hro:AllRo m) (ha:absD P F t d m=some (l,m')):OpenedTo P G W ι m l m' v.cells.toList:=by
 obtain ⟨f,hf⟩:=h
 exact absD_sound (max f F) t _ d ps (DataW.trod_le (Nat.le_max_left _ _) hf) ι m m' l hs hro (absD_le (Nat.le_max_right _ _) ha)
def packT (P:Program) (t:TypeId) (l:List Value):Option Value :=
 match P.underlying t,l with
 |some (.struct _),l=>some (.agg ⟨l⟩)
 |some (.array _ _),l=>some (.agg ⟨l⟩)
 |some .bool,[v]|some (.int _),[v]|some .string,[v]|some (.slice _),[v]=>some v
 |_,_=>none
def absArgs {H:Type} (P:Program) (F:Nat):List TypeId→List (DataW H)→Mem→Option (List Value×Mem)
 |[],[],m=>some ([],m)
 |t::ts,d::ds,m=>match absD P F t d m with
  |some (l,m1)=>match packT P t l with
   |some v=>match absArgs P F ts ds m1 with
    |some (r,m2)=>some (v::r,m2)
    |none=>none
   |none=>none
  |none=>none
 |_,_,_=>none
theorem pack_rel {W:World} {r:Go.Reach} {b0:Nat} {ι:Inj} {g:Nat→Nat} {t:TypeId} {v x:Value} {l:List Value} (hv:Value.okWide P W r b0 t v) (hp:packT P t l=some x)
 (hl:LRel ι g l v.cells.toList):VRel ι g x v:=by
 unfold packT at hp
 split at hp
 ·rename_i hu
  cases hp
  simp only [Value.okWide,hu] at hv
  obtain ⟨⟨cs⟩,rfl,-⟩:=hv
  exact .agg _ _ hl.1 hl.2
 ·rename_i hu
  cases hp
  simp only [Value.okWide,hu] at hv
  obtain ⟨⟨cs⟩,rfl,-⟩:=hv
  exact .agg _ _ hl.1 hl.2
 all_goals first
  |(rename_i hu
    cases hp
    simp only [Value.okWide,hu,Cell.okWide] at hv
    have hc:v.cells=#[v]:=by cases v<;>simp_all [Cell.ok,Value.cells]
    rw [hc] at hl
    have:=hl.2 0 (by simp)
    simpa using this)
  |cases hp
theorem args_open {H:Type} {enc:TypeId×Value→H} {W:World} {held:Bool} {r:Go.Reach} {b0:Nat} {F:Nat}:∀ (ts:List TypeId) (vs:List Value) (ds:List (DataW H)) (ps:List MemPlace),
 DataW.TrodAll enc P W 0 (fun _=>true) held ts vs ds ps→(∀ (j:Nat) t v,ts[j]?=some t→vs[j]?=some v→Value.okWide P W r b0 t v) →
 ∀ (ι:Inj) (m m':Mem) (asW:List Value),Sim P G ι m W→AllRo m→absArgs P F ts ds m=some (asW,m')→OpenedTo P G W ι m asW m' vs
 |[],[],[],ps,h,hv,ι,m,m',asW,hs,hro,ha=>by
  cases ha
  exact ⟨ι,hs,Grow.refl _ _,hro,LRel.nil⟩
 |t::ts,v::vs,d::ds,ps,h,hv,ι,m,m',asW,hs,hro,ha=>by
  obtain ⟨p,q,h1,h2,-⟩:=h
  simp only [absArgs] at ha
  split at ha
  ·rename_i l m1 e1
   split at ha
   ·rename_i x e2
    split at ha
    ·rename_i r' m2 e3
     cases ha
     obtain ⟨ι1,o1,o2,o3,o4⟩:=trod_open h1 hs hro e1
     obtain ⟨ι2,p1,p2,p3,p4⟩:=args_open ts vs ds q h2 (fun j t v ht hv'=>hv (j+1) t v (by simpa using ht) (by simpa using hv')) ι1 m1 _ r' o1 o3 e3
     exact ⟨ι2,p1,o2.trans p2,p3,LRel.cons ((pack_rel (hv 0 t v rfl rfl) e2 o4).mono p2.le) p4⟩
    ·cases ha
   ·cases ha
  ·cases ha
 |[],[],_::_,ps,h,_,_,_,_,_,_,_,_=>h.elim
 |[],_::_,_,ps,h,_,_,_,_,_,_,_,_=>h.elim
 |_::_,[],_,ps,h,_,_,_,_,_,_,_,_=>h.elim
 |_::_,_::_,[],ps,h,_,_,_,_,_,_,_,_=>h.elim
def allocs (m:Mem):List ABlk→Mem
 |[]=>m
 |b::r=>allocs (m.alloc b) r
theorem size_allocs:∀ (l:List ABlk) (m:Mem),(allocs m l).size=m.size+l.length
 |[],m=>rfl
 |b::r,m=>by rw [allocs,size_allocs r];simp [Mem.alloc];omega
theorem get_allocs:∀ (l:List ABlk) (m:Mem) (b:Nat),(allocs m l).get b=if b<m.size then m.get b else match l[b-m.size]? with|some x=>x|none=>m.get b
 |[],m,b=>by simp [allocs]
 |x::r,m,b=>by
  rw [allocs,get_allocs r,Mem.get_alloc]
  have hsz:(m.alloc x).size=m.size+1:=rfl
  rw [hsz]
  by_cases h1:b<m.size
  ·rw [if_pos (by omega),if_pos h1,if_neg (by omega)]
  ·by_cases h2:b=m.size
   ·subst h2;simp
   ·rw [if_neg (by omega),if_neg h1,if_neg (by omega)]
    have:b-m.size=(b-(m.size+1))+1:=by omega
    rw [this,List.getElem?_cons_succ]
def empty:Mem:=⟨.leaf,0,0⟩
def absP (P:Program) (F:Nat) (t:TypeId) (d:DataW Unit):Option (List Value) :=
 match absD P F t d empty with
 |some (l,_)=>if l.all plainCell then some l else none
 |none=>none
def elemT (P:Program) (t:TypeId):TypeId:=match P.underlying t with|some (.array _ e)=>e|_=>t
def globAt (P:Program) (F:Nat) (laid:List (String×DataW Unit)) (k:Nat):Option (TypeId×List Value) :=
 match laid.find? (fun x=>P.globalNamed x.1==some k),P.globals[k]? with
 |some x,some g=>(absP P F g.type x.2).map fun l=>(elemT P g.type,l)
 |_,_=>none
def globMem (P:Program) (F:Nat) (laid:List (String×DataW Unit)):Mem :=
 allocs empty ((List.range P.globals.size).map fun k=>match globAt P F laid k with
  |some (e,l)=>.cells l e 0 true
  |none=>.cells [] 0 0 true)
def globList (P:Program) (F:Nat) (laid:List (String×DataW Unit)):List Nat:=(List.range P.globals.size).filter fun k=>(globAt P F laid k).isSome
theorem laid_at {W:World}:∀ {laid:List (String×DataW Unit)} {ps:List MemPlace},DataW.LaidVars P W laid ps→∀ x∈laid,∃ g t cs fuel p,P.globalNamed x.1=some g∧(P.globals[g]?).map (·.type)=some t ∧
 W.var? P x.1=some cs∧DataW.trod (fun _=>()) P W 0 (fun _=>true) false fuel t cs.toList=some (x.2,p)
 |[],_,_,x,hx=>by cases hx
 |(n,d)::r,ps,h,x,hx=>by
  obtain ⟨g,t,cs,fuel,p,q,h1,h2,h3,h4,h5,-⟩:=h
  rcases List.mem_cons.1 hx with rfl|hx
  ·exact ⟨g,t,cs,fuel,p,h1,h2,h3,h4⟩
  ·exact laid_at h5 x hx
theorem emptySim (W:World):Sim P [] (fun _=>none) empty W :=
 ⟨fun _ _ h=>(by cases h),fun _ _ h=>(by cases h),fun _ _ _ _ h=>(by cases h),fun _ h=>(by cases h)⟩
theorem glob_cells {F:Nat} {laid:List (String×DataW Unit)} {W:World} (hL:laidMet P laid W) {k:Nat} {e:TypeId} {l:List Value} (hk:globAt P F laid k=some (e,l)) :
 l.all plainCell=true∧∃ cs e' fr,W.heap[k]?=some (.cells cs e' fr)∧cs.toList=l:=by
 obtain ⟨ps,hL,-⟩:=hL
 unfold globAt at hk
 split at hk
 ·rename_i x g hx hg
  rw [Option.map_eq_some_iff] at hk
  obtain ⟨l',h1,h2⟩:=hk
  cases h2
  have hmem:=List.mem_of_find?_eq_some hx
  have hn:P.globalNamed x.1=some k:=by simpa using List.find?_some hx
  obtain ⟨g',t,cs,fuel,p,q1,q2,q3,q4⟩:=laid_at hL x hmem
  obtain rfl:g'=k:=Option.some.inj (q1.symm.trans hn)
  have ht:t=g.type:=by rw [hg] at q2;exact (Option.some.inj q2).symm
  subst ht
  unfold absP at h1
  split at h1
  ·rename_i l2 m' ha
   split at h1
   ·rename_i hp
    cases h1
    obtain ⟨ι',o1,o2,o3,o4⟩:=absD_sound (G:=[]) (max fuel F) _ _ _ _ (DataW.trod_le (Nat.le_max_left _ _) q4) (fun _=>none) empty _ _ (emptySim W) (fun b hb=>by cases hb) (absD_le (Nat.le_max_right _ _) ha)
    refine ⟨hp,?_⟩
    have hcs:cs.toList=l:=by
     apply List.ext_getElem?
     intro i
     by_cases hi:i<l.length
     ·obtain ⟨v',h1,h2⟩:=o4.get (List.getElem?_eq_getElem hi)
      rw [h1,List.getElem?_eq_getElem hi,h2.eq_of_plainCell (List.all_eq_true.1 hp _ (List.getElem_mem hi))]
     ·rw [List.getElem?_eq_none (by have:=o4.1;omega),List.getElem?_eq_none (by omega)]
    simp only [World.var?,q1,Option.bind_some] at q3
    split at q3
    ·rename_i cs' e' fr hh
     cases q3
     exact ⟨cs,e',fr,hh,hcs⟩
    ·cases q3
   ·cases h1
  ·cases h1
 ·cases hk
theorem glob_open {F:Nat} {laid:List (String×DataW Unit)} {W:World} (hL:laidMet P laid W):∃ ι,Sim P (globList P F laid) ι (globMem P F laid) W∧AllRo (globMem P F laid):=by
 have hsz:(globMem P F laid).size=P.globals.size:=by rw [globMem,size_allocs];simp [empty]
 have hget:∀ k,k<P.globals.size→(globMem P F laid).get k=match globAt P F laid k with|some (e,l)=>.cells l e 0 true|none=>.cells [] 0 0 true:=fun k hk=>by
  rw [globMem,get_allocs,if_neg (by simp [empty])]
  simp only [empty,Nat.sub_zero,List.getElem?_map,List.getElem?_range hk,Option.map_some]
 have hro:AllRo (globMem P F laid):=fun b hb=>by
  have h:=hget b (hsz▸hb)
  split at h<;>exact Mem.ro_eq h
 let ι:Inj:=fun k=>match globAt P F laid k,W.heap[k]? with
  |some (e,l),some (.cells cs _ _)=>if k<P.globals.size then some ⟨k,0,cs.size,P.cellsOf e⟩ else none
  |_,_=>none
 have hι:∀ k ib,ι k=some ib→k<P.globals.size∧∃ e l cs e' fr,globAt P F laid k=some (e,l)∧W.heap[k]?=some (.cells cs e' fr)∧ib=⟨k,0,cs.size,P.cellsOf e⟩:=fun k ib h=>by
  simp only [ι] at h
  split at h
  ·rename_i e l cs e' fr h1 h2
   split at h
   ·rename_i h3
    cases h
    exact ⟨h3,e,l,cs,e',fr,h1,h2,rfl⟩
   ·cases h
  ·cases h
 refine ⟨ι,⟨fun k ib h=>?_,fun k ib h=>?_,fun k k' ib ib' h h' _=>?_,fun k hk=>?_⟩,hro⟩
 ·obtain ⟨h1,e,l,cs,e',fr,h2,h3,rfl⟩:=hι k ib h
  exact ⟨hsz▸h1,(Array.getElem?_eq_some_iff.1 h3).1⟩
 ·obtain ⟨h1,e,l,cs,e',fr,h2,h3,rfl⟩:=hι k ib h
  have hg:=hget k h1
  rw [h2] at hg
  simp only at hg
  obtain ⟨hp,cs',e2,fr2,h4,h5⟩:=glob_cells hL h2
  rw [h3] at h4
  cases h4
  simp only [hg,h3]
  refine ⟨fun h=>(by cases h),rfl,rfl,fun i hi=>?_,fun h=>(by cases h)⟩
  refine ⟨l.getD i undef,?_,VRel.plainCell (List.all_eq_true.1 hp _ (getD_mem hi))⟩
  rw [Nat.zero_add,← Array.getElem?_toList,h5,getD_lt hi]
  exact List.getElem?_eq_getElem hi
 ·exact .inr ⟨hro k (hsz▸(hι k ib h).1),hro k' (hsz▸(hι k' ib' h').1)⟩
 ·simp only [globList,List.mem_filter,List.mem_range] at hk
  obtain ⟨h1,h2⟩:=hk
  obtain ⟨⟨e,l⟩,h3⟩:=Option.isSome_iff_exists.1 h2
  obtain ⟨hp,cs,e',fr,h4,h5⟩:=glob_cells hL h3
  refine ⟨⟨k,0,cs.size,P.cellsOf e⟩,?_,rfl,⟨rfl,fun vs e2 g ro hg=>?_⟩,?_,hro k (hsz▸h1)⟩
  ·simp only [ι,h3,h4,if_pos h1]
  ·have hg':=hget k h1
   rw [h3] at hg'
   rw [hg'] at hg
   cases hg
   rw [← h5];rfl
  ·have hg:=hget k h1
   rw [h3] at hg
   simp only [Mem.gen,hg,ABlk.gen]
end Go.Am
namespace Go.Am
variable {P:Program} {G:List Nat} {O:Oracle}
def Ev {α β:Type} (F:Nat→Nat→Option (α×β)) (Q:α→β→Prop):Prop:=∃ a b,(∃ K,∀ N D,K≤N→K≤D→F N D=some (a,b))∧Q a b
def ACalls (P:Program) (O:Oracle) (G:List Nat) (f:FuncId) (asW:List Value) (m:Mem) (Q:Value→Mem→Prop):Prop :=
 Ev (fun N D=>acall P O G N D f asW m) Q
def AWp (P:Program) (O:Oracle) (G:List Nat) (c:Code) (s:St) (Q:AExit→St→Prop):Prop :=
 Ev (fun N D=>aexec P (acall P O G N D) N c s) Q
def AVal (P:Program) (O:Oracle) (G:List Nat) (o:Oper) (s:St) (Q:Value→Mem→Prop):Prop :=
 Ev (fun N D=>aval P (acall P O G N D) (ev s.t) o s.m) Q
theorem Ev.mono {α β:Type} {F:Nat→Nat→Option (α×β)} {Q R:α→β→Prop} (h:Ev F Q) (hq:∀ a b,Q a b→R a b):Ev F R:=by
 obtain ⟨a,b,h,q⟩:=h
 exact ⟨a,b,h,hq _ _ q⟩
theorem Ev.now {α β:Type} {F:Nat→Nat→Option (α×β)} {Q:α→β→Prop} {a:α} {b:β} (h:∀ N D,F N D=some (a,b)) (q:Q a b):Ev F Q:=⟨a,b,⟨0,fun N D _ _=>h N D⟩,q⟩
theorem AWp.seq {a b:Code} {s:St} {Q:AExit→St→Prop} (ha:AWp P O G a s fun e s'=>match e with| .normal=>AWp P O G b s' Q|e=>Q e s'):AWp P O G (.seq a b) s Q:=by
 obtain ⟨e,s',⟨K,h⟩,q⟩:=ha
 cases e with
 |normal =>
  obtain ⟨e2,s2,⟨K2,h2⟩,q2⟩:=q
  refine ⟨e2,s2,⟨max K K2,fun N D hN hD=>?_⟩,q2⟩
  have:=h N D (by omega) (by omega)
  simp only [aexec,this]
  exact h2 N D (by omega) (by omega)
 |ret=>exact ⟨_,s',⟨K,fun N D hN hD=>by simp only [aexec,h N D hN hD]⟩,q⟩
 |exit i=>exact ⟨_,s',⟨K,fun N D hN hD=>by simp only [aexec,h N D hN hD]⟩,q⟩
theorem AWp.skip {s:St} {Q:AExit→St→Prop} (h:Q .normal s):AWp P O G .skip s Q:=Ev.now (fun _ _=>rfl) h
theorem AWp.ret {s:St} {Q:AExit→St→Prop} (h:Q .ret s):AWp P O G .ret s Q:=Ev.now (fun _ _=>rfl) h
theorem AWp.exit {id:Nat} {s:St} {Q:AExit→St→Prop} (h:Q (.exit id) s):AWp P O G (.exit id) s Q:=Ev.now (fun _ _=>rfl) h
theorem AWp.cond {c:Operand} {a b:Code} {s:St} {Q:AExit→St→Prop} (t:Bool) (hc:ev s.t c=.bool t) (ht:t=true→AWp P O G a s Q) (hf:t=false→AWp P O G b s Q) :
 AWp P O G (.cond c a b) s Q:=by
 cases t
 ·obtain ⟨e,s',⟨K,h⟩,q⟩:=hf rfl
  exact ⟨e,s',⟨K,fun N D hN hD=>by simp only [aexec,hc];exact h N D hN hD⟩,q⟩
 ·obtain ⟨e,s',⟨K,h⟩,q⟩:=ht rfl
  exact ⟨e,s',⟨K,fun N D hN hD=>by simp only [aexec,hc];exact h N D hN hD⟩,q⟩
theorem AWp.block {id:Nat} {b:Code} {s:St} {Q:AExit→St→Prop} (h:AWp P O G b s fun e s'=>match e with| .exit i=>if i=id then Q .normal s' else Q (.exit i) s'|e=>Q e s'):AWp P O G (.block id b) s Q:=by
 obtain ⟨e,s',⟨K,h⟩,q⟩:=h
 cases e with
 |normal=>exact ⟨_,s',⟨K,fun N D hN hD=>by simp only [aexec,h N D hN hD]⟩,q⟩
 |ret=>exact ⟨_,s',⟨K,fun N D hN hD=>by simp only [aexec,h N D hN hD]⟩,q⟩
 |exit i =>
  simp only at q
  split at q
  ·rename_i hi
   exact ⟨_,s',⟨K,fun N D hN hD=>by simp only [aexec,h N D hN hD,if_pos hi]⟩,q⟩
  ·rename_i hi
   exact ⟨_,s',⟨K,fun N D hN hD=>by simp only [aexec,h N D hN hD,if_neg hi]⟩,q⟩
theorem AWp.loop {b:Code} {s:St} {Q:AExit→St→Prop} (I:Nat→St→Prop) (n:Nat) (h0:I n s)
 (hstep:∀ n s,I n s→AWp P O G b s fun e s'=>match e with| .normal=>∃ n',n'<n∧I n' s'|e=>Q e s'):AWp P O G (.loop b) s Q:=by
 have key:∀ n s,I n s→∃ e s',(∃ K,∀ N D k,K≤N→K≤D→K≤k→iterate (aexec P (acall P O G N D) N b) k s=some (e,s'))∧Q e s':=by
  intro n
  induction n using Nat.strongRecOn with
  |_ n ih =>
   intro s hI
   obtain ⟨e,s',⟨K,h⟩,q⟩:=hstep n s hI
   cases e with
   |normal =>
    obtain ⟨n',hn,hI'⟩:=q
    obtain ⟨e2,s2,⟨K2,h2⟩,q2⟩:=ih n' hn s' hI'
    refine ⟨e2,s2,⟨max K K2+1,fun N D k hN hD hk=>?_⟩,q2⟩
    obtain ⟨k,rfl⟩:∃ j,k=j+1:=⟨k-1,by omega⟩
    simp only [iterate,h N D (by omega) (by omega)]
    exact h2 N D k (by omega) (by omega) (by omega)
   |ret =>
    refine ⟨_,s',⟨K+1,fun N D k hN hD hk=>?_⟩,q⟩
    obtain ⟨k,rfl⟩:∃ j,k=j+1:=⟨k-1,by omega⟩
    simp only [iterate,h N D (by omega) (by omega)]
   |exit i =>
    refine ⟨_,s',⟨K+1,fun N D k hN hD hk=>?_⟩,q⟩
    obtain ⟨k,rfl⟩:∃ j,k=j+1:=⟨k-1,by omega⟩
    simp only [iterate,h N D (by omega) (by omega)]
 obtain ⟨e,s',⟨K,h⟩,q⟩:=key n s h0
 exact ⟨e,s',⟨K,fun N D hN hD=>by simp only [aexec];exact h N D N hN hD hN⟩,q⟩
def AOps (P:Program) (O:Oracle) (G:List Nat) (ops:Array Oper) (l:List Oper) (s:St) (Q:St→Prop):Prop :=
 ∃ s',(∃ K,∀ N D,K≤N→K≤D→asteps P (acall P O G N D) ops l s=some s')∧Q s'
def AOpsD (P:Program) (O:Oracle) (G:List Nat) (ops:Array Oper) (i:Nat) (l:List Oper) (s:St) (Q:St→Prop):Prop :=
 ∃ s',(∃ K,∀ N D,K≤N→K≤D→dsteps P (acall P O G N D) ops i l s=some s')∧Q s'
theorem AWp.region {id:Nat} {ops:Array Oper} {s:St} {Q:AExit→St→Prop} (h:AOps P O G ops ops.toList s (Q .normal)):AWp P O G (.region id ops false) s Q:=by
 obtain ⟨s',⟨K,h⟩,q⟩:=h
 exact ⟨_,s',⟨K,fun N D hN hD=>by simp only [aexec,h N D hN hD,Option.map_some]⟩,q⟩
theorem AWp.regionD {id:Nat} {ops:Array Oper} {s:St} {Q:AExit→St→Prop} (h:AOpsD P O G ops 0 ops.toList s (Q .normal)):AWp P O G (.region id ops true) s Q:=by
 obtain ⟨s',⟨K,h⟩,q⟩:=h
 exact ⟨_,s',⟨K,fun N D hN hD=>by simp only [aexec,h N D hN hD,Option.map_some]⟩,q⟩
theorem AOps.nil {ops:Array Oper} {s:St} {Q:St→Prop} (h:Q s):AOps P O G ops [] s Q:=⟨_,⟨0,fun _ _ _ _=>rfl⟩,h⟩
theorem AOpsD.nil {ops:Array Oper} {i:Nat} {s:St} {Q:St→Prop} (h:Q s):AOpsD P O G ops i [] s Q:=⟨_,⟨0,fun _ _ _ _=>rfl⟩,h⟩
theorem AOps.cons {ops:Array Oper} {o:Oper} {l:List Oper} {s:St} {Q:St→Prop} (hw:Region.wanted o (ayielded ops s.t)=true)
 (h:AVal P O G o s fun v m'=>AOps P O G ops l { t:=tput s.t o.dst v,m:=m' } Q):AOps P O G ops (o::l) s Q:=by
 obtain ⟨v,m',⟨K,h⟩,s',⟨K2,h2⟩,q⟩:=h
 refine ⟨s',⟨max K K2,fun N D hN hD=>?_⟩,q⟩
 simp only [asteps,astep,hw,if_true,aact,h N D (by omega) (by omega)]
 exact h2 N D (by omega) (by omega)
theorem AOps.skip {ops:Array Oper} {o:Oper} {l:List Oper} {s:St} {Q:St→Prop} (hw:Region.wanted o (ayielded ops s.t)=false)
 (h:AOps P O G ops l { t:=tput s.t o.dst undef,m:=s.m } Q):AOps P O G ops (o::l) s Q:=by
 obtain ⟨s',⟨K2,h2⟩,q⟩:=h
 refine ⟨s',⟨K2,fun N D hN hD=>?_⟩,q⟩
 simp only [asteps,astep,hw]
 exact h2 N D (by omega) (by omega)
def Mem.at (m:Mem) (k:Nat):Mem:={ m with low:=k }
@[simp] theorem Mem.at_get (m:Mem) (k b:Nat):(m.at k).get b=m.get b:=rfl
@[simp] theorem Mem.at_size (m:Mem) (k:Nat):(m.at k).size=m.size:=rfl
@[simp] theorem Mem.at_low (m:Mem) (k:Nat):(m.at k).low=k:=rfl
@[simp] theorem Mem.at_at (m:Mem) (k j:Nat):(m.at k).at j=m.at j:=rfl
theorem AOpsD.cons {ops:Array Oper} {i:Nat} {o:Oper} {l:List Oper} {s:St} {Q:St→Prop} (hw:Region.wanted o (ayielded ops s.t)=true)
 (h:AVal P O G o { t:=s.t,m:=s.m.at s.m.size } fun v m'=>(barrier P ops i=true∨s.m.size≤m'.low∨(wbar P ops i=true∧freeAt ops i s.t=true)∨(wbarC P ops i=true∧leaveAt ops i s.t s.m m'=true))∧AOpsD P O G ops (i+1) l { t:=tput s.t o.dst v,m:=m'.at (min s.m.low m'.low) } Q) :
 AOpsD P O G ops i (o::l) s Q:=by
 obtain ⟨v,m',⟨K,h⟩,hb,s',⟨K2,h2⟩,q⟩:=h
 refine ⟨s',⟨max K K2,fun N D hN hD=>?_⟩,q⟩
 have h1:=h N D (by omega) (by omega)
 simp only [Mem.at] at h1
 have hb':(barrier P ops i||decide (s.m.size≤m'.low)||(wbar P ops i&&freeAt ops i s.t)||(wbarC P ops i&&leaveAt ops i s.t s.m m'))=true:=by
  rcases hb with h|h|⟨h1,h2⟩|⟨h1,h2⟩
  ·rw [h];rfl
  ·rw [decide_eq_true h];simp
  ·rw [h1,h2];simp
  ·rw [h1,h2];simp
 simp only [dsteps,dstep,astep,hw,if_true,aact,h1,hb']
 exact h2 N D (by omega) (by omega)
theorem AOpsD.skip {ops:Array Oper} {i:Nat} {o:Oper} {l:List Oper} {s:St} {Q:St→Prop} (hw:Region.wanted o (ayielded ops s.t)=false)
 (h:AOpsD P O G ops (i+1) l { t:=tput s.t o.dst undef,m:=s.m.at (min s.m.low s.m.size) } Q):AOpsD P O G ops i (o::l) s Q:=by
 obtain ⟨s',⟨K2,h2⟩,q⟩:=h
 refine ⟨s',⟨K2,fun N D hN hD=>?_⟩,q⟩
 have hb':(barrier P ops i||decide (s.m.size≤s.m.size)||(wbar P ops i&&freeAt ops i s.t)||(wbarC P ops i&&leaveAt ops i s.t s.m { s.m with low:=s.m.size }))=true:=by simp
 simp only [dsteps,dstep,astep,hw]
 simp only [Bool.false_eq_true,if_false,hb',if_true]
 exact h2 N D (by omega) (by omega)
theorem AVal.op {o:Oper} {s:St} {Q:Value→Mem→Prop} {v:Value} {m':Mem} (hc:∀ call,aval P call (ev s.t) o s.m=some (v,m')) (q:Q v m'):AVal P O G o s Q:=Ev.now (fun _ _=>hc _) q
theorem AVal.call {o:Oper} {s:St} {Q:Value→Mem→Prop} {f:FuncId} {asW:List Value} (hc:∀ call:CallF,aval P call (ev s.t) o s.m=call f asW s.m) (h:ACalls P O G f asW s.m Q):AVal P O G o s Q:=by
 obtain ⟨v,m',⟨K,h⟩,q⟩:=h
 exact ⟨v,m',⟨K,fun N D hN hD=>(hc _).trans (h N D hN hD)⟩,q⟩
theorem ACalls.enter {f:FuncId} {fn:Func} {c:Code} {asW:List Value} {m:Mem} {Q:Value→Mem→Prop} (ho:O f=none) (hf:P.funcs[f]?=some fn) (hb:fn.body=some c) (hok:fnOk G fn c=true) (hn:asW.length≤fn.ntmps)
 (h:AWp P O G c { t:=tmpsOf 0 asW .leaf,m:=m } fun e s=>match e with| .exit _=>False|_=>∃ v,resultsOf P fn s=some v∧Q v s.m):ACalls P O G f asW m Q:=by
 obtain ⟨e,s,⟨K,h⟩,q⟩:=h
 have:∃ v,resultsOf P fn s=some v∧Q v s.m∧(e=.normal∨e=.ret):=by
  cases e with
  |normal=>obtain ⟨v,h1,h2⟩:=q;exact ⟨v,h1,h2,.inl rfl⟩
  |ret=>obtain ⟨v,h1,h2⟩:=q;exact ⟨v,h1,h2,.inr rfl⟩
  |exit i=>exact q.elim
 obtain ⟨v,h1,h2,h3⟩:=this
 refine ⟨v,s.m,⟨K+1,fun N D hN hD=>?_⟩,h2⟩
 obtain ⟨D,rfl⟩:∃ j,D=j+1:=⟨D-1,by omega⟩
 have hx:=h N D (by omega) (by omega)
 rcases h3 with rfl|rfl<;>simp only [acall,ho,Option.bind_none,hf,hb,hok,decide_eq_true hn,Bool.and_self,if_true,hx,h1,Option.map_some]
theorem ACalls.oracle {f:FuncId} {F:List Value→Mem→Option (Value×Mem)} {asW:List Value} {m m':Mem} {v:Value} {Q:Value→Mem→Prop} (ho:O f=some F) (h:F asW m=some (v,m')) (q:Q v m'):ACalls P O G f asW m Q:=by
 refine ⟨v,m',⟨1,fun N D hN hD=>?_⟩,q⟩
 obtain ⟨D,rfl⟩:∃ j,D=j+1:=⟨D-1,by omega⟩
 simp only [acall,ho,Option.bind_some,h]
structure Fr (m m':Mem):Prop where
 size:m.size≤m'.size
 get:∀ b,b<m.size→m'.get b=m.get b
 low:min m.low m.size≤m'.low
end Go.Am
namespace Go.Vm
open Go.Am
inductive FV where
 |int (k:IntKind) (n:Int)
 |bool (b:Bool)
 |str (s:ByteArray)
 |val (x:Value)
 |agg (cs:List FV)
 |lst (e:TypeId) (cs:List FV) (n:Nat)
 |cptr (cs:List FV)
inductive PV where
 |p (x:FV)
 |agg (cs:List PV)
 |tup (vs:List PV)
 |vec (b tag off len:Nat)
 |ref (b off:Nat)
 |eref (b tag off:Nat)
 |mref (b:Nat)
 |clo (f:FuncId) (fs cs:List PV)
inductive HB where
 |box (e:TypeId) (cs:List PV)
 |vec (e:TypeId) (cs:List FV) (n:Nat) (z:Bool)
 |map (es:List (FV×FV))
 |vecp (e:TypeId) (cs:List PV) (n:Nat)
 |mapp (ks:List FV) (cs:List PV)
abbrev Heap:=List (Nat×HB)
abbrev Frame:=List (Nat×PV)
inductive Tg where
 |box
 |vec (n:Nat)
 |map
def Tg.le:Tg→Tg→Prop
 | .box,.box=>True
 | .map,.map=>True
 | .vec n,.vec k=>n≤k
 |_,_=>False
def HB.tag:HB→Tg
 | .box ..=>.box
 | .vec _ _ n _=>.vec n
 | .map _=>.map
 | .vecp _ _ n=>.vec n
 | .mapp _ _=>.map
def hget:Heap→Nat→Option HB
 |[],_=>none
 |(a,x)::H,b=>match Nat.decEq a b with
  | .isTrue _=>some x
  | .isFalse _=>hget H b
def hput:Heap→Nat→HB→Heap
 |[],_,_=>[]
 |(a,x)::H,b,y=>match Nat.decEq a b with
  | .isTrue _=>(a,y)::H
  | .isFalse _=>(a,x)::hput H b y
def lget:Frame→Nat→Option PV
 |[],_=>none
 |(a,x)::L,b=>match Nat.decEq a b with
  | .isTrue _=>some x
  | .isFalse _=>lget L b
theorem hget_cons (a:Nat) (x:HB) (H:Heap) (b:Nat):hget ((a,x)::H) b=if a=b then some x else hget H b:=by
 simp only [hget]
 cases Nat.decEq a b with
 |isTrue h=>simp [h]
 |isFalse h=>simp [h]
theorem lget_cons (a:Nat) (x:PV) (H:Frame) (b:Nat):lget ((a,x)::H) b=if a=b then some x else lget H b:=by
 simp only [lget]
 cases Nat.decEq a b with
 |isTrue h=>simp [h]
 |isFalse h=>simp [h]
theorem hget_hput (H:Heap) (b c:Nat) (y:HB):hget (hput H b y) c=if b=c then (hget H b).map (fun _=>y) else hget H c:=by
 induction H with
 |nil=>simp [hput,hget]
 |cons a H ih =>
  obtain ⟨a,x⟩:=a
  simp only [hput]
  cases hd:Nat.decEq a b with
  |isTrue h =>
   subst h
   simp only [hget_cons]
   by_cases hc:a=c<;>simp [hc]
  |isFalse h =>
   simp only [hget_cons,ih]
   by_cases hbc:b=c
   ·subst hbc
    simp [h]
   ·simp [hbc]
def htag (H:Heap) (b:Nat):Option Tg:=(hget H b).map HB.tag
def nilSlice:Value:=.slice none 0 0
mutual
inductive RF (m:Mem) (F:Nat→Prop):FV→Value→Prop
 |int (k:IntKind) (n:Int):RF m F (.int k n) (.int k n)
 |bool (b:Bool):RF m F (.bool b) (.bool b)
 |str (s:ByteArray):RF m F (.str s) (.string s)
 |val {x:Value} (h:Am.plainCell x=true):RF m F (.val x) x
 |agg {cs:List FV} {vs:List Value} (h:RFs m F cs vs) (hc:vs.all isCell=true):RF m F (.agg cs) (.agg vs.toArray)
 |nil (e:TypeId):RF m F (.lst e [] 0) (.slice none 0 0)
 |room (e:TypeId) (b o g:Nat):RF m F (.lst e [] 0) (.slice (some ⟨b,o,some g⟩) 0 0)
 |lst {e:TypeId} {cs:List FV} {n b o g:Nat} {vs ws:List Value} {ro:Bool} (hF:F b) (hm:m.get b=.cells vs e g ro) (hw:takeN cs.length (vs.drop o)=some ws) (h:RFs m F cs ws) (hc:ws.all isCell=true) :
  RF m F (.lst e cs n) (.slice (some ⟨b,o,none⟩) n g)
 |cptr {cs:List FV} {b o g:Nat} {sp:Option Nat} {e:TypeId} {vs ws:List Value} {ro:Bool} (hF:F b) (hm:m.get b=.cells vs e g ro) (hg:agen ⟨b,o,sp⟩=g) (hw:takeN cs.length (vs.drop o)=some ws) (h:RFs m F cs ws) (hc:ws.all isCell=true) :
  RF m F (.cptr cs) (.pointer (some ⟨b,o,sp⟩))
inductive RFs (m:Mem) (F:Nat→Prop):List FV→List Value→Prop
 |nil:RFs m F [] []
 |cons {c:FV} {v:Value} {cs:List FV} {vs:List Value} (h:RF m F c v) (t:RFs m F cs vs):RFs m F (c::cs) (v::vs)
end
def SubOf (s:Value) (off len:Nat) (v:Value):Prop :=
 match s with
 | .slice (some ⟨c,0,none⟩) _ g=>v=.slice (some ⟨c,off,none⟩) len g
 |s=>v=s∧off=0∧len=0
mutual
inductive RP (m:Mem) (F:Nat→Prop) (T:Nat→Option Tg) (σ:Nat→Value) (nx:Nat):PV→Value→Prop
 |p {x:FV} {v:Value} (h:RF m F x v):RP m F T σ nx (.p x) v
 |agg {cs:List PV} {vs:List Value} (h:RPs m F T σ nx cs vs) (hc:vs.all isCell=true):RP m F T σ nx (.agg cs) (.agg vs.toArray)
 |tup {cs:List PV} {vs:List Value} (h:RPs m F T σ nx cs vs):RP m F T σ nx (.tup cs) (.tuple vs.toArray)
 |vec {b tag off len:Nat} {v:Value} (hb:b<nx) (hc:isCell v=true) (h:∀ n,T b=some (.vec n)→tag≤n∧(tag=n→SubOf (σ b) off len v)):RP m F T σ nx (.vec b tag off len) v
 |ref {b off:Nat} {v:Value} (hb:b<nx) (hc:isCell v=true) (h:T b=some .box→∃ c,σ b=.pointer (some ⟨c,0,none⟩)∧v=.pointer (some ⟨c,off,none⟩)):RP m F T σ nx (.ref b off) v
 |eref {b tag off:Nat} {v:Value} (hb:b<nx) (hc:isCell v=true) (h:∀ n,T b=some (.vec n)→tag≤n∧(tag=n→∃ c k g,σ b=.slice (some ⟨c,0,none⟩) k g∧v=.pointer (some ⟨c,off,some g⟩))) :
  RP m F T σ nx (.eref b tag off) v
 |mref {b:Nat} {v:Value} (hb:b<nx) (hc:isCell v=true) (h:T b=some .map→v=σ b):RP m F T σ nx (.mref b) v
 |clo {f:FuncId} {fs cs:List PV} {vf vc:List Value} (h1:RPs m F T σ nx fs vf) (h2:RPs m F T σ nx cs vc):RP m F T σ nx (.clo f fs cs) (.func (.func f) vf.toArray vc.toArray)
inductive RPs (m:Mem) (F:Nat→Prop) (T:Nat→Option Tg) (σ:Nat→Value) (nx:Nat):List PV→List Value→Prop
 |nil:RPs m F T σ nx [] []
 |cons {c:PV} {v:Value} {cs:List PV} {vs:List Value} (h:RP m F T σ nx c v) (t:RPs m F T σ nx cs vs):RPs m F T σ nx (c::cs) (v::vs)
end
mutual
theorem RF.mono {m m':Mem} {F F':Nat→Prop} (hF:∀ c,F c→F' c∧m'.get c=m.get c):∀ {x:FV} {v:Value},RF m F x v→RF m' F' x v
 |_,_,.int k n=>.int k n
 |_,_,.bool b=>.bool b
 |_,_,.str s=>.str s
 |_,_,.val h=>.val h
 |_,_,.agg h hc=>.agg (RFs.mono hF h) hc
 |_,_,.nil e=>.nil e
 |_,_,.room e b o g=>.room e b o g
 |_,_,.lst hb hm hw h hc=>.lst (hF _ hb).1 ((hF _ hb).2.trans hm) hw (RFs.mono hF h) hc
 |_,_,.cptr hb hm hg hw h hc=>.cptr (hF _ hb).1 ((hF _ hb).2.trans hm) hg hw (RFs.mono hF h) hc
theorem RFs.mono {m m':Mem} {F F':Nat→Prop} (hF:∀ c,F c→F' c∧m'.get c=m.get c):∀ {x:List FV} {v:List Value},RFs m F x v→RFs m' F' x v
 |_,_,.nil=>.nil
 |_,_,.cons h t=>.cons (RF.mono hF h) (RFs.mono hF t)
end
def TLe:Option Tg→Option Tg→Prop
 |_,none=>True
 |some t,some t'=>t.le t'
 |none,some _=>False
def Names (nx:Nat) (T:Nat→Option Tg) (σ:Nat→Value) (T':Nat→Option Tg) (σ':Nat→Value):Prop :=
 ∀ b,b<nx→TLe (T b) (T' b)∧(∀ t,T b=some t→T' b=some t→σ' b=σ b)
theorem Names.vec {nx:Nat} {T T':Nat→Option Tg} {σ σ':Nat→Value} (h:Names nx T σ T' σ') {b n:Nat} (hb:b<nx) (ht:T' b=some (.vec n)):∃ k,T b=some (.vec k)∧k≤n∧(k=n→σ' b=σ b):=by
 obtain ⟨h1,h2⟩:=h b hb
 rw [ht] at h1
 cases hT:T b with
 |none=>rw [hT] at h1;exact h1.elim
 |some t =>
  rw [hT] at h1
  cases t with
  |vec k=>exact ⟨k,rfl,h1,fun e=>h2 _ (by rw [hT,e]) ht⟩
  |box=>exact h1.elim
  |map=>exact h1.elim
theorem Names.box {nx:Nat} {T T':Nat→Option Tg} {σ σ':Nat→Value} (h:Names nx T σ T' σ') {b:Nat} (hb:b<nx) (ht:T' b=some .box):T b=some .box∧σ' b=σ b:=by
 obtain ⟨h1,h2⟩:=h b hb
 rw [ht] at h1
 cases hT:T b with
 |none=>rw [hT] at h1;exact h1.elim
 |some t =>
  rw [hT] at h1
  cases t with
  |box=>exact ⟨rfl,h2 _ hT ht⟩
  |vec k=>exact h1.elim
  |map=>exact h1.elim
theorem Names.map {nx:Nat} {T T':Nat→Option Tg} {σ σ':Nat→Value} (h:Names nx T σ T' σ') {b:Nat} (hb:b<nx) (ht:T' b=some .map):T b=some .map∧σ' b=σ b:=by
 obtain ⟨h1,h2⟩:=h b hb
 rw [ht] at h1
 cases hT:T b with
 |none=>rw [hT] at h1;exact h1.elim
 |some t =>
  rw [hT] at h1
  cases t with
  |map=>exact ⟨rfl,h2 _ hT ht⟩
  |vec k=>exact h1.elim
  |box=>exact h1.elim
theorem TLe.refl (t:Option Tg):TLe t t:=by
 cases t with
 |none=>trivial
 |some t=>cases t<;>simp [TLe,Tg.le]
theorem TLe.trans {a b c:Option Tg} (h:TLe a b) (k:TLe b c):TLe a c:=by
 cases c with
 |none=>trivial
 |some c =>
  cases b with
  |none=>exact k.elim
  |some b =>
   cases a with
   |none=>exact h.elim
   |some a =>
    cases a<;>cases b<;>cases c<;>simp_all [TLe,Tg.le]
    omega
theorem TLe.antisymm {a b c:Option Tg} (h:TLe a b) (k:TLe b c) (e:c=a):b=a:=by
 subst e
 cases c with
 |none =>
  cases b with
  |none=>rfl
  |some b=>exact h.elim
 |some c =>
  cases b with
  |none=>exact k.elim
  |some b =>
   cases c<;>cases b<;>simp_all [TLe,Tg.le]
   omega
theorem Names.refl (nx:Nat) (T:Nat→Option Tg) (σ:Nat→Value):Names nx T σ T σ:=fun _ _=>⟨TLe.refl _,fun _ _ _=>rfl⟩
theorem Names.trans {nx nx':Nat} {T T' T'':Nat→Option Tg} {σ σ' σ'':Nat→Value} (h:Names nx T σ T' σ') (k:Names nx' T' σ' T'' σ'') (hn:nx≤nx'):Names nx T σ T'' σ'':=fun b hb=>by
 obtain ⟨h1,h2⟩:=h b hb
 obtain ⟨k1,k2⟩:=k b (Nat.lt_of_lt_of_le hb hn)
 refine ⟨h1.trans k1,fun t e1 e2=>?_⟩
 have e':=TLe.antisymm h1 k1 (e2.trans e1.symm)
 rw [k2 t (e'.trans e1) e2,h2 t e1 (e'.trans e1)]
section
variable {m m':Mem} {F F':Nat→Prop} {T T':Nat→Option Tg} {σ σ':Nat→Value} {nx nx':Nat}
mutual
theorem RP.mono (hF:∀ c,F c→F' c∧m'.get c=m.get c) (hN:Names nx T σ T' σ') (hn:nx≤nx'):∀ {x:PV} {v:Value},RP m F T σ nx x v→RP m' F' T' σ' nx' x v
 |_,_,.p h=>.p (h.mono hF)
 |_,_,.agg h hc=>.agg (RPs.mono hF hN hn h) hc
 |_,_,.tup h=>.tup (RPs.mono hF hN hn h)
 |_,_,.vec hb hc h=>.vec (Nat.lt_of_lt_of_le hb hn) hc fun n ht=>by
  obtain ⟨k,h1,h2,h3⟩:=hN.vec hb ht
  obtain ⟨h4,h5⟩:=h k h1
  exact ⟨by omega,fun e=>by rw [h3 (by omega)];exact h5 (by omega)⟩
 |_,_,.ref hb hc h=>.ref (Nat.lt_of_lt_of_le hb hn) hc fun ht=>by
  obtain ⟨h1,h2⟩:=hN.box hb ht
  rw [h2];exact h h1
 |_,_,.eref hb hc h=>.eref (Nat.lt_of_lt_of_le hb hn) hc fun n ht=>by
  obtain ⟨k,h1,h2,h3⟩:=hN.vec hb ht
  obtain ⟨h4,h5⟩:=h k h1
  exact ⟨by omega,fun e=>by rw [h3 (by omega)];exact h5 (by omega)⟩
 |_,_,.mref hb hc h=>.mref (Nat.lt_of_lt_of_le hb hn) hc fun ht=>by
  obtain ⟨h1,h2⟩:=hN.map hb ht
  rw [h2];exact h h1
 |_,_,.clo h1 h2=>.clo (RPs.mono hF hN hn h1) (RPs.mono hF hN hn h2)
theorem RPs.mono (hF:∀ c,F c→F' c∧m'.get c=m.get c) (hN:Names nx T σ T' σ') (hn:nx≤nx'):∀ {x:List PV} {v:List Value},RPs m F T σ nx x v→RPs m' F' T' σ' nx' x v
 |_,_,.nil=>.nil
 |_,_,.cons h t=>.cons (RP.mono hF hN hn h) (RPs.mono hF hN hn t)
end
end
def blkOf:Value→Option Nat
 | .pointer (some a)=>some a.block
 | .slice (some ⟨c,_,none⟩) _ _=>some c
 | .map (some r)=>some r
 |_=>none
def entsRel (m:Mem) (F:Nat→Prop) (es:List (FV×FV)) (l:List MapEntry):Prop :=
 RFs m F (es.map (·.1)) (l.map (·.key))∧RFs m F (es.map (·.2)) (l.map (·.val))
def Stamped (l:List MapEntry) (clock:Nat):Prop:=l.map (·.born)=List.range l.length∧clock=l.length
def RB (m:Mem) (F:Nat→Prop) (T:Nat→Option Tg) (σ:Nat→Value) (nx:Nat) (s:Value):HB→Prop
 | .box e cs=>∃ c vs,s=.pointer (some ⟨c,0,none⟩)∧c<m.size∧¬ F c∧m.get c=.cells vs e 0 false∧RPs m F T σ nx cs vs∧vs.all isCell=true
 | .vec e cs n z=>(cs=[]∧n=0∧(s=nilSlice∧z=true∨∃ b o g,s=.slice (some ⟨b,o,some g⟩) 0 0∧z=false)) ∨
  ∃ c g vs,s=.slice (some ⟨c,0,none⟩) n g∧c<m.size∧¬ F c∧m.get c=.cells vs e g false∧RFs m F cs vs∧vs.all isCell=true∧(n=0→z=false)
 | .map es=>∃ r l clock,s=.map (some r)∧r<m.size∧¬ F r∧m.get r=.map l clock∧entsRel m F es l
 | .vecp e cs n=>∃ c g vs,s=.slice (some ⟨c,0,none⟩) n g∧c<m.size∧¬ F c∧m.get c=.cells vs e g false∧RPs m F T σ nx cs vs∧vs.all isCell=true
 | .mapp ks cs=>∃ r l clock,s=.map (some r)∧r<m.size∧¬ F r∧m.get r=.map l clock∧RFs m F ks (l.map (·.key))∧RPs m F T σ nx cs (l.map (·.val))∧Stamped l clock
structure Ctx (Γ:Nat→Option (List Value×TypeId)) (m:Mem) (F:Nat→Prop) (σ:Nat→Value) (H:Heap) (nx:Nat):Prop where
 fr:∀ c,F c→c<m.size
 hp:∀ b x,hget H b=some x→b<nx∧RB m F (htag H) σ nx (σ b) x
 sep:∀ b b' x x' c,hget H b=some x→hget H b'=some x'→blkOf (σ b)=some c→blkOf (σ b')=some c→b=b'
 gl:∀ g vs e,Γ g=some (vs,e)→F g∧m.get g=.cells vs e 0 true∧vs.all Am.plainCell=true
def own (H:Heap) (σ:Nat→Value) (c:Nat):Prop:=∃ b x,hget H b=some x∧blkOf (σ b)=some c
structure Step (m:Mem) (F:Nat→Prop) (σ:Nat→Value) (H:Heap) (nx:Nat) (m':Mem) (F':Nat→Prop) (σ':Nat→Value) (H':Heap) (nx':Nat):Prop where
 size:m.size≤m'.size
 keep:∀ c,c<m.size→¬ own H σ c→m'.get c=m.get c
 fmono:∀ c,F c→F' c
 fback:∀ c,c<m.size→F' c→F c∨own H σ c
 oback:∀ c,c<m.size→own H' σ' c→own H σ c
 nxle:nx≤nx'
 names:Names nx (htag H) σ (htag H') σ'
 low:∀ k,k≤m.low→k≤m.size→(∀ c,own H σ c→k≤c)→k≤m'.low
variable {Γ:Nat→Option (List Value×TypeId)}
theorem Ctx.notF {m:Mem} {F:Nat→Prop} {σ:Nat→Value} {H:Heap} {nx c:Nat} (h:Ctx Γ m F σ H nx) (ho:own H σ c):¬ F c∧c<m.size:=by
 obtain ⟨b,x,hb,hc⟩:=ho
 obtain ⟨_,hr⟩:=h.hp b x hb
 cases x with
 |box e cs =>
  obtain ⟨c',vs,h1,h2,h3,_⟩:=hr
  rw [h1] at hc
  simp only [blkOf,Option.some.injEq] at hc
  subst hc
  exact ⟨h3,h2⟩
 |vec e cs n z =>
  rcases hr with ⟨_,_,h1⟩|⟨c',g,vs,h1,h2,h3,_⟩
  ·rcases h1 with ⟨h1,_⟩|⟨b',o,g,h1,_⟩<;>rw [h1] at hc<;>simp [blkOf,nilSlice] at hc
  ·rw [h1] at hc
   simp only [blkOf,Option.some.injEq] at hc
   subst hc
   exact ⟨h3,h2⟩
 |map es =>
  obtain ⟨r,l,clock,h1,h2,h3,_⟩:=hr
  rw [h1] at hc
  simp only [blkOf,Option.some.injEq] at hc
  subst hc
  exact ⟨h3,h2⟩
 |vecp e cs n =>
  obtain ⟨c',g,vs,h1,h2,h3,_⟩:=hr
  rw [h1] at hc
  simp only [blkOf,Option.some.injEq] at hc
  subst hc
  exact ⟨h3,h2⟩
 |mapp ks cs =>
  obtain ⟨r,l,clock,h1,h2,h3,_⟩:=hr
  rw [h1] at hc
  simp only [blkOf,Option.some.injEq] at hc
  subst hc
  exact ⟨h3,h2⟩
theorem Step.refl (m:Mem) (F:Nat→Prop) (σ:Nat→Value) (H:Heap) (nx:Nat):Step m F σ H nx m F σ H nx :=
 ⟨Nat.le_refl _,fun _ _ _=>rfl,fun _ h=>h,fun _ _ h=>.inl h,fun _ _ h=>h,Nat.le_refl _,Names.refl _ _ _,fun _ h _ _=>h⟩
theorem Step.trans {m m' m'':Mem} {F F' F'':Nat→Prop} {σ σ' σ'':Nat→Value} {H H' H'':Heap} {nx nx' nx'':Nat} (h:Step m F σ H nx m' F' σ' H' nx') (k:Step m' F' σ' H' nx' m'' F'' σ'' H'' nx'') :
 Step m F σ H nx m'' F'' σ'' H'' nx'' where
 size:=Nat.le_trans h.size k.size
 keep c hc ho:=(k.keep c (Nat.lt_of_lt_of_le hc h.size) fun o=>ho (h.oback c hc o)).trans (h.keep c hc ho)
 fmono c hc:=k.fmono c (h.fmono c hc)
 fback c hc hf:=by
  rcases k.fback c (Nat.lt_of_lt_of_le hc h.size) hf with h1|h1
  ·exact h.fback c hc h1
  ·exact .inr (h.oback c hc h1)
 oback c hc ho:=h.oback c hc (k.oback c (Nat.lt_of_lt_of_le hc h.size) ho)
 nxle:=Nat.le_trans h.nxle k.nxle
 names:=h.names.trans k.names h.nxle
 low j h1 h2 h3:=k.low j (h.low j h1 h2 h3) (Nat.le_trans h2 h.size) fun c ho=>by
  by_cases hc:c<m.size
  ·exact h3 c (h.oback c hc ho)
  ·omega
theorem Step.frozen {m m':Mem} {F F':Nat→Prop} {σ σ':Nat→Value} {H H':Heap} {nx nx':Nat} (h:Step m F σ H nx m' F' σ' H' nx') (hx:Ctx Γ m F σ H nx):∀ c,F c→F' c∧m'.get c=m.get c:=fun c hc =>
 ⟨h.fmono c hc,h.keep c (hx.fr c hc) fun ho=>(hx.notF ho).1 hc⟩
theorem RP.step {m m':Mem} {F F':Nat→Prop} {σ σ':Nat→Value} {H H':Heap} {nx nx':Nat} (h:Step m F σ H nx m' F' σ' H' nx') (hx:Ctx Γ m F σ H nx) {x:PV} {v:Value} (hr:RP m F (htag H) σ nx x v) :
 RP m' F' (htag H') σ' nx' x v:=hr.mono (h.frozen hx) h.names h.nxle
def RL (m:Mem) (F:Nat→Prop) (T:Nat→Option Tg) (σ:Nat→Value) (nx:Nat) (L:Frame) (t:Tr Value):Prop:=∀ i v,lget L i=some v→RP m F T σ nx v (tget t i)
theorem RL.step {m m':Mem} {F F':Nat→Prop} {σ σ':Nat→Value} {H H':Heap} {nx nx':Nat} (h:Step m F σ H nx m' F' σ' H' nx') (hx:Ctx Γ m F σ H nx) {L:Frame} {t:Tr Value} (hr:RL m F (htag H) σ nx L t) :
 RL m' F' (htag H') σ' nx' L t:=fun i v hi=>(hr i v hi).step h hx
theorem RL.set {m:Mem} {F:Nat→Prop} {T:Nat→Option Tg} {σ:Nat→Value} {nx:Nat} {L:Frame} {t:Tr Value} (hr:RL m F T σ nx L t) {d:Nat} {x:PV} {v:Value} (h:RP m F T σ nx x v) :
 RL m F T σ nx ((d,x)::L) (tset t d v):=fun i y hi=>by
 rw [lget_cons] at hi
 rw [tget_tset]
 by_cases e:d=i
 ·rw [if_pos e] at hi ⊢
  cases hi
  exact h
 ·rw [if_neg e] at hi ⊢
  exact hr i y hi
def lput (L:Frame) (dst:Option Nat) (x:PV):Frame :=
 match dst with
 |some d=>(d,x)::L
 |none=>L
theorem RL.put {m:Mem} {F:Nat→Prop} {T:Nat→Option Tg} {σ:Nat→Value} {nx:Nat} {L:Frame} {t:Tr Value} (hr:RL m F T σ nx L t) {d:Option Nat} {x:PV} {v:Value} (h:RP m F T σ nx x v) :
 RL m F T σ nx (lput L d x) (tput t d v):=by
 cases d with
 |none=>exact hr
 |some d=>exact hr.set h
def cellFV:Value→FV
 | .int k n=>.int k n
 | .bool b=>.bool b
 | .string s=>.str s
 |x=>.val x
theorem cellFV_rel {m:Mem} {F:Nat→Prop} {x:Value} (h:Am.plainCell x=true):RF m F (cellFV x) x:=by
 unfold cellFV
 split
 ·exact .int _ _
 ·exact .bool _
 ·exact .str _
 ·exact .val h
theorem cellFVs_rel {m:Mem} {F:Nat→Prop}:∀ {l:List Value},l.all Am.plainCell=true→RFs m F (l.map cellFV) l
 |[],_=>.nil
 |v::l,h=>by
  simp only [List.all_cons,Bool.and_eq_true] at h
  exact .cons (cellFV_rel h.1) (cellFVs_rel h.2)
def constPV:Value→Option PV
 | .int k n=>some (.p (.int k n))
 | .bool b=>some (.p (.bool b))
 | .string s=>some (.p (.str s))
 | .agg cs=>if cs.toList.all Am.plainCell then some (.p (.agg (cs.toList.map cellFV))) else none
 |x=>if Am.plainCell x then some (.p (.val x)) else none
def vev (Γ:Nat→Option (List Value×TypeId)) (L:Frame):Operand→Option PV
 | .tmp i=>lget L i
 | .const v=>constPV v
 | .global g=>(Γ g).map fun x=>.p (.cptr (x.1.map cellFV))
 | .func f=>some (.clo f [] [])
theorem constPV_rel {m:Mem} {F:Nat→Prop} {T:Nat→Option Tg} {σ:Nat→Value} {nx:Nat} {v:Value} {x:PV} (h:constPV v=some x):RP m F T σ nx x v:=by
 unfold constPV at h
 split at h
 ·cases h;exact .p (.int _ _)
 ·cases h;exact .p (.bool _)
 ·cases h;exact .p (.str _)
 ·split at h
  ·rename_i cs hc
   cases h
   exact .p (.agg (cellFVs_rel hc) (all_plain_isCell hc))
  ·cases h
 ·split at h
  ·rename_i hc
   cases h
   exact .p (.val hc)
  ·cases h
theorem RFs.length {m:Mem} {F:Nat→Prop}:∀ {cs:List FV} {vs:List Value},RFs m F cs vs→cs.length=vs.length
 |_,_,.nil=>rfl
 |_,_,.cons _ t=>by simp [t.length]
theorem vev_rel {m:Mem} {F:Nat→Prop} {σ:Nat→Value} {H:Heap} {nx:Nat} {L:Frame} {t:Tr Value} (hx:Ctx Γ m F σ H nx) (hl:RL m F (htag H) σ nx L t) {o:Operand} {x:PV} (h:vev Γ L o=some x) :
 RP m F (htag H) σ nx x (ev t o):=by
 cases o with
 |tmp i=>exact hl i x h
 |const v=>exact constPV_rel h
 |global g =>
  simp only [vev,Option.map_eq_some_iff] at h
  obtain ⟨⟨vs,e⟩,h1,rfl⟩:=h
  obtain ⟨h2,h3,h4⟩:=hx.gl g vs e h1
  exact .p (.cptr h2 h3 rfl (by simp [takeN]) (cellFVs_rel h4) (all_plain_isCell h4))
 |func f =>
  cases h
  exact .clo .nil .nil
end Go.Vm
namespace Go.Vm
open Go.Am
structure Env where
 P:Program
 O:Oracle
 G:List Nat
 Γ:Nat→Option (List Value×TypeId)
structure Base where
 m:Mem
 F:Nat→Prop
 σ:Nat→Value
 H:Heap
 nx:Nat
def Base.to (B:Base) (m:Mem) (F:Nat→Prop) (σ:Nat→Value) (H:Heap) (nx:Nat):Prop:=Step B.m B.F B.σ B.H B.nx m F σ H nx
def Quiet (m m':Mem):Prop:=∀ k,k≤m.low→k≤m.size→k≤m'.low
def VVal (E:Env) (w:Bool) (o:Oper) (L:Frame) (H:Heap) (nx:Nat) (Q:PV→Heap→Nat→Prop):Prop :=
 ∀ m F σ t,Ctx E.Γ m F σ H nx→RL m F (htag H) σ nx L t →
  AVal E.P E.O E.G o ⟨t,m⟩ fun v m'=>∃ r H' nx' F' σ',Q r H' nx'∧Ctx E.Γ m' F' σ' H' nx'∧RP m' F' (htag H') σ' nx' r v∧Step m F σ H nx m' F' σ' H' nx'∧(w=false→Quiet m m')
def VOps (E:Env) (bn:Nat) (ops:Array Oper) (l:List Oper) (L:Frame) (H:Heap) (nx:Nat) (Q:Frame→Heap→Nat→Prop):Prop :=
 ∀ (B:Base),B.nx=bn→∀ m F σ t,Ctx E.Γ m F σ H nx→RL m F (htag H) σ nx L t→B.to m F σ H nx →
  AOps E.P E.O E.G ops l ⟨t,m⟩ fun s'=>∃ L' H' nx' F' σ',Q L' H' nx'∧Ctx E.Γ s'.m F' σ' H' nx'∧RL s'.m F' (htag H') σ' nx' L' s'.t∧B.to s'.m F' σ' H' nx'
def VOpsD (E:Env) (bn:Nat) (ops:Array Oper) (i:Nat) (l:List Oper) (L:Frame) (H:Heap) (nx:Nat) (Q:Frame→Heap→Nat→Prop):Prop :=
 ∀ (B:Base),B.nx=bn→∀ m F σ t,Ctx E.Γ m F σ H nx→RL m F (htag H) σ nx L t→B.to m F σ H nx →
  AOpsD E.P E.O E.G ops i l ⟨t,m⟩ fun s'=>∃ L' H' nx' F' σ',Q L' H' nx'∧Ctx E.Γ s'.m F' σ' H' nx'∧RL s'.m F' (htag H') σ' nx' L' s'.t∧B.to s'.m F' σ' H' nx'
def VWp (E:Env) (bn:Nat) (c:Code) (L:Frame) (H:Heap) (nx:Nat) (Q:AExit→Frame→Heap→Nat→Prop):Prop :=
 ∀ (B:Base),B.nx=bn→∀ m F σ t,Ctx E.Γ m F σ H nx→RL m F (htag H) σ nx L t→B.to m F σ H nx →
  AWp E.P E.O E.G c ⟨t,m⟩ fun e s'=>∃ L' H' nx' F' σ',Q e L' H' nx'∧Ctx E.Γ s'.m F' σ' H' nx'∧RL s'.m F' (htag H') σ' nx' L' s'.t∧B.to s'.m F' σ' H' nx'
def VCalls (E:Env) (f:FuncId) (args:List PV) (H:Heap) (nx:Nat) (Q:PV→Heap→Nat→Prop):Prop :=
 ∀ m F σ asW,Ctx E.Γ m F σ H nx→RPs m F (htag H) σ nx args asW →
  ACalls E.P E.O E.G f asW m fun v m'=>∃ r H' nx' F' σ',Q r H' nx'∧Ctx E.Γ m' F' σ' H' nx'∧RP m' F' (htag H') σ' nx' r v∧Step m F σ H nx m' F' σ' H' nx'
variable {E:Env} {bn:Nat} {L:Frame} {H:Heap} {nx:Nat} {Q:AExit→Frame→Heap→Nat→Prop}
theorem VWp.mono {c:Code} {R:AExit→Frame→Heap→Nat→Prop} (h:VWp E bn c L H nx R) (hq:∀ e L' H' nx',R e L' H' nx'→Q e L' H' nx'):VWp E bn c L H nx Q :=
 fun B hB m F σ t h1 h2 h3=>(h B hB m F σ t h1 h2 h3).mono fun _ _ ⟨L',H',nx',F',σ',q,r⟩=>⟨L',H',nx',F',σ',hq _ _ _ _ q,r⟩
theorem VWp.seq {a b:Code} (h:VWp E bn a L H nx fun e L' H' nx'=>match e with| .normal=>VWp E bn b L' H' nx' Q| .ret=>Q .ret L' H' nx'| .exit i=>Q (.exit i) L' H' nx'):VWp E bn (.seq a b) L H nx Q:=by
 intro B hB m F σ t h1 h2 h3
 refine AWp.seq ((h B hB m F σ t h1 h2 h3).mono ?_)
 rintro e s' ⟨L',H',nx',F',σ',q,c1,c2,c3⟩
 cases e with
 |normal=>exact q B hB _ _ _ _ c1 c2 c3
 |ret=>exact ⟨L',H',nx',F',σ',q,c1,c2,c3⟩
 |exit i=>exact ⟨L',H',nx',F',σ',q,c1,c2,c3⟩
theorem VWp.skip (h:Q .normal L H nx):VWp E bn .skip L H nx Q:=fun _ _ _ F σ _ h1 h2 h3=>AWp.skip ⟨L,H,nx,F,σ,h,h1,h2,h3⟩
theorem VWp.ret (h:Q .ret L H nx):VWp E bn .ret L H nx Q:=fun _ _ _ F σ _ h1 h2 h3=>AWp.ret ⟨L,H,nx,F,σ,h,h1,h2,h3⟩
theorem VWp.exit {i:Nat} (h:Q (.exit i) L H nx):VWp E bn (.exit i) L H nx Q:=fun _ _ _ F σ _ h1 h2 h3=>AWp.exit ⟨L,H,nx,F,σ,h,h1,h2,h3⟩
theorem vev_bool {Γ:Nat→Option (List Value×TypeId)} {m:Mem} {F:Nat→Prop} {σ:Nat→Value} {t:Tr Value} {b:Bool} {o:Operand} (hx:Ctx Γ m F σ H nx) (hl:RL m F (htag H) σ nx L t) (h:vev Γ L o=some (.p (.bool b))):ev t o=.bool b:=by
 have:=vev_rel hx hl h
 generalize hv:ev t o=v at this
 rcases this with ⟨h⟩
 rename_i h
 cases h
 rfl
theorem VWp.cond {c:Operand} {a b:Code} (t:Bool) (hc:vev E.Γ L c=some (.p (.bool t))) (ht:t=true→VWp E bn a L H nx Q) (hf:t=false→VWp E bn b L H nx Q):VWp E bn (.cond c a b) L H nx Q :=
 fun B hB m F σ u h1 h2 h3=>AWp.cond t (vev_bool h1 h2 hc) (fun e=>ht e B hB m F σ u h1 h2 h3) (fun e=>hf e B hB m F σ u h1 h2 h3)
theorem VWp.cond_true {c:Operand} {a b:Code} (hc:vev E.Γ L c=some (.p (.bool true))) (ht:VWp E bn a L H nx Q):VWp E bn (.cond c a b) L H nx Q:=VWp.cond true hc (fun _=>ht) (fun h=>by cases h)
theorem VWp.cond_false {c:Operand} {a b:Code} (hc:vev E.Γ L c=some (.p (.bool false))) (hf:VWp E bn b L H nx Q):VWp E bn (.cond c a b) L H nx Q:=VWp.cond false hc (fun h=>by cases h) (fun _=>hf)
theorem VWp.cond_dec {c:Operand} {a b:Code} {p:Prop} {_:Decidable p} (hc:vev E.Γ L c=some (.p (.bool (decide p)))) (ht:p→VWp E bn a L H nx Q) (hf:¬ p→VWp E bn b L H nx Q):VWp E bn (.cond c a b) L H nx Q :=
 VWp.cond (decide p) hc (fun h=>ht (of_decide_eq_true h)) (fun h=>hf (of_decide_eq_false h))
theorem VWp.block {id:Nat} {b:Code} (h:VWp E bn b L H nx fun e L' H' nx'=>match e with| .normal=>Q .normal L' H' nx'| .ret=>Q .ret L' H' nx'| .exit i=>if i=id then Q .normal L' H' nx' else Q (.exit i) L' H' nx') :
 VWp E bn (.block id b) L H nx Q:=by
 intro B hB m F σ t h1 h2 h3
 refine AWp.block ((h B hB m F σ t h1 h2 h3).mono ?_)
 rintro e s' ⟨L',H',nx',F',σ',q,c⟩
 cases e with
 |normal=>exact ⟨L',H',nx',F',σ',q,c⟩
 |ret=>exact ⟨L',H',nx',F',σ',q,c⟩
 |exit i =>
  simp only at q ⊢
  split
  ·rename_i hi;rw [if_pos hi] at q;exact ⟨L',H',nx',F',σ',q,c⟩
  ·rename_i hi;rw [if_neg hi] at q;exact ⟨L',H',nx',F',σ',q,c⟩
theorem VWp.region {id:Nat} {ops:Array Oper} (h:VOps E bn ops ops.toList L H nx (Q .normal)):VWp E bn (.region id ops false) L H nx Q :=
 fun B hB m F σ t h1 h2 h3=>AWp.region (h B hB m F σ t h1 h2 h3)
theorem VWp.regionD {id:Nat} {ops:Array Oper} (h:VOpsD E bn ops 0 ops.toList L H nx (Q .normal)):VWp E bn (.region id ops true) L H nx Q :=
 fun B hB m F σ t h1 h2 h3=>AWp.regionD (h B hB m F σ t h1 h2 h3)
mutual
inductive FLe:FV→FV→Prop
 |refl (x:FV):FLe x x
 |nil (e:TypeId):FLe (.val (.slice none 0 0)) (.lst e [] 0)
 |agg {cs ds:List FV} (h:FLes cs ds):FLe (.agg cs) (.agg ds)
 |lst {e:TypeId} {n:Nat} {cs ds:List FV} (h:FLes cs ds):FLe (.lst e cs n) (.lst e ds n)
 |cptr {cs ds:List FV} (h:FLes cs ds):FLe (.cptr cs) (.cptr ds)
inductive FLes:List FV→List FV→Prop
 |refl (l:List FV):FLes l l
 |cons {a b:FV} {l l':List FV} (h:FLe a b) (t:FLes l l'):FLes (a::l) (b::l')
end
mutual
inductive PLe:PV→PV→Prop
 |refl (x:PV):PLe x x
 |p {x y:FV} (h:FLe x y):PLe (.p x) (.p y)
 |agg {cs ds:List PV} (h:PLes cs ds):PLe (.agg cs) (.agg ds)
 |tup {cs ds:List PV} (h:PLes cs ds):PLe (.tup cs) (.tup ds)
inductive PLes:List PV→List PV→Prop
 |refl (l:List PV):PLes l l
 |cons {a b:PV} {l l':List PV} (h:PLe a b) (t:PLes l l'):PLes (a::l) (b::l')
end
theorem PLe.of_eq {x y:PV} (h:x=y):PLe x y:=h▸.refl _
theorem PLes.of_eq {x y:List PV} (h:x=y):PLes x y:=h▸.refl _
mutual
theorem FLe.length {cs ds:List FV}:FLes cs ds→cs.length=ds.length
 | .refl _=>rfl
 | .cons _ t=>by simp [FLe.length t]
end
section
variable {m:Mem} {F:Nat→Prop}
mutual
theorem RF.le:∀ {x y:FV},FLe x y→∀ {v:Value},RF m F x v→RF m F y v
 |_,_,.refl _,_,h=>h
 |_,_,.nil e,_,h=>by cases h;exact RF.nil e
 |_,_,.agg h,_,r=>by cases r with|agg h1 hc=>exact .agg (RFs.le h h1) hc
 |_,_,.lst h,_,r=>by
  cases r with
  |nil=>cases h with|refl=>exact .nil _
  |room=>cases h with|refl=>exact .room _ _ _ _
  |lst hF hm hw h1 hc=>exact .lst hF hm (by rw [← FLe.length h];exact hw) (RFs.le h h1) hc
 |_,_,.cptr h,_,r=>by cases r with|cptr hF hm hg hw h1 hc=>exact .cptr hF hm hg (by rw [← FLe.length h];exact hw) (RFs.le h h1) hc
theorem RFs.le:∀ {x y:List FV},FLes x y→∀ {v:List Value},RFs m F x v→RFs m F y v
 |_,_,.refl _,_,h=>h
 |_,_,.cons h t,_,r=>by cases r with|cons h1 t1=>exact .cons (RF.le h h1) (RFs.le t t1)
end
variable {T:Nat→Option Tg} {σ:Nat→Value} {n:Nat}
mutual
theorem RP.le:∀ {x y:PV},PLe x y→∀ {v:Value},RP m F T σ n x v→RP m F T σ n y v
 |_,_,.refl _,_,h=>h
 |_,_,.p h,_,r=>by cases r with|p h1=>exact .p (RF.le h h1)
 |_,_,.agg h,_,r=>by cases r with|agg h1 hc=>exact .agg (RPs.le h h1) hc
 |_,_,.tup h,_,r=>by cases r with|tup h1=>exact .tup (RPs.le h h1)
theorem RPs.le:∀ {x y:List PV},PLes x y→∀ {v:List Value},RPs m F T σ n x v→RPs m F T σ n y v
 |_,_,.refl _,_,h=>h
 |_,_,.cons h t,_,r=>by cases r with|cons h1 t1=>exact .cons (RP.le h h1) (RPs.le t t1)
end
end
mutual
def PV.under (k:Nat):PV→Prop
 | .p _=>True
 | .agg cs=>PVs.under k cs
 | .tup cs=>PVs.under k cs
 | .vec b _ _ _=>b<k
 | .ref b _=>b<k
 | .eref b _ _=>b<k
 | .mref b=>b<k
 | .clo _ fs cs=>PVs.under k fs∧PVs.under k cs
def PVs.under (k:Nat):List PV→Prop
 |[]=>True
 |c::cs=>PV.under k c∧PVs.under k cs
end
theorem PVs.under_pure (k:Nat):∀ cs:List FV,PVs.under k (cs.map .p)
 |[]=>trivial
 |_::cs=>⟨trivial,PVs.under_pure k cs⟩
section
variable {m:Mem} {F:Nat→Prop} {T T':Nat→Option Tg} {σ:Nat→Value} {nx nx':Nat}
mutual
theorem RP.low (hT:∀ b t,T' b=some t→T b=some t):∀ {x:PV} {v:Value},x.under nx'→RP m F T σ nx x v→RP m F T' σ nx' x v
 |_,_,_,.p h=>.p h
 |_,_,hb,.agg h hc=>.agg (RPs.low hT hb h) hc
 |_,_,hb,.tup h=>.tup (RPs.low hT hb h)
 |_,_,hb,.vec _ hc h=>.vec hb hc fun n ht=>h n (hT _ _ ht)
 |_,_,hb,.ref _ hc h=>.ref hb hc fun ht=>h (hT _ _ ht)
 |_,_,hb,.eref _ hc h=>.eref hb hc fun n ht=>h n (hT _ _ ht)
 |_,_,hb,.mref _ hc h=>.mref hb hc fun ht=>h (hT _ _ ht)
 |_,_,hb,.clo h1 h2=>.clo (RPs.low hT hb.1 h1) (RPs.low hT hb.2 h2)
theorem RPs.low (hT:∀ b t,T' b=some t→T b=some t):∀ {x:List PV} {v:List Value},PVs.under nx' x→RPs m F T σ nx x v→RPs m F T' σ nx' x v
 |_,_,_,.nil=>.nil
 |_,_,hb,.cons h t=>.cons (RP.low hT hb.1 h) (RPs.low hT hb.2 t)
end
end
def LCov (k:Nat):Frame→Frame→Prop
 |[],_=>True
 |(i,v0)::L0,L=>(v0.under k∧∃ v,lget L i=some v∧PLe v v0)∧LCov k L0 L
inductive HLe:HB→HB→Prop
 |refl (x:HB):HLe x x
 |box {e:TypeId} {cs ds:List PV} (h:PLes cs ds):HLe (.box e cs) (.box e ds)
 |vec {e:TypeId} {cs ds:List FV} {n k:Nat} {z:Bool} (h:FLes cs ds) (hn:n=k):HLe (.vec e cs n z) (.vec e ds k z)
theorem HLe.of_eq {x y:HB} (h:x=y):HLe x y:=h▸.refl _
def HB.under (k:Nat):HB→Prop
 | .box _ cs=>PVs.under k cs
 | .vecp _ cs _=>PVs.under k cs
 | .mapp _ cs=>PVs.under k cs
 |_=>True
def HCov (k:Nat):Heap→Heap→Prop
 |[],_=>True
 |(i,x0)::H0,H=>(i<k∧x0.under k∧∃ x,hget H i=some x∧HLe x x0)∧HCov k H0 H
structure Cov (L:Frame) (H:Heap) (nx:Nat) (L0:Frame) (H0:Heap) (nx0:Nat):Prop where
 n:nx0≤nx
 l:LCov nx0 L0 L
 h:HCov nx0 H0 H
theorem LCov.get {k:Nat} {L:Frame}:∀ {L0:Frame},LCov k L0 L→∀ i v0,lget L0 i=some v0→v0.under k∧∃ v,lget L i=some v∧PLe v v0
 |[],_,_,_,h=>by cases h
 |(j,w)::L0,⟨h1,h2⟩,i,v0,h=>by
  rw [lget_cons] at h
  by_cases e:j=i
  ·rw [if_pos e] at h;cases h;subst e;exact h1
  ·rw [if_neg e] at h;exact LCov.get h2 i v0 h
theorem HCov.get {k:Nat} {H:Heap}:∀ {H0:Heap},HCov k H0 H→∀ i v0,hget H0 i=some v0→i<k∧v0.under k∧∃ v,hget H i=some v∧HLe v v0
 |[],_,_,_,h=>by cases h
 |(j,w)::L0,⟨h1,h2⟩,i,v0,h=>by
  rw [hget_cons] at h
  by_cases e:j=i
  ·rw [if_pos e] at h;cases h;subst e;exact h1
  ·rw [if_neg e] at h;exact HCov.get h2 i v0 h
theorem HLe.tag {x y:HB} (h:HLe x y):x.tag=y.tag:=by
 cases h with
 |refl=>rfl
 |box=>rfl
 |vec _ hn=>simp [HB.tag,hn]
theorem HCov.tag {k:Nat} {H H0:Heap} (h:HCov k H0 H) (b:Nat) (t:Tg) (ht:htag H0 b=some t):htag H b=some t:=by
 unfold htag at ht ⊢
 cases h0:hget H0 b with
 |none=>rw [h0] at ht;cases ht
 |some x0 =>
  rw [h0] at ht
  obtain ⟨_,_,x,hx,hle⟩:=h.get b x0 h0
  rw [hx,Option.map_some,hle.tag]
  exact ht
theorem Cov.own {L0:Frame} {H0:Heap} {nx0:Nat} (h:Cov L H nx L0 H0 nx0) {σ:Nat→Value} {c:Nat} (ho:Vm.own H0 σ c):Vm.own H σ c:=by
 obtain ⟨b,x,hb,hc⟩:=ho
 obtain ⟨_,_,y,hy,_⟩:=h.h.get b x hb
 exact ⟨b,y,hy,hc⟩
theorem Cov.ctx {Γ:Nat→Option (List Value×TypeId)} {m:Mem} {F:Nat→Prop} {σ:Nat→Value} {L0:Frame} {H0:Heap} {nx0:Nat} (h:Cov L H nx L0 H0 nx0) (hx:Ctx Γ m F σ H nx):Ctx Γ m F σ H0 nx0 where
 fr:=hx.fr
 hp b x0 hb:=by
  obtain ⟨h1,h2,x,h3,h4⟩:=h.h.get b x0 hb
  refine ⟨h1,?_⟩
  obtain ⟨_,hr⟩:=hx.hp b x h3
  have hT:=fun b t=>HCov.tag h.h b t
  cases h4 with
  |refl =>
   cases x0 with
   |box e cs=>obtain ⟨c,vs,r1,r2,r3,r4,r5,r6⟩:=hr;exact ⟨c,vs,r1,r2,r3,r4,RPs.low hT h2 r5,r6⟩
   |vec e cs n z=>exact hr
   |map es=>exact hr
   |vecp e cs n=>obtain ⟨c,g,vs,r1,r2,r3,r4,r5,r6⟩:=hr;exact ⟨c,g,vs,r1,r2,r3,r4,RPs.low hT h2 r5,r6⟩
   |mapp ks cs=>obtain ⟨r,l,clock,r1,r2,r3,r4,r5,r6,r7⟩:=hr;exact ⟨r,l,clock,r1,r2,r3,r4,r5,RPs.low hT h2 r6,r7⟩
  |box hle=>obtain ⟨c,vs,r1,r2,r3,r4,r5,r6⟩:=hr;exact ⟨c,vs,r1,r2,r3,r4,RPs.low hT h2 (RPs.le hle r5),r6⟩
  |vec hle hn =>
   subst hn
   rcases hr with ⟨r1,r2,r3⟩|⟨c,g,vs,r1,r2,r3,r4,r5,r6⟩
   ·subst r1
    cases hle with|refl=>exact .inl ⟨rfl,r2,r3⟩
   ·exact .inr ⟨c,g,vs,r1,r2,r3,r4,RFs.le hle r5,r6⟩
 sep b b' x x' c h1 h2 h3 h4:=by
  obtain ⟨_,_,y,hy,_⟩:=h.h.get b x h1
  obtain ⟨_,_,y',hy',_⟩:=h.h.get b' x' h2
  exact hx.sep b b' y y' c hy hy' h3 h4
 gl:=hx.gl
theorem Cov.rl {m:Mem} {F:Nat→Prop} {σ:Nat→Value} {L0:Frame} {H0:Heap} {nx0:Nat} (h:Cov L H nx L0 H0 nx0) {t:Tr Value} (hl:RL m F (htag H) σ nx L t):RL m F (htag H0) σ nx0 L0 t:=fun i v hi=>by
 obtain ⟨h1,w,h2,h3⟩:=h.l.get i v hi
 exact RP.low (fun b t=>HCov.tag h.h b t) h1 (RP.le h3 (hl i w h2))
theorem Cov.step {B:Base} {m:Mem} {F:Nat→Prop} {σ:Nat→Value} {L0:Frame} {H0:Heap} {nx0:Nat} (h:Cov L H nx L0 H0 nx0) (hb:B.nx≤nx0) (hs:B.to m F σ H nx):B.to m F σ H0 nx0 where
 size:=hs.size
 keep:=hs.keep
 fmono:=hs.fmono
 fback:=hs.fback
 oback c hc ho:=hs.oback c hc (h.own ho)
 nxle:=hb
 names b hb:=by
  obtain ⟨h1,h2⟩:=hs.names b hb
  cases h0:htag H0 b with
  |none=>exact ⟨trivial,fun _ _ e=>by cases e⟩
  |some t =>
   have:=HCov.tag h.h b t h0
   rw [this] at h1 h2
   exact ⟨h1,h2⟩
 low:=hs.low
end Go.Vm
namespace Go.Vm
open Go.Am
variable {E:Env} {bn:Nat} {L:Frame} {H:Heap} {nx:Nat} {Q:AExit→Frame→Heap→Nat→Prop}
theorem VWp.loop {α:Type} {b:Code} (Lf:α→Frame) (Hf:α→Heap) (nx0:Nat) (inv:α→Prop) (μ:α→Nat) (a0:α) (hb:bn≤nx0) (h0:inv a0) (hc:Cov L H nx (Lf a0) (Hf a0) nx0)
 (hs:∀ a,inv a→VWp E bn b (Lf a) (Hf a) nx0 fun e L' H' nx'=>match e with| .normal=>∃ a',inv a'∧μ a'<μ a∧Cov L' H' nx' (Lf a') (Hf a') nx0| .ret=>Q .ret L' H' nx'| .exit i=>Q (.exit i) L' H' nx') :
 VWp E bn (.loop b) L H nx Q:=by
 intro B hB m F σ t h1 h2 h3
 refine AWp.loop (fun n s=>∃ a F σ,inv a∧μ a=n∧Ctx E.Γ s.m F σ (Hf a) nx0∧RL s.m F (htag (Hf a)) σ nx0 (Lf a) s.t∧B.to s.m F σ (Hf a) nx0) (μ a0) ⟨a0,F,σ,h0,rfl,hc.ctx h1,hc.rl h2,hc.step (by omega) h3⟩ ?_
 rintro n s ⟨a,F1,σ1,ha,rfl,c1,c2,c3⟩
 refine (hs a ha B hB s.m F1 σ1 s.t c1 c2 c3).mono ?_
 rintro e s' ⟨L',H',nx',F',σ',q,d1,d2,d3⟩
 cases e with
 |normal =>
  obtain ⟨a',i1,i2,i3⟩:=q
  exact ⟨_,i2,a',F',σ',i1,rfl,i3.ctx d1,i3.rl d2,i3.step (by omega) d3⟩
 |ret=>exact ⟨L',H',nx',F',σ',q,d1,d2,d3⟩
 |exit i=>exact ⟨L',H',nx',F',σ',q,d1,d2,d3⟩
section
variable {ops:Array Oper} {o:Oper} {l:List Oper} {i:Nat} {R:Frame→Heap→Nat→Prop}
theorem VOps.nil (h:R L H nx):VOps E bn ops [] L H nx R:=fun _ _ _ F σ _ h1 h2 h3=>AOps.nil ⟨L,H,nx,F,σ,h,h1,h2,h3⟩
theorem VOpsD.nil (h:R L H nx):VOpsD E bn ops i [] L H nx R:=fun _ _ _ F σ _ h1 h2 h3=>AOpsD.nil ⟨L,H,nx,F,σ,h,h1,h2,h3⟩
def guardIs (ops:Array Oper) (L:Frame) (o:Oper) (w:Bool):Prop :=
 match o.guard with
 |none=>w=true
 |some (j,want)=>∃ b d,(ops[j]?).bind (·.dst)=some d∧lget L d=some (.p (.bool b))∧w=(b==want)
theorem guardIs.wanted {Γ:Nat→Option (List Value×TypeId)} {m:Mem} {F:Nat→Prop} {σ:Nat→Value} {t:Tr Value} {w:Bool} (hx:Ctx Γ m F σ H nx) (hl:RL m F (htag H) σ nx L t) (h:guardIs ops L o w):Region.wanted o (ayielded ops t)=w:=by
 unfold guardIs at h
 unfold Region.wanted
 split at h
 ·rename_i hg;rw [hg];exact h.symm
 ·rename_i j want hg
  obtain ⟨b,d,h1,h2,h3⟩:=h
  have hb:tget t d=.bool b:=vev_bool (o:=.tmp d) hx hl h2
  rw [hg]
  simp only [ayielded,h1,hb,h3]
  cases b<;>cases want<;>rfl
theorem VOps.cons (hg:guardIs ops L o true) (h:VVal E true o L H nx fun r H' nx'=>VOps E bn ops l (lput L o.dst r) H' nx' R):VOps E bn ops (o::l) L H nx R:=by
 intro B hB m F σ t h1 h2 h3
 refine AOps.cons (hg.wanted h1 h2) ((h m F σ t h1 h2).mono ?_)
 rintro v m' ⟨r,H',nx',F',σ',q,c1,c2,c3,_⟩
 exact q B hB m' F' σ' _ c1 ((h2.step c3 h1).put c2) (h3.trans c3)
theorem VOps.skip (hg:guardIs ops L o false) (h:VOps E bn ops l (lput L o.dst (.tup [])) H nx R):VOps E bn ops (o::l) L H nx R:=by
 intro B hB m F σ t h1 h2 h3
 refine AOps.skip (hg.wanted h1 h2) (h B hB m F σ _ h1 (h2.put ?_) h3)
 exact .tup .nil
theorem at_fz (m:Mem) (k:Nat) (F:Nat→Prop):∀ c,F c→F c∧(m.at k).get c=m.get c:=fun _ hc=>⟨hc,rfl⟩
theorem RL.at {Γ:Nat→Option (List Value×TypeId)} {m:Mem} {F:Nat→Prop} {T:Nat→Option Tg} {σ:Nat→Value} {t:Tr Value} (k:Nat) (h:RL m F T σ nx L t):RL (m.at k) F T σ nx L t :=
 fun i v hi=>(h i v hi).mono (at_fz m k F) (Names.refl _ _ _) (Nat.le_refl _)
theorem Ctx.at {Γ:Nat→Option (List Value×TypeId)} {m:Mem} {F:Nat→Prop} {σ:Nat→Value} (k:Nat) (h:Ctx Γ m F σ H nx):Ctx Γ (m.at k) F σ H nx where
 fr:=h.fr
 hp b x hb:=by
  obtain ⟨h1,h2⟩:=h.hp b x hb
  refine ⟨h1,?_⟩
  cases x with
  |box e cs=>obtain ⟨c,vs,r1,r2,r3,r4,r5,r6⟩:=h2;exact ⟨c,vs,r1,r2,r3,r4,r5.mono (at_fz m k F) (Names.refl _ _ _) (Nat.le_refl _),r6⟩
  |vec e cs n z =>
   rcases h2 with h2|⟨c,g,vs,r1,r2,r3,r4,r5,r6⟩
   ·exact .inl h2
   ·exact .inr ⟨c,g,vs,r1,r2,r3,r4,r5.mono (at_fz m k F),r6⟩
  |map es=>obtain ⟨r,l,clock,r1,r2,r3,r4,r5,r6⟩:=h2;exact ⟨r,l,clock,r1,r2,r3,r4,r5.mono (at_fz m k F),r6.mono (at_fz m k F)⟩
  |vecp e cs n=>obtain ⟨c,g,vs,r1,r2,r3,r4,r5,r6⟩:=h2;exact ⟨c,g,vs,r1,r2,r3,r4,r5.mono (at_fz m k F) (Names.refl _ _ _) (Nat.le_refl _),r6⟩
  |mapp ks cs=>obtain ⟨r,l,clock,r1,r2,r3,r4,r5,r6,r7⟩:=h2;exact ⟨r,l,clock,r1,r2,r3,r4,r5.mono (at_fz m k F),r6.mono (at_fz m k F) (Names.refl _ _ _) (Nat.le_refl _),r7⟩
 sep:=h.sep
 gl:=h.gl
theorem Step.at {m m':Mem} {F F':Nat→Prop} {σ σ':Nat→Value} {H H':Heap} {nx nx':Nat} (h:Step (m.at m.size) F σ H nx m' F' σ' H' nx'):Step m F σ H nx (m'.at (min m.low m'.low)) F' σ' H' nx' where
 size:=h.size
 keep:=h.keep
 fmono:=h.fmono
 fback:=h.fback
 oback:=h.oback
 nxle:=h.nxle
 names:=h.names
 low k h1 h2 h3:=by
  have:=h.low k h2 h2 h3
  simp only [Mem.at_low]
  omega
theorem Step.at0 (m:Mem) (k:Nat) (F:Nat→Prop) (σ:Nat→Value) (H:Heap) (nx:Nat) (hk:min m.low m.size≤k):Step m F σ H nx (m.at k) F σ H nx where
 size:=Nat.le_refl _
 keep _ _ _:=rfl
 fmono _ h:=h
 fback _ _ h:=.inl h
 oback _ _ h:=h
 nxle:=Nat.le_refl _
 names:=Names.refl _ _ _
 low j h1 h2 _:=by simp only [Mem.at_low];omega
theorem VOpsD.cons {w:Bool} (hg:guardIs ops L o true) (hw:barrier E.P ops i=w) (h:VVal E w o L H nx fun r H' nx'=>VOpsD E bn ops (i+1) l (lput L o.dst r) H' nx' R):VOpsD E bn ops i (o::l) L H nx R:=by
 intro B hB m F σ t h1 h2 h3
 refine AOpsD.cons (hg.wanted h1 h2) ((h (m.at m.size) F σ t (h1.at _) (RL.at (Γ:=E.Γ) _ h2)).mono ?_)
 rintro v m' ⟨r,H',nx',F',σ',q,c1,c2,c3,c4⟩
 refine ⟨?_,?_⟩
 ·cases w with
  |true=>exact .inl hw
  |false=>exact .inr (.inl (c4 rfl m.size (Nat.le_refl _) (Nat.le_refl _)))
 ·refine q B hB _ F' σ' _ (c1.at _) (RL.at (Γ:=E.Γ) _ (((RL.at (Γ:=E.Γ) _ h2).step c3 (h1.at _)).put c2)) (h3.trans c3.at)
theorem VOpsD.skip (hg:guardIs ops L o false) (h:VOpsD E bn ops (i+1) l (lput L o.dst (.tup [])) H nx R):VOpsD E bn ops i (o::l) L H nx R:=by
 intro B hB m F σ t h1 h2 h3
 refine AOpsD.skip (hg.wanted h1 h2) (h B hB _ F σ _ (h1.at _) (RL.at (Γ:=E.Γ) _ (h2.put (.tup .nil))) (h3.trans (Step.at0 _ _ _ _ _ _ (Nat.le_refl _))))
theorem VOps.split {j d:Nat} {want:Bool} {p:Prop} {_:Decidable p} (hg:o.guard=some (j,want)) (hd:(ops[j]?).bind (·.dst)=some d) (hb:lget L d=some (.p (.bool (decide p))))
 (ht:p→VOps E bn ops (o::l) ((d,.p (.bool true))::L) H nx R) (hf:¬ p→VOps E bn ops (o::l) ((d,.p (.bool false))::L) H nx R):VOps E bn ops (o::l) L H nx R:=by
 have key:∀ b,decide p=b→VOps E bn ops (o::l) ((d,.p (.bool b))::L) H nx R→VOps E bn ops (o::l) L H nx R:=by
  intro b he h B hB m F σ t h1 h2 h3
  refine h B hB m F σ t h1 (fun k x hk=>?_) h3
  rw [lget_cons] at hk
  by_cases e:d=k
  ·rw [if_pos e] at hk
   cases hk
   subst e
   have:=h2 d _ hb
   rw [he] at this
   exact this
  ·rw [if_neg e] at hk;exact h2 k x hk
 by_cases h:p
 ·exact key true (decide_eq_true h) (ht h)
 ·exact key false (decide_eq_false h) (hf h)
theorem VOpsD.split {j d:Nat} {want:Bool} {p:Prop} {_:Decidable p} (hg:o.guard=some (j,want)) (hd:(ops[j]?).bind (·.dst)=some d) (hb:lget L d=some (.p (.bool (decide p))))
 (ht:p→VOpsD E bn ops i (o::l) ((d,.p (.bool true))::L) H nx R) (hf:¬ p→VOpsD E bn ops i (o::l) ((d,.p (.bool false))::L) H nx R):VOpsD E bn ops i (o::l) L H nx R:=by
 have key:∀ b,decide p=b→VOpsD E bn ops i (o::l) ((d,.p (.bool b))::L) H nx R→VOpsD E bn ops i (o::l) L H nx R:=by
  intro b he h B hB m F σ t h1 h2 h3
  refine h B hB m F σ t h1 (fun k x hk=>?_) h3
  rw [lget_cons] at hk
  by_cases e:d=k
  ·rw [if_pos e] at hk
   cases hk
   subst e
   have:=h2 d _ hb
   rw [he] at this
   exact this
  ·rw [if_neg e] at hk;exact h2 k x hk
 by_cases h:p
 ·exact key true (decide_eq_true h) (ht h)
 ·exact key false (decide_eq_false h) (hf h)
end
def takeF {α:Type}:Nat→List α→Option (List α)
 |0,_=>some []
 |_+1,[]=>none
 |n+1,a::l=>(takeF n l).map (a::·)
def allP:List PV→Option (List FV)
 |[]=>some []
 | .p x::l=>(allP l).map (x::·)
 |_::_=>none
def mkAgg (l:List PV):PV:=match allP l with
 |some fs=>.p (.agg fs)
 |none=>.agg l
def loadF (P:Program) (t:TypeId) (cs:List FV):Option FV :=
 match isAggT P t with
 |some false=>cs.head?
 |some true=>match P.info? t with
  |some i=>(takeF i.size cs).map .agg
  |none=>none
 |none=>none
def loadP (P:Program) (t:TypeId) (cs:List PV):Option PV :=
 match isAggT P t with
 |some false=>cs.head?
 |some true=>match P.info? t with
  |some i=>(takeF i.size cs).map mkAgg
  |none=>none
 |none=>none
def vload (P:Program) (t:TypeId) (H:Heap):PV→Option PV
 | .p (.cptr cs)=>(loadF P t cs).map .p
 | .ref b off=>match hget H b with
  |some (.box _ cs)=>loadP P t (cs.drop off)
  |_=>none
 | .eref b tag off=>match hget H b with
  |some (.vec _ cs n _)=>match Nat.decEq tag n with
   | .isTrue _=>(loadF P t (cs.drop off)).map .p
   | .isFalse _=>none
  |_=>none
 |_=>none
theorem takeF_takeN {m:Mem} {F:Nat→Prop}:∀ {n:Nat} {cs:List FV} {ws:List Value} {l:List FV},RFs m F cs ws→takeF n cs=some l→∃ w,takeN n ws=some w∧RFs m F l w
 |0,_,_,_,_,h=>by cases h;exact ⟨[],by simp [takeN],.nil⟩
 |n+1,[],_,_,_,h=>by cases h
 |n+1,c::cs,_,l,.cons h t,hl=>by
  simp only [takeF,Option.map_eq_some_iff] at hl
  obtain ⟨l',h1,rfl⟩:=hl
  obtain ⟨w,h2,h3⟩:=takeF_takeN t h1
  refine ⟨_::w,?_,.cons h h3⟩
  unfold takeN at h2 ⊢
  split at h2
  ·rename_i hn
   cases h2
   simp [hn]
  ·cases h2
section
variable {m:Mem} {F:Nat→Prop} {T:Nat→Option Tg} {σ:Nat→Value} {n':Nat}
theorem takeF_takeNP:∀ {n:Nat} {cs:List PV} {ws:List Value} {l:List PV},RPs m F T σ n' cs ws→takeF n cs=some l→∃ w,takeN n ws=some w∧RPs m F T σ n' l w
 |0,_,_,_,_,h=>by cases h;exact ⟨[],by simp [takeN],.nil⟩
 |n+1,[],_,_,_,h=>by cases h
 |n+1,c::cs,_,l,.cons h t,hl=>by
  simp only [takeF,Option.map_eq_some_iff] at hl
  obtain ⟨l',h1,rfl⟩:=hl
  obtain ⟨w,h2,h3⟩:=takeF_takeNP t h1
  refine ⟨_::w,?_,.cons h h3⟩
  unfold takeN at h2 ⊢
  split at h2
  ·rename_i hn
   cases h2
   simp [hn]
  ·cases h2
theorem RFs.drop:∀ {cs:List FV} {vs:List Value} (k:Nat),RFs m F cs vs→RFs m F (cs.drop k) (vs.drop k)
 |_,_,0,h=>h
 |_,_,_+1,.nil=>.nil
 |_,_,k+1,.cons _ t=>RFs.drop k t
theorem RPs.drop:∀ {cs:List PV} {vs:List Value} (k:Nat),RPs m F T σ n' cs vs→RPs m F T σ n' (cs.drop k) (vs.drop k)
 |_,_,0,h=>h
 |_,_,_+1,.nil=>.nil
 |_,_,k+1,.cons _ t=>RPs.drop k t
theorem allP_rel:∀ {l:List PV} {fs:List FV} {vs:List Value},allP l=some fs→RPs m F T σ n' l vs→RFs m F fs vs
 |[],_,_,h,.nil=>by cases h;exact .nil
 | .p x::l,_,_,h,.cons h1 t=>by
  simp only [allP,Option.map_eq_some_iff] at h
  obtain ⟨fs,h2,rfl⟩:=h
  cases h1 with
  |p h1=>exact .cons h1 (allP_rel h2 t)
 | .agg _::_,_,_,h,_=>by cases h
 | .tup _::_,_,_,h,_=>by cases h
 | .vec ..::_,_,_,h,_=>by cases h
 | .ref ..::_,_,_,h,_=>by cases h
 | .eref ..::_,_,_,h,_=>by cases h
 | .mref ..::_,_,_,h,_=>by cases h
 | .clo ..::_,_,_,h,_=>by cases h
theorem mkAgg_rel {l:List PV} {vs:List Value} (h:RPs m F T σ n' l vs) (hc:vs.all isCell=true):RP m F T σ n' (mkAgg l) (.agg vs.toArray):=by
 unfold mkAgg
 split
 ·rename_i fs hf
  exact .p (.agg (allP_rel hf h) hc)
 ·exact .agg h hc
end
theorem takeN_some {k:Nat} {l w:List Value} (h:takeN k l=some w):w=l.take k∧k≤l.length:=by
 unfold takeN at h
 split at h
 ·rename_i hk;cases h;exact ⟨rfl,hk⟩
 ·cases h
theorem all_take {l:List Value} (h:l.all isCell=true) (k:Nat):(l.take k).all isCell=true:=by
 rw [List.all_eq_true] at h ⊢
 exact fun x hx=>h x (List.mem_of_mem_take hx)
theorem all_drop {l:List Value} (h:l.all isCell=true) (k:Nat):(l.drop k).all isCell=true:=by
 rw [List.all_eq_true] at h ⊢
 exact fun x hx=>h x (List.mem_of_mem_drop hx)
end Go.Vm
namespace Go.Vm
open Go.Am
variable {E:Env} {bn:Nat} {L:Frame} {H:Heap} {nx:Nat}
theorem takeN_takeN {j k:Nat} {l ws w:List Value} (h:takeN k l=some ws) (h2:takeN j ws=some w):takeN j l=some w:=by
 obtain ⟨rfl,hk⟩:=takeN_some h
 obtain ⟨rfl,hj⟩:=takeN_some h2
 simp only [List.length_take] at hj
 unfold takeN
 rw [if_pos (by omega),List.take_take,Nat.min_eq_left (by omega)]
theorem head_rel {m:Mem} {F:Nat→Prop} {cs:List FV} {ws:List Value} {x:FV} (h:RFs m F cs ws) (hx:cs.head?=some x):∃ v,takeN 1 ws=some [v]∧RF m F x v:=by
 cases h with
 |nil=>cases hx
 |cons h t=>cases hx;exact ⟨_,by simp [takeN],h⟩
section
variable {m:Mem} {F:Nat→Prop} {T:Nat→Option Tg} {σ:Nat→Value} {n':Nat}
theorem head_relP {cs:List PV} {ws:List Value} {x:PV} (h:RPs m F T σ n' cs ws) (hx:cs.head?=some x):∃ v,takeN 1 ws=some [v]∧RP m F T σ n' x v:=by
 cases h with
 |nil=>cases hx
 |cons h t=>cases hx;exact ⟨_,by simp [takeN],h⟩
end
theorem loadF_rel {P:Program} {m:Mem} {F:Nat→Prop} {t:TypeId} {a:Addr} {cs:List FV} {vs ws:List Value} {e:TypeId} {g:Nat} {ro:Bool} {x:FV} (hm:m.get a.block=.cells vs e g ro) (hlt:a.block<m.size) (hg:agen a=g)
 (hw:takeN cs.length (vs.drop a.off)=some ws) (h:RFs m F cs ws) (hc:ws.all isCell=true) (hx:loadF P t cs=some x):∃ v,aload P t a m=some v∧RF m F x v:=by
 unfold loadF at hx
 unfold aload
 rw [if_pos hlt]
 unfold aload0
 have key:∀ n w,takeN n ws=some w→m.cellsAt a n=some w:=by
  intro n w hn
  unfold Mem.cellsAt
  rw [hm]
  simp only [hg,if_true]
  exact takeN_takeN hw hn
 cases hag:isAggT P t with
 |none=>rw [hag] at hx;cases hx
 |some b =>
  rw [hag] at hx
  cases b with
  |false =>
   obtain ⟨v,h1,h2⟩:=head_rel h hx
   exact ⟨v,by simp only [key 1 _ h1,Option.bind_some,List.head?_cons],h2⟩
  |true =>
   cases hi:P.info? t with
   |none=>rw [hi] at hx;cases hx
   |some i =>
    rw [hi] at hx
    simp only [Option.map_eq_some_iff] at hx
    obtain ⟨l,h1,rfl⟩:=hx
    obtain ⟨w,h2,h3⟩:=takeF_takeN h h1
    refine ⟨.agg w.toArray,by simp only [key _ _ h2,Option.map_some],.agg h3 ?_⟩
    rw [(takeN_some h2).1]
    exact all_take hc _
theorem loadP_rel {P:Program} {m:Mem} {F:Nat→Prop} {T:Nat→Option Tg} {σ:Nat→Value} {n':Nat} {t:TypeId} {a:Addr} {cs:List PV} {vs ws:List Value} {e:TypeId} {g:Nat} {ro:Bool} {x:PV} (hm:m.get a.block=.cells vs e g ro) (hlt:a.block<m.size) (hg:agen a=g)
 (hw:vs.drop a.off=ws) (h:RPs m F T σ n' cs ws) (hc:ws.all isCell=true) (hx:loadP P t cs=some x):∃ v,aload P t a m=some v∧RP m F T σ n' x v:=by
 unfold loadP at hx
 unfold aload
 rw [if_pos hlt]
 unfold aload0
 have key:∀ n w,takeN n ws=some w→m.cellsAt a n=some w:=by
  intro n w hn
  unfold Mem.cellsAt
  rw [hm]
  simp only [hg,if_true,hw]
  exact hn
 cases hag:isAggT P t with
 |none=>rw [hag] at hx;cases hx
 |some b =>
  rw [hag] at hx
  cases b with
  |false =>
   obtain ⟨v,h1,h2⟩:=head_relP h hx
   exact ⟨v,by simp only [key 1 _ h1,Option.bind_some,List.head?_cons],h2⟩
  |true =>
   cases hi:P.info? t with
   |none=>rw [hi] at hx;cases hx
   |some i =>
    rw [hi] at hx
    simp only [Option.map_eq_some_iff] at hx
    obtain ⟨l,h1,rfl⟩:=hx
    obtain ⟨w,h2,h3⟩:=takeF_takeNP h h1
    refine ⟨.agg w.toArray,by simp only [key _ _ h2,Option.map_some],mkAgg_rel h3 ?_⟩
    rw [(takeN_some h2).1]
    exact all_take hc _
theorem vload_rel {P:Program} {Γ:Nat→Option (List Value×TypeId)} {m:Mem} {F:Nat→Prop} {σ:Nat→Value} {t:TypeId} {a x:PV} {v:Value} (hx:Ctx Γ m F σ H nx) (ha:RP m F (htag H) σ nx a v) (hl:vload P t H a=some x) :
 ∃ p u,v=.pointer (some p)∧aload P t p m=some u∧RP m F (htag H) σ nx x u:=by
 unfold vload at hl
 split at hl
 ·simp only [Option.map_eq_some_iff] at hl
  obtain ⟨y,h1,rfl⟩:=hl
  cases ha with
  |p h =>
   cases h with
   |cptr hF hm hg hw h hc =>
    obtain ⟨u,h2,h3⟩:=loadF_rel (a:=⟨_,_,_⟩) hm (hx.fr _ hF) hg hw h hc h1
    exact ⟨_,u,rfl,h2,.p h3⟩
 ·rename_i b off
  cases hb:hget H b with
  |none=>rw [hb] at hl;cases hl
  |some y =>
   rw [hb] at hl
   cases y with
   |box e cs =>
    obtain ⟨_,c,vs,r1,r2,r3,r4,r5,r6⟩:=hx.hp b _ hb
    cases ha with
    |ref hb' hc h =>
     obtain ⟨c',h1,h2⟩:=h (by simp [htag,hb,HB.tag])
     rw [r1] at h1
     cases h1
     subst h2
     obtain ⟨u,h3,h4⟩:=loadP_rel (a:=⟨c,off,none⟩) r4 r2 rfl rfl (RPs.drop off r5) (all_drop r6 _) hl
     exact ⟨_,u,rfl,h3,h4⟩
   |vec e cs n z=>cases hl
   |map es=>cases hl
   |vecp e cs n=>cases hl
   |mapp ks cs=>cases hl
 ·rename_i b tag off
  cases hb:hget H b with
  |none=>rw [hb] at hl;cases hl
  |some y =>
   rw [hb] at hl
   cases y with
   |vec e cs n z =>
    simp only at hl
    split at hl
    ·rename_i hn _
     subst hn
     simp only [Option.map_eq_some_iff] at hl
     obtain ⟨y,hl,rfl⟩:=hl
     cases ha with
     |eref hb' hc h =>
      obtain ⟨_,h0⟩:=h tag (by simp [htag,hb,HB.tag])
      obtain ⟨c,k,g,h1,h2⟩:=h0 rfl
      rcases (hx.hp b _ hb).2 with ⟨r1,r2,r3⟩|⟨c',g',vs,r1,r2,r3,r4,r5,r6,r7⟩
      ·rcases r3 with ⟨r3,_⟩|⟨_,_,_,r3,_⟩<;>rw [r3] at h1<;>cases h1
      ·rw [r1] at h1
       cases h1
       subst h2
       obtain ⟨u,h3,h4⟩:=loadF_rel (a:=⟨c,off,some g⟩) (cs:=cs.drop off) (ws:=vs.drop off) r4 r2 rfl (by simp only [takeN,List.length_drop,r5.length];rw [if_pos (Nat.le_refl _),← List.length_drop,List.take_length]) (RFs.drop off r5) (all_drop r6 _) hl
       exact ⟨_,u,rfl,h3,.p h4⟩
    ·cases hl
   |box e cs=>cases hl
   |map es=>cases hl
   |vecp e cs n=>cases hl
   |mapp ks cs=>cases hl
 ·cases hl
def argFrame:Nat→List PV→Frame
 |_,[]=>[]
 |i,a::l=>(i,a)::argFrame (i+1) l
theorem argFrame_get:∀ (l:List PV) (k i:Nat) (v:PV),lget (argFrame k l) i=some v→k≤i∧l[i-k]?=some v
 |[],_,_,_,h=>by cases h
 |a::l,k,i,v,h=>by
  simp only [argFrame,lget_cons] at h
  by_cases e:k=i
  ·rw [if_pos e] at h;cases h;subst e;simp
  ·rw [if_neg e] at h
   obtain ⟨h1,h2⟩:=argFrame_get l (k+1) i v h
   refine ⟨by omega,?_⟩
   have:i-k=(i-(k+1))+1:=by omega
   rw [this];exact h2
theorem RPs.get {m:Mem} {F:Nat→Prop} {T:Nat→Option Tg} {σ:Nat→Value} {n':Nat}:∀ {cs:List PV} {vs:List Value} {i:Nat} {c:PV},RPs m F T σ n' cs vs→cs[i]?=some c→∃ v,vs[i]?=some v∧RP m F T σ n' c v
 |_,_,i,_,.nil,h=>by simp at h
 |_,_,0,_,.cons h _,hc=>by simp at hc;subst hc;exact ⟨_,rfl,h⟩
 |_,_,i+1,c,.cons (cs:=cs) _ t,hc=>by
  have hc':cs[i]?=some c:=by simpa using hc
  obtain ⟨v,h1,h2⟩:=RPs.get t hc'
  exact ⟨v,by simpa using h1,h2⟩
theorem RPs.length {m:Mem} {F:Nat→Prop} {T:Nat→Option Tg} {σ:Nat→Value} {n':Nat}:∀ {cs:List PV} {vs:List Value},RPs m F T σ n' cs vs→cs.length=vs.length
 |_,_,.nil=>rfl
 |_,_,.cons _ t=>by simp [t.length]
def vresult (P:Program) (L:Frame) (H:Heap):ResultVar→Option PV
 | .tmp t=>lget L t
 | .cell a t=>match lget L a with
  |some p=>vload P t H p
  |none=>none
def vlist {α β:Type} (f:α→Option β):List α→Option (List β)
 |[]=>some []
 |a::l=>match f a with
  |some b=>match vlist f l with
   |some r=>some (b::r)
   |none=>none
  |none=>none
def vresults (P:Program) (rs:List ResultVar) (L:Frame) (H:Heap):Option PV :=
 match vlist (vresult P L H) rs with
 |some [v]=>some v
 |some vs=>some (.tup vs)
 |none=>none
theorem vresult_rel {P:Program} {Γ:Nat→Option (List Value×TypeId)} {m:Mem} {F:Nat→Prop} {σ:Nat→Value} {t:Tr Value} {r:ResultVar} {x:PV} (hx:Ctx Γ m F σ H nx) (hl:RL m F (htag H) σ nx L t) (h:vresult P L H r=some x) :
 ∃ v,resultOf P ⟨t,m⟩ r=some v∧RP m F (htag H) σ nx x v:=by
 cases r with
 |tmp i=>exact ⟨_,rfl,hl i x h⟩
 |cell a ty =>
  simp only [vresult] at h
  cases ha:lget L a with
  |none=>rw [ha] at h;cases h
  |some p =>
   rw [ha] at h
   obtain ⟨q,u,h1,h2,h3⟩:=vload_rel hx (hl a p ha) h
   refine ⟨u,?_,h3⟩
   simp only [resultOf,h1,h2]
theorem vlist_rel {P:Program} {Γ:Nat→Option (List Value×TypeId)} {m:Mem} {F:Nat→Prop} {σ:Nat→Value} {t:Tr Value} (hx:Ctx Γ m F σ H nx) (hl:RL m F (htag H) σ nx L t):∀ {rs:List ResultVar} {xs:List PV},vlist (vresult P L H) rs=some xs →
 ∃ vs,listAll (resultOf P ⟨t,m⟩) rs=some vs∧RPs m F (htag H) σ nx xs vs
 |[],_,h=>by cases h;exact ⟨[],rfl,.nil⟩
 |r::rs,xs,h=>by
  simp only [vlist] at h
  cases h1:vresult P L H r with
  |none=>rw [h1] at h;cases h
  |some x =>
   rw [h1] at h
   cases h2:vlist (vresult P L H) rs with
   |none=>rw [h2] at h;cases h
   |some ys =>
    rw [h2] at h
    cases h
    obtain ⟨v,h3,h4⟩:=vresult_rel hx hl h1
    obtain ⟨vs,h5,h6⟩:=vlist_rel hx hl h2
    exact ⟨v::vs,by simp only [listAll,h3,h5],.cons h4 h6⟩
theorem vresults_rel {P:Program} {Γ:Nat→Option (List Value×TypeId)} {m:Mem} {F:Nat→Prop} {σ:Nat→Value} {t:Tr Value} {fn:Func} {x:PV} (hx:Ctx Γ m F σ H nx) (hl:RL m F (htag H) σ nx L t) (h:vresults P fn.results.toList L H=some x) :
 ∃ v,resultsOf P fn ⟨t,m⟩=some v∧RP m F (htag H) σ nx x v:=by
 unfold vresults at h
 split at h
 ·rename_i v0 hv
  cases h
  obtain ⟨vs,h1,h2⟩:=vlist_rel hx hl hv
  cases h2 with
  |cons h3 t3 =>
   cases t3
   exact ⟨_,by simp only [resultsOf,h1],h3⟩
 ·rename_i _ vs0 hne hv
  cases h
  obtain ⟨vs,h1,h2⟩:=vlist_rel hx hl hv
  refine ⟨.tuple vs.toArray,?_,.tup h2⟩
  simp only [resultsOf,h1]
  split
  ·rename_i hh
   simp only [Option.some.injEq] at hh
   subst hh
   cases h2 with
   |cons h3 t3=>cases t3;exact (hne _ rfl).elim
  ·rename_i hh
   simp only [Option.some.injEq] at hh
   rw [hh]
  ·rename_i hh;cases hh
 ·cases h
def Ret (bn:Nat) (Q:PV→Heap→Nat→Prop) (r0:PV) (H:Heap) (nx:Nat):Prop :=
 ∃ r H0 nx0,PLe r0 r∧r.under nx0∧HCov nx0 H0 H∧nx0≤nx∧bn≤nx0∧Q r H0 nx0
def Done (P:Program) (rs:List ResultVar) (bn:Nat) (Q:PV→Heap→Nat→Prop) (e:AExit) (L:Frame) (H:Heap) (nx:Nat):Prop :=
 match e with
 | .exit _=>False
 | .normal=>∃ r,vresults P rs L H=some r∧Ret bn Q r H nx
 | .ret=>∃ r,vresults P rs L H=some r∧Ret bn Q r H nx
theorem VCalls.enter {f:FuncId} {fn:Func} {c:Code} {args:List PV} {Q:PV→Heap→Nat→Prop} (ho:E.O f=none) (hf:E.P.funcs[f]?=some fn) (hb:fn.body=some c) (hok:fnOk E.G fn c=true) (hn:args.length≤fn.ntmps)
 (h:VWp E nx c (argFrame 0 args) H nx (Done E.P fn.results.toList nx Q)):VCalls E f args H nx Q:=by
 intro m F σ asW h1 h2
 refine ACalls.enter ho hf hb hok (by rw [← h2.length];exact hn) ((h ⟨m,F,σ,H,nx⟩ rfl m F σ _ h1 ?_ (Step.refl _ _ _ _ _)).mono ?_)
 ·intro i v hi
  obtain ⟨_,h3⟩:=argFrame_get args 0 i v hi
  obtain ⟨u,h4,h5⟩:=h2.get h3
  have:=tget_tmpsOf asW 0 .leaf i
  simp only [Nat.sub_zero] at h4
  have hlt:i<asW.length:=by
   rcases Nat.lt_or_ge i asW.length with h|h
   ·exact h
   ·rw [List.getElem?_eq_none h] at h4;cases h4
  rw [this,if_pos ⟨Nat.zero_le _,by omega⟩,Nat.sub_zero,List.getD_eq_getElem?_getD,h4]
  exact h5
 ·rintro e s ⟨L',H',nx',F',σ',q,c1,c2,c3⟩
  have key:(∃ r,vresults E.P fn.results.toList L' H'=some r∧Ret nx Q r H' nx')→∃ v,resultsOf E.P fn s=some v∧∃ r H' nx' F' σ',Q r H' nx'∧Ctx E.Γ s.m F' σ' H' nx'∧RP s.m F' (htag H') σ' nx' r v∧Step m F σ H nx s.m F' σ' H' nx':=by
   rintro ⟨r0,hr,r,H0,nx0,q1,q2,q3,q4,q5,q6⟩
   obtain ⟨v,h3,h4⟩:=vresults_rel c1 c2 hr
   have hcov:Cov L' H' nx' [] H0 nx0:=⟨q4,trivial,q3⟩
   exact ⟨v,h3,r,H0,nx0,F',σ',q6,hcov.ctx c1,RP.low (fun b t=>HCov.tag q3 b t) q2 (RP.le q1 h4),hcov.step (B:=⟨m,F,σ,H,nx⟩) q5 c3⟩
  cases e with
  |exit i=>exact q.elim
  |normal=>exact key q
  |ret=>exact key q
end Go.Vm
namespace Go.Vm
open Go.Am
variable {E:Env} {L:Frame} {H:Heap} {nx:Nat} {Q:PV→Heap→Nat→Prop} {w:Bool}
theorem VVal.quiet {o:Oper} {r:PV} (q:Q r H nx) (h:∀ m F σ t,Ctx E.Γ m F σ H nx→RL m F (htag H) σ nx L t→∃ v,(∀ call,aval E.P call (ev t) o m=some (v,m))∧RP m F (htag H) σ nx r v):VVal E w o L H nx Q :=
 fun m F σ t h1 h2=>by
  obtain ⟨v,h3,h4⟩:=h m F σ t h1 h2
  exact AVal.op h3 ⟨r,H,nx,F,σ,q,h1,h4,Step.refl _ _ _ _ _,fun _ k hk _=>hk⟩
section
variable {m:Mem} {F:Nat→Prop} {T:Nat→Option Tg} {σ:Nat→Value} {n:Nat}
theorem RF.cell {x:FV} {v:Value} (h:RF m F x v):(∃ cs,x=.agg cs)∨isCell v=true:=by
 cases h with
 |agg h hc=>exact .inl ⟨_,rfl⟩
 |val h=>exact .inr (by have:=all_plain_isCell (l:=[_]) (by simpa using h);simpa using this)
 |_=>exact .inr rfl
def pcells:PV→List PV
 | .p (.agg cs)=>cs.map .p
 | .agg cs=>cs
 |x=>[x]
def notTup:PV→Prop
 | .tup _=>False
 |_=>True
theorem RPs.ofRFs:∀ {cs:List FV} {vs:List Value},RFs m F cs vs→RPs m F T σ n (cs.map .p) vs
 |_,_,.nil=>.nil
 |_,_,.cons h t=>.cons (.p h) (RPs.ofRFs t)
theorem RFs.ofRPs:∀ {cs:List FV} {vs:List Value},RPs m F T σ n (cs.map .p) vs→RFs m F cs vs
 |[],_,.nil=>.nil
 |_::_,_,.cons (.p h) t=>.cons h (RFs.ofRPs t)
theorem cells_one {v:Value} (h:isCell v=true):v.cells=#[v]:=by
 cases v<;>first|rfl|cases h
theorem pcells_rel {x:PV} {v:Value} (hn:notTup x) (h:RP m F T σ n x v):RPs m F T σ n (pcells x) v.cells.toList∧v.cells.toList.all isCell=true:=by
 cases h with
 |tup h=>exact hn.elim
 |agg h hc=>exact ⟨h,hc⟩
 |p h =>
  rcases h.cell with ⟨cs,rfl⟩|hc
  ·cases h with|agg h hc=>exact ⟨RPs.ofRFs h,hc⟩
  ·rw [cells_one hc]
   refine ⟨?_,by simp [hc]⟩
   cases h<;>first|exact .cons (.p (by assumption)) .nil|skip
   ·exact .cons (.p (.int _ _)) .nil
   ·exact .cons (.p (.bool _)) .nil
   ·exact .cons (.p (.str _)) .nil
   ·rename_i h;exact .cons (.p (.val h)) .nil
   ·cases hc
   ·exact .cons (.p (.nil _)) .nil
   ·exact .cons (.p (.room _ _ _ _)) .nil
   ·rename_i h1 h2 h3 h4 h5;exact .cons (.p (.lst h1 h2 h3 h4 h5)) .nil
   ·rename_i h1 h2 h3 h4 h5 h6;exact .cons (.p (.cptr h1 h2 h3 h4 h5 h6)) .nil
 |vec hb hc h=>rw [cells_one hc];exact ⟨.cons (.vec hb hc h) .nil,by simp [hc]⟩
 |ref hb hc h=>rw [cells_one hc];exact ⟨.cons (.ref hb hc h) .nil,by simp [hc]⟩
 |eref hb hc h=>rw [cells_one hc];exact ⟨.cons (.eref hb hc h) .nil,by simp [hc]⟩
 |mref hb hc h=>rw [cells_one hc];exact ⟨.cons (.mref hb hc h) .nil,by simp [hc]⟩
 |clo h1 h2=>exact ⟨.cons (.clo h1 h2) .nil,rfl⟩
end
theorem htag_cons (b:Nat) (x:HB) (H:Heap) (c:Nat):htag ((b,x)::H) c=if b=c then some x.tag else htag H c:=by
 unfold htag
 rw [hget_cons]
 split<;>rfl
theorem htag_hput (H:Heap) (b c:Nat) (y:HB):htag (hput H b y) c=if b=c then (htag H b).map (fun _=>y.tag) else htag H c:=by
 unfold htag
 rw [hget_hput]
 split
 ·cases hget H b<;>rfl
 ·rfl
theorem Ctx.tagNone {Γ:Nat→Option (List Value×TypeId)} {m:Mem} {F:Nat→Prop} {σ:Nat→Value} (h:Ctx Γ m F σ H nx) {b:Nat} (hb:nx≤b):hget H b=none:=by
 cases hh:hget H b with
 |none=>rfl
 |some x=>have:=(h.hp b x hh).1;omega
def upd (σ:Nat→Value) (b:Nat) (v:Value):Nat→Value:=fun c=>if c=b then v else σ c
theorem upd_same (σ:Nat→Value) (b:Nat) (v:Value):upd σ b v b=v:=if_pos rfl
theorem upd_other (σ:Nat→Value) {b c:Nat} (v:Value) (h:c≠b):upd σ b v c=σ c:=if_neg h
theorem RB.mono {m m':Mem} {F F':Nat→Prop} {T T':Nat→Option Tg} {σ σ':Nat→Value} {n n':Nat} {s:Value} {x:HB} (hF:∀ c,F c→F' c∧m'.get c=m.get c) (hN:Names n T σ T' σ') (hn:n≤n')
 (hs:m.size≤m'.size) (ho:∀ c,blkOf s=some c→m'.get c=m.get c∧¬ F' c) (h:RB m F T σ n s x):RB m' F' T' σ' n' s x:=by
 cases x with
 |box e cs =>
  obtain ⟨c,vs,r1,r2,r3,r4,r5,r6⟩:=h
  obtain ⟨h1,h2⟩:=ho c (by rw [r1];rfl)
  exact ⟨c,vs,r1,by omega,h2,h1.trans r4,r5.mono hF hN hn,r6⟩
 |vec e cs k z =>
  rcases h with h|⟨c,g,vs,r1,r2,r3,r4,r5,r6⟩
  ·exact .inl h
  ·obtain ⟨h1,h2⟩:=ho c (by rw [r1];rfl)
   exact .inr ⟨c,g,vs,r1,by omega,h2,h1.trans r4,r5.mono hF,r6⟩
 |map es =>
  obtain ⟨r,l,clock,r1,r2,r3,r4,r5,r6⟩:=h
  obtain ⟨h1,h2⟩:=ho r (by rw [r1];rfl)
  exact ⟨r,l,clock,r1,by omega,h2,h1.trans r4,r5.mono hF,r6.mono hF⟩
 |vecp e cs k =>
  obtain ⟨c,g,vs,r1,r2,r3,r4,r5,r6⟩:=h
  obtain ⟨h1,h2⟩:=ho c (by rw [r1];rfl)
  exact ⟨c,g,vs,r1,by omega,h2,h1.trans r4,r5.mono hF hN hn,r6⟩
 |mapp ks cs =>
  obtain ⟨r,l,clock,r1,r2,r3,r4,r5,r6,r7⟩:=h
  obtain ⟨h1,h2⟩:=ho r (by rw [r1];rfl)
  exact ⟨r,l,clock,r1,by omega,h2,h1.trans r4,r5.mono hF,r6.mono hF hN hn,r7⟩
theorem new_names {Γ:Nat→Option (List Value×TypeId)} {m:Mem} {F:Nat→Prop} {σ:Nat→Value} (x:HB) (s:Value):Names nx (htag H) σ (htag ((nx,x)::H)) (upd σ nx s):=fun b hb=>by
 rw [htag_cons,if_neg (by omega),upd_other _ _ (by omega)]
 exact ⟨TLe.refl _,fun _ _ _=>rfl⟩
theorem Ctx.new {Γ:Nat→Option (List Value×TypeId)} {m m':Mem} {F:Nat→Prop} {σ:Nat→Value} {x:HB} {s:Value} (h:Ctx Γ m F σ H nx) (hsz:m.size≤m'.size) (hget':∀ c,c<m.size→m'.get c=m.get c) (hlow:min m.low m.size≤m'.low)
 (hs:∀ c,blkOf s=some c→m.size≤c) (hr:RB m' F (htag ((nx,x)::H)) (upd σ nx s) (nx+1) s x) :
 Ctx Γ m' F (upd σ nx s) ((nx,x)::H) (nx+1)∧Step m F σ H nx m' F (upd σ nx s) ((nx,x)::H) (nx+1)∧Quiet m m':=by
 have hfz:∀ c,F c→F c∧m'.get c=m.get c:=fun c hc=>⟨hc,hget' c (h.fr c hc)⟩
 have hN:=new_names (Γ:=Γ) (m:=m) (F:=F) (σ:=σ) (H:=H) (nx:=nx) x s
 refine ⟨⟨fun c hc=>Nat.lt_of_lt_of_le (h.fr c hc) hsz,?_,?_,?_⟩,⟨hsz,fun c hc _=>hget' c hc,fun _ h=>h,fun _ _ h=>.inl h,?_,Nat.le_succ _,hN,?_⟩,?_⟩
 ·intro b y hb
  rw [hget_cons] at hb
  by_cases e:nx=b
  ·rw [if_pos e] at hb;cases hb;subst e
   rw [upd_same]
   exact ⟨by omega,hr⟩
  ·rw [if_neg e] at hb
   obtain ⟨h1,h2⟩:=h.hp b y hb
   rw [upd_other _ _ (Ne.symm e)]
   refine ⟨by omega,h2.mono hfz hN (Nat.le_succ _) hsz fun c hc=>?_⟩
   have:=h.notF ⟨b,y,hb,hc⟩
   exact ⟨hget' c this.2,this.1⟩
 ·intro b b' y y' c h1 h2 h3 h4
  rw [hget_cons] at h1 h2
  by_cases e:nx=b<;>by_cases e':nx=b'
  ·omega
  ·subst e
   rw [if_neg e'] at h2
   rw [upd_same] at h3
   rw [upd_other _ _ (Ne.symm e')] at h4
   have:=(h.notF ⟨b',y',h2,h4⟩).2
   have:=hs c h3
   omega
  ·subst e'
   rw [if_neg e] at h1
   rw [upd_same] at h4
   rw [upd_other _ _ (Ne.symm e)] at h3
   have:=(h.notF ⟨b,y,h1,h3⟩).2
   have:=hs c h4
   omega
  ·rw [if_neg e] at h1
   rw [if_neg e'] at h2
   rw [upd_other _ _ (Ne.symm e)] at h3
   rw [upd_other _ _ (Ne.symm e')] at h4
   exact h.sep b b' y y' c h1 h2 h3 h4
 ·intro g vs e hg
  obtain ⟨h1,h2,h3⟩:=h.gl g vs e hg
  exact ⟨h1,(hget' g (h.fr g h1)).trans h2,h3⟩
 ·rintro c hc ⟨b,y,hb,hbc⟩
  rw [hget_cons] at hb
  by_cases e:nx=b
  ·subst e
   rw [upd_same] at hbc
   have:=hs c hbc
   omega
  ·rw [if_neg e] at hb
   rw [upd_other _ _ (Ne.symm e)] at hbc
   exact ⟨b,y,hb,hbc⟩
 ·intro k h1 h2 _;omega
 ·intro k h1 h2;omega
theorem change_names {b0:Nat} {x0 x':HB} {σ:Nat→Value} {s':Value} (hb:hget H b0=some x0) (ht:TLe (some x0.tag) (some x'.tag)) (hs:x0.tag=x'.tag→s'=σ b0) :
 Names nx (htag H) σ (htag (hput H b0 x')) (upd σ b0 s'):=fun b _=>by
 rw [htag_hput]
 by_cases e:b0=b
 ·subst e
  have h0:htag H b0=some x0.tag:=by simp [htag,hb]
  rw [if_pos rfl,h0,upd_same]
  refine ⟨ht,fun t h1 h2=>hs ?_⟩
  simp only [Option.map_some,Option.some.injEq] at h1 h2
  rw [h1,h2]
 ·rw [if_neg e,upd_other _ _ (Ne.symm e)]
  exact ⟨TLe.refl _,fun _ _ _=>rfl⟩
theorem Ctx.change {Γ:Nat→Option (List Value×TypeId)} {m m':Mem} {F:Nat→Prop} {σ:Nat→Value} {b0:Nat} {x0 x':HB} {s':Value} (h:Ctx Γ m F σ H nx) (hb:hget H b0=some x0) (ht:TLe (some x0.tag) (some x'.tag)) (hs:x0.tag=x'.tag→s'=σ b0)
 (hsz:m.size≤m'.size) (hget':∀ c,c<m.size→blkOf (σ b0)≠some c→m'.get c=m.get c) (hlow:∀ k,k≤m.low→k≤m.size→(∀ c,blkOf (σ b0)=some c→k≤c)→k≤m'.low)
 (hblk:∀ c,blkOf s'=some c→blkOf (σ b0)=some c∨m.size≤c) (hr:RB m' F (htag (hput H b0 x')) (upd σ b0 s') nx s' x') :
 Ctx Γ m' F (upd σ b0 s') (hput H b0 x') nx∧Step m F σ H nx m' F (upd σ b0 s') (hput H b0 x') nx:=by
 have hown:∀ c,blkOf (σ b0)=some c→own H σ c:=fun c hc=>⟨b0,x0,hb,hc⟩
 have hfz:∀ c,F c→F c∧m'.get c=m.get c:=fun c hc=>⟨hc,hget' c (h.fr c hc) fun e=>(h.notF (hown c e)).1 hc⟩
 have hN:Names nx (htag H) σ (htag (hput H b0 x')) (upd σ b0 s'):=change_names hb ht hs
 have hg0:hget (hput H b0 x') b0=some x':=by rw [hget_hput,if_pos rfl,hb];rfl
 have hgo:∀ b,b≠b0→hget (hput H b0 x') b=hget H b:=fun b e=>by rw [hget_hput,if_neg (Ne.symm e)]
 refine ⟨⟨fun c hc=>Nat.lt_of_lt_of_le (h.fr c hc) hsz,?_,?_,?_⟩,⟨hsz,fun c hc ho=>hget' c hc fun e=>ho (hown c e),fun _ h=>h,fun _ _ h=>.inl h,?_,Nat.le_refl _,hN,?_⟩⟩
 ·intro b y hy
  by_cases e:b=b0
  ·subst e
   rw [hg0] at hy;cases hy
   rw [upd_same]
   exact ⟨(h.hp b x0 hb).1,hr⟩
  ·rw [hgo b e] at hy
   obtain ⟨h1,h2⟩:=h.hp b y hy
   rw [upd_other _ _ e]
   refine ⟨h1,h2.mono hfz hN (Nat.le_refl _) hsz fun c hc=>?_⟩
   have:=h.notF ⟨b,y,hy,hc⟩
   exact ⟨hget' c this.2 fun e'=>e (h.sep b b0 y x0 c hy hb hc e'),this.1⟩
 ·intro b b' y y' c h1 h2 h3 h4
  by_cases e:b=b0<;>by_cases e':b'=b0
  ·omega
  ·subst e
   rw [hgo b' e'] at h2
   rw [upd_same] at h3
   rw [upd_other _ _ e'] at h4
   rcases hblk c h3 with h5|h5
   ·exact h.sep b b' x0 y' c hb h2 h5 h4
   ·have:=(h.notF ⟨b',y',h2,h4⟩).2;omega
  ·subst e'
   rw [hgo b e] at h1
   rw [upd_same] at h4
   rw [upd_other _ _ e] at h3
   rcases hblk c h4 with h5|h5
   ·exact h.sep b b' y x0 c h1 hb h3 h5
   ·have:=(h.notF ⟨b,y,h1,h3⟩).2;omega
  ·rw [hgo b e] at h1
   rw [hgo b' e'] at h2
   rw [upd_other _ _ e] at h3
   rw [upd_other _ _ e'] at h4
   exact h.sep b b' y y' c h1 h2 h3 h4
 ·intro g vs e hg
  obtain ⟨h1,h2,h3⟩:=h.gl g vs e hg
  exact ⟨h1,(hfz g h1).2.trans h2,h3⟩
 ·rintro c hc ⟨b,y,hy,hbc⟩
  by_cases e:b=b0
  ·subst e
   rw [upd_same] at hbc
   rcases hblk c hbc with h5|h5
   ·exact hown c h5
   ·omega
  ·rw [hgo b e] at hy
   rw [upd_other _ _ e] at hbc
   exact ⟨b,y,hy,hbc⟩
 ·intro k h1 h2 h3
  exact hlow k h1 h2 fun c hc=>h3 c (hown c hc)
def psplice {α:Type} (cs:List α):Nat→List α→List α
 |_,[]=>cs
 |o,v::l=>psplice (cs.set o v) (o+1) l
section
variable {m:Mem} {F:Nat→Prop} {T:Nat→Option Tg} {σ:Nat→Value} {n:Nat}
theorem RPs.set:∀ {cs:List PV} {vs:List Value} (i:Nat) {x:PV} {v:Value},RPs m F T σ n cs vs→RP m F T σ n x v→RPs m F T σ n (cs.set i x) (vs.set i v)
 |_,_,_,_,_,.nil,_=>.nil
 |_,_,0,_,_,.cons _ t,h=>.cons h t
 |_,_,i+1,_,_,.cons h t,h'=>.cons h (RPs.set i t h')
theorem RFs.set:∀ {cs:List FV} {vs:List Value} (i:Nat) {x:FV} {v:Value},RFs m F cs vs→RF m F x v→RFs m F (cs.set i x) (vs.set i v)
 |_,_,_,_,_,.nil,_=>.nil
 |_,_,0,_,_,.cons _ t,h=>.cons h t
 |_,_,i+1,_,_,.cons h t,h'=>.cons h (RFs.set i t h')
theorem RPs.splice:∀ {l:List PV} {ws:List Value} {cs:List PV} {vs:List Value} (o:Nat),RPs m F T σ n cs vs→RPs m F T σ n l ws→RPs m F T σ n (psplice cs o l) (splice vs o ws)
 |_,_,_,_,_,h,.nil=>h
 |_,_,_,_,o,h,.cons h1 t=>RPs.splice (o+1) (h.set o h1) t
theorem RFs.splice:∀ {l:List FV} {ws:List Value} {cs:List FV} {vs:List Value} (o:Nat),RFs m F cs vs→RFs m F l ws→RFs m F (psplice cs o l) (splice vs o ws)
 |_,_,_,_,_,h,.nil=>h
 |_,_,_,_,o,h,.cons h1 t=>RFs.splice (o+1) (h.set o h1) t
theorem RFs.append:∀ {cs ds:List FV} {vs ws:List Value},RFs m F cs vs→RFs m F ds ws→RFs m F (cs++ds) (vs++ws)
 |_,_,_,_,.nil,h=>h
 |_,_,_,_,.cons h t,h'=>.cons h (RFs.append t h')
end
theorem all_set {l:List Value} (h:l.all isCell=true) {v:Value} (hv:isCell v=true) (i:Nat):(l.set i v).all isCell=true:=by
 rw [List.all_eq_true] at h ⊢
 intro x hx
 rcases List.mem_or_eq_of_mem_set hx with hx|rfl
 ·exact h x hx
 ·exact hv
theorem all_splice:∀ {ws l:List Value} (o:Nat),l.all isCell=true→ws.all isCell=true→(splice l o ws).all isCell=true
 |[],_,_,h,_=>h
 |v::ws,l,o,h,hw=>by
  simp only [List.all_cons,Bool.and_eq_true] at hw
  exact all_splice (o+1) (all_set h hw.1 o) hw.2
end Go.Vm
namespace Go.Vm
open Go.Am
variable {E:Env} {L:Frame} {H:Heap} {nx:Nat} {Q:PV→Heap→Nat→Prop} {w:Bool}
variable {dst:Option Tmp} {ty:TypeId} {pos:String} {af:Array Edge} {gd:Option (Nat×Bool)}
theorem VVal.move {x:Operand} {r:PV} (h:vev E.Γ L x=some r) (q:Q r H nx):VVal E w ⟨dst,.move x,ty,pos,af,gd⟩ L H nx Q :=
 VVal.quiet q fun _ _ _ _ h1 h2=>⟨_,fun _=>rfl,vev_rel h1 h2 h⟩
theorem VVal.assign {x:Operand} {r:PV} (h:vev E.Γ L x=some r) (q:Q r H nx):VVal E w ⟨dst,.assign x,ty,pos,af,gd⟩ L H nx Q :=
 VVal.quiet q fun _ _ _ _ h1 h2=>⟨_,fun _=>rfl,vev_rel h1 h2 h⟩
theorem VVal.pick_true {c a b:Operand} {r:PV} (hc:vev E.Γ L c=some (.p (.bool true))) (h:vev E.Γ L a=some r) (q:Q r H nx):VVal E w ⟨dst,.pick c a b,ty,pos,af,gd⟩ L H nx Q :=
 VVal.quiet q fun m _ _ t h1 h2=>⟨ev t a,fun _=>by simp only [aval,aop,vev_bool h1 h2 hc,if_true],vev_rel h1 h2 h⟩
theorem VVal.pick_false {c a b:Operand} {r:PV} (hc:vev E.Γ L c=some (.p (.bool false))) (h:vev E.Γ L b=some r) (q:Q r H nx):VVal E w ⟨dst,.pick c a b,ty,pos,af,gd⟩ L H nx Q :=
 VVal.quiet q fun m _ _ t h1 h2=>⟨ev t b,fun _=>by simp only [aval,aop,vev_bool h1 h2 hc,Bool.false_eq_true,if_false],vev_rel h1 h2 h⟩
theorem vev_int {Γ:Nat→Option (List Value×TypeId)} {m:Mem} {F:Nat→Prop} {σ:Nat→Value} {t:Tr Value} {k:IntKind} {n:Int} {o:Operand} (hx:Ctx Γ m F σ H nx) (hl:RL m F (htag H) σ nx L t) (h:vev Γ L o=some (.p (.int k n))):ev t o=.int k n:=by
 have:=vev_rel hx hl h
 generalize ev t o=v at this
 cases this with|p h=>cases h;rfl
theorem vev_str {Γ:Nat→Option (List Value×TypeId)} {m:Mem} {F:Nat→Prop} {σ:Nat→Value} {t:Tr Value} {s:ByteArray} {o:Operand} (hx:Ctx Γ m F σ H nx) (hl:RL m F (htag H) σ nx L t) (h:vev Γ L o=some (.p (.str s))):ev t o=.string s:=by
 have:=vev_rel hx hl h
 generalize ev t o=v at this
 cases this with|p h=>cases h;rfl
def vint (op:BinOp) (k:IntKind) (x y:Int):Option FV :=
 match op with
 | .add=>some (.int k (k.wrap (x+y)))
 | .sub=>some (.int k (k.wrap (x-y)))
 | .mul=>some (.int k (k.wrap (x*y)))
 | .eql=>some (.bool (decide (x=y)))
 | .neq=>some (.bool (decide (x≠y)))
 | .lss=>some (.bool (decide (x<y)))
 | .leq=>some (.bool (decide (x≤y)))
 | .gtr=>some (.bool (decide (x>y)))
 | .geq=>some (.bool (decide (x≥y)))
 | .quo=>if y=0 then none else some (.int k (k.wrap (x.tdiv y)))
 | .rem=>if y=0 then none else some (.int k (x.tmod y))
 | .and=>some (.int k (k.wrap (BitVec.ofInt k.bits x &&& BitVec.ofInt k.bits y).toNat))
 | .or=>some (.int k (k.wrap (BitVec.ofInt k.bits x ||| BitVec.ofInt k.bits y).toNat))
 | .xor=>some (.int k (k.wrap (BitVec.ofInt k.bits x ^^^ BitVec.ofInt k.bits y).toNat))
 | .andNot=>some (.int k (k.wrap (BitVec.ofInt k.bits x &&& ~~~ BitVec.ofInt k.bits y).toNat))
 |_=>none
theorem vint_rel {m:Mem} {F:Nat→Prop} {op:BinOp} {k:IntKind} {x y:Int} {r:FV} (h:vint op k x y=some r):∃ v,aint op k x y=some v∧RF m F r v∧op≠.shl∧op≠.shr:=by
 have e1:(x==y)=decide (x=y):=Bool.eq_iff_iff.2 (by simp)
 have e2:(x != y)=decide (x≠y):=Bool.eq_iff_iff.2 (by simp)
 cases op<;>simp only [vint,aint,e1,e2] at h ⊢<;>first
  |(cases h;done)
  |(cases h;exact ⟨_,rfl,.int _ _,by simp,by simp⟩)
  |(cases h;exact ⟨_,rfl,.bool _,by simp,by simp⟩)
  |(split at h
    ·cases h
    ·rename_i h0;cases h;exact ⟨_,by rw [if_neg h0],.int _ _,by simp,by simp⟩)
theorem VVal.int {op:BinOp} {t t2:TypeId} {x y:Operand} {k:IntKind} {a b:Int} {r:FV} (hx:vev E.Γ L x=some (.p (.int k a))) (hy:vev E.Γ L y=some (.p (.int k b))) (h:vint op k a b=some r) (q:Q (.p r) H nx) :
 VVal E w ⟨dst,.binOp op t x y t2,ty,pos,af,gd⟩ L H nx Q :=
 VVal.quiet q fun m F σ tt h1 h2=>by
  obtain ⟨v,h3,h4,h5,h6⟩:=vint_rel (m:=m) (F:=F) h
  refine ⟨v,fun _=>?_,.p h4⟩
  have e:abin E.P op t x y (.int k a) (.int k b)=some v:=by
   rw [← h3]
   cases op<;>first|exact absurd rfl h5|exact absurd rfl h6|simp only [abin,if_true]
  simp only [aval,aop,vev_int h1 h2 hx,vev_int h1 h2 hy,e,Option.map_some]
theorem wrap_i64 {n:Int} (h:-9223372036854775808≤n∧n<9223372036854775808):IntKind.i64.wrap n=n:=by
 have e:IntKind.i64.wrap n=(n+2^63) % 2^64-2^63:=by
  simp [IntKind.wrap,IntKind.signed,IntKind.bits]
  try omega
 rw [e]
 omega
theorem VVal.add64 {t t2:TypeId} {x y:Operand} {a b:Int} (hx:vev E.Γ L x=some (.p (.int .i64 a))) (hy:vev E.Γ L y=some (.p (.int .i64 b))) (h:-9223372036854775808≤a+b∧a+b<9223372036854775808) (q:Q (.p (.int .i64 (a+b))) H nx) :
 VVal E w ⟨dst,.binOp .add t x y t2,ty,pos,af,gd⟩ L H nx Q:=VVal.int hx hy (r:=.int .i64 (a+b)) (by simp only [vint,wrap_i64 h]) q
theorem VVal.sub64 {t t2:TypeId} {x y:Operand} {a b:Int} (hx:vev E.Γ L x=some (.p (.int .i64 a))) (hy:vev E.Γ L y=some (.p (.int .i64 b))) (h:-9223372036854775808≤a-b∧a-b<9223372036854775808) (q:Q (.p (.int .i64 (a-b))) H nx) :
 VVal E w ⟨dst,.binOp .sub t x y t2,ty,pos,af,gd⟩ L H nx Q:=VVal.int hx hy (r:=.int .i64 (a-b)) (by simp only [vint,wrap_i64 h]) q
theorem VVal.mul64 {t t2:TypeId} {x y:Operand} {a b:Int} (hx:vev E.Γ L x=some (.p (.int .i64 a))) (hy:vev E.Γ L y=some (.p (.int .i64 b))) (h:-9223372036854775808≤a*b∧a*b<9223372036854775808) (q:Q (.p (.int .i64 (a*b))) H nx) :
 VVal E w ⟨dst,.binOp .mul t x y t2,ty,pos,af,gd⟩ L H nx Q:=VVal.int hx hy (r:=.int .i64 (a*b)) (by simp only [vint,wrap_i64 h]) q
theorem VVal.shift {op:BinOp} {t t2:TypeId} {x y:Operand} {k k':IntKind} {a b:Int} {r:FV} (hop:op=.shl∨op=.shr) (hx:vev E.Γ L x=some (.p (.int k a))) (hy:vev E.Γ L y=some (.p (.int k' b))) (hb:0≤b)
 (hr:r=if op=.shl then .int k (k.wrap (a*2 ^ (min b.toNat k.bits))) else .int k (a.fdiv (2 ^ (min b.toNat k.bits)))) (q:Q (.p r) H nx) :
 VVal E w ⟨dst,.binOp op t x y t2,ty,pos,af,gd⟩ L H nx Q :=
 VVal.quiet q fun m F σ tt h1 h2=>by
  have hb':¬ b<0:=by omega
  rcases hop with rfl|rfl
  ·refine ⟨.int k (k.wrap (a*2 ^ (min b.toNat k.bits))),fun _=>?_,by rw [hr];exact .p (.int _ _)⟩
   simp only [aval,aop,vev_int h1 h2 hx,vev_int h1 h2 hy,abin,ashift,if_neg hb',Option.map_some]
  ·refine ⟨.int k (a.fdiv (2 ^ (min b.toNat k.bits))),fun _=>?_,by rw [hr];exact .p (.int _ _)⟩
   simp only [aval,aop,vev_int h1 h2 hx,vev_int h1 h2 hy,abin,ashift,if_neg hb',Option.map_some]
theorem VVal.shl {t t2:TypeId} {x y:Operand} {k k':IntKind} {a b:Int} (hx:vev E.Γ L x=some (.p (.int k a))) (hy:vev E.Γ L y=some (.p (.int k' b))) (hb:0≤b) (q:Q (.p (.int k (k.wrap (a*2 ^ (min b.toNat k.bits))))) H nx) :
 VVal E w ⟨dst,.binOp .shl t x y t2,ty,pos,af,gd⟩ L H nx Q:=VVal.shift (.inl rfl) hx hy hb rfl q
theorem VVal.shr {t t2:TypeId} {x y:Operand} {k k':IntKind} {a b:Int} (hx:vev E.Γ L x=some (.p (.int k a))) (hy:vev E.Γ L y=some (.p (.int k' b))) (hb:0≤b) (q:Q (.p (.int k (a.fdiv (2 ^ (min b.toNat k.bits))))) H nx) :
 VVal E w ⟨dst,.binOp .shr t x y t2,ty,pos,af,gd⟩ L H nx Q:=VVal.shift (.inr rfl) hx hy hb rfl q
theorem dryV_of {P:Program} {s:Sem Value} {v:Value} (h:dry P s=some v) (hp:plain v=true):dryV P s=some v:=by
 simp only [dryV,h,hp,if_true]
def notSl:TypeDesc→Bool
 | .slice _=>false
 |_=>true
theorem VVal.convInt {s d:TypeId} {x:Operand} {k k':IntKind} {n:Int} {sd:TypeDesc} (hx:vev E.Γ L x=some (.p (.int k' n))) (hs:E.P.underlying s=some sd) (hns:notSl sd=true) (hd:E.P.underlying d=some (.int k)) (q:Q (.p (.int k (k.wrap n))) H nx) :
 VVal E w ⟨dst,.convert s d x,ty,pos,af,gd⟩ L H nx Q :=
 VVal.quiet q fun m F σ tt h1 h2=>by
  refine ⟨.int k (k.wrap n),fun _=>?_,.p (.int _ _)⟩
  have:dry E.P (convert s d (.int k' n))=some (.int k (k.wrap n)):=by
   unfold convert
   simp only [dry_bind,dry_underlying,hs,hd,Option.bind_some]
   cases sd<;>rfl
  have hsl:(isSlT E.P s||isSlT E.P d)=false:=by
   simp only [isSlT,hs,hd]
   cases sd<;>first|rfl|cases hns
  simp only [aval,aop,vev_int h1 h2 hx,dryV_of this rfl,Option.map_some,hsl]
  rfl
theorem VVal.extract {t:Operand} {i:Nat} {vs:List PV} {r:PV} (h:vev E.Γ L t=some (.tup vs)) (hr:vs[i]?=some r) (q:Q r H nx):VVal E w ⟨dst,.extract t i,ty,pos,af,gd⟩ L H nx Q :=
 VVal.quiet q fun m F σ tt h1 h2=>by
  have:=vev_rel h1 h2 h
  generalize hv:ev tt t=v at this
  cases this with
  |tup hrs =>
   obtain ⟨u,h3,h4⟩:=hrs.get hr
   refine ⟨u,fun _=>?_,h4⟩
   simp only [aval,aop,hv,Instr.extract,List.getElem?_toArray,h3]
   rfl
def fieldOff (P:Program) (s:TypeId) (f:Nat):Option Nat :=
 match P.underlying s with
 |some (.struct fs)=>match fs[f]? with
  |some fd=>match P.info? fd.type with
   |some i=>if i.size=0 then none else some fd.offset
   |none=>none
  |none=>none
 |_=>none
theorem fieldOff_spec {P:Program} {ρ:Operand→Value} {s:TypeId} {f k:Nat} {x:Operand} {a:Addr} {m:Mem} (h:fieldOff P s f=some k) (hx:ρ x=.pointer (some a)) :
 aop P ρ ⟨dst,.fieldAddr s x f,ty,pos,af,gd⟩ m=some (.pointer (some { a with off:=a.off+k }),m):=by
 unfold fieldOff at h
 simp only [aop,hx]
 cases hu:P.underlying s with
 |none=>rw [hu] at h;cases h
 |some d =>
  rw [hu] at h
  cases d with
  |struct fs =>
   simp only at h ⊢
   cases hf:fs[f]? with
   |none=>rw [hf] at h;cases h
   |some fd =>
    rw [hf] at h
    simp only at h ⊢
    cases hi:P.info? fd.type with
    |none=>rw [hi] at h;cases h
    |some i =>
     rw [hi] at h
     simp only at h ⊢
     split at h
     ·cases h
     ·rename_i h0;cases h;simp only [h0,if_false]
  |_=>cases h
theorem takeN_drop {n k:Nat} {l ws:List Value} (h:takeN n l=some ws):takeN (n-k) (l.drop k)=some (ws.drop k):=by
 obtain ⟨rfl,hn⟩:=takeN_some h
 unfold takeN
 rw [List.length_drop,if_pos (by omega),List.drop_take]
theorem RF.cptr_drop {m:Mem} {F:Nat→Prop} {cs:List FV} {a:Addr} (k:Nat) (h:RF m F (.cptr cs) (.pointer (some a))):RF m F (.cptr (cs.drop k)) (.pointer (some { a with off:=a.off+k })):=by
 cases h with
 |cptr hF hm hg hw h hc =>
  refine .cptr hF hm hg (ws:=_) ?_ (RFs.drop k h) (all_drop hc k)
  have:=takeN_drop (k:=k) hw
  rw [List.length_drop,← List.drop_drop]
  exact this
theorem vev_cptr {Γ:Nat→Option (List Value×TypeId)} {m:Mem} {F:Nat→Prop} {σ:Nat→Value} {t:Tr Value} {cs:List FV} {o:Operand} (hx:Ctx Γ m F σ H nx) (hl:RL m F (htag H) σ nx L t) (h:vev Γ L o=some (.p (.cptr cs))) :
 ∃ a,ev t o=.pointer (some a)∧RF m F (.cptr cs) (.pointer (some a)):=by
 have:=vev_rel hx hl h
 generalize ev t o=v at this
 cases this with
 |p h =>
  cases h with
  |cptr h1 h2 h3 h4 h5 h6=>exact ⟨_,rfl,.cptr h1 h2 h3 h4 h5 h6⟩
theorem vev_ref {Γ:Nat→Option (List Value×TypeId)} {m:Mem} {F:Nat→Prop} {σ:Nat→Value} {t:Tr Value} {b off:Nat} {o:Operand} {e:TypeId} {cs:List PV} (hx:Ctx Γ m F σ H nx) (hl:RL m F (htag H) σ nx L t) (h:vev Γ L o=some (.ref b off)) (hb:hget H b=some (.box e cs)) :
 ∃ c,ev t o=.pointer (some ⟨c,off,none⟩)∧σ b=.pointer (some ⟨c,0,none⟩):=by
 have:=vev_rel hx hl h
 generalize ev t o=v at this
 cases this with
 |ref h1 h2 h3 =>
  obtain ⟨c,h4,h5⟩:=h3 (by simp [htag,hb,HB.tag])
  exact ⟨c,h5,h4⟩
theorem vev_eref {Γ:Nat→Option (List Value×TypeId)} {m:Mem} {F:Nat→Prop} {σ:Nat→Value} {t:Tr Value} {b tag off:Nat} {o:Operand} {e:TypeId} {cs:List FV} {z:Bool} (hx:Ctx Γ m F σ H nx) (hl:RL m F (htag H) σ nx L t) (h:vev Γ L o=some (.eref b tag off)) (hb:hget H b=some (.vec e cs tag z)) :
 ∃ c k g,ev t o=.pointer (some ⟨c,off,some g⟩)∧σ b=.slice (some ⟨c,0,none⟩) k g:=by
 have:=vev_rel hx hl h
 generalize ev t o=v at this
 cases this with
 |eref h1 h2 h3 =>
  obtain ⟨_,h4⟩:=h3 tag (by simp [htag,hb,HB.tag])
  obtain ⟨c,k,g,h5,h6⟩:=h4 rfl
  exact ⟨c,k,g,h6,h5⟩
theorem VVal.fieldF {s:TypeId} {x:Operand} {f k:Nat} {cs:List FV} (hx:vev E.Γ L x=some (.p (.cptr cs))) (hk:fieldOff E.P s f=some k) (q:Q (.p (.cptr (cs.drop k))) H nx):VVal E w ⟨dst,.fieldAddr s x f,ty,pos,af,gd⟩ L H nx Q :=
 VVal.quiet q fun m F σ tt h1 h2=>by
  obtain ⟨a,h3,h4⟩:=vev_cptr h1 h2 hx
  exact ⟨_,fun _=>fieldOff_spec (dst:=dst) (ty:=ty) (pos:=pos) (af:=af) (gd:=gd) hk h3,.p (h4.cptr_drop k)⟩
theorem VVal.fieldB {s:TypeId} {x:Operand} {f k b off:Nat} {e:TypeId} {cs:List PV} (hx:vev E.Γ L x=some (.ref b off)) (hb:hget H b=some (.box e cs)) (hk:fieldOff E.P s f=some k) (q:Q (.ref b (off+k)) H nx):VVal E w ⟨dst,.fieldAddr s x f,ty,pos,af,gd⟩ L H nx Q :=
 VVal.quiet q fun m F σ tt h1 h2=>by
  obtain ⟨c,h3,h4⟩:=vev_ref h1 h2 hx hb
  exact ⟨_,fun _=>fieldOff_spec (dst:=dst) (ty:=ty) (pos:=pos) (af:=af) (gd:=gd) hk h3,.ref (h1.hp b _ hb).1 rfl fun _=>⟨c,h4,rfl⟩⟩
theorem VVal.fieldV {s:TypeId} {x:Operand} {f k b tag off:Nat} {e:TypeId} {cs:List FV} {z:Bool} (hx:vev E.Γ L x=some (.eref b tag off)) (hb:hget H b=some (.vec e cs tag z)) (hk:fieldOff E.P s f=some k) (q:Q (.eref b tag (off+k)) H nx) :
 VVal E w ⟨dst,.fieldAddr s x f,ty,pos,af,gd⟩ L H nx Q :=
 VVal.quiet q fun m F σ tt h1 h2=>by
  obtain ⟨c,k',g,h3,h4⟩:=vev_eref h1 h2 hx hb
  refine ⟨_,fun _=>fieldOff_spec (dst:=dst) (ty:=ty) (pos:=pos) (af:=af) (gd:=gd) hk h3,.eref (h1.hp b _ hb).1 rfl fun n hn=>?_⟩
  simp only [htag,hb,HB.tag,Option.map_some,Option.some.injEq,Tg.vec.injEq] at hn
  exact ⟨by omega,fun _=>⟨c,k',g,h4,rfl⟩⟩
theorem VVal.load {t:TypeId} {a:Operand} {x r:PV} (ha:vev E.Γ L a=some x) (h:vload E.P t H x=some r) (q:Q r H nx):VVal E w ⟨dst,.load t a,ty,pos,af,gd⟩ L H nx Q :=
 VVal.quiet q fun m F σ tt h1 h2=>by
  obtain ⟨p,u,h3,h4,h5⟩:=vload_rel h1 (vev_rel h1 h2 ha) h
  exact ⟨u,fun _=>by simp only [aval,aop,h3,h4,Option.map_some],h5⟩
theorem VVal.loadV {t:TypeId} {a:Operand} {b tag off:Nat} {e:TypeId} {cs:List FV} {z:Bool} {r:FV} (ha:vev E.Γ L a=some (.eref b tag off)) (hb:hget H b=some (.vec e cs tag z)) (h:loadF E.P t (cs.drop off)=some r) (q:Q (.p r) H nx) :
 VVal E w ⟨dst,.load t a,ty,pos,af,gd⟩ L H nx Q:=by
 refine VVal.load ha ?_ q
 simp only [vload,hb]
 split
 ·simp only [h,Option.map_some]
 ·rename_i hn _;exact absurd rfl hn
def elemSize (P:Program) (t:TypeId):Option Nat :=
 match P.underlying t with
 |some (.slice e)=>(P.info? e).map (·.size)
 |_=>none
theorem elemSize_some {P:Program} {t:TypeId} {sz:Nat} (h:elemSize P t=some sz):∃ e i,P.underlying t=some (.slice e)∧P.info? e=some i∧i.size=sz:=by
 unfold elemSize at h
 split at h
 ·rename_i e hu
  simp only [Option.map_eq_some_iff] at h
  obtain ⟨i,h1,h2⟩:=h
  exact ⟨e,i,hu,h1,h2⟩
 ·cases h
theorem VVal.indexF {t:TypeId} {x ix:Operand} {e:TypeId} {cs:List FV} {n sz:Nat} {k:IntKind} {i:Int} (hx:vev E.Γ L x=some (.p (.lst e cs n))) (hi:vev E.Γ L ix=some (.p (.int k i))) (hs:elemSize E.P t=some sz) (h0:0≤i) (h1:i<n)
 (q:Q (.p (.cptr (cs.drop (i.toNat*sz)))) H nx):VVal E w ⟨dst,.indexAddr t x ix,ty,pos,af,gd⟩ L H nx Q :=
 VVal.quiet q fun m F σ tt c1 c2=>by
  obtain ⟨e',inf,h3,h4,h5⟩:=elemSize_some hs
  have hix:=vev_int c1 c2 hi
  have:=vev_rel c1 c2 hx
  generalize hv:ev tt x=v at this
  cases this with
  |p hr =>
   cases hr with
   |nil=>exact absurd h1 (by simp only [Int.ofNat_zero] at *;omega)
   |room=>exact absurd h1 (by simp only [Int.ofNat_zero] at *;omega)
   |lst hF hm hw hr hc =>
    rename_i b o g vs ws ro
    refine ⟨.pointer (some ⟨b,o+i.toNat*sz,some g⟩),fun _=>by simp only [aval,aop,h3,hv,hix,h4,h0,h1,and_self,if_true,h5],.p ?_⟩
    refine .cptr hF hm rfl ?_ (RFs.drop _ hr) (all_drop hc _)
    have:=takeN_drop (k:=i.toNat*sz) hw
    rw [List.length_drop,← List.drop_drop]
    exact this
theorem vev_vec {Γ:Nat→Option (List Value×TypeId)} {m:Mem} {F:Nat→Prop} {σ:Nat→Value} {t:Tr Value} {b tag off len:Nat} {o:Operand} {e:TypeId} {cs:List FV} {z:Bool} (hx:Ctx Γ m F σ H nx) (hl:RL m F (htag H) σ nx L t) (h:vev Γ L o=some (.vec b tag off len)) (hb:hget H b=some (.vec e cs tag z)) :
 SubOf (σ b) off len (ev t o):=by
 have:=vev_rel hx hl h
 generalize ev t o=v at this
 cases this with
 |vec h1 h2 h3=>exact (h3 tag (by simp [htag,hb,HB.tag])).2 rfl
theorem VVal.indexV {t:TypeId} {x ix:Operand} {e:TypeId} {cs:List FV} {b tag off len sz:Nat} {z:Bool} {k:IntKind} {i:Int} (hx:vev E.Γ L x=some (.vec b tag off len)) (hb:hget H b=some (.vec e cs tag z)) (hi:vev E.Γ L ix=some (.p (.int k i)))
 (hs:elemSize E.P t=some sz) (h0:0≤i) (h1:i<len) (q:Q (.eref b tag (off+i.toNat*sz)) H nx):VVal E w ⟨dst,.indexAddr t x ix,ty,pos,af,gd⟩ L H nx Q :=
 VVal.quiet q fun m F σ tt c1 c2=>by
  obtain ⟨e',inf,h3,h4,h5⟩:=elemSize_some hs
  have hix:=vev_int c1 c2 hi
  have hsub:=vev_vec c1 c2 hx hb
  obtain ⟨hlt,hr⟩:=c1.hp b _ hb
  rcases hr with ⟨r1,r2,r3⟩|⟨c,g,vs,r1,r2,r3,r4,r5,r6,r7⟩
  ·rcases r3 with ⟨r3,_⟩|⟨b',o',g',r3,_⟩<;>rw [r3] at hsub<;>simp only [SubOf,nilSlice] at hsub<;>omega
  ·rw [r1] at hsub
   simp only [SubOf] at hsub
   refine ⟨.pointer (some ⟨c,off+i.toNat*sz,some g⟩),fun _=>by simp only [aval,aop,h3,hsub,hix,h4,h0,h1,and_self,if_true,h5],.eref hlt rfl fun n hn=>?_⟩
   simp only [htag,hb,HB.tag,Option.map_some,Option.some.injEq,Tg.vec.injEq] at hn
   exact ⟨by omega,fun _=>⟨c,tag,g,r1,rfl⟩⟩
theorem VVal.lenF {x:Operand} {t e e':TypeId} {cs:List FV} {n:Nat} (hx:vev E.Γ L x=some (.p (.lst e cs n))) (ht:E.P.underlying t=some (.slice e')) (q:Q (.p (.int .i64 n)) H nx) :
 VVal E w ⟨dst,.call { callee:=.builtin .len,args:=#[x],argTypes:=#[t] },ty,pos,af,gd⟩ L H nx Q :=
 VVal.quiet q fun m F σ tt c1 c2=>by
  have:=vev_rel c1 c2 hx
  generalize hv:ev tt x=v at this
  refine ⟨.int .i64 n,fun _=>?_,.p (.int _ _)⟩
  have hg:v=.slice none 0 0∧n=0∨∃ a g,v=.slice a n g:=by
   cases this with
   |p hr =>
    cases hr with
    |nil=>exact .inl ⟨rfl,rfl⟩
    |room=>exact .inr ⟨_,_,rfl⟩
    |lst=>exact .inr ⟨_,_,rfl⟩
  rcases hg with ⟨rfl,rfl⟩|⟨a,g,rfl⟩<;>simp [aval,aop,alen,ht,hv]
theorem VVal.lenV {x:Operand} {t e e':TypeId} {cs:List FV} {b tag off len:Nat} {z:Bool} (hx:vev E.Γ L x=some (.vec b tag off len)) (hb:hget H b=some (.vec e cs tag z)) (ht:E.P.underlying t=some (.slice e')) (q:Q (.p (.int .i64 len)) H nx) :
 VVal E w ⟨dst,.call { callee:=.builtin .len,args:=#[x],argTypes:=#[t] },ty,pos,af,gd⟩ L H nx Q :=
 VVal.quiet q fun m F σ tt c1 c2=>by
  have hsub:=vev_vec c1 c2 hx hb
  obtain ⟨hlt,hr⟩:=c1.hp b _ hb
  refine ⟨.int .i64 len,fun _=>?_,.p (.int _ _)⟩
  have hg:∃ a g,ev tt x=.slice a len g:=by
   rcases hr with ⟨r1,r2,r3⟩|⟨c,g,vs,r1,r2,r3,r4,r5,r6,r7⟩
   ·rcases r3 with ⟨r3,_⟩|⟨b',o',g',r3,_⟩<;>rw [r3] at hsub<;>simp only [SubOf,nilSlice] at hsub<;>obtain ⟨h1,h2,h3⟩:=hsub<;>subst h3<;>exact ⟨_,_,h1⟩
   ·rw [r1] at hsub
    exact ⟨_,_,hsub⟩
  obtain ⟨a,g,hg⟩:=hg
  simp [aval,aop,alen,ht,hg]
theorem VVal.lenS {x:Operand} {t:TypeId} {s:ByteArray} (hx:vev E.Γ L x=some (.p (.str s))) (ht:E.P.underlying t=some .string) (q:Q (.p (.int .i64 s.size)) H nx) :
 VVal E w ⟨dst,.call { callee:=.builtin .len,args:=#[x],argTypes:=#[t] },ty,pos,af,gd⟩ L H nx Q :=
 VVal.quiet q fun m F σ tt c1 c2=>⟨.int .i64 s.size,fun _=>by simp [aval,aop,alen,ht,vev_str c1 c2 hx],.p (.int _ _)⟩
theorem alloc_new {Γ:Nat→Option (List Value×TypeId)} {m:Mem} {F:Nat→Prop} {σ:Nat→Value} {e:TypeId} {cs:List PV} {vs:List Value} (h:Ctx Γ m F σ H nx) (hr:RPs m F (htag H) σ nx cs vs) (hc:vs.all isCell=true) :
 Ctx Γ (m.alloc (.cells vs e 0 false)) F (upd σ nx (.pointer (some ⟨m.size,0,none⟩))) ((nx,.box e cs)::H) (nx+1) ∧
 Step m F σ H nx (m.alloc (.cells vs e 0 false)) F (upd σ nx (.pointer (some ⟨m.size,0,none⟩))) ((nx,.box e cs)::H) (nx+1)∧Quiet m (m.alloc (.cells vs e 0 false)):=by
 refine h.new (by simp [Mem.alloc]) (fun c hc=>by rw [Mem.get_alloc,if_neg (by omega)]) (by simp only [Mem.alloc];omega) (fun c hc=>by simp only [blkOf,Option.some.injEq] at hc;omega) ?_
 refine ⟨m.size,vs,rfl,by simp [Mem.alloc],fun hf=>Nat.lt_irrefl _ (h.fr _ hf),by rw [Mem.get_alloc,if_pos rfl],?_,hc⟩
 exact hr.mono (fun c hf=>⟨hf,by rw [Mem.get_alloc,if_neg (by have:=h.fr c hf;omega)]⟩) (new_names (Γ:=Γ) (m:=m) (F:=F) _ _) (Nat.le_succ _)
theorem VVal.box {e:TypeId} {x:Operand} {r:PV} (hx:vev E.Γ L x=some r) (hn:notTup r) (q:Q (.ref nx 0) ((nx,.box e (pcells r))::H) (nx+1)):VVal E w ⟨dst,.box e x,ty,pos,af,gd⟩ L H nx Q:=by
 intro m F σ t h1 h2
 obtain ⟨h3,h4⟩:=pcells_rel hn (vev_rel h1 h2 hx)
 obtain ⟨c1,c2,c3⟩:=alloc_new (e:=e) h1 h3 h4
 refine AVal.op (v:=.pointer (some ⟨m.size,0,none⟩)) (fun _=>?_) ⟨_,_,_,F,_,q,c1,?_,c2,fun _=>c3⟩
 ·simp only [aval,aop,h4,if_true]
 ·exact .ref (Nat.lt_succ_self _) rfl fun _=>⟨m.size,upd_same _ _ _,rfl⟩
theorem RPs.zero {m:Mem} {F:Nat→Prop} {T:Nat→Option Tg} {σ:Nat→Value} {n:Nat} {z:List Value} (h:z.all Am.plainCell=true):RPs m F T σ n (z.map fun v=>.p (cellFV v)) z:=by
 have:=RPs.ofRFs (T:=T) (σ:=σ) (n:=n) (cellFVs_rel (m:=m) (F:=F) h)
 rw [List.map_map] at this
 exact this
theorem VVal.alloc {e:TypeId} {z:List Value} (hz:zeroCellsOf E.P e=some z) (q:Q (.ref nx 0) ((nx,.box e (z.map fun v=>.p (cellFV v)))::H) (nx+1)):VVal E w ⟨dst,.alloc e,ty,pos,af,gd⟩ L H nx Q:=by
 intro m F σ t h1 h2
 obtain ⟨_,_,_,_,_,hp⟩:=zeroCellsOf_some hz
 obtain ⟨c1,c2,c3⟩:=alloc_new (e:=e) h1 (RPs.zero hp) (all_plain_isCell hp)
 refine AVal.op (v:=.pointer (some ⟨m.size,0,none⟩)) (fun _=>?_) ⟨_,_,_,F,_,q,c1,?_,c2,fun _=>c3⟩
 ·simp only [aval,aop,hz,Option.map_some]
 ·exact .ref (Nat.lt_succ_self _) rfl fun _=>⟨m.size,upd_same _ _ _,rfl⟩
theorem VVal.storeB {t:TypeId} {a x:Operand} {b off:Nat} {e:TypeId} {cs:List PV} {r:PV} {i:TypeInfo} (ha:vev E.Γ L a=some (.ref b off)) (hx:vev E.Γ L x=some r) (hb:hget H b=some (.box e cs)) (hn:notTup r)
 (hi:E.P.info? t=some i) (hl:(pcells r).length=i.size) (h0:0<i.size) (hle:off+i.size≤cs.length) (q:Q (.tup []) (hput H b (.box e (psplice cs off (pcells r)))) nx):VVal E true ⟨dst,.store t a x,ty,pos,af,gd⟩ L H nx Q:=by
 intro m F σ tt h1 h2
 obtain ⟨c,h3,h4⟩:=vev_ref h1 h2 ha hb
 obtain ⟨h5,h6⟩:=pcells_rel hn (vev_rel h1 h2 hx)
 obtain ⟨hlt,c',vs,r1,r2,r3,r4,r5,r6⟩:=h1.hp b _ hb
 rw [h4] at r1
 cases r1
 have hlen:=h5.length
 have hlen2:=r5.length
 have hst:astore E.P t ⟨c,off,none⟩ (ev tt x) m=some (m.put c (.cells (splice vs off (ev tt x).cells.toList) e 0 false)):=by
  unfold astore storeRow
  rw [hi]
  simp only [r4]
  rw [if_pos (by simpa using hlen.symm.trans hl),if_pos]
  simp only [agen,Option.getD_none,beq_self_eq_true,Bool.true_and,Bool.and_eq_true,decide_eq_true_eq]
  refine ⟨⟨?_,?_⟩,h6⟩
  ·rw [← hlen,hl,← hlen2];exact ⟨trivial,hle⟩
  ·rw [← hlen,hl];exact h0
 have hput':∀ d,c≠d→(m.put c (.cells (splice vs off (ev tt x).cells.toList) e 0 false)).get d=m.get d:=fun d hd=>by rw [Mem.get_put,if_neg hd]
 obtain ⟨c1,c2⟩:=h1.change (m':=m.put c (.cells (splice vs off (ev tt x).cells.toList) e 0 false)) (x':=.box e (psplice cs off (pcells r))) (s':=σ b) hb trivial (fun _=>rfl) (Nat.le_refl _)
  (fun d _ hd=>hput' d fun e=>hd (by rw [h4,e];rfl)) (fun k k1 k2 k3=>by
   have:=k3 c (by rw [h4];rfl)
   simp only [Mem.put];omega) (fun d hd=>.inl hd) (by
   refine ⟨c,splice vs off (ev tt x).cells.toList,h4,r2,r3,by rw [Mem.get_put,if_pos rfl],?_,all_splice _ r6 h6⟩
   refine (RPs.splice off r5 h5).mono (fun d hd=>⟨hd,hput' d fun e=>r3 (e▸hd)⟩) (change_names (x':=.box e (psplice cs off (pcells r))) hb trivial fun _=>rfl) (Nat.le_refl _))
 refine AVal.op (v:=undef) (fun _=>?_) ⟨_,_,_,F,_,q,c1,.tup .nil,c2,fun h=>by cases h⟩
 simp only [aval,aop,h3,hst,Option.map_some]
theorem VVal.storeV {t:TypeId} {a x:Operand} {b tag off:Nat} {e:TypeId} {cs fs:List FV} {z:Bool} {r:PV} {i:TypeInfo} (ha:vev E.Γ L a=some (.eref b tag off)) (hx:vev E.Γ L x=some r) (hb:hget H b=some (.vec e cs tag z)) (hn:notTup r)
 (hf:pcells r=fs.map .p) (hi:E.P.info? t=some i) (hl:fs.length=i.size) (h0:0<i.size) (hle:off+i.size≤cs.length) (q:Q (.tup []) (hput H b (.vec e (psplice cs off fs) tag z)) nx):VVal E true ⟨dst,.store t a x,ty,pos,af,gd⟩ L H nx Q:=by
 intro m F σ tt h1 h2
 obtain ⟨c,k,g,h3,h4⟩:=vev_eref h1 h2 ha hb
 obtain ⟨h5,h6⟩:=pcells_rel hn (vev_rel h1 h2 hx)
 rw [hf] at h5
 obtain ⟨hlt,hr⟩:=h1.hp b _ hb
 rcases hr with ⟨r1,r2,r3⟩|⟨c',g',vs,r1,r2,r3,r4,r5,r6,r7⟩
 ·rcases r3 with ⟨r3,_⟩|⟨b',o',g',r3,_⟩<;>rw [r3] at h4<;>cases h4
 rw [h4] at r1
 cases r1
 have hlen:=h5.length
 rw [List.length_map] at hlen
 have hlen2:=r5.length
 have hst:astore E.P t ⟨c,off,some g⟩ (ev tt x) m=some (m.put c (.cells (splice vs off (ev tt x).cells.toList) e g false)):=by
  unfold astore storeRow
  rw [hi]
  simp only [r4]
  rw [if_pos (by simpa using hlen.symm.trans hl),if_pos]
  simp only [agen,Option.getD_some,beq_self_eq_true,Bool.true_and,Bool.and_eq_true,decide_eq_true_eq]
  refine ⟨⟨?_,?_⟩,h6⟩
  ·rw [← hlen,hl,← hlen2];exact ⟨trivial,hle⟩
  ·rw [← hlen,hl];exact h0
 have hput':∀ d,c≠d→(m.put c (.cells (splice vs off (ev tt x).cells.toList) e g false)).get d=m.get d:=fun d hd=>by rw [Mem.get_put,if_neg hd]
 obtain ⟨c1,c2⟩:=h1.change (m':=m.put c (.cells (splice vs off (ev tt x).cells.toList) e g false)) (x':=.vec e (psplice cs off fs) tag z) (s':=σ b) hb (Nat.le_refl _) (fun _=>rfl) (Nat.le_refl _)
  (fun d _ hd=>hput' d fun e=>hd (by rw [h4,e];rfl)) (fun k k1 k2 k3=>by
   have:=k3 c (by rw [h4];rfl)
   simp only [Mem.put];omega) (fun d hd=>.inl hd) (by
   refine .inr ⟨c,g,splice vs off (ev tt x).cells.toList,h4,r2,r3,by rw [Mem.get_put,if_pos rfl],?_,all_splice _ r6 h6,r7⟩
   exact (RFs.splice off r5 (RFs.ofRPs h5)).mono (fun d hd=>⟨hd,hput' d fun e=>r3 (e▸hd)⟩))
 refine AVal.op (v:=undef) (fun _=>?_) ⟨_,_,_,F,_,q,c1,.tup .nil,c2,fun h=>by cases h⟩
 simp only [aval,aop,h3,hst,Option.map_some]
end Go.Vm
