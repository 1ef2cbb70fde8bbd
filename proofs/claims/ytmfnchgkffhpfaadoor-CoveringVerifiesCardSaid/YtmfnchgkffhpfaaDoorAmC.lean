/-
  The abstract machine: what a step does to the abstract memory alone. No condition. Nothing of one program stands here.
-/
import Derived.Test.YtmfnchgkffhpfaaDoorAmB
import Derived.OrdersIn
set_option linter.unusedSimpArgs false
set_option linter.unusedVariables false
namespace Go.Am
variable {P:Program} {G:List Nat} {ds:List Deferred} {rf:Option Nat} {nn:Nat}
structure MemStep (m m':Mem):Prop where
 size:m.size≤m'.size
 low:m'.low≤m.low
 keep:∀ b,b<m.size→b<m'.low→m'.get b=m.get b
 ro:∀ b,b<m.size→m.ro b=true→m'.get b=m.get b
 ro':∀ b,b<m.size→m'.ro b=m.ro b
theorem MemStep.refl (m:Mem):MemStep m m:=⟨Nat.le_refl _,Nat.le_refl _,fun _ _ _=>rfl,fun _ _ _=>rfl,fun _ _=>rfl⟩
theorem MemStep.trans {m m' m'':Mem} (h:MemStep m m') (k:MemStep m' m''):MemStep m m'':=by
 refine ⟨Nat.le_trans h.size k.size,Nat.le_trans k.low h.low,fun b hb hl=>?_,fun b hb hr=>?_,fun b hb=>?_⟩
 ·rw [k.keep b (Nat.lt_of_lt_of_le hb h.size) hl,h.keep b hb (Nat.lt_of_lt_of_le hl k.low)]
 ·rw [k.ro b (Nat.lt_of_lt_of_le hb h.size) (by rw [h.ro' b hb];exact hr),h.ro b hb hr]
 ·rw [k.ro' b (Nat.lt_of_lt_of_le hb h.size),h.ro' b hb]
theorem MemStep.alloc (m:Mem) (x:ABlk):MemStep m (m.alloc x):=by
 have hget:∀ b,b<m.size→(m.alloc x).get b=m.get b:=fun b hb=>by rw [Mem.get_alloc,if_neg (by omega)]
 exact ⟨Nat.le_succ _,Nat.le_refl _,fun b hb _=>hget b hb,fun b hb _=>hget b hb,fun b hb=>ro_of_get (hget b hb)⟩
theorem MemStep.put {m:Mem} {b:Nat} {x:ABlk} (h:m.ro b=false) (hx:x.ro=false):MemStep m (m.put b x):=by
 have hget:∀ c,c≠b→(m.put b x).get c=m.get c:=fun c hc=>by rw [Mem.get_put,if_neg (fun e=>hc e.symm)]
 refine ⟨Nat.le_refl _,Nat.min_le_left _ _,fun c hc hl=>hget c fun e=>?_,fun c hc hr=>hget c fun e=>?_,fun c hc=>?_⟩
 ·subst e;have:(m.put c x).low≤c:=Nat.min_le_right _ _;omega
 ·subst e;rw [h] at hr;cases hr
 ·by_cases e:c=b
  ·subst e;rw [h];unfold Mem.ro;rw [Mem.get_put,if_pos rfl];exact hx
  ·exact ro_of_get (hget c e)
theorem storeRow_step {m m':Mem} {a:Addr} {l:List Value} (h:storeRow m a l=some m'):MemStep m m':=by
 unfold storeRow at h
 split at h
 ·rename_i vs e g hg
  split at h
  ·cases h;exact MemStep.put (Mem.ro_eq hg) rfl
  ·cases h
 ·cases h
theorem appendCells_step {m m':Mem} {e:TypeId} {size n:Nat} {l:List Value} {s v:Value} (h:appendCells m e size l n s=some (v,m')):MemStep m m':=by
 unfold appendCells at h
 split at h
 ·split at h
  ·cases h;exact MemStep.refl _
  ·cases h;exact MemStep.alloc _ _
 ·split at h
  ·cases h;exact MemStep.refl _
  ·cases h;exact MemStep.alloc _ _
 ·split at h
  ·rename_i vs e' g' hg
   split at h
   ·split at h
    ·cases h;exact MemStep.put (Mem.ro_eq hg) rfl
    ·cases h
   ·cases h
  ·cases h
 ·cases h
theorem aappend_step {aT:Array TypeId} {as:Array Value} {m m':Mem} {v:Value} (h:aappend P aT as m=some (v,m')):MemStep m m':=by
 unfold aappend at h
 repeat' split at h
 all_goals first
  |exact appendCells_step h
  |cases h
theorem acopy_step {aT:Array TypeId} {as:Array Value} {m m':Mem} {v:Value} (h:acopy P aT as m=some (v,m')):MemStep m m':=by
 unfold acopy at h
 simp only at h
 repeat' split at h
 all_goals first
  |(cases h;exact MemStep.refl _)
  |(rw [Option.map_eq_some_iff] at h;obtain ⟨m1,h1,h2⟩:=h;cases h2;exact storeRow_step h1)
  |cases h
theorem aupdate_step {t:TypeId} {x k v:Value} {m m':Mem} (h:aupdate P t x k v m=some m'):MemStep m m':=by
 unfold aupdate at h
 split at h
 ·split at h
  ·rename_i kind es clock _ hg
   repeat' split at h
   all_goals first
    |(cases h;exact MemStep.put (by unfold Mem.ro;rw [hg];rfl) rfl)
    |cases h
  ·cases h
 ·cases h
theorem aconv_step {s d:TypeId} {x v:Value} {m m':Mem} (h:aconv P s d x m=some (v,m')):MemStep m m':=by
 unfold aconv at h
 repeat' split at h
 all_goals first
  |(cases h;exact MemStep.alloc _ _)
  |(cases h;exact MemStep.refl _)
  |cases h
set_option maxHeartbeats 1000000 in
theorem aop_step {ρ:Operand→Value} {o:Oper} {m m':Mem} {v:Value} (h:aop P ρ o m=some (v,m')):MemStep m m':=by
 unfold aop at h
 split at h
 all_goals (repeat' split at h)
 all_goals first
  |(cases h;exact MemStep.refl _)
  |(cases h;exact MemStep.alloc _ _)
  |exact aappend_step h
  |exact acopy_step h
  |exact aconv_step h
  |(rw [Option.map_eq_some_iff] at h;obtain ⟨u,h1,h2⟩:=h;cases h2;first
   |exact MemStep.refl _
   |exact MemStep.alloc _ _
   |exact aupdate_step h1
   |(unfold astore at h1;(repeat' split at h1)<;>first|exact storeRow_step h1|cases h1))
  |cases h
theorem alen_indep {aT:Array TypeId} {as:Array Value} (hq:lenQuiet P aT=true) (m m2:Mem):alen P aT as m=alen P aT as m2:=by
 unfold lenQuiet at hq
 unfold alen
 cases h1:aT[0]? with
 |none=>simp [h1] at hq
 |some t =>
  rw [h1] at hq
  simp only at hq ⊢
  cases h2:as[0]? with
  |none=>rfl
  |some x =>
   simp only
   cases h3:P.underlying t with
   |none=>simp [h3] at hq
   |some d =>
    rw [h3] at hq
    cases d<;>first|(cases hq;done)|(cases x<;>rfl)
theorem quiet_indep {ρ:Operand→Value} {o:Oper} {m m':Mem} {v:Value} (hq:quietKind P o.op=true) (h:aop P ρ o m=some (v,m')) (m2:Mem):m'=m∧aop P ρ o m2=some (v,m2):=by
 obtain ⟨dst,op,ty,pos,after,guard⟩:=o
 have mapc:∀ {x:Option Value},x.map (fun v=>(v,m))=some (v,m')→m'=m∧x.map (fun v=>(v,m2))=some (v,m2):=fun {x} h=>by
  rw [Option.map_eq_some_iff] at h
  obtain ⟨u,rfl,h2⟩:=h
  cases h2
  exact ⟨rfl,rfl⟩
 have mapc':∀ {x:Option Value},x.map (fun v=>(v,m))=some (v,m')→m'=m∧x.map (fun v=>(v,m2))=some (v,m2):=mapc
 simp only at hq
 cases op<;>simp only [quietKind,Bool.false_eq_true] at hq<;>simp only [aop] at h ⊢
 case move=>cases h;exact ⟨rfl,rfl⟩
 case assign=>cases h;exact ⟨rfl,rfl⟩
 case makeFunc fn fs cs =>
  cases fn<;>simp only [reduceCtorEq] at h ⊢
  cases h;exact ⟨rfl,rfl⟩
 case pick c a b =>
  split at h
  ·cases h;exact ⟨rfl,rfl⟩
  ·cases h
 case convert s d x =>
  have hq':(isSlT P s||isSlT P d)=false:=by simpa using hq
  rw [hq'] at h ⊢
  simp only [Bool.false_eq_true,if_false] at h ⊢
  split at h<;>rename_i hp<;>first|(rw [if_pos hp];exact mapc h)|cases h
 case call c =>
  obtain ⟨callee,args,aT⟩:=c
  cases callee<;>simp only [reduceCtorEq,Bool.false_eq_true] at hq h ⊢
  rename_i b
  cases b<;>simp only [reduceCtorEq,Bool.false_eq_true] at hq h ⊢
  case cap=>exact mapc h
  case len=>rw [alen_indep hq m m2] at h;exact mapc' h
  case max=>split at h<;>rename_i hp<;>first|(rw [if_pos hp];exact mapc h)|cases h
  case min=>split at h<;>rename_i hp<;>first|(rw [if_pos hp];exact mapc h)|cases h
 all_goals first
  |exact mapc h
  |(split at h<;>rename_i hp<;>first|(rw [if_pos hp];exact mapc h)|(cases h;done))
  |(repeat' split at h
    all_goals first
     |(cases h;refine ⟨rfl,?_⟩;simp_all;done)
     |(cases h;exact ⟨rfl,rfl⟩)
     |exact mapc h
     |cases h)
end Go.Am
set_option linter.unusedSimpArgs false
set_option linter.unusedVariables false
namespace Go.Am
variable {P:Program} {G:List Nat} {ds:List Deferred} {rf:Option Nat} {nn:Nat}
def CallStep (call:CallF):Prop:=∀ f as m v m',call f as m=some (v,m')→MemStep m m'
theorem aval_step {call:CallF} (hc:CallStep call) {ρ:Operand→Value} {o:Oper} {m m':Mem} {v:Value} (h:aval P call ρ o m=some (v,m')):MemStep m m':=by
 unfold aval at h
 split at h
 ·split at h
  ·exact hc _ _ _ _ _ h
  ·cases h
 ·exact aop_step h
def cut (ι:Inj) (n:Nat):Inj:=fun b=>if b<n then ι b else none
theorem cut_lt {ι:Inj} {n b:Nat} (h:b<n):cut ι n b=ι b:=if_pos h
theorem cut_some {ι:Inj} {n b:Nat} {ib:IB} (h:cut ι n b=some ib):b<n∧ι b=some ib:=by
 unfold cut at h
 split at h
 ·exact ⟨by assumption,h⟩
 ·cases h
def setLow (m:Mem) (x:Nat):Mem:={ m with low:=x }
theorem Sim.low {ι:Inj} {m:Mem} {w:World} (hs:Sim P G ι m w) (x:Nat):Sim P G ι (setLow m x) w:=⟨hs.dom,hs.blk,hs.inj,hs.glob⟩
theorem Sim.extend {ι:Inj} {m m2:Mem} {w:World} (hs:Sim P G ι m w) (hsz:m.size≤m2.size) (hget:∀ b,b<m.size→m2.get b=m.get b):Sim P G ι m2 w:=by
 have hle:Le ι m.gen ι m2.gen:=fun b ib hb=>⟨by rw [gen_of_get (hget b (hs.dom b ib hb).1)];exact Nat.le_refl _,ib,hb,fun _=>rfl⟩
 refine ⟨fun b ib hb=>⟨Nat.lt_of_lt_of_le (hs.dom b ib hb).1 hsz,(hs.dom b ib hb).2⟩,fun b ib hb=>?_,fun b b' ib ib' hb hb' he=>?_,fun k hk=>?_⟩
 ·rw [hget b (hs.dom b ib hb).1];exact (hs.blk b ib hb).mono hle
 ·rcases hs.inj b b' ib ib' hb hb' he with h|⟨h1,h2⟩
  ·exact .inl h
  ·exact .inr ⟨by rw [ro_of_get (hget b (hs.dom b ib hb).1)];exact h1,by rw [ro_of_get (hget b' (hs.dom b' ib' hb').1)];exact h2⟩
 ·obtain ⟨ib,h1,h2,h3,h4,h5⟩:=hs.glob k hk
  have hlt:=(hs.dom k ib h1).1
  exact ⟨ib,h1,h2,⟨h3.1,by rw [hget k hlt];exact h3.2⟩,by rw [gen_of_get (hget k hlt)];exact h4,by rw [ro_of_get (hget k hlt)];exact h5⟩
theorem Sim.world {ι:Inj} {m:Mem} {w w':World} (hs:Sim P G ι m w) (hsz:w.heap.size≤w'.heap.size) (hh:∀ c,c<w.heap.size→w'.heap[c]?=w.heap[c]?):Sim P G ι m w' :=
 ⟨fun b ib hb=>⟨(hs.dom b ib hb).1,Nat.lt_of_lt_of_le (hs.dom b ib hb).2 hsz⟩,fun b ib hb=>by rw [hh _ (hs.dom b ib hb).2];exact hs.blk b ib hb,hs.inj,hs.glob⟩
theorem Sim.congr {ι ι':Inj} {m:Mem} {w:World} (hs:Sim P G ι m w) (h:∀ b,ι' b=ι b):Sim P G ι' m w:=by
 have:ι'=ι:=funext h
 rw [this];exact hs
theorem before_spec (ops:Array Oper):∀ (l:List Oper) (acc:Array Nat),(∀ (j:Nat) o,l[j]?=some o→∀ k,((l.foldl (fun acc o=>acc.push (o.after.foldl (fun s e=>if Region.binds .any e then s ||| 2 ^ e.on ||| acc.getD e.on 0 else s) 0)) acc).getD (acc.size+j) 0).testBit k=true →
 ∃ e∈o.after,Region.binds .any e=true∧(e.on=k∨((l.foldl (fun acc o=>acc.push (o.after.foldl (fun s e=>if Region.binds .any e then s ||| 2 ^ e.on ||| acc.getD e.on 0 else s) 0)) acc).getD e.on 0).testBit k=true)) ∧
 (∀ j,j<acc.size→(l.foldl (fun acc o=>acc.push (o.after.foldl (fun s e=>if Region.binds .any e then s ||| 2 ^ e.on ||| acc.getD e.on 0 else s) 0)) acc).getD j 0=acc.getD j 0)
 |[],acc=>⟨fun j o h=>by simp at h,fun j _=>rfl⟩
 |o::l,acc=>by
  generalize hf:(fun (acc:Array Nat) (o:Oper)=>acc.push (o.after.foldl (fun s e=>if Region.binds .any e then s ||| 2 ^ e.on ||| acc.getD e.on 0 else s) 0))=F
  have ih:=before_spec ops l (F acc o)
  rw [hf] at ih
  have hsz:(F acc o).size=acc.size+1:=by rw [← hf];simp
  simp only [List.foldl_cons]
  have hkeep:∀ j,j<acc.size→(List.foldl F (F acc o) l).getD j 0=acc.getD j 0:=fun j hj=>by
   rw [ih.2 j (by omega),← hf]
   simp [Array.getElem?_push,Nat.ne_of_lt hj]
  refine ⟨fun j o' hj k hk=>?_,hkeep⟩
  cases j with
  |zero =>
   simp only [List.getElem?_cons_zero,Option.some.injEq] at hj
   subst hj
   have h1:(List.foldl F (F acc o) l).getD (acc.size+0) 0=o.after.foldl (fun s e=>if Region.binds .any e then s ||| 2 ^ e.on ||| acc.getD e.on 0 else s) 0:=by
    rw [ih.2 _ (by omega),← hf]
    simp
   rw [h1] at hk
   have key:∀ (es:List Edge) (s:Nat),(es.foldl (fun s e=>if Region.binds .any e then s ||| 2 ^ e.on ||| acc.getD e.on 0 else s) s).testBit k=true →
    s.testBit k=true∨∃ e∈es,Region.binds .any e=true∧(e.on=k∨(acc.getD e.on 0).testBit k=true):=fun es=>by
    induction es with
    |nil=>intro s h;exact .inl h
    |cons e es ihe =>
     intro s h
     rw [List.foldl_cons] at h
     rcases ihe _ h with h|⟨e',h1,h2⟩
     ·split at h
      ·rename_i hb
       simp only [Nat.testBit_or,Bool.or_eq_true] at h
       rcases h with (h|h)|h
       ·exact .inl h
       ·refine .inr ⟨e,by simp,hb,.inl ?_⟩
        rw [Nat.testBit_two_pow] at h
        simpa using h
       ·exact .inr ⟨e,by simp,hb,.inr h⟩
      ·exact .inl h
     ·exact .inr ⟨e',by simp [h1],h2⟩
   rw [← Array.foldl_toList] at hk
   rcases key _ _ hk with h|⟨e,h1,h2,h3⟩
   ·simp at h
   ·refine ⟨e,by simpa using h1,h2,?_⟩
    rcases h3 with h3|h3
    ·exact .inl h3
    ·refine .inr ?_
     by_cases he:e.on<acc.size
     ·rw [hkeep _ he];exact h3
     ·have:acc.getD e.on 0=0:=by simp [Array.getElem?_eq_none (by omega:acc.size≤e.on)]
      rw [this] at h3;simp at h3
  |succ j =>
   have:=ih.1 j o' (by simpa using hj) k
   rw [hsz] at this
   have e1:acc.size+1+j=acc.size+(j+1):=by omega
   rw [e1] at this
   exact this hk
theorem before_bit {ops:Array Oper} {i k:Nat} {o:Oper} (ho:ops[i]?=some o) (h:((Region.before ops).getD i 0).testBit k=true) :
 ∃ e∈o.after,Region.binds .any e=true∧(e.on=k∨((Region.before ops).getD e.on 0).testBit k=true):=by
 have:=(before_spec ops ops.toList #[]).1 i o (by simpa using ho) k
 simp only [Array.size_empty,Nat.zero_add] at this
 unfold Region.before at h ⊢
 rw [← Array.foldl_toList] at h ⊢
 exact this h
def Closed (ops:Array Oper) (listed:Array Bool):Prop :=
 ∀ (i:Nat) (o:Oper),ops[i]?=some o→listed.getD i false=true→∀ e∈o.after,Region.binds .any e=true→listed.getD e.on false=true
theorem closed_before {ops:Array Oper} {listed:Array Bool} (hcl:Closed ops listed) (hback:∀ (i:Nat) (o:Oper),ops[i]?=some o→∀ e∈o.after,Region.binds .any e=true→e.on<i):∀ (i:Nat) (o:Oper) (k:Nat),ops[i]?=some o →
 (∀ e∈o.after,Region.binds .any e=true→listed.getD e.on false=true)→((Region.before ops).getD i 0).testBit k=true→listed.getD k false=true:=by
 intro i
 induction i using Nat.strongRecOn with
 |_ i ih =>
  intro o k ho hall hbit
  obtain ⟨e,he,hb,h⟩:=before_bit ho hbit
  rcases h with rfl|h
  ·exact hall e he hb
  ·have hlt:=hback i o ho e he hb
   cases hoe:ops[e.on]? with
   |none =>
    have:ops.size≤e.on:=by
     rcases Nat.lt_or_ge e.on ops.size with h|h
     ·rw [Array.getElem?_eq_getElem h] at hoe;cases hoe
     ·exact h
    have hi:i<ops.size:=(Array.getElem?_eq_some_iff.1 ho).1
    omega
   |some oe=>exact ih e.on hlt oe k hoe (hcl e.on oe hoe (hall e he hb)) h
theorem dsteps_trace {call:CallF} {ops:Array Oper}:∀ (l:List Oper) (k:Nat) (s s':St),dsteps P call ops k l s=some s' →
 ∃ S:Nat→St,S k=s∧S (k+l.length)=s'∧∀ (i:Nat) (o:Oper),l[i]?=some o→dstep P call ops (k+i) o (S (k+i))=some (S (k+i+1))
 |[],k,s,s',h=>by
  cases h
  exact ⟨fun _=>s,rfl,rfl,fun i o h=>by simp at h⟩
 |o::l,k,s,s',h=>by
  simp only [dsteps] at h
  cases h1:dstep P call ops k o s with
  |none=>rw [h1] at h;cases h
  |some s1 =>
   rw [h1] at h
   obtain ⟨S,e1,e2,e3⟩:=dsteps_trace l (k+1) s1 s' h
   refine ⟨fun j=>if j≤k then s else S j,by simp,?_,fun i o' hi=>?_⟩
   ·have:¬ (k+(o::l).length≤k):=by simp
    simp only [this,if_false]
    rw [← e2];congr 1;simp;omega
   ·cases i with
    |zero =>
     simp only [List.getElem?_cons_zero,Option.some.injEq] at hi
     subst hi
     have:¬ (k+0+1≤k):=by omega
     simp only [Nat.add_zero,Nat.le_refl,if_true]
     rw [if_neg (by omega),e1];exact h1
    |succ i =>
     have h2:=e3 i o' (by simpa using hi)
     have q1:¬ (k+(i+1)≤k):=by omega
     have q2:¬ (k+(i+1)+1≤k):=by omega
     simp only [q1,q2,if_false]
     have q3:k+(i+1)=k+1+i:=by omega
     rw [q3];exact h2
theorem dstep_cases {call:CallF} {ops:Array Oper} {i:Nat} {o:Oper} {s s2:St} (h:dstep P call ops i o s=some s2) :
 (Region.wanted o (ayielded ops s.t)=false∧s2.t=tput s.t o.dst undef∧∃ x,s2.m=setLow s.m x∧x≤s.m.low∧x≤s.m.size) ∨
 (Region.wanted o (ayielded ops s.t)=true∧∃ v m',aval P call (ev s.t) o (setLow s.m s.m.size)=some (v,m')∧s2.t=tput s.t o.dst v∧s2.m=setLow m' (min s.m.low m'.low) ∧
  (barrier P ops i=true∨s.m.size≤m'.low∨(wbar P ops i=true∧freeAt ops i s.t=true))):=by
 unfold dstep astep at h
 split at h
 ·rename_i s' h1
  split at h
  ·rename_i hc
   cases h
   split at h1
   ·rename_i hw
    refine .inr ⟨hw,?_⟩
    unfold aact at h1
    split at h1
    ·rename_i v m' hv
     cases h1
     refine ⟨v,m',hv,rfl,rfl,?_⟩
     simp only [Bool.or_eq_true,Bool.and_eq_true,decide_eq_true_eq,or_assoc] at hc
     exact hc
    ·cases h1
   ·rename_i hw
    cases h1
    exact .inl ⟨by simpa using hw,rfl,_,rfl,Nat.min_le_left _ _,Nat.min_le_right _ _⟩
  ·cases h
 ·cases h
theorem drawOk_spec {ops:Array Oper} (h:drawOk ops=true):(∀ (i:Nat) (o:Oper),ops[i]?=some o→∀ e∈o.after,Region.binds .any e=true→e.on<i) ∧
 (∀ (i:Nat) (oi:Oper) (d:Nat),ops[i]?=some oi→oi.dst=some d→∀ (j:Nat) (oj:Oper),ops[j]?=some oj→j≠i →
  oj.dst≠some d∧(d∈oj.looksAt ops→(i<j→((Region.before ops).getD j 0).testBit i=true)∧(j<i→((Region.before ops).getD i 0).testBit j=true))):=by
 unfold drawOk at h
 simp only [List.all_eq_true,List.mem_range] at h
 have lt:∀ {i:Nat} {o:Oper},ops[i]?=some o→i<ops.size:=fun hi=>(Array.getElem?_eq_some_iff.1 hi).1
 refine ⟨fun i o hi e he hb=>?_,fun i oi d hi hd j oj hj hne=>?_⟩
 ·have:=h i (lt hi)
  rw [hi] at this
  simp only [Bool.and_eq_true] at this
  have h2:=Array.all_eq_true_iff_forall_mem.1 this.1.2 e he
  simpa [hb] using h2
 ·have:=h i (lt hi)
  rw [hi] at this
  simp only [Bool.and_eq_true,hd,List.all_eq_true,List.mem_range] at this
  have h2:=this.2 j (lt hj)
  rw [hj] at h2
  simp only [Bool.or_eq_true,beq_iff_eq,hne,false_or,Bool.and_eq_true,bne_iff_ne,ne_eq] at h2
  refine ⟨h2.1,fun hl=>?_⟩
  rcases h2.2 with h3|h3
  ·simp [hl] at h3
  ·refine ⟨fun hlt=>?_,fun hlt=>?_⟩
   ·rw [if_pos hlt] at h3;exact h3
   ·rw [if_neg (by omega)] at h3;exact h3
def isBar (P:Program) (ops:Array Oper) (i:Nat):Bool:=match ops[i]? with|some o=>!quietKind P o.op&&!isLoadOp o.op&&(barrier P ops i||wbar P ops i)|none=>false
def touches (P:Program) (ops:Array Oper) (i:Nat):Bool:=match ops[i]? with|some o=>!quietKind P o.op&&!isLoadOp o.op|none=>false
theorem isBar_spec {ops:Array Oper} {i:Nat} (h:isBar P ops i=true):touches P ops i=true∧∀ j,j≠i→touches P ops j=true →
 (j<i→((Region.before ops).getD i 0).testBit j=true)∧(i<j→((Region.before ops).getD j 0).testBit i=true):=by
 unfold isBar at h
 cases ho:ops[i]? with
 |none=>rw [ho] at h;cases h
 |some o =>
  rw [ho] at h
  simp only [Bool.and_eq_true] at h
  refine ⟨by unfold touches;rw [ho];simp only [Bool.and_eq_true];exact h.1,fun j hne ht=>?_⟩
  unfold touches at ht
  cases hoj:ops[j]? with
  |none=>rw [hoj] at ht;cases ht
  |some oj =>
   rw [hoj] at ht
   simp only [Bool.and_eq_true,Bool.not_eq_true'] at ht
   have hlt:=(Array.getElem?_eq_some_iff.1 hoj).1
   rcases Bool.or_eq_true_iff.1 h.2 with h2|h2
   ·unfold barrier at h2
    simp only [List.all_eq_true,List.mem_range] at h2
    have h3:=h2 j hlt
    simp only [hoj,Option.map_some,Option.getD_some,Bool.or_eq_true,beq_iff_eq,hne,false_or] at h3
    rw [ht.1] at h3
    simp only [Bool.false_eq_true,false_or] at h3
    refine ⟨fun hl=>?_,fun hl=>?_⟩
    ·rw [if_pos hl] at h3;exact h3
    ·rw [if_neg (by omega)] at h3;exact h3
   ·unfold wbar at h2
    simp only [Bool.and_eq_true,List.all_eq_true,List.mem_range] at h2
    have h3:=h2.2 j hlt
    simp only [hoj,Option.map_some,Option.getD_some,Bool.or_eq_true,beq_iff_eq,hne,false_or] at h3
    rw [ht.1,ht.2] at h3
    simp only [Bool.false_eq_true,false_or,ordered] at h3
    refine ⟨fun hl=>?_,fun hl=>?_⟩
    ·rw [if_pos hl] at h3;exact h3
    ·rw [if_neg (by omega)] at h3;exact h3
theorem barrier_load {ops:Array Oper} {i j:Nat} {oj:Oper} (h:barrier P ops i=true) (hj:ops[j]?=some oj) (hld:isLoadOp oj.op=true) (hne:j≠i):ordered ops i j=true:=by
 unfold barrier at h
 simp only [List.all_eq_true,List.mem_range] at h
 have h3:=h j (Array.getElem?_eq_some_iff.1 hj).1
 have hq:quietKind P oj.op=false:=by
  cases hop:oj.op<;>rw [hop] at hld<;>first|rfl|cases hld
 simp only [hj,Option.map_some,Option.getD_some,Bool.or_eq_true,beq_iff_eq,hne,false_or,hq,Bool.false_eq_true] at h3
 unfold ordered
 exact h3
end Go.Am
set_option linter.unusedSimpArgs false
set_option linter.unusedVariables false
namespace Go.Am
variable {P:Program} {G:List Nat} {ds:List Deferred} {rf:Option Nat} {nn:Nat}
structure Trace (P:Program) (call:CallF) (ops:Array Oper) (S:Nat→St):Prop where
 step:∀ (i:Nat) (o:Oper),ops[i]?=some o→dstep P call ops i o (S i)=some (S (i+1))
section
variable {call:CallF} {ops:Array Oper} {S:Nat→St}
theorem leInd {p:Nat→Prop} {i:Nat} (base:p i) (step:∀ j,i≤j→p j→p (j+1)) (j:Nat) (h:i≤j):p j:=by
 induction j with
 |zero=>have:i=0:=by omega
        subst this;exact base
 |succ j ih =>
  by_cases e:i=j+1
  ·subst e;exact base
  ·exact step j (by omega) (ih (by omega))
theorem getOp {i:Nat} (h:i<ops.size):∃ o,ops[i]?=some o:=⟨ops[i],Array.getElem?_eq_getElem h⟩
theorem Trace.mem (ht:Trace P call ops S) (hc:CallStep call) {i:Nat} (hi:i<ops.size):MemStep (S i).m (S (i+1)).m:=by
 obtain ⟨o,ho⟩:=getOp hi
 rcases dstep_cases (ht.step i o ho) with ⟨_,_,x,hm,hx,_⟩|⟨_,v,m',hv,_,hm,_⟩
 ·rw [hm];exact ⟨Nat.le_refl _,hx,fun _ _ _=>rfl,fun _ _ _=>rfl,fun _ _=>rfl⟩
 ·have hs:=aval_step hc hv
  rw [hm]
  exact ⟨hs.size,Nat.min_le_left _ _,fun b hb hl=>hs.keep b hb (Nat.lt_of_lt_of_le hl (Nat.min_le_right _ _)),fun b hb hr=>hs.ro b hb hr,fun b hb=>hs.ro' b hb⟩
theorem Trace.memTo (ht:Trace P call ops S) (hc:CallStep call) (i:Nat):∀ j,i≤j→j≤ops.size→MemStep (S i).m (S j).m:=by
 refine leInd (fun _=>MemStep.refl _) fun j hij ih hj=>?_
 exact (ih (by omega)).trans (ht.mem hc (by omega))
theorem aval_quiet {ρ:Operand→Value} {o:Oper} {m m':Mem} {v:Value} (hq:quietKind P o.op=true) (h:aval P call ρ o m=some (v,m')) (m2:Mem) :
 m'=m∧aval P call ρ o m2=some (v,m2):=by
 unfold aval at h ⊢
 split at h
 ·rename_i f args aT hop
  rw [hop] at hq
  simp [quietKind] at hq
 ·rename_i hne
  obtain ⟨h1,h2⟩:=quiet_indep hq h m2
  exact ⟨h1,h2⟩
theorem aload_congr {t:TypeId} {a:Addr} {m m2:Mem} {v:Value} (h:aload P t a m=some v) (hg:m2.get a.block=m.get a.block) (hlt:a.block<m2.size):aload P t a m2=some v:=by
 unfold aload at h ⊢
 split at h
 ·rw [if_pos hlt]
  unfold aload0 Mem.cellsAt at h ⊢
  rw [hg]
  exact h
 ·cases h
theorem aslice_reader {t:TypeId} {x:Value} {lo hi:Option Value} {m:Mem} {v:Value} (h:aslice P t x lo hi none m=some v) :
 (∀ b,blkV x=some b→b<m.size)∧∀ m2:Mem,(∀ b,blkV x=some b→b<m2.size∧m2.get b=m.get b)→aslice P t x lo hi none m2=some v:=by
 unfold aslice at h ⊢
 simp only [Option.isSome_none,Bool.false_and,Bool.false_eq_true,if_false] at h ⊢
 split at h
 ·rename_i s hu
  exact ⟨fun b hb=>(by cases hb),fun m2 _=>by first|exact h|(simp only [hu];exact h)⟩
 ·rename_i e hu
  exact ⟨fun b hb=>(by cases hb),fun m2 _=>by first|exact h|(simp only [hu];exact h)⟩
 ·rename_i e b off g' hu
  exact ⟨fun b hb=>(by cases hb),fun m2 _=>by first|exact h|(simp only [hu];exact h)⟩
 ·rename_i e b off len g hu
  split at h
  ·rename_i i l hh hi0 b1 b2 _
   split at h
   ·rename_i vs e' g' ro hg
    split at h
    ·rename_i hc
     refine ⟨fun c hb=>by cases hb;exact hc.2,fun m2 h2=>?_⟩
     obtain ⟨q1,q2⟩:=h2 b rfl
     simp only [hu,hi0,b1,b2,q2,hg,hc.1,q1,and_self,if_true]
     exact h
    ·cases h
   ·cases h
  ·rename_i hc;cases hc
  ·cases h
 ·cases h
theorem loadOp {o:Oper} (h:isLoadOp o.op=true):(∃ t a,o.op=.load t a)∨∃ t x lo hi,o.op=.slice t x lo hi none:=by
 cases hop:o.op with
 |load t a=>exact .inl ⟨t,a,rfl⟩
 |slice t x lo hi mx =>
  cases mx with
  |none=>exact .inr ⟨t,x,lo,hi,rfl⟩
  |some y=>rw [hop] at h;cases h
 |_=>rw [hop] at h;cases h
theorem aval_reader {ρ:Operand→Value} {o:Oper} {m m':Mem} {v:Value} (hl:isLoadOp o.op=true) (h:aval P call ρ o m=some (v,m')) :
 m'=m∧∃ x,ldOp o.op=some x∧(∀ b,blkV (ρ x)=some b→b<m.size)∧∀ m2:Mem,(∀ b,blkV (ρ x)=some b→b<m2.size∧m2.get b=m.get b)→aval P call ρ o m2=some (v,m2):=by
 obtain ⟨dst,op,ty,pos,after,guard⟩:=o
 rcases loadOp hl with ⟨t,a,hop⟩|⟨t,x,lo,hi,hop⟩
 ·simp only at hop
  subst hop
  simp only [aval,aop] at h ⊢
  split at h
  ·rename_i ad had
   rw [Option.map_eq_some_iff] at h
   obtain ⟨u,hu,he⟩:=h
   cases he
   refine ⟨rfl,a,rfl,fun b hb=>?_,fun m2 h2=>?_⟩
   ·rw [had] at hb
    cases hb
    unfold aload at hu
    split at hu
    ·assumption
    ·cases hu
   ·obtain ⟨q1,q2⟩:=h2 ad.block (by rw [had];rfl)
    simp only [had,aload_congr hu q2 q1,Option.map_some]
  ·cases h
 ·simp only at hop
  subst hop
  simp only [aval,aop,Option.map_none] at h ⊢
  rw [Option.map_eq_some_iff] at h
  obtain ⟨u,hu,he⟩:=h
  cases he
  obtain ⟨r1,r2⟩:=aslice_reader hu
  exact ⟨rfl,x,rfl,r1,fun m2 h2=>by rw [r2 m2 h2];rfl⟩
theorem Trace.quiet (ht:Trace P call ops S) (hc:CallStep call) {i:Nat} (hi:i<ops.size) (hb:isBar P ops i=false):∀ b,b<(S i).m.size→(S (i+1)).m.get b=(S i).m.get b:=by
 intro b hlt
 obtain ⟨o,ho⟩:=getOp hi
 rcases dstep_cases (ht.step i o ho) with ⟨_,_,x,hm,hx⟩|⟨_,v,m',hv,_,hm,hor⟩
 ·rw [hm];rfl
 ·rw [hm]
  show m'.get b=(S i).m.get b
  by_cases hq:quietKind P o.op=true
  ·obtain ⟨h1,_⟩:=aval_quiet hq hv (S i).m
   rw [h1];rfl
  ·by_cases hl:isLoadOp o.op=true
   ·rw [(aval_reader hl hv).1];rfl
   ·unfold isBar at hb
    rw [ho] at hb
    rcases hor with h|h|⟨h,_⟩
    ·simp [hq,hl,h] at hb
    ·exact (aval_step hc hv).keep b hlt (Nat.lt_of_lt_of_le hlt h)
    ·simp [hq,hl,h] at hb
theorem Trace.still (ht:Trace P call ops S) {i:Nat} (hi:i<ops.size) (hb:touches P ops i=false):(S (i+1)).m.size=(S i).m.size:=by
 obtain ⟨o,ho⟩:=getOp hi
 unfold touches at hb
 rw [ho] at hb
 rcases dstep_cases (ht.step i o ho) with ⟨_,_,x,hm,hx⟩|⟨_,v,m',hv,_,hm,hor⟩
 ·rw [hm];rfl
 ·by_cases hq:quietKind P o.op=true
  ·obtain ⟨h1,_⟩:=aval_quiet hq hv (S i).m
   rw [hm,h1];rfl
  ·have hl:isLoadOp o.op=true:=by simpa [hq] using hb
   rw [hm,(aval_reader hl hv).1];rfl
theorem Trace.quietTo (ht:Trace P call ops S) (hc:CallStep call) (i:Nat):∀ j,i≤j→j≤ops.size→(∀ k,i≤k→k<j→isBar P ops k=false)→∀ b,b<(S i).m.size→(S j).m.get b=(S i).m.get b:=by
 refine leInd (fun _ _ b _=>rfl) fun j hij ih=>?_
 ·intro hj hq b hb
  rw [ht.quiet hc (by omega) (hq j hij (by omega)) b (Nat.lt_of_lt_of_le hb (ht.memTo hc i j hij (by omega)).size)]
  exact ih (by omega) (fun k h1 h2=>hq k h1 (by omega)) b hb
theorem Trace.tmps (ht:Trace P call ops S) (t:Nat) (i:Nat):∀ j,i≤j→j≤ops.size→(∀ k o,i≤k→k<j→ops[k]?=some o→o.dst≠some t)→tget (S j).t t=tget (S i).t t:=by
 refine leInd (fun _ _=>rfl) fun j hij ih=>?_
 ·intro hj hq
  obtain ⟨o,ho⟩:=getOp (ops:=ops) (i:=j) (by omega)
  have hd:=hq j o hij (by omega) ho
  have hput:∀ v,tget (tput (S j).t o.dst v) t=tget (S j).t t:=fun v=>by
   cases hdd:o.dst with
   |none=>rfl
   |some d=>simp only [tput];rw [tget_tset,if_neg (fun e=>hd (by rw [hdd,e]))]
  have hstep:tget (S (j+1)).t t=tget (S j).t t:=by
   rcases dstep_cases (ht.step j o ho) with ⟨_,h,_⟩|⟨_,v,m',_,h,_⟩
   ·rw [h];exact hput _
   ·rw [h];exact hput _
  rw [hstep]
  exact ih (by omega) fun k o h1 h2=>hq k o h1 (by omega)
theorem listed_set {listed:Array Bool} {i j:Nat} (hj:j<listed.size):(listed.setIfInBounds j true).getD i false=if i=j then true else listed.getD i false:=by
 by_cases e:i=j
 ·subst e;simp [hj]
 ·rw [if_neg e];simp [Array.getElem?_setIfInBounds_ne (Ne.symm e)]
theorem Le.cut {ι:Inj} {g:Nat→Nat} {x y:Nat} (h:x≤y):Le (cut ι x) g (cut ι y) g:=fun b ib hb=>by
 obtain ⟨h1,h2⟩:=cut_some hb
 exact ⟨Nat.le_refl _,ib,by rw [cut_lt (by omega)];exact h2,fun _=>rfl⟩
theorem Le.uncut {ι:Inj} {g:Nat→Nat} {x:Nat}:Le (Am.cut ι x) g ι g:=fun b ib hb=>⟨Nat.le_refl _,ib,(cut_some hb).2,fun _=>rfl⟩
structure DI (ds:List Deferred) (P:Program) (G:List Nat) (n:Nat) (ops:Array Oper) (S:Nat→St) (ι0:Inj) (w0:World) (listed:Array Bool) (ι:Inj) (a:Act) (w:World) (jp jn:Nat):Prop where
 lsz:listed.size=ops.size
 cl:Closed ops listed
 h1:jp≤jn
 h1':jn≤ops.size
 h2:∀ k,jp≤k→k<jn→isBar P ops k=false
 h3:jn=ops.size∨(isBar P ops jn=true∧listed.getD jn false=false)
 h4:∀ k,k<jp→touches P ops k=true→listed.getD k false=true
 sims:∀ j,jp≤j→j≤jn→Sim P G (cut ι (S j).m.size) (S j).m w
 dome:∀ b ib,ι b=some ib→b<(S jp).m.size∨∃ i,listed.getD i false=true∧jp≤i∧i<jn∧(S i).m.size≤b∧b<(S (i+1)).m.size
 tsz:a.tmps.size=n
 tdef:a.defers=ds
 v1:∀ (i:Nat) (o:Oper) (t:Nat),ops[i]?=some o→o.dst=some t→listed.getD i false=true→VRel (cut ι (S (max (i+1) jp)).m.size) (S jn).m.gen (tget (S ops.size).t t) (a.tmps.getD t undef)
 v0:∀ t,(∀ (i:Nat) (o:Oper),ops[i]?=some o→o.dst=some t→listed.getD i false=false)→VRel (cut ι (S 0).m.size) (S jn).m.gen (tget (S 0).t t) (a.tmps.getD t undef)
 le:Le ι0 (S 0).m.gen ι (S jn).m.gen
 back:∀ b ib,ι b=some ib→(∃ ib0,ι0 b=some ib0∧ib0.blk=ib.blk)∨w0.heap.size≤ib.blk
 dom0:∀ b ib,ι b=some ib→(∃ ib0,ι0 b=some ib0)∨(S 0).m.size≤b
 heap:w0.heap.size≤w.heap.size
 frame:∀ c,c<w0.heap.size→(∀ b ib,ι0 b=some ib→ib.blk=c→(S 0).m.ro b=true∨b<(S ops.size).m.low)→w.heap[c]?=w0.heap[c]?
 tape:w.tape=w0.tape
 os:w.os=w0.os
 output:w.output=w0.output
theorem slots_put {n:Nat} {listed:Array Bool} {ι ι':Inj} {g g':Nat→Nat} {a:Act} {j:Nat} {o:Oper} {v':Value} {jp jp':Nat} (hcs:CallStep call) (hjj:jp≤jp') (hjs:jp'≤ops.size) (ht:Trace P call ops S) (hdr:drawOk ops=true) (ho:ops[j]?=some o)
 (hlsz:listed.size=ops.size) (hunl:listed.getD j false=false) (htsz:a.tmps.size=n) (hdn:∀ d,o.dst=some d→d<n)
 (hle:∀ x,Le (cut ι x) g (cut ι' x) g')
 (hv:∀ d,o.dst=some d→VRel (cut ι' (S (max (j+1) jp')).m.size) g' (tget (S (j+1)).t d) v')
 (v1:∀ (i:Nat) (o:Oper) (t:Nat),ops[i]?=some o→o.dst=some t→listed.getD i false=true→VRel (cut ι (S (max (i+1) jp)).m.size) g (tget (S ops.size).t t) (a.tmps.getD t undef))
 (v0:∀ t,(∀ (i:Nat) (o:Oper),ops[i]?=some o→o.dst=some t→listed.getD i false=false)→VRel (cut ι (S 0).m.size) g (tget (S 0).t t) (a.tmps.getD t undef)) :
 (∀ (i:Nat) (o':Oper) (t:Nat),ops[i]?=some o'→o'.dst=some t→(listed.setIfInBounds j true).getD i false=true→VRel (cut ι' (S (max (i+1) jp')).m.size) g' (tget (S ops.size).t t) ((a.put o.dst v').tmps.getD t undef)) ∧
 (∀ t,(∀ (i:Nat) (o':Oper),ops[i]?=some o'→o'.dst=some t→(listed.setIfInBounds j true).getD i false=false)→VRel (cut ι' (S 0).m.size) g' (tget (S 0).t t) ((a.put o.dst v').tmps.getD t undef)):=by
 have hjlt:j<ops.size:=(Array.getElem?_eq_some_iff.1 ho).1
 have hj':j<listed.size:=by omega
 obtain ⟨_,hdist⟩:=drawOk_spec hdr
 have hother:∀ t,o.dst≠some t→(a.put o.dst v').tmps.getD t undef=a.tmps.getD t undef:=fun t ht'=>by
  cases hd:o.dst with
  |none=>rfl
  |some d =>
   have:d≠t:=fun e=>ht' (by rw [hd,e])
   simp [Act.put,Array.getElem?_setIfInBounds_ne this]
 refine ⟨fun i o' t hi hd hl=>?_,fun t hall=>?_⟩
 ·by_cases e:i=j
  ·subst e
   rw [ho] at hi;cases hi
   have hself:(a.put o.dst v').tmps.getD t undef=v':=by
    rw [hd]
    have:=hdn t hd
    simp [Act.put,htsz,this]
   rw [hself]
   have h1:tget (S ops.size).t t=tget (S (i+1)).t t:=ht.tmps t (i+1) ops.size (by omega) (Nat.le_refl _) fun k ok hk _ hok=>(hdist i o t ho hd k ok hok (by omega)).1
   rw [h1]
   exact hv t hd
  ·rw [listed_set hj',if_neg e] at hl
   rw [hother t (hdist i o' t hi hd j o ho (Ne.symm e)).1]
   have hil:=(Array.getElem?_eq_some_iff.1 hi).1
   exact ((v1 i o' t hi hd hl).mono (hle _)).mono (Le.cut (ht.memTo hcs (max (i+1) jp) (max (i+1) jp') (by omega) (by omega)).size)
 ·have hne:o.dst≠some t:=fun hd=>by
   have:=hall j o ho hd
   rw [listed_set hj',if_pos rfl] at this
   cases this
  rw [hother t hne]
  refine (v0 t fun i o' hi hd=>?_).mono (hle _)
  have:=hall i o' hi hd
  rw [listed_set hj'] at this
  split at this
  ·cases this
  ·exact this
theorem slots_read {n:Nat} {listed:Array Bool} {ι ι0:Inj} {a:Act} {w w0:World} {jp jn j:Nat} {o:Oper} (ht:Trace P call ops S) (hc:CallStep call) (hdr:drawOk ops=true) (ho:ops[j]?=some o)
 (hd:DI ds P G n ops S ι0 w0 listed ι a w jp jn) (hunl:listed.getD j false=false) (hall:∀ e∈o.after,Region.binds .any e=true→listed.getD e.on false=true) {t:Nat} (hl:t∈o.looksAt ops) :
 VRel (cut ι (S (max j jp)).m.size) (S jn).m.gen (tget (S j).t t) (a.tmps.getD t undef):=by
 have hjlt:j<ops.size:=(Array.getElem?_eq_some_iff.1 ho).1
 obtain ⟨hback,hdist⟩:=drawOk_spec hdr
 have hjpn:=hd.h1
 have hjno:=hd.h1'
 by_cases hw:∃ (i:Nat) (oi:Oper),ops[i]?=some oi∧oi.dst=some t
 ·obtain ⟨i,oi,hi,hdi⟩:=hw
  have hilt:i<ops.size:=(Array.getElem?_eq_some_iff.1 hi).1
  have uniq:∀ (k:Nat) (ok:Oper),ops[k]?=some ok→ok.dst=some t→k=i:=fun k ok hk hdk=>by
   by_cases e:k=i
   ·exact e
   ·exact absurd hdk (hdist i oi t hi hdi k ok hk e).1
  have notYet:listed.getD i false=false→j≤i→VRel (cut ι (S (max j jp)).m.size) (S jn).m.gen (tget (S j).t t) (a.tmps.getD t undef):=fun hu hji=>by
   have h0:=hd.v0 t fun k ok hk hdk=>by rw [uniq k ok hk hdk];exact hu
   have e1:tget (S j).t t=tget (S 0).t t:=ht.tmps t 0 j (Nat.zero_le _) (by omega) fun k ok _ hkj hok hdk=>by have:=uniq k ok hok hdk;omega
   rw [e1]
   exact h0.mono (Le.cut (ht.memTo hc 0 (max j jp) (Nat.zero_le _) (by omega)).size)
  rcases Nat.lt_trichotomy i j with hlt|heq|hgt
  ·have hb:=((hdist i oi t hi hdi j o ho (by omega)).2 hl).1 hlt
   have hli:=closed_before hd.cl hback j o i ho hall hb
   have h1:=hd.v1 i oi t hi hdi hli
   have e1:tget (S ops.size).t t=tget (S j).t t:=ht.tmps t j ops.size (by omega) (Nat.le_refl _) fun k ok hk _ hok hdk=>by have:=uniq k ok hok hdk;omega
   rw [← e1]
   exact h1.mono (Le.cut (ht.memTo hc (max (i+1) jp) (max j jp) (by omega) (by omega)).size)
  ·subst heq
   exact notYet hunl (Nat.le_refl _)
  ·have hb:=((hdist i oi t hi hdi j o ho (by omega)).2 hl).2 hgt
   refine notYet ?_ (by omega)
   cases hli:listed.getD i false with
   |false=>rfl
   |true =>
    have:=closed_before hd.cl hback i oi j hi (hd.cl i oi hi hli) hb
    rw [hunl] at this;cases this
 ·have h0:=hd.v0 t fun i oi hi hdi=>absurd ⟨i,oi,hi,hdi⟩ hw
  have e1:tget (S j).t t=tget (S 0).t t:=ht.tmps t 0 j (Nat.zero_le _) (by omega) fun k ok _ _ hok hdk=>hw ⟨k,ok,hok,hdk⟩
  rw [e1]
  exact h0.mono (Le.cut (ht.memTo hc 0 (max j jp) (Nat.zero_le _) (by omega)).size)
end
end Go.Am
set_option linter.unusedSimpArgs false
set_option linter.unusedVariables false
namespace Go.Am
variable {P:Program} {G:List Nat} {ds:List Deferred} {rf:Option Nat} {nn:Nat}
theorem abin_plain {op:BinOp} {t:TypeId} {xo yo:Operand} {x y u:Value} (h:abin P op t xo yo x y=some u):plain u=true:=by
 unfold abin at h
 have hnil:∀ {b:Bool},aeqNil op b=some u→plain u=true:=fun {b} h=>by
  cases op<;>simp only [aeqNil,reduceCtorEq,Option.some.injEq] at h<;>subst h<;>rfl
 split at h
 ·split at h
  ·exact (ashift_run (P:=P) (t:=t) (k':=.i64) (.inl rfl) h default).2
  ·exact (ashift_run (P:=P) (t:=t) (k':=.i64) (.inr rfl) h default).2
  ·split at h
   ·exact (aint_run (P:=P) (t:=t) h default).2
   ·cases h
 ·split at h
  ·exact hnil h
  ·cases h
 ·split at h
  ·exact hnil h
  ·cases h
 ·split at h
  ·exact hnil h
  ·cases h
 ·split at h
  ·exact hnil h
  ·cases h
 ·split at h
  ·exact (dryV_some h).2
  ·cases h
set_option maxHeartbeats 1000000 in
theorem quiet_sound {ι:Inj} {g:Nat→Nat} {m m':Mem} {ρ ρ':Operand→Value} {o:Oper} {v:Value} (hq:quietKind P o.op=true) (hρ:∀ x∈o.op.operands,VRel ι g (ρ x) (ρ' x))
 (h:aop P ρ o m=some (v,m')):∃ v',(∀ w,(execOp ρ' o).run P w=.ok (.value v') w)∧VRel ι g v v':=by
 obtain ⟨dst,op,ty,pos,after,guard⟩:=o
 simp only at hρ hq
 have same:∀ {s:Sem Value} {u v':Value},execOp ρ' ⟨dst,op,ty,pos,after,guard⟩=(do pure (.value (← s)):Sem Next)→(∀ w,s.run P w=.ok v' w)→VRel ι g u v'→(u,m)=(v,m') →
  ∃ v',(∀ w,(execOp ρ' ⟨dst,op,ty,pos,after,guard⟩).run P w=.ok (.value v') w)∧VRel ι g v v':=fun {s u v'} he hr hv hm=>by
  cases hm
  exact ⟨v',fun w=>by rw [he];exact run_v (hr w),hv⟩
 cases op<;>simp only [quietKind,Bool.false_eq_true] at hq<;>simp only [aop,reduceCtorEq] at h
 case move x =>
  cases h
  exact ⟨ρ' x,fun w=>rfl,hρ x (by simp [Op.operands])⟩
 case assign x =>
  cases h
  exact ⟨ρ' x,fun w=>rfl,hρ x (by simp [Op.operands])⟩
 case pick c a b =>
  have hc:=hρ c (by simp [Op.operands])
  split at h
  ·rename_i t hcc
   cases h
   rw [hcc] at hc
   have e:ρ' c=.bool t:=by generalize ρ' c=u at hc;cases hc;rfl
   refine ⟨(if t then ρ' a else ρ' b),fun w=>?_,?_⟩
   ·simp only [execOp,e,asBool,Sem.run_bind,Sem.run_pure,Result.andThen_ok]
   ·cases t
    ·exact hρ b (by simp [Op.operands])
    ·exact hρ a (by simp [Op.operands])
  ·cases h
 case binOp op t x y yt =>
  rw [Option.map_eq_some_iff] at h
  obtain ⟨u,hu,he⟩:=h
  have hx:=hρ x (by simp [Op.operands])
  have hy:=hρ y (by simp [Op.operands])
  have hall:∃ v',(∀ w,(do eqGuard op t x y (ρ' x) (ρ' y);binOp op t (ρ' x) (ρ' y):Sem Value).run P w=.ok v' w)∧VRel ι g u v':=by
   obtain ⟨v',hr,hv⟩:=abin_sound hx hy hu default
   refine ⟨v',fun w=>?_,hv⟩
   obtain ⟨v2,hr2,hv2⟩:=abin_sound hx hy hu w
   have hp:plain u=true:=abin_plain hu
   rw [hv.eq_of_plain hp]
   rw [hv2.eq_of_plain hp] at hr2
   exact hr2
  obtain ⟨v',hr,hv⟩:=hall
  exact same rfl hr hv he
 case build t ps =>
  split at h
  ·rename_i z hz
   rw [Option.map_eq_some_iff] at h
   obtain ⟨u,hu,he⟩:=h
   have hp:PRel ι g (ps.map fun (i,x)=>(i,ρ x)).toList (ps.map fun (i,x)=>(i,ρ' x)).toList:=by
    rw [Array.toList_map,Array.toList_map]
    exact PRel.map fun x hx=>hρ x (by simp only [Op.operands];simpa using hx)
   obtain ⟨v',hr,hv⟩:=build_sound hp (fun z' hz'=>by
    obtain ⟨i,zv,hi,hz1,rfl,hz3⟩:=zeroCellsOf_some hz
    unfold zeroOf at hz'
    rw [hi] at hz'
    simp only [Option.bind_some] at hz'
    rw [hz1] at hz'
    cases hz'
    exact hz3) hu
   exact same rfl (fun w=>dry_run hr w) hv he
  ·cases h
 case nilCheck x =>
  have hx:=hρ x (by simp [Op.operands])
  split at h
  ·rename_i ad had
   rw [had] at hx
   have hsh:∃ a',ρ' x=.pointer (some a')∧ARel ι g ad a':=by generalize ρ' x=u at hx;cases hx;exact ⟨_,rfl,by assumption⟩
   obtain ⟨a',e1,har⟩:=hsh
   cases h
   exact ⟨.pointer (some a'),fun w=>by simp only [execOp,e1];rfl,.ptr _ _ har⟩
  ·cases h
 case unOp op t x =>
  split at h
  ·rename_i hp
   rw [Option.map_eq_some_iff] at h
   obtain ⟨u,hu,he⟩:=h
   have hx:=(hρ x (by simp [Op.operands])).eq_of_plain hp
   obtain ⟨h1,h2⟩:=dryV_some hu
   exact same (s:=Op.unary op (ρ' x)) rfl (fun w=>by rw [hx];exact dry_run h1 w) (VRel.plain h2) he
  ·cases h
 case convert s d x =>
  have hq':(isSlT P s||isSlT P d)=false:=by simpa using hq
  rw [hq'] at h
  simp only [Bool.false_eq_true,if_false] at h
  split at h
  ·rename_i hp
   rw [Option.map_eq_some_iff] at h
   obtain ⟨u,hu,he⟩:=h
   have hx:=(hρ x (by simp [Op.operands])).eq_of_plain hp
   obtain ⟨h1,h2⟩:=dryV_some hu
   exact same (s:=Go.convert s d (ρ' x)) rfl (fun w=>by rw [hx];exact dry_run h1 w) (VRel.plain h2) he
  ·cases h
 case makeFunc fn fs cs =>
  cases fn<;>simp only [reduceCtorEq] at h
  rename_i f
  cases h
  have h1:=LRel.mapArr (ι:=ι) (g:=g) (l:=fs.toList) (fun x hx=>hρ x (by simp [Op.operands];exact .inl (by simpa using hx)))
  have h2:=LRel.mapArr (ι:=ι) (g:=g) (l:=cs.toList) (fun x hx=>hρ x (by simp [Op.operands];exact .inr (by simpa using hx)))
  refine ⟨.func (.func f) (fs.map ρ') (cs.map ρ'),fun w=>rfl,?_⟩
  have e:∀ (r:Operand→Value) (a:Array Operand),a.map r=⟨a.toList.map r⟩:=fun r a=>by apply Array.ext';simp
  rw [e ρ fs,e ρ cs,e ρ' fs,e ρ' cs]
  exact .fn f _ _ _ _ h1.1 h1.2 h2.1 h2.2
 case fieldAddr s x f =>
  have hx:=hρ x (by simp [Op.operands])
  split at h
  ·rename_i fs ad hu had
   rw [had] at hx
   have hsh:∃ a',ρ' x=.pointer (some a')∧ARel ι g ad a':=by generalize ρ' x=u at hx;cases hx;exact ⟨_,rfl,by assumption⟩
   obtain ⟨a',e1,har⟩:=hsh
   split at h
   ·rename_i fd hfd
    split at h
    ·rename_i i hi
     split at h
     ·cases h
     ·rename_i hsz
      refine same (s:=Instr.fieldAt s (ρ' x) f) (v':=.pointer (some (a'.add fd.offset))) rfl (fun w=>?_) (.ptr _ _ ?_) (Option.some.inj h)
      ·simp only [Instr.fieldAt,e1,Instr.sureAddr,Sem.run_bind,run_underlying hu,Sem.run_pure,Result.andThen_ok,hfd,fieldPlace,run_sizeOf' hi,if_neg hsz]
      ·obtain ⟨ib,hb,hle,hcur⟩:=har
       refine ⟨ib,hb,hle,fun e=>?_⟩
       rw [hcur e,addr_add]
       simp only [Addr.mk.injEq,true_and,and_true]
       omega
    ·cases h
   ·cases h
  ·cases h
 case field t x f =>
  rw [Option.map_eq_some_iff] at h
  obtain ⟨u,hu,he⟩:=h
  obtain ⟨v',hr,hv⟩:=field_sound (hρ x (by simp [Op.operands])) hu
  exact same rfl (fun w=>dry_run hr w) hv he
 case indexAddr t x ix =>
  have hx:=hρ x (by simp [Op.operands])
  have hix:=hρ ix (by simp [Op.operands])
  split at h
  ·rename_i e b off len g1 k i hu hxx hixx
   rw [hxx] at hx;rw [hixx] at hix
   have e2:ρ' ix=.int k i:=by generalize ρ' ix=u at hix;cases hix;rfl
   split at h
   ·rename_i inf hi
    split at h
    ·rename_i hb
     have hsh:∃ a' cap',ρ' x=.slice (some a') len cap'∧SRel ι g b off len g1 a' cap':=by generalize ρ' x=u at hx;cases hx;exact ⟨_,_,rfl,by assumption⟩
     obtain ⟨a',cap',e1,hsr⟩:=hsh
     refine same (s:=Instr.indexAt t (ρ' x) (ρ' ix)) (v':=.pointer (some (a'.add (i.toNat*inf.size)))) rfl (fun w=>?_) (.ptr _ _ (slice_addr hsr (fun _=>by omega) _)) (Option.some.inj h)
     simp only [Instr.indexAt,e1,e2,asIntOf,Sem.run_bind,run_underlying hu,Sem.run_pure,Result.andThen_ok,run_sizeOf' hi,if_pos hb]
    ·cases h
   ·cases h
  ·rename_i n e ad k i hu hxx hixx
   rw [hxx] at hx;rw [hixx] at hix
   have e2:ρ' ix=.int k i:=by generalize ρ' ix=u at hix;cases hix;rfl
   have hsh:∃ a',ρ' x=.pointer (some a')∧ARel ι g ad a':=by generalize ρ' x=u at hx;cases hx;exact ⟨_,rfl,by assumption⟩
   obtain ⟨a',e1,har⟩:=hsh
   split at h
   ·rename_i inf hi
    split at h
    ·rename_i hb
     refine same (s:=Instr.indexAt t (ρ' x) (ρ' ix)) (v':=.pointer (some (a'.add (i.toNat*inf.size)))) rfl (fun w=>?_) (.ptr _ _ ?_) (Option.some.inj h)
     ·simp only [Instr.indexAt,e1,e2,asIntOf,Instr.sureAddr,Sem.run_bind,run_underlying hu,Sem.run_pure,Result.andThen_ok,run_sizeOf' hi,if_pos hb]
     ·obtain ⟨ib,hbb,hle,hcur⟩:=har
      refine ⟨ib,hbb,hle,fun e=>?_⟩
      rw [hcur e,addr_add]
      simp only [Addr.mk.injEq,true_and,and_true]
      omega
    ·cases h
   ·cases h
  ·cases h
 case index t x ix =>
  split at h
  ·rename_i hp
   rw [Option.map_eq_some_iff] at h
   obtain ⟨u,hu,he⟩:=h
   have hix:=(hρ ix (by simp [Op.operands])).eq_of_plain hp
   obtain ⟨v',hr,hv⟩:=index_sound (hρ x (by simp [Op.operands])) hu
   exact same (s:=Instr.index t (ρ' x) (ρ' ix)) rfl (fun w=>by rw [hix];exact dry_run hr w) hv he
  ·cases h
 case extract t i =>
  rw [Option.map_eq_some_iff] at h
  obtain ⟨u,hu,he⟩:=h
  obtain ⟨v',hr,hv⟩:=extract_sound (hρ t (by simp [Op.operands])) hu
  exact same rfl (fun w=>dry_run hr w) hv he
 case call c =>
  obtain ⟨callee,args,aT⟩:=c
  cases callee<;>simp only [reduceCtorEq,Bool.false_eq_true] at hq h
  rename_i b
  have hargs:∀ x∈args,VRel ι g (ρ x) (ρ' x):=fun x hx=>hρ x (by simp [Op.operands,Call.operands,hx])
  cases b<;>simp only [reduceCtorEq,Bool.false_eq_true] at hq h
  case cap =>
   rw [Option.map_eq_some_iff] at h
   obtain ⟨u,hu,he⟩:=h
   cases he
   have hp:v=.int .i64 0:=by
    unfold acap at hu
    repeat' split at hu
    all_goals first|(cases hu;rfl)|cases hu
   subst hp
   refine ⟨.int .i64 0,fun w=>?_,.int _ _⟩
   rw [run_builtin]
   refine run_v ?_
   have key:∀ (ι:Inj) (g:Nat→Nat),ARels ι g (args.map ρ) (args.map ρ')→(Builtin.cap_ aT ty (args.map ρ')).run P w=.ok (.int .i64 0) w:=fun ι g har=>by
    unfold acap at hu
    split at hu
    ·rename_i t q0
     split at hu
     ·rename_i e huu
      split at hu
      ·rename_i q
       obtain ⟨x',h1,h2⟩:=har 0 _ q
       cases h2
       simp [Builtin.cap_,q0,h1,run_underlying huu,goInt]
      ·rename_i b o s q
       obtain ⟨x',h1,h2⟩:=har 0 _ q
       cases h2
       simp [Builtin.cap_,q0,h1,run_underlying huu,goInt]
      ·cases hu
     ·cases hu
    ·cases hu
   exact key ι g (ARels.map hargs)
  case len =>
   rw [Option.map_eq_some_iff] at h
   obtain ⟨u,hu,he⟩:=h
   cases he
   obtain ⟨h1,h2⟩:=len_quiet ty hq (ARels.map hargs) hu
   exact ⟨_,fun w=>by rw [run_builtin];exact run_v (h1 w),h2⟩
  case max =>
   split at h
   ·rename_i hp
    rw [Option.map_eq_some_iff] at h
    obtain ⟨u,hu,he⟩:=h
    cases he
    obtain ⟨h1,h2⟩:=dryV_some hu
    exact ⟨_,fun w=>by rw [run_builtin,plain_map_eq hargs hp];exact run_v (dry_run h1 w),VRel.plain h2⟩
   ·cases h
  case min =>
   split at h
   ·rename_i hp
    rw [Option.map_eq_some_iff] at h
    obtain ⟨u,hu,he⟩:=h
    cases he
    obtain ⟨h1,h2⟩:=dryV_some hu
    exact ⟨_,fun w=>by rw [run_builtin,plain_map_eq hargs hp];exact run_v (dry_run h1 w),VRel.plain h2⟩
   ·cases h
end Go.Am
set_option linter.unusedSimpArgs false
set_option linter.unusedVariables false
namespace Go.Am
variable {P:Program} {G:List Nat} {call:CallF} {ops:Array Oper} {S:Nat→St} {ds:List Deferred} {rf:Option Nat} {nn:Nat}
theorem DI.dom_lt {n:Nat} {ι ι0:Inj} {a:Act} {w w0:World} {listed:Array Bool} {jp jn:Nat} (ht:Trace P call ops S) (hcs:CallStep call) (hd:DI ds P G n ops S ι0 w0 listed ι a w jp jn) {b:Nat} {ib:IB}
 (hb:ι b=some ib):b<(S jn).m.size:=by
 rcases hd.dome b ib hb with h|⟨i,_,h1,h2,_,h3⟩
 ·exact Nat.lt_of_lt_of_le h (ht.memTo hcs jp jn hd.h1 hd.h1').size
 ·exact Nat.lt_of_lt_of_le h3 (ht.memTo hcs (i+1) jn h2 hd.h1').size
theorem closed_set {listed:Array Bool} {j:Nat} {o:Oper} (hcl:Closed ops listed) (hj:j<listed.size) (ho:ops[j]?=some o) (hall:∀ e∈o.after,Region.binds .any e=true→listed.getD e.on false=true) :
 Closed ops (listed.setIfInBounds j true):=by
 intro i oi hi hl e he hb
 rw [listed_set hj]
 split
 ·rfl
 ·rw [listed_set hj] at hl
  split at hl
  ·rename_i h1 h2
   subst h2
   rw [ho] at hi;cases hi
   exact hall e he hb
  ·exact hcl i oi hi hl e he hb
theorem listed_mono {listed:Array Bool} {i j:Nat} (hj:j<listed.size) (h:listed.getD i false=true):(listed.setIfInBounds j true).getD i false=true:=by
 rw [listed_set hj];split
 ·rfl
 ·exact h
theorem operands_rel {n:Nat} {ι ι0:Inj} {a:Act} {w w0:World} {listed:Array Bool} {jp jn j:Nat} {o:Oper} (ht:Trace P call ops S) (hcs:CallStep call) (hdr:drawOk ops=true)
 (hd:DI ds P G n ops S ι0 w0 listed ι a w jp jn) (hG:∀ k,k∈G→k<(S 0).m.size) (ho:ops[j]?=some o) (hunl:listed.getD j false=false)
 (hall:∀ e∈o.after,Region.binds .any e=true→listed.getD e.on false=true) (hop:∀ x∈o.op.operands,operandOk G x=true) :
 ∀ x∈o.op.operands,VRel (cut ι (S (max j jp)).m.size) (S jn).m.gen (ev (S j).t x) (a.eval x):=by
 intro x hx
 have hjlt:j<ops.size:=(Array.getElem?_eq_some_iff.1 ho).1
 cases x with
 |tmp t =>
  refine slots_read ht hcs hdr ho hd hunl hall (t:=t) ?_
  unfold Oper.looksAt
  refine List.mem_append_left _ ?_
  rw [List.mem_filterMap]
  exact ⟨.tmp t,by simpa using hx,rfl⟩
 |const v=>exact VRel.plain (hop _ hx)
 |global k =>
  have hk:k∈G:=by simpa [operandOk] using hop _ hx
  obtain ⟨ib,h1,h2,h3,h4,h5⟩:=(hd.sims jn hd.h1 (Nat.le_refl _)).glob k hk
  have hlt:=Nat.lt_of_lt_of_le (hG k hk) (ht.memTo hcs 0 (max j jp) (Nat.zero_le _) (by have:=hd.h1;have:=hd.h1';omega)).size
  exact .ptr _ _ ⟨ib,by rw [cut_lt hlt];exact (cut_some h1).2,Nat.zero_le _,fun _=>by simp [h2,h3]⟩
 |func f=>exact .fn f [] [] [] [] rfl (fun i hi=>absurd hi (by simp)) rfl (fun i hi=>absurd hi (by simp))
theorem wanted_at {n:Nat} {ι ι0:Inj} {a:Act} {w w0:World} {listed:Array Bool} {jp jn j:Nat} {o:Oper} (ht:Trace P call ops S) (hcs:CallStep call) (hdr:drawOk ops=true)
 (hd:DI ds P G n ops S ι0 w0 listed ι a w jp jn) (ho:ops[j]?=some o) (hunl:listed.getD j false=false)
 (hall:∀ e∈o.after,Region.binds .any e=true→listed.getD e.on false=true):Region.wanted o (yielded ops a.tmps)=Region.wanted o (ayielded ops (S j).t):=by
 unfold Region.wanted
 cases hg:o.guard with
 |none=>rfl
 |some p =>
  obtain ⟨k,b⟩:=p
  have key:yielded ops a.tmps k=ayielded ops (S j).t k:=by
   unfold yielded ayielded
   cases hdk:(ops[k]?).bind (·.dst) with
   |none=>rfl
   |some d =>
    simp only [Option.bind_some]
    have hv:=slots_read ht hcs hdr ho hd hunl hall (t:=d) (by
     unfold Oper.looksAt
     refine List.mem_append_right _ ?_
     rw [hg]
     simp only [hdk,Option.toList_some,List.mem_singleton])
    cases ha:a.tmps[d]? with
    |none =>
     have e:a.tmps.getD d undef=undef:=by simp [ha]
     rw [e] at hv
     have:∀ b,tget (S j).t d≠.bool b:=fun b hb=>by
      have:=(hv.bool_iff b).1 hb
      cases this
     split
     ·rename_i h;cases h
     ·split
      ·rename_i b hb;exact absurd hb (this b)
      ·rfl
    |some u =>
     have e:a.tmps.getD d undef=u:=by simp [ha]
     rw [e] at hv
     split
     ·rename_i b hb
      cases hb
      have:=(hv.bool_iff b).2 rfl
      rw [this]
     ·rename_i hne
      split
      ·rename_i b hb
       have:=(hv.bool_iff b).1 hb
       exact absurd (by rw [this]) (hne b)
      ·rfl
  simp only [key]
theorem DI.still {n:Nat} {ι ι0:Inj} {a:Act} {w w0:World} {listed:Array Bool} {jp jn j:Nat} {o:Oper} {v':Value} (hcs:CallStep call) (ht:Trace P call ops S) (hdr:drawOk ops=true)
 (hd:DI ds P G n ops S ι0 w0 listed ι a w jp jn) (ho:ops[j]?=some o) (hunl:listed.getD j false=false) (hall:∀ e∈o.after,Region.binds .any e=true→listed.getD e.on false=true)
 (hdn:∀ d,o.dst=some d→d<n) (hnb:isBar P ops j=false)
 (hv:∀ d,o.dst=some d→VRel (cut ι (S (max (j+1) jp)).m.size) (S jn).m.gen (tget (S (j+1)).t d) v') :
 DI ds P G n ops S ι0 w0 (listed.setIfInBounds j true) ι (a.put o.dst v') w jp jn:=by
 have hjlt:j<ops.size:=(Array.getElem?_eq_some_iff.1 ho).1
 have hj':j<listed.size:=by rw [hd.lsz];exact hjlt
 obtain ⟨v1,v0⟩:=slots_put hcs (Nat.le_refl jp) (Nat.le_trans hd.h1 hd.h1') ht hdr ho hd.lsz hunl hd.tsz hdn (fun x=>Le.refl _ _) hv hd.v1 hd.v0
 refine ⟨by simpa using hd.lsz,closed_set hd.cl hj' ho hall,hd.h1,hd.h1',hd.h2,?_,fun k hk htk=>listed_mono hj' (hd.h4 k hk htk),hd.sims,?_,?_,?_,v1,v0,hd.le,hd.back,hd.dom0,hd.heap,hd.frame,hd.tape,hd.os,hd.output⟩
 ·rcases hd.h3 with h|⟨h1,h2⟩
  ·exact .inl h
  ·refine .inr ⟨h1,?_⟩
   rw [listed_set hj',if_neg (fun e=>by subst e;rw [h1] at hnb;cases hnb)]
   exact h2
 ·intro b ib hb
  rcases hd.dome b ib hb with h|⟨i,h1,h2⟩
  ·exact .inl h
  ·exact .inr ⟨i,listed_mono hj' h1,h2⟩
 ·cases hdd:o.dst<;>simp [Act.put,hd.tsz]
 ·cases hdd:o.dst<;>simp [Act.put,hd.tdef]
theorem DI.quiet {n:Nat} {ι ι0 ι1:Inj} {a:Act} {w w0 w':World} {listed:Array Bool} {jp jn j:Nat} {o:Oper} {v v':Value} {m':Mem} {y:Nat} (ht:Trace P call ops S) (hcs:CallStep call) (hdr:drawOk ops=true)
 (hd:DI ds P G n ops S ι0 w0 listed ι a w jp jn) (ho:ops[j]?=some o) (hunl:listed.getD j false=false) (hall:∀ e∈o.after,Region.binds .any e=true→listed.getD e.on false=true)
 (hdn:∀ d,o.dst=some d→d<n) (hjp:jp≤j) (hjn:j<jn) (hm':(S (j+1)).m=setLow m' y) (hlow:(S j).m.size≤m'.low) (hstep:MemStep (setLow (S j).m (S j).m.size) m')
 (htv:∀ d,o.dst=some d→tget (S (j+1)).t d=v)
 (hext:Ext (cut ι (S j).m.size) (setLow (S j).m (S j).m.size) w ι1 m' w') (hsim:Sim P G ι1 m' w') (hvr:VRel ι1 m'.gen v v') :
 ∃ ι',DI ds P G n ops S ι0 w0 (listed.setIfInBounds j true) ι' (a.put o.dst v') w' jp jn:=by
 have hjlt:j<ops.size:=(Array.getElem?_eq_some_iff.1 ho).1
 have hj':j<listed.size:=by rw [hd.lsz];exact hjlt
 have hsz1:(S (j+1)).m.size=m'.size:=by rw [hm'];rfl
 have hget1:∀ b,(S (j+1)).m.get b=m'.get b:=fun b=>by rw [hm'];rfl
 have hgj:∀ b,b<(S j).m.size→m'.get b=(S j).m.get b:=fun b hb=>hstep.keep b hb (Nat.lt_of_lt_of_le hb hlow)
 have hle01:(S j).m.size≤(S (j+1)).m.size:=by rw [hsz1];exact hstep.size
 let ι':Inj:=fun b=>if (S j).m.size≤b∧b<(S (j+1)).m.size then ι1 b else ι b
 have hnew:∀ b,(S j).m.size≤b→b<(S (j+1)).m.size→ι' b=ι1 b:=fun b h1 h2=>if_pos ⟨h1,h2⟩
 have hold:∀ b,¬ ((S j).m.size≤b∧b<(S (j+1)).m.size)→ι' b=ι b:=fun b h=>if_neg h
 have f1:∀ b,b<(S j).m.size→ι1 b=ι b:=fun b hb=>by
  cases hib:ι b with
  |some ib =>
   have hc:cut ι (S j).m.size b=some ib:=by rw [cut_lt hb];exact hib
   obtain ⟨_,ib',h2,h3⟩:=hext.le b ib hc
   have hg:m'.gen b=(setLow (S j).m (S j).m.size).gen b:=gen_of_get (hgj b hb)
   rw [h2,h3 hg]
  |none =>
   cases hi1:ι1 b with
   |none=>rfl
   |some ib =>
    rcases hext.dom b ib hi1 with ⟨ib0,h⟩|h
    ·have:=(cut_some h).2;rw [hib] at this;cases this
    ·exact absurd hb (by show ¬ _;exact Nat.not_lt.2 h)
 have f2:∀ b,(S j).m.size≤b→b<(S (j+1)).m.size→ι b=none:=fun b h1 h2=>by
  cases hib:ι b with
  |none=>rfl
  |some ib =>
   rcases hd.dome b ib hib with h|⟨i,hl,hi1,hi2,hi3,hi4⟩
   ·have:=(ht.memTo hcs jp j hjp (by omega)).size;omega
   ·rcases Nat.lt_trichotomy i j with h|h|h
    ·have:=(ht.memTo hcs (i+1) j (by omega) (by omega)).size;omega
    ·subst h;rw [hunl] at hl;cases hl
    ·have:=(ht.memTo hcs (j+1) i (by omega) (by have:=hd.h1';omega)).size;omega
 have holdS:∀ b ib,ι b=some ib→ι' b=some ib:=fun b ib hb=>by
  rw [hold b (fun h=>by have:=f2 b h.1 h.2;rw [hb] at this;cases this)];exact hb
 have f3:∀ b,cut ι' (S (j+1)).m.size b=ι1 b:=fun b=>by
  by_cases h1:b<(S (j+1)).m.size
  ·rw [cut_lt h1]
   by_cases h2:(S j).m.size≤b
   ·exact hnew b h2 h1
   ·rw [hold b (fun h=>h2 h.1),f1 b (by omega)]
  ·have:cut ι' (S (j+1)).m.size b=none:=if_neg h1
   rw [this]
   cases hi1:ι1 b with
   |none=>rfl
   |some ib=>exact absurd (hsim.dom b ib hi1).1 (by rw [← hsz1];exact h1)
 have f5:∀ c,c<w.heap.size→w'.heap[c]?=w.heap[c]?:=fun c hc=>hext.frame c hc fun b ib hb _=>.inr (Nat.lt_of_lt_of_le (cut_some hb).1 hlow)
 have hgenN:∀ b,b<(S (j+1)).m.size→(S jn).m.gen b=m'.gen b:=fun b hb=>by
  have:=ht.quietTo hcs (j+1) jn (by omega) hd.h1' (fun k h1 h2=>hd.h2 k (by omega) h2) b hb
  rw [gen_of_get this];exact gen_of_get (hget1 b)
 have hle1:∀ i',j+1≤i'→i'≤jn→Le ι1 m'.gen (cut ι' (S i').m.size) (S i').m.gen:=fun i' h1 h2 b ib hb=>by
  have hbl:b<(S (j+1)).m.size:=by rw [hsz1];exact (hsim.dom b ib hb).1
  have hsi:=(ht.memTo hcs (j+1) i' h1 (by have:=hd.h1';omega)).size
  have hq:=ht.quietTo hcs (j+1) i' h1 (by have:=hd.h1';omega) (fun k q1 q2=>hd.h2 k (by omega) (by omega)) b hbl
  refine ⟨by rw [gen_of_get hq,gen_of_get (hget1 b)];exact Nat.le_refl _,ib,?_,fun _=>rfl⟩
  rw [cut_lt (by omega),← hb,← f3 b,cut_lt hbl]
 have hleS:∀ x g,Le (cut ι x) g (cut ι' x) g:=fun x g b ib hb=>by
  obtain ⟨h1,h2⟩:=cut_some hb
  exact ⟨Nat.le_refl _,ib,by rw [cut_lt h1];exact holdS b ib h2,fun _=>rfl⟩
 have hsims:∀ i',jp≤i'→i'≤jn→Sim P G (cut ι' (S i').m.size) (S i').m w':=fun i' h1 h2=>by
  have hs:=hd.sims i' h1 h2
  by_cases hij:i'≤j
  ·refine (hs.world hext.heap f5).congr fun b=>?_
   by_cases hb:b<(S i').m.size
   ·rw [cut_lt hb,cut_lt hb]
    refine hold b fun h=>?_
    have:=(ht.memTo hcs i' j hij (by omega)).size
    omega
   ·exact (if_neg hb).trans (if_neg hb).symm
  ·have hi1:j+1≤i':=by omega
   have hin:i'≤ops.size:=by have:=hd.h1';omega
   have hsi:=(ht.memTo hcs (j+1) i' hi1 hin).size
   have hq:∀ b,b<(S (j+1)).m.size→(S i').m.get b=m'.get b:=fun b hb =>
    (ht.quietTo hcs (j+1) i' hi1 hin (fun k q1 q2=>hd.h2 k (by omega) (by omega)) b hb).trans (hget1 b)
   have cases2:∀ b ib,cut ι' (S i').m.size b=some ib→((S j).m.size≤b∧b<(S (j+1)).m.size∧ι1 b=some ib∧w.heap.size≤ib.blk)∨cut ι (S i').m.size b=some ib:=fun b ib hb=>by
    obtain ⟨hb1,hb2⟩:=cut_some hb
    by_cases hn:(S j).m.size≤b∧b<(S (j+1)).m.size
    ·rw [hnew b hn.1 hn.2] at hb2
     refine .inl ⟨hn.1,hn.2,hb2,?_⟩
     rcases hext.back b ib hb2 with ⟨ib0,h,_⟩|h
     ·have:=(cut_some h).1;omega
     ·exact h
    ·rw [hold b hn] at hb2
     exact .inr (by rw [cut_lt hb1];exact hb2)
   refine ⟨fun b ib hb=>?_,fun b ib hb=>?_,fun b b' ib ib' hb hb' he=>?_,fun k hk=>?_⟩
   ·refine ⟨(cut_some hb).1,?_⟩
    rcases cases2 b ib hb with ⟨_,_,h,_⟩|h
    ·exact (hsim.dom b ib h).2
    ·exact Nat.lt_of_lt_of_le (hs.dom b ib h).2 hext.heap
   ·rcases cases2 b ib hb with ⟨_,hb2,h,_⟩|h
    ·rw [hq b hb2]
     exact (hsim.blk b ib h).mono (hle1 i' hi1 h2)
    ·rw [f5 _ (hs.dom b ib h).2]
     exact (hs.blk b ib h).mono (hleS _ _)
   ·rcases cases2 b ib hb with ⟨p1,p2,p3,p4⟩|p
    ·rcases cases2 b' ib' hb' with ⟨q1,q2,q3,q4⟩|q
     ·rcases hsim.inj b b' ib ib' p3 q3 he with h|⟨r1,r2⟩
      ·exact .inl h
      ·exact .inr ⟨by rw [ro_of_get (hq b p2)];exact r1,by rw [ro_of_get (hq b' q2)];exact r2⟩
     ·have:=(hs.dom b' ib' q).2;omega
    ·rcases cases2 b' ib' hb' with ⟨q1,q2,q3,q4⟩|q
     ·have:=(hs.dom b ib p).2;omega
     ·exact hs.inj b b' ib ib' p q he
   ·obtain ⟨ib,q1,q2,q3,q4,q5⟩:=hs.glob k hk
    obtain ⟨r1,r2⟩:=cut_some q1
    exact ⟨ib,by rw [cut_lt r1];exact holdS k ib r2,q2,q3,q4,q5⟩
 obtain ⟨v1,v0⟩:=slots_put (v':=v') hcs (Nat.le_refl jp) (Nat.le_trans hd.h1 hd.h1') ht hdr ho hd.lsz hunl hd.tsz hdn (fun x=>hleS x (S jn).m.gen) (fun d hdd=>by
  rw [htv d hdd,Nat.max_eq_left (by omega)]
  refine hvr.mono fun b ib hb=>?_
  have hbl:b<(S (j+1)).m.size:=by rw [hsz1];exact (hsim.dom b ib hb).1
  exact ⟨by rw [hgenN b hbl];exact Nat.le_refl _,ib,by rw [f3];exact hb,fun _=>rfl⟩) hd.v1 hd.v0
 refine ⟨ι',by simpa using hd.lsz,closed_set hd.cl hj' ho hall,hd.h1,hd.h1',hd.h2,?_,fun k hk htk=>listed_mono hj' (hd.h4 k hk htk),hsims,?_,?_,?_,v1,v0,?_,?_,?_,Nat.le_trans hd.heap hext.heap,
  fun c hc hf=>(f5 c (Nat.lt_of_lt_of_le hc hd.heap)).trans (hd.frame c hc hf),hext.tape.trans hd.tape,hext.os.trans hd.os,hext.output.trans hd.output⟩
 ·rcases hd.h3 with h|⟨h1,h2⟩
  ·exact .inl h
  ·refine .inr ⟨h1,?_⟩
   rw [listed_set hj',if_neg (by omega)]
   exact h2
 ·intro b ib hb
  by_cases hn:(S j).m.size≤b∧b<(S (j+1)).m.size
  ·exact .inr ⟨j,by rw [listed_set hj',if_pos rfl],hjp,hjn,hn.1,hn.2⟩
  ·rw [hold b hn] at hb
   rcases hd.dome b ib hb with h|⟨i,h1,h2⟩
   ·exact .inl h
   ·exact .inr ⟨i,listed_mono hj' h1,h2⟩
 ·cases hdd:o.dst<;>simp [Act.put,hd.tsz]
 ·cases hdd:o.dst<;>simp [Act.put,hd.tdef]
 ·exact hd.le.trans fun b ib hb=>⟨Nat.le_refl _,ib,holdS b ib hb,fun _=>rfl⟩
 ·intro b ib hb
  by_cases hn:(S j).m.size≤b∧b<(S (j+1)).m.size
  ·rw [hnew b hn.1 hn.2] at hb
   rcases hext.back b ib hb with ⟨ib0,h,_⟩|h
   ·have:=(cut_some h).1;omega
   ·exact .inr (Nat.le_trans hd.heap h)
  ·rw [hold b hn] at hb
   exact hd.back b ib hb
 ·intro b ib hb
  by_cases hn:(S j).m.size≤b∧b<(S (j+1)).m.size
  ·exact .inr (Nat.le_trans (ht.memTo hcs 0 j (Nat.zero_le _) (by omega)).size hn.1)
  ·rw [hold b hn] at hb
   exact hd.dom0 b ib hb
theorem nextBar (ops:Array Oper) (k:Nat) (hk:k≤ops.size):∃ jn,k≤jn∧jn≤ops.size∧(∀ i,k≤i→i<jn→isBar P ops i=false)∧(jn=ops.size∨isBar P ops jn=true):=by
 generalize hd:ops.size-k=d
 induction d generalizing k with
 |zero=>exact ⟨ops.size,hk,Nat.le_refl _,fun i h1 h2=>by omega,.inl rfl⟩
 |succ d ih =>
  cases hb:isBar P ops k with
  |true=>exact ⟨k,Nat.le_refl _,hk,fun i h1 h2=>by omega,.inr hb⟩
  |false =>
   obtain ⟨jn,h1,h2,h3,h4⟩:=ih (k+1) (by omega) (by omega)
   refine ⟨jn,by omega,h2,fun i q1 q2=>?_,h4⟩
   by_cases e:i=k
   ·subst e;exact hb
   ·exact h3 i (by omega) q2
theorem DI.bar {n:Nat} {ι ι0 ι1:Inj} {a:Act} {w w0 w':World} {listed:Array Bool} {jp j:Nat} {o:Oper} {v v':Value} {m':Mem} {y:Nat} (ht:Trace P call ops S) (hcs:CallStep call) (hdr:drawOk ops=true)
 (hd:DI ds P G n ops S ι0 w0 listed ι a w jp j) (ho:ops[j]?=some o) (hunl:listed.getD j false=false) (hall:∀ e∈o.after,Region.binds .any e=true→listed.getD e.on false=true)
 (hdn:∀ d,o.dst=some d→d<n) (hb0:∀ b ib,ι0 b=some ib→b<(S 0).m.size) (hbar:isBar P ops j=true) (hm':(S (j+1)).m=setLow m' y) (hy:y≤m'.low)
 (htv:∀ d,o.dst=some d→tget (S (j+1)).t d=v)
 (hext:Ext (cut ι (S j).m.size) (setLow (S j).m (S j).m.size) w ι1 m' w') (hsim:Sim P G ι1 m' w') (hvr:VRel ι1 m'.gen v v') :
 ∃ ι' jp' jn',DI ds P G n ops S ι0 w0 (listed.setIfInBounds j true) ι' (a.put o.dst v') w' jp' jn':=by
 have hjlt:j<ops.size:=(Array.getElem?_eq_some_iff.1 ho).1
 have hj':j<listed.size:=by rw [hd.lsz];exact hjlt
 have hsz1:(S (j+1)).m.size=m'.size:=by rw [hm'];rfl
 have hget1:∀ b,(S (j+1)).m.get b=m'.get b:=fun b=>by rw [hm'];rfl
 obtain ⟨hback,_⟩:=drawOk_spec hdr
 obtain ⟨htch,horder⟩:=isBar_spec hbar
 obtain ⟨jn,n1,n2,n3,n4⟩:=nextBar ops (j+1) (by omega)
 have hsj:(S (j+1)).m.size≤(S jn).m.size:=(ht.memTo hcs (j+1) jn n1 n2).size
 have hgetN:∀ b,b<(S (j+1)).m.size→(S jn).m.get b=m'.get b:=fun b hb=>(ht.quietTo hcs (j+1) jn n1 n2 (fun k h1 h2=>n3 k h1 h2) b hb).trans (hget1 b)
 have hdl:∀ b ib,ι1 b=some ib→b<(S (j+1)).m.size:=fun b ib hb=>by rw [hsz1];exact (hsim.dom b ib hb).1
 have hLow:(S ops.size).m.low≤m'.low:=by
  have h1:=(ht.memTo hcs (j+1) ops.size (by omega) (Nat.le_refl _)).low
  have h2:(S (j+1)).m.low=y:=by rw [hm'];rfl
  omega
 have hleX:∀ x,Le (cut ι x) (S j).m.gen (cut ι1 x) (S jn).m.gen:=fun x b ib hb=>by
  obtain ⟨h1,h2⟩:=cut_some hb
  have hbj:=hd.dom_lt ht hcs h2
  obtain ⟨q1,ib',q2,q3⟩:=hext.le b ib (by rw [cut_lt hbj];exact h2)
  have hg:(S jn).m.gen b=m'.gen b:=gen_of_get (hgetN b (hdl b ib' q2))
  exact ⟨by rw [hg];exact q1,ib',by rw [cut_lt h1];exact q2,fun e=>q3 (by rw [← hg];exact e)⟩
 obtain ⟨v1,v0⟩:=slots_put (v':=v') (jp':=j+1) hcs (by have:=hd.h1;omega) (by omega) ht hdr ho hd.lsz hunl hd.tsz hdn hleX (fun d hdd=>by
  rw [htv d hdd,Nat.max_self]
  refine hvr.mono fun b ib hb=>?_
  have hbl:=hdl b ib hb
  exact ⟨by rw [gen_of_get (hgetN b hbl)];exact Nat.le_refl _,ib,by rw [cut_lt hbl];exact hb,fun _=>rfl⟩) hd.v1 hd.v0
 refine ⟨ι1,j+1,jn,by simpa using hd.lsz,closed_set hd.cl hj' ho hall,n1,n2,n3,?_,?_,?_,fun b ib hb=>.inl (hdl b ib hb),?_,?_,v1,v0,?_,?_,?_,Nat.le_trans hd.heap hext.heap,?_,
  hext.tape.trans hd.tape,hext.os.trans hd.os,hext.output.trans hd.output⟩
 ·rcases n4 with h|h
  ·exact .inl h
  ·refine .inr ⟨h,?_⟩
   rw [listed_set hj',if_neg (by omega)]
   cases hl:listed.getD jn false with
   |false=>rfl
   |true =>
    obtain ⟨t1,t2⟩:=isBar_spec h
    have hbit:=(t2 j (by omega) htch).1 (by omega)
    obtain ⟨on,hon⟩:=getOp (ops:=ops) (i:=jn) (by
     rcases Nat.lt_or_ge jn ops.size with h|h
     ·exact h
     ·unfold isBar at *
      rename_i hbb
      rw [Array.getElem?_eq_none h] at hbb
      cases hbb)
    have:=closed_before hd.cl hback jn on j hon (hd.cl jn on hon hl) hbit
    rw [hunl] at this;cases this
 ·intro k hk htk
  by_cases e:k=j
  ·subst e;rw [listed_set hj',if_pos rfl]
  ·refine listed_mono hj' ?_
   exact closed_before hd.cl hback j o k ho hall ((horder k e htk).1 (by omega))
 ·intro i' h1 h2
  have hsi:=(ht.memTo hcs (j+1) i' h1 (by omega)).size
  have hq:∀ b,b<(setLow m' y).size→(S i').m.get b=(setLow m' y).get b:=fun b hb=>by
   have hb':b<(S (j+1)).m.size:=by rw [hsz1];exact hb
   exact (ht.quietTo hcs (j+1) i' h1 (by omega) (fun k q1 q2=>n3 k q1 (by omega)) b hb').trans (hget1 b)
  refine ((hsim.low y).extend (m2:=(S i').m) (by rw [← hm'];exact hsi) hq).congr fun b=>?_
  cases hib:ι1 b with
  |none =>
   unfold cut;split
   ·exact hib
   ·rfl
  |some ib=>rw [cut_lt (Nat.lt_of_lt_of_le (hdl b ib hib) hsi)];exact hib
 ·cases hdd:o.dst<;>simp [Act.put,hd.tsz]
 ·cases hdd:o.dst<;>simp [Act.put,hd.tdef]
 ·refine hd.le.trans fun b ib hb=>?_
  have hbj:=hd.dom_lt ht hcs hb
  obtain ⟨q1,ib',q2,q3⟩:=hext.le b ib (by rw [cut_lt hbj];exact hb)
  have hg:(S jn).m.gen b=m'.gen b:=gen_of_get (hgetN b (hdl b ib' q2))
  exact ⟨by rw [hg];exact q1,ib',q2,fun e=>q3 (by rw [← hg];exact e)⟩
 ·intro b ib' hb
  rcases hext.back b ib' hb with ⟨ib,h1,h2⟩|h
  ·rcases hd.back b ib (cut_some h1).2 with ⟨ib0,h3,h4⟩|h3
   ·exact .inl ⟨ib0,h3,h4.trans h2⟩
   ·exact .inr (h2▸h3)
  ·exact .inr (Nat.le_trans hd.heap h)
 ·intro b ib' hb
  rcases hext.dom b ib' hb with ⟨ib,h1⟩|h
  ·exact hd.dom0 b ib (cut_some h1).2
  ·exact .inr (Nat.le_trans (ht.memTo hcs 0 j (Nat.zero_le _) (by omega)).size h)
 ·intro c hc hf
  rw [hext.frame c (Nat.lt_of_lt_of_le hc hd.heap) ?_,hd.frame c hc hf]
  intro b ib hb he
  rcases hd.back b ib (cut_some hb).2 with ⟨ib0,h3,h4⟩|h3
  ·rcases hf b ib0 h3 (h4.trans he) with h5|h5
   ·refine .inl ?_
    show (S j).m.ro b=true
    rw [(ht.memTo hcs 0 j (Nat.zero_le _) (by omega)).ro' b (hb0 b ib0 h3)]
    exact h5
   ·exact .inr (Nat.lt_of_lt_of_le h5 hLow)
  ·omega
end Go.Am
set_option linter.unusedSimpArgs false
set_option linter.unusedVariables false
namespace Go.Am
variable {P:Program} {G:List Nat} {call:CallF} {ops:Array Oper} {S:Nat→St} {ds:List Deferred} {rf:Option Nat} {nn:Nat}
theorem base_blk {ρ:Operand→Value} {o:Oper} {m m':Mem} {v:Value} {x:Operand} {b:Nat} (hx:baseOp o.op=some x) (h:aval P call ρ o m=some (v,m')) (hv:blkV v=some b):blkV (ρ x)=some b:=by
 obtain ⟨dst,op,ty,pos,after,guard⟩:=o
 simp only at hx
 cases op<;>simp only [baseOp,reduceCtorEq,Option.some.injEq] at hx<;>subst hx<;>simp only [aval,aop] at h
 case move=>cases h;exact hv
 case assign=>cases h;exact hv
 case nilCheck y=>split at h<;>first|(rename_i e;rw [e];cases h;exact hv)|cases h
 case fieldAddr s y f =>
  repeat' split at h
  all_goals first
   |(cases h;rename_i e _ _ _ _ _;simp only [blkV] at hv ⊢;simp_all;done)
   |(cases h;simp_all [blkV];done)
   |cases h
 case indexAddr t y ix =>
  repeat' split at h
  all_goals first
   |(cases h;simp_all [blkV];done)
   |cases h
theorem appendCells_keep {m m':Mem} {e:TypeId} {size n b:Nat} {l:List Value} {s v:Value} (h:appendCells m e size l n s=some (v,m')) (hb:b<m.size) (hne:blkV s≠some b):m'.get b=m.get b:=by
 unfold appendCells at h
 split at h
 ·split at h
  ·cases h;rfl
  ·cases h;rw [Mem.get_alloc,if_neg (by omega)]
 ·split at h
  ·cases h;rfl
  ·cases h;rw [Mem.get_alloc,if_neg (by omega)]
 ·rename_i b0 off len g
  have hne':b0≠b:=fun e=>hne (by rw [e];rfl)
  split at h
  ·split at h
   ·split at h
    ·cases h;rw [Mem.get_put,if_neg hne']
    ·cases h
   ·cases h
  ·cases h
 ·cases h
theorem aappend_keep {aT:Array TypeId} {as:Array Value} {m m':Mem} {v s:Value} {b:Nat} (hs:as[0]?=some s) (h:aappend P aT as m=some (v,m')) (hb:b<m.size) (hne:blkV s≠some b):m'.get b=m.get b:=by
 unfold aappend at h
 split at h
 ·rename_i sT s' x xT h1 h2 h3 h4
  rw [hs] at h2
  cases h2
  repeat' split at h
  all_goals first
   |exact appendCells_keep h hb hne
   |cases h
 ·cases h
theorem aval_writes {ρ:Operand→Value} {o:Oper} {m m':Mem} {v:Value} {x:Operand} {b:Nat} (hx:wrOp o.op=some x) (h:aval P call ρ o m=some (v,m')) (hb:b<m.size) (hne:blkV (ρ x)≠some b):m'.get b=m.get b:=by
 obtain ⟨dst,op,ty,pos,after,guard⟩:=o
 simp only at hx
 cases op<;>simp only [wrOp,reduceCtorEq,Option.some.injEq] at hx
 case store t a y =>
  subst hx
  simp only [aval,aop] at h
  split at h
  ·rename_i ad had
   rw [Option.map_eq_some_iff] at h
   obtain ⟨m1,h1,he⟩:=h
   cases he
   have hne':ad.block≠b:=fun e=>hne (by rw [had,← e];rfl)
   unfold astore at h1
   repeat' split at h1
   all_goals first
    |(unfold storeRow at h1
      split at h1
      ·split at h1
       ·cases h1;rw [Mem.get_put,if_neg hne']
       ·cases h1
      ·cases h1)
    |cases h1
  ·cases h
 case call c =>
  obtain ⟨callee,args,aT⟩:=c
  cases callee<;>try cases hx
  rename_i bi
  cases bi<;>try cases hx
  have hx':args[0]?=some x:=hx
  simp only [aval,aop] at h
  exact aappend_keep (s:=ρ x) (by rw [Array.getElem?_map,hx'];rfl) h hb hne
theorem blkV_undef:blkV undef=none:=rfl
theorem noWrite_spec {t:Tmp} {k:Nat} (h:noWrite ops k (.tmp t)=true) (q:Nat) (o:Oper) (hq:k≤q) (ho:ops[q]?=some o):o.dst≠some t:=by
 unfold noWrite at h
 simp only [List.all_eq_true,List.mem_range] at h
 have:=h q (Array.getElem?_eq_some_iff.1 ho).1
 simp only [Bool.or_eq_true,decide_eq_true_eq,show ¬ q<k by omega,false_or,ho,Option.bind_some,bne_iff_ne,ne_eq] at this
 exact this
theorem ev_stable (ht:Trace P call ops S) {k i:Nat} {r:Operand} (h:noWrite ops k r=true) (hki:k≤i) (hi:i≤ops.size):ev (S i).t r=ev (S k).t r:=by
 cases r with
 |tmp t=>exact ht.tmps t k i hki hi fun q o h1 _ ho=>noWrite_spec h q o h1 ho
 |const v=>rfl
 |global g=>rfl
 |func f=>rfl
theorem Trace.root (ht:Trace P call ops S) (hdr:drawOk ops=true) {i:Nat} (hi:i≤ops.size):∀ (f q:Nat) (r r':Operand) (b:Nat),q≤ops.size→rootOf ops i f q r=some r'→blkV (ev (S q).t r)=some b→blkV (ev (S i).t r')=some b
 |0,_,_,_,_,_,h,_=>by cases h
 |f+1,q,r,r',b,hq,h,hb=>by
  unfold rootOf at h
  split at h
  ·rename_i hn
   cases h
   rw [ev_stable ht hn (Nat.min_le_left _ _) hi,← ev_stable ht hn (Nat.min_le_right i q) hq]
   exact hb
  ·split at h
   ·rename_i t _
    split at h
    ·rename_i k hk
     split at h
     ·rename_i hkq
      split at h
      ·rename_i x hx
       have hdk:(ops[k]?).bind (·.dst)=some t:=by
        have:=List.find?_some hk
        simpa using this
       cases hok:ops[k]? with
       |none=>rw [hok] at hdk;cases hdk
       |some o =>
        rw [hok] at hdk hx
        simp only [Option.bind_some] at hdk hx
        obtain ⟨_,hdist⟩:=drawOk_spec hdr
        have e1:tget (S q).t t=tget (S (k+1)).t t:=ht.tmps t (k+1) q hkq hq fun p op hp _ hop=>(hdist k o t hok hdk p op hop (by omega)).1
        have hb':blkV (tget (S (k+1)).t t)=some b:=by rw [← e1];exact hb
        have hkl:=(Array.getElem?_eq_some_iff.1 hok).1
        rcases dstep_cases (ht.step k o hok) with ⟨_,htt,_⟩|⟨_,v,m',hv,htt,_⟩
        ·exfalso
         rw [htt,hdk] at hb'
         simp only [tput] at hb'
         rw [tget_tset,if_pos rfl,blkV_undef] at hb'
         cases hb'
        ·rw [htt,hdk] at hb'
         simp only [tput] at hb'
         rw [tget_tset,if_pos rfl] at hb'
         exact Trace.root ht hdr hi f k x r' b (by omega) h (base_blk hx hv hb')
      ·cases h
     ·cases h
    ·cases h
   ·cases h
theorem Trace.keepLoad (ht:Trace P call ops S) (hcs:CallStep call) (hdr:drawOk ops=true) {i j:Nat} {oi oj:Oper} {a:Operand} {b:Nat} (hi:ops[i]?=some oi) (hj:ops[j]?=some oj) (hl:isLoadOp oj.op=true) (hop:ldOp oj.op=some a) (hne:j≠i)
 (hun:ordered ops i j=false) (had:blkV (ev (S j).t a)=some b) (hlt:b<(S i).m.size):(S (i+1)).m.get b=(S i).m.get b:=by
 have hil:=(Array.getElem?_eq_some_iff.1 hi).1
 have hjl:=(Array.getElem?_eq_some_iff.1 hj).1
 rcases dstep_cases (ht.step i oi hi) with ⟨_,_,x,hm,_⟩|⟨_,v,m',hv,_,hm,hor⟩
 ·rw [hm];rfl
 ·rw [hm]
  show m'.get b=(S i).m.get b
  rcases hor with h|h|⟨h1,h2⟩
  ·have:=barrier_load h hj hl hne
   rw [hun] at this;cases this
  ·exact (aval_step hcs hv).keep _ hlt (Nat.lt_of_lt_of_le hlt h)
  ·unfold freeAt at h2
   rw [hi] at h2
   simp only [Option.bind_some] at h2
   split at h2
   ·rename_i w hw
    rw [List.all_eq_true] at h2
    have hmem':rootOf ops i 4 j a∈freeRoots ops i:=by
     unfold freeRoots
     rw [List.mem_filterMap]
     refine ⟨j,List.mem_range.2 hjl,?_⟩
     rw [hj]
     simp only [Option.bind_some,hop]
     rw [if_neg (by simp [hne,hun])]
    have h3:=h2 _ hmem'
    cases hr:rootOf ops i 4 j a with
    |none=>rw [hr] at h3;cases h3
    |some r =>
     rw [hr] at h3
     simp only at h3
     have hb:blkV (ev (S i).t r)=some b:=ht.root hdr (by omega) 4 j a r b (by omega) hr had
     rw [hb] at h3
     refine aval_writes (m:=setLow (S i).m (S i).m.size) hw hv hlt fun he=>?_
     rw [he] at h3
     simp [blkNe] at h3
   ·cases h2
theorem VRel.blk {ι:Inj} {g:Nat→Nat} {u u':Value} {b:Nat} (h:VRel ι g u u') (hb:blkV u=some b):∃ ib,ι b=some ib:=by
 cases h<;>first|(cases hb;done)|skip
 case ptr har=>cases hb;obtain ⟨ib,h1,_⟩:=har;exact ⟨ib,h1⟩
 case sl hsr=>cases hb;obtain ⟨ib,h1,_⟩:=hsr;exact ⟨ib,h1⟩
theorem DI.load {n:Nat} {ι ι0:Inj} {a:Act} {w w0:World} {listed:Array Bool} {jp jn j:Nat} {o:Oper} {v:Value} {m':Mem} (ht:Trace P call ops S) (hcs:CallStep call) (hdr:drawOk ops=true)
 (hd:DI ds P G n ops S ι0 w0 listed ι a w jp jn) (ho:ops[j]?=some o) (hunl:listed.getD j false=false) (hall:∀ e∈o.after,Region.binds .any e=true→listed.getD e.on false=true)
 (hl:isLoadOp o.op=true) (hv:aval P call (ev (S j).t) o (setLow (S j).m (S j).m.size)=some (v,m')) (hρ:∀ x∈o.op.operands,VRel (cut ι (S (max j jp)).m.size) (S jn).m.gen (ev (S j).t x) (a.eval x)) :
 ∃ v',(execOp a.eval o).run P w=.ok (.value v') w∧VRel (cut ι (S (max (j+1) jp)).m.size) (S jn).m.gen v v':=by
 have hjlt:j<ops.size:=(Array.getElem?_eq_some_iff.1 ho).1
 have hpn:=hd.h1
 have hno:=hd.h1'
 obtain ⟨hback,_⟩:=drawOk_spec hdr
 obtain ⟨_,x,hxo,hxb,hrd⟩:=aval_reader hl hv
 have hxin:x∈o.op.operands:=by
  rcases loadOp hl with ⟨t,y,hop⟩|⟨t,y,lo,hi,hop⟩<;>rw [hop] at hxo ⊢<;>cases hxo<;>simp [Op.operands]
 have notBar:isBar P ops j=false:=by unfold isBar;rw [ho];simp [hl]
 obtain ⟨i',hi'⟩:∃ i',i'=max jp (min j jn):=⟨_,rfl⟩
 have dom:∀ b ib,cut ι (S (max j jp)).m.size b=some ib→b<(S i').m.size∧ι b=some ib:=fun b ib hb=>by
  obtain ⟨q1,q2⟩:=cut_some hb
  refine ⟨?_,q2⟩
  have q3:=hd.dom_lt ht hcs q2
  rcases Nat.lt_or_ge jn j with h|h
  ·rw [show i'=jn by omega];exact q3
  ·rw [show i'=max j jp by omega];exact q1
 have key:∀ b,blkV (ev (S j).t x)=some b→b<(S i').m.size∧(S i').m.get b=(S j).m.get b:=fun b hbv=>by
  obtain ⟨ib,hc1⟩:=(hρ x hxin).blk hbv
  obtain ⟨hbi,hb2⟩:=dom b ib hc1
  have hbn:=hd.dom_lt ht hcs hb2
  have hbj:b<(S j).m.size:=hxb b hbv
  refine ⟨hbi,?_⟩
  rcases Nat.lt_or_ge j jp with hlt|hge
  ·have e:i'=jp:=by omega
   rw [e]
   refine leInd (p:=fun k=>k≤jp→(S k).m.get b=(S j).m.get b) (fun _=>rfl) (fun k hk ih hkp=>?_) jp (by omega) (Nat.le_refl _)
   rw [← ih (by omega)]
   have hbk:b<(S k).m.size:=Nat.lt_of_lt_of_le hbj (ht.memTo hcs j k hk (by omega)).size
   cases hb:isBar P ops k with
   |false=>exact ht.quiet hcs (by omega) hb _ hbk
   |true =>
    obtain ⟨ok,hok⟩:=getOp (ops:=ops) (i:=k) (by omega)
    have hne:j≠k:=fun e=>by subst e;rw [notBar] at hb;cases hb
    refine ht.keepLoad hcs hdr hok ho hl hxo hne ?_ hbv hbk
    cases hord:ordered ops k j with
    |false=>rfl
    |true =>
     exfalso
     unfold ordered at hord
     rw [if_pos (by omega)] at hord
     have hlk:=hd.h4 k (by omega) (isBar_spec hb).1
     have:=closed_before hd.cl hback k ok j hok (hd.cl k ok hok hlk) hord
     rw [hunl] at this;cases this
  ·rcases Nat.lt_or_ge jn j with hlt|hge2
   ·have e:i'=jn:=by omega
    rw [e]
    have hun:isBar P ops jn=true∧listed.getD jn false=false:=by
     rcases hd.h3 with h|h
     ·omega
     ·exact h
    have hk:(S j).m.get b=(S jn).m.get b:=by
     refine leInd (p:=fun k=>k≤j→(S k).m.get b=(S jn).m.get b) (fun _=>rfl) (fun k hk ih hkp=>?_) j (by omega) (Nat.le_refl _)
     rw [← ih (by omega)]
     have hbk:b<(S k).m.size:=Nat.lt_of_lt_of_le hbn (ht.memTo hcs jn k hk (by omega)).size
     cases hb:isBar P ops k with
     |false=>exact ht.quiet hcs (by omega) hb _ hbk
     |true =>
      obtain ⟨ok,hok⟩:=getOp (ops:=ops) (i:=k) (by omega)
      have hulk:listed.getD k false=false:=by
       by_cases e:k=jn
       ·rw [e];exact hun.2
       ·cases hl:listed.getD k false with
        |false=>rfl
        |true =>
         have hbit:=((isBar_spec hun.1).2 k e (isBar_spec hb).1).2 (by omega)
         have:=closed_before hd.cl hback k ok jn hok (hd.cl k ok hok hl) hbit
         rw [hun.2] at this;cases this
      refine ht.keepLoad hcs hdr hok ho hl hxo (by omega) ?_ hbv hbk
      cases hord:ordered ops k j with
      |false=>rfl
      |true =>
       exfalso
       unfold ordered at hord
       rw [if_neg (by omega)] at hord
       have:=closed_before hd.cl hback j o k ho hall hord
       rw [hulk] at this;cases this
    exact hk.symm
   ·have e:i'=j:=by omega
    rw [e]
 have hgen:∀ b,b<(S i').m.size→(S jn).m.gen b=(S i').m.gen b:=fun b hb =>
  gen_of_get (ht.quietTo hcs i' jn (by omega) hno (fun k h1 h2=>hd.h2 k (by omega) h2) b hb)
 have hal':aval P call (ev (S j).t) o (S i').m=some (v,(S i').m):=hrd _ key
 have hs:=hd.sims i' (by omega) (by omega)
 have hρ':∀ y∈o.op.operands,VRel (cut ι (S i').m.size) (S i').m.gen (ev (S j).t y) (a.eval y):=fun y hy=>(hρ y hy).mono fun b ib hb=>by
  obtain ⟨q1,q2⟩:=dom b ib hb
  exact ⟨by rw [hgen b q1];exact Nat.le_refl _,ib,by rw [cut_lt q1];exact q2,fun _=>rfl⟩
 have run:∃ v',(execOp a.eval o).run P w=.ok (.value v') w∧VRel (cut ι (S i').m.size) (S i').m.gen v v':=by
  obtain ⟨dst,op,ty,pos,after,guard⟩:=o
  rcases loadOp hl with ⟨t,y,hop⟩|⟨t,y,lo,hi,hop⟩
  ·simp only at hop
   subst hop
   simp only [aval,aop] at hal'
   split at hal'
   ·rename_i ad had
    rw [Option.map_eq_some_iff] at hal'
    obtain ⟨u,hu,he⟩:=hal'
    cases he
    have hy:=hρ' y (by simp [Op.operands])
    rw [had] at hy
    have hsh:∃ a',a.eval y=.pointer (some a')∧ARel (cut ι (S i').m.size) (S i').m.gen ad a':=by generalize a.eval y=u at hy;cases hy;exact ⟨_,rfl,by assumption⟩
    obtain ⟨a',e1,har⟩:=hsh
    obtain ⟨v',hr,hvr⟩:=aload_sound hs har hu
    exact ⟨v',run_v (s:=Instr.loadAt t (a.eval y)) (by simp only [Instr.loadAt,e1,Instr.sureAddr,Sem.run_bind,Sem.run_pure,Result.andThen_ok];exact hr),hvr⟩
   ·cases hal'
  ·simp only at hop
   subst hop
   simp only [aval,aop,Option.map_none] at hal'
   rw [Option.map_eq_some_iff] at hal'
   obtain ⟨u,hu,he⟩:=hal'
   cases he
   obtain ⟨v',hr,hvr⟩:=slice_sound hs (hρ' y (by simp [Op.operands])) (ORel.map (o:=lo) fun z hz=>hρ' z (by subst hz;simp [Op.operands])) (ORel.map (o:=hi) fun z hz=>hρ' z (by subst hz;simp [Op.operands]))
    (mx':=none) (.inl ⟨rfl,rfl⟩) hu
   exact ⟨v',run_v hr,hvr⟩
 obtain ⟨v',hr,hvr⟩:=run
 refine ⟨v',hr,hvr.mono fun b ib0 hb=>?_⟩
 obtain ⟨q1,q2⟩:=cut_some hb
 have hsz:=(ht.memTo hcs i' (max (j+1) jp) (by omega) (by omega)).size
 exact ⟨by rw [hgen b q1];exact Nat.le_refl _,ib0,by rw [cut_lt (by omega)];exact q2,fun _=>rfl⟩
theorem semAt_of {n:Nat} {o:Oper} (h:operOk G n o=true) {ro:Option Nat} {ρ:Operand→Value}:o.semAt ro ρ=execOp ρ o:=Oper.semAt_eq _ _ _ fun c hc=>by
 unfold operOk at h;rw [hc] at h;simp at h
theorem draw_step {n:Nat} {ι ι0:Inj} {a:Act} {w w0:World} {listed:Array Bool} {jp jn j:Nat} (hc:CallSound P G call) (hcs:CallStep call) (ht:Trace P call ops S) (hdr:drawOk ops=true)
 (hops:∀ (i:Nat) (o:Oper),ops[i]?=some o→operOk G n o=true) (hG:∀ k,k∈G→k<(S 0).m.size) (hb0:∀ b ib,ι0 b=some ib→b<(S 0).m.size)
 (hd:DI ds P G n ops S ι0 w0 listed ι a w jp jn) (hr:j∈Region.ready .any ops listed) {K:Act→World→Prop} {Q:Exit→Act→World→Prop}
 (hK:∀ ι' a' w' jp' jn',DI ds P G n ops S ι0 w0 (listed.setIfInBounds j true) ι' a' w' jp' jn'→K a' w'):wpOpIn (WF rf) nn P ops Q j K a w:=by
 obtain ⟨hun,o,ho,hall⟩:=mem_ready.1 hr
 have hjlt:j<ops.size:=(Array.getElem?_eq_some_iff.1 ho).1
 have hunl:listed.getD j false=false:=by
  have hlt:j<listed.size:=by rw [hd.lsz];exact hjlt
  simp [hlt] at hun ⊢
  exact hun
 obtain ⟨hop,hdn⟩:=operOk_spec (hops j o ho)
 have hop':=hops j o ho
 obtain ⟨hback,_⟩:=drawOk_spec hdr
 have place:touches P ops j=true→jp≤j∧(isBar P ops j=true→j=jn)∧(isBar P ops j=false→j<jn):=fun htch=>by
  have h1:jp≤j:=by
   rcases Nat.lt_or_ge j jp with h|h
   ·have:=hd.h4 j h htch
    rw [hunl] at this;cases this
   ·exact h
  have h2:j≤jn:=by
   rcases hd.h3 with h|⟨q1,q2⟩
   ·omega
   ·rcases Nat.lt_or_ge jn j with h|h
    ·obtain ⟨_,t2⟩:=isBar_spec q1
     have hbit:=(t2 j (by omega) htch).2 h
     have:=closed_before hd.cl hback j o jn ho hall hbit
     rw [q2] at this;cases this
    ·exact h
  refine ⟨h1,fun hb=>?_,fun hb=>?_⟩
  ·rcases Nat.lt_or_ge j jn with h|h
   ·have:=hd.h2 j h1 h
    rw [hb] at this;cases this
   ·omega
  ·rcases Nat.lt_or_ge j jn with h|h
   ·exact h
   ·have:j=jn:=by omega
    subst this
    rcases hd.h3 with h|⟨q1,_⟩
    ·omega
    ·rw [hb] at q1;cases q1
 have barTouch:isBar P ops j=true→touches P ops j=true:=fun h=>(isBar_spec h).1
 unfold wpOpIn
 simp only [ho]
 rw [wanted_at ht hcs hdr hd ho hunl hall]
 rcases dstep_cases (ht.step j o ho) with ⟨hw,htt,x,hm,hx1,hx2⟩|⟨hw,v,m',hv,htt,hm,hor⟩
 ·rw [hw]
  simp only [Bool.false_eq_true,if_false]
  refine ⟨fun _ _=>trivial,?_⟩
  have htv:∀ d,o.dst=some d→tget (S (j+1)).t d=undef:=fun d hdd=>by
   rw [htt,hdd];simp only [tput];rw [tget_tset,if_pos rfl]
  cases hb:isBar P ops j with
  |true =>
   have hj:=(place (barTouch hb)).2.1 hb
   subst hj
   have hs:=(hd.sims j hd.h1 (Nat.le_refl _)).low (S j).m.size
   obtain ⟨ι',jp',jn',hd'⟩:=DI.bar (v:=undef) (v':=undef) (m':=setLow (S j).m (S j).m.size) (y:=x) ht hcs hdr hd ho hunl hall hdn hb0 hb (by rw [hm];rfl) hx2 htv (Ext.refl _ _ _) hs VRel.undef
   exact hK _ _ _ _ _ hd'
  |false =>
   exact hK _ _ _ _ _ (DI.still hcs ht hdr hd ho hunl hall hdn hb fun d hdd=>by rw [htv d hdd];exact VRel.undef)
 ·rw [hw]
  simp only [if_true]
  have htv:∀ d,o.dst=some d→tget (S (j+1)).t d=v:=fun d hdd=>by
   rw [htt,hdd];simp only [tput];rw [tget_tset,if_pos rfl]
  have hρ:=operands_rel ht hcs hdr hd hG ho hunl hall hop
  by_cases hq:quietKind P o.op=true
  ·
   have hv':aop P (ev (S j).t) o (setLow (S j).m (S j).m.size)=some (v,m'):=by
    unfold aval at hv
    split at hv
    ·rename_i f args aT hopp
     rw [hopp] at hq
     simp [quietKind] at hq
    ·exact hv
   obtain ⟨v',hrun,hvr⟩:=quiet_sound hq hρ hv'
   have hnt:touches P ops j=false:=by unfold touches;rw [ho];simp [hq]
   have hnb:isBar P ops j=false:=by
    cases hb:isBar P ops j with
    |false=>rfl
    |true=>have:=barTouch hb;rw [hnt] at this;cases this
   unfold Oper.wpIn
   rw [semAt_of hop',hrun w]
   refine ⟨fun _ _=>trivial,?_⟩
   refine hK _ _ _ _ _ (DI.still hcs ht hdr hd ho hunl hall hdn hnb fun d hdd=>?_)
   rw [htv d hdd]
   exact hvr.mono (Le.cut (ht.memTo hcs (max j jp) (max (j+1) jp) (by omega) (by have:=hd.h1;have:=hd.h1';omega)).size)
  by_cases hl:isLoadOp o.op=true
  ·obtain ⟨v',hrun,hvr⟩:=DI.load ht hcs hdr hd ho hunl hall hl hv hρ
   have hnb:isBar P ops j=false:=by unfold isBar;rw [ho];simp [hl]
   unfold Oper.wpIn
   rw [semAt_of hop',hrun]
   refine ⟨fun _ _=>trivial,?_⟩
   refine hK _ _ _ _ _ (DI.still hcs ht hdr hd ho hunl hall hdn hnb fun d hdd=>?_)
   rw [htv d hdd]
   exact hvr
  ·have htch:touches P ops j=true:=by unfold touches;rw [ho];simp [hq,hl]
   obtain ⟨hjp,hbarj,hnbj⟩:=place htch
   have hjn:j≤jn:=by
    cases hb:isBar P ops j with
    |true=>have:=hbarj hb;omega
    |false=>have:=hnbj hb;omega
   have hs:=(hd.sims j hjp hjn).low (S j).m.size
   rw [Nat.max_eq_left hjp] at hρ
   have hρ':∀ x∈o.op.operands,VRel (cut ι (S j).m.size) (setLow (S j).m (S j).m.size).gen (ev (S j).t x) (a.eval x):=fun x hx=>(hρ x hx).mono fun b ib hb=>by
    have hbl:=(cut_some hb).1
    have:=ht.quietTo hcs j jn hjn hd.h1' (fun k h1 h2=>hd.h2 k (by omega) h2) b hbl
    refine ⟨?_,ib,hb,fun _=>rfl⟩
    show (S jn).m.gen b≤(S j).m.gen b
    rw [gen_of_get this];exact Nat.le_refl _
   refine aval_sound hc hs hρ' hv fun v' w' hp=>?_
   obtain ⟨ι1,hext,hsim,hvr⟩:=hp
   cases hb:isBar P ops j with
   |true =>
    have hj:=hbarj hb
    subst hj
    obtain ⟨ι',jp',jn',hd'⟩:=DI.bar (v:=v) (v':=v') (m':=m') ht hcs hdr hd ho hunl hall hdn hb0 hb hm (Nat.min_le_right _ _) htv hext hsim hvr
    exact hK _ _ _ _ _ hd'
   |false =>
    have hlow:(S j).m.size≤m'.low:=by
     rcases hor with h|h|⟨h,_⟩
     ·exfalso
      unfold isBar at hb
      rw [ho] at hb
      simp [hq,hl,h] at hb
     ·exact h
     ·exfalso
      unfold isBar at hb
      rw [ho] at hb
      simp [hq,hl,h] at hb
    obtain ⟨ι',hd'⟩:=DI.quiet (v:=v) (v':=v') ht hcs hdr hd ho hunl hall hdn hjp (hnbj hb) hm hlow (aval_step hcs hv) htv hext hsim hvr
    exact hK _ _ _ _ _ hd'
def unl (ops:Array Oper) (listed:Array Bool):Nat:=((List.range ops.size).filter fun i=>listed.getD i false==false).length
theorem unl_set {listed:Array Bool} {j:Nat} (hsz:listed.size=ops.size) (hj:j<ops.size) (hu:listed.getD j false=false):unl ops (listed.setIfInBounds j true)+1=unl ops listed:=by
 have hj':j<listed.size:=by omega
 have key:∀ (l:List Nat),l.Nodup→j∈l→(l.filter fun i=>(listed.setIfInBounds j true).getD i false==false).length+1=(l.filter fun i=>listed.getD i false==false).length:=by
  intro l
  induction l with
  |nil=>intro _ h;cases h
  |cons x l ih =>
   intro hn hm
   rw [List.nodup_cons] at hn
   by_cases e:x=j
   ·subst e
    have e1:l.filter (fun i=>(listed.setIfInBounds x true).getD i false==false)=l.filter (fun i=>listed.getD i false==false):=by
     apply List.filter_congr
     intro i hi
     rw [listed_set hj',if_neg (fun e=>by subst e;exact hn.1 hi)]
    rw [List.filter_cons,List.filter_cons,listed_set hj',if_pos rfl,hu,e1]
    simp
   ·have hm':j∈l:=by
     rcases List.mem_cons.1 hm with h|h
     ·exact absurd h.symm e
     ·exact h
    have:=ih hn.2 hm'
    rw [List.filter_cons,List.filter_cons,listed_set hj',if_neg e]
    split
    ·simp only [List.length_cons];omega
    ·omega
 exact key _ List.nodup_range (List.mem_range.2 hj)
theorem all_listed_of_ready {listed:Array Bool} (hsz:listed.size=ops.size) (hback:∀ (i:Nat) (o:Oper),ops[i]?=some o→∀ e∈o.after,Region.binds .any e=true→e.on<i) (h:Region.ready .any ops listed=[]) :
 ∀ i,i<ops.size→listed.getD i false=true:=by
 intro i
 induction i using Nat.strongRecOn with
 |_ i ih =>
  intro hi
  cases hl:listed.getD i false with
  |true=>rfl
  |false =>
   exfalso
   obtain ⟨o,ho⟩:=getOp hi
   have hil:i<listed.size:=by omega
   have:i∈Region.ready .any ops listed:=mem_ready.2 ⟨by simp [hil] at hl ⊢;exact hl,o,ho,fun e he hb=>by
    have hlt:=hback i o ho e he hb
    exact ih e.on hlt (by omega)⟩
   rw [h] at this
   cases this
theorem unl_zero {listed:Array Bool} (h:unl ops listed=0):∀ i,i<ops.size→listed.getD i false=true:=by
 intro i hi
 unfold unl at h
 have h0:=List.length_eq_zero_iff.1 h
 cases hl:listed.getD i false with
 |true=>rfl
 |false =>
  have:i∈(List.range ops.size).filter fun i=>listed.getD i false==false:=List.mem_filter.2 ⟨List.mem_range.2 hi,by rw [hl];rfl⟩
  rw [h0] at this
  cases this
theorem DI.done {n:Nat} {ι ι0:Inj} {a:Act} {w w0:World} {listed:Array Bool} {jp jn:Nat} (hcs:CallStep call) (ht:Trace P call ops S) (hd:DI ds P G n ops S ι0 w0 listed ι a w jp jn)
 (hall:∀ i,i<ops.size→listed.getD i false=true):Reach P G ds n ι0 (S 0) w0 (S ops.size) a w:=by
 have hjn:jn=ops.size:=by
  rcases hd.h3 with h|⟨h1,h2⟩
  ·exact h
  ·rcases Nat.lt_or_ge jn ops.size with h|h
   ·rw [hall jn h] at h2;cases h2
   ·have:=hd.h1';omega
 subst hjn
 have hm:=ht.memTo hcs 0 ops.size (Nat.zero_le _) (Nat.le_refl _)
 refine ⟨ι,⟨hm.size,hm.low,hm.keep,hm.ro,hm.ro',hd.le,hd.back,hd.dom0,hd.heap,hd.frame,hd.tape,hd.os,hd.output⟩,?_,hd.tsz,hd.tdef,fun t=>?_⟩
 ·refine (hd.sims ops.size hd.h1 (Nat.le_refl _)).congr fun b=>?_
  cases hib:ι b with
  |none =>
   unfold cut;split
   ·exact hib.symm
   ·rfl
  |some ib=>rw [cut_lt (hd.dom_lt ht hcs hib)];exact hib.symm
 ·by_cases hw:∃ (i:Nat) (oi:Oper),ops[i]?=some oi∧oi.dst=some t
  ·obtain ⟨i,oi,hi,hdi⟩:=hw
   exact (hd.v1 i oi t hi hdi (hall i (Array.getElem?_eq_some_iff.1 hi).1)).mono Le.uncut
  ·have h0:=hd.v0 t fun i oi hi hdi=>absurd ⟨i,oi,hi,hdi⟩ hw
   have e1:tget (S ops.size).t t=tget (S 0).t t:=ht.tmps t 0 ops.size (Nat.zero_le _) (Nat.le_refl _) fun k ok _ _ hok hdk=>hw ⟨k,ok,hok,hdk⟩
   rw [e1]
   exact h0.mono Le.uncut
theorem draw_any {n:Nat} {ι0:Inj} {w0:World} (hc:CallSound P G call) (hcs:CallStep call) (ht:Trace P call ops S) (hdr:drawOk ops=true)
 (hops:∀ (i:Nat) (o:Oper),ops[i]?=some o→operOk G n o=true) (hG:∀ k,k∈G→k<(S 0).m.size) (hb0:∀ b ib,ι0 b=some ib→b<(S 0).m.size) {Q:Exit→Act→World→Prop}
 (hQ:∀ a' w',Reach P G ds n ι0 (S 0) w0 (S ops.size) a' w'→Q .normal a' w'):∀ (fuel:Nat) (listed:Array Bool) (ι:Inj) (a:Act) (w:World) (jp jn:Nat),
 DI ds P G n ops S ι0 w0 listed ι a w jp jn→unl ops listed=fuel→wpAnyIn (WF rf) nn P .any ops Q fuel listed a w:=by
 obtain ⟨hback,_⟩:=drawOk_spec hdr
 intro fuel
 induction fuel with
 |zero =>
  intro listed ι a w jp jn hd hu
  have hall:=unl_zero hu
  refine ⟨?_,hQ a w (hd.done hcs ht hall)⟩
  rw [List.eq_nil_iff_forall_not_mem]
  intro j hj
  obtain ⟨h1,o,ho,_⟩:=mem_ready.1 hj
  have hjlt:=(Array.getElem?_eq_some_iff.1 ho).1
  have h2:=hall j hjlt
  have hjl:j<listed.size:=by rw [hd.lsz];exact hjlt
  simp [hjl] at h1 h2
  rw [h1] at h2;cases h2
 |succ fuel ih =>
  intro listed ι a w jp jn hd hu
  refine ⟨fun hr=>hQ a w (hd.done hcs ht (all_listed_of_ready hd.lsz hback hr)),fun j hj=>?_⟩
  refine draw_step hc hcs ht hdr hops hG hb0 hd hj fun ι' a' w' jp' jn' hd'=>ih _ ι' a' w' jp' jn' hd' ?_
  obtain ⟨h1,o,ho,_⟩:=mem_ready.1 hj
  have hjlt:=(Array.getElem?_eq_some_iff.1 ho).1
  have hjl:j<listed.size:=by rw [hd.lsz];exact hjlt
  have hunl:listed.getD j false=false:=by simp [hjl] at h1 ⊢;exact h1
  have:=unl_set (ops:=ops) hd.lsz hjlt hunl
  omega
theorem draw_sound (hc:CallSound P G call) (hcs:CallStep call) (hmix:P.follows .mixedOrders=true):DrawSound P G call:=by
 intro ds rf nn n id ops s s' ι a w Q hok hdr h hst hq
 obtain ⟨S,e0,eN,htr⟩:=dsteps_trace ops.toList 0 s s' h
 simp only [Nat.zero_add] at eN htr
 have hlen:ops.toList.length=ops.size:=by simp
 rw [hlen] at eN
 subst e0;subst eN
 have ht:Trace P call ops S:=⟨fun i o ho=>htr i o (by simpa using ho)⟩
 have hops:∀ (i:Nat) (o:Oper),ops[i]?=some o→operOk G n o=true:=fun i o ho=>hok o (by
  have:=Array.mem_of_getElem? ho
  simpa using this)
 have hG:∀ k,k∈G→k<(S 0).m.size:=fun k hk=>by
  obtain ⟨ib,h1,_⟩:=hst.1.glob k hk
  exact (hst.1.dom k ib h1).1
 have hb0:∀ b ib,ι b=some ib→b<(S 0).m.size:=fun b ib hb=>(hst.1.dom b ib hb).1
 refine wpIn_region_any hmix ?_
 have hnone:∀ i,(Array.replicate ops.size false).getD i false=false:=fun i=>by
  by_cases hi:i<ops.size<;>simp [hi]
 obtain ⟨jn,n1,n2,n3,n4⟩:=nextBar ops 0 (Nat.zero_le _)
 have hq0:∀ i',i'≤jn→∀ b,b<(S 0).m.size→(S i').m.get b=(S 0).m.get b:=fun i' h1=>ht.quietTo hcs 0 i' (Nat.zero_le _) (by omega) (fun k _ h2=>n3 k (Nat.zero_le _) (by omega))
 have hle:∀ x,Le (cut ι x) (S 0).m.gen (cut ι x) (S jn).m.gen:=fun x b ib hb=>by
  have:=hq0 jn (Nat.le_refl _) b (hb0 b ib (cut_some hb).2)
  exact ⟨by rw [gen_of_get this];exact Nat.le_refl _,ib,hb,fun _=>rfl⟩
 refine draw_any (ds:=ds) (S:=S) (ι0:=ι) (w0:={ w with drawn:=w.drawn+1 }) hc hcs ht hdr hops hG hb0 (fun a' w' hr=>hq a' w' ?_) ops.size _ ι a { w with drawn:=w.drawn+1 } 0 jn ?_ ?_
 ·obtain ⟨ι',h1,h2⟩:=hr
  exact ⟨ι',⟨h1.size,h1.low,h1.keep,h1.ro,h1.ro',h1.le,h1.back,h1.dom,h1.heap,h1.frame,h1.tape,h1.os,h1.output⟩,h2⟩
 ·refine ⟨by simp,(fun i o _ hl=>by rw [hnone] at hl;cases hl),Nat.zero_le _,n2,fun k _ h2=>n3 k (Nat.zero_le _) h2,?_,fun k hk=>by omega,fun i' _ h2=>?_,fun b ib hb=>.inl (hb0 b ib hb),hst.2.size,hst.2.defers,
   (fun i o t _ _ hl=>by rw [hnone] at hl;cases hl),fun t _=>?_,fun b ib hb=>?_,fun b ib hb=>.inl ⟨ib,hb,rfl⟩,fun b ib hb=>.inl ⟨ib,hb⟩,Nat.le_refl _,fun _ _ _=>rfl,rfl,rfl,rfl⟩
  ·rcases n4 with h|h
   ·exact .inl h
   ·exact .inr ⟨h,hnone jn⟩
  ·have hsz:=(ht.memTo hcs 0 i' (Nat.zero_le _) (by omega)).size
   refine ((hst.1.drawn (w.drawn+1)).extend hsz (hq0 i' h2)).congr fun b=>?_
   cases hib:ι b with
   |none =>
    unfold cut;split
    ·exact hib
    ·rfl
   |some ib=>rw [cut_lt (Nat.lt_of_lt_of_le (hb0 b ib hib) hsz)];exact hib
  ·refine (hst.2.val t).mono fun b ib hb=>?_
   have hbl:=hb0 b ib hb
   have hc:cut ι (S 0).m.size b=some ib:=by rw [cut_lt hbl];exact hb
   obtain ⟨q1,ib',q2,q3⟩:=hle (S 0).m.size b ib hc
   exact ⟨q1,ib',q2,q3⟩
  ·have:=hq0 jn (Nat.le_refl _) b (hb0 b ib hb)
   exact ⟨by rw [gen_of_get this];exact Nat.le_refl _,ib,hb,fun _=>rfl⟩
 ·unfold unl
  rw [List.filter_eq_self.2 (fun i _=>by rw [hnone];rfl)]
  simp
end Go.Am
