/-
  Texts of a proof, merged (AmC). Conditions: in each statement.
-/
import Derived.OrdersIn
import Derived.Test.YtnjkoebfgcbbdaaGreatDoorKCb
set_option linter.unusedSimpArgs false
set_option linter.unusedVariables false
set_option linter.unusedSectionVars false
set_option maxRecDepth 100000
set_option maxHeartbeats 8000000
abbrev ax:=@Nat.lt_or_ge
abbrev cx:=@List.mem_append_left
abbrev df:=@Classical.not_forall
abbrev di:=@List.filter_cons
abbrev ew:=@Nat.lt_trichotomy
abbrev eJ:=@Bool.and_eq_true
abbrev fI:=@List.filter_congr
abbrev gg:=@Option.isSome_iff_exists
abbrev gh:=@List.nodup_range
abbrev gC:=@Array.mem_of_getElem?
abbrev gH:=@Bool.or_eq_true_iff
abbrev gL:=@List.filter_eq_self
namespace Go.Am
section
variable {P:Program} {G:List Nat} {ds:List Deferred} {rf:Option Nat} {nn:Nat}
structure AO (m m':Mem):Prop where
 size:m.size≤m'.size
 low:m'.low≤m.low
 keep:∀ b,b<m.size→b<m'.low→m'.get b=m.get b
 ro:∀ b,b<m.size→m.ro b=true→m'.get b=m.get b
 ro':∀ b,b<m.size→m'.ro b=m.ro b
theorem AO.refl (m:Mem):AO m m:=⟨ab _,ab _,fun _ _ _=>rfl,fun _ _ _=>rfl,fun _ _=>rfl⟩
theorem AO.trans {m m' m'':Mem} (h:AO m m') (k:AO m' m''):AO m m'':=by
 refine ⟨an h.size k.size,an k.low h.low,fun b hb hl=>?_,fun b hb hr=>?_,fun b hb=>?_⟩
 ·rw [k.keep b (ag hb h.size) hl,h.keep b hb (ag hl k.low)]
 ·rw [k.ro b (ag hb h.size) (by rw [h.ro' b hb];omega),h.ro b hb hr]
 ·rw [k.ro' b (ag hb h.size),h.ro' b hb]
theorem AO.alloc (m:Mem) (x:IQ):AO m (m.alloc x):=by
 have hget:∀ b,b<m.size→(m.alloc x).get b=m.get b:=fun b hb=>by rw [Mem.Bh,if_neg (by omega)]
 exact ⟨cE _,ab _,fun b hb _=>hget b hb,fun b hb _=>hget b hb,fun b hb=>Fe (hget b hb)⟩
theorem AO.put {m:Mem} {b:Nat} {x:IQ} (h:m.ro b=false) (hx:x.ro=false):AO m (m.put b x):=by
 have hget:∀ c,c≠b→(m.put b x).get c=m.get c:=fun c hc=>by rw [Mem.get_put,if_neg (fun e=>hc e.symm)]
 refine ⟨ab _,ca _ _,fun c hc hl=>hget c fun e=>?_,fun c hc hr=>hget c fun e=>?_,fun c hc=>?_⟩
 ·subst e;have:(m.put c x).low≤c:=cj _ _;omega
 ·grind
 ·by_cases e:c=b
  ·subst e;rw [h];unfold Mem.ro;rw [Mem.get_put,if_pos rfl];omega
  ·exact Fe (hget c e)
theorem MX {m m':Mem} {a:Addr} {l:List Value} (h:F9 m a l=some m'):AO m m':=by
 unfold F9 at h;split at h
 ·rename_i vs e g hg
  split at h
  ·cases h;exact AO.put (Mem.Pn hg) rfl
  grind
 grind
theorem VN {m m':Mem} {e:TypeId} {size n:Nat} {l:List Value} {s v:Value} (h:BL m e size l n s=some (v,m')):AO m m':=by
 unfold BL at h;split at h
 ·split at h
  ·cases h;exact AO.refl _
  ·cases h;exact AO.alloc _ _
 ·split at h
  ·cases h;exact AO.refl _
  ·cases h;exact AO.alloc _ _
 ·split at h
  ·rename_i vs e' g' hg
   split at h
   ·split at h
    ·cases h;exact AO.put (Mem.Pn hg) rfl
    grind
   grind
  grind
 grind
theorem jY {aT:Array TypeId} {BF:Array Value} {m m':Mem} {v:Value} (h:IX P aT BF m=some (v,m')):AO m m':=by
 unfold IX at h
 repeat' split at h
 all_goals first
  |exact VN h
  |cases h
theorem xO {aT:Array TypeId} {BF:Array Value} {m m':Mem} {v:Value} (h:qC P aT BF m=some (v,m')):AO m m':=by
 unfold qC at h;simp only at h
 repeat' split at h
 all_goals first
  |(cases h;exact AO.refl _)
  |(rw [ae] at h;obtain ⟨m1,h1,h2⟩:=h;cases h2;exact MX h1)
  |cases h
theorem qU {aT:Array TypeId} {BF:Array Value} {m m':Mem} {v:Value} (h:V9 P aT BF m=some (v,m')):AO m m':=by
 unfold V9 at h
 repeat' split at h
 all_goals first
  |(cases h;exact AO.refl _)
  |(rw [ae] at h;obtain ⟨m1,h1,h2⟩:=h;cases h2;exact MX h1)
  |cases h
theorem iY {t:TypeId} {x k v:Value} {m m':Mem} (h:Jg P t x k v m=some m'):AO m m':=by
 unfold Jg at h;split at h
 ·split at h
  ·rename_i es clock hg
   repeat' split at h
   all_goals first
    |(cases h;exact AO.put (by unfold Mem.ro;rw [hg];rfl) rfl)
    |cases h
  grind
 grind
theorem pY {t:TypeId} {x k v:Value} {m m':Mem} (h:TP P t x k m=some (v,m')):AO m m':=by
 unfold TP at h;split at h
 ·split at h
  ·rename_i es clock hg
   repeat' split at h
   all_goals first
    |(cases h;exact AO.put (by unfold Mem.ro;rw [hg];rfl) rfl)
    |cases h
  grind
 grind
theorem Vs {x s v:Value} {m m':Mem} (h:IC x s v m=some m'):AO m m':=by
 unfold IC at h;split at h
 ·split at h
  ·rename_i es clock hg
   repeat' split at h
   all_goals first
    |(cases h;exact AO.put (by unfold Mem.ro;rw [hg];rfl) rfl)
    |cases h
  grind
 grind
theorem xE {s d:TypeId} {x v:Value} {m m':Mem} (h:Xc P s d x m=some (v,m')):AO m m':=by
 unfold Xc at h
 repeat' split at h
 all_goals first
  |(cases h;exact AO.alloc _ _)
  |(cases h;exact AO.refl _)
  |cases h
theorem a3y {ρ:Operand→Value} {o:Oper} {m m':Mem} {v:Value} (h:FB P ρ o m=some (v,m')):AO m m':=by
 unfold FB at h;split at h
 all_goals (repeat' split at h)
 all_goals first
  |(cases h;exact AO.refl _)
  |(cases h;exact AO.alloc _ _)
  |exact jY h
  |exact xO h
  |exact qU h
  |exact xE h
  |exact pY h
  |(rw [ae] at h;obtain ⟨u,h1,h2⟩:=h;cases h2;first
   |exact AO.refl _
   |exact AO.alloc _ _
   |exact iY h1
   |exact Vs h1
   |(unfold LJ at h1;(repeat' split at h1)<;>first|exact MX h1|cases h1))
  |cases h
theorem uN {aT:Array TypeId} {BF:Array Value} (hq:QE P aT=true) (m m2:Mem):Yc P aT BF m=Yc P aT BF m2:=by
 unfold QE at hq;unfold Yc;grind
theorem qX {ρ:Operand→Value} {o:Oper} {m m':Mem} {v:Value} (hq:DN P o.op=true) (h:FB P ρ o m=some (v,m')) (m2:Mem):m'=m∧FB P ρ o m2=some (v,m2):=by
 obtain ⟨dst,op,ty,pos,after,guard⟩:=o;have b9h:∀ {x:Option Value},x.map (fun v=>(v,m))=some (v,m')→m'=m∧x.map (fun v=>(v,m2))=some (v,m2):=fun {x} h=>by
  rw [ae] at h;grind
 simp only at hq;cases op<;>simp only [DN,Bool.false_eq_true] at hq<;>simp only [FB] at h ⊢
 case move=>grind
 case assign=>grind
 case makeFunc fn fs cs =>
  cases fn<;>simp only [reduceCtorEq] at h ⊢
  grind
 case pick c a b =>
  split at h
  ·grind
  grind
 case convert s d x =>
  grind
 case buildSlice t len ps =>
  have hl:len=0:=by grind
  subst hl;simp only [if_true] at h ⊢
  repeat' split at h
  all_goals first|(cases h;refine ⟨rfl,?_⟩;grind)|cases h
 case call c =>
  obtain ⟨callee,args,aT⟩:=c;cases callee<;>simp only [reduceCtorEq,Bool.false_eq_true] at hq h ⊢
  rename_i b;cases b<;>simp only [reduceCtorEq,Bool.false_eq_true] at hq h ⊢
  case cap=>grind
  case len=>rw [uN hq m m2] at h;grind
  case max=>split at h<;>rename_i hp<;>first|grind|cases h
  grind
 all_goals first
  |exact b9h h
  |(split at h<;>rename_i hp<;>first|(rw [if_pos hp];grind)|(cases h;done))
  |(repeat' split at h
    all_goals first
     |(cases h;refine ⟨rfl,?_⟩;simp_all;done)
     |(cases h;exact ⟨rfl,rfl⟩)
     |exact b9h h
     |cases h)
end
section
variable {P:Program} {G:List Nat} {ds:List Deferred} {rf:Option Nat} {nn:Nat}
def Dc (call:EI):Prop:=∀ f BF m v m',call f BF m=some (v,m')→AO m m'
theorem JD {call:EI} (hc:Dc call) {ρ:Operand→Value} {o:Oper} {m m':Mem} {v:Value} (h:BO P call ρ o m=some (v,m')):AO m m':=by
 unfold BO at h;split at h
 ·split at h
  ·exact hc _ _ _ _ _ h
  grind
 ·exact a3y h
def cut (ι:BJ) (n:Nat):BJ:=fun b=>if b<n then ι b else none
theorem Ei {ι:BJ} {n b:Nat} (h:b<n):cut ι n b=ι b:=if_pos h
theorem CX {ι:BJ} {n b:Nat} {ib:IB} (h:cut ι n b=some ib):b<n∧ι b=some ib:=by
 unfold cut at h;grind
def EW (m:Mem) (x:Nat):Mem:={ m with low:=x }
theorem DL.low {ι:BJ} {m:Mem} {w:World} (hs:DL P G ι m w) (x:Nat):DL P G ι (EW m x) w:=⟨hs.dom,hs.blk,hs.inj,hs.glob⟩
theorem DL.extend {ι:BJ} {m m2:Mem} {w:World} (hs:DL P G ι m w) (hsz:m.size≤m2.size) (hget:∀ b,b<m.size→m2.get b=m.get b):DL P G ι m2 w:=by
 have hle:Le ι m.gen ι m2.gen:=fun b ib hb=>⟨by rw [CS (hget b (hs.dom b ib hb).1)];simp,ib,hb,fun _=>rfl⟩
 refine ⟨fun b ib hb=>⟨ag (hs.dom b ib hb).1 hsz,(hs.dom b ib hb).2⟩,fun b ib hb=>?_,fun b b' ib ib' hb hb' he=>?_,fun k hk=>?_⟩
 ·rw [hget b (hs.dom b ib hb).1];exact (hs.blk b ib hb).mono hle
 ·rcases hs.inj b b' ib ib' hb hb' he with h|⟨h1,h2⟩
  ·omega
  ·exact .inr ⟨by rw [Fe (hget b (hs.dom b ib hb).1)];omega,by rw [Fe (hget b' (hs.dom b' ib' hb').1)];omega⟩
 ·obtain ⟨ib,h1,h2,h3,h4,h5⟩:=hs.glob k hk
  have hlt:=(hs.dom k ib h1).1;exact ⟨ib,h1,h2,⟨h3.1,by grind⟩,by rw [CS (hget k hlt)];omega,by rw [Fe (hget k hlt)];omega⟩
theorem DL.world {ι:BJ} {m:Mem} {w w':World} (hs:DL P G ι m w) (hsz:w.heap.size≤w'.heap.size) (hh:∀ c,c<w.heap.size→w'.heap[c]?=w.heap[c]?):DL P G ι m w' :=
 ⟨fun b ib hb=>⟨(hs.dom b ib hb).1,ag (hs.dom b ib hb).2 hsz⟩,fun b ib hb=>by rw [hh _ (hs.dom b ib hb).2];exact hs.blk b ib hb,hs.inj,hs.glob⟩
theorem DL.congr {ι ι':BJ} {m:Mem} {w:World} (hs:DL P G ι m w) (h:∀ b,ι' b=ι b):DL P G ι' m w:=by
 have:ι'=ι:=funext h;grind
theorem WX (ops:Array Oper):∀ (l:List Oper) (acc:Array Nat),(∀ (j:Nat) o,l[j]?=some o→∀ k,((l.foldl (fun acc o=>acc.push (o.after.foldl (fun s e=>if Region.binds .any e then s ||| 2 ^ e.on ||| acc.getD e.on 0 else s) 0)) acc).getD (acc.size+j) 0).testBit k=true →
 ∃ e∈o.after,Region.binds .any e=true∧(e.on=k∨((l.foldl (fun acc o=>acc.push (o.after.foldl (fun s e=>if Region.binds .any e then s ||| 2 ^ e.on ||| acc.getD e.on 0 else s) 0)) acc).getD e.on 0).testBit k=true)) ∧
 (∀ j,j<acc.size→(l.foldl (fun acc o=>acc.push (o.after.foldl (fun s e=>if Region.binds .any e then s ||| 2 ^ e.on ||| acc.getD e.on 0 else s) 0)) acc).getD j 0=acc.getD j 0)
 |[],acc=>⟨fun j o h=>by simp,fun j _=>rfl⟩
 |o::l,acc=>by
  generalize hf:(fun (acc:Array Nat) (o:Oper)=>acc.push (o.after.foldl (fun s e=>if Region.binds .any e then s ||| 2 ^ e.on ||| acc.getD e.on 0 else s) 0))=F;have ih:=WX ops l (F acc o);rw [hf] at ih;have hsz:(F acc o).size=acc.size+1:=by grind
  simp only [List.foldl_cons];have hkeep:∀ j,j<acc.size→(List.foldl F (F acc o) l).getD j 0=acc.getD j 0:=fun j hj=>by
   rw [ih.2 j (by omega),← hf];simp [Array.getElem?_push,Nat.ne_of_lt hj]
  refine ⟨fun j o' hj k hk=>?_,hkeep⟩;cases j with
  |zero =>
   simp only [List.getElem?_cons_zero,Option.some.injEq] at hj;subst hj;have h1:(List.foldl F (F acc o) l).getD (acc.size+0) 0=o.after.foldl (fun s e=>if Region.binds .any e then s ||| 2 ^ e.on ||| acc.getD e.on 0 else s) 0:=by
    rw [ih.2 _ (by omega),← hf];simp
   rw [h1] at hk;have key:∀ (es:List Edge) (s:Nat),(es.foldl (fun s e=>if Region.binds .any e then s ||| 2 ^ e.on ||| acc.getD e.on 0 else s) s).testBit k=true →
    s.testBit k=true∨∃ e∈es,Region.binds .any e=true∧(e.on=k∨(acc.getD e.on 0).testBit k=true):=fun es=>by
    induction es with
    |nil=>simp
    |cons e es ihe =>
     intro s h;rw [List.foldl_cons] at h;rcases ihe _ h with h|⟨e',h1,h2⟩
     ·split at h
      ·grind
      grind
     grind
   rw [← co] at hk;grind
  |succ j =>
   grind
theorem wY {ops:Array Oper} {i k:Nat} {o:Oper} (ho:ops[i]?=some o) (h:((Region.before ops).getD i 0).testBit k=true) :
 ∃ e∈o.after,Region.binds .any e=true∧(e.on=k∨((Region.before ops).getD e.on 0).testBit k=true):=by
 have:=(WX ops ops.toList #[]).1 i o (by grind) k;unfold Region.before at h ⊢;grind
def Closed (ops:Array Oper) (listed:Array Bool):Prop :=
 ∀ (i:Nat) (o:Oper),ops[i]?=some o→listed.getD i false=true→∀ e∈o.after,Region.binds .any e=true→listed.getD e.on false=true
theorem Ee {ops:Array Oper} {listed:Array Bool} (hcl:Closed ops listed) (hback:∀ (i:Nat) (o:Oper),ops[i]?=some o→∀ e∈o.after,Region.binds .any e=true→e.on<i):∀ (i:Nat) (o:Oper) (k:Nat),ops[i]?=some o →
 (∀ e∈o.after,Region.binds .any e=true→listed.getD e.on false=true)→((Region.before ops).getD i 0).testBit k=true→listed.getD k false=true:=by
 intro i
 induction i using Nat.strongRecOn with
 |_ i ih =>
  intro o k ho hall hbit;obtain ⟨e,he,hb,h⟩:=wY ho hbit;rcases h with rfl|h
  ·grind
  ·have hlt:=hback i o ho e he hb
   cases hoe:ops[e.on]? with
   |none =>
    grind
   |some oe=>exact ih e.on hlt oe k hoe (hcl e.on oe hoe (hall e he hb)) h
theorem Ur {call:EI} {ops:Array Oper}:∀ (l:List Oper) (k:Nat) (s s':St),Kt P call ops k l s=some s' →
 ∃ S:Nat→St,S k=s∧S (k+l.length)=s'∧∀ (i:Nat) (o:Oper),l[i]?=some o→P9 P call ops (k+i) o (S (k+i))=some (S (k+i+1))
 |[],k,s,s',h=>by
  cases h;exact ⟨fun _=>s,rfl,rfl,fun i o h=>by grind⟩
 |o::l,k,s,s',h=>by
  simp only [Kt] at h;cases h1:P9 P call ops k o s with
  |none=>grind
  |some s1 =>
   rw [h1] at h;obtain ⟨S,e1,e2,e3⟩:=Ur l (k+1) s1 s' h;refine ⟨fun j=>if j≤k then s else S j,by simp,?_,fun i o' hi=>?_⟩
   ·grind
   grind
theorem G5 {call:EI} {ops:Array Oper} {i:Nat} {o:Oper} {s s2:St} (h:P9 P call ops i o s=some s2) :
 (Region.wanted o (Eh ops s.t)=false∧s2.t=H7 s.t o.dst undef∧∃ x,s2.m=EW s.m x∧x≤s.m.low∧x≤s.m.size) ∨
 (Region.wanted o (Eh ops s.t)=true∧∃ v m',BO P call (ev s.t) o (EW s.m s.m.size)=some (v,m')∧s2.t=H7 s.t o.dst v∧s2.m=EW m' (min s.m.low m'.low) ∧
  (barrier P ops i=true∨s.m.size≤m'.low∨(jh P ops i=true∧Qz ops i s.t=true)∨(Qs P ops i=true∧MC ops i s.t s.m m'=true))):=by
 unfold P9 Mc at h;split at h
 ·rename_i s' h1
  split at h
  ·rename_i hc
   cases h;split at h1
   ·rename_i hw
    refine .inr ⟨hw,?_⟩;unfold xZ at h1;split at h1
    ·rename_i v m' hv
     cases h1;refine ⟨v,m',hv,rfl,rfl,?_⟩;grind
    grind
   ·rename_i hw
    cases h1;exact .inl ⟨by grind,rfl,_,rfl,ca _ _,cj _ _⟩
  grind
 grind
theorem GX {ops:Array Oper} (h:GU ops=true):(∀ (i:Nat) (o:Oper),ops[i]?=some o→∀ e∈o.after,Region.binds .any e=true→e.on<i) ∧
 (∀ (i:Nat) (oi:Oper) (d:Nat),ops[i]?=some oi→oi.dst=some d→∀ (j:Nat) (oj:Oper),ops[j]?=some oj→j≠i →
  oj.dst≠some d∧(d∈oj.looksAt ops→(i<j→((Region.before ops).getD j 0).testBit i=true)∧(j<i→((Region.before ops).getD i 0).testBit j=true))):=by
 unfold GU at h;simp only [List.all_eq_true,List.mem_range] at h;have lt:∀ {i:Nat} {o:Oper},ops[i]?=some o→i<ops.size:=fun hi=>(al.1 hi).1
 refine ⟨fun i o hi e he hb=>?_,fun i oi d hi hd j oj hj hne=>?_⟩
 ·have:=h i (lt hi)
  rw [hi] at this;simp only [Bool.and_eq_true] at this;have h2:=bh.1 this.1.2 e he;grind
 grind
def Et (P:Program) (ops:Array Oper) (i:Nat):Bool:=match ops[i]? with|some o=>!DN P o.op&&!Gl o.op&&!MV o.op&&(barrier P ops i||jh P ops i||Qs P ops i)|none=>false
def touches (P:Program) (ops:Array Oper) (i:Nat):Bool:=match ops[i]? with|some o=>!DN P o.op&&!Gl o.op|none=>false
def Ib (ops:Array Oper) (i:Nat):Bool:=match ops[i]? with|some o=>MV o.op|none=>false
theorem Ti {ops:Array Oper} {i:Nat} (h:Et P ops i=true):Ib ops i=false:=by
 unfold Et at h;unfold Ib;cases ho:ops[i]? with
 |none=>rfl
 |some o =>
  grind
theorem Iu {ops:Array Oper} {i:Nat} (h:Et P ops i=true):touches P ops i=true∧∀ j,j≠i→touches P ops j=true →
 (j<i→Ib ops j=true∨((Region.before ops).getD i 0).testBit j=true)∧(i<j→((Region.before ops).getD j 0).testBit i=true):=by
 unfold Et at h;cases ho:ops[i]? with
 |none=>grind
 |some o =>
  rw [ho] at h;simp only [Bool.and_eq_true] at h;refine ⟨by unfold touches;grind,fun j hne ht=>?_⟩;unfold touches at ht;cases hoj:ops[j]? with
  |none=>grind
  |some oj =>
   rw [hoj] at ht;have hlt:=(al.1 hoj).1;rcases gH.1 h.2 with h2'|h2
   rcases gH.1 h2' with h2|h2
   ·unfold barrier at h2
    grind
   ·unfold jh at h2
    simp only [Bool.and_eq_true,List.all_eq_true,List.mem_range] at h2;have h3:=h2.2 j hlt;simp only [hoj,Option.map_some,Option.getD_some,Bool.or_eq_true,beq_iff_eq,hne,false_or] at h3;simp only [Bool.false_eq_true,false_or,ordered,Bool.and_eq_true,decide_eq_true_eq] at h3;refine ⟨fun hl=>?_,fun hl=>?_⟩
    ·rcases h3 with h3|h3
     ·exact .inl (by unfold Ib;grind)
     grind
    grind
   ·unfold Qs at h2
    simp only [List.all_eq_true,List.mem_range] at h2;have h3:=h2 j hlt;simp only [Bool.false_eq_true,false_or,ordered] at h3;grind
theorem ku {ops:Array Oper} {i j:Nat} {oj:Oper} (h:barrier P ops i=true) (hj:ops[j]?=some oj) (hld:Gl oj.op=true) (hne:j≠i):ordered ops i j=true:=by
 unfold barrier at h;simp only [List.all_eq_true,List.mem_range] at h;have h3:=h j (al.1 hj).1;have hq:DN P oj.op=false:=by
  cases hop:oj.op<;>rw [hop] at hld<;>first|rfl|cases hld
 simp only [hj,Option.map_some,Option.getD_some,Bool.or_eq_true,beq_iff_eq,hne,false_or,hq,Bool.false_eq_true] at h3;assumption
theorem lT {ops:Array Oper} {i j:Nat} (h:barrier P ops i=true∨Qs P ops i=true) (hn:Ib ops j=true) (hq:touches P ops j=true) (hl:j<i):((Region.before ops).getD i 0).testBit j=true:=by
 unfold touches at hq;cases hoj:ops[j]? with
 |none=>grind
 |some oj =>
  have hlt:=(al.1 hoj).1;rcases h with h2|h2
  ·unfold barrier at h2
   grind
  ·unfold Qs at h2
   simp only [List.all_eq_true,List.mem_range] at h2;have h3:=h2 j hlt;simp only [Bool.false_eq_true,false_or,ordered] at h3;grind
end
section
variable {P:Program} {G:List Nat} {ds:List Deferred} {rf:Option Nat} {nn:Nat}
structure Trace (P:Program) (call:EI) (ops:Array Oper) (S:Nat→St):Prop where
 step:∀ (i:Nat) (o:Oper),ops[i]?=some o→P9 P call ops i o (S i)=some (S (i+1))
section
variable {call:EI} {ops:Array Oper} {S:Nat→St}
theorem pV {p:Nat→Prop} {i:Nat} (base:p i) (step:∀ j,i≤j→p j→p (j+1)) (j:Nat) (h:i≤j):p j:=by
 induction j with
 |zero=>grind
 |succ j ih =>
  grind
theorem getOp {i:Nat} (h:i<ops.size):∃ o,ops[i]?=some o :=by simp_all
theorem Trace.mem (ht:Trace P call ops S) (hc:Dc call) {i:Nat} (hi:i<ops.size):AO (S i).m (S (i+1)).m:=by
 obtain ⟨o,ho⟩:=getOp hi;rcases G5 (ht.step i o ho) with ⟨_,_,x,hm,hx,_⟩|⟨_,v,m',hv,_,hm,_⟩
 ·rw [hm];exact ⟨ab _,hx,fun _ _ _=>rfl,fun _ _ _=>rfl,fun _ _=>rfl⟩
 ·have hs:=JD hc hv
  rw [hm];exact ⟨hs.size,ca _ _,fun b hb hl=>hs.keep b hb (ag hl (cj _ _)),fun b hb hr=>hs.ro b hb hr,fun b hb=>hs.ro' b hb⟩
theorem Trace.ET (ht:Trace P call ops S) (hc:Dc call) (i:Nat):∀ j,i≤j→j≤ops.size→AO (S i).m (S j).m:=by
 refine pV (fun _=>AO.refl _) fun j hij ih hj=>?_
 exact (ih (by omega)).trans (ht.mem hc (by omega))
theorem tN {ρ:Operand→Value} {o:Oper} {m m':Mem} {v:Value} (hq:DN P o.op=true) (h:BO P call ρ o m=some (v,m')) (m2:Mem) :
 m'=m∧BO P call ρ o m2=some (v,m2):=by
 unfold BO at h ⊢;split at h
 ·rename_i f args aT hop
  rw [hop] at hq;contradiction
 ·rename_i hne
  obtain ⟨h1,h2⟩:=qX hq h m2;grind
theorem V5 {ρ:Operand→Value} {o:Oper} {m m':Mem} {v:Value} (hn:MV o.op=true) (h:BO P call ρ o m=some (v,m')) :
 ∃ l e n,v=.slice (some ⟨m.size,0,none⟩) n 0∧m'=m.alloc (.cells l e 0 false) ∧
  ∀ (ι:BJ) (g:Nat→Nat) (ρ':Operand→Value),(∀ x∈o.op.operands,Aw ι g (ρ x) (ρ' x))→∃ cs':Array Value,(∀ j,j<l.length→∃ v',cs'[j]?=some v'∧Aw ι g (l.getD j undef) v')∧n*P.cellsOf e≤cs'.size ∧
   ∀ w:World,(execOp ρ' o).run P w=.ok (.value (.slice (some ⟨w.heap.size,0,none⟩) n n)) { w with heap:=w.heap.push (.cells cs' e (0,0)) }:=by
 obtain ⟨dst,op,ty,pos,after,guard⟩:=o;cases op<;>simp only [MV,Bool.false_eq_true] at hn
 rename_i t len ps;have hl0:len≠0:=by grind
 simp only [BO,FB] at h;split at h
 ·rename_i e hu
  split at h
  ·rename_i i z hi hz
   split at h
   ·rename_i hc
    split at h
    ·rename_i cs hcs
     split at h
     ·first|rw [if_neg hl0] at h|skip
      cases h;refine ⟨cs.toList,e,len,rfl,rfl,fun ι g ρ' hρ=>?_⟩;obtain ⟨cs',h1,h2,h3⟩:=oN (ρ':=ρ') (dst:=dst) (ty:=ty) (pos:=pos) (after:=after) (guard:=guard) (ι:=ι) (g:=g) hu hi hz hc.1 hc.2.1 hc.2.2 (fun x hx=>hρ x hx) hcs;grind
     grind
    grind
   grind
  grind
 grind
theorem nY {t:TypeId} {a:Addr} {m m2:Mem} {v:Value} (h:Nr P t a m=some v) (hg:m2.get a.block=m.get a.block) (hlt:a.block<m2.size):Nr P t a m2=some v:=by
 unfold Nr at h ⊢;split at h
 ·unfold ZP Mem.Em at h ⊢
  grind
 grind
theorem dA {t:TypeId} {x:Value} {lo hi:Option Value} {m:Mem} {v:Value} (h:aslice P t x lo hi none m=some v) :
 (∀ b,Ij x=some b→b<m.size)∧∀ m2:Mem,(∀ b,Ij x=some b→b<m2.size∧m2.get b=m.get b)→aslice P t x lo hi none m2=some v:=by
 unfold aslice at h ⊢;simp only [Option.isSome_none,Bool.false_and,Bool.false_eq_true,if_false] at h ⊢;split at h
 ·rename_i s hu
  exact ⟨fun b hb=>(by cases hb),fun m2 _=>by omega⟩
 ·rename_i e hu
  exact ⟨fun b hb=>(by cases hb),fun m2 _=>by omega⟩
 ·rename_i e b off g' hu
  exact ⟨fun b hb=>(by cases hb),fun m2 _=>by omega⟩
 ·rename_i e b off len g hu
  split at h
  ·rename_i i l hh hi0 b1 b2 _
   split at h
   ·rename_i vs e' g' ro hg
    split at h
    ·rename_i hc
     refine ⟨fun c hb=>by cases hb;omega,fun m2 h2=>?_⟩;obtain ⟨q1,q2⟩:=h2 b rfl;grind
    grind
   grind
  ·grind
  grind
 grind
theorem yg {o:Oper} (h:Gl o.op=true):(∃ t a,o.op=.load t a)∨∃ t x lo hi,o.op=.slice t x lo hi none:=by
 cases hop:o.op with
 |load t a=>simp
 |slice t x lo hi mx =>
  cases mx with
  |none=>simp
  |some y=>rw [hop] at h;cases h
 |_=>rw [hop] at h;cases h
theorem XA {ρ:Operand→Value} {o:Oper} {m m':Mem} {v:Value} (hl:Gl o.op=true) (h:BO P call ρ o m=some (v,m')) :
 m'=m∧∃ x,b7r o.op=some x∧(∀ b,Ij (ρ x)=some b→b<m.size)∧∀ m2:Mem,(∀ b,Ij (ρ x)=some b→b<m2.size∧m2.get b=m.get b)→BO P call ρ o m2=some (v,m2):=by
 obtain ⟨dst,op,ty,pos,after,guard⟩:=o;rcases yg hl with ⟨t,a,hop⟩|⟨t,x,lo,hi,hop⟩
 ·subst hop
  simp only [BO,FB] at h ⊢;split at h
  ·rename_i ad had
   rw [ae] at h;obtain ⟨u,hu,he⟩:=h;cases he;refine ⟨rfl,a,rfl,fun b hb=>?_,fun m2 h2=>?_⟩
   ·rw [had] at hb
    cases hb;unfold Nr at hu;grind
   ·obtain ⟨q1,q2⟩:=h2 ad.block (by rw [had];rfl)
    simp only [had,nY hu q2 q1,Option.map_some]
  grind
 ·subst hop
  simp only [BO,FB,Option.map_none] at h ⊢;rw [ae] at h;obtain ⟨u,hu,he⟩:=h;cases he;obtain ⟨r1,r2⟩:=dA hu;exact ⟨rfl,x,rfl,r1,fun m2 h2=>by grind⟩
theorem Trace.quiet (ht:Trace P call ops S) (hc:Dc call) {i:Nat} (hi:i<ops.size) (hb:Et P ops i=false):∀ b,b<(S i).m.size→(S (i+1)).m.get b=(S i).m.get b:=by
 intro b hlt;obtain ⟨o,ho⟩:=getOp hi;rcases G5 (ht.step i o ho) with ⟨_,_,x,hm,hx⟩|⟨_,v,m',hv,_,hm,hor⟩
 ·rw [hm];rfl
 ·rw [hm]
  show m'.get b=(S i).m.get b;by_cases hq:DN P o.op=true
  ·obtain ⟨h1,_⟩:=tN hq hv (S i).m
   rw [h1];rfl
  ·by_cases hl:Gl o.op=true
   ·rw [(XA hl hv).1];rfl
   ·by_cases hn:MV o.op=true
    ·obtain ⟨l,e,n,_,h2,_⟩:=V5 hn hv
     rw [h2,Mem.Bh,if_neg (by show ¬ (S i).m.size=b;omega)];rfl
    ·unfold Et at hb
     rcases hor with h|h|⟨h,_⟩|⟨h,_⟩
     ·grind
     ·exact (JD hc hv).keep b hlt (ag hlt h)
     ·grind
     grind
theorem Trace.IZ (ht:Trace P call ops S) (hc:Dc call) (i:Nat):∀ j,i≤j→j≤ops.size→(∀ k,i≤k→k<j→Et P ops k=false)→∀ b,b<(S i).m.size→(S j).m.get b=(S i).m.get b:=by
 refine pV (fun _ _ b _=>rfl) fun j hij ih=>?_
 ·intro hj hq b hb
  rw [ht.quiet hc (by omega) (hq j hij (by omega)) b (ag hb (ht.ET hc i j hij (by omega)).size)];grind
theorem Trace.tmps (ht:Trace P call ops S) (t:Nat) (i:Nat):∀ j,i≤j→j≤ops.size→(∀ k o,i≤k→k<j→ops[k]?=some o→o.dst≠some t)→Cj (S j).t t=Cj (S i).t t:=by
 refine pV (fun _ _=>rfl) fun j hij ih=>?_
 ·intro hj hq
  obtain ⟨o,ho⟩:=getOp (ops:=ops) (i:=j) (by omega);have hd:=hq j o hij (by omega) ho;have hput:∀ v,Cj (H7 (S j).t o.dst v) t=Cj (S j).t t:=fun v=>by
   cases hdd:o.dst with
   |none=>rfl
   |some d=>simp only [H7];rw [Df,if_neg (fun e=>hd (by grind))]
  have hstep:Cj (S (j+1)).t t=Cj (S j).t t:=by
   rcases G5 (ht.step j o ho) with ⟨_,h,_⟩|⟨_,v,m',_,h,_⟩
   ·grind
   grind
  grind
theorem DU {listed:Array Bool} {i j:Nat} (hj:j<listed.size):(listed.setIfInBounds j true).getD i false=if i=j then true else listed.getD i false:=by
 by_cases e:i=j
 ·simp_all
 ·rw [if_neg e];simp [Array.getElem?_setIfInBounds_ne (Ne.symm e)]
theorem Le.cut {ι:BJ} {g:Nat→Nat} {x y:Nat} (h:x≤y):Le (cut ι x) g (cut ι y) g:=fun b ib hb=>by
 obtain ⟨h1,h2⟩:=CX hb;exact ⟨ab _,ib,by rw [Ei (by omega)];omega,fun _=>rfl⟩
theorem Le.b4e {ι:BJ} {g:Nat→Nat} {x:Nat}:Le (Am.cut ι x) g ι g:=fun b ib hb=>⟨ab _,ib,(CX hb).2,fun _=>rfl⟩
structure DI (ds:List Deferred) (P:Program) (G:List Nat) (n:Nat) (ops:Array Oper) (S:Nat→St) (ι0:BJ) (w0:World) (listed:Array Bool) (ι:BJ) (a:Act) (w:World) (jp jn:Nat):Prop where
 xC:listed.size=ops.size
 cl:Closed ops listed
 h1:jp≤jn
 h1':jn≤ops.size
 h2:∀ k,jp≤k→k<jn→Et P ops k=false
 h3:jn=ops.size∨(Et P ops jn=true∧listed.getD jn false=false)
 h4:∀ k,k<jp→touches P ops k=true→Ib ops k=false→listed.getD k false=true
 jK:∀ j,jp≤j→j≤jn→DL P G (cut ι (S j).m.size) (S j).m w
 a6l:∀ b ib,ι b=some ib→b<(S jp).m.size∨∃ i,listed.getD i false=true∧jp≤i∧i<jn∧(S i).m.size≤b∧b<(S (i+1)).m.size
 tsz:a.tmps.size=n
 a0j:a.defers=ds
 v1:∀ (i:Nat) (o:Oper) (t:Nat),ops[i]?=some o→o.dst=some t→listed.getD i false=true→Aw (cut ι (S (max (i+1) jp)).m.size) (S jn).m.gen (Cj (S ops.size).t t) (a.tmps.getD t undef)
 v0:∀ t,(∀ (i:Nat) (o:Oper),ops[i]?=some o→o.dst=some t→listed.getD i false=false)→Aw (cut ι (S 0).m.size) (S jn).m.gen (Cj (S 0).t t) (a.tmps.getD t undef)
 le:Le ι0 (S 0).m.gen ι (S jn).m.gen
 back:∀ b ib,ι b=some ib→(∃ Yb,ι0 b=some Yb∧Yb.blk=ib.blk)∨w0.heap.size≤ib.blk
 a0r:∀ b ib,ι b=some ib→(∃ Yb,ι0 b=some Yb)∨(S 0).m.size≤b
 heap:w0.heap.size≤w.heap.size
 frame:∀ c,c<w0.heap.size→(∀ b ib,ι0 b=some ib→ib.blk=c→(S 0).m.ro b=true∨b<(S ops.size).m.low)→w.heap[c]?=w0.heap[c]?
 tape:w.tape=w0.tape
 os:w.os=w0.os
 output:w.output=w0.output
 XE:∀ b ib k,ι b=some ib→k<ops.size→listed.getD k false=false→¬ ((S k).m.size≤b∧b<(S (k+1)).m.size)
 eF:∀ k,k<jp→Ib ops k=true→listed.getD k false=false→∀ b,(S k).m.size≤b→b<(S (k+1)).m.size→(S jp).m.get b=(S (k+1)).m.get b
theorem Q5 {n:Nat} {listed:Array Bool} {ι ι':BJ} {g g':Nat→Nat} {a:Act} {j:Nat} {o:Oper} {v':Value} {jp jp':Nat} (hcs:Dc call) (hjj:jp≤jp') (hjs:jp'≤ops.size) (ht:Trace P call ops S) (hdr:GU ops=true) (ho:ops[j]?=some o)
 (c7y:listed.size=ops.size) (G9:listed.getD j false=false) (c4j:a.tmps.size=n) (hdn:∀ d,o.dst=some d→d<n)
 (hle:∀ x,Le (cut ι x) g (cut ι' x) g')
 (hv:∀ d,o.dst=some d→Aw (cut ι' (S (max (j+1) jp')).m.size) g' (Cj (S (j+1)).t d) v')
 (v1:∀ (i:Nat) (o:Oper) (t:Nat),ops[i]?=some o→o.dst=some t→listed.getD i false=true→Aw (cut ι (S (max (i+1) jp)).m.size) g (Cj (S ops.size).t t) (a.tmps.getD t undef))
 (v0:∀ t,(∀ (i:Nat) (o:Oper),ops[i]?=some o→o.dst=some t→listed.getD i false=false)→Aw (cut ι (S 0).m.size) g (Cj (S 0).t t) (a.tmps.getD t undef)) :
 (∀ (i:Nat) (o':Oper) (t:Nat),ops[i]?=some o'→o'.dst=some t→(listed.setIfInBounds j true).getD i false=true→Aw (cut ι' (S (max (i+1) jp')).m.size) g' (Cj (S ops.size).t t) ((a.put o.dst v').tmps.getD t undef)) ∧
 (∀ t,(∀ (i:Nat) (o':Oper),ops[i]?=some o'→o'.dst=some t→(listed.setIfInBounds j true).getD i false=false)→Aw (cut ι' (S 0).m.size) g' (Cj (S 0).t t) ((a.put o.dst v').tmps.getD t undef)):=by
 have hjlt:j<ops.size:=(al.1 ho).1;have hj':j<listed.size:=by omega
 obtain ⟨_,hdist⟩:=GX hdr;have hother:∀ t,o.dst≠some t→(a.put o.dst v').tmps.getD t undef=a.tmps.getD t undef:=fun t ht'=>by
  cases hd:o.dst with
  |none=>rfl
  |some d =>
   have:d≠t:=fun e=>ht' (by grind)
   simp [Act.put,Array.getElem?_setIfInBounds_ne this]
 refine ⟨fun i o' t hi hd hl=>?_,fun t hall=>?_⟩
 ·by_cases e:i=j
  ·subst e
   rw [ho] at hi;cases hi;have hself:(a.put o.dst v').tmps.getD t undef=v':=by
    rw [hd];have:=hdn t hd;simp [Act.put,c4j,this]
   rw [hself];have h1:Cj (S ops.size).t t=Cj (S (i+1)).t t:=ht.tmps t (i+1) ops.size (by omega) (ab _) fun k ok hk _ hok=>(hdist i o t ho hd k ok hok (by omega)).1
   rw [h1];exact hv t hd
  ·rw [DU hj',if_neg e] at hl
   rw [hother t (hdist i o' t hi hd j o ho (Ne.symm e)).1];have hil:=(al.1 hi).1;exact ((v1 i o' t hi hd hl).mono (hle _)).mono (Le.cut (ht.ET hcs (max (i+1) jp) (max (i+1) jp') (by omega) (by omega)).size)
 ·have hne:o.dst≠some t:=fun hd=>by
   have:=hall j o ho hd;rw [DU hj',if_pos rfl] at this;cases this
  rw [hother t hne];refine (v0 t fun i o' hi hd=>?_).mono (hle _);have:=hall i o' hi hd;rw [DU hj'] at this;split at this
  ·cases this
  ·exact this
theorem au {n:Nat} {listed:Array Bool} {ι ι0:BJ} {a:Act} {w w0:World} {jp jn j:Nat} {o:Oper} (ht:Trace P call ops S) (hc:Dc call) (hdr:GU ops=true) (ho:ops[j]?=some o)
 (hd:DI ds P G n ops S ι0 w0 listed ι a w jp jn) (G9:listed.getD j false=false) (hall:∀ e∈o.after,Region.binds .any e=true→listed.getD e.on false=true) {t:Nat} (hl:t∈o.looksAt ops) :
 Aw (cut ι (S (max j jp)).m.size) (S jn).m.gen (Cj (S j).t t) (a.tmps.getD t undef):=by
 have hjlt:j<ops.size:=(al.1 ho).1;obtain ⟨hback,hdist⟩:=GX hdr;have d0g:=hd.h1;have d0k:=hd.h1';by_cases hw:∃ (i:Nat) (oi:Oper),ops[i]?=some oi∧oi.dst=some t
 ·obtain ⟨i,oi,hi,hdi⟩:=hw
  have uniq:∀ (k:Nat) (ok:Oper),ops[k]?=some ok→ok.dst=some t→k=i:=fun k ok hk hdk=>by
   grind
  have notYet:listed.getD i false=false→j≤i→Aw (cut ι (S (max j jp)).m.size) (S jn).m.gen (Cj (S j).t t) (a.tmps.getD t undef):=fun hu hji=>by
   have h0:=hd.v0 t fun k ok hk hdk=>by rw [uniq k ok hk hdk];omega
   have e1:Cj (S j).t t=Cj (S 0).t t:=ht.tmps t 0 j (aq _) (by omega) fun k ok _ hkj hok hdk=>by grind
   rw [e1];exact h0.mono (Le.cut (ht.ET hc 0 (max j jp) (aq _) (by omega)).size)
  rcases ew i j with hlt|heq|hgt
  ·have hb:=((hdist i oi t hi hdi j o ho (by omega)).2 hl).1 hlt
   have hli:=Ee hd.cl hback j o i ho hall hb;have h1:=hd.v1 i oi t hi hdi hli;have e1:Cj (S ops.size).t t=Cj (S j).t t:=ht.tmps t j ops.size (by omega) (ab _) fun k ok hk _ hok hdk=>by have:=uniq k ok hok hdk;omega
   rw [← e1];exact h1.mono (Le.cut (ht.ET hc (max (i+1) jp) (max j jp) (by omega) (by omega)).size)
  ·subst heq
   exact notYet G9 (ab _)
  ·have hb:=((hdist i oi t hi hdi j o ho (by omega)).2 hl).2 hgt
   refine notYet ?_ (by omega);cases hli:listed.getD i false with
   |false=>rfl
   |true =>
    have:=Ee hd.cl hback i oi j hi (hd.cl i oi hi hli) hb;rw [G9] at this;cases this
 ·have h0:=hd.v0 t fun i oi hi hdi=>absurd ⟨i,oi,hi,hdi⟩ hw
  have e1:Cj (S j).t t=Cj (S 0).t t:=ht.tmps t 0 j (aq _) (by omega) fun k ok _ _ hok hdk=>hw ⟨k,ok,hok,hdk⟩
  rw [e1];exact h0.mono (Le.cut (ht.ET hc 0 (max j jp) (aq _) (by omega)).size)
end
end
section
variable {P:Program} {G:List Nat} {ds:List Deferred} {rf:Option Nat} {nn:Nat}
theorem uO {op:BinOp} {t:TypeId} {xo yo:Operand} {x y u:Value} (h:PG P op t xo yo x y=some u):plain u=true:=by
 unfold PG at h;have hnil:∀ {b:Bool},Js op b=some u→plain u=true:=fun {b} h=>by
  cases op<;>simp only [Js,reduceCtorEq,Option.some.injEq] at h<;>subst h<;>rfl
 split at h
 ·split at h
  ·exact (OL (P:=P) (t:=t) (k':=.i64) (.inl rfl) h default).2
  ·exact (OL (P:=P) (t:=t) (k':=.i64) (.inr rfl) h default).2
  ·split at h
   ·exact (qZ (P:=P) (t:=t) h default).2
   grind
 ·grind
 ·grind
 ·grind
 ·grind
 ·split at h
  ·exact (FN h).2
  grind
theorem kM {ι:BJ} {g:Nat→Nat} {m m':Mem} {ρ ρ':Operand→Value} {o:Oper} {v:Value} {t:TypeId} {len:Nat} {ps:Array (Nat×Operand)} (ho:o.op=.buildSlice t len ps) (hq:DN P o.op=true) (hρ:∀ x∈o.op.operands,Aw ι g (ρ x) (ρ' x))
 (h:FB P ρ o m=some (v,m')):∃ x,∀ w,(execOp ρ' o).run P w=.ok (.value (.slice (some ⟨w.heap.size,0,none⟩) 0 0)) { w with heap:=w.heap.push x }∧Aw ι g v (.slice (some ⟨w.heap.size,0,none⟩) 0 0):=by
 obtain ⟨dst,op,ty,pos,after,guard⟩:=o;subst ho;have hl:len=0:=by simpa [DN] using hq
 subst hl;simp only [FB,if_true] at h;split at h
 ·rename_i e hu
  split at h
  ·rename_i i z hi hz
   split at h
   ·rename_i hc
    split at h
    ·rename_i cs hcs
     split at h
     ·cases h
      obtain ⟨x,hrun⟩:=Zf (ρ':=ρ') (dst:=dst) (ty:=ty) (pos:=pos) (after:=after) (guard:=guard) (ι:=ι) (g:=g) hu hi hz hc.2.1 hc.2.2 hρ hcs;exact ⟨x,fun w=>⟨hrun w,.wz 0 0 0 _⟩⟩
     grind
    grind
   grind
  grind
 grind
theorem qj {ι:BJ} {g:Nat→Nat} {m m':Mem} {ρ ρ':Operand→Value} {o:Oper} {v:Value} (hq:DN P o.op=true) (hns:∀ t len ps,o.op≠.buildSlice t len ps) (hρ:∀ x∈o.op.operands,Aw ι g (ρ x) (ρ' x))
 (h:FB P ρ o m=some (v,m')):∃ v',(∀ w,(execOp ρ' o).run P w=.ok (.value v') w)∧Aw ι g v v':=by
 obtain ⟨dst,op,ty,pos,after,guard⟩:=o;simp only at hρ hq hns;have same:∀ {s:Sem Value} {u v':Value},execOp ρ' ⟨dst,op,ty,pos,after,guard⟩=(do pure (.value (← s)):Sem Next)→(∀ w,s.run P w=.ok v' w)→Aw ι g u v'→(u,m)=(v,m') →
  ∃ v',(∀ w,(execOp ρ' ⟨dst,op,ty,pos,after,guard⟩).run P w=.ok (.value v') w)∧Aw ι g v v':=fun {s u v'} he hr hv hm=>by
  simp_all
 cases op<;>simp only [DN,Bool.false_eq_true] at hq<;>simp only [FB,reduceCtorEq] at h
 case buildSlice t len ps=>grind
 case move x =>
  cases h;exact ⟨ρ' x,fun w=>rfl,hρ x (by simp [Op.operands])⟩
 case assign x =>
  cases h;exact ⟨ρ' x,fun w=>rfl,hρ x (by simp [Op.operands])⟩
 case pick c a b =>
  have hc:=hρ c (by simp [Op.operands]);split at h
  ·rename_i t hcc
   cases h;rw [hcc] at hc;have e:ρ' c=.bool t:=by generalize ρ' c=u at hc;cases hc;rfl
   refine ⟨(if t then ρ' a else ρ' b),fun w=>?_,?_⟩
   ·simp only [execOp,e,asBool,Sem.run_bind,Sem.run_pure,Result.andThen_ok]
   ·cases t
    ·exact hρ b (by simp [Op.operands])
    ·exact hρ a (by simp [Op.operands])
  ·cases h
 case binOp op t x y yt =>
  rw [ae] at h;obtain ⟨u,hu,he⟩:=h;have hx:=hρ x (by simp [Op.operands]);have hy:=hρ y (by simp [Op.operands]);have hall:∃ v',(∀ w,(do eqGuard op t x y (ρ' x) (ρ' y);binOp op t (ρ' x) (ρ' y):Sem Value).run P w=.ok v' w)∧Aw ι g u v':=by
   obtain ⟨v',hr,hv⟩:=SY hx hy hu default;refine ⟨v',fun w=>?_,hv⟩;obtain ⟨v2,hr2,hv2⟩:=SY hx hy hu w;have hp:plain u=true:=uO hu;rw [hv.BP hp];rw [hv2.BP hp] at hr2;exact hr2
  obtain ⟨v',hr,hv⟩:=hall;exact same rfl hr hv he
 case build t ps =>
  split at h
  ·rename_i z hz
   rw [ae] at h;obtain ⟨u,hu,he⟩:=h;have hp:U8 ι g (ps.map fun (i,x)=>(i,ρ x)).toList (ps.map fun (i,x)=>(i,ρ' x)).toList:=by
    rw [bB,bB];exact U8.map fun x hx=>hρ x (by simp only [Op.operands];simpa using hx)
   obtain ⟨v',hr,hv⟩:=XL hp (fun z' hz'=>by
    obtain ⟨i,zv,hi,hz1,rfl,hz3⟩:=BH hz;unfold zeroOf at hz';rw [hi] at hz';simp only [Option.bind_some] at hz';rw [hz1] at hz';cases hz';exact hz3) hu
   exact same rfl (fun w=>Ed hr w) hv he
  ·cases h
 case nilCheck x =>
  have hx:=hρ x (by simp [Op.operands]);split at h
  ·rename_i ad had
   rw [had] at hx;have hsh:∃ a',ρ' x=.pointer (some a')∧PI ι g ad a':=by generalize ρ' x=u at hx;cases hx;exact ⟨_,rfl,by assumption⟩
   obtain ⟨a',e1,har⟩:=hsh;cases h;exact ⟨.pointer (some a'),fun w=>by simp only [execOp,e1];rfl,.ptr _ _ har⟩
  ·cases h
 case unOp op t x =>
  split at h
  ·rename_i hp
   rw [ae] at h;obtain ⟨u,hu,he⟩:=h;have hx:=(hρ x (by simp [Op.operands])).BP hp;obtain ⟨h1,h2⟩:=FN hu;exact same (s:=Op.unary op (ρ' x)) rfl (fun w=>by rw [hx];exact Ed h1 w) (Aw.plain h2) he
  ·cases h
 case convert s d x =>
  have hq':(Jm P s||Jm P d)=false:=by simpa using hq
  rw [hq'] at h;simp only [Bool.false_eq_true,if_false] at h;split at h
  ·rename_i hp
   rw [ae] at h;obtain ⟨u,hu,he⟩:=h;have hx:=(hρ x (by simp [Op.operands])).BP hp;obtain ⟨h1,h2⟩:=FN hu;exact same (s:=Go.convert s d (ρ' x)) rfl (fun w=>by rw [hx];exact Ed h1 w) (Aw.plain h2) he
  ·cases h
 case makeFunc fn fs cs =>
  cases fn<;>simp only [reduceCtorEq] at h
  rename_i f;cases h;have h1:=BA.TT (ι:=ι) (g:=g) (l:=fs.toList) (fun x hx=>hρ x (by simp [Op.operands];exact .inl (by simpa using hx)));have h2:=BA.TT (ι:=ι) (g:=g) (l:=cs.toList) (fun x hx=>hρ x (by simp [Op.operands];exact .inr (by simpa using hx)));refine ⟨.func (.func f) (fs.map ρ') (cs.map ρ'),fun w=>rfl,?_⟩;have e:∀ (r:Operand→Value) (a:Array Operand),a.map r=⟨a.toList.map r⟩:=fun r a=>by apply fL;simp
  rw [e ρ fs,e ρ cs,e ρ' fs,e ρ' cs];exact .fn f _ _ _ _ h1.1 h1.2 h2.1 h2.2
 case fieldAddr s x f =>
  have hx:=hρ x (by simp [Op.operands]);split at h
  ·rename_i fs ad hu had
   rw [had] at hx;have hsh:∃ a',ρ' x=.pointer (some a')∧PI ι g ad a':=by generalize ρ' x=u at hx;cases hx;exact ⟨_,rfl,by assumption⟩
   obtain ⟨a',e1,har⟩:=hsh;split at h
   ·rename_i fd hfd
    split at h
    ·rename_i i hi
     split at h
     ·cases h
     ·rename_i hsz
      refine same (s:=Instr.fieldAt s (ρ' x) f) (v':=.pointer (some (a'.add fd.offset))) rfl (fun w=>?_) (.ptr _ _ ?_) (cd h)
      ·simp only [Instr.fieldAt,e1,Instr.sureAddr,Sem.run_bind,run_underlying hu,Sem.run_pure,Result.andThen_ok,hfd,fieldPlace,run_sizeOf' hi,if_neg hsz]
      ·obtain ⟨ib,hb,hle,hcur⟩:=har
       refine ⟨ib,hb,hle,fun e=>?_⟩;rw [hcur e,addr_add];simp only [Addr.mk.injEq,true_and,and_true];omega
    ·cases h
   ·cases h
  ·cases h
 case field t x f =>
  rw [ae] at h;obtain ⟨u,hu,he⟩:=h;obtain ⟨v',hr,hv⟩:=WM (hρ x (by simp [Op.operands])) hu;exact same rfl (fun w=>Ed hr w) hv he
 case indexAddr t x ix =>
  have hx:=hρ x (by simp [Op.operands]);have hix:=hρ ix (by simp [Op.operands]);split at h
  ·rename_i e b off len g1 k i hu hxx vP
   rw [hxx] at hx;rw [vP] at hix;have e2:ρ' ix=.int k i:=by generalize ρ' ix=u at hix;cases hix;rfl
   split at h
   ·rename_i inf hi
    split at h
    ·rename_i hb
     have hsh:∃ a' cap',ρ' x=.slice (some a') len cap'∧b2t ι g b off len g1 a' cap':=by generalize ρ' x=u at hx;cases hx;exact ⟨_,_,rfl,by assumption⟩
     obtain ⟨a',cap',e1,hsr⟩:=hsh;refine same (s:=Instr.indexAt t (ρ' x) (ρ' ix)) (v':=.pointer (some (a'.add (i.toNat*inf.size)))) rfl (fun w=>?_) (.ptr _ _ (JC hsr (fun _=>by omega) _)) (cd h);simp only [Instr.indexAt,e1,e2,asIntOf,Sem.run_bind,run_underlying hu,Sem.run_pure,Result.andThen_ok,run_sizeOf' hi,if_pos hb]
    ·cases h
   ·cases h
  ·rename_i n e ad k i hu hxx vP
   rw [hxx] at hx;rw [vP] at hix;have e2:ρ' ix=.int k i:=by generalize ρ' ix=u at hix;cases hix;rfl
   have hsh:∃ a',ρ' x=.pointer (some a')∧PI ι g ad a':=by generalize ρ' x=u at hx;cases hx;exact ⟨_,rfl,by assumption⟩
   obtain ⟨a',e1,har⟩:=hsh;split at h
   ·rename_i inf hi
    split at h
    ·rename_i hb
     refine same (s:=Instr.indexAt t (ρ' x) (ρ' ix)) (v':=.pointer (some (a'.add (i.toNat*inf.size)))) rfl (fun w=>?_) (.ptr _ _ ?_) (cd h)
     ·simp only [Instr.indexAt,e1,e2,asIntOf,Instr.sureAddr,Sem.run_bind,run_underlying hu,Sem.run_pure,Result.andThen_ok,run_sizeOf' hi,if_pos hb]
     ·obtain ⟨ib,hbb,hle,hcur⟩:=har
      refine ⟨ib,hbb,hle,fun e=>?_⟩;rw [hcur e,addr_add];simp only [Addr.mk.injEq,true_and,and_true];omega
    ·cases h
   ·cases h
  ·cases h
 case index t x ix =>
  split at h
  ·rename_i hp
   rw [ae] at h;obtain ⟨u,hu,he⟩:=h;have hix:=(hρ ix (by simp [Op.operands])).BP hp;obtain ⟨v',hr,hv⟩:=WR (hρ x (by simp [Op.operands])) hu;exact same (s:=Instr.index t (ρ' x) (ρ' ix)) rfl (fun w=>by rw [hix];exact Ed hr w) hv he
  ·cases h
 case extract t i =>
  rw [ae] at h;obtain ⟨u,hu,he⟩:=h;obtain ⟨v',hr,hv⟩:=Sv (hρ t (by simp [Op.operands])) hu;exact same rfl (fun w=>Ed hr w) hv he
 case call c =>
  obtain ⟨callee,args,aT⟩:=c;cases callee<;>simp only [reduceCtorEq,Bool.false_eq_true] at hq h
  rename_i b;have hargs:∀ x∈args,Aw ι g (ρ x) (ρ' x):=fun x hx=>hρ x (by simp [Op.operands,Call.operands,hx])
  cases b<;>simp only [reduceCtorEq,Bool.false_eq_true] at hq h
  case cap =>
   rw [ae] at h;obtain ⟨u,hu,he⟩:=h;cases he;have hp:v=.int .i64 0:=by
    unfold a6r at hu
    repeat' split at hu
    all_goals first|(cases hu;rfl)|cases hu
   subst hp;refine ⟨.int .i64 0,fun w=>?_,.int _ _⟩;rw [D7];refine He ?_;have key:∀ (ι:BJ) (g:Nat→Nat),O8 ι g (args.map ρ) (args.map ρ')→(Builtin.cap_ aT ty (args.map ρ')).run P w=.ok (.int .i64 0) w:=fun ι g har=>by
    unfold a6r at hu;split at hu
    ·rename_i t q0
     split at hu
     ·rename_i e huu
      split at hu
      ·rename_i q
       obtain ⟨x',h1,h2⟩:=har 0 _ q;cases h2;simp [Builtin.cap_,q0,h1,run_underlying huu,goInt]
      ·rename_i b o s q
       obtain ⟨x',h1,h2⟩:=har 0 _ q;cases h2;simp [Builtin.cap_,q0,h1,run_underlying huu,goInt]
      ·cases hu
     ·cases hu
    ·cases hu
   exact key ι g (O8.map hargs)
  case len =>
   rw [ae] at h;obtain ⟨u,hu,he⟩:=h;cases he;obtain ⟨h1,h2⟩:=a1d ty hq (O8.map hargs) hu;exact ⟨_,fun w=>by rw [D7];exact He (h1 w),h2⟩
  case max =>
   split at h
   ·rename_i hp
    rw [ae] at h;obtain ⟨u,hu,he⟩:=h;cases he;obtain ⟨h1,h2⟩:=FN hu;exact ⟨_,fun w=>by rw [D7,KG hargs hp];exact He (Ed h1 w),Aw.plain h2⟩
   ·cases h
  case min =>
   split at h
   ·rename_i hp
    rw [ae] at h;obtain ⟨u,hu,he⟩:=h;cases he;obtain ⟨h1,h2⟩:=FN hu;exact ⟨_,fun w=>by rw [D7,KG hargs hp];exact He (Ed h1 w),Aw.plain h2⟩
   ·cases h
end
section
variable {P:Program} {G:List Nat} {call:EI} {ops:Array Oper} {S:Nat→St} {ds:List Deferred} {rf:Option Nat} {nn:Nat}
theorem DI.YU {n:Nat} {ι ι0:BJ} {a:Act} {w w0:World} {listed:Array Bool} {jp jn:Nat} (ht:Trace P call ops S) (hcs:Dc call) (hd:DI ds P G n ops S ι0 w0 listed ι a w jp jn) {b:Nat} {ib:IB}
 (hb:ι b=some ib):b<(S jn).m.size:=by
 rcases hd.a6l b ib hb with h|⟨i,_,h1,h2,_,h3⟩
 ·exact ag h (ht.ET hcs jp jn hd.h1 hd.h1').size
 ·exact ag h3 (ht.ET hcs (i+1) jn h2 hd.h1').size
theorem OG {listed:Array Bool} {j:Nat} {o:Oper} (hcl:Closed ops listed) (hj:j<listed.size) (ho:ops[j]?=some o) (hall:∀ e∈o.after,Region.binds .any e=true→listed.getD e.on false=true) :
 Closed ops (listed.setIfInBounds j true):=by
 intro i oi hi hl e he hb;rw [DU hj];split
 ·rfl
 ·rw [DU hj] at hl
  split at hl
  ·grind
  ·exact hcl i oi hi hl e he hb
theorem FT {listed:Array Bool} {i j:Nat} (hj:j<listed.size) (h:listed.getD i false=true):(listed.setIfInBounds j true).getD i false=true:=by
 rw [DU hj];grind
theorem EK {listed:Array Bool} {i j:Nat} (hj:j<listed.size) (h:(listed.setIfInBounds j true).getD i false=false):listed.getD i false=false:=by
 cases hl:listed.getD i false with
 |false=>rfl
 |true=>rw [FT hj hl] at h;cases h
theorem MK {listed:Array Bool} {i j:Nat} (hj:j<listed.size) (h:(listed.setIfInBounds j true).getD i false=false):i≠j:=fun e=>by
 simp_all
theorem Trace.apart (ht:Trace P call ops S) (hcs:Dc call) {i k b:Nat} (hi:i<ops.size) (hk:k<ops.size) (hne:i≠k) (h1:(S i).m.size≤b) (h2:b<(S (i+1)).m.size):¬ ((S k).m.size≤b∧b<(S (k+1)).m.size):=fun ⟨h3,h4⟩=>by
 rcases ax i k with h|h
 ·have:=(ht.ET hcs (i+1) k (by omega) (by omega)).size;omega
 ·have:=(ht.ET hcs (k+1) i (by omega) (by omega)).size;omega
theorem jd {n:Nat} {ι ι0:BJ} {a:Act} {w w0:World} {listed:Array Bool} {jp jn j:Nat} {o:Oper} (ht:Trace P call ops S) (hcs:Dc call) (hdr:GU ops=true)
 (hd:DI ds P G n ops S ι0 w0 listed ι a w jp jn) (hG:∀ k,k∈G→k<(S 0).m.size) (ho:ops[j]?=some o) (G9:listed.getD j false=false)
 (hall:∀ e∈o.after,Region.binds .any e=true→listed.getD e.on false=true) (hop:∀ x∈o.op.operands,Gn G x=true) :
 ∀ x∈o.op.operands,Aw (cut ι (S (max j jp)).m.size) (S jn).m.gen (ev (S j).t x) (a.eval x):=by
 intro x hx;have hjlt:j<ops.size:=(al.1 ho).1;cases x with
 |tmp t =>
  refine au ht hcs hdr ho hd G9 hall (t:=t) ?_;refine cx _ ?_;rw [List.mem_filterMap];exact ⟨.tmp t,by grind,rfl⟩
 |const v=>exact Aw.plain (hop _ hx)
 |global k =>
  have hk:k∈G:=by simpa [Gn] using hop _ hx
  obtain ⟨ib,h1,h2,h3,h4,h5⟩:=(hd.jK jn hd.h1 (ab _)).glob k hk;have hlt:=ag (hG k hk) (ht.ET hcs 0 (max j jp) (aq _) (by have:=hd.h1;have:=hd.h1';omega)).size;exact .ptr _ _ ⟨ib,by rw [Ei hlt];exact (CX h1).2,aq _,fun _=>by grind⟩
 |func f=>exact .fn f [] [] [] [] rfl (fun i hi=>absurd hi (by simp)) rfl (fun i hi=>absurd hi (by simp))
theorem a2y {n:Nat} {ι ι0:BJ} {a:Act} {w w0:World} {listed:Array Bool} {jp jn j:Nat} {o:Oper} (ht:Trace P call ops S) (hcs:Dc call) (hdr:GU ops=true)
 (hd:DI ds P G n ops S ι0 w0 listed ι a w jp jn) (ho:ops[j]?=some o) (G9:listed.getD j false=false)
 (hall:∀ e∈o.after,Region.binds .any e=true→listed.getD e.on false=true):Region.wanted o (yielded ops a.tmps)=Region.wanted o (Eh ops (S j).t):=by
 unfold Region.wanted;cases hg:o.guard with
 |none=>rfl
 |some p =>
  obtain ⟨k,b⟩:=p;have key:yielded ops a.tmps k=Eh ops (S j).t k:=by
   unfold yielded Eh;cases hdk:(ops[k]?).bind (·.dst) with
   |none=>rfl
   |some d =>
    simp only [Option.bind_some];have hv:=au ht hcs hdr ho hd G9 hall (t:=d) (by
     unfold Oper.looksAt;grind)
    cases ha:a.tmps[d]? with
    |none =>
     have e:a.tmps.getD d undef=undef:=by grind
     rw [e] at hv;have:∀ b,Cj (S j).t d≠.bool b:=fun b hb=>by
      have:=(hv.JZ b).1 hb;cases this
     simp
    |some u =>
     have e:a.tmps.getD d undef=u:=by simp [ha]
     rw [e] at hv;split
     ·rename_i b hb
      cases hb;have:=(hv.JZ b).2 rfl;grind
     ·rename_i hne
      split
      ·rename_i b hb
       have:=(hv.JZ b).1 hb;simp_all
      ·rfl
  grind
theorem DI.still {n:Nat} {ι ι0:BJ} {a:Act} {w w0:World} {listed:Array Bool} {jp jn j:Nat} {o:Oper} {v':Value} (hcs:Dc call) (ht:Trace P call ops S) (hdr:GU ops=true)
 (hd:DI ds P G n ops S ι0 w0 listed ι a w jp jn) (ho:ops[j]?=some o) (G9:listed.getD j false=false) (hall:∀ e∈o.after,Region.binds .any e=true→listed.getD e.on false=true)
 (hdn:∀ d,o.dst=some d→d<n) (hnb:Et P ops j=false)
 (hv:∀ d,o.dst=some d→Aw (cut ι (S (max (j+1) jp)).m.size) (S jn).m.gen (Cj (S (j+1)).t d) v') :
 DI ds P G n ops S ι0 w0 (listed.setIfInBounds j true) ι (a.put o.dst v') w jp jn:=by
 have hjlt:j<ops.size:=(al.1 ho).1;have hj':j<listed.size:=by rw [hd.xC];omega
 obtain ⟨v1,v0⟩:=Q5 hcs (ab jp) (an hd.h1 hd.h1') ht hdr ho hd.xC G9 hd.tsz hdn (fun x=>Le.refl _ _) hv hd.v1 hd.v0;refine ⟨by simpa using hd.xC,OG hd.cl hj' ho hall,hd.h1,hd.h1',hd.h2,?_,fun k hk htk hnk=>FT hj' (hd.h4 k hk htk hnk),hd.jK,?_,?_,?_,v1,v0,hd.le,hd.back,hd.a0r,hd.heap,hd.frame,hd.tape,hd.os,hd.output,
  fun b ib k hb hk hl=>hd.XE b ib k hb hk (EK hj' hl),fun k hk hn hl=>hd.eF k hk hn (EK hj' hl)⟩
 ·rcases hd.h3 with h|⟨h1,h2⟩
  ·omega
  ·refine .inr ⟨h1,?_⟩
   rw [DU hj',if_neg (fun e=>by grind)];omega
 ·intro b ib hb
  rcases hd.a6l b ib hb with h|⟨i,h1,h2⟩
  ·omega
  ·exact .inr ⟨i,FT hj' h1,h2⟩
 ·cases hdd:o.dst<;>simp [Act.put,hd.tsz]
 ·cases hdd:o.dst<;>simp [Act.put,hd.a0j]
theorem DI.quiet {n:Nat} {ι ι0 ι1:BJ} {a:Act} {w w0 w':World} {listed:Array Bool} {jp jn j:Nat} {o:Oper} {v v':Value} {m':Mem} {y:Nat} (ht:Trace P call ops S) (hcs:Dc call) (hdr:GU ops=true)
 (hd:DI ds P G n ops S ι0 w0 listed ι a w jp jn) (ho:ops[j]?=some o) (G9:listed.getD j false=false) (hall:∀ e∈o.after,Region.binds .any e=true→listed.getD e.on false=true)
 (hdn:∀ d,o.dst=some d→d<n) (hjp:jp≤j) (hjn:j<jn) (hm':(S (j+1)).m=EW m' y) (hlow:(S j).m.size≤m'.low) (hstep:AO (EW (S j).m (S j).m.size) m')
 (xk:∀ d,o.dst=some d→Cj (S (j+1)).t d=v)
 (hext:Ext (cut ι (S j).m.size) (EW (S j).m (S j).m.size) w ι1 m' w') (Dv:DL P G ι1 m' w') (PE:Aw ι1 m'.gen v v') :
 ∃ ι',DI ds P G n ops S ι0 w0 (listed.setIfInBounds j true) ι' (a.put o.dst v') w' jp jn:=by
 have hjlt:j<ops.size:=(al.1 ho).1;have hj':j<listed.size:=by rw [hd.xC];omega
 have hsz1:(S (j+1)).m.size=m'.size:=by rw [hm'];rfl
 have fU:∀ b,(S (j+1)).m.get b=m'.get b:=fun b=>by rw [hm'];rfl
 have hgj:∀ b,b<(S j).m.size→m'.get b=(S j).m.get b:=fun b hb=>hstep.keep b hb (ag hb hlow)
 let ι':BJ:=fun b=>if (S j).m.size≤b∧b<(S (j+1)).m.size then ι1 b else ι b
 have hnew:∀ b,(S j).m.size≤b→b<(S (j+1)).m.size→ι' b=ι1 b:=fun b h1 h2=>if_pos ⟨h1,h2⟩
 have hold:∀ b,¬ ((S j).m.size≤b∧b<(S (j+1)).m.size)→ι' b=ι b:=fun b h=>if_neg h
 have f1:∀ b,b<(S j).m.size→ι1 b=ι b:=fun b hb=>by
  cases hib:ι b with
  |some ib =>
   have hc:cut ι (S j).m.size b=some ib:=by rw [Ei hb];omega
   obtain ⟨_,ib',h2,h3⟩:=hext.le b ib hc;have hg:m'.gen b=(EW (S j).m (S j).m.size).gen b:=CS (hgj b hb);grind
  |none =>
   cases hi1:ι1 b with
   |none=>rfl
   |some ib =>
    rcases hext.dom b ib hi1 with ⟨Yb,h⟩|h
    ·have:=(CX h).2;grind
    ·exact absurd hb (by show ¬ _;exact Nat.not_lt.2 h)
 have f2:∀ b,(S j).m.size≤b→b<(S (j+1)).m.size→ι b=none:=fun b h1 h2=>by
  cases hib:ι b with
  |none=>rfl
  |some ib=>exact absurd ⟨h1,h2⟩ (hd.XE b ib j hib hjlt G9)
 have Xm:∀ b ib,ι b=some ib→ι' b=some ib:=fun b ib hb=>by
  grind
 have f3:∀ b,cut ι' (S (j+1)).m.size b=ι1 b:=fun b=>by
  by_cases h1:b<(S (j+1)).m.size
  ·rw [Ei h1]
   grind
  ·have:cut ι' (S (j+1)).m.size b=none:=if_neg h1
   rw [this];cases hi1:ι1 b with
   |none=>rfl
   |some ib=>exact absurd (Dv.dom b ib hi1).1 (by omega)
 have f5:∀ c,c<w.heap.size→w'.heap[c]?=w.heap[c]?:=fun c hc=>hext.frame c hc fun b ib hb _=>.inr (ag (CX hb).1 hlow)
 have b9l:∀ b,b<(S (j+1)).m.size→(S jn).m.gen b=m'.gen b:=fun b hb=>by
  have:=ht.IZ hcs (j+1) jn (by omega) hd.h1' (fun k h1 h2=>hd.h2 k (by omega) h2) b hb;rw [CS this];exact CS (fU b)
 have hle1:∀ i',j+1≤i'→i'≤jn→Le ι1 m'.gen (cut ι' (S i').m.size) (S i').m.gen:=fun i' h1 h2 b ib hb=>by
  have hbl:b<(S (j+1)).m.size:=by rw [hsz1];exact (Dv.dom b ib hb).1
  have hsi:=(ht.ET hcs (j+1) i' h1 (by have:=hd.h1';omega)).size;have hq:=ht.IZ hcs (j+1) i' h1 (by have:=hd.h1';omega) (fun k q1 q2=>hd.h2 k (by omega) (by omega)) b hbl;refine ⟨by rw [CS hq,CS (fU b)];exact ab _,ib,?_,fun _=>rfl⟩;rw [Ei (by omega),← hb,← f3 b,Ei hbl]
 have a9r:∀ x g,Le (cut ι x) g (cut ι' x) g:=fun x g b ib hb=>by
  obtain ⟨h1,h2⟩:=CX hb;exact ⟨ab _,ib,by rw [Ei h1];exact Xm b ib h2,fun _=>rfl⟩
 have a5f:∀ i',jp≤i'→i'≤jn→DL P G (cut ι' (S i').m.size) (S i').m w':=fun i' h1 h2=>by
  have hs:=hd.jK i' h1 h2;by_cases hij:i'≤j
  ·refine (hs.world hext.heap f5).congr fun b=>?_
   by_cases hb:b<(S i').m.size
   ·rw [Ei hb,Ei hb]
    refine hold b fun h=>?_
    have:=(ht.ET hcs i' j hij (by omega)).size;omega
   ·exact (if_neg hb).trans (if_neg hb).symm
  ·have hi1:j+1≤i':=by omega
   have hin:i'≤ops.size:=by have:=hd.h1';omega
   have hsi:=(ht.ET hcs (j+1) i' hi1 hin).size;have hq:∀ b,b<(S (j+1)).m.size→(S i').m.get b=m'.get b:=fun b hb =>
    (ht.IZ hcs (j+1) i' hi1 hin (fun k q1 q2=>hd.h2 k (by omega) (by omega)) b hb).trans (fU b)
   have LH:∀ b ib,cut ι' (S i').m.size b=some ib→((S j).m.size≤b∧b<(S (j+1)).m.size∧ι1 b=some ib∧w.heap.size≤ib.blk)∨cut ι (S i').m.size b=some ib:=fun b ib hb=>by
    obtain ⟨hb1,hb2⟩:=CX hb;by_cases hn:(S j).m.size≤b∧b<(S (j+1)).m.size
    ·rw [hnew b hn.1 hn.2] at hb2
     refine .inl ⟨hn.1,hn.2,hb2,?_⟩;rcases hext.back b ib hb2 with ⟨Yb,h,_⟩|h
     ·have:=(CX h).1;omega
     ·exact h
    ·rw [hold b hn] at hb2
     exact .inr (by rw [Ei hb1];exact hb2)
   refine ⟨fun b ib hb=>?_,fun b ib hb=>?_,fun b b' ib ib' hb hb' he=>?_,fun k hk=>?_⟩
   ·refine ⟨(CX hb).1,?_⟩
    rcases LH b ib hb with ⟨_,_,h,_⟩|h
    ·exact (Dv.dom b ib h).2
    ·exact ag (hs.dom b ib h).2 hext.heap
   ·rcases LH b ib hb with ⟨_,hb2,h,_⟩|h
    ·rw [hq b hb2]
     exact (Dv.blk b ib h).mono (hle1 i' hi1 h2)
    ·rw [f5 _ (hs.dom b ib h).2]
     exact (hs.blk b ib h).mono (a9r _ _)
   ·rcases LH b ib hb with ⟨p1,p2,p3,p4⟩|p
    ·rcases LH b' ib' hb' with ⟨q1,q2,q3,q4⟩|q
     ·rcases Dv.inj b b' ib ib' p3 q3 he with h|⟨r1,r2⟩
      ·exact .inl h
      ·exact .inr ⟨by rw [Fe (hq b p2)];exact r1,by rw [Fe (hq b' q2)];exact r2⟩
     ·have:=(hs.dom b' ib' q).2;omega
    ·rcases LH b' ib' hb' with ⟨q1,q2,q3,q4⟩|q
     ·have:=(hs.dom b ib p).2;omega
     ·exact hs.inj b b' ib ib' p q he
   ·obtain ⟨ib,q1,q2,q3,q4,q5⟩:=hs.glob k hk
    obtain ⟨r1,r2⟩:=CX q1;exact ⟨ib,by rw [Ei r1];exact Xm k ib r2,q2,q3,q4,q5⟩
 obtain ⟨v1,v0⟩:=Q5 (v':=v') hcs (ab jp) (an hd.h1 hd.h1') ht hdr ho hd.xC G9 hd.tsz hdn (fun x=>a9r x (S jn).m.gen) (fun d hdd=>by
  rw [xk d hdd,Nat.max_eq_left (by omega)];refine PE.mono fun b ib hb=>?_
  have hbl:b<(S (j+1)).m.size:=by rw [hsz1];exact (Dv.dom b ib hb).1
  exact ⟨by rw [b9l b hbl];exact ab _,ib,by rw [f3];exact hb,fun _=>rfl⟩) hd.v1 hd.v0
 refine ⟨ι',by simpa using hd.xC,OG hd.cl hj' ho hall,hd.h1,hd.h1',hd.h2,?_,fun k hk htk hnk=>FT hj' (hd.h4 k hk htk hnk),a5f,?_,?_,?_,v1,v0,?_,?_,?_,an hd.heap hext.heap,
  fun c hc hf=>(f5 c (ag hc hd.heap)).trans (hd.frame c hc hf),hext.tape.trans hd.tape,hext.os.trans hd.os,hext.output.trans hd.output,fun b ib k hb hk hl=>?_,fun k hk hn hl=>hd.eF k hk hn (EK hj' hl)⟩
 ·rcases hd.h3 with h|⟨h1,h2⟩
  ·exact .inl h
  ·refine .inr ⟨h1,?_⟩
   rw [DU hj',if_neg (by omega)];exact h2
 ·intro b ib hb
  by_cases hn:(S j).m.size≤b∧b<(S (j+1)).m.size
  ·exact .inr ⟨j,by rw [DU hj',if_pos rfl],hjp,hjn,hn.1,hn.2⟩
  ·rw [hold b hn] at hb
   rcases hd.a6l b ib hb with h|⟨i,h1,h2⟩
   ·exact .inl h
   ·exact .inr ⟨i,FT hj' h1,h2⟩
 ·cases hdd:o.dst<;>simp [Act.put,hd.tsz]
 ·cases hdd:o.dst<;>simp [Act.put,hd.a0j]
 ·exact hd.le.trans fun b ib hb=>⟨ab _,ib,Xm b ib hb,fun _=>rfl⟩
 ·intro b ib hb
  by_cases hn:(S j).m.size≤b∧b<(S (j+1)).m.size
  ·rw [hnew b hn.1 hn.2] at hb
   rcases hext.back b ib hb with ⟨Yb,h,_⟩|h
   ·have:=(CX h).1;omega
   ·exact .inr (an hd.heap h)
  ·rw [hold b hn] at hb
   exact hd.back b ib hb
 ·intro b ib hb
  by_cases hn:(S j).m.size≤b∧b<(S (j+1)).m.size
  ·exact .inr (an (ht.ET hcs 0 j (aq _) (by omega)).size hn.1)
  ·rw [hold b hn] at hb
   exact hd.a0r b ib hb
 ·by_cases hn:(S j).m.size≤b∧b<(S (j+1)).m.size
  ·exact ht.apart hcs hjlt hk (Ne.symm (MK hj' hl)) hn.1 hn.2
  ·rw [hold b hn] at hb
   exact hd.XE b ib k hb hk (EK hj' hl)
theorem zA (ops:Array Oper) (k:Nat) (hk:k≤ops.size):∃ jn,k≤jn∧jn≤ops.size∧(∀ i,k≤i→i<jn→Et P ops i=false)∧(jn=ops.size∨Et P ops jn=true):=by
 generalize hd:ops.size-k=d
 induction d generalizing k with
 |zero=>exact ⟨ops.size,hk,ab _,fun i h1 h2=>by omega,.inl rfl⟩
 |succ d ih =>
  cases hb:Et P ops k with
  |true=>grind
  |false =>
   obtain ⟨jn,h1,h2,h3,h4⟩:=ih (k+1) (by omega) (by omega);grind
theorem DI.bar {n:Nat} {ι ι0 ι1:BJ} {a:Act} {w w0 w':World} {listed:Array Bool} {jp j:Nat} {o:Oper} {v v':Value} {m':Mem} {y:Nat} (ht:Trace P call ops S) (hcs:Dc call) (hdr:GU ops=true)
 (hd:DI ds P G n ops S ι0 w0 listed ι a w jp j) (ho:ops[j]?=some o) (G9:listed.getD j false=false) (hall:∀ e∈o.after,Region.binds .any e=true→listed.getD e.on false=true)
 (hdn:∀ d,o.dst=some d→d<n) (hb0:∀ b ib,ι0 b=some ib→b<(S 0).m.size) (hbar:Et P ops j=true) (hm':(S (j+1)).m=EW m' y) (hy:y≤m'.low)
 (xk:∀ d,o.dst=some d→Cj (S (j+1)).t d=v)
 (hkeep:∀ k,k<j→Ib ops k=true→listed.getD k false=false→∀ b,(S k).m.size≤b→b<(S (k+1)).m.size→(S (j+1)).m.get b=(S j).m.get b)
 (hext:Ext (cut ι (S j).m.size) (EW (S j).m (S j).m.size) w ι1 m' w') (Dv:DL P G ι1 m' w') (PE:Aw ι1 m'.gen v v') :
 ∃ ι' jp' jn',DI ds P G n ops S ι0 w0 (listed.setIfInBounds j true) ι' (a.put o.dst v') w' jp' jn':=by
 have hjlt:j<ops.size:=(al.1 ho).1;have hj':j<listed.size:=by rw [hd.xC];omega
 have hsz1:(S (j+1)).m.size=m'.size:=by rw [hm'];rfl
 have fU:∀ b,(S (j+1)).m.get b=m'.get b:=fun b=>by rw [hm'];rfl
 obtain ⟨hback,_⟩:=GX hdr;obtain ⟨a0n,b7j⟩:=Iu hbar;obtain ⟨jn,n1,n2,n3,n4⟩:=zA ops (j+1) (by omega);have a5l:∀ b,b<(S (j+1)).m.size→(S jn).m.get b=m'.get b:=fun b hb=>(ht.IZ hcs (j+1) jn n1 n2 (fun k h1 h2=>n3 k h1 h2) b hb).trans (fU b)
 have hdl:∀ b ib,ι1 b=some ib→b<(S (j+1)).m.size:=fun b ib hb=>by rw [hsz1];exact (Dv.dom b ib hb).1
 have hLow:(S ops.size).m.low≤m'.low:=by
  have h1:=(ht.ET hcs (j+1) ops.size (by omega) (ab _)).low;have h2:(S (j+1)).m.low=y:=by rw [hm'];rfl
  omega
 have c5g:∀ x,Le (cut ι x) (S j).m.gen (cut ι1 x) (S jn).m.gen:=fun x b ib hb=>by
  obtain ⟨h1,h2⟩:=CX hb;have hbj:=hd.YU ht hcs h2;obtain ⟨q1,ib',q2,q3⟩:=hext.le b ib (by rw [Ei hbj];exact h2);have hg:(S jn).m.gen b=m'.gen b:=CS (a5l b (hdl b ib' q2));exact ⟨by rw [hg];exact q1,ib',by rw [Ei h1];exact q2,fun e=>q3 (by rw [← hg];exact e)⟩
 obtain ⟨v1,v0⟩:=Q5 (v':=v') (jp':=j+1) hcs (by have:=hd.h1;omega) (by omega) ht hdr ho hd.xC G9 hd.tsz hdn c5g (fun d hdd=>by
  rw [xk d hdd,Nat.max_self];refine PE.mono fun b ib hb=>?_
  have hbl:=hdl b ib hb;exact ⟨by rw [CS (a5l b hbl)];exact ab _,ib,by rw [Ei hbl];exact hb,fun _=>rfl⟩) hd.v1 hd.v0
 refine ⟨ι1,j+1,jn,by simpa using hd.xC,OG hd.cl hj' ho hall,n1,n2,n3,?_,?_,?_,fun b ib hb=>.inl (hdl b ib hb),?_,?_,v1,v0,?_,?_,?_,an hd.heap hext.heap,?_,
  hext.tape.trans hd.tape,hext.os.trans hd.os,hext.output.trans hd.output,fun b ib k hb hk hl=>?_,fun k hk hn hl b h1 h2=>?_⟩
 ·rcases n4 with h|h
  ·exact .inl h
  ·refine .inr ⟨h,?_⟩
   rw [DU hj',if_neg (by omega)];cases hl:listed.getD jn false with
   |false=>rfl
   |true =>
    obtain ⟨t1,t2⟩:=Iu h;have hbit:=((t2 j (by omega) a0n).1 (by omega)).resolve_left (by rw [Ti hbar];simp);obtain ⟨on,hon⟩:=getOp (ops:=ops) (i:=jn) (by
     rcases ax jn ops.size with h|h
     ·exact h
     ·unfold Et at *
      rename_i hbb;rw [Array.getElem?_eq_none h] at hbb;cases hbb)
    have:=Ee hd.cl hback jn on j hon (hd.cl jn on hon hl) hbit;rw [G9] at this;cases this
 ·intro k hk htk hnk
  by_cases e:k=j
  ·subst e;rw [DU hj',if_pos rfl]
  ·refine FT hj' ?_
   exact Ee hd.cl hback j o k ho hall (((b7j k e htk).1 (by omega)).resolve_left (by rw [hnk];simp))
 ·intro i' h1 h2
  have hsi:=(ht.ET hcs (j+1) i' h1 (by omega)).size;have hq:∀ b,b<(EW m' y).size→(S i').m.get b=(EW m' y).get b:=fun b hb=>by
   have hb':b<(S (j+1)).m.size:=by rw [hsz1];exact hb
   exact (ht.IZ hcs (j+1) i' h1 (by omega) (fun k q1 q2=>n3 k q1 (by omega)) b hb').trans (fU b)
  refine ((Dv.low y).extend (m2:=(S i').m) (by rw [← hm'];exact hsi) hq).congr fun b=>?_
  cases hib:ι1 b with
  |none =>
   unfold cut;split
   ·exact hib
   ·rfl
  |some ib=>rw [Ei (ag (hdl b ib hib) hsi)];exact hib
 ·cases hdd:o.dst<;>simp [Act.put,hd.tsz]
 ·cases hdd:o.dst<;>simp [Act.put,hd.a0j]
 ·refine hd.le.trans fun b ib hb=>?_
  have hbj:=hd.YU ht hcs hb;obtain ⟨q1,ib',q2,q3⟩:=hext.le b ib (by rw [Ei hbj];exact hb);have hg:(S jn).m.gen b=m'.gen b:=CS (a5l b (hdl b ib' q2));exact ⟨by rw [hg];exact q1,ib',q2,fun e=>q3 (by rw [← hg];exact e)⟩
 ·intro b ib' hb
  rcases hext.back b ib' hb with ⟨ib,h1,h2⟩|h
  ·rcases hd.back b ib (CX h1).2 with ⟨Yb,h3,h4⟩|h3
   ·exact .inl ⟨Yb,h3,h4.trans h2⟩
   ·exact .inr (h2▸h3)
  ·exact .inr (an hd.heap h)
 ·intro b ib' hb
  rcases hext.dom b ib' hb with ⟨ib,h1⟩|h
  ·exact hd.a0r b ib (CX h1).2
  ·exact .inr (an (ht.ET hcs 0 j (aq _) (by omega)).size h)
 ·intro c hc hf
  rw [hext.frame c (ag hc hd.heap) ?_,hd.frame c hc hf];intro b ib hb he;rcases hd.back b ib (CX hb).2 with ⟨Yb,h3,h4⟩|h3
  ·rcases hf b Yb h3 (h4.trans he) with h5|h5
   ·refine .inl ?_
    show (S j).m.ro b=true;rw [(ht.ET hcs 0 j (aq _) (by omega)).ro' b (hb0 b Yb h3)];exact h5
   ·exact .inr (ag h5 hLow)
  ·omega
 ·have hlk:=EK hj' hl
  have hne:=MK hj' hl;rcases hext.dom b ib hb with ⟨Yb,h1⟩|h
  ·exact hd.XE b Yb k (CX h1).2 hk hlk
  ·exact ht.apart hcs hjlt hk (Ne.symm hne) h (hdl b ib hb)
 ·have hlk:=EK hj' hl
  have hne:=MK hj' hl;have hkj:k<j:=by omega
  rw [hkeep k hkj hn hlk b h1 h2];rcases ax k jp with h|h
  ·rw [← hd.eF k h hn hlk b h1 h2]
   exact ht.IZ hcs jp j hd.h1 (by omega) (fun q q1 q2=>hd.h2 q q1 q2) b (ag h2 (ht.ET hcs (k+1) jp (by omega) (by have:=hd.h1;omega)).size)
  ·exact ht.IZ hcs (k+1) j (by omega) (by omega) (fun q q1 q2=>hd.h2 q (by omega) q2) b h2
theorem DI.late {n:Nat} {ι ι0:BJ} {a:Act} {w w0:World} {listed:Array Bool} {jp jn j:Nat} {o:Oper} {v:Value} {m':Mem} {y:Nat} (ht:Trace P call ops S) (hcs:Dc call) (hdr:GU ops=true)
 (hd:DI ds P G n ops S ι0 w0 listed ι a w jp jn) (ho:ops[j]?=some o) (G9:listed.getD j false=false) (hall:∀ e∈o.after,Region.binds .any e=true→listed.getD e.on false=true)
 (hdn:∀ d,o.dst=some d→d<n) (hjp:j<jp) (hn:MV o.op=true) (hv:BO P call (ev (S j).t) o (EW (S j).m (S j).m.size)=some (v,m')) (hm':(S (j+1)).m=EW m' y)
 (xk:∀ d,o.dst=some d→Cj (S (j+1)).t d=v) (hρ:∀ x∈o.op.operands,Aw (cut ι (S (max j jp)).m.size) (S jn).m.gen (ev (S j).t x) (a.eval x)) :
 ∃ v' w' ι',(execOp a.eval o).run P w=.ok (.value v') w'∧DI ds P G n ops S ι0 w0 (listed.setIfInBounds j true) ι' (a.put o.dst v') w' jp jn:=by
 have hjlt:j<ops.size:=(al.1 ho).1;have hj':j<listed.size:=by rw [hd.xC];omega
 have hpn:=hd.h1;have hno:=hd.h1';obtain ⟨l,e,len,hvv,hmm,hrun⟩:=V5 hn hv;rw [Nat.max_eq_right (by omega)] at hρ;obtain ⟨cs',hl,hcap,hrun⟩:=hrun _ _ _ hρ;have hnews:Ib ops j=true:=by unfold Ib;grind
 obtain ⟨b0,hb0⟩:∃ b0,b0=(S j).m.size:=⟨_,rfl⟩
 have hs1:(S (j+1)).m.size=b0+1:=by rw [hm',hmm,hb0];rfl
 have hg1:(S (j+1)).m.get b0=.cells l e 0 false:=by
  rw [hm',hmm];show (Mem.alloc (EW (S j).m (S j).m.size) (.cells l e 0 false)).get b0=_;rw [Mem.Bh,if_pos (by rw [hb0];rfl)]
 have hsp:∀ i',jp≤i'→i'≤jn→b0<(S i').m.size:=fun i' h1 h2=>by
  have:=(ht.ET hcs (j+1) i' (by omega) (by omega)).size;omega
 have hq:∀ i',jp≤i'→i'≤jn→∀ b,b<(S jp).m.size→(S i').m.get b=(S jp).m.get b:=fun i' h1 h2=>ht.IZ hcs jp i' h1 (by omega) (fun k q1 q2=>hd.h2 k q1 (by omega))
 have hgi:∀ i',jp≤i'→i'≤jn→(S i').m.get b0=.cells l e 0 false:=fun i' h1 h2=>by
  rw [hq i' h1 h2 b0 (hsp jp (ab _) hpn),hd.eF j hjp hnews G9 b0 (by omega) (by omega),hg1]
 have hfree:ι b0=none:=by
  cases hib:ι b0 with
  |none=>rfl
  |some ib=>exact absurd ⟨by omega,by omega⟩ (hd.XE b0 ib j hib hjlt G9)
 let Yb:IB:=⟨w.heap.size,0,cs'.size,P.cellsOf e⟩
 let ι':BJ:=fun b=>if b=b0 then some Yb else ι b
 have hnew:ι' b0=some Yb:=if_pos rfl;have hold:∀ b,b≠b0→ι' b=ι b:=fun b h=>if_neg h
 have Xm:∀ b ib,ι b=some ib→ι' b=some ib:=fun b ib hb=>by
  rw [hold b (fun h=>by rw [h,hfree] at hb;cases hb)];exact hb
 have a9r:∀ x g,Le (cut ι x) g (cut ι' x) g:=fun x g b ib hb=>by
  obtain ⟨h1,h2⟩:=CX hb;exact ⟨ab _,ib,by rw [Ei h1];exact Xm b ib h2,fun _=>rfl⟩
 obtain ⟨w',hw'⟩:∃ w':World,w'={ w with heap:=w.heap.push (.cells cs' e (0,0)) }:=⟨_,rfl⟩
 have hheap:w.heap.size≤w'.heap.size:=by rw [hw'];simp only [Array.size_push];omega
 have f5:∀ c,c<w.heap.size→w'.heap[c]?=w.heap[c]?:=fun c hc=>by
  rw [hw'];show (w.heap.push _)[c]?=w.heap[c]?;rw [fk,if_neg (by omega)]
 have a5f:∀ i',jp≤i'→i'≤jn→DL P G (cut ι' (S i').m.size) (S i').m w':=fun i' h1 h2=>by
  have hs:=hd.jK i' h1 h2;have LH:∀ b ib,cut ι' (S i').m.size b=some ib→(b=b0∧ib=Yb)∨cut ι (S i').m.size b=some ib:=fun b ib hb=>by
   obtain ⟨q1,q2⟩:=CX hb;by_cases e:b=b0
   ·rw [e,hnew] at q2;cases q2;exact .inl ⟨e,rfl⟩
   ·rw [hold b e] at q2;exact .inr (by rw [Ei q1];exact q2)
  refine ⟨fun b ib hb=>?_,fun b ib hb=>?_,fun b b' ib ib' hb hb' he=>?_,fun k hk=>?_⟩
  ·refine ⟨(CX hb).1,?_⟩
   rcases LH b ib hb with ⟨_,q⟩|q
   ·rw [q,hw'];show w.heap.size<(w.heap.push _).size;simp
   ·exact ag (hs.dom b ib q).2 hheap
  ·rcases LH b ib hb with ⟨q1,q2⟩|q
   ·have a2x:w'.heap[ib.blk]?=some (.cells cs' e (0,0)):=by
     rw [q2,hw'];show (w.heap.push _)[w.heap.size]?=_;simp
    rw [a2x,q1,hgi i' h1 h2,q2];refine ⟨fun _=>rfl,rfl,rfl,fun i hi=>?_,fun _ j _=>by simp⟩;obtain ⟨u,u1,u2⟩:=hl i hi;refine ⟨u,by simpa [Yb] using u1,u2.mono fun b ib hb=>?_⟩;obtain ⟨r1,r2⟩:=CX hb;have hsz:=(ht.ET hcs jp i' h1 (by omega)).size;have e1:=CS (hq i' h1 h2 b r1);have e2:=CS (hq jn hpn (ab _) b r1);exact ⟨by rw [e1,e2];exact ab _,ib,by rw [Ei (by omega)];exact Xm b ib r2,fun _=>rfl⟩
   ·rw [f5 _ (hs.dom b ib q).2]
    exact (hs.blk b ib q).mono (a9r _ _)
  ·rcases LH b ib hb with ⟨p1,p2⟩|p
   ·rcases LH b' ib' hb' with ⟨q1,q2⟩|q
    ·exact .inl (p1.trans q1.symm)
    ·have:=(hs.dom b' ib' q).2
     rw [p2] at he;simp only [Yb] at he;omega
   ·rcases LH b' ib' hb' with ⟨q1,q2⟩|q
    ·have:=(hs.dom b ib p).2
     rw [q2] at he;simp only [Yb] at he;omega
    ·exact hs.inj b b' ib ib' p q he
  ·obtain ⟨ib,q1,q2,q3,q4,q5⟩:=hs.glob k hk
   obtain ⟨r1,r2⟩:=CX q1;exact ⟨ib,by rw [Ei r1];exact Xm k ib r2,q2,q3,q4,q5⟩
 obtain ⟨v1,v0⟩:=Q5 (v':=.slice (some ⟨w.heap.size,0,none⟩) len len) hcs (ab jp) (an hd.h1 hd.h1') ht hdr ho hd.xC G9 hd.tsz hdn (fun x=>a9r x (S jn).m.gen) (fun d hdd=>by
  rw [xk d hdd,hvv];refine .sl _ _ _ _ _ _ ⟨Yb,?_,aq _,ab _,fun _=>⟨rfl,rfl,.inr ⟨rfl,?_⟩⟩⟩
  ·have:(EW (S j).m (S j).m.size).size=b0:=hb0.symm
   show cut ι' _ (EW (S j).m (S j).m.size).size=_;rw [this,Ei (by have:=hsp jp (ab _) hpn;rw [Nat.max_eq_right (by omega)];exact this)];exact hnew
  ·simpa [Yb] using hcap) hd.v1 hd.v0
 refine ⟨_,w',ι',by rw [hw'];exact hrun w,by simpa using hd.xC,OG hd.cl hj' ho hall,hd.h1,hd.h1',hd.h2,?_,fun k hk htk hnk=>FT hj' (hd.h4 k hk htk hnk),a5f,?_,?_,?_,v1,v0,?_,?_,?_,an hd.heap hheap,
  fun c hc hf=>(f5 c (ag hc hd.heap)).trans (hd.frame c hc hf),by rw [hw'];exact hd.tape,by rw [hw'];exact hd.os,by rw [hw'];exact hd.output,fun b ib k hb hk hlk=>?_,fun k hk hnk hlk=>hd.eF k hk hnk (EK hj' hlk)⟩
 ·rcases hd.h3 with h|⟨h1,h2⟩
  ·exact .inl h
  ·refine .inr ⟨h1,?_⟩
   rw [DU hj',if_neg (by omega)];exact h2
 ·intro b ib hb
  by_cases e:b=b0
  ·exact .inl (by rw [e];exact hsp jp (ab _) hpn)
  ·rw [hold b e] at hb
   rcases hd.a6l b ib hb with h|⟨i,h1,h2⟩
   ·exact .inl h
   ·exact .inr ⟨i,FT hj' h1,h2⟩
 ·cases hdd:o.dst<;>simp [Act.put,hd.tsz]
 ·cases hdd:o.dst<;>simp [Act.put,hd.a0j]
 ·exact hd.le.trans fun b ib hb=>⟨ab _,ib,Xm b ib hb,fun _=>rfl⟩
 ·intro b ib hb
  by_cases e:b=b0
  ·rw [e,hnew] at hb;cases hb
   exact .inr hd.heap
  ·rw [hold b e] at hb
   exact hd.back b ib hb
 ·intro b ib hb
  by_cases e:b=b0
  ·exact .inr (by have:=(ht.ET hcs 0 j (aq _) (by omega)).size;omega)
  ·rw [hold b e] at hb
   exact hd.a0r b ib hb
 ·by_cases e:b=b0
  ·exact ht.apart hcs hjlt hk (Ne.symm (MK hj' hlk)) (by omega) (by omega)
  ·rw [hold b e] at hb
   exact hd.XE b ib k hb hk (EK hj' hlk)
end
section
variable {P:Program} {G:List Nat} {call:EI} {ops:Array Oper} {S:Nat→St} {ds:List Deferred} {rf:Option Nat} {nn:Nat}
theorem a8o {ρ:Operand→Value} {o:Oper} {m m':Mem} {v:Value} {x:Operand} {b:Nat} (hx:xP o.op=some x) (h:BO P call ρ o m=some (v,m')) (hv:Ij v=some b):Ij (ρ x)=some b:=by
 obtain ⟨dst,op,ty,pos,after,guard⟩:=o;cases op<;>simp only [xP,reduceCtorEq,Option.some.injEq] at hx<;>subst hx<;>simp only [BO,FB] at h
 case move=>grind
 case assign=>grind
 case nilCheck y=>split at h<;>first|grind|cases h
 case fieldAddr s y f =>
  repeat' split at h
  all_goals first
   |(cases h;rename_i e _ _ _ _ _;grind)
   |(cases h;simp_all [Ij])
   |cases h
 case indexAddr t y ix =>
  repeat' split at h
  all_goals first
   |(cases h;simp_all [Ij])
   |cases h
theorem Vp {m m':Mem} {e:TypeId} {size n b:Nat} {l:List Value} {s v:Value} (h:BL m e size l n s=some (v,m')) (hb:b<m.size) (hne:Ij s≠some b):m'.get b=m.get b:=by
 unfold BL at h;split at h
 ·split at h
  ·grind
  ·cases h;rw [Mem.Bh,if_neg (by omega)]
 ·split at h
  ·grind
  ·cases h;rw [Mem.Bh,if_neg (by omega)]
 ·rename_i b0 off len g
  have hne':b0≠b:=fun e=>hne (by rw [e];rfl)
  split at h
  ·split at h
   ·split at h
    ·cases h;rw [Mem.get_put,if_neg hne']
    grind
   grind
  grind
 grind
theorem lK {aT:Array TypeId} {BF:Array Value} {m m':Mem} {v s:Value} {b:Nat} (hs:BF[0]?=some s) (h:IX P aT BF m=some (v,m')) (hb:b<m.size) (hne:Ij s≠some b):m'.get b=m.get b:=by
 unfold IX at h;split at h
 ·rename_i sT s' x xT h1 h2 h3 h4
  rw [hs] at h2;cases h2
  repeat' split at h
  all_goals first
   |exact Vp h hb hne
   |cases h
 grind
theorem Xo {ρ:Operand→Value} {o:Oper} {m m':Mem} {v:Value} {x:Operand} {b:Nat} (hx:wP o.op=some x) (h:BO P call ρ o m=some (v,m')) (hb:b<m.size) (hne:Ij (ρ x)≠some b):m'.get b=m.get b:=by
 obtain ⟨dst,op,ty,pos,after,guard⟩:=o;cases op<;>simp only [wP,reduceCtorEq,Option.some.injEq] at hx
 case store t a y =>
  subst hx;simp only [BO,FB] at h;split at h
  ·rename_i ad had
   rw [ae] at h;obtain ⟨m1,h1,he⟩:=h;cases he;have hne':ad.block≠b:=fun e=>hne (by rw [had,← e];rfl)
   unfold LJ at h1
   repeat' split at h1
   all_goals first
    |(unfold F9 at h1
      split at h1
      ·split at h1
       ·cases h1;rw [Mem.get_put,if_neg hne']
       grind
      grind)
    |grind
  grind
 case call c =>
  obtain ⟨callee,args,aT⟩:=c;cases callee<;>try cases hx
  rename_i bi;cases bi<;>try cases hx
  exact lK (s:=ρ x) (by grind) h hb hne
theorem vK:Ij undef=none:=rfl
theorem jw {t:Tmp} {k:Nat} (h:Ye ops k (.tmp t)=true) (q:Nat) (o:Oper) (hq:k≤q) (ho:ops[q]?=some o):o.dst≠some t:=by
 unfold Ye at h;grind
theorem fO (ht:Trace P call ops S) {k i:Nat} {r:Operand} (h:Ye ops k r=true) (hki:k≤i) (hi:i≤ops.size):ev (S i).t r=ev (S k).t r:=by
 cases r with
 |tmp t=>exact ht.tmps t k i hki hi fun q o h1 _ ho=>jw h q o h1 ho
 |const v=>rfl
 |global g=>rfl
 |func f=>rfl
theorem Trace.root (ht:Trace P call ops S) (hdr:GU ops=true) {i:Nat} (hi:i≤ops.size):∀ (f q:Nat) (r r':Operand) (b:Nat),q≤ops.size→rootOf ops i f q r=some r'→Ij (ev (S q).t r)=some b→Ij (ev (S i).t r')=some b
 |0,_,_,_,_,_,h,_=>by cases h
 |f+1,q,r,r',b,hq,h,hb=>by
  unfold rootOf at h;split at h
  ·rename_i hn
   cases h;rw [fO ht hn (ca _ _) hi,← fO ht hn (cj i q) hq];omega
  ·split at h
   ·rename_i t _
    split at h
    ·rename_i k hk
     split at h
     ·rename_i hkq
      split at h
      ·rename_i x hx
       have hdk:(ops[k]?).bind (·.dst)=some t:=by
        have:=List.find?_some hk;grind
       cases hok:ops[k]? with
       |none=>grind
       |some o =>
        rw [hok] at hdk hx;simp only [Option.bind_some] at hdk hx;obtain ⟨_,hdist⟩:=GX hdr;have e1:Cj (S q).t t=Cj (S (k+1)).t t:=ht.tmps t (k+1) q hkq hq fun p op hp _ hop=>(hdist k o t hok hdk p op hop (by omega)).1
        have hb':Ij (Cj (S (k+1)).t t)=some b:=by rw [← e1];exact hb
        rcases G5 (ht.step k o hok) with ⟨_,htt,_⟩|⟨_,v,m',hv,htt,_⟩
        ·rw [htt,hdk] at hb'
         simp only [H7] at hb';rw [Df,if_pos rfl,vK] at hb';grind
        ·rw [htt,hdk] at hb'
         simp only [H7] at hb';rw [Df,if_pos rfl] at hb';exact Trace.root ht hdr hi f k x r' b (by omega) h (a8o hx hv hb')
      grind
     grind
    grind
   grind
theorem Trace.oC (ht:Trace P call ops S) (hcs:Dc call) (hdr:GU ops=true) {i j:Nat} {oi oj:Oper} {a:Operand} {b:Nat} (hi:ops[i]?=some oi) (hj:ops[j]?=some oj) (hl:Gl oj.op=true) (hop:b7r oj.op=some a) (hne:j≠i)
 (hun:ordered ops i j=false) (had:Ij (ev (S j).t a)=some b) (hlt:b<(S i).m.size):(S (i+1)).m.get b=(S i).m.get b:=by
 have hil:=(al.1 hi).1;have hjl:=(al.1 hj).1;rcases G5 (ht.step i oi hi) with ⟨_,_,x,hm,_⟩|⟨_,v,m',hv,_,hm,hor⟩
 ·rw [hm];rfl
 ·rw [hm]
  show m'.get b=(S i).m.get b;rcases hor with h|h|⟨h1,h2⟩|⟨h1,h2⟩
  ·have:=ku h hj hl hne
   grind
  ·exact (JD hcs hv).keep _ hlt (ag hlt h)
  ·unfold Qz at h2
   rw [hi] at h2;split at h2
   ·rename_i w hw
    rw [aL] at h2;have hmem':rootOf ops i 4 j a∈Iw ops i:=by
     unfold Iw;grind
    have h3:=h2 _ hmem';cases hr:rootOf ops i 4 j a with
    |none=>grind
    |some r =>
     rw [hr] at h3;simp only at h3;have hb:Ij (ev (S i).t r)=some b:=ht.root hdr (by omega) 4 j a r b (by omega) hr had;rw [hb] at h3;refine Xo (m:=EW (S i).m (S i).m.size) hw hv hlt fun he=>?_
     rw [he] at h3;simp [yR] at h3
   grind
  ·unfold MC at h2
   rw [aL] at h2;have hmem':rootOf ops i 4 j a∈Iw ops i:=by
    unfold Iw;grind
   have h3:=h2 _ hmem';cases hr:rootOf ops i 4 j a with
   |none=>grind
   |some r =>
    rw [hr] at h3;have hb:Ij (ev (S i).t r)=some b:=ht.root hdr (by omega) 4 j a r b (by omega) hr had;grind
theorem Aw.blk {ι:BJ} {g:Nat→Nat} {u u':Value} {b:Nat} (h:Aw ι g u u') (hb:Ij u=some b):∃ ib,ι b=some ib:=by
 cases h<;>first|(cases hb;done)|skip
 case ptr har=>cases hb;obtain ⟨ib,h1,_⟩:=har;grind
 case sl hsr=>cases hb;obtain ⟨ib,h1,_⟩:=hsr;grind
theorem DI.load {n:Nat} {ι ι0:BJ} {a:Act} {w w0:World} {listed:Array Bool} {jp jn j:Nat} {o:Oper} {v:Value} {m':Mem} (ht:Trace P call ops S) (hcs:Dc call) (hdr:GU ops=true)
 (hd:DI ds P G n ops S ι0 w0 listed ι a w jp jn) (ho:ops[j]?=some o) (G9:listed.getD j false=false) (hall:∀ e∈o.after,Region.binds .any e=true→listed.getD e.on false=true)
 (hl:Gl o.op=true) (hv:BO P call (ev (S j).t) o (EW (S j).m (S j).m.size)=some (v,m')) (hρ:∀ x∈o.op.operands,Aw (cut ι (S (max j jp)).m.size) (S jn).m.gen (ev (S j).t x) (a.eval x)) :
 ∃ v',(execOp a.eval o).run P w=.ok (.value v') w∧Aw (cut ι (S (max (j+1) jp)).m.size) (S jn).m.gen v v':=by
 have hjlt:j<ops.size:=(al.1 ho).1;have hpn:=hd.h1;have hno:=hd.h1';obtain ⟨hback,_⟩:=GX hdr;obtain ⟨_,x,hxo,hxb,hrd⟩:=XA hl hv;have c3j:x∈o.op.operands:=by
  rcases yg hl with ⟨t,y,hop⟩|⟨t,y,lo,hi,hop⟩<;>rw [hop] at hxo ⊢<;>cases hxo<;>simp [Op.operands]
 have b7w:Et P ops j=false:=by unfold Et;grind
 obtain ⟨i',hi'⟩:∃ i',i'=max jp (min j jn):=⟨_,rfl⟩
 have dom:∀ b ib,cut ι (S (max j jp)).m.size b=some ib→b<(S i').m.size∧ι b=some ib:=fun b ib hb=>by
  obtain ⟨q1,q2⟩:=CX hb;refine ⟨?_,q2⟩;have q3:=hd.YU ht hcs q2;rcases ax jn j with h|h
  ·rw [show i'=jn by omega];exact q3
  ·rw [show i'=max j jp by omega];exact q1
 have key:∀ b,Ij (ev (S j).t x)=some b→b<(S i').m.size∧(S i').m.get b=(S j).m.get b:=fun b hbv=>by
  obtain ⟨ib,hc1⟩:=(hρ x c3j).blk hbv;obtain ⟨hbi,hb2⟩:=dom b ib hc1;have hbn:=hd.YU ht hcs hb2;have hbj:b<(S j).m.size:=hxb b hbv;refine ⟨hbi,?_⟩;rcases ax j jp with hlt|hge
  ·have e:i'=jp:=by omega
   rw [e];refine pV (p:=fun k=>k≤jp→(S k).m.get b=(S j).m.get b) (fun _=>rfl) (fun k hk ih hkp=>?_) jp (by omega) (ab _);rw [← ih (by omega)];have hbk:b<(S k).m.size:=ag hbj (ht.ET hcs j k hk (by omega)).size;cases hb:Et P ops k with
   |false=>exact ht.quiet hcs (by omega) hb _ hbk
   |true =>
    obtain ⟨ok,hok⟩:=getOp (ops:=ops) (i:=k) (by omega);have hne:j≠k:=fun e=>by subst e;rw [b7w] at hb;cases hb
    refine ht.oC hcs hdr hok ho hl hxo hne ?_ hbv hbk;cases hord:ordered ops k j with
    |false=>rfl
    |true =>
     exfalso;unfold ordered at hord;rw [if_pos (by omega)] at hord;have hlk:=hd.h4 k (by omega) (Iu hb).1 (Ti hb);have:=Ee hd.cl hback k ok j hok (hd.cl k ok hok hlk) hord;rw [G9] at this;cases this
  ·rcases ax jn j with hlt|c9d
   ·have e:i'=jn:=by omega
    rw [e];have hun:Et P ops jn=true∧listed.getD jn false=false:=by
     rcases hd.h3 with h|h
     ·omega
     ·exact h
    have hk:(S j).m.get b=(S jn).m.get b:=by
     refine pV (p:=fun k=>k≤j→(S k).m.get b=(S jn).m.get b) (fun _=>rfl) (fun k hk ih hkp=>?_) j (by omega) (ab _);rw [← ih (by omega)];have hbk:b<(S k).m.size:=ag hbn (ht.ET hcs jn k hk (by omega)).size;cases hb:Et P ops k with
     |false=>exact ht.quiet hcs (by omega) hb _ hbk
     |true =>
      obtain ⟨ok,hok⟩:=getOp (ops:=ops) (i:=k) (by omega);have c4h:listed.getD k false=false:=by
       by_cases e:k=jn
       ·rw [e];exact hun.2
       ·cases hl:listed.getD k false with
        |false=>rfl
        |true =>
         have hbit:=((Iu hun.1).2 k e (Iu hb).1).2 (by omega);have:=Ee hd.cl hback k ok jn hok (hd.cl k ok hok hl) hbit;rw [hun.2] at this;cases this
      refine ht.oC hcs hdr hok ho hl hxo (by omega) ?_ hbv hbk;cases hord:ordered ops k j with
      |false=>rfl
      |true =>
       exfalso;unfold ordered at hord;rw [if_neg (by omega)] at hord;have:=Ee hd.cl hback j o k ho hall hord;rw [c4h] at this;cases this
    exact hk.symm
   ·have e:i'=j:=by omega
    rw [e]
 have hgen:∀ b,b<(S i').m.size→(S jn).m.gen b=(S i').m.gen b:=fun b hb =>
  CS (ht.IZ hcs i' jn (by omega) hno (fun k h1 h2=>hd.h2 k (by omega) h2) b hb)
 have hal':BO P call (ev (S j).t) o (S i').m=some (v,(S i').m):=hrd _ key;have hs:=hd.jK i' (by omega) (by omega);have hρ':∀ y∈o.op.operands,Aw (cut ι (S i').m.size) (S i').m.gen (ev (S j).t y) (a.eval y):=fun y hy=>(hρ y hy).mono fun b ib hb=>by
  obtain ⟨q1,q2⟩:=dom b ib hb;exact ⟨by rw [hgen b q1];exact ab _,ib,by rw [Ei q1];exact q2,fun _=>rfl⟩
 have run:∃ v',(execOp a.eval o).run P w=.ok (.value v') w∧Aw (cut ι (S i').m.size) (S i').m.gen v v':=by
  obtain ⟨dst,op,ty,pos,after,guard⟩:=o;rcases yg hl with ⟨t,y,hop⟩|⟨t,y,lo,hi,hop⟩
  ·simp only at hop
   subst hop;simp only [BO,FB] at hal';split at hal'
   ·rename_i ad had
    rw [ae] at hal';obtain ⟨u,hu,he⟩:=hal';cases he;have hy:=hρ' y (by simp [Op.operands]);rw [had] at hy;have hsh:∃ a',a.eval y=.pointer (some a')∧PI (cut ι (S i').m.size) (S i').m.gen ad a':=by generalize a.eval y=u at hy;cases hy;exact ⟨_,rfl,by assumption⟩
    obtain ⟨a',e1,har⟩:=hsh;obtain ⟨v',hr,PE⟩:=Qw hs har hu;exact ⟨v',He (s:=Instr.loadAt t (a.eval y)) (by simp only [Instr.loadAt,e1,Instr.sureAddr,Sem.run_bind,Sem.run_pure,Result.andThen_ok];exact hr),PE⟩
   ·cases hal'
  ·simp only at hop
   subst hop;simp only [BO,FB,Option.map_none] at hal';rw [ae] at hal';obtain ⟨u,hu,he⟩:=hal';cases he;obtain ⟨v',hr,PE⟩:=Xl hs (hρ' y (by simp [Op.operands])) (XW.map (o:=lo) fun z hz=>hρ' z (by subst hz;simp [Op.operands])) (XW.map (o:=hi) fun z hz=>hρ' z (by subst hz;simp [Op.operands]))
    (mx':=none) (.inl ⟨rfl,rfl⟩) hu
   exact ⟨v',He hr,PE⟩
 obtain ⟨v',hr,PE⟩:=run;refine ⟨v',hr,PE.mono fun b Yb hb=>?_⟩;obtain ⟨q1,q2⟩:=CX hb;have hsz:=(ht.ET hcs i' (max (j+1) jp) (by omega) (by omega)).size;exact ⟨by rw [hgen b q1];exact ab _,Yb,by rw [Ei (by omega)];exact q2,fun _=>rfl⟩
theorem Uh {n:Nat} {o:Oper} (h:Iq G n o=true) {ro:Option Nat} {ρ:Operand→Value}:o.semAt ro ρ=execOp ρ o:=Oper.semAt_eq _ _ _ fun c hc=>by
 unfold Iq at h;grind
theorem DI.junk {n:Nat} {ι ι0:BJ} {a:Act} {w w0:World} {listed:Array Bool} {jp jn:Nat} (x:Obj) (hd:DI ds P G n ops S ι0 w0 listed ι a w jp jn):DI ds P G n ops S ι0 w0 listed ι a { w with heap:=w.heap.push x } jp jn :=
 ⟨hd.xC,hd.cl,hd.h1,hd.h1',hd.h2,hd.h3,hd.h4,fun j h1 h2=>(hd.jK j h1 h2).junk x,hd.a6l,hd.tsz,hd.a0j,hd.v1,hd.v0,hd.le,hd.back,hd.a0r,
  by have:=hd.heap;grind,
  fun c hc hf=>by
   have:=hd.heap;rw [fk,if_neg (by omega)];exact hd.frame c hc hf,hd.tape,hd.os,hd.output,hd.XE,hd.eF⟩
theorem lG {k:Nat} (h:Ib ops k=true):touches P ops k=true:=by
 unfold Ib at h;unfold touches;cases hk:ops[k]? with
 |none=>grind
 |some o =>
  rw [hk] at h;obtain ⟨dst,op,ty,pos,after,guard⟩:=o;cases op<;>simp only [MV,Bool.false_eq_true] at h
  simpa [DN,Gl] using h
theorem lF {o:Oper} {x:Operand} (h:wP o.op=some x):x∈o.op.operands:=by
 obtain ⟨dst,op,ty,pos,after,guard⟩:=o;cases op<;>simp only [wP,reduceCtorEq,Option.some.injEq] at h
 case store t a y=>subst h;simp [Op.operands]
 case call c =>
  obtain ⟨callee,args,aT⟩:=c;cases callee<;>try cases h
  rename_i bi;cases bi<;>try cases h
  have h':args[0]?=some x:=h;have:=gC h';simp [Op.operands,Call.operands,this]
theorem a1o {n:Nat} {ι ι0:BJ} {a:Act} {w w0:World} {listed:Array Bool} {jp jn j:Nat} (hc:JG P G call) (hcs:Dc call) (ht:Trace P call ops S) (hdr:GU ops=true)
 (hops:∀ (i:Nat) (o:Oper),ops[i]?=some o→Iq G n o=true) (hG:∀ k,k∈G→k<(S 0).m.size) (hb0:∀ b ib,ι0 b=some ib→b<(S 0).m.size)
 (hd:DI ds P G n ops S ι0 w0 listed ι a w jp jn) (hr:j∈Region.ready .any ops listed) {K:Act→World→Prop} {Q:Exit→Act→World→Prop}
 (hK:∀ ι' a' w' jp' jn',DI ds P G n ops S ι0 w0 (listed.setIfInBounds j true) ι' a' w' jp' jn'→K a' w'):wpOpIn (WF rf) nn P ops Q j K a w:=by
 obtain ⟨hun,o,ho,hall⟩:=mem_ready.1 hr;have hjlt:j<ops.size:=(al.1 ho).1;have G9:listed.getD j false=false:=by
  grind
 obtain ⟨hop,hdn⟩:=DR (hops j o ho);have hop':=hops j o ho;obtain ⟨hback,_⟩:=GX hdr;have place:touches P ops j=true→(Ib ops j=true∧j<jp)∨jp≤j∧(Et P ops j=true→j=jn)∧(Et P ops j=false→j<jn):=fun a0n=>by
  by_cases hnl:Ib ops j=true∧j<jp
  ·grind
  refine .inr ?_;have h1:jp≤j:=by
   rcases ax j jp with h|h
   ·have:=hd.h4 j h a0n (by grind)
    grind
   omega
  have h2:j≤jn:=by
   rcases hd.h3 with h|⟨q1,q2⟩
   ·omega
   ·rcases ax jn j with h|h
    ·obtain ⟨_,t2⟩:=Iu q1
     have hbit:=(t2 j (by omega) a0n).2 h;have:=Ee hd.cl hback j o jn ho hall hbit;rw [q2] at this;cases this
    omega
  refine ⟨h1,fun hb=>?_,fun hb=>?_⟩
  ·rcases ax j jn with h|h
   ·have:=hd.h2 j h1 h
    rw [hb] at this;cases this
   ·omega
  ·rcases ax j jn with h|h
   ·exact h
   ·have:j=jn:=by omega
    subst this;rcases hd.h3 with h|⟨q1,_⟩
    ·omega
    ·rw [hb] at q1;cases q1
 have mW:Et P ops j=true→touches P ops j=true:=fun h=>(Iu h).1
 have b6p:Et P ops j=true→j=jn:=fun h=>by
  rcases place (mW h) with ⟨h1,_⟩|h1
  ·rw [Ti h] at h1;cases h1
  ·exact h1.2.1 h
 unfold wpOpIn;simp only [ho];rw [a2y ht hcs hdr hd ho G9 hall];rcases G5 (ht.step j o ho) with ⟨hw,htt,x,hm,hx1,hx2⟩|⟨hw,v,m',hv,htt,hm,hor⟩
 ·rw [hw]
  simp only [Bool.false_eq_true,if_false];refine ⟨fun _ _=>trivial,?_⟩;have xk:∀ d,o.dst=some d→Cj (S (j+1)).t d=undef:=fun d hdd=>by
   rw [htt,hdd];simp only [H7];rw [Df,if_pos rfl]
  cases hb:Et P ops j with
  |true =>
   have hj:=b6p hb;subst hj;have hs:=(hd.jK j hd.h1 (ab _)).low (S j).m.size;obtain ⟨ι',jp',jn',hd'⟩:=DI.bar (v:=undef) (v':=undef) (m':=EW (S j).m (S j).m.size) (y:=x) ht hcs hdr hd ho G9 hall hdn hb0 hb (by rw [hm];rfl) hx2 xk (fun _ _ _ _ _ _ _=>by rw [hm];rfl) (Ext.refl _ _ _) hs Aw.undef;exact hK _ _ _ _ _ hd'
  |false =>
   exact hK _ _ _ _ _ (DI.still hcs ht hdr hd ho G9 hall hdn hb fun d hdd=>by rw [xk d hdd];exact Aw.undef)
 ·rw [hw]
  simp only [if_true];have xk:∀ d,o.dst=some d→Cj (S (j+1)).t d=v:=fun d hdd=>by
   rw [htt,hdd];simp only [H7];rw [Df,if_pos rfl]
  have hρ:=jd ht hcs hdr hd hG ho G9 hall hop;by_cases hq:DN P o.op=true
  ·
   have hv':FB P (ev (S j).t) o (EW (S j).m (S j).m.size)=some (v,m'):=by
    unfold BO at hv;split at hv
    ·rename_i f args aT c3l
     rw [c3l] at hq;simp [DN] at hq
    ·exact hv
   have hnt:touches P ops j=false:=by unfold touches;rw [ho];simp [hq]
   have hnb:Et P ops j=false:=by
    cases hb:Et P ops j with
    |false=>rfl
    |true=>have:=mW hb;rw [hnt] at this;cases this
   by_cases hns:∀ t len ps,o.op≠.buildSlice t len ps
   case neg =>
    obtain ⟨t,h0⟩:=df.1 hns;obtain ⟨len,h0⟩:=df.1 h0;obtain ⟨ps,h0⟩:=df.1 h0;obtain ⟨x,hx⟩:=kM (Classical.not_not.1 h0) hq hρ hv';obtain ⟨hrun,PE⟩:=hx w;unfold Oper.wpIn;rw [Uh hop',hrun];refine ⟨fun _ _=>trivial,?_⟩;refine hK _ _ _ _ _ (DI.junk x (DI.still hcs ht hdr hd ho G9 hall hdn hnb fun d hdd=>?_));rw [xk d hdd];exact PE.mono (Le.cut (ht.ET hcs (max j jp) (max (j+1) jp) (by omega) (by have:=hd.h1;have:=hd.h1';omega)).size)
   obtain ⟨v',hrun,PE⟩:=qj hq hns hρ hv';unfold Oper.wpIn;rw [Uh hop',hrun w];refine ⟨fun _ _=>trivial,?_⟩;refine hK _ _ _ _ _ (DI.still hcs ht hdr hd ho G9 hall hdn hnb fun d hdd=>?_);rw [xk d hdd];exact PE.mono (Le.cut (ht.ET hcs (max j jp) (max (j+1) jp) (by omega) (by have:=hd.h1;have:=hd.h1';omega)).size)
  by_cases hl:Gl o.op=true
  ·obtain ⟨v',hrun,PE⟩:=DI.load ht hcs hdr hd ho G9 hall hl hv hρ
   have hnb:Et P ops j=false:=by unfold Et;rw [ho];simp [hl]
   unfold Oper.wpIn;rw [Uh hop',hrun];refine ⟨fun _ _=>trivial,?_⟩;refine hK _ _ _ _ _ (DI.still hcs ht hdr hd ho G9 hall hdn hnb fun d hdd=>?_);rw [xk d hdd];exact PE
  ·have a0n:touches P ops j=true:=by unfold touches;rw [ho];simp [hq,hl]
   rcases place a0n with ⟨hnw,hjl⟩|⟨hjp,b4f,c1k⟩
   ·have hn:MV o.op=true:=by unfold Ib at hnw;rw [ho] at hnw;exact hnw
    obtain ⟨v',w',ι',hrun,hd'⟩:=DI.late ht hcs hdr hd ho G9 hall hdn hjl hn hv hm xk hρ;unfold Oper.wpIn;rw [Uh hop',hrun];refine ⟨fun _ _=>trivial,?_⟩;exact hK _ _ _ _ _ hd'
   have hjn:j≤jn:=by
    cases hb:Et P ops j with
    |true=>have:=b4f hb;omega
    |false=>have:=c1k hb;omega
   have hs:=(hd.jK j hjp hjn).low (S j).m.size;rw [Nat.max_eq_left hjp] at hρ;have hρ':∀ x∈o.op.operands,Aw (cut ι (S j).m.size) (EW (S j).m (S j).m.size).gen (ev (S j).t x) (a.eval x):=fun x hx=>(hρ x hx).mono fun b ib hb=>by
    have hbl:=(CX hb).1;have:=ht.IZ hcs j jn hjn hd.h1' (fun k h1 h2=>hd.h2 k (by omega) h2) b hbl;refine ⟨?_,ib,hb,fun _=>rfl⟩;show (S jn).m.gen b≤(S j).m.gen b;rw [CS this];exact ab _
   refine OT hc hs hρ' hv fun v' w' hp=>?_
   obtain ⟨ι1,hext,Dv,PE⟩:=hp;cases hb:Et P ops j with
   |true =>
    have hj:=b4f hb;subst hj;have hkeep:∀ k,k<j→Ib ops k=true→listed.getD k false=false→∀ b,(S k).m.size≤b→b<(S (k+1)).m.size→(S (j+1)).m.get b=(S j).m.get b:=fun k hk hnk hlk b h1 h2=>by
     have hbj:b<(S j).m.size:=ag h2 (ht.ET hcs (k+1) j (by omega) (by omega)).size;have htk:touches P ops k=true:=lG hnk;rw [hm];show m'.get b=(S j).m.get b;have strict:barrier P ops j=true∨Qs P ops j=true→m'.get b=(S j).m.get b:=fun h=>by
      have:=Ee hd.cl hback j o k ho hall (lT h hnk htk hk);rw [hlk] at this;cases this
     rcases hor with h|h|⟨h,_⟩|⟨h,_⟩
     ·exact strict (.inl h)
     ·exact (JD hcs hv).keep _ hbj (ag hbj h)
     ·unfold jh at h
      rw [eJ,ho] at h;obtain ⟨x,hx⟩:=gg.1 h.1;refine Xo (m:=EW (S j).m (S j).m.size) hx hv hbj fun he=>?_
      obtain ⟨ib,h3⟩:=(hρ' x (lF hx)).blk he;exact hd.XE b ib k (CX h3).2 (by omega) hlk ⟨h1,h2⟩
     ·exact strict (.inr h)
    obtain ⟨ι',jp',jn',hd'⟩:=DI.bar (v:=v) (v':=v') (m':=m') ht hcs hdr hd ho G9 hall hdn hb0 hb hm (cj _ _) xk hkeep hext Dv PE;exact hK _ _ _ _ _ hd'
   |false =>
    have hlow:(S j).m.size≤m'.low:=by
     by_cases hn:MV o.op=true
     ·obtain ⟨l,e,k,_,h2,_⟩:=V5 hn hv
      rw [h2];exact ab _
     rcases hor with h|h|⟨h,_⟩|⟨h,_⟩
     ·exfalso
      unfold Et at hb;rw [ho] at hb;simp [hq,hl,hn,h] at hb
     ·exact h
     ·exfalso
      unfold Et at hb;rw [ho] at hb;simp [hq,hl,hn,h] at hb
     ·exfalso
      unfold Et at hb;rw [ho] at hb;simp [hq,hl,hn,h] at hb
    obtain ⟨ι',hd'⟩:=DI.quiet (v:=v) (v':=v') ht hcs hdr hd ho G9 hall hdn hjp (c1k hb) hm hlow (JD hcs hv) xk hext Dv PE;exact hK _ _ _ _ _ hd'
def unl (ops:Array Oper) (listed:Array Bool):Nat:=((List.range ops.size).filter fun i=>listed.getD i false==false).length
theorem b0n {listed:Array Bool} {j:Nat} (hsz:listed.size=ops.size) (hj:j<ops.size) (hu:listed.getD j false=false):unl ops (listed.setIfInBounds j true)+1=unl ops listed:=by
 have hj':j<listed.size:=by omega
 have key:∀ (l:List Nat),l.Nodup→j∈l→(l.filter fun i=>(listed.setIfInBounds j true).getD i false==false).length+1=(l.filter fun i=>listed.getD i false==false).length:=by
  intro l
  induction l with
  |nil=>simp
  |cons x l ih =>
   intro hn hm;by_cases e:x=j
   ·subst e
    have e1:l.filter (fun i=>(listed.setIfInBounds x true).getD i false==false)=l.filter (fun i=>listed.getD i false==false):=by
     apply fI;intro i hi;rw [DU hj',if_neg (fun e=>by grind)]
    simp_all
   ·rw [di,di,DU hj',if_neg e]
    grind
 exact key _ gh (List.mem_range.2 hj)
theorem RI {listed:Array Bool} (hsz:listed.size=ops.size) (hback:∀ (i:Nat) (o:Oper),ops[i]?=some o→∀ e∈o.after,Region.binds .any e=true→e.on<i) (h:Region.ready .any ops listed=[]) :
 ∀ i,i<ops.size→listed.getD i false=true:=by
 intro i
 induction i using Nat.strongRecOn with
 |_ i ih =>
  intro hi;cases hl:listed.getD i false with
  |true=>rfl
  |false =>
   obtain ⟨o,ho⟩:=getOp hi;have:i∈Region.ready .any ops listed:=mem_ready.2 ⟨by grind,o,ho,fun e he hb=>by
    grind⟩
   grind
theorem a9d {listed:Array Bool} (h:unl ops listed=0):∀ i,i<ops.size→listed.getD i false=true:=by
 intro i hi;unfold unl at h;simp_all
theorem DI.done {n:Nat} {ι ι0:BJ} {a:Act} {w w0:World} {listed:Array Bool} {jp jn:Nat} (hcs:Dc call) (ht:Trace P call ops S) (hd:DI ds P G n ops S ι0 w0 listed ι a w jp jn)
 (hall:∀ i,i<ops.size→listed.getD i false=true):Reach P G ds n ι0 (S 0) w0 (S ops.size) a w:=by
 have hjn:jn=ops.size:=by
  rcases hd.h3 with h|⟨h1,h2⟩
  ·exact h
  ·rcases ax jn ops.size with h|h
   ·grind
   ·have:=hd.h1';omega
 subst hjn;have hm:=ht.ET hcs 0 ops.size (aq _) (ab _);refine ⟨ι,⟨hm.size,hm.low,hm.keep,hm.ro,hm.ro',hd.le,hd.back,hd.a0r,hd.heap,hd.frame,hd.tape,hd.os,hd.output⟩,?_,hd.tsz,hd.a0j,fun t=>?_⟩
 ·refine (hd.jK ops.size hd.h1 (ab _)).congr fun b=>?_
  cases hib:ι b with
  |none =>
   unfold cut;grind
  |some ib=>rw [Ei (hd.YU ht hcs hib)];grind
 ·by_cases hw:∃ (i:Nat) (oi:Oper),ops[i]?=some oi∧oi.dst=some t
  ·obtain ⟨i,oi,hi,hdi⟩:=hw
   exact (hd.v1 i oi t hi hdi (hall i (al.1 hi).1)).mono Le.b4e
  ·have h0:=hd.v0 t fun i oi hi hdi=>absurd ⟨i,oi,hi,hdi⟩ hw
   have e1:Cj (S ops.size).t t=Cj (S 0).t t:=ht.tmps t 0 ops.size (aq _) (ab _) fun k ok _ _ hok hdk=>hw ⟨k,ok,hok,hdk⟩
   rw [e1];exact h0.mono Le.b4e
theorem a5m {n:Nat} {ι0:BJ} {w0:World} (hc:JG P G call) (hcs:Dc call) (ht:Trace P call ops S) (hdr:GU ops=true)
 (hops:∀ (i:Nat) (o:Oper),ops[i]?=some o→Iq G n o=true) (hG:∀ k,k∈G→k<(S 0).m.size) (hb0:∀ b ib,ι0 b=some ib→b<(S 0).m.size) {Q:Exit→Act→World→Prop}
 (hQ:∀ a' w',Reach P G ds n ι0 (S 0) w0 (S ops.size) a' w'→Q .normal a' w'):∀ (fuel:Nat) (listed:Array Bool) (ι:BJ) (a:Act) (w:World) (jp jn:Nat),
 DI ds P G n ops S ι0 w0 listed ι a w jp jn→unl ops listed=fuel→wpAnyIn (WF rf) nn P .any ops Q fuel listed a w:=by
 obtain ⟨hback,_⟩:=GX hdr;intro fuel
 induction fuel with
 |zero =>
  intro listed ι a w jp jn hd hu;have hall:=a9d hu;refine ⟨?_,hQ a w (hd.done hcs ht hall)⟩;rw [List.eq_nil_iff_forall_not_mem];intro j hj;obtain ⟨h1,o,ho,_⟩:=mem_ready.1 hj;grind
 |succ fuel ih =>
  intro listed ι a w jp jn hd hu;refine ⟨fun hr=>hQ a w (hd.done hcs ht (RI hd.xC hback hr)),fun j hj=>?_⟩;refine a1o hc hcs ht hdr hops hG hb0 hd hj fun ι' a' w' jp' jn' hd'=>ih _ ι' a' w' jp' jn' hd' ?_
  obtain ⟨h1,o,ho,_⟩:=mem_ready.1 hj;have hjlt:=(al.1 ho).1;have G9:listed.getD j false=false:=by grind
  have:=b0n (ops:=ops) hd.xC hjlt G9;omega
theorem YK (hc:JG P G call) (hcs:Dc call) (qw:P.follows .mixedOrders=true):iG P G call:=by
 intro ds rf nn n id ops s s' ι a w Q hok hdr h hst hq;obtain ⟨S,e0,eN,htr⟩:=Ur ops.toList 0 s s' h;simp only [Nat.zero_add] at eN htr;have hlen:ops.toList.length=ops.size:=by simp
 subst e0;subst eN;have ht:Trace P call ops S:=⟨fun i o ho=>htr i o (by grind)⟩
 have hops:∀ (i:Nat) (o:Oper),ops[i]?=some o→Iq G n o=true:=fun i o ho=>hok o (by
  grind)
 have hG:∀ k,k∈G→k<(S 0).m.size:=fun k hk=>by
  obtain ⟨ib,h1,_⟩:=hst.1.glob k hk;exact (hst.1.dom k ib h1).1
 have hb0:∀ b ib,ι b=some ib→b<(S 0).m.size:=fun b ib hb=>(hst.1.dom b ib hb).1
 refine wpIn_region_any qw ?_;have hnone:∀ i,(Array.replicate ops.size false).getD i false=false:=fun i=>by
  by_cases hi:i<ops.size<;>simp [hi]
 obtain ⟨jn,n1,n2,n3,n4⟩:=zA ops 0 (aq _);have hq0:∀ i',i'≤jn→∀ b,b<(S 0).m.size→(S i').m.get b=(S 0).m.get b:=fun i' h1=>ht.IZ hcs 0 i' (aq _) (by omega) (fun k _ h2=>n3 k (aq _) (by omega))
 have hle:∀ x,Le (cut ι x) (S 0).m.gen (cut ι x) (S jn).m.gen:=fun x b ib hb=>by
  have:=hq0 jn (ab _) b (hb0 b ib (CX hb).2);exact ⟨by rw [CS this];simp,ib,hb,fun _=>rfl⟩
 refine a5m (ds:=ds) (S:=S) (ι0:=ι) (w0:={ w with drawn:=w.drawn+1 }) hc hcs ht hdr hops hG hb0 (fun a' w' hr=>hq a' w' ?_) ops.size _ ι a { w with drawn:=w.drawn+1 } 0 jn ?_ ?_
 ·obtain ⟨ι',h1,h2⟩:=hr
  exact ⟨ι',⟨h1.size,h1.low,h1.keep,h1.ro,h1.ro',h1.le,h1.back,h1.dom,h1.heap,h1.frame,h1.tape,h1.os,h1.output⟩,h2⟩
 ·refine ⟨by simp,(fun i o _ hl=>by grind),aq _,n2,fun k _ h2=>n3 k (aq _) h2,?_,fun k hk=>by omega,fun i' _ h2=>?_,fun b ib hb=>.inl (hb0 b ib hb),hst.2.size,hst.2.defers,
   (fun i o t _ _ hl=>by grind),fun t _=>?_,fun b ib hb=>?_,fun b ib hb=>.inl ⟨ib,hb,rfl⟩,fun b ib hb=>.inl ⟨ib,hb⟩,ab _,fun _ _ _=>rfl,rfl,rfl,rfl,
   fun b ib k hb hk _ h=>by have:=hb0 b ib hb;have:=(ht.ET hcs 0 k (aq _) (by omega)).size;omega,fun k hk=>by omega⟩
  ·grind
  ·have hsz:=(ht.ET hcs 0 i' (aq _) (by omega)).size
   refine ((hst.1.drawn (w.drawn+1)).extend hsz (hq0 i' h2)).congr fun b=>?_
   cases hib:ι b with
   |none =>
    unfold cut;grind
   |some ib=>rw [Ei (ag (hb0 b ib hib) hsz)];omega
  ·refine (hst.2.val t).mono fun b ib hb=>?_
   have hbl:=hb0 b ib hb;have hc:cut ι (S 0).m.size b=some ib:=by rw [Ei hbl];omega
   obtain ⟨q1,ib',q2,q3⟩:=hle (S 0).m.size b ib hc;grind
  ·have:=hq0 jn (ab _) b (hb0 b ib hb)
   exact ⟨by rw [CS this];simp,ib,hb,fun _=>rfl⟩
 ·unfold unl
  rw [gL.2 (fun i _=>by grind)];simp
end
end Go.Am
