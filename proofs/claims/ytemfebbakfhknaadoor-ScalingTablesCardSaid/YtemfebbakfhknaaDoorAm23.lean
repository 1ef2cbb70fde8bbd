/-
  The abstract machine: what a call gives it gives over more oracles, too. No condition. Nothing of one program stands here.
-/
import Derived.Test.YtemfebbakfhknaaDoorAmD
set_option linter.unusedSimpArgs false
set_option linter.unusedVariables false
namespace Go.Am
section
variable {P:Program} {c0 c1:CallF} (h:∀ f as m r,c0 f as m=some r→c1 f as m=some r)
include h
theorem aval_mono {ρ:Operand→Value} {o:Oper} {m:Mem} {r:Value×Mem} (hv:aval P c0 ρ o m=some r):aval P c1 ρ o m=some r:=by
 unfold aval at hv ⊢
 split at hv
 ·split at hv
  ·exact h _ _ _ _ hv
  ·cases hv
 ·exact hv
theorem astep_mono {ops:Array Oper} {o:Oper} {s s':St} (hv:astep P c0 ops o s=some s'):astep P c1 ops o s=some s':=by
 unfold astep at hv ⊢
 split at hv
 ·rename_i hw
  rw [if_pos hw]
  unfold aact at hv ⊢
  cases h1:aval P c0 (ev s.t) o s.m with
  |none=>rw [h1] at hv;cases hv
  |some r=>rw [h1] at hv;rw [aval_mono h h1];exact hv
 ·rename_i hw
  rw [if_neg hw];exact hv
theorem asteps_mono {ops:Array Oper}:∀ {l:List Oper} {s s':St},asteps P c0 ops l s=some s'→asteps P c1 ops l s=some s'
 |[],s,s',hv=>hv
 |o::l,s,s',hv=>by
  simp only [asteps] at hv ⊢
  cases h1:astep P c0 ops o s with
  |none=>rw [h1] at hv;cases hv
  |some s1=>rw [h1] at hv;rw [astep_mono h h1];exact asteps_mono hv
theorem dsteps_mono {ops:Array Oper}:∀ {l:List Oper} {i:Nat} {s s':St},dsteps P c0 ops i l s=some s'→dsteps P c1 ops i l s=some s'
 |[],i,s,s',hv=>hv
 |o::l,i,s,s',hv=>by
  simp only [dsteps] at hv ⊢
  cases h1:dstep P c0 ops i o s with
  |none=>rw [h1] at hv;cases hv
  |some s1 =>
   rw [h1] at hv
   have h2:dstep P c1 ops i o s=some s1:=by
    unfold dstep at h1 ⊢
    cases h3:astep P c0 ops o { s with m:={ s.m with low:=s.m.size } } with
    |none=>rw [h3] at h1;cases h1
    |some s2=>rw [h3] at h1;rw [astep_mono h h3];exact h1
   rw [h2];exact dsteps_mono hv
omit h in
theorem iterate_mono {f0 f1:St→Option (AExit×St)} (hf:∀ s r,f0 s=some r→f1 s=some r):∀ {k:Nat} {s:St} {r:AExit×St},iterate f0 k s=some r→iterate f1 k s=some r
 |0,s,r,hv=>by cases hv
 |k+1,s,r,hv=>by
  simp only [iterate] at hv ⊢
  cases h1:f0 s with
  |none=>rw [h1] at hv;cases hv
  |some q =>
   rw [h1] at hv
   rw [hf _ _ h1]
   obtain ⟨e,s1⟩:=q
   cases e with
   |normal=>exact iterate_mono hf hv
   |ret=>exact hv
   |exit i=>exact hv
omit h in
theorem rangeRows_mono {n:Nat} {a0 a1 b0 b1:St→Option (AExit×St)} {k0 k1:Mem→Prop} {t:Tr Value} {ps:List Tmp} (ha:∀ s r,a0 s=some r→a1 s=some r) (hb:∀ s r,b0 s=some r→b1 s=some r) (hk:∀ m,k0 m→k1 m) :
 ∀ {rows:List (List Value)} {m:Mem} {r:AExit×Mem},rangeRows n a0 b0 k0 t ps rows m=some r→rangeRows n a1 b1 k1 t ps rows m=some r
 |[],m,r,hv=>hv
 |vs::rest,m,r,hv=>by
  obtain ⟨x,m'⟩:=r
  obtain ⟨q1,q2,s1,q3,xb,s2,q4,q5⟩:=rangeRows_cons hv
  simp only [rangeRows]
  rw [if_pos ⟨q1,q2⟩,ha _ _ q3]
  simp only
  rw [hb _ _ q4]
  rcases q5 with ⟨rfl,p1,p2⟩|⟨p0,rfl,rfl⟩
  ·simp only
   rw [if_pos (hk _ p1)]
   exact rangeRows_mono ha hb hk p2
  ·cases x with
   |normal=>exact absurd rfl p0
   |ret=>rfl
   |exit i=>rfl
theorem aexec_mono {N:Nat}:∀ (c:Code) (s:St) (r:AExit×St),aexec P c0 N c s=some r→aexec P c1 N c s=some r:=by
 intro c
 induction c with
 |skip=>intro s r hv;exact hv
 |label l=>intro s r hv;exact hv
 |ret=>intro s r hv;exact hv
 |exit id=>intro s r hv;exact hv
 |goto l=>intro s r hv;exact hv
 |scope b _=>intro s r hv;exact hv
 |refuse y=>intro s r hv;exact hv
 |seq a b iha ihb =>
  intro s r hv
  simp only [aexec] at hv ⊢
  cases h1:aexec P c0 N a s with
  |none=>rw [h1] at hv;cases hv
  |some q =>
   rw [h1] at hv
   rw [iha _ _ h1]
   obtain ⟨e,s1⟩:=q
   cases e with
   |normal=>exact ihb _ _ hv
   |ret=>exact hv
   |exit i=>exact hv
 |cond c0 a b iha ihb =>
  intro s r hv
  simp only [aexec] at hv ⊢
  split at hv
  ·exact iha _ _ hv
  ·exact ihb _ _ hv
  ·cases hv
 |block id b ih =>
  intro s r hv
  simp only [aexec] at hv ⊢
  cases h1:aexec P c0 N b s with
  |none=>rw [h1] at hv;cases hv
  |some q=>rw [h1] at hv;rw [ih _ _ h1];exact hv
 |loop b ih =>
  intro s r hv
  simp only [aexec] at hv ⊢
  exact iterate_mono ih hv
 |region id ops draw =>
  intro s r hv
  cases draw with
  |false =>
   simp only [aexec,Option.map_eq_some_iff] at hv ⊢
   obtain ⟨s1,h1,he⟩:=hv
   exact ⟨s1,asteps_mono h h1,he⟩
  |true =>
   simp only [aexec,Option.map_eq_some_iff] at hv ⊢
   obtain ⟨s1,h1,he⟩:=hv
   exact ⟨s1,dsteps_mono h h1,he⟩
 |rangeFunc f ps a b iha ihb =>
  intro s r hv
  simp only [aexec] at hv ⊢
  split at hv
  case h_2=>cases hv
  rename_i g fs lb hev
  split at hv
  case h_2=>cases hv
  rename_i fn hfn
  split at hv
  case isFalse=>cases hv
  rename_i hc
  try rw [hfn]
  try simp only
  rw [if_pos hc]
  split at hv
  case h_2=>cases hv
  rename_i v m0 hcall
  rw [h _ _ _ _ hcall]
  simp only
  split at hv
  case h_2=>cases hv
  rename_i rows hrows
  try rw [hrows]
  try simp only
  rw [Option.map_eq_some_iff] at hv ⊢
  obtain ⟨q,h1,he⟩:=hv
  exact ⟨q,rangeRows_mono iha ihb (fun m ⟨m1,hm⟩=>⟨m1,h _ _ _ _ hm⟩) h1,he⟩
end
structure OLe (P:Program) (O0 O1:Oracle):Prop where
 same:∀ f as m r,(O0 f).bind (fun F=>F as m)=some r→(O1 f).bind (fun F=>F as m)=some r
 more:∀ f as m r,(O1 f).bind (fun F=>F as m)=some r→(O0 f).bind (fun F=>F as m)=none→∀ fn,P.funcs[f]?=some fn→fn.ntmps<as.length
theorem acall_mono {P:Program} {O0 O1:Oracle} {G:List Nat} {N:Nat} (ho:OLe P O0 O1):∀ (D:Nat) (f:FuncId) (as:List Value) (m:Mem) (r:Value×Mem),acall P O0 G N D f as m=some r→acall P O1 G N D f as m=some r
 |0,f,as,m,r,h=>by cases h
 |D+1,f,as,m,r,h=>by
  have ih:=acall_mono (G:=G) (N:=N) ho D
  cases h0:(O0 f).bind (fun F=>F as m) with
  |some q =>
   simp only [acall,h0] at h
   simp only [acall,ho.same _ _ _ _ h0];exact h
  |none =>
   simp only [acall,h0] at h
   cases hfn:P.funcs[f]? with
   |none=>rw [hfn] at h;cases h
   |some fn =>
    rw [hfn] at h
    simp only at h
    cases hb:fn.body with
    |none=>rw [hb] at h;cases h
    |some c =>
     rw [hb] at h
     simp only at h
     by_cases hok:(fnOk G fn c&&decide (as.length≤fn.ntmps))=true
     case neg=>rw [if_neg hok] at h;cases h
     rw [if_pos hok] at h
     have hlen:as.length≤fn.ntmps:=by simp only [Bool.and_eq_true,decide_eq_true_eq] at hok;exact hok.2
     have h1:(O1 f).bind (fun F=>F as m)=none:=by
      cases h1:(O1 f).bind (fun F=>F as m) with
      |none=>rfl
      |some q=>have:=ho.more _ _ _ _ h1 h0 fn hfn;omega
     simp only [acall,h1,hfn,hb]
     rw [if_pos hok]
     cases hx:aexec P (acall P O0 G N D) N c { t:=tmpsOf 0 as .leaf,m:=m } with
     |none=>rw [hx] at h;cases h
     |some q=>rw [hx] at h;rw [aexec_mono ih _ _ _ hx];exact h
theorem ACalls.more {P:Program} {O0 O1:Oracle} {G:List Nat} {f:FuncId} {as:List Value} {m:Mem} {Q:Value→Mem→Prop} (ho:OLe P O0 O1) (h:ACalls P O0 G f as m Q):ACalls P O1 G f as m Q:=by
 obtain ⟨v,m',⟨K,hK⟩,q⟩:=h
 exact ⟨v,m',⟨K,fun N D hN hD=>acall_mono ho D _ _ _ _ (hK N D hN hD)⟩,q⟩
end Go.Am
