/-
  Numbers in limbs of nine digits, and their decimal digits: plain laws. No condition beyond each statement's own. No program stands here.
-/
import Derived.Lib.ItoaNum
import Derived.Test.YtemfebbakfhknaaDoorVmD
import Derived.Lib.Bytealg
set_option linter.unusedSimpArgs false
set_option linter.unusedVariables false
namespace Go.Num
open Go.Lib
abbrev B9:Nat:=1000000000
def val:List Nat→Nat
 |[]=>0
 |a::l=>a+B9*val l
def toL (n:Nat):List Nat:=if h:n=0 then [] else (n % B9)::toL (n / B9)
termination_by n
decreasing_by exact Nat.div_lt_self (by omega) (by decide)
theorem toL_zero:toL 0=[]:=by rw [toL];simp
theorem toL_pos {n:Nat} (h:n≠0):toL n=(n % B9)::toL (n / B9):=by rw [toL,dif_neg h]
theorem toL_nil {n:Nat}:toL n=[]↔n=0:=by
 constructor
 ·intro h
  by_cases h0:n=0
  ·exact h0
  ·rw [toL_pos h0] at h;cases h
 ·intro h;rw [h,toL_zero]
def Lim (l:List Nat):Prop:=∀ a∈l,a<B9
theorem val_toL (n:Nat):val (toL n)=n:=by
 induction n using Nat.strongRecOn with
 |ind n ih =>
  by_cases h:n=0
  ·rw [h,toL_zero];rfl
  ·rw [toL_pos h,val,ih _ (Nat.div_lt_self (by omega) (by decide))]
   exact Nat.mod_add_div n B9
theorem lim_toL (n:Nat):Lim (toL n):=by
 induction n using Nat.strongRecOn with
 |ind n ih =>
  by_cases h:n=0
  ·rw [h,toL_zero];intro a ha;cases ha
  ·rw [toL_pos h]
   intro a ha
   rcases List.mem_cons.1 ha with rfl|ha
   ·exact Nat.mod_lt _ (by decide)
   ·exact ih _ (Nat.div_lt_self (by omega) (by decide)) a ha
def trimL:List Nat→List Nat
 |[]=>[]
 |a::t=>if trimL t=[]∧a=0 then [] else a::trimL t
theorem trim_toL {l:List Nat} (h:Lim l):trimL l=toL (val l):=by
 induction l with
 |nil=>rw [val,toL_zero];rfl
 |cons a t ih =>
  have ha:a<B9:=h a (by simp)
  have ih:=ih (fun x hx=>h x (by simp [hx]))
  simp only [trimL,val]
  rw [ih]
  by_cases h0:val t=0∧a=0
  ·rw [if_pos ⟨toL_nil.2 h0.1,h0.2⟩,h0.1,h0.2];simp [toL_zero]
  ·rw [if_neg (fun h1=>h0 ⟨toL_nil.1 h1.1,h1.2⟩)]
   have hne:a+B9*val t≠0:=fun e=>h0 ⟨by
    rcases Nat.eq_zero_or_pos (val t) with h1|h1
    ·exact h1
    ·have:=Nat.mul_le_mul_left B9 h1;simp only [B9] at *;omega,by omega⟩
   rw [toL_pos hne,Nat.add_mul_mod_self_left,Nat.mod_eq_of_lt ha,Nat.add_mul_div_left _ _ (by decide),Nat.div_eq_of_lt ha,Nat.zero_add]
theorem trim_append_zero (l:List Nat):trimL (l++[0])=trimL l:=by
 induction l with
 |nil=>rfl
 |cons a t ih=>simp only [List.cons_append,trimL,ih]
theorem trim_append_ne (l:List Nat) {x:Nat} (hx:x≠0):trimL (l++[x])=l++[x]:=by
 induction l with
 |nil=>simp [trimL,hx]
 |cons a t ih=>simp only [List.cons_append,trimL,ih];rw [if_neg];intro h;simp at h
theorem val_append (l r:List Nat):val (l++r)=val l+B9 ^ l.length*val r:=by
 induction l with
 |nil=>simp [val]
 |cons a t ih=>simp only [List.cons_append,val,ih,List.length_cons,Nat.pow_succ];rw [Nat.mul_add,← Nat.mul_assoc,Nat.mul_comm B9 (B9 ^ _),Nat.add_assoc]
theorem val_lt {l:List Nat} (h:Lim l):val l<B9 ^ l.length:=by
 induction l with
 |nil=>simp [val]
 |cons a t ih =>
  have ha:a<B9:=h a (by simp)
  have ih:=ih (fun x hx=>h x (by simp [hx]))
  simp only [val,List.length_cons,Nat.pow_succ]
  have:=Nat.mul_le_mul_left B9 ih
  rw [Nat.mul_succ] at this
  rw [Nat.mul_comm (B9 ^ _)]
  omega
theorem val_replicate (n:Nat):val (List.replicate n 0)=0:=by
 induction n with
 |zero=>rfl
 |succ n ih=>simp [List.replicate_succ,val,ih]
theorem val_set (l:List Nat):∀ (i x:Nat),i<l.length→val (l.set i x)+(l[i]?.getD 0)*B9 ^ i=val l+x*B9 ^ i:=by
 induction l with
 |nil=>intro i x h;simp at h
 |cons a t ih =>
  intro i x h
  cases i with
  |zero=>simp [val];omega
  |succ i =>
   have:=ih i x (by simpa using h)
   simp only [List.set_cons_succ,val,List.getElem?_cons_succ,Nat.pow_succ]
   rw [← Nat.mul_assoc,← Nat.mul_assoc,Nat.mul_comm _ B9,Nat.mul_comm (x*B9 ^ i) B9,Nat.add_assoc,← Nat.mul_add,this,Nat.mul_add,Nat.add_assoc]
theorem lim_set {l:List Nat} (h:Lim l) {i x:Nat} (hx:x<B9):Lim (l.set i x):=fun a ha=>by
 rcases List.mem_or_eq_of_mem_set ha with h1|h1
 ·exact h a h1
 ·exact h1▸hx
theorem lim_get {l:List Nat} (h:Lim l) (i:Nat):l[i]?.getD 0<B9:=by
 cases hi:l[i]? with
 |none=>decide
 |some a=>exact h a (List.mem_of_getElem? hi)
def D (k u:Nat):List UInt8:=(List.range k).map fun t=>dg u (k-1-t)
theorem D_length (k u:Nat):(D k u).length=k:=by simp [D]
theorem D_get (k u t:Nat) (h:t<k):(D k u)[t]?=some (dg u (k-1-t)):=by
 unfold D
 rw [List.getElem?_map,List.getElem?_range h]
 rfl
theorem decDigits_D (u:Nat):decDigits u=D (nDigits u) u:=decDigits_eq u
theorem dg_low {a m j:Nat} (hj:j<9):dg (a+B9*m) j=dg a j:=by
 unfold dg
 congr 2
 have hB:B9=10 ^ j*10 ^ (9-j):=by rw [← Nat.pow_add,show j+(9-j)=9 by omega]
 rw [hB,Nat.mul_assoc,Nat.add_mul_div_left _ _ (Nat.pow_pos (by decide))]
 rw [show 9-j=(8-j)+1 by omega,Nat.pow_succ,Nat.mul_comm (10 ^ (8-j)) 10,Nat.mul_assoc,Nat.add_mul_mod_self_left]
theorem dg_high {a m j:Nat} (ha:a<B9):dg (a+B9*m) (j+9)=dg m j:=by
 unfold dg
 congr 2
 rw [Nat.pow_add,Nat.mul_comm (10 ^ j),← Nat.div_div_eq_div_mul,show (10:Nat) ^ 9=B9 from rfl,Nat.add_mul_div_left _ _ (by decide),Nat.div_eq_of_lt ha,Nat.zero_add]
theorem D_split {a m p:Nat} (ha:a<B9):D (p+9) (a+B9*m)=D p m++D 9 a:=by
 apply List.ext_getElem?
 intro t
 by_cases h1:t<p
 ·rw [D_get _ _ _ (by omega),List.getElem?_append_left (by rw [D_length];exact h1),D_get _ _ _ h1]
  rw [show p+9-1-t=(p-1-t)+9 by omega,dg_high ha]
 ·rw [List.getElem?_append_right (by rw [D_length];omega),D_length]
  by_cases h2:t<p+9
  ·rw [D_get _ _ _ h2,D_get _ _ _ (by omega)]
   rw [show p+9-1-t=9-1-(t-p) by omega,dg_low (by omega)]
  ·rw [List.getElem?_eq_none (by rw [D_length];omega),List.getElem?_eq_none (by rw [D_length];omega)]
theorem pow_le_of_nDigits:∀ (u:Nat),u≠0→10 ^ (nDigits u-1)≤u:=by
 intro u
 induction u using Nat.strongRecOn with
 |ind u ih =>
  intro h0
  by_cases h:u<10
  ·rw [nDigits_small h];simp;omega
  ·rw [nDigits_big h]
   have:=ih (u / 10) (by omega) (by omega)
   have h1:=nDigits_pos (u / 10)
   rw [show nDigits (u / 10)+1-1=(nDigits (u / 10)-1)+1 by omega,Nat.pow_succ]
   omega
theorem nDigits_split {a m:Nat} (ha:a<B9) (hm:m≠0):nDigits (a+B9*m)=nDigits m+9:=by
 have h1:=pow_le_of_nDigits m hm
 have h2:=lt_pow_nDigits m
 have h3:=nDigits_pos m
 rw [show nDigits m+9=(nDigits m+8)+1 by omega]
 apply nDigits_unique
 ·rw [show nDigits m+8=9+(nDigits m-1) by omega,Nat.pow_add,show (10:Nat) ^ 9=B9 from rfl]
  have:=Nat.mul_le_mul_left B9 h1
  omega
 ·rw [show nDigits m+8+1=9+nDigits m by omega,Nat.pow_add,show (10:Nat) ^ 9=B9 from rfl]
  have:=Nat.mul_le_mul_left B9 h2
  rw [Nat.mul_succ] at this
  omega
theorem dec_split {a m:Nat} (ha:a<B9) (hm:m≠0):decDigits (a+B9*m)=decDigits m++D 9 a:=by
 rw [decDigits_D,decDigits_D,nDigits_split ha hm,D_split ha]
theorem dg_zero {u j:Nat} (h:u<10 ^ j):dg u j=48:=by
 unfold dg
 rw [Nat.div_eq_of_lt h];rfl
theorem pad (k u:Nat) (h:nDigits u≤k):List.replicate (k-nDigits u) 48++decDigits u=D k u:=by
 rw [decDigits_D]
 apply List.ext_getElem?
 intro t
 by_cases h1:t<k-nDigits u
 ·rw [List.getElem?_append_left (by simpa using h1),D_get _ _ _ (by omega),List.getElem?_replicate,if_pos h1]
  rw [dg_zero (Nat.lt_of_lt_of_le (lt_pow_nDigits u) (Nat.pow_le_pow_right (by decide) (by omega)))]
 ·rw [List.getElem?_append_right (by simp;omega),List.length_replicate]
  by_cases h2:t<k
  ·rw [D_get _ _ _ h2,D_get _ _ _ (by omega)]
   congr 2;omega
  ·rw [List.getElem?_eq_none (by rw [D_length];omega),List.getElem?_eq_none (by rw [D_length];omega)]
theorem nDigits_le9 {a:Nat} (h:a<B9):nDigits a≤9:=by
 rcases Nat.eq_zero_or_pos a with h0|h0
 ·rw [h0,nDigits_small (by decide)];decide
 ·have:=pow_le_of_nDigits a (by omega)
  rcases Nat.lt_or_ge 9 (nDigits a) with h1|h1
  ·have:10 ^ 9≤10 ^ (nDigits a-1):=Nat.pow_le_pow_right (by decide) (by omega)
   simp only [B9] at h;omega
  ·exact h1
def textL:List Nat→List UInt8
 |[]=>decDigits 0
 |[a]=>decDigits a
 |a::t=>textL t++D 9 a
theorem textL_cons {a:Nat} {t:List Nat} (h:t≠[]):textL (a::t)=textL t++D 9 a:=by
 cases t with
 |nil=>exact absurd rfl h
 |cons b t=>rfl
theorem textL_toL (n:Nat):textL (toL n)=decDigits n:=by
 induction n using Nat.strongRecOn with
 |ind n ih =>
  by_cases h:n=0
  ·rw [h,toL_zero];rfl
  ·rw [toL_pos h]
   by_cases h1:n / B9=0
   ·rw [h1,toL_zero]
    show decDigits (n % B9)=_
    congr 1
    have:=Nat.mod_add_div n B9
    rw [h1] at this;omega
   ·rw [textL_cons (by rw [Ne,toL_nil];exact h1),ih _ (Nat.div_lt_self (by omega) (by decide)),← dec_split (Nat.mod_lt _ (by decide)) h1,Nat.mod_add_div]
def parse (l:List UInt8):Nat:=l.foldl (fun v c=>10*v+(c.toNat-48)) 0
theorem parse_snoc (l:List UInt8) (c:UInt8):parse (l++[c])=10*parse l+(c.toNat-48):=by simp [parse]
theorem dg_toNat (u j:Nat):(dg u j).toNat=48+u / 10 ^ j % 10:=by
 unfold dg
 have:u / 10 ^ j % 10<10:=Nat.mod_lt _ (by decide)
 simp
 omega
theorem D_succ (k u:Nat):D (k+1) u=D k (u / 10)++[dg u 0]:=by
 apply List.ext_getElem?
 intro t
 by_cases h1:t<k
 ·rw [D_get _ _ _ (by omega),List.getElem?_append_left (by rw [D_length];exact h1),D_get _ _ _ h1]
  rw [show k+1-1-t=(k-1-t)+1 by omega,dg_succ]
 ·rw [List.getElem?_append_right (by rw [D_length];omega),D_length]
  by_cases h2:t<k+1
  ·have:t=k:=by omega
   subst this
   rw [D_get _ _ _ (by omega),Nat.sub_self,show t+1-1-t=0 by omega];rfl
  ·rw [List.getElem?_eq_none (by rw [D_length];omega),List.getElem?_eq_none (by simp;omega)]
theorem parse_D:∀ (k u:Nat),parse (D k u)=u % 10 ^ k
 |0,u=>by simp [D,parse,Nat.mod_one]
 |k+1,u=>by
  rw [D_succ,parse_snoc,parse_D k,dg_toNat,Nat.pow_zero,Nat.div_one,Nat.add_sub_cancel_left,Nat.pow_succ,Nat.mul_comm (10 ^ k) 10,Nat.mod_mul,Nat.add_comm]
theorem D_take_drop (L u e c:Nat) (he:e≤L) (hc:c≤e):((D L u).take e).drop (e-c)=D c (u / 10 ^ (L-e)):=by
 apply List.ext_getElem?
 intro t
 rw [List.getElem?_drop]
 by_cases h:t<c
 ·rw [List.getElem?_take_of_lt (by omega),D_get _ _ _ (by omega),D_get _ _ _ h]
  unfold dg
  rw [Nat.div_div_eq_div_mul,← Nat.pow_add]
  rw [show L-e+(c-1-t)=L-1-(e-c+t) by omega]
 ·rw [List.getElem?_eq_none (by simp [D_length];omega),List.getElem?_eq_none (by rw [D_length];omega)]
theorem lex_D:∀ (k a b:Nat),a<10 ^ k→b<10 ^ k→(a<b↔∃ t,t<k∧(∀ s,s<t→dg a (k-1-s)=dg b (k-1-s))∧dg a (k-1-t)<dg b (k-1-t))
 |0,a,b,ha,hb=>by simp at ha hb;omega
 |k+1,a,b,ha,hb=>by
  have ih:=lex_D k (a / 10) (b / 10) (by rw [Nat.pow_succ] at ha;omega) (by rw [Nat.pow_succ] at hb;omega)
  have hd:∀ (u s:Nat),s<k→dg u (k+1-1-s)=dg (u / 10) (k-1-s):=fun u s hs=>by
   rw [show k+1-1-s=(k-1-s)+1 by omega,dg_succ]
  have hlow:∀ u,(dg u 0).toNat=48+u % 10:=fun u=>by rw [dg_toNat,Nat.pow_zero,Nat.div_one]
  have heq:a / 10=b / 10↔∀ s,s<k→dg (a / 10) (k-1-s)=dg (b / 10) (k-1-s):=by
   constructor
   ·intro h s _;rw [h]
   ·intro h
    have h1:D k (a / 10)=D k (b / 10):=by
     apply List.ext_getElem?
     intro t
     by_cases ht:t<k
     ·rw [D_get _ _ _ ht,D_get _ _ _ ht,h t ht]
     ·rw [List.getElem?_eq_none (by rw [D_length];omega),List.getElem?_eq_none (by rw [D_length];omega)]
    have h2:=congrArg parse h1
    rw [parse_D,parse_D,Nat.mod_eq_of_lt (by rw [Nat.pow_succ] at ha;omega),Nat.mod_eq_of_lt (by rw [Nat.pow_succ] at hb;omega)] at h2
    exact h2
  constructor
  ·intro h
   by_cases h1:a / 10<b / 10
   ·obtain ⟨t,t1,t2,t3⟩:=ih.1 h1
    refine ⟨t,by omega,fun s hs=>?_,?_⟩
    ·rw [hd a s (by omega),hd b s (by omega)];exact t2 s hs
    ·rw [hd a t t1,hd b t t1];exact t3
   ·have h2:a / 10=b / 10:=by omega
    refine ⟨k,by omega,fun s hs=>?_,?_⟩
    ·rw [hd a s hs,hd b s hs];exact heq.1 h2 s hs
    ·rw [show k+1-1-k=0 by omega,UInt8.lt_iff_toNat_lt,hlow,hlow];omega
  ·rintro ⟨t,t1,t2,t3⟩
   by_cases ht:t<k
   ·have:a / 10<b / 10:=ih.2 ⟨t,ht,fun s hs=>by rw [← hd a s (by omega),← hd b s (by omega)];exact t2 s hs,by rw [← hd a t ht,← hd b t ht];exact t3⟩
    omega
   ·have:t=k:=by omega
    subst this
    have h2:=heq.2 fun s hs=>by rw [← hd a s hs,← hd b s hs];exact t2 s hs
    rw [show t+1-1-t=0 by omega,UInt8.lt_iff_toNat_lt,hlow,hlow] at t3
    omega
end Go.Num
set_option linter.unusedSimpArgs false
set_option linter.unusedVariables false
namespace Go.Num
open Go.Lib Go.Vm
theorem gi_lim {l:List Nat} (h:Lim l) (i:Nat):gi l i<1000000000:=lim_get h i
theorem gi_nat (l:List Nat) (i:Nat):gi l i=l[i]?.getD 0:=rfl
theorem val_take_succ (l:List Nat) (k:Nat) (h:k<l.length):val (l.take (k+1))=val (l.take k)+gi l k*B9 ^ k:=by
 have:l.take (k+1)=l.take k++[gi l k]:=by
  rw [List.take_succ_eq_append_getElem h];simp [gi,List.getElem?_eq_getElem h]
 rw [this,val_append,List.length_take,Nat.min_eq_left (by omega),val,val,Nat.mul_zero,Nat.add_zero,Nat.mul_comm]
theorem mul_step {out:List Nat} {i k a b carry V W:Nat} (hik:i+k<out.length) (h:val out+carry*B9 ^ (i+k)=V+a*B9 ^ i*W) :
 val (out.set (i+k) ((gi out (i+k)+a*b+carry) % B9))+(gi out (i+k)+a*b+carry) / B9*B9 ^ (i+(k+1))=V+a*B9 ^ i*(W+b*B9 ^ k):=by
 generalize hx:gi out (i+k)+a*b+carry=x
 have h1:=val_set out (i+k) (x % B9) hik
 have h2:x % B9+B9*(x / B9)=x:=Nat.mod_add_div x B9
 have h3:out[i+k]?.getD 0=gi out (i+k):=rfl
 rw [h3] at h1
 have e1:x / B9*B9 ^ (i+(k+1))=B9*(x / B9)*B9 ^ (i+k):=by
  rw [← Nat.add_assoc,Nat.pow_succ,Nat.mul_comm (B9 ^ (i+k)) B9,← Nat.mul_assoc,Nat.mul_comm (x / B9) B9]
 have e2:a*B9 ^ i*(W+b*B9 ^ k)=a*B9 ^ i*W+a*b*B9 ^ (i+k):=by
  rw [Nat.mul_add,Nat.pow_add]
  congr 1
  rw [Nat.mul_assoc,Nat.mul_assoc,← Nat.mul_assoc (B9 ^ i),Nat.mul_comm (B9 ^ i) b,Nat.mul_assoc]
 have e3:x*B9 ^ (i+k)=gi out (i+k)*B9 ^ (i+k)+a*b*B9 ^ (i+k)+carry*B9 ^ (i+k):=by
  rw [← hx,Nat.add_mul,Nat.add_mul]
 have e4:x % B9*B9 ^ (i+k)+B9*(x / B9)*B9 ^ (i+k)=x*B9 ^ (i+k):=by rw [← Nat.add_mul,h2]
 rw [e1,e2]
 omega
theorem mul_end {out:List Nat} {i n a carry V W:Nat} (hin:i+n<out.length) (h0:gi out (i+n)=0) (h:val out+carry*B9 ^ (i+n)=V+a*B9 ^ i*W) :
 val (out.set (i+n) (gi out (i+n)+carry))=V+a*B9 ^ i*W:=by
 have h1:=val_set out (i+n) (gi out (i+n)+carry) hin
 have h3:out[i+n]?.getD 0=gi out (i+n):=rfl
 rw [h3,h0,Nat.zero_mul,Nat.zero_add] at h1
 rw [h0,Nat.zero_add]
 omega
theorem gi_set (l:List Nat) (i j x:Nat) (hi:i<l.length):gi (l.set i x) j=if i=j then x else gi l j:=by
 simp only [gi,List.getElem?_set]
 split
 ·rename_i h;subst h;simp [hi]
 ·rfl
theorem gi_replicate (n j:Nat):gi (List.replicate n (0:Nat)) j=0:=by
 simp only [gi,List.getElem?_replicate]
 split<;>rfl
theorem lim_replicate (n:Nat):Lim (List.replicate n 0):=fun a ha=>by
 rw [List.eq_of_mem_replicate ha];decide
theorem parse_snoc' (l:List UInt8) (k:Nat) (h:k<l.length):parse (l.take (k+1))=10*parse (l.take k)+((gi l k).toNat-48):=by
 have:l.take (k+1)=l.take k++[gi l k]:=by
  rw [List.take_succ_eq_append_getElem h];simp [gi,List.getElem?_eq_getElem h]
 rw [this,parse_snoc]
theorem parse_lt:∀ (l:List UInt8),(∀ c∈l,48≤c.toNat∧c.toNat≤57)→parse l<10 ^ l.length:=by
 intro l h
 have key:∀ k,k≤l.length→parse (l.take k)<10 ^ k:=by
  intro k
  induction k with
  |zero=>intro _;simp [parse]
  |succ k ih =>
   intro hk
   have hm:gi l k∈l:=by simp only [gi,List.getElem?_eq_getElem (show k<l.length by omega),Option.getD_some];exact List.getElem_mem _
   have:=h _ hm
   have:=ih (by omega)
   rw [parse_snoc' l k (by omega),Nat.pow_succ]
   omega
 have:=key l.length (Nat.le_refl _)
 rwa [List.take_length] at this
theorem D_digit (k u:Nat):∀ c∈D k u,48≤c.toNat∧c.toNat≤57:=fun c hc=>by
 unfold D at hc
 obtain ⟨t,_,rfl⟩:=List.mem_map.1 hc
 rw [dg_toNat]
 have:=Nat.mod_lt (u / 10 ^ (k-1-t)) (show 0<10 by decide)
 omega
theorem decDigits_digit (u:Nat):∀ c∈decDigits u,48≤c.toNat∧c.toNat≤57:=by rw [decDigits_D];exact D_digit _ _
def limbAt (n j:Nat):Nat:=n / B9 ^ j % B9
theorem toL_gi (n:Nat):∀ j,gi (toL n) j=limbAt n j:=by
 induction n using Nat.strongRecOn with
 |ind n ih =>
  intro j
  by_cases h:n=0
  ·rw [h,toL_zero];simp [limbAt,gi,default]
  ·rw [toL_pos h]
   cases j with
   |zero=>simp [limbAt,gi]
   |succ j =>
    have:=ih (n / B9) (Nat.div_lt_self (by omega) (by decide)) j
    show gi (toL (n / B9)) j=_
    rw [this]
    simp only [limbAt,Nat.pow_succ,Nat.div_div_eq_div_mul]
    rw [Nat.mul_comm (B9 ^ j) B9]
def limbs (n:Nat):Nat→List Nat
 |0=>[]
 |k+1=>limbs n k++[limbAt n k]
theorem limbs_len (n:Nat):∀ k,(limbs n k).length=k
 |0=>rfl
 |k+1=>by simp [limbs,limbs_len n k]
theorem limbs_lim (n:Nat):∀ k,Lim (limbs n k)
 |0=>fun a h=>by cases h
 |k+1=>fun a h=>by
  rcases List.mem_append.1 h with h|h
  ·exact limbs_lim n k a h
  ·rw [List.mem_singleton.1 h];exact Nat.mod_lt _ (by decide)
theorem val_limbs (n:Nat):∀ k,val (limbs n k)=n % B9 ^ k
 |0=>by simp [limbs,val,Nat.mod_one]
 |k+1=>by
  rw [limbs,val_append,limbs_len,val_limbs n k,val,val,Nat.mul_zero,Nat.add_zero,limbAt,Nat.pow_succ,Nat.mod_mul]
theorem limbs_trim {n k:Nat} (h:n<B9 ^ k):trimL (limbs n k)=toL n:=by
 rw [trim_toL (limbs_lim n k),val_limbs,Nat.mod_eq_of_lt h]
theorem toL_len_le (n:Nat):∀ k,n<B9 ^ k→(toL n).length≤k:=by
 induction n using Nat.strongRecOn with
 |ind n ih =>
  intro k hk
  by_cases h:n=0
  ·rw [h,toL_zero];exact Nat.zero_le _
  ·rw [toL_pos h]
   cases k with
   |zero=>simp at hk;omega
   |succ k =>
    have:=ih (n / B9) (Nat.div_lt_self (by omega) (by decide)) k (by rw [Nat.pow_succ] at hk;exact Nat.div_lt_of_lt_mul (by rw [Nat.mul_comm];exact hk))
    simp;omega
theorem le_of_toL_len {n k:Nat} (h:(toL n).length≤k):n<B9 ^ k:=by
 have h1:=val_lt (lim_toL n)
 rw [val_toL] at h1
 exact Nat.lt_of_lt_of_le h1 (Nat.pow_le_pow_right (by decide) h)
theorem cmp_D:∀ (k a b:Nat),a<10 ^ k→b<10 ^ k→compareBytes (D k a) (D k b)=if a<b then -1 else if b<a then 1 else 0
 |0,a,b,ha,hb=>by
  simp at ha hb;subst ha;subst hb;rfl
 |k+1,a,b,ha,hb=>by
  have hD:∀ u,D (k+1) u=dg u k::D k (u % 10 ^ k):=fun u=>by
   apply List.ext_getElem?
   intro t
   cases t with
   |zero=>rw [D_get _ _ _ (by omega)];rfl
   |succ t =>
    rw [List.getElem?_cons_succ]
    by_cases ht:t<k
    ·rw [D_get _ _ _ (by omega),D_get _ _ _ ht]
     congr 1
     rw [show k+1-1-(t+1)=k-1-t by omega]
     unfold dg
     congr 2
     have hk:(10:Nat) ^ k=10 ^ (k-1-t)*(10*10 ^ t):=by rw [← Nat.pow_succ',← Nat.pow_add];congr 1;omega
     rw [hk,Nat.mod_mul_right_div_self,Nat.mod_mul_right_mod]
    ·rw [List.getElem?_eq_none (by rw [D_length];omega),List.getElem?_eq_none (by rw [D_length];omega)]
  have hp:0<10 ^ k:=Nat.pow_pos (by decide)
  have ih:=cmp_D k (a % 10 ^ k) (b % 10 ^ k) (Nat.mod_lt _ hp) (Nat.mod_lt _ hp)
  rw [Nat.pow_succ] at ha hb
  have ea:=Nat.mod_add_div a (10 ^ k)
  have eb:=Nat.mod_add_div b (10 ^ k)
  have ha9:a / 10 ^ k<10:=Nat.div_lt_of_lt_mul ha
  have hb9:b / 10 ^ k<10:=Nat.div_lt_of_lt_mul hb
  have da:(dg a k).toNat=48+a / 10 ^ k:=by rw [dg_toNat,Nat.mod_eq_of_lt ha9]
  have db:(dg b k).toNat=48+b / 10 ^ k:=by rw [dg_toNat,Nat.mod_eq_of_lt hb9]
  have la:a % 10 ^ k<10 ^ k:=Nat.mod_lt _ hp
  have lb:b % 10 ^ k<10 ^ k:=Nat.mod_lt _ hp
  rw [hD a,hD b]
  simp only [compareBytes,UInt8.lt_iff_toNat_lt,da,db]
  rcases Nat.lt_trichotomy (a / 10 ^ k) (b / 10 ^ k) with h|h|h
  ·rw [if_pos (by omega)]
   have:=Nat.mul_le_mul_left (10 ^ k) (show a / 10 ^ k+1≤b / 10 ^ k from h)
   rw [Nat.mul_succ] at this
   rw [if_pos (by omega)]
  ·rw [if_neg (by omega),if_neg (by omega),ih]
   rw [h] at ea
   have e1:(a % 10 ^ k<b % 10 ^ k)=(a<b):=propext (by omega)
   have e2:(b % 10 ^ k<a % 10 ^ k)=(b<a):=propext (by omega)
   simp only [e1,e2]
  ·have:=Nat.mul_le_mul_left (10 ^ k) (show b / 10 ^ k+1≤a / 10 ^ k from h)
   rw [Nat.mul_succ] at this
   rw [if_neg (by omega),if_pos (by omega),if_neg (by omega),if_pos (by omega)]
theorem nDigits_mono {a b:Nat} (h:nDigits a<nDigits b):a<b:=by
 have h1:=lt_pow_nDigits a
 have hb0:b≠0:=fun e=>by
  have e0:nDigits 0=1:=nDigits_small (by decide)
  rw [e,e0] at h;have:=nDigits_pos a;omega
 have h2:=pow_le_of_nDigits b hb0
 have:10 ^ nDigits a≤10 ^ (nDigits b-1):=Nat.pow_le_pow_right (by decide) (by omega)
 omega
theorem pow_bit (a n k:Nat):(a ^ (n / 2 ^ (k+1)))*(a ^ (n / 2 ^ (k+1)))*(if n / 2 ^ k % 2=1 then a else 1)=a ^ (n / 2 ^ k):=by
 have h:n / 2 ^ (k+1)=n / 2 ^ k / 2:=by rw [Nat.pow_succ,Nat.div_div_eq_div_mul]
 rw [h,← Nat.pow_add]
 generalize n / 2 ^ k=m
 split
 ·rw [← Nat.pow_succ];congr 1;omega
 ·rw [Nat.mul_one];congr 1;omega
end Go.Num
