/-
  The plain law of measures: the least number that is too great, and how it moves with the steps, the base and the denominator.
-/
import Derived.Test.YtemfebbakfhknaaDoorVmA
set_option linter.unusedSimpArgs false
set_option linter.unusedVariables false
namespace Go.Sca
def gt (A B h r:Nat):Prop:=B<A*(2*r+1) ^ h
instance (A B h r:Nat):Decidable (gt A B h r):=by unfold gt;infer_instance
theorem gt_mono {A B h r s:Nat} (hrs:r≤s) (h1:gt A B h r):gt A B h s :=
 Nat.lt_of_lt_of_le h1 (Nat.mul_le_mul_left _ (Nat.pow_le_pow_left (by omega) _))
def rk (A B h:Nat):Nat→Nat
 |0=>0
 |k+1=>if rk A B h k<k then rk A B h k else if gt A B h k then k else k+1
theorem rk_le (A B h:Nat):∀ k,rk A B h k≤k
 |0=>Nat.le_refl _
 |k+1=>by
  have:=rk_le A B h k
  simp only [rk];split
  ·omega
  ·split<;>omega
theorem rk_iff (A B h:Nat):∀ k j,j<k→(gt A B h j↔rk A B h k≤j)
 |0,j,hj=>by omega
 |k+1,j,hj=>by
  have hle:=rk_le A B h k
  have ih:=rk_iff A B h k
  simp only [rk]
  by_cases h1:rk A B h k<k
  ·rw [if_pos h1]
   rcases Nat.lt_or_ge j k with h2|h2
   ·exact ih j h2
   ·have:j=k:=by omega
    subst this
    refine ⟨fun _=>by omega,fun _=>gt_mono (Nat.le_of_lt h1) ((ih _ h1).2 (Nat.le_refl _))⟩
  ·rw [if_neg h1]
   have hk:rk A B h k=k:=by omega
   rcases Nat.lt_or_ge j k with h2|h2
   ·have:¬ gt A B h j:=fun g=>by have:=(ih j h2).1 g;omega
    refine ⟨fun g=>absurd g this,fun g=>?_⟩
    split at g<;>omega
   ·have:j=k:=by omega
    subst this
    split
    ·rename_i g;exact ⟨fun _=>Nat.le_refl _,fun _=>g⟩
    ·rename_i g;exact ⟨fun g'=>absurd g' g,fun g'=>by omega⟩
def rnd (A B h:Nat):Nat:=rk A B h 10000001
theorem rnd_le (A B h:Nat):rnd A B h≤10000001:=rk_le _ _ _ _
theorem rnd_iff {A B h j:Nat} (hj:j<10000001):gt A B h j↔rnd A B h≤j:=rk_iff _ _ _ _ _ hj
theorem rnd_eq {A B h n:Nat} (h1:n≤10000001) (h2:n=0∨¬ gt A B h (n-1)) (h3:n=10000001∨gt A B h n):rnd A B h=n:=by
 have hle:=rnd_le A B h
 have a:rnd A B h≤n:=by
  rcases h3 with h3|h3
  ·omega
  ·rcases Nat.lt_or_ge n 10000001 with h4|h4
   ·exact (rnd_iff h4).1 h3
   ·omega
 have b:n≤rnd A B h:=by
  rcases h2 with h2|h2
  ·omega
  ·rcases Nat.lt_or_ge (rnd A B h) n with h4|h4
   ·exact absurd ((rnd_iff (by omega)).2 (by omega)) h2
   ·exact h4
 omega
theorem rnd_mono {A B A' B' h h':Nat} (H:∀ r,gt A' B' h' r→gt A B h r):rnd A B h≤rnd A' B' h':=by
 have:=rnd_le A B h
 rcases Nat.lt_or_ge (rnd A' B' h') 10000001 with h1|h1
 ·exact (rnd_iff h1).1 (H _ ((rnd_iff h1).2 (Nat.le_refl _)))
 ·omega
theorem rnd_congr {A B A' B' h h':Nat} (H:∀ r,gt A' B' h' r↔gt A B h r):rnd A B h=rnd A' B' h' :=
 Nat.le_antisymm (rnd_mono fun r=>(H r).1) (rnd_mono fun r=>(H r).2)
def sl (den h:Nat) (s:Int):Nat:=den ^ h*2 ^ s.toNat
def sr (num h:Nat) (s:Int):Nat:=(2*num) ^ h*2 ^ (-s).toNat
def me (num den h:Nat) (s:Int):Nat:=rnd (sl den h s) (sr num h s) h
theorem me_step (num den h:Nat) (s:Int):me num den h (s+1)≤me num den h s:=by
 refine rnd_mono fun r hr=>?_
 unfold gt sl sr at *
 rcases Int.lt_or_le s 0 with h1|h1
 ·obtain ⟨k,rfl⟩:∃ k:Nat,s=-(k:Int)-1:=⟨(-s-1).toNat,by omega⟩
  rw [show (-(k:Int)-1).toNat=0 by omega,show (-(-(k:Int)-1)).toNat=k+1 by omega] at hr
  rw [show (-(k:Int)-1+1).toNat=0 by omega,show (-(-(k:Int)-1+1)).toNat=k by omega]
  refine Nat.lt_of_le_of_lt (Nat.mul_le_mul_left _ (Nat.pow_le_pow_right (by decide) (Nat.le_succ k))) hr
 ·obtain ⟨k,rfl⟩:∃ k:Nat,s=(k:Int):=⟨s.toNat,by omega⟩
  rw [show (k:Int).toNat=k by omega,show (-(k:Int)).toNat=0 by omega] at hr
  rw [show ((k:Int)+1).toNat=k+1 by omega,show (-((k:Int)+1)).toNat=0 by omega]
  exact Nat.lt_of_lt_of_le hr (Nat.mul_le_mul_right _ (Nat.mul_le_mul_left _ (Nat.pow_le_pow_right (by decide) (Nat.le_succ k))))
theorem me_anti (num den h:Nat) (s:Int):∀ k:Nat,me num den h (s+k)≤me num den h s
 |0=>by simp
 |k+1=>by
  have h1:=me_step num den h (s+k)
  have h2:=me_anti num den h s k
  have h3:s+((k+1:Nat):Int)=s+k+1:=by omega
  rw [h3];omega
theorem me_le {num den h:Nat} {s t:Int} (hst:s≤t):me num den h t≤me num den h s:=by
 have:=me_anti num den h s (t-s).toNat
 rwa [show s+((t-s).toNat:Int)=t by omega] at this
theorem me_base {a b den h:Nat} {s:Int} (hab:a≤b):me a den h s≤me b den h s:=by
 refine rnd_mono fun r hr=>?_
 unfold gt sl sr at *
 exact Nat.lt_of_le_of_lt (Nat.mul_le_mul_right _ (Nat.pow_le_pow_left (by omega) _)) hr
theorem pow_lt_iff {a b h:Nat} (hh:0<h):a ^ h<b ^ h↔a<b:=Nat.pow_lt_pow_iff_left (by omega)
theorem me_zero {b h:Nat} (hh:0<h) (hb:b≤10000000):me b 1 h 0=b:=by
 unfold me sl sr
 refine rnd_eq (by omega) ?_ ?_
 ·rcases Nat.eq_zero_or_pos b with h0|h0
  ·exact .inl h0
  ·right
   unfold gt
   simp only [Nat.one_pow,Int.toNat_zero,Int.neg_zero,Nat.pow_zero,Nat.mul_one,Nat.one_mul]
   rw [pow_lt_iff hh];omega
 ·right
  unfold gt
  simp only [Nat.one_pow,Int.toNat_zero,Int.neg_zero,Nat.pow_zero,Nat.mul_one,Nat.one_mul]
  rw [pow_lt_iff hh];omega
theorem me_half {b h:Nat} (hh:0<h) (hb:b≤10000000):me b 1 h (h:Int)=(b+1) / 2:=by
 unfold me sl sr
 have key:∀ r,gt (1 ^ h*2 ^ (h:Int).toNat) ((2*b) ^ h*2 ^ (-(h:Int)).toNat) h r↔b<2*r+1:=fun r=>by
  unfold gt
  rw [show (h:Int).toNat=h by omega,show (-(h:Int)).toNat=0 by omega,Nat.one_pow,Nat.one_mul,Nat.pow_zero,Nat.mul_one,← Nat.mul_pow,pow_lt_iff hh]
  omega
 refine rnd_eq (by omega) ?_ ?_
 ·rw [key];omega
 ·rw [key];omega
theorem me_octave (u:Nat) (n:Int):me (u*8) 1 12 (n+12)=me (u*4) 1 12 n:=by
 refine rnd_congr fun r=>?_
 unfold gt sl sr
 generalize (2*r+1) ^ 12=X
 have hY:(2*(u*8)) ^ 12=(2*(u*4)) ^ 12*2 ^ 12:=by rw [← Nat.mul_pow];congr 1;omega
 rw [hY]
 generalize (2*(u*4)) ^ 12=Y
 simp only [Nat.one_pow,Nat.one_mul]
 rcases Int.lt_or_le n 0 with h1|h1
 ·rcases Int.lt_or_le n (-12) with h2|h2
  ·obtain ⟨k,rfl⟩:∃ k:Nat,n=-(k:Int)-12:=⟨(-n-12).toNat,by omega⟩
   rw [show (-(k:Int)-12).toNat=0 by omega,show (-(-(k:Int)-12)).toNat=12+k by omega,show (-(k:Int)-12+12).toNat=0 by omega,show (-(-(k:Int)-12+12)).toNat=k by omega,Nat.pow_add,Nat.mul_assoc]
  ·obtain ⟨k,rfl⟩:∃ k:Nat,n=-(k:Int):=⟨(-n).toNat,by omega⟩
   obtain ⟨j,hj⟩:∃ j:Nat,k+j=12:=⟨12-k,by omega⟩
   rw [show (-(k:Int)).toNat=0 by omega,show (-(-(k:Int))).toNat=k by omega,show (-(k:Int)+12).toNat=j by omega,show (-(-(k:Int)+12)).toNat=0 by omega]
   rw [show (2:Nat) ^ 12=2 ^ k*2 ^ j by rw [← Nat.pow_add,hj],Nat.pow_zero,Nat.one_mul,Nat.mul_one,← Nat.mul_assoc,Nat.mul_comm (2 ^ j) X]
   exact (Nat.mul_lt_mul_right (Nat.pow_pos (by decide))).symm
 ·obtain ⟨k,rfl⟩:∃ k:Nat,n=(k:Int):=⟨n.toNat,by omega⟩
  rw [show (k:Int).toNat=k by omega,show (-(k:Int)).toNat=0 by omega,show ((k:Int)+12).toNat=k+12 by omega,show (-((k:Int)+12)).toNat=0 by omega,Nat.pow_zero,Nat.mul_one,Nat.mul_one,Nat.pow_add,Nat.mul_comm (2 ^ k*2 ^ 12) X,← Nat.mul_assoc,Nat.mul_comm X]
  exact (Nat.mul_lt_mul_right (Nat.pow_pos (by decide))).symm
end Go.Sca
