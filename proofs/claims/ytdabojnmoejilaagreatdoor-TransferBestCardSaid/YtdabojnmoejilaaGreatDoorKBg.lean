/-
  Texts of a proof, merged (HunF, TraW, TraX, TraY, RkQ, OrK, OrP, TraU). Conditions: in each statement.
-/
import Derived.Test.YtdabojnmoejilaaGreatDoorKBf
set_option linter.unusedSimpArgs false
set_option linter.unusedVariables false
set_option linter.unusedSectionVars false
set_option maxRecDepth 100000
set_option maxHeartbeats 8000000
namespace Go.Hun
open Go Go.Am Go.Vm
def Iu (f:Nat→Ja→Ja) (t:Nat) (es:Ja):Nat→Ja
 |0=>es
 |k+1=>if t.testBit k then Iu f t es k else f (t ||| 2 ^ k) (Iu f t es k)
def Dy (l:List (List Int)) (skip:Int) (m n:Nat):Nat→Nat→Ja→Ja
 |0,_,es=>es
 |r+1,t,es=>if (F8 es ((n-(r+1):Nat):Int) (t:Int)).isSome then es else
   Iu (Dy l skip m n r) t (Dy l skip m n r t es) m++[((((n-(r+1):Nat):Int),(t:Int)),CS l skip m n (r+1) t)]
def zV (l:List (List Int)) (skip:Int) (m n:Nat) (es:Ja):Prop :=
 ∀ (r t:Nat) v,r≤n→F8 es ((n-r:Nat):Int) (t:Int)=some v→v=CS l skip m n r t
theorem Ws (es:Ja) (a b v c d:Int):F8 (es++[((a,b),v)]) c d=match F8 es c d with|some x=>some x|none=>if c=a∧d=b then some v else none:=by
 induction es with
 |nil=>rfl
 |cons x es ih =>
  simp only [List.cons_append,F8]
  split
  ·rfl
  ·exact ih
theorem OT {f:Nat→Ja→Ja} {t:Nat} {a b:Int} (hf:∀ t es,F8 (f t es) a b=F8 es a b) (es:Ja):∀ k,F8 (Iu f t es k) a b=F8 es a b
 |0=>rfl
 |k+1=>by
  unfold Iu
  split
  ·exact OT hf es k
  ·rw [hf,OT hf es k]
theorem V7 (l:List (List Int)) (skip:Int) {m n:Nat} {a b:Int}:∀ r,r≤n→a<((n-r:Nat):Int)→∀ t es,F8 (Dy l skip m n r t es) a b=F8 es a b
 |0,_,_,_,_=>rfl
 |r+1,hr,h,t,es=>by
  have ih:=V7 l skip (m:=m) (n:=n) (a:=a) (b:=b) r (by omega) (by omega)
  unfold Dy
  split
  ·rfl
  ·rw [Ws,OT ih,ih,if_neg (by omega)]
   cases F8 es a b<;>rfl
theorem KL {f:Nat→Ja→Ja} {p:Ja→Prop} {t:Nat} (hf:∀ t es,p es→p (f t es)) {es:Ja} (h:p es):∀ k,p (Iu f t es k)
 |0=>h
 |k+1=>by
  unfold Iu
  split
  ·exact KL hf h k
  ·exact hf _ _ (KL hf h k)
theorem MR (l:List (List Int)) (skip:Int) {m n:Nat}:∀ r,r≤n→∀ t es,zV l skip m n es→zV l skip m n (Dy l skip m n r t es)
 |0,_,_,_,h=>h
 |r+1,hr,t,es,h=>by
  have ih:=MR l skip (m:=m) (n:=n) r (by omega)
  unfold Dy
  split
  ·exact h
  ·intro r' t' v hr' hv
   have h1:=KL (t:=t) ih (ih t es h) m
   rw [Ws] at hv
   split at hv
   ·rename_i x hx
    cases hv
    exact h1 r' t' _ hr' hx
   ·split at hv
    ·rename_i hc
     cases hv
     obtain rfl:r'=r+1:=by omega
     obtain rfl:t'=t:=by omega
     rfl
    ·cases hv
theorem l7 (l:List (List Int)) (skip:Int) {m n r:Nat} (hr:r+1≤n) (t:Nat) {es:Ja} (h:F8 es ((n-(r+1):Nat):Int) (t:Int)=none):F8 (Iu (Dy l skip m n r) t (Dy l skip m n r t es) m) ((n-(r+1):Nat):Int) (t:Int)=none:=by
 have ih:=V7 l skip (m:=m) (n:=n) (a:=((n-(r+1):Nat):Int)) (b:=(t:Int)) r (by omega) (by omega)
 rw [OT ih,ih,h]
theorem WT {row:List Int} {g:Nat→Int} {t:Nat} {b B:Int} (hb:0≤b∧b≤B) {m:Nat} (hr:∀ k,k<m→0≤gi row k) (hg:∀ t,0≤g t):∀ k,k≤m→0≤EZ row g t b k∧EZ row g t b k≤B
 |0,_=>hb
 |k+1,hk=>by
  have ih:=WT (t:=t) hb hr hg k (by omega)
  have h1:=hr k (by omega)
  have h2:=hg (t ||| 2 ^ k)
  unfold EZ
  split<;>omega
theorem YG {l:List (List Int)} {skip B:Int} {m n:Nat} (h:jB l n m skip B):∀ r,r≤n→∀ t,0≤CS l skip m n r t∧CS l skip m n r t≤r*B
 |0,_,t=>by simp [CS]
 |r+1,hr,t=>by
  have ih:=YG h r (by omega)
  have hs:=h.skip
  have e:((r+1:Nat):Int)*B=r*B+B:=by rw [Int.natCast_add,Int.add_mul];simp
  rw [e]
  unfold CS
  exact WT (by have:=ih t;omega) (fun k hk=>(h.rng _ k (by omega) hk).1) (fun t=>(ih t).1) m (Nat.le_refl _)
theorem mQ {f:Nat→Int} {B:Int}:∀ n,(∀ i,i<n→0≤f i∧f i≤B)→0≤Dv f n∧Dv f n≤n*B
 |0,_=>by simp [Dv]
 |n+1,h=>by
  have h1:=mQ n fun i hi=>h i (by omega)
  have h2:=h n (by omega)
  have h3:((n+1:Nat):Int)*B=n*B+B:=by rw [Int.natCast_add,Int.add_mul];simp
  rw [h3]
  simp only [Dv]
  omega
def FK (cols:List Int):Nat→Nat
 |0=>0
 |k+1=>if gi cols k<0 then FK cols k else FK cols k ||| 2 ^ (gi cols k).toNat
theorem P6 (cols:List Int) (j:Nat):∀ k,(FK cols k).testBit j=true→∃ i,i<k∧gi cols i=(j:Int)
 |0,h=>by simp [FK] at h
 |k+1,h=>by
  unfold FK at h
  split at h
  ·obtain ⟨i,h1,h2⟩:=P6 cols j k h
   exact ⟨i,by omega,h2⟩
  ·rw [Xf,Bool.or_eq_true] at h
   rcases h with h|h
   ·obtain ⟨i,h1,h2⟩:=P6 cols j k h
    exact ⟨i,by omega,h2⟩
   ·have:=of_decide_eq_true h
    exact ⟨k,by omega,by omega⟩
theorem Y8 {cols:List Int} {n m:Nat} (hm:m≤60) (h:Wq n m fun r=>gi cols r):∀ k,k≤n→FK cols k<2 ^ 60
 |0,_=>by show 0<_;decide
 |k+1,hk=>by
  have ih:=Y8 hm h k (by omega)
  have hr:-1≤gi cols k∧gi cols k<m:=h.rng k (by omega)
  unfold FK
  split
  ·exact ih
  ·exact Nat.or_lt_two_pow ih (Nat.pow_lt_pow_right (by decide) (by omega))
theorem dI {cols:List Int} {n m k:Nat} (h:Wq n m fun r=>gi cols r) (hk:k<n) {a:Nat} (ha:gi cols k=(a:Int)):(FK cols k).testBit a=false:=by
 cases hb:(FK cols k).testBit a with
 |false=>rfl
 |true =>
  obtain ⟨i,h1,h2⟩:=P6 cols a k hb
  have:=h.inj i k (by omega) hk (show 0≤gi cols i by omega) (show gi cols i=gi cols k by omega)
  omega
end Go.Hun
namespace Go.Proofs.YtdabojnmoejilaaGreatDoor
open Go Go.Am Go.Vm Go.Tra Go.Hun
attribute [local irreducible] Aa Ag Ap Ad BA AY CJ AO AL Aw Vm.Done Dc Bq
section
variable {E:Env} {L:Vm.Frame} {H:Vm.Heap} {nx:Nat} {Q:PV→Vm.Heap→Nat→Prop} {w:Bool} {dst:Option Tmp} {ty:TypeId} {pos:String} {af:Array Edge} {gd:Option (Nat×Bool)}
theorem Aa.orI {t t2:TypeId} {x y:Operand} {m n:Nat} (hx:Bz E.Γ L x=some (.p (.int .i64 (m:Int)))) (hy:Bz E.Γ L y=some (.p (.int .i64 (n:Int)))) (h:m<2 ^ 62∧n<2 ^ 62) (q:Q (.p (.int .i64 ((m ||| n:Nat):Int))) H nx) :
 Aa E w ⟨dst,.binOp .or t x y t2,ty,pos,af,gd⟩ L H nx Q:=Aa.int hx hy (r:=.int .i64 ((m ||| n:Nat):Int)) (by
  have e:(BitVec.ofInt 64 (m:Int) ||| BitVec.ofInt 64 (n:Int)).toNat=m ||| n:=by
   rw [BitVec.toNat_or,Oz m (by omega),Oz n (by omega)]
  have hlt:m ||| n<2 ^ 62:=Nat.or_lt_two_pow h.1 h.2
  show some (FV.int .i64 (IntKind.i64.wrap ((BitVec.ofInt 64 (m:Int) ||| BitVec.ofInt 64 (n:Int)).toNat:Int)))=_
  rw [e,wrap_i64 ⟨by omega,by omega⟩]) q
end
theorem a1p:bI env.P 125 3:=⟨Tryz.underlying125,Tryz.underlying3,by kernel_rfl,by kernel_rfl⟩
def aj (l:List (List Int)) (skip:Int) (m n r t:Nat) (es:Ja):PV→Vm.Heap→Nat→Prop:=fun r' H' nx' =>
 r'=.p (.int .i64 (CS l skip m n r t))∧H'=[(0,.map (SK (Dy l skip m n r t es)))]∧nx'=1
theorem mG (t k:Nat):t / 2 ^ k % 2=if t.testBit k then 1 else 0:=by
 rw [Nat.testBit_eq_decide_div_mod_eq]
 have:t / 2 ^ k % 2<2:=Nat.mod_lt _ (by decide)
 by_cases h:t / 2 ^ k % 2=1
 ·simp [h]
 ·rw [if_neg (by simpa using h)];omega
theorem YL {k:Nat} (h:k<60):2 ^ k<2 ^ 60:=Nat.pow_lt_pow_right (by decide) h
section
variable (l:List (List Int)) (m n:Nat) (skip B:Int) (ty:TypeId) (hM:jB l n m skip B) (hB:B≤1000000000) (hn:n≤60) (hm:m≤60)
include hM hB hn hm
theorem Uz:∀ (r:Nat),r≤n→∀ (t:Nat),t<2 ^ 60→∀ (es:Ja),zV l skip m n es →
 BA env 20 [.p (.lst ty (cells l) l.length),.p (.int .i64 skip),.p (.int .i64 ((n-r:Nat):Int)),.p (.int .i64 (t:Int)),.mref 0] [(0,.map (SK es))] 1 (aj l skip m n r t es)
 |0,hr,t,ht,es,hes=>by
  refine BA.enter (AB (by decide)) Tryz.func20 rfl (by kernel_rfl) (by simp [Tryz.ntmps20]) ?_
  have hl:=hM.len
  repeat' (first|apply Ad.assoc|apply Ad.AA|apply Ad.BO|apply Ag.nil|apply Ag.one|(apply Aa.assign;rfl)|(apply Aa.move;rfl)|(apply Aa.int;rfl;rfl;rfl)|(apply Aa.BI;rfl;rfl)|(apply Ad.Af;rfl)|(intro _;try (exfalso;omega)))
  all_goals try (exfalso;omega)
  all_goals (refine Done.ret (H0:=[(0,.map (SK es))]) (DR:=1) rfl (.refl _) trivial ?_ (by omega) (Nat.le_refl _) ⟨rfl,rfl,rfl⟩;repeat (first|exact Aj.nil|(refine Aj.cons (Ac rfl) ?_ rfl ?_ ?_;(first|exact HB.Ak rfl|exact AQ.Ah _ _|(simp [HB.under,AQ.under,PV.under]));(first|exact Bj.refl _|exact Bj.vec (Bh.refl _) (by simp)))))
 |j+1,hr,t,ht,es,hes=>by
  have hl:=hM.len
  have hsk:=hM.skip
  cases hv:F8 es ((n-(j+1):Nat):Int) (t:Int) with
  |some v =>
   have e1:Dy l skip m n (j+1) t es=es:=by unfold Dy;rw [hv];rfl
   have e2:=hes (j+1) t v hr hv
   unfold aj
   rw [e1,← e2]
   refine BA.enter (AB (by decide)) Tryz.func20 rfl (by kernel_rfl) (by simp [Tryz.ntmps20]) ?_
   repeat' (first|apply Ad.assoc|apply Ad.AA|apply Ad.Aq|apply Ad.BO|apply Ag.nil|apply Ag.one|(apply Aa.VQ;rfl;rfl;rfl;rfl;rfl)|(apply Aa.ng (v:=some v);rfl;rfl;rfl;rfl;exact a1p;rfl;exact hv)|(apply Aa.assign;rfl)|(apply Aa.move;rfl)|(apply Aa.int;rfl;rfl;rfl)|(apply Aa.BI;rfl;rfl)|(apply Aa.extract;rfl;rfl)|(apply Ad.Bd;rfl)|(apply Ad.Af;rfl)|(intro _;try (exfalso;omega)))
   all_goals try (exfalso;omega)
   all_goals (refine Done.ret (H0:=[(0,.map (SK es))]) (DR:=1) rfl (.refl _) trivial ?_ (by omega) (Nat.le_refl _) ⟨rfl,rfl,rfl⟩;repeat (first|exact Aj.nil|(refine Aj.cons (Ac rfl) ?_ rfl ?_ ?_;(first|exact HB.Ak rfl|exact AQ.Ah _ _|(simp [HB.under,AQ.under,PV.under]));(first|exact Bj.refl _|exact Bj.vec (Bh.refl _) (by simp)))))
  |none =>
   have ih:=Uz j (by omega)
   have e0:((n-j:Nat):Int)=((n-(j+1):Nat):Int)+1:=by omega
   rw [e0] at ih
   have hR0:=MR l skip (m:=m) j (by omega) t es hes
   have hRk:∀ k,zV l skip m n (Iu (Dy l skip m n j) t (Dy l skip m n j t es) k):=KL (fun t es h=>MR l skip j (by omega) t es h) hR0
   have ih0:=ih t ht es hes
   have hnew:=l7 l skip (m:=m) hr t hv
   have bd:=YG hM j (by omega)
   have bj:(j:Int)*B≤60000000000:=by
    have h1:(j:Int)*B≤(j:Int)*1000000000:=Int.mul_le_mul_of_nonneg_left hB (by omega)
    omega
   have bt:=bd t
   have hrow:=hM.row (n-(j+1)) (by omega)
   have dF:=hM.rng (n-(j+1))
   have e1:Dy l skip m n (j+1) t es=Iu (Dy l skip m n j) t (Dy l skip m n j t es) m++[((((n-(j+1):Nat):Int),(t:Int)),CS l skip m n (j+1) t)]:=by
    conv=>lhs;unfold Dy
    rw [hv];rfl
   have e2:CS l skip m n (j+1) t=Go.Hun.EZ (gi l (n-(j+1))) (CS l skip m n j) t (skip+CS l skip m n j t) m:=rfl
   have bk:∀ k,k≤m→0≤Go.Hun.EZ (gi l (n-(j+1))) (CS l skip m n j) t (skip+CS l skip m n j t) k∧Go.Hun.EZ (gi l (n-(j+1))) (CS l skip m n j) t (skip+CS l skip m n j t) k≤62000000000 :=
    WT (by omega) (fun k hk=>(dF k (by omega) hk).1) (fun t=>(bd t).1)
   unfold aj at ih ih0 ⊢
   rw [e1,e2]
   refine BA.enter (AB (by decide)) Tryz.func20 rfl (by kernel_rfl) (by simp [Tryz.ntmps20]) ?_
   repeat' (first|apply Ad.assoc|apply Ad.AA|apply Ad.Aq|apply Ad.Ai|apply Ag.nil|apply Ag.one|(apply Aa.VQ;rfl;rfl;rfl;rfl;rfl)|(apply Aa.ng (v:=none);rfl;rfl;rfl;rfl;exact a1p;rfl;exact hv)|(apply Aa.WU [0] (ih0);rfl;rfl;exact .of_eq rfl;exact AQ.Ak rfl;exact EF rfl;(repeat (first|exact trivial|refine ⟨⟨_,rfl,.of_eq rfl⟩,?_⟩));decide;(intro _ hb;first|(simp at hb;done)|(simp at hb ⊢<;>omega));(rintro _ _ _ ⟨rfl,rfl,rfl⟩))|(apply Aa.assign;rfl)|(apply Aa.move;rfl)|(apply Aa.Bv;rfl;rfl;omega)|(apply Aa.int;rfl;rfl;rfl)|(apply Aa.BI;rfl;rfl)|(apply Aa.extract;rfl;rfl)|(apply Ad.Au;rfl)|(apply Ad.Af;rfl)|(intro _;try (exfalso;omega)))
   all_goals try (exfalso;omega)
   apply Ad.Fe (m) [(0,_),(1,_),(2,_),(3,_),(4,_)] [] (fun k r=>(14,.p (.int .i64 (k:Int)))::(13,.p (.int .i64 (Go.Hun.EZ (gi l (n-(j+1))) (CS l skip m n j) t (skip+CS l skip m n j t) k)))::r) (fun k r=>(0,.map (SK (Iu (Dy l skip m n j) t (Dy l skip m n j t es) k)))::r) 1
   ·first|omega|decide
   ·first|omega|decide
   ·repeat (first|exact Ae.nil|(refine Ae.eq rfl ?_ ?_;(first|exact PV.Ak rfl|(simp [PV.under,AQ.under];done)))|refine Ae.cons trivial rfl (.of_eq (Ar (by simp<;>omega))) ?_)
   ·repeat (first|exact Aj.nil|(refine Aj.eq rfl (Ac rfl) ?_ ?_;(first|exact HB.Ak rfl|exact AQ.Ah _ _|(simp [HB.under,AQ.under,PV.under];done)))|(refine Aj.cons (Ac rfl) ?_ rfl ?_ ?_;(first|exact trivial|exact AQ.Ah _ _|(simp [HB.under,AQ.under,PV.under]));(first|exact Bj.refl _|exact Bj.vec (Bh.refl _) (by simp))))
   ·intro k hk
    have hbit:=mG t k
    have hp:=YL (show k<60 by omega)
    have b1:=bk k (by omega)
    have b2:=dF k (by omega) hk
    cases hb:t.testBit k with
    |true =>
     rw [hb,if_pos rfl] at hbit
     have g1:Go.Hun.EZ (gi l (n-(j+1))) (CS l skip m n j) t (skip+CS l skip m n j t) (k+1)=Go.Hun.EZ (gi l (n-(j+1))) (CS l skip m n j) t (skip+CS l skip m n j t) k:=by
      conv=>lhs;unfold Go.Hun.EZ
      rw [hb];rfl
     have g2:Iu (Dy l skip m n j) t (Dy l skip m n j t es) (k+1)=Iu (Dy l skip m n j) t (Dy l skip m n j t es) k:=by
      conv=>lhs;unfold Iu
      rw [hb];rfl
     repeat' (first|apply Ad.assoc|apply Ad.AA|apply Ad.region|apply Ad.Aq|apply Ad.Ai|apply AO.normal|apply AL.normal|apply Ad.skip|apply Ag.nil|apply Ag.one|(apply Aa.AP (l:=l) (i:=n-(j+1));rfl;rfl;rfl;omega;rfl)|(apply Aa.RI (m:=t) (n:=k);rfl;rfl;(simp only [IntKind.bits];omega))|(apply Aa.and1;rfl;rfl;exact Nat.lt_of_le_of_lt (Nat.div_le_self _ _) (Nat.lt_trans ht (by decide)))|(apply Aa.assign;rfl)|(apply Aa.move;rfl)|(apply Aa.Bv;rfl;rfl;omega)|(apply Aa.int;rfl;rfl;rfl)|(apply Aa.load;rfl;rfl)|(apply Aa.BI;rfl;rfl)|(apply Aa.NP;rfl;rfl;rfl;rfl;omega)|(apply Ad.Af;rfl)|(apply Ad.A8;rfl)|(intro _;try (exfalso;omega)))
     all_goals try (exfalso;omega)
     refine Aw.normal ⟨by first|omega|decide,?_,?_⟩
     ·try (simp only [g1,g2])
      repeat (first|exact Ae.nil|refine Ae.same trivial rfl ?_|refine Ae.same (Ac rfl) rfl ?_|refine Ae.same ⟨trivial,Ac rfl,trivial⟩ rfl ?_|refine Ae.same ⟨trivial,Ac rfl,Ac rfl,trivial⟩ rfl ?_|refine Ae.same ⟨trivial,Ac rfl,Ac rfl,Ac rfl,trivial⟩ rfl ?_|refine Ae.same ⟨trivial,trivial⟩ rfl ?_|refine Ae.cons trivial rfl (.of_eq (Ar (by simp<;>omega))) ?_)
     ·simp only [g1,g2]
      repeat (first|exact Aj.nil|(refine Aj.cons (Ac rfl) ?_ rfl ?_ ?_;(first|exact HB.Ak rfl|exact AQ.Ah _ _|(simp [HB.under,AQ.under,PV.under]));(first|exact Bj.refl _|exact Bj.vec (Bh.refl _) (by simp))))
    |false =>
     rw [hb,if_neg (by decide)] at hbit
     have ht2:t ||| 2 ^ k<2 ^ 60:=Nat.or_lt_two_pow ht hp
     have ihk:=ih (t ||| 2 ^ k) ht2 _ (hRk k)
     have g1:Go.Hun.EZ (gi l (n-(j+1))) (CS l skip m n j) t (skip+CS l skip m n j t) (k+1)=min (Go.Hun.EZ (gi l (n-(j+1))) (CS l skip m n j) t (skip+CS l skip m n j t) k) (gi (gi l (n-(j+1))) k+CS l skip m n j (t ||| 2 ^ k)):=by
      conv=>lhs;unfold Go.Hun.EZ
      rw [hb];rfl
     have g2:Iu (Dy l skip m n j) t (Dy l skip m n j t es) (k+1)=Dy l skip m n j (t ||| 2 ^ k) (Iu (Dy l skip m n j) t (Dy l skip m n j t es) k):=by
      conv=>lhs;unfold Iu
      rw [hb];rfl
     have b3:=bd (t ||| 2 ^ k)
     repeat' (first|(refine Ap.atIdx 18 ?_;apply Ap.a5w [.tmp 56,.tmp 59];decide +kernel;decide +kernel;rfl)|apply Ad.assoc|apply Ad.AA|apply Ad.region|apply Ad.FP|apply Ad.Aq|apply Ad.Ai|apply AO.normal|apply AL.normal|apply Ag.nil|apply Ap.nil|apply Ag.one|(apply Ap.bar;decide +kernel)|apply Ap.quiet|(apply Aa.AP (l:=l) (i:=n-(j+1));rfl;rfl;rfl;omega;rfl)|(apply Aa.RI (m:=t) (n:=k);rfl;rfl;(simp only [IntKind.bits];omega))|(apply Aa.and1;rfl;rfl;exact Nat.lt_of_le_of_lt (Nat.div_le_self _ _) (Nat.lt_trans ht (by decide)))|(apply Aa.uq (n:=k);rfl;rfl;omega)|(apply Aa.orI (m:=t) (n:=2 ^ k);rfl;rfl;exact ⟨Nat.lt_trans ht (by decide),Nat.lt_trans hp (by decide)⟩)|(apply Aa.WU [0] (ihk);rfl;rfl;exact .of_eq rfl;exact AQ.Ak rfl;exact EF rfl;(repeat (first|exact trivial|refine ⟨⟨_,rfl,.of_eq rfl⟩,?_⟩));decide;(intro _ hb;first|(simp at hb;done)|(simp at hb ⊢<;>omega));(rintro _ _ _ ⟨rfl,rfl,rfl⟩))|(apply Aa.assign;rfl)|(apply Aa.move;rfl)|(apply Aa.Bv;rfl;rfl;omega)|(apply Aa.int;rfl;rfl;rfl)|(apply Aa.AP;rfl;rfl;rfl;omega;rfl)|(apply Aa.load;rfl;rfl)|(apply Aa.BI;rfl;rfl)|(apply Aa.a6g;rfl;rfl)|(apply Aa.NP;rfl;rfl;rfl;rfl;omega)|(apply Ad.Af;rfl)|(apply Ad.A8;rfl)|(intro _;try (exfalso;omega)))
     all_goals try (exfalso;omega)
     refine Aw.normal ⟨by first|omega|decide,?_,?_⟩
     ·try (simp only [g1,g2])
      repeat (first|exact Ae.nil|refine Ae.same trivial rfl ?_|refine Ae.same (Ac rfl) rfl ?_|refine Ae.same ⟨trivial,Ac rfl,trivial⟩ rfl ?_|refine Ae.same ⟨trivial,Ac rfl,Ac rfl,trivial⟩ rfl ?_|refine Ae.same ⟨trivial,Ac rfl,Ac rfl,Ac rfl,trivial⟩ rfl ?_|refine Ae.same ⟨trivial,trivial⟩ rfl ?_|refine Ae.cons trivial rfl (.of_eq (Ar (by simp<;>omega))) ?_)
     ·simp only [g1,g2]
      repeat (first|exact Aj.nil|(refine Aj.cons (Ac rfl) ?_ rfl ?_ ?_;(first|exact HB.Ak rfl|exact AQ.Ah _ _|(simp [HB.under,AQ.under,PV.under]));(first|exact Bj.refl _|exact Bj.vec (Bh.refl _) (by simp))))
   ·repeat' (first|apply Ad.assoc|apply Ad.AA|apply Ad.AZ|apply AO.normal|apply AL.exit|apply Aw.exit|apply Ad.ret|apply Ag.nil|apply Ag.one|(apply Aa.VQ;rfl;rfl;rfl;rfl;rfl)|(apply Aa.AP (l:=l) (i:=n-(j+1));rfl;rfl;rfl;omega;rfl)|(apply Aa.a7o (c:=((n-(j+1):Nat):Int)) (d:=(t:Int));rfl;rfl;rfl;rfl;rfl;exact a1p;exact hnew)|(apply Aa.assign;rfl)|(apply Aa.move;rfl)|(apply Aa.int;rfl;rfl;rfl)|(apply Aa.load;rfl;rfl)|(apply Aa.BI;rfl;rfl)|(apply Ad.Af;rfl)|(intro _;try (exfalso;omega)))
    all_goals try (exfalso;omega)
    all_goals (refine Done.ret (H0:=[(0,.map (SK (Iu (Dy l skip m n j) t (Dy l skip m n j t es) m++[((((n-(j+1):Nat):Int),(t:Int)),Go.Hun.EZ (gi l (n-(j+1))) (CS l skip m n j) t (skip+CS l skip m n j t) m)])))]) (DR:=1) rfl (.refl _) trivial ?_ (by omega) (Nat.le_refl _) ⟨rfl,rfl,rfl⟩;repeat (first|exact Aj.nil|(refine Aj.cons (Ac rfl) ?_ rfl ?_ ?_;(first|exact HB.Ak rfl|exact AQ.Ah _ _|(simp [HB.under,AQ.under,PV.under]));(first|exact Bj.refl _|exact Bj.vec (Bh.refl _) (by simp)))))
end
end Go.Proofs.YtdabojnmoejilaaGreatDoor
namespace Go.Proofs.YtdabojnmoejilaaGreatDoor
open Go Go.Am Go.Vm Go.Tra Go.Hun
attribute [local irreducible] Aa Ag Ap Ad BA AY CJ AO AL Aw Vm.Done Dc Bq
theorem jC (l:List (List Int)) (m n M:Nat) (skip B:Int) (ty ty2:TypeId) (hM:jB l n m skip B) (hB:B≤1000000000) (hn:n≤60) (hm:m≤60) (hm2:m≤M) (hM2:M≤100000) (cols:List Int) (hc:cols.length=n) (hp:Wq n m fun r=>gi cols r) :
 AY env 18 [.lst ty (cells l) l.length,.int .i64 (M:Int),.int .i64 skip,.lst ty2 (cells cols) cols.length] (.EX [.p (.int .i64 (Dv (GH l skip fun r=>gi cols r) n)),.p (.bool true)]):=by
 have hl:=hM.len
 have hsk:=hM.skip
 have hrc:∀ k,k<n→0≤GH l skip (fun r=>gi cols r) k∧GH l skip (fun r=>gi cols r) k≤B:=fun k hk=>by
  have h1:-1≤gi cols k∧gi cols k<m:=hp.rng k hk
  rw [show GH l skip (fun r=>gi cols r) k=if gi cols k<0 then skip else gi (gi l k) (gi cols k).toNat from rfl]
  by_cases h:gi cols k<0
  ·rw [if_pos h];exact hsk
  ·rw [if_neg h];exact hM.rng k _ hk (by omega)
 have hsum:∀ k,k≤n→0≤Dv (GH l skip fun r=>gi cols r) k∧Dv (GH l skip fun r=>gi cols r) k≤60000000000:=fun k hk=>by
  have h1:=mQ (f:=GH l skip fun r=>gi cols r) (B:=1000000000) k fun i hi=>⟨(hrc i (by omega)).1,by have:=(hrc i (by omega)).2;omega⟩
  omega
 refine AY.enter (AB (by decide)) Tryz.func18 rfl (by kernel_rfl) (by simp [Tryz.ntmps18]) ?_
 repeat' (first|apply Ad.assoc|apply Ad.AA|apply Ad.Aq|apply Ad.Ai|apply Ag.nil|apply Ag.one|(apply Aa.assign;rfl)|(apply Aa.move;rfl)|(apply Aa.int;rfl;rfl;rfl)|(apply Aa.BI;rfl;rfl)|(apply Ad.Af;rfl)|(intro _;try (exfalso;omega)))
 all_goals try (exfalso;omega)
 apply Ad.Fe (n) [(0,_),(1,_),(2,_),(3,_)] [] (fun k r=>(12,.p (.int .i64 (k:Int)))::(10,.p (.int .i64 (Dv (GH l skip fun r=>gi cols r) k)))::(11,.p (.int .i64 (FK cols k:Nat)))::r) (fun k r=>r) 0
 ·first|omega|decide
 ·first|omega|decide
 ·repeat (first|exact Ae.nil|(refine Ae.eq rfl ?_ ?_;(first|exact PV.Ak rfl|(simp [PV.under,AQ.under];done)))|refine Ae.cons trivial rfl (.of_eq (Ar (by simp<;>omega))) ?_)
 ·repeat (first|exact Aj.nil|(refine Aj.eq rfl (Ac rfl) ?_ ?_;(first|exact HB.Ak rfl|exact AQ.Ah _ _|(simp [HB.under,AQ.under,PV.under];done)))|(refine Aj.cons (Ac rfl) ?_ rfl ?_ ?_;(first|exact trivial|exact AQ.Ah _ _|(simp [HB.under,AQ.under,PV.under]));(first|exact Bj.refl _|exact Bj.vec (Bh.refl _) (by simp))))
 ·intro k hk
  have hr:-1≤gi cols k∧gi cols k<m:=hp.rng k hk
  have hs:=hsum k (by omega)
  have hs1:=hsum (k+1) (by omega)
  have hlt:=Y8 hm hp k (by omega)
  have e1:Dv (GH l skip fun r=>gi cols r) (k+1)=Dv (GH l skip fun r=>gi cols r) k+GH l skip (fun r=>gi cols r) k:=rfl
  have hrow:=hM.row k hk
  by_cases h:gi cols k<0
  ·have e2:GH l skip (fun r=>gi cols r) k=skip:=if_pos h
   have e3:FK cols (k+1)=FK cols k:=if_pos h
   repeat' (first|apply Ad.assoc|apply Ad.AA|apply Ad.region|apply Ad.Aq|apply Ad.AZ|apply Ad.Ai|apply AO.normal|apply AL.exit|apply Ag.nil|apply Ag.one|(apply Ag.take;rfl;rfl)|(apply Ag.drop;rfl;rfl;rfl)|(apply Ag.guard;rfl;rfl)|(apply Aa.assign;rfl)|(apply Aa.move;rfl)|(apply Aa.Bv;rfl;rfl;omega)|(apply Aa.int;rfl;rfl;rfl)|(apply Aa.AP;rfl;rfl;rfl;omega;rfl)|(apply Aa.load;rfl;rfl)|(apply Aa.AV;rfl;rfl)|(apply Aa.BI;rfl;rfl)|(apply Ad.Au;rfl)|(apply Ad.Af;rfl)|(intro _;try (exfalso;omega)))
   all_goals try (exfalso;omega)
   refine Aw.normal ⟨by first|omega|decide,?_,?_⟩
   ·try (try simp only [e1,e2,e3])
    repeat (first|exact Ae.nil|refine Ae.same trivial rfl ?_|refine Ae.same (Ac rfl) rfl ?_|refine Ae.same ⟨trivial,Ac rfl,trivial⟩ rfl ?_|refine Ae.same ⟨trivial,Ac rfl,Ac rfl,trivial⟩ rfl ?_|refine Ae.same ⟨trivial,Ac rfl,Ac rfl,Ac rfl,trivial⟩ rfl ?_|refine Ae.same ⟨trivial,trivial⟩ rfl ?_|refine Ae.cons trivial rfl (.of_eq (Ar (by simp<;>omega))) ?_)
   ·try simp only [e1,e2,e3]
    repeat (first|exact Aj.nil|(refine Aj.cons (Ac rfl) ?_ rfl ?_ ?_;(first|exact HB.Ak rfl|exact AQ.Ah _ _|(simp [HB.under,AQ.under,PV.under]));(first|exact Bj.refl _|exact Bj.vec (Bh.refl _) (by simp))))
  ·obtain ⟨a,ha⟩:∃ a:Nat,gi cols k=(a:Int):=⟨(gi cols k).toNat,by omega⟩
   have e2:GH l skip (fun r=>gi cols r) k=gi (gi l k) a:=by unfold GH;simp only;rw [if_neg h,ha,Int.toNat_natCast]
   have e3:FK cols (k+1)=FK cols k ||| 2 ^ a:=by
    conv=>lhs;unfold FK
    rw [if_neg h,ha,Int.toNat_natCast]
   have hf:=dI hp hk ha
   have hbit:=mG (FK cols k) a
   rw [hf,if_neg (by decide)] at hbit
   have hp2:=YL (show a<60 by omega)
   repeat' (first|apply Ad.assoc|apply Ad.AA|apply Ad.region|apply Ad.Aq|apply Ad.Ai|apply AO.normal|apply AL.normal|apply Ag.nil|apply Ag.one|(apply Ag.take;rfl;rfl)|(apply Ag.guard;rfl;rfl)|(apply Aa.load (r:=.p (.int .i64 (a:Int)));rfl;exact (congrArg (fun b=>some (PV.p (FV.int .i64 b))) ha))|(apply Aa.RI (m:=FK cols k) (n:=a);rfl;rfl;(simp only [IntKind.bits];omega))|(apply Aa.and1;rfl;rfl;exact Nat.lt_of_le_of_lt (Nat.div_le_self _ _) (Nat.lt_trans hlt (by decide)))|(apply Aa.uq (n:=a);rfl;rfl;omega)|(apply Aa.orI (m:=FK cols k) (n:=2 ^ a);rfl;rfl;exact ⟨Nat.lt_trans hlt (by decide),Nat.lt_trans hp2 (by decide)⟩)|(apply Aa.assign;rfl)|(apply Aa.move;rfl)|(apply Aa.Bv;rfl;rfl;omega)|(apply Aa.int;rfl;rfl;rfl)|(apply Aa.AP;rfl;rfl;rfl;omega;rfl)|(apply Aa.load;rfl;rfl)|(apply Aa.BH;rfl;rfl)|(apply Aa.AV;rfl;rfl)|(apply Aa.BI;rfl;rfl)|(apply Aa.NP;rfl;rfl;rfl;rfl;omega)|(apply Ad.Au;rfl)|(apply Ad.Af;rfl)|(intro _;try (exfalso;omega)))
   all_goals try (exfalso;omega)
   refine Aw.normal ⟨by first|omega|decide,?_,?_⟩
   ·try (try simp only [e1,e2,e3])
    repeat (first|exact Ae.nil|refine Ae.same trivial rfl ?_|refine Ae.same (Ac rfl) rfl ?_|refine Ae.same ⟨trivial,Ac rfl,trivial⟩ rfl ?_|refine Ae.same ⟨trivial,Ac rfl,Ac rfl,trivial⟩ rfl ?_|refine Ae.same ⟨trivial,Ac rfl,Ac rfl,Ac rfl,trivial⟩ rfl ?_|refine Ae.same ⟨trivial,trivial⟩ rfl ?_|refine Ae.cons trivial rfl (.of_eq (Ar (by simp<;>omega))) ?_)
   ·try simp only [e1,e2,e3]
    repeat (first|exact Aj.nil|(refine Aj.cons (Ac rfl) ?_ rfl ?_ ?_;(first|exact HB.Ak rfl|exact AQ.Ah _ _|(simp [HB.under,AQ.under,PV.under]));(first|exact Bj.refl _|exact Bj.vec (Bh.refl _) (by simp))))
 ·repeat' (first|apply Ad.assoc|apply Ad.AA|apply Ad.AZ|apply AO.normal|apply AL.exit|apply Aw.exit|apply Ad.ret|apply Ag.nil|apply Ag.one|(apply Aa.assign;rfl)|(apply Aa.move;rfl)|(apply Aa.int;rfl;rfl;rfl)|(apply Aa.BI;rfl;rfl)|(apply Ad.Af;rfl)|(intro _;try (exfalso;omega)))
  all_goals first|(exfalso;omega)|contradiction|(refine Done.ret rfl (.refl _) (by first|exact trivial|exact ⟨trivial,trivial,trivial⟩|exact ⟨trivial,trivial,trivial,trivial⟩) Aj.nil (Nat.zero_le _) (Nat.le_refl _) ⟨?_,rfl,rfl⟩;try rfl)
end Go.Proofs.YtdabojnmoejilaaGreatDoor
namespace Go.Proofs.YtdabojnmoejilaaGreatDoor
open Go Go.Am Go.Vm Go.Tra Go.Hun
attribute [local irreducible] Aa Ag Ap Ad BA AY CJ AO AL Aw Vm.Done Dc Bq
theorem a3m {o:ET} (h:OZ o):(BG o).length≤9:=by
 have h1:=L6 (ns:=O9 o) (K:=3) (fun d hd=>by rw [IV] at hd;rw [Tt o hd];exact h.stops d hd) (O9 o).length (Nat.le_refl _)
 have h2:=h.Az
 rw [IV] at h1
 rw [Rk,IV]
 omega
theorem tV (q:RJ):Ji q≤(BG q.tgt).length:=by unfold Ji;split<;>omega
theorem Rq (x:su) (hx:x.Ok):AY env 4 [.agg x.enc] (.p (.bool true)):=by
 have hkn:=kC
 have hfs:=kH x hx
 refine AY.enter (AB (by decide)) Tryz.func4 rfl (by kernel_rfl) (by simp [Tryz.ntmps4]) ?_
 by_cases hf:TV x
 case neg =>
  rw [decide_eq_false hf] at hfs
  repeat' (first|apply Ad.assoc|apply Ad.AA|apply Ad.BO|apply Ag.nil|apply Ag.one|(apply Ag.take;rfl;rfl)|(apply Aa.fn;rfl;rfl;exact hkn;intro _;rfl)|(apply Aa.fn;rfl;rfl;exact hfs;intro _;rfl)|(apply Aa.assign;rfl)|(apply Aa.move;rfl)|(apply Aa.load;rfl;rfl)|(apply Aa.AV;rfl;rfl)|(apply Aa.box;rfl;trivial)|(apply Aa.not;rfl)|(apply Ad.Bd;rfl))
  all_goals first|(exfalso;omega)|contradiction|((refine Done.ret rfl (.refl _) (by first|exact trivial|exact ⟨trivial,trivial,trivial⟩|exact ⟨trivial,trivial,trivial,trivial⟩) Aj.nil (Nat.zero_le _) (Nat.le_refl _) ⟨?_,rfl,rfl⟩;try rfl);try simp)
 rw [decide_eq_true hf] at hfs
 have hm:=iY x hx hf
 have hq:=a3w x hx hf
 have hS:ShS (mkQ x).BD (mkQ x).tgt:=a5i (Xc x.BD hx.BD hf.1) (Xc x.tgt hx.tgt hf.2)
 have hT:(BG (mkQ x).tgt).length≤9:=a3m (Xc x.tgt hx.tgt hf.2)
 generalize mkQ x=q at *
 have hb:=Qh hq
 have hv:=Q8 hq (Ij q)
 have hv0:o9 (Ew q) (Ji q) q.DX.miss (Ij q)=0:=fK hq.PE
 rw [hv0] at hv
 have hll:=aG q hq.k1 hq.k2 hq.DX hS hq.rg hq.len
 rw [show KN q.BD q.tgt q.reg q.DX=Ew q from rfl] at hll
 have hls:=Oh q.tgt hq.k2
 have hP:=jd hq.PE.PE
 have hcq:=tV q
 have hlp:=jC (Ew q) (Ji q) (Ew q).length (BG q.tgt).length q.DX.miss 101000000 52 3 hq.PE.PE (by decide) hq.PE.n60 (by omega) hcq (by omega) (Ij q).cols hP.lC hP.part
 have hle:=Uz (Ew q) (Ji q) (Ew q).length q.DX.miss 101000000 52 hq.PE.PE (by decide) hq.PE.n60 (by omega) (Ew q).length (Nat.le_refl _) 0 (by decide) [] (fun r t v _ h=>by cases h)
 unfold aj at hle
 have hlt:CS (Ew q) q.DX.miss (Ji q) (Ew q).length (Ew q).length 0=(Ij q).total:=pY hP
 have hsum:Dv (GH (Ew q) q.DX.miss fun r=>gi (Ij q).cols r) (Ew q).length=(Ij q).total:=hP.tot.symm
 rw [hlt,Nat.sub_self] at hle
 rw [hsum] at hlp
 have b1:=hq.PE.n60
 have hk:(Ij q).cols.length=(Ew q).length:=hP.lC
 generalize Ij q=b at *
 generalize Ew q=l at *
 repeat' (first|apply Ad.assoc|apply Ad.AA|apply Ad.BJ|apply Ad.Aq|apply Ad.ret|apply Ag.nil|apply Ap.nil|apply Ag.one|(apply Ap.bar;decide +kernel)|apply Ap.quiet|(apply Ag.take;rfl;rfl)|(apply Ag.guard;rfl;rfl)|(apply Aa.fn;rfl;rfl;exact hkn;intro _;rfl)|(apply Aa.fn;rfl;rfl;exact hfs;intro _;rfl)|(apply Aa.fn;rfl;rfl;exact hm;intro _;rfl)|(apply Aa.fn;rfl;rfl;exact hb;intro _;rfl)|(apply Aa.fn;rfl;rfl;exact hll;intro _;rfl)|(apply Aa.fn;rfl;rfl;exact hls;intro _;rfl)|(apply Aa.fn;rfl;rfl;exact hlp;intro _;rfl)|(apply Aa.fn;rfl;rfl;exact hv;intro _;rfl)|(apply Aa.makeMap)|(apply Aa.WU [3] (hle);rfl;rfl;exact .of_eq rfl;exact AQ.Ak rfl;exact EF rfl;(repeat (first|exact trivial|refine ⟨⟨_,rfl,.of_eq rfl⟩,?_⟩));decide;(intro _ hb;first|(simp at hb;done)|(simp at hb ⊢<;>omega));(rintro _ _ _ ⟨rfl,rfl,rfl⟩))|(apply Aa.assign;rfl)|(apply Aa.move;rfl)|(apply Aa.int;rfl;rfl;rfl)|(apply Aa.load;rfl;rfl)|(apply Aa.BH;rfl;rfl)|(apply Aa.AV;rfl;rfl)|(apply Aa.BI;rfl;rfl)|(apply Aa.AU;rfl;rfl;rfl)|(apply Aa.box;rfl;trivial)|(apply Aa.alloc;rfl)|(apply Aa.Bo;rfl;rfl;rfl;trivial;rfl;rfl;exact Ac rfl;exact le_dec rfl)|(apply Aa.not;rfl)|(apply Aa.extract;rfl;rfl)|(apply Ad.Au;rfl)|(intro _;try (exfalso;omega)))
 all_goals try (exfalso;omega)
 all_goals try contradiction
 all_goals ((refine Done.ret rfl (.refl _) (by first|exact trivial|exact ⟨trivial,trivial,trivial⟩|exact ⟨trivial,trivial,trivial,trivial⟩) Aj.nil (Nat.zero_le _) (Nat.le_refl _) ⟨?_,rfl,rfl⟩;try rfl);try simp)
end Go.Proofs.YtdabojnmoejilaaGreatDoor
namespace Go.Proofs.YtdabojnmoejilaaGreatDoor
open Go Go.Am Go.Vm
theorem LY {n:Int} (h:(Lit.int .u8 n).wf=true):∃ m:Nat,m<256∧n=m:=by
 simp [Lit.wf,IntKind.min,IntKind.max,IntKind.signed,IntKind.bits] at h
 exact ⟨n.toNat,by omega,by omega⟩
theorem sD {n:Int} (h:(Lit.int .i8 n).wf=true):-128≤n∧n≤127:=by
 simp [Lit.wf,IntKind.min,IntKind.max,IntKind.signed,IntKind.bits] at h
 omega
theorem V8 {α β:Type} {R:β→α→Prop}:∀ {l:List α},(∀ x∈l,∃ y,R y x)→∃ r:List β,Gs R r l
 |[],_=>⟨[],.nil⟩
 |a::l,h=>by
  obtain ⟨y,hy⟩:=h a (by simp)
  obtain ⟨r,hr⟩:=V8 (l:=l) (fun x hx=>h x (by simp [hx]))
  exact ⟨y::r,.cons hy hr⟩
theorem Xe {α:Type} [Enc α] {p:α→Prop}:∀ {r:List α} {L:List (List FV)},Gs (fun a fs=>fs=Enc.enc a∧p a) r L→L.flatten=cells r∧L.length=r.length∧∀ i,i<r.length→p (gi r i)
 |_,_,.nil=>⟨rfl,rfl,fun i hi=>by simp at hi⟩
 |a::r,fs::L,.cons ⟨h1,h2⟩ t=>by
  obtain ⟨e1,e2,e3⟩:=Xe t
  refine ⟨by rw [List.flatten_cons,e1,h1];rfl,by simp [e2],fun i hi=>?_⟩
  cases i with
  |zero=>exact h2
  |succ i=>exact e3 i (by simpa using hi)
section
variable {α β:Type} {R:α→β→Prop} {a b c d e:α} {r:List β}
theorem WX (h:Gs R [a] r):∃ x,r=[x]∧R a x:=by
 cases h with|cons h1 t=>cases t;exact ⟨_,rfl,h1⟩
theorem uy (h:Gs R [a,b] r):∃ x y,r=[x,y]∧R a x∧R b y:=by
 cases h with|cons h1 t=>obtain ⟨x,rfl,h2⟩:=WX t;exact ⟨_,_,rfl,h1,h2⟩
theorem VG (h:Gs R [a,b,c] r):∃ x y z,r=[x,y,z]∧R a x∧R b y∧R c z:=by
 cases h with|cons h1 t=>obtain ⟨x,y,rfl,h2,h3⟩:=uy t;exact ⟨_,_,_,rfl,h1,h2,h3⟩
theorem LM (h:Gs R [a,b,c,d] r):∃ x y z w,r=[x,y,z,w]∧R a x∧R b y∧R c z∧R d w:=by
 cases h with|cons h1 t=>obtain ⟨x,y,z,rfl,h2,h3,h4⟩:=VG t;exact ⟨_,_,_,_,rfl,h1,h2,h3,h4⟩
theorem qL (h:Gs R [a,b,c,d,e] r):∃ x y z w v,r=[x,y,z,w,v]∧R a x∧R b y∧R c z∧R d w∧R e v:=by
 cases h with|cons h1 t=>obtain ⟨x,y,z,w,rfl,h2,h3,h4,h5⟩:=LM t;exact ⟨_,_,_,_,_,rfl,h1,h2,h3,h4,h5⟩
end
theorem dO {j:Nat} {fs:List FV} (h:EW Tryz.prog (j+1) 4 fs):∃ b:Bool,fs=[.bool b]:=by
 simp only [EW,Tryz.underlying4] at h
 exact h
theorem a7w {α:Type} {l:List α} (h:l.length=5):∃ a b c d e,l=[a,b,c,d,e]:=by
 match l,h with|[a,b,c,d,e],_=>exact ⟨a,b,c,d,e,rfl⟩
theorem rQ {j:Nat} {fs:List FV} (h:EW Tryz.prog (j+3) 150 fs):∃ x:FW,fs=x.enc∧x.Ok:=by
 simp only [EW,Tryz.underlying150,Tryz.underlying5,Tryz.underlying64,Tryz.underlying27] at h
 obtain ⟨parts,rfl,hp⟩:=h
 obtain ⟨a,b,c,d,e,rfl,⟨n1,rfl,h1⟩,⟨n2,rfl,h2⟩,⟨n3,rfl,h3⟩,⟨n4,rfl,h4⟩,L,rfl,hl,hL⟩:=qL hp
 obtain ⟨m1,q1,rfl⟩:=LY h1
 obtain ⟨m2,q2,rfl⟩:=LY h2
 obtain ⟨m4,q4,rfl⟩:=LY h4
 obtain ⟨a,b,c,d,e,rfl⟩:=a7w hl
 obtain ⟨w0,rfl,g0⟩:=hL a (by simp)
 obtain ⟨w1,rfl,g1⟩:=hL b (by simp)
 obtain ⟨w2,rfl,g2⟩:=hL c (by simp)
 obtain ⟨w3,rfl,g3⟩:=hL d (by simp)
 obtain ⟨w4,rfl,g4⟩:=hL e (by simp)
 obtain ⟨v0,k0,rfl⟩:=LY g0
 obtain ⟨v1,k1,rfl⟩:=LY g1
 obtain ⟨v2,k2,rfl⟩:=LY g2
 obtain ⟨v3,k3,rfl⟩:=LY g3
 obtain ⟨v4,k4,rfl⟩:=LY g4
 refine ⟨⟨m1,m2,n3,m4,[v0,v1,v2,v3,v4]⟩,rfl,q1,q2,sD h3,q4,fun i=>?_⟩
 match i with
 |0=>exact k0
 |1=>exact k1
 |2=>exact k2
 |3=>exact k3
 |4=>exact k4
 |n+5=>simp [gi]
end Go.Proofs.YtdabojnmoejilaaGreatDoor
namespace Go.Proofs.YtdabojnmoejilaaGreatDoor
open Go Go.Am Go.Vm
theorem IY {P:Program} {n:Nat} {t:TypeId} {fs:List FV} {sf:Array Field} (h:EW P (n+1) t fs) (hu:P.underlying t=some (.struct sf)):∃ parts:List (List FV),fs=parts.flatten∧Gs (fun (fd:Field) x=>EW P n fd.type x) sf.toList parts:=by
 unfold EW at h;rw [hu] at h;exact h
theorem MG {P:Program} {n:Nat} {t e:TypeId} {fs:List FV} {α:Type} [Enc α] {p:α→Prop} (h:EW P (n+1) t fs) (hu:P.underlying t=some (.slice e)) (he:∀ x,EW P n e x→∃ a:α,x=Enc.enc a∧p a):∃ l:List α,fs=[.lst e (cells l) l.length]∧l.length≤maxLen∧∀ i,i<l.length→p (gi l i):=by
 unfold EW at h;rw [hu] at h
 obtain ⟨L,rfl,hl,hL⟩:=h
 obtain ⟨r,hr⟩:=V8 (R:=fun (a:α) fs=>fs=Enc.enc a∧p a) (l:=L) (fun x hx=>he x (hL x hx))
 obtain ⟨e1,e2,e3⟩:=Xe hr
 exact ⟨r,by rw [e1,e2],by omega,e3⟩
theorem FY {j:Nat} {fs:List FV} (h:EW Tryz.prog (j+1) 5 fs):∃ n:Nat,fs=[.int .u8 (n:Int)]∧n<256:=by
 simp only [EW,Tryz.underlying5] at h
 obtain ⟨n,rfl,hn⟩:=h
 obtain ⟨m,q,rfl⟩:=LY hn
 exact ⟨m,rfl,q⟩
theorem a1u {j:Nat} {fs:List FV} (h:EW Tryz.prog (j+1) 64 fs):∃ n:Int,fs=[.int .i8 n]∧-128≤n∧n≤127:=by
 simp only [EW,Tryz.underlying64] at h
 obtain ⟨n,rfl,hn⟩:=h
 exact ⟨n,rfl,sD hn⟩
theorem yu {j:Nat} {fs:List FV} (h:EW Tryz.prog (j+2) 72 fs):∃ x:qF,fs=Enc.enc x∧x.Ok:=by
 obtain ⟨parts,rfl,hp⟩:=IY h Tryz.underlying72
 obtain ⟨a,b,c,d,rfl,h1,h2,h3,h4⟩:=LM hp
 obtain ⟨m1,rfl,q1⟩:=FY (j:=j) h1
 obtain ⟨m2,rfl,q2⟩:=FY (j:=j) h2
 obtain ⟨m3,rfl,q3⟩:=FY (j:=j) h3
 obtain ⟨m4,rfl,q4⟩:=FY (j:=j) h4
 exact ⟨⟨m1,m2,m3,m4⟩,rfl,q1,q2,q3,q4⟩
theorem pq {j:Nat} {fs:List FV} (h:EW Tryz.prog (j+4) 75 fs):∃ x:o8,fs=Enc.enc x∧x.Ok:=by
 obtain ⟨parts,rfl,hp⟩:=IY h Tryz.underlying75
 obtain ⟨a,b,c,d,rfl,h1,h2,h3,h4⟩:=LM hp
 obtain ⟨m1,rfl,q1⟩:=FY (j:=j+2) h1
 obtain ⟨m2,rfl,q2⟩:=FY (j:=j+2) h2
 obtain ⟨m3,rfl⟩:=dO (j:=j+2) h3
 obtain ⟨l,rfl,hl,hL⟩:=MG (n:=j+2) (p:=qF.Ok) h4 Tryz.underlying73 (fun x hx=>yu hx)
 exact ⟨⟨m1,m2,m3,l⟩,rfl,q1,q2,by simp only [maxLen] at hl;simp only;omega,hL⟩
theorem vg {j:Nat} {fs:List FV} (h:EW Tryz.prog (j+2) 153 fs):∃ x:yj,fs=Enc.enc x∧x.Ok:=by
 obtain ⟨parts,rfl,hp⟩:=IY h Tryz.underlying153
 obtain ⟨a,b,c,d,rfl,h1,h2,h3,h4⟩:=LM hp
 obtain ⟨m1,rfl,q1⟩:=FY (j:=j) h1
 obtain ⟨m2,rfl,q2⟩:=FY (j:=j) h2
 obtain ⟨m3,rfl,q3⟩:=a1u (j:=j) h3
 obtain ⟨m4,rfl⟩:=dO (j:=j) h4
 exact ⟨⟨m1,m2,m3,m4⟩,rfl,q1,q2,q3⟩
theorem Y2 {j:Nat} {fs:List FV} (h:EW Tryz.prog (j+6) 26 fs):∃ x:pV,fs=x.enc∧x.Ok:=by
 obtain ⟨parts,rfl,hp⟩:=IY h Tryz.underlying26
 obtain ⟨a,b,c,rfl,h1,h2,h3⟩:=VG hp
 obtain ⟨l1,rfl,n1,g1⟩:=MG (n:=j+4) (p:=FW.Ok) h1 Tryz.underlying22 (fun x hx=>rQ (j:=j+1) hx)
 obtain ⟨l2,rfl,n2,g2⟩:=MG (n:=j+4) (p:=o8.Ok) h2 Tryz.underlying23 (fun x hx=>pq hx)
 obtain ⟨l3,rfl,n3,g3⟩:=MG (n:=j+4) (p:=yj.Ok) h3 Tryz.underlying24 (fun x hx=>vg (j:=j+2) hx)
 simp only [maxLen] at n1 n2 n3
 exact ⟨⟨l1,l2,l3⟩,rfl,g1,g2,g3,by simp only;omega,by simp only;omega,by simp only;omega⟩
end Go.Proofs.YtdabojnmoejilaaGreatDoor
namespace Go.Proofs.YtdabojnmoejilaaGreatDoor
open Go Go.Am Go.Vm
theorem a4v {α:Type} {L:List α} (h:L.length=5):∃ a b c d e,L=[a,b,c,d,e]:=by
 match L,h with
 |[a,b,c,d,e],_=>exact ⟨a,b,c,d,e,rfl⟩
theorem qy {j:Nat} {fs:List FV} (h:EW Tryz.prog (j+2) 27 fs):∃ b:Nat→Nat,fs=wB b∧∀ i,b i<256:=by
 obtain ⟨L,rfl,hl,hL⟩:=EW.array h Tryz.underlying27
 obtain ⟨a,b,c,d,e,rfl⟩:=a4v hl
 obtain ⟨m1,rfl,q1⟩:=FY (j:=j) (hL a (by simp))
 obtain ⟨m2,rfl,q2⟩:=FY (j:=j) (hL b (by simp))
 obtain ⟨m3,rfl,q3⟩:=FY (j:=j) (hL c (by simp))
 obtain ⟨m4,rfl,q4⟩:=FY (j:=j) (hL d (by simp))
 obtain ⟨m5,rfl,q5⟩:=FY (j:=j) (hL e (by simp))
 exact ⟨fun i=>if i=0 then m1 else if i=1 then m2 else if i=2 then m3 else if i=3 then m4 else m5,rfl,fun i=>by simp only;split<;>(try split)<;>(try split)<;>(try split)<;>omega⟩
end Go.Proofs.YtdabojnmoejilaaGreatDoor
namespace Go.Proofs.YtdabojnmoejilaaGreatDoor
open Go Go.Am Go.Vm
theorem list4 {α:Type} {L:List α} (h:L.length=4):∃ a b c d,L=[a,b,c,d]:=by
 match L,h with
 |[a,b,c,d],_=>exact ⟨a,b,c,d,rfl⟩
theorem pU {j:Nat} {fs:List FV} (h:EW Tryz.prog (j+2) 28 fs):∃ b:Nat→Nat,fs=[.int .u8 (b 0:Int),.int .u8 (b 1:Int),.int .u8 (b 2:Int),.int .u8 (b 3:Int)]∧∀ i,b i<256:=by
 obtain ⟨L,rfl,hl,hL⟩:=EW.array h Tryz.underlying28
 obtain ⟨a,b,c,d,rfl⟩:=list4 hl
 obtain ⟨m1,rfl,q1⟩:=FY (j:=j) (hL a (by simp))
 obtain ⟨m2,rfl,q2⟩:=FY (j:=j) (hL b (by simp))
 obtain ⟨m3,rfl,q3⟩:=FY (j:=j) (hL c (by simp))
 obtain ⟨m4,rfl,q4⟩:=FY (j:=j) (hL d (by simp))
 exact ⟨fun i=>if i=0 then m1 else if i=1 then m2 else if i=2 then m3 else m4,rfl,fun i=>by simp only;split<;>(try split)<;>(try split)<;>omega⟩
theorem ru {j:Nat} {fs:List FV} (h:EW Tryz.prog (j+7) 30 fs):∃ x:su,fs=x.enc∧x.Ok:=by
 obtain ⟨parts,rfl,hp⟩:=IY h Tryz.underlying30
 obtain ⟨a,b,c,d,rfl,h1,h2,h3,h4⟩:=LM hp
 obtain ⟨x1,rfl,k1⟩:=Y2 (j:=j) h1
 obtain ⟨x2,rfl,k2⟩:=Y2 (j:=j) h2
 obtain ⟨b5,rfl,k3⟩:=qy (j:=j+4) h3
 obtain ⟨b4,rfl,k4⟩:=pU (j:=j+4) h4
 exact ⟨⟨x1,x2,b5,b4⟩,rfl,k1,k2,k3,k4⟩
end Go.Proofs.YtdabojnmoejilaaGreatDoor
