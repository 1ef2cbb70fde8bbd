/-
  Texts of a proof, merged (OrK, OrP, PieV, PieY, Sch, HanP, Wm2, Wm4). Conditions: in each statement.
-/
import Derived.Test.YtnjkoebfgcbbdaaGreatDoorKGn
set_option linter.unusedSimpArgs false
set_option linter.unusedVariables false
set_option linter.unusedSectionVars false
set_option maxRecDepth 100000
set_option maxHeartbeats 8000000
abbrev bk:=@List.not_mem_nil
abbrev cC:=@List.mem_flatMap
abbrev cU:=@List.nodup_cons
abbrev ep:=@Array.size_setIfInBounds
abbrev eE:=@List.nodup_append
abbrev eT:=@Array.getElem?_setIfInBounds_ne
abbrev fT:=@Classical.byContradiction
abbrev gj:=@List.Pairwise.imp_of_mem
abbrev gk:=@List.countP_cons
namespace Go.Proofs.YtnjkoebfgcbbdaaGreatDoor
open Go Go.Am Go.Vm
theorem Fq {P:Program} {n:Nat} {t:TypeId} {fs:List FV} {sf:Array Field} (h:EW P (n+1) t fs) (hu:P.underlying t=some (.struct sf)):∃ parts:List (List FV),fs=parts.flatten∧G6 (fun (fd:Field) x=>EW P n fd.type x) sf.toList parts:=by
 unfold EW at h;grind
theorem Io {P:Program} {n:Nat} {t e:TypeId} {fs:List FV} {α:Type} [Enc α] {p:α→Prop} (h:EW P (n+1) t fs) (hu:P.underlying t=some (.slice e)) (he:∀ x,EW P n e x→∃ a:α,x=Enc.enc a∧p a):∃ l:List α,fs=[.lst e (cells l) l.length]∧l.length≤maxLen∧∀ i,i<l.length→p (gi l i):=by
 unfold EW at h;rw [hu] at h;obtain ⟨L,rfl,hl,hL⟩:=h;obtain ⟨r,hr⟩:=ZA (R:=fun (a:α) fs=>fs=Enc.enc a∧p a) (l:=L) (fun x hx=>he x (hL x hx));obtain ⟨e1,e2,e3⟩:=Zr hr;grind
theorem Ef {j:Nat} {fs:List FV} (h:EW Tryz.prog (j+1) 5 fs):∃ n:Nat,fs=[.int .u8 (n:Int)]∧n<256:=by
 obtain ⟨n,rfl,hn⟩:=h;obtain ⟨m,q,rfl⟩:=NY hn;grind
theorem b4k {j:Nat} {fs:List FV} (h:EW Tryz.prog (j+1) 97 fs):∃ n:Int,fs=[.int .i8 n]∧-128≤n∧n≤127:=by
 obtain ⟨n,rfl,hn⟩:=h;exact ⟨n,rfl,a5t hn⟩
theorem a6y {j:Nat} {fs:List FV} (h:EW Tryz.prog (j+2) 232 fs):∃ x:Pul,fs=Enc.enc x∧x.Ok:=by
 obtain ⟨parts,rfl,hp⟩:=Fq h Tryz.underlying232;obtain ⟨a,b,c,d,rfl,h1,h2,h3,h4⟩:=Jo hp;obtain ⟨m1,rfl,q1⟩:=Ef (j:=j) h1;obtain ⟨m2,rfl,q2⟩:=Ef (j:=j) h2;obtain ⟨m3,rfl,q3⟩:=Ef (j:=j) h3;obtain ⟨m4,rfl,q4⟩:=Ef (j:=j) h4;exact ⟨⟨m1,m2,m3,m4⟩,rfl,q1,q2,q3,q4⟩
theorem zL {j:Nat} {fs:List FV} (h:EW Tryz.prog (j+4) 211 fs):∃ x:Brd,fs=Enc.enc x∧x.Ok:=by
 obtain ⟨parts,rfl,hp⟩:=Fq h Tryz.underlying211;obtain ⟨a,b,c,d,rfl,h1,h2,h3,h4⟩:=Jo hp;obtain ⟨m1,rfl,q1⟩:=Ef (j:=j+2) h1;obtain ⟨m2,rfl,q2⟩:=Ef (j:=j+2) h2;obtain ⟨m3,rfl⟩:=qj (j:=j+2) h3;obtain ⟨l,rfl,hl,hL⟩:=Io (n:=j+2) (p:=Pul.Ok) h4 Tryz.underlying209 (fun x hx=>a6y hx);exact ⟨⟨m1,m2,m3,l⟩,rfl,q1,q2,by simp only [maxLen] at hl;grind,hL⟩
theorem a6e {j:Nat} {fs:List FV} (h:EW Tryz.prog (j+2) 234 fs):∃ x:Lnk,fs=Enc.enc x∧x.Ok:=by
 obtain ⟨parts,rfl,hp⟩:=Fq h Tryz.underlying234;obtain ⟨a,b,c,d,rfl,h1,h2,h3,h4⟩:=Jo hp;obtain ⟨m1,rfl,q1⟩:=Ef (j:=j) h1;obtain ⟨m2,rfl,q2⟩:=Ef (j:=j) h2;obtain ⟨m3,rfl,q3⟩:=b4k (j:=j) h3;obtain ⟨m4,rfl⟩:=qj (j:=j) h4;exact ⟨⟨m1,m2,m3,m4⟩,rfl,q1,q2,q3⟩
theorem a2h {j:Nat} {fs:List FV} (h:EW Tryz.prog (j+6) 54 fs):∃ x:OPl,fs=x.enc∧x.Ok:=by
 obtain ⟨parts,rfl,hp⟩:=Fq h Tryz.underlying54;obtain ⟨a,b,c,rfl,h1,h2,h3⟩:=Nw hp;obtain ⟨l1,rfl,n1,g1⟩:=Io (n:=j+4) (p:=GK.Ok) h1 Tryz.underlying50 (fun x hx=>a0b (j:=j+1) hx);obtain ⟨l2,rfl,n2,g2⟩:=Io (n:=j+4) (p:=Brd.Ok) h2 Tryz.underlying51 (fun x hx=>zL hx);obtain ⟨l3,rfl,n3,g3⟩:=Io (n:=j+4) (p:=Lnk.Ok) h3 Tryz.underlying52 (fun x hx=>a6e (j:=j+2) hx);simp only [maxLen] at n1 n2 n3;exact ⟨⟨l1,l2,l3⟩,rfl,g1,g2,g3,by grind,by grind,by grind⟩
theorem b7z {α:Type} {L:List α} (h:L.length=5):∃ a b c d e,L=[a,b,c,d,e]:=by
 match L,h with
 |[a,b,c,d,e],_=>simp
theorem a2a {j:Nat} {fs:List FV} (h:EW Tryz.prog (j+2) 174 fs):∃ b:Nat→Nat,fs=a5l b∧∀ i,b i<256:=by
 obtain ⟨L,rfl,hl,hL⟩:=EW.array h Tryz.underlying174;obtain ⟨a,b,c,d,e,rfl⟩:=b7z hl;obtain ⟨m1,rfl,q1⟩:=Ef (j:=j) (hL a (by simp));obtain ⟨m2,rfl,q2⟩:=Ef (j:=j) (hL b (by simp));obtain ⟨m3,rfl,q3⟩:=Ef (j:=j) (hL c (by simp));obtain ⟨m4,rfl,q4⟩:=Ef (j:=j) (hL d (by simp));obtain ⟨m5,rfl,q5⟩:=Ef (j:=j) (hL e (by simp));exact ⟨fun i=>if i=0 then m1 else if i=1 then m2 else if i=2 then m3 else if i=3 then m4 else m5,rfl,fun i=>by grind⟩
open Go.Pie
attribute [local irreducible] Aa Ai Ag Ad AP Ak Bf BM Bq Ah Vm.Done BD AB Ci Ba DV DN Eo AZ CG
theorem a6v {j:Nat} {fs:List FV} (h:EW Tryz.prog (j+1) 5 fs):∃ x:UInt8,fs=Enc.enc x∧True:=by
 obtain ⟨n,rfl,hn⟩:=Ef h;refine ⟨UInt8.ofNat n,?_,trivial⟩;show _=[FV.int .u8 (((UInt8.ofNat n).toNat:Nat):Int)]
 rw [UInt8.toNat_ofNat',bp hn]
def Sd8.Ok (y:Sd8):Prop:=y.st<256∧y.lg<256∧y.dv<256∧y.ky<256
def Mrk.Ok (y:Mrk):Prop:=y.bar<256∧∀ j,y.b j<256
theorem a2b {j:Nat} {fs:List FV} (h:EW Tryz.prog (j+2) 170 fs):∃ x:Sd8,fs=Enc.enc x∧x.Ok:=by
 obtain ⟨parts,rfl,hp⟩:=Fq h Tryz.underlying170;obtain ⟨a,b,c,d,rfl,h1,h2,h3,h4⟩:=Jo hp;obtain ⟨m1,rfl,q1⟩:=Ef (j:=j) h1;obtain ⟨m2,rfl,q2⟩:=Ef (j:=j) h2;obtain ⟨m3,rfl,q3⟩:=Ef (j:=j) h3;obtain ⟨m4,rfl,q4⟩:=Ef (j:=j) h4;exact ⟨⟨m1,m2,m3,m4⟩,rfl,q1,q2,q3,q4⟩
theorem a7m {j:Nat} {fs:List FV} (h:EW Tryz.prog (j+3) 176 fs):∃ x:Mrk,fs=Enc.enc x∧x.Ok:=by
 obtain ⟨parts,rfl,hp⟩:=Fq h Tryz.underlying176;obtain ⟨a,b,rfl,h1,h2⟩:=rE hp;obtain ⟨m1,rfl,q1⟩:=Ef (j:=j+1) h1;obtain ⟨b5,rfl,k3⟩:=a2a (j:=j) h2;exact ⟨⟨m1,b5⟩,rfl,q1,k3⟩
theorem a0y {j:Nat} {fs:List FV} (h:EW Tryz.prog (j+7) 59 fs):∃ x:bD,fs=x.enc∧x.Ok:=by
 obtain ⟨parts,rfl,hp⟩:=Fq h Tryz.underlying59;obtain ⟨a,b,c,d,rfl,h1,h2,h3,h4⟩:=Jo hp;obtain ⟨x1,rfl,k1⟩:=a2h (j:=j) h1;obtain ⟨l2,rfl,n2,g2⟩:=Io (n:=j+5) (p:=fun _:UInt8=>True) h2 Tryz.underlying55 (fun x hx=>a6v (j:=j+4) hx);obtain ⟨l3,rfl,n3,g3⟩:=Io (n:=j+5) (p:=Sd8.Ok) h3 Tryz.underlying56 (fun x hx=>a2b (j:=j+3) hx);obtain ⟨l4,rfl,n4,g4⟩:=Io (n:=j+5) (p:=Mrk.Ok) h4 Tryz.underlying57 (fun x hx=>a7m (j:=j+2) hx);simp only [maxLen] at n2 n3 n4;exact ⟨⟨x1,l2,l3,l4⟩,rfl,k1,by grind,by grind,by grind,g3,g4⟩
noncomputable instance (a b:JZ):Decidable (a=b):=Classical.propDecidable _
theorem rO (p:F7) (t:Int) (x:Int):∀ k,x∈Lr p t k↔∃ i:Nat,i<k∧x=(i:Int)∧ZE p t i=true
 |0=>by simp [Lr]
 |k+1=>by
  have ih:=rO p t x k;have e:Lr p t (k+1)=if ZE p t k=true then Lr p t k++[(k:Int)] else Lr p t k:=rfl
  rw [e];by_cases h:ZE p t k=true
  ·rw [if_pos h,bm,aL,ih]
   constructor
   ·rintro (⟨i,h1,h2⟩|h1)
    ·exact ⟨i,by omega,h2⟩
    ·exact ⟨k,by omega,h1,h⟩
   ·rintro ⟨i,h1,h2,h3⟩
    by_cases e:i=k
    ·subst e;exact .inr h2
    ·exact .inl ⟨i,by omega,h2,h3⟩
  ·rw [if_neg h,ih]
   constructor
   ·rintro ⟨i,h1,h2⟩;exact ⟨i,by omega,h2⟩
   ·rintro ⟨i,h1,h2,h3⟩
    by_cases e:i=k
    ·subst e;exact absurd h3 h
    ·exact ⟨i,by omega,h2,h3⟩
theorem jU (p:F7) (t:Int):∀ k,t∈Tz p k↔t=OU p∨t=Qd p∨∃ i,i<k∧(t=(gi p.notes i).s∨t=(gi p.notes i).e)
 |0=>by simp [Tz]
 |k+1=>by
  have ih:=jU p t k;have e:Tz p (k+1)=Tz p k++[(gi p.notes k).s,(gi p.notes k).e]:=rfl;grind
theorem a5f (p:F7) (t:Int) (i:Nat):ZE p t i=true↔(gi p.notes i).s≤t∧t<(gi p.notes i).e:=by
 unfold ZE;simp
end Go.Proofs.YtnjkoebfgcbbdaaGreatDoor
namespace Go.Sch
section
open Go.Vm
def cmpL:List Int→List Int→Int
 |[],[]=>0
 |[],_::_=>-1
 |_::_,[]=>1
 |x::a,y::b=>if x<y then -1 else if y<x then 1 else cmpL a b
theorem gZ:∀ a:List Int,cmpL a a=0
 |[]=>rfl
 |x::a=>by unfold cmpL;rw [if_neg (by omega),if_neg (by omega),gZ a]
theorem cmpL_eq:∀ {a b:List Int},cmpL a b=0→a=b
 |[],[],_=>rfl
 |[],_::_,h=>by cases h
 |_::_,[],h=>by cases h
 |x::a,y::b,h=>by
  unfold cmpL at h;split at h
  ·cases h
  ·split at h
   ·cases h
   ·rw [cmpL_eq h,show x=y by omega]
theorem Vz:∀ a b:List Int,cmpL a b=-cmpL b a
 |[],[]=>rfl
 |[],_::_=>rfl
 |_::_,[]=>rfl
 |x::a,y::b=>by
  unfold cmpL;by_cases h1:x<y
  ·omega
  ·by_cases h2:y<x
   ·omega
   ·rw [if_neg h1,if_neg h2,if_neg h2,if_neg h1,Vz a b]
theorem bg:∀ {a b c:List Int},cmpL a b≤0→cmpL b c≤0→cmpL a c≤0
 |[],_,[],_,_=>bh _
 |[],_,_::_,_,_=>by show (-1:Int)≤0;omega
 |_::_,[],_,h,_=>by contradiction
 |_::_,_::_,[],_,h=>by assumption
 |x::a,y::b,z::c,h1,h2=>by
  unfold cmpL at h1 h2 ⊢;by_cases g1:x<y
  ·omega
  ·rw [if_neg g1] at h1
   by_cases g1':y<x
   ·omega
   ·rw [if_neg g1'] at h1
    by_cases g2:y<z
    ·omega
    ·rw [if_neg g2] at h2
     by_cases g3:z<y
     ·omega
     ·rw [if_neg g3] at h2
      rw [if_neg (by omega),if_neg (by omega)];exact bg h1 h2
theorem rJ:∀ {a b:List Int} {m:Nat} {v:Int},m<a.length→m<b.length→gi a m=gi b m→cmpL (a.set m v) (b.set m v)=cmpL a b
 |[],_,_,_,h,_,_=>absurd h (bB _)
 |_::_,[],_,_,_,h,_=>absurd h (bB _)
 |x::a,y::b,0,v,_,_,h=>by
  have e:x=y:=h;subst e;unfold cmpL;simp
 |x::a,y::b,m+1,v,h1,h2,h=>by
  rw [en,en];have ih:=rJ (v:=v) (a:=a) (b:=b) (m:=m) (by grind) (by grind) (by assumption);unfold cmpL;rw [ih]
def bV (x y:List Int×Int):Prop:=x.2<y.2∨x.2=y.2∧cmpL x.1 y.1≤0
theorem Jc (x:List Int×Int):bV x x:=.inr ⟨rfl,by rw [gZ];omega⟩
theorem KE {x y z:List Int×Int} (h1:bV x y) (h2:bV y z):bV x z:=by
 rcases h1 with h1|⟨h1,h1'⟩
 ·rcases h2 with h2|⟨h2,_⟩
  ·exact .inl (by omega)
  ·exact .inl (by omega)
 ·rcases h2 with h2|⟨h2,h2'⟩
  ·exact .inl (by omega)
  ·exact .inr ⟨by omega,bg h1' h2'⟩
theorem a4z {x y:List Int×Int} (h1:bV x y) (h2:bV y x):x=y:=by
 obtain ⟨a,c⟩:=x;obtain ⟨b,d⟩:=y;rcases h1 with h1|⟨h1,h1'⟩
 ·rcases h2 with h2|⟨h2,_⟩<;>simp only at h1 h2<;>omega
 ·rcases h2 with h2|⟨h2,h2'⟩
  ·omega
  ·simp only at h1 h1' h2'
   have h3:=Vz a b;rw [h1,cmpL_eq (a:=a) (b:=b) (by omega)]
def zH (x y:List Int×Int):Bool:=decide (x.2<y.2)||(decide (x.2=y.2)&&decide (cmpL x.1 y.1<0))
theorem wz {x y:List Int×Int} (h:zH x y=true):bV x y:=by
 unfold zH at h;simp only [Bool.or_eq_true,Bool.and_eq_true,decide_eq_true_eq] at h;rcases h with h|⟨h,h'⟩
 ·exact .inl h
 ·exact .inr ⟨h,by omega⟩
theorem jr {x y:List Int×Int} (h:zH x y=false):bV y x:=by
 unfold zH at h;simp only [Bool.or_eq_false_iff,Bool.and_eq_false_iff,decide_eq_false_iff_not] at h;obtain ⟨h1,h2⟩:=h;rcases h2 with h2|h2
 ·exact .inl (by omega)
 ·by_cases e:x.2=y.2
  ·have:=Vz x.1 y.1
   exact .inr ⟨e.symm,by omega⟩
  ·exact .inl (by omega)
def FH (nw:Nat→Bool) (f:Nat→Nat) (l:List Int):Nat→List (List Int)
 |0=>[l]
 |k+1=>if nw k=true then FH nw f l k++(FH nw f l k).map (fun x=>x.set (f k) 1) else FH nw f l k
theorem Y1 (nw:Nat→Bool) (f:Nat→Nat) (l:List Int):∀ k,1≤(FH nw f l k).length∧(FH nw f l k).length≤2 ^ k
 |0=>⟨ab _,ab _⟩
 |k+1=>by
  have ih:=Y1 nw f l k;unfold FH;grind
def V5 (nw:Nat→Bool) (f:Nat→Nat) (k i:Nat):Prop:=∃ j,j<k∧nw j=true∧f j=i
theorem V5.succ {nw:Nat→Bool} {f:Nat→Nat} {k i:Nat}:V5 nw f (k+1) i↔V5 nw f k i∨nw k=true∧f k=i:=by
 constructor
 ·rintro ⟨j,h1,h2,h3⟩
  by_cases e:j=k
  ·grind
  ·exact .inl ⟨j,by omega,h2,h3⟩
 ·rintro (⟨j,h1,h2,h3⟩|⟨h1,h2⟩)
  ·exact ⟨j,by omega,h2,h3⟩
  ·exact ⟨k,by omega,h1,h2⟩
theorem MZ {nw:Nat→Bool} {f:Nat→Nat} {l:List Int}:∀ (k:Nat),(∀ j j',j<k→j'<k→f j=f j'→j=j')→(∀ j,j<k→f j<l.length)→(∀ j,j<k→nw j=true→gi l (f j)=0)→∀ x:List Int,
 x∈FH nw f l k↔x.length=l.length∧∀ i,i<l.length→(V5 nw f k i→gi x i=0∨gi x i=1)∧(¬ V5 nw f k i→gi x i=gi l i)
 |0,_,_,_,x=>by
  have h0:∀ i,¬ V5 nw f 0 i:=fun i ⟨j,h,_⟩=>by omega
  unfold FH;rw [aL];constructor
  ·grind
  ·rintro ⟨h1,h2⟩
   exact Ku h1 fun i hi=>(h2 i (by omega)).2 (h0 i)
 |k+1,hinj,hr,hz,x=>by
  have ih:=MZ k (fun j j' h h'=>hinj j j' (by omega) (by omega)) (fun j h=>hr j (by omega)) (fun j h=>hz j (by omega));have hk:=hr k (by omega);unfold FH;by_cases hn:nw k=true
  ·rw [if_pos hn,bm,ih,bb]
   have hnk:¬ V5 nw f k (f k):=fun ⟨j,h1,_,h3⟩=>by
    grind
   have hzk:=hz k (by omega) hn;constructor
   ·rintro (⟨h1,h2⟩|⟨y,hy,rfl⟩)
    ·refine ⟨h1,fun i hi=>⟨fun hh=>?_,fun hh=>(h2 i hi).2 fun h=>hh (V5.succ.2 (.inl h))⟩⟩
     rcases V5.succ.1 hh with hh|⟨_,rfl⟩
     ·grind
     grind
    ·obtain ⟨h1,h2⟩:=(ih y).1 hy
     refine ⟨by grind,fun i hi=>⟨fun hh=>?_,fun hh=>?_⟩⟩
     ·rw [GX]
      split
      ·simp
      ·rename_i e
       rcases V5.succ.1 hh with hh|⟨_,rfl⟩
       ·grind
       omega
     ·rw [GX,if_neg fun e=>hh (V5.succ.2 (.inr ⟨hn,e.1⟩))]
      exact (h2 i hi).2 fun h=>hh (V5.succ.2 (.inl h))
   ·rintro ⟨h1,h2⟩
    rcases (h2 (f k) hk).1 (V5.succ.2 (.inr ⟨hn,rfl⟩)) with e|e
    ·refine .inl ⟨h1,fun i hi=>⟨fun hh=>(h2 i hi).1 (V5.succ.2 (.inl hh)),fun hh=>?_⟩⟩
     by_cases ei:f k=i
     ·subst ei;rw [e,hzk]
     ·exact (h2 i hi).2 fun h=>(V5.succ.1 h).elim hh fun h=>ei h.2
    ·refine .inr ⟨x.set (f k) 0,(ih _).2 ⟨by rw [cG,h1],fun i hi=>⟨fun hh=>?_,fun hh=>?_⟩⟩,?_⟩
     ·have ei:f k≠i:=fun e=>hnk (e.symm▸hh)
      rw [GX,if_neg fun e=>ei e.1];exact (h2 i hi).1 (V5.succ.2 (.inl hh))
     ·rw [GX]
      by_cases ei:f k=i
      ·subst ei;rw [if_pos ⟨rfl,by omega⟩,hzk]
      ·rw [if_neg fun h=>ei h.1]
       exact (h2 i hi).2 fun h=>(V5.succ.1 h).elim hh fun h=>ei h.2
     ·refine Ku (by simp) fun i hi=>?_
      rw [GX,GX];by_cases ei:f k=i
      ·subst ei;rw [if_pos ⟨rfl,by simpa using hi⟩,e]
      ·rw [if_neg fun h=>ei h.1,if_neg fun h=>ei h.1]
  ·rw [if_neg hn,ih]
   have:∀ i,V5 nw f (k+1) i↔V5 nw f k i:=fun i=>by
    rw [V5.succ];exact ⟨fun h=>h.elim id fun h=>absurd h.1 hn,.inl⟩
   simp only [this]
theorem bI {L:List (List Int)} {m:Nat} (hz:∀ x∈L,m<x.length∧gi x m=0) (h:L.Nodup):(L.map fun x=>x.set m 1).Nodup:=by
 have hb:∀ x∈L,((x.set m 1).set m 0)=x:=fun x hx=>by
  obtain ⟨h1,h2⟩:=hz x hx;refine Ku (by simp) fun i hi=>?_
  rw [GX,GX];grind
 refine List.Pairwise.map _ (R:=fun a b=>a∈L∧b∈L∧a≠b) (fun a b ⟨ha,hb',hne⟩ e=>hne ?_) ?_
 ·grind
 ·exact gj (R:=(·≠·)) (fun {a b} ha hb h=>⟨ha,hb,h⟩) h
theorem Y7 {nw:Nat→Bool} {f:Nat→Nat} {l:List Int}:∀ (k:Nat),(∀ j j',j<k→j'<k→f j=f j'→j=j')→(∀ j,j<k→f j<l.length)→(∀ j,j<k→nw j=true→gi l (f j)=0)→(FH nw f l k).Nodup
 |0,_,_,_=>by unfold FH;simp
 |k+1,hinj,hr,hz=>by
  have hm:=MZ (nw:=nw) (f:=f) (l:=l) k (fun j j' h h'=>hinj j j' (by omega) (by omega)) (fun j h=>hr j (by omega)) (fun j h=>hz j (by omega));have ih:=Y7 (nw:=nw) (f:=f) (l:=l) k (fun j j' h h'=>hinj j j' (by omega) (by omega)) (fun j h=>hr j (by omega)) (fun j h=>hz j (by omega));unfold FH;by_cases hn:nw k=true
  ·rw [if_pos hn]
   have hnk:¬ V5 nw f k (f k):=fun ⟨j,h1,_,h3⟩=>by
    grind
   have hzz:∀ x∈FH nw f l k,f k<x.length∧gi x (f k)=0:=fun x hx=>by
    grind
   refine eE.2 ⟨ih,bI hzz ih,fun a ha b hb e=>?_⟩;subst e;obtain ⟨y,hy,e⟩:=bb.1 hb;have h1:=(hzz a ha).2;rw [← e,GX,if_pos ⟨rfl,(hzz y hy).1⟩] at h1;omega
  grind
inductive All2' {α β:Type} (R:α→β→Prop):List α→List β→Prop
 |nil:All2' R [] []
 |cons {a b l r} (h:R a b) (t:All2' R l r):All2' R (a::l) (b::r)
theorem All2'.append {α β:Type} {R:α→β→Prop}:∀ {l1:List α} {r1:List β} {l2:List α} {r2:List β},All2' R l1 r1→All2' R l2 r2→All2' R (l1++l2) (r1++r2)
 |_,_,_,_,.nil,h=>h
 |_,_,_,_,.cons h t,k=>.cons h (All2'.append t k)
theorem All2'.map {α β γ δ:Type} {R:α→β→Prop} {S:γ→δ→Prop} {g:α→γ} {h:β→δ} (hi:∀ a b,R a b→S (g a) (h b)):∀ {l:List α} {r:List β},All2' R l r→All2' S (l.map g) (r.map h)
 |_,_,.nil=>.nil
 |_,_,.cons a t=>.cons (hi _ _ a) (All2'.map hi t)
theorem All2'.filter {α β:Type} {R:α→β→Prop} {g:α→Bool} {h:β→Bool} (hi:∀ a b,R a b→g a=h b):∀ {l:List α} {r:List β},All2' R l r→All2' R (l.filter g) (r.filter h)
 |_,_,.nil=>.nil
 |_,_,.cons (a:=a) (b:=b) x t=>by
  rw [di,di,hi a b x];cases h b
  ·exact All2'.filter hi t
  ·exact .cons x (All2'.filter hi t)
theorem All2'.right {α β:Type} {R:α→β→Prop}:∀ {l:List α} {r:List β},All2' R l r→∀ b∈r,∃ a,a∈l∧R a b
 |_,_,.nil,b,h=>absurd h bk
 |_,_,.cons x t,b,h=>by
  rcases be.1 h with rfl|h
  ·grind
  ·obtain ⟨a,h1,h2⟩:=All2'.right t b h
   grind
theorem All2'.count {α β:Type} {R:α→β→Prop} {g:α→Bool} {h:β→Bool} (hi:∀ a b,R a b→g a=h b):∀ {l:List α} {r:List β},All2' R l r→l.countP g=r.countP h
 |_,_,.nil=>rfl
 |_,_,.cons (a:=a) (b:=b) x t=>by
  rw [gk,gk,All2'.count hi t,hi a b x]
theorem dN {nw:Nat→Bool} {f:Nat→Nat} {R:List Int→List Int→Prop} {a b:List Int} (hab:R a b):∀ (k:Nat),(∀ j,j<k→nw j=true→∀ x y,R x y→R (x.set (f j) 1) (y.set (f j) 1))→All2' R (FH nw f a k) (FH nw f b k)
 |0,_=>.cons hab .nil
 |k+1,h=>by
  have ih:=dN hab k fun j hj=>h j (by omega)
  unfold FH;by_cases hn:nw k=true
  ·rw [if_pos hn,if_pos hn]
   exact ih.append (ih.map (h k (by omega) hn))
  grind
end
section
open Go.Vm
section
variable (nw:Nat→Nat→Bool) (f:Nat→Nat→Nat) (K:Nat→Nat) (play:Nat→List Int→Bool) (Hu:List Int)
def uz (t:Nat) (l:List Int):List (List Int):=(FH (nw t) (f t) l (K t)).filter (play t)
def WH:Nat→List (List Int)
 |0=>[Hu]
 |t+1=>(WH t).flatMap (uz nw f K play t)
end
structure Yy (n T:Nat) (nw:Nat→Nat→Bool) (f:Nat→Nat→Nat) (K:Nat→Nat) (S:Nat→Nat→Prop) (play:Nat→List Int→Bool) (Hu:List Int):Prop where
 len:Hu.length=n
 inj:∀ t,t<T→∀ j j',j<K t→j'<K t→f t j=f t j'→j=j'
 rng:∀ t,t<T→∀ j,j<K t→f t j<n
 zero:∀ t,t<T→∀ j,j<K t→nw t j=true→gi Hu (f t j)=0
 once:∀ t t',t<T→t'<T→∀ i,V5 (nw t) (f t) (K t) i→V5 (nw t') (f t') (K t') i→t=t'
 sub:∀ t,t<T→∀ j,j<K t→S t (f t j)
 old:∀ t t',t<t'→t'<T→∀ i,S t i→¬ V5 (nw t') (f t') (K t') i
 cont:∀ t,t+1<T→∀ i,S (t+1) i→S t i∨∀ t',t'<t+1→¬ V5 (nw t') (f t') (K t') i
 loc:∀ t,t<T→∀ l l':List Int,l.length=n→l'.length=n→(∀ i,S t i→gi l i=gi l' i)→play t l=play t l'
section
variable {n T:Nat} {nw:Nat→Nat→Bool} {f:Nat→Nat→Nat} {K:Nat→Nat} {S:Nat→Nat→Prop} {play:Nat→List Int→Bool} {Hu:List Int}
def zI (nw:Nat→Nat→Bool) (f:Nat→Nat→Nat) (K:Nat→Nat) (t i:Nat):Prop:=V5 (nw t) (f t) (K t) i
structure fO (nw:Nat→Nat→Bool) (f:Nat→Nat→Nat) (K:Nat→Nat) (play:Nat→List Int→Bool) (Hu:List Int) (n t:Nat) (l:List Int):Prop where
 len:l.length=n
 yes:∀ i,i<n→(∃ t',t'<t∧zI nw f K t' i)→gi l i=0∨gi l i=1
 no:∀ i,i<n→(¬ ∃ t',t'<t∧zI nw f K t' i)→gi l i=gi Hu i
 play:∀ t',t'<t→play t' l=true
theorem Q5 (h:Yy n T nw f K S play Hu) {t:Nat} (ht:t<T) {l:List Int} (hl:fO nw f K play Hu n t l) (x:List Int) :
 x∈uz nw f K play t l↔(x.length=n∧∀ i,i<n→(zI nw f K t i→gi x i=0∨gi x i=1)∧(¬ zI nw f K t i→gi x i=gi l i))∧play t x=true:=by
 have hz:∀ j,j<K t→nw t j=true→gi l (f t j)=0:=fun j hj hn=>by
  rw [hl.no _ (h.rng t ht j hj) fun ⟨t',h1,h2⟩=>?_]
  ·exact h.zero t ht j hj hn
  ·have:=h.once t' t (by omega) ht _ h2 ⟨j,hj,hn,rfl⟩
   omega
 unfold uz;rw [List.mem_filter,MZ (K t) (h.inj t ht) (fun j hj=>by rw [hl.len];exact h.rng t ht j hj) hz,hl.len];rfl
theorem a0k (h:Yy n T nw f K S play Hu) {t:Nat} (ht:t<T) {l:List Int} (hl:fO nw f K play Hu n t l):(uz nw f K play t l).Nodup:=by
 have hz:∀ j,j<K t→nw t j=true→gi l (f t j)=0:=fun j hj hn=>by
  rw [hl.no _ (h.rng t ht j hj) fun ⟨t',h1,h2⟩=>?_]
  ·exact h.zero t ht j hj hn
  ·have:=h.once t' t (by omega) ht _ h2 ⟨j,hj,hn,rfl⟩
   omega
 exact (Y7 (K t) (h.inj t ht) (fun j hj=>by rw [hl.len];exact h.rng t ht j hj) hz).filter _
theorem og (h:Yy n T nw f K S play Hu) {t:Nat} (ht:t<T) {l x:List Int} (hl:fO nw f K play Hu n t l) (hx:x∈uz nw f K play t l) {t':Nat} (ht':t'<t) {i:Nat} (hS:S t' i):gi x i=gi l i:=by
 obtain ⟨⟨h1,h2⟩,_⟩:=(Q5 h ht hl x).1 hx;by_cases hi:i<n
 ·exact (h2 i hi).2 (h.old t' t ht' ht i hS)
 ·unfold gi
  have e:=hl.len;grind
theorem Uc (h:Yy n T nw f K S play Hu):∀ t,t≤T→∀ l,l∈WH nw f K play Hu t↔fO nw f K play Hu n t l
 |0,_,l=>by
  unfold WH;rw [aL];constructor
  ·rintro rfl
   exact ⟨h.len,fun i _ ⟨t',h1,_⟩=>by omega,fun _ _ _=>rfl,fun t' h1=>by omega⟩
  ·intro hl
   exact Ku (by rw [hl.len,h.len]) fun i hi=>hl.no i (by rw [← hl.len];omega) fun ⟨t',h1,_⟩=>by omega
 |t+1,ht,l=>by
  have ih:=Uc h t (by omega);unfold WH;rw [cC];constructor
  ·rintro ⟨y,hy,hx⟩
   have hy:=(ih y).1 hy;obtain ⟨⟨h1,h2⟩,h3⟩:=(Q5 h (by omega) hy l).1 hx;refine ⟨h1,fun i hi ⟨t',g1,g2⟩=>?_,fun i hi hno=>?_,fun t' g1=>?_⟩
   ·by_cases e:t'=t
    ·grind
    ·by_cases hb:zI nw f K t i
     ·grind
     ·rw [(h2 i hi).2 hb];exact hy.yes i hi ⟨t',by omega,g2⟩
   ·rw [(h2 i hi).2 fun hb=>hno ⟨t,by omega,hb⟩]
    exact hy.no i hi fun ⟨t',g1,g2⟩=>hno ⟨t',by omega,g2⟩
   ·by_cases e:t'=t
    ·grind
    ·rw [h.loc t' (by omega) l y h1 hy.len fun i hS=>og h (by omega) hy hx (by omega) hS]
     exact hy.play t' (by omega)
  ·intro hl
   let y:List Int:=Bv (fun i=>open Classical in if zI nw f K t i then 0 else gi l i) n
   have hyl:y.length=n:=Cj _ _;have hyi:∀ i,i<n→gi y i=open Classical in if zI nw f K t i then 0 else gi l i:=fun i hi=>Ej _ hi
   have hy:fO nw f K play Hu n t y:=by
    refine ⟨hyl,fun i hi ⟨t',g1,g2⟩=>?_,fun i hi hno=>?_,fun t' g1=>?_⟩
    ·rw [hyi i hi]
     split
     ·simp
     ·exact hl.yes i hi ⟨t',by omega,g2⟩
    ·rw [hyi i hi]
     split
     ·rename_i hb
      obtain ⟨j,j1,j2,rfl⟩:=hb;exact (h.zero t (by omega) j j1 j2).symm
     ·rename_i hb
      exact hl.no i hi fun ⟨t',g1,g2⟩=>by
       grind
    ·rw [h.loc t' (by omega) y l hyl hl.len fun i hS=>?_]
     ·exact hl.play t' (by omega)
     ·by_cases hi:i<n
      ·have hno:¬ zI nw f K t i:=h.old t' t g1 (by omega) i hS
       grind
      ·have e:=hl.len
       unfold gi;grind
   refine ⟨y,(ih y).2 hy,(Q5 h (by omega) hy l).2 ⟨⟨hl.len,fun i hi=>⟨fun hb=>hl.yes i hi ⟨t,by omega,hb⟩,fun hb=>?_⟩⟩,hl.play t (by omega)⟩⟩;grind
theorem Rq {g:List Int→List (List Int)}:∀ {L:List (List Int)},L.Nodup→(∀ a∈L,(g a).Nodup)→(∀ a∈L,∀ b∈L,∀ x,x∈g a→x∈g b→a=b)→(L.flatMap g).Nodup
 |[],_,_,_=>cA
 |a::L,h1,h2,h3=>by
  obtain ⟨n1,n2⟩:=cU.1 h1;refine eE.2 ⟨h2 a (by simp),Rq n2 (fun b hb=>h2 b (an _ hb)) fun b hb c hc=>h3 b (an _ hb) c (an _ hc),fun x hx y hy e=>?_⟩;grind
theorem gV (h:Yy n T nw f K S play Hu):∀ t,t≤T→(WH nw f K play Hu t).Nodup
 |0,_=>by unfold WH;simp
 |t+1,ht=>by
  have hm:=Uc h t (by omega);refine Rq (gV h t (by omega)) (fun a ha=>a0k h (by omega) ((hm a).1 ha)) fun a ha b hb x hxa hxb=>?_
  have ia:=(hm a).1 ha;have ib:=(hm b).1 hb;obtain ⟨⟨_,h2⟩,_⟩:=(Q5 h (by omega) ia x).1 hxa;obtain ⟨⟨_,h3⟩,_⟩:=(Q5 h (by omega) ib x).1 hxb;refine Ku (by rw [ia.len,ib.len]) fun i hi=>?_
  rw [ia.len] at hi;by_cases hbg:zI nw f K t i
  ·have hno:¬ ∃ t',t'<t∧zI nw f K t' i:=fun ⟨t',g1,g2⟩=>by
    have:=h.once t' t (by omega) (by omega) i g2 hbg;omega
   rw [ia.no i hi hno,ib.no i hi hno]
  grind
variable {σ:Type} (s0:σ) (EI:Nat→σ→List Int→σ) (inc:Nat→σ→List Int→Int)
def JG (l:List Int):Nat→σ
 |0=>s0
 |t+1=>EI t (JG l t) l
def cF (l:List Int):Nat→Int
 |0=>0
 |t+1=>cF l t+inc t (JG s0 EI l t) l
structure Stp (n T:Nat) (S:Nat→Nat→Prop) (EI:Nat→σ→List Int→σ) (inc:Nat→σ→List Int→Int):Prop where
 loc:∀ t,t<T→∀ x (l l':List Int),l.length=n→l'.length=n→(∀ i,S t i→gi l i=gi l' i)→EI t x l=EI t x l'∧inc t x l=inc t x l'
 tell:∀ t,t<T→∀ x x' (l l':List Int),l.length=n→l'.length=n→(∀ i,i<n→0≤gi l i∧gi l i≤2)→(∀ i,i<n→0≤gi l' i∧gi l' i≤2)→EI t x l=EI t x' l'→∀ i,S t i→gi l i=gi l' i
variable {s0:σ} {EI:Nat→σ→List Int→σ} {inc:Nat→σ→List Int→Int}
theorem yU (hs:Stp n T S EI inc) {l l':List Int} (h1:l.length=n) (h2:l'.length=n):∀ t,t≤T→(∀ t',t'<t→∀ i,S t' i→gi l i=gi l' i)→JG s0 EI l t=JG s0 EI l' t∧cF s0 EI inc l t=cF s0 EI inc l' t
 |0,_,_=>⟨rfl,rfl⟩
 |t+1,ht,h=>by
  obtain ⟨i1,i2⟩:=yU hs h1 h2 t (by omega) fun t' ht'=>h t' (by omega)
  unfold JG cF;obtain ⟨g1,g2⟩:=hs.loc t (by omega) (JG s0 EI l' t) l l' h1 h2 (h t (by omega));grind
theorem Va (h:Yy n T nw f K S play Hu) (hs:Stp n T S EI inc) {t:Nat} (ht:t<T) {l x:List Int} (hl:fO nw f K play Hu n t l) (hx:x∈uz nw f K play t l) :
 JG s0 EI x t=JG s0 EI l t∧cF s0 EI inc x t=cF s0 EI inc l t:=by
 have hxl:=((Q5 h ht hl x).1 hx).1.1;exact yU hs hxl hl.len t (by omega) fun t' ht' i hS=>og h ht hl hx ht' hS
theorem Yh (hb:∀ i,i<n→0≤gi Hu i∧gi Hu i≤2) {t:Nat} {l:List Int} (hl:fO nw f K play Hu n t l) {i:Nat} (hi:i<n):0≤gi l i∧gi l i≤2:=by
 by_cases e:∃ t',t'<t∧zI nw f K t' i
 ·rcases hl.yes i hi e with h|h<;>omega
 ·rw [hl.no i hi e];grind
theorem a0c (h:Yy n T nw f K S play Hu) (hs:Stp n T S EI inc) (hb:∀ i,i<n→0≤gi Hu i∧gi Hu i≤2) (hSn:∀ t,t<T→∀ i,S t i→i<n):∀ {t:Nat},t<T→∀ {l l':List Int},fO nw f K play Hu n t l→fO nw f K play Hu n t l'→JG s0 EI l t=JG s0 EI l' t→∀ i,S t i→gi l i=gi l' i
 |0,ht,l,l',hl,hl',_,i,hS=>by
  have hi:=hSn 0 ht i hS;rw [hl.no i hi fun ⟨t',h1,_⟩=>by omega,hl'.no i hi fun ⟨t',h1,_⟩=>by omega]
 |t+1,ht,l,l',hl,hl',he,i,hS=>by
  have hi:=hSn _ ht i hS;rcases h.cont t ht i hS with h1|h1
  ·exact hs.tell t (by omega) _ _ l l' hl.len hl'.len (fun i hi=>Yh hb hl hi) (fun i hi=>Yh hb hl' hi) he i h1
  ·rw [hl.no i hi fun ⟨t',g1,g2⟩=>h1 t' g1 g2,hl'.no i hi fun ⟨t',g1,g2⟩=>h1 t' g1 g2]
theorem kJ (h:Yy n T nw f K S play Hu) (hs:Stp n T S EI inc) (hb:∀ i,i<n→0≤gi Hu i∧gi Hu i≤2) (hSn:∀ t,t<T→∀ i,S t i→i<n) {t:Nat} (ht:t<T) {l l':List Int} (hl:fO nw f K play Hu n t l) (hl':fO nw f K play Hu n t l') (he:JG s0 EI l t=JG s0 EI l' t) :
 All2' (fun x y=>(∀ i,S t i→gi x i=gi y i)∧cmpL x y=cmpL l l'∧x.length=n∧y.length=n) (uz nw f K play t l) (uz nw f K play t l'):=by
 have hag:=a0c h hs hb hSn ht hl hl' he;have h0:All2' (fun x y=>(∀ i,S t i→gi x i=gi y i)∧cmpL x y=cmpL l l'∧x.length=n∧y.length=n) (FH (nw t) (f t) l (K t)) (FH (nw t) (f t) l' (K t)):=by
  refine dN ⟨hag,rfl,hl.len,hl'.len⟩ (K t) fun j hj hn x y ⟨g1,g2,g3,g4⟩=>⟨fun i hi=>?_,?_,by grind,by grind⟩
  ·rw [GX,GX,g3,g4]
   grind
  ·have hr:=h.rng t ht j hj
   rw [rJ (by omega) (by omega) (g1 _ (h.sub t ht j hj)),g2]
 exact h0.filter fun a b ⟨g1,_,g3,g4⟩=>h.loc t ht a b g3 g4 g1
variable [DecidableEq σ]
def RX (m:List (σ×(List Int×Int))) (d:σ×(List Int×Int)):List (σ×(List Int×Int)) :=
 match BN m d.1 with
 |none=>BZ m d.1 d.2
 |some o=>if zH d.2 o=true then BZ m d.1 d.2 else m
theorem KG {β:Type}:∀ {m:List (σ×β)} {y:σ} {o:β},BN m y=some o→(y,o)∈m
 |[],_,_,h=>by cases h
 |x::m,y,o,h=>by
  unfold BN at h;split at h
  ·grind
  ·exact an _ (KG h)
theorem SA {β:Type}:∀ {m:List (σ×β)} {y:σ},BN m y=none→∀ o,(y,o)∉m
 |[],_,_,_,h=>absurd h bk
 |x::m,y,h,o,hm=>by
  unfold BN at h;split at h
  ·cases h
  ·rename_i e
   rcases be.1 hm with h1|h1
   ·grind
   ·exact SA h o h1
theorem PZ {β:Type}:∀ {m:List (σ×β)} {y:σ} {b:β} {z:σ×β},z∈BZ m y b→z=(y,b)∨z∈m∧z.1≠y∨z∈m
 |[],y,b,z,h=>by
  unfold BZ at h;grind
 |x::m,y,b,z,h=>by
  unfold BZ at h;split at h
  ·grind
  ·rcases be.1 h with h|h
   ·grind
   ·rcases PZ h with h|h|h
    ·grind
    ·grind
    grind
theorem KC {β:Type}:∀ {m:List (σ×β)} {y:σ} {b:β},(y,b)∈BZ m y b
 |[],_,_=>aL.2 rfl
 |x::m,y,b=>by
  unfold BZ;split
  ·simp
  ·exact an _ KC
theorem YE {β:Type}:∀ {m:List (σ×β)} {y:σ} {b:β} {z:σ×β},z∈m→z.1≠y→z∈BZ m y b
 |[],_,_,_,h,_=>absurd h bk
 |x::m,y,b,z,h,hne=>by
  unfold BZ;split
  ·grind
  ·rcases be.1 h with h|h
   ·grind
   ·exact an _ (YE h hne)
theorem gX {β:Type}:∀ {m:List (σ×β)} {y:σ} {b:β} {z:σ},z∈(BZ m y b).map (·.1)→z=y∨z∈m.map (·.1)
 |[],y,b,z,h=>by
  unfold BZ at h;grind
 |x::m,y,b,z,h=>by
  unfold BZ at h;split at h
  ·grind
  ·rcases be.1 h with h|h
   ·grind
   ·exact (gX h).elim .inl fun h=>.inr (an _ h)
theorem NS {β:Type}:∀ {m:List (σ×β)} {y:σ} {b:β},(m.map (·.1)).Nodup→((BZ m y b).map (·.1)).Nodup
 |[],_,_,_=>by unfold BZ;simp
 |x::m,y,b,h=>by
  obtain ⟨h1,h2⟩:=cU.1 h;unfold BZ;split
  ·grind
  ·rename_i e
   refine cU.2 ⟨fun hm=>?_,NS h2⟩;rcases gX hm with h3|h3
   ·grind
   grind
theorem Y3 {β:Type}:∀ {m:List (σ×β)} {y:σ} {a b:β},(m.map (·.1)).Nodup→(y,a)∈m→(y,b)∈m→a=b
 |[],_,_,_,_,h,_=>absurd h bk
 |x::m,y,a,b,hn,h1,h2=>by
  obtain ⟨n1,n2⟩:=cU.1 hn;rcases be.1 h1 with e1|h1
  ·grind
  ·rcases be.1 h2 with e2|h2
   ·grind
   ·exact Y3 n2 h1 h2
structure XV (D m:List (σ×(List Int×Int))):Prop where
 keys:(m.map (·.1)).Nodup
 sub:∀ d∈m,d∈D
 best:∀ d∈D,∃ o,(d.1,o)∈m∧bV o d.2
theorem XV.ins {D m:List (σ×(List Int×Int))} (h:XV D m) (d:σ×(List Int×Int)):XV (D++[d]) (RX m d):=by
 obtain ⟨y,w⟩:=d;unfold RX;have hput:(∀ o,(y,o)∈m→bV w o)→XV (D++[(y,w)]) (BZ m y w):=fun hw=>by
  refine ⟨NS h.keys,fun z hz=>?_,fun z hz=>?_⟩
  ·rcases PZ hz with rfl|hz|hz
   ·simp
   ·exact cx _ (h.sub z hz.1)
   ·exact cx _ (h.sub z hz)
  ·rcases bm.1 hz with hz|hz
   ·obtain ⟨o,h1,h2⟩:=h.best z hz
    by_cases e:z.1=y
    ·refine ⟨w,by rw [e];exact KC,KE (hw o (by grind)) h2⟩
    ·exact ⟨o,YE h1 e,h2⟩
   ·rw [aL] at hz
    subst hz;exact ⟨w,KC,Jc _⟩
 cases hl:BN m y with
 |none=>exact hput fun o ho=>absurd ho (SA hl o)
 |some o =>
  have ho:=KG hl;simp only;cases hb:zH w o with
  |true =>
   refine hput fun o' ho'=>?_
   rw [Y3 h.keys ho' ho];exact wz hb
  |false =>
   refine ⟨h.keys,fun z hz=>cx _ (h.sub z hz),fun z hz=>?_⟩;rcases bm.1 hz with hz|hz
   ·exact h.best z hz
   ·rw [aL] at hz
    subst hz;exact ⟨o,ho,jr hb⟩
theorem XV.fold {D:List (σ×(List Int×Int))}:∀ (L:List (σ×(List Int×Int))) {m:List (σ×(List Int×Int))},XV D m→XV (D++L) (L.foldl RX m)
 |[],m,h=>by grind
 |d::L,m,h=>by
  have:=XV.fold L (h.ins d);grind
theorem XV.nil:XV ([]:List (σ×(List Int×Int))) []:=⟨cA,fun d h=>absurd h bk,fun d h=>absurd h bk⟩
structure lW (nw:Nat→Nat→Bool) (f:Nat→Nat→Nat) (K:Nat→Nat) (play:Nat→List Int→Bool) (Hu:List Int) (s0:σ) (EI:Nat→σ→List Int→σ) (inc:Nat→σ→List Int→Int) (t:Nat) (m:List (σ×(List Int×Int))):Prop where
 keys:(m.map (·.1)).Nodup
 sub:∀ d∈m,d.2.1∈WH nw f K play Hu t∧d.1=JG s0 EI d.2.1 t∧d.2.2=cF s0 EI inc d.2.1 t
 best:∀ h∈WH nw f K play Hu t,∃ o,(JG s0 EI h t,o)∈m∧bV o (h,cF s0 EI inc h t)
def cand (nw:Nat→Nat→Bool) (f:Nat→Nat→Nat) (K:Nat→Nat) (play:Nat→List Int→Bool) (EI:Nat→σ→List Int→σ) (inc:Nat→σ→List Int→Int) (t:Nat) (d:σ×(List Int×Int)):List (σ×(List Int×Int)) :=
 (uz nw f K play t d.2.1).map fun x=>(EI t d.1 x,(x,d.2.2+inc t d.1 x))
theorem lW.step (h:Yy n T nw f K S play Hu) (hs:Stp n T S EI inc) (hb:∀ i,i<n→0≤gi Hu i∧gi Hu i≤2) (hSn:∀ t,t<T→∀ i,S t i→i<n) {t:Nat} (ht:t<T) {m L:List (σ×(List Int×Int))} (hm:lW nw f K play Hu s0 EI inc t m) (hL:∀ d,d∈L↔d∈m) :
 lW nw f K play Hu s0 EI inc (t+1) ((L.flatMap (cand nw f K play EI inc t)).foldl RX []):=by
 have hp:=Uc h t (by omega);have hI:=XV.fold (L.flatMap (cand nw f K play EI inc t)) (XV.nil (σ:=σ));have hc:∀ e∈L.flatMap (cand nw f K play EI inc t),e.2.1∈WH nw f K play Hu (t+1)∧e.1=JG s0 EI e.2.1 (t+1)∧e.2.2=cF s0 EI inc e.2.1 (t+1):=fun e he=>by
  obtain ⟨d,hd,he⟩:=cC.1 he;obtain ⟨x,hx,rfl⟩:=bb.1 he;obtain ⟨g1,g2,g3⟩:=hm.sub d ((hL d).1 hd);have hi:=(hp _).1 g1;obtain ⟨k1,k2⟩:=Va (s0:=s0) h hs ht hi hx;refine ⟨?_,?_,?_⟩
  ·unfold WH;grind
  ·show EI t d.1 x=EI t (JG s0 EI x t) x
   grind
  ·show d.2.2+inc t d.1 x=cF s0 EI inc x t+inc t (JG s0 EI x t) x
   grind
 refine ⟨hI.keys,fun d hd=>hc d (hI.sub d hd),fun x hx=>?_⟩;unfold WH at hx;obtain ⟨y,hy,hx⟩:=cC.1 hx;obtain ⟨o,ho,hle⟩:=hm.best y hy;obtain ⟨g1,g2,g3⟩:=hm.sub _ ho;have hyi:=(hp y).1 hy;have hoi:=(hp o.1).1 g1;obtain ⟨z,hz,z1,z2,z3,z4⟩:=(kJ h hs hb hSn ht hoi hyi g2.symm).right x hx;obtain ⟨k1,k2⟩:=Va (s0:=s0) h hs ht hyi hx;obtain ⟨k3,k4⟩:=Va (s0:=s0) h hs ht hoi hz;have hzc:(EI t (JG s0 EI y t) z,(z,o.2+inc t (JG s0 EI y t) z))∈L.flatMap (cand nw f K play EI inc t):=cC.2 ⟨_,(hL _).2 ho,bb.2 ⟨z,hz,rfl⟩⟩;obtain ⟨o',h1,h2⟩:=hI.best _ hzc;obtain ⟨l1,l2⟩:=hs.loc t ht (JG s0 EI y t) z x z3 z4 z1;simp only [l1] at h1;refine ⟨o',?_,KE h2 ?_⟩
 ·show (EI t (JG s0 EI x t) x,o')∈_
  grind
 ·show bV _ (x,cF s0 EI inc x t+inc t (JG s0 EI x t) x)
  rcases hle with hle|⟨hle,hle'⟩
  ·exact .inl (by grind)
  ·exact .inr ⟨by grind,by grind⟩
theorem lW.start:lW nw f K play Hu s0 EI inc 0 [(s0,(Hu,0))] :=
 ⟨by simp,fun d hd=>by rw [aL] at hd;subst hd;exact ⟨by simp [WH],rfl,rfl⟩,fun h hh=>⟨(Hu,0),by simp [JG],by
  have:h=Hu:=by simpa [WH] using hh
  subst this;exact Jc _⟩⟩
end
end
section
open Go.Vm
def sumF {α:Type} (F:α→Nat):List α→Nat
 |[]=>0
 |a::l=>F a+sumF F l
theorem LU {α:Type} (F:α→Nat):∀ l r:List α,sumF F (l++r)=sumF F l+sumF F r
 |[],r=>by simp [sumF]
 |a::l,r=>by simp only [List.cons_append,sumF,LU F l r];omega
theorem dW {α:Type} (F:α→Nat) {l r:List α} (h:l.Perm r):sumF F l=sumF F r:=by
 induction h with
 |nil=>rfl
 |cons a _ ih=>simp only [sumF,ih]
 |swap a b l=>simp only [sumF];omega
 |trans _ _ h1 h2=>omega
theorem KN {α:Type} {F G:α→Nat}:∀ {l:List α},(∀ a∈l,F a=G a)→sumF F l=sumF G l
 |[],_=>rfl
 |a::l,h=>by
  simp only [sumF];rw [h a (by simp),KN fun b hb=>h b (an _ hb)]
theorem QG {α:Type} {F:α→Nat}:∀ {l:List α},(∀ a∈l,F a=0)→sumF F l=0
 |[],_=>rfl
 |a::l,h=>by
  simp only [sumF];rw [h a (by simp),QG fun b hb=>h b (an _ hb)]
theorem oL {α:Type} (F G:α→Nat):∀ l:List α,sumF (fun a=>F a+G a) l=sumF F l+sumF G l
 |[]=>rfl
 |a::l=>by simp only [sumF,oL F G l];omega
theorem ng {α:Type}:∀ l:List α,sumF (fun _=>1) l=l.length
 |[]=>rfl
 |a::l=>by simp only [sumF,ng l,List.length_cons];omega
theorem Nz {α β:Type} (F:β→Nat) (g:α→List β):∀ l:List α,sumF F (l.flatMap g)=sumF (fun a=>sumF F (g a)) l
 |[]=>rfl
 |a::l=>by rw [List.flatMap_cons,LU,Nz F g l];rfl
theorem Zh {α β:Type} (F:β→Nat) (g:α→β):∀ l:List α,sumF F (l.map g)=sumF (fun a=>F (g a)) l
 |[]=>rfl
 |a::l=>by simp only [List.map_cons,sumF,Zh F g l]
theorem O8 {α:Type} (p:α→Bool):∀ l:List α,l.countP p=sumF (fun a=>if p a=true then 1 else 0) l
 |[]=>rfl
 |a::l=>by
  rw [gk,O8 p l];simp only [sumF];omega
theorem countP_flatMap {α β:Type} (p:β→Bool) (g:α→List β) (l:List α):(l.flatMap g).countP p=sumF (fun a=>(g a).countP p) l:=by
 rw [O8,Nz];exact KN fun a _=>(O8 p _).symm
section
variable {σ β:Type} [DecidableEq σ]
theorem vU {m:List (σ×β)} {y:σ} {o:β} {G:σ×β→Nat} (hk:(m.map (·.1)).Nodup) (h:(y,o)∈m):sumF (fun e=>if y=e.1 then G e else 0) m=G (y,o):=by
 induction m with
 |nil=>cases h
 |cons x m ih =>
  obtain ⟨n1,n2⟩:=cU.1 hk;simp only [sumF];rcases be.1 h with h|h
  ·subst h
   rw [if_pos rfl,QG fun e he=>if_neg fun e1=>n1 (bb.2 ⟨e,he,e1.symm⟩)];rfl
  grind
theorem U2 {α:Type} {m:List (σ×β)} (hk:(m.map (·.1)).Nodup) {g:α→σ} {F:α→Nat} {G:σ×β→Nat}:∀ {P:List α},(∀ h∈P,∃ o,(g h,o)∈m)→(∀ h∈P,∀ e∈m,e.1=g h→F h=G e)→sumF F P=sumF (fun e=>P.countP (fun h=>decide (g h=e.1))*G e) m
 |[],_,_=>by
  refine (QG fun e _=>?_).symm;simp
 |h::P,h1,h2=>by
  have ih:=U2 hk (P:=P) (g:=g) (F:=F) (G:=G) (fun x hx=>h1 x (an _ hx)) fun x hx=>h2 x (an _ hx)
  obtain ⟨o,ho⟩:=h1 h (by simp);simp only [sumF];rw [ih,h2 h (by simp) _ ho rfl,← vU (G:=G) hk ho,← oL];grind
def Ri (m:List (σ×(List Int×Nat))) (d:σ×(List Int×Nat)):List (σ×(List Int×Nat)) :=
 match BN m d.1 with
 |none=>BZ m d.1 (d.2.1,0+d.2.2)
 |some o=>BZ m d.1 (o.1,o.2+d.2.2)
def pq (D:List (σ×(List Int×Nat))) (y:σ):Nat:=sumF (fun d=>if d.1=y then d.2.2 else 0) D
structure XL (D m:List (σ×(List Int×Nat))):Prop where
 keys:(m.map (·.1)).Nodup
 sub:∀ d∈m,(∃ c,(d.1,(d.2.1,c))∈D)∧d.2.2=pq D d.1
 all:∀ d∈D,∃ o,(d.1,o)∈m
theorem iF (D:List (σ×(List Int×Nat))) (d:σ×(List Int×Nat)) (y:σ):pq (D++[d]) y=pq D y+if d.1=y then d.2.2 else 0:=by
 unfold pq;rw [LU];rfl
theorem zW {D:List (σ×(List Int×Nat))} {y:σ} (h:∀ d∈D,d.1≠y):pq D y=0:=QG fun d hd=>if_neg (h d hd)
theorem UZ {m:List (σ×β)} {y:σ} {b c:β} (hk:(m.map (·.1)).Nodup) (h:(y,c)∈BZ m y b):c=b:=Y3 (NS hk) h KC
theorem XL.ins {D m:List (σ×(List Int×Nat))} (h:XL D m) (d:σ×(List Int×Nat)):XL (D++[d]) (Ri m d):=by
 obtain ⟨y,x,c⟩:=d;unfold Ri;have hput:∀ w:List Int×Nat,(∃ c',(y,(w.1,c'))∈D++[(y,(x,c))])→w.2=pq D y+c→XL (D++[(y,(x,c))]) (BZ m y w):=fun w hw1 hw2=>by
  refine ⟨NS h.keys,fun z hz=>?_,fun z hz=>?_⟩
  ·by_cases e:z.1=y
   ·obtain ⟨z1,z2⟩:=z
    subst e;have:=UZ h.keys hz;subst this;exact ⟨hw1,by rw [hw2,iF,if_pos rfl]⟩
   ·have hz':z∈m:=by
     rcases PZ hz with h1|h1|h1
     ·grind
     ·grind
     omega
    obtain ⟨⟨c',h1⟩,h2⟩:=h.sub z hz';exact ⟨⟨c',cx _ h1⟩,by rw [h2,iF,if_neg (fun e'=>e e'.symm),ef]⟩
  ·rcases bm.1 hz with hz|hz
   ·by_cases e:z.1=y
    ·exact ⟨w,by rw [e];exact KC⟩
    ·obtain ⟨o,ho⟩:=h.all z hz
     exact ⟨o,YE ho e⟩
   ·rw [aL] at hz
    subst hz;exact ⟨w,KC⟩
 cases hl:BN m y with
 |none =>
  refine hput _ ⟨c,by simp⟩ ?_;rw [zW fun d hd e=>?_];obtain ⟨o,ho⟩:=h.all d hd;rw [e] at ho;exact SA hl o ho
 |some o =>
  have ho:=KG hl;obtain ⟨⟨c',h1⟩,h2⟩:=h.sub _ ho;grind
theorem XL.fold:∀ (L:List (σ×(List Int×Nat))) {D m:List (σ×(List Int×Nat))},XL D m→XL (D++L) (L.foldl Ri m)
 |[],D,m,h=>by grind
 |d::L,D,m,h=>by
  have:=XL.fold L (h.ins d);grind
theorem XL.nil:XL ([]:List (σ×(List Int×Nat))) []:=⟨cA,fun d h=>absurd h bk,fun d h=>absurd h bk⟩
variable {n T:Nat} {nw:Nat→Nat→Bool} {f:Nat→Nat→Nat} {K:Nat→Nat} {S:Nat→Nat→Prop} {play:Nat→List Int→Bool} {Hu:List Int} {s0:σ} {EI:Nat→σ→List Int→σ} {inc:Nat→σ→List Int→Int}
structure XP (nw:Nat→Nat→Bool) (f:Nat→Nat→Nat) (K:Nat→Nat) (play:Nat→List Int→Bool) (Hu:List Int) (s0:σ) (EI:Nat→σ→List Int→σ) (t:Nat) (m:List (σ×(List Int×Nat))):Prop where
 keys:(m.map (·.1)).Nodup
 sub:∀ d∈m,d.2.1∈WH nw f K play Hu t∧d.1=JG s0 EI d.2.1 t∧d.2.2=(WH nw f K play Hu t).countP fun h=>decide (JG s0 EI h t=d.1)
 all:∀ h∈WH nw f K play Hu t,∃ o,(JG s0 EI h t,o)∈m
def fC (nw:Nat→Nat→Bool) (f:Nat→Nat→Nat) (K:Nat→Nat) (play:Nat→List Int→Bool) (EI:Nat→σ→List Int→σ) (t:Nat) (d:σ×(List Int×Nat)):List (σ×(List Int×Nat)) :=
 (uz nw f K play t d.2.1).map fun x=>(EI t d.1 x,(x,d.2.2))
theorem nM (p:List Int→Bool) (c:Nat):∀ l:List (List Int),sumF (fun x=>if p x=true then c else 0) l=c*l.countP p
 |[]=>rfl
 |a::l=>by
  simp only [sumF,nM p c l,List.countP_cons];grind
theorem XP.step (h:Yy n T nw f K S play Hu) (hs:Stp n T S EI inc) (hb:∀ i,i<n→0≤gi Hu i∧gi Hu i≤2) (hSn:∀ t,t<T→∀ i,S t i→i<n) {t:Nat} (ht:t<T) {m L:List (σ×(List Int×Nat))} (hm:XP nw f K play Hu s0 EI t m) (hL:L.Perm m) :
 XP nw f K play Hu s0 EI (t+1) ((L.flatMap (fC nw f K play EI t)).foldl Ri []):=by
 have hp:=Uc h t (by omega);have hI:=XL.fold (L.flatMap (fC nw f K play EI t)) (XL.nil (σ:=σ));have hsum:∀ y,pq (L.flatMap (fC nw f K play EI t)) y=(WH nw f K play Hu (t+1)).countP fun x=>decide (JG s0 EI x (t+1)=y):=fun y=>by
  unfold pq;rw [Nz,dW _ hL];have e1:∀ d∈m,sumF (fun e:σ×(List Int×Nat)=>if e.1=y then e.2.2 else 0) (fC nw f K play EI t d)=(WH nw f K play Hu t).countP (fun h=>decide (JG s0 EI h t=d.1))*(uz nw f K play t d.2.1).countP (fun x=>decide (EI t d.1 x=y)):=fun d hd=>by
   obtain ⟨_,_,g3⟩:=hm.sub d hd;rw [← g3];unfold fC;rw [Zh];rw [← nM];simp
  rw [KN e1];rw [← U2 (P:=WH nw f K play Hu t) (g:=fun h=>JG s0 EI h t) (F:=fun h=>(uz nw f K play t h).countP fun x=>decide (EI t (JG s0 EI h t) x=y)) (G:=fun d=>(uz nw f K play t d.2.1).countP fun x=>decide (EI t d.1 x=y)) hm.keys hm.all]
  ·show _=List.countP _ (List.flatMap _ _)
   rw [countP_flatMap];refine KN fun a ha=>?_
   refine List.countP_congr fun x hx=>?_
   obtain ⟨k1,_⟩:=Va (s0:=s0) (inc:=inc) h hs ht ((hp a).1 ha) hx;show decide (EI t (JG s0 EI a t) x=y)=true↔decide (EI t (JG s0 EI x t) x=y)=true;rw [k1]
  ·intro a ha e he hea
   obtain ⟨g1,g2,_⟩:=hm.sub e he;have:=(kJ (s0:=s0) (inc:=inc) h hs hb hSn ht ((hp a).1 ha) ((hp _).1 g1) (by grind)).count (g:=fun x=>decide (EI t (JG s0 EI a t) x=y)) (h:=fun x=>decide (EI t e.1 x=y)) fun x z ⟨z1,_,z3,z4⟩=>by
    rw [hea,(hs.loc t ht _ x z z3 z4 z1).1]
   omega
 have hc:∀ e∈L.flatMap (fC nw f K play EI t),e.2.1∈WH nw f K play Hu (t+1)∧e.1=JG s0 EI e.2.1 (t+1):=fun e he=>by
  obtain ⟨d,hd,he⟩:=cC.1 he;obtain ⟨x,hx,rfl⟩:=bb.1 he;obtain ⟨g1,g2,g3⟩:=hm.sub d (hL.mem_iff.1 hd);obtain ⟨k1,_⟩:=Va (s0:=s0) (inc:=inc) h hs ht ((hp _).1 g1) hx;refine ⟨?_,?_⟩
  ·unfold WH;grind
  ·show EI t d.1 x=EI t (JG s0 EI x t) x
   grind
 refine ⟨hI.keys,fun d hd=>?_,fun x hx=>?_⟩
 ·obtain ⟨⟨c,h1⟩,h2⟩:=hI.sub d hd
  grind
 ·obtain ⟨y,hy,hx⟩:=cC.1 hx
  obtain ⟨o,ho⟩:=hm.all y hy;obtain ⟨g1,g2,_⟩:=hm.sub _ ho;obtain ⟨z,hz,z1,_,z3,z4⟩:=(kJ (s0:=s0) (inc:=inc) h hs hb hSn ht ((hp _).1 g1) ((hp y).1 hy) g2.symm).right x hx;obtain ⟨o',h1⟩:=hI.all (EI t (JG s0 EI y t) z,(z,o.2)) (cC.2 ⟨_,hL.mem_iff.2 ho,bb.2 ⟨z,hz,rfl⟩⟩);obtain ⟨k1,_⟩:=Va (s0:=s0) (inc:=inc) h hs ht ((hp y).1 hy) hx;refine ⟨o',?_⟩;show (EI t (JG s0 EI x t) x,o')∈_;rw [k1,← (hs.loc t ht _ z x z3 z4 z1).1];omega
theorem XP.start:XP nw f K play Hu s0 EI 0 [(s0,(Hu,1))] :=
 ⟨by simp,fun d hd=>by rw [aL] at hd;subst hd;exact ⟨by simp [WH],rfl,by simp [WH,JG]⟩,fun h hh=>⟨(Hu,1),by simp [JG]⟩⟩
theorem XP.total {t:Nat} {m:List (σ×(List Int×Nat))} (hm:XP nw f K play Hu s0 EI t m):sumF (fun d=>d.2.2) m=(WH nw f K play Hu t).length:=by
 rw [← ng,U2 (P:=WH nw f K play Hu t) (g:=fun h=>JG s0 EI h t) (F:=fun _=>1) (G:=fun _=>1) hm.keys hm.all fun _ _ _ _ _=>rfl];exact KN fun d hd=>by rw [(hm.sub d hd).2.2,gw]
end
end
section
open Go.Vm
def WM (b:Option (List Int×Int)) (w:List Int×Int):Option (List Int×Int) :=
 match b with
 |none=>some w
 |some o=>if zH w o=true then some w else some o
theorem Wi:∀ (L:List (List Int×Int)) (b:Option (List Int×Int)),(b=none∧L=[]∧L.foldl WM b=none)∨∃ w,L.foldl WM b=some w∧(w∈L∨b=some w)∧(∀ x∈L,bV w x)∧∀ o,b=some o→bV w o
 |[],none=>.inl ⟨rfl,rfl,rfl⟩
 |[],some o=>.inr ⟨o,rfl,.inr rfl,fun x h=>absurd h bk,fun o' h=>by cases h;exact Jc _⟩
 |x::L,b=>by
  rw [List.foldl_cons];have hb:∃ o,WM b x=some o∧(o=x∨b=some o)∧bV o x∧∀ o',b=some o'→bV o o':=by
   cases b with
   |none=>exact ⟨x,rfl,.inl rfl,Jc _,fun o' h=>by cases h⟩
   |some o =>
    unfold WM;simp only;cases h:zH x o with
    |true =>
     exact ⟨x,rfl,.inl rfl,Jc _,fun o' h'=>by cases h';exact wz h⟩
    |false =>
     exact ⟨o,rfl,.inr rfl,jr h,fun o' h'=>by cases h';exact Jc _⟩
  obtain ⟨o,h1,h2,h3,h4⟩:=hb;rw [h1];rcases Wi L (some o) with ⟨h,_⟩|⟨w,g1,g2,g3,g4⟩
  ·cases h
  ·have hw:=g4 o rfl
   refine .inr ⟨w,g1,?_,fun y hy=>?_,fun o' ho'=>KE hw (h4 o' ho')⟩
   ·grind
   ·rcases be.1 hy with rfl|hy
    ·exact KE hw h3
    grind
end
end Go.Sch
namespace Go.Proofs.YtnjkoebfgcbbdaaGreatDoor
open Go Go.Am Go.Vm Go.Pie Go.Sch
attribute [local irreducible] Aa Ai Ag Ad AP Ak Bf BM Bq Ah Vm.Done BD AB Q7
attribute [local irreducible] Ci Ba DV DN Eo AZ CG
theorem b2e (p:F7):Inc (Dx p):=Xe (dX _)
theorem VN (p:F7) {i j:Nat} (h:i<j) (hj:j<(Dx p).length):gi (Dx p) i<gi (Dx p) j:=by
 have:=fS.1 (b2e p) i j (by omega) hj h;unfold gi;grind
theorem a5o (p:F7) {i j:Nat} (hi:i<(Dx p).length) (hj:j<(Dx p).length) (h:gi (Dx p) i=gi (Dx p) j):i=j:=by
 rcases ew i j with h1|h1|h1
 ·have:=VN p h1 hj;omega
 ·omega
 ·have:=VN p h1 hi;omega
theorem yg (p:F7) (t:Int):t∈Dx p↔t∈Tz p p.notes.length:=by
 unfold Dx;rw [PE,ft]
theorem L9 {α:Type} [Inhabited α] {l:List α} {x:α} (h:x∈l):∃ i,i<l.length∧gi l i=x:=by
 obtain ⟨i,hi,e⟩:=cL.1 h;exact ⟨i,hi,by unfold gi;grind⟩
theorem EK {α:Type} [Inhabited α] {l:List α} {i:Nat} (h:i<l.length):gi l i∈l:=by
 unfold gi;grind
theorem a6o {α:Type} [Inhabited α] {l:List α} (h:l.Nodup) {i j:Nat} (hi:i<l.length) (hj:j<l.length) (e:gi l i=gi l j):i=j:=by
 unfold gi at e;rw [ai hi,ai hj] at e;exact (List.getElem_inj h).1 e
theorem YR (p:F7) (t:Int):∀ k,(Lr p t k).Nodup
 |0=>cA
 |k+1=>by
  have ih:=YR p t k;unfold Lr;split
  ·refine eE.2 ⟨ih,by simp,fun a ha b hb e=>?_⟩
   rw [aL] at hb;have:=Yp ha;omega
  omega
theorem jG (p:F7) (t:Int) (x:Int):x∈snd p t↔∃ i:Nat,i<p.notes.length∧x=(i:Int)∧(gi p.notes i).s≤t∧t<(gi p.notes i).e:=by
 have h:=rO p t x p.notes.length;simp only [a5f] at h;exact h
def Ns (q:Qu) (t:Nat):eG:=gi (A8 q.p) t
def a9f (q:Qu) (s:eG) (x:Int):Bool:=decide ((gi q.p.notes x.toNat).s=s.s)
def MJ (q:Qu) (t j:Nat):Bool:=a9f q (Ns q t) (gi (IU q (Jd q t)) j)
def fQ (q:Qu) (t j:Nat):Nat:=(gi (IU q (Jd q t)) j).toNat
def kQ (q:Qu) (t:Nat):Nat:=(IU q (Jd q t)).length
def sQ (q:Qu) (t i:Nat):Prop:=(i:Int)∈Jd q t
def Xo (q:Qu) (t:Nat) (l:List Int):Bool:=H7 q (Jd q t) l
theorem pK (p:F7):(A8 p).length+1=(Dx p).length:=by
 have:=yJ p;show (a3h _ _).length+1=_;rw [qE];omega
theorem b3d (q:Qu) {t:Nat} (ht:t<(A8 q.p).length):(Ns q t).s=gi (Dx q.p) t:=by
 unfold Ns;rw [Yg _ ht]
theorem YZ (q:Qu) {t:Nat} (ht:t<(A8 q.p).length):Jd q t=snd q.p (gi (Dx q.p) t):=by
 unfold Jd;rw [Yg _ ht]
theorem ZB (q:Qu) {t:Nat} (ht:t<(A8 q.p).length) (i:Nat):sQ q t i↔i<q.p.notes.length∧(gi q.p.notes i).s≤gi (Dx q.p) t∧gi (Dx q.p) t<(gi q.p.notes i).e:=by
 unfold sQ;rw [YZ q ht,jG];grind
theorem ru (q:Qu) (N:List Int) (x:Int):x∈IU q N↔x∈N∧GZ q x.toNat=false:=by
 unfold IU TV;simp
theorem wX (q:Qu) {t:Nat} (ht:t<(A8 q.p).length):(IU q (Jd q t)).Nodup:=by
 rw [YZ q ht];exact (YR _ _ _).filter _
theorem Ob (q:Qu) {t:Nat} (ht:t<(A8 q.p).length) {j:Nat} (hj:j<kQ q t):∃ i:Nat,gi (IU q (Jd q t)) j=(i:Int)∧fQ q t j=i∧i<q.p.notes.length∧sQ q t i∧GZ q i=false:=by
 have hm:=EK (l:=IU q (Jd q t)) hj;obtain ⟨h1,h2⟩:=(ru q _ _).1 hm;have h3:gi (IU q (Jd q t)) j∈snd q.p (gi (Dx q.p) t):=by rw [← YZ q ht];omega
 obtain ⟨i,g1,g2,_⟩:=(jG _ _ _).1 h3;refine ⟨i,g2,by unfold fQ;omega,g1,by unfold sQ;grind,by grind⟩
theorem NT (q:Qu) (hq:JV q) {t:Nat} (ht:t<(A8 q.p).length) (i:Nat):zI (MJ q) (fQ q) (kQ q) t i↔i<q.p.notes.length∧GZ q i=false∧(gi q.p.notes i).s=gi (Dx q.p) t:=by
 constructor
 ·rintro ⟨j,h1,h2,rfl⟩
  obtain ⟨i,g1,g2,g3,g4,g5⟩:=Ob q ht h1;rw [g2];refine ⟨g3,g5,?_⟩;unfold MJ a9f at h2;rw [g1,b3d q ht] at h2;grind
 ·rintro ⟨h1,h2,h3⟩
  have hn:=hq.p.note i h1;have hS:sQ q t i:=(ZB q ht i).2 ⟨h1,by omega,by have:=hn.r;omega⟩;have hm:(i:Int)∈IU q (Jd q t):=(ru q _ _).2 ⟨hS,h2⟩;obtain ⟨j,j1,j2⟩:=L9 hm;refine ⟨j,j1,?_,by unfold fQ;omega⟩;unfold MJ a9f;rw [j2,b3d q ht];grind
theorem gI {p:F7} {N:List Int} {is is':Nat→Bool} (h:∀ x∈N,is x.toNat=is' x.toNat) (d:Nat):∀ k,k≤N.length→uh p N is d k=uh p N is' d k
 |0,_=>rfl
 |k+1,hk=>by
  rw [TP,TP,gI h d k (by omega),h _ (EK (by omega))]
theorem a0j {q:Qu} {N:List Int} {is is':Nat→Bool} (h:∀ x∈N,is x.toNat=is' x.toNat):kZ q N is=kZ q N is':=by
 refine Qo fun d _=>?_
 unfold bC;rw [gI h d _ (ab _)]
theorem Vd {p:F7} {N l l':List Int} (h:∀ x∈N,gi l x.toNat=gi l' x.toNat) (hd:Int):∀ k,k≤N.length→U1 p N l hd k=U1 p N l' hd k
 |0,_=>rfl
 |k+1,hk=>by
  unfold U1;rw [Vd h hd k (by omega),h _ (EK (by omega))]
theorem YQ {q:Qu} {N l l':List Int} (h:∀ x∈N,gi l x.toNat=gi l' x.toNat) (hd:Int):kC q N l hd=kC q N l' hd:=by
 unfold kC;rw [a0j (is:=hasB l hd) (is':=hasB l' hd) fun x hx=>by unfold hasB;grind]
theorem qC {q:Qu} {N l l':List Int} (h:∀ x∈N,gi l x.toNat=gi l' x.toNat):H7 q N l=H7 q N l':=by
 unfold H7;rw [YQ h,YQ h]
theorem V6 {N l l':List Int} (h:∀ x∈N,gi l x.toNat=gi l' x.toNat):∀ k,k≤N.length→je N l k=je N l' k
 |0,_=>rfl
 |k+1,hk=>by
  unfold je;rw [V6 h k (by omega),h _ (EK (by omega))]
theorem oO {N l l':List Int} (hr:∀ x∈N,0≤gi l x.toNat∧gi l x.toNat≤2) (hr':∀ x∈N,0≤gi l' x.toNat∧gi l' x.toNat≤2):∀ k,k≤N.length→je N l k=je N l' k→∀ j,j<k→gi l (gi N j).toNat=gi l' (gi N j).toNat
 |0,_,_,j,hj=>by omega
 |k+1,hk,he,j,hj=>by
  have hl:=UK N l k;have hl':=UK N l' k;obtain ⟨e1,e2⟩:=List.append_inj he (by omega);by_cases e:j=k
  ·subst e
   simp only [List.cons.injEq,and_true] at e2;have e3:=congrArg UInt8.toNat e2;rw [UInt8.toNat_ofNat',UInt8.toNat_ofNat'] at e3;have:=hr _ (EK (l:=N) (i:=j) (by omega));have:=hr' _ (EK (l:=N) (i:=j) (by omega));omega
  ·exact oO hr hr' k (by omega) e1 j (by omega)
theorem jR {q:Qu} {t:Nat} (ht:t<(A8 q.p).length) {l l':List Int} (h:∀ i,sQ q t i→gi l i=gi l' i):∀ x∈Jd q t,gi l x.toNat=gi l' x.toNat:=fun x hx=>by
 have hx':=hx;rw [YZ q ht,jG] at hx;obtain ⟨i,_,rfl,_⟩:=hx;exact h i hx'
theorem Yt (q:Qu) {i:Nat} (hi:i<q.p.notes.length):gi (Nu q) i=if GZ q i=true then 2 else 0:=by
 unfold Nu VH;rw [Ej _ hi];grind
theorem a4t (q:Qu):(Nu q).length=q.p.notes.length:=MQ _ _
theorem Xq (q:Qu) (hq:JV q):Yy q.p.notes.length (A8 q.p).length (MJ q) (fQ q) (kQ q) (sQ q) (Xo q) (Nu q):=by
 have hT:=pK q.p;refine ⟨a4t q,fun t ht j j' hj hj' e=>?_,fun t ht j hj=>?_,fun t ht j hj hn=>?_,fun t t' ht ht' i h1 h2=>?_,fun t ht j hj=>?_,fun t t' h1 h2 i hS hh=>?_,fun t ht i hS=>?_,fun t ht l l' _ _ h=>?_⟩
 ·obtain ⟨i,g1,g2,_⟩:=Ob q ht hj
  obtain ⟨i',g3,g4,_⟩:=Ob q ht hj';refine a6o (wX q ht) hj hj' ?_;omega
 ·obtain ⟨i,g1,g2,g3,_⟩:=Ob q ht hj
  omega
 ·obtain ⟨i,g1,g2,g3,_,g5⟩:=Ob q ht hj
  rw [g2,Yt q g3,g5];rfl
 ·have h1:=((NT q hq ht i).1 h1).2.2
  have h2:=((NT q hq ht' i).1 h2).2.2;exact a5o q.p (by omega) (by omega) (h1.symm.trans h2)
 ·obtain ⟨i,g1,g2,g3,g4,_⟩:=Ob q ht hj
  grind
 ·have h3:=((NT q hq h2 i).1 hh).2.2
  have h4:=((ZB q (by omega) i).1 hS).2.1;have:=VN q.p h1 (by omega);omega
 ·obtain ⟨g1,g2,g3⟩:=(ZB q ht i).1 hS
  have hlt:=VN q.p (show t<t+1 by omega) (by omega);by_cases h1:(gi q.p.notes i).s≤gi (Dx q.p) t
  ·exact .inl ((ZB q (by omega) i).2 ⟨g1,h1,by omega⟩)
  ·refine .inr fun t' ht' hh=>?_
   have h3:=((NT q hq (by omega) i).1 hh).2.2;rcases aq t' t with h4|h4
   ·have:=VN q.p h4 (by omega);omega
   grind
 ·exact qC (jR ht h)
theorem UH (q:Qu):∀ i,i<q.p.notes.length→0≤gi (Nu q) i∧gi (Nu q) i≤2:=fun i hi=>by
 rw [Yt q hi];split<;>omega
theorem b2q (q:Qu):∀ t,t<(A8 q.p).length→∀ i,sQ q t i→i<q.p.notes.length:=fun t ht i h=>((ZB q ht i).1 h).1
def EL (q:Qu) (t:Nat):List (List Int):=WH (MJ q) (fQ q) (kQ q) (Xo q) (Nu q) t
def b5m (q:Qu) (t:Nat) (l:List Int):Prop:=fO (MJ q) (fQ q) (kQ q) (Xo q) (Nu q) q.p.notes.length t l
theorem PK (q:Qu) (hq:JV q) {t:Nat} (ht:t≤(A8 q.p).length) (l:List Int):l∈EL q t↔b5m q t l:=Uc (Xq q hq) t ht l
theorem Td (q:Qu) (hq:JV q) {t:Nat} (ht:t≤(A8 q.p).length):(EL q t).Nodup:=gV (Xq q hq) t ht
def jh (q:Qu) (t:Nat) (l:List Int):List (List Int):=uz (MJ q) (fQ q) (kQ q) (Xo q) t l
structure a0n (q:Qu) (t:Nat) (l:List Int):Prop where
 len:l.length=q.p.notes.length
 rng:∀ i,i<l.length→0≤gi l i∧gi l i≤2
 zero:∀ j,j<kQ q t→MJ q t j=true→gi l (fQ q t j)=0
theorem mF (q:Qu) (hq:JV q) {t:Nat} (ht:t<(A8 q.p).length) {l:List Int} (h:b5m q t l):a0n q t l:=by
 have hS:=Xq q hq;have hlen:l.length=q.p.notes.length:=fO.len h;refine ⟨hlen,fun i hi=>Yh (UH q) h (by omega),fun j hj hn=>?_⟩;rw [fO.no h _ (hS.rng t ht j hj) fun ⟨t',h1,h2⟩=>by have:=hS.once t' t (by omega) ht _ h2 ⟨j,hj,hn,rfl⟩;omega];exact hS.zero t ht j hj hn
theorem eY (q:Qu) (hq:JV q) {i:Nat} (hi:i<q.p.notes.length) (hp:GZ q i=false):∃ t,t<(A8 q.p).length∧zI (MJ q) (fQ q) (kQ q) t i:=by
 have hT:=pK q.p;have hn:=hq.p.note i hi;have h1:(gi q.p.notes i).s∈Dx q.p:=(yg _ _).2 ((jU _ _ _).2 (.inr (.inr ⟨i,hi,.inl rfl⟩)));have h2:(gi q.p.notes i).e∈Dx q.p:=(yg _ _).2 ((jU _ _ _).2 (.inr (.inr ⟨i,hi,.inr rfl⟩)));obtain ⟨a,a1,a2⟩:=L9 h1;obtain ⟨b,b1,b2⟩:=L9 h2;have hlt:a<(A8 q.p).length:=by
  rcases aq a (A8 q.p).length with h|h
  ·exact h
  ·have:=hn.r
   rcases ew a b with g|g|g
   ·omega
   ·grind
   ·have:=VN q.p g a1;omega
 exact ⟨a,hlt,(NT q hq hlt i).2 ⟨hi,hp,a2.symm⟩⟩
theorem Nl (q:Qu) (hq:JV q) (l:List Int):l∈EL q (A8 q.p).length↔l.length=q.p.notes.length∧(∀ i,i<q.p.notes.length→if GZ q i=true then gi l i=2 else gi l i=0∨gi l i=1)∧∀ t,t<(A8 q.p).length→H7 q (Jd q t) l=true:=by
 rw [PK q hq (ab _)];constructor
 ·intro h
  refine ⟨fO.len h,fun i hi=>?_,fun t ht=>fO.play h t ht⟩;split
  ·rename_i hp
   rw [fO.no h i hi (fun ⟨t,h1,h2⟩=>by have:=((NT q hq h1 i).1 h2).2.1;grind),Yt q hi,if_pos hp]
  ·rename_i hp
   exact fO.yes h i hi (eY q hq hi (by grind))
 ·rintro ⟨h1,h2,h3⟩
  refine ⟨h1,fun i hi ⟨t,g1,g2⟩=>?_,fun i hi hno=>?_,fun t ht=>h3 t ht⟩
  ·have:=h2 i hi
   rw [((NT q hq g1 i).1 g2).2.1] at this;grind
  ·have:=h2 i hi
   by_cases hp:GZ q i=true
   ·rw [if_pos hp] at this
    rw [this,Yt q hi,if_pos hp]
   ·exact absurd (eY q hq hi (by grind)) hno
structure JY where
 now:List UInt8
 c0:Vh
 c1:Vh
 b0:Bool
 b1:Bool
deriving DecidableEq
def st0:JY:=⟨[],⟨0,0⟩,⟨0,0⟩,false,false⟩
def G8 (q:Qu) (t:Nat) (x:JY) (l:List Int):JY :=
 ⟨OT (Jd q t) l,if (FY q l 0 t).1=true then (FY q l 0 t).2 else x.c0,if (FY q l 1 t).1=true then (FY q l 1 t).2 else x.c1,(FY q l 0 t).1||x.b0,(FY q l 1 t).1||x.b1⟩
def Gl (r:Bool×Vh) (b:Bool) (c:Vh):Int:=if r.1=true then if b=true then mvC c r.2 else 0 else 0
def KZ (q:Qu) (t:Nat) (x:JY) (l:List Int):Int:=Gl (FY q l 0 t) x.b0 x.c0+Gl (FY q l 1 t) x.b1 x.c1
theorem pJ (q:Qu) {t:Nat} (ht:t<(A8 q.p).length) {l l':List Int} (h2:∀ i,i<q.p.notes.length→0≤gi l i∧gi l i≤2) (h2':∀ i,i<q.p.notes.length→0≤gi l' i∧gi l' i≤2) (e2:OT (Jd q t) l=OT (Jd q t) l') {i:Nat} (hS:sQ q t i):gi l i=gi l' i:=by
 have hin:=Qn ht;have hb:∀ x∈Jd q t,x.toNat<q.p.notes.length:=fun x hx=>by
  obtain ⟨j,j1,j2⟩:=L9 hx;have:=hin j j1;omega
 obtain ⟨j,j1,j2⟩:=L9 (l:=Jd q t) hS;have:=oO (fun x hx=>h2 _ (hb x hx)) (fun x hx=>h2' _ (hb x hx)) _ (ab _) e2 j j1;grind
theorem b2c (q:Qu):Go.Sch.Stp q.p.notes.length (A8 q.p).length (sQ q) (G8 q) (KZ q):=by
 refine ⟨fun t ht x l l' _ _ h=>?_,fun t ht x x' l l' h1 h1' h2 h2' he i hS=>?_⟩
 ·have hx:=jR ht h
  have e0:FY q l 0 t=FY q l' 0 t:=Vd hx 0 _ (ab _);have e1:FY q l 1 t=FY q l' 1 t:=Vd hx 1 _ (ab _);have e2:OT (Jd q t) l=OT (Jd q t) l':=V6 hx _ (ab _);unfold G8 KZ;grind
 ·exact pJ q ht h2 h2' (congrArg JY.now he) hS
def b7q (q:Qu) (t:Nat) (_:List UInt8) (l:List Int):List UInt8:=OT (Jd q t) l
theorem b1r (q:Qu):Go.Sch.Stp q.p.notes.length (A8 q.p).length (sQ q) (b7q q) (fun _ _ _=>0):=by
 refine ⟨fun t ht x l l' _ _ h=>⟨V6 (jR ht h) _ (ab _),rfl⟩,fun t ht x x' l l' h1 h1' h2 h2' he i hS=>?_⟩;exact pJ q ht h2 h2' he hS
end Go.Proofs.YtnjkoebfgcbbdaaGreatDoor
namespace Go.Am
open Go.ChangeMaps (setBlock)
variable {P:Program} {G:List Nat}
theorem Zt {ops:Array Oper} {o:Oper} {l:List Oper} {R:Exit→Act→World→Prop} {ac:Act} {w w':World} {v':Value} (hg:o.guard=none) (hno:∀ c,o.op≠.defer c) (hr:(execOp ac.eval o).run P w=.ok (.value v') w')
 (k:wpListIn Fence.wide 0 P ops R l (ac.put o.dst v') w'):wpListIn Fence.wide 0 P ops R (o::l) ac w:=by
 unfold wpListIn;rw [Vm.LD hg,if_pos rfl];unfold Oper.wpIn;rw [Oper.semAt_eq _ _ _ hno,hr];refine ⟨fun _ _=>trivial,?_⟩;exact k
theorem Dj.len {ι:BG} {g:Nat→Nat}:∀ {es es':List MapEntry},Dj ι g es es'→es'.length=es.length
 |[],[],_=>rfl
 |_::_,_::_,⟨_,k⟩=>by simp [Dj.len k]
 |[],_::_,h=>h.elim
 |_::_,[],h=>h.elim
theorem a7o {ι ι':BG} {m m':Mem} {w w':World} (hs:Dv P G ι m w) (h:Ext ι m w ι' m' w') {k:Nat} {o:Obj} (hk:w.heap[k]?=some o) (ho:o.isCells=false) (hm:∀ es c,o≠.map es c):w'.heap[k]?=some o:=by
 rw [h.frame k (al.1 hk).1 ?_];exact hk;intro b ib hb hc;have h1:=hs.blk b ib hb;rw [hc,hk] at h1;obtain ⟨es,c,h2⟩:=MS h1 ho;grind
theorem a7d {ι:BG} {m:Mem} {W W1:World} {l:Nat} {o o':Obj} (hs:Dv P G ι m W) (hd:W1=W∨W1=W.drew) (hk:W.heap[l]?=some o) (ho:o.isCells=false) (hm:∀ es c,o≠.map es c):Dv P G ι m (setBlock W1 l o'):=by
 have hh:W1.heap=W.heap:=by rcases hd with rfl|rfl<;>rfl
 have hg:∀ c,c≠l→(setBlock W1 l o').heap[c]?=W.heap[c]?:=fun c hc=>by
  show (W1.heap.setIfInBounds l o')[c]?=_;grind
 have hz:(setBlock W1 l o').heap.size=W.heap.size:=by
  show (W1.heap.setIfInBounds l o').size=_;grind
 refine ⟨fun b ib hb=>⟨(hs.dom b ib hb).1,by rw [hz];exact (hs.dom b ib hb).2⟩,fun b ib hb=>?_,hs.inj,hs.glob⟩;rw [hg ib.blk ?_];exact hs.blk b ib hb;intro e;have h1:=hs.blk b ib hb;rw [e,hk] at h1;obtain ⟨es,c,h2⟩:=MS h1 ho;grind
theorem a4y {ι ι':BG} {m m':Mem} {w W W1:World} {l:Nat} (h:Ext ι m w ι' m' W) (hd:W1=W∨W1=W.drew) (hl:w.heap.size≤l) (o':Obj):Ext ι m w ι' m' (setBlock W1 l o'):=by
 have hh:W1.heap=W.heap:=by rcases hd with rfl|rfl<;>rfl
 have hz:(setBlock W1 l o').heap.size=W.heap.size:=by
  show (W1.heap.setIfInBounds l o').size=_;grind
 refine ⟨h.size,h.low,h.keep,h.ro,h.ro',h.le,h.back,h.dom,by rw [hz];exact h.heap,fun c hc hf=>?_,?_,?_,?_⟩
 ·show (W1.heap.setIfInBounds l o')[c]?=_
  rw [hh,eT (by omega)];exact h.frame c hc hf
 ·rcases hd with rfl|rfl<;>exact h.tape
 ·rcases hd with rfl|rfl<;>exact h.os
 ·rcases hd with rfl|rfl<;>exact h.output
theorem run_move {ρ:Operand→Value} {dst:Option Tmp} {x:Operand} {ty:TypeId} {pos:String} {af:Array Edge} {gd:Option (Nat×Bool)} {w:World}:(execOp ρ ⟨dst,.move x,ty,pos,af,gd⟩).run P w=.ok (.value (ρ x)) w:=by
 rfl
theorem XB {ρ:Operand→Value} {dst:Option Tmp} {x:Operand} {i:Nat} {vs:Array Value} {v:Value} {ty:TypeId} {pos:String} {af:Array Edge} {gd:Option (Nat×Bool)} {w:World} (hx:ρ x=.tuple vs) (hv:vs[i]?=some v):(execOp ρ ⟨dst,.extract x i,ty,pos,af,gd⟩).run P w=.ok (.value v) w:=by
 simp only [execOp,hx];exact Gw (by simp [Instr.extract,hv])
theorem NW {a:Act} {d d':Tmp} {v:Value} (h:d<a.tmps.size):(a.put (some d) v).eval (.tmp d')=if d=d' then v else a.eval (.tmp d'):=by
 show (a.tmps.setIfInBounds d v).getD d' undef=_;by_cases e:d=d'
 ·simp_all
 ·rw [if_neg e]
  show _=a.tmps.getD d' undef;simp_all
theorem Zp {es:Array MapEntry} {V:List Nat} {e:MapEntry}:e∈(leftOf es V.toArray).toList↔e∈es.toList∧e.born∉V:=by
 unfold leftOf;simp
end Go.Am
namespace Go.Vm
open Go.Am
open Go.ChangeMaps (setBlock)
variable {E:Env} {n bn:Nat} {L:Frame} {H:Heap} {nx:Nat} {Q:BK→Frame→Heap→Nat→Prop}
theorem a9d {l:List MapEntry} {clock:Nat} (h:Stamped l clock) {i:Nat} {e:MapEntry} (he:l[i]?=some e):e.born=i:=h.at he
theorem Dc.at {m:Mem} {F:Nat→Prop}:∀ {xs:List FV} {vs:List Value} {i:Nat} {x:FV} {v:Value},Dc m F xs vs→xs[i]?=some x→vs[i]?=some v→RF m F x v
 |_,_,i,_,_,.nil,h,_=>by grind
 |_,_,0,_,_,.cons h t,h1,h2=>by grind
 |_,_,i+1,_,_,.cons h t,h1,h2=>Dc.at t (by assumption) (by grind)
theorem Dh.at {m:Mem} {F:Nat→Prop} {T:Nat→Option Tg} {σ:Nat→Value} {n:Nat}:∀ {xs:List PV} {vs:List Value} {i:Nat} {x:PV} {v:Value},Dh m F T σ n xs vs→xs[i]?=some x→vs[i]?=some v→RP m F T σ n x v
 |_,_,i,_,_,.nil,h,_=>by grind
 |_,_,0,_,_,.cons h t,h1,h2=>by grind
 |_,_,i+1,_,_,.cons h t,h1,h2=>Dh.at t (by assumption) (by grind)
theorem RL.other {m:Mem} {F:Nat→Prop} {T:Nat→Option Tg} {σ:Nat→Value} {nx:Nat} {L:Frame} {t:Tr Value} (h:RL m F T σ nx L t) {d:Nat} (hd:EY L d=none) (v:Value):RL m F T σ nx L (Pz t d v):=fun i x hi=>by
 rw [CW];by_cases e:d=i
 ·grind
 ·rw [if_neg e];exact h i x hi
theorem Ar.b5a {ι:BG} {g:Nat→Nat} {l:Nat} {v':Value} (h:Ar ι g (.iface 0 (.int .i64 l)) v'):v'=.pointer (some ⟨l,0,none⟩):=by
 generalize hv:Value.iface 0 (.int .i64 (l:Int))=v at h;cases h<;>simp at hv
 grind
theorem Iw:∀ (n:Nat) (V:List Nat),V.Nodup→(∀ i∈V,i<n)→V.length≤n
 |0,V,_,h=>by
  match V,h with
  |[],_=>simp
  |a::V,h=>exact absurd (h a (by simp)) (bB _)
 |n+1,V,hn,h=>by
  by_cases hm:n∈V
  ·have h1:=Iw n (V.erase n) (hn.erase n) fun i hi=>by
    grind
   grind
  ·have:=Iw n V hn fun i hi=>by
    grind
   omega
theorem pR {ι:BG} {g:Nat→Nat} {l es:List MapEntry} (h:Dj ι g l es) {j:Nat} {e:MapEntry} (he:es[j]?=some e):∃ ea,l[j]?=some ea∧jE ι g ea e:=by
 have hj:=(bt.1 he).1;rw [h.len] at hj;exact ⟨l[j],ai hj,Dj.get h (ai hj) he⟩
theorem YT {ι:BG} {g:Nat→Nat}:∀ {l es:List MapEntry},Dj ι g l es→es.map (·.born)=l.map (·.born)
 |[],[],_=>rfl
 |e::l,e'::es,⟨h,k⟩=>by
  rw [bw,bw,YT k,h.2.1]
 |[],_::_,h=>h.elim
 |_::_,[],h=>h.elim
theorem AV.kD {r1 id r2 id2 r3:Nat} {x:Operand} {d0 d dn dk de:Tmp} {T kt et aa1 a2 a3 a4 aa5:TypeId} {p1 p2 p3 p4 p5:String} {f1 f2 f3 f4 f5:Array Edge} {ops3:Array Oper} {tl:List Oper} {rest:Code} {b Dn:Nat} {ks:List FV} {cs:List PV} {α:Type} (Lf:α→Frame) (Hf:α→Heap) (inv:List Nat→α→Prop) (s0:α)
 (ht:E.P.underlying T=some (.map kt et)) (hx:AU E.Γ L x=some (.mref b)) (hb:bn≤Dn) (hbm:hget H b=some (.Js ks cs))
 (h0:inv [] s0) (hc:ZW (Hz L (some d0) (.mref b)) H nx (Lf s0) (Hf s0) Dn)
 (hLd:EY L d=none) (hL:∀ s,EY (Lf s) d0=some (.mref b)∧EY (Lf s) dn=none∧EY (Lf s) dk=none)
 (hH:∀ V s,inv V s→hget (Hf s) b=some (.Js ks cs)) (hl:ks.length=cs.length)
 (hops:ops3.toList=⟨some de,.entry (.tmp d),aa5,p5,f5,none⟩::tl) (hkd:keeps d (.seq (.region r3 ops3 false) rest)=true) (hk0:keeps d0 (.seq (.region r3 ops3 false) rest)=true)
 (hne:d0≠d∧dn≠d∧dn≠d0∧dk≠d∧dk≠d0∧de≠d)
 (hs:∀ V s i kk c,inv V s→V.Nodup→i∉V→ks[i]?=some kk→cs[i]?=some c→Bz E n bn ops3 tl (Hz (Lf s) (some de) (.DX [.p kk,c])) (Hf s) Dn fun L' H' nx' =>
  AV E n bn rest L' H' nx' (Bq id2 (Ah (fun L' H' nx'=>∃ s',inv (V++[i]) s'∧ZW L' H' nx' (Lf s') (Hf s') Dn) (Bq id Q))))
 (he:∀ V s,inv V s→V.Nodup→(∀ i,i<cs.length→i∈V)→(∀ i∈V,i<cs.length)→Q .normal (Lf s) (Hf s) Dn) :
 AV E n bn (.seq (.region r1 #[⟨some d0,.move x,aa1,p1,f1,none⟩,⟨some d,.range T (.tmp d0),a2,p2,f2,none⟩] false)
  (.block id (.loop (.seq (.region r2 #[⟨some dn,.next (.tmp d) false,a3,p3,f3,none⟩,⟨some dk,.extract (.tmp dn) 0,a4,p4,f4,none⟩] false) (.seq (.cond (.tmp dk) .skip (.exit id)) (.block id2 (.seq (.region r3 ops3 false) rest))))))) L H nx Q:=by
 intro hsn hok hfl B hB m F σ t h1 h2 h3 ι ac w hst R hR;simp only [codeOk,Bool.and_eq_true] at hok;simp only [flat,Bool.true_and,Bool.and_true,Bool.and_eq_true] at hfl;obtain ⟨⟨hok1,_⟩,⟨hok2,_⟩,_,⟨b6r,_⟩,hokr⟩:=hok;have c2t:=hfl;obtain ⟨hn1,hn2,hn3,hn4,hn5,hn6⟩:=hne;have ho1:=fun o ho=>Dt (bc.1 hok1 o ho)
 have ho2:=fun o ho=>Dt (bc.1 hok2 o ho)
 have ho3:∀ o∈ops3.toList,Ih E.G n o=true:=fun o ho=>bc.1 b6r o (by simpa using ho)
 rw [hops] at ho3;have hd0:d0<n:=(ho1 ⟨some d0,.move x,aa1,p1,f1,none⟩ (by simp)).2 d0 rfl;have hdd:d<n:=(ho1 ⟨some d,.range T (.tmp d0),a2,p2,f2,none⟩ (by simp)).2 d rfl;have hdn:dn<n:=(ho2 ⟨some dn,.next (.tmp d) false,a3,p3,f3,none⟩ (by simp)).2 dn rfl;have hdk:dk<n:=(ho2 ⟨some dk,.extract (.tmp dn) 0,a4,p4,f4,none⟩ (by simp)).2 dk rfl;have hde:de<n:=(Dt (ho3 _ (bE ..))).2 de rfl;have c3e:FZ E.G x=true:=(ho1 ⟨some d0,.move x,aa1,p1,f1,none⟩ (by simp)).1 x (by simp [Op.operands]);simp only [keeps,Bool.and_eq_true,hops,List.all_cons] at hkd hk0;obtain ⟨c6r,r,l,clock,q1,q2,q3,q4,q5,q6,q7⟩:=h1.hp b _ hbm;have hxv:ev t x=.map (some r):=(IV h1 h2 hx hbm).trans q1;have hrx:=BA h1 h2 hx;rw [hxv] at hrx;have hvx:=JB hst.1 hst.2 c3e;rw [hxv] at hvx;obtain ⟨ib,hib,hxe⟩:∃ ib,ι r=some ib∧ac.eval x=.map (some ib.blk):=by
  have hg0:m.gen r=0:=by unfold Mem.gen;rw [q4];rfl
  generalize ac.eval x=u at hvx;cases hvx with
  |map _ c ib h hc=>exact ⟨ib,h,by rw [hc hg0]⟩
 have hlen:l.length=cs.length:=by have:=q5.length;rw [bd] at this;omega
 have c4v:clock=cs.length:=by rw [q7.2,hlen]
 obtain ⟨es,hes,c8n⟩:∃ es,w.heap[ib.blk]?=some (.map es clock)∧Dj ι m.gen l es.toList:=by
  have hbr:=hst.1.blk r ib hib;rw [q4] at hbr;cases ho:w.heap[ib.blk]? with
  |none=>rw [ho] at hbr;exact hbr.elim
  |some o =>
   rw [ho] at hbr;cases o<;>simp only [UD] at hbr<;>first|exact hbr.elim|skip
   rename_i es' c';exact ⟨es',by rw [hbr.1],hbr.2⟩
 have hsz:∀ {a:Act} {s:St} {ι:BG} {w:World},DL E.P E.G [] n s ι a w→a.tmps.size=n:=fun h=>h.2.size
 refine wpIn_seq (wpIn_region_list ?_);refine Zt rfl (fun c hc=>by cases hc) run_move ?_;have c6b:(ac.put (some d0) (ac.eval x)).tmps.size=n:=by
  show (ac.tmps.setIfInBounds d0 _).size=n;rw [ep];exact hsz hst
 have hrun0:(execOp (ac.put (some d0) (ac.eval x)).eval ⟨some d,.range T (.tmp d0),a2,p2,f2,none⟩).run E.P w=.ok (.value (.pointer (some ⟨w.heap.size,0,none⟩))) (w.alloc (.mapIter (some ib.blk) clock #[] clock)):=by
  simp only [execOp];refine Gw ?_;rw [NW (by rw [hsz hst];exact hd0),if_pos rfl,hxe];exact run_range_map w T kt et ib.blk es clock ht hes
 refine Zt rfl (fun c hc=>by cases hc) hrun0 ?_;have hbel:Go.RowKit.Below w.heap.size w (w.alloc (.mapIter (some ib.blk) clock #[] clock)):=⟨rfl,rfl,rfl,by show w.heap.size≤(w.heap.push _).size;simp,fun c hc=>(by first|exact heap_alloc_old w _ hc|exact heap_alloc_old w _ _ hc)⟩
 have hlt:w.heap.size<(w.alloc (.mapIter (some ib.blk) clock #[] clock)).heap.size:=by show w.heap.size<(w.heap.push _).size;simp
 have hst1:DL E.P E.G [] n ⟨Pz (Pz t d0 (.map (some r))) d (.iface 0 (.int .i64 w.heap.size)),m⟩ ι ((ac.put (some d0) (ac.eval x)).put (some d) (.pointer (some ⟨w.heap.size,0,none⟩))) (w.alloc (.mapIter (some ib.blk) clock #[] clock)):=by
  refine ⟨Qw hst.1 hbel,?_⟩;have e1:Rf [] ι m.gen n (Hq t (some d0) (.map (some r))) (ac.put (some d0) (ac.eval x)):=hst.2.put (fun d' e=>by cases e;exact hd0) hvx;exact e1.put (dst:=some d) (fun d' e=>by cases e;exact hdd) (.it _)
 have c4q:RL m F (htag H) σ nx (Hz L (some d0) (.mref b)) (Pz (Pz t d0 (.map (some r))) d (.iface 0 (.int .i64 w.heap.size))):=by
  refine RL.other (RL.set h2 hrx) ?_ _;rw [DR,if_neg hn1];exact hLd
 show (Code.block _ _).wpIn _ _ _ _ _ _;refine (wpIn_block (wpIn_loop_rounds (cs.length+1) ?_));have key:∀ N V s,inv V s→V.Nodup→(∀ i∈V,i<cs.length)→cs.length<N+V.length→∀ m1 F1 σ1 t1 ι1 a1 w1,Ctx E.Γ m1 F1 σ1 (Hf s) Dn→RL m1 F1 (htag (Hf s)) σ1 Dn (Lf s) t1→B.to m1 F1 σ1 (Hf s) Dn →
  Ext ι m w ι1 m1 w1→DL E.P E.G [] n ⟨t1,m1⟩ ι1 a1 w1→Cb t1 d=.iface 0 (.int .i64 w.heap.size)→Cb t1 d0=.map (some r)→w1.heap[w.heap.size]?=some (.mapIter (some ib.blk) cs.length V.toArray cs.length) →
  (∀ y,y≠d0→y≠d→y≠dn→y≠dk→y≠de→Uh y tl=true→keeps y rest=true→Cb t1 y=Cb t y) →
  Code.roundsIn Fence.wide 0 E.P (.seq (.region r2 #[⟨some dn,.next (.tmp d) false,a3,p3,f3,none⟩,⟨some dk,.extract (.tmp dn) 0,a4,p4,f4,none⟩] false) (.seq (.cond (.tmp dk) .skip (.exit id)) (.block id2 (.seq (.region r3 ops3 false) rest)))) (Exit.inBlock id R) N a1 w1:=by
  intro N
  induction N with
  |zero =>
   intro V s _ hnd hV hlt;have:=Iw _ V hnd hV;omega
  |succ N ih =>
   intro V s hi hnd hV hN m1 F1 σ1 t1 ι1 a1 w1 c1 c2 c3 hE hS hit hmp hob hkp;rw [roundsIn_succ];refine wpIn_seq (wpIn_region_list ?_);obtain ⟨c3y,c0q,c0o⟩:=hL s;obtain ⟨_,rr,l1,clock1,g1,g2,g3,g4,g5,g6,g7⟩:=c1.hp b _ (hH V s hi);have hrr:rr=r:=by
    have hh:=c2 d0 _ c3y;rw [hmp] at hh;have ht':htag (Hf s) b=some .map:=by unfold htag;rw [hH V s hi];rfl
    cases hh with
    |mref _ _ h4 =>
     have:=h4 ht';rw [g1] at this;cases this;rfl
   subst hrr;obtain ⟨ib1,c4n,he1⟩:∃ ib1,ι1 rr=some ib1∧ib1.blk=ib.blk:=by
    obtain ⟨_,ib1,k1,k2⟩:=hE.le rr ib hib;have e1:m1.gen rr=0:=by unfold Mem.gen;rw [g4];rfl
    have e2:m.gen rr=0:=by unfold Mem.gen;rw [q4];rfl
    exact ⟨ib1,k1,by rw [k2 (by rw [e1,e2])]⟩
   have hlen1:l1.length=cs.length:=by have:=g5.length;rw [bd] at this;omega
   have b2v:clock1=cs.length:=by rw [g7.2,hlen1]
   obtain ⟨es1,hes1,dI⟩:∃ es1,w1.heap[ib.blk]?=some (.map es1 clock1)∧Dj ι1 m1.gen l1 es1.toList:=by
    have hbr:=hS.1.blk rr ib1 c4n;rw [g4,he1] at hbr;cases ho:w1.heap[ib.blk]? with
    |none=>rw [ho] at hbr;exact hbr.elim
    |some o =>
     rw [ho] at hbr;cases o<;>simp only [UD] at hbr<;>first|exact hbr.elim|skip
     rename_i es' c';exact ⟨es',by rw [hbr.1],hbr.2⟩
   have hborn:∀ {j:Nat} {e:MapEntry},es1.toList[j]?=some e→e.born=j:=fun {j e} he=>by
    obtain ⟨ea,k1,k2⟩:=pR dI he;rw [k2.2.1];exact a9d g7 k1
   have hold:∀ x∈es1.toList,x.born<cs.length:=fun x hx=>by
    obtain ⟨j,hj,e⟩:=cL.1 hx;have:=hborn (j:=j) (e:=x) (by rw [ai hj,e]);rw [dI.len] at hj;omega
   have hiv:a1.eval (.tmp d)=.pointer (some ⟨w.heap.size,0,none⟩):=by
    have hh:=hS.2.val d;have e:Cb (⟨t1,m1⟩:St).t d=_:=hit;rw [e] at hh;exact Ar.b5a hh
   rcases run_next_at w1 a3 w.heap.size ib.blk cs.length cs.length V.toArray es1 clock1 (P:=E.P) hob hes1 hold (ab _) with ⟨hz,hrun⟩|⟨e,hel,w2,hdr,hrun⟩
   ·
    refine Zt (v':=.tuple #[.bool false]) (w':=w1) rfl (fun c hc=>by cases hc) (by simp only [execOp];rw [hiv];exact Gw hrun) ?_;refine Zt (v':=.bool false) (w':=w1) rfl (fun c hc=>by cases hc) (XB (vs:=#[.bool false]) (by rw [NW (by rw [hsz hS];exact hdn),if_pos rfl]) rfl) ?_;have hsz2:(a1.put (some dn) (.tuple #[.bool false])).tmps.size=n:=by
     show (a1.tmps.setIfInBounds dn _).size=n;rw [ep];exact hsz hS
    show (Code.seq _ _).wpIn _ _ _ _ _ _;refine wpIn_seq (wpIn_cond_false (by rw [NW (by rw [hsz2];exact hdk),if_pos rfl]) (wpIn_exit ?_));show (if id=id then _ else _);rw [if_pos rfl];show R .normal _ _;have hall:∀ i,i<cs.length→i∈V:=fun i hil=>fT fun hni=>by
     have hil':i<es1.toList.length:=by rw [dI.len,hlen1];exact hil
     have hm:es1.toList[i]∈(leftOf es1 V.toArray).toList:=Zp.2 ⟨cP hil',by rw [hborn (ai hil')];exact hni⟩;have:=List.length_pos_of_mem hm;rw [Array.length_toList] at this;omega
    have e1:Rf [] ι1 m1.gen n (Hq t1 (some dn) (.tuple #[.bool false])) (a1.put (some dn) (.tuple #[.bool false])):=hS.2.put (fun d' e=>by cases e;exact hdn) (.tuple [.bool false] [.bool false] rfl fun i hi=>by
     have:i=0:=by simpa using hi
     subst this;exact .bool _)
    have e2:=e1.put (dst:=some dk) (v:=.bool false) (v':=.bool false) (fun d' e=>by cases e;exact hdk) (.bool _);refine hR .normal _ _ _ _ _ (he V s hi hnd hall hV) ⟨m1,F1,σ1,_,ι1,c1,((c2.other c0q (.tuple #[.bool false])).other c0o (.bool false)),c3,hE,⟨hS.1,e2⟩,fun y hy=>?_⟩;simp only [keeps,Bool.and_eq_true,hops,List.all_cons] at hy;obtain ⟨y1,y2,_,⟨⟨y3,y4⟩,y5⟩⟩:=hy;simp only [List.all_nil,Bool.and_true,Bool.and_eq_true,bne_iff_ne,ne_eq,Option.some.injEq] at y1 y2 y3;show Cb (Pz (Pz t1 dn _) dk _) y=_;rw [CW,if_neg y2.2.1,CW,if_neg y2.1];exact hkp y (fun e=>y1.1 e.symm) (fun e=>y1.2.1 e.symm) (fun e=>y2.1 e.symm) (fun e=>y2.2.1 e.symm) (fun e=>y3 e.symm) y4 y5
   ·
    have hem:=Zp.1 hel;obtain ⟨i,hil,hei⟩:=cL.1 hem.1;have hei':es1.toList[i]?=some e:=by rw [ai hil,hei]
    have hbi:=hborn hei';obtain ⟨ea,hea,hka,hba,hpl,hva⟩:=pR dI hei';have hic:i<cs.length:=by rw [dI.len,hlen1] at hil;exact hil
    have hni:i∉V:=by rw [← hbi];exact hem.2
    have hw3:(V.toArray.push e.born)=(V++[i]).toArray:=by rw [hbi];simp
    rw [hw3] at hrun;rw [b2v] at hrun;have hS3:=a7d (o':=.mapIter (some ib.blk) cs.length (V++[i]).toArray cs.length) hS.1 hdr hob rfl (fun es c hc=>by cases hc);have hE3:=a4y hE hdr (ab _) (.mapIter (some ib.blk) cs.length (V++[i]).toArray cs.length);have hh2:w2.heap=w1.heap:=by rcases hdr with rfl|rfl<;>rfl
    have hl0:w.heap.size<w1.heap.size:=(al.1 hob).1;have b9g:(setBlock w2 w.heap.size (.mapIter (some ib.blk) cs.length (V++[i]).toArray cs.length)).heap[w.heap.size]?=some (.mapIter (some ib.blk) cs.length (V++[i]).toArray cs.length):=by
     show (w2.heap.setIfInBounds _ _)[_]?=_;rw [hh2,Array.getElem?_setIfInBounds_self_of_lt hl0]
    have c1x:ib.blk≠w.heap.size:=fun e=>by have:=(hst.1.dom rr ib hib).2;omega
    have hes3:(setBlock w2 w.heap.size (.mapIter (some ib.blk) cs.length (V++[i]).toArray cs.length)).heap[ib.blk]?=some (.map es1 clock1):=by
     show (w2.heap.setIfInBounds _ _)[_]?=_;rw [hh2,eT (fun e=>c1x e.symm)];exact hes1
    generalize setBlock w2 w.heap.size (.mapIter (some ib.blk) cs.length (V++[i]).toArray cs.length)=w3 at *;refine Zt (v':=.tuple #[.bool true,e.key,e.val]) (w':=w3) rfl (fun c hc=>by cases hc) (by simp only [execOp];rw [hiv];exact Gw hrun) ?_;refine Zt (v':=.bool true) (w':=w3) rfl (fun c hc=>by cases hc) (XB (vs:=#[.bool true,e.key,e.val]) (by rw [NW (by rw [hsz hS];exact hdn),if_pos rfl]) rfl) ?_;have hsz2:(a1.put (some dn) (.tuple #[.bool true,e.key,e.val])).tmps.size=n:=by
     show (a1.tmps.setIfInBounds dn _).size=n;rw [ep];exact hsz hS
    show (Code.seq _ _).wpIn _ _ _ _ _ _;refine wpIn_seq (wpIn_cond_true (by rw [NW (by rw [hsz2];exact hdk),if_pos rfl]) (wpIn_skip ?_));show (Code.block _ _).wpIn _ _ _ _ _ _;refine wpIn_block (wpIn_seq (wpIn_region_list ?_));rw [hops];have hkey:Ar ι1 m1.gen ea.key e.key:=by rw [hka];exact Ar.plain hpl
    have e1:Rf [] ι1 m1.gen n (Hq t1 (some dn) (.tuple ⟨[.bool true,ea.key,ea.val]⟩)) (a1.put (some dn) (.tuple #[.bool true,e.key,e.val])):=hS.2.put (fun d' e=>by cases e;exact hdn) (.tuple _ [.bool true,e.key,e.val] rfl fun i hi=>by
     have:i=0∨i=1∨i=2:=by simp at hi;omega
     rcases this with rfl|rfl|rfl
     ·exact .bool _
     ·exact hkey
     ·exact hva)
    have e2:=e1.put (dst:=some dk) (v:=.bool true) (v':=.bool true) (fun d' e=>by cases e;exact hdk) (.bool _);have hsz3:((a1.put (some dn) (.tuple #[.bool true,e.key,e.val])).put (some dk) (.bool true)).tmps.size=n:=e2.size;have c2g:((a1.put (some dn) (.tuple #[.bool true,e.key,e.val])).put (some dk) (.bool true)).eval (.tmp d)=.pointer (some ⟨w.heap.size,0,none⟩):=by
     rw [NW (by rw [hsz2];exact hdk),if_neg hn4,NW (by rw [hsz hS];exact hdn),if_neg hn2];exact hiv
    refine Zt (v':=.tuple #[e.key,e.val]) (w':=w3) rfl (fun c hc=>by cases hc) (by
     simp only [execOp];rw [c2g];refine Gw (run_entry_at w3 w.heap.size ib.blk cs.length V.toArray es1 clock1 e ?_ hes3 hem.1 ?_)
     ·rw [hw3,b2v];exact b9g
     ·rw [YT dI,g7.1];exact gg) ?_
    have e3:=e2.put (dst:=some de) (v:=.tuple ⟨[ea.key,ea.val]⟩) (v':=.tuple #[e.key,e.val]) (fun d' e=>by cases e;exact hde) (.tuple _ [e.key,e.val] rfl fun i hi=>by
     have:i=0∨i=1:=by simp at hi;omega
     rcases this with rfl|rfl
     ·exact hkey
     ·exact hva)
    have hik:i<ks.length:=by omega
    have hkk:ks[i]?=some ks[i]:=ai hik;have hcc:cs[i]?=some cs[i]:=ai hic;have hrk:RF m1 F1 ks[i] ea.key:=Dc.at g5 hkk (by rw [av,hea];rfl);have hrc:RP m1 F1 (htag (Hf s)) σ1 Dn cs[i] ea.val:=Dh.at g6 hcc (by rw [av,hea];rfl);have c4l:RL m1 F1 (htag (Hf s)) σ1 Dn (Hz (Lf s) (some de) (.DX [.p ks[i],cs[i]])) (Hq (Hq (Hq t1 (some dn) (.tuple ⟨[.bool true,ea.key,ea.val]⟩)) (some dk) (.bool true)) (some de) (.tuple ⟨[ea.key,ea.val]⟩)) :=
     RL.set ((c2.other c0q _).other c0o _) (.DX (.cons (.p hrk) (.cons hrc .nil)))
    refine hs V s i _ _ hi hnd hni hkk hcc hsn (fun o ho=>ho3 o (an _ ho)) B hB m1 F1 σ1 _ c1 c4l c3 ι1 _ w3 ⟨hS3,e3⟩ _ fun L' H' nx' a' w' q hw=>?_
    obtain ⟨m4,F4,σ4,t4,ι4,d1,d2,d3,hE4,hS4,hk4⟩:=hw.ex;refine q hsn hokr c2t B hB m4 F4 σ4 t4 d1 d2 d3 ι4 a' w' hS4 _ fun e5 L5 H5 nx5 a8d w5 q5 hw5=>?_
    obtain ⟨m6,F6,σ6,t6,ι6,x1,x2,x3,hE6,hS6,hk6⟩:=hw5.ex;have b7g:=Ext.trans hS3 hE4 hE6;have hE0:=Ext.trans hst.1 hE3 b7g;have c4k:=a7o hS3 b7g b9g rfl (fun es c hc=>by cases hc);have ht6:∀ y,y≠dn→y≠dk→y≠de→Uh y tl=true→keeps y rest=true→Cb t6 y=Cb t1 y:=fun y y1 y2 y3 y4 y5=>by
     rw [hk6 y y5,hk4 y y4];simp only [Hq];rw [CW,if_neg (fun e=>y3 e.symm),CW,if_neg (fun e=>y2 e.symm),CW,if_neg (fun e=>y1 e.symm)]
    have hd6:Cb t6 d=.iface 0 (.int .i64 w.heap.size):=by rw [ht6 d (fun e=>hn2 e.symm) (fun e=>hn4 e.symm) (fun e=>hn6 e.symm) hkd.1.2 hkd.2];exact hit
    have hm6:Cb t6 d0=.map (some rr):=by
     have:de≠d0:=fun e=>by
      have:=hk0.1.1;simp [e] at this
     rw [ht6 d0 (fun e=>hn3 e.symm) (fun e=>hn5 e.symm) (fun e=>this e.symm) hk0.1.2 hk0.2];exact hmp
    have c0s:∀ y,y≠d0→y≠d→y≠dn→y≠dk→y≠de→Uh y tl=true→keeps y rest=true→Cb t6 y=Cb t y:=fun y y1 y2 y3 y4 y5 y6 y7=>(ht6 y y3 y4 y5 y6 y7).trans (hkp y y1 y2 y3 y4 y5 y6 y7)
    have hout:∀ y,keeps y (.seq (.region r1 #[⟨some d0,.move x,aa1,p1,f1,none⟩,⟨some d,.range T (.tmp d0),a2,p2,f2,none⟩] false)
     (.block id (.loop (.seq (.region r2 #[⟨some dn,.next (.tmp d) false,a3,p3,f3,none⟩,⟨some dk,.extract (.tmp dn) 0,a4,p4,f4,none⟩] false) (.seq (.cond (.tmp dk) .skip (.exit id)) (.block id2 (.seq (.region r3 ops3 false) rest)))))))=true→Cb t6 y=Cb t y:=fun y hy=>by
     simp only [keeps,Bool.and_eq_true,hops,List.all_cons] at hy;obtain ⟨y1,y2,_,⟨⟨y3,y4⟩,y5⟩⟩:=hy;simp only [List.all_nil,Bool.and_true,Bool.and_eq_true,bne_iff_ne,ne_eq,Option.some.injEq] at y1 y2 y3;exact c0s y (fun e=>y1.1 e.symm) (fun e=>y1.2.1 e.symm) (fun e=>y2.1 e.symm) (fun e=>y2.2.1 e.symm) (fun e=>y3 e.symm) y4 y5
    have fin:∀ e',Ah (fun L' H' nx'=>∃ s',inv (V++[i]) s'∧ZW L' H' nx' (Lf s') (Hf s') Dn) (Bq id Q) e' L5 H5 nx5→Exit.then (Code.roundsIn Fence.wide 0 E.P (.seq (.region r2 #[⟨some dn,.next (.tmp d) false,a3,p3,f3,none⟩,⟨some dk,.extract (.tmp dn) 0,a4,p4,f4,none⟩] false) (.seq (.cond (.tmp dk) .skip (.exit id)) (.block id2 (.seq (.region r3 ops3 false) rest)))) (Exit.inBlock id R) N) (Exit.inBlock id R) e'.toExit a8d w5:=fun e' qq=>by
     cases e' with
     |normal =>
      obtain ⟨s',i1,i2⟩:=qq;have hnd':(V++[i]).Nodup:=eE.2 ⟨hnd,by simp,fun a ha b hb=>by
       rw [aL] at hb;subst hb;exact fun e=>hni (e▸ha)⟩
      refine ih (V++[i]) s' i1 hnd' (fun j hj=>?_) (by rw [aE];show _<N+(V.length+1);omega) m6 F6 σ6 t6 ι6 a8d w5 (i2.ctx x1) (i2.rl x2) (i2.step (by omega) x3) hE0 hS6 hd6 hm6 c4k c0s;rcases bm.1 hj with h|h
      ·exact hV j h
      ·rw [aL] at h;omega
     |ret=>exact hR .ret L5 H5 nx5 a8d w5 qq ⟨m6,F6,σ6,t6,ι6,x1,x2,x3,hE0,hS6,fun y hy=>hout y hy⟩
     |exit j =>
      show (if j=id then _ else _);simp only [Ah,Bq] at qq;split
      ·rename_i e;rw [if_pos e] at qq
       exact hR .normal L5 H5 nx5 a8d w5 qq ⟨m6,F6,σ6,t6,ι6,x1,x2,x3,hE0,hS6,fun y hy=>hout y hy⟩
      ·rename_i e;rw [if_neg e] at qq
       exact hR (.exit j) L5 H5 nx5 a8d w5 qq ⟨m6,F6,σ6,t6,ι6,x1,x2,x3,hE0,hS6,fun y hy=>hout y hy⟩
    cases e5 with
    |normal=>exact fin .normal q5
    |ret=>exact fin .ret q5
    |exit j =>
     show (if j=id2 then _ else _);simp only [Bq] at q5;split
     ·rename_i e;rw [if_pos e] at q5;exact fin .normal q5
     ·rename_i e;rw [if_neg e] at q5;exact fin (.exit j) q5
 refine key (cs.length+1) [] s0 h0 cA (fun i hi=>by cases hi) (by simp) m F σ _ ι _ _ (hc.ctx h1) (hc.rl c4q) (hc.step (by omega) h3) (Vy (Ext.refl _ _ _) hbel) hst1 ?_ ?_ ?_ fun y y1 y2 _ _ _ _ _=>?_
 ·rw [CW,if_pos rfl]
 ·rw [CW,if_neg (fun e=>hn1 e.symm),CW,if_pos rfl]
 ·rw [heap_alloc_new,c4v]
 ·rw [CW,if_neg (fun e=>y2 e.symm),CW,if_neg (fun e=>y1 e.symm)]
end Go.Vm
namespace Go.Vm
section
open Go.Am
variable {E:Env} {n bn:Nat} {L:Frame} {H:Heap} {nx:Nat}
def Ic (E:Env) (g:FuncId) (xs:List FV) (r:PV):Prop:=F9 E g (xs.map .p) [] 0 fun r' H' nx'=>r'=r∧H'=[]∧nx'=0
theorem Ic.enter {f:FuncId} {fn:Func} {c:Code} {xs:List FV} {r:PV} (hf:E.P.funcs[f]?=some fn) (hb:fn.body=some c) (hok:II E.G fn c=true) (hfl:flat c=true) (hn:xs.length≤fn.ntmps)
 (h:AV E fn.ntmps 0 c (Ce 0 (xs.map .p)) [] 0 (Done E.P fn.results.toList 0 fun r' H' nx'=>r'=r∧H'=[]∧nx'=0)):Ic E f xs r:=F9.enter hf hb hok hfl (by grind) h
theorem Bz.zo {ops:Array Oper} {l:List Oper} {R:Frame→Heap→Nat→Prop} {dst:Option Tmp} {ty:TypeId} {pos:String} {af:Array Edge} {fo:Operand} {args:Array Operand} {aT:Array TypeId} {g:FuncId} {xs:List FV} {Qc:PV→Heap→Nat→Prop}
 (hent:Enters E.P g) (hf:AU E.Γ L fo=some (.clo g [] [])) (ha:evF E.Γ L args.toList=some xs) (hc:F9 E g (xs.map .p) [] 0 Qc)
 (hq:∀ r H' nx',Qc r H' nx'→Bz E n bn ops l (Hz L dst (r.rn (rho [] nx))) (news 0 (rho [] nx) H' H) (nx+nx') R):Bz E n bn ops (⟨dst,.call { callee:=.value fo,args:=args,argTypes:=aT },ty,pos,af,none⟩::l) L H nx R:=by
 refine Bz.Zj (ns:=[]) (Hc:=[]) (Bo:=xs.map .p) (ac:=xs.map .p) hent hf (X3 ha) ?_ (CS.Bd _ _) trivial trivial cA (by simp) hc fun r H' nx' q=>?_
 ·rw [CS.lK,gp,cT];exact .refl _
 ·rw [QB];grind
theorem Bz.fn {ops:Array Oper} {l:List Oper} {R:Frame→Heap→Nat→Prop} {dst:Option Tmp} {ty:TypeId} {pos:String} {af:Array Edge} {fo:Operand} {args:Array Operand} {aT:Array TypeId} {g:FuncId} {xs:List FV} {r:PV}
 (hf:AU E.Γ L fo=some (.clo g [] [])) (ha:evF E.Γ L args.toList=some xs) (hc:Ic E g xs r) (hent:Enters E.P g) (hr:∀ ρ,r.rn ρ=r) (q:Bz E n bn ops l (Hz L dst r) H nx R):Bz E n bn ops (⟨dst,.call { callee:=.value fo,args:=args,argTypes:=aT },ty,pos,af,none⟩::l) L H nx R :=
 Bz.zo hent hf ha hc fun r' H' nx' ⟨h1,h2,h3⟩=>by subst h1;subst h2;subst h3;rw [hr];exact q
theorem AV.Jj {b:Code} {Q:BK→Frame→Heap→Nat→Prop} (N:Nat) (L0:Frame) (H0:Heap) (Lf:Nat→Frame→Frame) (Hf:Nat→Heap→Heap) (Dn:Nat) (hb:bn≤Dn) (hn:Dn≤nx) (h1:F8 Dn (Lf 0 L0) L) (h2:BH Dn (Hf 0 H0) H)
 (hs:∀ k,k<N→AV E n bn b (Lf k L0) (Hf k H0) Dn (Ah (fun L' H' nx'=>Dn≤nx'∧F8 Dn (Lf (k+1) L0) L'∧BH Dn (Hf (k+1) H0) H') Q))
 (he:AV E n bn b (Lf N L0) (Hf N H0) Dn (Ah (fun _ _ _=>False) Q)):AV E n bn (.loop b) L H nx Q :=
 AV.DK (fun k=>Lf k L0) (fun k=>Hf k H0) Dn (fun k=>k≤N) (fun k=>N-k) 0 hb (ao _) ⟨hn,h1,h2⟩ fun k hk=>by
  rcases aq k N with h|h
  ·refine (hs k h).mono fun e L' H' nx' q=>?_
   cases e with
   |normal=>exact ⟨k+1,h,by omega,⟨q.1,q.2.1,q.2.2⟩⟩
   |ret=>exact q
   |exit i=>exact q
  grind
end
section
open Go.Am Go.ChangeShapes Go.WideShapes Go.ChangeAt Go.WideMaps Go.WideElems
variable {P:Program} {H:Type} {enc:TypeId×Value→H} {W:World} {held:Bool}
theorem c0t {r:Go.Reach} {b0 F:Nat} {laid:List (String×DataW Unit)} {O:Cc} {f:FuncId} {ts:List TypeId} {args:Array Value} {ds:List (DataW H)} {ps:List MemPlace}
 (hL:laidMet P laid W) (hA:DataW.TrodAll enc P W 0 (fun _=>true) held ts args.toList ds ps) (hv:∀ (j:Nat) t v,ts[j]?=some t→args.toList[j]?=some v→Value.okWide P W r b0 t v)
 (pF:P.follows .mixedOrders=true) (hty:ts.all (Vg P F)=true)
 (hO:Gf P (AO P F laid) O)
 (hp:∀ j tC xs,a6q P (j+F) ts tC→G6 (fun (tf:TypeId×List FV) x=>Xp P tf.1 tf.2=some x) (ts.zip tC) xs→Ic (EJ P F laid O) f xs (.p (.bool true))) :
 Calls P f args W fun e W'=>e=.returned (.bool true)∧Go.RowKit.Below W.heap.size W W':=by
 obtain ⟨N,hN⟩:=a7u ts _ ds ps hA;obtain ⟨j,hj⟩:∃ j,max N F=j+F:=⟨max N F-F,by omega⟩
 obtain ⟨Bo,m1,tC,xs,q1,q2,q3,q4,q5,q6⟩:=VP ts _ ds (fun t ht=>y8 (by omega) (az.1 hty t ht)) (hN (max N F) (by omega)) (Bj P F laid);rw [hj] at q2;have XO:Ctx (EJ P F laid O).Γ m1 (fun c=>c<m1.size) (fun _=>undef) [] 0:=by
  refine ⟨fun _ h=>h,fun b x hb=>(by cases hb),fun b b' x x' c hb=>(by cases hb),fun g vs e hg=>?_⟩;simp only [EJ,gam] at hg;split at hg
  ·rename_i hlt
   simp only [Option.map_eq_some_iff,Prod.mk.injEq] at hg;obtain ⟨⟨e',l⟩,h1,rfl,rfl⟩:=hg;have hlt':g<(Bj P F laid).size:=by rw [Un];exact hlt
   exact ⟨by omega,by rw [q6 g hlt',Ip hlt,h1],TL h1⟩
  ·cases hg
 obtain ⟨ι,hs,hro⟩:=fF (F:=F) hL;obtain ⟨ι1,o1,o2,o3,o4⟩:=Vw ts _ ds ps hA hv ι _ m1 Bo hs hro q1;refine (hp j tC xs q2 q3 ⟨hO,pF⟩ m1 _ _ Bo XO (Dh.l9 q4) ι1 W args o1 o4).mono fun e W' ⟨v',he,r0,H',nx',m',F',σ',v,ι2,hq,_,hrv,_,hx,hs2,OW⟩=>?_
 obtain ⟨rfl,_,_⟩:=hq;have hv1:v=.bool true:=by cases hrv with|p h=>cases h;rfl
 subst hv1;have:=OW.BQ (v:=.bool true) rfl;subst this;exact ⟨he,⟨hx.os,hx.tape,hx.output,hx.heap,fun c hcl=>hx.frame c hcl fun b ib hb _=>.inl (o3 b (o1.dom b ib hb).1)⟩⟩
end
end Go.Vm
