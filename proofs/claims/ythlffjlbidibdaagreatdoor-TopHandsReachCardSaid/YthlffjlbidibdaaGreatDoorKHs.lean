/-
  Texts of a proof, merged (HanBp, HanPa, HanPb, Wm7, HanPc, HanPp, HanTp, HanTq, HanTr, HanTv, HanPo). Conditions: in each statement.
-/
import Derived.Deep.QuietTactic
import Derived.BigQuiet
import Derived.Stop.RegionWithIn
import Derived.BigRegionIn
import Derived.Test.YthlffjlbidibdaaGreatDoorKHr
set_option linter.unusedSimpArgs false
set_option autoImplicit true
set_option relaxedAutoImplicit true
set_option linter.unusedVariables false
set_option linter.unusedSectionVars false
set_option maxRecDepth 100000
set_option maxHeartbeats 8000000
abbrev cY:=@List.Pairwise.sublist
abbrev eW:=@List.exists_mem_of_ne_nil
abbrev gF:=@List.take_sublist
namespace Go.Proofs.YthlffjlbidibdaaGreatDoor
open Go Go.Am Go.Vm Go.Pie Go.Sch
structure Hs where
 c:Int
 lo:Int
 hi:Int
 d:Int
def hsB(r:Hs)(n:LM):Hs:=if r.c=0 then⟨r.c,n.k,n.k,n.d⟩ else r
def hsS(r:Hs)(n:LM):Hs:=⟨(hsB r n).c+1,min (hsB r n).lo n.k,max (hsB r n).hi n.k,(hsB r n).d⟩
def hsK(p:Ez)(N l:List Int)(h:Int):Nat→Hs
 |0=>⟨0,0,0,-1⟩
 |k+1=>if gi l (gi N k).toNat=h then hsS (hsK p N l h k) (gi p.notes (gi N k).toNat) else hsK p N l h k
def d5z(p:Ez)(N l:List Int)(h:Int)(k:Nat):Bool:=decide (h<2)&&(decide (gi l (gi N k).toNat=h)&&decide ((gi p.notes (gi N k).toNat).d≠(hsB (hsK p N l h k) (gi p.notes (gi N k).toNat)).d))
def d4u(q:Qu)(N l:List Int)(h:Int):Bool:=decide (Ey (d5z q.p N l h) N.length=-1)&&(decide ((hsK q.p N l h N.length).c≤if h=2 then q.y.fn else q.y.hn)&&decide ((hsK q.p N l h N.length).hi-(hsK q.p N l h N.length).lo≤if h=2 then q.y.fs else q.y.hs))
def d2x(q:Qu)(N l:List Int):Bool:=decide (Ey (fun h=>!d4u q N l (h:Int)) 3=-1)
theorem zT{P:Nat→Bool}:Ey P n=-1↔∀i,i<n→P i=false:=by
 constructor
 ·intro h i a
  cases hp:P i with
  |false=>rfl
  |true =>
   have c:=Wy (P:=P) hp n (ab _) (by omega) a;have b:Xy P n n=-1:=h;omega
 ·exact fun h=>eH h n (ab _)
section
variable {p:Ez}{N l:List Int}{h:Int}
theorem b3c(is:Nat→Bool)(k:Nat):JY p N is (k+1)=if is (gi N k).toNat=true then JY p N is k++[(gi p.notes (gi N k).toNat).k] else JY p N is k:=rfl
end
def Apart(p:Ez)(N:List Int):Prop:=∀i j,i<N.length→j<N.length→i≠j→(gi p.notes (gi N i).toNat).d=(gi p.notes (gi N j).toNat).d→(gi p.notes (gi N i).toNat).k≠(gi p.notes (gi N j).toNat).k
theorem PZ{p:Ez}{N:List Int}{is:Nat→Bool}{d:Nat}{x:Int}:∀k,x∈V3 p N is d k↔∃i,i<k∧is (gi N i).toNat=true∧(gi p.notes (gi N i).toNat).d=(d:Int)∧(gi p.notes (gi N i).toNat).k=x
 |0=>⟨fun h=>(by cases h),fun⟨i,hi,_⟩=>absurd hi (bc _)⟩
 |k+1=>by
  have a:=PZ (p:=p) (N:=N) (is:=is) (d:=d) (x:=x) k;rw[FT];grind
theorem XD(f:Apart p N){is:Nat→Bool}{d:Nat}:∀k,k≤N.length→(V3 p N is d k).Nodup
 |0,_=>cy
 |k+1,hk=>by
  have g:=XD f (is:=is) (d:=d) k (by omega);rw[FT];split
  ·rename_i c
   refine dd.2 ⟨g,by simp,fun a m b j e=>?_⟩;rw[aM] at j;obtain⟨i,s,_,r,o⟩:=(PZ k).1 m;exact f i k (by omega) (by omega) (by omega) (by omega) (by omega)
  omega
theorem qX{d:Nat}:∀k,(∀i,i<k→is (gi N i).toNat=true→(gi p.notes (gi N i).toNat).d=(d:Int))→V3 p N is d k=JY p N is k
 |0,_=>rfl
 |k+1,h=>by
  rw[FT,b3c,qX k fun i a=>h i (by omega)];grind
theorem KI(a:IQ q)(c:VB q N)(b:d<q.o.Ae.length):x∈CQ (gi (F7 q N is) d)↔x∈V3 q.p N is d N.length:=by
 unfold F7;rw[Dz _ b];exact JD (NT a c _ (ab _))
theorem b6h(a:IQ q)(e:VB q N)(c:Apart q.p N)(b:d<q.o.Ae.length):(CQ (gi (F7 q N is) d)).length=(V3 q.p N is d N.length).length:=by
 unfold F7;rw[Dz _ b];exact uy (NT a e _ (ab _)) (XD c _ (ab _))
theorem a5d(b:En y (CQ (gi K a))):∀n,(∀e,e<n→e≠a→CQ (gi K e)=[])→(hcK y K n).1=true∧(n≤a→(hcK y K n).2=0)
 |0,_=>⟨rfl,fun _=>rfl⟩
 |n+1,h=>by
  obtain⟨d,c⟩:=a5d b n fun e f=>h e (by omega)
  unfold hcK;grind
theorem uj(k:IQ q)(m:VB q N)(S:Apart q.p N):SE q N l h=true↔(∀i j,i<N.length→j<N.length→gi l (gi N i).toNat=h→gi l (gi N j).toNat=h→(gi q.p.notes (gi N i).toNat).d=(gi q.p.notes (gi N j).toNat).d)∧((JY q.p N (hasB l h) N.length).length:Int)≤q.y.hn∧∀x∈JY q.p N (hasB l h) N.length,∀y∈JY q.p N (hasB l h) N.length,x-y≤q.y.hs:=by
 have w:=k.y;obtain⟨M,y2,K,Z⟩:=w;have u:∀i,i<N.length→∃d:Nat,d<q.o.Ae.length∧(gi q.p.notes (gi N i).toNat).d=(d:Int):=fun i b=>by
  have hn:=m i b;have c:=(k.p.note (gi N i).toNat (by omega)).d;exact⟨(gi q.p.notes (gi N i).toNat).d.toNat,by omega,by omega⟩
 have A:∀{d:Nat},d<q.o.Ae.length→CQ (gi (F7 q N (hasB l h)) d)=[]→∀i,i<N.length→gi l (gi N i).toNat=h→(gi q.p.notes (gi N i).toNat).d≠(d:Int):=fun c C i b s1 e=>by
  have:=(KI k m c).2 (rC (is:=hasB l h) b (decide_eq_true s1) e);grind
 have r:∀{d:Nat},d<q.o.Ae.length→(∀i,i<N.length→gi l (gi N i).toNat=h→(gi q.p.notes (gi N i).toNat).d=(d:Int))→(En q.y (CQ (gi (F7 q N (hasB l h)) d))↔((JY q.p N (hasB l h) N.length).length:Int)≤q.y.hn∧∀x∈JY q.p N (hasB l h) N.length,∀y∈JY q.p N (hasB l h) N.length,x-y≤q.y.hs):=fun c a=>by
  have F:=qX (is:=hasB l h) N.length fun i b s1=>a i b (of_decide_eq_true s1)
  have Y:=b6h k m S (is:=hasB l h) c;unfold En;rw[Ri (GV _) K.1,Y,F];refine and_congr Iff.rfl ⟨fun g x f y w=>?_,fun g x f y w=>?_⟩
  ·exact g x ((KI k m c).2 (by rw[F];exact f)) y ((KI k m c).2 (by rw[F];exact w))
  ·exact g x (by rw[← F];exact(KI k m c).1 f) y (by rw[← F];exact(KI k m c).1 w)
 unfold SE;rw[Po];constructor
 ·intro R
  rcases sJ _ _ _ R with⟨J,_⟩|⟨d,J,V,U,_⟩
  ·have z:∀i,i<N.length→gi l (gi N i).toNat≠h:=fun i b s1=>by
    obtain⟨d,c,e⟩:=u i b;exact A c (J d c) i b s1 e
   have T:JY q.p N (hasB l h) N.length=[]:=by
    refine cv.2 fun x f=>?_
    obtain⟨i,b,g,_⟩:=(TB _).1 f;exact z i b (of_decide_eq_true g)
   rw[T];exact⟨fun i j b _ s1=>absurd s1 (z i b),M.1,fun x f=>absurd f bm⟩
  ·have a:∀i,i<N.length→gi l (gi N i).toNat=h→(gi q.p.notes (gi N i).toNat).d=(d:Int):=fun i b s1=>by
    obtain⟨e,C,g⟩:=u i b;by_cases B:e=d
    ·rw[← B];exact g
    ·exact absurd g (A C (U e C B) i b s1)
   exact⟨fun i j b s s1 s2=>by rw[a i b s1,a j s s2],(r J a).1 V⟩
 ·rintro⟨X,W⟩
  by_cases f:∃i,i<N.length∧gi l (gi N i).toNat=h
  ·obtain⟨i,b,s1⟩:=f
   obtain⟨d,c,e⟩:=u i b;have a:∀j,j<N.length→gi l (gi N j).toNat=h→(gi q.p.notes (gi N j).toNat).d=(d:Int):=fun j s s2=>by rw[X j i s b s2 s1,e]
   refine(a5d ((r c a).2 W) _ fun e' I P=>?_).1;refine cv.2 fun x f=>?_
   obtain⟨j,s,b1,b2,_⟩:=(PZ _).1 ((KI k m I).1 f);have:=a j s (of_decide_eq_true b1);omega
  ·have hn:∀e,e<q.o.Ae.length→CQ (gi (F7 q N (hasB l h)) e)=[]:=fun e C=>by
    refine cv.2 fun x G=>?_
    obtain⟨j,s,b1,_⟩:=(PZ _).1 ((KI k m C).1 G);exact f ⟨j,s,of_decide_eq_true b1⟩
   have:∀n,n≤q.o.Ae.length→hcK q.y (F7 q N (hasB l h)) n=(true,0):=fun n=>by
    induction n with
    |zero=>exact fun _=>rfl
    |succ n O =>
     intro Q;unfold hcK;rw[if_pos (hn n (by omega)),O (by omega)]
   rw[this _ (ab _)]
def sumF(f:Nat→Nat):Nat→Nat
 |0=>0
 |k+1=>sumF f k+f k
theorem MC:∀n,(∀d,d<n→f d=0)→sumF f n=0
 |0,_=>rfl
 |n+1,h=>by
  show sumF f n+f n=0;rw[MC n fun d a=>h d (by omega),h n (by omega)]
theorem WW(b:g a=f a+1)(h:∀d,d≠a→g d=f d):∀n,sumF g n=sumF f n+if a<n then 1 else 0
 |0=>by rfl
 |n+1=>by
  have c:=WW b h n;show sumF g n+g n=sumF f n+f n+_;grind
theorem Tf{q:Qu}(A:IQ q)(m:t<(Bc q.p).length):Apart q.p (Dy q t):=fun i j u o r x w=>by
 have y:=G7 (q:=q) m;have O:=y i u;have M:=y j o;have z:(Dy q t).Nodup:=by rw[Px q m];exact Vk _ _ _
 have B:gi (Dy q t) i≠gi (Dy q t) j:=fun e=>r (zH z u o e)
 have s1:=(Vq q m (gi (Dy q t) i).toNat).1 (by show((gi (Dy q t) i).toNat:Int)∈_;rw[cE O.1];exact Dj u);have s2:=(Vq q m (gi (Dy q t) j).toNat).1 (by show((gi (Dy q t) j).toNat:Int)∈_;rw[cE M.1];exact Dj o);have f:∀a b:Nat,a<b→b<q.p.notes.length→(gi q.p.notes a).d=(gi q.p.notes b).d→(gi q.p.notes a).k=(gi q.p.notes b).k→(gi q.p.notes a).s<(gi q.p.notes b).e→(gi q.p.notes b).s<(gi q.p.notes a).e→False:=fun a b F C K J I G=>by
  have:=(A.p.note b C).c a F;unfold jX at this;rw[decide_eq_true K,decide_eq_true J,decide_eq_true I,decide_eq_true G] at this;cases this
 rcases aq (gi (Dy q t) i).toNat (gi (Dy q t) j).toNat with g|g
 ·exact f _ _ g s2.1 x w (by omega) (by omega)
 ·exact f _ _ (by omega) s1.1 x.symm w.symm (by omega) (by omega)
def btN(n b i:Nat):Nat:=b / 2^(n-1-i)%2
def btK(q:Qu)(n b:Nat):Nat→List Int
 |0=>[]
 |k+1=>btK q n b k++[if FK q k=true then 2 else(btN n b k:Int)]
def fnK(q:Qu)(n b:Nat):Nat→Bool
 |0=>true
 |k+1=>if FK q k=true then fnK q n b k&&decide ((btN n b k:Int)=0) else fnK q n b k
def d4t(q:Qu)(l:List Int):Int:=Ey (fun i=>!d2x q (Dy q i) l) (Bc q.p).length
def d0a(q:Qu):Nat→List (List Int)
 |0=>[]
 |b+1=>if fnK q q.p.notes.length b q.p.notes.length=true∧d4t q (btK q q.p.notes.length b q.p.notes.length)<0 then d0a q b++[btK q q.p.notes.length b q.p.notes.length] else d0a q b
def d2c(f:Nat→Int):Nat→Nat
 |0=>0
 |k+1=>if f (k+1)<f (d2c f k) then k+1 else d2c f k
open Go.RowKit
theorem b6d(b off n cap:Nat)(zs:List Int)(hn:zs.length=n)(h0:0<n)(hz:∀i,i<n→0≤gi zs i∧gi zs i≤127)(hb:n≤1000)(w:World)(hc:∀j,j<n→w.cell? ⟨b,off+j,none⟩=some (.int .i64 (gi zs j))) :
 Calls Tryz.prog 75 #[.slice (some ⟨b,off,none⟩) n cap] w fun e w'=>e=.returned (.int .i64 (wid zs))∧∃k,w'=w.drewN k:=by
 have c0:=hc 0 h0;have c1:=hc (n-1) (by omega);rw[ee] at c0;have z0:=hz 0 h0;have z1:=hz (n-1) (by omega);have hw:wid zs=gi zs (n-1)-gi zs 0:=by unfold wid;rw[if_neg (by omega),hn]
 rw[hw];generalize gi zs (n-1)=x at *;generalize gi zs 0=y at *;have e1:IntKind.i64.wrap ((n:Int)-1)=(n:Int)-1:=by rw[MW (by omega) (by omega)]
 have e2:IntKind.i64.wrap (x-y)=x-y:=MW (by omega) (by omega);have c1':w.cell? ⟨b,off+((n:Int)-1).toNat,none⟩=some (.int .i64 x):=by rw[show((n:Int)-1).toNat=n-1 by omega];exact c1
 have i1:0≤(n:Int)-1∧(n:Int)-1<n:=by omega
 have i2:(0:Int)<n:=by omega
 have hn0:¬ ((n:Int)=0):=by omega
 go_enter Tryz.func75,Tryz.ntmps75
 go_wp2
 go_quiet (fail)
 go_wp2
 go_ret
 exact⟨rfl,_,rfl⟩
theorem a3w(a:Option Addr)(cap:Nat)(w:World):Calls Tryz.prog 75 #[.slice a 0 cap] w fun e w'=>e=.returned (.int .i64 0)∧∃k,w'=w.drewN k:=by
 go_wp2
 go_ret
 exact⟨rfl,0,rfl⟩
theorem a9x(b off n cap:Nat)(zs:List Int)(c:zs.length=n)(a:∀i,i<n→0≤gi zs i∧gi zs i≤127)(f:n≤1000)(w:World)(d:∀j,j<n→w.cell? ⟨b,off+j,none⟩=some (.int .i64 (gi zs j))) :
 Calls Tryz.prog 75 #[.slice (some ⟨b,off,none⟩) n cap] w fun e w'=>e=.returned (.int .i64 (wid zs))∧∃k,w'=w.drewN k:=by
 rcases bq n with h0|h0
 ·subst h0
  have:wid zs=0:=by unfold wid;omega
  rw[this];exact a3w _ cap w
 ·exact b6d b off n cap zs c h0 a f w d
theorem a0m{w:World}(h:w.cell? a=some v):(w.alloc o).cell? a=some v:=by
 unfold World.cell? at h ⊢;rcases aq a.block w.heap.size with hb|hb
 ·rw[Below.heap_alloc _ _ _ hb];exact h
 grind
theorem b9f(y:Nu)(b off n cap:Nat)(zs:List Int)(hn:zs.length=n)(hz:∀i,i<n→0≤gi zs i∧gi zs i≤127)(hb:n≤1000)(w:World)(hc:∀j,j<n→w.cell? ⟨b,off+j,none⟩=some (.int .i64 (gi zs j))) :
 Calls Tryz.prog 40 #[.agg #[.int .i64 y.hn,.int .i64 y.hs,.int .i64 y.fn,.int .i64 y.fs],.slice (some ⟨b,off,none⟩) n cap] w fun e w'=>e=.returned (.bool (decide (En y zs)))∧Below w.heap.size w w':=by
 have e0:decide (En y zs)=(decide ((n:Int)≤y.hn)&&decide (wid zs≤y.hs)):=by rw[eE];simp[En,hn]
 rw[e0]
 go_enter Tryz.func40,Tryz.ntmps40
 go_wp2
 obtain⟨W0,hW0⟩:∃W0,w.alloc (.cells #[.int .i64 y.hn,.int .i64 y.hs,.int .i64 y.fn,.int .i64 y.fs] 47)=W0:=⟨_,rfl⟩
 have hB0:Below w.heap.size w W0:=by rw[← hW0];exact(Below.refl _ w).alloc (ab _) _
 have g0:W0.heap[w.heap.size]?=some (.cells #[.int .i64 y.hn,.int .i64 y.hs,.int .i64 y.fn,.int .i64 y.fs] 47 (0,0)):=by rw[← hW0];exact World.alloc_heap_new w _
 have hc0:∀j,j<n→W0.cell? ⟨b,off+j,none⟩=some (.int .i64 (gi zs j)):=fun j hj=>by rw[← hW0];exact a0m (hc j hj)
 have q0:W0.cell? ⟨w.heap.size,0,none⟩=some (.int .i64 y.hn):=by simp[World.cell?,g0]
 have q1:W0.cell? ⟨w.heap.size,1,none⟩=some (.int .i64 y.hs):=by simp[World.cell?,g0]
 rw[hW0];clear hW0;by_cases h1:(n:Int)≤y.hn
 ·have hd:=decide_eq_true h1
  go_quiet ((go_at_call 75;refine Calls.quiet_of (a9x b off n cap zs hn hz hb _ ?_);intro j hj;rw[World.cell?_drewN];exact hc0 j hj))
  go_wp2
  go_ret
  exact⟨by simp[hd],hB0.os,hB0.tape,hB0.output,hB0.size,hB0.block⟩
 ·have hd:=decide_eq_false h1
  go_quiet (fail)
  go_wp2
  go_ret
  exact⟨by simp[hd],hB0.os,hB0.tape,hB0.output,hB0.size,hB0.block⟩
def XU(y:Nu)(l:List Int):Nat→List Nat
 |0=>[]
 |k+1=>if En y (l.take k)∧En y (l.drop k) then XU y l k++[k] else XU y l k
def EX(y:Nu)(l:List Int):List (List Value):=(XU y l (l.length+1)).map fun(k:Nat)=>[Value.int .i64 (k:Int)]
def Jw(y:Nu)(l:List Int):Value:=.agg #[.int .i64 y.hn,.int .i64 y.hs,.int .i64 y.fn,.int .i64 y.fs,.agg (l.map Go.encZ).toArray]
def U3:List Value→Option (List Int)
 |[]=>some []
 | .int .i64 n::l=>if 0≤n∧n≤127 then(U3 l).map (n::·) else none
 |_::_=>none
theorem iT:∀{l:List Value} {zs:List Int},U3 l=some zs→l=zs.map Go.encZ∧∀x∈zs,0≤x∧x≤127
 |[],_,h=>by cases h;simp
 |v::l,zs,h=>by
  unfold U3 at h;split at h
  ·grind
  ·rename_i n d b
   cases b;split at h
   ·rename_i e
    rw[ae] at h;obtain⟨a,c,rfl⟩:=h;obtain⟨g,f⟩:=iT c;grind
   grind
  grind
theorem Y4:∀{zs:List Int},(∀x∈zs,0≤x∧x≤127)→U3 (zs.map Go.encZ)=some zs
 |[],_=>rfl
 |n::zs,h=>by
  show U3 (.int .i64 n::zs.map Go.encZ)=_;unfold U3;rw[if_pos (h n (by simp)),Y4 fun a b=>h a (by grind)];rfl
def OY:SqF:=fun lb m=>match lb with
 |[.pointer (some ⟨b1,0,none⟩),.pointer (some ⟨b2,0,none⟩)]=>match m.get b1,m.get b2 with
  | .cells [.slice a n g] _ 0 false,.cells [.int .i64 hn,.int .i64 hs,.int .i64 fn,.int .i64 fs] _ 0 false=>match BH m 1 n (.slice a n g) with
   |some l=>match U3 l with
    |some zs=>if 0<n∧n≤128 then some (Jw ⟨hn,hs,fn,fs⟩ zs,EX ⟨hn,hs,fn,fs⟩ zs) else none
    |none=>none
   |none=>none
  |_,_=>none
 |_=>none
theorem dW(h:OY lb m=some kr):∃b1 b2 a n g y l zs e1 e2,lb=[.pointer (some ⟨b1,0,none⟩),.pointer (some ⟨b2,0,none⟩)]∧m.get b1=.cells [.slice a n g] e1 0 false ∧
 m.get b2=.cells [.int .i64 y.hn,.int .i64 y.hs,.int .i64 y.fn,.int .i64 y.fs] e2 0 false∧BH m 1 n (.slice a n g)=some l∧l=zs.map Go.encZ∧(∀x∈zs,0≤x∧x≤127)∧0<n∧n≤128∧kr=(Jw y zs,EX y zs):=by
 unfold OY at h;split at h
 ·rename_i b1 b2
  split at h
  ·rename_i a n g e1 hn hs fn fs e2 j i
   split at h
   ·rename_i l f
    split at h
    ·rename_i zs e
     split at h
     ·rename_i b
      cases h;obtain⟨d,c⟩:=iT e;exact⟨b1,b2,a,n,g,⟨hn,hs,fn,fs⟩,l,zs,e1,e2,rfl,j,i,f,d,c,b.1,b.2,rfl⟩
     ·cases h
    ·cases h
   ·cases h
  ·cases h
 grind
theorem encZ_inj:∀{a b:List Int},a.map Go.encZ=b.map Go.encZ→a=b
 |[],[],_=>rfl
 |[],_::_,h=>by cases h
 |_::_,[],h=>by cases h
 |x::a,y::b,h=>by
  simp only[List.map_cons,List.cons.injEq] at h;have c:Value.int .i64 x=Value.int .i64 y:=h.1;cases c;rw[encZ_inj h.2]
theorem a4m(h:Jw y l=Jw e l'):y=e∧l=l':=by
 obtain⟨a,b,c,d⟩:=y;obtain⟨s,r,o,m⟩:=e;simp[Jw] at h;obtain⟨k,j,i,g,f⟩:=h;refine⟨by grind,encZ_inj ?_⟩;omega
theorem Qi(s:DR Tryz.prog G ι m w)(h:Az ι m.gen (.pointer (some ⟨b,0,none⟩)) d)(g:m.get b=.cells vs e 0 false) :
 ∃c o,d=.pointer (some ⟨c,o,none⟩)∧∀i,i<vs.length→∃v',w.cell? ⟨c,o+i,none⟩=some v'∧Az ι m.gen (vs.getD i undef) v':=by
 cases h with
 |ptr a O h =>
  obtain⟨f,y,F,x⟩:=h;obtain⟨M,I,K,r,C,B,k,A⟩:=Hu s y g;have J:=x (by simp[Mem.gen,g,G8.gen,MK]);refine⟨f.blk,f.sh,by grind,fun i u=>?_⟩;obtain⟨v',z,j⟩:=k i u;exact⟨v',by rw[Am.cell_of_row r];omega,j⟩
theorem a0y(r:DR Tryz.prog G ι m w)(o:Az ι m.gen (.slice a n g) v')(h:BH m 1 n (.slice a n g)=some (zs.map Go.encZ))(z:0<n) :
 ∃b off cap,v'=.slice (some ⟨b,off,none⟩) n cap∧zs.length=n∧n≤cap∧∀j,j<n→w.cell? ⟨b,off+j,none⟩=some (.int .i64 (gi zs j)):=by
 obtain⟨B,cap,rfl,c,i,f⟩:=OD r o rfl (fun b e=>by cases e) h;rw[aL] at c;rcases i with⟨_,h1⟩|⟨A,h1|h1⟩
 ·omega
 ·obtain⟨rfl,d⟩:=h1
  obtain⟨b,off,k⟩:=A;subst d;refine⟨b,off,cap,rfl,c,?_,fun j x=>?_⟩
  ·cases o with
   |slE=>omega
   |sl _ _ _ _ _ _ s =>
    obtain⟨u,_,_,y,_⟩:=s;omega
  ·have:=f _ rfl j (.int .i64 (gi zs j)) (by unfold gi;grind) rfl
   rwa[addr_add] at this
 omega
theorem zF{l:List Int}(h:i<k):gi (l.take k) i=gi l i:=by
 unfold gi;grind
theorem xI{l:List Int}:gi (l.drop k) i=gi l (k+i):=by
 unfold gi;simp
def ivD:Value→Int| .int _ q=>q|_=>0
theorem Oz(y:Nu)(l:List Int)(k:Nat):XU y l (k+1)=if En y (l.take k)∧En y (l.drop k) then XU y l k++[k] else XU y l k:=rfl
theorem a7q(y:Nu)(l:List Int)(k:Nat):∀n,∃r,XU y l (k+n)=XU y l k++r
 |0=>⟨[],by simp⟩
 |n+1=>by
  obtain⟨r,a⟩:=a7q y l k n;have e:=Oz y l (k+n);grind
theorem c7y(d:k≤l.length)(h:En y (l.take k)∧En y (l.drop k)):∃b:(XU y l k).length<(EX y l).length,(EX y l)[(XU y l k).length]=[.int .i64 (k:Int)]:=by
 obtain⟨r,a⟩:=a7q y l (k+1) (l.length-k);rw[show k+1+(l.length-k)=l.length+1 by omega] at a;have c:XU y l (k+1)=XU y l k++[k]:=by rw[Oz,if_pos h]
 rw[c] at a;have b:(XU y l k).length<(EX y l).length:=by
  unfold EX;rw[aL,a];simp
 refine⟨b,?_⟩;unfold EX;grind
theorem c6q{J a:Nat→World→Prop}{I:World→Prop}{e:Ending}(h:(e=.returned (.bool true)∧J (i+1) W∧I W)∨(e=.returned (.bool false)∧a (i+1) W)):∃B,e=.returned (.bool B)∧((B=true∧J (i+1) W∧I W)∨(B=false∧a (i+1) W)) :=by grind
theorem d7g{X:World}(h:n≤cap)(d:∀j,j<n→X.cell? ⟨b,off+j,none⟩=some (.int .i64 (gi zs j))):∃a,(if cap=i then some (⟨b,off,none⟩:Addr) else some ⟨b,off+i,none⟩)=some ⟨b,a,none⟩∧∀j,j<n-i→X.cell? ⟨b,a+j,none⟩=some (.int .i64 (gi zs (i+j))):=by
 by_cases e:cap=i
 ·simp_all
 ·exact⟨off+i,if_neg e,fun j c=>by simp⟩
attribute [local go_sem] Oper.semAt_some
def d5g(y:Nu)(zs:List Int)(lb:List Value)(m':Mem):Prop:=OY lb m'=some (Jw y zs,EX y zs)∧∀k∈Au Tryz.prog 8 BU,m'.get k=(AX Tryz.prog 8 BU).get k
theorem c4j(lb:List Value)(m:Mem)(key:Value)(rows:List (List Value))(hq:OY lb m=some (key,rows))(hg:∀k∈Au Tryz.prog 8 BU,m.get k=(AX Tryz.prog 8 BU).get k)(ι:BJ)(w:World)(lb':Array Value)(Dk:DR Tryz.prog (Au Tryz.prog 8 BU) ι m w)(hl:BF ι m.gen lb lb'.toList) :
 Y9 Tryz.prog 121 lb' rows (JR Tryz.prog (Au Tryz.prog 8 BU) (fun m'=>OY lb m'=some (key,rows)∧∀k∈Au Tryz.prog 8 BU,m'.get k=(AX Tryz.prog 8 BU).get k) ι m.gen lb lb') w:=by
 obtain⟨b1,b2,a,n,g,y,l0,zs,e1,e2,rfl,h1,h2,h3,h4,hzs,h0,hn,he⟩:=dW hq;cases he;obtain⟨lb'⟩:=lb';obtain⟨p1,k1,rfl,r1,hl2⟩:=hl.Iz;obtain⟨p2,k2,rfl,r2,hl3⟩:=hl2.Iz;have hk:k2=[]:=aw.1 hl3.1.symm;subst hk;obtain⟨c1,o1,rfl,_⟩:=Qi Dk r1 h1;obtain⟨c2,o2,rfl,_⟩:=Qi Dk r2 h2;have hzl:zs.length=n:=by
  have:=Eb h3;rw[h4,aL] at this;omega
 have facts:∀X,JR Tryz.prog (Au Tryz.prog 8 BU) (fun m'=>OY [.pointer (some ⟨b1,0,none⟩),.pointer (some ⟨b2,0,none⟩)] m'=some (Jw y zs,EX y zs)∧∀k∈Au Tryz.prog 8 BU,m'.get k=(AX Tryz.prog 8 BU).get k) ι m.gen [.pointer (some ⟨b1,0,none⟩),.pointer (some ⟨b2,0,none⟩)] ⟨[.pointer (some ⟨c1,o1,none⟩),.pointer (some ⟨c2,o2,none⟩)]⟩ X →
  ∃b off cap,X.cell? ⟨c1,o1,none⟩=some (.slice (some ⟨b,off,none⟩) n cap)∧X.cell? ⟨c2,o2,none⟩=some (.int .i64 y.hn)∧X.cell? ⟨c2,o2+1,none⟩=some (.int .i64 y.hs)∧X.cell? ⟨c2,o2+2,none⟩=some (.int .i64 y.fn)∧X.cell? ⟨c2,o2+3,none⟩=some (.int .i64 y.fs)∧n≤cap∧∀j,j<n→X.cell? ⟨b,off+j,none⟩=some (.int .i64 (gi zs j)):=by
  rintro X ⟨ι',m',g1,g2,⟨g3,g4⟩,_⟩;obtain⟨b1',b2',a',n',g',y',l',zs',e1',e2',q0,q1,q2,q3,q4,_,q5,q6,q7⟩:=dW g3;cases q0;obtain⟨rfl,rfl⟩:=a4m (congrArg Prod.fst q7);obtain⟨p1',k1',x1,x2,x3⟩:=g2.Iz;cases x1;obtain⟨p2',k2',y1,y2,_⟩:=x3.Iz;cases y1;obtain⟨c1',o1',z1,z2⟩:=Qi g1 x2 q1;cases z1;obtain⟨c2',o2',z3,z4⟩:=Qi g1 y2 q2;cases z3;obtain⟨v1,u1,u2⟩:=z2 0 (by simp);have hnn:n'=n:=by
   have:=Eb q3;rw[q4,aL] at this;omega
  subst hnn;rw[q4] at q3;obtain⟨b,off,cap,rfl,_,hcap,hc⟩:=a0y g1 u2 q3 q5;have pl:∀i (z:Int),[Value.int .i64 y.hn,.int .i64 y.hs,.int .i64 y.fn,.int .i64 y.fs].getD i undef=.int .i64 z→i<4→X.cell? ⟨c2,o2+i,none⟩=some (.int .i64 z):=fun i z hz hi=>by
   obtain⟨v,w1,w2⟩:=z4 i (by simpa using hi);rw[hz] at w2;cases w2;exact w1
  exact⟨b,off,cap,u1,pl 0 _ rfl (by omega),pl 1 _ rfl (by omega),pl 2 _ rfl (by omega),pl 3 _ rfl (by omega),hcap,hc⟩
 have later:∀X Y,JR Tryz.prog (Au Tryz.prog 8 BU) (fun m'=>OY [.pointer (some ⟨b1,0,none⟩),.pointer (some ⟨b2,0,none⟩)] m'=some (Jw y zs,EX y zs)∧∀k∈Au Tryz.prog 8 BU,m'.get k=(AX Tryz.prog 8 BU).get k) ι m.gen [.pointer (some ⟨b1,0,none⟩),.pointer (some ⟨b2,0,none⟩)] ⟨[.pointer (some ⟨c1,o1,none⟩),.pointer (some ⟨c2,o2,none⟩)]⟩ X→Below X.heap.size X Y →
  JR Tryz.prog (Au Tryz.prog 8 BU) (fun m'=>OY [.pointer (some ⟨b1,0,none⟩),.pointer (some ⟨b2,0,none⟩)] m'=some (Jw y zs,EX y zs)∧∀k∈Au Tryz.prog 8 BU,m'.get k=(AX Tryz.prog 8 BU).get k) ι m.gen [.pointer (some ⟨b1,0,none⟩),.pointer (some ⟨b2,0,none⟩)] ⟨[.pointer (some ⟨c1,o1,none⟩),.pointer (some ⟨c2,o2,none⟩)]⟩ Y:=by
  rintro X Y ⟨ι',m',g1,g2,g3⟩ hb;exact⟨ι',m',Ov g1 hb,g2,g3⟩
 clear hl hl2 hl3 r1 r2 hq h1 h2 h3;generalize JR Tryz.prog (Au Tryz.prog 8 BU) (fun m'=>OY [.pointer (some ⟨b1,0,none⟩),.pointer (some ⟨b2,0,none⟩)] m'=some (Jw y zs,EX y zs)∧∀k∈Au Tryz.prog 8 BU,m'.get k=(AX Tryz.prog 8 BU).get k) ι m.gen [.pointer (some ⟨b1,0,none⟩),.pointer (some ⟨b2,0,none⟩)] ⟨[.pointer (some ⟨c1,o1,none⟩),.pointer (some ⟨c2,o2,none⟩)]⟩=SI at *;have hgz:∀i,i<n→0≤gi zs i∧gi zs i≤127:=fun i hi=>hzs _ (Dj (by omega))
 have c5f:∀(X:World) b off cap k (B:Bool),k≤n→decide (En y (zs.take k))=B→(∀j,j<n→X.cell? ⟨b,off+j,none⟩=some (.int .i64 (gi zs j)))→Calls Tryz.prog 40 #[.agg #[.int .i64 y.hn,.int .i64 y.hs,.int .i64 y.fn,.int .i64 y.fs],.slice (some ⟨b,off,none⟩) k cap] X fun e w'=>e=.returned (.bool B)∧Below X.heap.size X w':=fun X b off cap k B hk hB hc=>by
  subst hB;have ht:∀i,i<k→gi (zs.take k) i=gi zs i:=fun i hi=>zF hi
  exact b9f y b off k cap (zs.take k) (by rw[av];omega) (fun i hi=>by rw[ht i hi];exact hgz i (by omega)) (by omega) X (fun j hj=>by rw[ht j hj];exact hc j (by omega))
 have c5v:∀(X:World) b off cap k (B:Bool),k≤n→decide (En y (zs.drop k))=B→(∀j,j<n-k→X.cell? ⟨b,off+j,none⟩=some (.int .i64 (gi zs (k+j))))→Calls Tryz.prog 40 #[.agg #[.int .i64 y.hn,.int .i64 y.hs,.int .i64 y.fn,.int .i64 y.fs],.slice (some ⟨b,off,none⟩) (n-k) cap] X fun e w'=>e=.returned (.bool B)∧Below X.heap.size X w':=fun X b off cap k B hk hB hc=>by
  subst hB;have ht:∀i,gi (zs.drop k) i=gi zs (k+i):=fun i=>xI
  exact b9f y b off (n-k) cap (zs.drop k) (by rw[bA];omega) (fun i hi=>by rw[ht i];exact hgz _ (by omega)) (by omega) X (fun j hj=>by rw[ht j];exact hc _ hj)
 intro l J Jx W hB hJ hx hY hI hj;refine callsIn_of_wp Tryz.func121 rfl trivial ?_ rfl;simp only[Tryz.ntmps121,List.size_toArray,List.length_cons,List.length_nil,Nat.reduceAdd,Nat.reduceSub,Array.replicate_succ,Array.replicate_zero,List.push_toArray,List.append_toArray,List.nil_append,List.cons_append];obtain⟨b,off,cap,d0,d1,d2,d3,d4,d5,d6⟩:=facts W hI;have hw0:IntKind.i64.wrap ((n:Int)+1)=(n:Int)+1:=MW (by omega) (by omega)
 gi_wp2
 gi_loopw [8] (fun v wr=>∃i:Nat,i≤n+1∧v=.int .i64 (i:Int)∧J (XU y zs i).length wr∧SI wr) (fun v _=>((n:Int)+1-ivD v).toNat)
 case atStart=>exact⟨0,ao _,rfl,hj,hI⟩
 case round =>
  obtain⟨i,hi,rfl,hJi,hIi⟩:=hrel;obtain⟨b,off,cap,f0,f1,f2,f3,f4,f5,f6⟩:=facts _ hIi;by_cases hlt:i<n+1
  ·have hle:(i:Int)<(n:Int)+1:=by omega
   have hw1:IntKind.i64.wrap ((i:Int)+1)=((i+1:Nat):Int):=by rw[MW (by omega) (by omega)];omega
   have hin:i≤n:=by omega
   have hin2:(i:Int)≤(n:Int):=by omega
   gi_wp2
   clear d0 d1 d2 d3 d4 d5 d6 hB hI hj hg Dk;have hcp:i≤cap:=by omega
   refine dite (En y (zs.take i)) (fun g1=>dite (En y (zs.drop i)) (fun g2=>?cA) fun g2=>?cB) fun g1=>?cC
   case' cA =>
    have hd:=decide_eq_true g1;have hd2:=decide_eq_true g2;obtain⟨hl,hrow⟩:=c7y (y:=y) (l:=zs) (k:=i) (by omega) ⟨g1,g2⟩;have e1:(XU y zs (i+1)).length=(XU y zs i).length+1:=by rw[Oz,if_pos ⟨g1,g2⟩,ar];rfl
   case' cB =>
    have hd:=decide_eq_true g1;have hd2:=decide_eq_false g2;have e1:XU y zs (i+1)=XU y zs i:=by rw[Oz,if_neg (fun h=>g2 h.2)]
   case' cC =>
    have hd:=decide_eq_false g1;have e1:XU y zs (i+1)=XU y zs i:=by rw[Oz,if_neg (fun h=>g1 h.1)]
   all_goals refine wpIn_region_any a7e ?_
   all_goals change wpAnyIn _ _ _ _ _ _ _ _ _ (World.drew _)
   all_goals refine wpAnyIn_take (i:=2) (v:=.int .i64 (i:Int)) rfl rfl (by kernel_rfl) (by kernel_rfl) (by kernel_rfl) (fun _ _ _ h=>h) ⟨Or.inl ⟨by rfl,fun w=>by go_simp⟩,fun _=>rfl⟩ ?_
   all_goals refine wpAnyIn_ready (rs:=[0,1]) (by kernel_rfl) (by simp) (AllReadyIn.cons rfl (fun A0 hK=>?_) (AllReadyIn.cons rfl (fun A1 hK=>?_) AllReadyIn.nil))
   all_goals go_simp
   all_goals refine hK _ _ ?_
   all_goals clear hK
   all_goals first|(have h0:=A0;refine wpAnyIn_ready (rs:=[1]) (by kernel_rfl) (by simp) (AllReadyIn.cons rfl (fun K hK=>?_) AllReadyIn.nil))|refine wpAnyIn_ready (rs:=[0,3]) (by kernel_rfl) (by simp) (AllReadyIn.cons rfl (fun B0 hK=>?_) (AllReadyIn.cons rfl (fun B3 hK=>?_) AllReadyIn.nil))
   all_goals go_simp
   all_goals try simp only[if_pos hcp]
   all_goals try go_simp
   all_goals refine hK _ _ ?_
   all_goals clear hK
   all_goals first|(have h0:=B3;refine wpAnyIn_ready (rs:=[0]) (by kernel_rfl) (by simp) (AllReadyIn.cons rfl (fun K hK=>?_) AllReadyIn.nil))|refine wpAnyIn_ready (rs:=[3]) (by kernel_rfl) (by simp) (AllReadyIn.cons rfl (fun K hK=>?_) AllReadyIn.nil)
   all_goals go_simp
   all_goals try simp only[if_pos hcp]
   all_goals try go_simp
   all_goals refine hK _ _ ?_
   all_goals clear hK
   all_goals refine wpAnyIn_ready (rs:=[4]) (by kernel_rfl) (by simp) (AllReadyIn.cons rfl (fun K hK=>?_) AllReadyIn.nil)
   all_goals go_simp
   all_goals refine⟨trivial,rfl,?_⟩
   all_goals first|(have h0:decide (En y (zs.take i))=true:=hd;refine(callsIn_wide.2 (c5f _ b off _ i true (by omega) hd (by exact f6))).mono ?_)|refine(callsIn_wide.2 (c5f _ b off _ i false (by omega) hd (by exact f6))).mono ?_
   all_goals rintro _ W1 ⟨rfl,hbel⟩
   all_goals have hI2:=later _ _ hIi ⟨hbel.os,hbel.tape,hbel.output,hbel.size,hbel.block⟩
   all_goals have hJ2:=hJ _ _ _ hJi ⟨hbel.os,hbel.tape,hbel.output,hbel.size,hbel.block⟩
   all_goals obtain⟨b',off',cap',f0',f1',f2',f3',f4',f5',f6'⟩:=facts _ hI2
   all_goals refine hK _ _ ?_
   all_goals clear hK
   all_goals first|(have h0:decide (En y (zs.take i))=true:=hd;refine wpAnyIn_take (i:=5) (v:=.bool true) rfl rfl (by kernel_rfl) (by kernel_rfl) (by kernel_rfl) (fun _ _ _ h=>h) ⟨Or.inl ⟨by rfl,fun w=>by go_simp⟩,fun _=>rfl⟩ ?_)|refine wpAnyIn_take (i:=5) (v:=.bool false) rfl rfl (by kernel_rfl) (by kernel_rfl) (by kernel_rfl) (fun _ _ _ h=>h) ⟨Or.inl ⟨by rfl,fun w=>by go_simp⟩,fun _=>rfl⟩ ?_
   all_goals first|(have h0:decide (En y (zs.take i))=true:=hd;refine wpAnyIn_take (i:=8) (v:=.int .i64 (i:Int)) rfl rfl (by kernel_rfl) (by kernel_rfl) (by kernel_rfl) (fun _ _ _ h=>h) ⟨Or.inl ⟨by rfl,fun w=>by go_simp⟩,fun _=>rfl⟩ ?_;obtain⟨off2,ho2,hc2⟩:=d7g (i:=i) f5' f6';refine wpAnyIn_ready (rs:=[6,7]) (by kernel_rfl) (by simp) (AllReadyIn.cons rfl (fun C6 hK=>?_) (AllReadyIn.cons rfl (fun C7 hK=>?_) AllReadyIn.nil))<;>go_simp<;>refine hK _ _ ?_<;>clear hK)|(refine wpAnyIn_take (i:=6) (v:=undef) rfl rfl (by kernel_rfl) (by kernel_rfl) (by kernel_rfl) (fun _ _ _ h=>h) ⟨Or.inr ⟨by rfl,rfl⟩,fun _=>rfl⟩ ?_;refine wpAnyIn_take (i:=7) (v:=undef) rfl rfl (by kernel_rfl) (by kernel_rfl) (by kernel_rfl) (fun _ _ _ h=>h) ⟨Or.inr ⟨by rfl,rfl⟩,fun _=>rfl⟩ ?_;refine wpAnyIn_take (i:=8) (v:=undef) rfl rfl (by kernel_rfl) (by kernel_rfl) (by kernel_rfl) (fun _ _ _ h=>h) ⟨Or.inr ⟨by rfl,rfl⟩,fun _=>rfl⟩ ?_;refine wpAnyIn_take (i:=9) (v:=undef) rfl rfl (by kernel_rfl) (by kernel_rfl) (by kernel_rfl) (fun _ _ _ h=>h) ⟨Or.inr ⟨by rfl,rfl⟩,fun _=>rfl⟩ ?_)
   all_goals first|(have h0:=C6;refine wpAnyIn_ready (rs:=[7]) (by kernel_rfl) (by simp) (AllReadyIn.cons rfl (fun K hK=>?_) AllReadyIn.nil);go_simp;refine hK _ _ ?_;clear hK)|(have h0:=C7;refine wpAnyIn_ready (rs:=[6,9]) (by kernel_rfl) (by simp) (AllReadyIn.cons rfl (fun D6 hK=>?_) (AllReadyIn.cons rfl (fun D9 hK=>?_) AllReadyIn.nil))<;>go_simp)|skip
   all_goals first|(have h0:=D6;refine hK _ _ ?_;clear hK)|(have h0:=D9;(try rw[ho2]);refine hK _ _ ?_;clear hK)|skip
   all_goals first|(have h0:=D9;refine wpAnyIn_ready (rs:=[6]) (by kernel_rfl) (by simp) (AllReadyIn.cons rfl (fun K hK=>?_) AllReadyIn.nil);go_simp;refine hK _ _ ?_;clear hK)|(have h0:decide (En y (zs.take i))=true:=hd;refine wpAnyIn_ready (rs:=[9]) (by kernel_rfl) (by simp) (AllReadyIn.cons rfl (fun K hK=>?_) AllReadyIn.nil);go_simp;(try rw[ho2]);refine hK _ _ ?_;clear hK)|skip
   all_goals refine wpAnyIn_ready (rs:=[10]) (by kernel_rfl) (by simp) (AllReadyIn.cons rfl (fun K hK=>?_) AllReadyIn.nil)
   all_goals go_simp
   all_goals first|(have h0:decide (En y (zs.drop i))=true:=hd2;have h1:decide (En y (zs.take i))=true:=hd;refine⟨trivial,rfl,?_⟩;refine(callsIn_wide.2 (c5v _ b' off2 _ i true (by omega) hd2 (by exact hc2))).mono ?_;rintro _ W2 ⟨rfl,a5l⟩;have hJ4:=hJ _ _ _ hJ2 a5l;obtain⟨fn,tmps,Nq,body,hy,hR⟩:=hY _ W2 hl hJ4;rw[hrow] at hy;replace hy:(Instr.yield l #[.int .i64 (i:Int)]).run Tryz.prog W2=.ok (.round l fn tmps Nq body) W2:=hy)|(have h0:decide (En y (zs.take i))=true:=hd;refine⟨trivial,rfl,?_⟩;refine(callsIn_wide.2 (c5v _ b' off2 _ i false (by omega) hd2 (by exact hc2))).mono ?_;rintro _ W2 ⟨rfl,a5l⟩;have hJ4:=hJ _ _ _ hJ2 a5l;have hI4:=later _ _ hI2 a5l)|refine⟨trivial,?_⟩
   all_goals refine hK _ _ ?_
   all_goals clear hK
   all_goals refine wpAnyIn_ready (rs:=[11]) (by kernel_rfl) (by simp) (AllReadyIn.cons rfl (fun K hK=>?_) AllReadyIn.nil)
   all_goals go_simp
   all_goals refine hK _ _ ?_
   all_goals clear hK
   all_goals first|(have h0:=hR;refine wpAnyIn_take (i:=12) (v:=.bool true) rfl rfl (by kernel_rfl) (by kernel_rfl) (by kernel_rfl) (fun _ _ _ h=>h) ⟨Or.inl ⟨by rfl,fun w=>by go_simp⟩,fun _=>rfl⟩ ?_;refine wpAnyIn_take (i:=13) (v:=.func (.yield l) #[] #[]) rfl rfl (by kernel_rfl) (by kernel_rfl) (by kernel_rfl) (fun _ _ _ h=>h) ⟨Or.inl ⟨by rfl,fun w=>by go_simp⟩,fun _=>rfl⟩ ?_;refine wpAnyIn_take (i:=14) (v:=.int .i64 (i:Int)) rfl rfl (by kernel_rfl) (by kernel_rfl) (by kernel_rfl) (fun _ _ _ h=>h) ⟨Or.inl ⟨by rfl,fun w=>by go_simp⟩,fun _=>rfl⟩ ?_)|(refine wpAnyIn_take (i:=12) (v:=.bool false) rfl rfl (by kernel_rfl) (by kernel_rfl) (by kernel_rfl) (fun _ _ _ h=>h) ⟨Or.inl ⟨by rfl,fun w=>by go_simp⟩,fun _=>rfl⟩ ?_;refine wpAnyIn_take (i:=13) (v:=undef) rfl rfl (by kernel_rfl) (by kernel_rfl) (by kernel_rfl) (fun _ _ _ h=>h) ⟨Or.inr ⟨by rfl,rfl⟩,fun _=>rfl⟩ ?_;refine wpAnyIn_take (i:=14) (v:=undef) rfl rfl (by kernel_rfl) (by kernel_rfl) (by kernel_rfl) (fun _ _ _ h=>h) ⟨Or.inr ⟨by rfl,rfl⟩,fun _=>rfl⟩ ?_)
   all_goals refine wpAnyIn_ready (rs:=[15]) (by kernel_rfl) (by simp) (AllReadyIn.cons rfl (fun K hK=>?_) AllReadyIn.nil)
   all_goals go_simp
   all_goals first|(have h0:=hR;refine⟨rfl,?_⟩;refine hR.mono ?_;intro e W3 hE;obtain⟨B,rfl,hBB⟩:=c6q hE)|refine⟨fun _ _=>trivial,?_⟩
   all_goals refine hK _ _ ?_
   all_goals clear hK
   all_goals first|(have h0:=hR;refine wpAnyIn_ready (rs:=[16]) (by kernel_rfl) (by simp) (AllReadyIn.cons rfl (fun K hK=>?_) AllReadyIn.nil);go_simp;refine hK _ _ ?_;clear hK)|refine wpAnyIn_take (i:=16) (v:=undef) rfl rfl (by kernel_rfl) (by kernel_rfl) (by kernel_rfl) (fun _ _ _ h=>h) ⟨Or.inr ⟨by rfl,rfl⟩,fun _=>rfl⟩ ?_
   all_goals refine wpAnyIn_ready (rs:=[17]) (by kernel_rfl) (by simp) (AllReadyIn.cons rfl (fun K hK=>?_) AllReadyIn.nil)
   all_goals go_simp
   all_goals refine hK _ _ ?_
   all_goals clear hK
   all_goals refine wpAnyIn_done (by kernel_rfl) ?_ _
   all_goals try(rcases hBB with⟨rfl,hJ6,hI6⟩|⟨rfl,hx6⟩)
   all_goals gi_wp2
   all_goals try(exact⟨rfl,_,results_none rfl _ _ _,⟨_,rfl⟩,.inr ⟨_,hx6⟩⟩)
   all_goals go_roundw
   all_goals first|(simp[ivD];omega)|exact⟨i+1,hlt,by first|rfl|simp|omega,by rw[e1];first|exact hJ6|exact hJ4|exact hJ2,by first|exact hI6|exact hI4|exact hI2⟩
  ·have hle:¬ (i:Int)<(n:Int)+1:=by omega
   obtain rfl:i=n+1:=by omega
   gi_wp2
   go_end0
   refine⟨⟨_,rfl⟩,.inl ?_⟩;have:(EX y zs).length=(XU y zs (n+1)).length:=by unfold EX;rw[aL,hzl]
   rw[this];exact hJi
end Go.Proofs.YthlffjlbidibdaaGreatDoor
namespace Go.Vm
open Go.Am
variable {E:Env}{n bn:Nat}{L:Frame}{H:Heap}{nx:Nat}
end Go.Vm
namespace Go.Proofs.YthlffjlbidibdaaGreatDoor
open Go Go.Am Go.Vm Go.Pie Go.Sch
theorem a1j:Am.Enters Tryz.prog 121:=⟨_,Tryz.func121,by rfl,by rfl⟩
theorem b5j:∀fn,Tryz.prog.funcs[121]?=some fn→fn.ntmps=Tryz.f121.ntmps :=by simp
noncomputable def O1:BG:=a9w (Au Tryz.prog 8 BU) (AX Tryz.prog 8 BU) 121 Tryz.f121.ntmps OY env.O
theorem c4s:EI Tryz.prog (Au Tryz.prog 8 BU) O1:=cZ b7x a1j b5j c4j
noncomputable abbrev Gv:Env:=DY Tryz.prog 8 BU O1
theorem leD:OLe Tryz.prog env.O O1:=c2u (Af (by decide)) b5j
theorem Nw(h:Ak env f xs r):Ak Gv f xs r:=AL.more (F:=8) (laid:=BU) (O0:=env.O) leD h
theorem c8f(h:Bf env f xs e cs n z):Bf Gv f xs e cs n z:=AL.more (F:=8) (laid:=BU) (O0:=env.O) leD h
theorem d0w(h:Ej env f ac Hc k x):Ej Gv f ac Hc k x:=AL.more (F:=8) (laid:=BU) (O0:=env.O) leD h
theorem d4s:Snd env:={ o:=b7x,mix:=a7e }
theorem b7b(h:GY env f xs r):GY Gv f xs r:=by
 have h:=h d4s;intro _;exact h
theorem TQ(h:f∉121::b5f):Gv.O f=none:=by
 have b:f≠121:=fun e=>h (by grind)
 have a:f∉b5f:=fun e=>h (am _ e)
 show O1 f=none;unfold O1;rw[Xd b];exact Af a
theorem b4z:O1 121=some (UL (Au Tryz.prog 8 BU) (AX Tryz.prog 8 BU) Tryz.f121.ntmps OY):=by
 rfl
theorem d1p:Gv.O 121=some (UL (Au Tryz.prog 8 BU) (AX Tryz.prog 8 BU) Tryz.f121.ntmps OY):=b4z
theorem iO:∀{l:List Int} {vs:List Value},Du m F (cells l) vs→vs=l.map Go.encZ
 |[],_,.nil=>rfl
 |c::l,_,.cons h t=>by
  cases h;rw[iO t];rfl
theorem c2e(Z:0<l.length)(U:l.length≤128)(T:∀x∈l,0≤x∧x≤127)(z:hget H b1=some (.box e1 [.p (.lst e3 (cells l) l.length)]))(w:hget H b2=some (.box e2 [.p (.int .i64 y.hn),.p (.int .i64 y.hs),.p (.int .i64 y.fn),.p (.int .i64 y.fs)])) :
 c8h Gv 121 Tryz.f121 [.ref b1 0,.ref b2 0] H nx (Jw y l) (EX y l):=by
 intro Fo c m F σ lb s r;have c:O1 121=some Fo:=c;rw[b4z] at c;cases c;cases r with
 |cons K t =>
  cases t with
  |cons J I =>
   cases I;cases K with
   |ref Y W g1 =>
    cases J with
    |ref X V g2 =>
     obtain⟨c1,O,rfl⟩:=g1 (by simp[htag,z,HB.tag]);obtain⟨c2,M,rfl⟩:=g2 (by simp[htag,w,HB.tag]);obtain⟨_,d1,G,k1,k2,k3,S,R,k6⟩:=s.hp b1 _ z;obtain⟨_,d2,C,u,l2,l3,Q,P,l6⟩:=s.hp b2 _ w;rw[O] at k1;rw[M] at u;cases k1;cases u;refine⟨m,?_⟩;refine yD (kr:=(Jw y l,EX y l)) (Z5 s) ?_;cases R with
     |cons b t =>
      cases t;cases b with|p b =>
       obtain⟨vs,B,A,w3⟩:=RF.cellsOf (sz:=1) b (by rw[BD];rfl);have j:=iO A;subst j;have o:∀{v:Value},RF m F (.lst e3 (cells l) l.length) v→∃a g,v=Value.slice a l.length g:=by
        intro v k;generalize l.length=n at k;generalize cells l=cs at k;cases k with
        |nil=>exact⟨_,_,rfl⟩
        |room=>exact⟨_,_,rfl⟩
        |lst=>exact⟨_,_,rfl⟩
       obtain⟨a,g,rfl⟩:=o b;cases P with
       |cons i t =>
        cases t with
        |cons f t =>
         cases t with
         |cons e t =>
          cases t with
          |cons d t =>
           cases t;cases i with|p i=>cases f with|p f=>cases e with|p e=>cases d with|p d =>
            cases i;cases f;cases e;cases d;unfold OY;simp only[S,Q,B,Y4 T];rw[if_pos ⟨Z,U⟩]
attribute [local irreducible] Aa Ah Ai Ad AL Ak Bf BK Bj Aj Vm.Done Bv AP Nl
theorem b8r
 (g:AY Gv.Γ L e=some (.clo 76 a cs)) (i:evs Gv.Γ L args.toList=some xs) (b:Tryz.f76.body=some c) (f:(a++xs++cs).length≤Tryz.f76.ntmps)
 (h:Ad Gv nx c (CS 0 (a++xs++cs)) H nx (AP Gv.P Tryz.f76.results.toList Q)):Aa Gv true ⟨dst,.call { callee:=.value e,args:=args,argTypes:=j },ty,pos,af,gd⟩ L H nx Q:=by
 have d:(match Tryz.f76.body with|some c=>IV Gv.G Tryz.f76 c|none=>false)=true:=by kernel_rfl
 rw[b] at d;exact Aa.inline rfl g i (TQ (by decide)) Tryz.func76 b d f h
def rW(y:Nu)(l:List Int):Bool:=decide (XU y l (l.length+1)≠[])
theorem rV{y:Nu}{l:List Int}{k:Nat}:∀n,k∈XU y l n↔k<n∧En y (l.take k)∧En y (l.drop k)
 |0=>⟨fun h=>(by cases h),fun h=>absurd h.1 (bc _)⟩
 |n+1=>by
  have a:=rV (y:=y) (l:=l) (k:=k) n;rw[Oz];grind
theorem xX{y:Nu}{l:List Int}:rW y l=true↔∃k,k≤l.length∧En y (l.take k)∧En y (l.drop k):=by
 unfold rW;rw[decide_eq_true_eq];constructor
 ·intro h
  obtain⟨k,b⟩:=eW _ h;obtain⟨c,a⟩:=(rV _).1 b;grind
 ·rintro⟨k,c,a⟩ e
  have:=(rV (y:=y) (l:=l) (k:=k) (l.length+1)).2 ⟨by omega,a⟩;grind
theorem b5a(L:List Nat):(List.range L.length).map (fun k=>gi L k)=L:=fI (by simp) fun i b a=>by
 unfold gi;grind
theorem b8v(y:Nu)(l:List Int)(j:0<l.length)(e:l.length≤128)(d:∀x∈l,0≤x∧x≤127):Ak Gv 39 [.agg (Enc.enc y),.lst 3 (cells l) l.length] (.p (.bool (rW y l))):=by
 have a:EX y l=(List.range (XU y l (l.length+1)).length).map fun k=>[Value.int .i64 ((gi (XU y l (l.length+1)) k:Nat):Int)]:=by
  unfold EX
  conv=>lhs;rw[← b5a (XU y l (l.length+1))]
  rw[fa];rfl
 unfold rW;have b:∀{H:Vm.Heap} {nx b1 b2:Nat} {e1 e2 e3:TypeId},_→_→c8h Gv _ _ [.ref b1 0,.ref b2 0] H nx (Jw y l) (EX y l):=fun{H nx b1 b2 e1 e2 e3} i g=>c2e (y:=y) (l:=l) (H:=H) (nx:=nx) (e1:=e1) (e2:=e2) (e3:=e3) j e d i g
 generalize XU y l (l.length+1)=R at *;refine Ak.enter (E:=Gv) (TQ (by decide)) Tryz.func39 rfl (by kernel_rfl) (by simp[Tryz.ntmps39]) ?_
 repeat' (first|(apply b8r;rfl;rfl;rfl;exact le_dec rfl)|(apply Aa.makeFunc;rfl;rfl)|refine go1 ?_|(apply AP.ret;rfl))
 all_goals try omega
 all_goals try contradiction
 refine Ad.rangeFunc (key:=Jw y l) R.length (fun k=>[.int .i64 ((gi R k:Nat):Int)]) (fun k=>[Value.int .i64 ((gi R k:Nat):Int)]) [(4,.ref 1 0),(7,.clo 121 [] [.ref 3 0,.ref 2 0])]
  (fun k=>[(1,.box 4 [.p (.bool false)]),(2,.box 47 ((Enc.enc y).map .p)),(3,.box 41 [.p (.lst 3 (cells l) l.length)])]) 4 (fun k=>k=0)
  rfl Tryz.func121 rfl d1p a (fun _ _=>rfl) (fun _ _=>rfl) (fun k _ m F=>.cons (.int _ _) .nil) (by omega) ⟨by omega,?_,?_⟩ ?_ (fun k _=>b rfl rfl) rfl ?_ ?_
 ·exact Dh
 ·exact DT
 ·exact Dh
 ·rintro k f rfl
  rw[decide_eq_true (dp.1 f)]
  repeat' (first|apply Ad.skip)
  refine⟨rfl,?_⟩
  repeat' (first|refine Fh ?_|apply j6)
  all_goals try omega
  refine⟨by omega,[(1,.box 4 [.p (.bool true)])],?_,?_⟩
  ·exact DT
  ·repeat' (first|apply BK.ret|apply Bj.ret)
   all_goals(refine aa ?_;try rfl)
 ·intro c
  rw[decide_eq_false (fun h=>h (aw.1 c))]
  repeat' (first|refine Fh ?_|fail)
  all_goals first|omega|(refine aa ?_;try rfl)
end Go.Proofs.YthlffjlbidibdaaGreatDoor
namespace Go.Proofs.YthlffjlbidibdaaGreatDoor
open Go Go.Am Go.Vm Go.Pie Go.Sch
theorem iq(b:0≤y.hn)(a:0≤y.hs):En y []:=⟨b,a⟩
theorem X8(h:Inc l)(a:i≤j)(b:j<l.length):gi l i≤gi l j:=inc_le h a b
theorem XP{x:Int}(h:x∈l.take k):∃i,i<k∧i<l.length∧gi l i=x:=by
 obtain⟨i,a,e⟩:=KN h;rw[av] at a;exact⟨i,by omega,by omega,by rw[← e,zF (by omega)]⟩
theorem XA{x:Int}(h:x∈l.drop k):∃i,k≤i∧i<l.length∧gi l i=x:=by
 obtain⟨i,a,e⟩:=KN h;rw[bA] at a;exact⟨k+i,by omega,by omega,by rw[← e,xI]⟩
theorem b4g{P:Nat→Prop}(a:P 0):∀n,∃k,k≤n∧P k∧(k=n∨¬ P (k+1))
 |0=>⟨0,ab _,a,.inl rfl⟩
 |n+1=>by
  obtain⟨k,d,c,b⟩:=b4g a n;grind
theorem vS(L:Int→Bool):∀l:List Int,(l.filter L).length+(l.filter fun x=>!L x).length=l.length
 |[]=>rfl
 |a::l=>by
  have b:=vS L l;grind
theorem jB(Q:0≤y.hn)(w:0≤y.hs)(d:Inc l)(L:Int→Bool)(u:0<l.length→L (gi l 0)=true)(Y:((l.filter L).length:Int)≤y.hn)(X:((l.filter fun x=>!L x).length:Int)≤y.hn)
 (s1:∀a∈l,∀b∈l,L a=true→L b=true→a-b≤y.hs) (s2:∀a∈l,∀b∈l,L a=false→L b=false→a-b≤y.hs):∃k,k≤l.length∧En y (l.take k)∧En y (l.drop k):=by
 obtain⟨k,k1,J,k3⟩:=b4g (P:=fun k=>En y (l.take k)) (by show En y (l.take 0);rw[gw];exact iq Q w) l.length;refine⟨k,k1,J,?_⟩;have hid:Inc (l.drop k):=cY (List.drop_sublist _ _) d;rcases k3 with rfl|k3
 ·rw[List.drop_length];exact iq Q w
 ·by_cases U:k=l.length
  ·grind
  have M:k<l.length:=by omega
  have o:=J.1;rw[av,cD k1] at o;have s:∀x∈l,L x=false→x∈l.filter fun x=>!L x:=fun x c h=>eV.2 ⟨c,by grind⟩
  have O:=vS L l;by_cases W:gi l k-gi l 0≤y.hs
  ·
   have V:(k:Int)=y.hn:=by
    refine Int.le_antisymm o (Int.not_lt.1 fun T=>k3 ⟨?_,?_⟩)
    ·rw[av];omega
    ·refine(Ri (cY (gF _ _) d) w).2 fun x c z f=>?_
     obtain⟨i,C,e,rfl⟩:=XP c;obtain⟨j,K,A,rfl⟩:=XP f;have:=X8 d (show i≤k by omega) M;have:=X8 d (ao j) A;omega
   refine⟨by rw[bA];omega,(Ri hid w).2 fun x c z f=>?_⟩;obtain⟨i,C,e,rfl⟩:=XA c;obtain⟨j,K,A,rfl⟩:=XA f;have S:=X8 d (ao j) A;have R:=X8 d K A;cases hLx:L (gi l i) with
   |true =>
    have:=s1 _ (Dj e) _ (Dj (show 0<l.length by omega)) hLx (u (by omega));omega
   |false =>
    have G:∃r,r≤k∧L (gi l r)=false:=by
     refine bx fun F=>?_
     have m:∀x∈l.take (k+1),x∈l.filter L:=fun x c=>by
      obtain⟨r,I,B,rfl⟩:=XP c;refine eV.2 ⟨Dj B,?_⟩;cases hb:L (gi l r) with
      |true=>rfl
      |false=>exact absurd ⟨r,by omega,hb⟩ F
     have:=Ii (L8 (cY (gF (k+1) l) d)) m;rw[av] at this;omega
    obtain⟨r,I,B⟩:=G;have:=s2 _ (Dj e) _ (Dj (show r<l.length by omega)) hLx B;have:=X8 d I M;omega
  ·
   have g:∀x∈l.drop k,x∈l∧L x=false:=fun x c=>by
    obtain⟨i,C,e,rfl⟩:=XA c;refine⟨Dj e,?_⟩;cases hb:L (gi l i) with
    |false=>rfl
    |true =>
     have:=s1 _ (Dj e) _ (Dj (show 0<l.length by omega)) hb (u (by omega));have:=X8 d C e;omega
   refine⟨?_,(Ri hid w).2 fun x c z f=>s2 x (g x c).1 z (g z f).1 (g x c).2 (g z f).2⟩;have:=Ii (L8 hid) fun x c=>s x (g x c).1 (g x c).2
   omega
theorem a9o(g:0≤y.hn)(f:0≤y.hs)(e:Inc l)(L:Int→Bool)(m:((l.filter L).length:Int)≤y.hn)(i:((l.filter fun x=>!L x).length:Int)≤y.hn)
 (s1:∀a∈l,∀b∈l,L a=true→L b=true→a-b≤y.hs) (s2:∀a∈l,∀b∈l,L a=false→L b=false→a-b≤y.hs):rW y l=true:=by
 refine xX.2 ?_;by_cases h:0<l.length→L (gi l 0)=true
 ·exact jB g f e L h m i s1 s2
 ·refine jB g f e (fun x=>!L x) (fun o=>?_) i (by grind) (fun a d b c k j=>s2 a d b c (by grind) (by grind)) (fun a d b c k j=>s1 a d b c (by grind) (by grind))
  grind
def Kt(o:FZ)(K:List Gj):Nat→List Nat
 |0=>[]
 |d+1=>if(gi o.Ae d).FY=true then Kt o K d else if CQ (gi K d)=[] then Kt o K d else Kt o K d++[d]
def FW(o:FZ)(K:List Gj):Nat→List Gj
 |0=>[]
 |d+1=>if(gi o.Ae d).FY=true then FW o K d++[gi K d] else FW o K d
def posB(y:Nu)(o:FZ)(K:List Gj):Bool:=decide (Qy y (FW o K o.Ae.length))&&match(Kt o K o.Ae.length).map fun d=>CQ (gi K d) with
 |[]=>true
 |[a]=>rW y a
 |[a,b]=>decide (En y a)&&decide (En y b)
 |_=>false
theorem RY{o:FZ}{K:List Gj}{d:Nat}:∀n,d∈Kt o K n↔d<n∧(gi o.Ae d).FY=false∧CQ (gi K d)≠[]
 |0=>⟨fun h=>(by cases h),fun h=>absurd h.1 (bc _)⟩
 |n+1=>by
  have a:=RY (o:=o) (K:=K) (d:=d) n;have e:Kt o K (n+1)=if(gi o.Ae n).FY=true then Kt o K n else if CQ (gi K n)=[] then Kt o K n else Kt o K n++[n]:=rfl
  grind
theorem UZ(o:FZ)(K:List Gj):∀n,(Kt o K n).Nodup
 |0=>cy
 |n+1=>by
  have c:=UZ o K n;have e:Kt o K (n+1)=if(gi o.Ae n).FY=true then Kt o K n else if CQ (gi K n)=[] then Kt o K n else Kt o K n++[n]:=rfl
  rw[e];split
  ·omega
  ·split
   ·omega
   ·refine dd.2 ⟨c,by simp,fun a f b d e=>?_⟩
    rw[aM] at d;have:=((RY n).1 f).1;omega
theorem a8q(a:Gj):WO a ⟨0,0⟩=a:=by unfold WO;simp
theorem a9y:CQ ⟨0,0⟩=[] :=by decide
theorem nC(l r:List Gj):∀k,k≤l.length→QU (l++r) k=QU l k
 |0,_=>rfl
 |k+1,h=>by
  show QU (l++r) k+((CQ (gi (l++r) k)).length:Int)=QU l k+((CQ (gi l k)).length:Int);rw[nC l r k (by omega),show gi (l++r) k=gi l k by unfold gi;grind]
theorem mP(l r:List Gj):∀k,k≤l.length→Ot (l++r) k=Ot l k
 |0,_=>rfl
 |k+1,h=>by
  show WO (Ot (l++r) k) (gi (l++r) k)=WO (Ot l k) (gi l k);rw[mP l r k (by omega),show gi (l++r) k=gi l k by unfold gi;grind]
theorem yu:∀n,(∀d,d<n→if(gi o.Ae d).FY=true then gi Q d=gi K d else gi Q d=⟨0,0⟩)→QU Q n=QU (FW o K n) (FW o K n).length∧Ot Q n=Ot (FW o K n) (FW o K n).length
 |0,_=>⟨rfl,rfl⟩
 |n+1,h=>by
  obtain⟨e,c⟩:=yu n fun d j=>h d (by omega)
  have a:=h n (by omega);have i:QU Q (n+1)=QU Q n+((CQ (gi Q n)).length:Int):=rfl;have g:Ot Q (n+1)=WO (Ot Q n) (gi Q n):=rfl;have f:FW o K (n+1)=if(gi o.Ae n).FY=true then FW o K n++[gi K n] else FW o K n:=rfl
  rw[i,g,f,e,c];by_cases b:(gi o.Ae n).FY=true
  ·rw[if_pos b] at a ⊢
   rw[ar,a];show _=QU (FW o K n++[gi K n]) (FW o K n).length+((CQ (gi (FW o K n++[gi K n]) (FW o K n).length)).length:Int)∧_=WO (Ot (FW o K n++[gi K n]) (FW o K n).length) (gi (FW o K n++[gi K n]) (FW o K n).length);rw[nC _ _ _ (ab _),mP _ _ _ (ab _),Na];simp
  ·rw[if_neg b] at a ⊢
   rw[a,a9y,a8q];simp
theorem vC{d:Nat}:∀k,(∀i,i<k→(gi p.notes (gi N i).toNat).d=(d:Int)→is (gi N i).toNat=is' (gi N i).toNat)→V3 p N is d k=V3 p N is' d k
 |0,_=>rfl
 |k+1,h=>by
  rw[FT,FT,vC k fun i a=>h i (by omega)];grind
theorem wX{d:Nat}:∀k,(∀i,i<k→(gi p.notes (gi N i).toNat).d=(d:Int)→is (gi N i).toNat=false)→V3 p N is d k=[]
 |0,_=>rfl
 |k+1,h=>by
  rw[FT,wX k fun i a=>h i (by omega),if_neg];grind
theorem aC{N:List Int}{i d:Nat}(h:(gi q.p.notes (gi N i).toNat).d=(d:Int)):FK q (gi N i).toNat=(gi q.o.Ae d).FY:=by
 unfold FK;grind
theorem mg:Qy q.y (F7 q N (FK q))↔Qy q.y (FW q.o (F7 q N fun _=>true) q.o.Ae.length):=by
 have h:=yu (o:=q.o) (K:=F7 q N fun _=>true) (Q:=F7 q N (FK q)) q.o.Ae.length fun d b=>by
  unfold F7;rw[Dz _ b,Dz _ b];unfold VK;split
  ·rename_i a
   rw[vC (is:=FK q) (is':=fun _=>true) N.length fun i c e=>by rw[aC e,a]]
  ·rename_i a
   rw[wX (is:=FK q) N.length fun i c e=>by rw[aC e];grind];rfl
 unfold Qy;rw[Po,h.1,h.2]
theorem xC{q:Qu}(hq:IQ q)(ht:t<(Bc q.p).length){l:List Int}(hk:∀i,i<q.p.notes.length→if FK q i=true then gi l i=2 else gi l i=0∨gi l i=1)(hp:J4 q (Dy q t) l=true):posB q.y q.o (F7 q (Dy q t) fun _=>true)=true:=by
 have hN:=G7 (q:=q) ht;have ha:=Tf hq ht;obtain⟨y1,y2,y3,y4⟩:=hq.y;unfold J4 at hp;simp only[Bool.and_eq_true] at hp;obtain⟨⟨hp0,hp1⟩,hpf⟩:=hp;have S:∀h:Nat,h<2→SE q (Dy q t) l (h:Int)=true:=fun h hh=>by
  obtain rfl|rfl:h=0∨h=1:=by omega
  ·exact hp0
  ·exact hp1
 have A:=fun h hh=>(uj hq hN ha (l:=l) (h:=((h:Nat):Int))).1 (S h hh)
 have I:∀{d:Nat},d<q.o.Ae.length→(gi q.o.Ae d).FY=false→∀x∈CQ (gi (F7 q (Dy q t) fun _=>true) d),∃i h:Nat,i<(Dy q t).length∧h<2∧gi l (gi (Dy q t) i).toNat=(h:Int)∧(gi q.p.notes (gi (Dy q t) i).toNat).d=(d:Int)∧(gi q.p.notes (gi (Dy q t) i).toNat).k=x:=fun{d} M hm x j=>by
  obtain⟨i,w,_,u,V⟩:=(PZ _).1 ((KI hq hN M).1 j);have hn:=hN i w;have F:=hk (gi (Dy q t) i).toNat (by omega);rw[aC u,hm] at F;simp only[Bool.false_eq_true,if_false] at F;rcases F with e|e
  ·exact⟨i,0,w,by omega,e,u,V⟩
  ·exact⟨i,1,w,by omega,e,u,V⟩
 have G:∀{i h:Nat},i<(Dy q t).length→gi l (gi (Dy q t) i).toNat=(h:Int)→(gi q.p.notes (gi (Dy q t) i).toNat).k∈JY q.p (Dy q t) (hasB l (h:Int)) (Dy q t).length:=fun hi e=>(TB _).2 ⟨_,hi,decide_eq_true e,rfl⟩
 unfold posB;rw[cx];refine⟨decide_eq_true (mg.1 (of_decide_eq_true hpf)),?_⟩;have g:=fun d=>RY (o:=q.o) (K:=F7 q (Dy q t) fun _=>true) (d:=d) q.o.Ae.length
 have c:=UZ q.o (F7 q (Dy q t) fun _=>true) q.o.Ae.length;generalize Kt q.o (F7 q (Dy q t) fun _=>true) q.o.Ae.length=D at *;have B:∀d∈D,∃i h:Nat,i<(Dy q t).length∧h<2∧gi l (gi (Dy q t) i).toNat=(h:Int)∧(gi q.p.notes (gi (Dy q t) i).toNat).d=(d:Int):=fun d M=>by
  obtain⟨w,u,V⟩:=(g d).1 M;obtain⟨x,j⟩:=eW _ V;obtain⟨i,h,m,s,J,q4,_⟩:=I w u x j;exact⟨i,h,m,s,J,q4⟩
 match D,g,c,B with
 |[],_,_,_=>rfl
 |[d],g,_,_ =>
  obtain⟨w,u,_⟩:=(g d).1 (by simp);show rW q.y (CQ (gi (F7 q (Dy q t) fun _=>true) d))=true;have f:∀(h:Nat) (P:Int→Bool),(∀x∈CQ (gi (F7 q (Dy q t) fun _=>true) d),P x=true→x∈JY q.p (Dy q t) (hasB l (h:Int)) (Dy q t).length)→((CQ (gi (F7 q (Dy q t) fun _=>true) d)).filter P).length≤(JY q.p (Dy q t) (hasB l (h:Int)) (Dy q t).length).length:=fun h P hP=>Ii ((L8 (GV _)).filter _) fun x j=>by
   obtain⟨O,T⟩:=eV.1 j;exact hP x O T
  have hL:∀x∈CQ (gi (F7 q (Dy q t) fun _=>true) d),decide (x∈JY q.p (Dy q t) (hasB l ((0:Nat):Int)) (Dy q t).length)=false→x∈JY q.p (Dy q t) (hasB l ((1:Nat):Int)) (Dy q t).length:=fun x j hb=>by
   obtain⟨i,h,m,s,J,q4,q5⟩:=I w u x j;obtain rfl|rfl:h=0∨h=1:=by omega
   ·exact absurd (by rw[← q5];exact G m J) (of_decide_eq_false hb)
   ·rw[← q5];exact G m J
  have X:=A 0 (by omega);have W:=A 1 (by omega);refine a9o y1.1 y3.1 (GV _) (fun x=>decide (x∈JY q.p (Dy q t) (hasB l ((0:Nat):Int)) (Dy q t).length)) ?_ ?_ ?_ ?_
  ·have:=f 0 _ fun x _ h=>of_decide_eq_true h
   have:=X.2.1;omega
  ·have:=f 1 (fun x=>!decide (x∈JY q.p (Dy q t) (hasB l ((0:Nat):Int)) (Dy q t).length)) fun x j h=>hL x j (by simpa using h)
   have:=W.2.1;omega
  ·exact fun a _ b _ m s=>X.2.2 a (of_decide_eq_true m) b (of_decide_eq_true s)
  ·exact fun a ha b hb m s=>W.2.2 a (hL a ha m) b (hL b hb s)
 |[d1,d2],g,c,B =>
  have C:d1≠d2:=fun e=>by rw[e] at c;simp at c
  have one:∀d d',d∈[d1,d2]→d'∈[d1,d2]→d≠d'→En q.y (CQ (gi (F7 q (Dy q t) fun _=>true) d)):=fun d d' M hd' C=>by
   obtain⟨w,u,V⟩:=(g d).1 M;obtain⟨i',h',R,q2',Q,q4'⟩:=B d' hd';obtain⟨i0,U,m,s,J,q4⟩:=B d M;have hh:∀{i h:Nat},i<(Dy q t).length→h<2→gi l (gi (Dy q t) i).toNat=(h:Int)→(gi q.p.notes (gi (Dy q t) i).toNat).d=(d:Int)→h=U:=fun{i h} Z w2 Y w4=>by
    have n1:h≠h':=fun e=>by
     subst e;have:=(A h w2).1 i i' Z R Y Q;omega
    have n2:U≠h':=fun e=>by
     subst e;have:=(A U s).1 i0 i' m R J Q;omega
    omega
   have f:∀x∈CQ (gi (F7 q (Dy q t) fun _=>true) d),x∈JY q.p (Dy q t) (hasB l (U:Int)) (Dy q t).length:=fun x j=>by
    obtain⟨i,h,Z,w2,Y,w4,w5⟩:=I w u x j;have:=hh Z w2 Y w4;subst this;rw[← w5];exact G Z Y
   have X:=A U s;refine⟨?_,(Ri (GV _) y3.1).2 fun x j z hz=>X.2.2 x (f x j) z (f z hz)⟩;have:=Ii (L8 (GV _)) f;have:=X.2.1;omega
  show(decide _&&decide _)=true;rw[decide_eq_true (one d1 d2 (by simp) (by simp) C),decide_eq_true (one d2 d1 (by simp) (by simp) (Ne.symm C))];rfl
 |d1::d2::d3::r,_,c,B =>
  exfalso;obtain⟨i1,O,a1,a2,a3,a4⟩:=B d1 (by simp);obtain⟨i2,T,b1,b2,b3,b4⟩:=B d2 (by simp);obtain⟨i3,h3,W,c2,c3,c4⟩:=B d3 (by simp);have n12:d1≠d2:=fun e=>by rw[e] at c;simp at c
  have n13:d1≠d3:=fun e=>by rw[e] at c;simp at c
  have n23:d2≠d3:=fun e=>by rw[e] at c;simp at c
  have e12:O≠T:=fun e=>by subst e;have:=(A O a2).1 i1 i2 a1 b1 a3 b3;omega
  have e13:O≠h3:=fun e=>by subst e;have:=(A O a2).1 i1 i3 a1 W a3 c3;omega
  have e23:T≠h3:=fun e=>by subst e;have:=(A T b2).1 i2 i3 b1 W b3 c3;omega
  omega
section
variable {q:Qu}{N:List Int}
theorem b5i(m:IQ q)(w:VB q N)(r:Apart q.p N){d:Nat}(A:Inc M)(o:En q.y M)(b:∀i,i<N.length→gi l (gi N i).toNat=h→(gi q.p.notes (gi N i).toNat).d=(d:Int)∧(gi q.p.notes (gi N i).toNat).k∈M):SE q N l h=true:=by
 have a:∀x∈JY q.p N (hasB l h) N.length,x∈M:=fun x c=>by
  obtain⟨i,C,B,rfl⟩:=(TB _).1 c;exact(b i C (of_decide_eq_true B)).2
 have f:(JY q.p N (hasB l h) N.length).Nodup:=by
  rw[← qX (d:=d) N.length fun i g e=>(b i g (of_decide_eq_true e)).1];exact XD r _ (ab _)
 refine(uj m w r).2 ⟨fun i j g u G F=>(b i g G).1.trans (b j u F).1.symm,?_,fun x c z s=>(Ri A m.y.hs.1).1 o.2 x (a x c) z (a z s)⟩;have:=Ii f a;have:=o.1;omega
theorem b4c(a:IQ q)(c:VB q N)(b:i<N.length)(g:FK q (gi N i).toNat=false):∃d:Nat,(gi q.p.notes (gi N i).toNat).d=(d:Int)∧d∈Kt q.o (F7 q N fun _=>true) q.o.Ae.length∧(gi q.p.notes (gi N i).toNat).k∈CQ (gi (F7 q N fun _=>true) d):=by
 have j:=c i b;have m:=(a.p.note (gi N i).toNat (by omega)).d;obtain⟨d,e⟩:∃d:Nat,(gi q.p.notes (gi N i).toNat).d=(d:Int):=⟨(gi q.p.notes (gi N i).toNat).d.toNat,by omega⟩
 have f:(gi q.p.notes (gi N i).toNat).k∈CQ (gi (F7 q N fun _=>true) d):=(KI a c (by omega)).2 ((PZ _).2 ⟨i,b,rfl,e,rfl⟩);refine⟨d,e,(RY _).2 ⟨by omega,?_,fun r=>?_⟩,f⟩
 ·rw[← aC e];omega
 grind
theorem b6x(s:IQ q)(w:VB q N)(G:Apart q.p N)(h:posB q.y q.o (F7 q N fun _=>true)=true):∃f:Nat→Int,(∀i,if FK q i=true then f i=2 else f i=0∨f i=1)∧∀l:List Int,(∀i,i<q.p.notes.length→gi l i=f i)→J4 q N l=true:=by
 have m:=fun(i:Nat) (a:i<N.length) j=>b4c s w (i:=i) a j
 have B:=UZ q.o (F7 q N fun _=>true) q.o.Ae.length;unfold posB at h;rw[cx] at h;obtain⟨T,b⟩:=h;have S:wO q N=true:=decide_eq_true (mg.2 (of_decide_eq_true T));have F:=iq s.y.hn.1 s.y.hs.1;generalize Kt q.o (F7 q N fun _=>true) q.o.Ae.length=D at *;have fin:∀(g:Nat→Bool) (C d1:Nat) (A z:List Int),Inc A→Inc z→En q.y A→En q.y z →
  (∀i,i<N.length→FK q (gi N i).toNat=false→if g (gi N i).toNat=true then(gi q.p.notes (gi N i).toNat).d=(C:Int)∧(gi q.p.notes (gi N i).toNat).k∈A else(gi q.p.notes (gi N i).toNat).d=(d1:Int)∧(gi q.p.notes (gi N i).toNat).k∈z) →
  ∃f:Nat→Int,(∀i,if FK q i=true then f i=2 else f i=0∨f i=1)∧∀l:List Int,(∀i,i<q.p.notes.length→gi l i=f i)→J4 q N l=true:=fun g C d1 A z Q P J I V=>by
  refine⟨fun i=>if FK q i=true then 2 else if g i=true then 0 else 1,fun i=>?_,fun l R=>?_⟩
  ·grind
  ·have K:∀i,i<N.length→∀h:Int,h=0∨h=1→gi l (gi N i).toNat=h→FK q (gi N i).toNat=false∧(h=0↔g (gi N i).toNat=true):=fun i a h U e=>by
    rw[R _ (by have:=w i a;omega)] at e;grind
   unfold J4;rw[S,Bool.and_true,cx];refine⟨b5i s w G Q J (d:=C) fun i a e=>?_,b5i s w G P I (d:=d1) fun i a e=>?_⟩
   ·grind
   grind
 match D,m,B,b with
 |[],m,_,_ =>
  refine fin (fun _=>true) 0 0 [] [] List.Pairwise.nil List.Pairwise.nil F F fun i a j=>?_
  grind
 |[d],m,_,b =>
  have b:rW q.y (CQ (gi (F7 q N fun _=>true) d))=true:=b;obtain⟨k,k1,O,M⟩:=xX.1 b;have a:=GV (gi (F7 q N fun _=>true) d);refine fin (fun i=>decide ((gi q.p.notes i).k∈(CQ (gi (F7 q N fun _=>true) d)).take k)) d d _ _ (cY (gF k _) a) (cY (List.drop_sublist k _) a) O M fun i a j=>?_
  obtain⟨x,e,h3,u⟩:=m i a j;obtain rfl:=aM.1 h3;split
  ·rename_i c;exact⟨e,of_decide_eq_true c⟩
  ·rename_i c
   refine⟨e,?_⟩;rw[← fS k (CQ (gi (F7 q N fun _=>true) x))] at u;exact(bt.1 u).resolve_left fun h=>c (decide_eq_true h)
 |[d1,d2],m,_,b =>
  have b:(decide (En q.y (CQ (gi (F7 q N fun _=>true) d1)))&&decide (En q.y (CQ (gi (F7 q N fun _=>true) d2))))=true:=b;rw[cx] at b;refine fin (fun i=>decide ((gi q.p.notes i).d=(d1:Int))) d1 d2 _ _ (GV _) (GV _) (of_decide_eq_true b.1) (of_decide_eq_true b.2) fun i a j=>?_
  obtain⟨x,e,h3,u⟩:=m i a j;by_cases c:(gi q.p.notes (gi N i).toNat).d=(d1:Int)
  ·rw[if_pos (decide_eq_true c)]
   obtain rfl:x=d1:=by omega
   exact⟨c,u⟩
  ·rw[if_neg (fun h=>c (of_decide_eq_true h))]
   have:x=d2:=by
    rcases bd.1 h3 with rfl|h3
    ·exact absurd e c
    ·exact aM.1 h3
   subst this;exact⟨e,u⟩
 |d1::d2::d3::r,_,_,b=>exact absurd b (by simp)
end
def n01(n:LM):LM:=⟨0,1,n.d,n.k⟩
def Lr(q:Qu)(N:List Int):Ez:=⟨[0,1],N.map fun i=>n01 (gi q.p.notes i.toNat),[]⟩
def Un(q:Qu)(N:List Int):Qu:=⟨q.o,Lr q N,q.y⟩
section
variable {q:Qu}{N:List Int}
theorem OZ:(Lr q N).notes.length=N.length:=aL _
theorem ND(a:i<N.length):gi (Lr q N).notes i=n01 (gi q.p.notes (gi N i).toNat):=by
 unfold Lr;simp only[gi,List.getElem?_map,List.getElem?_eq_getElem a];rfl
theorem b5o(b:IQ q)(m:VB q N)(g:Apart q.p N)(a:i<N.length):c2p q.o (Lr q N) i:=by
 have r:=m i a;have h:=b.p.note (gi N i).toNat (by omega);refine⟨?_,?_,?_,fun j s=>?_⟩
 ·rw[ND a];exact h.d
 ·rw[ND a];exact h.k
 ·rw[ND a];exact⟨bj _,(by decide:(0:Int)<1),bj _⟩
 ·rw[ND a,ND (show j<N.length by omega)]
  have f:=g j i (by omega) a (by omega);unfold jX;by_cases c:(gi q.p.notes (gi N j).toNat).d=(gi q.p.notes (gi N i).toNat).d
  ·have e:=f c
   simp[n01,c,e]
  ·simp[n01,c]
theorem d2z(a:IQ q)(k:VB q N)(j:Apart q.p N)(m:N.length≤1000):IQ (Un q N):=by
 have c:UM (Lr q N):=⟨by show 2<1000000;decide,by rw[OZ];omega,by show 0<1000000;decide,fun i b=>absurd b (bc _)⟩
 have g:QE [0,1]=0:=by
  unfold QE;rw[if_neg (by decide),if_neg (by decide),Xu (by decide),if_neg (by decide),if_neg (by decide),Xu (by decide),if_neg (by decide),if_neg (by decide)];exact wY [0,1]
 have d:Hr q.o (Ll (Lr q N)) (LW (Lr q N)) (Lr q N).notes 0=0:=RG (fun i b=>(Vj b).2 (b5o a k j (by rwa[OZ] at b))) _ 0 rfl;have e:WL q.o (Lr q N)=0:=by
  unfold WL;rw[if_neg (fun h=>h g),if_neg (by rw[OZ];omega),if_neg (fun h=>h d),if_neg (by show¬ 0>100;decide)];exact oP _ _ []
 have f:OT q.o (Lr q N)=0:=by
  unfold OT;rw[if_neg (fun h=>h a.o.err)];omega
 exact⟨a.o,f,d1f c e,a.y⟩
theorem a4z:DC (Lr q N)=[0,1]:=by
 refine aP (a5e _) (by unfold Inc;simp) fun x=>?_
 rw[ah,VT];constructor
 ·rintro(h|h|⟨i,a,h⟩)
  ·rw[h];simp[Lr,Ll,gi]
  ·rw[h];simp[Lr,LW,gi]
  ·rw[OZ] at a
   rw[ND a] at h;rcases h with h|h
   ·rw[h];simp[n01]
   ·rw[h];simp[n01]
 ·intro h
  rcases bd.1 h with rfl|h
  ·exact .inl rfl
  ·obtain rfl:=aM.1 h
   exact .inr (.inl rfl)
theorem dM:(Bc (Lr q N)).length=1:=by
 have:=VX (Lr q N);rw[a4z] at this;grind
def idL:Nat→List Int
 |0=>[]
 |k+1=>idL k++[(k:Int)]
theorem Z9:∀k,(idL k).length=k
 |0=>rfl
 |k+1=>by show(idL k++[(k:Int)]).length=_;rw[ar,Z9 k];rfl
theorem b6y:∀{k i:Nat},i<k→gi (idL k) i=(i:Int)
 |k+1,i,h=>by
  show gi (idL k++[(k:Int)]) i=_;by_cases c:i<k
  ·rw[NK (by rw[Z9];exact c),b6y c]
  ·obtain rfl:i=k:=by omega
   have e:=Z9 i;have:=Na (l:=idL i) (x:=(i:Int));grind
theorem a6g:∀k,(∀i,i<k→Xv p t i=true)→La p t k=idL k
 |0,_=>rfl
 |k+1,h=>by
  show(if Xv p t k=true then La p t k++[(k:Int)] else La p t k)=_;rw[if_pos (h k (by omega)),a6g k fun i a=>h i (by omega)];rfl
theorem c1y:Dy (Un q N) 0=idL N.length:=by
 rw[Px (Un q N) (t:=0) (by show 0<(Bc (Lr q N)).length;rw[dM];decide)];show snd (Lr q N) (gi (DC (Lr q N)) 0)=_;rw[a4z];unfold snd;rw[OZ,a6g];intro i a;unfold Xv;rw[ND a];rfl
theorem a5j:∀k,k≤N.length→V3 (Lr q N) (idL N.length) (fun _=>true) d k=V3 q.p N (fun _=>true) d k
 |0,_=>rfl
 |k+1,h=>by
  rw[FT,FT,a5j k (by omega),b6y (show k<N.length by omega),az,ND (show k<N.length by omega)];rfl
theorem a7g:F7 (Un q N) (Dy (Un q N) 0) (fun _=>true)=F7 q N fun _=>true:=by
 rw[c1y];refine Ld fun d _=>?_
 unfold VK;show Ul (V3 (Lr q N) (idL N.length) (fun _=>true) d (idL N.length).length) (V3 (Lr q N) (idL N.length) (fun _=>true) d (idL N.length).length).length=_;rw[Z9,a5j _ (ab _)]
theorem b7n{f:Nat→Int}(h:i<n):gi ((List.range n).map f) i=f i:=by
 unfold gi;grind
theorem one_pos(k:IQ q)(r:VB q N)(m:Apart q.p N)(d:N.length≤1000):Jc (Un q N) (Bc (Un q N).p).length≠[]↔posB q.y q.o (F7 q N fun _=>true)=true:=by
 have b:=d2z k r m d;have c:0<(Bc (Un q N).p).length:=by show 0<(Bc (Lr q N)).length;rw[dM];decide
 constructor
 ·intro h
  obtain⟨l,d⟩:=eW _ h;have j:=(Ku _ b l).1 d;have:=xC b c j.2.1 (j.2.2 0 c);rw[a7g] at this;exact this
 ·intro h
  have s:posB (Un q N).y (Un q N).o (F7 (Un q N) (Dy (Un q N) 0) fun _=>true)=true:=by rw[a7g];exact h
  obtain⟨f,f1,f2⟩:=b6x b (G7 c) (Tf b c) s;refine List.ne_nil_of_mem (a:=(List.range (Un q N).p.notes.length).map f) ((Ku _ b _).2 ⟨by simp,fun i g=>?_,fun t u=>?_⟩)
  ·rw[b7n g];grind
  ·obtain rfl:t=0:=by
    have e:(Bc (Un q N).p).length=1:=dM;omega
   exact f2 _ fun i g=>b7n g
end
def dvK(p:Ez)(N:List Int)(is:Nat→Bool):Nat→Int
 |0=>-1
 |k+1=>if is (gi N k).toNat=true then(gi p.notes (gi N k).toNat).d else dvK p N is k
theorem b7o{p:Ez}{N:List Int}{is:Nat→Bool}:∀k,dvK p N is k=-1∨∃i,i<k∧is (gi N i).toNat=true∧dvK p N is k=(gi p.notes (gi N i).toNat).d
 |0=>.inl rfl
 |k+1=>by
  show(if is (gi N k).toNat=true then(gi p.notes (gi N k).toNat).d else dvK p N is k)=-1∨_;by_cases c:is (gi N k).toNat=true
  ·exact .inr ⟨k,by omega,c,if_pos c⟩
  ·rw[if_neg c]
   rcases b7o (p:=p) (N:=N) (is:=is) k with h|⟨i,e,a,b⟩
   ·omega
   ·refine .inr ⟨i,by omega,a,?_⟩
    show(if is (gi N k).toNat=true then(gi p.notes (gi N k).toNat).d else dvK p N is k)=_;grind
theorem b6u(a:IQ q){N:List Int}(g:VB q N)(f:Apart q.p N)(c:SE q N l h=true)(b:k<N.length)(e:gi l (gi N k).toNat=h):¬ (0≤dvK q.p N (hasB l h) k∧(gi q.p.notes (gi N k).toNat).d≠dvK q.p N (hasB l h) k):=by
 rintro⟨s,r⟩;rcases b7o (p:=q.p) (N:=N) (is:=hasB l h) k with m|⟨i,m,j,o⟩
 ·omega
 ·have:=((uj a g f).1 c).1 i k (by omega) b (of_decide_eq_true j) e
  omega
theorem b9d(a:P k=true):∀r,r≤n→n-r≤k→k<n→Xy P n r≤k
 |0,_,h1,h2=>by omega
 |r+1,hr,h1,h2=>by
  unfold Xy;split
  ·omega
  ·rename_i c
   by_cases e:n-(r+1)=k
   ·grind
   ·exact b9d a r (by omega) (by omega) h2
theorem b0v(b:k<n)(a:P k=true):0≤Ey P n∧Ey P n≤k:=⟨Wy a n (ab _) (by omega) b,b9d a n (ab _) (by omega) b⟩
theorem fin_pos(b:IQ q)(h:l∈Jc q (Bc q.p).length)(a:t<(Bc q.p).length):posB q.y q.o (F7 q (Dy q t) fun _=>true)=true:=by
 have c:=(Ku q b l).1 h;exact xC b a c.2.1 (c.2.2 t a)
theorem a6o(b:IQ q)(h:l∈Jc q (Bc q.p).length)(a:t<(Bc q.p).length){e:Nat}(d:e<2):SE q (Dy q t) l (e:Int)=true:=by
 have c:=((Ku q b l).1 h).2.2 t a;unfold J4 at c;grind
def um(p:Ez)(N:List Int):Nat→List LM
 |0=>[]
 |k+1=>um p N k++[n01 (gi p.notes (gi N k).toNat)]
theorem a6s:∀k,(um p N k).length=k
 |0=>rfl
 |k+1=>by show(um p N k++[_]).length=_;rw[ar,a6s k];rfl
theorem yE:∀k,k≤N.length→um p N k=(N.take k).map fun i=>n01 (gi p.notes i.toNat)
 |0,_=>by rfl
 |k+1,h=>by
  have a:k<N.length:=by omega
  show um p N k++[_]=_;rw[yE k (by omega),List.take_add_one,bh];simp[gi,List.getElem?_eq_getElem a]
theorem c1e:um q.p N N.length=(Lr q N).notes:=by
 rw[yE _ (ab _),cd];rfl
theorem rQ(a:t<(Bc q.p).length):(Dy q t).length≤q.p.notes.length:=by
 rw[Px q a];exact OM q.p _ _
theorem c1p(a:IQ q)(d:VB q N)(c:Apart q.p N)(b:N.length≤1000):decide (Lib.decDigits (Jc (Un q N) (Bc (Un q N).p).length).length=[48])=!posB q.y q.o (F7 q N fun _=>true):=by
 have h:=one_pos a d c b;cases hp:posB q.y q.o (F7 q N fun _=>true) with
 |true =>
  refine decide_eq_false fun e=>?_
  exact h.2 hp (br ((fG _).1 e))
 |false =>
  refine decide_eq_true ((fG _).2 ?_);grind
attribute [local irreducible] Aa Ah Ai Ad AL Ak Bf BK Bj Aj Vm.Done Bv AP Nl Ba Cc Et GY F8 Hold Cb Bg D5 DU EF AV CB
theorem rP:Ak env 92 [] (.p (.bool true)):=by
 have h:=rJ;refine Ak.enter (Af (by decide)) Tryz.func92 rfl (by kernel_rfl) (by simp) ?_
 repeat' (first|refine a6 h ?_|refine go1 ?_|fail)
 all_goals(refine aa ?_;try rfl)
theorem o7:Ak env 48 [] (.p (.bool true)):=by
 have h:=rO;have a:=rP;refine Ak.enter (Af (by decide)) Tryz.func48 rfl (by kernel_rfl) (by simp) ?_
 repeat' (first|refine a6 h ?_|refine a6 a ?_|refine Fh ?_|fail)
 all_goals first|contradiction|(refine aa ?_;try rfl)
theorem qo:Ak env 15 [] (.p (.bool true)):=by
 have h:=a3m;have a:=o7;refine Ak.enter (Af (by decide)) Tryz.func15 rfl (by kernel_rfl) (by simp) ?_
 repeat' (first|refine a6 h ?_|refine a6 a ?_|refine Fh ?_|fail)
 all_goals first|contradiction|(refine aa ?_;try rfl)
theorem qj:GY env 4 [] (.p (.bool true)):=by
 have h:=tq;have a:=qo;refine GY.enter Tryz.func4 rfl (by kernel_rfl) (by rfl) (by simp) ?_
 repeat' (first|(refine Ba.at 1 ?_;apply ki)|(apply Cc.fn;rfl;rfl;exact h;exact qE;intro _;rfl)|apply eN|apply Ba.ret|apply hU|refine a6 a ?_|refine go2 ?_|(apply mB))
 all_goals first|contradiction|(refine aa ?_;try rfl)
theorem Wj:Am.Enters Tryz.prog 4:=⟨_,Tryz.func4,by rfl,by rfl⟩
theorem zG(q:Qu)(j:IQ q)(V:q.p.notes.length≤8){a:List Int}(T:a∈Jc q (Bc q.p).length)(w:t<(Bc q.p).length):Ak env 13 [.agg (Enc.enc q),.agg [.lst 3 (cells a) a.length,.int .i64 (NJ q a)],.agg (Enc.enc (gi (Bc q.p) t))] (.p (.bool true)):=by
 have F:a.length=q.p.notes.length:=((Ku q j a).1 T).1;have u:=G7 (q:=q) w;have G:=rQ (q:=q) w;have C:=fun(h:Nat) (g:h<2)=>a6o j T w g
 have P:=fun(h:Nat) (g:h<2) k=>b6u j u (Tf j w) (a6o j T w g) (k:=k)
 unfold Dy at *;generalize gi (Bc q.p) t=S at *;generalize NJ q a=ca at *;obtain⟨o,p,z⟩:=q;replace G:S.notes.length≤p.notes.length:=G;replace u:∀i,i<S.notes.length→0≤gi S.notes i∧gi S.notes i<p.notes.length:=u;replace V:p.notes.length≤8:=V;replace F:a.length=p.notes.length:=F;refine Ak.enter (Af (by decide)) Tryz.func13 rfl (by kernel_rfl) (by simp[Tryz.ntmps13]) ?_
 repeat' (first|refine go1 ?_|fail)
 all_goals try omega
 apply Ad.EY (2) [(3,_),(4,_),(5,_),(6,_)] [(0,_),(1,_),(2,_)] (fun k r=>(7,.p (.int .i64 (k:Int)))::r) (fun k r=>r) 3
 ·first|omega|decide
 ·first|omega|decide
 ·exact Ns
 ·exact O9
 ·intro c B
  have R:=C c B;have Q:∀k,k<S.notes.length→gi a (gi S.notes k).toNat=(c:Int)→¬ (0≤dvK p S.notes (hasB a (c:Int)) k∧(gi p.notes (gi S.notes k).toNat).d≠dvK p S.notes (hasB a (c:Int)) k):=P c B
  repeat' (first|(refine Ad.at 6 ?_;refine cb (iD 8 3 rfl) ?_;first|apply ce|apply da)|refine go0 ?_|apply ce|(apply a8;rfl)|(intro _;try omega))
  all_goals try omega
  apply Ad.EY (S.notes.length) [(3,_),(4,_),(5,_),(6,_),(7,_),(22,_),(23,_)] [(0,_),(1,_),(2,_)] (fun e r=>(24,.p (.int .i64 (e:Int)))::(9,.p (.int .i64 (dvK p S.notes (hasB a (c:Int)) e)))::(8,.vec 3 (JY p S.notes (hasB a (c:Int)) e).length 0 (JY p S.notes (hasB a (c:Int)) e).length)::r) (fun e r=>(3,.vec 3 (cells (JY p S.notes (hasB a (c:Int)) e)) (JY p S.notes (hasB a (c:Int)) e).length true)::r) 4
  ·first|omega|decide
  ·first|omega|decide
  ·exact Ns
  ·exact O9
  ·intro e A
   obtain⟨g1,g2⟩:=u e A;obtain⟨m,I⟩:∃m:Nat,gi S.notes e=(m:Int):=⟨(gi S.notes e).toNat,by omega⟩
   have Y:m<p.notes.length:=by omega
   have f:(gi S.notes e).toNat=m:=by omega
   have Z:=sD p S.notes (hasB a (c:Int)) e;have s:=Q e A;rw[f] at s;by_cases g:gi a m=(c:Int)
   ·have s:=s g
    have K:JY p S.notes (hasB a (c:Int)) (e+1)=JY p S.notes (hasB a (c:Int)) e++[(gi p.notes m).k]:=by
     show(if hasB a (c:Int) (gi S.notes e).toNat=true then _ else _)=_;rw[f,if_pos (show hasB a (c:Int) m=true from decide_eq_true g)]
    have U:dvK p S.notes (hasB a (c:Int)) (e+1)=(gi p.notes m).d:=by
     show(if hasB a (c:Int) (gi S.notes e).toNat=true then _ else _)=_;rw[f,if_pos (show hasB a (c:Int) m=true from decide_eq_true g)]
    have e3:(JY p S.notes (hasB a (c:Int)) (e+1)).length=(JY p S.notes (hasB a (c:Int)) e).length+1:=by rw[K,ar];rfl
    rw[e3,K,U];generalize JY p S.notes (hasB a (c:Int)) e=X at *;generalize dvK p S.notes (hasB a (c:Int)) e=D at *
    repeat' (first|(refine i7 4 ?_;apply Ai.weak [.tmp 12];decide +kernel;rfl;rfl;(first|exact Oi.ref rfl|exact Oi.vec rfl|exact Oi.Fb rfl);decide +kernel;rfl)|apply Ad.assoc|apply ce|apply Ad.region|apply ka|apply f9|apply jt|apply BK.normal|apply Bj.normal|apply Ah.nil|apply Ai.nil|apply c9|(apply Ai.bar;decide +kernel)|apply Ai.quiet|(apply Ah.take;rfl;rfl)|(apply Ah.drop;rfl;rfl;rfl)|(apply Ah.guard;rfl;rfl)|(apply dl (l:=a) (i:=m);rfl;exact congrArg (fun b=>some (PV.p (.int .i64 b))) I;rfl;omega;rfl)|(apply dl (l:=p.notes) (i:=m);rfl;exact congrArg (fun b=>some (PV.p (.int .i64 b))) I;rfl;omega;rfl)|refine d7 (l:=X) (a:=(gi p.notes m).k) ?_|(apply Aa.assign;rfl)|(apply Aa.move;rfl)|(apply jl;rfl;rfl;omega)|refine a7 ?_|refine b9 ?_|(apply Aa.load;rfl;rfl)|(apply lk;rfl;rfl)|(apply lv;rfl;rfl)|(apply e8;rfl;rfl;rfl)|(apply Aa.alloc;rfl)|refine d9 ?_|refine bi ?_|(apply cn;rfl)|(apply a8;rfl)|(intro _;try omega))
    all_goals try omega
    all_goals try contradiction
    all_goals
     refine Aj.normal ⟨by first|omega|decide,?_,?_⟩
     ·exact Dh
     ·exact DT
   ·have K:JY p S.notes (hasB a (c:Int)) (e+1)=JY p S.notes (hasB a (c:Int)) e:=by
     show(if hasB a (c:Int) (gi S.notes e).toNat=true then _ else _)=_;rw[f,if_neg (show¬ hasB a (c:Int) m=true from fun h=>g (of_decide_eq_true h))]
    have U:dvK p S.notes (hasB a (c:Int)) (e+1)=dvK p S.notes (hasB a (c:Int)) e:=by
     show(if hasB a (c:Int) (gi S.notes e).toNat=true then _ else _)=_;rw[f,if_neg (show¬ hasB a (c:Int) m=true from fun h=>g (of_decide_eq_true h))]
    rw[K,U];generalize JY p S.notes (hasB a (c:Int)) e=X at *;generalize dvK p S.notes (hasB a (c:Int)) e=D at *
    repeat' (first|(apply dl (l:=a) (i:=m);rfl;exact congrArg (fun b=>some (PV.p (.int .i64 b))) I;rfl;omega;rfl)|(apply dl (l:=p.notes) (i:=m);rfl;exact congrArg (fun b=>some (PV.p (.int .i64 b))) I;rfl;omega;rfl)|refine b9 ?_|refine Fh ?_|refine a7 ?_|(apply a8;rfl)|(intro _;try omega))
    all_goals try omega
    all_goals try contradiction
    refine Aj.normal ⟨by first|omega|decide,?_,?_⟩
    ·exact Dh
    ·exact DT
  ·have J:=a6p (q:=⟨o,p,z⟩) j u (is:=hasB a (c:Int)) (ab S.notes.length)
   have hAl:=sD p S.notes (hasB a (c:Int)) S.notes.length;have O:En z (CQ (Ul (JY p S.notes (hasB a (c:Int)) S.notes.length) (JY p S.notes (hasB a (c:Int)) S.notes.length).length)):=a4q (q:=⟨o,p,z⟩) j u R;replace J:∀i,i<(JY p S.notes (hasB a (c:Int)) S.notes.length).length→0≤gi (JY p S.notes (hasB a (c:Int)) S.notes.length) i∧gi (JY p S.notes (hasB a (c:Int)) S.notes.length) i≤127:=J;generalize JY p S.notes (hasB a (c:Int)) S.notes.length=X at *;generalize dvK p S.notes (hasB a (c:Int)) S.notes.length=D at *;have M:=SS X (by omega) J;have x:=wQ z j.y (Ul X X.length) (U5 J X.length (ab _));rw[decide_eq_true O] at x;generalize Ul X X.length=W at *
   repeat' (first|(refine eB 59 ?_;refine c7 (b6 58 rfl rfl) ?_)|apply ce|apply Ad.region|apply jx|apply BK.normal|apply Bj.normal|apply Bj.exit|apply Aj.exit|apply Ad.skip|apply Ah.nil|apply c9|(apply Ah.take;rfl;rfl)|refine a6 M ?_|refine a6 x ?_|(apply Aa.assign;rfl)|(apply Aa.move;rfl)|(apply jl;rfl;rfl;omega)|refine a7 ?_|(apply Aa.load;rfl;rfl)|(apply lv;rfl;rfl)|(apply e8;rfl;rfl;rfl)|(apply Aa.alloc;rfl)|refine d9 ?_|(apply Aa.not;rfl)|(apply Aa.extract;rfl;rfl)|(apply a8;rfl)|(apply b5;rfl)|(intro _;try omega))
   all_goals try omega
   all_goals try contradiction
   refine Aj.normal ⟨by first|omega|decide,?_,?_⟩
   ·exact Dh
   ·exact DT
 ·repeat' (first|refine Fj ?_|(apply cn;rfl))
  all_goals first|omega|contradiction|(refine aa ?_;try rfl)
end Go.Proofs.YthlffjlbidibdaaGreatDoor
namespace Go.Proofs.YthlffjlbidibdaaGreatDoor
open Go Go.Am Go.Vm Go.Pie Go.Sch
attribute [local irreducible] Aa Ah Ai Ad AL Ak Bf BK Bj Aj Vm.Done Bv AP Nl
theorem SA.c6s(h:SA o)(hi:i<o.Ae.length):0≤(gi o.Ae i).lo∧(gi o.Ae i).lo≤(gi o.Ae i).hi∧(gi o.Ae i).hi≤127:=by
 have a:=h.err;unfold Ur at a;split at a
 ·exact absurd a (by decide)
 split at a
 ·exact absurd a (by decide)
 split at a
 ·rename_i b;exact absurd a b
 split at a
 ·exact absurd a (by decide)
 split at a
 ·exact absurd a (by decide)
 split at a
 ·rename_i b;exact absurd a b
 rename_i c;have c:GK o.ranks o.Ae 0=0:=bx c;have:=Tm _ 0 rfl c i (ao _) hi;unfold DU at this;split at this
 ·rename_i b;exact absurd this b
 rename_i b;have b:=bx b;unfold XK at b;split at b
 ·exact absurd b (by decide)
 omega
attribute [local irreducible] Cb Bg D5 DU EF AV CB
def a2k(d:tV):Gj:=qQ d.lo.toNat ((d.hi-d.lo).toNat+1)
theorem b1t(a:SA o)(b:d<o.Ae.length):Ak env 34 [.agg [.int .i64 (gi o.Ae d).lo,.int .i64 (gi o.Ae d).hi]] (.DK [.p (.agg (Enc.enc (a2k (gi o.Ae d)))),.p (.int .i64 0)]):=by
 obtain⟨f,e,c⟩:=a.c6s b;have h:=zk (gi o.Ae d).lo.toNat ((gi o.Ae d).hi-(gi o.Ae d).lo).toNat (by omega);rw[show(((gi o.Ae d).lo.toNat:Nat):Int)=(gi o.Ae d).lo by omega,show(((gi o.Ae d).lo.toNat+((gi o.Ae d).hi-(gi o.Ae d).lo).toNat:Nat):Int)=(gi o.Ae d).hi by omega] at h;exact h
theorem c1n(a:SA o)(b:d<o.Ae.length):(a2k (gi o.Ae d)).Ok:=by
 obtain⟨f,e,c⟩:=a.c6s b;exact qx _ (by omega)
theorem a7c(a:IQ q)(c:VB q N)(b:d<q.o.Ae.length):b6q (gi (F7 q N is) d) (a2k (gi q.o.Ae d))=true:=by
 obtain⟨w,u,s⟩:=a.o.c6s b;refine(b8n (bH a c is b)).2 fun m e h=>?_
 have f:((m:Nat):Int)∈CQ (gi (F7 q N is) d):=SQ.2 ⟨m,e,rfl,h⟩;obtain⟨i,g,_,y,x⟩:=(PZ _).1 ((KI a c b).1 f);have j:=c i g;have r:=(a.p.note (gi N i).toNat (by omega)).k;unfold a2k;rw[zN m e _ (by omega)];grind
theorem zA(o:FZ)(K:List Gj):∀n,(FW o K n).length≤n
 |0=>ab _
 |n+1=>by
  have:=zA o K n;have e:FW o K (n+1)=if(gi o.Ae n).FY=true then FW o K n++[gi K n] else FW o K n:=rfl
  grind
theorem xH(o:FZ)(K:List Gj):∀n,(Kt o K n).length≤n
 |0=>ab _
 |n+1=>by
  have:=xH o K n;have e:Kt o K (n+1)=if(gi o.Ae n).FY=true then Kt o K n else if CQ (gi K n)=[] then Kt o K n else Kt o K n++[n]:=rfl
  grind
theorem a5m{o:FZ}:∀n,(∀d,d<n→(gi K d).Ok)→∀i,i<(FW o K n).length→(gi (FW o K n) i).Ok
 |0,_,i,a=>absurd a (bc _)
 |n+1,h,i,a=>by
  have b:=a5m (o:=o) n fun d f=>h d (by omega)
  have e:FW o K (n+1)=if(gi o.Ae n).FY=true then FW o K n++[gi K n] else FW o K n:=rfl
  rw[e] at a ⊢;split at a
  ·rename_i c
   rw[if_pos c];rw[ar] at a;have a:i<(FW o K n).length+1:=a;by_cases g:i<(FW o K n).length
   ·rw[NK g];grind
   ·obtain rfl:i=(FW o K n).length:=by omega
    rw[Na];grind
  grind
def vP(o:FZ)(K:List Gj)(n:Nat):List (List Int):=(Kt o K n).map fun d=>CQ (gi K d)
theorem b3b(o:FZ)(K:List Gj)(k:Nat):vP o K (k+1)=if(gi o.Ae k).FY=true then vP o K k else if CQ (gi K k)=[] then vP o K k else vP o K k++[CQ (gi K k)]:=by
 unfold vP;have e:Kt o K (k+1)=if(gi o.Ae k).FY=true then Kt o K k else if CQ (gi K k)=[] then Kt o K k else Kt o K k++[k]:=rfl
 grind
def mtB(y:Nu):List (List Int)→Bool
 |[]=>true
 |[a]=>rW y a
 |[a,b]=>decide (En y a)&&decide (En y b)
 |_=>false
theorem c1r(y:Nu)(o:FZ)(K:List Gj):posB y o K=(decide (Qy y (FW o K o.Ae.length))&&mtB y (vP o K o.Ae.length)):=by
 rfl
theorem b3w:∀x∈CQ s,0≤x∧x≤127:=fun x a=>by
 obtain⟨n,b,rfl,_⟩:=SQ.1 a;omega
theorem UG(y:Nu)(W:y.Ok)(o:FZ)(G:SA o)(K:List Gj)(hKl:K.length=o.Ae.length)(g:∀d,d<o.Ae.length→(gi K d).Ok)(O:∀d,d<o.Ae.length→b6q (gi K d) (a2k (gi o.Ae d))=true) :
 Ak Gv 11 [.agg (Enc.enc y),.lst 114 (cells o.Ae) o.Ae.length,.lst 106 (cells K) K.length] (.DK [.p (.bool (posB y o K)),.p (.int .i64 0)]):=by
 have d1:=G.Ae;have B:=Js y;rw[ak W] at B;have B:=Nw B;have m:=zA o K;have e:=Nw (fF y (FW o K o.Ae.length) (by have:=m o.Ae.length;omega) (a5m (o:=o) (K:=K) o.Ae.length g));have s:∀k,(vP o K k).length≤k:=fun k=>by unfold vP;rw[aL];exact xH o K k
 have f:∀a∈vP o K o.Ae.length,0<a.length∧a.length≤128∧∀x∈a,0≤x∧x≤127:=fun a w=>by
  obtain⟨d,hd,rfl⟩:=ba.1 w;exact⟨dp.2 ((RY _).1 hd).2.2,TA _,b3w⟩
 rw[c1r];refine Ak.enter (E:=Gv) (TQ (by decide)) Tryz.func11 rfl (by kernel_rfl) (by simp[Tryz.ntmps11]) ?_
 repeat' (first|(refine Ad.at 8 ?_;refine cb ((iD 9 41 rfl).trans (iD 10 106 rfl)) ?_;first|apply ce|apply da)|refine a6 B ?_|refine go2 ?_|apply ce|refine a7 ?_|(apply cn;rfl)|(apply a8;rfl)|(intro _;try omega))
 all_goals try omega
 all_goals try contradiction
 apply Ad.EY (o.Ae.length) [(2,_),(3,_),(25,_),(26,_)] [(0,_)] (fun k r=>(27,.p (.int .i64 (k:Int)))::(9,.vec 1 (vP o K k).length 0 (vP o K k).length)::(10,.vec 2 (FW o K k).length 0 (FW o K k).length)::r) (fun k r=>(1,.vec 41 (cells (vP o K k)) (vP o K k).length true)::(2,.vec 106 (cells (FW o K k)) (FW o K k).length true)::r) 3
 ·first|omega|decide
 ·first|omega|decide
 ·exact Ns
 ·exact O9
 ·intro k u
  have F:=Nw (b1t G u);have z:=Nw (uI (gi K k) (a2k (gi o.Ae k)) (g k u) (c1n G u));rw[O k u] at z;have A:=Nw (dP (gi K k) (g k u));have I:=c8f (Q9 (g k u).lo (g k u).hi);have I:Bf Gv 37 [.agg (Enc.enc (gi K k))] 3 (cells (CQ (gi K k))) (CQ (gi K k)).length _:=I;have hmk:=s k;have hpk:=m k;have U:FW o K (k+1)=if(gi o.Ae k).FY=true then FW o K k++[gi K k] else FW o K k:=rfl
  have hle:=TA (gi K k);rw[b3b,U];clear U e f s m;generalize a2k (gi o.Ae k)=rq at *;by_cases j:(gi o.Ae k).FY=true
  ·rw[if_pos j,if_pos j]
   generalize vP o K k=M at *;generalize FW o K k=X at *;have Q:(X++[gi K k]).length=X.length+1:=by rw[ar];rfl
   rw[Q]
   repeat' (first|refine a6 F ?_|refine a6 z ?_|refine a6 A ?_|refine d7 (l:=X) (a:=gi K k) ?_|refine b9 ?_|refine KP ?_|apply j6|refine a7 ?_|refine bi ?_|(apply a8;rfl)|(apply b5;rfl)|(apply c8;rfl)|(apply Ad.cond;rfl)|(intro _;try omega))
   all_goals try omega
   all_goals try contradiction
   all_goals try exact absurd (j.symm.trans ‹(gi o.Ae k).FY=false›) (by decide)
   refine Aj.normal ⟨by first|omega|decide,?_,?_⟩
   ·exact Dh
   ·exact DT
  ·rw[if_neg j,if_neg j]
   replace j:(gi o.Ae k).FY=false:=by simpa using j
   by_cases C:CQ (gi K k)=[]
   ·rw[if_pos C]
    rw[C] at A;generalize vP o K k=M at *;generalize FW o K k=X at *
    repeat' (first|refine a6 F ?_|refine a6 z ?_|refine a6 A ?_|refine b9 ?_|refine d7 ?_|refine KP ?_|apply j6|refine a7 ?_|refine bi ?_|(apply a8;rfl)|(apply b5;rfl)|(apply Ad.cond;rfl)|(intro _;try omega))
    all_goals try omega
    all_goals try contradiction
    all_goals try exact absurd (j.symm.trans ‹(gi o.Ae k).FY=true›) (by decide)
    refine Aj.normal ⟨by first|omega|decide,?_,?_⟩
    ·exact Dh
    ·exact DT
   ·rw[if_neg C]
    have P:0<(CQ (gi K k)).length:=dp.2 C;generalize vP o K k=M at *;generalize FW o K k=X at *;generalize CQ (gi K k)=Y at *;have Q:(M++[Y]).length=M.length+1:=by rw[ar];rfl
    rw[Q]
    repeat' (first|(refine eB 73 ?_;refine c7 (b6 72 rfl rfl) ?_)|apply ce|apply da|apply Ad.region|apply f9|apply jt|apply BK.normal|apply Bj.normal|apply j6|apply Ah.nil|apply Ai.nil|apply c9|(apply Ai.bar;decide +kernel)|apply Ai.quiet|refine a6 F ?_|refine a6 z ?_|refine a6 A ?_|(apply jz;rfl;rfl;exact I)|refine d7 (l:=M) (a:=Y) ?_|(apply Aa.assign;rfl)|(apply Aa.move;rfl)|(apply jl;rfl;rfl;omega)|refine a7 ?_|refine b9 ?_|(apply Aa.load;rfl;rfl)|(apply e8;rfl;rfl;rfl)|(apply Aa.alloc;rfl)|refine d9 ?_|refine bi ?_|(apply Aa.not;rfl)|(apply Aa.extract;rfl;rfl)|refine d7 ?_|(apply a8;rfl)|(apply b5;rfl)|(apply c8;rfl)|(apply Ad.cond;rfl)|(intro _;try omega))
    all_goals try omega
    all_goals try contradiction
    all_goals try exact absurd (j.symm.trans ‹(gi o.Ae k).FY=true›) (by decide)
    refine Aj.normal ⟨by first|omega|decide,?_,?_⟩
    ·exact Dh
    ·exact DT
 ·clear s
  generalize vP o K o.Ae.length=M at *;generalize FW o K o.Ae.length=X at *;by_cases T:Qy y X;all_goals first|rw[decide_eq_true T] at e ⊢|rw[decide_eq_false T] at e ⊢
  ·rw[cQ]
   match M,f with
   |[],_ =>
    have J:([]:List (List Int)).length=0:=rfl
    repeat' (first|(refine Ad.at 21 ?_;refine cb (b6 10 rfl rfl) ?_;first|apply ce|apply da)|refine a6 e ?_|(apply eC;rfl;rfl;rfl)|refine go2 ?_|apply ce|refine a7 ?_|(apply cn;rfl)|(apply a8;rfl)|(apply b8;rfl)|(intro _;try omega))
    all_goals first|omega|contradiction|(refine aa ?_;try rfl)
   |[a],f =>
    have J:([a]:List (List Int)).length=1:=rfl;obtain⟨V,S,R⟩:=f a (by simp);have Z:=b8v y a V S R;show Ad Gv _ _ _ _ _ _
    repeat' (first|(refine Ad.at 21 ?_;refine cb (b6 10 rfl rfl) ?_;first|apply ce|apply da)|(refine Ad.at 27 ?_;refine cb (b6 9 rfl rfl) ?_;first|apply ce|apply da)|refine a6 e ?_|refine a6 Z ?_|(apply dl (l:=[a]) (i:=0);rfl;rfl;rfl;exact AZ rfl;rfl)|(apply eC;rfl;rfl;rfl)|refine go2 ?_|apply ce|refine a7 ?_|(apply cn;rfl)|(apply a8;rfl)|(apply b8;rfl)|(apply b5;rfl)|(intro _;try omega))
    all_goals first|omega|contradiction|(refine aa ?_;try rfl)
   |[a,b],f =>
    have J:([a,b]:List (List Int)).length=2:=rfl;obtain⟨V,S,R⟩:=f a (by simp);obtain⟨b1,b2,b3⟩:=f b (by simp);have w:=Nw (jm y a S R);have hb:=Nw (jm y b b2 b3);show Ad Gv _ _ _ _ _ _;rw[show mtB y [a,b]=(decide (En y a)&&decide (En y b)) from rfl];by_cases P:En y a;all_goals first|rw[decide_eq_true P] at w ⊢|rw[decide_eq_false P] at w ⊢
    all_goals first|rw[cQ]|rw[dj]
    all_goals
     repeat' (first|(refine Ad.at 21 ?_;refine cb (b6 10 rfl rfl) ?_;first|apply ce|apply da)|(refine Ad.at 29 ?_;refine cb (b6 9 rfl rfl) ?_;first|apply ce|apply da)|refine a6 e ?_|refine a6 w ?_|refine a6 hb ?_|(apply dl (l:=[a,b]) (i:=0);rfl;rfl;rfl;exact AZ rfl;rfl)|(apply dl (l:=[a,b]) (i:=1);rfl;rfl;rfl;exact AZ rfl;rfl)|(apply eC;rfl;rfl;rfl)|refine go2 ?_|apply ce|refine a7 ?_|(apply cn;rfl)|(apply a8;rfl)|(apply b8;rfl)|(apply b5;rfl)|(intro _;try omega))
     all_goals first|omega|contradiction|(refine aa ?_;try rfl)
   |a::b::c::r,_ =>
    have J:(a::b::c::r).length=r.length+3:=rfl
    repeat' (first|(refine Ad.at 21 ?_;refine cb (b6 10 rfl rfl) ?_;first|apply ce|apply da)|refine a6 e ?_|(apply eC;rfl;rfl;rfl)|refine go2 ?_|apply ce|refine a7 ?_|(apply cn;rfl)|(apply a8;rfl)|(apply b5;rfl)|(intro _;try omega))
    all_goals first|omega|contradiction|(refine aa ?_;try rfl)
  ·rw[dj]
   repeat' (first|(refine Ad.at 21 ?_;refine cb (b6 10 rfl rfl) ?_;first|apply ce|apply da)|refine a6 e ?_|refine go2 ?_|apply ce|refine a7 ?_|(apply ei;rfl)|(apply a8;rfl)|(intro _;try omega))
   all_goals first|omega|contradiction|(refine aa ?_;try rfl)
theorem ZG(q:Qu)(a:IQ q)(P:Nat→Bool)(x:P=fun i=>!posB q.y q.o (F7 q (Dy q i) fun _=>true)):Ak Gv 9 [.agg (Enc.enc q)] (.DK [.p (.int .i64 (max (Ey P (Bc q.p).length) 0)),.p (.bool (decide (0≤Ey P (Bc q.p).length))),.p (.int .i64 0)]):=by
 have m:=QZ q a.o.sm a.p.sm;rw[a0t a] at m;have m:=Nw m;have B:=Nw (LP q a);have A:=Qk q.p;have C:=a.p.notes;have z:∀k,k<(Bc q.p).length→Ej Gv 29 [.p (.agg (Enc.enc q)),.p (.lst 3 (cells (Dy q k)) (Dy q k).length),.clo 30 [] []] [] 0 (.lst 106 (cells (F7 q (Dy q k) fun _=>true)) (F7 q (Dy q k) fun _=>true).length):=fun k b=>d0w (a2l q a _ (G7 b) (bV a b))
 have f:∀k,k<(Bc q.p).length→Ak Gv 11 [.agg (Enc.enc q.y),.lst 114 (cells q.o.Ae) q.o.Ae.length,.lst 106 (cells (F7 q (Dy q k) fun _=>true)) (F7 q (Dy q k) fun _=>true).length] (.DK [.p (.bool (!P k)),.p (.int .i64 0)]):=fun k b=>by
  have:=UG q.y a.y q.o a.o (F7 q (Dy q k) fun _=>true) (Po _ _ _) (fun d u=>bH a (G7 b) _ u) (fun d u=>a7c a (G7 b) u);rw[x,Bool.not_not];exact this
 clear x;unfold Dy at z f;generalize Bc q.p=S at *;refine Ak.enter (E:=Gv) (TQ (by decide)) Tryz.func9 rfl (by kernel_rfl) (by simp[Tryz.ntmps9]) ?_
 repeat' (first|refine a6 m ?_|refine a6 B ?_|refine go1 ?_|refine a7 ?_|(apply cn;rfl))
 all_goals try omega
 all_goals try contradiction
 apply Ad.Jy (S.length) (fun k=>Xy P S.length (S.length-k)=Ey P S.length) [(1,_),(16,_),(17,_)] [(0,_)] (fun k r=>(18,.p (.int .i64 (k:Int)))::r) (fun k r=>r) 1
 ·first|omega|decide
 ·first|omega|decide
 ·exact Ns
 ·exact O9
 ·first|(intro _ _;omega)|omega|trivial
 ·intro k b j
  have g:=z k b;have c:=f k b;by_cases s:P k=true
  ·rw[s] at c
   have w:Ey P S.length=(k:Int):=by rw[← j,rM b s]
   rw[w,decide_eq_true (by omega),Int.max_eq_left (by omega)]
   repeat' (first|(apply lf g;rfl;rfl;exact .of_eq rfl;exact eA rfl)|refine a6 c ?_|refine b9 ?_|refine KP ?_|refine a7 ?_|(apply cn;rfl)|(apply a8;rfl)|(apply b8;rfl)|(intro _;try omega))
   all_goals first|omega|contradiction|(refine aa ?_;try rfl)
  ·have e:P k=false:=by simpa using s
   rw[e] at c
   repeat' (first|(apply lf g;rfl;rfl;exact .of_eq rfl;exact eA rfl)|refine a6 c ?_|refine b9 ?_|refine KP ?_|refine a7 ?_|(apply cn;rfl)|(apply a8;rfl)|(apply b5;rfl)|(intro _;try omega))
   all_goals try omega
   all_goals try contradiction
   refine Aj.normal ⟨((iF b e).symm.trans j),by first|omega|decide,?_,?_⟩
   ·exact Dh
   ·exact DT
 ·intro j
  have w:Ey P S.length=-1:=by rw[← j,cW];rfl
  rw[w]
  repeat' (first|refine Fj ?_|(apply a8;rfl)|(intro _;try omega))
  all_goals first|omega|(refine aa ?_;try rfl)
end Go.Proofs.YthlffjlbidibdaaGreatDoor
