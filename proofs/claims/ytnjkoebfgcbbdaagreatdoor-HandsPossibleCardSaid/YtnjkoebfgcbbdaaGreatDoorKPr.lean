/-
  Texts of a proof, merged (HanPa, HanPb, Wm7, HanPc, HanPp, HanPo, HanPl). Conditions: in each statement.
-/
import Derived.Deep.QuietTactic
import Derived.BigQuiet
import Derived.Stop.RegionWithIn
import Derived.BigRegionIn
import Derived.Test.YtnjkoebfgcbbdaaGreatDoorKPq
set_option linter.unusedSimpArgs false
set_option linter.unusedVariables false
set_option linter.unusedSectionVars false
set_option maxRecDepth 100000
set_option maxHeartbeats 8000000
abbrev fk:=@List.Pairwise.sublist
abbrev gp:=@List.exists_mem_of_ne_nil
namespace Go.Proofs.YtnjkoebfgcbbdaaGreatDoor
open Go Go.Am Go.Vm Go.Pie Go.Sch Go.RowKit
theorem a8e(b off n cap:Nat)(zs:List Int)(hn:zs.length=n)(h0:0<n)(hz:∀i,i<n→0≤gi zs i∧gi zs i≤127)(hb:n≤1000)(w:World)(hc:∀j,j<n→w.cell? ⟨b,off+j,none⟩=some (.int .i64 (gi zs j))) :
 Calls Tryz.prog 106 #[.slice (some ⟨b,off,none⟩) n cap] w fun e w'=>e=.returned (.int .i64 (wid zs))∧∃k,w'=w.drewN k:=by
 have c0:=hc 0 h0;have c1:=hc (n-1) (by omega);rw[dq] at c0;have z0:=hz 0 h0;have z1:=hz (n-1) (by omega);have hw:wid zs=gi zs (n-1)-gi zs 0:=by unfold wid;rw[if_neg (by omega),hn]
 rw[hw];generalize gi zs (n-1)=x at *;generalize gi zs 0=y at *;have e1:IntKind.i64.wrap ((n:Int)-1)=(n:Int)-1:=by rw[Md (by omega) (by omega)]
 have e2:IntKind.i64.wrap (x-y)=x-y:=Md (by omega) (by omega);have c1':w.cell? ⟨b,off+((n:Int)-1).toNat,none⟩=some (.int .i64 x):=by rw[show((n:Int)-1).toNat=n-1 by omega];exact c1
 have i1:0≤(n:Int)-1∧(n:Int)-1<n:=by omega
 have i2:(0:Int)<n:=by omega
 have hn0:¬ ((n:Int)=0):=by omega
 go_enter Tryz.func106,Tryz.ntmps106
 go_wp2
 go_quiet (fail)
 go_wp2
 go_ret
 exact⟨rfl,_,rfl⟩
theorem a0m(a:Option Addr)(cap:Nat)(w:World):Calls Tryz.prog 106 #[.slice a 0 cap] w fun e w'=>e=.returned (.int .i64 0)∧∃k,w'=w.drewN k:=by
 go_wp2
 go_ret
 exact⟨rfl,0,rfl⟩
theorem a4l(b off n cap:Nat)(zs:List Int)(c:zs.length=n)(a:∀i,i<n→0≤gi zs i∧gi zs i≤127)(f:n≤1000)(w:World)(d:∀j,j<n→w.cell? ⟨b,off+j,none⟩=some (.int .i64 (gi zs j))) :
 Calls Tryz.prog 106 #[.slice (some ⟨b,off,none⟩) n cap] w fun e w'=>e=.returned (.int .i64 (wid zs))∧∃k,w'=w.drewN k:=by
 rcases bp n with h0|h0
 ·subst h0
  have:wid zs=0:=by unfold wid;omega
  rw[this];exact a0m _ cap w
 ·exact a8e b off n cap zs c h0 a f w d
theorem a0i{w:World}{o:Obj}{a:Addr}{v:Value}(h:w.cell? a=some v):(w.alloc o).cell? a=some v:=by
 unfold World.cell? at h ⊢;rcases aq a.block w.heap.size with hb|hb
 ·rw[Below.heap_alloc _ _ _ hb];exact h
 grind
theorem a9n(y:Na)(b off n cap:Nat)(zs:List Int)(hn:zs.length=n)(hz:∀i,i<n→0≤gi zs i∧gi zs i≤127)(hb:n≤1000)(w:World)(hc:∀j,j<n→w.cell? ⟨b,off+j,none⟩=some (.int .i64 (gi zs j))) :
 Calls Tryz.prog 60 #[.agg #[.int .i64 y.hn,.int .i64 y.hs,.int .i64 y.fn,.int .i64 y.fs],.slice (some ⟨b,off,none⟩) n cap] w fun e w'=>e=.returned (.bool (decide (EH y zs)))∧Below w.heap.size w w':=by
 have e0:decide (EH y zs)=(decide ((n:Int)≤y.hn)&&decide (wid zs≤y.hs)):=by rw[eh];simp[EH,hn]
 rw[e0]
 go_enter Tryz.func60,Tryz.ntmps60
 go_wp2
 obtain⟨W0,hW0⟩:∃W0,w.alloc (.cells #[.int .i64 y.hn,.int .i64 y.hs,.int .i64 y.fn,.int .i64 y.fs] 34)=W0:=⟨_,rfl⟩
 have hB0:Below w.heap.size w W0:=by rw[← hW0];exact(Below.refl _ w).alloc (ab _) _
 have g0:W0.heap[w.heap.size]?=some (.cells #[.int .i64 y.hn,.int .i64 y.hs,.int .i64 y.fn,.int .i64 y.fs] 34 (0,0)):=by rw[← hW0];exact World.alloc_heap_new w _
 have hc0:∀j,j<n→W0.cell? ⟨b,off+j,none⟩=some (.int .i64 (gi zs j)):=fun j hj=>by rw[← hW0];exact a0i (hc j hj)
 have q0:W0.cell? ⟨w.heap.size,0,none⟩=some (.int .i64 y.hn):=by simp[World.cell?,g0]
 have q1:W0.cell? ⟨w.heap.size,1,none⟩=some (.int .i64 y.hs):=by simp[World.cell?,g0]
 rw[hW0];clear hW0;by_cases h1:(n:Int)≤y.hn
 ·have hd:=decide_eq_true h1
  go_quiet ((go_at_call 106;refine Calls.quiet_of (a4l b off n cap zs hn hz hb _ ?_);intro j hj;rw[World.cell?_drewN];exact hc0 j hj))
  go_wp2
  go_ret
  exact⟨by simp[hd],hB0.os,hB0.tape,hB0.output,hB0.size,hB0.block⟩
 ·have hd:=decide_eq_false h1
  go_quiet (fail)
  go_wp2
  go_ret
  exact⟨by simp[hd],hB0.os,hB0.tape,hB0.output,hB0.size,hB0.block⟩
def Wj(y:Na)(l:List Int):Nat→List Nat
 |0=>[]
 |k+1=>if EH y (l.take k)∧EH y (l.drop k) then Wj y l k++[k] else Wj y l k
def EK(y:Na)(l:List Int):List (List Value):=(Wj y l (l.length+1)).map fun(k:Nat)=>[Value.int .i64 (k:Int)]
def Jr(y:Na)(l:List Int):Value:=.agg #[.int .i64 y.hn,.int .i64 y.hs,.int .i64 y.fn,.int .i64 y.fs,.agg (l.map Go.encZ).toArray]
def Uo:List Value→Option (List Int)
 |[]=>some []
 | .int .i64 n::l=>if 0≤n∧n≤127 then(Uo l).map (n::·) else none
 |_::_=>none
theorem ZU:∀{l:List Value} {zs:List Int},Uo l=some zs→l=zs.map Go.encZ∧∀x∈zs,0≤x∧x≤127
 |[],_,h=>by cases h;simp
 |v::l,zs,h=>by
  unfold Uo at h;split at h
  ·grind
  ·rename_i n d b
   cases b;split at h
   ·rename_i e
    rw[ae] at h;obtain⟨a,c,rfl⟩:=h;obtain⟨g,f⟩:=ZU c;grind
   grind
  grind
theorem XT:∀{zs:List Int},(∀x∈zs,0≤x∧x≤127)→Uo (zs.map Go.encZ)=some zs
 |[],_=>rfl
 |n::zs,h=>by
  show Uo (.int .i64 n::zs.map Go.encZ)=_;unfold Uo;rw[if_pos (h n (by simp)),XT fun a b=>h a (by grind)];rfl
def NH:SqF:=fun lb m=>match lb with
 |[.pointer (some ⟨b1,0,none⟩),.pointer (some ⟨b2,0,none⟩)]=>match m.get b1,m.get b2 with
  | .cells [.slice a n g] _ 0 false,.cells [.int .i64 hn,.int .i64 hs,.int .i64 fn,.int .i64 fs] _ 0 false=>match BM m 1 n (.slice a n g) with
   |some l=>match Uo l with
    |some zs=>if 0<n∧n≤128 then some (Jr ⟨hn,hs,fn,fs⟩ zs,EK ⟨hn,hs,fn,fs⟩ zs) else none
    |none=>none
   |none=>none
  |_,_=>none
 |_=>none
theorem aW{lb:List Value}{m:Mem}{kr:Value×List (List Value)}(h:NH lb m=some kr):∃b1 b2 a n g y l zs e1 e2,lb=[.pointer (some ⟨b1,0,none⟩),.pointer (some ⟨b2,0,none⟩)]∧m.get b1=.cells [.slice a n g] e1 0 false ∧
 m.get b2=.cells [.int .i64 y.hn,.int .i64 y.hs,.int .i64 y.fn,.int .i64 y.fs] e2 0 false∧BM m 1 n (.slice a n g)=some l∧l=zs.map Go.encZ∧(∀x∈zs,0≤x∧x≤127)∧0<n∧n≤128∧kr=(Jr y zs,EK y zs):=by
 unfold NH at h;split at h
 ·rename_i b1 b2
  split at h
  ·rename_i a n g e1 hn hs fn fs e2 j i
   split at h
   ·rename_i l f
    split at h
    ·rename_i zs e
     split at h
     ·rename_i b
      cases h;obtain⟨d,c⟩:=ZU e;exact⟨b1,b2,a,n,g,⟨hn,hs,fn,fs⟩,l,zs,e1,e2,rfl,j,i,f,d,c,b.1,b.2,rfl⟩
     ·cases h
    ·cases h
   ·cases h
  ·cases h
 grind
theorem encZ_inj:∀{a b:List Int},a.map Go.encZ=b.map Go.encZ→a=b
 |[],[],_=>rfl
 |[],_::_,h=>by cases h
 |_::_,[],h=>by cases h
 |x::a,y::b,h=>by
  simp only[List.map_cons,List.cons.injEq] at h;have c:Value.int .i64 x=Value.int .i64 y:=h.1;cases c;rw[encZ_inj h.2]
theorem yE{y e:Na}{l l':List Int}(h:Jr y l=Jr e l'):y=e∧l=l':=by
 obtain⟨a,b,c,d⟩:=y;obtain⟨q,p,o,m⟩:=e;simp[Jr] at h;obtain⟨k,j,i,g,f⟩:=h;refine⟨by grind,encZ_inj ?_⟩;omega
theorem OI{G:List Nat}{ι:BG}{m:Mem}{w:World}{b:Nat}{d:Value}{vs:List Value}{e:TypeId}(p:DF Tryz.prog G ι m w)(h:Aw ι m.gen (.pointer (some ⟨b,0,none⟩)) d)(g:m.get b=.cells vs e 0 false) :
 ∃c o,d=.pointer (some ⟨c,o,none⟩)∧∀i,i<vs.length→∃v',w.cell? ⟨c,o+i,none⟩=some v'∧Aw ι m.gen (vs.getD i undef) v':=by
 cases h with
 |ptr a J h =>
  obtain⟨f,s,A,r⟩:=h;obtain⟨I,B,F,l,z,y,k,x⟩:=Hg p s g;have C:=r (by simp[Mem.gen,g,II.gen,NK]);refine⟨f.blk,f.sh,by grind,fun i q=>?_⟩;obtain⟨v',u,j⟩:=k i q;exact⟨v',by rw[Am.cell_of_row l];omega,j⟩
theorem xY{G:List Nat}{ι:BG}{m:Mem}{w:World}{a:Option Addr}{n g:Nat}{v':Value}{zs:List Int}(o:DF Tryz.prog G ι m w)(l:Aw ι m.gen (.slice a n g) v')(h:BM m 1 n (.slice a n g)=some (zs.map Go.encZ))(u:0<n) :
 ∃b off cap,v'=.slice (some ⟨b,off,none⟩) n cap∧zs.length=n∧n≤cap∧∀j,j<n→w.cell? ⟨b,off+j,none⟩=some (.int .i64 (gi zs j)):=by
 obtain⟨x,cap,rfl,c,i,f⟩:=Oe o l rfl (fun b e=>by cases e) h;rw[aM] at c;rcases i with⟨_,h1⟩|⟨A,h1|h1⟩
 ·omega
 ·obtain⟨rfl,d⟩:=h1
  obtain⟨b,off,k⟩:=A;subst d;refine⟨b,off,cap,rfl,c,?_,fun j r=>?_⟩
  ·cases l with
   |wW=>omega
   |sl _ _ _ _ _ _ p =>
    obtain⟨q,_,_,s,_⟩:=p;omega
  ·have:=f _ rfl j (.int .i64 (gi zs j)) (by unfold gi;grind) rfl
   rwa[addr_add] at this
 omega
theorem wI{l:List Int}{k i:Nat}(h:i<k):gi (l.take k) i=gi l i:=by
 unfold gi;grind
theorem qO{l:List Int}{k i:Nat}:gi (l.drop k) i=gi l (k+i):=by
 unfold gi;simp
def ivD:Value→Int| .int _ q=>q|_=>0
theorem N7(y:Na)(l:List Int)(k:Nat):Wj y l (k+1)=if EH y (l.take k)∧EH y (l.drop k) then Wj y l k++[k] else Wj y l k:=rfl
theorem a1n(y:Na)(l:List Int)(k:Nat):∀n,∃r,Wj y l (k+n)=Wj y l k++r
 |0=>⟨[],by simp⟩
 |n+1=>by
  obtain⟨r,a⟩:=a1n y l k n;have e:=N7 y l (k+n);grind
theorem c1c{y:Na}{l:List Int}{k:Nat}(d:k≤l.length)(h:EH y (l.take k)∧EH y (l.drop k)):∃b:(Wj y l k).length<(EK y l).length,(EK y l)[(Wj y l k).length]=[.int .i64 (k:Int)]:=by
 obtain⟨r,a⟩:=a1n y l (k+1) (l.length-k);rw[show k+1+(l.length-k)=l.length+1 by omega] at a;have c:Wj y l (k+1)=Wj y l k++[k]:=by rw[N7,if_pos h]
 rw[c] at a;have b:(Wj y l k).length<(EK y l).length:=by
  unfold EK;rw[aM,a];simp
 refine⟨b,?_⟩;unfold EK;grind
theorem b9e{J a:Nat→World→Prop}{I:World→Prop}{i:Nat}{e:Ending}{W:World}(h:(e=.returned (.bool true)∧J (i+1) W∧I W)∨(e=.returned (.bool false)∧a (i+1) W)):∃B,e=.returned (.bool B)∧((B=true∧J (i+1) W∧I W)∨(B=false∧a (i+1) W)) :=by grind
theorem c8y{X:World}{b off cap n i:Nat}{zs:List Int}(h:n≤cap)(d:∀j,j<n→X.cell? ⟨b,off+j,none⟩=some (.int .i64 (gi zs j))):∃a,(if cap=i then some (⟨b,off,none⟩:Addr) else some ⟨b,off+i,none⟩)=some ⟨b,a,none⟩∧∀j,j<n-i→X.cell? ⟨b,a+j,none⟩=some (.int .i64 (gi zs (i+j))):=by
 by_cases e:cap=i
 ·simp_all
 ·exact⟨off+i,if_neg e,fun j c=>by simp⟩
attribute [local go_sem] Oper.semAt_some
def d0u(y:Na)(zs:List Int)(lb:List Value)(m':Mem):Prop:=NH lb m'=some (Jr y zs,EK y zs)∧∀k∈Az Tryz.prog 8 BU,m'.get k=(AZ Tryz.prog 8 BU).get k
theorem b5z(lb:List Value)(m:Mem)(key:Value)(rows:List (List Value))(hq:NH lb m=some (key,rows))(hg:∀k∈Az Tryz.prog 8 BU,m.get k=(AZ Tryz.prog 8 BU).get k)(ι:BG)(w:World)(lb':Array Value)(Dq:DF Tryz.prog (Az Tryz.prog 8 BU) ι m w)(hl:BA ι m.gen lb lb'.toList) :
 XV Tryz.prog 149 lb' rows (Jl Tryz.prog (Az Tryz.prog 8 BU) (fun m'=>NH lb m'=some (key,rows)∧∀k∈Az Tryz.prog 8 BU,m'.get k=(AZ Tryz.prog 8 BU).get k) ι m.gen lb lb') w:=by
 obtain⟨b1,b2,a,n,g,y,l0,zs,e1,e2,rfl,h1,h2,h3,h4,hzs,h0,hn,he⟩:=aW hq;cases he;obtain⟨lb'⟩:=lb';obtain⟨p1,k1,rfl,r1,hl2⟩:=hl.H6;obtain⟨p2,k2,rfl,r2,hl3⟩:=hl2.H6;have hk:k2=[]:=av.1 hl3.1.symm;subst hk;obtain⟨c1,o1,rfl,_⟩:=OI Dq r1 h1;obtain⟨c2,o2,rfl,_⟩:=OI Dq r2 h2;have hzl:zs.length=n:=by
  have:=DU h3;rw[h4,aM] at this;omega
 have facts:∀X,Jl Tryz.prog (Az Tryz.prog 8 BU) (fun m'=>NH [.pointer (some ⟨b1,0,none⟩),.pointer (some ⟨b2,0,none⟩)] m'=some (Jr y zs,EK y zs)∧∀k∈Az Tryz.prog 8 BU,m'.get k=(AZ Tryz.prog 8 BU).get k) ι m.gen [.pointer (some ⟨b1,0,none⟩),.pointer (some ⟨b2,0,none⟩)] ⟨[.pointer (some ⟨c1,o1,none⟩),.pointer (some ⟨c2,o2,none⟩)]⟩ X →
  ∃b off cap,X.cell? ⟨c1,o1,none⟩=some (.slice (some ⟨b,off,none⟩) n cap)∧X.cell? ⟨c2,o2,none⟩=some (.int .i64 y.hn)∧X.cell? ⟨c2,o2+1,none⟩=some (.int .i64 y.hs)∧X.cell? ⟨c2,o2+2,none⟩=some (.int .i64 y.fn)∧X.cell? ⟨c2,o2+3,none⟩=some (.int .i64 y.fs)∧n≤cap∧∀j,j<n→X.cell? ⟨b,off+j,none⟩=some (.int .i64 (gi zs j)):=by
  rintro X ⟨ι',m',g1,g2,⟨g3,g4⟩,_⟩;obtain⟨b1',b2',a',n',g',y',l',zs',e1',e2',q0,q1,q2,q3,q4,_,q5,q6,q7⟩:=aW g3;cases q0;obtain⟨rfl,rfl⟩:=yE (congrArg Prod.fst q7);obtain⟨p1',k1',x1,x2,x3⟩:=g2.H6;cases x1;obtain⟨p2',k2',y1,y2,_⟩:=x3.H6;cases y1;obtain⟨c1',o1',z1,z2⟩:=OI g1 x2 q1;cases z1;obtain⟨c2',o2',z3,z4⟩:=OI g1 y2 q2;cases z3;obtain⟨v1,u1,u2⟩:=z2 0 (by simp);have hnn:n'=n:=by
   have:=DU q3;rw[q4,aM] at this;omega
  subst hnn;rw[q4] at q3;obtain⟨b,off,cap,rfl,_,hcap,hc⟩:=xY g1 u2 q3 q5;have pl:∀i (z:Int),[Value.int .i64 y.hn,.int .i64 y.hs,.int .i64 y.fn,.int .i64 y.fs].getD i undef=.int .i64 z→i<4→X.cell? ⟨c2,o2+i,none⟩=some (.int .i64 z):=fun i z hz hi=>by
   obtain⟨v,w1,w2⟩:=z4 i (by simpa using hi);rw[hz] at w2;cases w2;exact w1
  exact⟨b,off,cap,u1,pl 0 _ rfl (by omega),pl 1 _ rfl (by omega),pl 2 _ rfl (by omega),pl 3 _ rfl (by omega),hcap,hc⟩
 have later:∀X Y,Jl Tryz.prog (Az Tryz.prog 8 BU) (fun m'=>NH [.pointer (some ⟨b1,0,none⟩),.pointer (some ⟨b2,0,none⟩)] m'=some (Jr y zs,EK y zs)∧∀k∈Az Tryz.prog 8 BU,m'.get k=(AZ Tryz.prog 8 BU).get k) ι m.gen [.pointer (some ⟨b1,0,none⟩),.pointer (some ⟨b2,0,none⟩)] ⟨[.pointer (some ⟨c1,o1,none⟩),.pointer (some ⟨c2,o2,none⟩)]⟩ X→Below X.heap.size X Y →
  Jl Tryz.prog (Az Tryz.prog 8 BU) (fun m'=>NH [.pointer (some ⟨b1,0,none⟩),.pointer (some ⟨b2,0,none⟩)] m'=some (Jr y zs,EK y zs)∧∀k∈Az Tryz.prog 8 BU,m'.get k=(AZ Tryz.prog 8 BU).get k) ι m.gen [.pointer (some ⟨b1,0,none⟩),.pointer (some ⟨b2,0,none⟩)] ⟨[.pointer (some ⟨c1,o1,none⟩),.pointer (some ⟨c2,o2,none⟩)]⟩ Y:=by
  rintro X Y ⟨ι',m',g1,g2,g3⟩ hb;exact⟨ι',m',Oq g1 hb,g2,g3⟩
 clear hl hl2 hl3 r1 r2 hq h1 h2 h3;generalize Jl Tryz.prog (Az Tryz.prog 8 BU) (fun m'=>NH [.pointer (some ⟨b1,0,none⟩),.pointer (some ⟨b2,0,none⟩)] m'=some (Jr y zs,EK y zs)∧∀k∈Az Tryz.prog 8 BU,m'.get k=(AZ Tryz.prog 8 BU).get k) ι m.gen [.pointer (some ⟨b1,0,none⟩),.pointer (some ⟨b2,0,none⟩)] ⟨[.pointer (some ⟨c1,o1,none⟩),.pointer (some ⟨c2,o2,none⟩)]⟩=SI at *;have hgz:∀i,i<n→0≤gi zs i∧gi zs i≤127:=fun i hi=>hzs _ (Di (by omega))
 have b7x:∀(X:World) b off cap k (B:Bool),k≤n→decide (EH y (zs.take k))=B→(∀j,j<n→X.cell? ⟨b,off+j,none⟩=some (.int .i64 (gi zs j)))→Calls Tryz.prog 60 #[.agg #[.int .i64 y.hn,.int .i64 y.hs,.int .i64 y.fn,.int .i64 y.fs],.slice (some ⟨b,off,none⟩) k cap] X fun e w'=>e=.returned (.bool B)∧Below X.heap.size X w':=fun X b off cap k B hk hB hc=>by
  subst hB;have ht:∀i,i<k→gi (zs.take k) i=gi zs i:=fun i hi=>wI hi
  exact a9n y b off k cap (zs.take k) (by rw[ar];omega) (fun i hi=>by rw[ht i hi];exact hgz i (by omega)) (by omega) X (fun j hj=>by rw[ht j hj];exact hc j (by omega))
 have b8f:∀(X:World) b off cap k (B:Bool),k≤n→decide (EH y (zs.drop k))=B→(∀j,j<n-k→X.cell? ⟨b,off+j,none⟩=some (.int .i64 (gi zs (k+j))))→Calls Tryz.prog 60 #[.agg #[.int .i64 y.hn,.int .i64 y.hs,.int .i64 y.fn,.int .i64 y.fs],.slice (some ⟨b,off,none⟩) (n-k) cap] X fun e w'=>e=.returned (.bool B)∧Below X.heap.size X w':=fun X b off cap k B hk hB hc=>by
  subst hB;have ht:∀i,gi (zs.drop k) i=gi zs (k+i):=fun i=>qO
  exact a9n y b off (n-k) cap (zs.drop k) (by rw[bA];omega) (fun i hi=>by rw[ht i];exact hgz _ (by omega)) (by omega) X (fun j hj=>by rw[ht j];exact hc _ hj)
 intro l J Jx W hB hJ hx hY hI hj;refine callsIn_of_wp Tryz.func149 rfl trivial ?_ rfl;simp only[Tryz.ntmps149,List.size_toArray,List.length_cons,List.length_nil,Nat.reduceAdd,Nat.reduceSub,Array.replicate_succ,Array.replicate_zero,List.push_toArray,List.append_toArray,List.nil_append,List.cons_append];obtain⟨b,off,cap,d0,d1,d2,d3,d4,d5,d6⟩:=facts W hI;have hw0:IntKind.i64.wrap ((n:Int)+1)=(n:Int)+1:=Md (by omega) (by omega)
 gi_wp2
 gi_loopw [8] (fun v wr=>∃i:Nat,i≤n+1∧v=.int .i64 (i:Int)∧J (Wj y zs i).length wr∧SI wr) (fun v _=>((n:Int)+1-ivD v).toNat)
 case atStart=>exact⟨0,an _,rfl,hj,hI⟩
 case round =>
  obtain⟨i,hi,rfl,hJi,hIi⟩:=hrel;obtain⟨b,off,cap,f0,f1,f2,f3,f4,f5,f6⟩:=facts _ hIi;by_cases hlt:i<n+1
  ·have hle:(i:Int)<(n:Int)+1:=by omega
   have hw1:IntKind.i64.wrap ((i:Int)+1)=((i+1:Nat):Int):=by rw[Md (by omega) (by omega)];omega
   have hin:i≤n:=by omega
   have hin2:(i:Int)≤(n:Int):=by omega
   gi_wp2
   clear d0 d1 d2 d3 d4 d5 d6 hB hI hj hg Dq;have hcp:i≤cap:=by omega
   refine dite (EH y (zs.take i)) (fun g1=>dite (EH y (zs.drop i)) (fun g2=>?cA) fun g2=>?cB) fun g1=>?cC
   case' cA =>
    have hd:=decide_eq_true g1;have hd2:=decide_eq_true g2;obtain⟨hl,hrow⟩:=c1c (y:=y) (l:=zs) (k:=i) (by omega) ⟨g1,g2⟩;have e1:(Wj y zs (i+1)).length=(Wj y zs i).length+1:=by rw[N7,if_pos ⟨g1,g2⟩,aD];rfl
   case' cB =>
    have hd:=decide_eq_true g1;have hd2:=decide_eq_false g2;have e1:Wj y zs (i+1)=Wj y zs i:=by rw[N7,if_neg (fun h=>g2 h.2)]
   case' cC =>
    have hd:=decide_eq_false g1;have e1:Wj y zs (i+1)=Wj y zs i:=by rw[N7,if_neg (fun h=>g1 h.1)]
   all_goals refine wpIn_region_any b0a ?_
   all_goals change wpAnyIn _ _ _ _ _ _ _ _ _ (World.drew _)
   all_goals refine wpAnyIn_take (i:=2) (v:=.int .i64 (i:Int)) rfl rfl (by kernel_rfl) (by kernel_rfl) (by kernel_rfl) (fun _ _ _ h=>h) ⟨Or.inl ⟨by rfl,fun w=>by go_simp⟩,fun _=>rfl⟩ ?_
   all_goals refine wpAnyIn_ready (rs:=[0,1]) (by kernel_rfl) (by simp) (AllReadyIn.cons rfl (fun A0 hK=>?_) (AllReadyIn.cons rfl (fun A1 hK=>?_) AllReadyIn.nil))
   all_goals go_simp
   all_goals refine hK _ _ ?_
   all_goals clear hK
   all_goals first|(have h0:=A0;refine wpAnyIn_ready (rs:=[1]) (by kernel_rfl) (by simp) (AllReadyIn.cons rfl (fun K hK=>?_) AllReadyIn.nil))|refine wpAnyIn_ready (rs:=[0,3]) (by kernel_rfl) (by simp) (AllReadyIn.cons rfl (fun B0 hK=>?_) (AllReadyIn.cons rfl (fun B3 hK=>?_) AllReadyIn.nil))
   all_goals go_simp
   all_goals try simp only[if_pos hcp]
   all_goals try go_simp
   all_goals refine hK _ _ ?_
   all_goals clear hK
   all_goals first|(have h0:=B3;refine wpAnyIn_ready (rs:=[0]) (by kernel_rfl) (by simp) (AllReadyIn.cons rfl (fun K hK=>?_) AllReadyIn.nil))|refine wpAnyIn_ready (rs:=[3]) (by kernel_rfl) (by simp) (AllReadyIn.cons rfl (fun K hK=>?_) AllReadyIn.nil)
   all_goals go_simp
   all_goals try simp only[if_pos hcp]
   all_goals try go_simp
   all_goals refine hK _ _ ?_
   all_goals clear hK
   all_goals refine wpAnyIn_ready (rs:=[4]) (by kernel_rfl) (by simp) (AllReadyIn.cons rfl (fun K hK=>?_) AllReadyIn.nil)
   all_goals go_simp
   all_goals refine⟨trivial,rfl,?_⟩
   all_goals first|(have h0:decide (EH y (zs.take i))=true:=hd;refine(callsIn_wide.2 (b7x _ b off _ i true (by omega) hd (by exact f6))).mono ?_)|refine(callsIn_wide.2 (b7x _ b off _ i false (by omega) hd (by exact f6))).mono ?_
   all_goals rintro _ W1 ⟨rfl,hbel⟩
   all_goals have hI2:=later _ _ hIi ⟨hbel.os,hbel.tape,hbel.output,hbel.size,hbel.block⟩
   all_goals have hJ2:=hJ _ _ _ hJi ⟨hbel.os,hbel.tape,hbel.output,hbel.size,hbel.block⟩
   all_goals obtain⟨b',off',cap',f0',f1',f2',f3',f4',f5',f6'⟩:=facts _ hI2
   all_goals refine hK _ _ ?_
   all_goals clear hK
   all_goals first|(have h0:decide (EH y (zs.take i))=true:=hd;refine wpAnyIn_take (i:=5) (v:=.bool true) rfl rfl (by kernel_rfl) (by kernel_rfl) (by kernel_rfl) (fun _ _ _ h=>h) ⟨Or.inl ⟨by rfl,fun w=>by go_simp⟩,fun _=>rfl⟩ ?_)|refine wpAnyIn_take (i:=5) (v:=.bool false) rfl rfl (by kernel_rfl) (by kernel_rfl) (by kernel_rfl) (fun _ _ _ h=>h) ⟨Or.inl ⟨by rfl,fun w=>by go_simp⟩,fun _=>rfl⟩ ?_
   all_goals first|(have h0:decide (EH y (zs.take i))=true:=hd;refine wpAnyIn_take (i:=8) (v:=.int .i64 (i:Int)) rfl rfl (by kernel_rfl) (by kernel_rfl) (by kernel_rfl) (fun _ _ _ h=>h) ⟨Or.inl ⟨by rfl,fun w=>by go_simp⟩,fun _=>rfl⟩ ?_;obtain⟨off2,ho2,hc2⟩:=c8y (i:=i) f5' f6';refine wpAnyIn_ready (rs:=[6,7]) (by kernel_rfl) (by simp) (AllReadyIn.cons rfl (fun C6 hK=>?_) (AllReadyIn.cons rfl (fun C7 hK=>?_) AllReadyIn.nil))<;>go_simp<;>refine hK _ _ ?_<;>clear hK)|(refine wpAnyIn_take (i:=6) (v:=undef) rfl rfl (by kernel_rfl) (by kernel_rfl) (by kernel_rfl) (fun _ _ _ h=>h) ⟨Or.inr ⟨by rfl,rfl⟩,fun _=>rfl⟩ ?_;refine wpAnyIn_take (i:=7) (v:=undef) rfl rfl (by kernel_rfl) (by kernel_rfl) (by kernel_rfl) (fun _ _ _ h=>h) ⟨Or.inr ⟨by rfl,rfl⟩,fun _=>rfl⟩ ?_;refine wpAnyIn_take (i:=8) (v:=undef) rfl rfl (by kernel_rfl) (by kernel_rfl) (by kernel_rfl) (fun _ _ _ h=>h) ⟨Or.inr ⟨by rfl,rfl⟩,fun _=>rfl⟩ ?_;refine wpAnyIn_take (i:=9) (v:=undef) rfl rfl (by kernel_rfl) (by kernel_rfl) (by kernel_rfl) (fun _ _ _ h=>h) ⟨Or.inr ⟨by rfl,rfl⟩,fun _=>rfl⟩ ?_)
   all_goals first|(have h0:=C6;refine wpAnyIn_ready (rs:=[7]) (by kernel_rfl) (by simp) (AllReadyIn.cons rfl (fun K hK=>?_) AllReadyIn.nil);go_simp;refine hK _ _ ?_;clear hK)|(have h0:=C7;refine wpAnyIn_ready (rs:=[6,9]) (by kernel_rfl) (by simp) (AllReadyIn.cons rfl (fun D6 hK=>?_) (AllReadyIn.cons rfl (fun D9 hK=>?_) AllReadyIn.nil))<;>go_simp)|skip
   all_goals first|(have h0:=D6;refine hK _ _ ?_;clear hK)|(have h0:=D9;(try rw[ho2]);refine hK _ _ ?_;clear hK)|skip
   all_goals first|(have h0:=D9;refine wpAnyIn_ready (rs:=[6]) (by kernel_rfl) (by simp) (AllReadyIn.cons rfl (fun K hK=>?_) AllReadyIn.nil);go_simp;refine hK _ _ ?_;clear hK)|(have h0:decide (EH y (zs.take i))=true:=hd;refine wpAnyIn_ready (rs:=[9]) (by kernel_rfl) (by simp) (AllReadyIn.cons rfl (fun K hK=>?_) AllReadyIn.nil);go_simp;(try rw[ho2]);refine hK _ _ ?_;clear hK)|skip
   all_goals refine wpAnyIn_ready (rs:=[10]) (by kernel_rfl) (by simp) (AllReadyIn.cons rfl (fun K hK=>?_) AllReadyIn.nil)
   all_goals go_simp
   all_goals first|(have h0:decide (EH y (zs.drop i))=true:=hd2;have h1:decide (EH y (zs.take i))=true:=hd;refine⟨trivial,rfl,?_⟩;refine(callsIn_wide.2 (b8f _ b' off2 _ i true (by omega) hd2 (by exact hc2))).mono ?_;rintro _ W2 ⟨rfl,a2g⟩;have hJ4:=hJ _ _ _ hJ2 a2g;obtain⟨fn,tmps,MF,body,hy,hR⟩:=hY _ W2 hl hJ4;rw[hrow] at hy;replace hy:(Instr.yield l #[.int .i64 (i:Int)]).run Tryz.prog W2=.ok (.round l fn tmps MF body) W2:=hy)|(have h0:decide (EH y (zs.take i))=true:=hd;refine⟨trivial,rfl,?_⟩;refine(callsIn_wide.2 (b8f _ b' off2 _ i false (by omega) hd2 (by exact hc2))).mono ?_;rintro _ W2 ⟨rfl,a2g⟩;have hJ4:=hJ _ _ _ hJ2 a2g;have hI4:=later _ _ hI2 a2g)|refine⟨trivial,?_⟩
   all_goals refine hK _ _ ?_
   all_goals clear hK
   all_goals refine wpAnyIn_ready (rs:=[11]) (by kernel_rfl) (by simp) (AllReadyIn.cons rfl (fun K hK=>?_) AllReadyIn.nil)
   all_goals go_simp
   all_goals refine hK _ _ ?_
   all_goals clear hK
   all_goals first|(have h0:=hR;refine wpAnyIn_take (i:=12) (v:=.bool true) rfl rfl (by kernel_rfl) (by kernel_rfl) (by kernel_rfl) (fun _ _ _ h=>h) ⟨Or.inl ⟨by rfl,fun w=>by go_simp⟩,fun _=>rfl⟩ ?_;refine wpAnyIn_take (i:=13) (v:=.func (.yield l) #[] #[]) rfl rfl (by kernel_rfl) (by kernel_rfl) (by kernel_rfl) (fun _ _ _ h=>h) ⟨Or.inl ⟨by rfl,fun w=>by go_simp⟩,fun _=>rfl⟩ ?_;refine wpAnyIn_take (i:=14) (v:=.int .i64 (i:Int)) rfl rfl (by kernel_rfl) (by kernel_rfl) (by kernel_rfl) (fun _ _ _ h=>h) ⟨Or.inl ⟨by rfl,fun w=>by go_simp⟩,fun _=>rfl⟩ ?_)|(refine wpAnyIn_take (i:=12) (v:=.bool false) rfl rfl (by kernel_rfl) (by kernel_rfl) (by kernel_rfl) (fun _ _ _ h=>h) ⟨Or.inl ⟨by rfl,fun w=>by go_simp⟩,fun _=>rfl⟩ ?_;refine wpAnyIn_take (i:=13) (v:=undef) rfl rfl (by kernel_rfl) (by kernel_rfl) (by kernel_rfl) (fun _ _ _ h=>h) ⟨Or.inr ⟨by rfl,rfl⟩,fun _=>rfl⟩ ?_;refine wpAnyIn_take (i:=14) (v:=undef) rfl rfl (by kernel_rfl) (by kernel_rfl) (by kernel_rfl) (fun _ _ _ h=>h) ⟨Or.inr ⟨by rfl,rfl⟩,fun _=>rfl⟩ ?_)
   all_goals refine wpAnyIn_ready (rs:=[15]) (by kernel_rfl) (by simp) (AllReadyIn.cons rfl (fun K hK=>?_) AllReadyIn.nil)
   all_goals go_simp
   all_goals first|(have h0:=hR;refine⟨rfl,?_⟩;refine hR.mono ?_;intro e W3 hE;obtain⟨B,rfl,hBB⟩:=b9e hE)|refine⟨fun _ _=>trivial,?_⟩
   all_goals refine hK _ _ ?_
   all_goals clear hK
   all_goals first|(have h0:=hR;refine wpAnyIn_ready (rs:=[16]) (by kernel_rfl) (by simp) (AllReadyIn.cons rfl (fun K hK=>?_) AllReadyIn.nil);go_simp;refine hK _ _ ?_;clear hK)|refine wpAnyIn_take (i:=16) (v:=undef) rfl rfl (by kernel_rfl) (by kernel_rfl) (by kernel_rfl) (fun _ _ _ h=>h) ⟨Or.inr ⟨by rfl,rfl⟩,fun _=>rfl⟩ ?_
   all_goals refine wpAnyIn_ready (rs:=[17]) (by kernel_rfl) (by simp) (AllReadyIn.cons rfl (fun K hK=>?_) AllReadyIn.nil)
   all_goals go_simp
   all_goals refine hK _ _ ?_
   all_goals clear hK
   all_goals refine wpAnyIn_done (by kernel_rfl) ?_ _
   all_goals try(rcases hBB with⟨rfl,hJ6,hI6⟩|⟨rfl,hx6⟩)
   all_goals gi_wp2
   all_goals try(exact⟨rfl,_,results_none rfl _ _ _,⟨_,rfl⟩,.inr ⟨_,hx6⟩⟩)
   all_goals go_roundw
   all_goals first|(simp[ivD];omega)|exact⟨i+1,hlt,by first|rfl|simp|omega,by rw[e1];first|exact hJ6|exact hJ4|exact hJ2,by first|exact hI6|exact hI4|exact hI2⟩
  ·have hle:¬ (i:Int)<(n:Int)+1:=by omega
   obtain rfl:i=n+1:=by omega
   gi_wp2
   go_end0
   refine⟨⟨_,rfl⟩,.inl ?_⟩;have:(EK y zs).length=(Wj y zs (n+1)).length:=by unfold EK;rw[aM,hzl]
   rw[this];exact hJi
end Go.Proofs.YtnjkoebfgcbbdaaGreatDoor
namespace Go.Vm
open Go.Am
variable {E:Env}{n bn:Nat}{L:Frame}{H:Heap}{nx:Nat}
theorem AY.H8{b:Code}{Q:BH→Frame→Heap→Nat→Prop}(N:Nat)(a:Nat→Prop)(L0:Frame)(H0:Heap)(d:Nat→Frame→Frame)(f:Nat→Heap→Heap)(CP:Nat)(p:bn≤CP)(m:CP≤nx)(s:F5 CP (d 0 L0) L)(r:BF CP (f 0 H0) H)(u:a 0)
 (l:∀k,k<N→a k→AY E n bn b (d k L0) (f k H0) CP (Ai (fun j H' c=>a (k+1)∧CP≤c∧F5 CP (d (k+1) L0) j∧BF CP (f (k+1) H0) H') Q))
 (w:a N→AY E n bn b (d N L0) (f N H0) CP (Ai (fun _ _ _=>False) Q)):AY E n bn (.loop b) L H nx Q :=
 AY.DR (fun k=>d k L0) (fun k=>f k H0) CP (fun k=>k≤N∧a k) (fun k=>N-k) 0 p ⟨an _,u⟩ ⟨m,s,r⟩ fun k g=>by
  obtain⟨g,o⟩:=g;rcases aq k N with h|h
  ·refine(l k h o).mono fun e j H' c q=>?_
   cases e with
   |normal=>exact⟨k+1,⟨h,q.1⟩,by omega,⟨q.2.1,q.2.2.1,q.2.2.2⟩⟩
   |ret=>exact q
   |exit i=>exact q
  grind
end Go.Vm
namespace Go.Proofs.YtnjkoebfgcbbdaaGreatDoor
open Go Go.Am Go.Vm Go.Pie Go.Sch
theorem zV:Am.Enters Tryz.prog 149:=⟨_,Tryz.func149,by rfl,by rfl⟩
theorem b1d:∀fn,Tryz.prog.funcs[149]?=some fn→fn.ntmps=Tryz.f149.ntmps :=by simp
noncomputable def O1:BP:=a6w (Az Tryz.prog 8 BU) (AZ Tryz.prog 8 BU) 149 Tryz.f149.ntmps NH env.O
theorem b7m:Gh Tryz.prog (Az Tryz.prog 8 BU) O1:=dS a7z zV b1d b5z
noncomputable abbrev Ip:Env:=Ei Tryz.prog 8 BU O1
theorem leD:OLe Tryz.prog env.O O1:=b5e (Af (by decide)) b1d
theorem Oj{f:FuncId}{xs:List FV}{r:PV}(h:Ak env f xs r):Ak Ip f xs r:=AL.more (F:=8) (laid:=BU) (O0:=env.O) leD h
theorem c1b{f:FuncId}{xs:List FV}{e:TypeId}{cs:List FV}{n:Nat}{z:Bool}(h:Bd env f xs e cs n z):Bd Ip f xs e cs n z:=AL.more (F:=8) (laid:=BU) (O0:=env.O) leD h
theorem c4x{f:FuncId}{ac:List PV}{Hc:Vm.Heap}{k:Nat}{x:FV}(h:D7 env f ac Hc k x):D7 Ip f ac Hc k x:=AL.more (F:=8) (laid:=BU) (O0:=env.O) leD h
theorem c8e:Snd env:={ o:=a7z,mix:=b0a }
theorem b8z{f:FuncId}{xs:List FV}{r:PV}(h:I7 env f xs r):I7 Ip f xs r:=by
 have h:=h c8e;intro _;exact h
theorem Sv{f:FuncId}(h:f∉149::147::61::49::48::a4n.map (·.1)):Ip.O f=none:=by
 have b:f≠149:=fun e=>h (by grind)
 have a:f∉147::61::49::48::a4n.map (·.1):=fun e=>h (ao _ e)
 show O1 f=none;unfold O1;rw[VR b];exact Af a
theorem c0f:O1 149=some (Tc (Az Tryz.prog 8 BU) (AZ Tryz.prog 8 BU) Tryz.f149.ntmps NH):=by
 rfl
theorem c4v:Ip.O 149=some (Tc (Az Tryz.prog 8 BU) (AZ Tryz.prog 8 BU) Tryz.f149.ntmps NH):=c0f
theorem cZ{m:Mem}{F:Nat→Prop}:∀{l:List Int} {vs:List Value},Dt m F (cells l) vs→vs=l.map Go.encZ
 |[],_,.nil=>rfl
 |c::l,_,.cons h t=>by
  cases h;rw[cZ t];rfl
theorem b5l{y:Na}{l:List Int}(W:0<l.length)(R:l.length≤128)(P:∀x∈l,0≤x∧x≤127){H:Vm.Heap}{nx b1 b2:Nat}{e1 e2 e3:TypeId}(s:hget H b1=some (.box e1 [.p (.lst e3 (cells l) l.length)]))(r:hget H b2=some (.box e2 [.p (.int .i64 y.hn),.p (.int .i64 y.hs),.p (.int .i64 y.fn),.p (.int .i64 y.fs)])) :
 b9t Ip 149 Tryz.f149 [.ref b1 0,.ref b2 0] H nx (Jr y l) (EK y l):=by
 intro Fo Q m F σ lb o k;cases Q;cases k with
 |cons G t =>
  cases t with
  |cons C B =>
   cases B;cases G with
   |ref V T Y =>
    cases C with
    |ref U S X =>
     obtain⟨c1,J,rfl⟩:=Y (by simp[htag,s,HB.tag]);obtain⟨c2,I,rfl⟩:=X (by simp[htag,r,HB.tag]);obtain⟨_,d1,A,k1,k2,k3,O,N,k6⟩:=o.hp b1 _ s;obtain⟨_,d2,z,q,l2,l3,M,K,l6⟩:=o.hp b2 _ r;rw[J] at k1;rw[I] at q;cases k1;cases q;refine⟨m,?_⟩;refine sG (kr:=(Jr y l,EK y l)) (Ze o) ?_;cases N with
     |cons b t =>
      cases t;cases b with|p b =>
       obtain⟨vs,w,u,Z⟩:=RF.cellsOf (sz:=1) b (by rw[C9];rfl);have h:=cZ u;subst h;have j:∀{v:Value},RF m F (.lst e3 (cells l) l.length) v→∃a g,v=Value.slice a l.length g:=by
        intro v i;generalize l.length=n at i;generalize cells l=cs at i;cases i with
        |nil=>exact⟨_,_,rfl⟩
        |room=>exact⟨_,_,rfl⟩
        |lst=>exact⟨_,_,rfl⟩
       obtain⟨a,g,rfl⟩:=j b;cases K with
       |cons f t =>
        cases t with
        |cons e t =>
         cases t with
         |cons d t =>
          cases t with
          |cons c t =>
           cases t;cases f with|p f=>cases e with|p e=>cases d with|p d=>cases c with|p c =>
            cases f;cases e;cases d;cases c;unfold NH;simp only[O,M,w,XT P];rw[if_pos ⟨W,R⟩]
attribute [local irreducible] Aa Aj Ag Ad AL Ak Bd BL Bl Ai Vm.Done BD AO Qh
theorem b1y{L:Vm.Frame}{H:Vm.Heap}{nx:Nat}{Q:PV→Vm.Heap→Nat→Prop}{dst:Option Tmp}{ty:TypeId}{pos:String}{af:Array Edge}{gd:Option (Nat×Bool)}{e:Operand}{args:Array Operand}{j:Array TypeId}{a cs xs:List PV}{c:Code}
 (g:AU Ip.Γ L e=some (.clo 113 a cs)) (i:evs Ip.Γ L args.toList=some xs) (b:Tryz.f113.body=some c) (f:(a++xs++cs).length≤Tryz.f113.ntmps)
 (h:Ad Ip nx c (CG 0 (a++xs++cs)) H nx (AO Ip.P Tryz.f113.results.toList Q)):Aa Ip true ⟨dst,.call { callee:=.value e,args:=args,argTypes:=j },ty,pos,af,gd⟩ L H nx Q:=by
 have d:(match Tryz.f113.body with|some c=>Ir Ip.G Tryz.f113 c|none=>false)=true:=by kernel_rfl
 rw[b] at d;exact Aa.inline rfl g i (Sv (by decide)) Tryz.func113 b d f h
def wC(y:Na)(l:List Int):Bool:=decide (Wj y l (l.length+1)≠[])
theorem ny{y:Na}{l:List Int}{k:Nat}:∀n,k∈Wj y l n↔k<n∧EH y (l.take k)∧EH y (l.drop k)
 |0=>⟨fun h=>(by cases h),fun h=>absurd h.1 (bd _)⟩
 |n+1=>by
  have a:=ny (y:=y) (l:=l) (k:=k) n;rw[N7];grind
theorem a8n{y:Na}{l:List Int}:wC y l=true↔∃k,k≤l.length∧EH y (l.take k)∧EH y (l.drop k):=by
 unfold wC;rw[decide_eq_true_eq];constructor
 ·intro h
  obtain⟨k,b⟩:=gp _ h;obtain⟨c,a⟩:=(ny _).1 b;grind
 ·rintro⟨k,c,a⟩ e
  have:=(ny (y:=y) (l:=l) (k:=k) (l.length+1)).2 ⟨by omega,a⟩;grind
theorem b3k(L:List Nat):(List.range L.length).map (fun k=>gi L k)=L:=fc (by simp) fun i b a=>by
 unfold gi;grind
theorem a9e(y:Na)(l:List Int)(j:0<l.length)(e:l.length≤128)(d:∀x∈l,0≤x∧x≤127):Ak Ip 69 [.agg (Enc.enc y),.lst 3 (cells l) l.length] (.p (.bool (wC y l))):=by
 have a:EK y l=(List.range (Wj y l (l.length+1)).length).map fun k=>[Value.int .i64 ((gi (Wj y l (l.length+1)) k:Nat):Int)]:=by
  unfold EK
  conv=>lhs;rw[← b3k (Wj y l (l.length+1))]
  simp
 unfold wC;have b:∀{H:Vm.Heap} {nx b1 b2:Nat} {e1 e2 e3:TypeId},_→_→b9t Ip _ _ [.ref b1 0,.ref b2 0] H nx (Jr y l) (EK y l):=fun{H nx b1 b2 e1 e2 e3} i g=>b5l (y:=y) (l:=l) (H:=H) (nx:=nx) (e1:=e1) (e2:=e2) (e3:=e3) j e d i g
 generalize Wj y l (l.length+1)=R at *;refine Ak.enter (E:=Ip) (Sv (by decide)) Tryz.func69 rfl (by kernel_rfl) (by simp) ?_
 repeat' (first|(apply b1y;rfl;rfl;rfl;exact le_dec rfl)|(apply Aa.makeFunc;rfl;rfl)|refine go2 ?_|(apply AO.ret;rfl))
 all_goals try(exfalso;omega)
 all_goals try contradiction
 refine Ad.rangeFunc (key:=Jr y l) R.length (fun k=>[.int .i64 ((gi R k:Nat):Int)]) (fun k=>[Value.int .i64 ((gi R k:Nat):Int)]) [(4,.ref 1 0),(7,.clo 149 [] [.ref 3 0,.ref 2 0])]
  (fun k=>[(1,.box 4 [.p (.bool false)]),(2,.box 34 ((Enc.enc y).map .p)),(3,.box 28 [.p (.lst 3 (cells l) l.length)])]) 4 (fun k=>k=0)
  rfl Tryz.func149 rfl c4v a (fun _ _=>rfl) (fun _ _=>rfl) (fun k _ m F=>.cons (.int _ _) .nil) (by omega) ⟨by omega,?_,?_⟩ ?_ (fun k _=>b rfl rfl) rfl ?_ ?_
 ·exact Du
 ·exact Ec
 ·exact Du
 ·rintro k f rfl
  rw[decide_eq_true (cX.1 f)]
  repeat' (first|apply Ad.skip)
  refine⟨rfl,?_⟩
  repeat' (first|refine go2 ?_|apply Ad.Jh)
  all_goals try(exfalso;omega)
  refine⟨by omega,[(1,.box 4 [.p (.bool true)])],?_,?_⟩
  ·exact Ec
  ·repeat' (first|apply BL.ret|apply Bl.ret)
   all_goals(refine Done.rt rfl rfl ⟨?_,rfl,rfl⟩;try rfl)
 ·intro c
  rw[decide_eq_false (fun h=>h (av.1 c))]
  repeat' (first|refine go2 ?_|fail)
  all_goals first|(exfalso;omega)|(refine Done.rt rfl rfl ⟨?_,rfl,rfl⟩;try rfl)
end Go.Proofs.YtnjkoebfgcbbdaaGreatDoor
namespace Go.Proofs.YtnjkoebfgcbbdaaGreatDoor
open Go Go.Am Go.Vm Go.Pie Go.Sch
theorem wR{y:Na}(b:0≤y.hn)(a:0≤y.hs):EH y []:=⟨b,a⟩
theorem Xb{l:List Int}(h:Inc l){i j:Nat}(a:i≤j)(b:j<l.length):gi l i≤gi l j:=inc_le h a b
theorem Wv{l:List Int}{k:Nat}{x:Int}(h:x∈l.take k):∃i,i<k∧i<l.length∧gi l i=x:=by
 obtain⟨i,a,e⟩:=J8 h;rw[ar] at a;exact⟨i,by omega,by omega,by rw[← e,wI (by omega)]⟩
theorem Wy{l:List Int}{k:Nat}{x:Int}(h:x∈l.drop k):∃i,k≤i∧i<l.length∧gi l i=x:=by
 obtain⟨i,a,e⟩:=J8 h;rw[bA] at a;exact⟨k+i,by omega,by omega,by rw[← e,qO]⟩
theorem b1p{P:Nat→Prop}(a:P 0):∀n,∃k,k≤n∧P k∧(k=n∨¬ P (k+1))
 |0=>⟨0,ab _,a,.inl rfl⟩
 |n+1=>by
  obtain⟨k,d,c,b⟩:=b1p a n;grind
theorem qp(L:Int→Bool):∀l:List Int,(l.filter L).length+(l.filter fun x=>!L x).length=l.length
 |[]=>rfl
 |a::l=>by
  have b:=qp L l;grind
theorem dH{y:Na}(M:0≤y.hn)(s:0≤y.hs){l:List Int}(d:Inc l)(L:Int→Bool)(q:0<l.length→L (gi l 0)=true)(V:((l.filter L).length:Int)≤y.hn)(U:((l.filter fun x=>!L x).length:Int)≤y.hn)
 (s1:∀a∈l,∀b∈l,L a=true→L b=true→a-b≤y.hs) (s2:∀a∈l,∀b∈l,L a=false→L b=false→a-b≤y.hs):∃k,k≤l.length∧EH y (l.take k)∧EH y (l.drop k):=by
 obtain⟨k,k1,G,k3⟩:=b1p (P:=fun k=>EH y (l.take k)) (by show EH y (l.take 0);rw[List.take_zero];exact wR M s) l.length;refine⟨k,k1,G,?_⟩;have hid:Inc (l.drop k):=fk (List.drop_sublist _ _) d;rcases k3 with rfl|k3
 ·rw[List.drop_length];exact wR M s
 ·by_cases R:k=l.length
  ·grind
  have J:k<l.length:=by omega
  have o:=G.1;rw[ar,cE k1] at o;have p:∀x∈l,L x=false→x∈l.filter fun x=>!L x:=fun x c h=>er.2 ⟨c,by grind⟩
  have K:=qp L l;by_cases T:gi l k-gi l 0≤y.hs
  ·
   have S:(k:Int)=y.hn:=by
    refine Int.le_antisymm o (Int.not_lt.1 fun Q=>k3 ⟨?_,?_⟩)
    ·rw[ar];omega
    ·refine(aF (fk (List.take_sublist _ _) d) s).2 fun x c z f=>?_
     obtain⟨i,A,e,rfl⟩:=Wv c;obtain⟨j,I,u,rfl⟩:=Wv f;have:=Xb d (show i≤k by omega) J;have:=Xb d (an j) u;omega
   refine⟨by rw[bA];omega,(aF hid s).2 fun x c z f=>?_⟩;obtain⟨i,A,e,rfl⟩:=Wy c;obtain⟨j,I,u,rfl⟩:=Wy f;have O:=Xb d (an j) u;have N:=Xb d I u;cases hLx:L (gi l i) with
   |true =>
    have:=s1 _ (Di e) _ (Di (show 0<l.length by omega)) hLx (q (by omega));omega
   |false =>
    have C:∃r,r≤k∧L (gi l r)=false:=by
     refine bx fun B=>?_
     have m:∀x∈l.take (k+1),x∈l.filter L:=fun x c=>by
      obtain⟨r,F,w,rfl⟩:=Wv c;refine er.2 ⟨Di w,?_⟩;cases hb:L (gi l r) with
      |true=>rfl
      |false=>exact absurd ⟨r,by omega,hb⟩ B
     have:=J3 (NI (fk (List.take_sublist (k+1) l) d)) m;rw[ar] at this;omega
    obtain⟨r,F,w⟩:=C;have:=s2 _ (Di e) _ (Di (show r<l.length by omega)) hLx w;have:=Xb d F J;omega
  ·
   have g:∀x∈l.drop k,x∈l∧L x=false:=fun x c=>by
    obtain⟨i,A,e,rfl⟩:=Wy c;refine⟨Di e,?_⟩;cases hb:L (gi l i) with
    |false=>rfl
    |true =>
     have:=s1 _ (Di e) _ (Di (show 0<l.length by omega)) hb (q (by omega));have:=Xb d A e;omega
   refine⟨?_,(aF hid s).2 fun x c z f=>s2 x (g x c).1 z (g z f).1 (g x c).2 (g z f).2⟩;have:=J3 (NI hid) fun x c=>p x (g x c).1 (g x c).2
   omega
theorem a5m{y:Na}(g:0≤y.hn)(f:0≤y.hs){l:List Int}(e:Inc l)(L:Int→Bool)(m:((l.filter L).length:Int)≤y.hn)(i:((l.filter fun x=>!L x).length:Int)≤y.hn)
 (s1:∀a∈l,∀b∈l,L a=true→L b=true→a-b≤y.hs) (s2:∀a∈l,∀b∈l,L a=false→L b=false→a-b≤y.hs):wC y l=true:=by
 refine a8n.2 ?_;by_cases h:0<l.length→L (gi l 0)=true
 ·exact dH g f e L h m i s1 s2
 ·refine dH g f e (fun x=>!L x) (fun o=>?_) i (by grind) (fun a d b c k j=>s2 a d b c (by grind) (by grind)) (fun a d b c k j=>s1 a d b c (by grind) (by grind))
  grind
def KI(o:FQ)(K:List FP):Nat→List Nat
 |0=>[]
 |d+1=>if(gi o.Ae d).FC=true then KI o K d else if CW (gi K d)=[] then KI o K d else KI o K d++[d]
def FB(o:FQ)(K:List FP):Nat→List FP
 |0=>[]
 |d+1=>if(gi o.Ae d).FC=true then FB o K d++[gi K d] else FB o K d
def posB(y:Na)(o:FQ)(K:List FP):Bool:=decide (P7 y (FB o K o.Ae.length))&&match(KI o K o.Ae.length).map fun d=>CW (gi K d) with
 |[]=>true
 |[a]=>wC y a
 |[a,b]=>decide (EH y a)&&decide (EH y b)
 |_=>false
theorem Ve{o:FQ}{K:List FP}{d:Nat}:∀n,d∈KI o K n↔d<n∧(gi o.Ae d).FC=false∧CW (gi K d)≠[]
 |0=>⟨fun h=>(by cases h),fun h=>absurd h.1 (bd _)⟩
 |n+1=>by
  have a:=Ve (o:=o) (K:=K) (d:=d) n;have e:KI o K (n+1)=if(gi o.Ae n).FC=true then KI o K n else if CW (gi K n)=[] then KI o K n else KI o K n++[n]:=rfl
  grind
theorem fK(o:FQ)(K:List FP):∀n,(KI o K n).Nodup
 |0=>co
 |n+1=>by
  have c:=fK o K n;have e:KI o K (n+1)=if(gi o.Ae n).FC=true then KI o K n else if CW (gi K n)=[] then KI o K n else KI o K n++[n]:=rfl
  rw[e];split
  ·omega
  ·split
   ·omega
   ·refine cQ.2 ⟨c,by simp,fun a f b d e=>?_⟩
    rw[aR] at d;have:=((Ve n).1 f).1;omega
theorem a4s(a:FP):Vp a ⟨0,0⟩=a:=by unfold Vp;simp
theorem a5k:CW ⟨0,0⟩=[] :=by decide
theorem jV(l r:List FP):∀k,k≤l.length→P9 (l++r) k=P9 l k
 |0,_=>rfl
 |k+1,h=>by
  show P9 (l++r) k+((CW (gi (l++r) k)).length:Int)=P9 l k+((CW (gi l k)).length:Int);rw[jV l r k (by omega),show gi (l++r) k=gi l k by unfold gi;grind]
theorem jP(l r:List FP):∀k,k≤l.length→NV (l++r) k=NV l k
 |0,_=>rfl
 |k+1,h=>by
  show Vp (NV (l++r) k) (gi (l++r) k)=Vp (NV l k) (gi l k);rw[jP l r k (by omega),show gi (l++r) k=gi l k by unfold gi;grind]
theorem qI{o:FQ}{K Q:List FP}:∀n,(∀d,d<n→if(gi o.Ae d).FC=true then gi Q d=gi K d else gi Q d=⟨0,0⟩)→P9 Q n=P9 (FB o K n) (FB o K n).length∧NV Q n=NV (FB o K n) (FB o K n).length
 |0,_=>⟨rfl,rfl⟩
 |n+1,h=>by
  obtain⟨e,c⟩:=qI n fun d j=>h d (by omega)
  have a:=h n (by omega);have i:P9 Q (n+1)=P9 Q n+((CW (gi Q n)).length:Int):=rfl;have g:NV Q (n+1)=Vp (NV Q n) (gi Q n):=rfl;have f:FB o K (n+1)=if(gi o.Ae n).FC=true then FB o K n++[gi K n] else FB o K n:=rfl
  rw[i,g,f,e,c];by_cases b:(gi o.Ae n).FC=true
  ·rw[if_pos b] at a ⊢
   rw[aD,a];show _=P9 (FB o K n++[gi K n]) (FB o K n).length+((CW (gi (FB o K n++[gi K n]) (FB o K n).length)).length:Int)∧_=Vp (NV (FB o K n++[gi K n]) (FB o K n).length) (gi (FB o K n++[gi K n]) (FB o K n).length);rw[jV _ _ _ (ab _),jP _ _ _ (ab _),Oh];simp
  ·rw[if_neg b] at a ⊢
   rw[a,a5k,a4s];simp
theorem qJ{p:Fe}{N:List Int}{is is':Nat→Bool}{d:Nat}:∀k,(∀i,i<k→(gi p.notes (gi N i).toNat).d=(d:Int)→is (gi N i).toNat=is' (gi N i).toNat)→YS p N is d k=YS p N is' d k
 |0,_=>rfl
 |k+1,h=>by
  rw[Gv,Gv,qJ k fun i a=>h i (by omega)];grind
theorem vW{p:Fe}{N:List Int}{is:Nat→Bool}{d:Nat}:∀k,(∀i,i<k→(gi p.notes (gi N i).toNat).d=(d:Int)→is (gi N i).toNat=false)→YS p N is d k=[]
 |0,_=>rfl
 |k+1,h=>by
  rw[Gv,vW k fun i a=>h i (by omega),if_neg];grind
theorem lK{q:Qu}{N:List Int}{i d:Nat}(h:(gi q.p.notes (gi N i).toNat).d=(d:Int)):Gj q (gi N i).toNat=(gi q.o.Ae d).FC:=by
 unfold Gj;grind
theorem a5w{q:Qu}{N:List Int}:P7 q.y (Iu q N (Gj q))↔P7 q.y (FB q.o (Iu q N fun _=>true) q.o.Ae.length):=by
 have h:=qI (o:=q.o) (K:=Iu q N fun _=>true) (Q:=Iu q N (Gj q)) q.o.Ae.length fun d b=>by
  unfold Iu;rw[Dy _ b,Dy _ b];unfold Vb;split
  ·rename_i a
   rw[qJ (is:=Gj q) (is':=fun _=>true) N.length fun i c e=>by rw[lK e,a]]
  ·rename_i a
   rw[vW (is:=Gj q) N.length fun i c e=>by rw[lK e];grind];rfl
 unfold P7;rw[Rx,h.1,h.2]
theorem b0b{q:Qu}(Z:KE q){t:Nat}(ht:t<(Bq q.p).length){l:List Int}(hk:∀i,i<q.p.notes.length→if Gj q i=true then gi l i=2 else gi l i=0∨gi l i=1)(hp:MJ q (DJ q t) l=true):posB q.y q.o (Iu q (DJ q t) fun _=>true)=true:=by
 have hN:=Jo (q:=q) ht;have ha:=a3q Z ht;obtain⟨y1,y2,y3,y4⟩:=Z.y;unfold MJ at hp;simp only[Bool.and_eq_true] at hp;obtain⟨⟨hp0,hp1⟩,hpf⟩:=hp;have R:∀h:Nat,h<2→YN q (DJ q t) l (h:Int)=true:=fun h hh=>by
  obtain rfl|rfl:h=0∨h=1:=by omega
  ·exact hp0
  ·exact hp1
 have A:=fun h hh=>(b5n Z hN ha (l:=l) (h:=((h:Nat):Int))).1 (R h hh)
 have I:∀{d:Nat},d<q.o.Ae.length→(gi q.o.Ae d).FC=false→∀x∈CW (gi (Iu q (DJ q t) fun _=>true) d),∃i h:Nat,i<(DJ q t).length∧h<2∧gi l (gi (DJ q t) i).toNat=(h:Int)∧(gi q.p.notes (gi (DJ q t) i).toNat).d=(d:Int)∧(gi q.p.notes (gi (DJ q t) i).toNat).k=x:=fun{d} M hm x j=>by
  obtain⟨i,w,_,u,U⟩:=(RY _).1 ((KR Z hN M).1 j);have hn:=hN i w;have F:=hk (gi (DJ q t) i).toNat (by omega);rw[lK u,hm] at F;simp only[Bool.false_eq_true,if_false] at F;rcases F with e|e
  ·exact⟨i,0,w,by omega,e,u,U⟩
  ·exact⟨i,1,w,by omega,e,u,U⟩
 have G:∀{i h:Nat},i<(DJ q t).length→gi l (gi (DJ q t) i).toNat=(h:Int)→(gi q.p.notes (gi (DJ q t) i).toNat).k∈bf q.p (DJ q t) (hasB l (h:Int)) (DJ q t).length:=fun hi e=>(lH _).2 ⟨_,hi,decide_eq_true e,rfl⟩
 unfold posB;rw[cW];refine⟨decide_eq_true (a5w.1 (of_decide_eq_true hpf)),?_⟩;have g:=fun d=>Ve (o:=q.o) (K:=Iu q (DJ q t) fun _=>true) (d:=d) q.o.Ae.length
 have c:=fK q.o (Iu q (DJ q t) fun _=>true) q.o.Ae.length;generalize KI q.o (Iu q (DJ q t) fun _=>true) q.o.Ae.length=D at *;have B:∀d∈D,∃i h:Nat,i<(DJ q t).length∧h<2∧gi l (gi (DJ q t) i).toNat=(h:Int)∧(gi q.p.notes (gi (DJ q t) i).toNat).d=(d:Int):=fun d M=>by
  obtain⟨w,u,U⟩:=(g d).1 M;obtain⟨x,j⟩:=gp _ U;obtain⟨i,h,m,s,J,q4,_⟩:=I w u x j;exact⟨i,h,m,s,J,q4⟩
 match D,g,c,B with
 |[],_,_,_=>rfl
 |[d],g,_,_ =>
  obtain⟨w,u,_⟩:=(g d).1 (by simp);show wC q.y (CW (gi (Iu q (DJ q t) fun _=>true) d))=true;have f:∀(h:Nat) (P:Int→Bool),(∀x∈CW (gi (Iu q (DJ q t) fun _=>true) d),P x=true→x∈bf q.p (DJ q t) (hasB l (h:Int)) (DJ q t).length)→((CW (gi (Iu q (DJ q t) fun _=>true) d)).filter P).length≤(bf q.p (DJ q t) (hasB l (h:Int)) (DJ q t).length).length:=fun h P hP=>J3 ((NI (NY _)).filter _) fun x j=>by
   obtain⟨N,S⟩:=er.1 j;exact hP x N S
  have hL:∀x∈CW (gi (Iu q (DJ q t) fun _=>true) d),decide (x∈bf q.p (DJ q t) (hasB l ((0:Nat):Int)) (DJ q t).length)=false→x∈bf q.p (DJ q t) (hasB l ((1:Nat):Int)) (DJ q t).length:=fun x j hb=>by
   obtain⟨i,h,m,s,J,q4,q5⟩:=I w u x j;obtain rfl|rfl:h=0∨h=1:=by omega
   ·exact absurd (by rw[← q5];exact G m J) (of_decide_eq_false hb)
   ·rw[← q5];exact G m J
  have W:=A 0 (by omega);have V:=A 1 (by omega);refine a5m y1.1 y3.1 (NY _) (fun x=>decide (x∈bf q.p (DJ q t) (hasB l ((0:Nat):Int)) (DJ q t).length)) ?_ ?_ ?_ ?_
  ·have:=f 0 _ fun x _ h=>of_decide_eq_true h
   have:=W.2.1;omega
  ·have:=f 1 (fun x=>!decide (x∈bf q.p (DJ q t) (hasB l ((0:Nat):Int)) (DJ q t).length)) fun x j h=>hL x j (by simpa using h)
   have:=V.2.1;omega
  ·exact fun a _ b _ m s=>W.2.2 a (of_decide_eq_true m) b (of_decide_eq_true s)
  ·exact fun a ha b hb m s=>V.2.2 a (hL a ha m) b (hL b hb s)
 |[d1,d2],g,c,B =>
  have C:d1≠d2:=fun e=>by rw[e] at c;simp at c
  have one:∀d d',d∈[d1,d2]→d'∈[d1,d2]→d≠d'→EH q.y (CW (gi (Iu q (DJ q t) fun _=>true) d)):=fun d d' M hd' C=>by
   obtain⟨w,u,U⟩:=(g d).1 M;obtain⟨i',h',Q,q2',O,q4'⟩:=B d' hd';obtain⟨i0,T,m,s,J,q4⟩:=B d M;have hh:∀{i h:Nat},i<(DJ q t).length→h<2→gi l (gi (DJ q t) i).toNat=(h:Int)→(gi q.p.notes (gi (DJ q t) i).toNat).d=(d:Int)→h=T:=fun{i h} Y w2 X w4=>by
    have n1:h≠h':=fun e=>by
     subst e;have:=(A h w2).1 i i' Y Q X O;omega
    have n2:T≠h':=fun e=>by
     subst e;have:=(A T s).1 i0 i' m Q J O;omega
    omega
   have f:∀x∈CW (gi (Iu q (DJ q t) fun _=>true) d),x∈bf q.p (DJ q t) (hasB l (T:Int)) (DJ q t).length:=fun x j=>by
    obtain⟨i,h,Y,w2,X,w4,w5⟩:=I w u x j;have:=hh Y w2 X w4;subst this;rw[← w5];exact G Y X
   have W:=A T s;refine⟨?_,(aF (NY _) y3.1).2 fun x j z hz=>W.2.2 x (f x j) z (f z hz)⟩;have:=J3 (NI (NY _)) f;have:=W.2.1;omega
  show(decide _&&decide _)=true;rw[decide_eq_true (one d1 d2 (by simp) (by simp) C),decide_eq_true (one d2 d1 (by simp) (by simp) (Ne.symm C))];rfl
 |d1::d2::d3::r,_,c,B =>
  exfalso;obtain⟨i1,N,a1,a2,a3,a4⟩:=B d1 (by simp);obtain⟨i2,S,b1,b2,b3,b4⟩:=B d2 (by simp);obtain⟨i3,h3,V,c2,c3,c4⟩:=B d3 (by simp);have n12:d1≠d2:=fun e=>by rw[e] at c;simp at c
  have n13:d1≠d3:=fun e=>by rw[e] at c;simp at c
  have n23:d2≠d3:=fun e=>by rw[e] at c;simp at c
  have e12:N≠S:=fun e=>by subst e;have:=(A N a2).1 i1 i2 a1 b1 a3 b3;omega
  have e13:N≠h3:=fun e=>by subst e;have:=(A N a2).1 i1 i3 a1 V a3 c3;omega
  have e23:S≠h3:=fun e=>by subst e;have:=(A S b2).1 i2 i3 b1 V b3 c3;omega
  omega
attribute [local irreducible] Aa Aj Ag Ad AL Ak Bd BL Bl Ai Vm.Done BD AO Qh
theorem WO.b9i{o:FQ}(h:WO o){i:Nat}(hi:i<o.Ae.length):0≤(gi o.Ae i).lo∧(gi o.Ae i).lo≤(gi o.Ae i).hi∧(gi o.Ae i).hi≤127:=by
 have a:=h.err;unfold VI at a;split at a
 ·exact absurd a (by decide)
 split at a
 ·exact absurd a (by decide)
 split at a
 ·rename_i b;exact absurd a b
 split at a
 ·exact absurd a (by decide)
 split at a
 ·exact absurd a (by decide)
 split at a
 ·rename_i b;exact absurd a b
 rename_i c;have c:GI o.ranks o.Ae 0=0:=bx c;have:=RN _ 0 rfl c i (an _) hi;unfold DW at this;split at this
 ·rename_i b;exact absurd this b
 rename_i b;have b:=bx b;unfold Xg at b;split at b
 ·exact absurd b (by decide)
 omega
attribute [local irreducible] CJ Bf Eb DW EF A8 Cj
def a0p(d:og):FP:=oK d.lo.toNat ((d.hi-d.lo).toNat+1)
theorem a5z{o:FQ}(a:WO o){d:Nat}(b:d<o.Ae.length):Ak env 65 [.agg [.int .i64 (gi o.Ae d).lo,.int .i64 (gi o.Ae d).hi]] (.D5 [.p (.agg (Enc.enc (a0p (gi o.Ae d)))),.p (.int .i64 0)]):=by
 obtain⟨f,e,c⟩:=a.b9i b;have h:=vM (gi o.Ae d).lo.toNat ((gi o.Ae d).hi-(gi o.Ae d).lo).toNat (by omega);rw[show(((gi o.Ae d).lo.toNat:Nat):Int)=(gi o.Ae d).lo by omega,show(((gi o.Ae d).lo.toNat+((gi o.Ae d).hi-(gi o.Ae d).lo).toNat:Nat):Int)=(gi o.Ae d).hi by omega] at h;exact h
theorem b6a{o:FQ}(a:WO o){d:Nat}(b:d<o.Ae.length):(a0p (gi o.Ae d)).Ok:=by
 obtain⟨f,e,c⟩:=a.b9i b;exact oN _ (by omega)
theorem a1k{q:Qu}(a:KE q){N:List Int}(c:iF q N){is:Nat→Bool}{d:Nat}(b:d<q.o.Ae.length):b0n (gi (Iu q N is) d) (a0p (gi q.o.Ae d))=true:=by
 obtain⟨u,s,r⟩:=a.o.b9i b;refine(a7v (Zy a c is b)).2 fun m e h=>?_
 have f:((m:Nat):Int)∈CW (gi (Iu q N is) d):=QT.2 ⟨m,e,rfl,h⟩;obtain⟨i,g,_,x,w⟩:=(RY _).1 ((KR a c b).1 f);have j:=c i g;have l:=(a.p.note (gi N i).toNat (by omega)).k;unfold a0p;rw[tu m e _ (by omega)];grind
theorem qj(o:FQ)(K:List FP):∀n,(FB o K n).length≤n
 |0=>ab _
 |n+1=>by
  have:=qj o K n;have e:FB o K (n+1)=if(gi o.Ae n).FC=true then FB o K n++[gi K n] else FB o K n:=rfl
  grind
theorem uP(o:FQ)(K:List FP):∀n,(KI o K n).length≤n
 |0=>ab _
 |n+1=>by
  have:=uP o K n;have e:KI o K (n+1)=if(gi o.Ae n).FC=true then KI o K n else if CW (gi K n)=[] then KI o K n else KI o K n++[n]:=rfl
  grind
theorem a2h{o:FQ}{K:List FP}:∀n,(∀d,d<n→(gi K d).Ok)→∀i,i<(FB o K n).length→(gi (FB o K n) i).Ok
 |0,_,i,a=>absurd a (bd _)
 |n+1,h,i,a=>by
  have b:=a2h (o:=o) n fun d f=>h d (by omega)
  have e:FB o K (n+1)=if(gi o.Ae n).FC=true then FB o K n++[gi K n] else FB o K n:=rfl
  rw[e] at a ⊢;split at a
  ·rename_i c
   rw[if_pos c];rw[aD] at a;have a:i<(FB o K n).length+1:=a;by_cases g:i<(FB o K n).length
   ·rw[OD g];grind
   ·obtain rfl:i=(FB o K n).length:=by omega
    rw[Oh];grind
  grind
def qQ(o:FQ)(K:List FP)(n:Nat):List (List Int):=(KI o K n).map fun d=>CW (gi K d)
theorem b0g(o:FQ)(K:List FP)(k:Nat):qQ o K (k+1)=if(gi o.Ae k).FC=true then qQ o K k else if CW (gi K k)=[] then qQ o K k else qQ o K k++[CW (gi K k)]:=by
 unfold qQ;have e:KI o K (k+1)=if(gi o.Ae k).FC=true then KI o K k else if CW (gi K k)=[] then KI o K k else KI o K k++[k]:=rfl
 grind
def mtB(y:Na):List (List Int)→Bool
 |[]=>true
 |[a]=>wC y a
 |[a,b]=>decide (EH y a)&&decide (EH y b)
 |_=>false
theorem b7d(y:Na)(o:FQ)(K:List FP):posB y o K=(decide (P7 y (FB o K o.Ae.length))&&mtB y (qQ o K o.Ae.length)):=by
 rfl
theorem b3e{s:FP}:∀x∈CW s,0≤x∧x≤127:=fun x a=>by
 obtain⟨n,b,rfl,_⟩:=QT.1 a;omega
theorem SQ(y:Na)(U:y.Ok)(o:FQ)(F:WO o)(K:List FP)(hKl:K.length=o.Ae.length)(g:∀d,d<o.Ae.length→(gi K d).Ok)(J:∀d,d<o.Ae.length→b0n (gi K d) (a0p (gi o.Ae d))=true) :
 Ak Ip 28 [.agg (Enc.enc y),.lst 118 (cells o.Ae) o.Ae.length,.lst 84 (cells K) K.length] (.D5 [.p (.bool (posB y o K)),.p (.int .i64 0)]):=by
 have d1:=F.Ae;have A:=Jg y;rw[Zx U] at A;have A:=Oj A;have m:=qj o K;have e:=Oj (eu y (FB o K o.Ae.length) (by have:=m o.Ae.length;omega) (a2h (o:=o) (K:=K) o.Ae.length g));have q:∀k,(qQ o K k).length≤k:=fun k=>by unfold qQ;rw[aM];exact uP o K k
 have f:∀a∈qQ o K o.Ae.length,0<a.length∧a.length≤128∧∀x∈a,0≤x∧x≤127:=fun a u=>by
  obtain⟨d,hd,rfl⟩:=ba.1 u;exact⟨cX.2 ((Ve _).1 hd).2.2,Rn _,b3e⟩
 rw[b7d];refine Ak.enter (E:=Ip) (Sv (by decide)) Tryz.func28 rfl (by kernel_rfl) (by simp[Tryz.ntmps28]) ?_
 repeat' (first|(refine Ad.at 8 ?_;refine Ad.ghost ((Aq.adopt 9 28 rfl).trans (Aq.adopt 10 84 rfl)) ?_;first|apply Ad.Bo|apply Ad.Ce)|(apply Aa.fn;rfl;rfl;exact A;intro _;rfl)|refine VU ?_|apply Ad.Bo|(apply Aa.int;rfl;rfl;rfl)|(apply Ad.Ah;rfl)|(apply Ad.Ac;rfl)|(intro _;try(exfalso;omega)))
 all_goals try(exfalso;omega)
 all_goals try contradiction
 apply Ad.GU (o.Ae.length) [(2,_),(3,_),(25,_),(26,_)] [(0,_)] (fun k r=>(27,.p (.int .i64 (k:Int)))::(9,.vec 1 (qQ o K k).length 0 (qQ o K k).length)::(10,.vec 2 (FB o K k).length 0 (FB o K k).length)::r) (fun k r=>(1,.vec 28 (cells (qQ o K k)) (qQ o K k).length true)::(2,.vec 84 (cells (FB o K k)) (FB o K k).length true)::r) 3
 ·first|omega|decide
 ·first|omega|decide
 ·exact Qb
 ·exact Tt
 ·intro k s
  have C:=Oj (a5z F s);have w:=Oj (vI (gi K k) (a0p (gi o.Ae k)) (g k s) (b6a F s));rw[J k s] at w;have z:=Oj (fJ (gi K k) (g k s));have G:=c1b (Qk (g k s).lo (g k s).hi);have G:Bd Ip 61 [.agg (Enc.enc (gi K k))] 3 (cells (CW (gi K k))) (CW (gi K k)).length _:=G;have Z:=q k;have W:=m k;have S:FB o K (k+1)=if(gi o.Ae k).FC=true then FB o K k++[gi K k] else FB o K k:=rfl
  have hle:=Rn (gi K k);rw[b0g,S];clear S e f q m;generalize a0p (gi o.Ae k)=rq at *;by_cases j:(gi o.Ae k).FC=true
  ·rw[if_pos j,if_pos j]
   generalize qQ o K k=M at *;generalize FB o K k=X at *;have O:(X++[gi K k]).length=X.length+1:=by rw[aD];rfl
   rw[O]
   repeat' (first|(apply Aa.fn;rfl;rfl;exact C;intro _;rfl)|(apply Aa.fn;rfl;rfl;exact w;intro _;rfl)|(apply Aa.fn;rfl;rfl;exact z;intro _;rfl)|(apply Aa.Dn (l:=X) (a:=gi K k);rfl;rfl;rfl;rfl;rfl;rfl;rfl;rfl;(intro _ h;cases h);rfl;rfl;rfl;decide;decide;omega)|(apply Aa.Ap;rfl;rfl;rfl;omega;rfl)|refine go2 ?_|apply Ad.Jh|(apply Aa.int;rfl;rfl;rfl)|(apply Aa.buildSlice;rfl;rfl;rfl;decide;rfl;rfl;rfl)|(apply Ad.Ac;rfl)|(apply Ad.cond_false;rfl)|(apply Ad.Au;rfl)|(apply Ad.cond;rfl)|(intro _;try(exfalso;omega)))
   all_goals try(exfalso;omega)
   all_goals try contradiction
   all_goals try exact absurd (j.symm.trans ‹(gi o.Ae k).FC=false›) (by decide)
   refine Ai.normal ⟨by first|omega|decide,?_,?_⟩
   ·exact Du
   ·exact Ec
  ·rw[if_neg j,if_neg j]
   replace j:(gi o.Ae k).FC=false:=by simpa using j
   by_cases B:CW (gi K k)=[]
   ·rw[if_pos B]
    rw[B] at z;generalize qQ o K k=M at *;generalize FB o K k=X at *
    repeat' (first|(apply Aa.fn;rfl;rfl;exact C;intro _;rfl)|(apply Aa.fn;rfl;rfl;exact w;intro _;rfl)|(apply Aa.fn;rfl;rfl;exact z;intro _;rfl)|(apply Aa.Ap;rfl;rfl;rfl;omega;rfl)|(apply Aa.Dn;rfl;rfl;rfl;rfl;rfl;rfl;rfl;rfl;(intro _ h;cases h);rfl;rfl;rfl;decide;decide;(first|omega|(simp only[List.length_take,List.length_drop,List.length_append,List.length_singleton,List.length_cons,List.length_nil]<;>omega)))|refine go2 ?_|apply Ad.Jh|(apply Aa.int;rfl;rfl;rfl)|(apply Aa.buildSlice;rfl;rfl;rfl;decide;rfl;rfl;rfl)|(apply Ad.Ac;rfl)|(apply Ad.cond_false;rfl)|(apply Ad.cond;rfl)|(intro _;try(exfalso;omega)))
    all_goals try(exfalso;omega)
    all_goals try contradiction
    all_goals try exact absurd (j.symm.trans ‹(gi o.Ae k).FC=true›) (by decide)
    refine Ai.normal ⟨by first|omega|decide,?_,?_⟩
    ·exact Du
    ·exact Ec
   ·rw[if_neg B]
    have N:0<(CW (gi K k)).length:=cX.2 B;generalize qQ o K k=M at *;generalize FB o K k=X at *;generalize CW (gi K k)=Y at *;have O:(M++[Y]).length=M.length+1:=by rw[aD];rfl
    rw[O]
    repeat' (first|(refine Aj.Il 73 ?_;refine Aj.ghost (Aq.freeze 72 rfl rfl) ?_)|apply Ad.Bo|apply Ad.Ce|apply Ad.region|apply Ad.FH|apply Ad.EG|apply BL.normal|apply Bl.normal|apply Ad.Jh|apply Aj.nil|apply Ag.nil|apply Aj.one|(apply Ag.bar;decide +kernel)|apply Ag.quiet|(apply Aa.fn;rfl;rfl;exact C;intro _;rfl)|(apply Aa.fn;rfl;rfl;exact w;intro _;rfl)|(apply Aa.fn;rfl;rfl;exact z;intro _;rfl)|(apply Aa.fv;rfl;rfl;exact G)|(apply Aa.Dn (l:=M) (a:=Y);rfl;rfl;rfl;rfl;rfl;rfl;rfl;rfl;(intro _ h;cases h);rfl;rfl;rfl;decide;decide;omega)|(apply Aa.assign;rfl)|(apply Aa.move;rfl)|(apply Aa.MH;rfl;rfl;omega)|(apply Aa.int;rfl;rfl;rfl)|(apply Aa.Ap;rfl;rfl;rfl;omega;rfl)|(apply Aa.load;rfl;rfl)|(apply Aa.HY;rfl;rfl;rfl)|(apply Aa.alloc;rfl)|(apply Aa.Gl;rfl;rfl;rfl;trivial;rfl;rfl;exact Ba rfl;exact le_dec rfl)|(apply Aa.buildSlice;rfl;rfl;rfl;decide;rfl;rfl;rfl)|(apply Aa.not;rfl)|(apply Aa.extract;rfl;rfl)|(apply Aa.Dn;rfl;rfl;rfl;rfl;rfl;rfl;rfl;rfl;(intro _ h;cases h);rfl;rfl;rfl;decide;decide;(first|omega|(simp only[List.length_take,List.length_drop,List.length_append,List.length_singleton,List.length_cons,List.length_nil]<;>omega)))|(apply Ad.Ac;rfl)|(apply Ad.cond_false;rfl)|(apply Ad.Au;rfl)|(apply Ad.cond;rfl)|(intro _;try(exfalso;omega)))
    all_goals try(exfalso;omega)
    all_goals try contradiction
    all_goals try exact absurd (j.symm.trans ‹(gi o.Ae k).FC=true›) (by decide)
    refine Ai.normal ⟨by first|omega|decide,?_,?_⟩
    ·exact Du
    ·exact Ec
 ·clear q
  generalize qQ o K o.Ae.length=M at *;generalize FB o K o.Ae.length=X at *;by_cases R:P7 y X;all_goals first|rw[decide_eq_true R] at e ⊢|rw[decide_eq_false R] at e ⊢
  ·rw[cI]
   match M,f with
   |[],_ =>
    have I:([]:List (List Int)).length=0:=rfl
    repeat' (first|(refine Ad.at 21 ?_;refine Ad.ghost (Aq.freeze 10 rfl rfl) ?_;first|apply Ad.Bo|apply Ad.Ce)|(apply Aa.fn;rfl;rfl;exact e;intro _;rfl)|(apply Aa.lenV;rfl;rfl;rfl)|refine VU ?_|apply Ad.Bo|(apply Aa.int;rfl;rfl;rfl)|(apply Ad.Ah;rfl)|(apply Ad.Ac;rfl)|(apply Ad.cond_true;rfl)|(intro _;try(exfalso;omega)))
    all_goals first|(exfalso;omega)|contradiction|(refine Done.rt rfl rfl ⟨?_,rfl,rfl⟩;try rfl)
   |[a],f =>
    have I:([a]:List (List Int)).length=1:=rfl;obtain⟨T,Q,P⟩:=f a (by simp);have V:=a9e y a T Q P;show Ad Ip _ _ _ _ _ _
    repeat' (first|(refine Ad.at 21 ?_;refine Ad.ghost (Aq.freeze 10 rfl rfl) ?_;first|apply Ad.Bo|apply Ad.Ce)|(refine Ad.at 27 ?_;refine Ad.ghost (Aq.freeze 9 rfl rfl) ?_;first|apply Ad.Bo|apply Ad.Ce)|(apply Aa.fn;rfl;rfl;exact e;intro _;rfl)|(apply Aa.fn;rfl;rfl;exact V;intro _;rfl)|(apply Aa.Ap (l:=[a]) (i:=0);rfl;rfl;rfl;exact Ba rfl;rfl)|(apply Aa.lenV;rfl;rfl;rfl)|refine VU ?_|apply Ad.Bo|(apply Aa.int;rfl;rfl;rfl)|(apply Ad.Ah;rfl)|(apply Ad.Ac;rfl)|(apply Ad.cond_true;rfl)|(apply Ad.cond_false;rfl)|(intro _;try(exfalso;omega)))
    all_goals first|(exfalso;omega)|contradiction|(refine Done.rt rfl rfl ⟨?_,rfl,rfl⟩;try rfl)
   |[a,b],f =>
    have I:([a,b]:List (List Int)).length=2:=rfl;obtain⟨T,Q,P⟩:=f a (by simp);obtain⟨b1,b2,b3⟩:=f b (by simp);have u:=Oj (ah y a Q P);have hb:=Oj (ah y b b2 b3);show Ad Ip _ _ _ _ _ _;rw[show mtB y [a,b]=(decide (EH y a)&&decide (EH y b)) from rfl];by_cases N:EH y a;all_goals first|rw[decide_eq_true N] at u ⊢|rw[decide_eq_false N] at u ⊢
    all_goals first|rw[cI]|rw[cU]
    all_goals
     repeat' (first|(refine Ad.at 21 ?_;refine Ad.ghost (Aq.freeze 10 rfl rfl) ?_;first|apply Ad.Bo|apply Ad.Ce)|(refine Ad.at 29 ?_;refine Ad.ghost (Aq.freeze 9 rfl rfl) ?_;first|apply Ad.Bo|apply Ad.Ce)|(apply Aa.fn;rfl;rfl;exact e;intro _;rfl)|(apply Aa.fn;rfl;rfl;exact u;intro _;rfl)|(apply Aa.fn;rfl;rfl;exact hb;intro _;rfl)|(apply Aa.Ap (l:=[a,b]) (i:=0);rfl;rfl;rfl;exact Ba rfl;rfl)|(apply Aa.Ap (l:=[a,b]) (i:=1);rfl;rfl;rfl;exact Ba rfl;rfl)|(apply Aa.lenV;rfl;rfl;rfl)|refine VU ?_|apply Ad.Bo|(apply Aa.int;rfl;rfl;rfl)|(apply Ad.Ah;rfl)|(apply Ad.Ac;rfl)|(apply Ad.cond_true;rfl)|(apply Ad.cond_false;rfl)|(intro _;try(exfalso;omega)))
     all_goals first|(exfalso;omega)|contradiction|(refine Done.rt rfl rfl ⟨?_,rfl,rfl⟩;try rfl)
   |a::b::c::r,_ =>
    have I:(a::b::c::r).length=r.length+3:=rfl
    repeat' (first|(refine Ad.at 21 ?_;refine Ad.ghost (Aq.freeze 10 rfl rfl) ?_;first|apply Ad.Bo|apply Ad.Ce)|(apply Aa.fn;rfl;rfl;exact e;intro _;rfl)|(apply Aa.lenV;rfl;rfl;rfl)|refine VU ?_|apply Ad.Bo|(apply Aa.int;rfl;rfl;rfl)|(apply Ad.Ah;rfl)|(apply Ad.Ac;rfl)|(apply Ad.cond_false;rfl)|(intro _;try(exfalso;omega)))
    all_goals first|(exfalso;omega)|contradiction|(refine Done.rt rfl rfl ⟨?_,rfl,rfl⟩;try rfl)
  ·rw[cU]
   repeat' (first|(refine Ad.at 21 ?_;refine Ad.ghost (Aq.freeze 10 rfl rfl) ?_;first|apply Ad.Bo|apply Ad.Ce)|(apply Aa.fn;rfl;rfl;exact e;intro _;rfl)|refine VU ?_|apply Ad.Bo|(apply Aa.int;rfl;rfl;rfl)|(apply Ad.AV;rfl)|(apply Ad.Ac;rfl)|(intro _;try(exfalso;omega)))
   all_goals first|(exfalso;omega)|contradiction|(refine Done.rt rfl rfl ⟨?_,rfl,rfl⟩;try rfl)
theorem YT(q:Qu)(a:KE q)(P:Nat→Bool)(u:P=fun i=>!posB q.y q.o (Iu q (DJ q i) fun _=>true)):Ak Ip 26 [.agg (Enc.enc q)] (.D5 [.p (.int .i64 (max (Ej P (Bq q.p).length) 0)),.p (.bool (decide (0≤Ej P (Bq q.p).length))),.p (.int .i64 0)]):=by
 have j:=Rf q a.o.sm a.p.sm;rw[zK a] at j;have j:=Oj j;have z:=Oj (KW q a);have x:=O8 q.p;have A:=a.p.notes;have w:∀k,k<(Bq q.p).length→D7 Ip 62 [.p (.agg (Enc.enc q)),.p (.lst 3 (cells (DJ q k)) (DJ q k).length),.clo 63 [] []] [] 0 (.lst 84 (cells (Iu q (DJ q k) fun _=>true)) (Iu q (DJ q k) fun _=>true).length):=fun k b=>c4x (yF q a _ (Jo b) (aj a b))
 have f:∀k,k<(Bq q.p).length→Ak Ip 28 [.agg (Enc.enc q.y),.lst 118 (cells q.o.Ae) q.o.Ae.length,.lst 84 (cells (Iu q (DJ q k) fun _=>true)) (Iu q (DJ q k) fun _=>true).length] (.D5 [.p (.bool (!P k)),.p (.int .i64 0)]):=fun k b=>by
  have:=SQ q.y a.y q.o a.o (Iu q (DJ q k) fun _=>true) (Rx _ _ _) (fun d m=>Zy a (Jo b) _ m) (fun d m=>a1k a (Jo b) m);rw[u,Bool.not_not];exact this
 clear u;unfold DJ at w f;generalize Bq q.p=S at *;refine Ak.enter (E:=Ip) (Sv (by decide)) Tryz.func26 rfl (by kernel_rfl) (by simp[Tryz.ntmps26]) ?_
 repeat' (first|(apply Aa.fn;rfl;rfl;exact j;intro _;rfl)|(apply Aa.fn;rfl;rfl;exact z;intro _;rfl)|refine go2 ?_|(apply Aa.int;rfl;rfl;rfl)|(apply Ad.Ah;rfl))
 all_goals try(exfalso;omega)
 all_goals try contradiction
 apply Ad.H8 (S.length) (fun k=>Yh P S.length (S.length-k)=Ej P S.length) [(1,_),(16,_),(17,_)] [(0,_)] (fun k r=>(18,.p (.int .i64 (k:Int)))::r) (fun k r=>r) 1
 ·first|omega|decide
 ·first|omega|decide
 ·exact Qb
 ·exact Tt
 ·first|(intro _ _;omega)|omega|trivial
 ·intro k b h
  have g:=w k b;have c:=f k b;by_cases l:P k=true
  ·rw[l] at c
   have s:Ej P S.length=(k:Int):=by rw[← h,Y8 b l]
   rw[s,decide_eq_true (by omega),Int.max_eq_left (by omega)]
   repeat' (first|(apply Aa.UZ g;rfl;rfl;exact .of_eq rfl;exact CV.AA rfl)|(apply Aa.fn;rfl;rfl;exact c;intro _;rfl)|(apply Aa.Ap;rfl;rfl;rfl;omega;rfl)|refine go2 ?_|(apply Aa.int;rfl;rfl;rfl)|(apply Ad.Ah;rfl)|(apply Ad.Ac;rfl)|(apply Ad.cond_true;rfl)|(intro _;try(exfalso;omega)))
   all_goals first|(exfalso;omega)|contradiction|(refine Done.rt rfl rfl ⟨?_,rfl,rfl⟩;try rfl)
  ·have e:P k=false:=by simpa using l
   rw[e] at c
   repeat' (first|(apply Aa.UZ g;rfl;rfl;exact .of_eq rfl;exact CV.AA rfl)|(apply Aa.fn;rfl;rfl;exact c;intro _;rfl)|(apply Aa.Ap;rfl;rfl;rfl;omega;rfl)|refine go2 ?_|(apply Aa.int;rfl;rfl;rfl)|(apply Ad.Ah;rfl)|(apply Ad.Ac;rfl)|(apply Ad.cond_false;rfl)|(intro _;try(exfalso;omega)))
   all_goals try(exfalso;omega)
   all_goals try contradiction
   refine Ai.normal ⟨((U6 b e).symm.trans h),by first|omega|decide,?_,?_⟩
   ·exact Du
   ·exact Ec
 ·intro h
  have s:Ej P S.length=-1:=by rw[← h,cG];rfl
  rw[s]
  repeat' (first|refine go1 ?_|(apply Ad.Ac;rfl)|(intro _;try(exfalso;omega)))
  all_goals first|(exfalso;omega)|(refine Done.rt rfl rfl ⟨?_,rfl,rfl⟩;try rfl)
attribute [local irreducible] AY Ci Et I7 Gi Hold
theorem a1t(p:Fe)(L:List Int)(d:Nat):∀k,Np p L d k=YS p L (fun _=>true) d k
 |0=>rfl
 |k+1=>by
  show(if(gi p.notes (gi L k).toNat).d=(d:Int) then Np p L d k++[(gi p.notes (gi L k).toNat).k] else Np p L d k)=_;rw[Gv,a1t p L d k];simp
theorem a5d(q:Qu){t:Nat}(a:t<(Bq q.p).length):wG q.o q.p (Nk q t).s=Iu q (DJ q t) fun _=>true:=by
 rw[a3b q a,Ub q a];refine MR fun d _=>?_
 unfold Vb;rw[a1t]
theorem c3h{q:Qu}(b:KE q){t:Nat}(f:t<(Bq q.p).length):atE q.o q.p (Nk q t).s=0:=by
 rw[a3b q f];have z:=ZT q.p;have g:=Ur q.p (i:=t) (j:=t+1) (by omega) (by omega);have a:∀i,i<(DC q.p).length→Nr q.p≤gi (DC q.p) i∧gi (DC q.p) i≤NG q.p:=fun i m=>by
  have u:Nr q.p<NG q.p:=by
   have A:=b.p.bars;have c:∀k,1≤k→k<q.p.bars.length→gi q.p.bars 0<gi q.p.bars k:=fun k=>by
    induction k with
    |zero=>simp
    |succ k y =>
     intro _ l;have B:=(b.p.bar (k+1) l).2 (by omega);grind
   exact c (q.p.bars.length-1) (by omega) (by omega)
  rcases(Zj _ _ _).1 ((pX _ _).1 (Di m)) with e|e|⟨j,d,e|e⟩
  ·omega
  ·omega
  ·have:=(b.p.note j d).r;omega
  ·have:=(b.p.note j d).r;omega
 have x:=a t (by omega);have w:=a (t+1) (by omega);unfold atE;rw[if_neg (fun h=>h b.e),if_neg (by omega)]
theorem Ua(x:gG)(I:x.Ok)(y:Rch)(U:y.Ok):I7 Ip 7 [.agg x.enc,.agg y.enc] (.p (.bool true)):=by
 have j:=b8z pq;have C:=Oj (zi x I);by_cases b:PX x
 ·rw[decide_eq_true b] at C
  have W:=Oj (vZ x I b y U);have a:=c3s x I b y;have V:=c6d x b y;unfold mkH at *;generalize eF x.org=o at *;generalize mkP x=p at *;generalize mkY y=z at *;have Q:p.notes.length≤8:=V;have G:=b8z (fD _ a (by omega));have J:=Oj (X3 a.o.sm a.e a.p);obtain⟨P,F⟩:∃P:Nat→Bool,P=fun i=>!posB z o (Iu ⟨o,p,z⟩ (DJ ⟨o,p,z⟩ i) fun _=>true):=⟨_,rfl⟩
  have N:=YT ⟨o,p,z⟩ a P F;have Z:=O8 p;have q:∀k,k<(Bq p).length→Ak Ip 27 [.agg (Enc.enc o),.agg (Enc.enc p),.int .i64 (gi (Bq p) k).s] (.D5 [.p (.lst 84 (cells (Iu ⟨o,p,z⟩ (DJ ⟨o,p,z⟩ k) fun _=>true)) (Iu ⟨o,p,z⟩ (DJ ⟨o,p,z⟩ k) fun _=>true).length),.p (.int .i64 0)]):=fun k c=>by
   have:=Oj (a5p a.o a.p (gi (Bq p) k).s (c3h a c));rw[show wG o p (gi (Bq p) k).s=_ from a5d ⟨o,p,z⟩ c] at this;exact this
  have m:∀k,k<(Bq p).length→Ak Ip 28 [.agg (Enc.enc z),.lst 118 (cells o.Ae) o.Ae.length,.lst 84 (cells (Iu ⟨o,p,z⟩ (DJ ⟨o,p,z⟩ k) fun _=>true)) (Iu ⟨o,p,z⟩ (DJ ⟨o,p,z⟩ k) fun _=>true).length] (.D5 [.p (.bool (!P k)),.p (.int .i64 0)]):=fun k c=>by
   have:=SQ z a.y o a.o (Iu ⟨o,p,z⟩ (DJ ⟨o,p,z⟩ k) fun _=>true) (Rx _ _ _) (fun d M=>Zy a (Jo c) _ M) (fun d M=>a1k a (Jo c) M);rw[F,Bool.not_not];exact this
  have K:∀k,k<(Bq p).length→P k=true→V5 ⟨o,p,z⟩=.D5 [.p (.agg [.val (.slice none 0 0),.int .i64 0]),.p (.int .i64 24)]:=fun k c g=>by
   have hE:KF ⟨o,p,z⟩ (Bq p).length=[]:=cj.2 fun l X=>by
    have T:=(iU ⟨o,p,z⟩ a l).1 X;have O:=b0b a (t:=k) c T.2.1 (T.2.2 k c);rw[F] at g;have O:posB z o (Iu ⟨o,p,z⟩ (DJ ⟨o,p,z⟩ k) fun _=>true)=true:=O;simp[O] at g
   unfold V5;rw[iR hE]
  have G:I7 Ip 11 [.agg (Enc.enc (⟨o,p,z⟩:Qu))] (V5 ⟨o,p,z⟩):=G;have N:Ak Ip 26 [.agg (Enc.enc (⟨o,p,z⟩:Qu))] (.D5 [.p (.int .i64 (max (Ej P (Bq p).length) 0)),.p (.bool (decide (0≤Ej P (Bq p).length))),.p (.int .i64 0)]):=N;clear F;have Y:-1≤Ej P (Bq p).length:=(nX P (Bq p).length _ (ab _)).1;generalize V5 ⟨o,p,z⟩=BR at *;generalize hKK:(fun k=>Iu ⟨o,p,z⟩ (DJ ⟨o,p,z⟩ k) fun _=>true)=KK at *;have w:∀k,(Iu ⟨o,p,z⟩ (DJ ⟨o,p,z⟩ k) fun _=>true)=KK k:=fun k=>by rw[← hKK]
  simp only[w] at q m;clear w hKK;generalize Bq p=S at *;generalize hFI:Ej P S.length=fi at *;refine I7.enter (E:=Ip) Tryz.func7 rfl (by kernel_rfl) (by kernel_rfl) (by simp[Tryz.ntmps7]) ?_
  repeat' (first|(refine AY.at 1 ?_;apply AY.SV)|(apply Ci.fn;rfl;rfl;exact j;exact Vy;intro _;rfl)|((refine AY.at 8 ?_;refine Hold.of ?_))|apply AY.Bo|apply Et.normal|apply AY.to|apply AY.skip|(apply AY.cond_false;rfl)|apply Ci.one|(apply Aa.fn;rfl;rfl;exact C;intro _;rfl)|(apply Aa.fn;rfl;rfl;exact W;intro _;rfl)|(apply Aa.fn;rfl;rfl;exact N;intro _;rfl)|(apply Aa.fn;rfl;rfl;exact J;intro _;rfl)|refine VU ?_|(apply Aa.int;rfl;rfl;rfl)|(apply Ci.ofV))
  all_goals try(exfalso;omega)
  all_goals try contradiction
  refine Hold.go ?_
  repeat' (first|apply AY.Bo|apply AY.block|refine go2 ?_|fail)
  all_goals try(exfalso;omega)
  apply AY.H8 (S.length) (fun k=>Yh P S.length (S.length-k)=fi) [(5,_),(6,_),(7,_),(9,_)] [(2,_)] (fun k r=>(11,.p (.int .i64 (k:Int)))::r) (fun k r=>r) 3
  ·first|omega|decide
  ·first|omega|decide
  ·exact Qb
  ·exact Tt
  ·first|(intro _ _;omega)|omega|trivial
  ·intro k c B
   have u:=q k c;have f:=m k c;by_cases A:P k=true
   ·have e1:fi=(k:Int):=by rw[← B,Y8 c A]
    rw[K k c A] at G;rw[A] at f
    repeat' (first|(refine AY.at 16 ?_;apply AY.SV)|(apply Ci.fn;rfl;rfl;exact G;exact XH;intro _;rfl)|apply AY.Bo|apply AY.Ce|apply Et.normal|apply Et.ret|apply AY.to|apply AY.block|apply AY.ret|apply AY.skip|(apply AY.cond_true;rfl)|(apply AY.cond_false;rfl)|(apply AY.Au;rfl)|apply Ci.nil|apply Ci.one|(apply Aa.fn;rfl;rfl;exact u;intro _;rfl)|(apply Aa.fn;rfl;rfl;exact f;intro _;rfl)|(apply Aa.Ap;rfl;rfl;rfl;omega;rfl)|refine VU ?_|(apply Aj.guard;rfl;rfl)|(apply Aa.int;rfl;rfl;rfl)|(intro _;try(exfalso;omega)))
    all_goals first|(exfalso;omega)|contradiction|(refine Done.rt rfl rfl ⟨?_,rfl,rfl⟩;try rfl)
    all_goals first|exact PV.Iy (decide_eq_true (by omega))|exact PV.Iy (by simp;omega)
   ·have h:P k=false:=by simpa using A
    rw[h] at f
    repeat' (first|apply AY.Bo|apply AY.Ce|apply AY.region|apply Et.normal|apply AY.to|apply AY.block|apply AY.skip|(apply AY.cond_false;rfl)|(apply AY.Au;rfl)|(apply Aa.fn;rfl;rfl;exact u;intro _;rfl)|(apply Aa.fn;rfl;rfl;exact f;intro _;rfl)|(apply Aa.Ap;rfl;rfl;rfl;omega;rfl)|refine VU ?_|(apply Aa.int;rfl;rfl;rfl)|(intro _;try(exfalso;omega)))
    all_goals try(exfalso;omega)
    all_goals try contradiction
    refine Ai.normal ⟨((U6 c h).symm.trans B),by first|omega|decide,?_,?_⟩
    ·exact Du
    ·exact Ec
  ·intro B
   have e1:fi=-1:=by rw[← B,cG];rfl
   repeat' (first|apply AY.Bo|apply Et.normal|apply Et.exit|apply AY.to|apply AY.ret|apply AY.exit|(apply AY.Au;rfl)|refine JD ?_|(apply Aj.b9r;rfl;rfl)|(intro _;try(exfalso;omega)))
   all_goals first|(exfalso;omega)|contradiction|(refine Done.rt rfl rfl ⟨?_,rfl,rfl⟩;try rfl)
   all_goals first|(exfalso;rename_i R;rw[decide_eq_false (by omega)] at R;exact absurd R (by decide))|exact PV.Iy (decide_eq_true (by omega))
 ·rw[decide_eq_false b] at C
  refine I7.enter (E:=Ip) Tryz.func7 rfl (by kernel_rfl) (by kernel_rfl) (by simp[Tryz.ntmps7]) ?_
  repeat' (first|(refine AY.at 1 ?_;apply AY.SV)|(refine AY.at 2 ?_;apply AY.SV)|(apply Ci.fn;rfl;rfl;exact j;exact Vy;intro _;rfl)|apply AY.Bo|apply Et.ret|apply AY.to|apply AY.ret|(apply AY.cond_true;rfl)|apply Ci.nil|apply Ci.one|(apply Aa.fn;rfl;rfl;exact C;intro _;rfl)|refine VU ?_|(apply Ci.ofV))
  all_goals first|(exfalso;omega)|contradiction|(refine Done.rt rfl rfl ⟨?_,rfl,rfl⟩;try rfl)
end Go.Proofs.YtnjkoebfgcbbdaaGreatDoor
