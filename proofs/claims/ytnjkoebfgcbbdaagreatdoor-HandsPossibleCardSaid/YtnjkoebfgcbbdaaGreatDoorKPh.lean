/-
  Texts of a proof, merged (Ori, Vm29, Shell, WB, Am23, VmE, Vm30, Orq, Nsq, EnvO). Conditions: in each statement.
-/
import Derived.Sort.Grow
import Derived.Test.YtnjkoebfgcbbdaaGreatDoorTie
import Derived.ProofKit
import Derived.LaidMore
import Derived.OpenShut
import Derived.Below
import Derived.MakeChecks
import Derived.Stop.Joined
import Derived.Shelf.SlIterI.Collect
import Derived.Shelf.Spec.TrailingZeros
import Derived.Test.YtnjkoebfgcbbdaaGreatDoorKPg
set_option linter.unusedSimpArgs false
set_option linter.unusedVariables false
set_option linter.unusedSectionVars false
set_option maxRecDepth 100000
set_option maxHeartbeats 8000000
abbrev cn:=@List.take_length
abbrev dc:=@List.filter_append
abbrev dd:=@List.append_nil
abbrev dm:=@List.drop_of_length_le
abbrev dt:=@List.length_filter_le
abbrev em:=@List.forIn_cons
abbrev eI:=@List.map_nil
abbrev eJ:=@Array.forIn_toList
abbrev gx:=@Option.bind_some
abbrev gF:=@List.range_succ
namespace Go.Vm
open Go.Am
open Go.Sort (putRow putCells mapBlock onCells Holds grow size_putRow size_grow)
section
variable {P:Program}{G:List Nat}
def iV(z:Int):Value:=.int .i64 z
def Xa:List Value→Option (List Int)
 |[]=>some []
 | .int .i64 n::l=>(Xa l).map (n::·)
 |_::_=>none
theorem WX:∀zs:List Int,Xa (zs.map iV)=some zs
 |[]=>rfl
 |z::zs=>by simp only[List.map_cons,iV,Xa];rw[WX zs];rfl
theorem jB:∀{l:List Value} {zs:List Int},Xa l=some zs→l=zs.map iV
 |[],zs,h=>by cases h;rfl
 |v::l,zs,h=>by
  unfold Xa at h;split at h
  ·grind
  ·rename_i n e c
   cases c;rw[ae] at h;obtain⟨a,d,rfl⟩:=h;rw[jB d];rfl
  grind
abbrev InF:=List Int→List Value→Option (List Int×Option Nat)
def kR(e:TypeId)(Fn:InF)(Bh:List Value)(m:Mem):Option (Value×Mem):=match Bh with
 | .slice none 0 0::rest=>match Fn [] rest with
  |some ([],none)=>some (.tuple #[],m)
  |_=>none
 | .slice (some ⟨b,0,none⟩) n g::rest=>match m.get b with
  | .cells vs e' g' false =>
   if g=g'∧e=e'∧vs.length=n∧0<n∧rest.all Am.plainCell=true then
    match Xa vs with
    |some zs=>match Fn zs rest with
     |some (zs',none)=>if zs'.length=n then some (.tuple #[],m.put b (.cells (zs'.map iV) e g' false)) else none
     |some (zs',some k)=>if zs'.length=n∧k≤n then some (.slice (some ⟨b,0,none⟩) k (g'+1),m.put b (.cells ((zs'.take k).map iV) e (g'+1) false)) else none
     |none=>none
    |none=>none
   else none
  |_=>none
 |_=>none
inductive a2s(e:TypeId)(Fn:InF)(m:Mem):List Value→Value→Mem→Prop
 |nil {rest:List Value} (h:Fn [] rest=some ([],none)):a2s e Fn m (.slice none 0 0::rest) (.tuple #[]) m
 |put {b n g:Nat} {rest:List Value} {zs zs':List Int} (hm:m.get b=.cells (zs.map iV) e g false) (hn:zs.length=n) (h0:0<n) (hr:rest.all Am.plainCell=true) (h:Fn zs rest=some (zs',none)) (hl:zs'.length=n) :
  a2s e Fn m (.slice (some ⟨b,0,none⟩) n g::rest) (.tuple #[]) (m.put b (.cells (zs'.map iV) e g false))
 |cut {b n g k:Nat} {rest:List Value} {zs zs':List Int} (hm:m.get b=.cells (zs.map iV) e g false) (hn:zs.length=n) (h0:0<n) (hr:rest.all Am.plainCell=true) (h:Fn zs rest=some (zs',some k)) (hl:zs'.length=n) (hk:k≤n) :
  a2s e Fn m (.slice (some ⟨b,0,none⟩) n g::rest) (.slice (some ⟨b,0,none⟩) k (g+1)) (m.put b (.cells ((zs'.take k).map iV) e (g+1) false))
theorem bV{e:TypeId}{Fn:InF}{Bh:List Value}{m m':Mem}{v:Value}(h:kR e Fn Bh m=some (v,m')):a2s e Fn m Bh v m':=by
 unfold kR at h;split at h
 ·split at h
  ·rename_i a;cases h;exact .nil a
  grind
 ·rename_i b n g o
  split at h
  ·rename_i A C B p
   split at h
   ·rename_i y
    obtain⟨rfl,rfl,a,s,q⟩:=y;split at h
    ·rename_i z u
     have x:=jB u;subst x;rw[aM] at a;split at h
     ·rename_i d j
      split at h
      ·rename_i c;cases h;exact .put p a s q j c
      grind
     ·rename_i d k j
      split at h
      ·rename_i c;cases h;exact .cut p a s q j c.1 c.2
      grind
     grind
    grind
   grind
  grind
 grind
open Classical in
noncomputable def inO(G:List Nat)(M0:Mem)(ff:FuncId)(e:TypeId)(Fn:InF)(O:BP):BP:=fun f=>if f=ff then some (fun Bh m=>if ∀k∈G,m.get k=M0.get k then kR e Fn Bh m else none) else O f
theorem yY{a:Mem}{ff f:FuncId}{e:TypeId}{Fn:InF}{O:BP}(h:f≠ff):inO G a ff e Fn O f=O f:=if_neg h
theorem getElem!_toArray(zs:List Int)(j:Nat):zs.toArray[j]! =(zs[j]?).getD 0 :=by simp
theorem SX{ι:BG}{m:Mem}{w:World}{b g u q:Nat}{ib:IB}{e:TypeId}{zs zs' ys:List Int}{os:Array Obj}(y:DF P G ι m w)(B:ι b=some ib)(z:m.get b=.cells (zs.map iV) e g false)(hl:zs'.length=zs.length)(J:∃k,ys=zs'.take k)(T:g≤u) :
 ∃a,Ext ι m w a (m.put b (.cells (ys.map iV) e u false)) (grow (putRow iV (Sort.ahead w q) ib.blk ib.sh zs'.toArray) os)∧DF P G a (m.put b (.cells (ys.map iV) e u false)) (grow (putRow iV (Sort.ahead w q) ib.blk ib.sh zs'.toArray) os)∧a b=some ib:=by
 obtain⟨X,V,I,d,o,Y,n,s⟩:=Hg y B z;obtain⟨rfl,A⟩:=s rfl;have M:ib.blk<w.heap.size:=(y.dom b ib B).2;have C:(grow (putRow iV (Sort.ahead w q) ib.blk ib.sh zs'.toArray) os).heap[ib.blk]?=some (.cells (putCells iV ib.sh zs'.toArray X) I V):=by
  show((putRow iV (Sort.ahead w q) ib.blk ib.sh zs'.toArray).heap++os)[ib.blk]?=_;rw[cP (by simp_all)];simp only[putRow,mapBlock,Sort.heap_ahead,Array.getElem?_modify,d];rfl
 refine Jw (x:=.cells (ys.map iV) I u false) (ib':=ib) y B (Mem.P5 z) rfl ⟨by rw[Mem.GZ z];exact T,fun _=>rfl⟩ (.inl rfl) C (fun c hc K=>?_) ?_ rfl rfl rfl (fun a g' _=>?_)
 ·show((putRow iV (Sort.ahead w q) ib.blk ib.sh zs'.toArray).heap++os)[c]?=_
  simp only[putRow,mapBlock,Sort.heap_ahead,Array.getElem?_modify];grind
 ·simp
 ·obtain⟨k,rfl⟩:=J
  refine⟨fun _=>rfl,by rw[o];simp[putCells],Y,fun i S=>?_,fun _ j N=>A j (by simpa[putCells] using N)⟩;rw[aM,ar] at S;have p:i<zs'.length:=by omega
  obtain⟨Z,U,_⟩:=n i (by rw[aM];omega);refine⟨iV zs'[i],?_,?_⟩
  ·simp only[putCells,Array.getElem?_mapIdx,U,Option.map_some]
   rw[if_pos ⟨by omega,by simp;omega⟩,show ib.sh+i-ib.sh=i by omega,getElem!_toArray,ai p];rfl
  ·have W:((zs'.take k).map iV).getD i undef=iV zs'[i]:=by
    rw[bS,aw,ew,if_pos (by omega),ai p];rfl
   rw[W];exact .int _ _
theorem holds_of{ι:BG}{m:Mem}{w:World}{b g:Nat}{ib:IB}{e:TypeId}{zs:List Int}(p:DF P G ι m w)(u:ι b=some ib)(q:m.get b=.cells (zs.map iV) e g false):Holds iV w ib.blk ib.sh zs.toArray:=by
 obtain⟨J,B,I,a,n,K,c,d⟩:=Hg p u q;obtain⟨rfl,s⟩:=d rfl;intro j z;have k:j<zs.length:=by omega
 obtain⟨y,A,o⟩:=c j (by grind);have x:(zs.map iV).getD j undef=iV zs[j]:=by
  grind
 rw[x] at o;have C:=o.D8 (v:=iV zs[j]) rfl;refine⟨?_,?_⟩
 ·rw[Am.cell_of_row a,getElem!_toArray,ai k];grind
 ·rw[Am.frozen_of_row a]
  grind
theorem ZF(x:Value)(l:List Value):(⟨x::l⟩:Array Value)=#[x]++l.toArray :=by simp
theorem lF{M0:Mem}{ff:FuncId}{e:TypeId}{Fn:InF}{O:BP}(hO:Gh P G O)(he:Am.Enters P ff)(h1:P.cellsOf e=1)
 (hc:∀(blk off cap:Nat) (zs zs':List Int) (r:Option Nat) (rest:List Value) (w:World),Fn zs rest=some (zs',r)→zs'.length=zs.length→(∀k,r=some k→k≤zs.length)→Holds iV w blk off zs.toArray→blk<w.heap.size→zs.length≤cap→0<zs.length →
  Calls P ff (#[.slice (some ⟨blk,off,none⟩) zs.length cap]++rest.toArray) w fun x w'=>x=.returned (match r with|none=>.tuple #[]|some k=>.slice (some ⟨blk,off,none⟩) k cap)∧∃q os,w'=grow (putRow iV (Sort.ahead w q) blk off zs'.toArray) os)
 (hn:∀(rest:List Value) (rest':Array Value) (w:World),Fn [] rest=some ([],none)→rest'.size=rest.length→Calls P ff (#[.slice none 0 0]++rest') w fun x w'=>x=.returned (.tuple #[])∧w'=w):Gh P G (inO G M0 ff e Fn O):=by
 intro f Fo S;by_cases h:f=ff
 ·subst h
  unfold inO at S;rw[if_pos rfl] at S;cases S;refine⟨fun Bh m v m' s ι w V C c=>?_,fun Bh m v m' s=>?_,he,XK.none fun n lb m=>by simp only[zI,Y5,kR];split<;>rfl⟩
  ·simp only at s
   split at s
   case isFalse=>cases s
   have Y:=bV s;obtain⟨V⟩:=V;cases Y with
   |nil h =>
    obtain⟨v',A,rfl,T,K⟩:=c.H6;cases T;rw[ZF];refine(hn _ A.toArray w h (by simpa using K.1.symm)).mono ?_;rintro x w' ⟨rfl,rfl⟩;exact⟨_,rfl,Post.same C (.tuple [] [] rfl fun i u=>absurd u (by simp))⟩
   |put d I h0 Z h N =>
    rename_i b n g rest zs zs';subst I;obtain⟨v',A,rfl,T,K⟩:=c.H6;have e3:A=rest:=by
     refine(UQ K.1 fun i u=>?_).symm;exact((K.2 i u).D8 (az.1 Z _ (getD_mem u))).symm
    subst e3;cases T with
    |sl _ _ _ _ M cap B =>
     obtain⟨a,J,_,p,o⟩:=B;obtain⟨c1,U,y⟩:=o (Mem.GZ d).symm;replace y:M.off=0+a.sh∧M.off+cap*a.zL≤a.lim:=y.resolve_left (by omega);obtain⟨blk,off,sp⟩:=M;simp only at c1 U y;subst c1;subst U;have c4:off=a.sh:=by omega
     subst c4;rw[ZF];refine(hc a.blk a.sh cap zs zs' none A w h N (fun k hk=>by cases hk) (holds_of C J d) (C.dom b a J).2 p h0).mono ?_;rintro x w' ⟨rfl,q,os,rfl⟩;obtain⟨z,X,W,q3⟩:=SX (q:=q) (os:=os) C J d N ⟨zs'.length,(cn).symm⟩ (ab g);exact⟨_,rfl,z,X,W,.tuple [] [] rfl fun i u=>absurd u (by simp)⟩
   |cut d I h0 Z h N hk =>
    rename_i b n g k rest zs zs';subst I;obtain⟨v',A,rfl,T,K⟩:=c.H6;have e3:A=rest:=by
     refine(UQ K.1 fun i u=>?_).symm;exact((K.2 i u).D8 (az.1 Z _ (getD_mem u))).symm
    subst e3;cases T with
    |sl _ _ _ _ M cap B =>
     obtain⟨a,J,_,p,o⟩:=B;obtain⟨c1,U,y⟩:=o (Mem.GZ d).symm;replace y:M.off=0+a.sh∧M.off+cap*a.zL≤a.lim:=y.resolve_left (by omega);obtain⟨blk,off,sp⟩:=M;simp only at c1 U y;subst c1;subst U;obtain⟨y,c4⟩:=y;have c5:off=a.sh:=by omega
     subst c5;rw[ZF];refine(hc a.blk a.sh cap zs zs' (some k) A w h N (fun j hj=>by cases hj;exact hk) (holds_of C J d) (C.dom b a J).2 p h0).mono ?_;rintro x w' ⟨rfl,q,os,rfl⟩;obtain⟨z,X,W,q3⟩:=SX (q:=q) (os:=os) C J d N ⟨k,rfl⟩ (cL g);exact⟨_,rfl,z,X,W,.sl _ _ _ _ _ _ ⟨a,q3,by rw[Mem.gen,Mem.get_put,if_pos rfl];exact ab _,by omega,fun _=>⟨rfl,rfl,.inr ⟨(cz _).symm,c4⟩⟩⟩⟩
  ·simp only at s
   split at s
   case isFalse=>cases s
   have Y:=bV s;cases Y with
   |nil=>exact AP.refl _
   |put d=>exact AP.put (Mem.P5 d) rfl
   |cut d=>exact AP.put (Mem.P5 d) rfl
 ·rw[yY h] at S
  exact hO f Fo S
end
end Go.Vm
namespace Go.Vm
open Go.Am
section
variable {P:Program}{F0:Nat}{laid:List (String×DataW Unit)}{O O0:BP}{ff:FuncId}{Fn:InF}{L:Frame}{H:Heap}{nx:Nat}{Q:PV→Heap→Nat→Prop}{w:Bool}
variable {dst:Option Tmp}{ty:TypeId}{pos:String}{af:Array Edge}{gd:Option (Nat×Bool)}
theorem Dt.ints{m:Mem}{F:Nat→Prop}:∀{zs:List Int} {vs:List Value},Dt m F (cells zs) vs→vs=zs.map iV
 |[],_,h=>by cases h;rfl
 |z::zs,_,h=>by
  cases h with
  |cons h t=>cases h;rw[Dt.ints t];rfl
theorem Dt.ofInts(m:Mem)(F:Nat→Prop):∀zs:List Int,Dt m F (cells zs) (zs.map iV)
 |[]=>.nil
 |z::zs=>.cons (.int .i64 z) (Dt.ofInts m F zs)
theorem qH(zs:List Int):(zs.map iV).all BK=true:=by
 rw[az];intro x a;obtain⟨z,_,rfl⟩:=ba.1 a;rfl
theorem Ze{m:Mem}{F:Nat→Prop}{σ:Nat→Value}(g:Ctx (Ei P F0 laid O).Γ m F σ H nx):∀k∈Az P F0 laid,m.get k=(AZ P F0 laid).get k:=fun k d=>by
 obtain⟨a,e,l,c⟩:=Oz d;have:=(g.gl k l e (by simp only[Ei,gam,if_pos a,c,Option.map_some])).2.1;rw[this,IW a,c]
theorem a1o{E:Env}{m:Mem}{F:Nat→Prop}{σ:Nat→Value}{t:Tr Value}{b n:Nat}{e:TypeId}{zs:List Int}{z:Bool}{args:List Operand}{rest:List FV}(q:Ctx E.Γ m F σ H nx)(K:RL m F (htag H) σ nx L t)
 (C:evs E.Γ L args=some (.vec b n 0 n::rest.map .p)) (o:hget H b=some (.vec e (cells zs) n z)) (U:0<n) :
 ∃c g a,args.map (ev t)=.slice (some ⟨c,0,none⟩) n g::a∧Dt m F rest a∧σ b=.slice (some ⟨c,0,none⟩) n g∧c<m.size∧¬ F c∧m.get c=.cells (zs.map iV) e g false:=by
 have k:=RX q K C;obtain⟨_,d⟩:=q.hp b _ o;rcases d with⟨_,j,_⟩|⟨c,g,M,y,j,x,u,s,S,N⟩
 ·omega
 have A:=Dt.ints s;subst A;generalize args.map (ev t)=Bh at k;cases k with
 |cons J I =>
  rename_i v a;refine⟨c,g,a,?_,Dt.X7 I,y,j,x,u⟩;cases J with
  |vec B T h =>
   have:=(h n (by simp[htag,o,HB.tag])).2 rfl;simp only[FU] at this;grind
theorem Aa.c4j{B:Operand}{args:Array Operand}{aT:Array TypeId}{b n k:Nat}{e:TypeId}{zs zs':List Int}{z:Bool}{rest:List FV}{rv:List Value}(Z:O ff=inO (Az P F0 laid) (AZ P F0 laid) ff e Fn O0 ff)
 (X:AU (Ei P F0 laid O).Γ L B=some (.clo ff [] [])) (Y:evs (Ei P F0 laid O).Γ L args.toList=some (.vec b n 0 n::rest.map .p)) (J:hget H b=some (.vec e (cells zs) n z)) (y:∀m F u,Dt m F rest u→u=rv) (A:rv.all Am.plainCell=true)
 (U:zs.length=n) (M:0<n) (hF:Fn zs rv=some (zs',some k)) (V:zs'.length=n) (W:k≤n)
 (q:Q (.vec nx k 0 k) ((nx,.vec e (cells (zs'.take k)) k false)::hdel H b) (nx+1)):Aa (Ei P F0 laid O) true ⟨dst,.call { callee:=.value B,args:=args,argTypes:=aT },ty,pos,af,gd⟩ L H nx Q:=by
 intro m F σ t x K;obtain⟨c,g,u,e1,e2,C,e4,e5,e6⟩:=a1o x K Y J M;have e7:=y m F u e2;subst e7;have o:=Bz x K X;generalize hfe:ev t B=fv at o;cases o with
 |clo S N =>
  cases S;cases N;have a:∀d,c≠d→(m.put c (.cells ((zs'.take k).map iV) e (g+1) false)).get d=m.get d:=fun d s=>by rw[Mem.get_put,if_neg s]
  obtain⟨c1,c2⟩:=x.move (m':=m.put c (.cells ((zs'.take k).map iV) e (g+1) false)) (s':=.slice (some ⟨c,0,none⟩) k (g+1)) (x':=.vec e (cells (zs'.take k)) k false) J (ab _) (fun d _ s=>a d fun e'=>s (by rw[C,e'];rfl)) (fun k' k1 k2 T=>by
   have:=T c (by rw[C];rfl);simp only[Mem.put];omega) (fun d s=>.inl (by rw[C];exact s)) (.inr ⟨c,g+1,_,rfl,e4,e5,by rw[Mem.get_put,if_pos rfl],Dt.ofInts _ _ _,qH _,fun _=>rfl⟩)
  refine Gy.call (f:=ff) (Bh:=args.toList.map (ev t)) (fun call=>by simp only[BO,hfe];simp) (GH.dI (v:=.slice (some ⟨c,0,none⟩) k (g+1)) (m':=m.put c (.cells ((zs'.take k).map iV) e (g+1) false)) (show O ff=_ by rw[Z];exact if_pos rfl) ?_ ⟨_,_,_,F,_,q,c1,?_,c2,fun h=>by cases h⟩)
  ·rw[if_pos (Ze x),e1]
   simp only[kR,e6];rw[if_pos ⟨trivial,trivial,by rw[aM];exact U,M,A⟩,WX];simp only[hF];rw[if_pos ⟨V,W⟩]
  ·refine .vec (bL _) rfl fun j I=>?_
   rw[JK,if_pos rfl] at I;simp only[HB.tag,Option.some.injEq,Tg.vec.injEq] at I;refine⟨by omega,fun _=>?_⟩;rw[upd_same];exact rfl
theorem Aa.c6f{y:Operand}{args:Array Operand}{aT:Array TypeId}{b n:Nat}{e:TypeId}{zs zs':List Int}{z:Bool}{rest:List FV}{rv:List Value}(U:O ff=inO (Az P F0 laid) (AZ P F0 laid) ff e Fn O0 ff)
 (S:AU (Ei P F0 laid O).Γ L y=some (.clo ff [] [])) (T:evs (Ei P F0 laid O).Γ L args.toList=some (.vec b n 0 n::rest.map .p)) (B:hget H b=some (.vec e (cells zs) n z)) (u:∀m F o,Dt m F rest o→o=rv) (x:rv.all Am.plainCell=true)
 (hn:zs.length=n) (I:0<n) (hF:Fn zs rv=some (zs',none)) (hl:zs'.length=n)
 (q:Q (.D5 []) (hput H b (.vec e (cells zs') n z)) nx):Aa (Ei P F0 laid O) true ⟨dst,.call { callee:=.value y,args:=args,argTypes:=aT },ty,pos,af,gd⟩ L H nx Q:=by
 intro m F σ t s C;obtain⟨c,g,o,e1,Z,A,Y,X,W⟩:=a1o s C T B I;have V:=u m F o Z;subst V;have N:n=0→z=false:=fun h=>by omega
 have j:=Bz s C S;generalize hfe:ev t y=fv at j;cases j with
 |clo K J =>
  cases K;cases J;have a:∀d,c≠d→(m.put c (.cells (zs'.map iV) e g false)).get d=m.get d:=fun d k=>by rw[Mem.get_put,if_neg k]
  obtain⟨c1,c2⟩:=s.change (m':=m.put c (.cells (zs'.map iV) e g false)) (s':=σ b) (x':=.vec e (cells zs') n z) B (Xq.refl _) (fun _=>rfl) (ab _) (fun d _ k=>a d fun e'=>k (by rw[A,e'];rfl)) (fun k' k1 k2 M=>by
   have:=M c (by rw[A];rfl);simp only[Mem.put];omega) (fun d k=>.inl k) (.inr ⟨c,g,_,A,Y,X,by rw[Mem.get_put,if_pos rfl],Dt.ofInts _ _ _,qH _,N⟩)
  refine Gy.call (f:=ff) (Bh:=args.toList.map (ev t)) (fun call=>by simp only[BO,hfe];simp) (GH.dI (v:=.tuple #[]) (m':=m.put c (.cells (zs'.map iV) e g false)) (show O ff=_ by rw[U];exact if_pos rfl) ?_ ⟨_,_,_,F,_,q,c1,.D5 .nil,c2,fun h=>by cases h⟩);rw[if_pos (Ze s),e1];simp only[kR,W];rw[if_pos ⟨trivial,trivial,by grind,I,x⟩,WX];grind
def d0h(E:Env)(g:FuncId)(ac:List PV)(Hc:Heap)(k:Nat)(e:TypeId)(cs:List FV)(n:Nat)(z:Bool):Prop:=AL E g ac Hc k fun r H' nx'=>r=.vec k n 0 n∧H'=(k,.vec e cs n z)::Hc∧nx'=k+1
end
end Go.Vm
namespace Go.Proofs.YtnjkoebfgcbbdaaGreatDoor
open Go Go.ChangeShapes Go.WideShapes Go.ChangeAt Go.WideMaps Go.WideElems Go.RowKit
def BU:List (String×DataW Unit):=[("math/bits.deBruijn32tab",Rows.laid_math_bits_deBruijn32tab),("math/bits.deBruijn64tab",Rows.laid_math_bits_deBruijn64tab),("internal/strconv.uint64pow10",Rows.laid_internal_strconv_uint64pow10)]
theorem own:ownKnob Tryz.prog.godebug=none :=by decide
theorem laidOut:laidOutB Tryz.prog=true:=by kernel_rfl
theorem door_met(os:Os)(args:Array Value):laidMetH Tryz.prog BU ((World.doorLaid Tryz.prog 400 os).forCall (fun _ _=>0) ⟨#[],args,[]⟩).memory :=
 laidMetH_of_parts3 (fuel:=8) (laidMet_of_run' 8 (by kernel_rfl) (by kernel_rfl)) (by kernel_rfl) (by kernel_rfl)
theorem a8l{W:World}(h:laidMetH Tryz.prog BU W):laidMet Tryz.prog BU W:=by
 assumption
end Go.Proofs.YtnjkoebfgcbbdaaGreatDoor
namespace Go.Proofs.YtnjkoebfgcbbdaaGreatDoor
section
open Go Go.Proofs Go.Shelf Go.RowKit
attribute [local go_sem] Oper.semAt_some
def GN(p:Nat):List Nat:=(List.range 64).filter p.testBit
def ED(lo hi:Nat):List Int:=(GN lo).map (fun n:Nat=>(n:Int))++(GN hi).map (fun n:Nat=>((64+n:Nat):Int))
theorem OG:GN 0=[] :=by decide
theorem xk{p t:Nat}(k:p<18446744073709551616)(c:t<64)(g:p.testBit t=true)(e:∀i,i<t→p.testBit i=false)(u:∀i,i<64→(p &&& (p-1)).testBit i=(p.testBit i&&decide (i≠t))):GN p=t::GN (p &&& (p-1)):=by
 have split:∀(f:Nat→Bool) (n:Nat),t<n→(∀i,i<t→f i=false)→f t=true→(List.range n).filter f=t::(List.range n).filter (fun i=>f i&&decide (i≠t)):=by
  intro f n
  induction n with
  |zero=>simp
  |succ n j =>
   intro o s a;rw[gF,dc,dc];by_cases d:t=n
   ·have y:(List.range t).filter f=[]:=by
     simp_all
    have x:(List.range t).filter (fun i=>f i&&decide (i≠t))=[]:=by
     simp_all
    grind
   grind
 unfold GN;rw[split p.testBit 64 c e g];congr 1
 refine gg fun i q=>?_
 grind
theorem Lm(p:Nat):(GN p).length≤64:=by
 have:=dt p.testBit (List.range 64);assumption
theorem Vr{p:Nat}(x:p≠0)(g:p<18446744073709551616):GN p=Lib.ctz 64 p::GN (p &&& (p-1))∧Lib.ctz 64 p<64∧(p &&& (p-1))<p:=by
 obtain⟨m,z,d⟩:=Lib.ctzFrom_spec 64 p (by omega) (by omega);have e:Lib.ctz 64 p=Lib.ctzFrom 64 p:=by simp[Lib.ctz,x]
 rw[e];generalize Lib.ctzFrom 64 p=t at *;have s:∀i,p.testBit i=(decide (t≤i)&&(2*m+1).testBit (i-t)):=fun i=>by grind
 have u:p.testBit t=true:=by grind
 have a:∀i,i<t→p.testBit i=false:=fun i n=>by grind
 have k:p &&& (p-1)≤p-1:=Nat.and_le_right;have c:p-1=2^t*(2*m)+(2^t-1):=by
  grind
 have q:∀i,i<64→(p &&& (p-1)).testBit i=(p.testBit i&&decide (i≠t)):=fun i n=>by
  rw[Nat.testBit_and];by_cases o:i<t
  ·grind
  ·have y:(p-1).testBit i=(2*m).testBit (i-t):=by
    rw[c,Nat.testBit_two_pow_mul_add _ (by grind),if_neg o]
   rw[y,s i];by_cases B:i=t
   ·grind
   ·obtain⟨j,A⟩:∃j,i-t=j+1:=⟨i-t-1,by omega⟩
    grind
 exact⟨xk g d u a q,d,by omega⟩
def b7w:Go.Shelf.Ren:=⟨fun|29=>148|n=>n,fun|0=>0|3=>3|4=>4|5=>5|22=>82|25=>214|54=>304|n=>n,fun|1=>1|n=>n⟩
theorem c4o:Go.Proofs.Lays7.n29 Tryz.prog b7w:={
 mixed:=by rfl
 f29:=Tryz.func148.trans (congrArg some (by rfl))
 t0:=Tryz.underlying0
 a0:=Tryz.isAgg0
 z0:=Tryz.sizeOf0
 v0:=Tryz.zeroValue0
 i0:=by kernel_rfl
 t3:=Tryz.underlying3
 a3:=Tryz.isAgg3
 z3:=Tryz.sizeOf3
 v3:=Tryz.zeroValue3
 i3:=by kernel_rfl
 t4:=Tryz.underlying4
 a4:=Tryz.isAgg4
 z4:=Tryz.sizeOf4
 v4:=Tryz.zeroValue4
 i4:=by kernel_rfl
 t5:=Tryz.underlying5
 a5:=Tryz.isAgg5
 z5:=Tryz.sizeOf5
 v5:=Tryz.zeroValue5
 i5:=by kernel_rfl
 t22:=Tryz.underlying82
 a22:=Tryz.isAgg82
 z22:=Tryz.sizeOf82
 v22:=Tryz.zeroValue82
 i22:=by kernel_rfl
 t25:=Tryz.underlying214
 a25:=Tryz.isAgg214
 z25:=Tryz.sizeOf214
 v25:=Tryz.zeroValue214
 i25:=by kernel_rfl
 t54:=Tryz.underlying304
 a54:=Tryz.isAgg304
 z54:=Tryz.sizeOf304
 g1:=by kernel_rfl }
def c3z:Go.Shelf.Ren:=⟨fun|8=>107|11=>146|n=>n,fun|0=>0|24=>28|26=>3|28=>263|33=>158|n=>n,fun|n=>n⟩
theorem c3c:Go.Proofs.SlLaysZI.n8 Tryz.prog c3z:={
 mixed:=by rfl
 f8:=⟨"slices.Collect[int]",by decide,Tryz.func107.trans (congrArg some (by rfl))⟩
 f11:=⟨"slices.AppendSeq[[]int,int]",by decide,Tryz.func146.trans (congrArg some (by rfl))⟩
 t0:=Tryz.underlying0
 a0:=Tryz.isAgg0
 z0:=Tryz.sizeOf0
 v0:=Tryz.zeroValue0
 t24:=Tryz.underlying28
 a24:=Tryz.isAgg28
 z24:=Tryz.sizeOf28
 v24:=Tryz.zeroValue28
 t26:=Tryz.underlying3
 a26:=Tryz.isAgg3
 z26:=Tryz.sizeOf3
 v26:=Tryz.zeroValue3
 t28:=Tryz.underlying263
 a28:=Tryz.isAgg263
 z28:=Tryz.sizeOf263
 v28:=Tryz.zeroValue263
 i26:=by kernel_rfl }
def OX(w:World):Prop:=TabAt 1 Lib.deBruijn64tab w
theorem Nq{n:Nat}{w w':World}(h:OX w)(c:1<n)(e:Below n w w'):OX w':=fun j d=>by
 rw[← h j d];exact World.cell?_of_block (a:=⟨1,j,none⟩) (e.block _ c)
theorem a2v(x:Nat)(a:x<18446744073709551616)(w:World)(c:OX w):Calls Tryz.prog 148 #[.int .u64 x] w fun e w'=>e=.returned (.int .i64 (Lib.ctz 64 x))∧w'=w :=
 Any7.bits_TrailingZeros64 (P:=Tryz.prog) (ρ:=b7w) c4o x a w (fun _=>c)
end
section
open Go Go.Proofs Go.Shelf Go.RowKit
attribute [local go_sem] Oper.semAt_some
def ivO:Value→Int| .int _ q=>q|_=>0
def yJ(F:Fence)(n:Nat)(P:Program)(g:Nat)(lb:Array Value)(S:List Int→Prop)(N:Nat)(w:World):Prop :=
 ∀(l:Nat) (J:List Int→World→Prop) (W:World),(∀s X,J s X→Below w.heap.size w X)→AbidesFrom W.heap.size J →
  (∀pre x W1,J pre W1→pre.length<N→YieldAt F (n-1) P l #[encZ x] W1 fun e W'=>e=.returned (.bool true)∧J (pre++[x]) W'∧KeepsWalks W1 W') →
  J [] W →
  CallsIn F n P g (#[.func (.yield l) #[] #[]]++lb) W fun e W'=>(∃v,e=.returned v)∧∃xs,S xs∧J xs W'
def KH(lo hi:Nat):Nat→List Int
 |0=>[]
 |1=>(GN lo).map (fun n:Nat=>(n:Int))
 |_=>ED lo hi
theorem a7n(a c k:Nat):(KH a c k).length≤128:=by
 have e:=Lm a;have d:=Lm c
 match k with
 |0=>simp[KH]
 |1=>simp[KH];omega
 |k+2=>simp[KH,ED];omega
theorem a0w{done rest:List Int}{a c k:Nat}{x:Int}(h:done++(x::rest)=KH a c k):done.length<128:=by
 have:=a7n a c k;grind
theorem Ru{p:Nat}(a:p<18446744073709551616):bits .and .u64 (p:Int) ((p-1:Nat):Int)=((p &&& (p-1):Nat):Int):=bits_and_u64_nat p (p-1) a (by omega)
theorem RH{p:Nat}(c:p≠0)(a:p<18446744073709551616):IntKind.u64.wrap ((p:Int)-1)=((p-1:Nat):Int):=by rw[IntKind.wrap_u64];omega
theorem b8m:Tryz.prog.underlying 265=some (.array 2 82):=by rfl
theorem a2z(w:World)(a b:Int):(Instr.index 265 (.agg #[.int .u64 a,.int .u64 b]) (.int .i64 0)).run Tryz.prog w=.ok (.int .u64 a) w:=by
 simp[Instr.index,run_underlying b8m,asIntOf,go_sem]
theorem a2b(w:World)(a b:Int):(Instr.index 265 (.agg #[.int .u64 a,.int .u64 b]) (.int .i64 1)).run Tryz.prog w=.ok (.int .u64 b) w:=by
 simp[Instr.index,run_underlying b8m,asIntOf,go_sem]
attribute [local go_sem] a2z a2b
theorem uh(n:Nat)(hn:2≤n)(Bs lo hi:Nat)(hlo:lo<18446744073709551616)(hhi:hi<18446744073709551616)(w:World)(hT:OX w)(hg:1<w.heap.size)(hB:Bs<w.heap.size)
 (c0:w.cell? ⟨Bs,0,none⟩=some (.int .u64 (lo:Int))) (c1:w.cell? ⟨Bs,1,none⟩=some (.int .u64 (hi:Int))) :
 yJ Fence.wide n Tryz.prog 147 #[.pointer (some ⟨Bs,0,none⟩)] (fun xs=>xs=ED lo hi) 128 w:=fun l J W hJb hJ hY h0=>by
 have hb0:=hJb _ _ h0;have d0:W.cell? ⟨Bs,0,none⟩=some (.int .u64 (lo:Int)):=(hb0.cell (p:=⟨Bs,0,none⟩) hB).trans c0;have d1:W.cell? ⟨Bs,1,none⟩=some (.int .u64 (hi:Int)):=(hb0.cell (p:=⟨Bs,1,none⟩) hB).trans c1;refine callsIn_of_wp Tryz.func147 rfl trivial ?_ rfl;simp only[Tryz.ntmps147,List.size_toArray,List.length_cons,List.length_nil,Nat.reduceAdd,Nat.reduceSub,Array.replicate_succ,Array.replicate_zero,List.push_toArray,List.append_toArray,List.nil_append,List.cons_append]
 gi_wp2
 gi_loopw [10] (fun i wr=>(i=.int .i64 0∧J (KH lo hi 0) wr)∨(i=.int .i64 1∧J (KH lo hi 1) wr)∨(i=.int .i64 2∧J (KH lo hi 2) wr)) (fun i _=>(2-ivO i).toNat)
 case atStart=>exact Or.inl ⟨rfl,h0⟩
 case round =>
  rcases hrel with⟨rfl,hJs⟩|⟨rfl,hJs⟩|⟨rfl,hJs⟩
  ·gi_wp2
   gi_loopw [4] (fun v wr=>∃p:Nat,p<18446744073709551616∧v=.int .u64 (p:Int)∧∃done,J done wr∧done++(GN p).map (fun n:Nat=>((64*0+n:Nat):Int))=KH lo hi (0+1)) (fun v _=>(ivO v).toNat)
   case atStart=>exact⟨_,hlo,rfl,_,hJs,by simp[KH,ED]⟩
   case round =>
    obtain⟨p,hp,rfl,done,hJd,hdone⟩:=hrel;by_cases hp0:p=0
    ·subst hp0
     have hz:((0:Nat):Int)=0:=rfl;rw[OG,eI,dd] at hdone
     gi_wp2
     go_roundw
     case rel=>exact Or.inr (Or.inl ⟨by first|rfl|simp,by rw[← hdone];exact hJd⟩)
     case measure=>simp[ivO]
    ·obtain⟨e1,e2,e3⟩:=Vr hp0 hp
     rw[e1,bt] at hdone;have hTb:=Nq hT hg (hJb _ _ hJd);have htz:=a2v p hp _ hTb;have hne:¬ ((p:Int)=0):=by omega
     have hw1:=RH hp0 hp;have hw2:=Ru hp;have hlt:=a0w hdone;obtain⟨x0,hx0⟩:∃x0:Int,((64*0+Lib.ctz 64 p:Nat):Int)=x0:=⟨_,rfl⟩
     rw[hx0] at hdone;generalize Lib.ctz 64 p=t at *;have hw4:IntKind.i64.wrap (0+(t:Int))=x0:=by rw[Md (by omega) (by omega)];omega
     have hw5:IntKind.i64.wrap (t:Int)=x0:=by rw[Md (by omega) (by omega)];omega
     obtain⟨fn,tmps,assign,body,hy,hR⟩:=hY done x0 _ hJd hlt
     gi_wp2
     refine⟨trivial,fun _=>by omega,(callsIn_wide.2 htz).mono ?_⟩;rintro _ _ ⟨rfl,rfl⟩
     gi_wp2
     refine⟨fun _=>by omega,hR.mono ?_⟩;rintro e W3 ⟨rfl,hJ3,hk3⟩
     gi_wp2
     go_roundw
     case rel=>exact⟨p &&& (p-1),by omega,by first|rfl|simp,done++[x0],hJ3,by rw[cq];exact hdone⟩
     case measure=>simp[ivO];omega
  ·gi_wp2
   gi_loopw [4] (fun v wr=>∃p:Nat,p<18446744073709551616∧v=.int .u64 (p:Int)∧∃done,J done wr∧done++(GN p).map (fun n:Nat=>((64*1+n:Nat):Int))=KH lo hi (1+1)) (fun v _=>(ivO v).toNat)
   case atStart=>exact⟨_,hhi,rfl,_,hJs,by simp[KH,ED]⟩
   case round =>
    obtain⟨p,hp,rfl,done,hJd,hdone⟩:=hrel;by_cases hp0:p=0
    ·subst hp0
     have hz:((0:Nat):Int)=0:=rfl;rw[OG,eI,dd] at hdone
     gi_wp2
     go_roundw
     case rel=>exact Or.inr (Or.inr ⟨by first|rfl|simp,by rw[← hdone];exact hJd⟩)
     case measure=>simp[ivO]
    ·obtain⟨e1,e2,e3⟩:=Vr hp0 hp
     rw[e1,bt] at hdone;have hTb:=Nq hT hg (hJb _ _ hJd);have htz:=a2v p hp _ hTb;have hne:¬ ((p:Int)=0):=by omega
     have hw1:=RH hp0 hp;have hw2:=Ru hp;have hlt:=a0w hdone;obtain⟨x0,hx0⟩:∃x0:Int,((64*1+Lib.ctz 64 p:Nat):Int)=x0:=⟨_,rfl⟩
     rw[hx0] at hdone;generalize Lib.ctz 64 p=t at *;have hw4:IntKind.i64.wrap (64+(t:Int))=x0:=by rw[Md (by omega) (by omega)];omega
     obtain⟨fn,tmps,assign,body,hy,hR⟩:=hY done x0 _ hJd hlt
     gi_wp2
     refine⟨trivial,fun _=>by omega,(callsIn_wide.2 htz).mono ?_⟩;rintro _ _ ⟨rfl,rfl⟩
     gi_wp2
     refine⟨fun _=>by omega,hR.mono ?_⟩;rintro e W3 ⟨rfl,hJ3,hk3⟩
     gi_wp2
     go_roundw
     case rel=>exact⟨p &&& (p-1),by omega,by first|rfl|simp,done++[x0],hJ3,by rw[cq];exact hdone⟩
     case measure=>simp[ivO];omega
  ·gi_wp2
   go_end0
   exact⟨⟨_,rfl⟩,_,rfl,hJs⟩
end
section
open Go Go.Proofs Go.Shelf Go.RowKit
attribute [local go_sem] Oper.semAt_some
section
variable {P:Program}{ρ:Ren}
theorem xK(L:SlLaysZI.n11 P ρ)(F:Fence)(n:Nat)(h11:F.fn (ρ.f 11))(hro:F.round=none)(hn:2≤n)(g:Nat)(lb:Array Value)(hFg:F.fn g)(eg:∀args w,(callFunc g args).run P w=.ok (.enter g args) w)
 (S:List Int→Prop) (N:Nat) (hN:N≤maxLen) (hNb:N*8≤140737488355328) (w:World) (hseq:yJ F (n-1) P g lb S N w) :
 CallsIn F n P (ρ.f 11) #[.slice none 0 0,.func (.func g) #[] lb] w fun e w'=>∃(v:Value) (ss:List Int),e=.returned v∧S ss∧w'.ownsRow w.heap.size (ρ.t 26) 1 v ss.length (ss.map encZ)∧(v=.slice none 0 0↔ss=[])∧Below w.heap.size w w':=by
 have h1:1≤n:=by omega
 have mixed:=L.mixed;have t0:=L.t0;have a0:=L.a0;have z0:=L.z0;have v0:=L.v0;have t24:=L.t24;have a24:=L.a24;have z24:=L.z24;have v24:=L.v24;have t26:=L.t26;have a26:=L.a26;have z26:=L.z26;have v26:=L.v26;have t28:=L.t28;have a28:=L.a28;have z28:=L.z28;have v28:=L.v28;have hne:ρ.t 24≠ρ.t 26:=fun e=>by have h:=L.t24;rw[e,L.t26] at h;cases h
 have u0:=run_underlying L.t0;have u24:=run_underlying L.t24;have u26:=run_underlying L.t26;have u28:=run_underlying L.t28;obtain⟨_,_,FG⟩:=L.f11;refine callsIn_of_wp_marks FG rfl h11 ?_ hro;simp only[SlBodyZ.n11_ntmps ρ,List.size_toArray,List.length_cons,List.length_nil,Nat.reduceAdd,Nat.reduceSub,Array.replicate_succ,Array.replicate_zero,List.push_toArray,List.append_toArray,List.nil_append,List.cons_append]
 gi_wp2
 refine wpIn_rangeFunc ?_;intro fn hfn;rw[hro];obtain⟨W0,hW0⟩:∃W0,w.alloc (.cells #[.slice none 0 0] (ρ.t 24))=W0:=⟨_,rfl⟩
 have hs0:W0.heap.size=w.heap.size+1:=by rw[← hW0];simp
 have hv0:W0.heap[w.heap.size]?=some (.cells #[.slice none 0 0] (ρ.t 24) (0,0)):=by rw[← hW0];exact World.alloc_heap_new w _
 have hb0:Below w.heap.size w W0:=by rw[← hW0];exact(Below.refl _ w).alloc (ab _) _
 rw[hW0];obtain⟨W1,hW1⟩:∃W1,(W0.alloc (.deferred (some []))).alloc (.loop (AnyZI.apRec ρ fn (.func (.func g) #[] lb) w.heap.size W0.heap.size .ready none))=W1:=⟨_,rfl⟩
 have hold:∀k,k<W0.heap.size→W1.heap[k]?=W0.heap[k]?:=fun k hk=>by
  rw[← hW1];exact(Below.heap_alloc _ _ k (by simp;omega)).trans (Below.heap_alloc _ _ k hk)
 have hb1:Below w.heap.size w W1:=by rw[← hW1];exact(hb0.alloc hb0.size _).alloc (by have:=hb0.size;simp;omega) _
 have hs1:W1.heap.size=W0.heap.size+2:=by rw[← hW1];simp
 have hM:AnyZI.ApAt ρ w fn (.func (.func g) #[] lb) w.heap.size (W0.heap.size+1) W0.heap.size [] W1 :=
  ⟨⟨_,(hold w.heap.size (by omega)).trans hv0,⟨rfl,.inl ⟨rfl,rfl⟩⟩,by simp⟩,
   by rw[← hW1];have:=World.alloc_heap_new (W0.alloc (.deferred (some []))) (.loop (AnyZI.apRec ρ fn (.func (.func g) #[] lb) w.heap.size W0.heap.size .ready none));rwa[World.size_alloc] at this,
   by rw[← hW1];exact(Below.heap_alloc _ _ _ (by simp)).trans (World.alloc_heap_new W0 _),hb1⟩
 refine⟨W0.heap.size+1,[{ target:=.collected W0.heap.size,args:=#[] }],W1,{ target:=.fn (.func g) lb,args:=#[.func (.yield (W0.heap.size+1)) #[] #[]] },W1,g,
  #[.func (.yield (W0.heap.size+1)) #[] #[]]++lb,W1,?_,?_,?_,?_,fun _=>h1,?_⟩
 ·rw[← hW1];exact run_enterLoop_outer _ _ _ _ _
 ·simp[resolve,go_sem]
 ·intro f' hf';simp[Target.leads] at hf';subst hf';exact hFg
 ·simp[invoke,go_sem,eg]
 ·refine(hseq (W0.heap.size+1) (AnyZI.ApAt ρ w fn (.func (.func g) #[] lb) w.heap.size (W0.heap.size+1) W0.heap.size) W1 (fun _ _ h=>h.below) (AnyZI.ap_abides ρ _ _ _ _ _ _ _ hb1.size)
   (fun pre x W hJ hl=>AnyZI.apYield { L with } F (n-1-1) w fn hfn _ w.heap.size (W0.heap.size+1) W0.heap.size (by omega) (by omega) (by omega) (ab _) (by omega) N hN hNb pre x W hJ hl) hM).mono ?_
  rintro e W2 ⟨⟨v0,rfl⟩,ss,hS,h2⟩;obtain⟨v,hv,hrow,hnil⟩:=h2.box;have hend:=run_endLoop (P:=P) h2.L (by simp[AnyZI.apRec]);obtain⟨W3,hW3⟩:∃W3,W2.putObj (W0.heap.size+1) (.loop { AnyZI.apRec ρ fn (.func (.func g) #[] lb) w.heap.size W0.heap.size .ready none with state:=.exhausted })=W3:=⟨_,rfl⟩
  rw[hW3] at hend;have hg3:W2.grownBy W3 (some (W0.heap.size+1)):=by rw[← hW3];exact grownBy_putObj_a _ _ _
  have hv3:W3.heap[w.heap.size]?=some (.cells #[v] (ρ.t 24) (0,0)):=by rw[← hW3];exact(World.putObj_heap_other (by omega)).trans hv
  have hK3:W3.heap[W0.heap.size]?=some (.deferred (some [])):=by rw[← hW3];exact(World.putObj_heap_other (by omega)).trans h2.K
  have hrow3:=hrow.kept hg3 (ownsRow_ne_a hrow h2.L (fun cur e=>by first|cases e|exact hne (Obj.cells.inj e).2.1));have hb3:Below w.heap.size w W3:=h2.below.grown hg3 h2.below.size (fun k e=>by cases e;omega);obtain⟨hc3,hf3⟩:=cell_of_box_a hv3;clear hW3;refine⟨none,W3,hend,?_⟩
  gi_wp2
  rw[← hs0];refine⟨by simp,.inl ⟨_,_,rfl,run_takeDeferred hK3,?_⟩⟩;exact⟨_,results_tmp rfl _ _ _,v,ss,rfl,hS,hrow3.kept (grownBy_putObj_a _ _ _) (ownsRow_ne_a hrow3 hK3 (fun cur e=>by first|cases e|exact hne (Obj.cells.inj e).2.1)),hnil,hb3.grown (grownBy_putObj_a _ _ _) hb3.size (fun k e=>by cases e;omega)⟩
theorem wO(L:SlLaysZI.n8 P ρ)(F:Fence)(n:Nat)(h8:F.fn (ρ.f 8))(h11:F.fn (ρ.f 11))(hro:F.round=none)(hn:3≤n)(g:Nat)(lb:Array Value)(hFg:F.fn g)(eg:∀args w,(callFunc g args).run P w=.ok (.enter g args) w)
 (S:List Int→Prop) (N:Nat) (hN:N≤maxLen) (hNb:N*8≤140737488355328) (w:World) (hseq:yJ F (n-1-1) P g lb S N w) :
 CallsIn F n P (ρ.f 8) #[.func (.func g) #[] lb] w fun e w'=>∃(v:Value) (ss:List Int),e=.returned v∧S ss∧w'.ownsRow w.heap.size (ρ.t 26) 1 v ss.length (ss.map encZ)∧(v=.slice none 0 0↔ss=[])∧Below w.heap.size w w':=by
 have h1:1≤n:=by omega
 have e11:∀args w,(callFunc (ρ.f 11) args).run P w=.ok (.enter (ρ.f 11) args) w:=L.f11.enters rfl;have mixed:=L.mixed;have t0:=L.t0;have a0:=L.a0;have z0:=L.z0;have v0:=L.v0;have t24:=L.t24;have a24:=L.a24;have z24:=L.z24;have v24:=L.v24;have t26:=L.t26;have a26:=L.a26;have z26:=L.z26;have v26:=L.v26;have t28:=L.t28;have a28:=L.a28;have z28:=L.z28;have v28:=L.v28;have u0:=run_underlying L.t0;have u24:=run_underlying L.t24;have u26:=run_underlying L.t26;have u28:=run_underlying L.t28;obtain⟨_,_,FG⟩:=L.f8;refine callsIn_of_wp FG rfl h8 ?_ hro
 gi_wp2_with (gi_at_fn (ρ.f 11);refine(xK { L with } F (n-1) h11 hro (by omega) g lb hFg eg S N hN hNb _ hseq).mono ?_;rintro e w' ⟨v,ss,rfl,hS,hrow,hnil,hb⟩)
 go_ret
 exact⟨v,ss,rfl,hS,hrow,hnil,hb⟩
end
end
section
open Go Go.Proofs Go.Shelf Go.RowKit
attribute [local go_sem] Oper.semAt_some
theorem ownsRow_base{w:World}{b d:Nat}{e:TypeId}{s:Nat}{v:Value}{n:Nat}{xs:List Value}(h:w.ownsRow b e s v n xs)(j:d≤b):w.ownsRow d e s v n xs:=by
 obtain⟨o,k⟩:=h;refine⟨o,?_⟩;rcases k with h|⟨g,c,a,q,p,r⟩
 ·grind
 ·exact .inr ⟨g,c,a,q,am j p,r⟩
theorem all_in(lo hi:Int)(w:World):Calls Tryz.prog 108 #[.agg #[.int .u64 lo,.int .u64 hi]] w fun e w'=>e=.returned (.func (.func 147) #[] #[.pointer (some ⟨w.heap.size,0,none⟩)])∧w'=w.alloc (.cells #[.int .u64 lo,.int .u64 hi] 84):=by
 refine(callsIn_wide (n:=1)).1 ?_;refine callsIn_of_wp Tryz.func108 rfl trivial ?_ rfl
 gi_wp2
 go_ret
 simp
theorem a8h(args:Array Value)(w:World):(callFunc 147 args).run Tryz.prog w=.ok (.enter 147 args) w :=by simp
theorem xE(lo hi:Nat)(hlo:lo<18446744073709551616)(hhi:hi<18446744073709551616)(w:World)(hT:OX w)(hg:1<w.heap.size) :
 Calls Tryz.prog 61 #[.agg #[.int .u64 (lo:Int),.int .u64 (hi:Int)]] w fun e w'=>∃v,e=.returned v∧w'.ownsRow w.heap.size 3 1 v (ED lo hi).length ((ED lo hi).map encZ)∧(ED lo hi=[]→v=.slice none 0 0)∧Below w.heap.size w w':=by
 refine(callsIn_wide (n:=9)).1 ?_;refine callsIn_of_wp Tryz.func61 rfl trivial ?_ rfl;simp only[Tryz.ntmps61,List.size_toArray,List.length_cons,List.length_nil,Nat.reduceAdd,Nat.reduceSub,Array.replicate_succ,Array.replicate_zero,List.push_toArray,List.append_toArray,List.nil_append,List.cons_append]
 gi_wp2
 refine⟨trivial,(callsIn_wide.2 (all_in _ _ _)).mono ?_⟩;rintro _ _ ⟨rfl,rfl⟩
 gi_wp2
 obtain⟨w1,hw1⟩:∃w1,(w.alloc (.cells #[.int .u64 (lo:Int),.int .u64 (hi:Int)] 84)).alloc (.cells #[.int .u64 (lo:Int),.int .u64 (hi:Int)] 84)=w1:=⟨_,rfl⟩
 rw[hw1];have hb1:Below w.heap.size w w1:=by rw[← hw1];exact((Below.refl _ w).alloc (ab _) _).alloc (by simp) _
 have hs1:w1.heap.size=w.heap.size+2:=by rw[← hw1];simp
 have c0:w1.cell? ⟨w.heap.size+1,0,none⟩=some (.int .u64 (lo:Int)):=by rw[← hw1];simp
 have c1:w1.cell? ⟨w.heap.size+1,1,none⟩=some (.int .u64 (hi:Int)):=by rw[← hw1];simp
 refine⟨trivial,(wO c3c Fence.wide 8 trivial trivial rfl (by omega) 147 #[.pointer (some ⟨w.heap.size+1,0,none⟩)] trivial a8h (fun xs=>xs=ED lo hi) 128 (by decide) (by decide) w1
  (uh 6 (by omega) _ lo hi hlo hhi w1 (Nq hT hg hb1) (by omega) (by omega) c0 c1)).mono ?_⟩
 rintro e w' ⟨v,ss,rfl,rfl,hrow,hnil,hb⟩
 gi_wp2
 go_ret
 exact⟨v,rfl,ownsRow_base hrow (by omega),fun h=>hnil.2 h,hb1.trans (hb.mono (by omega))⟩
end
section
open Go Go.Am Go.Vm
structure UE(F:Nat)(laid:List (String×DataW Unit)):Prop where
 nm:Tryz.prog.globalNamed "math/bits.deBruijn64tab"=some 1
 tab:∃e,Ib Tryz.prog F laid 1=some (e,(Lib.deBruijn64tab.map (fun n:Nat=>(n:Int))).map fun z=>Value.int .u8 z)
 lt:1<Tryz.prog.globals.size
theorem fM{w:World}(a:Tryz.prog.globalNamed "math/bits.deBruijn64tab"=some 1)(h:Lib.TabIs Tryz.prog w "math/bits.deBruijn64tab" .u8 (Lib.deBruijn64tab.map (fun n:Nat=>(n:Int)))):OX w∧1<w.heap.size:=by
 unfold Lib.TabIs World.var? at h;rw[a,gx] at h;split at h
 ·rename_i e t f d
  cases h;refine⟨fun j c=>?_,?_⟩
  ·unfold World.cell?
   grind
  grind
 grind
def a2m:List Value→Option (List Value)
 |[.int .u64 lo,.int .u64 hi]=>if(0≤lo∧lo<18446744073709551616)∧(0≤hi∧hi<18446744073709551616) then some ((ED lo.toNat hi.toNat).map Go.encZ) else none
 |_=>none
def b2w:FrF
 |[.agg cs]=>a2m cs.toList
 |_=>none
theorem yu{l r:List Value}(h:a2m l=some r):∃a c:Int,l=[.int .u64 a,.int .u64 c]∧(0≤a∧a<18446744073709551616)∧(0≤c∧c<18446744073709551616)∧r=(ED a.toNat c.toNat).map Go.encZ:=by
 unfold a2m at h;grind
theorem a6o{F:Nat}{laid:List (String×DataW Unit)}(a:UE F laid):∀ι m w us (us':Array Value) l,DF Tryz.prog (Az Tryz.prog F laid) ι m w→(∀k∈Az Tryz.prog F laid,m.get k=(AZ Tryz.prog F laid).get k)→BA ι m.gen us us'.toList→b2w us=some l →
 l.all Am.plainCell=true∧Calls Tryz.prog 61 us' w fun r w'=>∃v,r=.returned v∧w'.ownsRow w.heap.size 3 1 v l.length l∧(l=[]→v=.slice none 0 0)∧Go.RowKit.Below w.heap.size w w':=by
 intro ι m w us us' l p s q h;unfold b2w at h;split at h
 ·rename_i J
  obtain⟨c,d,I,y,u,rfl⟩:=yu h
  ·have C:J=#[.int .u64 c,.int .u64 d]:=gh I
   subst C;obtain⟨K,rfl,o⟩:=BA.one q;have n:=o.BQ rfl;obtain⟨e,g⟩:=a.tab;obtain⟨B,A⟩:=fM a.nm (Zn p s a.nm g a.lt);refine⟨?_,?_⟩
   ·rw[az]
    intro x j;obtain⟨z,_,rfl⟩:=ba.1 j;rfl
   ·have:=xE c.toNat d.toNat (by omega) (by omega) w B A
    grind
 grind
end
end Go.Proofs.YtnjkoebfgcbbdaaGreatDoor
namespace Go.Am
section
variable {P:Program}{c0 c1:EO}(h:∀f Bh m r,c0 f Bh m=some r→c1 f Bh m=some r)
include h
theorem a3m{ρ:Operand→Value}{o:Oper}{m:Mem}{r:Value×Mem}(a:BO P c0 ρ o m=some r):BO P c1 ρ o m=some r:=by
 unfold BO at a ⊢;grind
theorem dJ{ops:Array Oper}{o:Oper}{s s':St}(a:Jv P c0 ops o s=some s'):Jv P c1 ops o s=some s':=by
 unfold Jv at a ⊢;split at a
 ·rename_i c
  rw[if_pos c];unfold su at a ⊢;cases h1:BO P c0 (ev s.t) o s.m with
  |none=>grind
  |some r=>rw[h1] at a;rw[a3m h h1];omega
 grind
theorem X0{ops:Array Oper}:∀{l:List Oper} {s s':St},Jc P c0 ops l s=some s'→Jc P c1 ops l s=some s'
 |[],s,s',hv=>hv
 |o::l,s,s',hv=>by
  simp only[Jc] at hv ⊢;cases h1:Jv P c0 ops o s with
  |none=>grind
  |some s1=>rw[h1] at hv;rw[dJ h h1];exact X0 hv
theorem X8{ops:Array Oper}:∀{l:List Oper} {i:Nat} {s s':St},IC P c0 ops i l s=some s'→IC P c1 ops i l s=some s'
 |[],i,s,s',hv=>hv
 |o::l,i,s,s',hv=>by
  simp only[IC] at hv ⊢;cases h1:MS P c0 ops i o s with
  |none=>grind
  |some s1 =>
   rw[h1] at hv;have a:MS P c1 ops i o s=some s1:=by
    unfold MS at h1 ⊢;cases h3:Jv P c0 ops o { s with m:={ s.m with low:=s.m.size } } with
    |none=>grind
    |some s2=>rw[h3] at h1;rw[dJ h h3];omega
   rw[a];exact X8 hv
omit h in
theorem UK{a f1:St→Option (BH×St)}(c:∀s r,a s=some r→f1 s=some r):∀{k:Nat} {s:St} {r:BH×St},iterate a k s=some r→iterate f1 k s=some r
 |0,s,r,hv=>by cases hv
 |k+1,s,r,hv=>by
  simp only[iterate] at hv ⊢;cases h1:a s with
  |none=>grind
  |some q =>
   rw[h1] at hv;rw[c _ _ h1];obtain⟨e,s1⟩:=q;cases e with
   |normal=>exact UK c hv
   |ret=>omega
   |exit i=>omega
omit h in
theorem Qw{n:Nat}{j g b0 b1:St→Option (BH×St)}{a k1:Mem→Prop}{t:Tr Value}{ps:List Tmp}(e:∀s r,j s=some r→g s=some r)(d:∀s r,b0 s=some r→b1 s=some r)(c:∀m,a m→k1 m) :
 ∀{rows:List (List Value)} {m:Mem} {r:BH×Mem},DY n j b0 a t ps rows m=some r→DY n g b1 k1 t ps rows m=some r
 |[],m,r,hv=>hv
 |vs::rest,m,r,hv=>by
  obtain⟨x,C⟩:=r;obtain⟨u,q,s1,p,A,s2,o,k⟩:=I9 hv;simp only[DY];rw[if_pos ⟨u,q⟩,e _ _ p];simp only;rw[d _ _ o];rcases k with⟨rfl,z,y⟩|⟨B,rfl,rfl⟩
  ·simp only
   rw[if_pos (c _ z)];exact Qw e d c y
  simp
theorem yG{N:Nat}:∀(c:Code) (s:St) (r:BH×St),BJ P c0 N c s=some r→BJ P c1 N c s=some r:=by
 intro c
 induction c with
 |skip=>intro s r d;exact d
 |label l=>intro s r d;exact d
 |ret=>intro s r d;exact d
 |exit id=>intro s r d;exact d
 |goto l=>intro s r d;exact d
 |scope b _=>intro s r d;exact d
 |refuse y=>intro s r d;exact d
 |seq a b j e =>
  intro s r d;simp only[BJ] at d ⊢;grind
 |cond c0 a b j e =>
  intro s r d;simp only[BJ] at d ⊢;grind
 |block id b A =>
  intro s r d;simp only[BJ] at d ⊢;grind
 |loop b A =>
  intro s r d;exact UK A d
 |region id ops u =>
  intro s r d;cases u with
  |false =>
   simp only[BJ,Option.map_eq_some_iff] at d ⊢;obtain⟨s1,p,o⟩:=d;exact⟨s1,X0 h p,o⟩
  |true =>
   simp only[BJ,Option.map_eq_some_iff] at d ⊢;obtain⟨s1,p,o⟩:=d;exact⟨s1,X8 h p,o⟩
 |rangeFunc f I a b j e =>
  intro s r d;simp only[BJ] at d ⊢;split at d
  case h_2=>cases d
  rename_i g M K B;split at d
  case h_2=>cases d
  rename_i fn x;split at d
  case isFalse=>cases d
  rename_i C;try rw[x]
  try simp only
  rw[if_pos C];split at d
  case h_2=>cases d
  rename_i v J n;rw[h _ _ _ _ n];simp only;split at d
  case h_2=>cases d
  rename_i z k;try rw[k]
  try simp only
  rw[ae] at d ⊢;obtain⟨q,p,o⟩:=d;exact⟨q,Qw j e (fun m ⟨m1,hm⟩=>⟨m1,h _ _ _ _ hm⟩) p,o⟩
end
structure OLe(P:Program)(O0 O1:BP):Prop where
 same:∀f Bh m r,(O0 f).bind (fun F=>F Bh m)=some r→(O1 f).bind (fun F=>F Bh m)=some r
 more:∀f Bh m r,(O1 f).bind (fun F=>F Bh m)=some r→(O0 f).bind (fun F=>F Bh m)=none→∀fn,P.funcs[f]?=some fn→fn.ntmps<Bh.length
theorem bC{P:Program}{O0 O1:BP}{G:List Nat}{N:Nat}(d:OLe P O0 O1):∀(D:Nat) (f:FuncId) (Bh:List Value) (m:Mem) (r:Value×Mem),Em P O0 G N D f Bh m=some r→Em P O1 G N D f Bh m=some r
 |0,f,Bh,m,r,h=>by cases h
 |D+1,f,Bh,m,r,h=>by
  have j:=bC (G:=G) (N:=N) d D;cases h0:(O0 f).bind (fun F=>F Bh m) with
  |some q =>
   simp only[Em,h0] at h;simp only[Em,d.same _ _ _ _ h0];exact h
  |none =>
   simp only[Em,h0] at h;cases hfn:P.funcs[f]? with
   |none=>grind
   |some fn =>
    rw[hfn] at h;simp only at h;cases hb:fn.body with
    |none=>grind
    |some c =>
     rw[hb] at h;simp only at h;by_cases a:(Ir G fn c&&decide (Bh.length≤fn.ntmps))=true
     case neg=>grind
     rw[if_pos a] at h;have g:Bh.length≤fn.ntmps:=by grind
     have e:(O1 f).bind (fun F=>F Bh m)=none:=by
      cases e:(O1 f).bind (fun F=>F Bh m) with
      |none=>rfl
      |some q=>have:=d.more _ _ _ _ e h0 fn hfn;omega
     simp only[Em,e,hfn,hb];rw[if_pos a];cases hx:BJ P (Em P O0 G N D) N c { t:=tmpsOf 0 Bh .leaf,m:=m } with
     |none=>grind
     |some q=>rw[hx] at h;rw[yG j _ _ _ hx];exact h
theorem GH.more{P:Program}{O0 O1:BP}{G:List Nat}{f:FuncId}{Bh:List Value}{m:Mem}{Q:Value→Mem→Prop}(c:OLe P O0 O1)(h:GH P O0 G f Bh m Q):GH P O1 G f Bh m Q:=by
 obtain⟨v,a,⟨K,e⟩,q⟩:=h;exact⟨v,a,⟨K,fun N D d g=>bC c D _ _ _ _ (e N D d g)⟩,q⟩
end Go.Am
namespace Go.Vm
section
open Go.Am
section
variable {P:Program}
def b1b(d:TypeDesc)(x y:Value):Option Bool :=
 match d,x,y with
 | .int _,.int k a,.int k' b=>if k=k' then some (decide (a=b)) else none
 | .bool,.bool a,.bool b=>some (a==b)
 | .string,.string a,.string b=>some (decide (a.data.toList=b.data.toList))
 |_,_,_=>none
def iO(P:Program):List Field→Array Value→Array Value→Option Bool
 |[],_,_=>some true
 |f::fs,xs,ys=>if f.name="_" then none else
  match Gz P f.type,P.underlying f.type,xs[f.offset]?,ys[f.offset]?,iO P fs xs ys with
  |some false,some d,some x,some y,some r=>(b1b d x y).map (·&&r)
  |_,_,_,_,_=>none
theorem NW(a b:ByteArray):(a==b)=decide (a.data.toList=b.data.toList):=by
 rw[beq_toListBytes,ByteArray.toList_eq,ByteArray.toList_eq];grind
theorem RG{d:Nat}{t:TypeId}{td:TypeDesc}{x y:Value}{r:Bool}(c:P.underlying t=some td)(h:b1b td x y=some r):Dz P (Op.equalIn (d+1) t x y)=some r:=by
 unfold b1b at h;split at h
 ·split at h
  ·rename_i e
   subst e;cases h;rename_i a b;simp only[Op.equalIn,Ar,AX,c,Option.bind_some,if_true];rfl
  grind
 ·cases h
  simp only[Op.equalIn,Ar,AX,c,Option.bind_some];rfl
 ·cases h
  simp only[Op.equalIn,Ar,AX,c,Option.bind_some,NW];rfl
 grind
theorem Gt{t:TypeId}{cs:Array Value}{o:Nat}{v:Value}(c:Gz P t=some false)(a:cs[o]?=some v):Dz P (part t cs o)=some v:=by
 simp only[part,Ar,RD,c,Option.bind_some,Bool.false_eq_true,if_false,a];rfl
theorem jo{d:Nat}(xs ys:Array Value){g:Option Bool×Unit→Sem Bool}(j:g (none,())=pure true)(e:∀b,g (some b,())=pure b):∀(a:List Field) (r:Bool),iO P a xs ys=some r →
 Dz P ((forIn a ((none,()):Option Bool×Unit) fun f _=>(do
     if f.name≠"_" then
      if(!(← Op.equalIn (d+1) f.type (← part f.type xs f.offset) (← part f.type ys f.offset)))=true then pure (ForInStep.done (some false,())) else pure (ForInStep.yield (none,()))
     else pure (ForInStep.yield (none,())):Sem (ForInStep (Option Bool×Unit)))) >>= g)=some r
 |[],r,h=>by
  cases h;simp only[List.forIn_nil,Ar,BX,Option.bind_some,j]
 |f::a,r,h=>by
  unfold iO at h;split at h
  ·cases h
  rename_i o;split at h
  ·rename_i A x y k c z u s q
   simp only[Option.map_eq_some_iff] at h;obtain⟨b,p,rfl⟩:=h;have n:=jo (d:=d) xs ys j e a k q;rw[em];simp only[Ar,ne_eq,o,not_false_eq_true,if_true,Gt c u,Gt c s,Option.bind_some,RG z p];cases b with
   |false=>simp[BX,e]
   |true =>
    simp only[Bool.not_true,Bool.false_eq_true,if_false,BX,Option.bind_some,Bool.true_and];rw[Ar] at n;omega
  grind
theorem Px{d:Nat}{t:TypeId}{a:Array Field}{xs ys:Array Value}{r:Bool}(c:P.underlying t=some (.struct a))(e:P.stoodInHeld t=false)(h:iO P a.toList xs ys=some r) :
 Dz P (Op.equalIn (d+2) t (.agg xs) (.agg ys))=some r:=by
 rw[Op.equalIn];simp only[Ar,AX,c,Option.bind_some,program,Dz,e,Bool.false_eq_true,if_false];rw[← eJ,← Ar];exact jo (d:=d) xs ys rfl (fun b=>rfl) a.toList r h
def jm:FV→Option Value
 | .int k n=>some (.int k n)
 | .bool b=>some (.bool b)
 | .str s=>some (.string s)
 |_=>none
def FW:List FV→Option (List Value)
 |[]=>some []
 |x::l=>match jm x,FW l with
  |some v,some r=>some (v::r)
  |_,_=>none
theorem a4b{m:Mem}{F:Nat→Prop}{x:FV}{u v:Value}(h:RF m F x u)(a:jm x=some v):u=v∧Am.plainCell v=true:=by
 cases h<;>simp only[jm,Option.some.injEq,reduceCtorEq] at a
 all_goals(subst a;exact⟨rfl,rfl⟩)
theorem PI{m:Mem}{F:Nat→Prop}:∀{l:List FV} {us vs:List Value},Dt m F l us→FW l=some vs→us=vs∧vs.all Am.plainCell=true
 |[],_,_,.nil,h=>by cases h;simp
 |x::l,_,_,.cons h t,hv=>by
  simp only[FW] at hv;split at hv
  ·rename_i v r c a
   cases hv;obtain⟨rfl,e⟩:=a4b h c;obtain⟨rfl,d⟩:=PI t a;grind
  grind
def iy(P:Program)(t:TypeId)(xs ys:List FV):Option Bool :=
 match P.underlying t,FW xs,FW ys with
 |some (.struct fs),some vs,some ws=>iO P fs.toList vs.toArray ws.toArray
 |_,_,_=>none
def WM(P:Program)(t:TypeId):Bool:=!(P.stoodInHeld t)&&!(P.eqGuardType P.depth t)
theorem a9m{t:TypeId}{xs ys:List FV}{vs ws:List Value}{r:Bool}{op:BinOp}{x y:Operand}(c:WM P t=true)(h:iy P t xs ys=some r)(o:FW xs=some vs)(n:FW ys=some ws)(a:op=.eql∨op=.neq) :
 Dz P (do eqGuard op t x y (.agg vs.toArray) (.agg ws.toArray);binOp op t (.agg vs.toArray) (.agg ws.toArray))=some (.bool (if op=.eql then r else !r)):=by
 simp only[WM,Bool.and_eq_true,Bool.not_eq_true'] at c;unfold iy at h;rw[o,n] at h;split at h
 ·rename_i u k j s q p
  cases q;cases p;have g:Dz P (Op.equal t (.agg vs.toArray) (.agg ws.toArray))=some r:=Px (d:=9998) s c.1 h;have e:Dz P (eqGuard op t x y (.agg vs.toArray) (.agg ws.toArray))=some ():=by
   rcases a with rfl|rfl<;>simp[eqGuard,Ar,program,Dz,c.2,BX]
  rcases a with rfl|rfl
  ·rw[Ar,e,gx]
   show Dz P (do pure (.bool (← Op.equal t (.agg vs.toArray) (.agg ws.toArray))):Sem Value)=_;simp only[Ar,g,Option.bind_some,BX];rfl
  ·rw[Ar,e,gx]
   show Dz P (do pure (.bool (!(← Op.equal t (.agg vs.toArray) (.agg ws.toArray)))):Sem Value)=_;simp only[Ar,g,Option.bind_some,BX];rfl
 grind
end
section
variable {E:Env}{L:Frame}{H:Heap}{nx:Nat}{Q:PV→Heap→Nat→Prop}{w:Bool}
variable {dst:Option Tmp}{ty:TypeId}{pos:String}{af:Array Edge}{gd:Option (Nat×Bool)}
theorem Aa.iy{op:BinOp}{t s:TypeId}{x y:Operand}{xs ys:List FV}{r:Bool}(A:AU E.Γ L x=some (.p (.agg xs)))(z:AU E.Γ L y=some (.p (.agg ys)))(n:op=.eql∨op=.neq)(C:WM E.P t=true)(h:Vm.iy E.P t xs ys=some r)
 (q:Q (.p (.bool (if op=.eql then r else !r))) H nx):Aa E w ⟨dst,.binOp op t x y s,ty,pos,af,gd⟩ L H nx Q :=
 Aa.quiet q fun m F σ e c1 o=>by
  obtain⟨a,j⟩:∃a,FW xs=some a:=by
   cases j:FW xs with
   |some a=>simp
   |none=>unfold Vm.iy at h;grind
  obtain⟨d,g⟩:∃a,FW ys=some a:=by
   cases g:FW ys with
   |some a=>simp
   |none=>unfold Vm.iy at h;grind
  have M:ev e x=.agg a.toArray∧a.all Am.plainCell=true:=by
   have:=Bz c1 o A;generalize ev e x=u at this;cases this with
   |p c=>cases c with
    |agg c J=>obtain⟨rfl,B⟩:=PI c j;grind
  have K:ev e y=.agg d.toArray∧d.all Am.plainCell=true:=by
   have:=Bz c1 o z;generalize ev e y=u at this;cases this with
   |p c=>cases c with
    |agg c J=>obtain⟨rfl,B⟩:=PI c g;grind
  have I:=a9m (x:=x) (y:=y) C h j g n;refine⟨_,fun _=>?_,.p (.bool _)⟩;simp only[BO,FI,M.1,K.1];have k:(plain (.agg a.toArray)&&plain (.agg d.toArray))=true:=by
   simp only[plain,Gq,Bool.and_eq_true];grind
  have:P8 E.P op t x y (.agg a.toArray) (.agg d.toArray)=some (.bool (if op=.eql then r else !r)):=by
   simp only[P8,k,if_true];exact KX I rfl
  grind
theorem Aa.b1g{t a:TypeId}{x y:Operand}{xs ys:List FV}{r:Bool}(d:AU E.Γ L x=some (.p (.agg xs)))(c:AU E.Γ L y=some (.p (.agg ys)))(e:WM E.P t=true)(h:Vm.iy E.P t xs ys=some r)
 (q:Q (.p (.bool r)) H nx):Aa E w ⟨dst,.binOp .eql t x y a,ty,pos,af,gd⟩ L H nx Q:=Aa.iy d c (.inl rfl) e h q
theorem Aa.Vs{t e e':TypeId}{x g:Operand}{n b off:Nat}{cs:List PV}{k:IntKind}{i:Int}{a:TypeInfo}(s:AU E.Γ L x=some (.ref b off))(j:hget H b=some (.box e' cs))(z:AU E.Γ L g=some (.p (.int k i)))
 (u:E.P.underlying t=some (.array n e)) (y:E.P.info? e=some a) (h:0≤i∧i<n) (q:Q (.ref b (off+i.toNat*a.size)) H nx):Aa E w ⟨dst,.indexAddr t x g,ty,pos,af,gd⟩ L H nx Q :=
 Aa.quiet q fun m F σ C d o=>by
  obtain⟨c,B,A⟩:=Y9 d o s j;refine⟨.pointer (some ⟨c,off+i.toNat*a.size,none⟩),fun _=>?_,.ref (d.hp b _ j).1 rfl fun _=>⟨c,A,rfl⟩⟩;simp only[BO,FI,u,B,CQ d o z,y,h,and_self,if_true]
theorem Aa.b1u{t:TypeId}{a:Operand}{b o:Nat}{e:TypeId}{cs:List PV}{r:PV}(g:AU E.Γ L a=some (.ref b o))(d:hget H b=some (.box e cs))(c:Gz E.P t=some false)(j:cs[o]?=some r)(q:Q r H nx) :
 Aa E w ⟨dst,.load t a,ty,pos,af,gd⟩ L H nx Q:=by
 refine Aa.load g ?_ q;simp only[kW,d,uK,c];simp_all
theorem Aa.Iw{s d e e2:TypeId}{x:Operand}{b:Nat}{z:Bool}{n:Int}(B:AU E.Γ L x=some (.vec b 1 0 1))(J:hget H b=some (.vec e2 [.int .u8 n] 1 z))(C:E.P.underlying s=some (.slice e))(I:E.P.underlying d=some .string)(S:E.P.underlying e=some (.int .u8))(V:0≤n∧n<256)
 (q:Q (st [UInt8.ofNat n.toNat]) H nx):Aa E w ⟨dst,.convert s d x,ty,pos,af,gd⟩ L H nx Q :=
 Aa.quiet q fun m F σ A c1 K=>by
  obtain⟨N,U,o,k,M⟩:=qU.all (sz:=1) B J rfl m F σ A c1 K;have T:cells [UInt8.ofNat n.toNat]=[.int .u8 n]:=by
   show [FV.int .u8 (((UInt8.ofNat n.toNat).toNat:Nat):Int)]=_;rw[UInt8.toNat_ofNat'];grind
  rw[← T] at k;have u:=QN k;subst u;have j:=Ko c1 K B J;have c:∃a g,ev A x=.slice a 1 g:=by
   unfold FU at j;grind
  obtain⟨a,g,c⟩:=c;rw[c] at o;refine⟨.string (bs [UInt8.ofNat n.toNat]),fun _=>?_,.p (.str _)⟩;have y:(JE E.P s||JE E.P d)=true:=by simp only[JE,C,I];rfl
  simp only[BO,FI,y,if_true,Yv,C,I,c,S,o,QU];rfl
theorem Aa.c6t{t c:TypeId}{x y:Operand}{a b:List UInt8}{r:Bool}(e:AU E.Γ L x=some (st a))(d:AU E.Γ L y=some (st b))(g:decide (a=b)=r)(q:Q (.p (.bool r)) H nx) :
 Aa E w ⟨dst,.binOp .eql t x y c,ty,pos,af,gd⟩ L H nx Q:=Aa.eqS e d (by grind)
end
end
section
open Go.Am
def b7b(H:Heap):PV→Option Nat
 | .ref b _=>match hget H b with
  |some (.box _ _)=>some b
  |_=>none
 | .vec b n _ _=>match hget H b with
  |some (.vec _ _ k _)=>match Nat.decEq n k with
   | .isTrue _=>some b
   | .isFalse _=>none
  |_=>none
 | .E8 b n _=>match hget H b with
  |some (.vec _ _ k _)=>match Nat.decEq n k with
   | .isTrue _=>some b
   | .isFalse _=>none
  |_=>none
 |_=>none
def b1m:PV→Bool
 | .p (.Fb _)=>true
 | .p (.lst _ _ _)=>true
 | .p (.val (.slice none _ _))=>true
 |_=>false
inductive TP(H:Heap):PV→Nat→Prop
 |ref {b off:Nat} {e:TypeId} {cs:List PV} (h:hget H b=some (.box e cs)):TP H (.ref b off) b
 |vec {b n off len:Nat} {e:TypeId} {cs:List FV} {z:Bool} (h:hget H b=some (.vec e cs n z)):TP H (.vec b n off len) b
 |E8 {b n off:Nat} {e:TypeId} {cs:List FV} {z:Bool} (h:hget H b=some (.vec e cs n z)):TP H (.E8 b n off) b
def a9c(H:Heap)(b:Nat)(y:PV):Bool:=match b7b H y with
 |some c=>match Nat.decEq b c with
  | .isTrue _=>false
  | .isFalse _=>true
 |none=>b1m y
section
variable {Γ:Nat→Option (List Value×TypeId)}{m:Mem}{F:Nat→Prop}{σ:Nat→Value}{H:Heap}{nx:Nat}{L:Frame}{t:Tr Value}
theorem TP.blk(p:Ctx Γ m F σ H nx)(q:RL m F (htag H) σ nx L t){o:Operand}{x:PV}{b:Nat}(h:AU Γ L o=some x)(A:TP H x b):∃y,hget H b=some y∧∀c,Ik (ev t o)=some c→Dp (σ b)=some c:=by
 cases A with
 |ref j =>
  obtain⟨c,k,s⟩:=Y9 p q h j;refine⟨_,j,fun d e=>?_⟩;rw[k] at e;rw[s];exact e
 |vec j =>
  have a:=Ko p q h j;refine⟨_,j,fun d e=>?_⟩;unfold FU at a;split at a
  ·rename_i c u g z
   rw[a] at e;rw[z];exact e
  ·rename_i B
   obtain⟨k,_,_⟩:=a;rcases(p.hp b _ j).2 with⟨_,_,n⟩|⟨c,g,C,I,_⟩
   ·rcases n with⟨n,_⟩|⟨b2,J,K,n,_⟩
    ·rw[k,n] at e;cases e
    ·rw[k,n] at e;cases e
   grind
 |E8 j =>
  obtain⟨c,u,g,k,s⟩:=rD p q h j;refine⟨_,j,fun d e=>?_⟩;rw[k] at e;rw[s];exact e
theorem b2h{x:PV}{b:Nat}(a:b7b H x=some b):TP H x b:=by
 unfold b7b at a;split at a
 ·split at a
  ·rename_i c;cases a;exact .ref c
  grind
 ·split at a
  ·rename_i c
   split at a
   ·rename_i d _;cases a;subst d;exact .vec c
   grind
  grind
 ·split at a
  ·rename_i c
   split at a
   ·rename_i d _;cases a;subst d;exact .E8 c
   grind
  grind
 grind
theorem vC(g:Ctx Γ m F σ H nx)(j:RL m F (htag H) σ nx L t){o:Operand}{x:PV}(h:AU Γ L o=some x)(e:b1m x=true):∀c,Ik (ev t o)=some c→F c:=by
 have a:=Bz g j h;generalize ev t o=v at *;intro c d;unfold b1m at e;split at e
 ·cases a with
  |p a=>cases a with|Fb k=>simp only[Ik,Option.some.injEq] at d;grind
 ·cases a with
  |p a =>
   cases a with
   |nil=>cases d
   |room=>cases d
   |lst k=>simp only[Ik,Option.some.injEq] at d;grind
 ·cases a with
  |p a=>cases a with|val=>cases d
 grind
theorem b5m(a:Ctx Γ m F σ H nx)(q:RL m F (htag H) σ nx L t){o r:Operand}{x y:PV}{b:Nat}(h:AU Γ L o=some x)(J:TP H x b)(B:AU Γ L r=some y)(k:a9c H b y=true):a1i (Ik (ev t r)) (Ik (ev t o))=true:=by
 obtain⟨u,A,n⟩:=J.blk a q h;cases hd:Ik (ev t o) with
 |none=>cases Ik (ev t r)<;>rfl
 |some d =>
  have j:=n d hd;cases he:Ik (ev t r) with
  |none=>rfl
  |some e =>
   simp only[a1i,bne_iff_ne,ne_eq];intro s;subst s;unfold a9c at k;split at k
   ·rename_i c I
    obtain⟨C,p,g⟩:=(b2h I).blk a q B;have z:=g e he;have:=a.sep b c u C e A p j z;split at k
    ·grind
    omega
   ·exact(a.MB ⟨b,u,A,j⟩).1 (vC a q B k e he)
end
def b9m:Operand→Operand→Bool
 | .tmp a,.tmp b=>a==b
 | .global a,.global b=>a==b
 |_,_=>false
def ql:List (Option Operand)→List Operand→Bool
 |[],[]=>true
 |some a::l,b::r=>b9m a b&&ql l r
 |_,_=>false
theorem b7h{a b:Operand}(h:b9m a b=true):a=b:=by
 cases a<;>cases b<;>simp only[b9m,beq_iff_eq,Bool.false_eq_true] at h<;>rw[h]
theorem aB:∀{l:List (Option Operand)} {r:List Operand},ql l r=true→l=r.map some
 |[],[],_=>rfl
 |some a::l,b::r,h=>by
  simp only[ql,Bool.and_eq_true] at h;rw[bt,b7h h.1,aB h.2]
def jX(Γ:Nat→Option (List Value×TypeId))(L:Frame)(H:Heap)(x:Nat):List Operand→Bool
 |[]=>true
 |r::l=>(match AU Γ L r with
  |some y=>a9c H x y
  |none=>false)&&jX Γ L H x l
def a2n(Γ:Nat→Option (List Value×TypeId))(L:Frame):List Operand→Bool
 |[]=>true
 |r::l=>(match AU Γ L r with
  |some y=>b1m y
  |none=>false)&&a2n Γ L l
section
variable {E:Env}{L:Frame}{H:Heap}{nx:Nat}
variable {dst:Option Tmp}{ty:TypeId}{pos:String}{af:Array Edge}{gd:Option (Nat×Bool)}
variable {bn:Nat}{ops:Array Oper}{op:Op}{l:List Oper}{i:Nat}{R:Frame→Heap→Nat→Prop}
theorem Ag.atIdx(n:Nat)(h:Ag E bn ops n l L H nx R):Ag E bn ops n l L H nx R:=h
theorem Ag.weak{u:Operand}{x:PV}{b:Nat}(rs:List Operand)(J:oH E.P ops i=true)(N:(ops[i]?).bind (fun o=>yg o.op)=some u)(I:AU E.Γ L u=some x)(S:TP H x b)(M:ql (I4 ops i) rs=true)(K:jX E.Γ L H b rs=true)
 (h:Aa E true ⟨dst,op,ty,pos,af,none⟩ L H nx fun r H' e=>Ag E bn ops (i+1) l (Ig L dst r) H' e R):Ag E bn ops i (⟨dst,op,ty,pos,af,none⟩::l) L H nx R:=by
 intro B T m F σ t j g U;have d:QV ops i t=true:=by
  unfold QV;rw[N];rw[aB M,az];intro r c;rw[ba] at c;obtain⟨z,s,rfl⟩:=c;have n:∀rs:List Operand,jX E.Γ L H b rs=true→z∈rs→∃y,AU E.Γ L z=some y∧a9c H b y=true:=by
   intro rs
   induction rs with
   |nil=>simp
   |cons a rs Y =>
    intro h Z;simp only[jX,Bool.and_eq_true] at h;grind
  obtain⟨y,C,p⟩:=n rs K s;exact b5m j g I S C p
 refine Jd.cons (Jz.wanted (L:=L) j g rfl) ((h (m.at m.size) F σ t (j.at _) (RL.at (Γ:=E.Γ) _ g)).mono ?_);rintro v X ⟨r,H',e,W,k,q,c1,V,A,c4⟩;refine⟨.inr (.inr (.inl ⟨J,d⟩)),?_⟩;exact q B T _ W k _ (c1.at _) (RL.at (Γ:=E.Γ) _ (((RL.at (Γ:=E.Γ) _ g).step A (j.at _)).put V)) (U.trans A.at)
theorem Ag.c4t(rs:List Operand)(C:Qv E.P ops i=true)(J:ql (I4 ops i) rs=true)(I:a2n E.Γ L rs=true)
 (h:Aa E true ⟨dst,op,ty,pos,af,none⟩ L H nx fun r H' g=>Ag E bn ops (i+1) l (Ig L dst r) H' g R):Ag E bn ops i (⟨dst,op,ty,pos,af,none⟩::l) L H nx R:=by
 intro B N m F σ t e j S;refine Jd.cons (Jz.wanted (L:=L) e j rfl) ((h (m.at m.size) F σ t (e.at _) (RL.at (Γ:=E.Γ) _ j)).mono ?_);rintro v z ⟨r,H',g,U,k,q,c1,T,s,X⟩;have c:MX ops i t m z=true:=by
  unfold MX;rw[aB J,az];intro r d;rw[ba] at d;obtain⟨u,p,rfl⟩:=d;simp only;have n:∀rs:List Operand,a2n E.Γ L rs=true→u∈rs→∃y,AU E.Γ L u=some y∧b1m y=true:=by
   intro rs
   induction rs with
   |nil=>simp
   |cons a rs V =>
    intro h W;simp only[a2n,Bool.and_eq_true] at h;grind
  obtain⟨y,A,o⟩:=n rs I p;split
  ·rename_i b M
   have x:=vC e j A o b M;exact @decide_eq_true _ (Classical.propDecidable _) (s.keep b (e.fr b x) fun K=>(e.MB K).1 x)
  ·rfl
 refine⟨.inr (.inr (.inr ⟨C,c⟩)),?_⟩;exact q B N _ U k _ (c1.at _) (RL.at (Γ:=E.Γ) _ (((RL.at (Γ:=E.Γ) _ j).step s (e.at _)).put T)) (S.trans s.at)
end
end
section
open Go.Am
section
variable {E:Env}{bn:Nat}{b:Code}{L:Frame}{H:Heap}{nx:Nat}{Q:BH→Frame→Heap→Nat→Prop}
def Qh(E:Env)(bn:Nat)(b:Code)(Q:BH→Frame→Heap→Nat→Prop):Nat→Frame→Heap→Nat→Prop
 |0,L,H,nx=>Ad E bn b L H nx (Ai (fun _ _ _=>False) Q)
 |n+1,L,H,nx=>Ad E bn b L H nx (Ai (Qh E bn b Q n) Q)
theorem Ad.b7y(n:Nat)(h:Qh E bn b Q n L H nx):Ad E bn (.loop b) L H nx Q:=by
 intro B z m F σ t S N M;refine Nz.loop (fun k s=>∃L H nx F σ,Qh E bn b Q k L H nx∧Ctx E.Γ s.m F σ H nx∧RL s.m F (htag H) σ nx L s.t∧B.to s.m F σ H nx) n ⟨L,H,nx,F,σ,h,S,N,M⟩ ?_;rintro k s ⟨T,U,K,I,y,u,c1,C,A⟩;cases k with
 |zero =>
  refine(u B z s.m I y s.t c1 C A).mono ?_;rintro e J ⟨o,p,c,x,a,q,j,g,d⟩;cases e with
  |normal=>exact q.elim
  |ret=>exact⟨o,p,c,x,a,q,j,g,d⟩
  |exit i=>exact⟨o,p,c,x,a,q,j,g,d⟩
 |succ k =>
  refine(u B z s.m I y s.t c1 C A).mono ?_;rintro e J ⟨o,p,c,x,a,q,j,g,d⟩;cases e with
  |normal=>exact⟨k,bL _,o,p,c,x,a,q,j,g,d⟩
  |ret=>exact⟨o,p,c,x,a,q,j,g,d⟩
  |exit i=>exact⟨o,p,c,x,a,q,j,g,d⟩
theorem Qh.zero(h:Ad E bn b L H nx (Ai (fun _ _ _=>False) Q)):Qh E bn b Q 0 L H nx:=h
theorem Qh.succ{n:Nat}(h:Ad E bn b L H nx (Ai (Qh E bn b Q n) Q)):Qh E bn b Q (n+1) L H nx:=h
theorem Ai.again{I:Frame→Heap→Nat→Prop}(h:I L H nx):Ai I Q .normal L H nx:=h
end
end
section
open Go.Am
def Ov(names:List (List UInt8)):List (FV×FV):=names.map fun s=>(.str (bs s),.bool true)
theorem c1o(a b:List UInt8):(bs a==bs b)=decide (a=b):=by rw[NW];rfl
theorem cu{m:Mem}{F:Nat→Prop}:∀{names:List (List UInt8)} {l:List MapEntry},oJ m F (Ov names) l→l.map (·.key)=names.map (fun s=>Value.string (bs s))∧l.map (·.val)=names.map (fun _=>Value.bool true)
 |[],[],_=>⟨rfl,rfl⟩
 |[],e::l,h=>by cases h.1
 |s::names,[],h=>by cases h.1
 |s::names,e::l,h=>by
  obtain⟨d,c⟩:=h;simp only[Ov,List.map_cons] at d c;cases d with
  |cons k1 j =>
   cases c with
   |cons a g =>
    obtain⟨o,n⟩:=cu (names:=names) (l:=l) ⟨j,g⟩;rw[bt,bt,bt,bt,o,n];constructor
    ·generalize e.key=k at k1
     cases k1;rfl
    ·generalize e.val=k at a
     cases a;rfl
theorem ZA:∀{names:List (List UInt8)} {l:List MapEntry},l.map (·.key)=names.map (fun s=>Value.string (bs s))→l.map (·.val)=names.map (fun _=>Value.bool true)→∀(s:List UInt8) (i:Nat),
 (s∈names→∃j,Instr.findNow .string (.string (bs s)) l i=some (some (j,.bool true)))∧(s∉names→Instr.findNow .string (.string (bs s)) l i=some none)
 |[],[],_,_,s,i=>⟨fun h=>(by cases h),fun _=>rfl⟩
 |[],e::l,h,_,_,_=>by cases h
 |n::names,[],h,_,_,_=>by cases h
 |n::names,e::l,h1,h2,s,i=>by
  simp only[List.map_cons,List.cons.injEq] at h1 h2;obtain⟨d,c⟩:=ZA h1.2 h2.2 s (i+1);have a:Instr.sameNow .string (.string (bs s)) (.string (bs n))=some (bs s==bs n):=rfl;rw[c1o] at a;unfold Instr.findNow;grind
section
variable {E:Env}{L:Frame}{H:Heap}{nx:Nat}{Q:PV→Heap→Nat→Prop}{w:Bool}
variable {dst:Option Tmp}{ty:TypeId}{pos:String}{af:Array Edge}{gd:Option (Nat×Bool)}
theorem a1m{Γ:Nat→Option (List Value×TypeId)}{m:Mem}{F:Nat→Prop}{σ:Nat→Value}{t:Tr Value}{b:Nat}{o:Operand}{es:List (FV×FV)}(a:Ctx Γ m F σ H nx)(c:RL m F (htag H) σ nx L t)(h:AU Γ L o=some (.mref b))(d:hget H b=some (.map es)):ev t o=σ b:=by
 have:=Bz a c h;cases this with
 |mref _ _ e=>exact e (by simp[htag,d,HB.tag])
theorem Aa.makeMap{t:TypeId}(q:Q (.mref nx) ((nx,.map [])::H) (nx+1)):Aa E w ⟨dst,.makeMap t none,ty,pos,af,gd⟩ L H nx Q:=by
 intro m F σ k d n;obtain⟨c1,j,g⟩:=d.new (m':=m.alloc (.map [] 0)) (x:=.map []) (s:=.map (some m.size)) (by simp[Mem.alloc]) (fun c a=>by rw[Mem.Bj,if_neg (by omega)]) (by simp only[Mem.alloc];omega) (fun c a=>by simp only[Dp,Option.some.injEq] at a;omega)
  ⟨m.size,[],0,rfl,by simp[Mem.alloc],fun e=>cr _ (d.fr _ e),by rw[Mem.Bj,if_pos rfl],⟨.nil,.nil⟩⟩
 exact Gy.op (v:=.map (some m.size)) (fun _=>rfl) ⟨_,_,_,F,_,q,c1,.mref (bL _) rfl fun _=>(upd_same _ _ _).symm,j,fun _=>g⟩
theorem Aa.JH{t d g:TypeId}{x k:Operand}{b:Nat}{names:List (List UInt8)}{s:List UInt8}(z:AU E.Γ L x=some (.mref b))(e:hget H b=some (.map (Ov names)))(B:AU E.Γ L k=some (st s))
 (A:E.P.underlying t=some (.map d g)) (a:Ew E.P d=some .string) (y:zeroOf E.P g=some (.bool false)) (q:Q (.p (.bool (decide (s∈names)))) H nx):Aa E w ⟨dst,.lookup t x k false,ty,pos,af,gd⟩ L H nx Q :=
 Aa.quiet q fun m F σ J c1 j=>by
  obtain⟨_,r,l,c,u,M,K,o,n⟩:=c1.hp b _ e;obtain⟨I,C⟩:=cu n;obtain⟨f1,f2⟩:=ZA I C s 0;refine⟨.bool (decide (s∈names)),fun _=>?_,.p (.bool _)⟩;simp only[BO,FI,MK,IY,A,a,y,a1m c1 j z e,Nh c1 j B,u,o];rw[show(plain (Value.bool false)&&plain (Value.string (bs s)))=true from rfl];by_cases h:s∈names
  ·grind
  grind
theorem Dt.snoc{m:Mem}{F:Nat→Prop}:∀{cs:List FV} {vs:List Value} {c:FV} {v:Value},Dt m F cs vs→RF m F c v→Dt m F (cs++[c]) (vs++[v])
 |_,_,_,_,.nil,h=>.cons h .nil
 |_,_,_,_,.cons a t,h=>.cons a (Dt.snoc t h)
theorem Aa.lI{t B X:TypeId}{x k y:Operand}{b:Nat}{names:List (List UInt8)}{s:List UInt8}(S:AU E.Γ L x=some (.mref b))(u:hget H b=some (.map (Ov names)))(W:AU E.Γ L k=some (st s))(N:AU E.Γ L y=some (.p (.bool true)))
 (U:E.P.underlying t=some (.map B X)) (o:Ew E.P B=some .string) (V:s∉names) (q:Q (.D5 []) (hput H b (.map (Ov (names++[s])))) nx):Aa E true ⟨dst,.mapUpdate t x k y,ty,pos,af,gd⟩ L H nx Q:=by
 intro m F σ I c1 z;obtain⟨_,r,l,a,j,K,A,J,n⟩:=c1.hp b _ u;obtain⟨Z,Y⟩:=cu n;have f2:=(ZA Z Y s 0).2 V;have c:∀d x,r≠d→(m.put r x).get d=m.get d:=fun d x g=>by rw[Mem.get_put,if_neg g]
 obtain⟨d1,d2⟩:=c1.change (m':=m.put r (.map (l++[{ key:=.string (bs s),val:=.bool true,born:=a }]) (a+1))) (x':=.map (Ov (names++[s]))) (s':=σ b) u trivial (fun _=>rfl) (ab _)
  (fun d _ g=>c d _ fun e=>g (by rw[j,e];rfl)) (fun k k1 k2 M=>by
   have:=M r (by rw[j];rfl);simp only[Mem.put];omega) (fun d g=>.inl g) (by
   refine⟨r,_,a+1,j,K,A,by rw[Mem.get_put,if_pos rfl],?_⟩;have C:∀d,F d→F d∧(m.put r (.map (l++[{ key:=.string (bs s),val:=.bool true,born:=a }]) (a+1))).get d=m.get d:=fun d g=>⟨g,c d _ fun e=>A (e▸g)⟩
   unfold oJ Ov;simp only[List.map_append,List.map_cons,List.map_nil];exact⟨Dt.snoc (n.1.mono C) (.str _),Dt.snoc (n.2.mono C) (.bool _)⟩)
 refine Gy.op (v:=undef) (fun _=>?_) ⟨_,_,_,F,_,q,d1,.D5 .nil,d2,fun h=>by cases h⟩;have T:ev I y=.bool true:=Iq c1 z N;simp only[BO,FI,Jb,IY,U,o,a1m c1 z S u,Nh c1 z W,T,j,J];rw[show plain (Value.string (bs s))=true from rfl];grind
end
end
section
open Go.Am
end
end Go.Vm
namespace Go.Am
section
variable {P:Program}{O:BP}{G:List Nat}
def Jj(key:Value)(rows:List (List Value)):Value:=.tuple #[key,.tuple (rows.map fun r=>Value.tuple r.toArray).toArray]
theorem YG:∀rows:List (List Value),Zt (rows.map fun r=>Value.tuple r.toArray)=some rows
 |[]=>rfl
 |r::rows=>by simp only[List.map_cons,Zt,b3g,YG rows]
theorem MV(key:Value)(rows:List (List Value)):O4 (Jj key rows)=some rows:=YG rows
def MO(P:Program)(O:BP)(G:List Nat)(MF body:Code)(n:Nat)(ask:Mem→Prop)(t:Tr Value)(ps:List Tmp):List (List Value)→Mem→(BH→Mem→Prop)→Prop
 |[],m,Q=>Q .normal m
 |vs::rest,m,Q=>vs.length=n∧vs.all plain=true∧Nz P O G MF { t:=Nv t ps vs,m:=Jy m m.size } fun e s1=>e=.normal∧Nz P O G body s1 fun e s2=>match e with
  | .normal=>ask (Jy s2.m (min m.low s2.m.low))∧MO P O G MF body n ask t ps rest (Jy s2.m (min m.low s2.m.low)) Q
  |e=>Q e (Jy s2.m (min m.low s2.m.low))
theorem MO.run{j a:Code}{n:Nat}{ask:Mem→Prop}{c1g:Nat→Nat→Mem→Prop}(k:∀N D m,1≤D→(c1g N D m↔ask m)){t:Tr Value}{ps:List Tmp}:∀{rows:List (List Value)} {m:Mem} {Q:BH→Mem→Prop},MO P O G j a n ask t ps rows m Q →
 ∃e m',(∃K,∀N D,K≤N→K≤D→DY n (BJ P (Em P O G N D) N j) (BJ P (Em P O G N D) N a) (c1g N D) t ps rows m=some (e,m'))∧Q e m'
 |[],m,Q,h=>⟨.normal,m,⟨0,fun N D _ _=>rfl⟩,h⟩
 |vs::rest,m,Q,⟨h1,h2,e1,s1,hk1,he,e2,s2,hk2,q⟩=>by
  subst he;obtain⟨g,k1⟩:=hk1;obtain⟨d,c⟩:=hk2;have k1:∀N D,g≤N→g≤D→BJ P (Em P O G N D) N j { t:=Nv t ps vs,m:=Jy m m.size }=some (.normal,s1):=k1;have c:∀N D,d≤N→d≤D→BJ P (Em P O G N D) N a s1=some (e2,s2):=c;cases e2 with
  |normal =>
   obtain⟨x,s⟩:=q;obtain⟨e,m',⟨A,y⟩,u⟩:=MO.run k s;refine⟨e,m',⟨max (max g d) (max A 1),fun N D o p=>?_⟩,u⟩;have z:=(k N D (Jy s2.m (min m.low s2.m.low)) (by omega)).2 x;simp only[DY];rw[if_pos ⟨h1,h2⟩,k1 N D (by omega) (by omega)];simp only;rw[c N D (by omega) (by omega)];simp only;rw[if_pos z];exact y N D (by omega) (by omega)
  |ret =>
   refine⟨.ret,_,⟨max g d,fun N D o p=>?_⟩,q⟩;simp only[DY];rw[if_pos ⟨h1,h2⟩,k1 N D (by omega) (by omega)];simp only;rw[c N D (by omega) (by omega)]
  |exit id =>
   refine⟨.exit id,_,⟨max g d,fun N D o p=>?_⟩,q⟩;simp only[DY];rw[if_pos ⟨h1,h2⟩,k1 N D (by omega) (by omega)];simp only;rw[c N D (by omega) (by omega)]
theorem Nz.rangeFunc{f:Operand}{ps:Array Tmp}{o a:Code}{s:St}{g:FuncId}{lb:Array Value}{fn:Func}{Fo:List Value→Mem→Option (Value×Mem)}{key:Value}{rows:List (List Value)}{Q:BH→St→Prop}(k:ev s.t f=.func (.func g) #[] lb)(d:P.funcs[g]?=some fn)
 (c:(flat o&&flat a)=true) (p:O g=some Fo) (n:∃m1,Fo (Es fn.ntmps lb.toList) s.m=some (Jj key rows,m1))
 (h:MO P O G o a ps.size (fun m'=>∃m1,Fo (Es fn.ntmps lb.toList) m'=some (Jj key rows,m1)) s.t ps.toList rows s.m fun e m'=>Q e { t:=s.t,m:=m' }):Nz P O G (.rangeFunc f ps o a) s Q:=by
 simp only[Bool.and_eq_true] at c;have x:∀N D m',1≤D→Em P O G N D g (Es fn.ntmps lb.toList) m'=Fo (Es fn.ntmps lb.toList) m':=fun N D m' u=>by
  obtain⟨D,rfl⟩:∃j,D=j+1:=⟨D-1,by omega⟩
  have y:=OJ fn.ntmps lb.toList;cases h0:Fo (Es fn.ntmps lb.toList) m' with
  |some r=>simp only[Em,p,Option.bind_some,h0]
  |none =>
   simp only[Em,p,Option.bind_some,h0,d];grind
 obtain⟨e,m',⟨K,A⟩,q⟩:=MO.run (c1g:=fun N D m'=>∃m1,Em P O G N D g (Es fn.ntmps lb.toList) m'=some (Jj key rows,m1)) (fun N D m' u=>by grind) h;obtain⟨m1,n⟩:=n;refine⟨e,_,⟨max K 1,fun N D z u=>?_⟩,q⟩;simp only[BJ,k,d];rw[if_pos ⟨rfl,c.1,c.2⟩,x N D s.m (by omega),n];simp only[MV];grind
end
end Go.Am
namespace Go.Vm
open Go.Am
section
variable {E:Env}{bn:Nat}{L:Vm.Frame}{H:Vm.Heap}{nx:Nat}{Q:BH→Vm.Frame→Vm.Heap→Nat→Prop}
def a3f(L:Vm.Frame):List Tmp→List FV→Vm.Frame
 |p::ps,f::fs=>a3f (Ig L (some p) (.p f)) ps fs
 |_,_=>L
theorem RL.Nv{m:Mem}{F:Nat→Prop}{T:Nat→Option Tg}{σ:Nat→Value}{nx:Nat}:∀{ps:List Tmp} {fs:List FV} {vs:List Value} {L:Vm.Frame} {t:Tr Value},RL m F T σ nx L t→Dt m F fs vs→RL m F T σ nx (a3f L ps fs) (Nv t ps vs)
 |[],fs,vs,L,t,h,hr=>by cases hr<;>exact h
 |p::ps,_,_,L,t,h,.nil=>h
 |p::ps,_,_,L,t,h,.cons (v:=v) (vs:=vs) h1 h2=>RL.Nv (ps:=ps) (t:=QO t p v) (h.put (d:=some p) (.p h1)) h2
def b9t(E:Env)(g:FuncId)(fn:Func)(cs:List PV)(H:Vm.Heap)(nx:Nat)(key:Value)(rows:List (List Value)):Prop :=
 ∀Fo,E.O g=some Fo→∀m F σ lb,Ctx E.Γ m F σ H nx→Dv m F (htag H) σ nx cs lb→∃m1,Fo (Es fn.ntmps lb) m=some (Jj key rows,m1)
def RQ(iv:Prop)(CP:Nat)(L0:Vm.Frame)(H1:Vm.Heap)(Q:BH→Vm.Frame→Vm.Heap→Nat→Prop):BH→Vm.Frame→Vm.Heap→Nat→Prop
 | .normal,_,H',nx'=>iv∧CP≤nx'∧BF CP H1 H'
 |e,_,H',nx'=>CP≤nx'∧∃H2,BF CP H2 H'∧Q e L0 H2 CP
theorem Ad.rangeFunc{f:Operand}{ps:Array Tmp}{MF a:Code}{g:FuncId}{fn:Func}{cs:List PV}{key:Value}{rows:List (List Value)}(n:Nat)(W:Nat→List FV)(X:Nat→List Value)(L0:Vm.Frame)(d:Nat→Vm.Heap)(CP:Nat)(o:Nat→Prop)
 (hf:AU E.Γ L0 f=some (.clo g [] cs)) (hfn:E.P.funcs[g]?=some fn) (hfl:(flat MF&&flat a)=true) {Fo:List Value→Mem→Option (Value×Mem)} (ho:E.O g=some Fo) (hr:rows=(List.range n).map X) (T:∀k,k<n→(X k).length=ps.size) (hpl:∀k,k<n→(X k).all plain=true) (S:∀k,k<n→∀m F,Dt m F (W k) (X k))
 (hb:bn≤CP) (K:V8 L H nx L0 (d 0) CP) (I:F5 CP L0 L0) (x:∀k,k≤n→b9t E g fn cs (d k) CP key rows)
 (h0:o 0) (dV:∀k,k<n→o k→Ad E CP MF (a3f L0 ps.toList (W k)) (d k) CP fun e L1 H1 M=>e=.normal∧Ad E CP a L1 H1 M (RQ (o (k+1)) CP L0 (d (k+1)) Q))
 (A:o n→Q .normal L0 (d n) CP):Ad E bn (.rangeFunc f ps MF a) L H nx Q:=by
 intro B hB m F σ t h1 h2 h3;have clo:∀{m F σ H},Ctx E.Γ m F σ H CP→RL m F (htag H) σ CP L0 t→∃lb:Array Value,ev t f=.func (.func g) #[] lb∧Dv m F (htag H) σ CP cs lb.toList:=fun c l=>by
  have hv:=Bz c l hf;generalize ev t f=u at hv;cases hv with
  |clo r1 r2=>cases r1;grind
 obtain⟨lb,U,hcs⟩:=clo (K.ctx h1) (K.rl h2);have key:∀j k,k+j=n→o k→∀m F σ,Ctx E.Γ m F σ (d k) CP→RL m F (htag (d k)) σ CP L0 t→B.to m F σ (d k) CP →
  MO E.P E.O E.G MF a ps.size (fun N=>∃m1,Fo (Es fn.ntmps lb.toList) N=some (Jj key rows,m1)) t ps.toList (rows.drop k) m fun e N=>∃L' H' nx' F' σ',Q e L' H' nx'∧Ctx E.Γ N F' σ' H' nx'∧RL N F' (htag H') σ' nx' L' t∧B.to N F' σ' H' nx':=by
  intro j
  induction j with
  |zero =>
   intro k hk z m F σ c l b;obtain rfl:k=n:=by omega
   rw[hr,dm (by simp)];exact⟨L0,_,CP,F,σ,A z,c,l,b⟩
  |succ j ih =>
   intro k hk z m F σ c l b;have e0:rows.drop k=X k::rows.drop (k+1):=by
    rw[hr,bN (by simp;omega)];simp
   rw[e0];refine⟨T k (by omega),hpl k (by omega),?_⟩;refine(dV k (by omega) z ⟨m.at m.size,F,σ,d k,CP⟩ rfl _ F σ _ (c.at _) (RL.Nv (RL.at (Γ:=E.Γ) _ l) (S k (by omega) _ _)) (Step.refl _ _ _ _ _)).mono ?_;rintro e1 s1 ⟨L1,H1,M,F1,σ1,⟨he,C⟩,d1,d2,d3⟩;refine⟨he,(C ⟨m.at m.size,F,σ,d k,CP⟩ rfl s1.m F1 σ1 s1.t d1 d2 d3).mono ?_⟩;rintro e2 s2 ⟨L2,H2,Z,F2,y,q,g1,g2,g3⟩;have st:Step m F σ (d k) CP (s2.m.at (min m.low s2.m.low)) F2 y H2 Z:=Step.at g3;have J:=g1.at (min m.low s2.m.low);have l':=RL.step st c l;have b':=Step.trans b st;cases e2 with
   |normal =>
    have p:V8 L0 H2 Z L0 (d (k+1)) CP:=⟨q.2.1,I,q.2.2⟩
    have c2:=p.ctx J;have l2:=p.rl l';obtain⟨lb2,s,V⟩:=clo c2 l2;rw[U] at s;cases s;exact⟨x (k+1) (by omega) Fo ho _ _ _ _ c2 V,ih (k+1) (by omega) q.1 _ _ _ c2 l2 (p.step (by omega) b')⟩
   |ret =>
    obtain⟨q1,Y,q2,q3⟩:=q;have p:V8 L0 H2 Z L0 Y CP:=⟨q1,I,q2⟩
    exact⟨L0,Y,CP,F2,y,q3,p.ctx J,p.rl l',p.step (by omega) b'⟩
   |exit id =>
    obtain⟨q1,Y,q2,q3⟩:=q;have p:V8 L0 H2 Z L0 Y CP:=⟨q1,I,q2⟩
    exact⟨L0,Y,CP,F2,y,q3,p.ctx J,p.rl l',p.step (by omega) b'⟩
 refine Nz.rangeFunc (fn:=fn) (Fo:=Fo) (rows:=rows) U hfn hfl ho (x 0 (an _) Fo ho _ _ _ _ (K.ctx h1) hcs) ?_;have:=key n 0 (by omega) h0 m F σ (K.ctx h1) (K.rl h2) (K.step (by omega) h3);grind
end
section
variable {P:Program}{G:List Nat}
theorem LH(n:Nat)(lb:List Value):(Es n lb).drop (n+1)=lb:=by
 unfold Es;simp
theorem yw{k k':Value}{a b:List (List Value)}(h:Jj k a=Jj k' b):k=k'∧a=b:=by
 have:=congrArg O4 h;rw[MV,MV] at this;refine⟨?_,ci this⟩;unfold Jj at h;grind
abbrev SqF:=List Value→Mem→Option (Value×List (List Value))
open Classical in
noncomputable def Tc(G:List Nat)(M0:Mem)(nt:Nat)(Sq:SqF)(Bh:List Value)(m:Mem):Option (Value×Mem) :=
 if Bh=Es nt (Bh.drop (nt+1))∧∀k∈G,m.get k=M0.get k then(Sq (Bh.drop (nt+1)) m).map fun kr=>(Jj kr.1 kr.2,m) else none
noncomputable def a6w(G:List Nat)(M0:Mem)(gf:FuncId)(nt:Nat)(Sq:SqF)(O:BP):BP:=fun f=>if f=gf then some (Tc G M0 nt Sq) else O f
theorem VR{d:Mem}{gf f:FuncId}{a:Nat}{c:SqF}{O:BP}(h:f≠gf):a6w G d gf a c O f=O f:=if_neg h
theorem a1z{d:Mem}{gf:FuncId}{a:Nat}{c:SqF}{O:BP}:a6w G d gf a c O gf=some (Tc G d a c):=if_pos rfl
theorem LY{d:Mem}{a:Nat}{c:SqF}{Bh:List Value}{m:Mem}{r:Value×Mem}(h:Tc G d a c Bh m=some r):∃lb kr,Bh=Es a lb∧(∀k∈G,m.get k=d.get k)∧c lb m=some kr∧r=(Jj kr.1 kr.2,m):=by
 unfold Tc at h;split at h
 case isFalse=>cases h
 rename_i e;rw[ae] at h;grind
theorem sG{d:Mem}{a:Nat}{c:SqF}{lb:List Value}{m:Mem}{kr:Value×List (List Value)}(e:∀k∈G,m.get k=d.get k)(h:c lb m=some kr):Tc G d a c (Es a lb) m=some (Jj kr.1 kr.2,m):=by
 unfold Tc;rw[LH,if_pos ⟨rfl,e⟩,h];rfl
theorem b5e{j:Mem}{gf:FuncId}{a:Nat}{g:SqF}{O:BP}(n:O gf=none)(c:∀fn,P.funcs[gf]?=some fn→fn.ntmps=a):OLe P O (a6w G j gf a g O) where
 same f Bh m r h:=by
  by_cases e:f=gf
  ·grind
  ·rw[VR e];exact h
 more f Bh m r h h0 fn hfn:=by
  by_cases e:f=gf
  ·subst e
   rw[a1z] at h;obtain⟨k,d,rfl,_⟩:=LY (show Tc G j a g Bh m=some r from h);rw[c fn hfn];exact OJ a k
  ·rw[VR e,h0] at h;cases h
theorem nJ{gf:Nat}{lb:Array Value}{rows:List (List Value)}{g e:World→Prop}{w:World}(h:XV P gf lb rows e w)(o:∀W,g W→e W):XV P gf lb rows g w :=
 fun l J A W p q k j s n=>h l J A W p q k (fun i y d c=>by
  obtain⟨fn,tmps,z,a,x,u⟩:=j i y d c;refine⟨fn,tmps,z,a,x,u.mono ?_⟩;grind) (o _ s) n
theorem dS{y:Mem}{gf:FuncId}{j:Nat}{x:SqF}{O:BP}(hO:Gh P G O)(Z:Am.Enters P gf)(s:∀fn,P.funcs[gf]?=some fn→fn.ntmps=j)
 (X:∀(lb:List Value) (m:Mem) (key:Value) (rows:List (List Value)),x lb m=some (key,rows)→(∀k∈G,m.get k=y.get k)→∀(ι:BG) (w:World) (lb':Array Value),DF P G ι m w→BA ι m.gen lb lb'.toList →
  XV P gf lb' rows (Jl P G (fun m'=>x lb m'=some (key,rows)∧∀k∈G,m'.get k=y.get k) ι m.gen lb lb') w):Gh P G (a6w G y gf j x O):=by
 intro f Fo n;by_cases h:f=gf
 ·subst h
  rw[a1z] at n;cases n;refine⟨fun Bh m v m' a ι w as' V c=>?_,fun Bh m v m' a=>?_,Z,fun fn lb m m1 v rows u a B ι w lb' Dq Y=>?_⟩
  ·obtain⟨lb,rows,rfl,_⟩:=LY a
   obtain⟨v',k',_,h2,_⟩:=c.H6;contradiction
  ·obtain⟨lb,rows,_,_,_,e⟩:=LY a
   cases e;exact AP.refl _
  ·rw[s fn u] at a ⊢
   obtain⟨q,d,e1,e2,e3,e4⟩:=LY a;have e5:lb=q:=by
    have:=congrArg (List.drop (j+1)) e1
    rwa[LH,LH] at this
   subst e5;obtain⟨A,d⟩:=d;cases e4;rw[MV] at B;cases B;refine nJ (X lb m _ _ e3 e2 ι w lb' Dq Y) ?_;rintro W ⟨o,m',N,M,⟨m2,K⟩,J⟩;obtain⟨p,g,U,T,S,z⟩:=LY K;have e6:lb=p:=by
    have:=congrArg (List.drop (j+1)) U
    rwa[LH,LH] at this
   subst e6;simp only[Prod.mk.injEq] at z;obtain⟨I,C⟩:=yw z.1;obtain⟨d4j,g⟩:=g;subst I;subst C;exact⟨o,m',N,M,⟨S,T⟩,J⟩
 ·rw[VR h] at n
  exact hO f Fo n
theorem AL.more{F:Nat}{laid:List (String×DataW Unit)}{O0 O1:BP}(a:OLe P O0 O1){f:FuncId}{args:List PV}{H:Vm.Heap}{nx:Nat}{Q:PV→Vm.Heap→Nat→Prop}(h:AL (Ei P F laid O0) f args H nx Q):AL (Ei P F laid O1) f args H nx Q :=
 fun m e σ Bh d c=>GH.more a (h m e σ Bh d c)
end
end Go.Vm
namespace Go.Proofs.YtnjkoebfgcbbdaaGreatDoor
open Go Go.Am Go.Vm Go.RowKit
def F9(lo hi:Nat):List (List Value):=(ED lo hi).map fun x=>[Go.encZ x]
def Q9:SqF:=fun lb m=>match lb with
 |[.pointer (some ⟨b,0,none⟩)]=>match m.get b with
  | .cells [.int .u64 lo,.int .u64 hi] _ 0 false=>if(0≤lo∧lo<18446744073709551616)∧(0≤hi∧hi<18446744073709551616) then some (.agg #[.int .u64 lo,.int .u64 hi],F9 lo.toNat hi.toNat) else none
  |_=>none
 |_=>none
def notKey(lo hi:Nat):Value:=.agg #[.int .u64 (lo:Int),.int .u64 (hi:Int)]
theorem bI{lb:List Value}{m:Mem}{kr:Value×List (List Value)}(h:Q9 lb m=some kr):∃b a c e,lb=[.pointer (some ⟨b,0,none⟩)]∧m.get b=.cells [.int .u64 ((a:Nat):Int),.int .u64 ((c:Nat):Int)] e 0 false∧a<18446744073709551616∧c<18446744073709551616∧kr=(notKey a c,F9 a c):=by
 unfold Q9 at h;split at h
 ·rename_i b
  split at h
  ·rename_i a c e d
   split at h
   ·rename_i g
    cases h;obtain⟨a,rfl⟩:∃n:Nat,a=n:=⟨a.toNat,by omega⟩
    obtain⟨c,rfl⟩:∃n:Nat,c=n:=⟨c.toNat,by omega⟩
    exact⟨b,a,c,e,rfl,d,by omega,by omega,rfl⟩
   grind
  grind
 grind
theorem yh{a b c d:Nat}(h:notKey a b=notKey c d):a=c∧b=d:=by
 simp[notKey] at h;omega
theorem bK{G:List Nat}{ι:BG}{m:Mem}{w:World}{b:Nat}{g:Value}{vs:List Value}{e:TypeId}(u:DF Tryz.prog G ι m w)(h:Aw ι m.gen (.pointer (some ⟨b,0,none⟩)) g)(k:m.get b=.cells vs e 0 false)(J:vs.all Am.plainCell=true) :
 ∃c o,g=.pointer (some ⟨c,o,none⟩)∧∀i,i<vs.length→w.cell? ⟨c,o+i,none⟩=some (vs.getD i undef):=by
 cases h with
 |ptr a U h =>
  obtain⟨j,z,K,y⟩:=h;obtain⟨T,M,S,s,I,C,q,B⟩:=Hg u z k;have N:=y (by simp[Mem.gen,k,II.gen,NK]);refine⟨j.blk,j.sh,by grind,fun i x=>?_⟩;obtain⟨A,p,n⟩:=q i x;have d:Am.plainCell (vs.getD i undef)=true:=by
   grind
  rw[n.D8 d] at p;rw[Am.cell_of_row s];omega
theorem YF(a c:Nat):(F9 a c).length=(ED a c).length:=by simp[F9]
theorem b6u(c a:Nat):∀k,∃r,ED c a=KH c a k++r
 |0=>⟨_,rfl⟩
 |1=>⟨(GN a).map (fun n:Nat=>((64+n:Nat):Int)),by rfl⟩
 |_+2=>⟨[],by simp[KH]⟩
theorem b2b{a c k:Nat}{done rest:List Int}{x:Int}(h:done++(x::rest)=KH a c k):∃e:done.length<(F9 a c).length,(F9 a c)[done.length]=[Go.encZ x]:=by
 obtain⟨r,d⟩:=b6u a c k;rw[← h] at d;have e:done.length<(F9 a c).length:=by
  rw[YF,d];simp
 refine⟨e,?_⟩;unfold F9;grind
attribute [local go_sem] Oper.semAt_some a2z a2b
theorem oO{F:Nat}{laid:List (String×DataW Unit)}(ht:UE F laid)(lb:List Value)(m:Mem)(key:Value)(rows:List (List Value))(hq:Q9 lb m=some (key,rows))(hg:∀k∈Az Tryz.prog F laid,m.get k=(AZ Tryz.prog F laid).get k)(ι:BG)(w:World)(lb':Array Value)(Dq:DF Tryz.prog (Az Tryz.prog F laid) ι m w)(hl:BA ι m.gen lb lb'.toList) :
 XV Tryz.prog 147 lb' rows (Jl Tryz.prog (Az Tryz.prog F laid) (fun m'=>Q9 lb m'=some (key,rows)∧∀k∈Az Tryz.prog F laid,m'.get k=(AZ Tryz.prog F laid).get k) ι m.gen lb lb') w:=by
 obtain⟨b,lo,hi,e,rfl,h1,hlo,hhi,he⟩:=bI hq;cases he;obtain⟨lb'⟩:=lb';obtain⟨p1,k1,rfl,r1,hl2⟩:=hl.H6;have hk:k1=[]:=av.1 hl2.1.symm;subst hk;obtain⟨c1,o1,rfl,_⟩:=bK Dq r1 h1 rfl;have facts:∀X,Jl Tryz.prog (Az Tryz.prog F laid) (fun m'=>Q9 [.pointer (some ⟨b,0,none⟩)] m'=some (notKey lo hi,F9 lo hi)∧∀k∈Az Tryz.prog F laid,m'.get k=(AZ Tryz.prog F laid).get k) ι m.gen [.pointer (some ⟨b,0,none⟩)] ⟨[.pointer (some ⟨c1,o1,none⟩)]⟩ X →
  X.cell? ⟨c1,o1,none⟩=some (.int .u64 (lo:Int))∧X.cell? ⟨c1,o1+1,none⟩=some (.int .u64 (hi:Int))∧OX X:=by
  rintro X ⟨ι',m',g1,g2,⟨g3,g4⟩,_⟩;obtain⟨b',lo',hi',e',q0,q1,_,_,q3⟩:=bI g3;cases q0;obtain⟨rfl,rfl⟩:=yh (congrArg Prod.fst q3);obtain⟨p1',k1',x1,x2,x3⟩:=g2.H6;cases x1;obtain⟨c1',o1',z1,z2⟩:=bK g1 x2 q1 rfl;cases z1;obtain⟨e,t1⟩:=ht.tab;exact⟨z2 0 (by simp),z2 1 (by simp),(fM ht.nm (Zn g1 g4 ht.nm t1 ht.lt)).1⟩
 have later:∀X Y,Jl Tryz.prog (Az Tryz.prog F laid) (fun m'=>Q9 [.pointer (some ⟨b,0,none⟩)] m'=some (notKey lo hi,F9 lo hi)∧∀k∈Az Tryz.prog F laid,m'.get k=(AZ Tryz.prog F laid).get k) ι m.gen [.pointer (some ⟨b,0,none⟩)] ⟨[.pointer (some ⟨c1,o1,none⟩)]⟩ X→Below X.heap.size X Y →
  Jl Tryz.prog (Az Tryz.prog F laid) (fun m'=>Q9 [.pointer (some ⟨b,0,none⟩)] m'=some (notKey lo hi,F9 lo hi)∧∀k∈Az Tryz.prog F laid,m'.get k=(AZ Tryz.prog F laid).get k) ι m.gen [.pointer (some ⟨b,0,none⟩)] ⟨[.pointer (some ⟨c1,o1,none⟩)]⟩ Y:=by
  rintro X Y ⟨ι',m',g1,g2,g3⟩ hb;exact⟨ι',m',Oq g1 hb,g2,g3⟩
 generalize Jl Tryz.prog (Az Tryz.prog F laid) (fun m'=>Q9 [.pointer (some ⟨b,0,none⟩)] m'=some (notKey lo hi,F9 lo hi)∧∀k∈Az Tryz.prog F laid,m'.get k=(AZ Tryz.prog F laid).get k) ι m.gen [.pointer (some ⟨b,0,none⟩)] ⟨[.pointer (some ⟨c1,o1,none⟩)]⟩=SI at *;intro l J Jx W hB hJ hx hY hI hj;refine callsIn_of_wp Tryz.func147 rfl trivial ?_ rfl;simp only[Tryz.ntmps147,List.size_toArray,List.length_cons,List.length_nil,Nat.reduceAdd,Nat.reduceSub,Array.replicate_succ,Array.replicate_zero,List.push_toArray,List.append_toArray,List.nil_append,List.cons_append];obtain⟨d0,d1,_⟩:=facts W hI
 gi_wp2
 gi_loopw [10] (fun i wr=>(i=.int .i64 0∧J (KH lo hi 0).length wr∧SI wr)∨(i=.int .i64 1∧J (KH lo hi 1).length wr∧SI wr)∨(i=.int .i64 2∧J (KH lo hi 2).length wr∧SI wr)) (fun i _=>(2-ivO i).toNat)
 case atStart=>exact Or.inl ⟨rfl,hj,hI⟩
 case round =>
  rcases hrel with⟨rfl,hJs,hIs⟩|⟨rfl,hJs,hIs⟩|⟨rfl,hJs,hIs⟩
  ·gi_wp2
   gi_loopw [4] (fun v wr=>∃p:Nat,p<18446744073709551616∧v=.int .u64 (p:Int)∧∃done:List Int,J done.length wr∧SI wr∧done++(GN p).map (fun n:Nat=>((64*0+n:Nat):Int))=KH lo hi (0+1)) (fun v _=>(ivO v).toNat)
   case atStart=>exact⟨_,hlo,rfl,KH lo hi 0,hJs,hIs,by simp[KH,ED]⟩
   case round =>
    obtain⟨p,hp,rfl,done,hJd,hId,hdone⟩:=hrel;by_cases hp0:p=0
    ·subst hp0
     have hz:((0:Nat):Int)=0:=rfl;rw[OG,eI,dd] at hdone
     gi_wp2
     go_roundw
     case rel=>exact Or.inr <| Or.inl ⟨by first|rfl|simp,by rw[← hdone];exact hJd,hId⟩
     case measure=>simp[ivO]
    ·obtain⟨e1,e2,e3⟩:=Vr hp0 hp
     rw[e1,bt] at hdone;obtain⟨_,_,hTb⟩:=facts _ hId;have htz:=a2v p hp _ hTb;have hne:¬ ((p:Int)=0):=by omega
     have hw1:=RH hp0 hp;have hw2:=Ru hp;obtain⟨x0,hx0⟩:∃x0:Int,((64*0+Lib.ctz 64 p:Nat):Int)=x0:=⟨_,rfl⟩
     rw[hx0] at hdone;generalize Lib.ctz 64 p=t at *;have hw4:IntKind.i64.wrap (0+(t:Int))=x0:=by rw[Md (by omega) (by omega)];omega
     have hw5:IntKind.i64.wrap ((t:Int))=x0:=by rw[Md (by omega) (by omega)];omega
     obtain⟨hl,hrow⟩:=b2b hdone;obtain⟨fn,tmps,assign,body,hy,hR⟩:=hY done.length _ hl hJd;rw[hrow] at hy;have hy:(Instr.yield l #[.int .i64 x0]).run Tryz.prog wr=.ok (.round l fn tmps assign body) wr:=hy
     gi_wp2
     refine⟨trivial,rfl,(callsIn_wide.2 htz).mono ?_⟩;rintro _ _ ⟨rfl,rfl⟩
     gi_wp2
     refine⟨rfl,hR.mono ?_⟩;rintro e W3 (⟨rfl,hJ3,hI3⟩|⟨rfl,hx3⟩)
     ·gi_wp2
      go_roundw
      case rel=>exact⟨p &&& (p-1),by omega,by first|rfl|simp,done++[x0],by rw[aD];exact hJ3,hI3,by rw[cq];exact hdone⟩
      case measure=>simp[ivO];omega
     ·gi_wp2
      refine⟨rfl,_,results_none rfl _ _ _,⟨_,rfl⟩,.inr ⟨_,hx3⟩⟩
  ·gi_wp2
   gi_loopw [4] (fun v wr=>∃p:Nat,p<18446744073709551616∧v=.int .u64 (p:Int)∧∃done:List Int,J done.length wr∧SI wr∧done++(GN p).map (fun n:Nat=>((64*1+n:Nat):Int))=KH lo hi (1+1)) (fun v _=>(ivO v).toNat)
   case atStart=>exact⟨_,hhi,rfl,KH lo hi 1,hJs,hIs,by simp[KH,ED]⟩
   case round =>
    obtain⟨p,hp,rfl,done,hJd,hId,hdone⟩:=hrel;by_cases hp0:p=0
    ·subst hp0
     have hz:((0:Nat):Int)=0:=rfl;rw[OG,eI,dd] at hdone
     gi_wp2
     go_roundw
     case rel=>exact Or.inr <| Or.inr ⟨by first|rfl|simp,by rw[← hdone];exact hJd,hId⟩
     case measure=>simp[ivO]
    ·obtain⟨e1,e2,e3⟩:=Vr hp0 hp
     rw[e1,bt] at hdone;obtain⟨_,_,hTb⟩:=facts _ hId;have htz:=a2v p hp _ hTb;have hne:¬ ((p:Int)=0):=by omega
     have hw1:=RH hp0 hp;have hw2:=Ru hp;obtain⟨x0,hx0⟩:∃x0:Int,((64*1+Lib.ctz 64 p:Nat):Int)=x0:=⟨_,rfl⟩
     rw[hx0] at hdone;generalize Lib.ctz 64 p=t at *;have hw4:IntKind.i64.wrap (64+(t:Int))=x0:=by rw[Md (by omega) (by omega)];omega
     have hw5:IntKind.i64.wrap (64+(t:Int))=x0:=by rw[Md (by omega) (by omega)];omega
     obtain⟨hl,hrow⟩:=b2b hdone;obtain⟨fn,tmps,assign,body,hy,hR⟩:=hY done.length _ hl hJd;rw[hrow] at hy;have hy:(Instr.yield l #[.int .i64 x0]).run Tryz.prog wr=.ok (.round l fn tmps assign body) wr:=hy
     gi_wp2
     refine⟨trivial,rfl,(callsIn_wide.2 htz).mono ?_⟩;rintro _ _ ⟨rfl,rfl⟩
     gi_wp2
     refine⟨rfl,hR.mono ?_⟩;rintro e W3 (⟨rfl,hJ3,hI3⟩|⟨rfl,hx3⟩)
     ·gi_wp2
      go_roundw
      case rel=>exact⟨p &&& (p-1),by omega,by first|rfl|simp,done++[x0],by rw[aD];exact hJ3,hI3,by rw[cq];exact hdone⟩
      case measure=>simp[ivO];omega
     ·gi_wp2
      refine⟨rfl,_,results_none rfl _ _ _,⟨_,rfl⟩,.inr ⟨_,hx3⟩⟩
  ·gi_wp2
   go_end0
   refine⟨⟨_,rfl⟩,.inl ?_⟩;rw[YF];have:KH lo hi 2=ED lo hi:=rfl;rw[← this];exact hJs
end Go.Proofs.YtnjkoebfgcbbdaaGreatDoor
namespace Go.Proofs.YtnjkoebfgcbbdaaGreatDoor
open Go Go.Am Go.Vm
theorem b0a:Tryz.prog.follows .mixedOrders=true :=by decide
theorem b0o:zy 8 BU:=⟨⟨2,82,by rfl,by kernel_rfl,of_decide_eq_true (by rfl)⟩⟩
theorem vT:Am.Enters Tryz.prog 52:=⟨_,Tryz.func52,by rfl,by rfl⟩
theorem Z9:Am.Enters Tryz.prog 55:=⟨_,Tryz.func55,by rfl,by rfl⟩
theorem tH:Am.Enters Tryz.prog 130:=⟨_,Tryz.func130,by rfl,by rfl⟩
def a4n:List (FuncId×gy):=[(52,a3e),(55,gu),(130,textF)]
theorem b6d:Gh Tryz.prog (Az Tryz.prog 8 BU) (pJ (Az Tryz.prog 8 BU) (AZ Tryz.prog 8 BU) a4n):=yK fun x a=>by
 simp only[a4n,List.mem_cons,List.not_mem_nil,or_false] at a;rcases a with rfl|rfl|rfl
 ·exact zM b0o vT
 ·exact iI Z9
 ·exact yN b0o tH
def kX:InF:=fun zs rest=>match rest with
 |[]=>if zs.length<1000000 then some (zs.mergeSort fun x y=>decide (x≤y),none) else none
 |_=>none
theorem Z5{zs zs':List Int}{rest:List Value}{r:Option Nat}(h:kX zs rest=some (zs',r)):rest=[]∧zs.length<1000000∧zs'=zs.mergeSort (fun x y=>decide (x≤y))∧r=none:=by
 unfold kX at h;grind
def jF:InF:=fun zs rest=>match rest with
 |[]=>if zs.length<1000000 then some (Lib.compact zs++List.replicate (zs.length-(Lib.compact zs).length) 0,some (Lib.compact zs).length) else none
 |_=>none
theorem dM{zs zs':List Int}{rest:List Value}{r:Option Nat}(h:jF zs rest=some (zs',r)):rest=[]∧zs.length<1000000∧zs'=Lib.compact zs++List.replicate (zs.length-(Lib.compact zs).length) 0∧r=some (Lib.compact zs).length:=by
 unfold jF at h;grind
theorem tZ:Am.Enters Tryz.prog 48:=⟨_,Tryz.func48,by rfl,by rfl⟩
theorem vP:Am.Enters Tryz.prog 49:=⟨_,Tryz.func49,by rfl,by rfl⟩
noncomputable abbrev b3b:BP:=pJ (Az Tryz.prog 8 BU) (AZ Tryz.prog 8 BU) a4n
noncomputable abbrev a9j:BP:=inO (Az Tryz.prog 8 BU) (AZ Tryz.prog 8 BU) 48 3 kX b3b
noncomputable abbrev a2x:BP:=inO (Az Tryz.prog 8 BU) (AZ Tryz.prog 8 BU) 49 3 jF a9j
theorem b4a:Gh Tryz.prog (Az Tryz.prog 8 BU) a9j:=lF b6d tZ (by kernel_rfl)
 (fun blk d g k j r c w h y u s q z B=>by
  obtain⟨rfl,A,rfl,rfl⟩:=Z5 h;refine(show Calls Tryz.prog 48 _ w _ from Tryz.slices_Sort_int blk d g k w s q (by omega)).mono ?_;rintro x w' ⟨rfl,n,o,rfl⟩;exact⟨rfl,n,o,rfl⟩)
 (fun c a w h p=>by
  obtain⟨rfl,_⟩:=Z5 h;have e:a=#[]:=Array.eq_empty_of_size_eq_zero p;subst e;exact Tryz.slices_Sort_int_none none 0 w)
theorem b4y:Gh Tryz.prog (Az Tryz.prog 8 BU) a2x:=lF b4a vP (by kernel_rfl)
 (fun blk d e j g r a w h s p n u k y=>by
  obtain⟨rfl,o,rfl,rfl⟩:=dM h;refine(show Calls Tryz.prog 49 _ w _ from Tryz.slices_Compact_int blk d e j w n (by omega) k).mono ?_;rintro x w' ⟨rfl,q,rfl⟩;refine⟨rfl,q,#[],?_⟩;rfl)
 (fun a c w h _=>by
  obtain⟨_,_,_,o⟩:=dM h;grind)
theorem ZN:UE 8 BU:=⟨by rfl,⟨5,by kernel_rfl⟩,of_decide_eq_true (by rfl)⟩
theorem bF:Am.Enters Tryz.prog 61:=⟨_,Tryz.func61,by rfl,by rfl⟩
theorem lZ:Am.Enters Tryz.prog 147:=⟨_,Tryz.func147,by rfl,by rfl⟩
noncomputable abbrev a9x:BP:=frO (Az Tryz.prog 8 BU) (AZ Tryz.prog 8 BU) 61 3 b2w a2x
noncomputable def nP:BP:=a6w (Az Tryz.prog 8 BU) (AZ Tryz.prog 8 BU) 147 Tryz.f147.ntmps Q9 a9x
theorem b5d:Gh Tryz.prog (Az Tryz.prog 8 BU) a9x:=a3j b4y bF (by kernel_rfl) (a6o ZN)
theorem vV:∀fn,Tryz.prog.funcs[147]?=some fn→fn.ntmps=Tryz.f147.ntmps :=by simp
theorem a7z:Gh Tryz.prog (Az Tryz.prog 8 BU) nP:=dS b5d lZ vV fun e m d a n k ι w c j g=>oO ZN e m d a n k ι w c j g
noncomputable abbrev env:Env:=Ei Tryz.prog 8 BU nP
theorem a7h{f:FuncId}(h:f≠147):nP f=a9x f:=VR h
theorem a7i{f:FuncId}(h:f≠147)(a:f≠61):nP f=a2x f:=by
 rw[a7h h];exact b2j a
theorem Zq{f:FuncId}(h:f≠147)(d:f≠61)(c:f≠49)(a:f≠48):nP f=b3b f:=by
 rw[a7i h d];show inO _ _ _ _ _ _ f=_;rw[yY c];show inO _ _ _ _ _ _ f=_;rw[yY a]
theorem Af{f:FuncId}(h:f∉147::61::49::48::a4n.map (·.1)):env.O f=none:=by
 show nP f=none;rw[Zq (fun e=>h (by grind)) (fun e=>h (by grind)) (fun e=>h (by grind)) (fun e=>h (by grind))];refine a5l ?_;rw[List.lookup_eq_none_iff];intro p a;grind
theorem b5t:nP 49=inO (Az Tryz.prog 8 BU) (AZ Tryz.prog 8 BU) 49 3 jF a9j 49:=a7i (by decide) (by decide)
theorem b6g:nP 48=inO (Az Tryz.prog 8 BU) (AZ Tryz.prog 8 BU) 48 3 kX b3b 48:=by
 rfl
theorem b1k(n:Int)(h:-9223372036854775808≤n∧n≤9223372036854775807):Ak env 52 [.int .i64 n] (st (Lib.itoa n)) :=
 aJ (Zq (by decide) (by decide) (by decide) (by decide)) rfl fun m F c a=>by
  cases a with
  |cons a t =>
   cases t;cases a;exact⟨_,by simp only[a3e];grind,.str _⟩
theorem XC(a b:List UInt8):Ak env 55 [.str (bs a),.str (bs b)] (.p (.int .i64 (Lib.compareBytes a b))) :=
 aJ (Zq (by decide) (by decide) (by decide) (by decide)) rfl fun m F e c=>by
  cases c with
  |cons c t =>
   cases t with
   |cons d t =>
    cases t;cases c;cases d;exact⟨.int .i64 (Lib.compareBytes a b),by rfl,.int _ _⟩
theorem sV(l:List Nat)(c:Num.gB l)(a:l.length<1000000000):Ak env 130 [.lst 82 (cells l) l.length] (st (Num.PS l)) :=
 aJ (Zq (by decide) (by decide) (by decide) (by decide)) rfl fun m F e d=>a6x c a d
theorem uX(m:Mem)(F:Nat→Prop):∀l:List Int,Dt m F (cells l) (l.map Go.encZ)
 |[]=>.nil
 |z::l=>.cons (.int .i64 z) (uX m F l)
theorem Qk{a c:Nat}(k:a<18446744073709551616)(n:c<18446744073709551616):Bd env 61 [.agg [.int .u64 (a:Int),.int .u64 (c:Int)]] 3 (cells (ED a c)) (ED a c).length ((ED a c).map Go.encZ).isEmpty:=by
 have h:=b9z (P:=Tryz.prog) (F:=8) (laid:=BU) (O:=nP) (O0:=a2x) (ff:=61) (e:=3) (Fn:=b2w) (xs:=[.agg [.int .u64 (a:Int),.int .u64 (c:Int)]]) (cs:=cells (ED a c)) (l:=(ED a c).map Go.encZ) (a7h (by decide))
  (fun m g s d=>by
   cases d with
   |cons d t =>
    cases t;cases d with
    |agg q u =>
     cases q with
     |cons p t =>
      cases t with
      |cons o t =>
       cases t;cases p;cases o;simp only[b2w,a2m];grind) (fun m g=>uX m g _) (by
   rw[az];intro x j;obtain⟨z,_,rfl⟩:=ba.1 j;rfl)
 grind
end Go.Proofs.YtnjkoebfgcbbdaaGreatDoor
