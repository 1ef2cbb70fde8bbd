/-
  Texts of a proof, merged (Ori, Vm29, Shell, WB, Am23, VmE, Vm30, Orq, Nsq, EnvO). Conditions: in each statement.
-/
import Derived.Sort.Grow
import Derived.Test.YthlffjlbidibdaaGreatDoorTie
import Derived.ProofKit
import Derived.LaidMore
import Derived.OpenShut
import Derived.Below
import Derived.MakeChecks
import Derived.Stop.Joined
import Derived.Shelf.SlIterI.Collect
import Derived.Shelf.Spec.TrailingZeros
import Derived.Shelf.Spec.SlicesGrow
import Derived.Test.YthlffjlbidibdaaGreatDoorKHg
set_option linter.unusedSimpArgs false
set_option autoImplicit true
set_option relaxedAutoImplicit true
set_option linter.unusedVariables false
set_option linter.unusedSectionVars false
set_option maxRecDepth 100000
set_option maxHeartbeats 8000000
abbrev cd:=@List.take_length
abbrev cU:=@List.drop_of_length_le
abbrev dr:=@List.filter_append
abbrev dt:=@List.append_nil
abbrev eh:=@List.length_filter_le
abbrev eM:=@List.forIn_cons
abbrev fc:=@List.map_nil
abbrev fe:=@Array.forIn_toList
abbrev hX:=@Option.bind_some
abbrev il:=@List.range_succ
namespace Go.Vm
open Go.Am
open Go.Sort (putRow putCells mapBlock onCells Holds grow size_putRow size_grow)
section
variable {P:Program}{G:List Nat}
def iV(z:Int):Value:=.int .i64 z
def XB:List Value→Option (List Int)
 |[]=>some []
 | .int .i64 n::l=>(XB l).map (n::·)
 |_::_=>none
theorem XR:∀zs:List Int,XB (zs.map iV)=some zs
 |[]=>rfl
 |z::zs=>by simp only[List.map_cons,iV,XB];rw[XR zs];rfl
theorem nH:∀{l:List Value} {zs:List Int},XB l=some zs→l=zs.map iV
 |[],zs,h=>by cases h;rfl
 |v::l,zs,h=>by
  unfold XB at h;split at h
  ·grind
  ·rename_i n e c
   cases c;rw[ae] at h;obtain⟨a,d,rfl⟩:=h;rw[nH d];rfl
  grind
abbrev InF:=List Int→List Value→Option (List Int×Option Nat)
def lH(e:TypeId)(Fn:InF)(Bo:List Value)(m:Mem):Option (Value×Mem):=match Bo with
 | .slice none 0 0::rest=>match Fn [] rest with
  |some ([],none)=>some (.tuple #[],m)
  |_=>none
 | .slice (some ⟨b,0,none⟩) n g::rest=>match m.get b with
  | .cells vs e' g' false =>
   if g=g'∧e=e'∧vs.length=n∧0<n∧rest.all Am.plainCell=true then
    match XB vs with
    |some zs=>match Fn zs rest with
     |some (zs',none)=>if zs'.length=n then some (.tuple #[],m.put b (.cells (zs'.map iV) e g' false)) else none
     |some (zs',some k)=>if zs'.length=n∧k≤n then some (.slice (some ⟨b,0,none⟩) k (g'+1),m.put b (.cells ((zs'.take k).map iV) e (g'+1) false)) else none
     |none=>none
    |none=>none
   else none
  |_=>none
 |_=>none
inductive a4w(e:TypeId)(Fn:InF)(m:Mem):List Value→Value→Mem→Prop
 |nil {rest:List Value} (h:Fn [] rest=some ([],none)):a4w e Fn m (.slice none 0 0::rest) (.tuple #[]) m
 |put {b n g:Nat} {rest:List Value} {zs zs':List Int} (hm:m.get b=.cells (zs.map iV) e g false) (hn:zs.length=n) (h0:0<n) (hr:rest.all Am.plainCell=true) (h:Fn zs rest=some (zs',none)) (hl:zs'.length=n) :
  a4w e Fn m (.slice (some ⟨b,0,none⟩) n g::rest) (.tuple #[]) (m.put b (.cells (zs'.map iV) e g false))
 |cut {b n g k:Nat} {rest:List Value} {zs zs':List Int} (hm:m.get b=.cells (zs.map iV) e g false) (hn:zs.length=n) (h0:0<n) (hr:rest.all Am.plainCell=true) (h:Fn zs rest=some (zs',some k)) (hl:zs'.length=n) (hk:k≤n) :
  a4w e Fn m (.slice (some ⟨b,0,none⟩) n g::rest) (.slice (some ⟨b,0,none⟩) k (g+1)) (m.put b (.cells ((zs'.take k).map iV) e (g+1) false))
theorem eP{Fn:InF}(h:lH e Fn Bo m=some (v,m')):a4w e Fn m Bo v m':=by
 unfold lH at h;split at h
 ·split at h
  ·rename_i a;cases h;exact .nil a
  grind
 ·rename_i b n g o
  split at h
  ·rename_i A C B p
   split at h
   ·rename_i y
    obtain⟨rfl,rfl,a,s,q⟩:=y;split at h
    ·rename_i z u
     have x:=nH u;subst x;rw[aL] at a;split at h
     ·rename_i d j
      split at h
      ·rename_i c;cases h;exact .put p a s q j c
      grind
     ·rename_i d k j
      split at h
      ·rename_i c;cases h;exact .cut p a s q j c.1 c.2
      grind
     grind
    grind
   grind
  grind
 grind
open Classical in
noncomputable def inO(G:List Nat)(M0:Mem)(ff:FuncId)(e:TypeId)(Fn:InF)(O:BG):BG:=fun f=>if f=ff then some (fun Bo m=>if ∀k∈G,m.get k=M0.get k then lH e Fn Bo m else none) else O f
theorem qJ{Fn:InF}(h:f≠ff):inO G a ff e Fn O f=O f:=if_neg h
theorem getElem!_toArray(zs:List Int)(j:Nat):zs.toArray[j]! =(zs[j]?).getD 0 :=by simp
theorem Uw{zs zs' ys:List Int}(y:DR P G ι m w)(B:ι b=some ib)(z:m.get b=.cells (zs.map iV) e g false)(hl:zs'.length=zs.length)(J:∃k,ys=zs'.take k)(T:g≤u) :
 ∃a,Ext ι m w a (m.put b (.cells (ys.map iV) e u false)) (grow (putRow iV (Sort.ahead w q) ib.blk ib.sh zs'.toArray) os)∧DR P G a (m.put b (.cells (ys.map iV) e u false)) (grow (putRow iV (Sort.ahead w q) ib.blk ib.sh zs'.toArray) os)∧a b=some ib:=by
 obtain⟨X,V,I,d,o,Y,n,s⟩:=Hu y B z;obtain⟨rfl,A⟩:=s rfl;have M:ib.blk<w.heap.size:=(y.dom b ib B).2;have C:(grow (putRow iV (Sort.ahead w q) ib.blk ib.sh zs'.toArray) os).heap[ib.blk]?=some (.cells (putCells iV ib.sh zs'.toArray X) I V):=by
  show((putRow iV (Sort.ahead w q) ib.blk ib.sh zs'.toArray).heap++os)[ib.blk]?=_;rw[dc (by simp_all)];simp only[putRow,mapBlock,Sort.heap_ahead,Array.getElem?_modify,d];rfl
 refine JJ (x:=.cells (ys.map iV) I u false) (ib':=ib) y B (Mem.Qz z) rfl ⟨by rw[Mem.H7 z];exact T,fun _=>rfl⟩ (.inl rfl) C (fun c hc K=>?_) ?_ rfl rfl rfl (fun a g' _=>?_)
 ·show((putRow iV (Sort.ahead w q) ib.blk ib.sh zs'.toArray).heap++os)[c]?=_
  simp only[putRow,mapBlock,Sort.heap_ahead,Array.getElem?_modify];grind
 ·simp
 ·obtain⟨k,rfl⟩:=J
  refine⟨fun _=>rfl,by rw[o];simp[putCells],Y,fun i S=>?_,fun _ j N=>A j (by simpa[putCells] using N)⟩;rw[aL,av] at S;have p:i<zs'.length:=by omega
  obtain⟨Z,U,_⟩:=n i (by rw[aL];omega);refine⟨iV zs'[i],?_,?_⟩
  ·simp only[putCells,Array.getElem?_mapIdx,U,Option.map_some]
   rw[if_pos ⟨by omega,by simp;omega⟩,show ib.sh+i-ib.sh=i by omega,getElem!_toArray,ai p];rfl
  ·have W:((zs'.take k).map iV).getD i undef=iV zs'[i]:=by
    rw[bB,ax,eZ,if_pos (by omega),ai p];rfl
   rw[W];exact .int _ _
theorem holds_of{zs:List Int}(p:DR P G ι m w)(u:ι b=some ib)(q:m.get b=.cells (zs.map iV) e g false):Holds iV w ib.blk ib.sh zs.toArray:=by
 obtain⟨J,B,I,a,n,K,c,d⟩:=Hu p u q;obtain⟨rfl,s⟩:=d rfl;intro j z;have k:j<zs.length:=by omega
 obtain⟨y,A,o⟩:=c j (by grind);have x:(zs.map iV).getD j undef=iV zs[j]:=by
  grind
 rw[x] at o;have C:=o.Eh (v:=iV zs[j]) rfl;refine⟨?_,?_⟩
 ·rw[Am.cell_of_row a,getElem!_toArray,ai k];grind
 ·rw[Am.frozen_of_row a]
  grind
theorem eX(x:Value)(l:List Value):(⟨x::l⟩:Array Value)=#[x]++l.toArray :=by simp
theorem nG{Fn:InF}(hO:EI P G O)(he:Am.Enters P ff)(h1:P.cellsOf e=1)
 (hc:∀(blk off cap:Nat) (zs zs':List Int) (r:Option Nat) (rest:List Value) (w:World),Fn zs rest=some (zs',r)→zs'.length=zs.length→(∀k,r=some k→k≤zs.length)→Holds iV w blk off zs.toArray→blk<w.heap.size→zs.length≤cap→0<zs.length →
  Calls P ff (#[.slice (some ⟨blk,off,none⟩) zs.length cap]++rest.toArray) w fun x w'=>x=.returned (match r with|none=>.tuple #[]|some k=>.slice (some ⟨blk,off,none⟩) k cap)∧∃q os,w'=grow (putRow iV (Sort.ahead w q) blk off zs'.toArray) os)
 (hn:∀(rest:List Value) (rest':Array Value) (w:World),Fn [] rest=some ([],none)→rest'.size=rest.length→Calls P ff (#[.slice none 0 0]++rest') w fun x w'=>x=.returned (.tuple #[])∧w'=w):EI P G (inO G M0 ff e Fn O):=by
 intro f Fo S;by_cases h:f=ff
 ·subst h
  unfold inO at S;rw[if_pos rfl] at S;cases S;refine⟨fun Bo m v m' s ι w V C c=>?_,fun Bo m v m' s=>?_,he,UD.none fun n lb m=>by simp only[a3x,aB,lH];split<;>rfl⟩
  ·simp only at s
   split at s
   case isFalse=>cases s
   have Y:=eP s;obtain⟨V⟩:=V;cases Y with
   |nil h =>
    obtain⟨v',A,rfl,T,K⟩:=c.Iz;cases T;rw[eX];refine(hn _ A.toArray w h (by simpa using K.1.symm)).mono ?_;rintro x w' ⟨rfl,rfl⟩;exact⟨_,rfl,Post.same C (.tuple [] [] rfl fun i u=>absurd u (by simp))⟩
   |put d I h0 Z h N =>
    rename_i b n g rest zs zs';subst I;obtain⟨v',A,rfl,T,K⟩:=c.Iz;have e3:A=rest:=by
     refine(WU K.1 fun i u=>?_).symm;exact((K.2 i u).Eh (aE.1 Z _ (getD_mem u))).symm
    subst e3;cases T with
    |sl _ _ _ _ M cap B =>
     obtain⟨a,J,_,p,o⟩:=B;obtain⟨c1,U,y⟩:=o (Mem.H7 d).symm;replace y:M.off=0+a.sh∧M.off+cap*a.esz≤a.lim:=y.resolve_left (by omega);obtain⟨blk,off,sp⟩:=M;simp only at c1 U y;subst c1;subst U;have c4:off=a.sh:=by omega
     subst c4;rw[eX];refine(hc a.blk a.sh cap zs zs' none A w h N (fun k hk=>by cases hk) (holds_of C J d) (C.dom b a J).2 p h0).mono ?_;rintro x w' ⟨rfl,q,os,rfl⟩;obtain⟨z,X,W,q3⟩:=Uw (q:=q) (os:=os) C J d N ⟨zs'.length,(cd).symm⟩ (ab g);exact⟨_,rfl,z,X,W,.tuple [] [] rfl fun i u=>absurd u (by simp)⟩
   |cut d I h0 Z h N hk =>
    rename_i b n g k rest zs zs';subst I;obtain⟨v',A,rfl,T,K⟩:=c.Iz;have e3:A=rest:=by
     refine(WU K.1 fun i u=>?_).symm;exact((K.2 i u).Eh (aE.1 Z _ (getD_mem u))).symm
    subst e3;cases T with
    |sl _ _ _ _ M cap B =>
     obtain⟨a,J,_,p,o⟩:=B;obtain⟨c1,U,y⟩:=o (Mem.H7 d).symm;replace y:M.off=0+a.sh∧M.off+cap*a.esz≤a.lim:=y.resolve_left (by omega);obtain⟨blk,off,sp⟩:=M;simp only at c1 U y;subst c1;subst U;obtain⟨y,c4⟩:=y;have c5:off=a.sh:=by omega
     subst c5;rw[eX];refine(hc a.blk a.sh cap zs zs' (some k) A w h N (fun j hj=>by cases hj;exact hk) (holds_of C J d) (C.dom b a J).2 p h0).mono ?_;rintro x w' ⟨rfl,q,os,rfl⟩;obtain⟨z,X,W,q3⟩:=Uw (q:=q) (os:=os) C J d N ⟨k,rfl⟩ (cT g);exact⟨_,rfl,z,X,W,.sl _ _ _ _ _ _ ⟨a,q3,by rw[Mem.gen,cg,if_pos rfl];exact ab _,by omega,fun _=>⟨rfl,rfl,.inr ⟨(cG _).symm,c4⟩⟩⟩⟩
  ·simp only at s
   split at s
   case isFalse=>cases s
   have Y:=eP s;cases Y with
   |nil=>exact AQ.refl _
   |put d=>exact AQ.put (Mem.Qz d) rfl
   |cut d=>exact AQ.put (Mem.Qz d) rfl
 ·rw[qJ h] at S
  exact hO f Fo S
end
end Go.Vm
namespace Go.Vm
open Go.Am
section
variable {P:Program}{F0:Nat}{laid:List (String×DataW Unit)}{O O0:BG}{ff:FuncId}{Fn:InF}{L:Frame}{H:Heap}{nx:Nat}{Q:PV→Heap→Nat→Prop}{w:Bool}
variable {dst:Option Tmp}{ty:TypeId}{pos:String}{af:Array Edge}{gd:Option (Nat×Bool)}
theorem m5:∀{zs:List Int} {vs:List Value},Du m F (cells zs) vs→vs=zs.map iV
 |[],_,h=>by cases h;rfl
 |z::zs,_,h=>by
  cases h with
  |cons h t=>cases h;rw[m5 t];rfl
theorem ln(m:Mem)(F:Nat→Prop):∀zs:List Int,Du m F (cells zs) (zs.map iV)
 |[]=>.nil
 |z::zs=>.cons (.int .i64 z) (ln m F zs)
theorem zJ(zs:List Int):(zs.map iV).all BQ=true:=by
 rw[aE];intro x a;obtain⟨z,_,rfl⟩:=ba.1 a;rfl
theorem Z5(g:Ctx (DY P F0 laid O).Γ m F σ H nx):∀k∈Au P F0 laid,m.get k=(AX P F0 laid).get k:=fun k d=>by
 obtain⟨a,e,l,c⟩:=Ec d;have:=(g.gl k l e (by simp only[DY,gam,if_pos a,c,Option.map_some])).2.1;rw[this,DJ a,c]
theorem a5v{E:Env}(q:Ctx E.Γ m F σ H nx)(K:RL m F (htag H) σ nx L t)
 (C:evs E.Γ L args=some (.vec b n 0 n::rest.map .p)) (o:hget H b=some (.vec e (cells zs) n z)) (U:0<n) :
 ∃c g a,args.map (ev t)=.slice (some ⟨c,0,none⟩) n g::a∧Du m F rest a∧σ b=.slice (some ⟨c,0,none⟩) n g∧c<m.size∧¬ F c∧m.get c=.cells (zs.map iV) e g false:=by
 have k:=TN q K C;obtain⟨_,d⟩:=q.hp b _ o;rcases d with⟨_,j,_⟩|⟨c,g,M,y,j,x,u,s,S,N⟩
 ·omega
 have A:=m5 s;subst A;generalize args.map (ev t)=Bo at k;cases k with
 |cons J I =>
  rename_i v a;refine⟨c,g,a,?_,k7 I,y,j,x,u⟩;cases J with
  |vec B T h =>
   have:=(h n (by simp[htag,o,HB.tag])).2 rfl;simp only[Gi] at this;grind
theorem Aa.d2o(Z:O ff=inO (Au P F0 laid) (AX P F0 laid) ff e Fn O0 ff)
 (X:AY (DY P F0 laid O).Γ L B=some (.clo ff [] [])) (Y:evs (DY P F0 laid O).Γ L args.toList=some (.vec b n 0 n::rest.map .p)) (J:hget H b=some (.vec e (cells zs) n z)) (y:∀m F u,Du m F rest u→u=rv) (A:rv.all Am.plainCell=true)
 (U:zs.length=n) (M:0<n) (hF:Fn zs rv=some (zs',some k)) (V:zs'.length=n) (W:k≤n)
 (q:Q (.vec nx k 0 k) ((nx,.vec e (cells (zs'.take k)) k false)::hdel H b) (nx+1)):Aa (DY P F0 laid O) true ⟨dst,.call { callee:=.value B,args:=args,argTypes:=aT },ty,pos,af,gd⟩ L H nx Q:=by
 intro m F σ t x K;obtain⟨c,g,u,e1,e2,C,e4,e5,e6⟩:=a5v x K Y J M;have e7:=y m F u e2;subst e7;have o:=Bz x K X;generalize hfe:ev t B=fv at o;cases o with
 |clo S N =>
  cases S;cases N;have a:∀d,c≠d→(m.put c (.cells ((zs'.take k).map iV) e (g+1) false)).get d=m.get d:=fun d s=>by rw[cg,if_neg s]
  obtain⟨c1,c2⟩:=x.move (m':=m.put c (.cells ((zs'.take k).map iV) e (g+1) false)) (s':=.slice (some ⟨c,0,none⟩) k (g+1)) (x':=.vec e (cells (zs'.take k)) k false) J (ab _) (fun d _ s=>a d fun e'=>s (by rw[C,e'];rfl)) (fun k' k1 k2 T=>by
   have:=T c (by rw[C];rfl);simp only[Mem.put];omega) (fun d s=>.inl (by rw[C];exact s)) (.inr ⟨c,g+1,_,rfl,e4,e5,by rw[cg,if_pos rfl],ln _ _ _,zJ _,fun _=>rfl⟩)
  refine GX.call (f:=ff) (Bo:=args.toList.map (ev t)) (fun call=>by simp only[BX,hfe];simp) (lz (v:=.slice (some ⟨c,0,none⟩) k (g+1)) (m':=m.put c (.cells ((zs'.take k).map iV) e (g+1) false)) (show O ff=_ by rw[Z];exact if_pos rfl) ?_ ⟨_,_,_,F,_,q,c1,?_,c2,fun h=>by cases h⟩)
  ·rw[if_pos (Z5 x),e1]
   simp only[lH,e6];rw[if_pos ⟨trivial,trivial,by rw[aL];exact U,M,A⟩,XR];simp only[hF];rw[if_pos ⟨V,W⟩]
  ·refine .vec (bN _) rfl fun j I=>?_
   rw[J8,if_pos rfl] at I;simp only[HB.tag,Option.some.injEq,Tg.vec.injEq] at I;refine⟨by omega,fun _=>?_⟩;rw[upd_same];exact rfl
theorem Aa.d1x(U:O ff=inO (Au P F0 laid) (AX P F0 laid) ff e Fn O0 ff)
 (S:AY (DY P F0 laid O).Γ L y=some (.clo ff [] [])) (T:evs (DY P F0 laid O).Γ L args.toList=some (.vec b n 0 n::rest.map .p)) (B:hget H b=some (.vec e (cells zs) n z)) (u:∀m F o,Du m F rest o→o=rv) (x:rv.all Am.plainCell=true)
 (hn:zs.length=n) (I:0<n) (hF:Fn zs rv=some (zs',none)) (hl:zs'.length=n)
 (q:Q (.DK []) (hput H b (.vec e (cells zs') n z)) nx):Aa (DY P F0 laid O) true ⟨dst,.call { callee:=.value y,args:=args,argTypes:=aT },ty,pos,af,gd⟩ L H nx Q:=by
 intro m F σ t s C;obtain⟨c,g,o,e1,Z,A,Y,X,W⟩:=a5v s C T B I;have V:=u m F o Z;subst V;have N:n=0→z=false:=fun h=>by omega
 have j:=Bz s C S;generalize hfe:ev t y=fv at j;cases j with
 |clo K J =>
  cases K;cases J;have a:∀d,c≠d→(m.put c (.cells (zs'.map iV) e g false)).get d=m.get d:=fun d k=>by rw[cg,if_neg k]
  obtain⟨c1,c2⟩:=s.change (m':=m.put c (.cells (zs'.map iV) e g false)) (s':=σ b) (x':=.vec e (cells zs') n z) B (XW.refl _) (fun _=>rfl) (ab _) (fun d _ k=>a d fun e'=>k (by rw[A,e'];rfl)) (fun k' k1 k2 M=>by
   have:=M c (by rw[A];rfl);simp only[Mem.put];omega) (fun d k=>.inl k) (.inr ⟨c,g,_,A,Y,X,by rw[cg,if_pos rfl],ln _ _ _,zJ _,N⟩)
  refine GX.call (f:=ff) (Bo:=args.toList.map (ev t)) (fun call=>by simp only[BX,hfe];simp) (lz (v:=.tuple #[]) (m':=m.put c (.cells (zs'.map iV) e g false)) (show O ff=_ by rw[U];exact if_pos rfl) ?_ ⟨_,_,_,F,_,q,c1,.DK .nil,c2,fun h=>by cases h⟩);rw[if_pos (Z5 s),e1];simp only[lH,W];rw[if_pos ⟨trivial,trivial,by grind,I,x⟩,XR];grind
def d7p(E:Env)(g:FuncId)(ac:List PV)(Hc:Heap)(k:Nat)(e:TypeId)(cs:List FV)(n:Nat)(z:Bool):Prop:=AL E g ac Hc k fun r H' nx'=>r=.vec k n 0 n∧H'=(k,.vec e cs n z)::Hc∧nx'=k+1
end
end Go.Vm
namespace Go.Proofs.YthlffjlbidibdaaGreatDoor
open Go Go.ChangeShapes Go.WideShapes Go.ChangeAt Go.WideMaps Go.WideElems Go.RowKit
def BU:List (String×DataW Unit):=[("math/bits.deBruijn32tab",Rows.laid_math_bits_deBruijn32tab),("math/bits.deBruijn64tab",Rows.laid_math_bits_deBruijn64tab),("internal/strconv.uint64pow10",Rows.laid_internal_strconv_uint64pow10)]
theorem own:ownKnob Tryz.prog.godebug=none :=by decide
theorem laidOut:laidOutB Tryz.prog=true:=by kernel_rfl
theorem door_met(os:Os)(args:Array Value):laidMetH Tryz.prog BU ((World.doorLaid Tryz.prog 400 os).forCall (fun _ _=>0) ⟨#[],args,[]⟩).memory :=
 laidMetH_of_parts3 (fuel:=8) (laidMet_of_run' 8 (by kernel_rfl) (by kernel_rfl)) (by kernel_rfl) (by kernel_rfl)
theorem b9p(h:laidMetH Tryz.prog BU W):laidMet Tryz.prog BU W:=by
 assumption
end Go.Proofs.YthlffjlbidibdaaGreatDoor
namespace Go.Proofs.YthlffjlbidibdaaGreatDoor
section
open Go Go.Proofs Go.Shelf Go.RowKit
attribute [local go_sem] Oper.semAt_some
def Hg(p:Nat):List Nat:=(List.range 64).filter p.testBit
def ES(lo hi:Nat):List Int:=(Hg lo).map (fun n:Nat=>(n:Int))++(Hg hi).map (fun n:Nat=>((64+n:Nat):Int))
theorem PW:Hg 0=[] :=by decide
theorem a4n(k:p<18446744073709551616)(c:t<64)(g:p.testBit t=true)(e:∀i,i<t→p.testBit i=false)(u:∀i,i<64→(p &&& (p-1)).testBit i=(p.testBit i&&decide (i≠t))):Hg p=t::Hg (p &&& (p-1)):=by
 have split:∀(f:Nat→Bool) (n:Nat),t<n→(∀i,i<t→f i=false)→f t=true→(List.range n).filter f=t::(List.range n).filter (fun i=>f i&&decide (i≠t)):=by
  intro f n
  induction n with
  |zero=>simp
  |succ n j =>
   intro o s a;rw[il,dr,dr];by_cases d:t=n
   ·have y:(List.range t).filter f=[]:=by
     simp_all
    have x:(List.range t).filter (fun i=>f i&&decide (i≠t))=[]:=by
     simp_all
    grind
   grind
 unfold Hg;rw[split p.testBit 64 c e g];congr 1
 refine gE fun i q=>?_
 grind
theorem MG(p:Nat):(Hg p).length≤64:=by
 have:=eh p.testBit (List.range 64);assumption
theorem Ws(x:p≠0)(g:p<18446744073709551616):Hg p=Lib.ctz 64 p::Hg (p &&& (p-1))∧Lib.ctz 64 p<64∧(p &&& (p-1))<p:=by
 obtain⟨m,z,d⟩:=Lib.ctzFrom_spec 64 p (by omega) (by omega);have e:Lib.ctz 64 p=Lib.ctzFrom 64 p:=by simp[Lib.ctz,x]
 rw[e];generalize Lib.ctzFrom 64 p=t at *;have s:∀i,p.testBit i=(decide (t≤i)&&(2*m+1).testBit (i-t)):=fun i=>by grind
 have u:p.testBit t=true:=by grind
 have a:∀i,i<t→p.testBit i=false:=fun i n=>by grind
 have k:p &&& (p-1)≤p-1:=Nat.and_le_right;have c:p-1=2^t*(2*m)+(2^t-1):=by
  grind
 have q:∀i,i<64→(p &&& (p-1)).testBit i=(p.testBit i&&decide (i≠t)):=fun i n=>by
  rw[Nat.testBit_and];by_cases o:i<t
  ·grind
  ·have y:(p-1).testBit i=(2*m).testBit (i-t):=by
    rw[c,Nat.testBit_two_pow_mul_add _ (by grind),if_neg o]
   rw[y,s i];by_cases B:i=t
   ·grind
   ·obtain⟨j,A⟩:∃j,i-t=j+1:=⟨i-t-1,by omega⟩
    grind
 exact⟨a4n g d u a q,d,by omega⟩
def c4v:Go.Shelf.Ren:=⟨fun|29=>120|n=>n,fun|0=>0|3=>3|4=>4|5=>5|22=>104|25=>154|54=>273|n=>n,fun|1=>0|n=>n⟩
theorem d1o:Go.Proofs.Lays7.n29 Tryz.prog c4v:={
 mixed:=by rfl
 f29:=Tryz.func120.trans (congrArg some (by rfl))
 t0:=Tryz.underlying0
 a0:=Tryz.isAgg0
 z0:=Tryz.sizeOf0
 v0:=Tryz.zeroValue0
 i0:=by kernel_rfl
 t3:=Tryz.underlying3
 a3:=Tryz.isAgg3
 z3:=Tryz.sizeOf3
 v3:=Tryz.zeroValue3
 i3:=by kernel_rfl
 t4:=Tryz.underlying4
 a4:=Tryz.isAgg4
 z4:=Tryz.sizeOf4
 v4:=Tryz.zeroValue4
 i4:=by kernel_rfl
 t5:=Tryz.underlying5
 a5:=Tryz.isAgg5
 z5:=Tryz.sizeOf5
 v5:=Tryz.zeroValue5
 i5:=by kernel_rfl
 t22:=Tryz.underlying104
 a22:=Tryz.isAgg104
 z22:=Tryz.sizeOf104
 v22:=Tryz.zeroValue104
 i22:=by kernel_rfl
 t25:=Tryz.underlying154
 a25:=Tryz.isAgg154
 z25:=Tryz.sizeOf154
 v25:=Tryz.zeroValue154
 i25:=by kernel_rfl
 t54:=Tryz.underlying273
 a54:=Tryz.isAgg273
 z54:=Tryz.sizeOf273
 g1:=by kernel_rfl }
def d1c:Go.Shelf.Ren:=⟨fun|8=>73|11=>118|n=>n,fun|0=>0|24=>41|26=>3|28=>230|33=>101|n=>n,fun|n=>n⟩
theorem d3o:Go.Proofs.SlLaysZI.n8 Tryz.prog d1c:={
 mixed:=by rfl
 f8:=⟨"slices.Collect[int]",by decide,Tryz.func73.trans (congrArg some (by rfl))⟩
 f11:=⟨"slices.AppendSeq[[]int,int]",by decide,Tryz.func118.trans (congrArg some (by rfl))⟩
 t0:=Tryz.underlying0
 a0:=Tryz.isAgg0
 z0:=Tryz.sizeOf0
 v0:=Tryz.zeroValue0
 t24:=Tryz.underlying41
 a24:=Tryz.isAgg41
 z24:=Tryz.sizeOf41
 v24:=Tryz.zeroValue41
 t26:=Tryz.underlying3
 a26:=Tryz.isAgg3
 z26:=Tryz.sizeOf3
 v26:=Tryz.zeroValue3
 t28:=Tryz.underlying230
 a28:=Tryz.isAgg230
 z28:=Tryz.sizeOf230
 v28:=Tryz.zeroValue230
 i26:=by kernel_rfl }
def PE(w:World):Prop:=TabAt 0 Lib.deBruijn64tab w
theorem Ob(h:PE w)(c:0<n)(e:Below n w w'):PE w':=fun j d=>by
 rw[← h j d];exact World.cell?_of_block (a:=⟨0,j,none⟩) (e.block _ c)
theorem a7l(x:Nat)(a:x<18446744073709551616)(w:World)(c:PE w):Calls Tryz.prog 120 #[.int .u64 x] w fun e w'=>e=.returned (.int .i64 (Lib.ctz 64 x))∧w'=w :=
 Any7.bits_TrailingZeros64 (P:=Tryz.prog) (ρ:=c4v) d1o x a w (fun _=>c)
end
section
open Go Go.Proofs Go.Shelf Go.RowKit
attribute [local go_sem] Oper.semAt_some
def ivO:Value→Int| .int _ q=>q|_=>0
def a1v(F:Fence)(n:Nat)(P:Program)(g:Nat)(lb:Array Value)(S:List Int→Prop)(N:Nat)(w:World):Prop :=
 ∀(l:Nat) (J:List Int→World→Prop) (W:World),(∀s X,J s X→Below w.heap.size w X)→AbidesFrom W.heap.size J →
  (∀pre x W1,J pre W1→pre.length<N→YieldAt F (n-1) P l #[encZ x] W1 fun e W'=>e=.returned (.bool true)∧J (pre++[x]) W'∧KeepsWalks W1 W') →
  J [] W →
  CallsIn F n P g (#[.func (.yield l) #[] #[]]++lb) W fun e W'=>(∃v,e=.returned v)∧∃xs,S xs∧J xs W'
def Lj(lo hi:Nat):Nat→List Int
 |0=>[]
 |1=>(Hg lo).map (fun n:Nat=>(n:Int))
 |_=>ES lo hi
theorem b4p(a c k:Nat):(Lj a c k).length≤128:=by
 have e:=MG a;have d:=MG c
 match k with
 |0=>simp[Lj]
 |1=>simp[Lj];omega
 |k+2=>simp[Lj,ES];omega
theorem a6j(h:done++(x::rest)=Lj a c k):done.length<128:=by
 have:=b4p a c k;grind
theorem Ue{p:Nat}(a:p<18446744073709551616):bits .and .u64 (p:Int) ((p-1:Nat):Int)=((p &&& (p-1):Nat):Int):=bits_and_u64_nat p (p-1) a (by omega)
theorem Ti{p:Nat}(c:p≠0)(a:p<18446744073709551616):IntKind.u64.wrap ((p:Int)-1)=((p-1:Nat):Int):=by rw[IntKind.wrap_u64];omega
theorem c6b:Tryz.prog.underlying 232=some (.array 2 104):=by rfl
theorem a7d(w:World)(a b:Int):(Instr.index 232 (.agg #[.int .u64 a,.int .u64 b]) (.int .i64 0)).run Tryz.prog w=.ok (.int .u64 a) w:=by
 simp[Instr.index,run_underlying c6b,asIntOf,go_sem]
theorem a5h(w:World)(a b:Int):(Instr.index 232 (.agg #[.int .u64 a,.int .u64 b]) (.int .i64 1)).run Tryz.prog w=.ok (.int .u64 b) w:=by
 simp[Instr.index,run_underlying c6b,asIntOf,go_sem]
attribute [local go_sem] a7d a5h
theorem yX(n:Nat)(hn:2≤n)(Bs lo hi:Nat)(hlo:lo<18446744073709551616)(hhi:hi<18446744073709551616)(w:World)(hT:PE w)(hg:0<w.heap.size)(hB:Bs<w.heap.size)
 (c0:w.cell? ⟨Bs,0,none⟩=some (.int .u64 (lo:Int))) (c1:w.cell? ⟨Bs,1,none⟩=some (.int .u64 (hi:Int))) :
 a1v Fence.wide n Tryz.prog 119 #[.pointer (some ⟨Bs,0,none⟩)] (fun xs=>xs=ES lo hi) 128 w:=fun l J W hJb hJ hY h0=>by
 have hb0:=hJb _ _ h0;have d0:W.cell? ⟨Bs,0,none⟩=some (.int .u64 (lo:Int)):=(hb0.cell (p:=⟨Bs,0,none⟩) hB).trans c0;have d1:W.cell? ⟨Bs,1,none⟩=some (.int .u64 (hi:Int)):=(hb0.cell (p:=⟨Bs,1,none⟩) hB).trans c1;refine callsIn_of_wp Tryz.func119 rfl trivial ?_ rfl;simp only[Tryz.ntmps119,List.size_toArray,List.length_cons,List.length_nil,Nat.reduceAdd,Nat.reduceSub,Array.replicate_succ,Array.replicate_zero,List.push_toArray,List.append_toArray,List.nil_append,List.cons_append]
 gi_wp2
 gi_loopw [10] (fun i wr=>(i=.int .i64 0∧J (Lj lo hi 0) wr)∨(i=.int .i64 1∧J (Lj lo hi 1) wr)∨(i=.int .i64 2∧J (Lj lo hi 2) wr)) (fun i _=>(2-ivO i).toNat)
 case atStart=>exact Or.inl ⟨rfl,h0⟩
 case round =>
  rcases hrel with⟨rfl,hJs⟩|⟨rfl,hJs⟩|⟨rfl,hJs⟩
  ·gi_wp2
   gi_loopw [4] (fun v wr=>∃p:Nat,p<18446744073709551616∧v=.int .u64 (p:Int)∧∃done,J done wr∧done++(Hg p).map (fun n:Nat=>((64*0+n:Nat):Int))=Lj lo hi (0+1)) (fun v _=>(ivO v).toNat)
   case atStart=>exact⟨_,hlo,rfl,_,hJs,by simp[Lj,ES]⟩
   case round =>
    obtain⟨p,hp,rfl,done,hJd,hdone⟩:=hrel;by_cases hp0:p=0
    ·subst hp0
     have hz:((0:Nat):Int)=0:=rfl;rw[PW,fc,dt] at hdone
     gi_wp2
     go_roundw
     case rel=>exact Or.inr (Or.inl ⟨by first|rfl|simp,by rw[← hdone];exact hJd⟩)
     case measure=>simp[ivO]
    ·obtain⟨e1,e2,e3⟩:=Ws hp0 hp
     rw[e1,bv] at hdone;have hTb:=Ob hT hg (hJb _ _ hJd);have htz:=a7l p hp _ hTb;have hne:¬ ((p:Int)=0):=by omega
     have hw1:=Ti hp0 hp;have hw2:=Ue hp;have hlt:=a6j hdone;obtain⟨x0,hx0⟩:∃x0:Int,((64*0+Lib.ctz 64 p:Nat):Int)=x0:=⟨_,rfl⟩
     rw[hx0] at hdone;generalize Lib.ctz 64 p=t at *;have hw4:IntKind.i64.wrap (0+(t:Int))=x0:=by rw[MW (by omega) (by omega)];omega
     have hw5:IntKind.i64.wrap (t:Int)=x0:=by rw[MW (by omega) (by omega)];omega
     obtain⟨fn,tmps,assign,body,hy,hR⟩:=hY done x0 _ hJd hlt
     gi_wp2
     refine⟨trivial,fun _=>by omega,(callsIn_wide.2 htz).mono ?_⟩;rintro _ _ ⟨rfl,rfl⟩
     gi_wp2
     refine⟨fun _=>by omega,hR.mono ?_⟩;rintro e W3 ⟨rfl,hJ3,hk3⟩
     gi_wp2
     go_roundw
     case rel=>exact⟨p &&& (p-1),by omega,by first|rfl|simp,done++[x0],hJ3,by rw[cz];exact hdone⟩
     case measure=>simp[ivO];omega
  ·gi_wp2
   gi_loopw [4] (fun v wr=>∃p:Nat,p<18446744073709551616∧v=.int .u64 (p:Int)∧∃done,J done wr∧done++(Hg p).map (fun n:Nat=>((64*1+n:Nat):Int))=Lj lo hi (1+1)) (fun v _=>(ivO v).toNat)
   case atStart=>exact⟨_,hhi,rfl,_,hJs,by simp[Lj,ES]⟩
   case round =>
    obtain⟨p,hp,rfl,done,hJd,hdone⟩:=hrel;by_cases hp0:p=0
    ·subst hp0
     have hz:((0:Nat):Int)=0:=rfl;rw[PW,fc,dt] at hdone
     gi_wp2
     go_roundw
     case rel=>exact Or.inr (Or.inr ⟨by first|rfl|simp,by rw[← hdone];exact hJd⟩)
     case measure=>simp[ivO]
    ·obtain⟨e1,e2,e3⟩:=Ws hp0 hp
     rw[e1,bv] at hdone;have hTb:=Ob hT hg (hJb _ _ hJd);have htz:=a7l p hp _ hTb;have hne:¬ ((p:Int)=0):=by omega
     have hw1:=Ti hp0 hp;have hw2:=Ue hp;have hlt:=a6j hdone;obtain⟨x0,hx0⟩:∃x0:Int,((64*1+Lib.ctz 64 p:Nat):Int)=x0:=⟨_,rfl⟩
     rw[hx0] at hdone;generalize Lib.ctz 64 p=t at *;have hw4:IntKind.i64.wrap (64+(t:Int))=x0:=by rw[MW (by omega) (by omega)];omega
     obtain⟨fn,tmps,assign,body,hy,hR⟩:=hY done x0 _ hJd hlt
     gi_wp2
     refine⟨trivial,fun _=>by omega,(callsIn_wide.2 htz).mono ?_⟩;rintro _ _ ⟨rfl,rfl⟩
     gi_wp2
     refine⟨fun _=>by omega,hR.mono ?_⟩;rintro e W3 ⟨rfl,hJ3,hk3⟩
     gi_wp2
     go_roundw
     case rel=>exact⟨p &&& (p-1),by omega,by first|rfl|simp,done++[x0],hJ3,by rw[cz];exact hdone⟩
     case measure=>simp[ivO];omega
  ·gi_wp2
   go_end0
   exact⟨⟨_,rfl⟩,_,rfl,hJs⟩
end
section
open Go Go.Proofs Go.Shelf Go.RowKit
attribute [local go_sem] Oper.semAt_some
section
variable {P:Program}{ρ:Ren}
theorem a3t(L:SlLaysZI.n11 P ρ)(F:Fence)(n:Nat)(h11:F.fn (ρ.f 11))(hro:F.round=none)(hn:2≤n)(g:Nat)(lb:Array Value)(hFg:F.fn g)(eg:∀args w,(callFunc g args).run P w=.ok (.enter g args) w)
 (S:List Int→Prop) (N:Nat) (hN:N≤maxLen) (hNb:N*8≤140737488355328) (w:World) (hseq:a1v F (n-1) P g lb S N w) :
 CallsIn F n P (ρ.f 11) #[.slice none 0 0,.func (.func g) #[] lb] w fun e w'=>∃(v:Value) (ss:List Int),e=.returned v∧S ss∧w'.ownsRow w.heap.size (ρ.t 26) 1 v ss.length (ss.map encZ)∧(v=.slice none 0 0↔ss=[])∧Below w.heap.size w w':=by
 have h1:1≤n:=by omega
 have mixed:=L.mixed;have t0:=L.t0;have a0:=L.a0;have z0:=L.z0;have v0:=L.v0;have t24:=L.t24;have a24:=L.a24;have z24:=L.z24;have v24:=L.v24;have t26:=L.t26;have a26:=L.a26;have z26:=L.z26;have v26:=L.v26;have t28:=L.t28;have a28:=L.a28;have z28:=L.z28;have v28:=L.v28;have hne:ρ.t 24≠ρ.t 26:=fun e=>by have h:=L.t24;rw[e,L.t26] at h;cases h
 have u0:=run_underlying L.t0;have u24:=run_underlying L.t24;have u26:=run_underlying L.t26;have u28:=run_underlying L.t28;obtain⟨_,_,FG⟩:=L.f11;refine callsIn_of_wp_marks FG rfl h11 ?_ hro;simp only[SlBodyZ.n11_ntmps ρ,List.size_toArray,List.length_cons,List.length_nil,Nat.reduceAdd,Nat.reduceSub,Array.replicate_succ,Array.replicate_zero,List.push_toArray,List.append_toArray,List.nil_append,List.cons_append]
 gi_wp2
 refine wpIn_rangeFunc ?_;intro fn hfn;rw[hro];obtain⟨W0,hW0⟩:∃W0,w.alloc (.cells #[.slice none 0 0] (ρ.t 24))=W0:=⟨_,rfl⟩
 have hs0:W0.heap.size=w.heap.size+1:=by rw[← hW0];simp
 have hv0:W0.heap[w.heap.size]?=some (.cells #[.slice none 0 0] (ρ.t 24) (0,0)):=by rw[← hW0];exact World.alloc_heap_new w _
 have hb0:Below w.heap.size w W0:=by rw[← hW0];exact(Below.refl _ w).alloc (ab _) _
 rw[hW0];obtain⟨W1,hW1⟩:∃W1,(W0.alloc (.deferred (some []))).alloc (.loop (AnyZI.apRec ρ fn (.func (.func g) #[] lb) w.heap.size W0.heap.size .ready none))=W1:=⟨_,rfl⟩
 have hold:∀k,k<W0.heap.size→W1.heap[k]?=W0.heap[k]?:=fun k hk=>by
  rw[← hW1];exact(Below.heap_alloc _ _ k (by simp;omega)).trans (Below.heap_alloc _ _ k hk)
 have hb1:Below w.heap.size w W1:=by rw[← hW1];exact(hb0.alloc hb0.size _).alloc (by have:=hb0.size;simp;omega) _
 have hs1:W1.heap.size=W0.heap.size+2:=by rw[← hW1];simp
 have hM:AnyZI.ApAt ρ w fn (.func (.func g) #[] lb) w.heap.size (W0.heap.size+1) W0.heap.size [] W1 :=
  ⟨⟨_,(hold w.heap.size (by omega)).trans hv0,⟨rfl,.inl ⟨rfl,rfl⟩⟩,by simp⟩,
   by rw[← hW1];have:=World.alloc_heap_new (W0.alloc (.deferred (some []))) (.loop (AnyZI.apRec ρ fn (.func (.func g) #[] lb) w.heap.size W0.heap.size .ready none));rwa[World.size_alloc] at this,
   by rw[← hW1];exact(Below.heap_alloc _ _ _ (by simp)).trans (World.alloc_heap_new W0 _),hb1⟩
 refine⟨W0.heap.size+1,[{ target:=.collected W0.heap.size,args:=#[] }],W1,{ target:=.fn (.func g) lb,args:=#[.func (.yield (W0.heap.size+1)) #[] #[]] },W1,g,
  #[.func (.yield (W0.heap.size+1)) #[] #[]]++lb,W1,?_,?_,?_,?_,fun _=>h1,?_⟩
 ·rw[← hW1];exact run_enterLoop_outer _ _ _ _ _
 ·simp[resolve,go_sem]
 ·intro f' hf';simp[Target.leads] at hf';subst hf';exact hFg
 ·simp[invoke,go_sem,eg]
 ·refine(hseq (W0.heap.size+1) (AnyZI.ApAt ρ w fn (.func (.func g) #[] lb) w.heap.size (W0.heap.size+1) W0.heap.size) W1 (fun _ _ h=>h.below) (AnyZI.ap_abides ρ _ _ _ _ _ _ _ hb1.size)
   (fun pre x W hJ hl=>AnyZI.apYield { L with } F (n-1-1) w fn hfn _ w.heap.size (W0.heap.size+1) W0.heap.size (by omega) (by omega) (by omega) (ab _) (by omega) N hN hNb pre x W hJ hl) hM).mono ?_
  rintro e W2 ⟨⟨v0,rfl⟩,ss,hS,h2⟩;obtain⟨v,hv,hrow,hnil⟩:=h2.box;have hend:=run_endLoop (P:=P) h2.L (by simp[AnyZI.apRec]);obtain⟨W3,hW3⟩:∃W3,W2.putObj (W0.heap.size+1) (.loop { AnyZI.apRec ρ fn (.func (.func g) #[] lb) w.heap.size W0.heap.size .ready none with state:=.exhausted })=W3:=⟨_,rfl⟩
  rw[hW3] at hend;have hg3:W2.grownBy W3 (some (W0.heap.size+1)):=by rw[← hW3];exact grownBy_putObj_a _ _ _
  have hv3:W3.heap[w.heap.size]?=some (.cells #[v] (ρ.t 24) (0,0)):=by rw[← hW3];exact(World.putObj_heap_other (by omega)).trans hv
  have hK3:W3.heap[W0.heap.size]?=some (.deferred (some [])):=by rw[← hW3];exact(World.putObj_heap_other (by omega)).trans h2.K
  have hrow3:=hrow.kept hg3 (ownsRow_ne_a hrow h2.L (fun cur e=>by first|cases e|exact hne (Obj.cells.inj e).2.1));have hb3:Below w.heap.size w W3:=h2.below.grown hg3 h2.below.size (fun k e=>by cases e;omega);obtain⟨hc3,hf3⟩:=cell_of_box_a hv3;clear hW3;refine⟨none,W3,hend,?_⟩
  gi_wp2
  rw[← hs0];refine⟨by simp,.inl ⟨_,_,rfl,run_takeDeferred hK3,?_⟩⟩;exact⟨_,results_tmp rfl _ _ _,v,ss,rfl,hS,hrow3.kept (grownBy_putObj_a _ _ _) (ownsRow_ne_a hrow3 hK3 (fun cur e=>by first|cases e|exact hne (Obj.cells.inj e).2.1)),hnil,hb3.grown (grownBy_putObj_a _ _ _) hb3.size (fun k e=>by cases e;omega)⟩
theorem wE(L:SlLaysZI.n8 P ρ)(F:Fence)(n:Nat)(h8:F.fn (ρ.f 8))(h11:F.fn (ρ.f 11))(hro:F.round=none)(hn:3≤n)(g:Nat)(lb:Array Value)(hFg:F.fn g)(eg:∀args w,(callFunc g args).run P w=.ok (.enter g args) w)
 (S:List Int→Prop) (N:Nat) (hN:N≤maxLen) (hNb:N*8≤140737488355328) (w:World) (hseq:a1v F (n-1-1) P g lb S N w) :
 CallsIn F n P (ρ.f 8) #[.func (.func g) #[] lb] w fun e w'=>∃(v:Value) (ss:List Int),e=.returned v∧S ss∧w'.ownsRow w.heap.size (ρ.t 26) 1 v ss.length (ss.map encZ)∧(v=.slice none 0 0↔ss=[])∧Below w.heap.size w w':=by
 have h1:1≤n:=by omega
 have e11:∀args w,(callFunc (ρ.f 11) args).run P w=.ok (.enter (ρ.f 11) args) w:=L.f11.enters rfl;have mixed:=L.mixed;have t0:=L.t0;have a0:=L.a0;have z0:=L.z0;have v0:=L.v0;have t24:=L.t24;have a24:=L.a24;have z24:=L.z24;have v24:=L.v24;have t26:=L.t26;have a26:=L.a26;have z26:=L.z26;have v26:=L.v26;have t28:=L.t28;have a28:=L.a28;have z28:=L.z28;have v28:=L.v28;have u0:=run_underlying L.t0;have u24:=run_underlying L.t24;have u26:=run_underlying L.t26;have u28:=run_underlying L.t28;obtain⟨_,_,FG⟩:=L.f8;refine callsIn_of_wp FG rfl h8 ?_ hro
 gi_wp2_with (gi_at_fn (ρ.f 11);refine(a3t { L with } F (n-1) h11 hro (by omega) g lb hFg eg S N hN hNb _ hseq).mono ?_;rintro e w' ⟨v,ss,rfl,hS,hrow,hnil,hb⟩)
 go_ret
 exact⟨v,ss,rfl,hS,hrow,hnil,hb⟩
end
end
section
open Go Go.Proofs Go.Shelf Go.RowKit
attribute [local go_sem] Oper.semAt_some
theorem ownsRow_base{w:World}(h:w.ownsRow b e s v n xs)(j:d≤b):w.ownsRow d e s v n xs:=by
 obtain⟨o,k⟩:=h;refine⟨o,?_⟩;rcases k with h|⟨g,c,a,q,p,r⟩
 ·grind
 ·exact .inr ⟨g,c,a,q,an j p,r⟩
theorem all_in(lo hi:Int)(w:World):Calls Tryz.prog 74 #[.agg #[.int .u64 lo,.int .u64 hi]] w fun e w'=>e=.returned (.func (.func 119) #[] #[.pointer (some ⟨w.heap.size,0,none⟩)])∧w'=w.alloc (.cells #[.int .u64 lo,.int .u64 hi] 106):=by
 refine(callsIn_wide (n:=1)).1 ?_;refine callsIn_of_wp Tryz.func74 rfl trivial ?_ rfl
 gi_wp2
 go_ret
 simp
theorem b6o(args:Array Value)(w:World):(callFunc 119 args).run Tryz.prog w=.ok (.enter 119 args) w :=by simp
theorem a2t(lo hi:Nat)(hlo:lo<18446744073709551616)(hhi:hi<18446744073709551616)(w:World)(hT:PE w)(hg:0<w.heap.size) :
 Calls Tryz.prog 37 #[.agg #[.int .u64 (lo:Int),.int .u64 (hi:Int)]] w fun e w'=>∃v,e=.returned v∧w'.ownsRow w.heap.size 3 1 v (ES lo hi).length ((ES lo hi).map encZ)∧(ES lo hi=[]→v=.slice none 0 0)∧Below w.heap.size w w':=by
 refine(callsIn_wide (n:=9)).1 ?_;refine callsIn_of_wp Tryz.func37 rfl trivial ?_ rfl;simp only[Tryz.ntmps37,List.size_toArray,List.length_cons,List.length_nil,Nat.reduceAdd,Nat.reduceSub,Array.replicate_succ,Array.replicate_zero,List.push_toArray,List.append_toArray,List.nil_append,List.cons_append]
 gi_wp2
 refine⟨trivial,(callsIn_wide.2 (all_in _ _ _)).mono ?_⟩;rintro _ _ ⟨rfl,rfl⟩
 gi_wp2
 obtain⟨w1,hw1⟩:∃w1,(w.alloc (.cells #[.int .u64 (lo:Int),.int .u64 (hi:Int)] 106)).alloc (.cells #[.int .u64 (lo:Int),.int .u64 (hi:Int)] 106)=w1:=⟨_,rfl⟩
 rw[hw1];have hb1:Below w.heap.size w w1:=by rw[← hw1];exact((Below.refl _ w).alloc (ab _) _).alloc (by simp) _
 have hs1:w1.heap.size=w.heap.size+2:=by rw[← hw1];simp
 have c0:w1.cell? ⟨w.heap.size+1,0,none⟩=some (.int .u64 (lo:Int)):=by rw[← hw1];simp
 have c1:w1.cell? ⟨w.heap.size+1,1,none⟩=some (.int .u64 (hi:Int)):=by rw[← hw1];simp
 refine⟨trivial,(wE d3o Fence.wide 8 trivial trivial rfl (by omega) 119 #[.pointer (some ⟨w.heap.size+1,0,none⟩)] trivial b6o (fun xs=>xs=ES lo hi) 128 (by decide) (by decide) w1
  (yX 6 (by omega) _ lo hi hlo hhi w1 (Ob hT hg hb1) (by omega) (by omega) c0 c1)).mono ?_⟩
 rintro e w' ⟨v,ss,rfl,rfl,hrow,hnil,hb⟩
 gi_wp2
 go_ret
 exact⟨v,rfl,ownsRow_base hrow (by omega),fun h=>hnil.2 h,hb1.trans (hb.mono (by omega))⟩
end
section
open Go Go.Am Go.Vm
structure Vo(F:Nat)(laid:List (String×DataW Unit)):Prop where
 nm:Tryz.prog.globalNamed "math/bits.deBruijn64tab"=some 0
 tab:∃e,IC Tryz.prog F laid 0=some (e,(Lib.deBruijn64tab.map (fun n:Nat=>(n:Int))).map fun z=>Value.int .u8 z)
 lt:0<Tryz.prog.globals.size
theorem gJ(a:Tryz.prog.globalNamed "math/bits.deBruijn64tab"=some 0)(h:Lib.TabIs Tryz.prog w "math/bits.deBruijn64tab" .u8 (Lib.deBruijn64tab.map (fun n:Nat=>(n:Int)))):PE w∧0<w.heap.size:=by
 unfold Lib.TabIs World.var? at h;rw[a,hX] at h;split at h
 ·rename_i e t f d
  cases h;refine⟨fun j c=>?_,?_⟩
  ·unfold World.cell?
   grind
  grind
 grind
def a5t:List Value→Option (List Value)
 |[.int .u64 lo,.int .u64 hi]=>if(0≤lo∧lo<18446744073709551616)∧(0≤hi∧hi<18446744073709551616) then some ((ES lo.toNat hi.toNat).map Go.encZ) else none
 |_=>none
def b9l:FrF
 |[.agg cs]=>a5t cs.toList
 |_=>none
theorem a3e(h:a5t l=some r):∃a c:Int,l=[.int .u64 a,.int .u64 c]∧(0≤a∧a<18446744073709551616)∧(0≤c∧c<18446744073709551616)∧r=(ES a.toNat c.toNat).map Go.encZ:=by
 unfold a5t at h;grind
theorem a8u(a:Vo F laid):∀ι m w us (us':Array Value) l,DR Tryz.prog (Au Tryz.prog F laid) ι m w→(∀k∈Au Tryz.prog F laid,m.get k=(AX Tryz.prog F laid).get k)→BF ι m.gen us us'.toList→b9l us=some l →
 l.all Am.plainCell=true∧Calls Tryz.prog 37 us' w fun r w'=>∃v,r=.returned v∧w'.ownsRow w.heap.size 3 1 v l.length l∧(l=[]→v=.slice none 0 0)∧Go.RowKit.Below w.heap.size w w':=by
 intro ι m w us us' l p s q h;unfold b9l at h;split at h
 ·rename_i J
  obtain⟨c,d,I,y,u,rfl⟩:=a3e h
  ·have C:J=#[.int .u64 c,.int .u64 d]:=gH I
   subst C;obtain⟨K,rfl,o⟩:=mC q;have n:=o.BL rfl;obtain⟨e,g⟩:=a.tab;obtain⟨B,A⟩:=gJ a.nm (aX p s a.nm g a.lt);refine⟨?_,?_⟩
   ·rw[aE]
    intro x j;obtain⟨z,_,rfl⟩:=ba.1 j;rfl
   ·have:=a2t c.toNat d.toNat (by omega) (by omega) w B A
    grind
 grind
end
end Go.Proofs.YthlffjlbidibdaaGreatDoor
namespace Go.Am
section
variable {P:Program}{c0 c1:E8}(h:∀f Bo m r,c0 f Bo m=some r→c1 f Bo m=some r)
include h
theorem a8a(a:BX P c0 ρ o m=some r):BX P c1 ρ o m=some r:=by
 unfold BX at a ⊢;grind
theorem je(a:JC P c0 ops o s=some s'):JC P c1 ops o s=some s':=by
 unfold JC at a ⊢;split at a
 ·rename_i c
  rw[if_pos c];unfold uU at a ⊢;cases h1:BX P c0 (ev s.t) o s.m with
  |none=>grind
  |some r=>rw[h1] at a;rw[a8a h h1];omega
 grind
theorem Y3:∀{l:List Oper} {s s':St},Jt P c0 ops l s=some s'→Jt P c1 ops l s=some s'
 |[],s,s',hv=>hv
 |o::l,s,s',hv=>by
  simp only[Jt] at hv ⊢;cases h1:JC P c0 ops o s with
  |none=>grind
  |some s1=>rw[h1] at hv;rw[je h h1];exact Y3 hv
theorem Zw:∀{l:List Oper} {i:Nat} {s s':St},I9 P c0 ops i l s=some s'→I9 P c1 ops i l s=some s'
 |[],i,s,s',hv=>hv
 |o::l,i,s,s',hv=>by
  simp only[I9] at hv ⊢;cases h1:NG P c0 ops i o s with
  |none=>grind
  |some s1 =>
   rw[h1] at hv;have a:NG P c1 ops i o s=some s1:=by
    unfold NG at h1 ⊢;cases h3:JC P c0 ops o { s with m:={ s.m with low:=s.m.size } } with
    |none=>grind
    |some s2=>rw[h3] at h1;rw[je h h3];omega
   rw[a];exact Zw hv
omit h in
theorem WE{a f1:St→Option (BP×St)}(c:∀s r,a s=some r→f1 s=some r):∀{k:Nat} {s:St} {r:BP×St},iterate a k s=some r→iterate f1 k s=some r
 |0,s,r,hv=>by cases hv
 |k+1,s,r,hv=>by
  simp only[iterate] at hv ⊢;cases h1:a s with
  |none=>grind
  |some q =>
   rw[h1] at hv;rw[c _ _ h1];obtain⟨e,s1⟩:=q;cases e with
   |normal=>exact WE c hv
   |ret=>omega
   |exit i=>omega
omit h in
theorem RH{n:Nat}{j g b0 b1:St→Option (BP×St)}{a k1:Mem→Prop}{t:Tr Value}{ps:List Tmp}(e:∀s r,j s=some r→g s=some r)(d:∀s r,b0 s=some r→b1 s=some r)(c:∀m,a m→k1 m) :
 ∀{rows:List (List Value)} {m:Mem} {r:BP×Mem},Ee n j b0 a t ps rows m=some r→Ee n g b1 k1 t ps rows m=some r
 |[],m,r,hv=>hv
 |vs::rest,m,r,hv=>by
  obtain⟨x,C⟩:=r;obtain⟨u,q,s1,p,A,s2,o,k⟩:=JE hv;simp only[Ee];rw[if_pos ⟨u,q⟩,e _ _ p];simp only;rw[d _ _ o];rcases k with⟨rfl,z,y⟩|⟨B,rfl,rfl⟩
  ·simp only
   rw[if_pos (c _ z)];exact RH e d c y
  simp
theorem a3b:∀(c:Code) (s:St) (r:BP×St),BO P c0 N c s=some r→BO P c1 N c s=some r:=by
 intro c
 induction c with
 |skip=>intro s r d;exact d
 |label l=>intro s r d;exact d
 |ret=>intro s r d;exact d
 |exit id=>intro s r d;exact d
 |goto l=>intro s r d;exact d
 |scope b _=>intro s r d;exact d
 |refuse y=>intro s r d;exact d
 |seq a b j e =>
  intro s r d;simp only[BO] at d ⊢;grind
 |cond c0 a b j e =>
  intro s r d;simp only[BO] at d ⊢;grind
 |block id b A =>
  intro s r d;simp only[BO] at d ⊢;grind
 |loop b A =>
  intro s r d;exact WE A d
 |region id ops u =>
  intro s r d;cases u with
  |false =>
   simp only[BO,Option.map_eq_some_iff] at d ⊢;obtain⟨s1,p,o⟩:=d;exact⟨s1,Y3 h p,o⟩
  |true =>
   simp only[BO,Option.map_eq_some_iff] at d ⊢;obtain⟨s1,p,o⟩:=d;exact⟨s1,Zw h p,o⟩
 |rangeFunc f I a b j e =>
  intro s r d;simp only[BO] at d ⊢;split at d
  case h_2=>cases d
  rename_i g M K B;split at d
  case h_2=>cases d
  rename_i fn x;split at d
  case isFalse=>cases d
  rename_i C;try rw[x]
  try simp only
  rw[if_pos C];split at d
  case h_2=>cases d
  rename_i v J n;rw[h _ _ _ _ n];simp only;split at d
  case h_2=>cases d
  rename_i z k;try rw[k]
  try simp only
  rw[ae] at d ⊢;obtain⟨q,p,o⟩:=d;exact⟨q,RH j e (fun m ⟨m1,hm⟩=>⟨m1,h _ _ _ _ hm⟩) p,o⟩
end
structure OLe(P:Program)(O0 O1:BG):Prop where
 same:∀f Bo m r,(O0 f).bind (fun F=>F Bo m)=some r→(O1 f).bind (fun F=>F Bo m)=some r
 more:∀f Bo m r,(O1 f).bind (fun F=>F Bo m)=some r→(O0 f).bind (fun F=>F Bo m)=none→∀fn,P.funcs[f]?=some fn→fn.ntmps<Bo.length
theorem gy{G:List Nat}{N:Nat}(d:OLe P O0 O1):∀(D:Nat) (f:FuncId) (Bo:List Value) (m:Mem) (r:Value×Mem),Ei P O0 G N D f Bo m=some r→Ei P O1 G N D f Bo m=some r
 |0,f,Bo,m,r,h=>by cases h
 |D+1,f,Bo,m,r,h=>by
  have j:=gy (G:=G) (N:=N) d D;cases h0:(O0 f).bind (fun F=>F Bo m) with
  |some q =>
   simp only[Ei,h0] at h;simp only[Ei,d.same _ _ _ _ h0];exact h
  |none =>
   simp only[Ei,h0] at h;cases hfn:P.funcs[f]? with
   |none=>grind
   |some fn =>
    rw[hfn] at h;simp only at h;cases hb:fn.body with
    |none=>grind
    |some c =>
     rw[hb] at h;simp only at h;by_cases a:(IV G fn c&&decide (Bo.length≤fn.ntmps))=true
     case neg=>grind
     rw[if_pos a] at h;have g:Bo.length≤fn.ntmps:=by grind
     have e:(O1 f).bind (fun F=>F Bo m)=none:=by
      cases e:(O1 f).bind (fun F=>F Bo m) with
      |none=>rfl
      |some q=>have:=d.more _ _ _ _ e h0 fn hfn;omega
     simp only[Ei,e,hfn,hb];rw[if_pos a];cases hx:BO P (Ei P O0 G N D) N c { t:=tmpsOf 0 Bo .leaf,m:=m } with
     |none=>grind
     |some q=>rw[hx] at h;rw[a3b j _ _ _ hx];exact h
theorem Gq.more(c:OLe P O0 O1)(h:Gq P O0 G f Bo m Q):Gq P O1 G f Bo m Q:=by
 obtain⟨v,a,⟨K,e⟩,q⟩:=h;exact⟨v,a,⟨K,fun N D d g=>gy c D _ _ _ _ (e N D d g)⟩,q⟩
end Go.Am
namespace Go.Vm
section
open Go.Am
section
variable {P:Program}
def b8u(d:TypeDesc)(x y:Value):Option Bool :=
 match d,x,y with
 | .int _,.int k a,.int k' b=>if k=k' then some (decide (a=b)) else none
 | .bool,.bool a,.bool b=>some (a==b)
 | .string,.string a,.string b=>some (decide (a.data.toList=b.data.toList))
 |_,_,_=>none
def mG(P:Program):List Field→Array Value→Array Value→Option Bool
 |[],_,_=>some true
 |f::fs,xs,ys=>if f.name="_" then none else
  match G9 P f.type,P.underlying f.type,xs[f.offset]?,ys[f.offset]?,mG P fs xs ys with
  |some false,some d,some x,some y,some r=>(b8u d x y).map (·&&r)
  |_,_,_,_,_=>none
theorem O8(a b:ByteArray):(a==b)=decide (a.data.toList=b.data.toList):=by
 rw[beq_toListBytes,ByteArray.toList_eq,ByteArray.toList_eq];grind
theorem TF(c:P.underlying t=some td)(h:b8u td x y=some r):DL P (Op.equalIn (d+1) t x y)=some r:=by
 unfold b8u at h;split at h
 ·split at h
  ·rename_i e
   subst e;cases h;rename_i a b;simp only[Op.equalIn,Aw,Bd,c,Option.bind_some,if_true];rfl
  grind
 ·cases h
  simp only[Op.equalIn,Aw,Bd,c,Option.bind_some];rfl
 ·cases h
  simp only[Op.equalIn,Aw,Bd,c,Option.bind_some,O8];rfl
 grind
theorem GU(c:G9 P t=some false)(a:cs[o]?=some v):DL P (part t cs o)=some v:=by
 simp only[part,Aw,TJ,c,Option.bind_some,Bool.false_eq_true,if_false,a];rfl
theorem ng{d:Nat}(xs ys:Array Value)(j:g (none,())=pure true)(e:∀b,g (some b,())=pure b):∀(a:List Field) (r:Bool),mG P a xs ys=some r →
 DL P ((forIn a ((none,()):Option Bool×Unit) fun f _=>(do
     if f.name≠"_" then
      if(!(← Op.equalIn (d+1) f.type (← part f.type xs f.offset) (← part f.type ys f.offset)))=true then pure (ForInStep.done (some false,())) else pure (ForInStep.yield (none,()))
     else pure (ForInStep.yield (none,())):Sem (ForInStep (Option Bool×Unit)))) >>= g)=some r
 |[],r,h=>by
  cases h;simp only[List.forIn_nil,Aw,Ce,Option.bind_some,j]
 |f::a,r,h=>by
  unfold mG at h;split at h
  ·cases h
  rename_i o;split at h
  ·rename_i A x y k c z u s q
   simp only[Option.map_eq_some_iff] at h;obtain⟨b,p,rfl⟩:=h;have n:=ng (d:=d) xs ys j e a k q;rw[eM];simp only[Aw,ne_eq,o,not_false_eq_true,if_true,GU c u,GU c s,Option.bind_some,TF z p];cases b with
   |false=>simp[Ce,e]
   |true =>
    simp only[Bool.not_true,Bool.false_eq_true,if_false,Ce,Option.bind_some,Bool.true_and];rw[Aw] at n;omega
  grind
theorem Qg{d:Nat}(c:P.underlying t=some (.struct a))(e:P.stoodInHeld t=false)(h:mG P a.toList xs ys=some r) :
 DL P (Op.equalIn (d+2) t (.agg xs) (.agg ys))=some r:=by
 rw[Op.equalIn];simp only[Aw,Bd,c,Option.bind_some,program,DL,e,Bool.false_eq_true,if_false];rw[← fe,← Aw];exact ng (d:=d) xs ys rfl (fun b=>rfl) a.toList r h
def lT:FV→Option Value
 | .int k n=>some (.int k n)
 | .bool b=>some (.bool b)
 | .str s=>some (.string s)
 |_=>none
def Gp:List FV→Option (List Value)
 |[]=>some []
 |x::l=>match lT x,Gp l with
  |some v,some r=>some (v::r)
  |_,_=>none
theorem a8r(h:RF m F x u)(a:lT x=some v):u=v∧Am.plainCell v=true:=by
 cases h<;>simp only[lT,Option.some.injEq,reduceCtorEq] at a
 all_goals(subst a;exact⟨rfl,rfl⟩)
theorem Qb:∀{l:List FV} {us vs:List Value},Du m F l us→Gp l=some vs→us=vs∧vs.all Am.plainCell=true
 |[],_,_,.nil,h=>by cases h;simp
 |x::l,_,_,.cons h t,hv=>by
  simp only[Gp] at hv;split at hv
  ·rename_i v r c a
   cases hv;obtain⟨rfl,e⟩:=a8r h c;obtain⟨rfl,d⟩:=Qb t a;grind
  grind
def jT(P:Program)(t:TypeId)(xs ys:List FV):Option Bool :=
 match P.underlying t,Gp xs,Gp ys with
 |some (.struct fs),some vs,some ws=>mG P fs.toList vs.toArray ws.toArray
 |_,_,_=>none
def XJ(P:Program)(t:TypeId):Bool:=!(P.stoodInHeld t)&&!(P.eqGuardType P.depth t)
theorem b2x(c:XJ P t=true)(h:jT P t xs ys=some r)(o:Gp xs=some vs)(n:Gp ys=some ws)(a:op=.eql∨op=.neq) :
 DL P (do eqGuard op t x y (.agg vs.toArray) (.agg ws.toArray);binOp op t (.agg vs.toArray) (.agg ws.toArray))=some (.bool (if op=.eql then r else !r)):=by
 simp only[XJ,Bool.and_eq_true,Bool.not_eq_true'] at c;unfold jT at h;rw[o,n] at h;split at h
 ·rename_i u k j s q p
  cases q;cases p;have g:DL P (Op.equal t (.agg vs.toArray) (.agg ws.toArray))=some r:=Qg (d:=9998) s c.1 h;have e:DL P (eqGuard op t x y (.agg vs.toArray) (.agg ws.toArray))=some ():=by
   rcases a with rfl|rfl<;>simp[eqGuard,Aw,program,DL,c.2,Ce]
  rcases a with rfl|rfl
  ·rw[Aw,e,hX]
   show DL P (do pure (.bool (← Op.equal t (.agg vs.toArray) (.agg ws.toArray))):Sem Value)=_;simp only[Aw,g,Option.bind_some,Ce];rfl
  ·rw[Aw,e,hX]
   show DL P (do pure (.bool (!(← Op.equal t (.agg vs.toArray) (.agg ws.toArray)))):Sem Value)=_;simp only[Aw,g,Option.bind_some,Ce];rfl
 grind
end
section
variable {E:Env}{L:Frame}{H:Heap}{nx:Nat}{Q:PV→Heap→Nat→Prop}{w:Bool}
variable {dst:Option Tmp}{ty:TypeId}{pos:String}{af:Array Edge}{gd:Option (Nat×Bool)}
theorem Aa.jT{x y:Operand}(A:AY E.Γ L x=some (.p (.agg xs)))(z:AY E.Γ L y=some (.p (.agg ys)))(n:op=.eql∨op=.neq)(C:XJ E.P t=true)(h:Vm.jT E.P t xs ys=some r)
 (q:Q (.p (.bool (if op=.eql then r else !r))) H nx):Aa E w ⟨dst,.binOp op t x y s,ty,pos,af,gd⟩ L H nx Q :=
 Aa.quiet q fun m F σ e c1 o=>by
  obtain⟨a,j⟩:∃a,Gp xs=some a:=by
   cases j:Gp xs with
   |some a=>simp
   |none=>unfold Vm.jT at h;grind
  obtain⟨d,g⟩:∃a,Gp ys=some a:=by
   cases g:Gp ys with
   |some a=>simp
   |none=>unfold Vm.jT at h;grind
  have M:ev e x=.agg a.toArray∧a.all Am.plainCell=true:=by
   have:=Bz c1 o A;generalize ev e x=u at this;cases this with
   |p c=>cases c with
    |agg c J=>obtain⟨rfl,B⟩:=Qb c j;grind
  have K:ev e y=.agg d.toArray∧d.all Am.plainCell=true:=by
   have:=Bz c1 o z;generalize ev e y=u at this;cases this with
   |p c=>cases c with
    |agg c J=>obtain⟨rfl,B⟩:=Qb c g;grind
  have I:=b2x (x:=x) (y:=y) C h j g n;refine⟨_,fun _=>?_,.p (.bool _)⟩;simp only[BX,F5,M.1,K.1];have k:(plain (.agg a.toArray)&&plain (.agg d.toArray))=true:=by
   simp only[plain,GL,Bool.and_eq_true];grind
  have:QT E.P op t x y (.agg a.toArray) (.agg d.toArray)=some (.bool (if op=.eql then r else !r)):=by
   simp only[QT,k,if_true];exact LQ I rfl
  grind
theorem mL(d:AY E.Γ L x=some (.p (.agg xs)))(c:AY E.Γ L y=some (.p (.agg ys)))(e:XJ E.P t=true)(h:Vm.jT E.P t xs ys=some r)
 (q:Q (.p (.bool r)) H nx):Aa E w ⟨dst,.binOp .eql t x y a,ty,pos,af,gd⟩ L H nx Q:=Aa.jT d c (.inl rfl) e h q
theorem rT{α:Type}{_:Enc α}{l:List α}{t:TypeId}{x j o:Operand}{e:TypeId}{n:Nat}{c:TypeInfo}{k k':IntKind}{a b:Int}(s:AY E.Γ L x=some (.p (.lst e (cells l) n)))(z:AY E.Γ L j=some (.p (.int k a)))(A:AY E.Γ L o=some (.p (.int k' b)))(u:E.P.underlying t=some (.slice e))(g:E.P.info? e=some c)
 (d:c.size=Enc.size α) (y:l.length=n) (h:0≤a∧a≤b∧b≤n) (q:Q (.p (.lst e (cells ((l.drop a.toNat).take (b.toNat-a.toNat))) (b.toNat-a.toNat))) H nx):Aa E w ⟨dst,.slice t x (some j) (some o) none,ty,pos,af,gd⟩ L H nx Q:=by
 refine pf (a:=a.toNat) (b:=b.toNat) (sz:=Enc.size α) s u g d ⟨k,by grind⟩ ⟨k',by grind⟩ (by omega) (by omega) (by rw[BD,y]) ?_;rw[cells_drop',I8];exact q
theorem mz(s:AY E.Γ L x=some (.ref b off))(j:hget H b=some (.box e' cs))(z:AY E.Γ L g=some (.p (.int k i)))
 (u:E.P.underlying t=some (.array n e)) (y:E.P.info? e=some a) (h:0≤i∧i<n) (q:Q (.ref b (off+i.toNat*a.size)) H nx):Aa E w ⟨dst,.indexAddr t x g,ty,pos,af,gd⟩ L H nx Q :=
 Aa.quiet q fun m F σ C d o=>by
  obtain⟨c,B,A⟩:=aS d o s j;refine⟨.pointer (some ⟨c,off+i.toNat*a.size,none⟩),fun _=>?_,.ref (d.hp b _ j).1 rfl fun _=>⟨c,A,rfl⟩⟩;simp only[BX,F5,u,B,CV d o z,y,h,and_self,if_true]
theorem pj(g:AY E.Γ L a=some (.ref b o))(d:hget H b=some (.box e cs))(c:G9 E.P t=some false)(j:cs[o]?=some r)(q:Q r H nx) :
 Aa E w ⟨dst,.load t a,ty,pos,af,gd⟩ L H nx Q:=by
 refine Aa.load g ?_ q;simp only[lM,d,yT,c];simp_all
theorem kl(B:AY E.Γ L x=some (.vec b 1 0 1))(J:hget H b=some (.vec e2 [.int .u8 n] 1 z))(C:E.P.underlying s=some (.slice e))(I:E.P.underlying d=some .string)(S:E.P.underlying e=some (.int .u8))(V:0≤n∧n<256)
 (q:Q (st [UInt8.ofNat n.toNat]) H nx):Aa E w ⟨dst,.convert s d x,ty,pos,af,gd⟩ L H nx Q :=
 Aa.quiet q fun m F σ A c1 K=>by
  obtain⟨N,U,o,k,M⟩:=uG.all (sz:=1) B J rfl m F σ A c1 K;have T:cells [UInt8.ofNat n.toNat]=[.int .u8 n]:=by
   show [FV.int .u8 (((UInt8.ofNat n.toNat).toNat:Nat):Int)]=_;rw[UInt8.toNat_ofNat'];grind
  rw[← T] at k;have u:=RJ k;subst u;have j:=IY c1 K B J;have c:∃a g,ev A x=.slice a 1 g:=by
   unfold Gi at j;grind
  obtain⟨a,g,c⟩:=c;rw[c] at o;refine⟨.string (bs [UInt8.ofNat n.toNat]),fun _=>?_,.p (.str _)⟩;have y:(JZ E.P s||JZ E.P d)=true:=by simp only[JZ,C,I];rfl
  simp only[BX,F5,y,if_true,Zn,C,I,c,S,o,Ry];rfl
theorem oT(e:AY E.Γ L x=some (st a))(d:AY E.Γ L y=some (st b))(g:decide (a=b)=r)(q:Q (.p (.bool r)) H nx) :
 Aa E w ⟨dst,.binOp .eql t x y c,ty,pos,af,gd⟩ L H nx Q:=kq e d (by grind)
theorem qs(e:AY E.Γ L x=some (st a))(d:AY E.Γ L y=some (st b))(g:decide (a=b)=r)(q:Q (.p (.bool (!r))) H nx) :
 Aa E w ⟨dst,.binOp .neq t x y c,ty,pos,af,gd⟩ L H nx Q:=qi e d (by grind)
end
end
section
open Go.Am
def c2t(H:Heap):PV→Option Nat
 | .ref b _=>match hget H b with
  |some (.box _ _)=>some b
  |_=>none
 | .vec b n _ _=>match hget H b with
  |some (.vec _ _ k _)=>match Nat.decEq n k with
   | .isTrue _=>some b
   | .isFalse _=>none
  |_=>none
 | .Fb b n _=>match hget H b with
  |some (.vec _ _ k _)=>match Nat.decEq n k with
   | .isTrue _=>some b
   | .isFalse _=>none
  |_=>none
 |_=>none
def b3p:PV→Bool
 | .p (.FI _)=>true
 | .p (.lst _ _ _)=>true
 | .p (.val (.slice none _ _))=>true
 |_=>false
inductive Oi(H:Heap):PV→Nat→Prop
 |ref {b off:Nat} {e:TypeId} {cs:List PV} (h:hget H b=some (.box e cs)):Oi H (.ref b off) b
 |vec {b n off len:Nat} {e:TypeId} {cs:List FV} {z:Bool} (h:hget H b=some (.vec e cs n z)):Oi H (.vec b n off len) b
 |Fb {b n off:Nat} {e:TypeId} {cs:List FV} {z:Bool} (h:hget H b=some (.vec e cs n z)):Oi H (.Fb b n off) b
def b3k(H:Heap)(b:Nat)(y:PV):Bool:=match c2t H y with
 |some c=>match Nat.decEq b c with
  | .isTrue _=>false
  | .isFalse _=>true
 |none=>b3p y
section
variable {Γ:Nat→Option (List Value×TypeId)}{m:Mem}{F:Nat→Prop}{σ:Nat→Value}{H:Heap}{nx:Nat}{L:Frame}{t:Tr Value}
theorem Oi.blk(p:Ctx Γ m F σ H nx)(q:RL m F (htag H) σ nx L t)(h:AY Γ L o=some x)(A:Oi H x b):∃y,hget H b=some y∧∀c,IX (ev t o)=some c→Dv (σ b)=some c:=by
 cases A with
 |ref j =>
  obtain⟨c,k,s⟩:=aS p q h j;refine⟨_,j,fun d e=>?_⟩;rw[k] at e;rw[s];exact e
 |vec j =>
  have a:=IY p q h j;refine⟨_,j,fun d e=>?_⟩;unfold Gi at a;split at a
  ·rename_i c u g z
   rw[a] at e;rw[z];exact e
  ·rename_i B
   obtain⟨k,_,_⟩:=a;rcases(p.hp b _ j).2 with⟨_,_,n⟩|⟨c,g,C,I,_⟩
   ·rcases n with⟨n,_⟩|⟨b2,J,K,n,_⟩
    ·rw[k,n] at e;cases e
    ·rw[k,n] at e;cases e
   grind
 |Fb j =>
  obtain⟨c,u,g,k,s⟩:=uF p q h j;refine⟨_,j,fun d e=>?_⟩;rw[k] at e;rw[s];exact e
theorem b9a(a:c2t H x=some b):Oi H x b:=by
 unfold c2t at a;split at a
 ·split at a
  ·rename_i c;cases a;exact .ref c
  grind
 ·split at a
  ·rename_i c
   split at a
   ·rename_i d _;cases a;subst d;exact .vec c
   grind
  grind
 ·split at a
  ·rename_i c
   split at a
   ·rename_i d _;cases a;subst d;exact .Fb c
   grind
  grind
 grind
theorem xU(g:Ctx Γ m F σ H nx)(j:RL m F (htag H) σ nx L t)(h:AY Γ L o=some x)(e:b3p x=true):∀c,IX (ev t o)=some c→F c:=by
 have a:=Bz g j h;generalize ev t o=v at *;intro c d;unfold b3p at e;split at e
 ·cases a with
  |p a=>cases a with|FI k=>simp only[IX,Option.some.injEq] at d;grind
 ·cases a with
  |p a =>
   cases a with
   |nil=>cases d
   |room=>cases d
   |lst k=>simp only[IX,Option.some.injEq] at d;grind
 ·cases a with
  |p a=>cases a with|val=>cases d
 grind
theorem c4k(a:Ctx Γ m F σ H nx)(q:RL m F (htag H) σ nx L t)(h:AY Γ L o=some x)(J:Oi H x b)(B:AY Γ L r=some y)(k:b3k H b y=true):a6u (IX (ev t r)) (IX (ev t o))=true:=by
 obtain⟨u,A,n⟩:=J.blk a q h;cases hd:IX (ev t o) with
 |none=>cases IX (ev t r)<;>rfl
 |some d =>
  have j:=n d hd;cases he:IX (ev t r) with
  |none=>rfl
  |some e =>
   simp only[a6u,bne_iff_ne,ne_eq];intro s;subst s;unfold b3k at k;split at k
   ·rename_i c I
    obtain⟨C,p,g⟩:=(b9a I).blk a q B;have z:=g e he;have:=a.sep b c u C e A p j z;split at k
    ·grind
    omega
   ·exact(a.Nr ⟨b,u,A,j⟩).1 (xU a q B k e he)
end
def c9h:Operand→Operand→Bool
 | .tmp a,.tmp b=>a==b
 | .global a,.global b=>a==b
 |_,_=>false
def yU:List (Option Operand)→List Operand→Bool
 |[],[]=>true
 |some a::l,b::r=>c9h a b&&yU l r
 |_,_=>false
theorem c3a(h:c9h a b=true):a=b:=by
 cases a<;>cases b<;>simp only[c9h,beq_iff_eq,Bool.false_eq_true] at h<;>rw[h]
theorem dI:∀{l:List (Option Operand)} {r:List Operand},yU l r=true→l=r.map some
 |[],[],_=>rfl
 |some a::l,b::r,h=>by
  simp only[yU,Bool.and_eq_true] at h;rw[bv,c3a h.1,dI h.2]
def kX(Γ:Nat→Option (List Value×TypeId))(L:Frame)(H:Heap)(x:Nat):List Operand→Bool
 |[]=>true
 |r::l=>(match AY Γ L r with
  |some y=>b3k H x y
  |none=>false)&&kX Γ L H x l
def a5f(Γ:Nat→Option (List Value×TypeId))(L:Frame):List Operand→Bool
 |[]=>true
 |r::l=>(match AY Γ L r with
  |some y=>b3p y
  |none=>false)&&a5f Γ L l
section
variable {E:Env}{L:Frame}{H:Heap}{nx:Nat}
variable {dst:Option Tmp}{ty:TypeId}{pos:String}{af:Array Edge}{gd:Option (Nat×Bool)}
variable {bn:Nat}{ops:Array Oper}{op:Op}{l:List Oper}{i:Nat}{R:Frame→Heap→Nat→Prop}
theorem i7(n:Nat)(h:Ai E bn ops n l L H nx R):Ai E bn ops n l L H nx R:=h
theorem Ai.weak(rs:List Operand)(J:rG E.P ops i=true)(N:(ops[i]?).bind (fun o=>a4o o.op)=some u)(I:AY E.Γ L u=some x)(S:Oi H x b)(M:yU (Jf ops i) rs=true)(K:kX E.Γ L H b rs=true)
 (h:Aa E true ⟨dst,op,ty,pos,af,none⟩ L H nx fun r H' e=>Ai E bn ops (i+1) l (IJ L dst r) H' e R):Ai E bn ops i (⟨dst,op,ty,pos,af,none⟩::l) L H nx R:=by
 intro B T m F σ t j g U;have d:Q8 ops i t=true:=by
  unfold Q8;rw[N];rw[dI M,aE];intro r c;rw[ba] at c;obtain⟨z,s,rfl⟩:=c;have n:∀rs:List Operand,kX E.Γ L H b rs=true→z∈rs→∃y,AY E.Γ L z=some y∧b3k H b y=true:=by
   intro rs
   induction rs with
   |nil=>simp
   |cons a rs Y =>
    intro h Z;simp only[kX,Bool.and_eq_true] at h;grind
  obtain⟨y,C,p⟩:=n rs K s;exact c4k j g I S C p
 refine JG.cons (JA.wanted (L:=L) j g rfl) ((h (m.at m.size) F σ t (j.at _) (RL.at (Γ:=E.Γ) _ g)).mono ?_);rintro v X ⟨r,H',e,W,k,q,c1,V,A,c4⟩;refine⟨.inr (.inr (.inl ⟨J,d⟩)),?_⟩;exact q B T _ W k _ (c1.at _) (RL.at (Γ:=E.Γ) _ (((RL.at (Γ:=E.Γ) _ g).step A (j.at _)).put V)) (U.trans A.at)
theorem Ai.c9x(rs:List Operand)(C:Ru E.P ops i=true)(J:yU (Jf ops i) rs=true)(I:a5f E.Γ L rs=true)
 (h:Aa E true ⟨dst,op,ty,pos,af,none⟩ L H nx fun r H' g=>Ai E bn ops (i+1) l (IJ L dst r) H' g R):Ai E bn ops i (⟨dst,op,ty,pos,af,none⟩::l) L H nx R:=by
 intro B N m F σ t e j S;refine JG.cons (JA.wanted (L:=L) e j rfl) ((h (m.at m.size) F σ t (e.at _) (RL.at (Γ:=E.Γ) _ j)).mono ?_);rintro v z ⟨r,H',g,U,k,q,c1,T,s,X⟩;have c:NP ops i t m z=true:=by
  unfold NP;rw[dI J,aE];intro r d;rw[ba] at d;obtain⟨u,p,rfl⟩:=d;simp only;have n:∀rs:List Operand,a5f E.Γ L rs=true→u∈rs→∃y,AY E.Γ L u=some y∧b3p y=true:=by
   intro rs
   induction rs with
   |nil=>simp
   |cons a rs V =>
    intro h W;simp only[a5f,Bool.and_eq_true] at h;grind
  obtain⟨y,A,o⟩:=n rs I p;split
  ·rename_i b M
   have x:=xU e j A o b M;exact @decide_eq_true _ (Classical.propDecidable _) (s.keep b (e.fr b x) fun K=>(e.Nr K).1 x)
  ·rfl
 refine⟨.inr (.inr (.inr ⟨C,c⟩)),?_⟩;exact q B N _ U k _ (c1.at _) (RL.at (Γ:=E.Γ) _ (((RL.at (Γ:=E.Γ) _ j).step s (e.at _)).put T)) (S.trans s.at)
end
end
section
open Go.Am
section
variable {E:Env}{bn:Nat}{b:Code}{L:Frame}{H:Heap}{nx:Nat}{Q:BP→Frame→Heap→Nat→Prop}
def Nl(E:Env)(bn:Nat)(b:Code)(Q:BP→Frame→Heap→Nat→Prop):Nat→Frame→Heap→Nat→Prop
 |0,L,H,nx=>Ad E bn b L H nx (Aj (fun _ _ _=>False) Q)
 |n+1,L,H,nx=>Ad E bn b L H nx (Aj (Nl E bn b Q n) Q)
theorem Ad.nZ(n:Nat)(h:Nl E bn b Q n L H nx):Ad E bn (.loop b) L H nx Q:=by
 intro B z m F σ t S N M;refine Om.loop (fun k s=>∃L H nx F σ,Nl E bn b Q k L H nx∧Ctx E.Γ s.m F σ H nx∧RL s.m F (htag H) σ nx L s.t∧B.to s.m F σ H nx) n ⟨L,H,nx,F,σ,h,S,N,M⟩ ?_;rintro k s ⟨T,U,K,I,y,u,c1,C,A⟩;cases k with
 |zero =>
  refine(u B z s.m I y s.t c1 C A).mono ?_;rintro e J ⟨o,p,c,x,a,q,j,g,d⟩;cases e with
  |normal=>exact q.elim
  |ret=>exact⟨o,p,c,x,a,q,j,g,d⟩
  |exit i=>exact⟨o,p,c,x,a,q,j,g,d⟩
 |succ k =>
  refine(u B z s.m I y s.t c1 C A).mono ?_;rintro e J ⟨o,p,c,x,a,q,j,g,d⟩;cases e with
  |normal=>exact⟨k,bN _,o,p,c,x,a,q,j,g,d⟩
  |ret=>exact⟨o,p,c,x,a,q,j,g,d⟩
  |exit i=>exact⟨o,p,c,x,a,q,j,g,d⟩
theorem Nl.zero(h:Ad E bn b L H nx (Aj (fun _ _ _=>False) Q)):Nl E bn b Q 0 L H nx:=h
theorem Nl.succ(h:Ad E bn b L H nx (Aj (Nl E bn b Q n) Q)):Nl E bn b Q (n+1) L H nx:=h
theorem km(h:I L H nx):Aj I Q .normal L H nx:=h
end
end
section
open Go.Am
def OB(names:List (List UInt8)):List (FV×FV):=names.map fun s=>(.str (bs s),.bool true)
theorem c6y(a b:List UInt8):(bs a==bs b)=decide (a=b):=by rw[O8];rfl
theorem iH:∀{names:List (List UInt8)} {l:List MapEntry},pY m F (OB names) l→l.map (·.key)=names.map (fun s=>Value.string (bs s))∧l.map (·.val)=names.map (fun _=>Value.bool true)
 |[],[],_=>⟨rfl,rfl⟩
 |[],e::l,h=>by cases h.1
 |s::names,[],h=>by cases h.1
 |s::names,e::l,h=>by
  obtain⟨d,c⟩:=h;simp only[OB,List.map_cons] at d c;cases d with
  |cons k1 j =>
   cases c with
   |cons a g =>
    obtain⟨o,n⟩:=iH (names:=names) (l:=l) ⟨j,g⟩;rw[bv,bv,bv,bv,o,n];constructor
    ·generalize e.key=k at k1
     cases k1;rfl
    ·generalize e.val=k at a
     cases a;rfl
theorem gQ:∀{names:List (List UInt8)} {l:List MapEntry},l.map (·.key)=names.map (fun s=>Value.string (bs s))→l.map (·.val)=names.map (fun _=>Value.bool true)→∀(s:List UInt8) (i:Nat),
 (s∈names→∃j,Instr.findNow .string (.string (bs s)) l i=some (some (j,.bool true)))∧(s∉names→Instr.findNow .string (.string (bs s)) l i=some none)
 |[],[],_,_,s,i=>⟨fun h=>(by cases h),fun _=>rfl⟩
 |[],e::l,h,_,_,_=>by cases h
 |n::names,[],h,_,_,_=>by cases h
 |n::names,e::l,h1,h2,s,i=>by
  simp only[List.map_cons,List.cons.injEq] at h1 h2;obtain⟨d,c⟩:=gQ h1.2 h2.2 s (i+1);have a:Instr.sameNow .string (.string (bs s)) (.string (bs n))=some (bs s==bs n):=rfl;rw[c6y] at a;unfold Instr.findNow;grind
section
variable {E:Env}{L:Frame}{H:Heap}{nx:Nat}{Q:PV→Heap→Nat→Prop}{w:Bool}
variable {dst:Option Tmp}{ty:TypeId}{pos:String}{af:Array Edge}{gd:Option (Nat×Bool)}
theorem a7h(a:Ctx Γ m F σ H nx)(c:RL m F (htag H) σ nx L t)(h:AY Γ L o=some (.mref b))(d:hget H b=some (.map es)):ev t o=σ b:=by
 have:=Bz a c h;cases this with
 |mref _ _ e=>exact e (by simp[htag,d,HB.tag])
theorem Aa.makeMap(q:Q (.mref nx) ((nx,.map [])::H) (nx+1)):Aa E w ⟨dst,.makeMap t none,ty,pos,af,gd⟩ L H nx Q:=by
 intro m F σ k d n;obtain⟨c1,j,g⟩:=d.new (m':=m.alloc (.map [] 0)) (x:=.map []) (s:=.map (some m.size)) (by simp[Mem.alloc]) (fun c a=>by rw[dZ,if_neg (by omega)]) (by simp only[Mem.alloc];omega) (fun c a=>by simp only[Dv,Option.some.injEq] at a;omega)
  ⟨m.size,[],0,rfl,by simp[Mem.alloc],fun e=>cH _ (d.fr _ e),by rw[dZ,if_pos rfl],⟨.nil,.nil⟩⟩
 exact GX.op (v:=.map (some m.size)) (fun _=>rfl) ⟨_,_,_,F,_,q,c1,.mref (bN _) rfl fun _=>(upd_same _ _ _).symm,j,fun _=>g⟩
theorem lR(z:AY E.Γ L x=some (.mref b))(e:hget H b=some (.map (OB names)))(B:AY E.Γ L k=some (st s))
 (A:E.P.underlying t=some (.map d g)) (a:ER E.P d=some .string) (y:zeroOf E.P g=some (.bool false)) (q:Q (.p (.bool (decide (s∈names)))) H nx):Aa E w ⟨dst,.lookup t x k false,ty,pos,af,gd⟩ L H nx Q :=
 Aa.quiet q fun m F σ J c1 j=>by
  obtain⟨_,r,l,c,u,M,K,o,n⟩:=c1.hp b _ e;obtain⟨I,C⟩:=iH n;obtain⟨f1,f2⟩:=gQ I C s 0;refine⟨.bool (decide (s∈names)),fun _=>?_,.p (.bool _)⟩;simp only[BX,F5,N7,Jk,A,a,y,a7h c1 j z e,NQ c1 j B,u,o];rw[show(plain (Value.bool false)&&plain (Value.string (bs s)))=true from rfl];by_cases h:s∈names
  ·grind
  grind
theorem mp:∀{cs:List FV} {vs:List Value} {c:FV} {v:Value},Du m F cs vs→RF m F c v→Du m F (cs++[c]) (vs++[v])
 |_,_,_,_,.nil,h=>.cons h .nil
 |_,_,_,_,.cons a t,h=>.cons a (mp t h)
theorem nf(S:AY E.Γ L x=some (.mref b))(u:hget H b=some (.map (OB names)))(W:AY E.Γ L k=some (st s))(N:AY E.Γ L y=some (.p (.bool true)))
 (U:E.P.underlying t=some (.map B X)) (o:ER E.P B=some .string) (V:s∉names) (q:Q (.DK []) (hput H b (.map (OB (names++[s])))) nx):Aa E true ⟨dst,.mapUpdate t x k y,ty,pos,af,gd⟩ L H nx Q:=by
 intro m F σ I c1 z;obtain⟨_,r,l,a,j,K,A,J,n⟩:=c1.hp b _ u;obtain⟨Z,Y⟩:=iH n;have f2:=(gQ Z Y s 0).2 V;have c:∀d x,r≠d→(m.put r x).get d=m.get d:=fun d x g=>by rw[cg,if_neg g]
 obtain⟨d1,d2⟩:=c1.change (m':=m.put r (.map (l++[{ key:=.string (bs s),val:=.bool true,born:=a }]) (a+1))) (x':=.map (OB (names++[s]))) (s':=σ b) u trivial (fun _=>rfl) (ab _)
  (fun d _ g=>c d _ fun e=>g (by rw[j,e];rfl)) (fun k k1 k2 M=>by
   have:=M r (by rw[j];rfl);simp only[Mem.put];omega) (fun d g=>.inl g) (by
   refine⟨r,_,a+1,j,K,A,by rw[cg,if_pos rfl],?_⟩;have C:∀d,F d→F d∧(m.put r (.map (l++[{ key:=.string (bs s),val:=.bool true,born:=a }]) (a+1))).get d=m.get d:=fun d g=>⟨g,c d _ fun e=>A (e▸g)⟩
   unfold pY OB;simp only[List.map_append,List.map_cons,List.map_nil];exact⟨mp (n.1.mono C) (.str _),mp (n.2.mono C) (.bool _)⟩)
 refine GX.op (v:=undef) (fun _=>?_) ⟨_,_,_,F,_,q,d1,.DK .nil,d2,fun h=>by cases h⟩;have T:ev I y=.bool true:=IU c1 z N;simp only[BX,F5,JH,Jk,U,o,a7h c1 z S u,NQ c1 z W,T,j,J];rw[show plain (Value.string (bs s))=true from rfl];grind
end
end
section
open Go.Am
end
end Go.Vm
namespace Go.Am
section
variable {P:Program}{O:BG}{G:List Nat}
def JO(key:Value)(rows:List (List Value)):Value:=.tuple #[key,.tuple (rows.map fun r=>Value.tuple r.toArray).toArray]
theorem Y8:∀rows:List (List Value),aQ (rows.map fun r=>Value.tuple r.toArray)=some rows
 |[]=>rfl
 |r::rows=>by simp only[List.map_cons,aQ,b5x,Y8 rows]
theorem NW(key:Value)(rows:List (List Value)):PS (JO key rows)=some rows:=Y8 rows
def NS(P:Program)(O:BG)(G:List Nat)(Nq body:Code)(n:Nat)(ask:Mem→Prop)(t:Tr Value)(ps:List Tmp):List (List Value)→Mem→(BP→Mem→Prop)→Prop
 |[],m,Q=>Q .normal m
 |vs::rest,m,Q=>vs.length=n∧vs.all plain=true∧Om P O G Nq { t:=Og t ps vs,m:=JL m m.size } fun e s1=>e=.normal∧Om P O G body s1 fun e s2=>match e with
  | .normal=>ask (JL s2.m (min m.low s2.m.low))∧NS P O G Nq body n ask t ps rest (JL s2.m (min m.low s2.m.low)) Q
  |e=>Q e (JL s2.m (min m.low s2.m.low))
theorem NS.run{ask:Mem→Prop}{c8w:Nat→Nat→Mem→Prop}(k:∀N D m,1≤D→(c8w N D m↔ask m)):∀{rows:List (List Value)} {m:Mem} {Q:BP→Mem→Prop},NS P O G j a n ask t ps rows m Q →
 ∃e m',(∃K,∀N D,K≤N→K≤D→Ee n (BO P (Ei P O G N D) N j) (BO P (Ei P O G N D) N a) (c8w N D) t ps rows m=some (e,m'))∧Q e m'
 |[],m,Q,h=>⟨.normal,m,⟨0,fun N D _ _=>rfl⟩,h⟩
 |vs::rest,m,Q,⟨h1,h2,e1,s1,hk1,he,e2,s2,hk2,q⟩=>by
  subst he;obtain⟨g,k1⟩:=hk1;obtain⟨d,c⟩:=hk2;have k1:∀N D,g≤N→g≤D→BO P (Ei P O G N D) N j { t:=Og t ps vs,m:=JL m m.size }=some (.normal,s1):=k1;have c:∀N D,d≤N→d≤D→BO P (Ei P O G N D) N a s1=some (e2,s2):=c;cases e2 with
  |normal =>
   obtain⟨x,s⟩:=q;obtain⟨e,m',⟨A,y⟩,u⟩:=NS.run k s;refine⟨e,m',⟨max (max g d) (max A 1),fun N D o p=>?_⟩,u⟩;have z:=(k N D (JL s2.m (min m.low s2.m.low)) (by omega)).2 x;simp only[Ee];rw[if_pos ⟨h1,h2⟩,k1 N D (by omega) (by omega)];simp only;rw[c N D (by omega) (by omega)];simp only;rw[if_pos z];exact y N D (by omega) (by omega)
  |ret =>
   refine⟨.ret,_,⟨max g d,fun N D o p=>?_⟩,q⟩;simp only[Ee];rw[if_pos ⟨h1,h2⟩,k1 N D (by omega) (by omega)];simp only;rw[c N D (by omega) (by omega)]
  |exit id =>
   refine⟨.exit id,_,⟨max g d,fun N D o p=>?_⟩,q⟩;simp only[Ee];rw[if_pos ⟨h1,h2⟩,k1 N D (by omega) (by omega)];simp only;rw[c N D (by omega) (by omega)]
theorem Om.rangeFunc(k:ev s.t f=.func (.func g) #[] lb)(d:P.funcs[g]?=some fn)
 (c:(flat o&&flat a)=true) (p:O g=some Fo) (n:∃m1,Fo (EN fn.ntmps lb.toList) s.m=some (JO key rows,m1))
 (h:NS P O G o a ps.size (fun m'=>∃m1,Fo (EN fn.ntmps lb.toList) m'=some (JO key rows,m1)) s.t ps.toList rows s.m fun e m'=>Q e { t:=s.t,m:=m' }):Om P O G (.rangeFunc f ps o a) s Q:=by
 simp only[Bool.and_eq_true] at c;have x:∀N D m',1≤D→Ei P O G N D g (EN fn.ntmps lb.toList) m'=Fo (EN fn.ntmps lb.toList) m':=fun N D m' u=>by
  obtain⟨D,rfl⟩:∃j,D=j+1:=⟨D-1,by omega⟩
  have y:=Qv fn.ntmps lb.toList;cases h0:Fo (EN fn.ntmps lb.toList) m' with
  |some r=>simp only[Ei,p,Option.bind_some,h0]
  |none =>
   simp only[Ei,p,Option.bind_some,h0,d];grind
 obtain⟨e,m',⟨K,A⟩,q⟩:=NS.run (c8w:=fun N D m'=>∃m1,Ei P O G N D g (EN fn.ntmps lb.toList) m'=some (JO key rows,m1)) (fun N D m' u=>by grind) h;obtain⟨m1,n⟩:=n;refine⟨e,_,⟨max K 1,fun N D z u=>?_⟩,q⟩;simp only[BO,k,d];rw[if_pos ⟨rfl,c.1,c.2⟩,x N D s.m (by omega),n];simp only[NW];grind
end
end Go.Am
namespace Go.Vm
open Go.Am
section
variable {E:Env}{bn:Nat}{L:Vm.Frame}{H:Vm.Heap}{nx:Nat}{Q:BP→Vm.Frame→Vm.Heap→Nat→Prop}
def a4v(L:Vm.Frame):List Tmp→List FV→Vm.Frame
 |p::ps,f::fs=>a4v (IJ L (some p) (.p f)) ps fs
 |_,_=>L
theorem nE:∀{ps:List Tmp} {fs:List FV} {vs:List Value} {L:Vm.Frame} {t:Tr Value},RL m F T σ nx L t→Du m F fs vs→RL m F T σ nx (a4v L ps fs) (Og t ps vs)
 |[],fs,vs,L,t,h,hr=>by cases hr<;>exact h
 |p::ps,_,_,L,t,h,.nil=>h
 |p::ps,_,_,L,t,h,.cons (v:=v) (vs:=vs) h1 h2=>nE (ps:=ps) (t:=Rq t p v) (h.put (d:=some p) (.p h1)) h2
def c8h(E:Env)(g:FuncId)(fn:Func)(cs:List PV)(H:Vm.Heap)(nx:Nat)(key:Value)(rows:List (List Value)):Prop :=
 ∀Fo,E.O g=some Fo→∀m F σ lb,Ctx E.Γ m F σ H nx→Dw m F (htag H) σ nx cs lb→∃m1,Fo (EN fn.ntmps lb) m=some (JO key rows,m1)
def RQ(iv:Prop)(C9:Nat)(L0:Vm.Frame)(H1:Vm.Heap)(Q:BP→Vm.Frame→Vm.Heap→Nat→Prop):BP→Vm.Frame→Vm.Heap→Nat→Prop
 | .normal,_,H',nx'=>iv∧C9≤nx'∧BN C9 H1 H'
 |e,_,H',nx'=>C9≤nx'∧∃H2,BN C9 H2 H'∧Q e L0 H2 C9
theorem Ad.rangeFunc{fn:Func}{rows:List (List Value)}(n:Nat)(X:Nat→List FV)(S:Nat→List Value)(L0:Vm.Frame)(d:Nat→Vm.Heap)(C9:Nat)(o:Nat→Prop)
 (hf:AY E.Γ L0 f=some (.clo g [] cs)) (hfn:E.P.funcs[g]?=some fn) (hfl:(flat Nq&&flat a)=true) {Fo:List Value→Mem→Option (Value×Mem)} (ho:E.O g=some Fo) (hr:rows=(List.range n).map S) (U:∀k,k<n→(S k).length=ps.size) (hpl:∀k,k<n→(S k).all plain=true) (T:∀k,k<n→∀m F,Du m F (X k) (S k))
 (hb:bn≤C9) (K:Xz L H nx L0 (d 0) C9) (I:GZ C9 L0 L0) (x:∀k,k≤n→c8h E g fn cs (d k) C9 key rows)
 (h0:o 0) (jh:∀k,k<n→o k→Ad E C9 Nq (a4v L0 ps.toList (X k)) (d k) C9 fun e L1 H1 M=>e=.normal∧Ad E C9 a L1 H1 M (RQ (o (k+1)) C9 L0 (d (k+1)) Q))
 (A:o n→Q .normal L0 (d n) C9):Ad E bn (.rangeFunc f ps Nq a) L H nx Q:=by
 intro B hB m F σ t h1 h2 h3;have clo:∀{m F σ H},Ctx E.Γ m F σ H C9→RL m F (htag H) σ C9 L0 t→∃lb:Array Value,ev t f=.func (.func g) #[] lb∧Dw m F (htag H) σ C9 cs lb.toList:=fun c l=>by
  have hv:=Bz c l hf;generalize ev t f=u at hv;cases hv with
  |clo r1 r2=>cases r1;grind
 obtain⟨lb,V,hcs⟩:=clo (K.ctx h1) (K.rl h2);have key:∀j k,k+j=n→o k→∀m F σ,Ctx E.Γ m F σ (d k) C9→RL m F (htag (d k)) σ C9 L0 t→B.to m F σ (d k) C9 →
  NS E.P E.O E.G Nq a ps.size (fun N=>∃m1,Fo (EN fn.ntmps lb.toList) N=some (JO key rows,m1)) t ps.toList (rows.drop k) m fun e N=>∃L' H' nx' F' σ',Q e L' H' nx'∧Ctx E.Γ N F' σ' H' nx'∧RL N F' (htag H') σ' nx' L' t∧B.to N F' σ' H' nx':=by
  intro j
  induction j with
  |zero =>
   intro k hk z m F σ c l b;obtain rfl:k=n:=by omega
   rw[hr,cU (by simp)];exact⟨L0,_,C9,F,σ,A z,c,l,b⟩
  |succ j ih =>
   intro k hk z m F σ c l b;have e0:rows.drop k=S k::rows.drop (k+1):=by
    rw[hr,bO (by simp;omega)];simp
   rw[e0];refine⟨U k (by omega),hpl k (by omega),?_⟩;refine(jh k (by omega) z ⟨m.at m.size,F,σ,d k,C9⟩ rfl _ F σ _ (c.at _) (nE (RL.at (Γ:=E.Γ) _ l) (T k (by omega) _ _)) (Step.refl _ _ _ _ _)).mono ?_;rintro e1 s1 ⟨L1,H1,M,F1,σ1,⟨he,C⟩,d1,d2,d3⟩;refine⟨he,(C ⟨m.at m.size,F,σ,d k,C9⟩ rfl s1.m F1 σ1 s1.t d1 d2 d3).mono ?_⟩;rintro e2 s2 ⟨L2,H2,Z,F2,y,q,g1,g2,g3⟩;have st:Step m F σ (d k) C9 (s2.m.at (min m.low s2.m.low)) F2 y H2 Z:=Step.at g3;have J:=g1.at (min m.low s2.m.low);have l':=RL.step st c l;have b':=Step.trans b st;cases e2 with
   |normal =>
    have p:Xz L0 H2 Z L0 (d (k+1)) C9:=⟨q.2.1,I,q.2.2⟩
    have c2:=p.ctx J;have l2:=p.rl l';obtain⟨lb2,s,W⟩:=clo c2 l2;rw[V] at s;cases s;exact⟨x (k+1) (by omega) Fo ho _ _ _ _ c2 W,ih (k+1) (by omega) q.1 _ _ _ c2 l2 (p.step (by omega) b')⟩
   |ret =>
    obtain⟨q1,Y,q2,q3⟩:=q;have p:Xz L0 H2 Z L0 Y C9:=⟨q1,I,q2⟩
    exact⟨L0,Y,C9,F2,y,q3,p.ctx J,p.rl l',p.step (by omega) b'⟩
   |exit id =>
    obtain⟨q1,Y,q2,q3⟩:=q;have p:Xz L0 H2 Z L0 Y C9:=⟨q1,I,q2⟩
    exact⟨L0,Y,C9,F2,y,q3,p.ctx J,p.rl l',p.step (by omega) b'⟩
 refine Om.rangeFunc (fn:=fn) (Fo:=Fo) (rows:=rows) V hfn hfl ho (x 0 (ao _) Fo ho _ _ _ _ (K.ctx h1) hcs) ?_;have:=key n 0 (by omega) h0 m F σ (K.ctx h1) (K.rl h2) (K.step (by omega) h3);grind
end
section
variable {P:Program}{G:List Nat}
theorem MZ(n:Nat)(lb:List Value):(EN n lb).drop (n+1)=lb:=by
 unfold EN;simp
theorem a4c(h:JO k a=JO k' b):k=k'∧a=b:=by
 have:=congrArg PS h;rw[NW,NW] at this;refine⟨?_,cr this⟩;unfold JO at h;grind
abbrev SqF:=List Value→Mem→Option (Value×List (List Value))
open Classical in
noncomputable def UL(G:List Nat)(M0:Mem)(nt:Nat)(Sq:SqF)(Bo:List Value)(m:Mem):Option (Value×Mem) :=
 if Bo=EN nt (Bo.drop (nt+1))∧∀k∈G,m.get k=M0.get k then(Sq (Bo.drop (nt+1)) m).map fun kr=>(JO kr.1 kr.2,m) else none
noncomputable def a9w(G:List Nat)(M0:Mem)(gf:FuncId)(nt:Nat)(Sq:SqF)(O:BG):BG:=fun f=>if f=gf then some (UL G M0 nt Sq) else O f
theorem Xd(h:f≠gf):a9w G d gf a c O f=O f:=if_neg h
theorem a7n:a9w G d gf a c O gf=some (UL G d a c):=if_pos rfl
theorem MR(h:UL G d a c Bo m=some r):∃lb kr,Bo=EN a lb∧(∀k∈G,m.get k=d.get k)∧c lb m=some kr∧r=(JO kr.1 kr.2,m):=by
 unfold UL at h;split at h
 case isFalse=>cases h
 rename_i e;rw[ae] at h;grind
theorem yD(e:∀k∈G,m.get k=d.get k)(h:c lb m=some kr):UL G d a c (EN a lb) m=some (JO kr.1 kr.2,m):=by
 unfold UL;rw[MZ,if_pos ⟨rfl,e⟩,h];rfl
theorem c2u(n:O gf=none)(c:∀fn,P.funcs[gf]?=some fn→fn.ntmps=a):OLe P O (a9w G j gf a g O) where
 same f Bo m r h:=by
  by_cases e:f=gf
  ·grind
  ·rw[Xd e];exact h
 more f Bo m r h h0 fn hfn:=by
  by_cases e:f=gf
  ·subst e
   rw[a7n] at h;obtain⟨k,d,rfl,_⟩:=MR (show UL G j a g Bo m=some r from h);rw[c fn hfn];exact Qv a k
  ·rw[Xd e,h0] at h;cases h
theorem su(h:Y9 P gf lb rows e w)(o:∀W,g W→e W):Y9 P gf lb rows g w :=
 fun l J A W p q k j s n=>h l J A W p q k (fun i y d c=>by
  obtain⟨fn,tmps,z,a,x,u⟩:=j i y d c;refine⟨fn,tmps,z,a,x,u.mono ?_⟩;grind) (o _ s) n
theorem cZ(hO:EI P G O)(Z:Am.Enters P gf)(s:∀fn,P.funcs[gf]?=some fn→fn.ntmps=j)
 (X:∀(lb:List Value) (m:Mem) (key:Value) (rows:List (List Value)),x lb m=some (key,rows)→(∀k∈G,m.get k=y.get k)→∀(ι:BJ) (w:World) (lb':Array Value),DR P G ι m w→BF ι m.gen lb lb'.toList →
  Y9 P gf lb' rows (JR P G (fun m'=>x lb m'=some (key,rows)∧∀k∈G,m'.get k=y.get k) ι m.gen lb lb') w):EI P G (a9w G y gf j x O):=by
 intro f Fo n;by_cases h:f=gf
 ·subst h
  rw[a7n] at n;cases n;refine⟨fun Bo m v m' a ι w as' V c=>?_,fun Bo m v m' a=>?_,Z,fun fn lb m m1 v rows u a B ι w lb' Dk Y=>?_⟩
  ·obtain⟨lb,rows,rfl,_⟩:=MR a
   obtain⟨v',k',_,h2,_⟩:=c.Iz;contradiction
  ·obtain⟨lb,rows,_,_,_,e⟩:=MR a
   cases e;exact AQ.refl _
  ·rw[s fn u] at a ⊢
   obtain⟨q,g,e1,e2,e3,e4⟩:=MR a;have e5:lb=q:=by
    have:=congrArg (List.drop (j+1)) e1
    rwa[MZ,MZ] at this
   subst e5;obtain⟨A,g⟩:=g;cases e4;rw[NW] at B;cases B;refine su (X lb m _ _ e3 e2 ι w lb' Dk Y) ?_;rintro W ⟨o,m',N,M,⟨m2,K⟩,J⟩;obtain⟨p,d,U,T,S,z⟩:=MR K;have e6:lb=p:=by
    have:=congrArg (List.drop (j+1)) U
    rwa[MZ,MZ] at this
   subst e6;simp only[Prod.mk.injEq] at z;obtain⟨I,C⟩:=a4c z.1;obtain⟨d9e,d⟩:=d;subst I;subst C;exact⟨o,m',N,M,⟨S,T⟩,J⟩
 ·rw[Xd h] at n
  exact hO f Fo n
theorem AL.more(a:OLe P O0 O1)(h:AL (DY P F laid O0) f args H nx Q):AL (DY P F laid O1) f args H nx Q :=
 fun m e σ Bo d c=>Gq.more a (h m e σ Bo d c)
end
end Go.Vm
namespace Go.Proofs.YthlffjlbidibdaaGreatDoor
open Go Go.Am Go.Vm Go.RowKit
def Gz(lo hi:Nat):List (List Value):=(ES lo hi).map fun x=>[Go.encZ x]
def Sm:SqF:=fun lb m=>match lb with
 |[.pointer (some ⟨b,0,none⟩)]=>match m.get b with
  | .cells [.int .u64 lo,.int .u64 hi] _ 0 false=>if(0≤lo∧lo<18446744073709551616)∧(0≤hi∧hi<18446744073709551616) then some (.agg #[.int .u64 lo,.int .u64 hi],Gz lo.toNat hi.toNat) else none
  |_=>none
 |_=>none
def notKey(lo hi:Nat):Value:=.agg #[.int .u64 (lo:Int),.int .u64 (hi:Int)]
theorem bC(h:Sm lb m=some kr):∃b a c e,lb=[.pointer (some ⟨b,0,none⟩)]∧m.get b=.cells [.int .u64 ((a:Nat):Int),.int .u64 ((c:Nat):Int)] e 0 false∧a<18446744073709551616∧c<18446744073709551616∧kr=(notKey a c,Gz a c):=by
 unfold Sm at h;split at h
 ·rename_i b
  split at h
  ·rename_i a c e d
   split at h
   ·rename_i g
    cases h;obtain⟨a,rfl⟩:∃n:Nat,a=n:=⟨a.toNat,by omega⟩
    obtain⟨c,rfl⟩:∃n:Nat,c=n:=⟨c.toNat,by omega⟩
    exact⟨b,a,c,e,rfl,d,by omega,by omega,rfl⟩
   grind
  grind
 grind
theorem a0r(h:notKey a b=notKey c d):a=c∧b=d:=by
 simp[notKey] at h;omega
theorem bF(u:DR Tryz.prog G ι m w)(h:Az ι m.gen (.pointer (some ⟨b,0,none⟩)) g)(k:m.get b=.cells vs e 0 false)(J:vs.all Am.plainCell=true) :
 ∃c o,g=.pointer (some ⟨c,o,none⟩)∧∀i,i<vs.length→w.cell? ⟨c,o+i,none⟩=some (vs.getD i undef):=by
 cases h with
 |ptr a U h =>
  obtain⟨j,z,K,y⟩:=h;obtain⟨T,M,S,s,I,C,q,B⟩:=Hu u z k;have N:=y (by simp[Mem.gen,k,G8.gen,MK]);refine⟨j.blk,j.sh,by grind,fun i x=>?_⟩;obtain⟨A,p,n⟩:=q i x;have d:Am.plainCell (vs.getD i undef)=true:=by
   grind
  rw[n.Eh d] at p;rw[Am.cell_of_row s];omega
theorem Zz(a c:Nat):(Gz a c).length=(ES a c).length:=by simp[Gz]
theorem c0f(c a:Nat):∀k,∃r,ES c a=Lj c a k++r
 |0=>⟨_,rfl⟩
 |1=>⟨(Hg a).map (fun n:Nat=>((64+n:Nat):Int)),by rfl⟩
 |_+2=>⟨[],by simp[Lj]⟩
theorem b4v(h:done++(x::rest)=Lj a c k):∃e:done.length<(Gz a c).length,(Gz a c)[done.length]=[Go.encZ x]:=by
 obtain⟨r,d⟩:=c0f a c k;rw[← h] at d;have e:done.length<(Gz a c).length:=by
  rw[Zz,d];simp
 refine⟨e,?_⟩;unfold Gz;grind
attribute [local go_sem] Oper.semAt_some a7d a5h
theorem sS(ht:Vo F laid)(lb:List Value)(m:Mem)(key:Value)(rows:List (List Value))(hq:Sm lb m=some (key,rows))(hg:∀k∈Au Tryz.prog F laid,m.get k=(AX Tryz.prog F laid).get k)(ι:BJ)(w:World)(lb':Array Value)(Dk:DR Tryz.prog (Au Tryz.prog F laid) ι m w)(hl:BF ι m.gen lb lb'.toList) :
 Y9 Tryz.prog 119 lb' rows (JR Tryz.prog (Au Tryz.prog F laid) (fun m'=>Sm lb m'=some (key,rows)∧∀k∈Au Tryz.prog F laid,m'.get k=(AX Tryz.prog F laid).get k) ι m.gen lb lb') w:=by
 obtain⟨b,lo,hi,e,rfl,h1,hlo,hhi,he⟩:=bC hq;cases he;obtain⟨lb'⟩:=lb';obtain⟨p1,k1,rfl,r1,hl2⟩:=hl.Iz;have hk:k1=[]:=aw.1 hl2.1.symm;subst hk;obtain⟨c1,o1,rfl,_⟩:=bF Dk r1 h1 rfl;have facts:∀X,JR Tryz.prog (Au Tryz.prog F laid) (fun m'=>Sm [.pointer (some ⟨b,0,none⟩)] m'=some (notKey lo hi,Gz lo hi)∧∀k∈Au Tryz.prog F laid,m'.get k=(AX Tryz.prog F laid).get k) ι m.gen [.pointer (some ⟨b,0,none⟩)] ⟨[.pointer (some ⟨c1,o1,none⟩)]⟩ X →
  X.cell? ⟨c1,o1,none⟩=some (.int .u64 (lo:Int))∧X.cell? ⟨c1,o1+1,none⟩=some (.int .u64 (hi:Int))∧PE X:=by
  rintro X ⟨ι',m',g1,g2,⟨g3,g4⟩,_⟩;obtain⟨b',lo',hi',e',q0,q1,_,_,q3⟩:=bC g3;cases q0;obtain⟨rfl,rfl⟩:=a0r (congrArg Prod.fst q3);obtain⟨p1',k1',x1,x2,x3⟩:=g2.Iz;cases x1;obtain⟨c1',o1',z1,z2⟩:=bF g1 x2 q1 rfl;cases z1;obtain⟨e,t1⟩:=ht.tab;exact⟨z2 0 (by simp),z2 1 (by simp),(gJ ht.nm (aX g1 g4 ht.nm t1 ht.lt)).1⟩
 have later:∀X Y,JR Tryz.prog (Au Tryz.prog F laid) (fun m'=>Sm [.pointer (some ⟨b,0,none⟩)] m'=some (notKey lo hi,Gz lo hi)∧∀k∈Au Tryz.prog F laid,m'.get k=(AX Tryz.prog F laid).get k) ι m.gen [.pointer (some ⟨b,0,none⟩)] ⟨[.pointer (some ⟨c1,o1,none⟩)]⟩ X→Below X.heap.size X Y →
  JR Tryz.prog (Au Tryz.prog F laid) (fun m'=>Sm [.pointer (some ⟨b,0,none⟩)] m'=some (notKey lo hi,Gz lo hi)∧∀k∈Au Tryz.prog F laid,m'.get k=(AX Tryz.prog F laid).get k) ι m.gen [.pointer (some ⟨b,0,none⟩)] ⟨[.pointer (some ⟨c1,o1,none⟩)]⟩ Y:=by
  rintro X Y ⟨ι',m',g1,g2,g3⟩ hb;exact⟨ι',m',Ov g1 hb,g2,g3⟩
 generalize JR Tryz.prog (Au Tryz.prog F laid) (fun m'=>Sm [.pointer (some ⟨b,0,none⟩)] m'=some (notKey lo hi,Gz lo hi)∧∀k∈Au Tryz.prog F laid,m'.get k=(AX Tryz.prog F laid).get k) ι m.gen [.pointer (some ⟨b,0,none⟩)] ⟨[.pointer (some ⟨c1,o1,none⟩)]⟩=SI at *;intro l J Jx W hB hJ hx hY hI hj;refine callsIn_of_wp Tryz.func119 rfl trivial ?_ rfl;simp only[Tryz.ntmps119,List.size_toArray,List.length_cons,List.length_nil,Nat.reduceAdd,Nat.reduceSub,Array.replicate_succ,Array.replicate_zero,List.push_toArray,List.append_toArray,List.nil_append,List.cons_append];obtain⟨d0,d1,_⟩:=facts W hI
 gi_wp2
 gi_loopw [10] (fun i wr=>(i=.int .i64 0∧J (Lj lo hi 0).length wr∧SI wr)∨(i=.int .i64 1∧J (Lj lo hi 1).length wr∧SI wr)∨(i=.int .i64 2∧J (Lj lo hi 2).length wr∧SI wr)) (fun i _=>(2-ivO i).toNat)
 case atStart=>exact Or.inl ⟨rfl,hj,hI⟩
 case round =>
  rcases hrel with⟨rfl,hJs,hIs⟩|⟨rfl,hJs,hIs⟩|⟨rfl,hJs,hIs⟩
  ·gi_wp2
   gi_loopw [4] (fun v wr=>∃p:Nat,p<18446744073709551616∧v=.int .u64 (p:Int)∧∃done:List Int,J done.length wr∧SI wr∧done++(Hg p).map (fun n:Nat=>((64*0+n:Nat):Int))=Lj lo hi (0+1)) (fun v _=>(ivO v).toNat)
   case atStart=>exact⟨_,hlo,rfl,Lj lo hi 0,hJs,hIs,by simp[Lj,ES]⟩
   case round =>
    obtain⟨p,hp,rfl,done,hJd,hId,hdone⟩:=hrel;by_cases hp0:p=0
    ·subst hp0
     have hz:((0:Nat):Int)=0:=rfl;rw[PW,fc,dt] at hdone
     gi_wp2
     go_roundw
     case rel=>exact Or.inr <| Or.inl ⟨by first|rfl|simp,by rw[← hdone];exact hJd,hId⟩
     case measure=>simp[ivO]
    ·obtain⟨e1,e2,e3⟩:=Ws hp0 hp
     rw[e1,bv] at hdone;obtain⟨_,_,hTb⟩:=facts _ hId;have htz:=a7l p hp _ hTb;have hne:¬ ((p:Int)=0):=by omega
     have hw1:=Ti hp0 hp;have hw2:=Ue hp;obtain⟨x0,hx0⟩:∃x0:Int,((64*0+Lib.ctz 64 p:Nat):Int)=x0:=⟨_,rfl⟩
     rw[hx0] at hdone;generalize Lib.ctz 64 p=t at *;have hw4:IntKind.i64.wrap (0+(t:Int))=x0:=by rw[MW (by omega) (by omega)];omega
     have hw5:IntKind.i64.wrap ((t:Int))=x0:=by rw[MW (by omega) (by omega)];omega
     obtain⟨hl,hrow⟩:=b4v hdone;obtain⟨fn,tmps,assign,body,hy,hR⟩:=hY done.length _ hl hJd;rw[hrow] at hy;have hy:(Instr.yield l #[.int .i64 x0]).run Tryz.prog wr=.ok (.round l fn tmps assign body) wr:=hy
     gi_wp2
     refine⟨trivial,rfl,(callsIn_wide.2 htz).mono ?_⟩;rintro _ _ ⟨rfl,rfl⟩
     gi_wp2
     refine⟨rfl,hR.mono ?_⟩;rintro e W3 (⟨rfl,hJ3,hI3⟩|⟨rfl,hx3⟩)
     ·gi_wp2
      go_roundw
      case rel=>exact⟨p &&& (p-1),by omega,by first|rfl|simp,done++[x0],by rw[ar];exact hJ3,hI3,by rw[cz];exact hdone⟩
      case measure=>simp[ivO];omega
     ·gi_wp2
      refine⟨rfl,_,results_none rfl _ _ _,⟨_,rfl⟩,.inr ⟨_,hx3⟩⟩
  ·gi_wp2
   gi_loopw [4] (fun v wr=>∃p:Nat,p<18446744073709551616∧v=.int .u64 (p:Int)∧∃done:List Int,J done.length wr∧SI wr∧done++(Hg p).map (fun n:Nat=>((64*1+n:Nat):Int))=Lj lo hi (1+1)) (fun v _=>(ivO v).toNat)
   case atStart=>exact⟨_,hhi,rfl,Lj lo hi 1,hJs,hIs,by simp[Lj,ES]⟩
   case round =>
    obtain⟨p,hp,rfl,done,hJd,hId,hdone⟩:=hrel;by_cases hp0:p=0
    ·subst hp0
     have hz:((0:Nat):Int)=0:=rfl;rw[PW,fc,dt] at hdone
     gi_wp2
     go_roundw
     case rel=>exact Or.inr <| Or.inr ⟨by first|rfl|simp,by rw[← hdone];exact hJd,hId⟩
     case measure=>simp[ivO]
    ·obtain⟨e1,e2,e3⟩:=Ws hp0 hp
     rw[e1,bv] at hdone;obtain⟨_,_,hTb⟩:=facts _ hId;have htz:=a7l p hp _ hTb;have hne:¬ ((p:Int)=0):=by omega
     have hw1:=Ti hp0 hp;have hw2:=Ue hp;obtain⟨x0,hx0⟩:∃x0:Int,((64*1+Lib.ctz 64 p:Nat):Int)=x0:=⟨_,rfl⟩
     rw[hx0] at hdone;generalize Lib.ctz 64 p=t at *;have hw4:IntKind.i64.wrap (64+(t:Int))=x0:=by rw[MW (by omega) (by omega)];omega
     have hw5:IntKind.i64.wrap (64+(t:Int))=x0:=by rw[MW (by omega) (by omega)];omega
     obtain⟨hl,hrow⟩:=b4v hdone;obtain⟨fn,tmps,assign,body,hy,hR⟩:=hY done.length _ hl hJd;rw[hrow] at hy;have hy:(Instr.yield l #[.int .i64 x0]).run Tryz.prog wr=.ok (.round l fn tmps assign body) wr:=hy
     gi_wp2
     refine⟨trivial,rfl,(callsIn_wide.2 htz).mono ?_⟩;rintro _ _ ⟨rfl,rfl⟩
     gi_wp2
     refine⟨rfl,hR.mono ?_⟩;rintro e W3 (⟨rfl,hJ3,hI3⟩|⟨rfl,hx3⟩)
     ·gi_wp2
      go_roundw
      case rel=>exact⟨p &&& (p-1),by omega,by first|rfl|simp,done++[x0],by rw[ar];exact hJ3,hI3,by rw[cz];exact hdone⟩
      case measure=>simp[ivO];omega
     ·gi_wp2
      refine⟨rfl,_,results_none rfl _ _ _,⟨_,rfl⟩,.inr ⟨_,hx3⟩⟩
  ·gi_wp2
   go_end0
   refine⟨⟨_,rfl⟩,.inl ?_⟩;rw[Zz];have:Lj lo hi 2=ES lo hi:=rfl;rw[← this];exact hJs
end Go.Proofs.YthlffjlbidibdaaGreatDoor
namespace Go.Proofs.YthlffjlbidibdaaGreatDoor
open Go Go.Am Go.Vm
theorem a7e:Tryz.prog.follows .mixedOrders=true:=by kernel_rfl
theorem b3g:a2q 8 BU:=⟨⟨1,104,by kernel_rfl,by kernel_rfl,of_decide_eq_true (by kernel_rfl)⟩⟩
theorem xk:Am.Enters Tryz.prog 125:=⟨_,Tryz.func125,by kernel_rfl,by kernel_rfl⟩
theorem bI:Am.Enters Tryz.prog 213:=⟨_,Tryz.func213,by kernel_rfl,by kernel_rfl⟩
theorem xG:Am.Enters Tryz.prog 127:=⟨_,Tryz.func127,by kernel_rfl,by kernel_rfl⟩
def b2p:List (FuncId×gu):=[(125,a7i),(213,WV),(127,textF)]
theorem c2o:EI Tryz.prog (Au Tryz.prog 8 BU) (sF (Au Tryz.prog 8 BU) (AX Tryz.prog 8 BU) b2p):=a4a fun x a=>by
 simp only[b2p,List.mem_cons,List.not_mem_nil,or_false] at a;rcases a with rfl|rfl|rfl
 ·exact a3q b3g xk
 ·exact kG bI
 ·exact a2y b3g xG
def og:InF:=fun zs rest=>match rest with
 |[]=>if zs.length<1000000 then some (zs.mergeSort fun x y=>decide (x≤y),none) else none
 |_=>none
theorem eF(h:og zs rest=some (zs',r)):rest=[]∧zs.length<1000000∧zs'=zs.mergeSort (fun x y=>decide (x≤y))∧r=none:=by
 unfold og at h;split at h
 ·split at h
  ·rename_i a;cases h;exact⟨rfl,a,rfl,rfl⟩
  ·cases h
 ·cases h
def ou:InF:=fun zs rest=>match rest with
 |[]=>if zs.length<1000000 then some (Lib.compact zs++List.replicate (zs.length-(Lib.compact zs).length) 0,some (Lib.compact zs).length) else none
 |_=>none
theorem fP(h:ou zs rest=some (zs',r)):rest=[]∧zs.length<1000000∧zs'=Lib.compact zs++List.replicate (zs.length-(Lib.compact zs).length) 0∧r=some (Lib.compact zs).length:=by
 unfold ou at h;split at h
 ·split at h
  ·rename_i a;cases h;exact⟨rfl,a,rfl,rfl⟩
  ·cases h
 ·cases h
theorem vV:Am.Enters Tryz.prog 20:=⟨_,Tryz.func20,by kernel_rfl,by kernel_rfl⟩
theorem yL:Am.Enters Tryz.prog 21:=⟨_,Tryz.func21,by kernel_rfl,by kernel_rfl⟩
def c0i:Go.Shelf.Ren:=⟨fun|4=>220|n=>n,fun|0=>0|3=>3|4=>4|9=>9|20=>20|22=>41|25=>3|n=>n,fun|n=>n⟩
theorem c3h:Go.Proofs.Lays8.n4 Tryz.prog c0i:={
 mixed:=by kernel_rfl
 f4:=⟨"slices.Grow[[]int,int]",by decide,Tryz.func220.trans (congrArg some (by kernel_rfl))⟩
 t0:=Tryz.underlying0
 a0:=Tryz.isAgg0
 z0:=Tryz.sizeOf0
 v0:=Tryz.zeroValue0
 t3:=Tryz.underlying3
 a3:=Tryz.isAgg3
 z3:=Tryz.sizeOf3
 v3:=Tryz.zeroValue3
 t4:=Tryz.underlying4
 a4:=Tryz.isAgg4
 z4:=Tryz.sizeOf4
 v4:=Tryz.zeroValue4
 t9:=Tryz.underlying9
 a9:=Tryz.isAgg9
 z9:=Tryz.sizeOf9
 v9:=Tryz.zeroValue9
 t20:=Tryz.underlying20
 a20:=Tryz.isAgg20
 z20:=Tryz.sizeOf20
 v20:=Tryz.zeroValue20
 t22:=Tryz.underlying41
 a22:=Tryz.isAgg41
 z22:=Tryz.sizeOf41
 v22:=Tryz.zeroValue41 }
theorem a8k:(match Tryz.prog.info? 3 with|some i=>decide (i.size=1)&&decide (i.bytes=8)&&(match i.zero with|some (.int .i64 n)=>decide (n=0)|_=>false)|none=>false)=true:=by kernel_rfl
theorem b4j:∃a,Tryz.prog.info? 3=some a∧a.zero=some (.int .i64 0)∧a.size=1∧a.bytes=8:=by
 have h:=a8k;generalize Tryz.prog.info? 3=o at *;cases o with
 |none=>cases h
 |some i =>
  simp only[Bool.and_eq_true,decide_eq_true_eq] at h;obtain⟨⟨g,e⟩,c⟩:=h;refine⟨i,rfl,?_,g,e⟩;split at c
  ·rename_i n d
   rw[d,of_decide_eq_true c]
  ·cases c
theorem a1l(n:Nat)(w:World)(q:0<n)(p:n≤1000000):Calls Tryz.prog 220 #[.slice none 0 0,.int .i64 n] w fun r w'=>∃cap cs,r=.returned (.slice (some ⟨w.heap.size,0,none⟩) 0 cap)∧w'.heap=w.heap.push (.cells cs 3 (0,0))∧w'.tape=w.tape∧w'.os=w.os∧w'.output=w.output∧cap*Tryz.prog.cellsOf 3≤cs.size:=by
 obtain⟨d,c,o,k,j⟩:=b4j;refine(Any8.slices_Grow_grow c3h d (.int .i64 0) c o (by omega) none 0 0 n [] w (ab _) (by omega) (by rw[j];omega) (by omega) (by simp) (fun _=>rfl) (fun a g=>by cases g)).mono ?_;rintro r w' ⟨rfl,rfl⟩;refine⟨_,_,rfl,rfl,rfl,rfl,rfl,?_⟩;rw[ED c,k];have e:(Value.int .i64 0).cells.size=1:=rfl;simp only[Array.size_append,Jr,e];omega
theorem wS:Am.Enters Tryz.prog 220:=⟨_,Tryz.func220,by kernel_rfl,by kernel_rfl⟩
noncomputable abbrev d1z:BG:=a0b 220 3 (sF (Au Tryz.prog 8 BU) (AX Tryz.prog 8 BU) b2p)
abbrev b8j:List FuncId:=[91]
theorem a9r:(match Ei Tryz.prog noO (Au Tryz.prog 8 BU) 400 40 91 [] (AX Tryz.prog 8 BU) with|some (.bool true,_)=>true|_=>false)=true:=by kernel_rfl
theorem vN:∀f∈b8j,∃m',Ei Tryz.prog noO (Au Tryz.prog 8 BU) 400 40 f [] (AX Tryz.prog 8 BU)=some (.bool true,m'):=by
 intro f a;simp only[List.mem_cons,List.not_mem_nil,or_false] at a;subst a;have h:=a9r;split at h
 ·rename_i m' c;exact⟨m',c⟩
 ·cases h
noncomputable abbrev b6l:BG:=knO (Au Tryz.prog 8 BU) (AX Tryz.prog 8 BU) b8j d1z
noncomputable abbrev b2v:BG:=inO (Au Tryz.prog 8 BU) (AX Tryz.prog 8 BU) 20 3 og b6l
noncomputable abbrev a5w:BG:=inO (Au Tryz.prog 8 BU) (AX Tryz.prog 8 BU) 21 3 ou b2v
theorem c4d:EI Tryz.prog (Au Tryz.prog 8 BU) b2v:=nG (b0m (zo a7e vN) (wV c2o wS a1l)) vV (by kernel_rfl)
 (fun blk d g k j r c w h y u s q z B=>by
  obtain⟨rfl,A,rfl,rfl⟩:=eF h;refine(show Calls Tryz.prog 20 _ w _ from Tryz.slices_Sort_int blk d g k w s q (by omega)).mono ?_;rintro x w' ⟨rfl,n,o,rfl⟩;exact⟨rfl,n,o,rfl⟩)
 (fun c a w h p=>by
  obtain⟨rfl,_⟩:=eF h;have e:a=#[]:=gc p;subst e;exact Tryz.slices_Sort_int_none none 0 w)
theorem c4c:EI Tryz.prog (Au Tryz.prog 8 BU) a5w:=nG c4d yL (by kernel_rfl)
 (fun blk d e k j r a w h s p o u n y=>by
  obtain⟨rfl,g,rfl,rfl⟩:=fP h;refine(show Calls Tryz.prog 21 _ w _ from Tryz.slices_Compact_int blk d e k w o (by omega) n).mono ?_;rintro x w' ⟨rfl,q,rfl⟩;refine⟨rfl,q,#[],?_⟩;rw[Go.Sort.grow_empty];rfl)
 (fun a c w h _=>by
  obtain⟨_,_,_,g⟩:=fP h;cases g)
theorem gZ:Vo 8 BU:=⟨by kernel_rfl,⟨5,by kernel_rfl⟩,of_decide_eq_true (by kernel_rfl)⟩
theorem gY:Am.Enters Tryz.prog 37:=⟨_,Tryz.func37,by kernel_rfl,by kernel_rfl⟩
theorem qU:Am.Enters Tryz.prog 119:=⟨_,Tryz.func119,by kernel_rfl,by kernel_rfl⟩
noncomputable abbrev b4e:BG:=frO (Au Tryz.prog 8 BU) (AX Tryz.prog 8 BU) 37 3 b9l a5w
noncomputable def jP:BG:=a9w (Au Tryz.prog 8 BU) (AX Tryz.prog 8 BU) 119 Tryz.f119.ntmps Sm b4e
theorem c1k:EI Tryz.prog (Au Tryz.prog 8 BU) b4e:=b0b c4c gY (by kernel_rfl) (a8u gZ)
theorem yS:∀fn,Tryz.prog.funcs[119]?=some fn→fn.ntmps=Tryz.f119.ntmps:=fun fn h=>by
 rw[Tryz.func119] at h;cases h;rfl
theorem b7x:EI Tryz.prog (Au Tryz.prog 8 BU) jP:=cZ c1k qU yS fun e m d a n k ι w c j g=>sS gZ e m d a n k ι w c j g
noncomputable abbrev env:Env:=DY Tryz.prog 8 BU jP
theorem b5g(h:f≠119):jP f=b4e f:=Xd h
theorem a1w(h:f≠119)(a:f≠37):jP f=a5w f:=by
 rw[b5g h];exact b2z a
theorem Ua(h:f≠119)(d:f≠37)(c:f≠21)(a:f≠20):jP f=b6l f:=by
 rw[a1w h d];show inO _ _ _ _ _ _ f=_;rw[qJ c];show inO _ _ _ _ _ _ f=_;rw[qJ a]
abbrev b5f:List FuncId:=220::91::119::37::21::20::b2p.map (·.1)
theorem Af(h:f∉220::91::119::37::21::20::b2p.map (·.1)):env.O f=none:=by
 show jP f=none;rw[Ua (fun e=>h (by rw[e];simp)) (fun e=>h (by rw[e];simp)) (fun e=>h (by rw[e];simp)) (fun e=>h (by rw[e];simp))];show knO _ _ _ _ f=none;rw[Yt (fun e=>h (by simp only[List.mem_cons,List.not_mem_nil,or_false] at e;rw[e];simp))];show a0b _ _ _ f=none;rw[RZ (fun e=>h (by rw[e];simp))];refine a7v ?_;rw[List.lookup_eq_none_iff];intro p a;by_cases e:f=p.1
 ·exact absurd (am _ (am _ (am _ (am _ (am _ (am _ (ba.2 ⟨p,a,e.symm⟩))))))) h
 ·simpa using e
theorem c1f:jP 21=inO (Au Tryz.prog 8 BU) (AX Tryz.prog 8 BU) 21 3 ou b2v 21:=a1w (by decide) (by decide)
theorem c1i:jP 20=inO (Au Tryz.prog 8 BU) (AX Tryz.prog 8 BU) 20 3 og b6l 20:=by
 rw[a1w (by decide) (by decide)];show inO _ _ _ _ _ _ _=_;rw[qJ (by decide)]
theorem rO:Ak env 91 [] (.p (.bool true)):=a1c ((Ua (by decide) (by decide) (by decide) (by decide)).trans (b2q (by simp))) (by simp)
theorem b3r(n:Int)(h:-9223372036854775808≤n∧n≤9223372036854775807):Ak env 125 [.int .i64 n] (st (Lib.itoa n)) :=
 dL ((Ua (by decide) (by decide) (by decide) (by decide)).trans ((Yt (by decide)).trans (RZ (by decide)))) rfl fun m F c a=>by
  cases a with
  |cons a t =>
   cases t;cases a;exact⟨_,by simp only[a7i];rw[if_pos h],.str _⟩
theorem Y2(a b:List UInt8):Ak env 213 [.str (bs a),.str (bs b)] (.p (.int .i64 (Lib.compareBytes a b))) :=
 dL ((Ua (by decide) (by decide) (by decide) (by decide)).trans ((Yt (by decide)).trans (RZ (by decide)))) rfl fun m F e c=>by
  cases c with
  |cons c t =>
   cases t with
   |cons d t =>
    cases t;cases c;cases d;exact⟨.int .i64 (Lib.compareBytes a b),by simp only[WV,c3z],.int _ _⟩
theorem xQ(l:List Nat)(c:Num.jJ l)(a:l.length<1000000000):Ak env 127 [.lst 104 (cells l) l.length] (st (Num.QG l)) :=
 dL ((Ua (by decide) (by decide) (by decide) (by decide)).trans ((Yt (by decide)).trans (RZ (by decide)))) rfl fun m F e d=>b1w c a d
theorem wP(m:Mem)(F:Nat→Prop):∀l:List Int,Du m F (cells l) (l.map Go.encZ)
 |[]=>.nil
 |z::l=>.cons (.int .i64 z) (wP m F l)
theorem Q9{a c:Nat}(k:a<18446744073709551616)(n:c<18446744073709551616):Bf env 37 [.agg [.int .u64 (a:Int),.int .u64 (c:Int)]] 3 (cells (ES a c)) (ES a c).length ((ES a c).map Go.encZ).isEmpty:=by
 have h:=c8b (P:=Tryz.prog) (F:=8) (laid:=BU) (O:=jP) (O0:=a5w) (ff:=37) (e:=3) (Fn:=b9l) (xs:=[.agg [.int .u64 (a:Int),.int .u64 (c:Int)]]) (cs:=cells (ES a c)) (l:=(ES a c).map Go.encZ) (b5g (by decide))
  (fun m g s d=>by
   cases d with
   |cons d t =>
    cases t;cases d with
    |agg q u =>
     cases q with
     |cons p t =>
      cases t with
      |cons o t =>
       cases t;cases p;cases o;simp only[b9l,a5t];rw[if_pos ⟨⟨by omega,by omega⟩,by omega,by omega⟩];simp) (fun m g=>wP m g _) (by
   rw[aE];intro x j;obtain⟨z,_,rfl⟩:=ba.1 j;rfl)
 rwa[aL] at h
theorem a8s:jP 220=some (gK 3):=(Ua (by decide) (by decide) (by decide) (by decide)).trans ((Yt (by decide)).trans xO)
theorem vY(n:Nat)(q:0<n)(p:n≤1000000):Bf env 220 [.val (.slice none 0 0),.int .i64 (n:Int)] 3 [] 0 false:=by
 intro m F σ d j g;have c:Du m F [.val (.slice none 0 0),.int .i64 (n:Int)] d:=k7 g;have e:d=[.slice none 0 0,.int .i64 (n:Int)]:=by
  cases c with
  |cons a t =>
   cases t with
   |cons b t =>
    cases t;cases a;cases b;rfl
 subst e;obtain⟨c1,o,s,k⟩:=OU (e:=3) (cs:=[]) (vs:=[]) 0 j .nil rfl;refine lz (F:=gK 3) (m':=(AU m 3 [] 0).2) (v:=(AU m 3 [] 0).1) a8s ?_ ⟨_,_,_,F,_,⟨rfl,rfl,rfl⟩,c1,k,o⟩;simp only[gK];rw[if_pos (by omega)]
end Go.Proofs.YthlffjlbidibdaaGreatDoor
