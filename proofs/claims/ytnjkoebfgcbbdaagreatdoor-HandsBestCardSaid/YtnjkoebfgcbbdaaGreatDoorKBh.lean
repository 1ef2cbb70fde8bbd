/-
  Texts of a proof, merged (Ori, Vm29, Shell, WB, Am23, VmE, Vm30, Orq, Nsq, EnvO, IntA). Conditions: in each statement.
-/
import Derived.Sort.Grow
import Derived.Test.YtnjkoebfgcbbdaaGreatDoorTie
import Derived.ProofKit
import Derived.LaidMore
import Derived.OpenShut
import Derived.Below
import Derived.MakeChecks
import Derived.Stop.Joined
import Derived.Shelf.SlIterI.Collect
import Derived.Shelf.Spec.TrailingZeros
import Derived.Test.YtnjkoebfgcbbdaaGreatDoorKBg
set_option linter.unusedSimpArgs false
set_option linter.unusedVariables false
set_option linter.unusedSectionVars false
set_option maxRecDepth 100000
set_option maxHeartbeats 8000000
abbrev cr:=@List.take_length
abbrev cN:=@List.append_nil
abbrev di:=@List.filter_append
abbrev dr:=@List.length_filter_le
abbrev dE:=@Nat.pow_mul
abbrev em:=@List.forIn_cons
abbrev eE:=@List.map_nil
abbrev eI:=@Array.forIn_toList
abbrev fm:=@List.mem_of_mem_take
abbrev gk:=@Option.bind_some
namespace Go.Vm
open Go.Am
open Go.Sort (putRow putCells mapBlock onCells Holds grow size_putRow size_grow)
section
variable {P:Program} {G:List Nat}
def iV (z:Int):Value:=.int .i64 z
def Wu:List Value→Option (List Int)
 |[]=>some []
 | .int .i64 n::l=>(Wu l).map (n::·)
 |_::_=>none
theorem Vx:∀ zs:List Int,Wu (zs.map iV)=some zs
 |[]=>rfl
 |z::zs=>by simp only [List.map_cons,iV,Wu];rw [Vx zs];rfl
theorem iw:∀ {l:List Value} {zs:List Int},Wu l=some zs→l=zs.map iV
 |[],zs,h=>by cases h;rfl
 |v::l,zs,h=>by
  unfold Wu at h;split at h
  ·grind
  ·rename_i n l' he
   cases he;rw [ae] at h;obtain ⟨zs',h1,rfl⟩:=h;rw [iw h1];rfl
  grind
abbrev InF:=List Int→List Value→Option (List Int×Option Nat)
def gQ (e:TypeId) (Fn:InF) (Bq:List Value) (m:Mem):Option (Value×Mem):=match Bq with
 | .slice none 0 0::rest=>match Fn [] rest with
  |some ([],none)=>some (.tuple #[],m)
  |_=>none
 | .slice (some ⟨b,0,none⟩) n g::rest=>match m.get b with
  | .cells vs e' g' false =>
   if g=g'∧e=e'∧vs.length=n∧0<n∧rest.all Am.plainCell=true then
    match Wu vs with
    |some zs=>match Fn zs rest with
     |some (zs',none)=>if zs'.length=n then some (.tuple #[],m.put b (.cells (zs'.map iV) e g' false)) else none
     |some (zs',some k)=>if zs'.length=n∧k≤n then some (.slice (some ⟨b,0,none⟩) k (g'+1),m.put b (.cells ((zs'.take k).map iV) e (g'+1) false)) else none
     |none=>none
    |none=>none
   else none
  |_=>none
 |_=>none
inductive a0z (e:TypeId) (Fn:InF) (m:Mem):List Value→Value→Mem→Prop
 |nil {rest:List Value} (h:Fn [] rest=some ([],none)):a0z e Fn m (.slice none 0 0::rest) (.tuple #[]) m
 |put {b n g:Nat} {rest:List Value} {zs zs':List Int} (hm:m.get b=.cells (zs.map iV) e g false) (hn:zs.length=n) (h0:0<n) (hr:rest.all Am.plainCell=true) (h:Fn zs rest=some (zs',none)) (hl:zs'.length=n) :
  a0z e Fn m (.slice (some ⟨b,0,none⟩) n g::rest) (.tuple #[]) (m.put b (.cells (zs'.map iV) e g false))
 |cut {b n g k:Nat} {rest:List Value} {zs zs':List Int} (hm:m.get b=.cells (zs.map iV) e g false) (hn:zs.length=n) (h0:0<n) (hr:rest.all Am.plainCell=true) (h:Fn zs rest=some (zs',some k)) (hl:zs'.length=n) (hk:k≤n) :
  a0z e Fn m (.slice (some ⟨b,0,none⟩) n g::rest) (.slice (some ⟨b,0,none⟩) k (g+1)) (m.put b (.cells ((zs'.take k).map iV) e (g+1) false))
theorem ZP {e:TypeId} {Fn:InF} {Bq:List Value} {m m':Mem} {v:Value} (h:gQ e Fn Bq m=some (v,m')):a0z e Fn m Bq v m':=by
 unfold gQ at h;split at h
 ·split at h
  ·rename_i h1;cases h;exact .nil h1
  grind
 ·rename_i b n g rest
  split at h
  ·rename_i vs e' g' hm
   split at h
   ·rename_i hc
    obtain ⟨rfl,rfl,h1,h2,h3⟩:=hc;split at h
    ·rename_i zs hz
     have hv:=iw hz;subst hv;rw [bk] at h1;split at h
     ·rename_i zs' hf
      split at h
      ·rename_i hl;cases h;exact .put hm h1 h2 h3 hf hl
      grind
     ·rename_i zs' k hf
      split at h
      ·rename_i hl;cases h;exact .cut hm h1 h2 h3 hf hl.1 hl.2
      grind
     grind
    grind
   grind
  grind
 grind
open Classical in
noncomputable def inO (G:List Nat) (M0:Mem) (ff:FuncId) (e:TypeId) (Fn:InF) (O:Cc):Cc:=fun f=>if f=ff then some (fun Bq m=>if ∀ k∈G,m.get k=M0.get k then gQ e Fn Bq m else none) else O f
theorem yh {M0:Mem} {ff f:FuncId} {e:TypeId} {Fn:InF} {O:Cc} (h:f≠ff):inO G M0 ff e Fn O f=O f:=if_neg h
theorem getElem!_toArray (zs:List Int) (j:Nat):zs.toArray[j]! =(zs[j]?).getD 0 :=by simp
theorem SL {ι:BG} {m:Mem} {w:World} {b g g2 q:Nat} {ib:IB} {e:TypeId} {zs zs' ys:List Int} {os:Array Obj} (hs:Du P G ι m w) (hb:ι b=some ib) (hm:m.get b=.cells (zs.map iV) e g false) (hl:zs'.length=zs.length) (hy:∃ k,ys=zs'.take k) (hg:g≤g2) :
 ∃ ι',Ext ι m w ι' (m.put b (.cells (ys.map iV) e g2 false)) (grow (putRow iV (Sort.ahead w q) ib.blk ib.sh zs'.toArray) os)∧Du P G ι' (m.put b (.cells (ys.map iV) e g2 false)) (grow (putRow iV (Sort.ahead w q) ib.blk ib.sh zs'.toArray) os)∧ι' b=some ib:=by
 obtain ⟨cs,fr,e',hrow,hlim,Tf,hrel,hfr0⟩:=H9 hs hb hm;obtain ⟨rfl,hfr⟩:=hfr0 rfl;have hlt:ib.blk<w.heap.size:=(hs.dom b ib hb).2;have a2q:(grow (putRow iV (Sort.ahead w q) ib.blk ib.sh zs'.toArray) os).heap[ib.blk]?=some (.cells (putCells iV ib.sh zs'.toArray cs) e' fr):=by
  show ((putRow iV (Sort.ahead w q) ib.blk ib.sh zs'.toArray).heap++os)[ib.blk]?=_;rw [cQ (by simp_all)];simp only [putRow,mapBlock,Sort.heap_ahead,Array.getElem?_modify,hrow];rfl
 refine I4 (x:=.cells (ys.map iV) e' g2 false) (ib':=ib) hs hb (Mem.O6 hm) rfl ⟨by rw [Mem.GV hm];exact hg,fun _=>rfl⟩ (.inl rfl) a2q (fun c hc hne=>?_) ?_ rfl rfl rfl (fun ι' g' _=>?_)
 ·show ((putRow iV (Sort.ahead w q) ib.blk ib.sh zs'.toArray).heap++os)[c]?=_
  simp only [putRow,mapBlock,Sort.heap_ahead,Array.getElem?_modify];grind
 ·simp
 ·obtain ⟨k,rfl⟩:=hy
  refine ⟨fun _=>rfl,by rw [hlim];simp [putCells],Tf,fun i hi=>?_,fun _ j hj=>hfr j (by simpa [putCells] using hj)⟩;rw [bk,az] at hi;have hi':i<zs'.length:=by omega
  obtain ⟨v',h2,_⟩:=hrel i (by rw [bk];omega);refine ⟨iV zs'[i],?_,?_⟩
  ·simp only [putCells,Array.getElem?_mapIdx,h2,Option.map_some]
   rw [if_pos ⟨by omega,by simp;omega⟩,show ib.sh+i-ib.sh=i by omega,getElem!_toArray,ai hi'];rfl
  ·have e1:((zs'.take k).map iV).getD i undef=iV zs'[i]:=by
    rw [bS,ax,ep,if_pos (by omega),ai hi'];rfl
   rw [e1];exact .int _ _
theorem holds_of {ι:BG} {m:Mem} {w:World} {b g:Nat} {ib:IB} {e:TypeId} {zs:List Int} (hs:Du P G ι m w) (hb:ι b=some ib) (hm:m.get b=.cells (zs.map iV) e g false):Holds iV w ib.blk ib.sh zs.toArray:=by
 obtain ⟨cs,fr,e',hrow,hlim,Tf,hrel,hfr0⟩:=H9 hs hb hm;obtain ⟨rfl,hfr⟩:=hfr0 rfl;intro j hj;have hj':j<zs.length:=by omega
 obtain ⟨v',h2,h3⟩:=hrel j (by grind);have e1:(zs.map iV).getD j undef=iV zs[j]:=by
  grind
 rw [e1] at h3;have e2:=h3.DK (v:=iV zs[j]) rfl;refine ⟨?_,?_⟩
 ·rw [Am.cell_of_row hrow,getElem!_toArray,ai hj'];grind
 ·rw [Am.frozen_of_row hrow]
  grind
theorem bg (x:Value) (l:List Value):(⟨x::l⟩:Array Value)=#[x]++l.toArray :=by simp
theorem iD {M0:Mem} {ff:FuncId} {e:TypeId} {Fn:InF} {O:Cc} (hO:Gl P G O) (he:Am.Enters P ff) (h1:P.cellsOf e=1)
 (hc:∀ (blk off cap:Nat) (zs zs':List Int) (r:Option Nat) (rest:List Value) (w:World),Fn zs rest=some (zs',r)→zs'.length=zs.length→(∀ k,r=some k→k≤zs.length)→Holds iV w blk off zs.toArray→blk<w.heap.size→zs.length≤cap→0<zs.length →
  Calls P ff (#[.slice (some ⟨blk,off,none⟩) zs.length cap]++rest.toArray) w fun x w'=>x=.returned (match r with|none=>.tuple #[]|some k=>.slice (some ⟨blk,off,none⟩) k cap)∧∃ q os,w'=grow (putRow iV (Sort.ahead w q) blk off zs'.toArray) os)
 (hn:∀ (rest:List Value) (rest':Array Value) (w:World),Fn [] rest=some ([],none)→rest'.size=rest.length→Calls P ff (#[.slice none 0 0]++rest') w fun x w'=>x=.returned (.tuple #[])∧w'=w):Gl P G (inO G M0 ff e Fn O):=by
 intro f Fo hf;by_cases h:f=ff
 ·subst h
  unfold inO at hf;rw [if_pos rfl] at hf;cases hf;refine ⟨fun Bq m v m' hv ι w as' hs hrel=>?_,fun Bq m v m' hv=>?_,he,Xe.none fun n lb m=>by simp only [yu,YW,gQ];split<;>rfl⟩
  ·simp only at hv
   split at hv
   case isFalse=>cases hv
   have hr:=ZP hv;obtain ⟨as'⟩:=as';cases hr with
   |nil h =>
    obtain ⟨v',k',rfl,h2,h3⟩:=hrel.J8;cases h2;rw [bg];refine (hn _ k'.toArray w h (by simpa using h3.1.symm)).mono ?_;rintro x w' ⟨rfl,rfl⟩;exact ⟨_,rfl,Post.same hs (.tuple [] [] rfl fun i hi=>absurd hi (by simp))⟩
   |put hm hn2 h0 hp h hl =>
    rename_i b n g rest zs zs';subst hn2;obtain ⟨v',k',rfl,h2,h3⟩:=hrel.J8;have e3:k'=rest:=by
     refine (U9 h3.1 fun i hi=>?_).symm;exact ((h3.2 i hi).DK (aD.1 hp _ (getD_mem hi))).symm
    subst e3;cases h2 with
    |sl _ _ _ _ a' cap hsr =>
     obtain ⟨ib,hb,_,hcap,hcur⟩:=hsr;obtain ⟨c1,c2,c3⟩:=hcur (Mem.GV hm).symm;replace c3:a'.off=0+ib.sh∧a'.off+cap*ib.yx≤ib.lim:=c3.resolve_left (by omega);obtain ⟨blk,off,sp⟩:=a';simp only at c1 c2 c3;subst c1;subst c2;have c4:off=ib.sh:=by omega
     subst c4;rw [bg];refine (hc ib.blk ib.sh cap zs zs' none k' w h hl (fun k hk=>by cases hk) (holds_of hs hb hm) (hs.dom b ib hb).2 hcap h0).mono ?_;rintro x w' ⟨rfl,q,os,rfl⟩;obtain ⟨ι',q1,q2,q3⟩:=SL (q:=q) (os:=os) hs hb hm hl ⟨zs'.length,(cr).symm⟩ (ab g);exact ⟨_,rfl,ι',q1,q2,.tuple [] [] rfl fun i hi=>absurd hi (by simp)⟩
   |cut hm hn2 h0 hp h hl hk =>
    rename_i b n g k rest zs zs';subst hn2;obtain ⟨v',k',rfl,h2,h3⟩:=hrel.J8;have e3:k'=rest:=by
     refine (U9 h3.1 fun i hi=>?_).symm;exact ((h3.2 i hi).DK (aD.1 hp _ (getD_mem hi))).symm
    subst e3;cases h2 with
    |sl _ _ _ _ a' cap hsr =>
     obtain ⟨ib,hb,_,hcap,hcur⟩:=hsr;obtain ⟨c1,c2,c3⟩:=hcur (Mem.GV hm).symm;replace c3:a'.off=0+ib.sh∧a'.off+cap*ib.yx≤ib.lim:=c3.resolve_left (by omega);obtain ⟨blk,off,sp⟩:=a';simp only at c1 c2 c3;subst c1;subst c2;obtain ⟨c3,c4⟩:=c3;have c5:off=ib.sh:=by omega
     subst c5;rw [bg];refine (hc ib.blk ib.sh cap zs zs' (some k) k' w h hl (fun j hj=>by cases hj;exact hk) (holds_of hs hb hm) (hs.dom b ib hb).2 hcap h0).mono ?_;rintro x w' ⟨rfl,q,os,rfl⟩;obtain ⟨ι',q1,q2,q3⟩:=SL (q:=q) (os:=os) hs hb hm hl ⟨k,rfl⟩ (cI g);exact ⟨_,rfl,ι',q1,q2,.sl _ _ _ _ _ _ ⟨ib,q3,by rw [Mem.gen,Mem.get_put,if_pos rfl];exact ab _,by omega,fun _=>⟨rfl,rfl,.inr ⟨(cD _).symm,c4⟩⟩⟩⟩
  ·simp only at hv
   split at hv
   case isFalse=>cases hv
   have hr:=ZP hv;cases hr with
   |nil=>exact AL.refl _
   |put hm=>exact AL.put (Mem.O6 hm) rfl
   |cut hm=>exact AL.put (Mem.O6 hm) rfl
 ·rw [yh h] at hf
  exact hO f Fo hf
end
end Go.Vm
namespace Go.Vm
open Go.Am
section
variable {P:Program} {F0:Nat} {laid:List (String×DataW Unit)} {O O0:Cc} {ff:FuncId} {Fn:InF} {L:Frame} {H:Heap} {nx:Nat} {Q:PV→Heap→Nat→Prop} {w:Bool}
variable {dst:Option Tmp} {ty:TypeId} {pos:String} {af:Array Edge} {gd:Option (Nat×Bool)}
theorem Df.ints {m:Mem} {F:Nat→Prop}:∀ {zs:List Int} {vs:List Value},Df m F (cells zs) vs→vs=zs.map iV
 |[],_,h=>by cases h;rfl
 |z::zs,_,h=>by
  cases h with
  |cons h t=>cases h;rw [Df.ints t];rfl
theorem Df.ofInts (m:Mem) (F:Nat→Prop):∀ zs:List Int,Df m F (cells zs) (zs.map iV)
 |[]=>.nil
 |z::zs=>.cons (.int .i64 z) (Df.ofInts m F zs)
theorem sK (zs:List Int):(zs.map iV).all BH=true:=by
 rw [aD];intro x hx;obtain ⟨z,_,rfl⟩:=ba.1 hx;rfl
theorem kJ {m:Mem} {F:Nat→Prop} {σ:Nat→Value} (h1:Ctx (EO P F0 laid O).Γ m F σ H nx):∀ k∈AP P F0 laid,m.get k=(Bl P F0 laid).get k:=fun k hk=>by
 obtain ⟨hlt,e,l,hgl⟩:=Om hk;have:=(h1.gl k l e (by simp only [EO,gam,if_pos hlt,hgl,Option.map_some])).2.1;rw [this,Iz hlt,hgl]
theorem zT {E:Env} {m:Mem} {F:Nat→Prop} {σ:Nat→Value} {t:Tr Value} {b n:Nat} {e:TypeId} {zs:List Int} {z:Bool} {args:List Operand} {rest:List FV} (h1:Ctx E.Γ m F σ H nx) (h2:RL m F (htag H) σ nx L t)
 (ha:evs E.Γ L args=some (.vec b n 0 n::rest.map .p)) (hb:hget H b=some (.vec e (cells zs) n z)) (h0:0<n) :
 ∃ c g us,args.map (ev t)=.slice (some ⟨c,0,none⟩) n g::us∧Df m F rest us∧σ b=.slice (some ⟨c,0,none⟩) n g∧c<m.size∧¬ F c∧m.get c=.cells (zs.map iV) e g false:=by
 have hr:=QS h1 h2 ha;obtain ⟨_,hrb⟩:=h1.hp b _ hb;rcases hrb with ⟨_,r2,_⟩|⟨c,g,vs,r1,r2,r3,r4,r5,r6,r7⟩
 ·omega
 have hv:=Df.ints r5;subst hv;generalize args.map (ev t)=Bq at hr;cases hr with
 |cons h3 h4 =>
  rename_i v us;refine ⟨c,g,us,?_,Df.bU h4,r1,r2,r3,r4⟩;cases h3 with
  |vec hb' hc h =>
   have:=(h n (by simp [htag,hb,HB.tag])).2 rfl;simp only [FZ] at this;grind
theorem Aa.c1u {fo:Operand} {args:Array Operand} {aT:Array TypeId} {b n k:Nat} {e:TypeId} {zs zs':List Int} {z:Bool} {rest:List FV} {rv:List Value} (hO:O ff=inO (AP P F0 laid) (Bl P F0 laid) ff e Fn O0 ff)
 (hf:AU (EO P F0 laid O).Γ L fo=some (.clo ff [] [])) (ha:evs (EO P F0 laid O).Γ L args.toList=some (.vec b n 0 n::rest.map .p)) (hb:hget H b=some (.vec e (cells zs) n z)) (hrv:∀ m F us,Df m F rest us→us=rv) (hpl:rv.all Am.plainCell=true)
 (hn:zs.length=n) (h0:0<n) (hF:Fn zs rv=some (zs',some k)) (hl:zs'.length=n) (hk:k≤n)
 (q:Q (.vec nx k 0 k) ((nx,.vec e (cells (zs'.take k)) k false)::hdel H b) (nx+1)):Aa (EO P F0 laid O) true ⟨dst,.call { callee:=.value fo,args:=args,argTypes:=aT },ty,pos,af,gd⟩ L H nx Q:=by
 intro m F σ t h1 h2;obtain ⟨c,g,us,e1,e2,e3,e4,e5,e6⟩:=zT h1 h2 ha hb h0;have e7:=hrv m F us e2;subst e7;have hfv:=BA h1 h2 hf;generalize hfe:ev t fo=fv at hfv;cases hfv with
 |clo r1 r2 =>
  cases r1;cases r2;have hput':∀ d,c≠d→(m.put c (.cells ((zs'.take k).map iV) e (g+1) false)).get d=m.get d:=fun d hd=>by rw [Mem.get_put,if_neg hd]
  obtain ⟨c1,c2⟩:=h1.move (m':=m.put c (.cells ((zs'.take k).map iV) e (g+1) false)) (s':=.slice (some ⟨c,0,none⟩) k (g+1)) (x':=.vec e (cells (zs'.take k)) k false) hb (ab _) (fun d _ hd=>hput' d fun e'=>hd (by rw [e3,e'];rfl)) (fun k' k1 k2 k3=>by
   have:=k3 c (by rw [e3];rfl);simp only [Mem.put];omega) (fun d hd=>.inl (by rw [e3];exact hd)) (.inr ⟨c,g+1,_,rfl,e4,e5,by rw [Mem.get_put,if_pos rfl],Df.ofInts _ _ _,sK _,fun _=>rfl⟩)
  refine Gp.call (f:=ff) (Bq:=args.toList.map (ev t)) (fun call=>by simp only [BR,hfe];simp) (IV.bT (v:=.slice (some ⟨c,0,none⟩) k (g+1)) (m':=m.put c (.cells ((zs'.take k).map iV) e (g+1) false)) (show O ff=_ by rw [hO];exact if_pos rfl) ?_ ⟨_,_,_,F,_,q,c1,?_,c2,fun h=>by cases h⟩)
  ·rw [if_pos (kJ h1),e1]
   simp only [gQ,e6];rw [if_pos ⟨trivial,trivial,by rw [bk];exact hn,h0,hpl⟩,Vx];simp only [hF];rw [if_pos ⟨hl,hk⟩]
  ·refine .vec (bL _) rfl fun j hj=>?_
   rw [Jt,if_pos rfl] at hj;simp only [HB.tag,Option.some.injEq,Tg.vec.injEq] at hj;refine ⟨by omega,fun _=>?_⟩;rw [upd_same];exact rfl
theorem Aa.c2o {fo:Operand} {args:Array Operand} {aT:Array TypeId} {b n:Nat} {e:TypeId} {zs zs':List Int} {z:Bool} {rest:List FV} {rv:List Value} (hO:O ff=inO (AP P F0 laid) (Bl P F0 laid) ff e Fn O0 ff)
 (hf:AU (EO P F0 laid O).Γ L fo=some (.clo ff [] [])) (ha:evs (EO P F0 laid O).Γ L args.toList=some (.vec b n 0 n::rest.map .p)) (hb:hget H b=some (.vec e (cells zs) n z)) (hrv:∀ m F us,Df m F rest us→us=rv) (hpl:rv.all Am.plainCell=true)
 (hn:zs.length=n) (h0:0<n) (hF:Fn zs rv=some (zs',none)) (hl:zs'.length=n)
 (q:Q (.Eb []) (hput H b (.vec e (cells zs') n z)) nx):Aa (EO P F0 laid O) true ⟨dst,.call { callee:=.value fo,args:=args,argTypes:=aT },ty,pos,af,gd⟩ L H nx Q:=by
 intro m F σ t h1 h2;obtain ⟨c,g,us,e1,e2,e3,e4,e5,e6⟩:=zT h1 h2 ha hb h0;have e7:=hrv m F us e2;subst e7;have hz:n=0→z=false:=fun h=>by omega
 have hfv:=BA h1 h2 hf;generalize hfe:ev t fo=fv at hfv;cases hfv with
 |clo r1 r2 =>
  cases r1;cases r2;have hput':∀ d,c≠d→(m.put c (.cells (zs'.map iV) e g false)).get d=m.get d:=fun d hd=>by rw [Mem.get_put,if_neg hd]
  obtain ⟨c1,c2⟩:=h1.change (m':=m.put c (.cells (zs'.map iV) e g false)) (s':=σ b) (x':=.vec e (cells zs') n z) hb (WC.refl _) (fun _=>rfl) (ab _) (fun d _ hd=>hput' d fun e'=>hd (by rw [e3,e'];rfl)) (fun k' k1 k2 k3=>by
   have:=k3 c (by rw [e3];rfl);simp only [Mem.put];omega) (fun d hd=>.inl hd) (.inr ⟨c,g,_,e3,e4,e5,by rw [Mem.get_put,if_pos rfl],Df.ofInts _ _ _,sK _,hz⟩)
  refine Gp.call (f:=ff) (Bq:=args.toList.map (ev t)) (fun call=>by simp only [BR,hfe];simp) (IV.bT (v:=.tuple #[]) (m':=m.put c (.cells (zs'.map iV) e g false)) (show O ff=_ by rw [hO];exact if_pos rfl) ?_ ⟨_,_,_,F,_,q,c1,.Eb .nil,c2,fun h=>by cases h⟩);rw [if_pos (kJ h1),e1];simp only [gQ,e6];rw [if_pos ⟨trivial,trivial,by grind,h0,hpl⟩,Vx];grind
def c5w (E:Env) (g:FuncId) (ac:List PV) (Hc:Heap) (k:Nat) (e:TypeId) (cs:List FV) (n:Nat) (z:Bool):Prop:=AO E g ac Hc k fun r H' nx'=>r=.vec k n 0 n∧H'=(k,.vec e cs n z)::Hc∧nx'=k+1
end
end Go.Vm
namespace Go.Proofs.YtnjkoebfgcbbdaaGreatDoor
open Go Go.ChangeShapes Go.WideShapes Go.ChangeAt Go.WideMaps Go.WideElems Go.RowKit
def Ej:List (String×DataW Unit):=[("math/bits.deBruijn32tab",Rows.laid_math_bits_deBruijn32tab),("math/bits.deBruijn64tab",Rows.laid_math_bits_deBruijn64tab),("internal/strconv.uint64pow10",Rows.laid_internal_strconv_uint64pow10)]
theorem own:ownKnob Tryz.prog.godebug=none :=by decide
theorem laidOut:laidOutB Tryz.prog=true:=by kernel_rfl
theorem door_met (os:Os) (args:Array Value):laidMetH Tryz.prog Ej ((World.doorLaid Tryz.prog 400 os).forCall (fun _ _=>0) ⟨#[],args,[]⟩).memory :=
 laidMetH_of_parts3 (fuel:=8) (laidMet_of_run' 8 (by kernel_rfl) (by kernel_rfl)) (by kernel_rfl) (by kernel_rfl)
theorem a8x {W:World} (h:laidMetH Tryz.prog Ej W):laidMet Tryz.prog Ej W:=by
 assumption
end Go.Proofs.YtnjkoebfgcbbdaaGreatDoor
namespace Go.Proofs.YtnjkoebfgcbbdaaGreatDoor
section
open Go Go.Proofs Go.Shelf Go.RowKit
attribute [local go_sem] Oper.semAt_some
def Gn (p:Nat):List Nat:=(List.range 64).filter p.testBit
def Ep (lo hi:Nat):List Int:=(Gn lo).map (fun n:Nat=>(n:Int))++(Gn hi).map (fun n:Nat=>((64+n:Nat):Int))
theorem NQ:Gn 0=[] :=by decide
theorem xA {p t:Nat} (hp:p<18446744073709551616) (ht:t<64) (h1:p.testBit t=true) (h2:∀ i,i<t→p.testBit i=false) (h3:∀ i,i<64→(p &&& (p-1)).testBit i=(p.testBit i&&decide (i≠t))):Gn p=t::Gn (p &&& (p-1)):=by
 have split:∀ (f:Nat→Bool) (n:Nat),t<n→(∀ i,i<t→f i=false)→f t=true→(List.range n).filter f=t::(List.range n).filter (fun i=>f i&&decide (i≠t)):=by
  intro f n
  induction n with
  |zero=>simp
  |succ n ih =>
   intro hn hf ht1;rw [List.range_succ,di,di];by_cases hnt:t=n
   ·have e1:(List.range t).filter f=[]:=by
     simp_all
    have e2:(List.range t).filter (fun i=>f i&&decide (i≠t))=[]:=by
     simp_all
    grind
   grind
 unfold Gn;rw [split p.testBit 64 ht h2 h1];congr 1
 refine fS fun i hi=>?_
 grind
theorem KF (p:Nat):(Gn p).length≤64:=by
 have:=dr p.testBit (List.range 64);assumption
theorem UE {p:Nat} (h0:p≠0) (hp:p<18446744073709551616):Gn p=Lib.ctz 64 p::Gn (p &&& (p-1))∧Lib.ctz 64 p<64∧(p &&& (p-1))<p:=by
 obtain ⟨m,hm,ht⟩:=Lib.ctzFrom_spec 64 p (by omega) (by omega);have e:Lib.ctz 64 p=Lib.ctzFrom 64 p:=by simp [Lib.ctz,h0]
 rw [e];generalize Lib.ctzFrom 64 p=t at *;have h2:∀ i,p.testBit i=(decide (t≤i)&&(2*m+1).testBit (i-t)):=fun i=>by grind
 have h1:p.testBit t=true:=by grind
 have hlow:∀ i,i<t→p.testBit i=false:=fun i hi=>by grind
 have hle:p &&& (p-1)≤p-1:=Nat.and_le_right;have hpm:p-1=2 ^ t*(2*m)+(2 ^ t-1):=by
  grind
 have h3:∀ i,i<64→(p &&& (p-1)).testBit i=(p.testBit i&&decide (i≠t)):=fun i hi=>by
  rw [Nat.testBit_and];by_cases h4:i<t
  ·grind
  ·have e2:(p-1).testBit i=(2*m).testBit (i-t):=by
    rw [hpm,Nat.testBit_two_pow_mul_add _ (by grind),if_neg h4]
   rw [e2,h2 i];by_cases h5:i=t
   ·grind
   ·obtain ⟨j,hj⟩:∃ j,i-t=j+1:=⟨i-t-1,by omega⟩
    grind
 exact ⟨xA hp ht h1 hlow h3,ht,by omega⟩
def b4y:Go.Shelf.Ren:=⟨fun|29=>148|n=>n,fun|0=>0|3=>3|4=>4|5=>5|22=>82|25=>214|54=>304|n=>n,fun|1=>1|n=>n⟩
theorem c3i:Go.Proofs.Lays7.n29 Tryz.prog b4y:={
 mixed:=by rfl
 f29:=Tryz.func148.trans (congrArg some (by rfl))
 t0:=Tryz.underlying0
 a0:=Tryz.isAgg0
 z0:=Tryz.sizeOf0
 v0:=Tryz.zeroValue0
 i0:=by kernel_rfl
 t3:=Tryz.underlying3
 a3:=Tryz.isAgg3
 z3:=Tryz.sizeOf3
 v3:=Tryz.zeroValue3
 i3:=by kernel_rfl
 t4:=Tryz.underlying4
 a4:=Tryz.isAgg4
 z4:=Tryz.sizeOf4
 v4:=Tryz.zeroValue4
 i4:=by kernel_rfl
 t5:=Tryz.underlying5
 a5:=Tryz.isAgg5
 z5:=Tryz.sizeOf5
 v5:=Tryz.zeroValue5
 i5:=by kernel_rfl
 t22:=Tryz.underlying82
 a22:=Tryz.isAgg82
 z22:=Tryz.sizeOf82
 v22:=Tryz.zeroValue82
 i22:=by kernel_rfl
 t25:=Tryz.underlying214
 a25:=Tryz.isAgg214
 z25:=Tryz.sizeOf214
 v25:=Tryz.zeroValue214
 i25:=by kernel_rfl
 t54:=Tryz.underlying304
 a54:=Tryz.isAgg304
 z54:=Tryz.sizeOf304
 g1:=by kernel_rfl }
def c1y:Go.Shelf.Ren:=⟨fun|8=>107|11=>146|n=>n,fun|0=>0|24=>28|26=>3|28=>263|33=>158|n=>n,fun|n=>n⟩
theorem c2g:Go.Proofs.SlLaysZI.n8 Tryz.prog c1y:={
 mixed:=by rfl
 f8:=⟨"slices.Collect[int]",by decide,Tryz.func107.trans (congrArg some (by rfl))⟩
 f11:=⟨"slices.AppendSeq[[]int,int]",by decide,Tryz.func146.trans (congrArg some (by rfl))⟩
 t0:=Tryz.underlying0
 a0:=Tryz.isAgg0
 z0:=Tryz.sizeOf0
 v0:=Tryz.zeroValue0
 t24:=Tryz.underlying28
 a24:=Tryz.isAgg28
 z24:=Tryz.sizeOf28
 v24:=Tryz.zeroValue28
 t26:=Tryz.underlying3
 a26:=Tryz.isAgg3
 z26:=Tryz.sizeOf3
 v26:=Tryz.zeroValue3
 t28:=Tryz.underlying263
 a28:=Tryz.isAgg263
 z28:=Tryz.sizeOf263
 v28:=Tryz.zeroValue263
 i26:=by kernel_rfl }
def Oc (w:World):Prop:=TabAt 1 Lib.deBruijn64tab w
theorem MJ {n:Nat} {w w':World} (h:Oc w) (hn:1<n) (hb:Below n w w'):Oc w':=fun j hj=>by
 rw [← h j hj];exact World.cell?_of_block (a:=⟨1,j,none⟩) (hb.block _ hn)
theorem zA (x:Nat) (hx:x<18446744073709551616) (w:World) (hT:Oc w):Calls Tryz.prog 148 #[.int .u64 x] w fun e w'=>e=.returned (.int .i64 (Lib.ctz 64 x))∧w'=w :=
 Any7.bits_TrailingZeros64 (P:=Tryz.prog) (ρ:=b4y) c3i x hx w (fun _=>hT)
end
section
open Go Go.Proofs Go.Shelf Go.RowKit
attribute [local go_sem] Oper.semAt_some
def zx:Value→Int| .int _ q=>q|_=>0
def uV (F:Fence) (n:Nat) (P:Program) (g:Nat) (lb:Array Value) (S:List Int→Prop) (N:Nat) (w:World):Prop :=
 ∀ (l:Nat) (J:List Int→World→Prop) (W:World),(∀ s X,J s X→Below w.heap.size w X)→AbidesFrom W.heap.size J →
  (∀ pre x W1,J pre W1→pre.length<N→YieldAt F (n-1) P l #[encZ x] W1 fun e W'=>e=.returned (.bool true)∧J (pre++[x]) W'∧KeepsWalks W1 W') →
  J [] W →
  CallsIn F n P g (#[.func (.yield l) #[] #[]]++lb) W fun e W'=>(∃ v,e=.returned v)∧∃ xs,S xs∧J xs W'
def J7 (lo hi:Nat):Nat→List Int
 |0=>[]
 |1=>(Gn lo).map (fun n:Nat=>(n:Int))
 |_=>Ep lo hi
theorem a5u (lo hi k:Nat):(J7 lo hi k).length≤128:=by
 have h1:=KF lo;have h2:=KF hi
 match k with
 |0=>simp [J7]
 |1=>simp [J7];omega
 |k+2=>simp [J7,Ep];omega
theorem zD {done rest:List Int} {lo hi k:Nat} {x:Int} (h:done++(x::rest)=J7 lo hi k):done.length<128:=by
 have:=a5u lo hi k;grind
theorem QX {p:Nat} (hp:p<18446744073709551616):bits .and .u64 (p:Int) ((p-1:Nat):Int)=((p &&& (p-1):Nat):Int):=bits_and_u64_nat p (p-1) hp (by omega)
theorem Rf {p:Nat} (h0:p≠0) (hp:p<18446744073709551616):IntKind.u64.wrap ((p:Int)-1)=((p-1:Nat):Int):=by rw [IntKind.wrap_u64];omega
theorem b4x:Tryz.prog.underlying 265=some (.array 2 82):=by rfl
theorem a1g (w:World) (a b:Int):(Instr.index 265 (.agg #[.int .u64 a,.int .u64 b]) (.int .i64 0)).run Tryz.prog w=.ok (.int .u64 a) w:=by
 simp [Instr.index,run_underlying b4x,asIntOf,go_sem]
theorem a0w (w:World) (a b:Int):(Instr.index 265 (.agg #[.int .u64 a,.int .u64 b]) (.int .i64 1)).run Tryz.prog w=.ok (.int .u64 b) w:=by
 simp [Instr.index,run_underlying b4x,asIntOf,go_sem]
attribute [local go_sem] a1g a0w
theorem rJ (n:Nat) (hn:2≤n) (Bs lo hi:Nat) (hlo:lo<18446744073709551616) (hhi:hi<18446744073709551616) (w:World) (hT:Oc w) (hg:1<w.heap.size) (hB:Bs<w.heap.size)
 (c0:w.cell? ⟨Bs,0,none⟩=some (.int .u64 (lo:Int))) (c1:w.cell? ⟨Bs,1,none⟩=some (.int .u64 (hi:Int))) :
 uV Fence.wide n Tryz.prog 147 #[.pointer (some ⟨Bs,0,none⟩)] (fun xs=>xs=Ep lo hi) 128 w:=fun l J W hJb hJ hY h0=>by
 have hb0:=hJb _ _ h0;have d0:W.cell? ⟨Bs,0,none⟩=some (.int .u64 (lo:Int)):=(hb0.cell (p:=⟨Bs,0,none⟩) hB).trans c0;have d1:W.cell? ⟨Bs,1,none⟩=some (.int .u64 (hi:Int)):=(hb0.cell (p:=⟨Bs,1,none⟩) hB).trans c1;refine callsIn_of_wp Tryz.func147 rfl trivial ?_ rfl;simp only [Tryz.ntmps147,List.size_toArray,List.length_cons,List.length_nil,Nat.reduceAdd,Nat.reduceSub,Array.replicate_succ,Array.replicate_zero,List.push_toArray,List.append_toArray,List.nil_append,List.cons_append]
 gi_wp2
 gi_loopw [10] (fun i wr=>(i=.int .i64 0∧J (J7 lo hi 0) wr)∨(i=.int .i64 1∧J (J7 lo hi 1) wr)∨(i=.int .i64 2∧J (J7 lo hi 2) wr)) (fun i _=>(2-zx i).toNat)
 case atStart=>exact Or.inl ⟨rfl,h0⟩
 case round =>
  rcases hrel with ⟨rfl,hJs⟩|⟨rfl,hJs⟩|⟨rfl,hJs⟩
  ·gi_wp2
   gi_loopw [4] (fun v wr=>∃ p:Nat,p<18446744073709551616∧v=.int .u64 (p:Int)∧∃ done,J done wr∧done++(Gn p).map (fun n:Nat=>((64*0+n:Nat):Int))=J7 lo hi (0+1)) (fun v _=>(zx v).toNat)
   case atStart=>exact ⟨_,hlo,rfl,_,hJs,by simp [J7,Ep]⟩
   case round =>
    obtain ⟨p,hp,rfl,done,hJd,hdone⟩:=hrel;by_cases hp0:p=0
    ·subst hp0
     have hz:((0:Nat):Int)=0:=rfl;rw [NQ,eE,cN] at hdone
     gi_wp2
     go_roundw
     case rel=>exact Or.inr (Or.inl ⟨by first|rfl|simp,by rw [← hdone];exact hJd⟩)
     case measure=>simp [zx]
    ·obtain ⟨e1,e2,e3⟩:=UE hp0 hp
     rw [e1,bz] at hdone;have hTb:=MJ hT hg (hJb _ _ hJd);have htz:=zA p hp _ hTb;have hne:¬ ((p:Int)=0):=by omega
     have hw1:=Rf hp0 hp;have hw2:=QX hp;have hlt:=zD hdone;obtain ⟨x0,hx0⟩:∃ x0:Int,((64*0+Lib.ctz 64 p:Nat):Int)=x0:=⟨_,rfl⟩
     rw [hx0] at hdone;generalize Lib.ctz 64 p=t at *;have hw4:IntKind.i64.wrap (0+(t:Int))=x0:=by rw [QB (by omega) (by omega)];omega
     have hw5:IntKind.i64.wrap (t:Int)=x0:=by rw [QB (by omega) (by omega)];omega
     obtain ⟨fn,tmps,assign,body,hy,hR⟩:=hY done x0 _ hJd hlt
     gi_wp2
     refine ⟨trivial,fun _=>by omega,(callsIn_wide.2 htz).mono ?_⟩;rintro _ _ ⟨rfl,rfl⟩
     gi_wp2
     refine ⟨fun _=>by omega,hR.mono ?_⟩;rintro e W3 ⟨rfl,hJ3,hk3⟩
     gi_wp2
     go_roundw
     case rel=>exact ⟨p &&& (p-1),by omega,by first|rfl|simp,done++[x0],hJ3,by rw [cw];exact hdone⟩
     case measure=>simp [zx];omega
  ·gi_wp2
   gi_loopw [4] (fun v wr=>∃ p:Nat,p<18446744073709551616∧v=.int .u64 (p:Int)∧∃ done,J done wr∧done++(Gn p).map (fun n:Nat=>((64*1+n:Nat):Int))=J7 lo hi (1+1)) (fun v _=>(zx v).toNat)
   case atStart=>exact ⟨_,hhi,rfl,_,hJs,by simp [J7,Ep]⟩
   case round =>
    obtain ⟨p,hp,rfl,done,hJd,hdone⟩:=hrel;by_cases hp0:p=0
    ·subst hp0
     have hz:((0:Nat):Int)=0:=rfl;rw [NQ,eE,cN] at hdone
     gi_wp2
     go_roundw
     case rel=>exact Or.inr (Or.inr ⟨by first|rfl|simp,by rw [← hdone];exact hJd⟩)
     case measure=>simp [zx]
    ·obtain ⟨e1,e2,e3⟩:=UE hp0 hp
     rw [e1,bz] at hdone;have hTb:=MJ hT hg (hJb _ _ hJd);have htz:=zA p hp _ hTb;have hne:¬ ((p:Int)=0):=by omega
     have hw1:=Rf hp0 hp;have hw2:=QX hp;have hlt:=zD hdone;obtain ⟨x0,hx0⟩:∃ x0:Int,((64*1+Lib.ctz 64 p:Nat):Int)=x0:=⟨_,rfl⟩
     rw [hx0] at hdone;generalize Lib.ctz 64 p=t at *;have hw4:IntKind.i64.wrap (64+(t:Int))=x0:=by rw [QB (by omega) (by omega)];omega
     obtain ⟨fn,tmps,assign,body,hy,hR⟩:=hY done x0 _ hJd hlt
     gi_wp2
     refine ⟨trivial,fun _=>by omega,(callsIn_wide.2 htz).mono ?_⟩;rintro _ _ ⟨rfl,rfl⟩
     gi_wp2
     refine ⟨fun _=>by omega,hR.mono ?_⟩;rintro e W3 ⟨rfl,hJ3,hk3⟩
     gi_wp2
     go_roundw
     case rel=>exact ⟨p &&& (p-1),by omega,by first|rfl|simp,done++[x0],hJ3,by rw [cw];exact hdone⟩
     case measure=>simp [zx];omega
  ·gi_wp2
   go_end0
   exact ⟨⟨_,rfl⟩,_,rfl,hJs⟩
end
section
open Go Go.Proofs Go.Shelf Go.RowKit
attribute [local go_sem] Oper.semAt_some
section
variable {P:Program} {ρ:Ren}
theorem yI (L:SlLaysZI.n11 P ρ) (F:Fence) (n:Nat) (h11:F.fn (ρ.f 11)) (hro:F.round=none) (hn:2≤n) (g:Nat) (lb:Array Value) (hFg:F.fn g) (eg:∀ args w,(callFunc g args).run P w=.ok (.enter g args) w)
 (S:List Int→Prop) (N:Nat) (hN:N≤maxLen) (hNb:N*8≤140737488355328) (w:World) (hseq:uV F (n-1) P g lb S N w) :
 CallsIn F n P (ρ.f 11) #[.slice none 0 0,.func (.func g) #[] lb] w fun e w'=>∃ (v:Value) (ss:List Int),e=.returned v∧S ss∧w'.ownsRow w.heap.size (ρ.t 26) 1 v ss.length (ss.map encZ)∧(v=.slice none 0 0↔ss=[])∧Below w.heap.size w w':=by
 have h1:1≤n:=by omega
 have mixed:=L.mixed;have t0:=L.t0;have a0:=L.a0;have z0:=L.z0;have v0:=L.v0;have t24:=L.t24;have a24:=L.a24;have z24:=L.z24;have v24:=L.v24;have t26:=L.t26;have a26:=L.a26;have z26:=L.z26;have v26:=L.v26;have t28:=L.t28;have a28:=L.a28;have z28:=L.z28;have v28:=L.v28;have hne:ρ.t 24≠ρ.t 26:=fun e=>by have h:=L.t24;rw [e,L.t26] at h;cases h
 have u0:=run_underlying L.t0;have u24:=run_underlying L.t24;have u26:=run_underlying L.t26;have u28:=run_underlying L.t28;obtain ⟨_,_,FG⟩:=L.f11;refine callsIn_of_wp_marks FG rfl h11 ?_ hro;simp only [SlBodyZ.n11_ntmps ρ,List.size_toArray,List.length_cons,List.length_nil,Nat.reduceAdd,Nat.reduceSub,Array.replicate_succ,Array.replicate_zero,List.push_toArray,List.append_toArray,List.nil_append,List.cons_append]
 gi_wp2
 refine wpIn_rangeFunc ?_;intro fn hfn;rw [hro];obtain ⟨W0,hW0⟩:∃ W0,w.alloc (.cells #[.slice none 0 0] (ρ.t 24))=W0:=⟨_,rfl⟩
 have hs0:W0.heap.size=w.heap.size+1:=by rw [← hW0];simp
 have hv0:W0.heap[w.heap.size]?=some (.cells #[.slice none 0 0] (ρ.t 24) (0,0)):=by rw [← hW0];exact World.alloc_heap_new w _
 have hb0:Below w.heap.size w W0:=by rw [← hW0];exact (Below.refl _ w).alloc (ab _) _
 rw [hW0];obtain ⟨W1,hW1⟩:∃ W1,(W0.alloc (.deferred (some []))).alloc (.loop (AnyZI.apRec ρ fn (.func (.func g) #[] lb) w.heap.size W0.heap.size .ready none))=W1:=⟨_,rfl⟩
 have hold:∀ k,k<W0.heap.size→W1.heap[k]?=W0.heap[k]?:=fun k hk=>by
  rw [← hW1];exact (Below.heap_alloc _ _ k (by simp;omega)).trans (Below.heap_alloc _ _ k hk)
 have hb1:Below w.heap.size w W1:=by rw [← hW1];exact (hb0.alloc hb0.size _).alloc (by have:=hb0.size;simp;omega) _
 have hs1:W1.heap.size=W0.heap.size+2:=by rw [← hW1];simp
 have hM:AnyZI.ApAt ρ w fn (.func (.func g) #[] lb) w.heap.size (W0.heap.size+1) W0.heap.size [] W1 :=
  ⟨⟨_,(hold w.heap.size (by omega)).trans hv0,⟨rfl,.inl ⟨rfl,rfl⟩⟩,by simp⟩,
   by rw [← hW1];have:=World.alloc_heap_new (W0.alloc (.deferred (some []))) (.loop (AnyZI.apRec ρ fn (.func (.func g) #[] lb) w.heap.size W0.heap.size .ready none));rwa [World.size_alloc] at this,
   by rw [← hW1];exact (Below.heap_alloc _ _ _ (by simp)).trans (World.alloc_heap_new W0 _),hb1⟩
 refine ⟨W0.heap.size+1,[{ target:=.collected W0.heap.size,args:=#[] }],W1,{ target:=.fn (.func g) lb,args:=#[.func (.yield (W0.heap.size+1)) #[] #[]] },W1,g,
  #[.func (.yield (W0.heap.size+1)) #[] #[]]++lb,W1,?_,?_,?_,?_,fun _=>h1,?_⟩
 ·rw [← hW1];exact run_enterLoop_outer _ _ _ _ _
 ·simp [resolve,go_sem]
 ·intro f' hf';simp [Target.leads] at hf';subst hf';exact hFg
 ·simp [invoke,go_sem,eg]
 ·refine (hseq (W0.heap.size+1) (AnyZI.ApAt ρ w fn (.func (.func g) #[] lb) w.heap.size (W0.heap.size+1) W0.heap.size) W1 (fun _ _ h=>h.below) (AnyZI.ap_abides ρ _ _ _ _ _ _ _ hb1.size)
   (fun pre x W hJ hl=>AnyZI.apYield { L with } F (n-1-1) w fn hfn _ w.heap.size (W0.heap.size+1) W0.heap.size (by omega) (by omega) (by omega) (ab _) (by omega) N hN hNb pre x W hJ hl) hM).mono ?_
  rintro e W2 ⟨⟨v0,rfl⟩,ss,hS,h2⟩;obtain ⟨v,hv,hrow,hnil⟩:=h2.box;have hend:=run_endLoop (P:=P) h2.L (by simp [AnyZI.apRec]);obtain ⟨W3,hW3⟩:∃ W3,W2.putObj (W0.heap.size+1) (.loop { AnyZI.apRec ρ fn (.func (.func g) #[] lb) w.heap.size W0.heap.size .ready none with state:=.exhausted })=W3:=⟨_,rfl⟩
  rw [hW3] at hend;have hg3:W2.grownBy W3 (some (W0.heap.size+1)):=by rw [← hW3];exact grownBy_putObj_a _ _ _
  have hv3:W3.heap[w.heap.size]?=some (.cells #[v] (ρ.t 24) (0,0)):=by rw [← hW3];exact (World.putObj_heap_other (by omega)).trans hv
  have hK3:W3.heap[W0.heap.size]?=some (.deferred (some [])):=by rw [← hW3];exact (World.putObj_heap_other (by omega)).trans h2.K
  have hrow3:=hrow.kept hg3 (ownsRow_ne_a hrow h2.L (fun cur e=>by first|cases e|exact hne (Obj.cells.inj e).2.1));have hb3:Below w.heap.size w W3:=h2.below.grown hg3 h2.below.size (fun k e=>by cases e;omega);obtain ⟨hc3,hf3⟩:=cell_of_box_a hv3;clear hW3;refine ⟨none,W3,hend,?_⟩
  gi_wp2
  rw [← hs0];refine ⟨by simp,.inl ⟨_,_,rfl,run_takeDeferred hK3,?_⟩⟩;exact ⟨_,results_tmp rfl _ _ _,v,ss,rfl,hS,hrow3.kept (grownBy_putObj_a _ _ _) (ownsRow_ne_a hrow3 hK3 (fun cur e=>by first|cases e|exact hne (Obj.cells.inj e).2.1)),hnil,hb3.grown (grownBy_putObj_a _ _ _) hb3.size (fun k e=>by cases e;omega)⟩
theorem pW (L:SlLaysZI.n8 P ρ) (F:Fence) (n:Nat) (h8:F.fn (ρ.f 8)) (h11:F.fn (ρ.f 11)) (hro:F.round=none) (hn:3≤n) (g:Nat) (lb:Array Value) (hFg:F.fn g) (eg:∀ args w,(callFunc g args).run P w=.ok (.enter g args) w)
 (S:List Int→Prop) (N:Nat) (hN:N≤maxLen) (hNb:N*8≤140737488355328) (w:World) (hseq:uV F (n-1-1) P g lb S N w) :
 CallsIn F n P (ρ.f 8) #[.func (.func g) #[] lb] w fun e w'=>∃ (v:Value) (ss:List Int),e=.returned v∧S ss∧w'.ownsRow w.heap.size (ρ.t 26) 1 v ss.length (ss.map encZ)∧(v=.slice none 0 0↔ss=[])∧Below w.heap.size w w':=by
 have h1:1≤n:=by omega
 have e11:∀ args w,(callFunc (ρ.f 11) args).run P w=.ok (.enter (ρ.f 11) args) w:=L.f11.enters rfl;have mixed:=L.mixed;have t0:=L.t0;have a0:=L.a0;have z0:=L.z0;have v0:=L.v0;have t24:=L.t24;have a24:=L.a24;have z24:=L.z24;have v24:=L.v24;have t26:=L.t26;have a26:=L.a26;have z26:=L.z26;have v26:=L.v26;have t28:=L.t28;have a28:=L.a28;have z28:=L.z28;have v28:=L.v28;have u0:=run_underlying L.t0;have u24:=run_underlying L.t24;have u26:=run_underlying L.t26;have u28:=run_underlying L.t28;obtain ⟨_,_,FG⟩:=L.f8;refine callsIn_of_wp FG rfl h8 ?_ hro
 gi_wp2_with (gi_at_fn (ρ.f 11);refine (yI { L with } F (n-1) h11 hro (by omega) g lb hFg eg S N hN hNb _ hseq).mono ?_;rintro e w' ⟨v,ss,rfl,hS,hrow,hnil,hb⟩)
 go_ret
 exact ⟨v,ss,rfl,hS,hrow,hnil,hb⟩
end
end
section
open Go Go.Proofs Go.Shelf Go.RowKit
attribute [local go_sem] Oper.semAt_some
theorem ownsRow_base {w:World} {b b':Nat} {e:TypeId} {s:Nat} {v:Value} {n:Nat} {xs:List Value} (h:w.ownsRow b e s v n xs) (hb:b'≤b):w.ownsRow b' e s v n xs:=by
 obtain ⟨h1,h2⟩:=h;refine ⟨h1,?_⟩;rcases h2 with h|⟨g,cap,cur,e1,e2,r⟩
 ·grind
 ·exact .inr ⟨g,cap,cur,e1,am hb e2,r⟩
theorem all_in (lo hi:Int) (w:World):Calls Tryz.prog 108 #[.agg #[.int .u64 lo,.int .u64 hi]] w fun e w'=>e=.returned (.func (.func 147) #[] #[.pointer (some ⟨w.heap.size,0,none⟩)])∧w'=w.alloc (.cells #[.int .u64 lo,.int .u64 hi] 84):=by
 refine (callsIn_wide (n:=1)).1 ?_;refine callsIn_of_wp Tryz.func108 rfl trivial ?_ rfl
 gi_wp2
 go_ret
 simp
theorem a7p (args:Array Value) (w:World):(callFunc 147 args).run Tryz.prog w=.ok (.enter 147 args) w :=by simp
theorem yU (lo hi:Nat) (hlo:lo<18446744073709551616) (hhi:hi<18446744073709551616) (w:World) (hT:Oc w) (hg:1<w.heap.size) :
 Calls Tryz.prog 61 #[.agg #[.int .u64 (lo:Int),.int .u64 (hi:Int)]] w fun e w'=>∃ v,e=.returned v∧w'.ownsRow w.heap.size 3 1 v (Ep lo hi).length ((Ep lo hi).map encZ)∧(Ep lo hi=[]→v=.slice none 0 0)∧Below w.heap.size w w':=by
 refine (callsIn_wide (n:=9)).1 ?_;refine callsIn_of_wp Tryz.func61 rfl trivial ?_ rfl;simp only [Tryz.ntmps61,List.size_toArray,List.length_cons,List.length_nil,Nat.reduceAdd,Nat.reduceSub,Array.replicate_succ,Array.replicate_zero,List.push_toArray,List.append_toArray,List.nil_append,List.cons_append]
 gi_wp2
 refine ⟨trivial,(callsIn_wide.2 (all_in _ _ _)).mono ?_⟩;rintro _ _ ⟨rfl,rfl⟩
 gi_wp2
 obtain ⟨w1,hw1⟩:∃ w1,(w.alloc (.cells #[.int .u64 (lo:Int),.int .u64 (hi:Int)] 84)).alloc (.cells #[.int .u64 (lo:Int),.int .u64 (hi:Int)] 84)=w1:=⟨_,rfl⟩
 rw [hw1];have hb1:Below w.heap.size w w1:=by rw [← hw1];exact ((Below.refl _ w).alloc (ab _) _).alloc (by simp) _
 have hs1:w1.heap.size=w.heap.size+2:=by rw [← hw1];simp
 have c0:w1.cell? ⟨w.heap.size+1,0,none⟩=some (.int .u64 (lo:Int)):=by rw [← hw1];simp
 have c1:w1.cell? ⟨w.heap.size+1,1,none⟩=some (.int .u64 (hi:Int)):=by rw [← hw1];simp
 refine ⟨trivial,(pW c2g Fence.wide 8 trivial trivial rfl (by omega) 147 #[.pointer (some ⟨w.heap.size+1,0,none⟩)] trivial a7p (fun xs=>xs=Ep lo hi) 128 (by decide) (by decide) w1
  (rJ 6 (by omega) _ lo hi hlo hhi w1 (MJ hT hg hb1) (by omega) (by omega) c0 c1)).mono ?_⟩
 rintro e w' ⟨v,ss,rfl,rfl,hrow,hnil,hb⟩
 gi_wp2
 go_ret
 exact ⟨v,rfl,ownsRow_base hrow (by omega),fun h=>hnil.2 h,hb1.trans (hb.mono (by omega))⟩
end
section
open Go Go.Am Go.Vm
structure Td (F:Nat) (laid:List (String×DataW Unit)):Prop where
 nm:Tryz.prog.globalNamed "math/bits.deBruijn64tab"=some 1
 tab:∃ e,Hy Tryz.prog F laid 1=some (e,(Lib.deBruijn64tab.map (fun n:Nat=>(n:Int))).map fun z=>Value.int .u8 z)
 lt:1<Tryz.prog.globals.size
theorem aB {w:World} (hn:Tryz.prog.globalNamed "math/bits.deBruijn64tab"=some 1) (h:Lib.TabIs Tryz.prog w "math/bits.deBruijn64tab" .u8 (Lib.deBruijn64tab.map (fun n:Nat=>(n:Int)))):Oc w∧1<w.heap.size:=by
 unfold Lib.TabIs World.var? at h;rw [hn,gk] at h;split at h
 ·rename_i cs t f hc
  cases h;refine ⟨fun j hj=>?_,?_⟩
  ·unfold World.cell?
   grind
  grind
 grind
def a0e:List Value→Option (List Value)
 |[.int .u64 lo,.int .u64 hi]=>if (0≤lo∧lo<18446744073709551616)∧(0≤hi∧hi<18446744073709551616) then some ((Ep lo.toNat hi.toNat).map Go.encZ) else none
 |_=>none
def a9m:FrF
 |[.agg cs]=>a0e cs.toList
 |_=>none
theorem yV {l r:List Value} (h:a0e l=some r):∃ lo hi:Int,l=[.int .u64 lo,.int .u64 hi]∧(0≤lo∧lo<18446744073709551616)∧(0≤hi∧hi<18446744073709551616)∧r=(Ep lo.toNat hi.toNat).map Go.encZ:=by
 unfold a0e at h;grind
theorem a4k {F:Nat} {laid:List (String×DataW Unit)} (ht:Td F laid):∀ ι m w us (us':Array Value) l,Du Tryz.prog (AP Tryz.prog F laid) ι m w→(∀ k∈AP Tryz.prog F laid,m.get k=(Bl Tryz.prog F laid).get k)→Bo ι m.gen us us'.toList→a9m us=some l →
 l.all Am.plainCell=true∧Calls Tryz.prog 61 us' w fun r w'=>∃ v,r=.returned v∧w'.ownsRow w.heap.size 3 1 v l.length l∧(l=[]→v=.slice none 0 0)∧Go.RowKit.Below w.heap.size w w':=by
 intro ι m w us us' l hs hg hl h;unfold a9m at h;split at h
 ·rename_i cs
  obtain ⟨lo,hi,e0,hb1,hb2,rfl⟩:=yV h
  ·have e3:cs=#[.int .u64 lo,.int .u64 hi]:=fT e0
   subst e3;obtain ⟨v',rfl,hv⟩:=Bo.one hl;have hv':=hv.BP rfl;obtain ⟨e,t1⟩:=ht.tab;obtain ⟨h1,h2⟩:=aB ht.nm (YI hs hg ht.nm t1 ht.lt);refine ⟨?_,?_⟩
   ·rw [aD]
    intro x hx;obtain ⟨z,_,rfl⟩:=ba.1 hx;rfl
   ·have:=yU lo.toNat hi.toNat (by omega) (by omega) w h1 h2
    grind
 grind
end
end Go.Proofs.YtnjkoebfgcbbdaaGreatDoor
namespace Go.Am
section
variable {P:Program} {c0 c1:EC} (h:∀ f Bq m r,c0 f Bq m=some r→c1 f Bq m=some r)
include h
end
structure OLe (P:Program) (O0 O1:Cc):Prop where
 same:∀ f Bq m r,(O0 f).bind (fun F=>F Bq m)=some r→(O1 f).bind (fun F=>F Bq m)=some r
 more:∀ f Bq m r,(O1 f).bind (fun F=>F Bq m)=some r→(O0 f).bind (fun F=>F Bq m)=none→∀ fn,P.funcs[f]?=some fn→fn.ntmps<Bq.length
end Go.Am
namespace Go.Vm
section
open Go.Am
section
variable {P:Program}
def b0g (d:TypeDesc) (x y:Value):Option Bool :=
 match d,x,y with
 | .int _,.int k a,.int k' b=>if k=k' then some (decide (a=b)) else none
 | .bool,.bool a,.bool b=>some (a==b)
 | .string,.string a,.string b=>some (decide (a.data.toList=b.data.toList))
 |_,_,_=>none
def gZ (P:Program):List Field→Array Value→Array Value→Option Bool
 |[],_,_=>some true
 |f::fs,xs,ys=>if f.name="_" then none else
  match Gv P f.type,P.underlying f.type,xs[f.offset]?,ys[f.offset]?,gZ P fs xs ys with
  |some false,some d,some x,some y,some r=>(b0g d x y).map (·&&r)
  |_,_,_,_,_=>none
theorem Np (a b:ByteArray):(a==b)=decide (a.data.toList=b.data.toList):=by
 rw [beq_toListBytes,ByteArray.toList_eq,ByteArray.toList_eq];grind
theorem Rt {d:Nat} {t:TypeId} {td:TypeDesc} {x y:Value} {r:Bool} (ht:P.underlying t=some td) (h:b0g td x y=some r):Dt P (Op.equalIn (d+1) t x y)=some r:=by
 unfold b0g at h;split at h
 ·split at h
  ·rename_i hk
   subst hk;cases h;rename_i a b;simp only [Op.equalIn,Ar,AV,ht,Option.bind_some,if_true];rfl
  grind
 ·cases h
  simp only [Op.equalIn,Ar,AV,ht,Option.bind_some];rfl
 ·cases h
  simp only [Op.equalIn,Ar,AV,ht,Option.bind_some,Np];rfl
 grind
theorem Gg {t:TypeId} {cs:Array Value} {o:Nat} {v:Value} (ha:Gv P t=some false) (hv:cs[o]?=some v):Dt P (part t cs o)=some v:=by
 simp only [part,Ar,Rj,ha,Option.bind_some,Bool.false_eq_true,if_false,hv];rfl
theorem jq {d:Nat} (xs ys:Array Value) {g:Option Bool×Unit→Sem Bool} (g0:g (none,())=pure true) (g1:∀ b,g (some b,())=pure b):∀ (fs:List Field) (r:Bool),gZ P fs xs ys=some r →
 Dt P ((forIn fs ((none,()):Option Bool×Unit) fun f _=>(do
     if f.name≠"_" then
      if (!(← Op.equalIn (d+1) f.type (← part f.type xs f.offset) (← part f.type ys f.offset)))=true then pure (ForInStep.done (some false,())) else pure (ForInStep.yield (none,()))
     else pure (ForInStep.yield (none,())):Sem (ForInStep (Option Bool×Unit)))) >>= g)=some r
 |[],r,h=>by
  cases h;simp only [List.forIn_nil,Ar,BQ,Option.bind_some,g0]
 |f::fs,r,h=>by
  unfold gZ at h;split at h
  ·cases h
  rename_i hn;split at h
  ·rename_i td x y r' h1 h2 h3 h4 h5
   simp only [Option.map_eq_some_iff] at h;obtain ⟨b,h6,rfl⟩:=h;have ih:=jq (d:=d) xs ys g0 g1 fs r' h5;rw [em];simp only [Ar,ne_eq,hn,not_false_eq_true,if_true,Gg h1 h3,Gg h1 h4,Option.bind_some,Rt h2 h6];cases b with
   |false=>simp [BQ,g1]
   |true =>
    simp only [Bool.not_true,Bool.false_eq_true,if_false,BQ,Option.bind_some,Bool.true_and];rw [Ar] at ih;omega
  grind
theorem Oi {d:Nat} {t:TypeId} {fs:Array Field} {xs ys:Array Value} {r:Bool} (ht:P.underlying t=some (.struct fs)) (hp:P.stoodInHeld t=false) (h:gZ P fs.toList xs ys=some r) :
 Dt P (Op.equalIn (d+2) t (.agg xs) (.agg ys))=some r:=by
 rw [Op.equalIn];simp only [Ar,AV,ht,Option.bind_some,program,Dt,hp,Bool.false_eq_true,if_false];rw [← eI,← Ar];exact jq (d:=d) xs ys rfl (fun b=>rfl) fs.toList r h
def iU:FV→Option Value
 | .int k n=>some (.int k n)
 | .bool b=>some (.bool b)
 | .str s=>some (.string s)
 |_=>none
def FB:List FV→Option (List Value)
 |[]=>some []
 |x::l=>match iU x,FB l with
  |some v,some r=>some (v::r)
  |_,_=>none
theorem a2p {m:Mem} {F:Nat→Prop} {x:FV} {u v:Value} (h:RF m F x u) (hv:iU x=some v):u=v∧Am.plainCell v=true:=by
 cases h<;>simp only [iU,Option.some.injEq,reduceCtorEq] at hv
 all_goals (subst hv;exact ⟨rfl,rfl⟩)
theorem OJ {m:Mem} {F:Nat→Prop}:∀ {l:List FV} {us vs:List Value},Df m F l us→FB l=some vs→us=vs∧vs.all Am.plainCell=true
 |[],_,_,.nil,h=>by cases h;simp
 |x::l,_,_,.cons h t,hv=>by
  simp only [FB] at hv;split at hv
  ·rename_i v r h1 h2
   cases hv;obtain ⟨rfl,p1⟩:=a2p h h1;obtain ⟨rfl,p2⟩:=OJ t h2;grind
  grind
def kX (P:Program) (t:TypeId) (xs ys:List FV):Option Bool :=
 match P.underlying t,FB xs,FB ys with
 |some (.struct fs),some vs,some ws=>gZ P fs.toList vs.toArray ws.toArray
 |_,_,_=>none
def aY (P:Program) (t:TypeId):Bool:=!(P.stoodInHeld t)&&!(P.eqGuardType P.depth t)
theorem a8k {t:TypeId} {xs ys:List FV} {vs ws:List Value} {r:Bool} {op:BinOp} {x y:Operand} (hf:aY P t=true) (h:kX P t xs ys=some r) (hv:FB xs=some vs) (hw:FB ys=some ws) (hop:op=.eql∨op=.neq) :
 Dt P (do eqGuard op t x y (.agg vs.toArray) (.agg ws.toArray);binOp op t (.agg vs.toArray) (.agg ws.toArray))=some (.bool (if op=.eql then r else !r)):=by
 simp only [aY,Bool.and_eq_true,Bool.not_eq_true'] at hf;unfold kX at h;rw [hv,hw] at h;split at h
 ·rename_i fs vs' ws' h1 h2 h3
  cases h2;cases h3;have h4:Dt P (Op.equal t (.agg vs.toArray) (.agg ws.toArray))=some r:=Oi (d:=9998) h1 hf.1 h;have h5:Dt P (eqGuard op t x y (.agg vs.toArray) (.agg ws.toArray))=some ():=by
   rcases hop with rfl|rfl<;>simp [eqGuard,Ar,program,Dt,hf.2,BQ]
  rcases hop with rfl|rfl
  ·rw [Ar,h5,gk]
   show Dt P (do pure (.bool (← Op.equal t (.agg vs.toArray) (.agg ws.toArray))):Sem Value)=_;simp only [Ar,h4,Option.bind_some,BQ];rfl
  ·rw [Ar,h5,gk]
   show Dt P (do pure (.bool (!(← Op.equal t (.agg vs.toArray) (.agg ws.toArray)))):Sem Value)=_;simp only [Ar,h4,Option.bind_some,BQ];rfl
 grind
end
section
variable {E:Env} {L:Frame} {H:Heap} {nx:Nat} {Q:PV→Heap→Nat→Prop} {w:Bool}
variable {dst:Option Tmp} {ty:TypeId} {pos:String} {af:Array Edge} {gd:Option (Nat×Bool)}
theorem Aa.kX {op:BinOp} {t t2:TypeId} {x y:Operand} {xs ys:List FV} {r:Bool} (hx:AU E.Γ L x=some (.p (.agg xs))) (hy:AU E.Γ L y=some (.p (.agg ys))) (hop:op=.eql∨op=.neq) (hf:aY E.P t=true) (h:Vm.kX E.P t xs ys=some r)
 (q:Q (.p (.bool (if op=.eql then r else !r))) H nx):Aa E w ⟨dst,.binOp op t x y t2,ty,pos,af,gd⟩ L H nx Q :=
 Aa.quiet q fun m F σ tt c1 c2=>by
  obtain ⟨vs,hv⟩:∃ vs,FB xs=some vs:=by
   cases hv:FB xs with
   |some vs=>simp
   |none=>unfold Vm.kX at h;grind
  obtain ⟨ws,hw⟩:∃ vs,FB ys=some vs:=by
   cases hw:FB ys with
   |some vs=>simp
   |none=>unfold Vm.kX at h;grind
  have e1:ev tt x=.agg vs.toArray∧vs.all Am.plainCell=true:=by
   have:=BA c1 c2 hx;generalize ev tt x=u at this;cases this with
   |p h1=>cases h1 with
    |agg h1 hc=>obtain ⟨rfl,hp⟩:=OJ h1 hv;grind
  have e2:ev tt y=.agg ws.toArray∧ws.all Am.plainCell=true:=by
   have:=BA c1 c2 hy;generalize ev tt y=u at this;cases this with
   |p h1=>cases h1 with
    |agg h1 hc=>obtain ⟨rfl,hp⟩:=OJ h1 hw;grind
  have hd:=a8k (x:=x) (y:=y) hf h hv hw hop;refine ⟨_,fun _=>?_,.p (.bool _)⟩;simp only [BR,Fq,e1.1,e2.1];have hpl:(plain (.agg vs.toArray)&&plain (.agg ws.toArray))=true:=by
   simp only [plain,F8,Bool.and_eq_true];grind
  have:Ph E.P op t x y (.agg vs.toArray) (.agg ws.toArray)=some (.bool (if op=.eql then r else !r)):=by
   simp only [Ph,hpl,if_true];exact KD hd rfl
  grind
theorem Aa.b5p {t t2:TypeId} {x y:Operand} {xs ys:List FV} {r:Bool} (hx:AU E.Γ L x=some (.p (.agg xs))) (hy:AU E.Γ L y=some (.p (.agg ys))) (hf:aY E.P t=true) (h:Vm.kX E.P t xs ys=some r)
 (q:Q (.p (.bool r)) H nx):Aa E w ⟨dst,.binOp .eql t x y t2,ty,pos,af,gd⟩ L H nx Q:=Aa.kX hx hy (.inl rfl) hf h q
theorem Aa.Vd {t e e':TypeId} {x ix:Operand} {n b off:Nat} {cs:List PV} {k:IntKind} {i:Int} {inf:TypeInfo} (hx:AU E.Γ L x=some (.ref b off)) (hb:hget H b=some (.box e' cs)) (hi:AU E.Γ L ix=some (.p (.int k i)))
 (ht:E.P.underlying t=some (.array n e)) (hs:E.P.info? e=some inf) (h:0≤i∧i<n) (q:Q (.ref b (off+i.toNat*inf.size)) H nx):Aa E w ⟨dst,.indexAddr t x ix,ty,pos,af,gd⟩ L H nx Q :=
 Aa.quiet q fun m F σ tt h1 h2=>by
  obtain ⟨c,h3,h4⟩:=YZ h1 h2 hx hb;refine ⟨.pointer (some ⟨c,off+i.toNat*inf.size,none⟩),fun _=>?_,.ref (h1.hp b _ hb).1 rfl fun _=>⟨c,h4,rfl⟩⟩;simp only [BR,Fq,ht,h3,CO h1 h2 hi,hs,h,and_self,if_true]
theorem Aa.b0b {t:TypeId} {a:Operand} {b o:Nat} {e:TypeId} {cs:List PV} {r:PV} (ha:AU E.Γ L a=some (.ref b o)) (hb:hget H b=some (.box e cs)) (ht:Gv E.P t=some false) (hr:cs[o]?=some r) (q:Q r H nx) :
 Aa E w ⟨dst,.load t a,ty,pos,af,gd⟩ L H nx Q:=by
 refine Aa.load ha ?_ q;simp only [gq,hb,a0x,ht];simp_all
theorem Aa.Ig {s d e e2:TypeId} {x:Operand} {b:Nat} {z:Bool} {n:Int} (hx:AU E.Γ L x=some (.vec b 1 0 1)) (hb:hget H b=some (.vec e2 [.int .u8 n] 1 z)) (hs:E.P.underlying s=some (.slice e)) (hd:E.P.underlying d=some .string) (he:E.P.underlying e=some (.int .u8)) (hn:0≤n∧n<256)
 (q:Q (st [UInt8.ofNat n.toNat]) H nx):Aa E w ⟨dst,.convert s d x,ty,pos,af,gd⟩ L H nx Q :=
 Aa.quiet q fun m F σ tt c1 c2=>by
  obtain ⟨hl1,vs,hl2,hl3,hl4⟩:=sS.all (sz:=1) hx hb rfl m F σ tt c1 c2;have hc:cells [UInt8.ofNat n.toNat]=[.int .u8 n]:=by
   show [FV.int .u8 (((UInt8.ofNat n.toNat).toNat:Nat):Int)]=_;rw [UInt8.toNat_ofNat'];grind
  rw [← hc] at hl3;have hvs:=Qz hl3;subst hvs;have hsub:=JH c1 c2 hx hb;have hag:∃ a g,ev tt x=.slice a 1 g:=by
   unfold FZ at hsub;grind
  obtain ⟨a,g,hag⟩:=hag;rw [hag] at hl2;refine ⟨.string (bs [UInt8.ofNat n.toNat]),fun _=>?_,.p (.str _)⟩;have hsl:(Jj E.P s||Jj E.P d)=true:=by simp only [Jj,hs,hd];rfl
  simp only [BR,Fq,hsl,if_true,Xy,hs,hd,hag,he,hl2,PO];rfl
theorem Aa.c3a {t t2:TypeId} {x y:Operand} {a b:List UInt8} {r:Bool} (hx:AU E.Γ L x=some (st a)) (hy:AU E.Γ L y=some (st b)) (hr:decide (a=b)=r) (q:Q (.p (.bool r)) H nx) :
 Aa E w ⟨dst,.binOp .eql t x y t2,ty,pos,af,gd⟩ L H nx Q:=Aa.eqS hx hy (by grind)
theorem Aa.c2k {t t2:TypeId} {x y:Operand} {a b:List UInt8} {r:Bool} (hx:AU E.Γ L x=some (st a)) (hy:AU E.Γ L y=some (st b)) (hr:decide (a=b)=r) (q:Q (.p (.bool (!r))) H nx) :
 Aa E w ⟨dst,.binOp .neq t x y t2,ty,pos,af,gd⟩ L H nx Q:=Aa.neS hx hy (by grind)
end
end
section
open Go.Am
def b8g (H:Heap):PV→Option Nat
 | .ref b _=>match hget H b with
  |some (.box _ _)=>some b
  |_=>none
 | .vec b n _ _=>match hget H b with
  |some (.vec _ _ k _)=>match Nat.decEq n k with
   | .isTrue _=>some b
   | .isFalse _=>none
  |_=>none
 | .Fj b n _=>match hget H b with
  |some (.vec _ _ k _)=>match Nat.decEq n k with
   | .isTrue _=>some b
   | .isFalse _=>none
  |_=>none
 |_=>none
def b0t:PV→Bool
 | .p (.ES _)=>true
 | .p (.lst _ _ _)=>true
 | .p (.val (.slice none _ _))=>true
 |_=>false
inductive NG (H:Heap):PV→Nat→Prop
 |ref {b off:Nat} {e:TypeId} {cs:List PV} (h:hget H b=some (.box e cs)):NG H (.ref b off) b
 |vec {b n off len:Nat} {e:TypeId} {cs:List FV} {z:Bool} (h:hget H b=some (.vec e cs n z)):NG H (.vec b n off len) b
 |Fj {b n off:Nat} {e:TypeId} {cs:List FV} {z:Bool} (h:hget H b=some (.vec e cs n z)):NG H (.Fj b n off) b
def b4l (H:Heap) (b:Nat) (y:PV):Bool:=match b8g H y with
 |some c=>match Nat.decEq b c with
  | .isTrue _=>false
  | .isFalse _=>true
 |none=>b0t y
section
variable {Γ:Nat→Option (List Value×TypeId)} {m:Mem} {F:Nat→Prop} {σ:Nat→Value} {H:Heap} {nx:Nat} {L:Frame} {t:Tr Value}
theorem NG.blk (hx:Ctx Γ m F σ H nx) (hl:RL m F (htag H) σ nx L t) {o:Operand} {x:PV} {b:Nat} (h:AU Γ L o=some x) (ho:NG H x b):∃ y,hget H b=some y∧∀ c,Ib (ev t o)=some c→Dc (σ b)=some c:=by
 cases ho with
 |ref hb =>
  obtain ⟨c,h1,h2⟩:=YZ hx hl h hb;refine ⟨_,hb,fun d hd=>?_⟩;rw [h1] at hd;rw [h2];exact hd
 |vec hb =>
  have hsub:=JH hx hl h hb;refine ⟨_,hb,fun d hd=>?_⟩;unfold FZ at hsub;split at hsub
  ·rename_i c k' g hs
   rw [hsub] at hd;rw [hs];exact hd
  ·rename_i hne
   obtain ⟨h1,_,_⟩:=hsub;rcases (hx.hp b _ hb).2 with ⟨_,_,r3⟩|⟨c,g,vs,r1,_⟩
   ·rcases r3 with ⟨r3,_⟩|⟨b2,o2,g2,r3,_⟩
    ·rw [h1,r3] at hd;cases hd
    ·rw [h1,r3] at hd;cases hd
   grind
 |Fj hb =>
  obtain ⟨c,k',g,h1,h2⟩:=rH hx hl h hb;refine ⟨_,hb,fun d hd=>?_⟩;rw [h1] at hd;rw [h2];exact hd
theorem a7j {x:PV} {b:Nat} (ho:b8g H x=some b):NG H x b:=by
 unfold b8g at ho;split at ho
 ·split at ho
  ·rename_i hb;cases ho;exact .ref hb
  grind
 ·split at ho
  ·rename_i hb
   split at ho
   ·rename_i hn _;cases ho;subst hn;exact .vec hb
   grind
  grind
 ·split at ho
  ·rename_i hb
   split at ho
   ·rename_i hn _;cases ho;subst hn;exact .Fj hb
   grind
  grind
 grind
theorem pR (hx:Ctx Γ m F σ H nx) (hl:RL m F (htag H) σ nx L t) {o:Operand} {x:PV} (h:AU Γ L o=some x) (ho:b0t x=true):∀ c,Ib (ev t o)=some c→F c:=by
 have hr:=BA hx hl h;generalize ev t o=v at *;intro c hc;unfold b0t at ho;split at ho
 ·cases hr with
  |p hr=>cases hr with|ES hF=>simp only [Ib,Option.some.injEq] at hc;grind
 ·cases hr with
  |p hr =>
   cases hr with
   |nil=>cases hc
   |room=>cases hc
   |lst hF=>simp only [Ib,Option.some.injEq] at hc;grind
 ·cases hr with
  |p hr=>cases hr with|val=>cases hc
 grind
theorem b4j (hx:Ctx Γ m F σ H nx) (hl:RL m F (htag H) σ nx L t) {o r:Operand} {x y:PV} {b:Nat} (h:AU Γ L o=some x) (hb:NG H x b) (h2:AU Γ L r=some y) (hs:b4l H b y=true):a0i (Ib (ev t r)) (Ib (ev t o))=true:=by
 obtain ⟨u,hu,hub⟩:=hb.blk hx hl h;cases hd:Ib (ev t o) with
 |none=>cases Ib (ev t r)<;>rfl
 |some d =>
  have hbd:=hub d hd;cases he:Ib (ev t r) with
  |none=>rfl
  |some e =>
   simp only [a0i,bne_iff_ne,ne_eq];intro hde;subst hde;unfold b4l at hs;split at hs
   ·rename_i c hc
    obtain ⟨u',hu',hub'⟩:=(a7j hc).blk hx hl h2;have hce:=hub' e he;have:=hx.sep b c u u' e hu hu' hbd hce;split at hs
    ·grind
    omega
   ·exact (hx.LJ ⟨b,u,hu,hbd⟩).1 (pR hx hl h2 hs e he)
end
def b6o:Operand→Operand→Bool
 | .tmp a,.tmp b=>a==b
 | .global a,.global b=>a==b
 |_,_=>false
def sV:List (Option Operand)→List Operand→Bool
 |[],[]=>true
 |some a::l,b::r=>b6o a b&&sV l r
 |_,_=>false
theorem b2p {a b:Operand} (h:b6o a b=true):a=b:=by
 cases a<;>cases b<;>simp only [b6o,beq_iff_eq,Bool.false_eq_true] at h<;>rw [h]
theorem Y6:∀ {l:List (Option Operand)} {r:List Operand},sV l r=true→l=r.map some
 |[],[],_=>rfl
 |some a::l,b::r,h=>by
  simp only [sV,Bool.and_eq_true] at h;rw [bz,b2p h.1,Y6 h.2]
def zZ (Γ:Nat→Option (List Value×TypeId)) (L:Frame) (H:Heap) (x:Nat):List Operand→Bool
 |[]=>true
 |r::l=>(match AU Γ L r with
  |some y=>b4l H x y
  |none=>false)&&zZ Γ L H x l
def a1b (Γ:Nat→Option (List Value×TypeId)) (L:Frame):List Operand→Bool
 |[]=>true
 |r::l=>(match AU Γ L r with
  |some y=>b0t y
  |none=>false)&&a1b Γ L l
section
variable {E:Env} {L:Frame} {H:Heap} {nx:Nat}
variable {dst:Option Tmp} {ty:TypeId} {pos:String} {af:Array Edge} {gd:Option (Nat×Bool)}
variable {bn:Nat} {ops:Array Oper} {op:Op} {l:List Oper} {i:Nat} {R:Frame→Heap→Nat→Prop}
theorem Ag.atIdx (n:Nat) (h:Ag E bn ops n l L H nx R):Ag E bn ops n l L H nx R:=h
theorem Ag.weak {wo:Operand} {x:PV} {b:Nat} (rs:List Operand) (hw:kT E.P ops i=true) (hi:(ops[i]?).bind (fun o=>vW o.op)=some wo) (hx:AU E.Γ L wo=some x) (hb:NG H x b) (hr:sV (Iw ops i) rs=true) (hs:zZ E.Γ L H b rs=true)
 (h:Aa E true ⟨dst,op,ty,pos,af,none⟩ L H nx fun r H' nx'=>Ag E bn ops (i+1) l (H6 L dst r) H' nx' R):Ag E bn ops i (⟨dst,op,ty,pos,af,none⟩::l) L H nx R:=by
 intro B hB m F σ t h1 h2 h3;have hfree:Qp ops i t=true:=by
  unfold Qp;rw [hi];rw [Y6 hr,aD];intro r hmem;rw [ba] at hmem;obtain ⟨r0,hr0,rfl⟩:=hmem;have key:∀ rs:List Operand,zZ E.Γ L H b rs=true→r0∈rs→∃ y,AU E.Γ L r0=some y∧b4l H b y=true:=by
   intro rs
   induction rs with
   |nil=>simp
   |cons a rs ih =>
    intro h hm;simp only [zZ,Bool.and_eq_true] at h;grind
  obtain ⟨y,hy,hys⟩:=key rs hs hr0;exact b4j h1 h2 hx hb hy hys
 refine IZ.cons (Jd.wanted (L:=L) h1 h2 rfl) ((h (m.at m.size) F σ t (h1.at _) (RL.at (Γ:=E.Γ) _ h2)).mono ?_);rintro v m' ⟨r,H',nx',F',σ',q,c1,c2,c3,c4⟩;refine ⟨.inr (.inr (.inl ⟨hw,hfree⟩)),?_⟩;exact q B hB _ F' σ' _ (c1.at _) (RL.at (Γ:=E.Γ) _ (((RL.at (Γ:=E.Γ) _ h2).step c3 (h1.at _)).put c2)) (h3.trans c3.at)
theorem Ag.c2j (rs:List Operand) (hw:QC E.P ops i=true) (hr:sV (Iw ops i) rs=true) (hs:a1b E.Γ L rs=true)
 (h:Aa E true ⟨dst,op,ty,pos,af,none⟩ L H nx fun r H' nx'=>Ag E bn ops (i+1) l (H6 L dst r) H' nx' R):Ag E bn ops i (⟨dst,op,ty,pos,af,none⟩::l) L H nx R:=by
 intro B hB m F σ t h1 h2 h3;refine IZ.cons (Jd.wanted (L:=L) h1 h2 rfl) ((h (m.at m.size) F σ t (h1.at _) (RL.at (Γ:=E.Γ) _ h2)).mono ?_);rintro v m' ⟨r,H',nx',F',σ',q,c1,c2,c3,c4⟩;have hleave:LQ ops i t m m'=true:=by
  unfold LQ;rw [Y6 hr,aD];intro r hmem;rw [ba] at hmem;obtain ⟨r0,hr0,rfl⟩:=hmem;simp only;have key:∀ rs:List Operand,a1b E.Γ L rs=true→r0∈rs→∃ y,AU E.Γ L r0=some y∧b0t y=true:=by
   intro rs
   induction rs with
   |nil=>simp
   |cons a rs ih =>
    intro h hm;simp only [a1b,Bool.and_eq_true] at h;grind
  obtain ⟨y,hy,hys⟩:=key rs hs hr0;split
  ·rename_i b hb
   have hF:=pR h1 h2 hy hys b hb;exact @decide_eq_true _ (Classical.propDecidable _) (c3.keep b (h1.fr b hF) fun ho=>(h1.LJ ho).1 hF)
  ·rfl
 refine ⟨.inr (.inr (.inr ⟨hw,hleave⟩)),?_⟩;exact q B hB _ F' σ' _ (c1.at _) (RL.at (Γ:=E.Γ) _ (((RL.at (Γ:=E.Γ) _ h2).step c3 (h1.at _)).put c2)) (h3.trans c3.at)
end
end
section
open Go.Am
section
variable {E:Env} {bn:Nat} {b:Code} {L:Frame} {H:Heap} {nx:Nat} {Q:BL→Frame→Heap→Nat→Prop}
def Pv (E:Env) (bn:Nat) (b:Code) (Q:BL→Frame→Heap→Nat→Prop):Nat→Frame→Heap→Nat→Prop
 |0,L,H,nx=>Ad E bn b L H nx (Ah (fun _ _ _=>False) Q)
 |n+1,L,H,nx=>Ad E bn b L H nx (Ah (Pv E bn b Q n) Q)
theorem Ad.a8t (n:Nat) (h:Pv E bn b Q n L H nx):Ad E bn (.loop b) L H nx Q:=by
 intro B hB m F σ t h1 h2 h3;refine Na.loop (fun k s=>∃ L H nx F σ,Pv E bn b Q k L H nx∧Ctx E.Γ s.m F σ H nx∧RL s.m F (htag H) σ nx L s.t∧B.to s.m F σ H nx) n ⟨L,H,nx,F,σ,h,h1,h2,h3⟩ ?_;rintro k s ⟨L1,H1,nx1,F1,σ1,u,c1,c2,c3⟩;cases k with
 |zero =>
  refine (u B hB s.m F1 σ1 s.t c1 c2 c3).mono ?_;rintro e s' ⟨L',H',nx',F',σ',q,d1,d2,d3⟩;cases e with
  |normal=>exact q.elim
  |ret=>exact ⟨L',H',nx',F',σ',q,d1,d2,d3⟩
  |exit i=>exact ⟨L',H',nx',F',σ',q,d1,d2,d3⟩
 |succ k =>
  refine (u B hB s.m F1 σ1 s.t c1 c2 c3).mono ?_;rintro e s' ⟨L',H',nx',F',σ',q,d1,d2,d3⟩;cases e with
  |normal=>exact ⟨k,bL _,L',H',nx',F',σ',q,d1,d2,d3⟩
  |ret=>exact ⟨L',H',nx',F',σ',q,d1,d2,d3⟩
  |exit i=>exact ⟨L',H',nx',F',σ',q,d1,d2,d3⟩
theorem Pv.zero (h:Ad E bn b L H nx (Ah (fun _ _ _=>False) Q)):Pv E bn b Q 0 L H nx:=h
theorem Pv.succ {n:Nat} (h:Ad E bn b L H nx (Ah (Pv E bn b Q n) Q)):Pv E bn b Q (n+1) L H nx:=h
theorem Ah.again {I:Frame→Heap→Nat→Prop} (h:I L H nx):Ah I Q .normal L H nx:=h
end
end
section
open Go.Am
def Nz (names:List (List UInt8)):List (FV×FV):=names.map fun s=>(.str (bs s),.bool true)
theorem b9g (a b:List UInt8):(bs a==bs b)=decide (a=b):=by rw [Np];rfl
theorem Zl {m:Mem} {F:Nat→Prop}:∀ {names:List (List UInt8)} {l:List MapEntry},nK m F (Nz names) l→l.map (·.key)=names.map (fun s=>Value.string (bs s))∧l.map (·.val)=names.map (fun _=>Value.bool true)
 |[],[],_=>⟨rfl,rfl⟩
 |[],e::l,h=>by cases h.1
 |s::names,[],h=>by cases h.1
 |s::names,e::l,h=>by
  obtain ⟨h1,h2⟩:=h;simp only [Nz,List.map_cons] at h1 h2;cases h1 with
  |cons k1 t1 =>
   cases h2 with
   |cons k2 t2 =>
    obtain ⟨e1,e2⟩:=Zl (names:=names) (l:=l) ⟨t1,t2⟩;rw [bz,bz,bz,bz,e1,e2];constructor
    ·generalize e.key=k at k1
     cases k1;rfl
    ·generalize e.val=k at k2
     cases k2;rfl
theorem Z9:∀ {names:List (List UInt8)} {l:List MapEntry},l.map (·.key)=names.map (fun s=>Value.string (bs s))→l.map (·.val)=names.map (fun _=>Value.bool true)→∀ (s:List UInt8) (i:Nat),
 (s∈names→∃ j,Instr.findNow .string (.string (bs s)) l i=some (some (j,.bool true)))∧(s∉names→Instr.findNow .string (.string (bs s)) l i=some none)
 |[],[],_,_,s,i=>⟨fun h=>(by cases h),fun _=>rfl⟩
 |[],e::l,h,_,_,_=>by cases h
 |n::names,[],h,_,_,_=>by cases h
 |n::names,e::l,h1,h2,s,i=>by
  simp only [List.map_cons,List.cons.injEq] at h1 h2;obtain ⟨i1,i2⟩:=Z9 h1.2 h2.2 s (i+1);have hs:Instr.sameNow .string (.string (bs s)) (.string (bs n))=some (bs s==bs n):=rfl;rw [b9g] at hs;unfold Instr.findNow;grind
section
variable {E:Env} {L:Frame} {H:Heap} {nx:Nat} {Q:PV→Heap→Nat→Prop} {w:Bool}
variable {dst:Option Tmp} {ty:TypeId} {pos:String} {af:Array Edge} {gd:Option (Nat×Bool)}
theorem zi {Γ:Nat→Option (List Value×TypeId)} {m:Mem} {F:Nat→Prop} {σ:Nat→Value} {t:Tr Value} {b:Nat} {o:Operand} {es:List (FV×FV)} (hx:Ctx Γ m F σ H nx) (hl:RL m F (htag H) σ nx L t) (h:AU Γ L o=some (.mref b)) (hb:hget H b=some (.map es)):ev t o=σ b:=by
 have:=BA hx hl h;cases this with
 |mref _ _ h3=>exact h3 (by simp [htag,hb,HB.tag])
theorem Aa.makeMap {t:TypeId} (q:Q (.mref nx) ((nx,.map [])::H) (nx+1)):Aa E w ⟨dst,.makeMap t none,ty,pos,af,gd⟩ L H nx Q:=by
 intro m F σ tt h1 h2;obtain ⟨c1,c2,c3⟩:=h1.new (m':=m.alloc (.map [] 0)) (x:=.map []) (s:=.map (some m.size)) (by simp [Mem.alloc]) (fun c hc=>by rw [Mem.Bd,if_neg (by omega)]) (by simp only [Mem.alloc];omega) (fun c hc=>by simp only [Dc,Option.some.injEq] at hc;omega)
  ⟨m.size,[],0,rfl,by simp [Mem.alloc],fun hf=>cv _ (h1.fr _ hf),by rw [Mem.Bd,if_pos rfl],⟨.nil,.nil⟩⟩
 exact Gp.op (v:=.map (some m.size)) (fun _=>rfl) ⟨_,_,_,F,_,q,c1,.mref (bL _) rfl fun _=>(upd_same _ _ _).symm,c2,fun _=>c3⟩
theorem Aa.Jy {t kt et:TypeId} {x k:Operand} {b:Nat} {names:List (List UInt8)} {s:List UInt8} (hx:AU E.Γ L x=some (.mref b)) (hb:hget H b=some (.map (Nz names))) (hk:AU E.Γ L k=some (st s))
 (ht:E.P.underlying t=some (.map kt et)) (hkk:Ef E.P kt=some .string) (hz:zeroOf E.P et=some (.bool false)) (q:Q (.p (.bool (decide (s∈names)))) H nx):Aa E w ⟨dst,.lookup t x k false,ty,pos,af,gd⟩ L H nx Q :=
 Aa.quiet q fun m F σ tt c1 c2=>by
  obtain ⟨_,r,l,clock,r1,r2,r3,r4,r5⟩:=c1.hp b _ hb;obtain ⟨e1,e2⟩:=Zl r5;obtain ⟨f1,f2⟩:=Z9 e1 e2 s 0;refine ⟨.bool (decide (s∈names)),fun _=>?_,.p (.bool _)⟩;simp only [BR,Fq,Mc,Iy,ht,hkk,hz,zi c1 c2 hx hb,L8 c1 c2 hk,r1,r4];rw [show (plain (Value.bool false)&&plain (Value.string (bs s)))=true from rfl];by_cases h:s∈names
  ·grind
  grind
theorem Df.snoc {m:Mem} {F:Nat→Prop}:∀ {cs:List FV} {vs:List Value} {c:FV} {v:Value},Df m F cs vs→RF m F c v→Df m F (cs++[c]) (vs++[v])
 |_,_,_,_,.nil,h=>.cons h .nil
 |_,_,_,_,.cons a t,h=>.cons a (Df.snoc t h)
theorem Aa.mg {t kt et:TypeId} {x k y:Operand} {b:Nat} {names:List (List UInt8)} {s:List UInt8} (hx:AU E.Γ L x=some (.mref b)) (hb:hget H b=some (.map (Nz names))) (hk:AU E.Γ L k=some (st s)) (hy:AU E.Γ L y=some (.p (.bool true)))
 (ht:E.P.underlying t=some (.map kt et)) (hkk:Ef E.P kt=some .string) (hn:s∉names) (q:Q (.Eb []) (hput H b (.map (Nz (names++[s])))) nx):Aa E true ⟨dst,.mapUpdate t x k y,ty,pos,af,gd⟩ L H nx Q:=by
 intro m F σ tt c1 c2;obtain ⟨_,r,l,clock,r1,r2,r3,r4,r5⟩:=c1.hp b _ hb;obtain ⟨e1,e2⟩:=Zl r5;have f2:=(Z9 e1 e2 s 0).2 hn;have hput':∀ d x,r≠d→(m.put r x).get d=m.get d:=fun d x hd=>by rw [Mem.get_put,if_neg hd]
 obtain ⟨d1,d2⟩:=c1.change (m':=m.put r (.map (l++[{ key:=.string (bs s),val:=.bool true,born:=clock }]) (clock+1))) (x':=.map (Nz (names++[s]))) (s':=σ b) hb trivial (fun _=>rfl) (ab _)
  (fun d _ hd=>hput' d _ fun e=>hd (by rw [r1,e];rfl)) (fun k k1 k2 k3=>by
   have:=k3 r (by rw [r1];rfl);simp only [Mem.put];omega) (fun d hd=>.inl hd) (by
   refine ⟨r,_,clock+1,r1,r2,r3,by rw [Mem.get_put,if_pos rfl],?_⟩;have hF:∀ d,F d→F d∧(m.put r (.map (l++[{ key:=.string (bs s),val:=.bool true,born:=clock }]) (clock+1))).get d=m.get d:=fun d hd=>⟨hd,hput' d _ fun e=>r3 (e▸hd)⟩
   unfold nK Nz;simp only [List.map_append,List.map_cons,List.map_nil];exact ⟨Df.snoc (r5.1.mono hF) (.str _),Df.snoc (r5.2.mono hF) (.bool _)⟩)
 refine Gp.op (v:=undef) (fun _=>?_) ⟨_,_,_,F,_,q,d1,.Eb .nil,d2,fun h=>by cases h⟩;have hv:ev tt y=.bool true:=H8 c1 c2 hy;simp only [BR,Fq,Jc,Iy,ht,hkk,zi c1 c2 hx hb,L8 c1 c2 hk,hv,r1,r4];rw [show plain (Value.string (bs s))=true from rfl];grind
end
end
section
open Go.Am
end
end Go.Vm
namespace Go.Am
section
variable {P:Program} {O:Cc} {G:List Nat}
def Jl (key:Value) (rows:List (List Value)):Value:=.tuple #[key,.tuple (rows.map fun r=>Value.tuple r.toArray).toArray]
theorem X3:∀ rows:List (List Value),YC (rows.map fun r=>Value.tuple r.toArray)=some rows
 |[]=>rfl
 |r::rows=>by simp only [List.map_cons,YC,a8j,X3 rows]
theorem LU (key:Value) (rows:List (List Value)):Oj (Jl key rows)=some rows:=X3 rows
def Ol (P:Program) (O:Cc) (G:List Nat) (O5 body:Code) (n:Nat) (ask:Mem→Prop) (t:Tr Value) (ps:List Tmp):List (List Value)→Mem→(BL→Mem→Prop)→Prop
 |[],m,Q=>Q .normal m
 |vs::rest,m,Q=>vs.length=n∧vs.all plain=true∧Na P O G O5 { t:=NS t ps vs,m:=IY m m.size } fun e s1=>e=.normal∧Na P O G body s1 fun e s2=>match e with
  | .normal=>ask (IY s2.m (min m.low s2.m.low))∧Ol P O G O5 body n ask t ps rest (IY s2.m (min m.low s2.m.low)) Q
  |e=>Q e (IY s2.m (min m.low s2.m.low))
theorem Ol.run {O5 body:Code} {n:Nat} {ask:Mem→Prop} {b8c:Nat→Nat→Mem→Prop} (hk:∀ N D m,1≤D→(b8c N D m↔ask m)) {t:Tr Value} {ps:List Tmp}:∀ {rows:List (List Value)} {m:Mem} {Q:BL→Mem→Prop},Ol P O G O5 body n ask t ps rows m Q →
 ∃ e m',(∃ K,∀ N D,K≤N→K≤D→EF n (BU P (Fh P O G N D) N O5) (BU P (Fh P O G N D) N body) (b8c N D) t ps rows m=some (e,m'))∧Q e m'
 |[],m,Q,h=>⟨.normal,m,⟨0,fun N D _ _=>rfl⟩,h⟩
 |vs::rest,m,Q,⟨h1,h2,e1,s1,hk1,he,e2,s2,hk2,q⟩=>by
  subst he;obtain ⟨K1,k1⟩:=hk1;obtain ⟨K2,k2⟩:=hk2;have k1:∀ N D,K1≤N→K1≤D→BU P (Fh P O G N D) N O5 { t:=NS t ps vs,m:=IY m m.size }=some (.normal,s1):=k1;have k2:∀ N D,K2≤N→K2≤D→BU P (Fh P O G N D) N body s1=some (e2,s2):=k2;cases e2 with
  |normal =>
   obtain ⟨qa,qr⟩:=q;obtain ⟨e,m',⟨K3,k3⟩,qe⟩:=Ol.run hk qr;refine ⟨e,m',⟨max (max K1 K2) (max K3 1),fun N D hN hD=>?_⟩,qe⟩;have ha:=(hk N D (IY s2.m (min m.low s2.m.low)) (by omega)).2 qa;simp only [EF];rw [if_pos ⟨h1,h2⟩,k1 N D (by omega) (by omega)];simp only;rw [k2 N D (by omega) (by omega)];simp only;rw [if_pos ha];exact k3 N D (by omega) (by omega)
  |ret =>
   refine ⟨.ret,_,⟨max K1 K2,fun N D hN hD=>?_⟩,q⟩;simp only [EF];rw [if_pos ⟨h1,h2⟩,k1 N D (by omega) (by omega)];simp only;rw [k2 N D (by omega) (by omega)]
  |exit id =>
   refine ⟨.exit id,_,⟨max K1 K2,fun N D hN hD=>?_⟩,q⟩;simp only [EF];rw [if_pos ⟨h1,h2⟩,k1 N D (by omega) (by omega)];simp only;rw [k2 N D (by omega) (by omega)]
theorem Na.rangeFunc {f:Operand} {ps:Array Tmp} {O5 body:Code} {s:St} {g:FuncId} {lb:Array Value} {fn:Func} {Fo:List Value→Mem→Option (Value×Mem)} {key:Value} {rows:List (List Value)} {Q:BL→St→Prop} (hev:ev s.t f=.func (.func g) #[] lb) (hfn:P.funcs[g]?=some fn)
 (hfl:(flat O5&&flat body)=true) (ho:O g=some Fo) (hc:∃ m1,Fo (Eh fn.ntmps lb.toList) s.m=some (Jl key rows,m1))
 (h:Ol P O G O5 body ps.size (fun m'=>∃ m1,Fo (Eh fn.ntmps lb.toList) m'=some (Jl key rows,m1)) s.t ps.toList rows s.m fun e m'=>Q e { t:=s.t,m:=m' }):Na P O G (.rangeFunc f ps O5 body) s Q:=by
 simp only [Bool.and_eq_true] at hfl;have e1:∀ N D m',1≤D→Fh P O G N D g (Eh fn.ntmps lb.toList) m'=Fo (Eh fn.ntmps lb.toList) m':=fun N D m' hD=>by
  obtain ⟨D,rfl⟩:∃ j,D=j+1:=⟨D-1,by omega⟩
  have hl:=Un fn.ntmps lb.toList;cases h0:Fo (Eh fn.ntmps lb.toList) m' with
  |some r=>simp only [Fh,ho,Option.bind_some,h0]
  |none =>
   simp only [Fh,ho,Option.bind_some,h0,hfn];grind
 obtain ⟨e,m',⟨K,hK⟩,q⟩:=Ol.run (b8c:=fun N D m'=>∃ m1,Fh P O G N D g (Eh fn.ntmps lb.toList) m'=some (Jl key rows,m1)) (fun N D m' hD=>by grind) h;obtain ⟨m1,hc⟩:=hc;refine ⟨e,_,⟨max K 1,fun N D hN hD=>?_⟩,q⟩;simp only [BU,hev,hfn];rw [if_pos ⟨rfl,hfl.1,hfl.2⟩,e1 N D s.m (by omega),hc];simp only [LU];grind
end
end Go.Am
namespace Go.Vm
open Go.Am
section
variable {E:Env} {bn:Nat} {L:Vm.Frame} {H:Vm.Heap} {nx:Nat} {Q:BL→Vm.Frame→Vm.Heap→Nat→Prop}
def a6u (L:Vm.Frame):List Tmp→List FV→Vm.Frame
 |p::ps,f::fs=>a6u (H6 L (some p) (.p f)) ps fs
 |_,_=>L
theorem RL.NS {m:Mem} {F:Nat→Prop} {T:Nat→Option Tg} {σ:Nat→Value} {nx:Nat}:∀ {ps:List Tmp} {fs:List FV} {vs:List Value} {L:Vm.Frame} {t:Tr Value},RL m F T σ nx L t→Df m F fs vs→RL m F T σ nx (a6u L ps fs) (NS t ps vs)
 |[],fs,vs,L,t,h,hr=>by cases hr<;>exact h
 |p::ps,_,_,L,t,h,.nil=>h
 |p::ps,_,_,L,t,h,.cons (v:=v) (vs:=vs) h1 h2=>RL.NS (ps:=ps) (t:=PS t p v) (h.put (d:=some p) (.p h1)) h2
def d1k (E:Env) (g:FuncId) (fn:Func) (cs:List PV) (H:Vm.Heap) (nx:Nat) (key:Value) (rows:List (List Value)):Prop :=
 ∀ Fo,E.O g=some Fo→∀ m F σ lb,Ctx E.Γ m F σ H nx→Dj m F (htag H) σ nx cs lb→∃ m1,Fo (Eh fn.ntmps lb) m=some (Jl key rows,m1)
def RQ (iv:Prop) (Dp:Nat) (L0:Vm.Frame) (H1:Vm.Heap) (Q:BL→Vm.Frame→Vm.Heap→Nat→Prop):BL→Vm.Frame→Vm.Heap→Nat→Prop
 | .normal,_,H',nx'=>iv∧Dp≤nx'∧BI Dp H1 H'
 |e,_,H',nx'=>Dp≤nx'∧∃ H2,BI Dp H2 H'∧Q e L0 H2 Dp
end
section
variable {P:Program} {G:List Nat}
theorem KP (n:Nat) (lb:List Value):(Eh n lb).drop (n+1)=lb:=by
 unfold Eh;simp
theorem wz {k k':Value} {a b:List (List Value)} (h:Jl k a=Jl k' b):k=k'∧a=b:=by
 have:=congrArg Oj h;rw [LU,LU] at this;refine ⟨?_,cj this⟩;unfold Jl at h;grind
abbrev SqF:=List Value→Mem→Option (Value×List (List Value))
open Classical in
noncomputable def Za (G:List Nat) (M0:Mem) (nt:Nat) (Sq:SqF) (Bq:List Value) (m:Mem):Option (Value×Mem) :=
 if Bq=Eh nt (Bq.drop (nt+1))∧∀ k∈G,m.get k=M0.get k then (Sq (Bq.drop (nt+1)) m).map fun kr=>(Jl kr.1 kr.2,m) else none
noncomputable def b4g (G:List Nat) (M0:Mem) (gf:FuncId) (nt:Nat) (Sq:SqF) (O:Cc):Cc:=fun f=>if f=gf then some (Za G M0 nt Sq) else O f
theorem a0o {M0:Mem} {gf f:FuncId} {nt:Nat} {Sq:SqF} {O:Cc} (h:f≠gf):b4g G M0 gf nt Sq O f=O f:=if_neg h
theorem b3g {M0:Mem} {gf:FuncId} {nt:Nat} {Sq:SqF} {O:Cc}:b4g G M0 gf nt Sq O gf=some (Za G M0 nt Sq):=if_pos rfl
theorem OT {M0:Mem} {nt:Nat} {Sq:SqF} {Bq:List Value} {m:Mem} {r:Value×Mem} (h:Za G M0 nt Sq Bq m=some r):∃ lb kr,Bq=Eh nt lb∧(∀ k∈G,m.get k=M0.get k)∧Sq lb m=some kr∧r=(Jl kr.1 kr.2,m):=by
 unfold Za at h;split at h
 case isFalse=>cases h
 rename_i hc;rw [ae] at h;grind
theorem a7z {M0:Mem} {nt:Nat} {Sq:SqF} {lb:List Value} {m:Mem} {kr:Value×List (List Value)} (hg:∀ k∈G,m.get k=M0.get k) (h:Sq lb m=some kr):Za G M0 nt Sq (Eh nt lb) m=some (Jl kr.1 kr.2,m):=by
 unfold Za;rw [KP,if_pos ⟨rfl,hg⟩,h];rfl
theorem nP {gf:Nat} {lb:Array Value} {rows:List (List Value)} {I1 I2:World→Prop} {w:World} (h:Zz P gf lb rows I2 w) (hi:∀ W,I1 W→I2 W):Zz P gf lb rows I1 w :=
 fun l J Jx W hb hJ hx hy h0 hj=>h l J Jx W hb hJ hx (fun i W1 hi' hj'=>by
  obtain ⟨fn,tmps,O5,body,e1,e2⟩:=hy i W1 hi' hj';refine ⟨fn,tmps,O5,body,e1,e2.mono ?_⟩;grind) (hi _ h0) hj
theorem xP {M0:Mem} {gf:FuncId} {nt:Nat} {Sq:SqF} {O:Cc} (hO:Gl P G O) (he:Am.Enters P gf) (hnt:∀ fn,P.funcs[gf]?=some fn→fn.ntmps=nt)
 (hs:∀ (lb:List Value) (m:Mem) (key:Value) (rows:List (List Value)),Sq lb m=some (key,rows)→(∀ k∈G,m.get k=M0.get k)→∀ (ι:BG) (w:World) (lb':Array Value),Du P G ι m w→Bo ι m.gen lb lb'.toList →
  Zz P gf lb' rows (NU P G (fun m'=>Sq lb m'=some (key,rows)∧∀ k∈G,m'.get k=M0.get k) ι m.gen lb lb') w):Gl P G (b4g G M0 gf nt Sq O):=by
 intro f Fo hf;by_cases h:f=gf
 ·subst h
  rw [b3g] at hf;cases hf;refine ⟨fun Bq m v m' hv ι w as' hs' hrel=>?_,fun Bq m v m' hv=>?_,he,fun fn lb m m1 v rows hfn hv hr ι w lb' Dl hl=>?_⟩
  ·obtain ⟨lb,rows,rfl,_⟩:=OT hv
   obtain ⟨v',k',_,h2,_⟩:=hrel.J8;contradiction
  ·obtain ⟨lb,rows,_,_,_,e⟩:=OT hv
   cases e;exact AL.refl _
  ·rw [hnt fn hfn] at hv ⊢
   obtain ⟨lb2,b5v,e1,e2,e3,e4⟩:=OT hv;have e5:lb=lb2:=by
    have:=congrArg (List.drop (nt+1)) e1
    rwa [KP,KP] at this
   subst e5;obtain ⟨key2,b5v⟩:=b5v;cases e4;rw [LU] at hr;cases hr;refine nP (hs lb m _ _ e3 e2 ι w lb' Dl hl) ?_;rintro W ⟨ι',m',q1,q2,⟨m2,q3⟩,q4⟩;obtain ⟨lb3,b5m,p1,p2,p3,p4⟩:=OT q3;have e6:lb=lb3:=by
    have:=congrArg (List.drop (nt+1)) p1
    rwa [KP,KP] at this
   subst e6;simp only [Prod.mk.injEq] at p4;obtain ⟨r1,r2⟩:=wz p4.1;obtain ⟨c9h,b5m⟩:=b5m;subst r1;subst r2;exact ⟨ι',m',q1,q2,⟨p3,p2⟩,q4⟩
 ·rw [a0o h] at hf
  exact hO f Fo hf
end
end Go.Vm
namespace Go.Proofs.YtnjkoebfgcbbdaaGreatDoor
open Go Go.Am Go.Vm Go.RowKit
def FP (lo hi:Nat):List (List Value):=(Ep lo hi).map fun x=>[Go.encZ x]
def QA:SqF:=fun lb m=>match lb with
 |[.pointer (some ⟨b,0,none⟩)]=>match m.get b with
  | .cells [.int .u64 lo,.int .u64 hi] _ 0 false=>if (0≤lo∧lo<18446744073709551616)∧(0≤hi∧hi<18446744073709551616) then some (.agg #[.int .u64 lo,.int .u64 hi],FP lo.toNat hi.toNat) else none
  |_=>none
 |_=>none
def notKey (lo hi:Nat):Value:=.agg #[.int .u64 (lo:Int),.int .u64 (hi:Int)]
theorem Ze {lb:List Value} {m:Mem} {kr:Value×List (List Value)} (h:QA lb m=some kr):∃ b lo hi e,lb=[.pointer (some ⟨b,0,none⟩)]∧m.get b=.cells [.int .u64 ((lo:Nat):Int),.int .u64 ((hi:Nat):Int)] e 0 false∧lo<18446744073709551616∧hi<18446744073709551616∧kr=(notKey lo hi,FP lo hi):=by
 unfold QA at h;split at h
 ·rename_i b
  split at h
  ·rename_i lo hi e h1
   split at h
   ·rename_i hc
    cases h;obtain ⟨lo,rfl⟩:∃ n:Nat,lo=n:=⟨lo.toNat,by omega⟩
    obtain ⟨hi,rfl⟩:∃ n:Nat,hi=n:=⟨hi.toNat,by omega⟩
    exact ⟨b,lo,hi,e,rfl,h1,by omega,by omega,rfl⟩
   grind
  grind
 grind
theorem yj {a b c d:Nat} (h:notKey a b=notKey c d):a=c∧b=d:=by
 simp [notKey] at h;omega
theorem aZ {G:List Nat} {ι:BG} {m:Mem} {w:World} {b:Nat} {p':Value} {vs:List Value} {e:TypeId} (hs:Du Tryz.prog G ι m w) (h:Au ι m.gen (.pointer (some ⟨b,0,none⟩)) p') (hm:m.get b=.cells vs e 0 false) (hp:vs.all Am.plainCell=true) :
 ∃ c o,p'=.pointer (some ⟨c,o,none⟩)∧∀ i,i<vs.length→w.cell? ⟨c,o+i,none⟩=some (vs.getD i undef):=by
 cases h with
 |ptr a a' h =>
  obtain ⟨ib,h1,h2,h3⟩:=h;obtain ⟨cs,fr,e',q1,q2,q3,q4,q5⟩:=H9 hs h1 hm;have e1:=h3 (by simp [Mem.gen,hm,II.gen,Pg]);refine ⟨ib.blk,ib.sh,by grind,fun i hi=>?_⟩;obtain ⟨v',r1,r2⟩:=q4 i hi;have hpi:Am.plainCell (vs.getD i undef)=true:=by
   grind
  rw [r2.DK hpi] at r1;rw [Am.cell_of_row q1];omega
theorem Xr (lo hi:Nat):(FP lo hi).length=(Ep lo hi).length:=by simp [FP]
theorem b2m (lo hi:Nat):∀ k,∃ r,Ep lo hi=J7 lo hi k++r
 |0=>⟨_,rfl⟩
 |1=>⟨(Gn hi).map (fun n:Nat=>((64+n:Nat):Int)),by rfl⟩
 |_+2=>⟨[],by simp [J7]⟩
theorem a7a {lo hi k:Nat} {done rest:List Int} {x:Int} (h:done++(x::rest)=J7 lo hi k):∃ hl:done.length<(FP lo hi).length,(FP lo hi)[done.length]=[Go.encZ x]:=by
 obtain ⟨r,hr⟩:=b2m lo hi k;rw [← h] at hr;have hl:done.length<(FP lo hi).length:=by
  rw [Xr,hr];simp
 refine ⟨hl,?_⟩;unfold FP;grind
attribute [local go_sem] Oper.semAt_some a1g a0w
theorem lV {F:Nat} {laid:List (String×DataW Unit)} (ht:Td F laid) (lb:List Value) (m:Mem) (key:Value) (rows:List (List Value)) (hq:QA lb m=some (key,rows)) (hg:∀ k∈AP Tryz.prog F laid,m.get k=(Bl Tryz.prog F laid).get k) (ι:BG) (w:World) (lb':Array Value) (Dl:Du Tryz.prog (AP Tryz.prog F laid) ι m w) (hl:Bo ι m.gen lb lb'.toList) :
 Zz Tryz.prog 147 lb' rows (NU Tryz.prog (AP Tryz.prog F laid) (fun m'=>QA lb m'=some (key,rows)∧∀ k∈AP Tryz.prog F laid,m'.get k=(Bl Tryz.prog F laid).get k) ι m.gen lb lb') w:=by
 obtain ⟨b,lo,hi,e,rfl,h1,hlo,hhi,he⟩:=Ze hq;cases he;obtain ⟨lb'⟩:=lb';obtain ⟨p1,k1,rfl,r1,hl2⟩:=hl.J8;have hk:k1=[]:=av.1 hl2.1.symm;subst hk;obtain ⟨c1,o1,rfl,_⟩:=aZ Dl r1 h1 rfl;have facts:∀ X,NU Tryz.prog (AP Tryz.prog F laid) (fun m'=>QA [.pointer (some ⟨b,0,none⟩)] m'=some (notKey lo hi,FP lo hi)∧∀ k∈AP Tryz.prog F laid,m'.get k=(Bl Tryz.prog F laid).get k) ι m.gen [.pointer (some ⟨b,0,none⟩)] ⟨[.pointer (some ⟨c1,o1,none⟩)]⟩ X →
  X.cell? ⟨c1,o1,none⟩=some (.int .u64 (lo:Int))∧X.cell? ⟨c1,o1+1,none⟩=some (.int .u64 (hi:Int))∧Oc X:=by
  rintro X ⟨ι',m',g1,g2,⟨g3,g4⟩,_⟩;obtain ⟨b',lo',hi',e',q0,q1,_,_,q3⟩:=Ze g3;cases q0;obtain ⟨rfl,rfl⟩:=yj (congrArg Prod.fst q3);obtain ⟨p1',k1',x1,x2,x3⟩:=g2.J8;cases x1;obtain ⟨c1',o1',z1,z2⟩:=aZ g1 x2 q1 rfl;cases z1;obtain ⟨e,t1⟩:=ht.tab;exact ⟨z2 0 (by simp),z2 1 (by simp),(aB ht.nm (YI g1 g4 ht.nm t1 ht.lt)).1⟩
 have later:∀ X Y,NU Tryz.prog (AP Tryz.prog F laid) (fun m'=>QA [.pointer (some ⟨b,0,none⟩)] m'=some (notKey lo hi,FP lo hi)∧∀ k∈AP Tryz.prog F laid,m'.get k=(Bl Tryz.prog F laid).get k) ι m.gen [.pointer (some ⟨b,0,none⟩)] ⟨[.pointer (some ⟨c1,o1,none⟩)]⟩ X→Below X.heap.size X Y →
  NU Tryz.prog (AP Tryz.prog F laid) (fun m'=>QA [.pointer (some ⟨b,0,none⟩)] m'=some (notKey lo hi,FP lo hi)∧∀ k∈AP Tryz.prog F laid,m'.get k=(Bl Tryz.prog F laid).get k) ι m.gen [.pointer (some ⟨b,0,none⟩)] ⟨[.pointer (some ⟨c1,o1,none⟩)]⟩ Y:=by
  rintro X Y ⟨ι',m',g1,g2,g3⟩ hb;exact ⟨ι',m',Q5 g1 hb,g2,g3⟩
 generalize NU Tryz.prog (AP Tryz.prog F laid) (fun m'=>QA [.pointer (some ⟨b,0,none⟩)] m'=some (notKey lo hi,FP lo hi)∧∀ k∈AP Tryz.prog F laid,m'.get k=(Bl Tryz.prog F laid).get k) ι m.gen [.pointer (some ⟨b,0,none⟩)] ⟨[.pointer (some ⟨c1,o1,none⟩)]⟩=SI at *;intro l J Jx W hB hJ hx hY hI hj;refine callsIn_of_wp Tryz.func147 rfl trivial ?_ rfl;simp only [Tryz.ntmps147,List.size_toArray,List.length_cons,List.length_nil,Nat.reduceAdd,Nat.reduceSub,Array.replicate_succ,Array.replicate_zero,List.push_toArray,List.append_toArray,List.nil_append,List.cons_append];obtain ⟨d0,d1,_⟩:=facts W hI
 gi_wp2
 gi_loopw [10] (fun i wr=>(i=.int .i64 0∧J (J7 lo hi 0).length wr∧SI wr)∨(i=.int .i64 1∧J (J7 lo hi 1).length wr∧SI wr)∨(i=.int .i64 2∧J (J7 lo hi 2).length wr∧SI wr)) (fun i _=>(2-zx i).toNat)
 case atStart=>exact Or.inl ⟨rfl,hj,hI⟩
 case round =>
  rcases hrel with ⟨rfl,hJs,hIs⟩|⟨rfl,hJs,hIs⟩|⟨rfl,hJs,hIs⟩
  ·gi_wp2
   gi_loopw [4] (fun v wr=>∃ p:Nat,p<18446744073709551616∧v=.int .u64 (p:Int)∧∃ done:List Int,J done.length wr∧SI wr∧done++(Gn p).map (fun n:Nat=>((64*0+n:Nat):Int))=J7 lo hi (0+1)) (fun v _=>(zx v).toNat)
   case atStart=>exact ⟨_,hlo,rfl,J7 lo hi 0,hJs,hIs,by simp [J7,Ep]⟩
   case round =>
    obtain ⟨p,hp,rfl,done,hJd,hId,hdone⟩:=hrel;by_cases hp0:p=0
    ·subst hp0
     have hz:((0:Nat):Int)=0:=rfl;rw [NQ,eE,cN] at hdone
     gi_wp2
     go_roundw
     case rel=>exact Or.inr <| Or.inl ⟨by first|rfl|simp,by rw [← hdone];exact hJd,hId⟩
     case measure=>simp [zx]
    ·obtain ⟨e1,e2,e3⟩:=UE hp0 hp
     rw [e1,bz] at hdone;obtain ⟨_,_,hTb⟩:=facts _ hId;have htz:=zA p hp _ hTb;have hne:¬ ((p:Int)=0):=by omega
     have hw1:=Rf hp0 hp;have hw2:=QX hp;obtain ⟨x0,hx0⟩:∃ x0:Int,((64*0+Lib.ctz 64 p:Nat):Int)=x0:=⟨_,rfl⟩
     rw [hx0] at hdone;generalize Lib.ctz 64 p=t at *;have hw4:IntKind.i64.wrap (0+(t:Int))=x0:=by rw [QB (by omega) (by omega)];omega
     have hw5:IntKind.i64.wrap ((t:Int))=x0:=by rw [QB (by omega) (by omega)];omega
     obtain ⟨hl,hrow⟩:=a7a hdone;obtain ⟨fn,tmps,assign,body,hy,hR⟩:=hY done.length _ hl hJd;rw [hrow] at hy;have hy:(Instr.yield l #[.int .i64 x0]).run Tryz.prog wr=.ok (.round l fn tmps assign body) wr:=hy
     gi_wp2
     refine ⟨trivial,rfl,(callsIn_wide.2 htz).mono ?_⟩;rintro _ _ ⟨rfl,rfl⟩
     gi_wp2
     refine ⟨rfl,hR.mono ?_⟩;rintro e W3 (⟨rfl,hJ3,hI3⟩|⟨rfl,hx3⟩)
     ·gi_wp2
      go_roundw
      case rel=>exact ⟨p &&& (p-1),by omega,by first|rfl|simp,done++[x0],by rw [ar];exact hJ3,hI3,by rw [cw];exact hdone⟩
      case measure=>simp [zx];omega
     ·gi_wp2
      refine ⟨rfl,_,results_none rfl _ _ _,⟨_,rfl⟩,.inr ⟨_,hx3⟩⟩
  ·gi_wp2
   gi_loopw [4] (fun v wr=>∃ p:Nat,p<18446744073709551616∧v=.int .u64 (p:Int)∧∃ done:List Int,J done.length wr∧SI wr∧done++(Gn p).map (fun n:Nat=>((64*1+n:Nat):Int))=J7 lo hi (1+1)) (fun v _=>(zx v).toNat)
   case atStart=>exact ⟨_,hhi,rfl,J7 lo hi 1,hJs,hIs,by simp [J7,Ep]⟩
   case round =>
    obtain ⟨p,hp,rfl,done,hJd,hId,hdone⟩:=hrel;by_cases hp0:p=0
    ·subst hp0
     have hz:((0:Nat):Int)=0:=rfl;rw [NQ,eE,cN] at hdone
     gi_wp2
     go_roundw
     case rel=>exact Or.inr <| Or.inr ⟨by first|rfl|simp,by rw [← hdone];exact hJd,hId⟩
     case measure=>simp [zx]
    ·obtain ⟨e1,e2,e3⟩:=UE hp0 hp
     rw [e1,bz] at hdone;obtain ⟨_,_,hTb⟩:=facts _ hId;have htz:=zA p hp _ hTb;have hne:¬ ((p:Int)=0):=by omega
     have hw1:=Rf hp0 hp;have hw2:=QX hp;obtain ⟨x0,hx0⟩:∃ x0:Int,((64*1+Lib.ctz 64 p:Nat):Int)=x0:=⟨_,rfl⟩
     rw [hx0] at hdone;generalize Lib.ctz 64 p=t at *;have hw4:IntKind.i64.wrap (64+(t:Int))=x0:=by rw [QB (by omega) (by omega)];omega
     have hw5:IntKind.i64.wrap (64+(t:Int))=x0:=by rw [QB (by omega) (by omega)];omega
     obtain ⟨hl,hrow⟩:=a7a hdone;obtain ⟨fn,tmps,assign,body,hy,hR⟩:=hY done.length _ hl hJd;rw [hrow] at hy;have hy:(Instr.yield l #[.int .i64 x0]).run Tryz.prog wr=.ok (.round l fn tmps assign body) wr:=hy
     gi_wp2
     refine ⟨trivial,rfl,(callsIn_wide.2 htz).mono ?_⟩;rintro _ _ ⟨rfl,rfl⟩
     gi_wp2
     refine ⟨rfl,hR.mono ?_⟩;rintro e W3 (⟨rfl,hJ3,hI3⟩|⟨rfl,hx3⟩)
     ·gi_wp2
      go_roundw
      case rel=>exact ⟨p &&& (p-1),by omega,by first|rfl|simp,done++[x0],by rw [ar];exact hJ3,hI3,by rw [cw];exact hdone⟩
      case measure=>simp [zx];omega
     ·gi_wp2
      refine ⟨rfl,_,results_none rfl _ _ _,⟨_,rfl⟩,.inr ⟨_,hx3⟩⟩
  ·gi_wp2
   go_end0
   refine ⟨⟨_,rfl⟩,.inl ?_⟩;rw [Xr];have:J7 lo hi 2=Ep lo hi:=rfl;rw [← this];exact hJs
end Go.Proofs.YtnjkoebfgcbbdaaGreatDoor
namespace Go.Proofs.YtnjkoebfgcbbdaaGreatDoor
open Go Go.Am Go.Vm
theorem c1h:Tryz.prog.follows .mixedOrders=true :=by decide
theorem a6p:wL 8 Ej:=⟨⟨2,82,by rfl,by kernel_rfl,of_decide_eq_true (by rfl)⟩⟩
theorem rY:Am.Enters Tryz.prog 52:=⟨_,Tryz.func52,by rfl,by rfl⟩
theorem dN:Am.Enters Tryz.prog 55:=⟨_,Tryz.func55,by rfl,by rfl⟩
theorem rQ:Am.Enters Tryz.prog 130:=⟨_,Tryz.func130,by rfl,by rfl⟩
def b2w:List (FuncId×ZR):=[(52,zU),(55,aj),(130,textF)]
theorem b4p:Gl Tryz.prog (AP Tryz.prog 8 Ej) (nN (AP Tryz.prog 8 Ej) (Bl Tryz.prog 8 Ej) b2w):=wM fun x hx=>by
 simp only [b2w,List.mem_cons,List.not_mem_nil,or_false] at hx;rcases hx with rfl|rfl|rfl
 ·exact yM a6p rY
 ·exact eH dN
 ·exact yg a6p rQ
def je:InF:=fun zs rest=>match rest with
 |[]=>if zs.length<1000000 then some (zs.mergeSort fun x y=>decide (x≤y),none) else none
 |_=>none
theorem Zq {zs zs':List Int} {rest:List Value} {r:Option Nat} (h:je zs rest=some (zs',r)):rest=[]∧zs.length<1000000∧zs'=zs.mergeSort (fun x y=>decide (x≤y))∧r=none:=by
 unfold je at h;grind
def jG:InF:=fun zs rest=>match rest with
 |[]=>if zs.length<1000000 then some (Lib.compact zs++List.replicate (zs.length-(Lib.compact zs).length) 0,some (Lib.compact zs).length) else none
 |_=>none
theorem Y4 {zs zs':List Int} {rest:List Value} {r:Option Nat} (h:jG zs rest=some (zs',r)):rest=[]∧zs.length<1000000∧zs'=Lib.compact zs++List.replicate (zs.length-(Lib.compact zs).length) 0∧r=some (Lib.compact zs).length:=by
 unfold jG at h;grind
theorem pV:Am.Enters Tryz.prog 48:=⟨_,Tryz.func48,by rfl,by rfl⟩
theorem uH:Am.Enters Tryz.prog 49:=⟨_,Tryz.func49,by rfl,by rfl⟩
noncomputable abbrev a7d:Cc:=nN (AP Tryz.prog 8 Ej) (Bl Tryz.prog 8 Ej) b2w
noncomputable abbrev a7r:Cc:=inO (AP Tryz.prog 8 Ej) (Bl Tryz.prog 8 Ej) 48 3 je a7d
noncomputable abbrev a0m:Cc:=inO (AP Tryz.prog 8 Ej) (Bl Tryz.prog 8 Ej) 49 3 jG a7r
theorem b1v:Gl Tryz.prog (AP Tryz.prog 8 Ej) a7r:=iD b4p pV (by kernel_rfl)
 (fun blk off cap zs zs' r rest w h hl hr hH hb hc h0=>by
  obtain ⟨rfl,h1,rfl,rfl⟩:=Zq h;refine (show Calls Tryz.prog 48 _ w _ from Tryz.slices_Sort_int blk off cap zs w hH hb (by omega)).mono ?_;rintro x w' ⟨rfl,n,os,rfl⟩;exact ⟨rfl,n,os,rfl⟩)
 (fun rest rest' w h hs=>by
  obtain ⟨rfl,_⟩:=Zq h;have e:rest'=#[]:=Array.eq_empty_of_size_eq_zero hs;subst e;exact Tryz.slices_Sort_int_none none 0 w)
theorem b2n:Gl Tryz.prog (AP Tryz.prog 8 Ej) a0m:=iD b1v uH (by kernel_rfl)
 (fun blk off cap zs zs' r rest w h hl hr hH hb hc h0=>by
  obtain ⟨rfl,h1,rfl,rfl⟩:=Y4 h;refine (show Calls Tryz.prog 49 _ w _ from Tryz.slices_Compact_int blk off cap zs w hH (by omega) hc).mono ?_;rintro x w' ⟨rfl,q,rfl⟩;refine ⟨rfl,q,#[],?_⟩;rfl)
 (fun rest rest' w h _=>by
  obtain ⟨_,_,_,h1⟩:=Y4 h;grind)
theorem aC:Td 8 Ej:=⟨by rfl,⟨5,by kernel_rfl⟩,of_decide_eq_true (by rfl)⟩
theorem Zm:Am.Enters Tryz.prog 61:=⟨_,Tryz.func61,by rfl,by rfl⟩
theorem lu:Am.Enters Tryz.prog 147:=⟨_,Tryz.func147,by rfl,by rfl⟩
noncomputable abbrev a5t:Cc:=frO (AP Tryz.prog 8 Ej) (Bl Tryz.prog 8 Ej) 61 3 a9m a0m
noncomputable def nR:Cc:=b4g (AP Tryz.prog 8 Ej) (Bl Tryz.prog 8 Ej) 147 Tryz.f147.ntmps QA a5t
theorem b3k:Gl Tryz.prog (AP Tryz.prog 8 Ej) a5t:=a4g b2n Zm (by kernel_rfl) (a4k aC)
theorem oL:∀ fn,Tryz.prog.funcs[147]?=some fn→fn.ntmps=Tryz.f147.ntmps :=by simp
theorem b8o:Gl Tryz.prog (AP Tryz.prog 8 Ej) nR:=xP b3k lu oL fun lb m key rows h1 h2 ι w lb' h3 h4=>lV aC lb m key rows h1 h2 ι w lb' h3 h4
noncomputable abbrev env:Env:=EO Tryz.prog 8 Ej nR
theorem a7n {f:FuncId} (h:f≠147):nR f=a5t f:=a0o h
theorem a8o {f:FuncId} (h:f≠147) (h1:f≠61):nR f=a0m f:=by
 rw [a7n h];exact a7m h1
theorem Y2 {f:FuncId} (h:f≠147) (h0:f≠61) (h1:f≠49) (h2:f≠48):nR f=a7d f:=by
 rw [a8o h h0];show inO _ _ _ _ _ _ f=_;rw [yh h1];show inO _ _ _ _ _ _ f=_;rw [yh h2]
theorem Af {f:FuncId} (h:f∉147::61::49::48::b2w.map (·.1)):env.O f=none:=by
 show nR f=none;rw [Y2 (fun e=>h (by grind)) (fun e=>h (by grind)) (fun e=>h (by grind)) (fun e=>h (by grind))];refine a1k ?_;rw [List.lookup_eq_none_iff];intro p hp;grind
theorem b3p:nR 49=inO (AP Tryz.prog 8 Ej) (Bl Tryz.prog 8 Ej) 49 3 jG a7r 49:=a8o (by decide) (by decide)
theorem b1t:nR 48=inO (AP Tryz.prog 8 Ej) (Bl Tryz.prog 8 Ej) 48 3 je a7d 48:=by
 rfl
theorem a6z (n:Int) (h:-9223372036854775808≤n∧n≤9223372036854775807):Ap env 52 [.int .i64 n] (st (Lib.itoa n)) :=
 dK (Y2 (by decide) (by decide) (by decide) (by decide)) rfl fun m F xs h1=>by
  cases h1 with
  |cons h1 t =>
   cases t;cases h1;exact ⟨_,by simp only [zU];grind,.str _⟩
theorem Xa (a b:List UInt8):Ap env 55 [.str (bs a),.str (bs b)] (.p (.int .i64 (Lib.compareBytes a b))) :=
 dK (Y2 (by decide) (by decide) (by decide) (by decide)) rfl fun m F xs h1=>by
  cases h1 with
  |cons h1 t =>
   cases t with
   |cons h2 t =>
    cases t;cases h1;cases h2;exact ⟨.int .i64 (Lib.compareBytes a b),by rfl,.int _ _⟩
theorem sH (l:List Nat) (hl:Num.dV l) (hn:l.length<1000000000):Ap env 130 [.lst 82 (cells l) l.length] (st (Num.OW l)) :=
 dK (Y2 (by decide) (by decide) (by decide) (by decide)) rfl fun m F xs h1=>a4l hl hn h1
theorem um (m:Mem) (F:Nat→Prop):∀ l:List Int,Df m F (cells l) (l.map Go.encZ)
 |[]=>.nil
 |z::l=>.cons (.int .i64 z) (um m F l)
theorem XV {lo hi:Nat} (hlo:lo<18446744073709551616) (hhi:hi<18446744073709551616):Bc env 61 [.agg [.int .u64 (lo:Int),.int .u64 (hi:Int)]] 3 (cells (Ep lo hi)) (Ep lo hi).length ((Ep lo hi).map Go.encZ).isEmpty:=by
 have h:=b8i (P:=Tryz.prog) (F:=8) (laid:=Ej) (O:=nR) (O0:=a0m) (ff:=61) (e:=3) (Fn:=a9m) (xs:=[.agg [.int .u64 (lo:Int),.int .u64 (hi:Int)]]) (cs:=cells (Ep lo hi)) (l:=(Ep lo hi).map Go.encZ) (a7n (by decide))
  (fun m F' us h1=>by
   cases h1 with
   |cons h1 t =>
    cases t;cases h1 with
    |agg h2 hc =>
     cases h2 with
     |cons h3 t =>
      cases t with
      |cons h4 t =>
       cases t;cases h3;cases h4;simp only [a9m,a0e];grind) (fun m F'=>um m F' _) (by
   rw [aD];intro x hx;obtain ⟨z,_,rfl⟩:=ba.1 hx;rfl)
 grind
end Go.Proofs.YtnjkoebfgcbbdaaGreatDoor
namespace Go.Proofs.YtnjkoebfgcbbdaaGreatDoor
section
open Go Go.Am Go.Vm
attribute [local irreducible] Aa Ai Ag Ad AO Ap Bc BK Bh Ah Vm.Done Bv AB
theorem iW (l:List Nat) (hl:l.length<1000000):Ap env 131 [.lst 82 (cells l) l.length] (lst 82 (Num.Lm l)):=by
 refine Ap.enter (Af (by decide)) Tryz.func131 rfl (by kernel_rfl) (by simp [Tryz.ntmps131]) ?_
 repeat' (first|refine go1 ?_|fail)
 refine Ad.DL (fun a:List Nat=>[(0,lst 82 a)]) (fun _=>[]) 0 (fun a=>a.length≤l.length∧Num.Lm a=Num.Lm l) (fun a=>a.length) l (ab _) ⟨by omega,rfl⟩ ⟨ab _,?_,trivial⟩ ?_
 ·exact C9
 rintro a ⟨ha,hr⟩;have hlast:0<a.length→a=a.take (a.length-1)++[gi a (a.length-1)]:=fun h=>by
  conv=>lhs;rw [← gL (a.length-1) a]
  congr 1
  rw [ck (by omega),gz (by omega)];simp [gi,List.getElem?_eq_getElem (show a.length-1<a.length by omega)]
 repeat' (first|(apply Aa.a9e;rfl;rfl;rfl;omega;omega;rfl)|refine Eu ?_|apply Ad.KO|(apply Ai.guard;rfl;rfl)|(apply Aa.a7t;rfl;rfl;rfl;rfl;rfl;rfl;omega)|(apply Ad.Ak;rfl)|(apply Ad.Ac;rfl)|(intro _;try (exfalso;omega)))
 ·rename_i h1 h2
  have e1:((a.length:Int)-1).toNat=a.length-1:=by omega
  have hz:gi a (a.length-1)=0:=by omega
  refine Ah.normal ⟨a.take (a.length-1),⟨by simp;omega,?_⟩,by simp;omega,⟨ab _,?_,trivial⟩⟩
  ·have:=hlast (by omega)
   rw [hz] at this;rw [← hr]
   conv=>rhs;rw [this]
   rw [Num.V9]
  ·rw [e1];exact C9
 ·rename_i h1 h2
  refine Done.rt rfl rfl ⟨?_,rfl,rfl⟩;have e:Num.Lm a=a:=by
   have:=hlast (by omega)
   conv=>lhs;rw [this]
   rw [Num.bV _ (by omega),← this]
  rw [← hr,e]
 ·rename_i h1
  refine Done.rt rfl rfl ⟨?_,rfl,rfl⟩;have:a=[]:=bu (by omega);rw [← hr,this];rfl
theorem Tv (m n:List Nat) (hm:Num.dV m) (hn:Num.dV n) (hml:m.length<400000) (hnl:n.length<400000) :
 Ap env 205 [.lst 82 (cells m) m.length,.lst 82 (cells n) n.length] (lst 82 (Num.toL (Num.val m*Num.val n))):=by
 refine Ap.enter (Af (by decide)) Tryz.func205 rfl (by kernel_rfl) (by simp [Tryz.ntmps205]) ?_;obtain ⟨T,hT⟩:∃ T,T=m.length+n.length+1:=⟨_,rfl⟩
 repeat' (first|(apply Aa.NY T (0:Nat);rfl;rfl;rfl;rfl;rfl;omega;omega;omega;decide;decide;rfl)|refine go1 ?_|fail)
 refine Ad.DL (fun a:Nat×List Nat=>[(0,lst 82 m),(1,lst 82 n),(5,.vec 0 T 0 T),(19,lst 82 m),(20,.p (.int .i64 m.length)),(21,.p (.int .i64 (a.1:Int)))]) (fun a=>[(0,.vec 82 (cells a.2) T false)]) 1
  (fun a=>a.1≤m.length∧a.2.length=T∧Num.dV a.2∧Num.val a.2=Num.val (m.take a.1)*Num.val n∧∀ j,a.1+n.length≤j→gi a.2 j=0) (fun a=>m.length-a.1) (0,List.replicate T 0) (by omega)
  ⟨by simp,by simp,Num.eF _,by simp [Num.fO,Num.val],fun j _=>Num.U2 _ _⟩ ⟨ab _,?_,?_⟩ ?_
 ·exact C9
 ·exact DR
 rintro ⟨i,out⟩ ⟨hi,hol,hlim,hval,hzero⟩;simp only at hi hol hlim hval hzero;dsimp only;by_cases hlt:i<m.length
 ·have ha:=Num.yN hm i
  repeat' (first|(apply Aa.Aj;rfl;rfl;rfl;omega;rfl)|refine Eu ?_|(apply Ad.Ac;rfl)|(intro _;try (exfalso;omega)))
  refine Ad.DL (fun a:Nat×Nat×List Nat=>[(0,lst 82 m),(1,lst 82 n),(5,.vec 0 T 0 T),(6,.p (.int .i64 (i:Int))),(7,.p (.int .u64 ((gi m i:Nat):Int))),(8,.p (.int .u64 (a.2.1:Int))),(19,lst 82 m),(20,.p (.int .i64 m.length)),(21,.p (.int .i64 (i:Int))),(26,lst 82 n),(27,.p (.int .i64 n.length)),(28,.p (.int .i64 (a.1:Int)))]) (fun a=>[(0,.vec 82 (cells a.2.2) T false)]) 1
   (fun a=>a.1≤n.length∧a.2.1<1000000000∧a.2.2.length=T∧Num.dV a.2.2∧Num.val a.2.2+a.2.1*Num.B9 ^ (i+a.1)=Num.val out+gi m i*Num.B9 ^ i*Num.val (n.take a.1)∧∀ j,i+n.length≤j→gi a.2.2 j=0) (fun a=>n.length-a.1) (0,0,out) (by omega)
   ⟨by simp,by simp,hol,hlim,by simp [Num.val],hzero⟩ ⟨ab _,?_,?_⟩ ?_
  ·exact C9
  ·exact DR
  rintro ⟨k,carry,o⟩ ⟨hk,hc,hol',hlim',hval',hzero'⟩;simp only at hk hc hol' hlim' hval' hzero';dsimp only;by_cases hlk:k<n.length
  ·have hb:=Num.yN hn k
   have ho:=Num.yN hlim' (i+k);have hab:gi m i*gi n k≤999999999*999999999:=cV (by omega) (by omega)
   repeat' (first|(apply Aa.KC (y:=(gi o (i+k)+gi m i*gi n k+carry) % 1000000000);rfl;rfl;rfl;trivial;(first|rfl|(refine congrArg (fun t=>[PV.p (FV.int _ t)]) ?_;first|omega|(simp only [Int.natCast_add,Int.natCast_mul,Int.natCast_ediv,Int.natCast_emod]<;>omega)));rfl;rfl;decide;(first|omega|(simp only [List.length_set]<;>omega)))|(apply Aa.Aj;rfl;rfl;rfl;omega;rfl)|(apply Aa.D5;rfl;rfl;rfl;rfl;omega)|refine fP ?_|(apply Aa.int;rfl;rfl;rfl)|(apply Ad.Ac;rfl)|(intro _;try (exfalso;omega)))
   refine Ah.normal ⟨(k+1,(gi o (i+k)+gi m i*gi n k+carry) / 1000000000,o.set (i+k) ((gi o (i+k)+gi m i*gi n k+carry) % 1000000000)),⟨by simp only;omega,?_,by simp [hol'],?_,?_,?_⟩,by simp only;omega,⟨ab _,?_,?_⟩⟩
   ·simp only
    apply cR;omega
   ·exact Num.zk hlim' (bc _ (by decide))
   ·simp only
    rw [Num.Si n k hlk];exact Num.a5v (by omega) hval'
   ·intro j hj
    simp only;rw [Num.GI _ _ _ _ (by omega),if_neg (by omega)];exact hzero' j hj
   ·exact C9
   ·exact DR
  ·have hkn:k=n.length:=by omega
   subst hkn;have hz:=hzero' (i+n.length) (by omega)
   repeat' (first|(apply Aa.KC (y:=gi o (i+n.length)+carry);rfl;rfl;rfl;trivial;(first|rfl|(refine congrArg (fun t=>[PV.p (FV.int _ t)]) ?_;first|omega|(simp only [Int.natCast_add,Int.natCast_mul,Int.natCast_ediv,Int.natCast_emod]<;>omega)));rfl;rfl;decide;(first|omega|(simp only [List.length_set]<;>omega)))|(apply Aa.D5;rfl;rfl;rfl;rfl;omega)|refine fP ?_|(apply Aa.int;rfl;rfl;rfl)|(apply Ad.Ac;rfl)|(intro _;try (exfalso;omega)))
   refine Ah.normal ⟨(i+1,o.set (i+n.length) (gi o (i+n.length)+carry)),⟨by simp only;omega,by simp [hol'],?_,?_,?_⟩,by simp only;omega,⟨ab _,?_,?_⟩⟩
   ·refine Num.zk hlim' ?_
    rw [hz];simp only [Num.B9];omega
   ·simp only
    rw [Num.b4m (by omega) hz hval',hval,cr,Num.Si m i hlt,cU]
   ·intro j hj
    simp only at hj;simp only;rw [Num.GI _ _ _ _ (by omega),if_neg (by omega)];exact hzero' j (by omega)
   ·exact C9
   ·exact DR
 ·have him:i=m.length:=by omega
  subst him;have htr:=iW out (by omega);rw [hol] at htr
  repeat' (first|(refine Ad.at 14 ?_;refine Ad.ghost (Aw.freeze 5 rfl rfl) ?_;first|apply Ad.BD|apply Ad.Cj)|apply Ad.BD|(apply Aa.fn;rfl;rfl;exact htr;intro _;rfl)|refine go2 ?_|(apply Aa.int;rfl;rfl;rfl)|(apply Ad.Ac;rfl)|(intro _;try (exfalso;omega)))
  ·refine Done.rt rfl rfl ⟨?_,rfl,rfl⟩
   rw [Num.sU hlim,hval,cr]
end
section
open Go Go.Am Go.Vm
attribute [local irreducible] Aa Ai Ag Ad AO Ap Bc BK Bh Ah Vm.Done Bv AB
theorem oN {l:List UInt8} {p:UInt8→Prop} (h:∀ c∈l,p c) (i:Nat) (hi:i<l.length):p (gi l i):=by
 simp only [gi,List.getElem?_eq_getElem hi,Option.getD_some];grind
theorem a3w (n:Nat) (hn:Lib.nDigits n<900000):Ap env 129 [.str (bs (Lib.decDigits n))] (lst 82 (Num.toL n)):=by
 refine Ap.enter (Af (by decide)) Tryz.func129 rfl (by kernel_rfl) (by simp [Tryz.ntmps129]) ?_;obtain ⟨d,hd⟩:∃ d,d=Lib.decDigits n:=⟨_,rfl⟩
 obtain ⟨K,hK⟩:∃ K,K=Lib.nDigits n:=⟨_,rfl⟩
 have hdl:d.length=K:=by rw [hd,hK,Lib.decDigits_length]
 have hdD:d=Num.D K n:=by rw [hd,hK,Num.Ey]
 rw [← hd]
 repeat' (first|(apply Aa.Me;rfl;rfl)|refine go1 ?_|fail)
 refine Ad.ghost (Aw.adopt 3 82 rfl) ?_;refine Ad.DL (fun k:Nat=>[(0,st d),(3,.vec 0 (Num.limbs n k).length 0 (Num.limbs n k).length),(4,.p (.int .i64 ((K:Int)-9*(k:Int))))]) (fun k=>[(0,.vec 82 (cells (Num.limbs n k)) (Num.limbs n k).length true)]) 1 (fun k=>9*k<K+9) (fun k=>K+9-9*k) 0 (by omega) (by omega) ⟨ab _,?_,?_⟩ ?_
 ·rw [← hdl];refine Gj.cons trivial rfl (.refl _) ?_;exact C9
 ·exact BI.cons (by decide) trivial rfl (.refl _) BI.nil
 intro k hk;have hll:=Num.MQ n k;by_cases hlt:9*k<K
 ·obtain ⟨e,he⟩:∃ e,e=K-9*k:=⟨_,rfl⟩
  obtain ⟨c,hc⟩:∃ c,c=min 9 e:=⟨_,rfl⟩
  obtain ⟨p,hp⟩:∃ p,p=Num.D c (n / 10 ^ (9*k)):=⟨_,rfl⟩
  have hpl:p.length=c:=by rw [hp,Num.EN]
  have hpc:List.drop (max ((K:Int)-9*(k:Int)-9) 0).toNat (List.take ((K:Int)-9*(k:Int)).toNat d)=p:=by
   rw [show ((K:Int)-9*(k:Int)).toNat=e by omega,show (max ((K:Int)-9*(k:Int)-9) 0).toNat=e-c by omega,hdD,Num.pJ K n e c (by omega) (by omega),hp];rw [show K-e=9*k by omega]
  have b9c:Num.parse p=Num.kD n k:=by
   rw [hp,Num.UW];unfold Num.kD;rw [show Num.B9 ^ k=10 ^ (9*k) by rw [dE]];by_cases h9:c=9
   ·rw [h9]
   ·have hlt2:n / 10 ^ (9*k)<10 ^ c:=by
     apply cR;rw [← cC,show 9*k+c=K by omega,hK];exact Lib.lt_pow_nDigits n
    have hle:10 ^ c≤Num.B9:=by
     have:10 ^ c≤10 ^ 9:=aw (by decide) (by omega);exact this
    rw [br hlt2,br (by omega)]
  have hdig:∀ i,i<p.length→48≤(gi p i).toNat∧(gi p i).toNat≤57:=fun i hi=>oN (p:=fun c=>48≤c.toNat∧c.toNat≤57) (by rw [hp];exact Num.lM _ _) i hi
  have hpv:∀ j,j≤p.length→Num.parse (p.take j)<1000000000:=fun j hj=>by
   have h1:=Num.qR (p.take j) (fun c hc=>by
    have hm:=fm hc;rw [hp] at hm;exact Num.lM _ _ c hm)
   rw [az,cM hj] at h1;have h2:10 ^ j≤10 ^ 9:=aw (by decide) (by omega);exact ag h1 h2
  repeat' (first|(apply Aa.lenV;rfl;rfl;rfl)|refine Eu ?_|(rw [hpc])|(apply Aa.b3q;rfl;rfl;rfl;rfl;omega)|(apply Aa.toBytes;rfl;rfl;rfl;rfl;rfl;rfl;omega)|(apply Aa.yO;rfl;rfl)|(apply Ad.Ac;rfl)|(intro _;try (exfalso;omega)))
  refine Ad.DL (fun j:Nat=>[(0,st d),(3,.vec 0 (Num.limbs n k).length 0 (Num.limbs n k).length),(4,.p (.int .i64 ((K:Int)-9*(k:Int)))),(5,.p (.int .u64 ((Num.parse (p.take j):Nat):Int))),(20,.vec 1 p.length 0 p.length),(21,.p (.int .i64 p.length)),(22,.p (.int .i64 (j:Int)))])
   (fun _=>[(1,.vec 5 (cells p) p.length false),(0,.vec 82 (cells (Num.limbs n k)) (Num.limbs n k).length true)]) 2 (fun j=>j≤p.length) (fun j=>p.length-j) 0 (by omega) (by omega) ⟨ab _,?_,?_⟩ ?_
  ·exact C9
  ·exact DR
  intro j hj;have hv:=hpv j hj;by_cases hlj:j<p.length
  ·have hd2:=hdig j hlj
   repeat' (first|(apply Aa.D5;rfl;rfl;rfl;rfl;omega)|refine Eu ?_|(apply Aa.qU;rfl;rfl;rfl;rfl;omega)|(apply Ad.Ac;rfl)|(intro _;try (exfalso;omega)))
   refine Ah.normal ⟨j+1,by omega,by omega,⟨by omega,?_,?_⟩⟩
   ·rw [Num.parse_snoc' p j hlj];exact C9
   ·exact DR
  ·have hjp:j=p.length:=by omega
   subst hjp
   repeat' (first|(apply Aa.CW (a:=(Num.parse (p.take p.length)));rfl;rfl;rfl;rfl;rfl;rfl;rfl;rfl;(intro _ h;cases h);rfl;rfl;rfl;decide;decide;(first|omega|(simp only [List.length_take,List.length_drop,List.length_append,List.length_singleton,List.length_cons,List.length_nil]<;>omega)))|refine Ij ?_|(apply Aa.int;rfl;rfl;rfl)|(apply Aa.buildSlice;rfl;rfl;rfl;decide;rfl;rfl;rfl)|(apply Ad.Ac;rfl)|(intro _;try (exfalso;omega)))
   have e1:Num.limbs n k++[Num.parse (p.take p.length)]=Num.limbs n (k+1):=by rw [cr,b9c,Num.limbs]
   have e2:(Num.limbs n (k+1)).length=(Num.limbs n k).length+1:=by rw [Num.MQ,Num.MQ]
   refine Ah.normal ⟨k+1,by omega,by omega,⟨by omega,?_,?_⟩⟩
   ·rw [e2,show (K:Int)-9*((k+1:Nat):Int)=(K:Int)-9*(k:Int)-9 by omega];exact C9
   ·rw [e2,← e1];exact DR
 ·have htr:=iW (Num.limbs n k) (by omega)
  repeat' (first|(refine Ad.at 12 ?_;refine Ad.ghost (Aw.freeze 3 rfl rfl) ?_;first|apply Ad.BD|apply Ad.Cj)|(apply Aa.fn;rfl;rfl;exact htr;intro _;rfl)|refine go2 ?_|apply Ad.BD|(apply Aa.int;rfl;rfl;rfl)|(apply Ad.Ac;rfl)|(intro _;try (exfalso;omega)))
  ·refine Done.rt rfl rfl ⟨?_,rfl,rfl⟩
   rw [Num.xZ];rw [show Num.B9 ^ k=10 ^ (9*k) by rw [dE]];exact ag (Lib.lt_pow_nDigits n) (aw (by decide) (by omega))
end
end Go.Proofs.YtnjkoebfgcbbdaaGreatDoor
