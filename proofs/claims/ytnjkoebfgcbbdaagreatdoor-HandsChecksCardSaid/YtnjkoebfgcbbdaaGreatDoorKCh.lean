/-
  Texts of a proof, merged (Ori, Vm29, Shell, WB, Am23, VmE, Vm30, Orq, Nsq, EnvO, IntA). Conditions: in each statement.
-/
import Derived.Sort.Grow
import Derived.Test.YtnjkoebfgcbbdaaGreatDoorTie
import Derived.ProofKit
import Derived.LaidMore
import Derived.OpenShut
import Derived.Below
import Derived.MakeChecks
import Derived.Stop.Joined
import Derived.Shelf.SlIterI.Collect
import Derived.Shelf.Spec.TrailingZeros
import Derived.Test.YtnjkoebfgcbbdaaGreatDoorKCg
set_option linter.unusedSimpArgs false
set_option linter.unusedVariables false
set_option linter.unusedSectionVars false
set_option maxRecDepth 100000
set_option maxHeartbeats 8000000
abbrev cC:=@List.take_length
abbrev cS:=@List.filter_append
abbrev cT:=@List.append_nil
abbrev dd:=@List.length_filter_le
abbrev dp:=@Nat.pow_mul
abbrev dz:=@List.forIn_cons
abbrev ej:=@List.map_nil
abbrev el:=@Array.forIn_toList
abbrev fi:=@List.mem_of_mem_take
abbrev gj:=@Option.bind_some
namespace Go.Vm
open Go.Am
open Go.Sort (putRow putCells mapBlock onCells Holds grow size_putRow size_grow)
section
variable {P:Program} {G:List Nat}
def iV (z:Int):Value:=.int .i64 z
def VX:List Value→Option (List Int)
 |[]=>some []
 | .int .i64 n::l=>(VX l).map (n::·)
 |_::_=>none
theorem Wj:∀ zs:List Int,VX (zs.map iV)=some zs
 |[]=>rfl
 |z::zs=>by simp only [List.map_cons,iV,VX];rw [Wj zs];rfl
theorem ig:∀ {l:List Value} {zs:List Int},VX l=some zs→l=zs.map iV
 |[],zs,h=>by cases h;rfl
 |v::l,zs,h=>by
  unfold VX at h;split at h
  ·grind
  ·rename_i n l' he
   cases he;rw [ae] at h;obtain ⟨zs',h1,rfl⟩:=h;rw [ig h1];rfl
  grind
abbrev InF:=List Int→List Value→Option (List Int×Option Nat)
def gG (e:TypeId) (Fn:InF) (BF:List Value) (m:Mem):Option (Value×Mem):=match BF with
 | .slice none 0 0::rest=>match Fn [] rest with
  |some ([],none)=>some (.tuple #[],m)
  |_=>none
 | .slice (some ⟨b,0,none⟩) n g::rest=>match m.get b with
  | .cells vs e' g' false =>
   if g=g'∧e=e'∧vs.length=n∧0<n∧rest.all Am.plainCell=true then
    match VX vs with
    |some zs=>match Fn zs rest with
     |some (zs',none)=>if zs'.length=n then some (.tuple #[],m.put b (.cells (zs'.map iV) e g' false)) else none
     |some (zs',some k)=>if zs'.length=n∧k≤n then some (.slice (some ⟨b,0,none⟩) k (g'+1),m.put b (.cells ((zs'.take k).map iV) e (g'+1) false)) else none
     |none=>none
    |none=>none
   else none
  |_=>none
 |_=>none
inductive yV (e:TypeId) (Fn:InF) (m:Mem):List Value→Value→Mem→Prop
 |nil {rest:List Value} (h:Fn [] rest=some ([],none)):yV e Fn m (.slice none 0 0::rest) (.tuple #[]) m
 |put {b n g:Nat} {rest:List Value} {zs zs':List Int} (hm:m.get b=.cells (zs.map iV) e g false) (hn:zs.length=n) (h0:0<n) (hr:rest.all Am.plainCell=true) (h:Fn zs rest=some (zs',none)) (hl:zs'.length=n) :
  yV e Fn m (.slice (some ⟨b,0,none⟩) n g::rest) (.tuple #[]) (m.put b (.cells (zs'.map iV) e g false))
 |cut {b n g k:Nat} {rest:List Value} {zs zs':List Int} (hm:m.get b=.cells (zs.map iV) e g false) (hn:zs.length=n) (h0:0<n) (hr:rest.all Am.plainCell=true) (h:Fn zs rest=some (zs',some k)) (hl:zs'.length=n) (hk:k≤n) :
  yV e Fn m (.slice (some ⟨b,0,none⟩) n g::rest) (.slice (some ⟨b,0,none⟩) k (g+1)) (m.put b (.cells ((zs'.take k).map iV) e (g+1) false))
theorem aZ {e:TypeId} {Fn:InF} {BF:List Value} {m m':Mem} {v:Value} (h:gG e Fn BF m=some (v,m')):yV e Fn m BF v m':=by
 unfold gG at h;split at h
 ·split at h
  ·rename_i h1;cases h;exact .nil h1
  grind
 ·rename_i b n g rest
  split at h
  ·rename_i vs e' g' hm
   split at h
   ·rename_i hc
    obtain ⟨rfl,rfl,h1,h2,h3⟩:=hc;split at h
    ·rename_i zs hz
     have hv:=ig hz;subst hv;rw [bc] at h1;split at h
     ·rename_i zs' hf
      split at h
      ·rename_i hl;cases h;exact .put hm h1 h2 h3 hf hl
      grind
     ·rename_i zs' k hf
      split at h
      ·rename_i hl;cases h;exact .cut hm h1 h2 h3 hf hl.1 hl.2
      grind
     grind
    grind
   grind
  grind
 grind
open Classical in
noncomputable def inO (G:List Nat) (M0:Mem) (ff:FuncId) (e:TypeId) (Fn:InF) (O:CB):CB:=fun f=>if f=ff then some (fun BF m=>if ∀ k∈G,m.get k=M0.get k then gG e Fn BF m else none) else O f
theorem xR {M0:Mem} {ff f:FuncId} {e:TypeId} {Fn:InF} {O:CB} (h:f≠ff):inO G M0 ff e Fn O f=O f:=if_neg h
theorem getElem!_toArray (zs:List Int) (j:Nat):zs.toArray[j]! =(zs[j]?).getD 0 :=by simp
theorem Sr {ι:BJ} {m:Mem} {w:World} {b g g2 q:Nat} {ib:IB} {e:TypeId} {zs zs' ys:List Int} {os:Array Obj} (hs:DL P G ι m w) (hb:ι b=some ib) (hm:m.get b=.cells (zs.map iV) e g false) (hl:zs'.length=zs.length) (hy:∃ k,ys=zs'.take k) (hg:g≤g2) :
 ∃ ι',Ext ι m w ι' (m.put b (.cells (ys.map iV) e g2 false)) (grow (putRow iV (Sort.ahead w q) ib.blk ib.sh zs'.toArray) os)∧DL P G ι' (m.put b (.cells (ys.map iV) e g2 false)) (grow (putRow iV (Sort.ahead w q) ib.blk ib.sh zs'.toArray) os)∧ι' b=some ib:=by
 obtain ⟨cs,fr,e',hrow,hlim,TN,hrel,hfr0⟩:=Ii hs hb hm;obtain ⟨rfl,hfr⟩:=hfr0 rfl;have hlt:ib.blk<w.heap.size:=(hs.dom b ib hb).2;have a2x:(grow (putRow iV (Sort.ahead w q) ib.blk ib.sh zs'.toArray) os).heap[ib.blk]?=some (.cells (putCells iV ib.sh zs'.toArray cs) e' fr):=by
  show ((putRow iV (Sort.ahead w q) ib.blk ib.sh zs'.toArray).heap++os)[ib.blk]?=_;rw [cH (by simp_all)];simp only [putRow,mapBlock,Sort.heap_ahead,Array.getElem?_modify,hrow];rfl
 refine Jc (x:=.cells (ys.map iV) e' g2 false) (ib':=ib) hs hb (Mem.Pn hm) rfl ⟨by rw [Mem.G7 hm];exact hg,fun _=>rfl⟩ (.inl rfl) a2x (fun c hc hne=>?_) ?_ rfl rfl rfl (fun ι' g' _=>?_)
 ·show ((putRow iV (Sort.ahead w q) ib.blk ib.sh zs'.toArray).heap++os)[c]?=_
  simp only [putRow,mapBlock,Sort.heap_ahead,Array.getElem?_modify];grind
 ·simp
 ·obtain ⟨k,rfl⟩:=hy
  refine ⟨fun _=>rfl,by rw [hlim];simp [putCells],TN,fun i hi=>?_,fun _ j hj=>hfr j (by simpa [putCells] using hj)⟩;rw [bc,aw] at hi;have hi':i<zs'.length:=by omega
  obtain ⟨v',h2,_⟩:=hrel i (by rw [bc];omega);refine ⟨iV zs'[i],?_,?_⟩
  ·simp only [putCells,Array.getElem?_mapIdx,h2,Option.map_some]
   rw [if_pos ⟨by omega,by simp;omega⟩,show ib.sh+i-ib.sh=i by omega,getElem!_toArray,ai hi'];rfl
  ·have e1:((zs'.take k).map iV).getD i undef=iV zs'[i]:=by
    rw [bO,aD,cR,if_pos (by omega),ai hi'];rfl
   rw [e1];exact .int _ _
theorem holds_of {ι:BJ} {m:Mem} {w:World} {b g:Nat} {ib:IB} {e:TypeId} {zs:List Int} (hs:DL P G ι m w) (hb:ι b=some ib) (hm:m.get b=.cells (zs.map iV) e g false):Holds iV w ib.blk ib.sh zs.toArray:=by
 obtain ⟨cs,fr,e',hrow,hlim,TN,hrel,hfr0⟩:=Ii hs hb hm;obtain ⟨rfl,hfr⟩:=hfr0 rfl;intro j hj;have hj':j<zs.length:=by omega
 obtain ⟨v',h2,h3⟩:=hrel j (by grind);have e1:(zs.map iV).getD j undef=iV zs[j]:=by
  grind
 rw [e1] at h3;have e2:=h3.D5 (v:=iV zs[j]) rfl;refine ⟨?_,?_⟩
 ·rw [Am.cell_of_row hrow,getElem!_toArray,ai hj'];grind
 ·rw [Am.frozen_of_row hrow]
  grind
theorem Y5 (x:Value) (l:List Value):(⟨x::l⟩:Array Value)=#[x]++l.toArray :=by simp
theorem dN {M0:Mem} {ff:FuncId} {e:TypeId} {Fn:InF} {O:CB} (hO:Gu P G O) (he:Am.Enters P ff) (h1:P.cellsOf e=1)
 (hc:∀ (blk off cap:Nat) (zs zs':List Int) (r:Option Nat) (rest:List Value) (w:World),Fn zs rest=some (zs',r)→zs'.length=zs.length→(∀ k,r=some k→k≤zs.length)→Holds iV w blk off zs.toArray→blk<w.heap.size→zs.length≤cap→0<zs.length →
  Calls P ff (#[.slice (some ⟨blk,off,none⟩) zs.length cap]++rest.toArray) w fun x w'=>x=.returned (match r with|none=>.tuple #[]|some k=>.slice (some ⟨blk,off,none⟩) k cap)∧∃ q os,w'=grow (putRow iV (Sort.ahead w q) blk off zs'.toArray) os)
 (hn:∀ (rest:List Value) (rest':Array Value) (w:World),Fn [] rest=some ([],none)→rest'.size=rest.length→Calls P ff (#[.slice none 0 0]++rest') w fun x w'=>x=.returned (.tuple #[])∧w'=w):Gu P G (inO G M0 ff e Fn O):=by
 intro f Fo hf;by_cases h:f=ff
 ·subst h
  unfold inO at hf;rw [if_pos rfl] at hf;cases hf;refine ⟨fun BF m v m' hv ι w as' hs hrel=>?_,fun BF m v m' hv=>?_,he,XM.none fun n lb m=>by simp only [vF,Yg,gG];split<;>rfl⟩
  ·simp only at hv
   split at hv
   case isFalse=>cases hv
   have hr:=aZ hv;obtain ⟨as'⟩:=as';cases hr with
   |nil h =>
    obtain ⟨v',k',rfl,h2,h3⟩:=hrel.Kv;cases h2;rw [Y5];refine (hn _ k'.toArray w h (by simpa using h3.1.symm)).mono ?_;rintro x w' ⟨rfl,rfl⟩;exact ⟨_,rfl,Post.same hs (.tuple [] [] rfl fun i hi=>absurd hi (by simp))⟩
   |put hm hn2 h0 hp h hl =>
    rename_i b n g rest zs zs';subst hn2;obtain ⟨v',k',rfl,h2,h3⟩:=hrel.Kv;have e3:k'=rest:=by
     refine (UO h3.1 fun i hi=>?_).symm;exact ((h3.2 i hi).D5 (aL.1 hp _ (getD_mem hi))).symm
    subst e3;cases h2 with
    |sl _ _ _ _ a' cap hsr =>
     obtain ⟨ib,hb,_,hcap,hcur⟩:=hsr;obtain ⟨c1,c2,c3⟩:=hcur (Mem.G7 hm).symm;replace c3:a'.off=0+ib.sh∧a'.off+cap*ib.uH≤ib.lim:=c3.resolve_left (by omega);obtain ⟨blk,off,sp⟩:=a';simp only at c1 c2 c3;subst c1;subst c2;have c4:off=ib.sh:=by omega
     subst c4;rw [Y5];refine (hc ib.blk ib.sh cap zs zs' none k' w h hl (fun k hk=>by cases hk) (holds_of hs hb hm) (hs.dom b ib hb).2 hcap h0).mono ?_;rintro x w' ⟨rfl,q,os,rfl⟩;obtain ⟨ι',q1,q2,q3⟩:=Sr (q:=q) (os:=os) hs hb hm hl ⟨zs'.length,(cC).symm⟩ (ab g);exact ⟨_,rfl,ι',q1,q2,.tuple [] [] rfl fun i hi=>absurd hi (by simp)⟩
   |cut hm hn2 h0 hp h hl hk =>
    rename_i b n g k rest zs zs';subst hn2;obtain ⟨v',k',rfl,h2,h3⟩:=hrel.Kv;have e3:k'=rest:=by
     refine (UO h3.1 fun i hi=>?_).symm;exact ((h3.2 i hi).D5 (aL.1 hp _ (getD_mem hi))).symm
    subst e3;cases h2 with
    |sl _ _ _ _ a' cap hsr =>
     obtain ⟨ib,hb,_,hcap,hcur⟩:=hsr;obtain ⟨c1,c2,c3⟩:=hcur (Mem.G7 hm).symm;replace c3:a'.off=0+ib.sh∧a'.off+cap*ib.uH≤ib.lim:=c3.resolve_left (by omega);obtain ⟨blk,off,sp⟩:=a';simp only at c1 c2 c3;subst c1;subst c2;obtain ⟨c3,c4⟩:=c3;have c5:off=ib.sh:=by omega
     subst c5;rw [Y5];refine (hc ib.blk ib.sh cap zs zs' (some k) k' w h hl (fun j hj=>by cases hj;exact hk) (holds_of hs hb hm) (hs.dom b ib hb).2 hcap h0).mono ?_;rintro x w' ⟨rfl,q,os,rfl⟩;obtain ⟨ι',q1,q2,q3⟩:=Sr (q:=q) (os:=os) hs hb hm hl ⟨k,rfl⟩ (cE g);exact ⟨_,rfl,ι',q1,q2,.sl _ _ _ _ _ _ ⟨ib,q3,by rw [Mem.gen,Mem.get_put,if_pos rfl];exact ab _,by omega,fun _=>⟨rfl,rfl,.inr ⟨(cw _).symm,c4⟩⟩⟩⟩
  ·simp only at hv
   split at hv
   case isFalse=>cases hv
   have hr:=aZ hv;cases hr with
   |nil=>exact AO.refl _
   |put hm=>exact AO.put (Mem.Pn hm) rfl
   |cut hm=>exact AO.put (Mem.Pn hm) rfl
 ·rw [xR h] at hf
  exact hO f Fo hf
end
end Go.Vm
namespace Go.Vm
open Go.Am
section
variable {P:Program} {F0:Nat} {laid:List (String×DataW Unit)} {O O0:CB} {ff:FuncId} {Fn:InF} {L:Frame} {H:Heap} {nx:Nat} {Q:PV→Heap→Nat→Prop} {w:Bool}
variable {dst:Option Tmp} {ty:TypeId} {pos:String} {af:Array Edge} {gd:Option (Nat×Bool)}
theorem Dj.ints {m:Mem} {F:Nat→Prop}:∀ {zs:List Int} {vs:List Value},Dj m F (cells zs) vs→vs=zs.map iV
 |[],_,h=>by cases h;rfl
 |z::zs,_,h=>by
  cases h with
  |cons h t=>cases h;rw [Dj.ints t];rfl
theorem Dj.ofInts (m:Mem) (F:Nat→Prop):∀ zs:List Int,Dj m F (cells zs) (zs.map iV)
 |[]=>.nil
 |z::zs=>.cons (.int .i64 z) (Dj.ofInts m F zs)
theorem o7 (zs:List Int):(zs.map iV).all BK=true:=by
 rw [aL];intro x hx;obtain ⟨z,_,rfl⟩:=be.1 hx;rfl
theorem jR {m:Mem} {F:Nat→Prop} {σ:Nat→Value} (h1:Ctx (EY P F0 laid O).Γ m F σ H nx):∀ k∈AP P F0 laid,m.get k=(Bv P F0 laid).get k:=fun k hk=>by
 obtain ⟨hlt,e,l,hgl⟩:=Ox hk;have:=(h1.gl k l e (by simp only [EY,gam,if_pos hlt,hgl,Option.map_some])).2.1;rw [this,IG hlt,hgl]
theorem yh {E:Env} {m:Mem} {F:Nat→Prop} {σ:Nat→Value} {t:Tr Value} {b n:Nat} {e:TypeId} {zs:List Int} {z:Bool} {args:List Operand} {rest:List FV} (h1:Ctx E.Γ m F σ H nx) (h2:RL m F (htag H) σ nx L t)
 (ha:evs E.Γ L args=some (.vec b n 0 n::rest.map .p)) (hb:hget H b=some (.vec e (cells zs) n z)) (h0:0<n) :
 ∃ c g us,args.map (ev t)=.slice (some ⟨c,0,none⟩) n g::us∧Dj m F rest us∧σ b=.slice (some ⟨c,0,none⟩) n g∧c<m.size∧¬ F c∧m.get c=.cells (zs.map iV) e g false:=by
 have hr:=Rn h1 h2 ha;obtain ⟨_,hrb⟩:=h1.hp b _ hb;rcases hrb with ⟨_,r2,_⟩|⟨c,g,vs,r1,r2,r3,r4,r5,r6,r7⟩
 ·omega
 have hv:=Dj.ints r5;subst hv;generalize args.map (ev t)=BF at hr;cases hr with
 |cons h3 h4 =>
  rename_i v us;refine ⟨c,g,us,?_,Dj.XG h4,r1,r2,r3,r4⟩;cases h3 with
  |vec hb' hc h =>
   have:=(h n (by simp [htag,hb,HB.tag])).2 rfl;simp only [Gg] at this;grind
theorem Aa.c1c {fo:Operand} {args:Array Operand} {aT:Array TypeId} {b n k:Nat} {e:TypeId} {zs zs':List Int} {z:Bool} {rest:List FV} {rv:List Value} (hO:O ff=inO (AP P F0 laid) (Bv P F0 laid) ff e Fn O0 ff)
 (hf:AU (EY P F0 laid O).Γ L fo=some (.clo ff [] [])) (ha:evs (EY P F0 laid O).Γ L args.toList=some (.vec b n 0 n::rest.map .p)) (hb:hget H b=some (.vec e (cells zs) n z)) (hrv:∀ m F us,Dj m F rest us→us=rv) (hpl:rv.all Am.plainCell=true)
 (hn:zs.length=n) (h0:0<n) (hF:Fn zs rv=some (zs',some k)) (hl:zs'.length=n) (hk:k≤n)
 (q:Q (.vec nx k 0 k) ((nx,.vec e (cells (zs'.take k)) k false)::hdel H b) (nx+1)):Aa (EY P F0 laid O) true ⟨dst,.call { callee:=.value fo,args:=args,argTypes:=aT },ty,pos,af,gd⟩ L H nx Q:=by
 intro m F σ t h1 h2;obtain ⟨c,g,us,e1,e2,e3,e4,e5,e6⟩:=yh h1 h2 ha hb h0;have e7:=hrv m F us e2;subst e7;have hfv:=Bz h1 h2 hf;generalize hfe:ev t fo=fv at hfv;cases hfv with
 |clo r1 r2 =>
  cases r1;cases r2;have hput':∀ d,c≠d→(m.put c (.cells ((zs'.take k).map iV) e (g+1) false)).get d=m.get d:=fun d hd=>by rw [Mem.get_put,if_neg hd]
  obtain ⟨c1,c2⟩:=h1.move (m':=m.put c (.cells ((zs'.take k).map iV) e (g+1) false)) (s':=.slice (some ⟨c,0,none⟩) k (g+1)) (x':=.vec e (cells (zs'.take k)) k false) hb (ab _) (fun d _ hd=>hput' d fun e'=>hd (by rw [e3,e'];rfl)) (fun k' k1 k2 k3=>by
   have:=k3 c (by rw [e3];rfl);simp only [Mem.put];omega) (fun d hd=>.inl (by rw [e3];exact hd)) (.inr ⟨c,g+1,_,rfl,e4,e5,by rw [Mem.get_put,if_pos rfl],Dj.ofInts _ _ _,o7 _,fun _=>rfl⟩)
  refine Gs.call (f:=ff) (BF:=args.toList.map (ev t)) (fun call=>by simp only [BO,hfe];simp) (Jh.ZC (v:=.slice (some ⟨c,0,none⟩) k (g+1)) (m':=m.put c (.cells ((zs'.take k).map iV) e (g+1) false)) (show O ff=_ by rw [hO];exact if_pos rfl) ?_ ⟨_,_,_,F,_,q,c1,?_,c2,fun h=>by cases h⟩)
  ·rw [if_pos (jR h1),e1]
   simp only [gG,e6];rw [if_pos ⟨trivial,trivial,by rw [bc];exact hn,h0,hpl⟩,Wj];simp only [hF];rw [if_pos ⟨hl,hk⟩]
  ·refine .vec (bE _) rfl fun j hj=>?_
   rw [JJ,if_pos rfl] at hj;simp only [HB.tag,Option.some.injEq,Tg.vec.injEq] at hj;refine ⟨by omega,fun _=>?_⟩;rw [upd_same];exact rfl
theorem Aa.b9d {fo:Operand} {args:Array Operand} {aT:Array TypeId} {b n:Nat} {e:TypeId} {zs zs':List Int} {z:Bool} {rest:List FV} {rv:List Value} (hO:O ff=inO (AP P F0 laid) (Bv P F0 laid) ff e Fn O0 ff)
 (hf:AU (EY P F0 laid O).Γ L fo=some (.clo ff [] [])) (ha:evs (EY P F0 laid O).Γ L args.toList=some (.vec b n 0 n::rest.map .p)) (hb:hget H b=some (.vec e (cells zs) n z)) (hrv:∀ m F us,Dj m F rest us→us=rv) (hpl:rv.all Am.plainCell=true)
 (hn:zs.length=n) (h0:0<n) (hF:Fn zs rv=some (zs',none)) (hl:zs'.length=n)
 (q:Q (.Eb []) (hput H b (.vec e (cells zs') n z)) nx):Aa (EY P F0 laid O) true ⟨dst,.call { callee:=.value fo,args:=args,argTypes:=aT },ty,pos,af,gd⟩ L H nx Q:=by
 intro m F σ t h1 h2;obtain ⟨c,g,us,e1,e2,e3,e4,e5,e6⟩:=yh h1 h2 ha hb h0;have e7:=hrv m F us e2;subst e7;have hz:n=0→z=false:=fun h=>by omega
 have hfv:=Bz h1 h2 hf;generalize hfe:ev t fo=fv at hfv;cases hfv with
 |clo r1 r2 =>
  cases r1;cases r2;have hput':∀ d,c≠d→(m.put c (.cells (zs'.map iV) e g false)).get d=m.get d:=fun d hd=>by rw [Mem.get_put,if_neg hd]
  obtain ⟨c1,c2⟩:=h1.change (m':=m.put c (.cells (zs'.map iV) e g false)) (s':=σ b) (x':=.vec e (cells zs') n z) hb (Vk.refl _) (fun _=>rfl) (ab _) (fun d _ hd=>hput' d fun e'=>hd (by rw [e3,e'];rfl)) (fun k' k1 k2 k3=>by
   have:=k3 c (by rw [e3];rfl);simp only [Mem.put];omega) (fun d hd=>.inl hd) (.inr ⟨c,g,_,e3,e4,e5,by rw [Mem.get_put,if_pos rfl],Dj.ofInts _ _ _,o7 _,hz⟩)
  refine Gs.call (f:=ff) (BF:=args.toList.map (ev t)) (fun call=>by simp only [BO,hfe];simp) (Jh.ZC (v:=.tuple #[]) (m':=m.put c (.cells (zs'.map iV) e g false)) (show O ff=_ by rw [hO];exact if_pos rfl) ?_ ⟨_,_,_,F,_,q,c1,.Eb .nil,c2,fun h=>by cases h⟩);rw [if_pos (jR h1),e1];simp only [gG,e6];rw [if_pos ⟨trivial,trivial,by grind,h0,hpl⟩,Wj];grind
def c3f (E:Env) (g:FuncId) (ac:List PV) (Hc:Heap) (k:Nat) (e:TypeId) (cs:List FV) (n:Nat) (z:Bool):Prop:=Az E g ac Hc k fun r H' nx'=>r=.vec k n 0 n∧H'=(k,.vec e cs n z)::Hc∧nx'=k+1
end
end Go.Vm
namespace Go.Proofs.YtnjkoebfgcbbdaaGreatDoor
open Go Go.ChangeShapes Go.WideShapes Go.ChangeAt Go.WideMaps Go.WideElems Go.RowKit
def Es:List (String×DataW Unit):=[("math/bits.deBruijn32tab",Rows.laid_math_bits_deBruijn32tab),("math/bits.deBruijn64tab",Rows.laid_math_bits_deBruijn64tab),("internal/strconv.uint64pow10",Rows.laid_internal_strconv_uint64pow10)]
theorem own:ownKnob Tryz.prog.godebug=none :=by decide
theorem laidOut:laidOutB Tryz.prog=true:=by kernel_rfl
theorem door_met (os:Os) (args:Array Value):laidMetH Tryz.prog Es ((World.doorLaid Tryz.prog 400 os).forCall (fun _ _=>0) ⟨#[],args,[]⟩).memory :=
 laidMetH_of_parts3 (fuel:=8) (laidMet_of_run' 8 (by kernel_rfl) (by kernel_rfl)) (by kernel_rfl) (by kernel_rfl)
theorem a7h {W:World} (h:laidMetH Tryz.prog Es W):laidMet Tryz.prog Es W:=by
 assumption
end Go.Proofs.YtnjkoebfgcbbdaaGreatDoor
namespace Go.Proofs.YtnjkoebfgcbbdaaGreatDoor
section
open Go Go.Proofs Go.Shelf Go.RowKit
attribute [local go_sem] Oper.semAt_some
def GY (p:Nat):List Nat:=(List.range 64).filter p.testBit
def Eu (lo hi:Nat):List Int:=(GY lo).map (fun n:Nat=>(n:Int))++(GY hi).map (fun n:Nat=>((64+n:Nat):Int))
theorem OW:GY 0=[] :=by decide
theorem uf {p t:Nat} (hp:p<18446744073709551616) (ht:t<64) (h1:p.testBit t=true) (h2:∀ i,i<t→p.testBit i=false) (h3:∀ i,i<64→(p &&& (p-1)).testBit i=(p.testBit i&&decide (i≠t))):GY p=t::GY (p &&& (p-1)):=by
 have split:∀ (f:Nat→Bool) (n:Nat),t<n→(∀ i,i<t→f i=false)→f t=true→(List.range n).filter f=t::(List.range n).filter (fun i=>f i&&decide (i≠t)):=by
  intro f n
  induction n with
  |zero=>simp
  |succ n ih =>
   intro hn hf ht1;rw [List.range_succ,cS,cS];by_cases hnt:t=n
   ·have e1:(List.range t).filter f=[]:=by
     simp_all
    have e2:(List.range t).filter (fun i=>f i&&decide (i≠t))=[]:=by
     simp_all
    grind
   grind
 unfold GY;rw [split p.testBit 64 ht h2 h1];congr 1
 refine fI fun i hi=>?_
 grind
theorem KT (p:Nat):(GY p).length≤64:=by
 have:=dd p.testBit (List.range 64);assumption
theorem Uz {p:Nat} (h0:p≠0) (hp:p<18446744073709551616):GY p=Lib.ctz 64 p::GY (p &&& (p-1))∧Lib.ctz 64 p<64∧(p &&& (p-1))<p:=by
 obtain ⟨m,hm,ht⟩:=Lib.ctzFrom_spec 64 p (by omega) (by omega);have e:Lib.ctz 64 p=Lib.ctzFrom 64 p:=by simp [Lib.ctz,h0]
 rw [e];generalize Lib.ctzFrom 64 p=t at *;have h2:∀ i,p.testBit i=(decide (t≤i)&&(2*m+1).testBit (i-t)):=fun i=>by grind
 have h1:p.testBit t=true:=by grind
 have hlow:∀ i,i<t→p.testBit i=false:=fun i hi=>by grind
 have hle:p &&& (p-1)≤p-1:=Nat.and_le_right;have hpm:p-1=2 ^ t*(2*m)+(2 ^ t-1):=by
  grind
 have h3:∀ i,i<64→(p &&& (p-1)).testBit i=(p.testBit i&&decide (i≠t)):=fun i hi=>by
  rw [Nat.testBit_and];by_cases h4:i<t
  ·grind
  ·have e2:(p-1).testBit i=(2*m).testBit (i-t):=by
    rw [hpm,Nat.testBit_two_pow_mul_add _ (by grind),if_neg h4]
   rw [e2,h2 i];by_cases h5:i=t
   ·grind
   ·obtain ⟨j,hj⟩:∃ j,i-t=j+1:=⟨i-t-1,by omega⟩
    grind
 exact ⟨uf hp ht h1 hlow h3,ht,by omega⟩
def b4t:Go.Shelf.Ren:=⟨fun|29=>148|n=>n,fun|0=>0|3=>3|4=>4|5=>5|22=>82|25=>214|54=>304|n=>n,fun|1=>1|n=>n⟩
theorem c0n:Go.Proofs.Lays7.n29 Tryz.prog b4t:={
 mixed:=by rfl
 f29:=Tryz.func148.trans (congrArg some (by rfl))
 t0:=Tryz.underlying0
 a0:=Tryz.isAgg0
 z0:=Tryz.sizeOf0
 v0:=Tryz.zeroValue0
 i0:=by kernel_rfl
 t3:=Tryz.underlying3
 a3:=Tryz.isAgg3
 z3:=Tryz.sizeOf3
 v3:=Tryz.zeroValue3
 i3:=by kernel_rfl
 t4:=Tryz.underlying4
 a4:=Tryz.isAgg4
 z4:=Tryz.sizeOf4
 v4:=Tryz.zeroValue4
 i4:=by kernel_rfl
 t5:=Tryz.underlying5
 a5:=Tryz.isAgg5
 z5:=Tryz.sizeOf5
 v5:=Tryz.zeroValue5
 i5:=by kernel_rfl
 t22:=Tryz.underlying82
 a22:=Tryz.isAgg82
 z22:=Tryz.sizeOf82
 v22:=Tryz.zeroValue82
 i22:=by kernel_rfl
 t25:=Tryz.underlying214
 a25:=Tryz.isAgg214
 z25:=Tryz.sizeOf214
 v25:=Tryz.zeroValue214
 i25:=by kernel_rfl
 t54:=Tryz.underlying304
 a54:=Tryz.isAgg304
 z54:=Tryz.sizeOf304
 g1:=by kernel_rfl }
def b9m:Go.Shelf.Ren:=⟨fun|8=>107|11=>146|n=>n,fun|0=>0|24=>28|26=>3|28=>263|33=>158|n=>n,fun|n=>n⟩
theorem b8p:Go.Proofs.SlLaysZI.n8 Tryz.prog b9m:={
 mixed:=by rfl
 f8:=⟨"slices.Collect[int]",by decide,Tryz.func107.trans (congrArg some (by rfl))⟩
 f11:=⟨"slices.AppendSeq[[]int,int]",by decide,Tryz.func146.trans (congrArg some (by rfl))⟩
 t0:=Tryz.underlying0
 a0:=Tryz.isAgg0
 z0:=Tryz.sizeOf0
 v0:=Tryz.zeroValue0
 t24:=Tryz.underlying28
 a24:=Tryz.isAgg28
 z24:=Tryz.sizeOf28
 v24:=Tryz.zeroValue28
 t26:=Tryz.underlying3
 a26:=Tryz.isAgg3
 z26:=Tryz.sizeOf3
 v26:=Tryz.zeroValue3
 t28:=Tryz.underlying263
 a28:=Tryz.isAgg263
 z28:=Tryz.sizeOf263
 v28:=Tryz.zeroValue263
 i26:=by kernel_rfl }
def OV (w:World):Prop:=TabAt 1 Lib.deBruijn64tab w
theorem MP {n:Nat} {w w':World} (h:OV w) (hn:1<n) (hb:Below n w w'):OV w':=fun j hj=>by
 rw [← h j hj];exact World.cell?_of_block (a:=⟨1,j,none⟩) (hb.block _ hn)
theorem yj (x:Nat) (hx:x<18446744073709551616) (w:World) (hT:OV w):Calls Tryz.prog 148 #[.int .u64 x] w fun e w'=>e=.returned (.int .i64 (Lib.ctz 64 x))∧w'=w :=
 Any7.bits_TrailingZeros64 (P:=Tryz.prog) (ρ:=b4t) c0n x hx w (fun _=>hT)
end
section
open Go Go.Proofs Go.Shelf Go.RowKit
attribute [local go_sem] Oper.semAt_some
def zy:Value→Int| .int _ q=>q|_=>0
def uq (F:Fence) (n:Nat) (P:Program) (g:Nat) (lb:Array Value) (S:List Int→Prop) (N:Nat) (w:World):Prop :=
 ∀ (l:Nat) (J:List Int→World→Prop) (W:World),(∀ s X,J s X→Below w.heap.size w X)→AbidesFrom W.heap.size J →
  (∀ pre x W1,J pre W1→pre.length<N→YieldAt F (n-1) P l #[encZ x] W1 fun e W'=>e=.returned (.bool true)∧J (pre++[x]) W'∧KeepsWalks W1 W') →
  J [] W →
  CallsIn F n P g (#[.func (.yield l) #[] #[]]++lb) W fun e W'=>(∃ v,e=.returned v)∧∃ xs,S xs∧J xs W'
def Ku (lo hi:Nat):Nat→List Int
 |0=>[]
 |1=>(GY lo).map (fun n:Nat=>(n:Int))
 |_=>Eu lo hi
theorem a7u (lo hi k:Nat):(Ku lo hi k).length≤128:=by
 have h1:=KT lo;have h2:=KT hi
 match k with
 |0=>simp [Ku]
 |1=>simp [Ku];omega
 |k+2=>simp [Ku,Eu];omega
theorem zL {done rest:List Int} {lo hi k:Nat} {x:Int} (h:done++(x::rest)=Ku lo hi k):done.length<128:=by
 have:=a7u lo hi k;grind
theorem Q8 {p:Nat} (hp:p<18446744073709551616):bits .and .u64 (p:Int) ((p-1:Nat):Int)=((p &&& (p-1):Nat):Int):=bits_and_u64_nat p (p-1) hp (by omega)
theorem RG {p:Nat} (h0:p≠0) (hp:p<18446744073709551616):IntKind.u64.wrap ((p:Int)-1)=((p-1:Nat):Int):=by rw [IntKind.wrap_u64];omega
theorem b4x:Tryz.prog.underlying 265=some (.array 2 82):=by rfl
theorem zk (w:World) (a b:Int):(Instr.index 265 (.agg #[.int .u64 a,.int .u64 b]) (.int .i64 0)).run Tryz.prog w=.ok (.int .u64 a) w:=by
 simp [Instr.index,run_underlying b4x,asIntOf,go_sem]
theorem yA (w:World) (a b:Int):(Instr.index 265 (.agg #[.int .u64 a,.int .u64 b]) (.int .i64 1)).run Tryz.prog w=.ok (.int .u64 b) w:=by
 simp [Instr.index,run_underlying b4x,asIntOf,go_sem]
attribute [local go_sem] zk yA
theorem nM (n:Nat) (hn:2≤n) (Bs lo hi:Nat) (hlo:lo<18446744073709551616) (hhi:hi<18446744073709551616) (w:World) (hT:OV w) (hg:1<w.heap.size) (hB:Bs<w.heap.size)
 (c0:w.cell? ⟨Bs,0,none⟩=some (.int .u64 (lo:Int))) (c1:w.cell? ⟨Bs,1,none⟩=some (.int .u64 (hi:Int))) :
 uq Fence.wide n Tryz.prog 147 #[.pointer (some ⟨Bs,0,none⟩)] (fun xs=>xs=Eu lo hi) 128 w:=fun l J W hJb hJ hY h0=>by
 have hb0:=hJb _ _ h0;have d0:W.cell? ⟨Bs,0,none⟩=some (.int .u64 (lo:Int)):=(hb0.cell (p:=⟨Bs,0,none⟩) hB).trans c0;have d1:W.cell? ⟨Bs,1,none⟩=some (.int .u64 (hi:Int)):=(hb0.cell (p:=⟨Bs,1,none⟩) hB).trans c1;refine callsIn_of_wp Tryz.func147 rfl trivial ?_ rfl;simp only [Tryz.ntmps147,List.size_toArray,List.length_cons,List.length_nil,Nat.reduceAdd,Nat.reduceSub,Array.replicate_succ,Array.replicate_zero,List.push_toArray,List.append_toArray,List.nil_append,List.cons_append]
 gi_wp2
 gi_loopw [10] (fun i wr=>(i=.int .i64 0∧J (Ku lo hi 0) wr)∨(i=.int .i64 1∧J (Ku lo hi 1) wr)∨(i=.int .i64 2∧J (Ku lo hi 2) wr)) (fun i _=>(2-zy i).toNat)
 case atStart=>exact Or.inl ⟨rfl,h0⟩
 case round =>
  rcases hrel with ⟨rfl,hJs⟩|⟨rfl,hJs⟩|⟨rfl,hJs⟩
  ·gi_wp2
   gi_loopw [4] (fun v wr=>∃ p:Nat,p<18446744073709551616∧v=.int .u64 (p:Int)∧∃ done,J done wr∧done++(GY p).map (fun n:Nat=>((64*0+n:Nat):Int))=Ku lo hi (0+1)) (fun v _=>(zy v).toNat)
   case atStart=>exact ⟨_,hlo,rfl,_,hJs,by simp [Ku,Eu]⟩
   case round =>
    obtain ⟨p,hp,rfl,done,hJd,hdone⟩:=hrel;by_cases hp0:p=0
    ·subst hp0
     have hz:((0:Nat):Int)=0:=rfl;rw [OW,ej,cT] at hdone
     gi_wp2
     go_roundw
     case rel=>exact Or.inr (Or.inl ⟨by first|rfl|simp,by rw [← hdone];exact hJd⟩)
     case measure=>simp [zy]
    ·obtain ⟨e1,e2,e3⟩:=Uz hp0 hp
     rw [e1,bz] at hdone;have hTb:=MP hT hg (hJb _ _ hJd);have htz:=yj p hp _ hTb;have hne:¬ ((p:Int)=0):=by omega
     have hw1:=RG hp0 hp;have hw2:=Q8 hp;have hlt:=zL hdone;obtain ⟨x0,hx0⟩:∃ x0:Int,((64*0+Lib.ctz 64 p:Nat):Int)=x0:=⟨_,rfl⟩
     rw [hx0] at hdone;generalize Lib.ctz 64 p=t at *;have hw4:IntKind.i64.wrap (0+(t:Int))=x0:=by rw [Qd (by omega) (by omega)];omega
     have hw5:IntKind.i64.wrap (t:Int)=x0:=by rw [Qd (by omega) (by omega)];omega
     obtain ⟨fn,tmps,assign,body,hy,hR⟩:=hY done x0 _ hJd hlt
     gi_wp2
     refine ⟨trivial,fun _=>by omega,(callsIn_wide.2 htz).mono ?_⟩;rintro _ _ ⟨rfl,rfl⟩
     gi_wp2
     refine ⟨fun _=>by omega,hR.mono ?_⟩;rintro e W3 ⟨rfl,hJ3,hk3⟩
     gi_wp2
     go_roundw
     case rel=>exact ⟨p &&& (p-1),by omega,by first|rfl|simp,done++[x0],hJ3,by rw [cA];exact hdone⟩
     case measure=>simp [zy];omega
  ·gi_wp2
   gi_loopw [4] (fun v wr=>∃ p:Nat,p<18446744073709551616∧v=.int .u64 (p:Int)∧∃ done,J done wr∧done++(GY p).map (fun n:Nat=>((64*1+n:Nat):Int))=Ku lo hi (1+1)) (fun v _=>(zy v).toNat)
   case atStart=>exact ⟨_,hhi,rfl,_,hJs,by simp [Ku,Eu]⟩
   case round =>
    obtain ⟨p,hp,rfl,done,hJd,hdone⟩:=hrel;by_cases hp0:p=0
    ·subst hp0
     have hz:((0:Nat):Int)=0:=rfl;rw [OW,ej,cT] at hdone
     gi_wp2
     go_roundw
     case rel=>exact Or.inr (Or.inr ⟨by first|rfl|simp,by rw [← hdone];exact hJd⟩)
     case measure=>simp [zy]
    ·obtain ⟨e1,e2,e3⟩:=Uz hp0 hp
     rw [e1,bz] at hdone;have hTb:=MP hT hg (hJb _ _ hJd);have htz:=yj p hp _ hTb;have hne:¬ ((p:Int)=0):=by omega
     have hw1:=RG hp0 hp;have hw2:=Q8 hp;have hlt:=zL hdone;obtain ⟨x0,hx0⟩:∃ x0:Int,((64*1+Lib.ctz 64 p:Nat):Int)=x0:=⟨_,rfl⟩
     rw [hx0] at hdone;generalize Lib.ctz 64 p=t at *;have hw4:IntKind.i64.wrap (64+(t:Int))=x0:=by rw [Qd (by omega) (by omega)];omega
     obtain ⟨fn,tmps,assign,body,hy,hR⟩:=hY done x0 _ hJd hlt
     gi_wp2
     refine ⟨trivial,fun _=>by omega,(callsIn_wide.2 htz).mono ?_⟩;rintro _ _ ⟨rfl,rfl⟩
     gi_wp2
     refine ⟨fun _=>by omega,hR.mono ?_⟩;rintro e W3 ⟨rfl,hJ3,hk3⟩
     gi_wp2
     go_roundw
     case rel=>exact ⟨p &&& (p-1),by omega,by first|rfl|simp,done++[x0],hJ3,by rw [cA];exact hdone⟩
     case measure=>simp [zy];omega
  ·gi_wp2
   go_end0
   exact ⟨⟨_,rfl⟩,_,rfl,hJs⟩
end
section
open Go Go.Proofs Go.Shelf Go.RowKit
attribute [local go_sem] Oper.semAt_some
section
variable {P:Program} {ρ:Ren}
theorem xU (L:SlLaysZI.n11 P ρ) (F:Fence) (n:Nat) (h11:F.fn (ρ.f 11)) (hro:F.round=none) (hn:2≤n) (g:Nat) (lb:Array Value) (hFg:F.fn g) (eg:∀ args w,(callFunc g args).run P w=.ok (.enter g args) w)
 (S:List Int→Prop) (N:Nat) (hN:N≤maxLen) (hNb:N*8≤140737488355328) (w:World) (hseq:uq F (n-1) P g lb S N w) :
 CallsIn F n P (ρ.f 11) #[.slice none 0 0,.func (.func g) #[] lb] w fun e w'=>∃ (v:Value) (ss:List Int),e=.returned v∧S ss∧w'.ownsRow w.heap.size (ρ.t 26) 1 v ss.length (ss.map encZ)∧(v=.slice none 0 0↔ss=[])∧Below w.heap.size w w':=by
 have h1:1≤n:=by omega
 have mixed:=L.mixed;have t0:=L.t0;have a0:=L.a0;have z0:=L.z0;have v0:=L.v0;have t24:=L.t24;have a24:=L.a24;have z24:=L.z24;have v24:=L.v24;have t26:=L.t26;have a26:=L.a26;have z26:=L.z26;have v26:=L.v26;have t28:=L.t28;have a28:=L.a28;have z28:=L.z28;have v28:=L.v28;have hne:ρ.t 24≠ρ.t 26:=fun e=>by have h:=L.t24;rw [e,L.t26] at h;cases h
 have u0:=run_underlying L.t0;have u24:=run_underlying L.t24;have u26:=run_underlying L.t26;have u28:=run_underlying L.t28;obtain ⟨_,_,FG⟩:=L.f11;refine callsIn_of_wp_marks FG rfl h11 ?_ hro;simp only [SlBodyZ.n11_ntmps ρ,List.size_toArray,List.length_cons,List.length_nil,Nat.reduceAdd,Nat.reduceSub,Array.replicate_succ,Array.replicate_zero,List.push_toArray,List.append_toArray,List.nil_append,List.cons_append]
 gi_wp2
 refine wpIn_rangeFunc ?_;intro fn hfn;rw [hro];obtain ⟨W0,hW0⟩:∃ W0,w.alloc (.cells #[.slice none 0 0] (ρ.t 24))=W0:=⟨_,rfl⟩
 have hs0:W0.heap.size=w.heap.size+1:=by rw [← hW0];simp
 have hv0:W0.heap[w.heap.size]?=some (.cells #[.slice none 0 0] (ρ.t 24) (0,0)):=by rw [← hW0];exact World.alloc_heap_new w _
 have hb0:Below w.heap.size w W0:=by rw [← hW0];exact (Below.refl _ w).alloc (ab _) _
 rw [hW0];obtain ⟨W1,hW1⟩:∃ W1,(W0.alloc (.deferred (some []))).alloc (.loop (AnyZI.apRec ρ fn (.func (.func g) #[] lb) w.heap.size W0.heap.size .ready none))=W1:=⟨_,rfl⟩
 have hold:∀ k,k<W0.heap.size→W1.heap[k]?=W0.heap[k]?:=fun k hk=>by
  rw [← hW1];exact (Below.heap_alloc _ _ k (by simp;omega)).trans (Below.heap_alloc _ _ k hk)
 have hb1:Below w.heap.size w W1:=by rw [← hW1];exact (hb0.alloc hb0.size _).alloc (by have:=hb0.size;simp;omega) _
 have hs1:W1.heap.size=W0.heap.size+2:=by rw [← hW1];simp
 have hM:AnyZI.ApAt ρ w fn (.func (.func g) #[] lb) w.heap.size (W0.heap.size+1) W0.heap.size [] W1 :=
  ⟨⟨_,(hold w.heap.size (by omega)).trans hv0,⟨rfl,.inl ⟨rfl,rfl⟩⟩,by simp⟩,
   by rw [← hW1];have:=World.alloc_heap_new (W0.alloc (.deferred (some []))) (.loop (AnyZI.apRec ρ fn (.func (.func g) #[] lb) w.heap.size W0.heap.size .ready none));rwa [World.size_alloc] at this,
   by rw [← hW1];exact (Below.heap_alloc _ _ _ (by simp)).trans (World.alloc_heap_new W0 _),hb1⟩
 refine ⟨W0.heap.size+1,[{ target:=.collected W0.heap.size,args:=#[] }],W1,{ target:=.fn (.func g) lb,args:=#[.func (.yield (W0.heap.size+1)) #[] #[]] },W1,g,
  #[.func (.yield (W0.heap.size+1)) #[] #[]]++lb,W1,?_,?_,?_,?_,fun _=>h1,?_⟩
 ·rw [← hW1];exact run_enterLoop_outer _ _ _ _ _
 ·simp [resolve,go_sem]
 ·intro f' hf';simp [Target.leads] at hf';subst hf';exact hFg
 ·simp [invoke,go_sem,eg]
 ·refine (hseq (W0.heap.size+1) (AnyZI.ApAt ρ w fn (.func (.func g) #[] lb) w.heap.size (W0.heap.size+1) W0.heap.size) W1 (fun _ _ h=>h.below) (AnyZI.ap_abides ρ _ _ _ _ _ _ _ hb1.size)
   (fun pre x W hJ hl=>AnyZI.apYield { L with } F (n-1-1) w fn hfn _ w.heap.size (W0.heap.size+1) W0.heap.size (by omega) (by omega) (by omega) (ab _) (by omega) N hN hNb pre x W hJ hl) hM).mono ?_
  rintro e W2 ⟨⟨v0,rfl⟩,ss,hS,h2⟩;obtain ⟨v,hv,hrow,hnil⟩:=h2.box;have hend:=run_endLoop (P:=P) h2.L (by simp [AnyZI.apRec]);obtain ⟨W3,hW3⟩:∃ W3,W2.putObj (W0.heap.size+1) (.loop { AnyZI.apRec ρ fn (.func (.func g) #[] lb) w.heap.size W0.heap.size .ready none with state:=.exhausted })=W3:=⟨_,rfl⟩
  rw [hW3] at hend;have hg3:W2.grownBy W3 (some (W0.heap.size+1)):=by rw [← hW3];exact grownBy_putObj_a _ _ _
  have hv3:W3.heap[w.heap.size]?=some (.cells #[v] (ρ.t 24) (0,0)):=by rw [← hW3];exact (World.putObj_heap_other (by omega)).trans hv
  have hK3:W3.heap[W0.heap.size]?=some (.deferred (some [])):=by rw [← hW3];exact (World.putObj_heap_other (by omega)).trans h2.K
  have hrow3:=hrow.kept hg3 (ownsRow_ne_a hrow h2.L (fun cur e=>by first|cases e|exact hne (Obj.cells.inj e).2.1));have hb3:Below w.heap.size w W3:=h2.below.grown hg3 h2.below.size (fun k e=>by cases e;omega);obtain ⟨hc3,hf3⟩:=cell_of_box_a hv3;clear hW3;refine ⟨none,W3,hend,?_⟩
  gi_wp2
  rw [← hs0];refine ⟨by simp,.inl ⟨_,_,rfl,run_takeDeferred hK3,?_⟩⟩;exact ⟨_,results_tmp rfl _ _ _,v,ss,rfl,hS,hrow3.kept (grownBy_putObj_a _ _ _) (ownsRow_ne_a hrow3 hK3 (fun cur e=>by first|cases e|exact hne (Obj.cells.inj e).2.1)),hnil,hb3.grown (grownBy_putObj_a _ _ _) hb3.size (fun k e=>by cases e;omega)⟩
theorem sU (L:SlLaysZI.n8 P ρ) (F:Fence) (n:Nat) (h8:F.fn (ρ.f 8)) (h11:F.fn (ρ.f 11)) (hro:F.round=none) (hn:3≤n) (g:Nat) (lb:Array Value) (hFg:F.fn g) (eg:∀ args w,(callFunc g args).run P w=.ok (.enter g args) w)
 (S:List Int→Prop) (N:Nat) (hN:N≤maxLen) (hNb:N*8≤140737488355328) (w:World) (hseq:uq F (n-1-1) P g lb S N w) :
 CallsIn F n P (ρ.f 8) #[.func (.func g) #[] lb] w fun e w'=>∃ (v:Value) (ss:List Int),e=.returned v∧S ss∧w'.ownsRow w.heap.size (ρ.t 26) 1 v ss.length (ss.map encZ)∧(v=.slice none 0 0↔ss=[])∧Below w.heap.size w w':=by
 have h1:1≤n:=by omega
 have e11:∀ args w,(callFunc (ρ.f 11) args).run P w=.ok (.enter (ρ.f 11) args) w:=L.f11.enters rfl;have mixed:=L.mixed;have t0:=L.t0;have a0:=L.a0;have z0:=L.z0;have v0:=L.v0;have t24:=L.t24;have a24:=L.a24;have z24:=L.z24;have v24:=L.v24;have t26:=L.t26;have a26:=L.a26;have z26:=L.z26;have v26:=L.v26;have t28:=L.t28;have a28:=L.a28;have z28:=L.z28;have v28:=L.v28;have u0:=run_underlying L.t0;have u24:=run_underlying L.t24;have u26:=run_underlying L.t26;have u28:=run_underlying L.t28;obtain ⟨_,_,FG⟩:=L.f8;refine callsIn_of_wp FG rfl h8 ?_ hro
 gi_wp2_with (gi_at_fn (ρ.f 11);refine (xU { L with } F (n-1) h11 hro (by omega) g lb hFg eg S N hN hNb _ hseq).mono ?_;rintro e w' ⟨v,ss,rfl,hS,hrow,hnil,hb⟩)
 go_ret
 exact ⟨v,ss,rfl,hS,hrow,hnil,hb⟩
end
end
section
open Go Go.Proofs Go.Shelf Go.RowKit
attribute [local go_sem] Oper.semAt_some
theorem ownsRow_base {w:World} {b b':Nat} {e:TypeId} {s:Nat} {v:Value} {n:Nat} {xs:List Value} (h:w.ownsRow b e s v n xs) (hb:b'≤b):w.ownsRow b' e s v n xs:=by
 obtain ⟨h1,h2⟩:=h;refine ⟨h1,?_⟩;rcases h2 with h|⟨g,cap,cur,e1,e2,r⟩
 ·grind
 ·exact .inr ⟨g,cap,cur,e1,an hb e2,r⟩
theorem all_in (lo hi:Int) (w:World):Calls Tryz.prog 108 #[.agg #[.int .u64 lo,.int .u64 hi]] w fun e w'=>e=.returned (.func (.func 147) #[] #[.pointer (some ⟨w.heap.size,0,none⟩)])∧w'=w.alloc (.cells #[.int .u64 lo,.int .u64 hi] 84):=by
 refine (callsIn_wide (n:=1)).1 ?_;refine callsIn_of_wp Tryz.func108 rfl trivial ?_ rfl
 gi_wp2
 go_ret
 simp
theorem a9c (args:Array Value) (w:World):(callFunc 147 args).run Tryz.prog w=.ok (.enter 147 args) w :=by simp
theorem wu (lo hi:Nat) (hlo:lo<18446744073709551616) (hhi:hi<18446744073709551616) (w:World) (hT:OV w) (hg:1<w.heap.size) :
 Calls Tryz.prog 61 #[.agg #[.int .u64 (lo:Int),.int .u64 (hi:Int)]] w fun e w'=>∃ v,e=.returned v∧w'.ownsRow w.heap.size 3 1 v (Eu lo hi).length ((Eu lo hi).map encZ)∧(Eu lo hi=[]→v=.slice none 0 0)∧Below w.heap.size w w':=by
 refine (callsIn_wide (n:=9)).1 ?_;refine callsIn_of_wp Tryz.func61 rfl trivial ?_ rfl;simp only [Tryz.ntmps61,List.size_toArray,List.length_cons,List.length_nil,Nat.reduceAdd,Nat.reduceSub,Array.replicate_succ,Array.replicate_zero,List.push_toArray,List.append_toArray,List.nil_append,List.cons_append]
 gi_wp2
 refine ⟨trivial,(callsIn_wide.2 (all_in _ _ _)).mono ?_⟩;rintro _ _ ⟨rfl,rfl⟩
 gi_wp2
 obtain ⟨w1,hw1⟩:∃ w1,(w.alloc (.cells #[.int .u64 (lo:Int),.int .u64 (hi:Int)] 84)).alloc (.cells #[.int .u64 (lo:Int),.int .u64 (hi:Int)] 84)=w1:=⟨_,rfl⟩
 rw [hw1];have hb1:Below w.heap.size w w1:=by rw [← hw1];exact ((Below.refl _ w).alloc (ab _) _).alloc (by simp) _
 have hs1:w1.heap.size=w.heap.size+2:=by rw [← hw1];simp
 have c0:w1.cell? ⟨w.heap.size+1,0,none⟩=some (.int .u64 (lo:Int)):=by rw [← hw1];simp
 have c1:w1.cell? ⟨w.heap.size+1,1,none⟩=some (.int .u64 (hi:Int)):=by rw [← hw1];simp
 refine ⟨trivial,(sU b8p Fence.wide 8 trivial trivial rfl (by omega) 147 #[.pointer (some ⟨w.heap.size+1,0,none⟩)] trivial a9c (fun xs=>xs=Eu lo hi) 128 (by decide) (by decide) w1
  (nM 6 (by omega) _ lo hi hlo hhi w1 (MP hT hg hb1) (by omega) (by omega) c0 c1)).mono ?_⟩
 rintro e w' ⟨v,ss,rfl,rfl,hrow,hnil,hb⟩
 gi_wp2
 go_ret
 exact ⟨v,rfl,ownsRow_base hrow (by omega),fun h=>hnil.2 h,hb1.trans (hb.mono (by omega))⟩
end
section
open Go Go.Am Go.Vm
structure Tz (F:Nat) (laid:List (String×DataW Unit)):Prop where
 nm:Tryz.prog.globalNamed "math/bits.deBruijn64tab"=some 1
 tab:∃ e,H6 Tryz.prog F laid 1=some (e,(Lib.deBruijn64tab.map (fun n:Nat=>(n:Int))).map fun z=>Value.int .u8 z)
 lt:1<Tryz.prog.globals.size
theorem bH {w:World} (hn:Tryz.prog.globalNamed "math/bits.deBruijn64tab"=some 1) (h:Lib.TabIs Tryz.prog w "math/bits.deBruijn64tab" .u8 (Lib.deBruijn64tab.map (fun n:Nat=>(n:Int)))):OV w∧1<w.heap.size:=by
 unfold Lib.TabIs World.var? at h;rw [hn,gj] at h;split at h
 ·rename_i cs t f hc
  cases h;refine ⟨fun j hj=>?_,?_⟩
  ·unfold World.cell?
   grind
  grind
 grind
def yZ:List Value→Option (List Value)
 |[.int .u64 lo,.int .u64 hi]=>if (0≤lo∧lo<18446744073709551616)∧(0≤hi∧hi<18446744073709551616) then some ((Eu lo.toNat hi.toNat).map Go.encZ) else none
 |_=>none
def a4p:FrF
 |[.agg cs]=>yZ cs.toList
 |_=>none
theorem uI {l r:List Value} (h:yZ l=some r):∃ lo hi:Int,l=[.int .u64 lo,.int .u64 hi]∧(0≤lo∧lo<18446744073709551616)∧(0≤hi∧hi<18446744073709551616)∧r=(Eu lo.toNat hi.toNat).map Go.encZ:=by
 unfold yZ at h;grind
theorem a0y {F:Nat} {laid:List (String×DataW Unit)} (ht:Tz F laid):∀ ι m w us (us':Array Value) l,DL Tryz.prog (AP Tryz.prog F laid) ι m w→(∀ k∈AP Tryz.prog F laid,m.get k=(Bv Tryz.prog F laid).get k)→BA ι m.gen us us'.toList→a4p us=some l →
 l.all Am.plainCell=true∧Calls Tryz.prog 61 us' w fun r w'=>∃ v,r=.returned v∧w'.ownsRow w.heap.size 3 1 v l.length l∧(l=[]→v=.slice none 0 0)∧Go.RowKit.Below w.heap.size w w':=by
 intro ι m w us us' l hs hg hl h;unfold a4p at h;split at h
 ·rename_i cs
  obtain ⟨lo,hi,e0,hb1,hb2,rfl⟩:=uI h
  ·have e3:cs=#[.int .u64 lo,.int .u64 hi]:=fL e0
   subst e3;obtain ⟨v',rfl,hv⟩:=BA.one hl;have hv':=hv.BP rfl;obtain ⟨e,t1⟩:=ht.tab;obtain ⟨h1,h2⟩:=bH ht.nm (Ym hs hg ht.nm t1 ht.lt);refine ⟨?_,?_⟩
   ·rw [aL]
    intro x hx;obtain ⟨z,_,rfl⟩:=be.1 hx;rfl
   ·have:=wu lo.toNat hi.toNat (by omega) (by omega) w h1 h2
    grind
 grind
end
end Go.Proofs.YtnjkoebfgcbbdaaGreatDoor
namespace Go.Am
section
variable {P:Program} {c0 c1:EI} (h:∀ f BF m r,c0 f BF m=some r→c1 f BF m=some r)
include h
end
structure OLe (P:Program) (O0 O1:CB):Prop where
 same:∀ f BF m r,(O0 f).bind (fun F=>F BF m)=some r→(O1 f).bind (fun F=>F BF m)=some r
 more:∀ f BF m r,(O1 f).bind (fun F=>F BF m)=some r→(O0 f).bind (fun F=>F BF m)=none→∀ fn,P.funcs[f]?=some fn→fn.ntmps<BF.length
end Go.Am
namespace Go.Vm
section
open Go.Am
section
variable {P:Program}
def a6g (d:TypeDesc) (x y:Value):Option Bool :=
 match d,x,y with
 | .int _,.int k a,.int k' b=>if k=k' then some (decide (a=b)) else none
 | .bool,.bool a,.bool b=>some (a==b)
 | .string,.string a,.string b=>some (decide (a.data.toList=b.data.toList))
 |_,_,_=>none
def iK (P:Program):List Field→Array Value→Array Value→Option Bool
 |[],_,_=>some true
 |f::fs,xs,ys=>if f.name="_" then none else
  match GN P f.type,P.underlying f.type,xs[f.offset]?,ys[f.offset]?,iK P fs xs ys with
  |some false,some d,some x,some y,some r=>(a6g d x y).map (·&&r)
  |_,_,_,_,_=>none
theorem NQ (a b:ByteArray):(a==b)=decide (a.data.toList=b.data.toList):=by
 rw [beq_toListBytes,ByteArray.toList_eq,ByteArray.toList_eq];grind
theorem Q7 {d:Nat} {t:TypeId} {td:TypeDesc} {x y:Value} {r:Bool} (ht:P.underlying t=some td) (h:a6g td x y=some r):DF P (Op.equalIn (d+1) t x y)=some r:=by
 unfold a6g at h;split at h
 ·split at h
  ·rename_i hk
   subst hk;cases h;rename_i a b;simp only [Op.equalIn,Au,AZ,ht,Option.bind_some,if_true];rfl
  grind
 ·cases h
  simp only [Op.equalIn,Au,AZ,ht,Option.bind_some];rfl
 ·cases h
  simp only [Op.equalIn,Au,AZ,ht,Option.bind_some,NQ];rfl
 grind
theorem Gf {t:TypeId} {cs:Array Value} {o:Nat} {v:Value} (ha:GN P t=some false) (hv:cs[o]?=some v):DF P (part t cs o)=some v:=by
 simp only [part,Au,QW,ha,Option.bind_some,Bool.false_eq_true,if_false,hv];rfl
theorem gQ {d:Nat} (xs ys:Array Value) {g:Option Bool×Unit→Sem Bool} (g0:g (none,())=pure true) (g1:∀ b,g (some b,())=pure b):∀ (fs:List Field) (r:Bool),iK P fs xs ys=some r →
 DF P ((forIn fs ((none,()):Option Bool×Unit) fun f _=>(do
     if f.name≠"_" then
      if (!(← Op.equalIn (d+1) f.type (← part f.type xs f.offset) (← part f.type ys f.offset)))=true then pure (ForInStep.done (some false,())) else pure (ForInStep.yield (none,()))
     else pure (ForInStep.yield (none,())):Sem (ForInStep (Option Bool×Unit)))) >>= g)=some r
 |[],r,h=>by
  cases h;simp only [List.forIn_nil,Au,BU,Option.bind_some,g0]
 |f::fs,r,h=>by
  unfold iK at h;split at h
  ·cases h
  rename_i hn;split at h
  ·rename_i td x y r' h1 h2 h3 h4 h5
   simp only [Option.map_eq_some_iff] at h;obtain ⟨b,h6,rfl⟩:=h;have ih:=gQ (d:=d) xs ys g0 g1 fs r' h5;rw [dz];simp only [Au,ne_eq,hn,not_false_eq_true,if_true,Gf h1 h3,Gf h1 h4,Option.bind_some,Q7 h2 h6];cases b with
   |false=>simp [BU,g1]
   |true =>
    simp only [Bool.not_true,Bool.false_eq_true,if_false,BU,Option.bind_some,Bool.true_and];rw [Au] at ih;omega
  grind
theorem Ou {d:Nat} {t:TypeId} {fs:Array Field} {xs ys:Array Value} {r:Bool} (ht:P.underlying t=some (.struct fs)) (hp:P.stoodInHeld t=false) (h:iK P fs.toList xs ys=some r) :
 DF P (Op.equalIn (d+2) t (.agg xs) (.agg ys))=some r:=by
 rw [Op.equalIn];simp only [Au,AZ,ht,Option.bind_some,program,DF,hp,Bool.false_eq_true,if_false];rw [← el,← Au];exact gQ (d:=d) xs ys rfl (fun b=>rfl) fs.toList r h
def iD:FV→Option Value
 | .int k n=>some (.int k n)
 | .bool b=>some (.bool b)
 | .str s=>some (.string s)
 |_=>none
def FQ:List FV→Option (List Value)
 |[]=>some []
 |x::l=>match iD x,FQ l with
  |some v,some r=>some (v::r)
  |_,_=>none
theorem a1w {m:Mem} {F:Nat→Prop} {x:FV} {u v:Value} (h:RF m F x u) (hv:iD x=some v):u=v∧Am.plainCell v=true:=by
 cases h<;>simp only [iD,Option.some.injEq,reduceCtorEq] at hv
 all_goals (subst hv;exact ⟨rfl,rfl⟩)
theorem Oa {m:Mem} {F:Nat→Prop}:∀ {l:List FV} {us vs:List Value},Dj m F l us→FQ l=some vs→us=vs∧vs.all Am.plainCell=true
 |[],_,_,.nil,h=>by cases h;simp
 |x::l,_,_,.cons h t,hv=>by
  simp only [FQ] at hv;split at hv
  ·rename_i v r h1 h2
   cases hv;obtain ⟨rfl,p1⟩:=a1w h h1;obtain ⟨rfl,p2⟩:=Oa t h2;grind
  grind
def l9 (P:Program) (t:TypeId) (xs ys:List FV):Option Bool :=
 match P.underlying t,FQ xs,FQ ys with
 |some (.struct fs),some vs,some ws=>iK P fs.toList vs.toArray ws.toArray
 |_,_,_=>none
def bJ (P:Program) (t:TypeId):Bool:=!(P.stoodInHeld t)&&!(P.eqGuardType P.depth t)
theorem a5i {t:TypeId} {xs ys:List FV} {vs ws:List Value} {r:Bool} {op:BinOp} {x y:Operand} (hf:bJ P t=true) (h:l9 P t xs ys=some r) (hv:FQ xs=some vs) (hw:FQ ys=some ws) (hop:op=.eql∨op=.neq) :
 DF P (do eqGuard op t x y (.agg vs.toArray) (.agg ws.toArray);binOp op t (.agg vs.toArray) (.agg ws.toArray))=some (.bool (if op=.eql then r else !r)):=by
 simp only [bJ,Bool.and_eq_true,Bool.not_eq_true'] at hf;unfold l9 at h;rw [hv,hw] at h;split at h
 ·rename_i fs vs' ws' h1 h2 h3
  cases h2;cases h3;have h4:DF P (Op.equal t (.agg vs.toArray) (.agg ws.toArray))=some r:=Ou (d:=9998) h1 hf.1 h;have h5:DF P (eqGuard op t x y (.agg vs.toArray) (.agg ws.toArray))=some ():=by
   rcases hop with rfl|rfl<;>simp [eqGuard,Au,program,DF,hf.2,BU]
  rcases hop with rfl|rfl
  ·rw [Au,h5,gj]
   show DF P (do pure (.bool (← Op.equal t (.agg vs.toArray) (.agg ws.toArray))):Sem Value)=_;simp only [Au,h4,Option.bind_some,BU];rfl
  ·rw [Au,h5,gj]
   show DF P (do pure (.bool (!(← Op.equal t (.agg vs.toArray) (.agg ws.toArray)))):Sem Value)=_;simp only [Au,h4,Option.bind_some,BU];rfl
 grind
end
section
variable {E:Env} {L:Frame} {H:Heap} {nx:Nat} {Q:PV→Heap→Nat→Prop} {w:Bool}
variable {dst:Option Tmp} {ty:TypeId} {pos:String} {af:Array Edge} {gd:Option (Nat×Bool)}
theorem Aa.l9 {op:BinOp} {t t2:TypeId} {x y:Operand} {xs ys:List FV} {r:Bool} (hx:AU E.Γ L x=some (.p (.agg xs))) (hy:AU E.Γ L y=some (.p (.agg ys))) (hop:op=.eql∨op=.neq) (hf:bJ E.P t=true) (h:Vm.l9 E.P t xs ys=some r)
 (q:Q (.p (.bool (if op=.eql then r else !r))) H nx):Aa E w ⟨dst,.binOp op t x y t2,ty,pos,af,gd⟩ L H nx Q :=
 Aa.quiet q fun m F σ tt c1 c2=>by
  obtain ⟨vs,hv⟩:∃ vs,FQ xs=some vs:=by
   cases hv:FQ xs with
   |some vs=>simp
   |none=>unfold Vm.l9 at h;grind
  obtain ⟨ws,hw⟩:∃ vs,FQ ys=some vs:=by
   cases hw:FQ ys with
   |some vs=>simp
   |none=>unfold Vm.l9 at h;grind
  have e1:ev tt x=.agg vs.toArray∧vs.all Am.plainCell=true:=by
   have:=Bz c1 c2 hx;generalize ev tt x=u at this;cases this with
   |p h1=>cases h1 with
    |agg h1 hc=>obtain ⟨rfl,hp⟩:=Oa h1 hv;grind
  have e2:ev tt y=.agg ws.toArray∧ws.all Am.plainCell=true:=by
   have:=Bz c1 c2 hy;generalize ev tt y=u at this;cases this with
   |p h1=>cases h1 with
    |agg h1 hc=>obtain ⟨rfl,hp⟩:=Oa h1 hw;grind
  have hd:=a5i (x:=x) (y:=y) hf h hv hw hop;refine ⟨_,fun _=>?_,.p (.bool _)⟩;simp only [BO,FB,e1.1,e2.1];have hpl:(plain (.agg vs.toArray)&&plain (.agg ws.toArray))=true:=by
   simp only [plain,Gi,Bool.and_eq_true];grind
  have:PG E.P op t x y (.agg vs.toArray) (.agg ws.toArray)=some (.bool (if op=.eql then r else !r)):=by
   simp only [PG,hpl,if_true];exact KI hd rfl
  grind
theorem Aa.b3z {t t2:TypeId} {x y:Operand} {xs ys:List FV} {r:Bool} (hx:AU E.Γ L x=some (.p (.agg xs))) (hy:AU E.Γ L y=some (.p (.agg ys))) (hf:bJ E.P t=true) (h:Vm.l9 E.P t xs ys=some r)
 (q:Q (.p (.bool r)) H nx):Aa E w ⟨dst,.binOp .eql t x y t2,ty,pos,af,gd⟩ L H nx Q:=Aa.l9 hx hy (.inl rfl) hf h q
theorem Aa.UG {t e e':TypeId} {x ix:Operand} {n b off:Nat} {cs:List PV} {k:IntKind} {i:Int} {inf:TypeInfo} (hx:AU E.Γ L x=some (.ref b off)) (hb:hget H b=some (.box e' cs)) (hi:AU E.Γ L ix=some (.p (.int k i)))
 (ht:E.P.underlying t=some (.array n e)) (hs:E.P.info? e=some inf) (h:0≤i∧i<n) (q:Q (.ref b (off+i.toNat*inf.size)) H nx):Aa E w ⟨dst,.indexAddr t x ix,ty,pos,af,gd⟩ L H nx Q :=
 Aa.quiet q fun m F σ tt h1 h2=>by
  obtain ⟨c,h3,h4⟩:=YA h1 h2 hx hb;refine ⟨.pointer (some ⟨c,off+i.toNat*inf.size,none⟩),fun _=>?_,.ref (h1.hp b _ hb).1 rfl fun _=>⟨c,h4,rfl⟩⟩;simp only [BO,FB,ht,h3,CV h1 h2 hi,hs,h,and_self,if_true]
theorem Aa.a6v {t:TypeId} {a:Operand} {b o:Nat} {e:TypeId} {cs:List PV} {r:PV} (ha:AU E.Γ L a=some (.ref b o)) (hb:hget H b=some (.box e cs)) (ht:GN E.P t=some false) (hr:cs[o]?=some r) (q:Q r H nx) :
 Aa E w ⟨dst,.load t a,ty,pos,af,gd⟩ L H nx Q:=by
 refine Aa.load ha ?_ q;simp only [gZ,hb,zi,ht];simp_all
theorem Aa.Il {s d e e2:TypeId} {x:Operand} {b:Nat} {z:Bool} {n:Int} (hx:AU E.Γ L x=some (.vec b 1 0 1)) (hb:hget H b=some (.vec e2 [.int .u8 n] 1 z)) (hs:E.P.underlying s=some (.slice e)) (hd:E.P.underlying d=some .string) (he:E.P.underlying e=some (.int .u8)) (hn:0≤n∧n<256)
 (q:Q (st [UInt8.ofNat n.toNat]) H nx):Aa E w ⟨dst,.convert s d x,ty,pos,af,gd⟩ L H nx Q :=
 Aa.quiet q fun m F σ tt c1 c2=>by
  obtain ⟨hl1,vs,hl2,hl3,hl4⟩:=rY.all (sz:=1) hx hb rfl m F σ tt c1 c2;have hc:cells [UInt8.ofNat n.toNat]=[.int .u8 n]:=by
   show [FV.int .u8 (((UInt8.ofNat n.toNat).toNat:Nat):Int)]=_;rw [UInt8.toNat_ofNat'];grind
  rw [← hc] at hl3;have hvs:=QH hl3;subst hvs;have hsub:=JK c1 c2 hx hb;have hag:∃ a g,ev tt x=.slice a 1 g:=by
   unfold Gg at hsub;grind
  obtain ⟨a,g,hag⟩:=hag;rw [hag] at hl2;refine ⟨.string (bs [UInt8.ofNat n.toNat]),fun _=>?_,.p (.str _)⟩;have hsl:(Jm E.P s||Jm E.P d)=true:=by simp only [Jm,hs,hd];rfl
  simp only [BO,FB,hsl,if_true,Xc,hs,hd,hag,he,hl2,PS];rfl
theorem Aa.c0u {t t2:TypeId} {x y:Operand} {a b:List UInt8} {r:Bool} (hx:AU E.Γ L x=some (st a)) (hy:AU E.Γ L y=some (st b)) (hr:decide (a=b)=r) (q:Q (.p (.bool r)) H nx) :
 Aa E w ⟨dst,.binOp .eql t x y t2,ty,pos,af,gd⟩ L H nx Q:=Aa.eqS hx hy (by grind)
end
end
section
open Go.Am
def b7y (H:Heap):PV→Option Nat
 | .ref b _=>match hget H b with
  |some (.box _ _)=>some b
  |_=>none
 | .vec b n _ _=>match hget H b with
  |some (.vec _ _ k _)=>match Nat.decEq n k with
   | .isTrue _=>some b
   | .isFalse _=>none
  |_=>none
 | .EH b n _=>match hget H b with
  |some (.vec _ _ k _)=>match Nat.decEq n k with
   | .isTrue _=>some b
   | .isFalse _=>none
  |_=>none
 |_=>none
def a3r:PV→Bool
 | .p (.E8 _)=>true
 | .p (.lst _ _ _)=>true
 | .p (.val (.slice none _ _))=>true
 |_=>false
inductive UL (H:Heap):PV→Nat→Prop
 |ref {b off:Nat} {e:TypeId} {cs:List PV} (h:hget H b=some (.box e cs)):UL H (.ref b off) b
 |vec {b n off len:Nat} {e:TypeId} {cs:List FV} {z:Bool} (h:hget H b=some (.vec e cs n z)):UL H (.vec b n off len) b
 |EH {b n off:Nat} {e:TypeId} {cs:List FV} {z:Bool} (h:hget H b=some (.vec e cs n z)):UL H (.EH b n off) b
def b3a (H:Heap) (b:Nat) (y:PV):Bool:=match b7y H y with
 |some c=>match Nat.decEq b c with
  | .isTrue _=>false
  | .isFalse _=>true
 |none=>a3r y
section
variable {Γ:Nat→Option (List Value×TypeId)} {m:Mem} {F:Nat→Prop} {σ:Nat→Value} {H:Heap} {nx:Nat} {L:Frame} {t:Tr Value}
theorem UL.blk (hx:Ctx Γ m F σ H nx) (hl:RL m F (htag H) σ nx L t) {o:Operand} {x:PV} {b:Nat} (h:AU Γ L o=some x) (ho:UL H x b):∃ y,hget H b=some y∧∀ c,Ij (ev t o)=some c→Dl (σ b)=some c:=by
 cases ho with
 |ref hb =>
  obtain ⟨c,h1,h2⟩:=YA hx hl h hb;refine ⟨_,hb,fun d hd=>?_⟩;rw [h1] at hd;rw [h2];exact hd
 |vec hb =>
  have hsub:=JK hx hl h hb;refine ⟨_,hb,fun d hd=>?_⟩;unfold Gg at hsub;split at hsub
  ·rename_i c k' g hs
   rw [hsub] at hd;rw [hs];exact hd
  ·rename_i hne
   obtain ⟨h1,_,_⟩:=hsub;rcases (hx.hp b _ hb).2 with ⟨_,_,r3⟩|⟨c,g,vs,r1,_⟩
   ·rcases r3 with ⟨r3,_⟩|⟨b2,o2,g2,r3,_⟩
    ·rw [h1,r3] at hd;cases hd
    ·rw [h1,r3] at hd;cases hd
   grind
 |EH hb =>
  obtain ⟨c,k',g,h1,h2⟩:=PN hx hl h hb;refine ⟨_,hb,fun d hd=>?_⟩;rw [h1] at hd;rw [h2];exact hd
theorem a4f {x:PV} {b:Nat} (ho:b7y H x=some b):UL H x b:=by
 unfold b7y at ho;split at ho
 ·split at ho
  ·rename_i hb;cases ho;exact .ref hb
  grind
 ·split at ho
  ·rename_i hb
   split at ho
   ·rename_i hn _;cases ho;subst hn;exact .vec hb
   grind
  grind
 ·split at ho
  ·rename_i hb
   split at ho
   ·rename_i hn _;cases ho;subst hn;exact .EH hb
   grind
  grind
 grind
theorem oO (hx:Ctx Γ m F σ H nx) (hl:RL m F (htag H) σ nx L t) {o:Operand} {x:PV} (h:AU Γ L o=some x) (ho:a3r x=true):∀ c,Ij (ev t o)=some c→F c:=by
 have hr:=Bz hx hl h;generalize ev t o=v at *;intro c hc;unfold a3r at ho;split at ho
 ·cases hr with
  |p hr=>cases hr with|E8 hF=>simp only [Ij,Option.some.injEq] at hc;grind
 ·cases hr with
  |p hr =>
   cases hr with
   |nil=>cases hc
   |room=>cases hc
   |lst hF=>simp only [Ij,Option.some.injEq] at hc;grind
 ·cases hr with
  |p hr=>cases hr with|val=>cases hc
 grind
theorem b2k (hx:Ctx Γ m F σ H nx) (hl:RL m F (htag H) σ nx L t) {o r:Operand} {x y:PV} {b:Nat} (h:AU Γ L o=some x) (hb:UL H x b) (h2:AU Γ L r=some y) (hs:b3a H b y=true):yR (Ij (ev t r)) (Ij (ev t o))=true:=by
 obtain ⟨u,hu,hub⟩:=hb.blk hx hl h;cases hd:Ij (ev t o) with
 |none=>cases Ij (ev t r)<;>rfl
 |some d =>
  have hbd:=hub d hd;cases he:Ij (ev t r) with
  |none=>rfl
  |some e =>
   simp only [yR,bne_iff_ne,ne_eq];intro hde;subst hde;unfold b3a at hs;split at hs
   ·rename_i c hc
    obtain ⟨u',hu',hub'⟩:=(a4f hc).blk hx hl h2;have hce:=hub' e he;have:=hx.sep b c u u' e hu hu' hbd hce;split at hs
    ·grind
    omega
   ·exact (hx.LY ⟨b,u,hu,hbd⟩).1 (oO hx hl h2 hs e he)
end
def b5b:Operand→Operand→Bool
 | .tmp a,.tmp b=>a==b
 | .global a,.global b=>a==b
 |_,_=>false
def rW:List (Option Operand)→List Operand→Bool
 |[],[]=>true
 |some a::l,b::r=>b5b a b&&rW l r
 |_,_=>false
theorem b0m {a b:Operand} (h:b5b a b=true):a=b:=by
 cases a<;>cases b<;>simp only [b5b,beq_iff_eq,Bool.false_eq_true] at h<;>rw [h]
theorem bf:∀ {l:List (Option Operand)} {r:List Operand},rW l r=true→l=r.map some
 |[],[],_=>rfl
 |some a::l,b::r,h=>by
  simp only [rW,Bool.and_eq_true] at h;rw [bz,b0m h.1,bf h.2]
def zH (Γ:Nat→Option (List Value×TypeId)) (L:Frame) (H:Heap) (x:Nat):List Operand→Bool
 |[]=>true
 |r::l=>(match AU Γ L r with
  |some y=>b3a H x y
  |none=>false)&&zH Γ L H x l
def yG (Γ:Nat→Option (List Value×TypeId)) (L:Frame):List Operand→Bool
 |[]=>true
 |r::l=>(match AU Γ L r with
  |some y=>a3r y
  |none=>false)&&yG Γ L l
section
variable {E:Env} {L:Frame} {H:Heap} {nx:Nat}
variable {dst:Option Tmp} {ty:TypeId} {pos:String} {af:Array Edge} {gd:Option (Nat×Bool)}
variable {bn:Nat} {ops:Array Oper} {op:Op} {l:List Oper} {i:Nat} {R:Frame→Heap→Nat→Prop}
theorem Af.atIdx (n:Nat) (h:Af E bn ops n l L H nx R):Af E bn ops n l L H nx R:=h
theorem Af.weak {wo:Operand} {x:PV} {b:Nat} (rs:List Operand) (hw:jh E.P ops i=true) (hi:(ops[i]?).bind (fun o=>wP o.op)=some wo) (hx:AU E.Γ L wo=some x) (hb:UL H x b) (hr:rW (Iw ops i) rs=true) (hs:zH E.Γ L H b rs=true)
 (h:Aa E true ⟨dst,op,ty,pos,af,none⟩ L H nx fun r H' nx'=>Af E bn ops (i+1) l (H8 L dst r) H' nx' R):Af E bn ops i (⟨dst,op,ty,pos,af,none⟩::l) L H nx R:=by
 intro B hB m F σ t h1 h2 h3;have hfree:Qz ops i t=true:=by
  unfold Qz;rw [hi];rw [bf hr,aL];intro r hmem;rw [be] at hmem;obtain ⟨r0,hr0,rfl⟩:=hmem;have key:∀ rs:List Operand,zH E.Γ L H b rs=true→r0∈rs→∃ y,AU E.Γ L r0=some y∧b3a H b y=true:=by
   intro rs
   induction rs with
   |nil=>simp
   |cons a rs ih =>
    intro h hm;simp only [zH,Bool.and_eq_true] at h;grind
  obtain ⟨y,hy,hys⟩:=key rs hs hr0;exact b2k h1 h2 hx hb hy hys
 refine I9.cons (Ja.wanted (L:=L) h1 h2 rfl) ((h (m.at m.size) F σ t (h1.at _) (RL.at (Γ:=E.Γ) _ h2)).mono ?_);rintro v m' ⟨r,H',nx',F',σ',q,c1,c2,c3,c4⟩;refine ⟨.inr (.inr (.inl ⟨hw,hfree⟩)),?_⟩;exact q B hB _ F' σ' _ (c1.at _) (RL.at (Γ:=E.Γ) _ (((RL.at (Γ:=E.Γ) _ h2).step c3 (h1.at _)).put c2)) (h3.trans c3.at)
theorem Af.c1b (rs:List Operand) (hw:Qs E.P ops i=true) (hr:rW (Iw ops i) rs=true) (hs:yG E.Γ L rs=true)
 (h:Aa E true ⟨dst,op,ty,pos,af,none⟩ L H nx fun r H' nx'=>Af E bn ops (i+1) l (H8 L dst r) H' nx' R):Af E bn ops i (⟨dst,op,ty,pos,af,none⟩::l) L H nx R:=by
 intro B hB m F σ t h1 h2 h3;refine I9.cons (Ja.wanted (L:=L) h1 h2 rfl) ((h (m.at m.size) F σ t (h1.at _) (RL.at (Γ:=E.Γ) _ h2)).mono ?_);rintro v m' ⟨r,H',nx',F',σ',q,c1,c2,c3,c4⟩;have hleave:MC ops i t m m'=true:=by
  unfold MC;rw [bf hr,aL];intro r hmem;rw [be] at hmem;obtain ⟨r0,hr0,rfl⟩:=hmem;simp only;have key:∀ rs:List Operand,yG E.Γ L rs=true→r0∈rs→∃ y,AU E.Γ L r0=some y∧a3r y=true:=by
   intro rs
   induction rs with
   |nil=>simp
   |cons a rs ih =>
    intro h hm;simp only [yG,Bool.and_eq_true] at h;grind
  obtain ⟨y,hy,hys⟩:=key rs hs hr0;split
  ·rename_i b hb
   have hF:=oO h1 h2 hy hys b hb;exact @decide_eq_true _ (Classical.propDecidable _) (c3.keep b (h1.fr b hF) fun ho=>(h1.LY ho).1 hF)
  ·rfl
 refine ⟨.inr (.inr (.inr ⟨hw,hleave⟩)),?_⟩;exact q B hB _ F' σ' _ (c1.at _) (RL.at (Γ:=E.Γ) _ (((RL.at (Γ:=E.Γ) _ h2).step c3 (h1.at _)).put c2)) (h3.trans c3.at)
end
end
section
open Go.Am
section
variable {E:Env} {bn:Nat} {b:Code} {L:Frame} {H:Heap} {nx:Nat} {Q:BM→Frame→Heap→Nat→Prop}
def RN (E:Env) (bn:Nat) (b:Code) (Q:BM→Frame→Heap→Nat→Prop):Nat→Frame→Heap→Nat→Prop
 |0,L,H,nx=>Ad E bn b L H nx (Aj (fun _ _ _=>False) Q)
 |n+1,L,H,nx=>Ad E bn b L H nx (Aj (RN E bn b Q n) Q)
theorem Ad.b3w (n:Nat) (h:RN E bn b Q n L H nx):Ad E bn (.loop b) L H nx Q:=by
 intro B hB m F σ t h1 h2 h3;refine Ns.loop (fun k s=>∃ L H nx F σ,RN E bn b Q k L H nx∧Ctx E.Γ s.m F σ H nx∧RL s.m F (htag H) σ nx L s.t∧B.to s.m F σ H nx) n ⟨L,H,nx,F,σ,h,h1,h2,h3⟩ ?_;rintro k s ⟨L1,H1,nx1,F1,σ1,u,c1,c2,c3⟩;cases k with
 |zero =>
  refine (u B hB s.m F1 σ1 s.t c1 c2 c3).mono ?_;rintro e s' ⟨L',H',nx',F',σ',q,d1,d2,d3⟩;cases e with
  |normal=>exact q.elim
  |ret=>exact ⟨L',H',nx',F',σ',q,d1,d2,d3⟩
  |exit i=>exact ⟨L',H',nx',F',σ',q,d1,d2,d3⟩
 |succ k =>
  refine (u B hB s.m F1 σ1 s.t c1 c2 c3).mono ?_;rintro e s' ⟨L',H',nx',F',σ',q,d1,d2,d3⟩;cases e with
  |normal=>exact ⟨k,bE _,L',H',nx',F',σ',q,d1,d2,d3⟩
  |ret=>exact ⟨L',H',nx',F',σ',q,d1,d2,d3⟩
  |exit i=>exact ⟨L',H',nx',F',σ',q,d1,d2,d3⟩
theorem RN.zero (h:Ad E bn b L H nx (Aj (fun _ _ _=>False) Q)):RN E bn b Q 0 L H nx:=h
theorem RN.succ {n:Nat} (h:Ad E bn b L H nx (Aj (RN E bn b Q n) Q)):RN E bn b Q (n+1) L H nx:=h
theorem Aj.again {I:Frame→Heap→Nat→Prop} (h:I L H nx):Aj I Q .normal L H nx:=h
end
end
section
open Go.Am
def NT (names:List (List UInt8)):List (FV×FV):=names.map fun s=>(.str (bs s),.bool true)
theorem b5n (a b:List UInt8):(bs a==bs b)=decide (a=b):=by rw [NQ];rfl
theorem aj {m:Mem} {F:Nat→Prop}:∀ {names:List (List UInt8)} {l:List MapEntry},jF m F (NT names) l→l.map (·.key)=names.map (fun s=>Value.string (bs s))∧l.map (·.val)=names.map (fun _=>Value.bool true)
 |[],[],_=>⟨rfl,rfl⟩
 |[],e::l,h=>by cases h.1
 |s::names,[],h=>by cases h.1
 |s::names,e::l,h=>by
  obtain ⟨h1,h2⟩:=h;simp only [NT,List.map_cons] at h1 h2;cases h1 with
  |cons k1 t1 =>
   cases h2 with
   |cons k2 t2 =>
    obtain ⟨e1,e2⟩:=aj (names:=names) (l:=l) ⟨t1,t2⟩;rw [bz,bz,bz,bz,e1,e2];constructor
    ·generalize e.key=k at k1
     cases k1;rfl
    ·generalize e.val=k at k2
     cases k2;rfl
theorem Zv:∀ {names:List (List UInt8)} {l:List MapEntry},l.map (·.key)=names.map (fun s=>Value.string (bs s))→l.map (·.val)=names.map (fun _=>Value.bool true)→∀ (s:List UInt8) (i:Nat),
 (s∈names→∃ j,Instr.findNow .string (.string (bs s)) l i=some (some (j,.bool true)))∧(s∉names→Instr.findNow .string (.string (bs s)) l i=some none)
 |[],[],_,_,s,i=>⟨fun h=>(by cases h),fun _=>rfl⟩
 |[],e::l,h,_,_,_=>by cases h
 |n::names,[],h,_,_,_=>by cases h
 |n::names,e::l,h1,h2,s,i=>by
  simp only [List.map_cons,List.cons.injEq] at h1 h2;obtain ⟨i1,i2⟩:=Zv h1.2 h2.2 s (i+1);have hs:Instr.sameNow .string (.string (bs s)) (.string (bs n))=some (bs s==bs n):=rfl;rw [b5n] at hs;unfold Instr.findNow;grind
section
variable {E:Env} {L:Frame} {H:Heap} {nx:Nat} {Q:PV→Heap→Nat→Prop} {w:Bool}
variable {dst:Option Tmp} {ty:TypeId} {pos:String} {af:Array Edge} {gd:Option (Nat×Bool)}
theorem y9 {Γ:Nat→Option (List Value×TypeId)} {m:Mem} {F:Nat→Prop} {σ:Nat→Value} {t:Tr Value} {b:Nat} {o:Operand} {es:List (FV×FV)} (hx:Ctx Γ m F σ H nx) (hl:RL m F (htag H) σ nx L t) (h:AU Γ L o=some (.mref b)) (hb:hget H b=some (.map es)):ev t o=σ b:=by
 have:=Bz hx hl h;cases this with
 |mref _ _ h3=>exact h3 (by simp [htag,hb,HB.tag])
theorem Aa.makeMap {t:TypeId} (q:Q (.mref nx) ((nx,.map [])::H) (nx+1)):Aa E w ⟨dst,.makeMap t none,ty,pos,af,gd⟩ L H nx Q:=by
 intro m F σ tt h1 h2;obtain ⟨c1,c2,c3⟩:=h1.new (m':=m.alloc (.map [] 0)) (x:=.map []) (s:=.map (some m.size)) (by simp [Mem.alloc]) (fun c hc=>by rw [Mem.Bh,if_neg (by omega)]) (by simp only [Mem.alloc];omega) (fun c hc=>by simp only [Dl,Option.some.injEq] at hc;omega)
  ⟨m.size,[],0,rfl,by simp [Mem.alloc],fun hf=>cn _ (h1.fr _ hf),by rw [Mem.Bh,if_pos rfl],⟨.nil,.nil⟩⟩
 exact Gs.op (v:=.map (some m.size)) (fun _=>rfl) ⟨_,_,_,F,_,q,c1,.mref (bE _) rfl fun _=>(upd_same _ _ _).symm,c2,fun _=>c3⟩
theorem Aa.Jr {t kt et:TypeId} {x k:Operand} {b:Nat} {names:List (List UInt8)} {s:List UInt8} (hx:AU E.Γ L x=some (.mref b)) (hb:hget H b=some (.map (NT names))) (hk:AU E.Γ L k=some (st s))
 (ht:E.P.underlying t=some (.map kt et)) (hkk:En E.P kt=some .string) (hz:zeroOf E.P et=some (.bool false)) (q:Q (.p (.bool (decide (s∈names)))) H nx):Aa E w ⟨dst,.lookup t x k false,ty,pos,af,gd⟩ L H nx Q :=
 Aa.quiet q fun m F σ tt c1 c2=>by
  obtain ⟨_,r,l,clock,r1,r2,r3,r4,r5⟩:=c1.hp b _ hb;obtain ⟨e1,e2⟩:=aj r5;obtain ⟨f1,f2⟩:=Zv e1 e2 s 0;refine ⟨.bool (decide (s∈names)),fun _=>?_,.p (.bool _)⟩;simp only [BO,FB,LZ,Iy,ht,hkk,hz,y9 c1 c2 hx hb,ML c1 c2 hk,r1,r4];rw [show (plain (Value.bool false)&&plain (Value.string (bs s)))=true from rfl];by_cases h:s∈names
  ·grind
  grind
theorem Dj.snoc {m:Mem} {F:Nat→Prop}:∀ {cs:List FV} {vs:List Value} {c:FV} {v:Value},Dj m F cs vs→RF m F c v→Dj m F (cs++[c]) (vs++[v])
 |_,_,_,_,.nil,h=>.cons h .nil
 |_,_,_,_,.cons a t,h=>.cons a (Dj.snoc t h)
theorem Aa.jf {t kt et:TypeId} {x k y:Operand} {b:Nat} {names:List (List UInt8)} {s:List UInt8} (hx:AU E.Γ L x=some (.mref b)) (hb:hget H b=some (.map (NT names))) (hk:AU E.Γ L k=some (st s)) (hy:AU E.Γ L y=some (.p (.bool true)))
 (ht:E.P.underlying t=some (.map kt et)) (hkk:En E.P kt=some .string) (hn:s∉names) (q:Q (.Eb []) (hput H b (.map (NT (names++[s])))) nx):Aa E true ⟨dst,.mapUpdate t x k y,ty,pos,af,gd⟩ L H nx Q:=by
 intro m F σ tt c1 c2;obtain ⟨_,r,l,clock,r1,r2,r3,r4,r5⟩:=c1.hp b _ hb;obtain ⟨e1,e2⟩:=aj r5;have f2:=(Zv e1 e2 s 0).2 hn;have hput':∀ d x,r≠d→(m.put r x).get d=m.get d:=fun d x hd=>by rw [Mem.get_put,if_neg hd]
 obtain ⟨d1,d2⟩:=c1.change (m':=m.put r (.map (l++[{ key:=.string (bs s),val:=.bool true,born:=clock }]) (clock+1))) (x':=.map (NT (names++[s]))) (s':=σ b) hb trivial (fun _=>rfl) (ab _)
  (fun d _ hd=>hput' d _ fun e=>hd (by rw [r1,e];rfl)) (fun k k1 k2 k3=>by
   have:=k3 r (by rw [r1];rfl);simp only [Mem.put];omega) (fun d hd=>.inl hd) (by
   refine ⟨r,_,clock+1,r1,r2,r3,by rw [Mem.get_put,if_pos rfl],?_⟩;have hF:∀ d,F d→F d∧(m.put r (.map (l++[{ key:=.string (bs s),val:=.bool true,born:=clock }]) (clock+1))).get d=m.get d:=fun d hd=>⟨hd,hput' d _ fun e=>r3 (e▸hd)⟩
   unfold jF NT;simp only [List.map_append,List.map_cons,List.map_nil];exact ⟨Dj.snoc (r5.1.mono hF) (.str _),Dj.snoc (r5.2.mono hF) (.bool _)⟩)
 refine Gs.op (v:=undef) (fun _=>?_) ⟨_,_,_,F,_,q,d1,.Eb .nil,d2,fun h=>by cases h⟩;have hv:ev tt y=.bool true:=Ih c1 c2 hy;simp only [BO,FB,Jg,Iy,ht,hkk,y9 c1 c2 hx hb,ML c1 c2 hk,hv,r1,r4];rw [show plain (Value.string (bs s))=true from rfl];grind
end
end
section
open Go.Am
end
end Go.Vm
namespace Go.Am
section
variable {P:Program} {O:CB} {G:List Nat}
def Jp (key:Value) (rows:List (List Value)):Value:=.tuple #[key,.tuple (rows.map fun r=>Value.tuple r.toArray).toArray]
theorem WQ:∀ rows:List (List Value),Yf (rows.map fun r=>Value.tuple r.toArray)=some rows
 |[]=>rfl
 |r::rows=>by simp only [List.map_cons,Yf,a8h,WQ rows]
theorem MG (key:Value) (rows:List (List Value)):OJ (Jp key rows)=some rows:=WQ rows
def Ob (P:Program) (O:CB) (G:List Nat) (Ph body:Code) (n:Nat) (ask:Mem→Prop) (t:Tr Value) (ps:List Tmp):List (List Value)→Mem→(BM→Mem→Prop)→Prop
 |[],m,Q=>Q .normal m
 |vs::rest,m,Q=>vs.length=n∧vs.all plain=true∧Ns P O G Ph { t:=Og t ps vs,m:=I8 m m.size } fun e s1=>e=.normal∧Ns P O G body s1 fun e s2=>match e with
  | .normal=>ask (I8 s2.m (min m.low s2.m.low))∧Ob P O G Ph body n ask t ps rest (I8 s2.m (min m.low s2.m.low)) Q
  |e=>Q e (I8 s2.m (min m.low s2.m.low))
theorem Ob.run {Ph body:Code} {n:Nat} {ask:Mem→Prop} {b5k:Nat→Nat→Mem→Prop} (hk:∀ N D m,1≤D→(b5k N D m↔ask m)) {t:Tr Value} {ps:List Tmp}:∀ {rows:List (List Value)} {m:Mem} {Q:BM→Mem→Prop},Ob P O G Ph body n ask t ps rows m Q →
 ∃ e m',(∃ K,∀ N D,K≤N→K≤D→EM n (Ce P (FD P O G N D) N Ph) (Ce P (FD P O G N D) N body) (b5k N D) t ps rows m=some (e,m'))∧Q e m'
 |[],m,Q,h=>⟨.normal,m,⟨0,fun N D _ _=>rfl⟩,h⟩
 |vs::rest,m,Q,⟨h1,h2,e1,s1,hk1,he,e2,s2,hk2,q⟩=>by
  subst he;obtain ⟨K1,k1⟩:=hk1;obtain ⟨K2,k2⟩:=hk2;have k1:∀ N D,K1≤N→K1≤D→Ce P (FD P O G N D) N Ph { t:=Og t ps vs,m:=I8 m m.size }=some (.normal,s1):=k1;have k2:∀ N D,K2≤N→K2≤D→Ce P (FD P O G N D) N body s1=some (e2,s2):=k2;cases e2 with
  |normal =>
   obtain ⟨qa,qr⟩:=q;obtain ⟨e,m',⟨K3,k3⟩,qe⟩:=Ob.run hk qr;refine ⟨e,m',⟨max (max K1 K2) (max K3 1),fun N D hN hD=>?_⟩,qe⟩;have ha:=(hk N D (I8 s2.m (min m.low s2.m.low)) (by omega)).2 qa;simp only [EM];rw [if_pos ⟨h1,h2⟩,k1 N D (by omega) (by omega)];simp only;rw [k2 N D (by omega) (by omega)];simp only;rw [if_pos ha];exact k3 N D (by omega) (by omega)
  |ret =>
   refine ⟨.ret,_,⟨max K1 K2,fun N D hN hD=>?_⟩,q⟩;simp only [EM];rw [if_pos ⟨h1,h2⟩,k1 N D (by omega) (by omega)];simp only;rw [k2 N D (by omega) (by omega)]
  |exit id =>
   refine ⟨.exit id,_,⟨max K1 K2,fun N D hN hD=>?_⟩,q⟩;simp only [EM];rw [if_pos ⟨h1,h2⟩,k1 N D (by omega) (by omega)];simp only;rw [k2 N D (by omega) (by omega)]
theorem Ns.rangeFunc {f:Operand} {ps:Array Tmp} {Ph body:Code} {s:St} {g:FuncId} {lb:Array Value} {fn:Func} {Fo:List Value→Mem→Option (Value×Mem)} {key:Value} {rows:List (List Value)} {Q:BM→St→Prop} (hev:ev s.t f=.func (.func g) #[] lb) (hfn:P.funcs[g]?=some fn)
 (hfl:(flat Ph&&flat body)=true) (ho:O g=some Fo) (hc:∃ m1,Fo (Ep fn.ntmps lb.toList) s.m=some (Jp key rows,m1))
 (h:Ob P O G Ph body ps.size (fun m'=>∃ m1,Fo (Ep fn.ntmps lb.toList) m'=some (Jp key rows,m1)) s.t ps.toList rows s.m fun e m'=>Q e { t:=s.t,m:=m' }):Ns P O G (.rangeFunc f ps Ph body) s Q:=by
 simp only [Bool.and_eq_true] at hfl;have e1:∀ N D m',1≤D→FD P O G N D g (Ep fn.ntmps lb.toList) m'=Fo (Ep fn.ntmps lb.toList) m':=fun N D m' hD=>by
  obtain ⟨D,rfl⟩:∃ j,D=j+1:=⟨D-1,by omega⟩
  have hl:=UC fn.ntmps lb.toList;cases h0:Fo (Ep fn.ntmps lb.toList) m' with
  |some r=>simp only [FD,ho,Option.bind_some,h0]
  |none =>
   simp only [FD,ho,Option.bind_some,h0,hfn];grind
 obtain ⟨e,m',⟨K,hK⟩,q⟩:=Ob.run (b5k:=fun N D m'=>∃ m1,FD P O G N D g (Ep fn.ntmps lb.toList) m'=some (Jp key rows,m1)) (fun N D m' hD=>by grind) h;obtain ⟨m1,hc⟩:=hc;refine ⟨e,_,⟨max K 1,fun N D hN hD=>?_⟩,q⟩;simp only [Ce,hev,hfn];rw [if_pos ⟨rfl,hfl.1,hfl.2⟩,e1 N D s.m (by omega),hc];simp only [MG];grind
end
end Go.Am
namespace Go.Vm
open Go.Am
section
variable {E:Env} {bn:Nat} {L:Vm.Frame} {H:Vm.Heap} {nx:Nat} {Q:BM→Vm.Frame→Vm.Heap→Nat→Prop}
def a3p (L:Vm.Frame):List Tmp→List FV→Vm.Frame
 |p::ps,f::fs=>a3p (H8 L (some p) (.p f)) ps fs
 |_,_=>L
theorem RL.Og {m:Mem} {F:Nat→Prop} {T:Nat→Option Tg} {σ:Nat→Value} {nx:Nat}:∀ {ps:List Tmp} {fs:List FV} {vs:List Value} {L:Vm.Frame} {t:Tr Value},RL m F T σ nx L t→Dj m F fs vs→RL m F T σ nx (a3p L ps fs) (Og t ps vs)
 |[],fs,vs,L,t,h,hr=>by cases hr<;>exact h
 |p::ps,_,_,L,t,h,.nil=>h
 |p::ps,_,_,L,t,h,.cons (v:=v) (vs:=vs) h1 h2=>RL.Og (ps:=ps) (t:=P7 t p v) (h.put (d:=some p) (.p h1)) h2
def c8l (E:Env) (g:FuncId) (fn:Func) (cs:List PV) (H:Vm.Heap) (nx:Nat) (key:Value) (rows:List (List Value)):Prop :=
 ∀ Fo,E.O g=some Fo→∀ m F σ lb,Ctx E.Γ m F σ H nx→Dt m F (htag H) σ nx cs lb→∃ m1,Fo (Ep fn.ntmps lb) m=some (Jp key rows,m1)
def RQ (iv:Prop) (Dw:Nat) (L0:Vm.Frame) (H1:Vm.Heap) (Q:BM→Vm.Frame→Vm.Heap→Nat→Prop):BM→Vm.Frame→Vm.Heap→Nat→Prop
 | .normal,_,H',nx'=>iv∧Dw≤nx'∧BG Dw H1 H'
 |e,_,H',nx'=>Dw≤nx'∧∃ H2,BG Dw H2 H'∧Q e L0 H2 Dw
end
section
variable {P:Program} {G:List Nat}
theorem Lu (n:Nat) (lb:List Value):(Ep n lb).drop (n+1)=lb:=by
 unfold Ep;simp
theorem uP {k k':Value} {a b:List (List Value)} (h:Jp k a=Jp k' b):k=k'∧a=b:=by
 have:=congrArg OJ h;rw [MG,MG] at this;refine ⟨?_,cd this⟩;unfold Jp at h;grind
abbrev SqF:=List Value→Mem→Option (Value×List (List Value))
open Classical in
noncomputable def Zk (G:List Nat) (M0:Mem) (nt:Nat) (Sq:SqF) (BF:List Value) (m:Mem):Option (Value×Mem) :=
 if BF=Ep nt (BF.drop (nt+1))∧∀ k∈G,m.get k=M0.get k then (Sq (BF.drop (nt+1)) m).map fun kr=>(Jp kr.1 kr.2,m) else none
noncomputable def b0j (G:List Nat) (M0:Mem) (gf:FuncId) (nt:Nat) (Sq:SqF) (O:CB):CB:=fun f=>if f=gf then some (Zk G M0 nt Sq) else O f
theorem zx {M0:Mem} {gf f:FuncId} {nt:Nat} {Sq:SqF} {O:CB} (h:f≠gf):b0j G M0 gf nt Sq O f=O f:=if_neg h
theorem b0e {M0:Mem} {gf:FuncId} {nt:Nat} {Sq:SqF} {O:CB}:b0j G M0 gf nt Sq O gf=some (Zk G M0 nt Sq):=if_pos rfl
theorem Oe {M0:Mem} {nt:Nat} {Sq:SqF} {BF:List Value} {m:Mem} {r:Value×Mem} (h:Zk G M0 nt Sq BF m=some r):∃ lb kr,BF=Ep nt lb∧(∀ k∈G,m.get k=M0.get k)∧Sq lb m=some kr∧r=(Jp kr.1 kr.2,m):=by
 unfold Zk at h;split at h
 case isFalse=>cases h
 rename_i hc;rw [ae] at h;grind
theorem a4o {M0:Mem} {nt:Nat} {Sq:SqF} {lb:List Value} {m:Mem} {kr:Value×List (List Value)} (hg:∀ k∈G,m.get k=M0.get k) (h:Sq lb m=some kr):Zk G M0 nt Sq (Ep nt lb) m=some (Jp kr.1 kr.2,m):=by
 unfold Zk;rw [Lu,if_pos ⟨rfl,hg⟩,h];rfl
theorem jm {gf:Nat} {lb:Array Value} {rows:List (List Value)} {I1 I2:World→Prop} {w:World} (h:YO P gf lb rows I2 w) (hi:∀ W,I1 W→I2 W):YO P gf lb rows I1 w :=
 fun l J Jx W hb hJ hx hy h0 hj=>h l J Jx W hb hJ hx (fun i W1 hi' hj'=>by
  obtain ⟨fn,tmps,Ph,body,e1,e2⟩:=hy i W1 hi' hj';refine ⟨fn,tmps,Ph,body,e1,e2.mono ?_⟩;grind) (hi _ h0) hj
theorem xq {M0:Mem} {gf:FuncId} {nt:Nat} {Sq:SqF} {O:CB} (hO:Gu P G O) (he:Am.Enters P gf) (hnt:∀ fn,P.funcs[gf]?=some fn→fn.ntmps=nt)
 (hs:∀ (lb:List Value) (m:Mem) (key:Value) (rows:List (List Value)),Sq lb m=some (key,rows)→(∀ k∈G,m.get k=M0.get k)→∀ (ι:BJ) (w:World) (lb':Array Value),DL P G ι m w→BA ι m.gen lb lb'.toList →
  YO P gf lb' rows (Oz P G (fun m'=>Sq lb m'=some (key,rows)∧∀ k∈G,m'.get k=M0.get k) ι m.gen lb lb') w):Gu P G (b0j G M0 gf nt Sq O):=by
 intro f Fo hf;by_cases h:f=gf
 ·subst h
  rw [b0e] at hf;cases hf;refine ⟨fun BF m v m' hv ι w as' hs' hrel=>?_,fun BF m v m' hv=>?_,he,fun fn lb m m1 v rows hfn hv hr ι w lb' Dv hl=>?_⟩
  ·obtain ⟨lb,rows,rfl,_⟩:=Oe hv
   obtain ⟨v',k',_,h2,_⟩:=hrel.Kv;contradiction
  ·obtain ⟨lb,rows,_,_,_,e⟩:=Oe hv
   cases e;exact AO.refl _
  ·rw [hnt fn hfn] at hv ⊢
   obtain ⟨lb2,b4s,e1,e2,e3,e4⟩:=Oe hv;have e5:lb=lb2:=by
    have:=congrArg (List.drop (nt+1)) e1
    rwa [Lu,Lu] at this
   subst e5;obtain ⟨key2,b4s⟩:=b4s;cases e4;rw [MG] at hr;cases hr;refine jm (hs lb m _ _ e3 e2 ι w lb' Dv hl) ?_;rintro W ⟨ι',m',q1,q2,⟨m2,q3⟩,q4⟩;obtain ⟨lb3,b4v,p1,p2,p3,p4⟩:=Oe q3;have e6:lb=lb3:=by
    have:=congrArg (List.drop (nt+1)) p1
    rwa [Lu,Lu] at this
   subst e6;simp only [Prod.mk.injEq] at p4;obtain ⟨r1,r2⟩:=uP p4.1;obtain ⟨c7p,b4v⟩:=b4v;subst r1;subst r2;exact ⟨ι',m',q1,q2,⟨p3,p2⟩,q4⟩
 ·rw [zx h] at hf
  exact hO f Fo hf
end
end Go.Vm
namespace Go.Proofs.YtnjkoebfgcbbdaaGreatDoor
open Go Go.Am Go.Vm Go.RowKit
def F5 (lo hi:Nat):List (List Value):=(Eu lo hi).map fun x=>[Go.encZ x]
def QK:SqF:=fun lb m=>match lb with
 |[.pointer (some ⟨b,0,none⟩)]=>match m.get b with
  | .cells [.int .u64 lo,.int .u64 hi] _ 0 false=>if (0≤lo∧lo<18446744073709551616)∧(0≤hi∧hi<18446744073709551616) then some (.agg #[.int .u64 lo,.int .u64 hi],F5 lo.toNat hi.toNat) else none
  |_=>none
 |_=>none
def notKey (lo hi:Nat):Value:=.agg #[.int .u64 (lo:Int),.int .u64 (hi:Int)]
theorem aN {lb:List Value} {m:Mem} {kr:Value×List (List Value)} (h:QK lb m=some kr):∃ b lo hi e,lb=[.pointer (some ⟨b,0,none⟩)]∧m.get b=.cells [.int .u64 ((lo:Nat):Int),.int .u64 ((hi:Nat):Int)] e 0 false∧lo<18446744073709551616∧hi<18446744073709551616∧kr=(notKey lo hi,F5 lo hi):=by
 unfold QK at h;split at h
 ·rename_i b
  split at h
  ·rename_i lo hi e h1
   split at h
   ·rename_i hc
    cases h;obtain ⟨lo,rfl⟩:∃ n:Nat,lo=n:=⟨lo.toNat,by omega⟩
    obtain ⟨hi,rfl⟩:∃ n:Nat,hi=n:=⟨hi.toNat,by omega⟩
    exact ⟨b,lo,hi,e,rfl,h1,by omega,by omega,rfl⟩
   grind
  grind
 grind
theorem uw {a b c d:Nat} (h:notKey a b=notKey c d):a=c∧b=d:=by
 simp [notKey] at h;omega
theorem ZU {G:List Nat} {ι:BJ} {m:Mem} {w:World} {b:Nat} {p':Value} {vs:List Value} {e:TypeId} (hs:DL Tryz.prog G ι m w) (h:Aw ι m.gen (.pointer (some ⟨b,0,none⟩)) p') (hm:m.get b=.cells vs e 0 false) (hp:vs.all Am.plainCell=true) :
 ∃ c o,p'=.pointer (some ⟨c,o,none⟩)∧∀ i,i<vs.length→w.cell? ⟨c,o+i,none⟩=some (vs.getD i undef):=by
 cases h with
 |ptr a a' h =>
  obtain ⟨ib,h1,h2,h3⟩:=h;obtain ⟨cs,fr,e',q1,q2,q3,q4,q5⟩:=Ii hs h1 hm;have e1:=h3 (by simp [Mem.gen,hm,IQ.gen,Oh]);refine ⟨ib.blk,ib.sh,by grind,fun i hi=>?_⟩;obtain ⟨v',r1,r2⟩:=q4 i hi;have hpi:Am.plainCell (vs.getD i undef)=true:=by
   grind
  rw [r2.D5 hpi] at r1;rw [Am.cell_of_row q1];omega
theorem Xa (lo hi:Nat):(F5 lo hi).length=(Eu lo hi).length:=by simp [F5]
theorem b3g (lo hi:Nat):∀ k,∃ r,Eu lo hi=Ku lo hi k++r
 |0=>⟨_,rfl⟩
 |1=>⟨(GY hi).map (fun n:Nat=>((64+n:Nat):Int)),by rfl⟩
 |_+2=>⟨[],by simp [Ku]⟩
theorem a6n {lo hi k:Nat} {done rest:List Int} {x:Int} (h:done++(x::rest)=Ku lo hi k):∃ hl:done.length<(F5 lo hi).length,(F5 lo hi)[done.length]=[Go.encZ x]:=by
 obtain ⟨r,hr⟩:=b3g lo hi k;rw [← h] at hr;have hl:done.length<(F5 lo hi).length:=by
  rw [Xa,hr];simp
 refine ⟨hl,?_⟩;unfold F5;grind
attribute [local go_sem] Oper.semAt_some zk yA
theorem kS {F:Nat} {laid:List (String×DataW Unit)} (ht:Tz F laid) (lb:List Value) (m:Mem) (key:Value) (rows:List (List Value)) (hq:QK lb m=some (key,rows)) (hg:∀ k∈AP Tryz.prog F laid,m.get k=(Bv Tryz.prog F laid).get k) (ι:BJ) (w:World) (lb':Array Value) (Dv:DL Tryz.prog (AP Tryz.prog F laid) ι m w) (hl:BA ι m.gen lb lb'.toList) :
 YO Tryz.prog 147 lb' rows (Oz Tryz.prog (AP Tryz.prog F laid) (fun m'=>QK lb m'=some (key,rows)∧∀ k∈AP Tryz.prog F laid,m'.get k=(Bv Tryz.prog F laid).get k) ι m.gen lb lb') w:=by
 obtain ⟨b,lo,hi,e,rfl,h1,hlo,hhi,he⟩:=aN hq;cases he;obtain ⟨lb'⟩:=lb';obtain ⟨p1,k1,rfl,r1,hl2⟩:=hl.Kv;have hk:k1=[]:=ar.1 hl2.1.symm;subst hk;obtain ⟨c1,o1,rfl,_⟩:=ZU Dv r1 h1 rfl;have facts:∀ X,Oz Tryz.prog (AP Tryz.prog F laid) (fun m'=>QK [.pointer (some ⟨b,0,none⟩)] m'=some (notKey lo hi,F5 lo hi)∧∀ k∈AP Tryz.prog F laid,m'.get k=(Bv Tryz.prog F laid).get k) ι m.gen [.pointer (some ⟨b,0,none⟩)] ⟨[.pointer (some ⟨c1,o1,none⟩)]⟩ X →
  X.cell? ⟨c1,o1,none⟩=some (.int .u64 (lo:Int))∧X.cell? ⟨c1,o1+1,none⟩=some (.int .u64 (hi:Int))∧OV X:=by
  rintro X ⟨ι',m',g1,g2,⟨g3,g4⟩,_⟩;obtain ⟨b',lo',hi',e',q0,q1,_,_,q3⟩:=aN g3;cases q0;obtain ⟨rfl,rfl⟩:=uw (congrArg Prod.fst q3);obtain ⟨p1',k1',x1,x2,x3⟩:=g2.Kv;cases x1;obtain ⟨c1',o1',z1,z2⟩:=ZU g1 x2 q1 rfl;cases z1;obtain ⟨e,t1⟩:=ht.tab;exact ⟨z2 0 (by simp),z2 1 (by simp),(bH ht.nm (Ym g1 g4 ht.nm t1 ht.lt)).1⟩
 have later:∀ X Y,Oz Tryz.prog (AP Tryz.prog F laid) (fun m'=>QK [.pointer (some ⟨b,0,none⟩)] m'=some (notKey lo hi,F5 lo hi)∧∀ k∈AP Tryz.prog F laid,m'.get k=(Bv Tryz.prog F laid).get k) ι m.gen [.pointer (some ⟨b,0,none⟩)] ⟨[.pointer (some ⟨c1,o1,none⟩)]⟩ X→Below X.heap.size X Y →
  Oz Tryz.prog (AP Tryz.prog F laid) (fun m'=>QK [.pointer (some ⟨b,0,none⟩)] m'=some (notKey lo hi,F5 lo hi)∧∀ k∈AP Tryz.prog F laid,m'.get k=(Bv Tryz.prog F laid).get k) ι m.gen [.pointer (some ⟨b,0,none⟩)] ⟨[.pointer (some ⟨c1,o1,none⟩)]⟩ Y:=by
  rintro X Y ⟨ι',m',g1,g2,g3⟩ hb;exact ⟨ι',m',QX g1 hb,g2,g3⟩
 generalize Oz Tryz.prog (AP Tryz.prog F laid) (fun m'=>QK [.pointer (some ⟨b,0,none⟩)] m'=some (notKey lo hi,F5 lo hi)∧∀ k∈AP Tryz.prog F laid,m'.get k=(Bv Tryz.prog F laid).get k) ι m.gen [.pointer (some ⟨b,0,none⟩)] ⟨[.pointer (some ⟨c1,o1,none⟩)]⟩=SI at *;intro l J Jx W hB hJ hx hY hI hj;refine callsIn_of_wp Tryz.func147 rfl trivial ?_ rfl;simp only [Tryz.ntmps147,List.size_toArray,List.length_cons,List.length_nil,Nat.reduceAdd,Nat.reduceSub,Array.replicate_succ,Array.replicate_zero,List.push_toArray,List.append_toArray,List.nil_append,List.cons_append];obtain ⟨d0,d1,_⟩:=facts W hI
 gi_wp2
 gi_loopw [10] (fun i wr=>(i=.int .i64 0∧J (Ku lo hi 0).length wr∧SI wr)∨(i=.int .i64 1∧J (Ku lo hi 1).length wr∧SI wr)∨(i=.int .i64 2∧J (Ku lo hi 2).length wr∧SI wr)) (fun i _=>(2-zy i).toNat)
 case atStart=>exact Or.inl ⟨rfl,hj,hI⟩
 case round =>
  rcases hrel with ⟨rfl,hJs,hIs⟩|⟨rfl,hJs,hIs⟩|⟨rfl,hJs,hIs⟩
  ·gi_wp2
   gi_loopw [4] (fun v wr=>∃ p:Nat,p<18446744073709551616∧v=.int .u64 (p:Int)∧∃ done:List Int,J done.length wr∧SI wr∧done++(GY p).map (fun n:Nat=>((64*0+n:Nat):Int))=Ku lo hi (0+1)) (fun v _=>(zy v).toNat)
   case atStart=>exact ⟨_,hlo,rfl,Ku lo hi 0,hJs,hIs,by simp [Ku,Eu]⟩
   case round =>
    obtain ⟨p,hp,rfl,done,hJd,hId,hdone⟩:=hrel;by_cases hp0:p=0
    ·subst hp0
     have hz:((0:Nat):Int)=0:=rfl;rw [OW,ej,cT] at hdone
     gi_wp2
     go_roundw
     case rel=>exact Or.inr <| Or.inl ⟨by first|rfl|simp,by rw [← hdone];exact hJd,hId⟩
     case measure=>simp [zy]
    ·obtain ⟨e1,e2,e3⟩:=Uz hp0 hp
     rw [e1,bz] at hdone;obtain ⟨_,_,hTb⟩:=facts _ hId;have htz:=yj p hp _ hTb;have hne:¬ ((p:Int)=0):=by omega
     have hw1:=RG hp0 hp;have hw2:=Q8 hp;obtain ⟨x0,hx0⟩:∃ x0:Int,((64*0+Lib.ctz 64 p:Nat):Int)=x0:=⟨_,rfl⟩
     rw [hx0] at hdone;generalize Lib.ctz 64 p=t at *;have hw4:IntKind.i64.wrap (0+(t:Int))=x0:=by rw [Qd (by omega) (by omega)];omega
     have hw5:IntKind.i64.wrap ((t:Int))=x0:=by rw [Qd (by omega) (by omega)];omega
     obtain ⟨hl,hrow⟩:=a6n hdone;obtain ⟨fn,tmps,assign,body,hy,hR⟩:=hY done.length _ hl hJd;rw [hrow] at hy;have hy:(Instr.yield l #[.int .i64 x0]).run Tryz.prog wr=.ok (.round l fn tmps assign body) wr:=hy
     gi_wp2
     refine ⟨trivial,rfl,(callsIn_wide.2 htz).mono ?_⟩;rintro _ _ ⟨rfl,rfl⟩
     gi_wp2
     refine ⟨rfl,hR.mono ?_⟩;rintro e W3 (⟨rfl,hJ3,hI3⟩|⟨rfl,hx3⟩)
     ·gi_wp2
      go_roundw
      case rel=>exact ⟨p &&& (p-1),by omega,by first|rfl|simp,done++[x0],by rw [az];exact hJ3,hI3,by rw [cA];exact hdone⟩
      case measure=>simp [zy];omega
     ·gi_wp2
      refine ⟨rfl,_,results_none rfl _ _ _,⟨_,rfl⟩,.inr ⟨_,hx3⟩⟩
  ·gi_wp2
   gi_loopw [4] (fun v wr=>∃ p:Nat,p<18446744073709551616∧v=.int .u64 (p:Int)∧∃ done:List Int,J done.length wr∧SI wr∧done++(GY p).map (fun n:Nat=>((64*1+n:Nat):Int))=Ku lo hi (1+1)) (fun v _=>(zy v).toNat)
   case atStart=>exact ⟨_,hhi,rfl,Ku lo hi 1,hJs,hIs,by simp [Ku,Eu]⟩
   case round =>
    obtain ⟨p,hp,rfl,done,hJd,hId,hdone⟩:=hrel;by_cases hp0:p=0
    ·subst hp0
     have hz:((0:Nat):Int)=0:=rfl;rw [OW,ej,cT] at hdone
     gi_wp2
     go_roundw
     case rel=>exact Or.inr <| Or.inr ⟨by first|rfl|simp,by rw [← hdone];exact hJd,hId⟩
     case measure=>simp [zy]
    ·obtain ⟨e1,e2,e3⟩:=Uz hp0 hp
     rw [e1,bz] at hdone;obtain ⟨_,_,hTb⟩:=facts _ hId;have htz:=yj p hp _ hTb;have hne:¬ ((p:Int)=0):=by omega
     have hw1:=RG hp0 hp;have hw2:=Q8 hp;obtain ⟨x0,hx0⟩:∃ x0:Int,((64*1+Lib.ctz 64 p:Nat):Int)=x0:=⟨_,rfl⟩
     rw [hx0] at hdone;generalize Lib.ctz 64 p=t at *;have hw4:IntKind.i64.wrap (64+(t:Int))=x0:=by rw [Qd (by omega) (by omega)];omega
     have hw5:IntKind.i64.wrap (64+(t:Int))=x0:=by rw [Qd (by omega) (by omega)];omega
     obtain ⟨hl,hrow⟩:=a6n hdone;obtain ⟨fn,tmps,assign,body,hy,hR⟩:=hY done.length _ hl hJd;rw [hrow] at hy;have hy:(Instr.yield l #[.int .i64 x0]).run Tryz.prog wr=.ok (.round l fn tmps assign body) wr:=hy
     gi_wp2
     refine ⟨trivial,rfl,(callsIn_wide.2 htz).mono ?_⟩;rintro _ _ ⟨rfl,rfl⟩
     gi_wp2
     refine ⟨rfl,hR.mono ?_⟩;rintro e W3 (⟨rfl,hJ3,hI3⟩|⟨rfl,hx3⟩)
     ·gi_wp2
      go_roundw
      case rel=>exact ⟨p &&& (p-1),by omega,by first|rfl|simp,done++[x0],by rw [az];exact hJ3,hI3,by rw [cA];exact hdone⟩
      case measure=>simp [zy];omega
     ·gi_wp2
      refine ⟨rfl,_,results_none rfl _ _ _,⟨_,rfl⟩,.inr ⟨_,hx3⟩⟩
  ·gi_wp2
   go_end0
   refine ⟨⟨_,rfl⟩,.inl ?_⟩;rw [Xa];have:Ku lo hi 2=Eu lo hi:=rfl;rw [← this];exact hJs
end Go.Proofs.YtnjkoebfgcbbdaaGreatDoor
namespace Go.Proofs.YtnjkoebfgcbbdaaGreatDoor
open Go Go.Am Go.Vm
theorem c1f:Tryz.prog.follows .mixedOrders=true :=by decide
theorem a8w:uX 8 Es:=⟨⟨2,82,by rfl,by kernel_rfl,of_decide_eq_true (by rfl)⟩⟩
theorem ql:Am.Enters Tryz.prog 52:=⟨_,Tryz.func52,by rfl,by rfl⟩
theorem aY:Am.Enters Tryz.prog 55:=⟨_,Tryz.func55,by rfl,by rfl⟩
theorem mM:Am.Enters Tryz.prog 130:=⟨_,Tryz.func130,by rfl,by rfl⟩
def b1o:List (FuncId×aA):=[(52,zI),(55,aB),(130,textF)]
theorem b0r:Gu Tryz.prog (AP Tryz.prog 8 Es) (lY (AP Tryz.prog 8 Es) (Bv Tryz.prog 8 Es) b1o):=wV fun x hx=>by
 simp only [b1o,List.mem_cons,List.not_mem_nil,or_false] at hx;rcases hx with rfl|rfl|rfl
 ·exact xG a8w ql
 ·exact dL aY
 ·exact vC a8w mM
def fP:InF:=fun zs rest=>match rest with
 |[]=>if zs.length<1000000 then some (zs.mergeSort fun x y=>decide (x≤y),none) else none
 |_=>none
theorem Zh {zs zs':List Int} {rest:List Value} {r:Option Nat} (h:fP zs rest=some (zs',r)):rest=[]∧zs.length<1000000∧zs'=zs.mergeSort (fun x y=>decide (x≤y))∧r=none:=by
 unfold fP at h;grind
def fE:InF:=fun zs rest=>match rest with
 |[]=>if zs.length<1000000 then some (Lib.compact zs++List.replicate (zs.length-(Lib.compact zs).length) 0,some (Lib.compact zs).length) else none
 |_=>none
theorem YT {zs zs':List Int} {rest:List Value} {r:Option Nat} (h:fE zs rest=some (zs',r)):rest=[]∧zs.length<1000000∧zs'=Lib.compact zs++List.replicate (zs.length-(Lib.compact zs).length) 0∧r=some (Lib.compact zs).length:=by
 unfold fE at h;grind
theorem oD:Am.Enters Tryz.prog 48:=⟨_,Tryz.func48,by rfl,by rfl⟩
theorem pF:Am.Enters Tryz.prog 49:=⟨_,Tryz.func49,by rfl,by rfl⟩
noncomputable abbrev a7b:CB:=lY (AP Tryz.prog 8 Es) (Bv Tryz.prog 8 Es) b1o
noncomputable abbrev a5q:CB:=inO (AP Tryz.prog 8 Es) (Bv Tryz.prog 8 Es) 48 3 fP a7b
noncomputable abbrev yJ:CB:=inO (AP Tryz.prog 8 Es) (Bv Tryz.prog 8 Es) 49 3 fE a5q
theorem b3j:Gu Tryz.prog (AP Tryz.prog 8 Es) a5q:=dN b0r oD (by kernel_rfl)
 (fun blk off cap zs zs' r rest w h hl hr hH hb hc h0=>by
  obtain ⟨rfl,h1,rfl,rfl⟩:=Zh h;refine (show Calls Tryz.prog 48 _ w _ from Tryz.slices_Sort_int blk off cap zs w hH hb (by omega)).mono ?_;rintro x w' ⟨rfl,n,os,rfl⟩;exact ⟨rfl,n,os,rfl⟩)
 (fun rest rest' w h hs=>by
  obtain ⟨rfl,_⟩:=Zh h;have e:rest'=#[]:=Array.eq_empty_of_size_eq_zero hs;subst e;exact Tryz.slices_Sort_int_none none 0 w)
theorem b2b:Gu Tryz.prog (AP Tryz.prog 8 Es) yJ:=dN b3j pF (by kernel_rfl)
 (fun blk off cap zs zs' r rest w h hl hr hH hb hc h0=>by
  obtain ⟨rfl,h1,rfl,rfl⟩:=YT h;refine (show Calls Tryz.prog 49 _ w _ from Tryz.slices_Compact_int blk off cap zs w hH (by omega) hc).mono ?_;rintro x w' ⟨rfl,q,rfl⟩;refine ⟨rfl,q,#[],?_⟩;rfl)
 (fun rest rest' w h _=>by
  obtain ⟨_,_,_,h1⟩:=YT h;grind)
theorem ZE:Tz 8 Es:=⟨by rfl,⟨5,by kernel_rfl⟩,of_decide_eq_true (by rfl)⟩
theorem YM:Am.Enters Tryz.prog 61:=⟨_,Tryz.func61,by rfl,by rfl⟩
theorem jL:Am.Enters Tryz.prog 147:=⟨_,Tryz.func147,by rfl,by rfl⟩
noncomputable abbrev a9o:CB:=frO (AP Tryz.prog 8 Es) (Bv Tryz.prog 8 Es) 61 3 a4p yJ
noncomputable def jX:CB:=b0j (AP Tryz.prog 8 Es) (Bv Tryz.prog 8 Es) 147 Tryz.f147.ntmps QK a9o
theorem b0z:Gu Tryz.prog (AP Tryz.prog 8 Es) a9o:=a0s b2b YM (by kernel_rfl) (a0y ZE)
theorem pU:∀ fn,Tryz.prog.funcs[147]?=some fn→fn.ntmps=Tryz.f147.ntmps :=by simp
theorem b5h:Gu Tryz.prog (AP Tryz.prog 8 Es) jX:=xq b0z jL pU fun lb m key rows h1 h2 ι w lb' h3 h4=>kS ZE lb m key rows h1 h2 ι w lb' h3 h4
noncomputable abbrev env:Env:=EY Tryz.prog 8 Es jX
theorem a9l {f:FuncId} (h:f≠147):jX f=a9o f:=zx h
theorem a8j {f:FuncId} (h:f≠147) (h1:f≠61):jX f=yJ f:=by
 rw [a9l h];exact a8c h1
theorem Yy {f:FuncId} (h:f≠147) (h0:f≠61) (h1:f≠49) (h2:f≠48):jX f=a7b f:=by
 rw [a8j h h0];show inO _ _ _ _ _ _ f=_;rw [xR h1];show inO _ _ _ _ _ _ f=_;rw [xR h2]
theorem Ae {f:FuncId} (h:f∉147::61::49::48::b1o.map (·.1)):env.O f=none:=by
 show jX f=none;rw [Yy (fun e=>h (by grind)) (fun e=>h (by grind)) (fun e=>h (by grind)) (fun e=>h (by grind))];refine a1e ?_;rw [List.lookup_eq_none_iff];intro p hp;grind
theorem b0q:jX 49=inO (AP Tryz.prog 8 Es) (Bv Tryz.prog 8 Es) 49 3 fE a5q 49:=a8j (by decide) (by decide)
theorem b3m:jX 48=inO (AP Tryz.prog 8 Es) (Bv Tryz.prog 8 Es) 48 3 fP a7b 48:=by
 rfl
theorem a5e (n:Int) (h:-9223372036854775808≤n∧n≤9223372036854775807):Ai env 52 [.int .i64 n] (st (Lib.itoa n)) :=
 YX (Yy (by decide) (by decide) (by decide) (by decide)) rfl fun m F xs h1=>by
  cases h1 with
  |cons h1 t =>
   cases t;cases h1;exact ⟨_,by simp only [zI];grind,.str _⟩
theorem WY (a b:List UInt8):Ai env 55 [.str (bs a),.str (bs b)] (.p (.int .i64 (Lib.compareBytes a b))) :=
 YX (Yy (by decide) (by decide) (by decide) (by decide)) rfl fun m F xs h1=>by
  cases h1 with
  |cons h1 t =>
   cases t with
   |cons h2 t =>
    cases t;cases h1;cases h2;exact ⟨.int .i64 (Lib.compareBytes a b),by rfl,.int _ _⟩
theorem pG (l:List Nat) (hl:Num.bP l) (hn:l.length<1000000000):Ai env 130 [.lst 82 (cells l) l.length] (st (Num.O9 l)) :=
 YX (Yy (by decide) (by decide) (by decide) (by decide)) rfl fun m F xs h1=>a1g hl hn h1
theorem sJ (m:Mem) (F:Nat→Prop):∀ l:List Int,Dj m F (cells l) (l.map Go.encZ)
 |[]=>.nil
 |z::l=>.cons (.int .i64 z) (sJ m F l)
theorem XH {lo hi:Nat} (hlo:lo<18446744073709551616) (hhi:hi<18446744073709551616):Ba env 61 [.agg [.int .u64 (lo:Int),.int .u64 (hi:Int)]] 3 (cells (Eu lo hi)) (Eu lo hi).length ((Eu lo hi).map Go.encZ).isEmpty:=by
 have h:=b7b (P:=Tryz.prog) (F:=8) (laid:=Es) (O:=jX) (O0:=yJ) (ff:=61) (e:=3) (Fn:=a4p) (xs:=[.agg [.int .u64 (lo:Int),.int .u64 (hi:Int)]]) (cs:=cells (Eu lo hi)) (l:=(Eu lo hi).map Go.encZ) (a9l (by decide))
  (fun m F' us h1=>by
   cases h1 with
   |cons h1 t =>
    cases t;cases h1 with
    |agg h2 hc =>
     cases h2 with
     |cons h3 t =>
      cases t with
      |cons h4 t =>
       cases t;cases h3;cases h4;simp only [a4p,yZ];grind) (fun m F'=>sJ m F' _) (by
   rw [aL];intro x hx;obtain ⟨z,_,rfl⟩:=be.1 hx;rfl)
 grind
end Go.Proofs.YtnjkoebfgcbbdaaGreatDoor
namespace Go.Proofs.YtnjkoebfgcbbdaaGreatDoor
section
open Go Go.Am Go.Vm
attribute [local irreducible] Aa Ah Af Ad Az Ai Ba Bq Bd Aj Vm.Done Bg AB
theorem iC (l:List Nat) (hl:l.length<1000000):Ai env 131 [.lst 82 (cells l) l.length] (lst 82 (Num.Ll l)):=by
 refine Ai.enter (Ae (by decide)) Tryz.func131 rfl (by kernel_rfl) (by simp [Tryz.ntmps131]) ?_
 repeat' (first|refine Cb ?_|fail)
 refine Ad.D6 (fun a:List Nat=>[(0,lst 82 a)]) (fun _=>[]) 0 (fun a=>a.length≤l.length∧Num.Ll a=Num.Ll l) (fun a=>a.length) l (ab _) ⟨by omega,rfl⟩ ⟨ab _,?_,trivial⟩ ?_
 ·exact Dy
 rintro a ⟨ha,hr⟩;have hlast:0<a.length→a=a.take (a.length-1)++[gi a (a.length-1)]:=fun h=>by
  conv=>lhs;rw [← eT (a.length-1) a]
  congr 1
  rw [cf (by omega),gx (by omega)];simp [gi,List.getElem?_eq_getElem (show a.length-1<a.length by omega)]
 repeat' (first|(apply Aa.a7v;rfl;rfl;rfl;omega;omega;rfl)|refine go2 ?_|apply Ad.J9|(apply Ah.guard;rfl;rfl)|(apply Aa.a4q;rfl;rfl;rfl;rfl;rfl;rfl;omega)|(apply Ad.Ak;rfl)|(apply Ad.Ac;rfl)|(intro _;try (exfalso;omega)))
 ·rename_i h1 h2
  have e1:((a.length:Int)-1).toNat=a.length-1:=by omega
  have hz:gi a (a.length-1)=0:=by omega
  refine Aj.normal ⟨a.take (a.length-1),⟨by simp;omega,?_⟩,by simp;omega,⟨ab _,?_,trivial⟩⟩
  ·have:=hlast (by omega)
   rw [hz] at this;rw [← hr]
   conv=>rhs;rw [this]
   rw [Num.VD]
  ·rw [e1];exact Dy
 ·rename_i h1 h2
  refine Done.rt rfl rfl ⟨?_,rfl,rfl⟩;have e:Num.Ll a=a:=by
   have:=hlast (by omega)
   conv=>lhs;rw [this]
   rw [Num.YQ _ (by omega),← this]
  rw [← hr,e]
 ·rename_i h1
  refine Done.rt rfl rfl ⟨?_,rfl,rfl⟩;have:a=[]:=bv (by omega);rw [← hr,this];rfl
theorem TJ (m n:List Nat) (hm:Num.bP m) (hn:Num.bP n) (hml:m.length<400000) (hnl:n.length<400000) :
 Ai env 205 [.lst 82 (cells m) m.length,.lst 82 (cells n) n.length] (lst 82 (Num.toL (Num.val m*Num.val n))):=by
 refine Ai.enter (Ae (by decide)) Tryz.func205 rfl (by kernel_rfl) (by simp [Tryz.ntmps205]) ?_;obtain ⟨T,hT⟩:∃ T,T=m.length+n.length+1:=⟨_,rfl⟩
 repeat' (first|(apply Aa.Jt T (0:Nat);rfl;rfl;rfl;rfl;rfl;omega;omega;omega;decide;decide;rfl)|refine Cb ?_|fail)
 refine Ad.D6 (fun a:Nat×List Nat=>[(0,lst 82 m),(1,lst 82 n),(5,.vec 0 T 0 T),(19,lst 82 m),(20,.p (.int .i64 m.length)),(21,.p (.int .i64 (a.1:Int)))]) (fun a=>[(0,.vec 82 (cells a.2) T false)]) 1
  (fun a=>a.1≤m.length∧a.2.length=T∧Num.bP a.2∧Num.val a.2=Num.val (m.take a.1)*Num.val n∧∀ j,a.1+n.length≤j→gi a.2 j=0) (fun a=>m.length-a.1) (0,List.replicate T 0) (by omega)
  ⟨by simp,by simp,Num.cu _,by simp [Num.bY,Num.val],fun j _=>Num.Ut _ _⟩ ⟨ab _,?_,?_⟩ ?_
 ·exact Dy
 ·exact Ey
 rintro ⟨i,out⟩ ⟨hi,hol,hlim,hval,hzero⟩;simp only at hi hol hlim hval hzero;dsimp only;by_cases hlt:i<m.length
 ·have ha:=Num.wZ hm i
  repeat' (first|(apply Aa.Ap;rfl;rfl;rfl;omega;rfl)|refine go2 ?_|(apply Ad.Ac;rfl)|(intro _;try (exfalso;omega)))
  refine Ad.D6 (fun a:Nat×Nat×List Nat=>[(0,lst 82 m),(1,lst 82 n),(5,.vec 0 T 0 T),(6,.p (.int .i64 (i:Int))),(7,.p (.int .u64 ((gi m i:Nat):Int))),(8,.p (.int .u64 (a.2.1:Int))),(19,lst 82 m),(20,.p (.int .i64 m.length)),(21,.p (.int .i64 (i:Int))),(26,lst 82 n),(27,.p (.int .i64 n.length)),(28,.p (.int .i64 (a.1:Int)))]) (fun a=>[(0,.vec 82 (cells a.2.2) T false)]) 1
   (fun a=>a.1≤n.length∧a.2.1<1000000000∧a.2.2.length=T∧Num.bP a.2.2∧Num.val a.2.2+a.2.1*Num.B9 ^ (i+a.1)=Num.val out+gi m i*Num.B9 ^ i*Num.val (n.take a.1)∧∀ j,i+n.length≤j→gi a.2.2 j=0) (fun a=>n.length-a.1) (0,0,out) (by omega)
   ⟨by simp,by simp,hol,hlim,by simp [Num.val],hzero⟩ ⟨ab _,?_,?_⟩ ?_
  ·exact Dy
  ·exact Ey
  rintro ⟨k,carry,o⟩ ⟨hk,hc,hol',hlim',hval',hzero'⟩;simp only at hk hc hol' hlim' hval' hzero';dsimp only;by_cases hlk:k<n.length
  ·have hb:=Num.wZ hn k
   have ho:=Num.wZ hlim' (i+k);have hab:gi m i*gi n k≤999999999*999999999:=cM (by omega) (by omega)
   repeat' (first|(apply Aa.JQ (y:=(gi o (i+k)+gi m i*gi n k+carry) % 1000000000);rfl;rfl;rfl;trivial;(first|rfl|(refine congrArg (fun t=>[PV.p (FV.int _ t)]) ?_;first|omega|(simp only [Int.natCast_add,Int.natCast_mul,Int.natCast_ediv,Int.natCast_emod]<;>omega)));rfl;rfl;decide;(first|omega|(simp only [List.length_set]<;>omega)))|(apply Aa.Ap;rfl;rfl;rfl;omega;rfl)|(apply Aa.Di;rfl;rfl;rfl;rfl;omega)|refine Cb ?_|(apply Aa.int;rfl;rfl;rfl)|(apply Ad.Ac;rfl)|(intro _;try (exfalso;omega)))
   refine Aj.normal ⟨(k+1,(gi o (i+k)+gi m i*gi n k+carry) / 1000000000,o.set (i+k) ((gi o (i+k)+gi m i*gi n k+carry) % 1000000000)),⟨by simp only;omega,?_,by simp [hol'],?_,?_,?_⟩,by simp only;omega,⟨ab _,?_,?_⟩⟩
   ·simp only
    apply cI;omega
   ·exact Num.zU hlim' (ao _ (by decide))
   ·simp only
    rw [Num.SC n k hlk];exact Num.a4x (by omega) hval'
   ·intro j hj
    simp only;rw [Num.Gt _ _ _ _ (by omega),if_neg (by omega)];exact hzero' j hj
   ·exact Dy
   ·exact Ey
  ·have hkn:k=n.length:=by omega
   subst hkn;have hz:=hzero' (i+n.length) (by omega)
   repeat' (first|(apply Aa.JQ (y:=gi o (i+n.length)+carry);rfl;rfl;rfl;trivial;(first|rfl|(refine congrArg (fun t=>[PV.p (FV.int _ t)]) ?_;first|omega|(simp only [Int.natCast_add,Int.natCast_mul,Int.natCast_ediv,Int.natCast_emod]<;>omega)));rfl;rfl;decide;(first|omega|(simp only [List.length_set]<;>omega)))|(apply Aa.Di;rfl;rfl;rfl;rfl;omega)|refine Cb ?_|(apply Aa.int;rfl;rfl;rfl)|(apply Ad.Ac;rfl)|(intro _;try (exfalso;omega)))
   refine Aj.normal ⟨(i+1,o.set (i+n.length) (gi o (i+n.length)+carry)),⟨by simp only;omega,by simp [hol'],?_,?_,?_⟩,by simp only;omega,⟨ab _,?_,?_⟩⟩
   ·refine Num.zU hlim' ?_
    rw [hz];simp only [Num.B9];omega
   ·simp only
    rw [Num.b1m (by omega) hz hval',hval,cC,Num.SC m i hlt,cL]
   ·intro j hj
    simp only at hj;simp only;rw [Num.Gt _ _ _ _ (by omega),if_neg (by omega)];exact hzero' j (by omega)
   ·exact Dy
   ·exact Ey
 ·have him:i=m.length:=by omega
  subst him;have htr:=iC out (by omega);rw [hol] at htr
  repeat' (first|(refine Ad.at 14 ?_;refine Ad.ghost (Ar.freeze 5 rfl rfl) ?_;first|apply Ad.Bf|apply Ad.Bl)|apply Ad.Bf|(apply Aa.fn;rfl;rfl;exact htr;intro _;rfl)|refine go1 ?_|(apply Aa.int;rfl;rfl;rfl)|(apply Ad.Ac;rfl)|(intro _;try (exfalso;omega)))
  ·refine Done.rt rfl rfl ⟨?_,rfl,rfl⟩
   rw [Num.qB hlim,hval,cC]
end
section
open Go Go.Am Go.Vm
attribute [local irreducible] Aa Ah Af Ad Az Ai Ba Bq Bd Aj Vm.Done Bg AB
theorem mO {l:List UInt8} {p:UInt8→Prop} (h:∀ c∈l,p c) (i:Nat) (hi:i<l.length):p (gi l i):=by
 simp only [gi,List.getElem?_eq_getElem hi,Option.getD_some];grind
theorem zY (n:Nat) (hn:Lib.nDigits n<900000):Ai env 129 [.str (bs (Lib.decDigits n))] (lst 82 (Num.toL n)):=by
 refine Ai.enter (Ae (by decide)) Tryz.func129 rfl (by kernel_rfl) (by simp [Tryz.ntmps129]) ?_;obtain ⟨d,hd⟩:∃ d,d=Lib.decDigits n:=⟨_,rfl⟩
 obtain ⟨K,hK⟩:∃ K,K=Lib.nDigits n:=⟨_,rfl⟩
 have hdl:d.length=K:=by rw [hd,hK,Lib.decDigits_length]
 have hdD:d=Num.D K n:=by rw [hd,hK,Num.EL]
 rw [← hd]
 repeat' (first|(apply Aa.MH;rfl;rfl)|refine Cb ?_|fail)
 refine Ad.ghost (Ar.adopt 3 82 rfl) ?_;refine Ad.D6 (fun k:Nat=>[(0,st d),(3,.vec 0 (Num.limbs n k).length 0 (Num.limbs n k).length),(4,.p (.int .i64 ((K:Int)-9*(k:Int))))]) (fun k=>[(0,.vec 82 (cells (Num.limbs n k)) (Num.limbs n k).length true)]) 1 (fun k=>9*k<K+9) (fun k=>K+9-9*k) 0 (by omega) (by omega) ⟨ab _,?_,?_⟩ ?_
 ·rw [← hdl];refine Gq.cons trivial rfl (.refl _) ?_;exact Dy
 ·exact BG.cons (by decide) trivial rfl (.refl _) BG.nil
 intro k hk;have hll:=Num.Nc n k;by_cases hlt:9*k<K
 ·obtain ⟨e,he⟩:∃ e,e=K-9*k:=⟨_,rfl⟩
  obtain ⟨c,hc⟩:∃ c,c=min 9 e:=⟨_,rfl⟩
  obtain ⟨p,hp⟩:∃ p,p=Num.D c (n / 10 ^ (9*k)):=⟨_,rfl⟩
  have hpl:p.length=c:=by rw [hp,Num.ER]
  have hpc:List.drop (max ((K:Int)-9*(k:Int)-9) 0).toNat (List.take ((K:Int)-9*(k:Int)).toNat d)=p:=by
   rw [show ((K:Int)-9*(k:Int)).toNat=e by omega,show (max ((K:Int)-9*(k:Int)-9) 0).toNat=e-c by omega,hdD,Num.pJ K n e c (by omega) (by omega),hp];rw [show K-e=9*k by omega]
  have b5a:Num.parse p=Num.jg n k:=by
   rw [hp,Num.UQ];unfold Num.jg;rw [show Num.B9 ^ k=10 ^ (9*k) by rw [dp]];by_cases h9:c=9
   ·rw [h9]
   ·have hlt2:n / 10 ^ (9*k)<10 ^ c:=by
     apply cI;rw [← cv,show 9*k+c=K by omega,hK];exact Lib.lt_pow_nDigits n
    have hle:10 ^ c≤Num.B9:=by
     have:10 ^ c≤10 ^ 9:=aE (by decide) (by omega);exact this
    rw [bt hlt2,bt (by omega)]
  have hdig:∀ i,i<p.length→48≤(gi p i).toNat∧(gi p i).toNat≤57:=fun i hi=>mO (p:=fun c=>48≤c.toNat∧c.toNat≤57) (by rw [hp];exact Num.kV _ _) i hi
  have hpv:∀ j,j≤p.length→Num.parse (p.take j)<1000000000:=fun j hj=>by
   have h1:=Num.rO (p.take j) (fun c hc=>by
    have hm:=fi hc;rw [hp] at hm;exact Num.kV _ _ c hm)
   rw [aw,ck hj] at h1;have h2:10 ^ j≤10 ^ 9:=aE (by decide) (by omega);exact ag h1 h2
  repeat' (first|(apply Aa.lenV;rfl;rfl;rfl)|refine go2 ?_|(rw [hpc])|(apply Aa.b1h;rfl;rfl;rfl;rfl;omega)|(apply Aa.toBytes;rfl;rfl;rfl;rfl;rfl;rfl;omega)|(apply Aa.b1x;rfl;rfl)|(apply Ad.Ac;rfl)|(intro _;try (exfalso;omega)))
  refine Ad.D6 (fun j:Nat=>[(0,st d),(3,.vec 0 (Num.limbs n k).length 0 (Num.limbs n k).length),(4,.p (.int .i64 ((K:Int)-9*(k:Int)))),(5,.p (.int .u64 ((Num.parse (p.take j):Nat):Int))),(20,.vec 1 p.length 0 p.length),(21,.p (.int .i64 p.length)),(22,.p (.int .i64 (j:Int)))])
   (fun _=>[(1,.vec 5 (cells p) p.length false),(0,.vec 82 (cells (Num.limbs n k)) (Num.limbs n k).length true)]) 2 (fun j=>j≤p.length) (fun j=>p.length-j) 0 (by omega) (by omega) ⟨ab _,?_,?_⟩ ?_
  ·exact Dy
  ·exact Ey
  intro j hj;have hv:=hpv j hj;by_cases hlj:j<p.length
  ·have hd2:=hdig j hlj
   repeat' (first|(apply Aa.Di;rfl;rfl;rfl;rfl;omega)|refine go2 ?_|(apply Aa.rE;rfl;rfl;rfl;rfl;omega)|(apply Ad.Ac;rfl)|(intro _;try (exfalso;omega)))
   refine Aj.normal ⟨j+1,by omega,by omega,⟨by omega,?_,?_⟩⟩
   ·rw [Num.parse_snoc' p j hlj];exact Dy
   ·exact Ey
  ·have hjp:j=p.length:=by omega
   subst hjp
   repeat' (first|(apply Aa.Dk (a:=(Num.parse (p.take p.length)));rfl;rfl;rfl;rfl;rfl;rfl;rfl;rfl;(intro _ h;cases h);rfl;rfl;rfl;decide;decide;(first|omega|(simp only [List.length_take,List.length_drop,List.length_append,List.length_singleton,List.length_cons,List.length_nil]<;>omega)))|refine Cb ?_|(apply Aa.int;rfl;rfl;rfl)|(apply Aa.buildSlice;rfl;rfl;rfl;decide;rfl;rfl;rfl)|(apply Ad.Ac;rfl)|(intro _;try (exfalso;omega)))
   have e1:Num.limbs n k++[Num.parse (p.take p.length)]=Num.limbs n (k+1):=by rw [cC,b5a,Num.limbs]
   have e2:(Num.limbs n (k+1)).length=(Num.limbs n k).length+1:=by rw [Num.Nc,Num.Nc]
   refine Aj.normal ⟨k+1,by omega,by omega,⟨by omega,?_,?_⟩⟩
   ·rw [e2,show (K:Int)-9*((k+1:Nat):Int)=(K:Int)-9*(k:Int)-9 by omega];exact Dy
   ·rw [e2,← e1];exact Ey
 ·have htr:=iC (Num.limbs n k) (by omega)
  repeat' (first|(refine Ad.at 12 ?_;refine Ad.ghost (Ar.freeze 3 rfl rfl) ?_;first|apply Ad.Bf|apply Ad.Bl)|(apply Aa.fn;rfl;rfl;exact htr;intro _;rfl)|refine go1 ?_|apply Ad.Bf|(apply Aa.int;rfl;rfl;rfl)|(apply Ad.Ac;rfl)|(intro _;try (exfalso;omega)))
  ·refine Done.rt rfl rfl ⟨?_,rfl,rfl⟩
   rw [Num.xB];rw [show Num.B9 ^ k=10 ^ (9*k) by rw [dp]];exact ag (Lib.lt_pow_nDigits n) (aE (by decide) (by omega))
end
end Go.Proofs.YtnjkoebfgcbbdaaGreatDoor
