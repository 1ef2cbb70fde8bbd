/-
  The values' layer: an oracle for functions of the library that rewrite the cells of an own slice of ints (sort, delete, compact: by the kit's contracts), laid over another oracle. No condition. Nothing of one program stands here.
-/
import Derived.Test.YtmfnchgkffhpfaaDoorOraA
import Derived.Sort.Grow
set_option linter.unusedSimpArgs false
set_option linter.unusedVariables false
namespace Go.Vm
open Go.Am
open Go.Sort (putRow putCells mapBlock onCells Holds grow size_putRow size_grow)
section
variable {P:Program} {G:List Nat}
def iV (z:Int):Value:=.int .i64 z
def unints:List Value→Option (List Int)
 |[]=>some []
 | .int .i64 n::l=>(unints l).map (n::·)
 |_::_=>none
theorem unints_iV:∀ zs:List Int,unints (zs.map iV)=some zs
 |[]=>rfl
 |z::zs=>by simp only [List.map_cons,iV,unints];rw [unints_iV zs];rfl
theorem unints_eq:∀ {l:List Value} {zs:List Int},unints l=some zs→l=zs.map iV
 |[],zs,h=>by cases h;rfl
 |v::l,zs,h=>by
  unfold unints at h
  split at h
  ·rename_i he;cases he
  ·rename_i n l' he
   cases he
   rw [Option.map_eq_some_iff] at h
   obtain ⟨zs',h1,rfl⟩:=h
   rw [unints_eq h1];rfl
  ·cases h
abbrev InF:=List Int→List Value→Option (List Int×Option Nat)
def inRun (e:TypeId) (Fn:InF) (as:List Value) (m:Mem):Option (Value×Mem):=match as with
 | .slice none 0 0::rest=>match Fn [] rest with
  |some ([],none)=>some (.tuple #[],m)
  |_=>none
 | .slice (some ⟨b,0,none⟩) n g::rest=>match m.get b with
  | .cells vs e' g' false =>
   if g=g'∧e=e'∧vs.length=n∧0<n∧rest.all Am.plainCell=true then
    match unints vs with
    |some zs=>match Fn zs rest with
     |some (zs',none)=>if zs'.length=n then some (.tuple #[],m.put b (.cells (zs'.map iV) e g' false)) else none
     |some (zs',some k)=>if zs'.length=n∧k≤n then some (.slice (some ⟨b,0,none⟩) k (g'+1),m.put b (.cells ((zs'.take k).map iV) e (g'+1) false)) else none
     |none=>none
    |none=>none
   else none
  |_=>none
 |_=>none
inductive InRun (e:TypeId) (Fn:InF) (m:Mem):List Value→Value→Mem→Prop
 |nil {rest:List Value} (h:Fn [] rest=some ([],none)):InRun e Fn m (.slice none 0 0::rest) (.tuple #[]) m
 |put {b n g:Nat} {rest:List Value} {zs zs':List Int} (hm:m.get b=.cells (zs.map iV) e g false) (hn:zs.length=n) (h0:0<n) (hr:rest.all Am.plainCell=true) (h:Fn zs rest=some (zs',none)) (hl:zs'.length=n) :
  InRun e Fn m (.slice (some ⟨b,0,none⟩) n g::rest) (.tuple #[]) (m.put b (.cells (zs'.map iV) e g false))
 |cut {b n g k:Nat} {rest:List Value} {zs zs':List Int} (hm:m.get b=.cells (zs.map iV) e g false) (hn:zs.length=n) (h0:0<n) (hr:rest.all Am.plainCell=true) (h:Fn zs rest=some (zs',some k)) (hl:zs'.length=n) (hk:k≤n) :
  InRun e Fn m (.slice (some ⟨b,0,none⟩) n g::rest) (.slice (some ⟨b,0,none⟩) k (g+1)) (m.put b (.cells ((zs'.take k).map iV) e (g+1) false))
theorem inRun_some {e:TypeId} {Fn:InF} {as:List Value} {m m':Mem} {v:Value} (h:inRun e Fn as m=some (v,m')):InRun e Fn m as v m':=by
 unfold inRun at h
 split at h
 ·split at h
  ·rename_i h1;cases h;exact .nil h1
  ·cases h
 ·rename_i b n g rest
  split at h
  ·rename_i vs e' g' hm
   split at h
   ·rename_i hc
    obtain ⟨rfl,rfl,h1,h2,h3⟩:=hc
    split at h
    ·rename_i zs hz
     have hv:=unints_eq hz
     subst hv
     rw [List.length_map] at h1
     split at h
     ·rename_i zs' hf
      split at h
      ·rename_i hl;cases h;exact .put hm h1 h2 h3 hf hl
      ·cases h
     ·rename_i zs' k hf
      split at h
      ·rename_i hl;cases h;exact .cut hm h1 h2 h3 hf hl.1 hl.2
      ·cases h
     ·cases h
    ·cases h
   ·cases h
  ·cases h
 ·cases h
open Classical in
noncomputable def inO (G:List Nat) (M0:Mem) (ff:FuncId) (e:TypeId) (Fn:InF) (O:Oracle):Oracle:=fun f=>if f=ff then some (fun as m=>if ∀ k∈G,m.get k=M0.get k then inRun e Fn as m else none) else O f
theorem inO_ne {M0:Mem} {ff f:FuncId} {e:TypeId} {Fn:InF} {O:Oracle} (h:f≠ff):inO G M0 ff e Fn O f=O f:=if_neg h
theorem getElem!_toArray (zs:List Int) (j:Nat):zs.toArray[j]! =(zs[j]?).getD 0:=by
 rw [getElem!_def]
 by_cases h:j<zs.length
 ·simp [h]
 ·simp [h]
theorem inplace_world {ι:Inj} {m:Mem} {w:World} {b g g2 q:Nat} {ib:IB} {e:TypeId} {zs zs' ys:List Int} {os:Array Obj} (hs:Sim P G ι m w) (hb:ι b=some ib) (hm:m.get b=.cells (zs.map iV) e g false) (hl:zs'.length=zs.length) (hy:∃ k,ys=zs'.take k) (hg:g≤g2) :
 ∃ ι',Ext ι m w ι' (m.put b (.cells (ys.map iV) e g2 false)) (grow (putRow iV (Sort.ahead w q) ib.blk ib.sh zs'.toArray) os)∧Sim P G ι' (m.put b (.cells (ys.map iV) e g2 false)) (grow (putRow iV (Sort.ahead w q) ib.blk ib.sh zs'.toArray) os)∧ι' b=some ib:=by
 obtain ⟨cs,fr,e',hrow,hlim,hesz,hrel,hfr0⟩:=cells_of hs hb hm
 obtain ⟨rfl,hfr⟩:=hfr0 rfl
 have hlt:ib.blk<w.heap.size:=(hs.dom b ib hb).2
 have hobj:(grow (putRow iV (Sort.ahead w q) ib.blk ib.sh zs'.toArray) os).heap[ib.blk]?=some (.cells (putCells iV ib.sh zs'.toArray cs) e' fr):=by
  show ((putRow iV (Sort.ahead w q) ib.blk ib.sh zs'.toArray).heap++os)[ib.blk]?=_
  rw [Array.getElem?_append_left (by rw [size_putRow];exact hlt)]
  simp only [putRow,mapBlock,Sort.heap_ahead,Array.getElem?_modify,hrow]
  simp [onCells]
 refine upd_core (x:=.cells (ys.map iV) e' g2 false) (ib':=ib) hs hb (Mem.ro_eq hm) rfl ⟨by rw [Mem.gen_eq hm];exact hg,fun _=>rfl⟩ (.inl rfl) hobj (fun c hc hne=>?_) ?_ rfl rfl rfl (fun ι' g' _=>?_)
 ·show ((putRow iV (Sort.ahead w q) ib.blk ib.sh zs'.toArray).heap++os)[c]?=_
  rw [Array.getElem?_append_left (by rw [size_putRow];exact hc)]
  simp only [putRow,mapBlock,Sort.heap_ahead,Array.getElem?_modify]
  rw [if_neg (fun e=>hne e.symm)]
 ·rw [size_grow,size_putRow];exact Nat.le_add_right _ _
 ·obtain ⟨k,rfl⟩:=hy
  refine ⟨fun _=>rfl,by rw [hlim];simp [putCells],hesz,fun i hi=>?_,fun _ j hj=>hfr j (by simpa [putCells] using hj)⟩
  rw [List.length_map,List.length_take] at hi
  have hi':i<zs'.length:=by omega
  obtain ⟨v',h2,_⟩:=hrel i (by rw [List.length_map];omega)
  refine ⟨iV zs'[i],?_,?_⟩
  ·simp only [putCells,Array.getElem?_mapIdx,h2,Option.map_some]
   rw [if_pos ⟨by omega,by simp;omega⟩,show ib.sh+i-ib.sh=i by omega,getElem!_toArray,List.getElem?_eq_getElem hi']
   rfl
  ·have e1:((zs'.take k).map iV).getD i undef=iV zs'[i]:=by
    rw [List.getD_eq_getElem?_getD,List.getElem?_map,List.getElem?_take,if_pos (by omega),List.getElem?_eq_getElem hi'];rfl
   rw [e1];exact .int _ _
theorem holds_of {ι:Inj} {m:Mem} {w:World} {b g:Nat} {ib:IB} {e:TypeId} {zs:List Int} (hs:Sim P G ι m w) (hb:ι b=some ib) (hm:m.get b=.cells (zs.map iV) e g false):Holds iV w ib.blk ib.sh zs.toArray:=by
 obtain ⟨cs,fr,e',hrow,hlim,hesz,hrel,hfr0⟩:=cells_of hs hb hm
 obtain ⟨rfl,hfr⟩:=hfr0 rfl
 intro j hj
 have hj':j<zs.length:=by simpa using hj
 obtain ⟨v',h2,h3⟩:=hrel j (by rw [List.length_map];exact hj')
 have e1:(zs.map iV).getD j undef=iV zs[j]:=by
  rw [List.getD_eq_getElem?_getD,List.getElem?_map,List.getElem?_eq_getElem hj'];rfl
 rw [e1] at h3
 have e2:=h3.eq_of_plainCell (v:=iV zs[j]) rfl
 subst e2
 refine ⟨?_,?_⟩
 ·rw [Am.cell_of_row hrow,getElem!_toArray,List.getElem?_eq_getElem hj'];exact h2
 ·rw [Am.frozen_of_row hrow]
  have:=hfr (ib.sh+j) (Array.getElem?_eq_some_iff.1 h2).1
  by_cases h4:fr.1≤ib.sh+j
  ·have h5:¬ (ib.sh+j<fr.2):=fun h5=>this ⟨h4,h5⟩
   simp [h5]
  ·simp [h4]
theorem arr_cons (x:Value) (l:List Value):(⟨x::l⟩:Array Value)=#[x]++l.toArray:=by simp
theorem inO_sound {M0:Mem} {ff:FuncId} {e:TypeId} {Fn:InF} {O:Oracle} (hO:OSound P G O) (he:Am.Enters P ff) (h1:P.cellsOf e=1)
 (hc:∀ (blk off cap:Nat) (zs zs':List Int) (r:Option Nat) (rest:List Value) (w:World),Fn zs rest=some (zs',r)→zs'.length=zs.length→(∀ k,r=some k→k≤zs.length)→Holds iV w blk off zs.toArray→blk<w.heap.size→zs.length≤cap→0<zs.length →
  Calls P ff (#[.slice (some ⟨blk,off,none⟩) zs.length cap]++rest.toArray) w fun x w'=>x=.returned (match r with|none=>.tuple #[]|some k=>.slice (some ⟨blk,off,none⟩) k cap)∧∃ q os,w'=grow (putRow iV (Sort.ahead w q) blk off zs'.toArray) os)
 (hn:∀ (rest:List Value) (rest':Array Value) (w:World),Fn [] rest=some ([],none)→rest'.size=rest.length→Calls P ff (#[.slice none 0 0]++rest') w fun x w'=>x=.returned (.tuple #[])∧w'=w):OSound P G (inO G M0 ff e Fn O):=by
 intro f Fo hf
 by_cases h:f=ff
 ·subst h
  unfold inO at hf
  rw [if_pos rfl] at hf
  cases hf
  refine ⟨fun as m v m' hv ι w as' hs hrel=>?_,fun as m v m' hv=>?_,he,SeqFn.none fun n lb m=>by simp only [seqAs_cons,seqMark,inRun];split<;>rfl⟩
  ·simp only at hv
   split at hv
   case isFalse=>cases hv
   have hr:=inRun_some hv
   obtain ⟨as'⟩:=as'
   cases hr with
   |nil h =>
    obtain ⟨v',k',rfl,h2,h3⟩:=hrel.uncons
    cases h2
    rw [arr_cons]
    refine (hn _ k'.toArray w h (by simpa using h3.1.symm)).mono ?_
    rintro x w' ⟨rfl,rfl⟩
    exact ⟨_,rfl,Post.same hs (.tuple [] [] rfl fun i hi=>absurd hi (by simp))⟩
   |put hm hn2 h0 hp h hl =>
    rename_i b n g rest zs zs'
    subst hn2
    obtain ⟨v',k',rfl,h2,h3⟩:=hrel.uncons
    have e3:k'=rest:=by
     refine (ext_getD h3.1 fun i hi=>?_).symm
     exact ((h3.2 i hi).eq_of_plainCell (List.all_eq_true.1 hp _ (getD_mem hi))).symm
    subst e3
    cases h2 with
    |sl _ _ _ _ a' cap hsr =>
     obtain ⟨ib,hb,_,hcap,hcur⟩:=hsr
     obtain ⟨c1,c2,c3⟩:=hcur (Mem.gen_eq hm).symm
     replace c3:a'.off=0+ib.sh∧a'.off+cap*ib.esz≤ib.lim:=c3.resolve_left (by omega)
     obtain ⟨blk,off,sp⟩:=a'
     simp only at c1 c2 c3
     subst c1;subst c2
     have c4:off=ib.sh:=by omega
     subst c4
     rw [arr_cons]
     refine (hc ib.blk ib.sh cap zs zs' none k' w h hl (fun k hk=>by cases hk) (holds_of hs hb hm) (hs.dom b ib hb).2 hcap h0).mono ?_
     rintro x w' ⟨rfl,q,os,rfl⟩
     obtain ⟨ι',q1,q2,q3⟩:=inplace_world (q:=q) (os:=os) hs hb hm hl ⟨zs'.length,(List.take_length).symm⟩ (Nat.le_refl g)
     exact ⟨_,rfl,ι',q1,q2,.tuple [] [] rfl fun i hi=>absurd hi (by simp)⟩
   |cut hm hn2 h0 hp h hl hk =>
    rename_i b n g k rest zs zs'
    subst hn2
    obtain ⟨v',k',rfl,h2,h3⟩:=hrel.uncons
    have e3:k'=rest:=by
     refine (ext_getD h3.1 fun i hi=>?_).symm
     exact ((h3.2 i hi).eq_of_plainCell (List.all_eq_true.1 hp _ (getD_mem hi))).symm
    subst e3
    cases h2 with
    |sl _ _ _ _ a' cap hsr =>
     obtain ⟨ib,hb,_,hcap,hcur⟩:=hsr
     obtain ⟨c1,c2,c3⟩:=hcur (Mem.gen_eq hm).symm
     replace c3:a'.off=0+ib.sh∧a'.off+cap*ib.esz≤ib.lim:=c3.resolve_left (by omega)
     obtain ⟨blk,off,sp⟩:=a'
     simp only at c1 c2 c3
     subst c1;subst c2
     obtain ⟨c3,c4⟩:=c3
     have c5:off=ib.sh:=by omega
     subst c5
     rw [arr_cons]
     refine (hc ib.blk ib.sh cap zs zs' (some k) k' w h hl (fun j hj=>by cases hj;exact hk) (holds_of hs hb hm) (hs.dom b ib hb).2 hcap h0).mono ?_
     rintro x w' ⟨rfl,q,os,rfl⟩
     obtain ⟨ι',q1,q2,q3⟩:=inplace_world (q:=q) (os:=os) hs hb hm hl ⟨k,rfl⟩ (Nat.le_succ g)
     exact ⟨_,rfl,ι',q1,q2,.sl _ _ _ _ _ _ ⟨ib,q3,by rw [Mem.gen,Mem.get_put,if_pos rfl];exact Nat.le_refl _,by omega,fun _=>⟨rfl,rfl,.inr ⟨(Nat.zero_add _).symm,c4⟩⟩⟩⟩
  ·simp only at hv
   split at hv
   case isFalse=>cases hv
   have hr:=inRun_some hv
   cases hr with
   |nil=>exact MemStep.refl _
   |put hm=>exact MemStep.put (Mem.ro_eq hm) rfl
   |cut hm=>exact MemStep.put (Mem.ro_eq hm) rfl
 ·rw [inO_ne h] at hf
  exact hO f Fo hf
end
end Go.Vm
