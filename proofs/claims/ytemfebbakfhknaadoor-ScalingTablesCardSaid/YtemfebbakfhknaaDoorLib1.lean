/-
  The library's functions by their contracts, xs oracles of the abstract machine: Itoa, Compare, the text of limbs. Conditions: in each statement.
-/
import Derived.Test.YtemfebbakfhknaaDoorVmD
import Derived.Test.YtemfebbakfhknaaDoorWA
set_option linter.unusedSimpArgs false
set_option linter.unusedVariables false
namespace Go.Proofs.YtemfebbakfhknaaDoor
open Go Go.Am Go.Vm
def itoaF:LibF:=fun xs _=>match xs with
 |[.int .i64 n]=>if -9223372036854775808≤n∧n≤9223372036854775807 then some (.string (bs (Lib.itoa n))) else none
 |_=>none
def compareF:LibF:=fun xs _=>match xs with
 |[.string a,.string b]=>some (.int .i64 (Lib.compareBytes a.data.toList b.data.toList))
 |_=>none
def unlimb:List Value→Option (List Nat)
 |[]=>some []
 | .int .u64 n::l=>if 0≤n∧n<1000000000 then (unlimb l).map (n.toNat::·) else none
 |_::_=>none
def textF:LibF:=fun xs m=>match xs with
 |[.slice a n g]=>match sliceCells m 1 n (.slice a n g) with
  |some l=>match unlimb l with
   |some zs=>if n*9≤140737488351232 then some (.string (bs (Num.textL zs))) else none
   |none=>none
  |none=>none
 |_=>none
theorem unlimb_map:∀ {l:List Value} {zs:List Nat},unlimb l=some zs→l=zs.map (fun (n:Nat)=>Value.int .u64 (n:Int))∧Num.Lim zs
 |[],_,h=>by cases h;exact ⟨rfl,fun a ha=>by cases ha⟩
 |v::l,zs,h=>by
  unfold unlimb at h
  split at h
  ·rename_i he;cases he
  ·rename_i n l' he
   cases he
   split at h
   ·rename_i hn
    rw [Option.map_eq_some_iff] at h
    obtain ⟨zs',h1,rfl⟩:=h
    obtain ⟨h2,h3⟩:=unlimb_map h1
    refine ⟨?_,fun a ha=>?_⟩
    ·rw [h2,List.map_cons];congr 2;omega
    ·rcases List.mem_cons.1 ha with rfl|ha
     ·simp only [Num.B9];omega
     ·exact h3 a ha
   ·cases h
  ·cases h
theorem unlimb_some:∀ {zs:List Nat},Num.Lim zs→unlimb (zs.map fun (n:Nat)=>Value.int .u64 (n:Int))=some zs
 |[],_=>rfl
 |n::zs,h=>by
  have hn:n<1000000000:=h n (by simp)
  simp only [List.map_cons,unlimb]
  rw [if_pos ⟨by omega,by omega⟩,unlimb_some (fun a ha=>h a (by simp [ha]))]
  simp
theorem sim_tab {P:Program} {F:Nat} {laid:List (String×DataW Unit)} {ι:Inj} {m:Mem} {w:World} (hs:Sim P (globList P F laid) ι m w) (hg:∀ k∈globList P F laid,m.get k=(globMem P F laid).get k) {name:String} {g:Nat} {e:TypeId} {k:IntKind} {zs:List Int}
 (hn:P.globalNamed name=some g) (hat:globAt P F laid g=some (e,zs.map fun z=>Value.int k z)) (hlt:g<P.globals.size):Lib.TabIs P w name k zs:=by
 have hm:g∈globList P F laid:=by
  simp only [globList,List.mem_filter,List.mem_range]
  exact ⟨hlt,by rw [hat];rfl⟩
 obtain ⟨ib,h1,h2,⟨h3,h6⟩,h4,h5⟩:=hs.glob g hm
 have hmg:m.get g=.cells (zs.map fun z=>Value.int k z) e 0 true:=by rw [hg g hm,globMem_get hlt,hat]
 obtain ⟨cs,fr,e',hrow,hlim,_,hrel,_⟩:=cells_of hs h1 hmg
 have hl:=h6 _ _ _ _ hmg
 rw [List.length_map] at hl
 rw [h2] at hrow
 have hcs:cs=(zs.map fun z=>Value.int k z).toArray:=by
  apply Array.ext
  ·rw [← hlim,hl];simp
  ·intro i hi1 hi2
   have hi:i<(zs.map fun z=>Value.int k z).length:=by simpa using hi2
   obtain ⟨v',q1,q2⟩:=hrel i hi
   rw [h3,Nat.zero_add,Array.getElem?_eq_getElem hi1] at q1
   cases q1
   rw [getD_lt hi] at q2
   have hp:plain ((zs.map fun z=>Value.int k z)[i])=true:=by rw [List.getElem_map];rfl
   rw [q2.eq_of_plain hp]
   simp
 unfold Lib.TabIs World.var?
 simp only [hn,Option.bind_some,hrow,hcs]
theorem LRel.one {ι:Inj} {g:Nat→Nat} {v:Value} {ys:Array Value} (h:LRel ι g [v] ys.toList):∃ v',ys=#[v']∧VRel ι g v v':=by
 obtain ⟨v',k',e,h1,h2⟩:=h.uncons
 have:k'=[]:=List.eq_nil_of_length_eq_zero h2.1.symm
 subst this
 exact ⟨v',by cases ys;simp_all,h1⟩
theorem LRel.two {ι:Inj} {g:Nat→Nat} {u v:Value} {ys:Array Value} (h:LRel ι g [u,v] ys.toList):∃ u' v',ys=#[u',v']∧VRel ι g u u'∧VRel ι g v v':=by
 obtain ⟨u',k',e,h1,h2⟩:=h.uncons
 obtain ⟨v',k'',e',h3,h4⟩:=h2.uncons
 have:k''=[]:=List.eq_nil_of_length_eq_zero h4.1.symm
 subst this;subst e'
 exact ⟨u',v',by cases ys;simp_all,h1,h3⟩
theorem grow_below {w:World} {k:Nat} {os:Array Obj}:Go.RowKit.Below w.heap.size w (Go.Sort.grow (w.drewN k) os):=Lib.below_grow _ w (Nat.le_refl _) k os
set_option maxHeartbeats 1000000 in
set_option maxRecDepth 100000 in
theorem text_zero (a:Option Addr) (cap:Nat) (w:World):Calls Tryd.prog 54 #[.slice a 0 cap] w fun e w'=>e=.returned (.string ⟨#[48]⟩)∧Go.RowKit.Below w.heap.size w w':=by
 go_enter Tryd.func54,Tryd.ntmps54
 go_wp2
 go_ret
 exact ⟨rfl,(Go.RowKit.Below.refl _ w).alloc (Nat.le_refl _) _⟩
section
variable {F:Nat} {laid:List (String×DataW Unit)}
structure HasTab (F:Nat) (laid:List (String×DataW Unit)):Prop where
 tab:∃ g e,Tryd.prog.globalNamed "internal/strconv.uint64pow10"=some g∧globAt Tryd.prog F laid g=some (e,Lib.pow10Tab.map fun z=>Value.int .u64 z)∧g<Tryd.prog.globals.size
theorem itoa_sound (ht:HasTab F laid) (he:Am.Enters Tryd.prog 55):LibSound Tryd.prog (globList Tryd.prog F laid) (globMem Tryd.prog F laid) 55 itoaF:=by
 refine ⟨fun _ _ _=>rfl,he,fun ι m w xs ys v hs hg hl h=>?_⟩
 obtain ⟨g,e,t1,t2,t3⟩:=ht.tab
 have htab:=sim_tab hs hg t1 t2 t3
 unfold itoaF at h
 split at h
 ·rename_i n
  split at h
  ·rename_i hn
   cases h
   obtain ⟨v',rfl,hv⟩:=LRel.one hl
   have:v'=.int .i64 n:=by cases hv;rfl
   subst this
   refine ⟨rfl,(Tryd.strconv_Itoa n hn.1 hn.2 w htab).mono ?_⟩
   rintro e w' ⟨rfl,k,os,rfl⟩
   exact ⟨rfl,grow_below⟩
  ·cases h
 ·cases h
theorem compare_sound (he:Am.Enters Tryd.prog 43):LibSound Tryd.prog (globList Tryd.prog F laid) (globMem Tryd.prog F laid) 43 compareF:=by
 refine ⟨fun _ _ _=>rfl,he,fun ι m w xs ys v hs hg hl h=>?_⟩
 unfold compareF at h
 split at h
 ·rename_i a b
  cases h
  obtain ⟨u',v',rfl,h1,h2⟩:=LRel.two hl
  have e1:u'=.string a:=by cases h1;rfl
  have e2:v'=.string b:=by cases h2;rfl
  subst e1;subst e2
  refine ⟨rfl,(Tryd.strings_Compare a b w).mono ?_⟩
  rintro e w' ⟨rfl,rfl⟩
  exact ⟨rfl,Go.RowKit.Below.refl _ _⟩
 ·cases h
theorem text_sound (ht:HasTab F laid) (he:Am.Enters Tryd.prog 54):LibSound Tryd.prog (globList Tryd.prog F laid) (globMem Tryd.prog F laid) 54 textF:=by
 refine ⟨fun _ _ _=>rfl,he,fun ι m w xs ys v hs hg hl h=>?_⟩
 obtain ⟨g,e,t1,t2,t3⟩:=ht.tab
 have htab:=sim_tab hs hg t1 t2 t3
 unfold textF at h
 split at h
 ·rename_i a n gen
  split at h
  ·rename_i l hl1
   split at h
   ·rename_i zs hzs
    split at h
    ·rename_i hb
     cases h
     obtain ⟨v',rfl,hv⟩:=LRel.one hl
     obtain ⟨hmap,hlim⟩:=unlimb_map hzs
     obtain ⟨a',cap,rfl,hlen,hsp,hcell⟩:=sliceCells_world hs hv rfl (fun b e=>by cases e) hl1
     have hzl:zs.length=n:=by rw [← hlen,hmap,List.length_map]
     refine ⟨rfl,?_⟩
     rcases Nat.eq_zero_or_pos n with h0|h0
     ·subst h0
      have:zs=[]:=List.eq_nil_of_length_eq_zero hzl
      subst this
      have e0:bs (Num.textL [])=⟨#[48]⟩:=by
       show bs (Lib.decDigits 0)=_
       rw [Lib.decDigits_one (by decide)]
       rfl
      exact (text_zero a' cap w).mono fun e w' ⟨h1,h2⟩=>⟨by rw [e0];exact h1,h2⟩
     ·rcases hsp with ⟨_,h1⟩|⟨A,h1|h1⟩
      ·omega
      ·obtain ⟨rfl,hspot⟩:=h1
       obtain ⟨b,off,spot⟩:=A
       simp only at hspot
       subst hspot
       have hc:∀ j,j<zs.length→w.cell? ⟨b,off+j,none⟩=some (.int .u64 (zs.getD j 0:Int)):=fun j hj=>by
        have:=hcell _ rfl j (.int .u64 (zs.getD j 0:Int)) (by rw [hmap,List.getElem?_map,List.getElem?_eq_getElem hj];simp [List.getD,hj]) rfl
        rwa [addr_add] at this
       have hbl:b<w.heap.size:=by
        have:=hc 0 (by omega)
        unfold World.cell? at this
        rcases Nat.lt_or_ge b w.heap.size with h|h
        ·exact h
        ·simp [Array.getElem?_eq_none h] at this
       have ht:=text_in b off cap zs hlim (fun e=>by rw [e] at hzl;simp at hzl;omega) (by rw [hzl];exact hb) w hbl hc htab
       rw [hzl] at ht
       exact ht
      ·omega
    ·cases h
   ·cases h
  ·cases h
 ·cases h
end
theorem limbs_cells {m:Mem} {F:Nat→Prop}:∀ {l:List Nat} {vs:List Value},RFs m F (cells l) vs→vs=l.map fun (n:Nat)=>Value.int .u64 (n:Int)
 |[],_,.nil=>rfl
 |c::l,_,.cons h t=>by
  cases h
  rw [limbs_cells t];rfl
theorem textF_run {m:Mem} {F:Nat→Prop} {e:TypeId} {l:List Nat} {xs:List Value} (hl:Num.Lim l) (hn:l.length<1000000000) (h:RFs m F [.lst e (cells l) l.length] xs):∃ v,textF xs m=some v∧RF m F (.str (bs (Num.textL l))) v:=by
 cases h with
 |cons h t =>
  cases t
  obtain ⟨vs,h1,h2,h3⟩:=RF.cellsOf (sz:=1) h (by rw [cells_length];rfl)
  refine ⟨.string (bs (Num.textL l)),?_,.str _⟩
  have hvs:=limbs_cells h2
  subst hvs
  have hsl:∀ {v:Value},RF m F (.lst e (cells l) l.length) v→∃ a g,v=Value.slice a l.length g:=by
   intro v hv
   generalize l.length=n at hv
   generalize cells l=cs at hv
   cases hv with
   |nil=>exact ⟨_,_,rfl⟩
   |room=>exact ⟨_,_,rfl⟩
   |lst=>exact ⟨_,_,rfl⟩
  obtain ⟨a,g,rfl⟩:=hsl h
  unfold textF
  simp only [h1,unlimb_some hl]
  rw [if_pos (by omega)]
end Go.Proofs.YtemfebbakfhknaaDoor
