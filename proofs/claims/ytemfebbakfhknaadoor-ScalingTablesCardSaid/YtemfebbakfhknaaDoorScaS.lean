/-
  The measures of a range, as an iterator yields them: scaling.measures at the world's level. Conditions: in each statement.
-/
import Derived.Test.YtemfebbakfhknaaDoorScaK
import Derived.Test.YtemfebbakfhknaaDoorOrw
set_option linter.unusedSimpArgs false
set_option linter.unusedVariables false
namespace Go.Proofs.YtemfebbakfhknaaDoor
open Go Go.Am Go.Vm Go.Sca Go.RowKit
def meaRow (s:Scl) (n:Int):List Value:=[.int .i64 (mea s n),.bool (decide (mea s n≤10000000))]
def meaRows (s:Scl) (a b:Int):List (List Value):=(List.range (b+1-a).toNat).map fun i:Nat=>meaRow s (a+i)
def meaSq:SqF:=fun lb m=>match lb with
 |[.pointer (some ⟨b1,0,none⟩),.pointer (some ⟨b2,0,none⟩)]=>match m.get b1,m.get b2 with
  | .cells [.int .i64 a,.int .i64 b] _ 0 false,.cells [.int .i64 ba,.int .i64 ha,.int .i64 ad] _ 0 false=>if sOk ⟨ba,ha,ad⟩∧wOk a∧wOk b then some (.agg #[.int .i64 a,.int .i64 b,.int .i64 ba,.int .i64 ha,.int .i64 ad],meaRows ⟨ba,ha,ad⟩ a b) else none
  |_,_=>none
 |_=>none
def meaKey (s:Scl) (a b:Int):Value:=.agg #[.int .i64 a,.int .i64 b,.int .i64 s.base,.int .i64 s.halv,.int .i64 s.add]
theorem meaKey_inj {s s':Scl} {a b a' b':Int} (h:meaKey s a b=meaKey s' a' b'):s=s'∧a=a'∧b=b':=by
 obtain ⟨x,y,z⟩:=s
 obtain ⟨x',y',z'⟩:=s'
 simp [meaKey] at h
 simp_all
theorem meaSq_some {lb:List Value} {m:Mem} {kr:Value×List (List Value)} (h:meaSq lb m=some kr):∃ b1 b2 a b s e1 e2,lb=[.pointer (some ⟨b1,0,none⟩),.pointer (some ⟨b2,0,none⟩)]∧m.get b1=.cells [.int .i64 a,.int .i64 b] e1 0 false ∧
 m.get b2=.cells [.int .i64 s.base,.int .i64 s.halv,.int .i64 s.add] e2 0 false∧sOk s∧wOk a∧wOk b∧kr=(meaKey s a b,meaRows s a b):=by
 unfold meaSq at h
 split at h
 ·rename_i b1 b2
  split at h
  ·rename_i a b e1 ba ha ad e2 h1 h2
   split at h
   ·rename_i hc
    cases h
    exact ⟨b1,b2,a,b,⟨ba,ha,ad⟩,e1,e2,rfl,h1,h2,hc.1,hc.2.1,hc.2.2,rfl⟩
   ·cases h
  ·cases h
 ·cases h
theorem value_calls {s:Scl} {n:Int} (hs:sOk s) (hn:wOk n) {ι:Inj} {m:Mem} {w:World} (hsim:Sim Tryd.prog (globList Tryd.prog 8 laidL) ι m w) (hg:∀ k∈globList Tryd.prog 8 laidL,m.get k=(globMem Tryd.prog 8 laidL).get k) :
 Calls Tryd.prog 28 #[.agg #[.int .i64 s.base,.int .i64 s.halv,.int .i64 s.add],.int .i64 n] w fun e w'=>e=.returned (.tuple #[.int .i64 (mea s n),.bool (decide (mea s n≤10000000))])∧Below w.heap.size w w':=by
 have:=vfun_calls (us:=[.agg #[.int .i64 s.base,.int .i64 s.halv,.int .i64 s.add],.int .i64 n]) (v:=.tuple #[.int .i64 (mea s n),.bool (decide (mea s n≤10000000))]) osound mixOk (svalue_spec s n hs hn)
  (fun m F'=>.cons (.agg (.cons (.int _ _) (.cons (.int _ _) (.cons (.int _ _) .nil))) rfl) (.cons (.int _ _) .nil))
  (fun m F' T σ nx u h=>by
   cases h with
   |tup h =>
    cases h with
    |cons h1 h2 =>
     cases h1 with
     |p h1 =>
      cases h1
      cases h2 with
      |cons h3 h4 =>
       cases h4
       cases h3 with
       |p h3=>cases h3;rfl) rfl rfl hsim hg
 exact this
theorem box_cells {ι:Inj} {m:Mem} {w:World} {b:Nat} {p':Value} {vs:List Value} {e:TypeId} (hs:Sim Tryd.prog (globList Tryd.prog 8 laidL) ι m w) (h:VRel ι m.gen (.pointer (some ⟨b,0,none⟩)) p') (hm:m.get b=.cells vs e 0 false) (hp:vs.all Am.plainCell=true) :
 ∃ c o,p'=.pointer (some ⟨c,o,none⟩)∧∀ i,i<vs.length→w.cell? ⟨c,o+i,none⟩=some (vs.getD i undef):=by
 cases h with
 |ptr a a' h =>
  obtain ⟨ib,h1,h2,h3⟩:=h
  obtain ⟨cs,fr,e',q1,q2,q3,q4,q5⟩:=cells_of hs h1 hm
  have e1:=h3 (by simp [Mem.gen,hm,ABlk.gen,agen])
  refine ⟨ib.blk,ib.sh,by rw [e1];simp,fun i hi=>?_⟩
  obtain ⟨v',r1,r2⟩:=q4 i hi
  have hpi:Am.plainCell (vs.getD i undef)=true:=by
   rw [List.getD_eq_getElem?_getD,List.getElem?_eq_getElem hi]
   exact List.all_eq_true.1 hp _ (List.getElem_mem hi)
  rw [r2.eq_of_plainCell hpi] at r1
  rw [Am.cell_of_row q1];exact r1
def ivS:Value→Int| .int _ q=>q|_=>0
theorem meaRows_len (s:Scl) (a b:Int):(meaRows s a b).length=(b+1-a).toNat:=by simp [meaRows]
theorem meaRows_at (s:Scl) (a b:Int) {i:Nat} (hi:i<(meaRows s a b).length):(meaRows s a b)[i]=meaRow s (a+i):=by simp [meaRows]
attribute [local go_sem] Oper.semAt_some
set_option maxRecDepth 100000 in
set_option maxHeartbeats 4000000 in
theorem measures_seq (lb:List Value) (m:Mem) (key:Value) (rows:List (List Value)) (hq:meaSq lb m=some (key,rows)) (hg:∀ k∈globList Tryd.prog 8 laidL,m.get k=(globMem Tryd.prog 8 laidL).get k) (ι:Inj) (w:World) (lb':Array Value) (hsim:Sim Tryd.prog (globList Tryd.prog 8 laidL) ι m w) (hl:LRel ι m.gen lb lb'.toList) :
 SeqOf Tryd.prog 46 lb' rows (SeqInv Tryd.prog (globList Tryd.prog 8 laidL) (fun m'=>meaSq lb m'=some (key,rows)∧∀ k∈globList Tryd.prog 8 laidL,m'.get k=(globMem Tryd.prog 8 laidL).get k) lb lb') w:=by
 obtain ⟨b1,b2,a,b,s,e1,e2,rfl,h1,h2,hs,ha,hb,he⟩:=meaSq_some hq
 cases he
 obtain ⟨lb'⟩:=lb'
 obtain ⟨p1,k1,rfl,r1,hl2⟩:=hl.uncons
 obtain ⟨p2,k2,rfl,r2,hl3⟩:=hl2.uncons
 have hk:k2=[]:=List.length_eq_zero_iff.1 hl3.1.symm
 subst hk
 obtain ⟨c1,o1,rfl,_⟩:=box_cells hsim r1 h1 rfl
 obtain ⟨c2,o2,rfl,_⟩:=box_cells hsim r2 h2 rfl
 have facts:∀ X,SeqInv Tryd.prog (globList Tryd.prog 8 laidL) (fun m'=>meaSq [.pointer (some ⟨b1,0,none⟩),.pointer (some ⟨b2,0,none⟩)] m'=some (meaKey s a b,meaRows s a b)∧∀ k∈globList Tryd.prog 8 laidL,m'.get k=(globMem Tryd.prog 8 laidL).get k) [.pointer (some ⟨b1,0,none⟩),.pointer (some ⟨b2,0,none⟩)] ⟨[.pointer (some ⟨c1,o1,none⟩),.pointer (some ⟨c2,o2,none⟩)]⟩ X →
  X.cell? ⟨c1,o1,none⟩=some (.int .i64 a)∧X.cell? ⟨c1,o1+1,none⟩=some (.int .i64 b)∧X.cell? ⟨c2,o2,none⟩=some (.int .i64 s.base)∧X.cell? ⟨c2,o2+1,none⟩=some (.int .i64 s.halv)∧X.cell? ⟨c2,o2+2,none⟩=some (.int .i64 s.add):=by
  rintro X ⟨ι',m',g1,g2,g3,g4⟩
  obtain ⟨b1',b2',a',b',s',e1',e2',q0,q1,q2,_,_,_,q3⟩:=meaSq_some g3
  cases q0
  obtain ⟨rfl,rfl,rfl⟩:=meaKey_inj (congrArg Prod.fst q3)
  obtain ⟨p1',k1',x1,x2,x3⟩:=g2.uncons
  cases x1
  obtain ⟨p2',k2',y1,y2,_⟩:=x3.uncons
  cases y1
  obtain ⟨c1',o1',z1,z2⟩:=box_cells g1 x2 q1 rfl
  cases z1
  obtain ⟨c2',o2',z3,z4⟩:=box_cells g1 y2 q2 rfl
  cases z3
  exact ⟨z2 0 (by simp),z2 1 (by simp),z4 0 (by simp),z4 1 (by simp),z4 2 (by simp)⟩
 have later:∀ X Y,SeqInv Tryd.prog (globList Tryd.prog 8 laidL) (fun m'=>meaSq [.pointer (some ⟨b1,0,none⟩),.pointer (some ⟨b2,0,none⟩)] m'=some (meaKey s a b,meaRows s a b)∧∀ k∈globList Tryd.prog 8 laidL,m'.get k=(globMem Tryd.prog 8 laidL).get k) [.pointer (some ⟨b1,0,none⟩),.pointer (some ⟨b2,0,none⟩)] ⟨[.pointer (some ⟨c1,o1,none⟩),.pointer (some ⟨c2,o2,none⟩)]⟩ X→Below X.heap.size X Y →
  SeqInv Tryd.prog (globList Tryd.prog 8 laidL) (fun m'=>meaSq [.pointer (some ⟨b1,0,none⟩),.pointer (some ⟨b2,0,none⟩)] m'=some (meaKey s a b,meaRows s a b)∧∀ k∈globList Tryd.prog 8 laidL,m'.get k=(globMem Tryd.prog 8 laidL).get k) [.pointer (some ⟨b1,0,none⟩),.pointer (some ⟨b2,0,none⟩)] ⟨[.pointer (some ⟨c1,o1,none⟩),.pointer (some ⟨c2,o2,none⟩)]⟩ Y:=by
  rintro X Y ⟨ι',m',g1,g2,g3⟩ hb
  exact ⟨ι',m',sim_below g1 hb,g2,g3⟩
 have calls:∀ X n,wOk n→SeqInv Tryd.prog (globList Tryd.prog 8 laidL) (fun m'=>meaSq [.pointer (some ⟨b1,0,none⟩),.pointer (some ⟨b2,0,none⟩)] m'=some (meaKey s a b,meaRows s a b)∧∀ k∈globList Tryd.prog 8 laidL,m'.get k=(globMem Tryd.prog 8 laidL).get k) [.pointer (some ⟨b1,0,none⟩),.pointer (some ⟨b2,0,none⟩)] ⟨[.pointer (some ⟨c1,o1,none⟩),.pointer (some ⟨c2,o2,none⟩)]⟩ X →
  Calls Tryd.prog 28 #[.agg #[.int .i64 s.base,.int .i64 s.halv,.int .i64 s.add],.int .i64 n] X fun e w'=>e=.returned (.tuple #[.int .i64 (mea s n),.bool (decide (mea s n≤10000000))])∧Below X.heap.size X w':=by
  rintro X n hn ⟨ι',m',g1,g2,g3,g4⟩
  exact value_calls hs hn g1 g4
 generalize SeqInv Tryd.prog (globList Tryd.prog 8 laidL) (fun m'=>meaSq [.pointer (some ⟨b1,0,none⟩),.pointer (some ⟨b2,0,none⟩)] m'=some (meaKey s a b,meaRows s a b)∧∀ k∈globList Tryd.prog 8 laidL,m'.get k=(globMem Tryd.prog 8 laidL).get k) [.pointer (some ⟨b1,0,none⟩),.pointer (some ⟨b2,0,none⟩)] ⟨[.pointer (some ⟨c1,o1,none⟩),.pointer (some ⟨c2,o2,none⟩)]⟩=SI at *
 intro l J Jx W hB hJ hx hY hI hj
 refine callsIn_of_wp Tryd.func46 rfl trivial ?_ rfl
 simp only [Tryd.ntmps46,List.size_toArray,List.length_cons,List.length_nil,Nat.reduceAdd,Nat.reduceSub,Array.replicate_succ,Array.replicate_zero,List.push_toArray,List.append_toArray,List.nil_append,List.cons_append]
 have hlen:=meaRows_len s a b
 obtain ⟨ha1,ha2⟩:=ha
 obtain ⟨hb1,hb2⟩:=hb
 obtain ⟨d0,d1,d2,d3,d4⟩:=facts W hI
 gi_wp2
 gi_loopw [4] (fun v wr=>∃ i:Nat,i≤(meaRows s a b).length∧v=.int .i64 (a+(i:Int))∧J i wr∧SI wr) (fun v _=>(b+1-ivS v).toNat)
 case atStart=>exact ⟨0,Nat.zero_le _,by simp,hj,hI⟩
 case round =>
  obtain ⟨i,hi,rfl,hJi,hIi⟩:=hrel
  obtain ⟨f0,f1,f2,f3,f4⟩:=facts _ hIi
  by_cases hlt:i<(meaRows s a b).length
  ·have hle:a+(i:Int)≤b:=by omega
   have hw1:IntKind.i64.wrap (a+(i:Int)+1)=a+((i+1:Nat):Int):=by rw [wrapB (by omega) (by omega)];omega
   gi_wp2
   refine ⟨trivial,rfl,(callsIn_wide.2 (calls _ _ ⟨by omega,by omega⟩ hIi)).mono ?_⟩
   rintro _ W2 ⟨rfl,hbel⟩
   have hJ2:=hJ i _ W2 hJi hbel
   have hI2:=later _ W2 hIi hbel
   obtain ⟨fn,tmps,asg,body,hy,hR⟩:=hY i W2 hlt hJ2
   rw [meaRows_at s a b hlt] at hy
   have hy:(Instr.yield l #[Value.int .i64 (mea s (a+(i:Int))),Value.bool (decide (mea s (a+(i:Int))≤10000000))]).run Tryd.prog W2=.ok (.round l fn tmps asg body) W2:=hy
   gi_wp2
   refine ⟨rfl,hR.mono ?_⟩
   rintro e W3 (⟨rfl,hJ3,hI3⟩|⟨rfl,hx3⟩)
   ·gi_wp2
    go_roundw
    case rel=>exact ⟨i+1,hlt,by first|rfl|simp|omega,hJ3,hI3⟩
    case measure=>simp [ivS];omega
   ·gi_wp2
    refine ⟨rfl,_,results_none rfl _ _ _,⟨_,rfl⟩,.inr ⟨_,hx3⟩⟩
  ·have hle:¬ a+(i:Int)≤b:=by omega
   obtain ⟨j,hj9⟩:∃ j,j=(b+1-a).toNat:=⟨_,rfl⟩
   have hii:i=j:=by omega
   subst hii
   gi_wp2
   go_end0
   exact ⟨⟨_,rfl⟩,.inl (by first|exact hJi|(rw [← hj9];exact hJi)|(rw [hlen,← hj9];exact hJi))⟩
end Go.Proofs.YtemfebbakfhknaaDoor
