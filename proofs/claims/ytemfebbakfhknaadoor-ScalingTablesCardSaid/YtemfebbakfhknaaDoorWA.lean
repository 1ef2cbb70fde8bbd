/-
  What functions of the library compute at this program, over any world: FormatUint in tens, the builder's WriteString. Conditions: in each statement.
-/
import Derived.Test.YtemfebbakfhknaaDoorShelf
import Derived.Lib.AppendIntMem
import Derived.Lib.OthersKept
import Derived.Lib.Walk
import Derived.WalkKit
import Derived.BigCall
import Derived.BigGuard
import Derived.Test.YtemfebbakfhknaaDoorNumA
import Derived.RangeFuncBox
import Derived.RangeFuncLeaves
import Derived.RangeFuncBound
import Derived.RangeFuncCalls
import Derived.Shelf.Abstract
import Derived.OwnWalkIn
import Derived.TacticsInMore
import Derived.LoopNIn
import Derived.LoopIn
set_option linter.unusedSimpArgs false
set_option linter.unusedVariables false
namespace Go.Proofs.YtemfebbakfhknaaDoor
open Go Go.Proofs Go.Shelf Go.RowKit Go.Sort Go.Lib
set_option maxHeartbeats 4000000 in
set_option maxRecDepth 100000 in
theorem formatUint_in (u:Nat) (hu64:u<18446744073709551616) (w:World) (htab:Lib.TabIs Tryd.prog w "internal/strconv.uint64pow10" .u64 Lib.pow10Tab) :
 Calls Tryd.prog 67 #[.int .u64 u,.int .i64 10] w fun e w'=>e=.returned (.string ⟨(Lib.decDigits u).toArray⟩)∧Below w.heap.size w w':=by
 by_cases hs:u<100
 ·have hw:IntKind.i64.wrap (u:Int)=(u:Int):=by rw [IntKind.wrap_i64];omega
  go_enter Tryd.func67,Tryd.ntmps67
  go_wp2_with (go_at_call 73;refine (Tryd.internal_strconv_small u hs _).mono ?_;rintro e w' ⟨rfl,rfl⟩)
  go_ret
  exact ⟨rfl,Below.refl _ _⟩
 ·have hu1:1≤u:=by omega
  have hnd20:Lib.nDigits u≤20:=by have:=Lib.numDigits_eq u hu1 hu64;split at this<;>omega
  have hal:Tryd.prog.arrayLen 119=24:=by kernel_rfl
  have hsl:∀ W,(Instr.sliceAt 119 (.pointer (some ⟨w.heap.size,0,none⟩)) none (some (.int .i64 (Lib.nDigits u:Int))) none).run Tryd.prog W=.ok (.slice (some ⟨w.heap.size,0,none⟩) (Lib.nDigits u) 24) W:=fun W=>by
   rw [run_sliceAt_array_h W 119 ⟨w.heap.size,0,none⟩ (by simp [Program.arrayLen,Program.elem,Tryd.underlying119]) .i64 (Lib.nDigits u:Int) (by omega) (by rw [hal];omega)]
   go_simp
  have hH0:=Lib.holds_zero0 w 119 (Lib.nDigits u) (by omega)
  have hfmt:=Tryd.internal_strconv_formatBase10 w.heap.size 0 24 u (Array.replicate (Lib.nDigits u) 0) (w.alloc (.cells Lib.zeros24 119)) hH0 (by rw [Array.size_replicate];exact Lib.lt_pow_nDigits u) hu64 (by rw [Array.size_replicate];omega)
  rw [Array.size_replicate] at hfmt
  have HH0:=Lib.hid hH0
  clear hH0 hal
  go_enter Tryd.func67,Tryd.ntmps67
  go_wp2_with (go_at_call 74;refine (Tryd.internal_strconv_numDigits u hu1 hu64 _ (Lib.tabIs_alloc htab _)).mono ?_;rintro e w' ⟨rfl,rfl⟩)
  go_at_call 75
  refine hfmt.mono ?_
  rintro e w' ⟨rfl,k,v',dk,rfl,hF⟩
  have hcv:(convert 97 9 (.slice (some ⟨w.heap.size,0,none⟩) (Lib.nDigits u) 24)).run Tryd.prog ((putRow (fun (b:UInt8)=>Value.int .u8 (b.toNat:Int)) (w.alloc (.cells Lib.zeros24 119)) w.heap.size 0 dk).drewN k)=.ok (.string ⟨(Lib.decDigits u).toArray⟩) ((putRow (fun (b:UInt8)=>Value.int .u8 (b.toNat:Int)) (w.alloc (.cells Lib.zeros24 119)) w.heap.size 0 dk).drewN k):=by
   have h:=run_convert_bytes_back (P:=Tryd.prog) ((putRow (fun (b:UInt8)=>Value.int .u8 (b.toNat:Int)) (w.alloc (.cells Lib.zeros24 119)) w.heap.size 0 dk).drewN k) 97 9 5 ⟨w.heap.size,0,none⟩ 24 (Lib.decDigits u) Tryd.underlying97 Tryd.underlying5 Tryd.underlying9 (fun j hj=>by
    rw [Lib.row_is_numeral hF j hj,Lib.add_plain,World.cell?_drewN]
    exact cell?_putRow (fun (b:UInt8)=>Value.int .u8 (b.toNat:Int)) _ w.heap.size 0 _ dk HH0.out (by rw [hF.size,Array.size_replicate]) j (by rw [hF.size];rw [Lib.decDigits_length] at hj;exact hj))
   rw [Lib.decDigits_length] at h
   exact h
  go_wp2
  go_ret
  obtain ⟨os,eo⟩:=Lib.fin_at w (.cells Lib.zeros24 119) dk k 0
  refine ⟨rfl,?_⟩
  rw [eo]
  exact Lib.below_grow _ w (Nat.le_refl _) _ _
set_option maxHeartbeats 1000000 in
set_option maxRecDepth 100000 in
theorem formatUint_out (u:Nat) (hu64:u<18446744073709551616) (w:World) (htab:Lib.TabIs Tryd.prog w "internal/strconv.uint64pow10" .u64 Lib.pow10Tab) :
 Calls Tryd.prog 61 #[.int .u64 u,.int .i64 10] w fun e w'=>e=.returned (.string ⟨(Lib.decDigits u).toArray⟩)∧Below w.heap.size w w':=by
 go_enter Tryd.func61,Tryd.ntmps61
 go_wp2_with (go_at_call 67;refine (formatUint_in u hu64 _ htab).mono ?_;rintro e w' ⟨rfl,hb⟩)
 go_ret
 exact ⟨rfl,hb⟩
theorem writeString_in (B b:Nat) (bs:List Value) (s:ByteArray) (w:World) (h:Lib.IsBuilderF 102 5 B b bs w) (hlen:bs.length+s.size≤140737488355328) (hBw:B≤w.heap.size) :
 Calls Tryd.prog 62 #[.pointer (some ⟨b,0,none⟩),.string s] w fun e w'=>e=.returned (.tuple #[.int .i64 s.size,.nilIface])∧(Lib.BuilderAtF 102 5 B b (.pointer (some ⟨b,0,none⟩)) (bs++Lib.strCells s) w'∧Below B w w'∧Lib.OthersKept 5 (some b) w w') :=
 Any.Builder_WriteString_k (P:=Tryd.prog) (ρ:=Tryd.lays105_ren) { Tryd.lays105 with } Tryd.Builder_Extra_105 B b bs s w h hlen hBw
end Go.Proofs.YtemfebbakfhknaaDoor
set_option linter.unusedSimpArgs false
set_option linter.unusedVariables false
namespace Go.Proofs.YtemfebbakfhknaaDoor
open Go Go.Proofs Go.Shelf Go.RowKit
attribute [local go_sem] Oper.semAt_some
def uptoB {α:Type} (f:Nat→α) (k:Nat):List α:=(List.range k).map f
theorem uptoB_succ {α:Type} (f:Nat→α) (k:Nat):uptoB f (k+1)=uptoB f k++[f k]:=by simp [uptoB,List.range_succ]
theorem uptoB_length {α:Type} (f:Nat→α) (k:Nat):(uptoB f k).length=k:=by simp [uptoB]
abbrev PL:Type:={ x:Nat×Nat // x.2<Num.B9 }
def backF (zs:List Nat) (j:Nat):PL:=⟨(zs.length-1-j,zs.getD (zs.length-1-j) 0 % Num.B9),Nat.mod_lt _ (by decide)⟩
theorem wrapB {n:Int} (h:-9223372036854775808≤n) (h2:n<9223372036854775808):IntKind.i64.wrap n=n:=by rw [IntKind.wrap_i64];omega
def KeepB (n₀ Bs:Nat) (W W':World):Prop:=Below n₀ W W'∧W'.heap[Bs]?=W.heap[Bs]?
theorem KeepB.refl (n₀ Bs:Nat) (W:World):KeepB n₀ Bs W W:=⟨Below.refl _ _,rfl⟩
theorem KeepB.trans {n₀ Bs:Nat} {A B C:World} (h:KeepB n₀ Bs A B) (k:KeepB n₀ Bs B C):KeepB n₀ Bs A C:=⟨h.1.trans k.1,k.2.trans h.2⟩
set_option maxRecDepth 100000 in
set_option maxHeartbeats 4000000 in
theorem backward1_in (F:Fence) (n:Nat) (h8:F.fn 66) (hro:F.round=none) (hn:1≤n) (l Bs n₀ b off cap:Nat) (zs:List Nat) (hreach:zs.length*8≤140737488351232) (hlim:Num.Lim zs) (hb:b<n₀) (J Jx:List PL→World→Prop)
 (hY:∀ pre (x:PL) W,J pre W→pre.length<zs.length→YieldAt F (n-1) Tryd.prog l #[.int .i64 (x.1.1:Int),.int .u64 (x.1.2:Int)] W fun e W' =>
  (e=.returned (.bool true)∧J (pre++[x]) W'∧KeepB n₀ Bs W W')∨(e=.returned (.bool false)∧Jx (pre++[x]) W'))
 (W:World) (hBs:W.cell? ⟨Bs,0,none⟩=some (.slice (some ⟨b,off,none⟩) zs.length cap)) (hc:∀ j,j<zs.length→W.cell? ⟨b,off+j,none⟩=some (.int .u64 (zs.getD j 0:Int))) (h0:J [] W) :
 CallsIn F n Tryd.prog 66 #[.func (.yield l) #[] #[],.pointer (some ⟨Bs,0,none⟩)] W fun e W'=>(∃ v,e=.returned v) ∧
  ((∃ ys,ys=uptoB (backF zs) zs.length∧J ys W')∨(∃ pre,(∃ k,k≤zs.length∧pre=uptoB (backF zs) k)∧Jx pre W')):=by
 have hget:∀ j,zs.getD j 0 % Num.B9=zs.getD j 0:=fun j=>Nat.mod_eq_of_lt (by rw [List.getD_eq_getElem?_getD];exact Num.lim_get hlim j)
 obtain ⟨len,hlen⟩:∃ len,zs.length=len:=⟨_,rfl⟩
 rw [hlen] at hreach hY hBs hc ⊢
 have hw0:IntKind.i64.wrap ((len:Int)-1)=(len:Int)-1:=wrapB (by omega) (by omega)
 refine callsIn_of_wp Tryd.func66 rfl h8 ?_ hro
 simp only [Tryd.ntmps66,List.size_toArray,List.length_cons,List.length_nil,Nat.reduceAdd,Nat.reduceSub,Array.replicate_succ,Array.replicate_zero,List.push_toArray,List.append_toArray,List.nil_append,List.cons_append]
 gi_wp2
 gi_loopw [3] (fun i wr=>∃ k:Nat,k≤len∧i=.int .i64 ((len:Int)-1-k)∧J (uptoB (backF zs) k) wr∧KeepB n₀ Bs W wr)
  (fun i _=>(intOf i+1).toNat)
 case atStart=>exact ⟨0,Nat.zero_le _,by simp,h0,KeepB.refl _ _ _⟩
 case round =>
  obtain ⟨k,hk,rfl,hJs,hnx⟩:=hrel
  have hBx:wr.cell? ⟨Bs,0,none⟩=some (.slice (some ⟨b,off,none⟩) len cap):=(World.cell?_of_block (a:=⟨Bs,0,none⟩) hnx.2).trans hBs
  by_cases hlt:k<len
  ·have hge:(0:Int)≤(len:Int)-1-k:=by omega
   have hcx:wr.cell? ⟨b,off+(len-1-k),none⟩=some (.int .u64 ((backF zs k).1.2:Int)):=by
    have:=(hnx.1.cell (p:=⟨b,off+(len-1-k),none⟩) hb).trans (hc (len-1-k) (by omega))
    rw [this];unfold backF;simp only [hlen,hget]
   obtain ⟨fn,tmps,assign,body,hy,hR⟩:=hY _ (backF zs k) wr hJs (by rw [uptoB_length];exact hlt)
   have e1:((backF zs k).1.1:Int)=(len:Int)-1-k:=by show ((zs.length-1-k:Nat):Int)=_;omega
   rw [e1] at hy
   have hi1:((len:Int)-1-k)<len:=by omega
   have hi2:((len:Int)-1-k).toNat=len-1-k:=by omega
   have hw1:IntKind.i64.wrap ((len:Int)-1-k-1)=(len:Int)-1-((k+1:Nat):Int):=by rw [wrapB (by omega) (by omega)];omega
   gi_wp2
   refine hR.mono ?_
   rintro e W3 (⟨rfl,hJ3,hk3⟩|⟨rfl,hJx3⟩)
   ·gi_wp2
    go_roundw
    case rel=>exact ⟨k+1,by omega,by first|rfl|simp [hw1]|(congr 1),by rw [uptoB_succ];exact hJ3,hnx.trans hk3⟩
    case measure=>simp [intOf];omega
   ·gi_wp2
    refine bodyPost_ret (results_none rfl _ _ _) rfl ?_
    exact ⟨⟨_,rfl⟩,.inr ⟨_,⟨k+1,by omega,(uptoB_succ _ _).symm⟩,hJx3⟩⟩
  ·obtain rfl:k=len:=by omega
   have hneg:¬ ((0:Int)≤(k:Int)-1-k):=by omega
   gi_wp2
   go_end0
   exact ⟨⟨_,rfl⟩,by first|exact .inl hJs|exact .inl ⟨_,rfl,hJs⟩⟩
set_option maxHeartbeats 1000000 in
theorem backward_in (F:Fence) (n:Nat) (h6:F.fn 60) (hro:F.round=none) (a:Option Addr) (len cap:Nat) (w:World) :
 CallsIn F n Tryd.prog 60 #[.slice a len cap] w fun e w'=>e=.returned (.func (.func 66) #[] #[.pointer (some ⟨w.heap.size,0,none⟩)])∧w'=w.alloc (.cells #[.slice a len cap] 89):=by
 refine callsIn_of_wp Tryd.func60 rfl h6 ?_ hro
 simp only [Tryd.ntmps60,List.size_toArray,List.length_cons,List.length_nil,Nat.reduceAdd,Nat.reduceSub,Array.replicate_succ,Array.replicate_zero,List.push_toArray,List.append_toArray,List.nil_append,List.cons_append]
 gi_wp2
 go_ret
 exact ⟨rfl,rfl⟩
theorem back_stops (F:Fence) (n:Nat) (h8:F.fn 66) (hro:F.round=none) (hn:1≤n) (Bs n₀ b off cap:Nat) (zs:List Nat) (hreach:zs.length*8≤140737488351232) (hlim:Num.Lim zs) (hb:b<n₀) (w:World) (hBs:Bs<w.heap.size) (hn₀:n₀≤w.heap.size)
 (hcB:w.cell? ⟨Bs,0,none⟩=some (.slice (some ⟨b,off,none⟩) zs.length cap)) (hc:∀ j,j<zs.length→w.cell? ⟨b,off+j,none⟩=some (.int .u64 (zs.getD j 0:Int))) :
 SeqStopsK F n Tryd.prog 66 #[.pointer (some ⟨Bs,0,none⟩)] (fun x:PL=>#[Value.int .i64 (x.1.1:Int),Value.int .u64 (x.1.2:Int)]) (KeepB n₀ Bs) (fun ys=>ys=uptoB (backF zs) zs.length)
  (fun pre=>∃ k,k≤zs.length∧pre=uptoB (backF zs) k) zs.length w:=fun l J Jx W hW _ _ hY h0 =>
 backward1_in F n h8 hro hn l Bs n₀ b off cap zs hreach hlim hb J Jx hY W ((hW.cell (p:=⟨Bs,0,none⟩) hBs).trans hcB) (fun j hj=>(hW.cell (p:=⟨b,off+j,none⟩) (by show b<w.heap.size;omega)).trans (hc j hj)) h0
end Go.Proofs.YtemfebbakfhknaaDoor
set_option linter.unusedSimpArgs false
set_option linter.unusedVariables false
namespace Go.Proofs.YtemfebbakfhknaaDoor
open Go Go.Proofs Go.Shelf Go.RowKit
attribute [local go_sem] Oper.semAt_some
def pieceB (len:Nat) (x:PL):List UInt8:=if (x.1.1:Int)<(len:Int)-1 then Lib.repeatL [48] (9-Lib.nDigits x.1.2)++Lib.decDigits x.1.2 else Lib.decDigits x.1.2
def accB (len:Nat) (pre:List PL):List UInt8:=pre.flatMap (pieceB len)
theorem accB_snoc (len:Nat) (pre:List PL) (x:PL):accB len (pre++[x])=accB len pre++pieceB len x:=by simp [accB]
theorem repeatL_len (n:Nat):(Lib.repeatL [48] n).length=n:=by
 induction n with
 |zero=>simp [Lib.repeatL]
 |succ n ih=>simp_all [Lib.repeatL]
theorem pieceB_len (len:Nat) (x:PL):(pieceB len x).length≤9:=by
 have:=Num.nDigits_le9 x.2
 unfold pieceB
 split
 ·rw [List.length_append,repeatL_len,Lib.decDigits_length];omega
 ·rw [Lib.decDigits_length];omega
theorem accB_len (len:Nat) (pre:List PL):(accB len pre).length≤9*pre.length:=by
 induction pre with
 |nil=>simp [accB]
 |cons x pre ih =>
  have:=pieceB_len len x
  simp only [accB,List.flatMap_cons,List.length_append,List.length_cons] at ih ⊢
  omega
def holdsT (N:Nat) (sv:Value) (bs:List UInt8) (W:World):Prop :=
 Lib.IsBuilderF 102 5 (N+1) (N+1) (Lib.byteCells bs) W∧W.heap[N]?=some (.cells #[sv] 89 (0,0))∧W.heap[N+2]?=some (.cells #[sv] 89 (0,0))
theorem builderAtF_of_keep {T e:TypeId} {B b:Nat} {p:Value} {bs:List Value} {w w':World} (h:Lib.BuilderAtF T e B b p bs w) (hk:∀ (k:Nat) (o:Obj),w.heap[k]?=some o→o.isCells=true→w'.heap[k]?=some o):Lib.BuilderAtF T e B b p bs w':=by
 obtain ⟨hB,v,hb,hown,hne⟩:=h
 refine ⟨hB,v,hk _ _ hb rfl,⟨hown.1,?_⟩,hne⟩
 rcases hown.2 with h0|⟨g,cap,cur,fz,hv,hbg,hg,r⟩
 ·exact .inl h0
 ·exact .inr ⟨g,cap,cur,fz,hv,hbg,hk _ _ hg rfl,r⟩
theorem isBuilderF_of_keep {T e:TypeId} {B b:Nat} {bs:List Value} {w w':World} (h:Lib.IsBuilderF T e B b bs w) (hk:∀ (k:Nat) (o:Obj),w.heap[k]?=some o→o.isCells=true→w'.heap[k]?=some o):Lib.IsBuilderF T e B b bs w' :=
 h.elim (fun x=>.inl (builderAtF_of_keep x hk)) (fun x=>.inr (builderAtF_of_keep x hk))
theorem holdsT_own {β:Type} (N:Nat) (sv:Value) (f:β→List UInt8):Own (fun (pre:β) W=>holdsT N sv (f pre) W):=fun s W W' row hs hg hr=>by
 have hk:∀ (k:Nat) (o:Obj),W.heap[k]?=some o→o.isCells=true→W'.heap[k]?=some o:=fun k o ho hc=>(grownBy_keeps_cells hg hr ho hc).trans ho
 exact ⟨isBuilderF_of_keep hs.1 hk,hk _ _ hs.2.1 rfl,hk _ _ hs.2.2 rfl⟩
theorem keeps_below {W W':World} (h:Below W.heap.size W W') (B:Nat):KeepsFrom B W W':=⟨h.size,fun k o _ hk _=>(h.block k (by
 rcases Nat.lt_or_ge k W.heap.size with h1|h1
 ·exact h1
 ·rw [Array.getElem?_eq_none h1] at hk;cases hk)).trans hk⟩
theorem lt_of_heap {W:World} {k:Nat} {o:Obj} (h:W.heap[k]?=some o):k<W.heap.size:=by
 rcases Nat.lt_or_ge k W.heap.size with h1|h1
 ·exact h1
 ·rw [Array.getElem?_eq_none h1] at h;cases h
theorem holdsT_below {N:Nat} {sv:Value} {bs:List UInt8} {W W':World} (h:holdsT N sv bs W) (hb:Below W.heap.size W W'):holdsT N sv bs W':=by
 have hk:∀ (k:Nat) (o:Obj),W.heap[k]?=some o→o.isCells=true→W'.heap[k]?=some o:=fun k o ho _=>(hb.block k (lt_of_heap ho)).trans ho
 exact ⟨isBuilderF_of_keep h.1 hk,hk _ _ h.2.1 rfl,hk _ _ h.2.2 rfl⟩
theorem keepB_below {n₀ Bs:Nat} {W W':World} (h:Below W.heap.size W W') (hn:n₀≤W.heap.size) (hB:Bs<W.heap.size):KeepB n₀ Bs W W':=⟨h.mono hn,h.block Bs hB⟩
theorem holdsT_write {N:Nat} {sv:Value} {bs:List UInt8} {s:ByteArray} {W W':World} (h:holdsT N sv bs W) (h1:Lib.BuilderAtF 102 5 (N+1) (N+1) (.pointer (some ⟨N+1,0,none⟩)) (Lib.byteCells bs++Lib.strCells s) W') (h2:Below (N+1) W W') (h3:Lib.OthersKept 5 (some (N+1)) W W') :
 holdsT N sv (bs++s.data.toList) W'∧KeepsFrom (N+3) W W'∧KeepB N (N+2) W W':=by
 have hb:∃ c t f,W.heap[N+1]?=some (.cells c t f):=by
  rcases h.1 with ⟨_,v,hb,_⟩|⟨_,v,hb,_⟩<;>exact ⟨_,_,_,hb⟩
 have k2:W'.heap[N+2]?=some (.cells #[sv] 89 (0,0)):=h3 _ _ h.2.2 (by simp) (fun c fz e=>by
  have:=(Obj.cells.inj e).2.1
  exact absurd this (by decide))
 refine ⟨⟨.inr ?_,?_,k2⟩,⟨h2.size,fun k o _ hk ho=>h3 k o hk (fun e=>?_) (fun c fz e=>by rw [e] at ho;cases ho)⟩,⟨h2.mono (by omega),by rw [k2,h.2.2]⟩⟩
 ·have e:Lib.byteCells bs++Lib.strCells s=Lib.byteCells (bs++s.data.toList):=by simp [Lib.byteCells,Lib.strCells]
  rw [← e];exact h1
 ·rw [h2.block N (by omega)];exact h.2.1
 ·cases e
  obtain ⟨c,t,f,hc⟩:=hb
  rw [hc] at hk;cases hk;cases ho
theorem tab_below {P:Program} {w w':World} {name:String} {k:IntKind} {zs:List Int} (h:Lib.TabIs P w name k zs) (hb:Below w.heap.size w w'):Lib.TabIs P w' name k zs:=(Lib.tabBelow_of_tabIs h) w' hb
theorem repeatL_eq (n:Nat):Lib.repeatL [48] n=List.replicate n 48:=by
 induction n with
 |zero=>rfl
 |succ n ih=>simp [Lib.repeatL,ih,List.replicate_succ]
theorem piece_eq (zs:List Nat) (hl:Num.Lim zs) (j:Nat) (hj:j<zs.length):pieceB zs.length (backF zs j)=if 0<j then Num.D 9 (zs.getD (zs.length-1-j) 0) else Lib.decDigits (zs.getD (zs.length-1-j) 0):=by
 have hb:zs.getD (zs.length-1-j) 0<Num.B9:=by rw [List.getD_eq_getElem?_getD];exact Num.lim_get hl _
 have e2:(backF zs j).1.2=zs.getD (zs.length-1-j) 0:=Nat.mod_eq_of_lt hb
 have e1:(backF zs j).1.1=zs.length-1-j:=rfl
 unfold pieceB
 rw [e1,e2]
 by_cases h:0<j
 ·rw [if_pos (by omega),if_pos h,repeatL_eq,Num.pad 9 _ (Num.nDigits_le9 hb)]
 ·rw [if_neg (by omega),if_neg h]
theorem accB_all:∀ (zs:List Nat),Num.Lim zs→zs≠[]→accB zs.length (uptoB (backF zs) zs.length)=Num.textL zs
 |[],_,h=>absurd rfl h
 |a::t,hl,_=>by
  have hlt:Num.Lim t:=fun x hx=>hl x (by simp [hx])
  have hrec:∀ k,k≤t.length→accB (a::t).length (uptoB (backF (a::t)) k)=accB t.length (uptoB (backF t) k):=by
   intro k
   induction k with
   |zero=>intro _;rfl
   |succ k ih =>
    intro hk
    rw [uptoB_succ,uptoB_succ,accB_snoc,accB_snoc,ih (by omega),piece_eq _ hl k (by simp;omega),piece_eq t hlt k (by omega)]
    have:(a::t).length-1-k=(t.length-1-k)+1:=by simp;omega
    rw [this]
    simp only [List.getD_cons_succ]
  show accB (a::t).length (uptoB (backF (a::t)) (t.length+1))=_
  rw [uptoB_succ,accB_snoc,hrec t.length (Nat.le_refl _),piece_eq _ hl t.length (by simp)]
  have e0:(a::t).length-1-t.length=0:=by simp
  rw [e0,List.getD_cons_zero]
  cases t with
  |nil=>rfl
  |cons b t =>
   rw [accB_all (b::t) hlt (by simp),if_pos (by simp)]
   exact (Num.textL_cons (by simp)).symm
set_option maxRecDepth 100000 in
set_option maxHeartbeats 8000000 in
theorem text_in (b off cap:Nat) (zs:List Nat) (hlim:Num.Lim zs) (h0:zs≠[]) (hreach:zs.length*9≤140737488351232) (w:World) (hb:b<w.heap.size) (hc:∀ j,j<zs.length→w.cell? ⟨b,off+j,none⟩=some (.int .u64 (zs.getD j 0:Int)))
 (htab:Lib.TabIs Tryd.prog w "internal/strconv.uint64pow10" .u64 Lib.pow10Tab) :
 Calls Tryd.prog 54 #[.slice (some ⟨b,off,none⟩) zs.length cap] w fun e w'=>e=.returned (.string ⟨(Num.textL zs).toArray⟩)∧Below w.heap.size w w':=by
 have hpos:0<zs.length:=List.length_pos_iff.2 h0
 have hne0:¬ ((zs.length:Int)=0):=by omega
 have hall:=accB_all zs hlim h0
 obtain ⟨len,hlen⟩:∃ len,zs.length=len:=⟨_,rfl⟩
 rw [hlen] at hne0 hall
 refine (callsIn_wide (n:=6)).1 ?_
 refine callsIn_of_wp_marks Tryd.func54 rfl trivial ?_ rfl
 simp only [Tryd.ntmps54,List.size_toArray,List.length_cons,List.length_nil,Nat.reduceAdd,Nat.reduceSub,Array.replicate_succ,Array.replicate_zero,List.push_toArray,List.append_toArray,List.nil_append,List.cons_append]
 rw [hlen]
 gi_wp2_with (refine ⟨trivial,?_⟩;gi_at_call 60;refine (backward_in Fence.wide _ trivial rfl _ _ _ _).mono ?_;rintro e w' ⟨rfl,rfl⟩)
 obtain ⟨W0,hW0⟩:∃ W0,((w.alloc (.cells #[.slice (some ⟨b,off,none⟩) len cap] 89)).alloc (.cells #[.pointer none,.slice none 0 0] 102)).alloc (.cells #[.slice (some ⟨b,off,none⟩) len cap] 89)=W0:=⟨_,rfl⟩
 have hB0:Below w.heap.size w W0:=by
  rw [← hW0]
  exact (((Below.refl _ w).alloc (Nat.le_refl _) _).alloc (by simp) _).alloc (by simp;omega) _
 have hs0:W0.heap.size=w.heap.size+3:=by rw [← hW0];simp
 have g0:W0.heap[w.heap.size]?=some (.cells #[.slice (some ⟨b,off,none⟩) len cap] 89 (0,0)):=by
  rw [← hW0];exact (Below.heap_alloc _ _ _ (by simp;omega)).trans ((Below.heap_alloc _ _ _ (by simp)).trans (World.alloc_heap_new w _))
 have g1:W0.heap[w.heap.size+1]?=some (.cells #[.pointer none,.slice none 0 0] 102 (0,0)):=by
  rw [← hW0];exact (Below.heap_alloc _ _ _ (by simp)).trans (by have:=World.alloc_heap_new (w.alloc (.cells #[.slice (some ⟨b,off,none⟩) len cap] 89)) (.cells #[.pointer none,.slice none 0 0] 102);rwa [World.size_alloc] at this)
 have g2:W0.heap[w.heap.size+2]?=some (.cells #[.slice (some ⟨b,off,none⟩) len cap] 89 (0,0)):=by
  rw [← hW0]
  have:=World.alloc_heap_new ((w.alloc (.cells #[.slice (some ⟨b,off,none⟩) len cap] 89)).alloc (.cells #[.pointer none,.slice none 0 0] 102)) (.cells #[.slice (some ⟨b,off,none⟩) len cap] 89)
  rwa [World.size_alloc,World.size_alloc] at this
 rw [hW0]
 have hI0:holdsT w.heap.size (.slice (some ⟨b,off,none⟩) len cap) (accB len []) W0 :=
  ⟨.inl ⟨Nat.le_refl _,_,g1,⟨rfl,.inl ⟨rfl,rfl⟩⟩,by simp [Value.ownBlock]⟩,g0,g2⟩
 have hcB:W0.cell? ⟨w.heap.size+2,0,none⟩=some (.slice (some ⟨b,off,none⟩) zs.length cap):=by rw [hlen];simp [World.cell?,g2]
 refine wpIn_rangeFunc_ownG rfl (by omega) (gf:=66) (lb:=#[.pointer (some ⟨w.heap.size+1+1,0,none⟩)]) rfl trivial (enters_of Tryd.func66 (by kernel_rfl) rfl)
  (back_stops Fence.wide _ trivial rfl (by omega) (w.heap.size+2) w.heap.size b off cap zs (by omega) hlim hb W0 (by omega) (by omega) hcB (fun j hj=>(hB0.cell (p:=⟨b,off+j,none⟩) hb).trans (hc j hj)))
  (fun h k=>h.trans k) (fun W l o o' hl _ _ _=>⟨⟨rfl,rfl,rfl,by simp,fun k hk=>World.putObj_heap_other (by omega)⟩,World.putObj_heap_other (by omega)⟩) (Below.refl _ _) (fun _=>rfl)
  (fun pre W=>holdsT w.heap.size (.slice (some ⟨b,off,none⟩) len cap) (accB len pre) W∧Below w.heap.size w W)
  (fun _ _ _=>False)
  (OwnFrom.and (Own.from (holdsT_own w.heap.size _ (fun pre=>accB len pre)) _) (ownFrom_below (Nat.le_refl _) (by omega)))
  (fun _ _ _ _ _ hs _ _=>hs)
  ⟨hI0,hB0⟩
  (fun x=>{ tmps:=#[.slice (some ⟨b,off,none⟩) len cap,.pointer (some ⟨w.heap.size,0,none⟩),.string ⟨#[]⟩,.pointer (some ⟨w.heap.size+1,0,none⟩),.int .i64 (x.1.1:Int),.int .u64 (x.1.2:Int),undef,.slice (some ⟨b,off,none⟩) len cap,.int .i64 len,.bool false,
   .slice (some ⟨b,off,none⟩) len cap,.func (.func 66) #[] #[.pointer (some ⟨w.heap.size+1+1,0,none⟩)],.int .i64 (x.1.1:Int),.int .u64 (x.1.2:Int),undef,undef,undef,undef,undef,undef,undef,undef,undef,undef,undef,undef,undef,undef,undef],defers:=[] }) ?assign ?body ?done ?stop
 case assign =>
  intro l x W K hK
  gi_wp2
  exact hK
 case body =>
  rintro l pre x W ⟨hT,hB⟩ hlt
  have hx64:x.1.2<18446744073709551616:=Nat.lt_trans x.2 (by decide)
  have hd9:=Num.nDigits_le9 x.2
  have hsz:(ByteArray.mk (Lib.decDigits x.1.2).toArray).size=Lib.nDigits x.1.2:=by simp [ByteArray.size,Lib.decDigits_length]
  have hwl:IntKind.i64.wrap ((len:Int)-1)=(len:Int)-1:=wrapB (by omega) (by omega)
  have hw9:IntKind.i64.wrap (9-(Lib.nDigits x.1.2:Int))=((9-Lib.nDigits x.1.2:Nat):Int):=by rw [wrapB (by omega) (by omega)];omega
  have tabW:Lib.TabIs Tryd.prog W "internal/strconv.uint64pow10" .u64 Lib.pow10Tab:=tab_below htab hB
  have hal:=accB_len len pre
  have hcl:(Lib.byteCells (accB len pre)).length≤9*pre.length:=by rw [Lib.byteCells_length];exact hal
  gi_wp2_with (refine ⟨trivial,?_⟩;gi_at_call 61;refine (CallsIn.inRound l (callsIn_wide.2 (formatUint_out x.1.2 hx64 _ tabW))).mono ?_;rintro e W1 ⟨rfl,hb1⟩;have hT1:=holdsT_below hT hb1;have c1:W1.cell? ⟨w.heap.size,0,none⟩=some (.slice (some ⟨b,off,none⟩) len cap):=by simp [World.cell?,hT1.2.1])
  ·have hx:(x.1.1:Int)<(len:Int)-1:=by assumption
   refine ⟨trivial,(CallsIn.inRound l (callsIn_wide.2 (Tryd.strings_Repeat ⟨#[48]⟩ (9-Lib.nDigits x.1.2) W1 (by omega) (by
    have e1:(ByteArray.mk #[48]).size=1:=rfl
    rw [e1];omega)))).mono ?_⟩
   rintro e W2 ⟨rfl,hb2⟩
   have hT2:=holdsT_below hT1 hb2
   have l2:=lt_of_heap hT2.2.2
   have hr1:(ByteArray.mk (Lib.repeatL [48] (9-Lib.nDigits x.1.2)).toArray).size=9-Lib.nDigits x.1.2:=by simp [ByteArray.size,repeatL_len]
   gi_wp2_with fail
   refine ⟨trivial,(CallsIn.inRound l (callsIn_wide.2 (writeString_in (w.heap.size+1) (w.heap.size+1) _ ⟨(Lib.repeatL [48] (9-Lib.nDigits x.1.2)).toArray⟩ W2 hT2.1 (by rw [hr1];omega) (by omega)))).mono ?_⟩
   rintro e W3 ⟨rfl,h31,h32,h33⟩
   obtain ⟨hT3,kf3,kb3⟩:=holdsT_write hT2 h31 h32 h33
   have l3:=lt_of_heap hT3.2.2
   have hl3:(Lib.byteCells (accB len pre++(ByteArray.mk (Lib.repeatL [48] (9-Lib.nDigits x.1.2)).toArray).data.toList)).length≤9*pre.length+(9-Lib.nDigits x.1.2):=by
    rw [Lib.byteCells_length,List.length_append]
    have:(ByteArray.mk (Lib.repeatL [48] (9-Lib.nDigits x.1.2)).toArray).data.toList.length=9-Lib.nDigits x.1.2:=hr1
    omega
   gi_wp2_with fail
   refine ⟨trivial,(CallsIn.inRound l (callsIn_wide.2 (writeString_in (w.heap.size+1) (w.heap.size+1) _ ⟨(Lib.decDigits x.1.2).toArray⟩ W3 hT3.1 (by rw [hsz];omega) (by omega)))).mono ?_⟩
   rintro e W4 ⟨rfl,h41,h42,h43⟩
   obtain ⟨hT4,kf4,kb4⟩:=holdsT_write hT3 h41 h42 h43
   gi_wp2
   have hpc:pieceB len x=Lib.repeatL [48] (9-Lib.nDigits x.1.2)++Lib.decDigits x.1.2:=if_pos hx
   have hbs:=hB.size
   have hb1s:=hb1.size
   refine ⟨by rw [hs0];exact (keeps_below hb1 _).trans ((keeps_below hb2 _).trans (kf3.trans kf4)),(keepB_below hb1 hbs (lt_of_heap hT.2.2)).trans ((keepB_below hb2 (by omega) (lt_of_heap hT1.2.2)).trans (kb3.trans kb4)),?_,
    hB.trans ((hb1.mono hbs).trans ((hb2.mono (by omega)).trans (kb3.1.trans kb4.1)))⟩
   rw [accB_snoc,hpc,← List.append_assoc]
   simpa using hT4
  ·have hx:¬ (x.1.1:Int)<(len:Int)-1:=by omega
   have l1:=lt_of_heap hT1.2.2
   refine ⟨trivial,(CallsIn.inRound l (callsIn_wide.2 (writeString_in (w.heap.size+1) (w.heap.size+1) _ ⟨(Lib.decDigits x.1.2).toArray⟩ W1 hT1.1 (by rw [hsz];omega) (by omega)))).mono ?_⟩
   rintro e W4 ⟨rfl,h41,h42,h43⟩
   obtain ⟨hT4,kf4,kb4⟩:=holdsT_write hT1 h41 h42 h43
   gi_wp2
   have hpc:pieceB len x=Lib.decDigits x.1.2:=if_neg (by omega)
   have hbs:=hB.size
   refine ⟨by rw [hs0];exact (keeps_below hb1 _).trans kf4,(keepB_below hb1 hbs (lt_of_heap hT.2.2)).trans kb4,?_,hB.trans ((hb1.mono hbs).trans kb4.1)⟩
   rw [accB_snoc,hpc]
   simpa using hT4
 case done =>
  rintro D ys W hD rfl ⟨hT,hB⟩ hK
  have l1:=lt_of_heap hT.2.2
  rw [hlen,hall] at hT
  gi_wp2_with fail
  refine ⟨trivial,(callsIn_wide.2 (Tryd.Builder_String_any_k (w.heap.size+1) (w.heap.size+1) (Num.textL zs) W hT.1 (by omega))).mono ?_⟩
  rintro e W1 ⟨rfl,h1,h2,h3⟩
  gi_wp2
  have hK1:W1.heap[D]?=some (.deferred (some [])):=h3 D _ hK (by simp;omega) (fun c fz e=>by cases e)
  refine ⟨by simp,.inl ⟨_,_,rfl,run_takeDeferred hK1,?_⟩⟩
  exact ⟨_,results_tmp rfl _ _ _,rfl,(hB.trans (h2.mono (by omega))).trans (belowK_b (w:=w) (Nat.le_refl _) W1 D _ _ (by omega) hK1 rfl rfl)⟩
 case stop =>
  rintro D c pre W _ _ h _
  exact h.elim
end Go.Proofs.YtemfebbakfhknaaDoor
