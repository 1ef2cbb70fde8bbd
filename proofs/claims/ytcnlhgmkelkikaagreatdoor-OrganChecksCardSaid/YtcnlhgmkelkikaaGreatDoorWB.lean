/-
  The notes of a set, at this program, over any world: noteset.all, Members. Conditions: in each statement.
-/
import Derived.Test.YtcnlhgmkelkikaaGreatDoorWA
import Derived.Shelf.SlIterI.Collect
import Derived.Shelf.Spec.TrailingZeros
import Derived.Test.YtcnlhgmkelkikaaGreatDoorOraA
import Derived.Test.YtcnlhgmkelkikaaGreatDoorLib1
set_option linter.unusedSimpArgs false
set_option linter.unusedVariables false
namespace Go.Proofs.YtcnlhgmkelkikaaGreatDoor
open Go Go.Proofs Go.Shelf Go.RowKit
attribute [local go_sem] Oper.semAt_some
def bitsL (p:Nat):List Nat:=(List.range 64).filter p.testBit
def notesL (lo hi:Nat):List Int:=(bitsL lo).map (fun n:Nat=>(n:Int))++(bitsL hi).map (fun n:Nat=>((64+n:Nat):Int))
theorem bitsL_zero:bitsL 0=[]:=by simp [bitsL]
theorem bitsL_step {p t:Nat} (hp:p<18446744073709551616) (ht:t<64) (h1:p.testBit t=true) (h2:∀ i,i<t→p.testBit i=false) (h3:∀ i,i<64→(p &&& (p-1)).testBit i=(p.testBit i&&decide (i≠t))):bitsL p=t::bitsL (p &&& (p-1)):=by
 have split:∀ (f:Nat→Bool) (n:Nat),t<n→(∀ i,i<t→f i=false)→f t=true→(List.range n).filter f=t::(List.range n).filter (fun i=>f i&&decide (i≠t)):=by
  intro f n
  induction n with
  |zero=>intro h;omega
  |succ n ih =>
   intro hn hf ht1
   rw [List.range_succ,List.filter_append,List.filter_append]
   by_cases hnt:t=n
   ·subst hnt
    have e1:(List.range t).filter f=[]:=by
     rw [List.filter_eq_nil_iff];intro a ha;rw [hf a (List.mem_range.1 ha)];simp
    have e2:(List.range t).filter (fun i=>f i&&decide (i≠t))=[]:=by
     rw [List.filter_eq_nil_iff];intro a ha;rw [hf a (List.mem_range.1 ha)];simp
    rw [e1,e2]
    simp [ht1]
   ·rw [ih (by omega) hf ht1]
    have hne:¬ n=t:=fun e=>hnt e.symm
    simp [List.filter_cons,hne]
 unfold bitsL
 rw [split p.testBit 64 ht h2 h1]
 congr 1
 refine List.filter_congr fun i hi=>?_
 rw [h3 i (List.mem_range.1 hi)]
theorem bitsL_len (p:Nat):(bitsL p).length≤64:=by
 have:=List.length_filter_le p.testBit (List.range 64)
 rw [List.length_range] at this
 exact this
theorem ctz_bits {p:Nat} (h0:p≠0) (hp:p<18446744073709551616):bitsL p=Lib.ctz 64 p::bitsL (p &&& (p-1))∧Lib.ctz 64 p<64∧(p &&& (p-1))<p:=by
 obtain ⟨m,hm,ht⟩:=Lib.ctzFrom_spec 64 p (by omega) (by omega)
 have e:Lib.ctz 64 p=Lib.ctzFrom 64 p:=by simp [Lib.ctz,h0]
 rw [e]
 generalize Lib.ctzFrom 64 p=t at *
 have h2:∀ i,p.testBit i=(decide (t≤i)&&(2*m+1).testBit (i-t)):=fun i=>by rw [hm,Nat.testBit_two_pow_mul]
 have h1:p.testBit t=true:=by rw [h2];simp
 have hlow:∀ i,i<t→p.testBit i=false:=fun i hi=>by rw [h2];simp;omega
 have hle:p &&& (p-1)≤p-1:=Nat.and_le_right
 have hpm:p-1=2 ^ t*(2*m)+(2 ^ t-1):=by
  have:0<2 ^ t:=Nat.two_pow_pos t
  rw [hm,Nat.mul_add,Nat.mul_one];omega
 have h3:∀ i,i<64→(p &&& (p-1)).testBit i=(p.testBit i&&decide (i≠t)):=fun i hi=>by
  rw [Nat.testBit_and]
  by_cases h4:i<t
  ·rw [hlow i h4];simp
  ·have e2:(p-1).testBit i=(2*m).testBit (i-t):=by
    rw [hpm,Nat.testBit_two_pow_mul_add _ (by have:0<2 ^ t:=Nat.two_pow_pos t;omega),if_neg h4]
   rw [e2,h2 i]
   by_cases h5:i=t
   ·subst h5;simp
   ·have h6:decide (i≠t)=true:=by simp [h5]
    obtain ⟨j,hj⟩:∃ j,i-t=j+1:=⟨i-t-1,by omega⟩
    rw [h6,hj,Nat.testBit_succ,Nat.testBit_succ]
    have a1:(2*m+1) / 2=m:=by omega
    have a2:2*m / 2=m:=by omega
    rw [a1,a2];simp
 exact ⟨bitsL_step hp ht h1 hlow h3,ht,by omega⟩
def tzRen:Go.Shelf.Ren:=⟨fun|29=>105|n=>n,fun|0=>0|3=>3|4=>4|5=>5|22=>59|25=>67|54=>195|n=>n,fun|1=>0|n=>n⟩
theorem tzLay:Go.Proofs.Lays7.n29 Tryz.prog tzRen:={
 mixed:=by kernel_rfl
 f29:=Tryz.func105.trans (congrArg some (by kernel_rfl))
 t0:=Tryz.underlying0
 a0:=Tryz.isAgg0
 z0:=Tryz.sizeOf0
 v0:=Tryz.zeroValue0
 i0:=by kernel_rfl
 t3:=Tryz.underlying3
 a3:=Tryz.isAgg3
 z3:=Tryz.sizeOf3
 v3:=Tryz.zeroValue3
 i3:=by kernel_rfl
 t4:=Tryz.underlying4
 a4:=Tryz.isAgg4
 z4:=Tryz.sizeOf4
 v4:=Tryz.zeroValue4
 i4:=by kernel_rfl
 t5:=Tryz.underlying5
 a5:=Tryz.isAgg5
 z5:=Tryz.sizeOf5
 v5:=Tryz.zeroValue5
 i5:=by kernel_rfl
 t22:=Tryz.underlying59
 a22:=Tryz.isAgg59
 z22:=Tryz.sizeOf59
 v22:=Tryz.zeroValue59
 i22:=by kernel_rfl
 t25:=Tryz.underlying67
 a25:=Tryz.isAgg67
 z25:=Tryz.sizeOf67
 v25:=Tryz.zeroValue67
 i25:=by kernel_rfl
 t54:=Tryz.underlying195
 a54:=Tryz.isAgg195
 z54:=Tryz.sizeOf195
 g1:=by kernel_rfl }
def clRen:Go.Shelf.Ren:=⟨fun|8=>91|11=>103|n=>n,fun|0=>0|24=>42|26=>3|28=>183|33=>146|n=>n,fun|n=>n⟩
theorem clLay:Go.Proofs.SlLaysZI.n8 Tryz.prog clRen:={
 mixed:=by kernel_rfl
 f8:=⟨"slices.Collect[int]",by decide,Tryz.func91.trans (congrArg some (by kernel_rfl))⟩
 f11:=⟨"slices.AppendSeq[[]int,int]",by decide,Tryz.func103.trans (congrArg some (by kernel_rfl))⟩
 t0:=Tryz.underlying0
 a0:=Tryz.isAgg0
 z0:=Tryz.sizeOf0
 v0:=Tryz.zeroValue0
 t24:=Tryz.underlying42
 a24:=Tryz.isAgg42
 z24:=Tryz.sizeOf42
 v24:=Tryz.zeroValue42
 t26:=Tryz.underlying3
 a26:=Tryz.isAgg3
 z26:=Tryz.sizeOf3
 v26:=Tryz.zeroValue3
 t28:=Tryz.underlying183
 a28:=Tryz.isAgg183
 z28:=Tryz.sizeOf183
 v28:=Tryz.zeroValue183
 i26:=by kernel_rfl }
def HasBits (w:World):Prop:=TabAt 0 Lib.deBruijn64tab w
theorem hasBits_below {n:Nat} {w w':World} (h:HasBits w) (hn:0<n) (hb:Below n w w'):HasBits w':=fun j hj=>by
 rw [← h j hj]
 exact World.cell?_of_block (a:=⟨0,j,none⟩) (hb.block _ hn)
theorem tz_in (x:Nat) (hx:x<18446744073709551616) (w:World) (hT:HasBits w):Calls Tryz.prog 105 #[.int .u64 x] w fun e w'=>e=.returned (.int .i64 (Lib.ctz 64 x))∧w'=w :=
 Any7.bits_TrailingZeros64 (P:=Tryz.prog) (ρ:=tzRen) tzLay x hx w (fun _=>hT)
end Go.Proofs.YtcnlhgmkelkikaaGreatDoor
set_option linter.unusedSimpArgs false
set_option linter.unusedVariables false
namespace Go.Proofs.YtcnlhgmkelkikaaGreatDoor
open Go Go.Proofs Go.Shelf Go.RowKit
attribute [local go_sem] Oper.semAt_some
def ivO:Value→Int| .int _ q=>q|_=>0
def GivesB (F:Fence) (n:Nat) (P:Program) (g:Nat) (lb:Array Value) (S:List Int→Prop) (N:Nat) (w:World):Prop :=
 ∀ (l:Nat) (J:List Int→World→Prop) (W:World),(∀ s X,J s X→Below w.heap.size w X)→AbidesFrom W.heap.size J →
  (∀ pre x W1,J pre W1→pre.length<N→YieldAt F (n-1) P l #[encZ x] W1 fun e W'=>e=.returned (.bool true)∧J (pre++[x]) W'∧KeepsWalks W1 W') →
  J [] W →
  CallsIn F n P g (#[.func (.yield l) #[] #[]]++lb) W fun e W'=>(∃ v,e=.returned v)∧∃ xs,S xs∧J xs W'
def pfxL (lo hi:Nat):Nat→List Int
 |0=>[]
 |1=>(bitsL lo).map (fun n:Nat=>(n:Int))
 |_=>notesL lo hi
theorem pfxL_len (lo hi k:Nat):(pfxL lo hi k).length≤128:=by
 have h1:=bitsL_len lo
 have h2:=bitsL_len hi
 match k with
 |0=>simp [pfxL]
 |1=>simp [pfxL];omega
 |k+2=>simp [pfxL,notesL];omega
theorem tail_lt {done rest:List Int} {lo hi k:Nat} {x:Int} (h:done++(x::rest)=pfxL lo hi k):done.length<128:=by
 have:=pfxL_len lo hi k
 rw [← h] at this
 simp at this
 omega
theorem bits_andN {p:Nat} (hp:p<18446744073709551616):bits .and .u64 (p:Int) ((p-1:Nat):Int)=((p &&& (p-1):Nat):Int):=bits_and_u64_nat p (p-1) hp (by omega)
theorem wrap_pred {p:Nat} (h0:p≠0) (hp:p<18446744073709551616):IntKind.u64.wrap ((p:Int)-1)=((p-1:Nat):Int):=by rw [IntKind.wrap_u64];omega
set_option maxRecDepth 100000 in
theorem ix_hu:Tryz.prog.underlying 185=some (.array 2 59):=by rfl
theorem ix_two0 (w:World) (a b:Int):(Instr.index 185 (.agg #[.int .u64 a,.int .u64 b]) (.int .i64 0)).run Tryz.prog w=.ok (.int .u64 a) w:=by
 simp [Instr.index,run_underlying ix_hu,asIntOf,go_sem]
theorem ix_two1 (w:World) (a b:Int):(Instr.index 185 (.agg #[.int .u64 a,.int .u64 b]) (.int .i64 1)).run Tryz.prog w=.ok (.int .u64 b) w:=by
 simp [Instr.index,run_underlying ix_hu,asIntOf,go_sem]
attribute [local go_sem] ix_two0 ix_two1
set_option maxRecDepth 100000 in
set_option maxHeartbeats 4000000 in
theorem allnotes_in (n:Nat) (hn:2≤n) (Bs lo hi:Nat) (hlo:lo<18446744073709551616) (hhi:hi<18446744073709551616) (w:World) (hT:HasBits w) (hg:0<w.heap.size) (hB:Bs<w.heap.size)
 (c0:w.cell? ⟨Bs,0,none⟩=some (.int .u64 (lo:Int))) (c1:w.cell? ⟨Bs,1,none⟩=some (.int .u64 (hi:Int))) :
 GivesB Fence.wide n Tryz.prog 104 #[.pointer (some ⟨Bs,0,none⟩)] (fun xs=>xs=notesL lo hi) 128 w:=fun l J W hJb hJ hY h0=>by
 have hb0:=hJb _ _ h0
 have d0:W.cell? ⟨Bs,0,none⟩=some (.int .u64 (lo:Int)):=(hb0.cell (p:=⟨Bs,0,none⟩) hB).trans c0
 have d1:W.cell? ⟨Bs,1,none⟩=some (.int .u64 (hi:Int)):=(hb0.cell (p:=⟨Bs,1,none⟩) hB).trans c1
 refine callsIn_of_wp Tryz.func104 rfl trivial ?_ rfl
 simp only [Tryz.ntmps104,List.size_toArray,List.length_cons,List.length_nil,Nat.reduceAdd,Nat.reduceSub,Array.replicate_succ,Array.replicate_zero,List.push_toArray,List.append_toArray,List.nil_append,List.cons_append]
 gi_wp2
 gi_loopw [10] (fun i wr=>(i=.int .i64 0∧J (pfxL lo hi 0) wr)∨(i=.int .i64 1∧J (pfxL lo hi 1) wr)∨(i=.int .i64 2∧J (pfxL lo hi 2) wr)) (fun i _=>(2-ivO i).toNat)
 case atStart=>exact Or.inl ⟨rfl,h0⟩
 case round =>
  rcases hrel with ⟨rfl,hJs⟩|⟨rfl,hJs⟩|⟨rfl,hJs⟩
  ·gi_wp2
   gi_loopw [4] (fun v wr=>∃ p:Nat,p<18446744073709551616∧v=.int .u64 (p:Int)∧∃ done,J done wr∧done++(bitsL p).map (fun n:Nat=>((64*0+n:Nat):Int))=pfxL lo hi (0+1)) (fun v _=>(ivO v).toNat)
   case atStart=>exact ⟨_,hlo,rfl,_,hJs,by simp [pfxL,notesL]⟩
   case round =>
    obtain ⟨p,hp,rfl,done,hJd,hdone⟩:=hrel
    by_cases hp0:p=0
    ·subst hp0
     have hz:((0:Nat):Int)=0:=rfl
     rw [bitsL_zero,List.map_nil,List.append_nil] at hdone
     gi_wp2
     go_roundw
     case rel=>exact Or.inr (Or.inl ⟨by first|rfl|simp,by rw [← hdone];exact hJd⟩)
     case measure=>simp [ivO]
    ·obtain ⟨e1,e2,e3⟩:=ctz_bits hp0 hp
     rw [e1,List.map_cons] at hdone
     have hTb:=hasBits_below hT hg (hJb _ _ hJd)
     have htz:=tz_in p hp _ hTb
     have hne:¬ ((p:Int)=0):=by omega
     have hw1:=wrap_pred hp0 hp
     have hw2:=bits_andN hp
     have hlt:=tail_lt hdone
     obtain ⟨x0,hx0⟩:∃ x0:Int,((64*0+Lib.ctz 64 p:Nat):Int)=x0:=⟨_,rfl⟩
     rw [hx0] at hdone
     generalize Lib.ctz 64 p=t at *
     have hw4:IntKind.i64.wrap (0+(t:Int))=x0:=by rw [wrapB (by omega) (by omega)];omega
     have hw5:IntKind.i64.wrap (t:Int)=x0:=by rw [wrapB (by omega) (by omega)];omega
     obtain ⟨fn,tmps,assign,body,hy,hR⟩:=hY done x0 _ hJd hlt
     gi_wp2
     refine ⟨trivial,fun _=>by omega,(callsIn_wide.2 htz).mono ?_⟩
     rintro _ _ ⟨rfl,rfl⟩
     gi_wp2
     refine ⟨fun _=>by omega,hR.mono ?_⟩
     rintro e W3 ⟨rfl,hJ3,hk3⟩
     gi_wp2
     go_roundw
     case rel=>exact ⟨p &&& (p-1),by omega,by first|rfl|simp,done++[x0],hJ3,by rw [List.append_assoc];exact hdone⟩
     case measure=>simp [ivO];omega
  ·gi_wp2
   gi_loopw [4] (fun v wr=>∃ p:Nat,p<18446744073709551616∧v=.int .u64 (p:Int)∧∃ done,J done wr∧done++(bitsL p).map (fun n:Nat=>((64*1+n:Nat):Int))=pfxL lo hi (1+1)) (fun v _=>(ivO v).toNat)
   case atStart=>exact ⟨_,hhi,rfl,_,hJs,by simp [pfxL,notesL]⟩
   case round =>
    obtain ⟨p,hp,rfl,done,hJd,hdone⟩:=hrel
    by_cases hp0:p=0
    ·subst hp0
     have hz:((0:Nat):Int)=0:=rfl
     rw [bitsL_zero,List.map_nil,List.append_nil] at hdone
     gi_wp2
     go_roundw
     case rel=>exact Or.inr (Or.inr ⟨by first|rfl|simp,by rw [← hdone];exact hJd⟩)
     case measure=>simp [ivO]
    ·obtain ⟨e1,e2,e3⟩:=ctz_bits hp0 hp
     rw [e1,List.map_cons] at hdone
     have hTb:=hasBits_below hT hg (hJb _ _ hJd)
     have htz:=tz_in p hp _ hTb
     have hne:¬ ((p:Int)=0):=by omega
     have hw1:=wrap_pred hp0 hp
     have hw2:=bits_andN hp
     have hlt:=tail_lt hdone
     obtain ⟨x0,hx0⟩:∃ x0:Int,((64*1+Lib.ctz 64 p:Nat):Int)=x0:=⟨_,rfl⟩
     rw [hx0] at hdone
     generalize Lib.ctz 64 p=t at *
     have hw4:IntKind.i64.wrap (64+(t:Int))=x0:=by rw [wrapB (by omega) (by omega)];omega
     obtain ⟨fn,tmps,assign,body,hy,hR⟩:=hY done x0 _ hJd hlt
     gi_wp2
     refine ⟨trivial,fun _=>by omega,(callsIn_wide.2 htz).mono ?_⟩
     rintro _ _ ⟨rfl,rfl⟩
     gi_wp2
     refine ⟨fun _=>by omega,hR.mono ?_⟩
     rintro e W3 ⟨rfl,hJ3,hk3⟩
     gi_wp2
     go_roundw
     case rel=>exact ⟨p &&& (p-1),by omega,by first|rfl|simp,done++[x0],hJ3,by rw [List.append_assoc];exact hdone⟩
     case measure=>simp [ivO];omega
  ·gi_wp2
   go_end0
   exact ⟨⟨_,rfl⟩,_,rfl,hJs⟩
end Go.Proofs.YtcnlhgmkelkikaaGreatDoor
set_option linter.unusedSimpArgs false
set_option linter.unusedVariables false
namespace Go.Proofs.YtcnlhgmkelkikaaGreatDoor
open Go Go.Proofs Go.Shelf Go.RowKit
attribute [local go_sem] Oper.semAt_some
section
variable {P:Program} {ρ:Ren}
set_option maxRecDepth 100000 in
set_option maxHeartbeats 2000000 in
theorem appendB_in (L:SlLaysZI.n11 P ρ) (F:Fence) (n:Nat) (h11:F.fn (ρ.f 11)) (hro:F.round=none) (hn:2≤n) (g:Nat) (lb:Array Value) (hFg:F.fn g) (eg:∀ args w,(callFunc g args).run P w=.ok (.enter g args) w)
 (S:List Int→Prop) (N:Nat) (hN:N≤maxLen) (hNb:N*8≤140737488355328) (w:World) (hseq:GivesB F (n-1) P g lb S N w) :
 CallsIn F n P (ρ.f 11) #[.slice none 0 0,.func (.func g) #[] lb] w fun e w'=>∃ (v:Value) (ss:List Int),e=.returned v∧S ss∧w'.ownsRow w.heap.size (ρ.t 26) 1 v ss.length (ss.map encZ)∧(v=.slice none 0 0↔ss=[])∧Below w.heap.size w w':=by
 have h1:1≤n:=by omega
 have mixed:=L.mixed;have t0:=L.t0;have a0:=L.a0;have z0:=L.z0;have v0:=L.v0;have t24:=L.t24;have a24:=L.a24;have z24:=L.z24;have v24:=L.v24;have t26:=L.t26;have a26:=L.a26;have z26:=L.z26;have v26:=L.v26;have t28:=L.t28;have a28:=L.a28;have z28:=L.z28;have v28:=L.v28
 have hne:ρ.t 24≠ρ.t 26:=fun e=>by have h:=L.t24;rw [e,L.t26] at h;cases h
 have u0:=run_underlying L.t0;have u24:=run_underlying L.t24;have u26:=run_underlying L.t26;have u28:=run_underlying L.t28
 obtain ⟨_,_,FG⟩:=L.f11
 refine callsIn_of_wp_marks FG rfl h11 ?_ hro
 simp only [SlBodyZ.n11_ntmps ρ,List.size_toArray,List.length_cons,List.length_nil,Nat.reduceAdd,Nat.reduceSub,Array.replicate_succ,Array.replicate_zero,List.push_toArray,List.append_toArray,List.nil_append,List.cons_append]
 gi_wp2
 refine wpIn_rangeFunc ?_
 intro fn hfn
 rw [hro]
 obtain ⟨W0,hW0⟩:∃ W0,w.alloc (.cells #[.slice none 0 0] (ρ.t 24))=W0:=⟨_,rfl⟩
 have hs0:W0.heap.size=w.heap.size+1:=by rw [← hW0];simp
 have hv0:W0.heap[w.heap.size]?=some (.cells #[.slice none 0 0] (ρ.t 24) (0,0)):=by rw [← hW0];exact World.alloc_heap_new w _
 have hb0:Below w.heap.size w W0:=by rw [← hW0];exact (Below.refl _ w).alloc (Nat.le_refl _) _
 rw [hW0]
 obtain ⟨W1,hW1⟩:∃ W1,(W0.alloc (.deferred (some []))).alloc (.loop (AnyZI.apRec ρ fn (.func (.func g) #[] lb) w.heap.size W0.heap.size .ready none))=W1:=⟨_,rfl⟩
 have hold:∀ k,k<W0.heap.size→W1.heap[k]?=W0.heap[k]?:=fun k hk=>by
  rw [← hW1];exact (Below.heap_alloc _ _ k (by simp;omega)).trans (Below.heap_alloc _ _ k hk)
 have hb1:Below w.heap.size w W1:=by rw [← hW1];exact (hb0.alloc hb0.size _).alloc (by have:=hb0.size;simp;omega) _
 have hs1:W1.heap.size=W0.heap.size+2:=by rw [← hW1];simp
 have hM:AnyZI.ApAt ρ w fn (.func (.func g) #[] lb) w.heap.size (W0.heap.size+1) W0.heap.size [] W1 :=
  ⟨⟨_,(hold w.heap.size (by omega)).trans hv0,⟨rfl,.inl ⟨rfl,rfl⟩⟩,by simp⟩,
   by rw [← hW1];have:=World.alloc_heap_new (W0.alloc (.deferred (some []))) (.loop (AnyZI.apRec ρ fn (.func (.func g) #[] lb) w.heap.size W0.heap.size .ready none));rwa [World.size_alloc] at this,
   by rw [← hW1];exact (Below.heap_alloc _ _ _ (by simp)).trans (World.alloc_heap_new W0 _),hb1⟩
 refine ⟨W0.heap.size+1,[{ target:=.collected W0.heap.size,args:=#[] }],W1,{ target:=.fn (.func g) lb,args:=#[.func (.yield (W0.heap.size+1)) #[] #[]] },W1,g,
  #[.func (.yield (W0.heap.size+1)) #[] #[]]++lb,W1,?_,?_,?_,?_,fun _=>h1,?_⟩
 ·rw [← hW1];exact run_enterLoop_outer _ _ _ _ _
 ·simp [resolve,go_sem]
 ·intro f' hf';simp [Target.leads] at hf';subst hf';exact hFg
 ·simp [invoke,go_sem,eg]
 ·refine (hseq (W0.heap.size+1) (AnyZI.ApAt ρ w fn (.func (.func g) #[] lb) w.heap.size (W0.heap.size+1) W0.heap.size) W1 (fun _ _ h=>h.below) (AnyZI.ap_abides ρ _ _ _ _ _ _ _ hb1.size)
   (fun pre x W hJ hl=>AnyZI.apYield { L with } F (n-1-1) w fn hfn _ w.heap.size (W0.heap.size+1) W0.heap.size (by omega) (by omega) (by omega) (Nat.le_refl _) (by omega) N hN hNb pre x W hJ hl) hM).mono ?_
  rintro e W2 ⟨⟨v0,rfl⟩,ss,hS,h2⟩
  obtain ⟨v,hv,hrow,hnil⟩:=h2.box
  have hend:=run_endLoop (P:=P) h2.L (by simp [AnyZI.apRec])
  obtain ⟨W3,hW3⟩:∃ W3,W2.putObj (W0.heap.size+1) (.loop { AnyZI.apRec ρ fn (.func (.func g) #[] lb) w.heap.size W0.heap.size .ready none with state:=.exhausted })=W3:=⟨_,rfl⟩
  rw [hW3] at hend
  have hg3:W2.grownBy W3 (some (W0.heap.size+1)):=by rw [← hW3];exact grownBy_putObj_a _ _ _
  have hv3:W3.heap[w.heap.size]?=some (.cells #[v] (ρ.t 24) (0,0)):=by rw [← hW3];exact (World.putObj_heap_other (by omega)).trans hv
  have hK3:W3.heap[W0.heap.size]?=some (.deferred (some [])):=by rw [← hW3];exact (World.putObj_heap_other (by omega)).trans h2.K
  have hrow3:=hrow.kept hg3 (ownsRow_ne_a hrow h2.L (fun cur e=>by first|cases e|exact hne (Obj.cells.inj e).2.1))
  have hb3:Below w.heap.size w W3:=h2.below.grown hg3 h2.below.size (fun k e=>by cases e;omega)
  obtain ⟨hc3,hf3⟩:=cell_of_box_a hv3
  clear hW3
  refine ⟨none,W3,hend,?_⟩
  gi_wp2
  rw [← hs0]
  refine ⟨by simp,.inl ⟨_,_,rfl,run_takeDeferred hK3,?_⟩⟩
  exact ⟨_,results_tmp rfl _ _ _,v,ss,rfl,hS,hrow3.kept (grownBy_putObj_a _ _ _) (ownsRow_ne_a hrow3 hK3 (fun cur e=>by first|cases e|exact hne (Obj.cells.inj e).2.1)),hnil,hb3.grown (grownBy_putObj_a _ _ _) hb3.size (fun k e=>by cases e;omega)⟩
set_option maxHeartbeats 1000000 in
theorem collectB_in (L:SlLaysZI.n8 P ρ) (F:Fence) (n:Nat) (h8:F.fn (ρ.f 8)) (h11:F.fn (ρ.f 11)) (hro:F.round=none) (hn:3≤n) (g:Nat) (lb:Array Value) (hFg:F.fn g) (eg:∀ args w,(callFunc g args).run P w=.ok (.enter g args) w)
 (S:List Int→Prop) (N:Nat) (hN:N≤maxLen) (hNb:N*8≤140737488355328) (w:World) (hseq:GivesB F (n-1-1) P g lb S N w) :
 CallsIn F n P (ρ.f 8) #[.func (.func g) #[] lb] w fun e w'=>∃ (v:Value) (ss:List Int),e=.returned v∧S ss∧w'.ownsRow w.heap.size (ρ.t 26) 1 v ss.length (ss.map encZ)∧(v=.slice none 0 0↔ss=[])∧Below w.heap.size w w':=by
 have h1:1≤n:=by omega
 have e11:∀ args w,(callFunc (ρ.f 11) args).run P w=.ok (.enter (ρ.f 11) args) w:=L.f11.enters rfl
 have mixed:=L.mixed;have t0:=L.t0;have a0:=L.a0;have z0:=L.z0;have v0:=L.v0;have t24:=L.t24;have a24:=L.a24;have z24:=L.z24;have v24:=L.v24;have t26:=L.t26;have a26:=L.a26;have z26:=L.z26;have v26:=L.v26;have t28:=L.t28;have a28:=L.a28;have z28:=L.z28;have v28:=L.v28
 have u0:=run_underlying L.t0;have u24:=run_underlying L.t24;have u26:=run_underlying L.t26;have u28:=run_underlying L.t28
 obtain ⟨_,_,FG⟩:=L.f8
 refine callsIn_of_wp FG rfl h8 ?_ hro
 simp only [SlBodyZ.n8_ntmps ρ,List.size_toArray,List.length_cons,List.length_nil,Nat.reduceAdd,Nat.reduceSub,Array.replicate_succ,Array.replicate_zero,List.push_toArray,List.append_toArray,List.nil_append,List.cons_append]
 gi_wp2_with (gi_at_fn (ρ.f 11);refine (appendB_in { L with } F (n-1) h11 hro (by omega) g lb hFg eg S N hN hNb _ hseq).mono ?_;rintro e w' ⟨v,ss,rfl,hS,hrow,hnil,hb⟩)
 go_ret
 exact ⟨v,ss,rfl,hS,hrow,hnil,hb⟩
end
end Go.Proofs.YtcnlhgmkelkikaaGreatDoor
set_option linter.unusedSimpArgs false
set_option linter.unusedVariables false
namespace Go.Proofs.YtcnlhgmkelkikaaGreatDoor
open Go Go.Proofs Go.Shelf Go.RowKit
attribute [local go_sem] Oper.semAt_some
theorem ownsRow_base {w:World} {b b':Nat} {e:TypeId} {s:Nat} {v:Value} {n:Nat} {xs:List Value} (h:w.ownsRow b e s v n xs) (hb:b'≤b):w.ownsRow b' e s v n xs:=by
 obtain ⟨h1,h2⟩:=h
 refine ⟨h1,?_⟩
 rcases h2 with h|⟨g,cap,cur,e1,e2,r⟩
 ·exact .inl h
 ·exact .inr ⟨g,cap,cur,e1,Nat.le_trans hb e2,r⟩
set_option maxRecDepth 100000 in
theorem all_in (lo hi:Int) (w:World):Calls Tryz.prog 92 #[.agg #[.int .u64 lo,.int .u64 hi]] w fun e w'=>e=.returned (.func (.func 104) #[] #[.pointer (some ⟨w.heap.size,0,none⟩)])∧w'=w.alloc (.cells #[.int .u64 lo,.int .u64 hi] 92):=by
 refine (callsIn_wide (n:=1)).1 ?_
 refine callsIn_of_wp Tryz.func92 rfl trivial ?_ rfl
 simp only [Tryz.ntmps92,List.size_toArray,List.length_cons,List.length_nil,Nat.reduceAdd,Nat.reduceSub,Array.replicate_succ,Array.replicate_zero,List.push_toArray,List.append_toArray,List.nil_append,List.cons_append]
 gi_wp2
 go_ret
 exact ⟨rfl,rfl⟩
theorem ent_alls (args:Array Value) (w:World):(callFunc 104 args).run Tryz.prog w=.ok (.enter 104 args) w:=enters_of Tryz.func104 rfl rfl args w
set_option maxRecDepth 100000 in
theorem members_in (lo hi:Nat) (hlo:lo<18446744073709551616) (hhi:hi<18446744073709551616) (w:World) (hT:HasBits w) (hg:0<w.heap.size) :
 Calls Tryz.prog 71 #[.agg #[.int .u64 (lo:Int),.int .u64 (hi:Int)]] w fun e w'=>∃ v,e=.returned v∧w'.ownsRow w.heap.size 3 1 v (notesL lo hi).length ((notesL lo hi).map encZ)∧(notesL lo hi=[]→v=.slice none 0 0)∧Below w.heap.size w w':=by
 refine (callsIn_wide (n:=9)).1 ?_
 refine callsIn_of_wp Tryz.func71 rfl trivial ?_ rfl
 simp only [Tryz.ntmps71,List.size_toArray,List.length_cons,List.length_nil,Nat.reduceAdd,Nat.reduceSub,Array.replicate_succ,Array.replicate_zero,List.push_toArray,List.append_toArray,List.nil_append,List.cons_append]
 gi_wp2
 refine ⟨trivial,(callsIn_wide.2 (all_in _ _ _)).mono ?_⟩
 rintro _ _ ⟨rfl,rfl⟩
 gi_wp2
 obtain ⟨w1,hw1⟩:∃ w1,(w.alloc (.cells #[.int .u64 (lo:Int),.int .u64 (hi:Int)] 92)).alloc (.cells #[.int .u64 (lo:Int),.int .u64 (hi:Int)] 92)=w1:=⟨_,rfl⟩
 rw [hw1]
 have hb1:Below w.heap.size w w1:=by rw [← hw1];exact ((Below.refl _ w).alloc (Nat.le_refl _) _).alloc (by simp) _
 have hs1:w1.heap.size=w.heap.size+2:=by rw [← hw1];simp
 have c0:w1.cell? ⟨w.heap.size+1,0,none⟩=some (.int .u64 (lo:Int)):=by rw [← hw1];simp [go_sem]
 have c1:w1.cell? ⟨w.heap.size+1,1,none⟩=some (.int .u64 (hi:Int)):=by rw [← hw1];simp [go_sem]
 refine ⟨trivial,(collectB_in clLay Fence.wide 8 trivial trivial rfl (by omega) 104 #[.pointer (some ⟨w.heap.size+1,0,none⟩)] trivial ent_alls (fun xs=>xs=notesL lo hi) 128 (by decide) (by decide) w1
  (allnotes_in 6 (by omega) _ lo hi hlo hhi w1 (hasBits_below hT hg hb1) (by omega) (by omega) c0 c1)).mono ?_⟩
 rintro e w' ⟨v,ss,rfl,rfl,hrow,hnil,hb⟩
 gi_wp2
 go_ret
 exact ⟨v,rfl,ownsRow_base hrow (by omega),fun h=>hnil.2 h,hb1.trans (hb.mono (by omega))⟩
end Go.Proofs.YtcnlhgmkelkikaaGreatDoor
set_option linter.unusedSimpArgs false
set_option linter.unusedVariables false
namespace Go.Proofs.YtcnlhgmkelkikaaGreatDoor
open Go Go.Am Go.Vm
structure HasBitsTab (F:Nat) (laid:List (String×DataW Unit)):Prop where
 nm:Tryz.prog.globalNamed "math/bits.deBruijn64tab"=some 0
 tab:∃ e,globAt Tryz.prog F laid 0=some (e,(Lib.deBruijn64tab.map (fun n:Nat=>(n:Int))).map fun z=>Value.int .u8 z)
 lt:0<Tryz.prog.globals.size
theorem hasBits_of {w:World} (hn:Tryz.prog.globalNamed "math/bits.deBruijn64tab"=some 0) (h:Lib.TabIs Tryz.prog w "math/bits.deBruijn64tab" .u8 (Lib.deBruijn64tab.map (fun n:Nat=>(n:Int)))):HasBits w∧0<w.heap.size:=by
 unfold Lib.TabIs World.var? at h
 rw [hn,Option.bind_some] at h
 split at h
 ·rename_i cs t f hc
  cases h
  refine ⟨fun j hj=>?_,?_⟩
  ·unfold World.cell?
   rw [hc]
   simp [hj]
  ·rcases Nat.lt_or_ge 0 w.heap.size with h1|h1
   ·exact h1
   ·rw [Array.getElem?_eq_none h1] at hc;cases hc
 ·cases h
def memF2:List Value→Option (List Value)
 |[.int .u64 lo,.int .u64 hi]=>if (0≤lo∧lo<18446744073709551616)∧(0≤hi∧hi<18446744073709551616) then some ((notesL lo.toNat hi.toNat).map Go.encZ) else none
 |_=>none
def memF:FrF
 |[.agg cs]=>memF2 cs.toList
 |_=>none
theorem memF2_some {l r:List Value} (h:memF2 l=some r):∃ lo hi:Int,l=[.int .u64 lo,.int .u64 hi]∧(0≤lo∧lo<18446744073709551616)∧(0≤hi∧hi<18446744073709551616)∧r=(notesL lo.toNat hi.toNat).map Go.encZ:=by
 unfold memF2 at h
 split at h
 ·rename_i lo hi
  split at h
  ·rename_i hb;cases h;exact ⟨lo,hi,rfl,hb.1,hb.2,rfl⟩
  ·cases h
 ·cases h
theorem mem_sound {F:Nat} {laid:List (String×DataW Unit)} (ht:HasBitsTab F laid):∀ ι m w us (us':Array Value) l,Sim Tryz.prog (globList Tryz.prog F laid) ι m w→(∀ k∈globList Tryz.prog F laid,m.get k=(globMem Tryz.prog F laid).get k)→LRel ι m.gen us us'.toList→memF us=some l →
 l.all Am.plainCell=true∧Calls Tryz.prog 71 us' w fun r w'=>∃ v,r=.returned v∧w'.ownsRow w.heap.size 3 1 v l.length l∧(l=[]→v=.slice none 0 0)∧Go.RowKit.Below w.heap.size w w':=by
 intro ι m w us us' l hs hg hl h
 unfold memF at h
 split at h
 ·rename_i cs
  obtain ⟨lo,hi,e0,hb1,hb2,rfl⟩:=memF2_some h
  ·have e3:cs=#[.int .u64 lo,.int .u64 hi]:=Array.ext' e0
   subst e3
   obtain ⟨v',rfl,hv⟩:=LRel.one hl
   have hv':=hv.eq_of_plain rfl
   subst hv'
   obtain ⟨e,t1⟩:=ht.tab
   obtain ⟨h1,h2⟩:=hasBits_of ht.nm (sim_tab hs hg ht.nm t1 ht.lt)
   have e1:((lo.toNat:Nat):Int)=lo:=by omega
   have e2:((hi.toNat:Nat):Int)=hi:=by omega
   refine ⟨?_,?_⟩
   ·rw [List.all_eq_true]
    intro x hx
    obtain ⟨z,_,rfl⟩:=List.mem_map.1 hx
    rfl
   ·have:=members_in lo.toNat hi.toNat (by omega) (by omega) w h1 h2
    rw [e1,e2] at this
    refine this.mono ?_
    rintro e w' ⟨v,rfl,q1,q2,q3⟩
    exact ⟨v,rfl,by rw [List.length_map];exact q1,fun h0=>q2 (List.map_eq_nil_iff.1 h0),q3⟩
 ·cases h
end Go.Proofs.YtcnlhgmkelkikaaGreatDoor
