/-
  slices.Delete at []int, at this program, over any world, for any capacity. (The kit's contract asks that the capacity be an int; its proof, turned to this program, does not use that.) Conditions: in each statement.
-/
import Derived.Test.YtmfnchgkffhpfaaDoorProg
import Derived.Shelf.RegionOpenPlain
import Derived.WalkKit
import Derived.Deep.LoopGhost
import Derived.Deep.RegionLaw
import Derived.Lib.Walk
import Derived.Sort.WalkB12
import Derived.Lib.SliceRun
import Derived.Lib.SlicesDelete
import Derived.Shelf.Abstract
set_option linter.unusedSimpArgs false
set_option linter.unusedVariables false
set_option linter.unusedSectionVars false
namespace Go.Proofs.YtmfnchgkffhpfaaDoor
open Go Go.Proofs Go.Shelf Go.RowKit Go.Lib Go.Sort
theorem int_info0:(match Tryd.prog.info? 3 with|some i=>decide (i.size=1)&&decide (i.bytes=8)&&(match i.zero with|some (.int .i64 n)=>decide (n=0)|_=>false)|none=>false)=true:=by kernel_rfl
theorem int_info3:(Tryd.prog.info? 3).map (fun i=>(i.zero,i.size,i.bytes))=some (some (Value.int IntKind.i64 0),1,8):=by
 have h:=int_info0
 generalize Tryd.prog.info? 3=o at *
 cases o with
 |none=>cases h
 |some i =>
  simp only [Bool.and_eq_true,decide_eq_true_eq] at h
  obtain ⟨⟨h1,h2⟩,h3⟩:=h
  split at h3
  ·rename_i n hz
   simp only [decide_eq_true_eq] at h3
   subst h3
   simp [h1,h2,hz]
  ·cases h3
set_option maxHeartbeats 4000000 in
set_option maxRecDepth 1000000 in
theorem delete_arr_in (blk off cap i j:Nat) (d:Array Int) (w:World) (hH:Holds encI w blk off d) (hcap:d.size≤cap) (hlt:i<j) (hj:j≤d.size) :
 Calls Tryd.prog 44 #[.slice (some ⟨blk,off,none⟩) d.size cap,.int .i64 i,.int .i64 j] w fun e w'=>e=.returned (.slice (some ⟨blk,off,none⟩) (d.size-(j-i)) cap)∧∃ q,w'=putRow encI (Sort.ahead w q) blk off (d.toList.take i++d.toList.drop j++List.replicate (j-i) 0).toArray:=by
 have mixed:Tryd.prog.follows .mixedOrders=true:=by kernel_rfl
 have t3:=Tryd.underlying3;have v3:=Tryd.zeroValue3
 have t22:=Tryd.underlying25
 have i3:=int_info3
 obtain ⟨i0,hi0,hz0,hz1,hz2⟩:=info_parts i3
 obtain ⟨news,hnews⟩:∃ news,news=(d.toList.drop j).map encI:=⟨_,rfl⟩
 have hlen:news.length=d.size-j:=by rw [hnews];simp
 have hget:∀ t,t<d.size-j→news[t]?=some (encI d[j+t]!):=by
  intro t ht
  rw [hnews,List.getElem?_map,List.getElem?_drop,Array.getElem?_toList,getElem!_pos d (j+t) (by omega),Array.getElem?_eq_getElem (by omega)]
  rfl
 obtain ⟨A,hA,hsrc⟩:∃ A:Addr,(if cap=j then some (⟨blk,off,none⟩:Addr) else some ⟨blk,off+j,none⟩)=some A∧Hid (∀ t u,news[t]?=some u→w.drew.cell? (A.add t)=some u):=by
  by_cases h:cap=j
  ·refine ⟨⟨blk,off,none⟩,by simp [h],fun t u hu=>?_⟩
   have h0:news.length=0:=by rw [hlen];omega
   rw [List.length_eq_zero_iff.1 h0] at hu
   simp at hu
  ·refine ⟨⟨blk,off+j,none⟩,by simp [h],fun t u hu=>?_⟩
   have ht:t<d.size-j:=by
    have:=(List.getElem?_eq_some_iff.1 hu).1
    rwa [hlen] at this
   rw [hget t ht] at hu
   rw [Addr.add_lit,show off+j+t=off+(j+t) by omega]
   exact (hH (j+t) (by omega)).1.trans hu
 have s1:Hid (news.length=(d.size-j)*1):=by rw [Nat.mul_one];exact hlen
 have s2:Hid (∀ u∈news,u.oneCell'=true):=by
  intro u hu
  rw [hnews] at hu
  obtain ⟨x,_,rfl⟩:=List.mem_map.1 hu
  rfl
 have s3:Hid (∀ t,t<news.length→(w.drew.cell? ⟨blk,off+i*1+t,none⟩).isSome=true∧w.drew.frozen? ⟨blk,off+i*1+t,none⟩=false):=by
  intro t ht
  rw [hlen] at ht
  rw [Nat.mul_one,Nat.add_assoc]
  exact ⟨by show (w.cell? _).isSome=true;rw [(hH (i+t) (by omega)).1];rfl,(hH (i+t) (by omega)).2⟩
 obtain ⟨W1,hW1⟩:∃ W1,W1=w.drew.setCells blk (off+i*1) news:=⟨_,rfl⟩
 have hW1':W1=putRow encI (Sort.ahead w 1) blk off (lay d i (d.toList.drop j)):=by
  rw [hW1,hnews,Nat.mul_one,← putRow_setCells encI (Sort.ahead w 1) blk off _ d i (by simp;omega),putRow_self encI (Sort.ahead w 1) blk off d (holds_ahead encI w 1 blk off d hH)]
  rfl
 have hH1:Holds encI W1 blk off (lay d i (d.toList.drop j)):=by rw [hW1'];exact holds_putRow encI _ blk off d _ (holds_ahead encI w 1 blk off d hH) (lay_size _ _ _)
 have hcl:∀ ty,(Builtin.clear_ #[25] ty #[.slice (some ⟨blk,off+(i+(d.size-j)),none⟩) (d.size-(i+(d.size-j))) (cap-(i+(d.size-j)))]).run Tryd.prog W1=.ok (.tuple #[]) (W1.setCells blk (off+(i+(d.size-j))) (List.replicate (d.size-(i+(d.size-j))) (encI 0))) :=
  fun ty=>Lib.run_clear_slice W1 _ _ ty _ t22 v3 rfl rfl blk (off+(i+(d.size-j))) _ _ (by omega) (fun t ht=>by rw [show off+(i+(d.size-j))+t=off+(i+(d.size-j)+t) by omega,(hH1 _ (by rw [lay_size];omega)).1];rfl) (fun t ht=>by rw [show off+(i+(d.size-j))+t=off+(i+(d.size-j)+t) by omega];exact (hH1 _ (by rw [lay_size];omega)).2)
 have X:Aside (W1=putRow encI (Sort.ahead w 1) blk off (lay d i (d.toList.drop j))):=hW1'
 have hW:Hid (W1=w.drew.setCells blk (off+i*1) news):=hW1
 have hic:i≤cap:=by omega
 have hjc:j≤cap:=by omega
 clear hW1 hW1' hH1 hH hget hnews hlen
 go_enter Tryd.func44,Tryd.ntmps44
 go_wp2_with fail
 go_region_law_o (refine step_append_room rfl (.tmp 22) (.tmp 25) 25 rfl 3 i0 1 t22 hi0 hz1 blk off i cap (by simp [Act.eval,Act.put]) A (d.size-j) (cap-j) news (by simp [Act.eval,Act.put]) s1.out hsrc.out s2.out (by omega) s3.out ?_;rw [← hW.out])
 go_wp2
 go_ret
 refine ⟨by rw [show d.size-(j-i)=i+(d.size-j) by omega];rfl,1,?_⟩
 rw [← delete_arr d i j 0 (by omega) hj,← putRow_setCells encI _ blk off _ _ (i+(d.size-j)) (by rw [lay_size];simp;omega),← X.out,List.map_replicate,show d.size-(i+(d.size-j))=j-i by omega]
end Go.Proofs.YtmfnchgkffhpfaaDoor
