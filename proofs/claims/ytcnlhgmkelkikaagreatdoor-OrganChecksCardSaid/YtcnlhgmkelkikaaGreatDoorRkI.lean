/-
  The law of ranks: Make. Conditions: in each statement.
-/
import Derived.Test.YtcnlhgmkelkikaaGreatDoorRkH
import Derived.Test.YtcnlhgmkelkikaaGreatDoorVmE
set_option linter.unusedSimpArgs false
set_option linter.unusedVariables false
namespace Go.Proofs.YtcnlhgmkelkikaaGreatDoor
open Go Go.Am Go.Vm
attribute [local irreducible] VVal VOps VOpsD VWp VCalls VFun VFunV QSeq QBlk QLoop Vm.Done DoneV DoneI
instance encStr:Enc (List UInt8):={ default:=[],enc:=fun s=>[.str (bs s)],size:=1,len:=fun _=>rfl }
structure RPlan where
 tone:Nat
 feet:Nat
 first:Int
 pipes:Nat
 wind:List Nat
def RPlan.enc (x:RPlan):List FV:=[.int .u8 (x.tone:Int),.int .u8 (x.feet:Int),.int .i8 x.first,.int .u8 (x.pipes:Int),.int .u8 ((gi x.wind 0:Nat):Int),.int .u8 ((gi x.wind 1:Nat):Int),.int .u8 ((gi x.wind 2:Nat):Int),.int .u8 ((gi x.wind 3:Nat):Int),.int .u8 ((gi x.wind 4:Nat):Int)]
structure RPlan.Ok (x:RPlan):Prop where
 tone:x.tone<256
 feet:x.feet<256
 first:-128≤x.first∧x.first≤127
 pipes:x.pipes<256
 wind:∀ i,gi x.wind i<256
def tones:List (List UInt8):=[[79,112,101,110],[70,108,117,116,101],[82,101,101,100]]
def windK (x:RPlan):Nat→List Int
 |0=>[]
 |k+1=>windK x k++[((gi x.wind (k % 5):Nat):Int)]
theorem windK_len (x:RPlan):∀ k,(windK x k).length=k
 |0=>rfl
 |k+1=>by simp [windK,windK_len x k]
def mkR (x:RPlan) (i:Int):Rnk:=⟨[82,UInt8.ofNat (48+i % 10).toNat],gi tones (x.tone % 3),gi feetL (x.feet % 16),x.first,windK x (1+x.pipes % 25)⟩
set_option maxRecDepth 100000 in
set_option maxHeartbeats 1000000 in
theorem make_spec (x:RPlan) (hx:x.Ok) (i:Int) (hi:0≤i∧i≤1000):VFun env 41 [.agg x.enc,.int .i64 i] (.p (.agg (Enc.enc (mkR x i)))):=by
 obtain ⟨h1,h2,h3,h4,h5⟩:=hx
 have hf:=feet_spec x.feet h2
 have hlt:x.tone % 3<3:=Nat.mod_lt _ (by decide)
 refine VFun.enter (env_none (by decide)) Tryz.func41 rfl (by kernel_rfl) (by simp [Tryz.ntmps41]) ?_
 repeat' (first
  |(refine VOpsD.atOp 18 ?_;refine VOpsD.ghost (Ghost.freeze 14 rfl rfl) ?_)
  |apply VWp.assoc
  |apply VWp.rseq
  |apply VWp.rseqD
  |apply VWp.blockSeq
  |apply VOps.nil
  |apply VOpsD.nil
  |apply VOps.one
  |(apply VOpsD.bar;decide +kernel)
  |apply VOpsD.quiet
  |(apply VVal.fn;rfl;rfl;exact hf;intro _;rfl)
  |(apply VVal.ofByte1;rfl;rfl;rfl;rfl;rfl;omega)
  |(apply VVal.indexN (l:=tones) (i:=x.tone % 3);rfl;rfl;rfl;exact hlt;rfl)
  |(apply VVal.assign;rfl)
  |(apply VVal.move;rfl)
  |(apply VVal.add64;rfl;rfl;omega)
  |(apply VVal.remI;rfl;rfl;omega;omega)
  |(apply VVal.load;rfl;rfl)
  |(apply VVal.fieldB;rfl;rfl;rfl)
  |(apply VVal.box;rfl;trivial)
  |(apply VVal.alloc;rfl)
  |(apply VVal.storeB;rfl;rfl;rfl;trivial;rfl;rfl;exact lt_dec rfl;exact le_dec rfl)
  |(apply VVal.build;rfl;rfl;rfl;rfl;rfl)
  |(apply VVal.buildSlice;rfl;rfl;rfl;decide;rfl;rfl;rfl)
  |(apply VVal.addS;rfl;rfl;(first|omega|(simp only [List.length_take,List.length_drop,List.length_append,List.length_singleton,List.length_cons,List.length_nil]<;>omega)))
  |(apply VVal.convI;rfl;rfl;rfl;rfl;omega)
  |(apply VVal.convB;rfl;rfl;rfl;rfl;omega))
 refine VWp.ghost (Ghost.adoptCell 4 5 3 rfl rfl) ?_
 refine VWp.loopQ (fun k:Nat=>[(2,.ref 0 0),(4,.ref 1 0),(5,.ref 4 0),(6,.p (.int .i64 (k:Int)))]) (fun k=>[(5,.vec 3 (cells (windK x k)) (windK x k).length true),(4,.box 44 [.p (.str (bs [82,UInt8.ofNat (48+i % 10).toNat])),.p (.str (bs (gi tones (x.tone % 3)))),.p (.int .i64 (gi feetL (x.feet % 16)).num),.p (.int .i64 (gi feetL (x.feet % 16)).den),.p (.int .i64 x.first),.vec 5 (windK x k).length 0 (windK x k).length]),(1,.box 44 [.p (.str ⟨#[]⟩),.p (.str ⟨#[]⟩),.p (.int .i64 0),.p (.int .i64 0),.p (.int .i64 0),.p (.val (.slice none 0 0))]),(0,.box 114 (x.enc.map .p))]) 6 (fun k=>k≤1+x.pipes % 25) (fun k=>1+x.pipes % 25-k) 0 (by omega) (by omega) ⟨by omega,?_,?_⟩ ?_
 ·repeat (first|exact LCov.nil|refine LCov.same trivial rfl ?_|refine LCov.same (lt_dec rfl) rfl ?_|refine LCov.same ⟨trivial,lt_dec rfl,lt_dec rfl,lt_dec rfl,trivial⟩ rfl ?_|refine LCov.same ⟨trivial,lt_dec rfl,lt_dec rfl,trivial⟩ rfl ?_|refine LCov.same ⟨trivial,trivial⟩ rfl ?_|refine LCov.cons trivial rfl (.of_eq (lst_len (by simp<;>omega))) ?_)
 ·repeat (first|exact HCov.nil|(refine HCov.cons (lt_dec rfl) ?_ rfl ?_ ?_;(first|exact trivial|exact PVs.under_pure _ _|(simp [HB.under,PVs.under,PV.under]));(first|exact HLe.refl _|exact HLe.vec (FLes.refl _) (by simp))))
 intro k hk
 have hl:=windK_len x k
 have hw:=h5 (k % 5)
 have e1:windK x (k+1)=windK x k++[((gi x.wind (k % 5):Nat):Int)]:=rfl
 have e2:(windK x (k+1)).length=(windK x k).length+1:=by rw [e1];simp
 have hr:(x.enc.map PV.p)[4+((k:Int) % 5).toNat*1]?=some (.p (.int .u8 ((gi x.wind (k % 5):Nat):Int))):=by
  have e0:((k:Int) % 5).toNat=k % 5:=by omega
  rw [e0]
  have:k % 5<5:=Nat.mod_lt _ (by decide)
  generalize k % 5=n at this
  match n,this with
  |0,_=>rfl
  |1,_=>rfl
  |2,_=>rfl
  |3,_=>rfl
  |4,_=>rfl
 repeat' (first
  |(refine VWp.at 6 ?_;refine VWp.ghost (Ghost.freezeCell 4 5 rfl rfl rfl) ?_;first|apply VWp.rseq|apply VWp.rseqD)
  |apply VWp.assoc
  |apply VWp.rseq
  |apply VWp.region
  |apply VWp.regionD
  |apply VWp.skipSeq
  |apply VWp.exitSeq
  |apply VWp.blockSeq
  |apply QSeq.normal
  |apply QBlk.normal
  |apply QBlk.exit
  |apply QLoop.exit
  |apply VWp.ret
  |apply VOps.nil
  |apply VOpsD.nil
  |apply VOps.one
  |(apply VOpsD.bar;decide +kernel)
  |apply VOpsD.quiet
  |(apply VVal.loadBI;rfl;rfl;rfl;exact hr)
  |(apply VVal.indexAB;rfl;rfl;rfl;rfl;rfl;omega)
  |(apply VVal.assign;rfl)
  |(apply VVal.move;rfl)
  |(apply VVal.add64;rfl;rfl;omega)
  |(apply VVal.remI;rfl;rfl;omega;omega)
  |(apply VVal.int;rfl;rfl;rfl)
  |(apply VVal.load;rfl;rfl)
  |(apply VVal.fieldB;rfl;rfl;rfl)
  |(apply VVal.storeB;rfl;rfl;rfl;trivial;rfl;rfl;exact lt_dec rfl;exact le_dec rfl)
  |(apply VVal.buildSlice;rfl;rfl;rfl;decide;rfl;rfl;rfl)
  |(apply VVal.convI;rfl;rfl;rfl;rfl;omega)
  |(apply VVal.append1;rfl;rfl;rfl;rfl;rfl;rfl;rfl;rfl;(intro _ h;cases h);rfl;rfl;rfl;decide;decide;(first|omega|(simp only [List.length_take,List.length_drop,List.length_append,List.length_singleton,List.length_cons,List.length_nil]<;>omega)))
  |(apply VWp.condSeq_dec;rfl)
  |(intro _;try (exfalso;omega)))
 ·refine QLoop.normal ⟨k+1,by omega,by omega,⟨by omega,?_,?_⟩⟩
  ·repeat (first|exact LCov.nil|refine LCov.same trivial rfl ?_|refine LCov.same (lt_dec rfl) rfl ?_|refine LCov.same ⟨trivial,lt_dec rfl,lt_dec rfl,lt_dec rfl,trivial⟩ rfl ?_|refine LCov.same ⟨trivial,lt_dec rfl,lt_dec rfl,trivial⟩ rfl ?_|refine LCov.same ⟨trivial,trivial⟩ rfl ?_|refine LCov.cons trivial rfl (.of_eq (lst_len (by simp<;>omega))) ?_)
  ·rw [e2,e1];repeat (first|exact HCov.nil|(refine HCov.cons (lt_dec rfl) ?_ rfl ?_ ?_;(first|exact trivial|exact PVs.under_pure _ _|(simp [HB.under,PVs.under,PV.under]));(first|exact HLe.refl _|exact HLe.vec (FLes.refl _) (by simp))))
 ·obtain rfl:k=1+x.pipes % 25:=by omega
  refine Done.ret rfl (.refl _) (by first|exact trivial|exact ⟨trivial,trivial,trivial⟩|exact ⟨trivial,trivial,trivial,trivial⟩) HCov.nil (Nat.zero_le _) (Nat.le_refl _) ⟨?_,rfl,rfl⟩
  rfl
end Go.Proofs.YtcnlhgmkelkikaaGreatDoor
