/-
  PROVED: the law CoveringVerifies of layer 10 (covering) returns true for every input. Each argument reads afterwards as it read before. Conditions: those of the given row alone (the listed variables read as the program's text lays them).
-/
import Derived.Test.YtmfnchgkffhpfaaDoorCovSm
import Derived.Test.YtmfnchgkffhpfaaDoorCovI
import Derived.Test.YtmfnchgkffhpfaaDoorCards
set_option linter.unusedSimpArgs false
set_option linter.unusedVariables false
set_option linter.unusedSectionVars false
namespace Go.Proofs.YtmfnchgkffhpfaaDoor
open Go Go.ChangeShapes Go.WideShapes Go.ChangeAt Go.WideMaps Go.WideElems Go.RowKit
namespace CoveringVerifies
set_option maxRecDepth 100000 in
theorem walk {H:Type} {enc:TypeId×Value→H} {W:World} {base:Nat} {args:Array Value} {ds:List (DataW H)} {p:List MemPlace}
 (hL:laidMet Tryd.prog laidL W) (hA:DataW.TrodAll enc Tryd.prog W 0 (fun _=>true) true [24,48] args.toList ds p)
 (hval:∀ (j:Nat) t v,([24,48]:List TypeId)[j]?=some t→args.toList[j]?=some v→Value.okWide Tryd.prog W .any base t v) :
 Calls Tryd.prog 5 args W fun e W'=>e=.returned (.bool true)∧Go.RowKit.Below W.heap.size W W':=by
 refine Vm.lawX (F:=8) hL hA hval mixOk (by kernel_rfl) osound fun j fss xs h1 h2=>?_
 obtain ⟨a,b,rfl,ha,hb⟩:=all2_two h1
 obtain ⟨x,rfl,hx1,hx2,hx3⟩:=has_plan (j:=j+3) ha
 obtain ⟨f,rfl,hf1,hf2⟩:=has_fault (j:=j+4) hb
 obtain ⟨u,v,rfl,hu,hv⟩:=all2_two h2
 simp only [Vm.packF,Tryd.underlying24,Option.some.injEq] at hu
 simp only [Vm.packF,Tryd.underlying48,Option.some.injEq] at hv
 subst hu;subst hv
 exact covVerifies_spec x f hx1 hx3 ⟨hf1,hf2⟩
set_option maxRecDepth 100000 in
theorem lifted (os:Os) (started:os.Started) (H:Type) (enc:TypeId×Value→H) :
 ReturnsInHanded {} Tryd.checked os 5 .any (fun w args=>(Rows.coveringVerifiesSpec.pre enc Tryd.prog Tryd.f5 [] false w args∧laidMetH Tryd.prog laidL w)∧sizedMet enc Tryd.prog Tryd.f5 (OpenSpec.ofChange Rows.coveringVerifiesSpec) false w args)
  (Rows.coveringVerifiesSpec.post enc Tryd.prog Tryd.f5 false true false false):=by
 refine returnsInHanded_of_change_and (C:=Tryd.checked) (X:=fun w _=>laidMetH Tryd.prog laidL w) (fun _ _ _ hh h=>h.of_heap hh) own started (by kernel_rfl) Tryd.func5
  (ChangeSpec.witness_shaped (enc:=enc) (C:=Tryd.checked) (os:=os) (X:=fun w _=>laidMetH Tryd.prog laidL w) false (World.doorLaid Tryd.prog 400 os) #[.agg #[.int .u8 0,.slice none 0 0],.agg #[.int .u8 0,.int .u8 0,.int .i64 0]] 8 rfl (World.shaped_of_RefB (by kernel_rfl) (by kernel_rfl)) (by kernel_rfl) (by kernel_rfl) (by kernel_rfl) (door_met os _)) ?_
 intro W base args ds gs before hval0 hW _ _ hL _
 have hval:∀ (j:Nat) t v,Tryd.f5.params[j]?=some t→args[j]?=some v→Value.okWide Tryd.prog W .any base t v:=hval0
 have hW':=hW
 obtain ⟨p,q,hA0,hV,rfl,hfz,hnd⟩:=hW
 have hA:DataW.TrodAll enc Tryd.prog W 0 (fun _=>true) true Tryd.f5.params.toList args.toList ds p:=hA0
 rw [Tryd.params5] at hA hval
 obtain ⟨rfl,rfl⟩:=trodVars_none hV
 have hwalk:=walk (plainMet hL) hA (fun j t v hj hv=>hval j t v (by simpa using hj) (by simpa using hv))
 obtain ⟨v0,vs0,d0,ds0,p0,q0,hargs,rfl,rfl,h0,r0⟩:=trodAll_cons hA
 obtain ⟨v1,vs1,d1,ds1,p1,q1,rfl,rfl,rfl,h1,r1⟩:=trodAll_cons r0
 obtain ⟨rfl,rfl,rfl⟩:=trodAll_nil r1
 obtain rfl:args=#[v0,v1]:=by cases args;simp_all
 have lt0:∀ x∈p0,x.block<W.heap.size:=by obtain ⟨m,hm⟩:=h0;exact DataW.trod_lt m _ _ _ hm
 have lt1:∀ x∈p1,x.block<W.heap.size:=by obtain ⟨m,hm⟩:=h1;exact DataW.trod_lt m _ _ _ hm
 clear hA0 hval0
 refine hwalk.mono fun e W' ⟨he,bel⟩=>?_
 subst he
 exact ⟨_,rfl,_,_,_,[],_,[],hW',trodAll_mk1 (shut_bool Tryd.underlying4 _),(trodAll_cons_mk (Below.trod laidOut (by kernel_rfl) (of_decide_eq_true (by kernel_rfl)) h0 bel lt0) (trodAll_cons_mk (Below.trod laidOut (by kernel_rfl) (of_decide_eq_true (by kernel_rfl)) h1 bel lt1) trodAll_mk0)),rfl,bel.frame _,fun h=>by cases h⟩
theorem said:Rows.CoveringVerifiesSaid :=
 OpenClaim.holds_of_wide 5 Tryd.f5 rfl rfl rfl rfl rfl rfl rfl ⟨rfl,rfl,rfl,rfl,rfl⟩ rfl rfl rfl rfl rfl (by kernel_rfl) Tryd.func5 (by kernel_rfl)
  (of_decide_eq_true (by kernel_rfl)) (by unfold Func.isWrapper;first|(rw [if_pos (by decide +kernel)];kernel_rfl)|(rw [if_neg (by decide +kernel)];exact ⟨rfl,rfl⟩))
  (fun os started H enc _=>lifted os started H enc)
end CoveringVerifies
theorem coveringVerifies_holds:Rows.CoveringVerifiesCardSaid :=
 Claim7.holds_tied_plain_at .later [] [.data] true Rows.coveringVerifiesCard.stood.harness false
  CoveringVerifies.said (fun _ h=>by cases h) (by kernel_rfl) (fun _ h=>by cases h) coveringVerifies_row_tie rfl ⟨rfl,rfl⟩ (by kernel_rfl) rfl
  (fun f fn hf hfn=>by
   obtain rfl:f=5:=Option.some.inj ((show Tryd.prog.funcNamed Rows.coveringVerifiesRow.func=some 5 by kernel_rfl).symm.trans hf) |>.symm
   obtain rfl:fn=Tryd.f5:=(Option.some.inj (Tryd.func5.symm.trans hfn)).symm
   exact ⟨by kernel_rfl,fun j t ht=>by
    rw [Tryd.params5] at ht
    have hm:t∈[24,48]:=by simpa using Array.mem_of_getElem? ht
    have hall:([24,48].all fun u=>!Tryd.prog.wantsStandIn u)=true:=by kernel_rfl
    exact (show Tryd.prog.wantsStandIn t=false by simpa using List.all_eq_true.1 hall t hm)⟩)
  (by kernel_rfl)
#print axioms coveringVerifies_holds
end Go.Proofs.YtmfnchgkffhpfaaDoor
