/-
  A cover with a fault. Conditions: in each statement.
-/
import Derived.Test.YtmfnchgkffhpfaaDoorCovSd
import Derived.Test.YtmfnchgkffhpfaaDoorCovSe
import Derived.Test.YtmfnchgkffhpfaaDoorVmK
set_option linter.unusedSimpArgs false
set_option linter.unusedVariables false
set_option linter.unusedSectionVars false
namespace Go.Vm
open Go.Am
section
variable {E:Env} {L:Frame} {H:Heap} {nx:Nat} {Q:PV→Heap→Nat→Prop} {w:Bool}
variable {dst:Option Tmp} {ty:TypeId} {pos:String} {af:Array Edge} {gd:Option (Nat×Bool)}
theorem VVal.quoB3 {t t2:TypeId} {x y:Operand} {a:Nat} {c:Int} (hx:vev E.Γ L x=some (.p (.int .u8 (a:Int)))) (hy:vev E.Γ L y=some (.p (.int .u8 c))) (hc:c=3) (h:a<256) (q:Q (.p (.int .u8 ((a / 3:Nat):Int))) H nx) :
 VVal E w ⟨dst,.binOp .quo t x y t2,ty,pos,af,gd⟩ L H nx Q:=VVal.int hx hy (r:=.int .u8 ((a / 3:Nat):Int)) (by
  subst hc
  simp only [vint]
  have e:IntKind.u8.wrap ((a:Int) / 3)=(a:Int) / 3 % 2 ^ 8:=by
   simp [IntKind.wrap,IntKind.signed,IntKind.bits]
  rw [if_neg (by omega),Int.tdiv_eq_ediv_of_nonneg (by omega),e]
  have:(a:Int) / 3 % 2 ^ 8=((a / 3:Nat):Int):=by omega
  rw [this]) q
end
end Go.Vm
namespace Go.Proofs.YtmfnchgkffhpfaaDoor
open Go Go.Am Go.Vm
attribute [local irreducible] VVal VOps VOpsD VWp VCalls VFun VFunV QSeq QBlk QLoop Vm.Done DoneV DoneI VRead VReadV
structure CFault where
 how:Nat
 at':Nat
 value:Int
instance:Enc CFault:={ default:=⟨0,0,0⟩,enc:=fun f=>[.int .u8 f.how,.int .u8 f.at',.int .i64 f.value],size:=3,len:=fun _=>rfl }
structure COk (c:CCover):Prop where
 sets:c.sets.length≤8
 nodes:c.proof.length≤256
 ws:∀ i,i<c.proof.length→(gi c.proof i).ws.length≤7
def spoilQ (r:PV) (H':Vm.Heap) (nx':Nat):Prop:=(∃ c:CCover,COk c∧r=.p (.agg (Enc.enc c)))∧H'=[]∧nx'=0
theorem COk.setN {c:CCover} (h:COk c) {k:Nat} (hk:k<c.proof.length) {y:CNode} (hy:y.ws.length≤7):COk ⟨c.sets,c.cost,c.proof.set k y⟩:=⟨h.sets,by simp only [List.length_set];exact h.nodes,fun i hi=>by
 simp only [List.length_set] at hi
 simp only
 rw [gis hk]
 split
 ·exact hy
 ·exact h.ws i hi⟩
theorem psplice_eq {α:Type} [Enc α] (l:List α) (i f:Nat) (y:α) (fs:List FV) (h:i<l.length) (hf:f+fs.length≤Enc.size α) (hy:psplice (Enc.enc (gi l i)) f fs=Enc.enc y):psplice (cells l) (i*Enc.size α+f) fs=cells (l.set i y):=by
 have h1:l=l.take i++(gi l i::l.drop (i+1)):=by
  have hd:l.drop i=gi l i::l.drop (i+1):=by
   rw [List.drop_eq_getElem_cons h];simp [gi,List.getElem?_eq_getElem h]
  conv=>lhs;rw [← List.take_append_drop i l]
  rw [hd]
 have h2:l.set i y=l.take i++(y::l.drop (i+1)):=by
  conv=>lhs;rw [h1]
  rw [List.set_append_right _ _ (by simp;omega)]
  rw [List.length_take,Nat.min_eq_left (by omega),Nat.sub_self,List.set_cons_zero]
 have h4:cells l=cells (l.take i)++(Enc.enc (gi l i)++cells (l.drop (i+1))):=by
  conv=>lhs;rw [h1,cells_append]
  rfl
 have h3:i*Enc.size α+f=(cells (l.take i)).length+f:=by rw [cells_length,List.length_take,Nat.min_eq_left (by omega)]
 rw [h2,cells_append,h4,h3,psplice_app,psplice_left _ _ _ _ (by rw [Enc.len];exact hf),hy]
 rfl
theorem ws_get (N:List CNode) {k:Nat} (hk:k<N.length) (r:PV):(psplice ((cells N).map PV.p) (k*Enc.size CNode+4) [r])[k*Enc.size CNode+4]?=some r:=by
 have hl:k*Enc.size CNode+4<((cells N).map PV.p).length:=by
  rw [List.length_map,cells_length]
  have:Enc.size CNode=5:=rfl
  rw [this]
  omega
 show (((cells N).map PV.p).set (k*Enc.size CNode+4) r)[k*Enc.size CNode+4]?=some r
 rw [List.getElem?_set_self hl]
theorem ws_close (N:List CNode) {k:Nat} (hk:k<N.length) (r:PV) (ws:List Int) {n:Nat} (hn:n=ws.length):(psplice ((cells N).map PV.p) (k*Enc.size CNode+4) [r]).set (k*Enc.size CNode+4) (.p (.lst 3 (cells ws) n))=(cells (N.set k ⟨(gi N k).pick,(gi N k).yes,(gi N k).no,(gi N k).bound,ws⟩)).map PV.p:=by
 subst hn
 show (((cells N).map PV.p).set (k*Enc.size CNode+4) r).set (k*Enc.size CNode+4) _=_
 rw [List.set_set,← List.map_set]
 have:=psplice_eq N k 4 (⟨(gi N k).pick,(gi N k).yes,(gi N k).no,(gi N k).bound,ws⟩:CNode) [.lst 3 (cells ws) ws.length] hk (Nat.le_refl 5) rfl
 rw [← this]
 rfl
theorem cov_eq {s:List Int} {N:List CNode} {v:Int} {k m:Nat} (hk:k=s.length) (hm:m=N.length):PV.p (FV.agg [.lst 3 (cells s) k,.int .i64 v,.lst 91 (cells N) m])=.p (.agg (Enc.enc (⟨s,v,N⟩:CCover))):=by subst hk hm;rfl
theorem ws_app {c:CCover} (h:COk c) (i:Nat) (hi:i<(c.proof++[tmpN]).length):(gi (c.proof++[tmpN]) i).ws.length≤7:=by
 rw [List.length_append,List.length_singleton] at hi
 by_cases e:i<c.proof.length
 ·rw [gic_app e];exact h.ws i e
 ·obtain rfl:i=c.proof.length:=by omega
  have:=gic_right (l:=c.proof) (r:=[tmpN]) (i:=0)
  rw [Nat.add_zero] at this
  rw [this]
  exact Nat.zero_le _
section
variable (c:CCover) (f:CFault) (h:COk c) (h7:c.sets.length≤7) (hN:c.proof.length≤255) (h0:0<c.proof.length) (hc:0≤c.cost∧c.cost≤1000000000) (hf:f.how<256∧f.at'<256)
include h h7 hN h0 hc hf
set_option maxRecDepth 100000 in
set_option maxHeartbeats 4000000 in
theorem spoiled0 (hj:f.how % 11=0):VCalls env 24 ([FV.agg (Enc.enc c),FV.agg (Enc.enc f)].map .p) [] 0 spoilQ:=by
 refine VCalls.enter (env_none (by decide)) Tryd.func24 rfl (by kernel_rfl) (by simp [Tryd.ntmps24]) ?_
 have hk:f.at' % c.proof.length<c.proof.length:=Nat.mod_lt _ h0
 repeat' (first
  |(refine VWp.at 32 ?_;refine VWp.ghost ((Ghost.freezeCell 0 0 rfl rfl rfl).trans (Ghost.freezeCell 0 2 rfl rfl rfl)) ?_;first|apply VWp.rseq|apply VWp.rseqD)
  |apply VWp.assoc
  |apply VWp.rseq
  |apply VWp.region
  |apply VWp.skipSeq
  |apply VWp.blockSeq
  |apply QSeq.normal
  |apply QBlk.normal
  |apply VWp.ret
  |apply VOps.nil
  |apply VOps.one
  |(apply VVal.assign;rfl)
  |(apply VVal.remI;rfl;rfl;omega;omega)
  |(apply VVal.int;rfl;rfl;rfl)
  |(apply VVal.load;rfl;rfl)
  |(apply VVal.lenV;rfl;rfl;rfl)
  |(apply VVal.fieldB;rfl;rfl;rfl)
  |(apply VVal.box;rfl;trivial)
  |(apply VVal.alloc;rfl)
  |(apply VVal.storeB;rfl;rfl;rfl;trivial;rfl;rfl;exact lt_dec rfl;exact le_dec rfl)
  |(apply VVal.buildSlice;rfl;rfl;rfl;decide;rfl;rfl;rfl)
  |(apply VVal.convI;rfl;rfl;rfl;rfl;omega)
  |(apply VVal.appendL0;rfl;rfl;rfl;(first|rfl|omega|(simp only [List.length_take,List.length_drop,List.length_append,List.length_singleton,List.length_cons,List.length_nil]<;>omega));rfl;rfl;(intro _ h;cases h);rfl;rfl;rfl;decide;decide;(first|omega|(simp only [List.length_take,List.length_drop,List.length_append,List.length_singleton,List.length_cons,List.length_nil]<;>omega)))
  |(apply VWp.condSeq_dec;rfl)
  |(apply VWp.cond_dec;rfl)
  |(intro _;try (exfalso;omega)))
 all_goals try (exfalso;omega)
 refine Done.ret (H0:=[]) (nx0:=0) rfl (.refl _) trivial trivial (by omega) (Nat.le_refl _) ⟨⟨⟨c.sets,f.value,c.proof⟩,⟨by simp only;omega,by simp only;omega,h.ws⟩,cov_eq (by simp) (by simp)⟩,rfl,rfl⟩
set_option maxRecDepth 100000 in
set_option maxHeartbeats 4000000 in
theorem spoiled1 (hj:f.how % 11=1):VCalls env 24 ([FV.agg (Enc.enc c),FV.agg (Enc.enc f)].map .p) [] 0 spoilQ:=by
 refine VCalls.enter (env_none (by decide)) Tryd.func24 rfl (by kernel_rfl) (by simp [Tryd.ntmps24]) ?_
 have hk:f.at' % c.proof.length<c.proof.length:=Nat.mod_lt _ h0
 repeat' (first
  |(refine VWp.at 32 ?_;refine VWp.ghost ((Ghost.freezeCell 0 0 rfl rfl rfl).trans (Ghost.freezeCell 0 2 rfl rfl rfl)) ?_;first|apply VWp.rseq|apply VWp.rseqD)
  |apply VWp.assoc
  |apply VWp.rseq
  |apply VWp.region
  |apply VWp.skipSeq
  |apply VWp.blockSeq
  |apply QSeq.normal
  |apply QBlk.normal
  |apply VWp.ret
  |apply VOps.nil
  |apply VOps.one
  |(apply VVal.fieldV;rfl;rfl;rfl)
  |(apply VVal.storeVF (α:=CNode) (i:=f.at' % c.proof.length) (f:=0) (fs:=[.int .i64 f.value]) (y:=⟨f.value,(gi c.proof (f.at' % c.proof.length)).yes,(gi c.proof (f.at' % c.proof.length)).no,(gi c.proof (f.at' % c.proof.length)).bound,(gi c.proof (f.at' % c.proof.length)).ws⟩);rfl;rfl;rfl;trivial;rfl;rfl;rfl;decide;omega;decide;exact .refl _)
  |(apply VVal.assign;rfl)
  |(apply VVal.move;rfl)
  |(apply VVal.remI;rfl;rfl;omega;omega)
  |(apply VVal.int;rfl;rfl;rfl)
  |(apply VVal.load;rfl;rfl)
  |(apply VVal.lenV;rfl;rfl;rfl)
  |(apply VVal.fieldB;rfl;rfl;rfl)
  |(apply VVal.box;rfl;trivial)
  |(apply VVal.alloc;rfl)
  |(apply VVal.storeB;rfl;rfl;rfl;trivial;rfl;rfl;exact lt_dec rfl;exact le_dec rfl)
  |(apply VVal.buildSlice;rfl;rfl;rfl;decide;rfl;rfl;rfl)
  |(apply VVal.indexVE;rfl;rfl;rfl;rfl;omega;omega)
  |(apply VVal.convI;rfl;rfl;rfl;rfl;omega)
  |(apply VVal.appendL0;rfl;rfl;rfl;(first|rfl|omega|(simp only [List.length_take,List.length_drop,List.length_append,List.length_singleton,List.length_cons,List.length_nil]<;>omega));rfl;rfl;(intro _ h;cases h);rfl;rfl;rfl;decide;decide;(first|omega|(simp only [List.length_take,List.length_drop,List.length_append,List.length_singleton,List.length_cons,List.length_nil]<;>omega)))
  |(apply VWp.condSeq_dec;rfl)
  |(apply VWp.cond_dec;rfl)
  |(intro _;try (exfalso;omega)))
 all_goals try (exfalso;omega)
 refine Done.ret (H0:=[]) (nx0:=0) rfl (.refl _) trivial trivial (by omega) (Nat.le_refl _) ⟨⟨⟨c.sets,c.cost,c.proof.set (f.at' % c.proof.length) ⟨f.value,(gi c.proof (f.at' % c.proof.length)).yes,(gi c.proof (f.at' % c.proof.length)).no,(gi c.proof (f.at' % c.proof.length)).bound,(gi c.proof (f.at' % c.proof.length)).ws⟩⟩,h.setN hk (h.ws _ hk),cov_eq (by simp) (by simp)⟩,rfl,rfl⟩
set_option maxRecDepth 100000 in
set_option maxHeartbeats 4000000 in
theorem spoiled2 (hj:f.how % 11=2):VCalls env 24 ([FV.agg (Enc.enc c),FV.agg (Enc.enc f)].map .p) [] 0 spoilQ:=by
 refine VCalls.enter (env_none (by decide)) Tryd.func24 rfl (by kernel_rfl) (by simp [Tryd.ntmps24]) ?_
 have hk:f.at' % c.proof.length<c.proof.length:=Nat.mod_lt _ h0
 repeat' (first
  |(refine VWp.at 32 ?_;refine VWp.ghost ((Ghost.freezeCell 0 0 rfl rfl rfl).trans (Ghost.freezeCell 0 2 rfl rfl rfl)) ?_;first|apply VWp.rseq|apply VWp.rseqD)
  |apply VWp.assoc
  |apply VWp.rseq
  |apply VWp.region
  |apply VWp.skipSeq
  |apply VWp.blockSeq
  |apply QSeq.normal
  |apply QBlk.normal
  |apply VWp.ret
  |apply VOps.nil
  |apply VOps.one
  |(apply VVal.fieldV;rfl;rfl;rfl)
  |(apply VVal.storeVF (α:=CNode) (i:=f.at' % c.proof.length) (f:=1) (fs:=[.int .i64 f.value]) (y:=⟨(gi c.proof (f.at' % c.proof.length)).pick,f.value,(gi c.proof (f.at' % c.proof.length)).no,(gi c.proof (f.at' % c.proof.length)).bound,(gi c.proof (f.at' % c.proof.length)).ws⟩);rfl;rfl;rfl;trivial;rfl;rfl;rfl;decide;omega;decide;exact .refl _)
  |(apply VVal.assign;rfl)
  |(apply VVal.move;rfl)
  |(apply VVal.remI;rfl;rfl;omega;omega)
  |(apply VVal.int;rfl;rfl;rfl)
  |(apply VVal.load;rfl;rfl)
  |(apply VVal.lenV;rfl;rfl;rfl)
  |(apply VVal.fieldB;rfl;rfl;rfl)
  |(apply VVal.box;rfl;trivial)
  |(apply VVal.alloc;rfl)
  |(apply VVal.storeB;rfl;rfl;rfl;trivial;rfl;rfl;exact lt_dec rfl;exact le_dec rfl)
  |(apply VVal.buildSlice;rfl;rfl;rfl;decide;rfl;rfl;rfl)
  |(apply VVal.indexVE;rfl;rfl;rfl;rfl;omega;omega)
  |(apply VVal.convI;rfl;rfl;rfl;rfl;omega)
  |(apply VVal.appendL0;rfl;rfl;rfl;(first|rfl|omega|(simp only [List.length_take,List.length_drop,List.length_append,List.length_singleton,List.length_cons,List.length_nil]<;>omega));rfl;rfl;(intro _ h;cases h);rfl;rfl;rfl;decide;decide;(first|omega|(simp only [List.length_take,List.length_drop,List.length_append,List.length_singleton,List.length_cons,List.length_nil]<;>omega)))
  |(apply VWp.condSeq_dec;rfl)
  |(apply VWp.cond_dec;rfl)
  |(intro _;try (exfalso;omega)))
 all_goals try (exfalso;omega)
 refine Done.ret (H0:=[]) (nx0:=0) rfl (.refl _) trivial trivial (by omega) (Nat.le_refl _) ⟨⟨⟨c.sets,c.cost,c.proof.set (f.at' % c.proof.length) ⟨(gi c.proof (f.at' % c.proof.length)).pick,f.value,(gi c.proof (f.at' % c.proof.length)).no,(gi c.proof (f.at' % c.proof.length)).bound,(gi c.proof (f.at' % c.proof.length)).ws⟩⟩,h.setN hk (h.ws _ hk),cov_eq (by simp) (by simp)⟩,rfl,rfl⟩
set_option maxRecDepth 100000 in
set_option maxHeartbeats 4000000 in
theorem spoiled3 (hj:f.how % 11=3):VCalls env 24 ([FV.agg (Enc.enc c),FV.agg (Enc.enc f)].map .p) [] 0 spoilQ:=by
 refine VCalls.enter (env_none (by decide)) Tryd.func24 rfl (by kernel_rfl) (by simp [Tryd.ntmps24]) ?_
 have hk:f.at' % c.proof.length<c.proof.length:=Nat.mod_lt _ h0
 repeat' (first
  |(refine VWp.at 32 ?_;refine VWp.ghost ((Ghost.freezeCell 0 0 rfl rfl rfl).trans (Ghost.freezeCell 0 2 rfl rfl rfl)) ?_;first|apply VWp.rseq|apply VWp.rseqD)
  |apply VWp.assoc
  |apply VWp.rseq
  |apply VWp.region
  |apply VWp.skipSeq
  |apply VWp.blockSeq
  |apply QSeq.normal
  |apply QBlk.normal
  |apply VWp.ret
  |apply VOps.nil
  |apply VOps.one
  |(apply VVal.fieldV;rfl;rfl;rfl)
  |(apply VVal.storeVF (α:=CNode) (i:=f.at' % c.proof.length) (f:=2) (fs:=[.int .i64 f.value]) (y:=⟨(gi c.proof (f.at' % c.proof.length)).pick,(gi c.proof (f.at' % c.proof.length)).yes,f.value,(gi c.proof (f.at' % c.proof.length)).bound,(gi c.proof (f.at' % c.proof.length)).ws⟩);rfl;rfl;rfl;trivial;rfl;rfl;rfl;decide;omega;decide;exact .refl _)
  |(apply VVal.assign;rfl)
  |(apply VVal.move;rfl)
  |(apply VVal.remI;rfl;rfl;omega;omega)
  |(apply VVal.int;rfl;rfl;rfl)
  |(apply VVal.load;rfl;rfl)
  |(apply VVal.lenV;rfl;rfl;rfl)
  |(apply VVal.fieldB;rfl;rfl;rfl)
  |(apply VVal.box;rfl;trivial)
  |(apply VVal.alloc;rfl)
  |(apply VVal.storeB;rfl;rfl;rfl;trivial;rfl;rfl;exact lt_dec rfl;exact le_dec rfl)
  |(apply VVal.buildSlice;rfl;rfl;rfl;decide;rfl;rfl;rfl)
  |(apply VVal.indexVE;rfl;rfl;rfl;rfl;omega;omega)
  |(apply VVal.convI;rfl;rfl;rfl;rfl;omega)
  |(apply VVal.appendL0;rfl;rfl;rfl;(first|rfl|omega|(simp only [List.length_take,List.length_drop,List.length_append,List.length_singleton,List.length_cons,List.length_nil]<;>omega));rfl;rfl;(intro _ h;cases h);rfl;rfl;rfl;decide;decide;(first|omega|(simp only [List.length_take,List.length_drop,List.length_append,List.length_singleton,List.length_cons,List.length_nil]<;>omega)))
  |(apply VWp.condSeq_dec;rfl)
  |(apply VWp.cond_dec;rfl)
  |(intro _;try (exfalso;omega)))
 all_goals try (exfalso;omega)
 refine Done.ret (H0:=[]) (nx0:=0) rfl (.refl _) trivial trivial (by omega) (Nat.le_refl _) ⟨⟨⟨c.sets,c.cost,c.proof.set (f.at' % c.proof.length) ⟨(gi c.proof (f.at' % c.proof.length)).pick,(gi c.proof (f.at' % c.proof.length)).yes,f.value,(gi c.proof (f.at' % c.proof.length)).bound,(gi c.proof (f.at' % c.proof.length)).ws⟩⟩,h.setN hk (h.ws _ hk),cov_eq (by simp) (by simp)⟩,rfl,rfl⟩
set_option maxRecDepth 100000 in
set_option maxHeartbeats 4000000 in
theorem spoiled4 (hj:f.how % 11=4):VCalls env 24 ([FV.agg (Enc.enc c),FV.agg (Enc.enc f)].map .p) [] 0 spoilQ:=by
 refine VCalls.enter (env_none (by decide)) Tryd.func24 rfl (by kernel_rfl) (by simp [Tryd.ntmps24]) ?_
 have hk:f.at' % c.proof.length<c.proof.length:=Nat.mod_lt _ h0
 repeat' (first
  |(refine VWp.at 32 ?_;refine VWp.ghost ((Ghost.freezeCell 0 0 rfl rfl rfl).trans (Ghost.freezeCell 0 2 rfl rfl rfl)) ?_;first|apply VWp.rseq|apply VWp.rseqD)
  |apply VWp.assoc
  |apply VWp.rseq
  |apply VWp.region
  |apply VWp.skipSeq
  |apply VWp.blockSeq
  |apply QSeq.normal
  |apply QBlk.normal
  |apply VWp.ret
  |apply VOps.nil
  |apply VOps.one
  |(apply VVal.fieldV;rfl;rfl;rfl)
  |(apply VVal.storeVF (α:=CNode) (i:=f.at' % c.proof.length) (f:=3) (fs:=[.int .i64 f.value]) (y:=⟨(gi c.proof (f.at' % c.proof.length)).pick,(gi c.proof (f.at' % c.proof.length)).yes,(gi c.proof (f.at' % c.proof.length)).no,f.value,(gi c.proof (f.at' % c.proof.length)).ws⟩);rfl;rfl;rfl;trivial;rfl;rfl;rfl;decide;omega;decide;exact .refl _)
  |(apply VVal.assign;rfl)
  |(apply VVal.move;rfl)
  |(apply VVal.remI;rfl;rfl;omega;omega)
  |(apply VVal.int;rfl;rfl;rfl)
  |(apply VVal.load;rfl;rfl)
  |(apply VVal.lenV;rfl;rfl;rfl)
  |(apply VVal.fieldB;rfl;rfl;rfl)
  |(apply VVal.box;rfl;trivial)
  |(apply VVal.alloc;rfl)
  |(apply VVal.storeB;rfl;rfl;rfl;trivial;rfl;rfl;exact lt_dec rfl;exact le_dec rfl)
  |(apply VVal.buildSlice;rfl;rfl;rfl;decide;rfl;rfl;rfl)
  |(apply VVal.indexVE;rfl;rfl;rfl;rfl;omega;omega)
  |(apply VVal.convI;rfl;rfl;rfl;rfl;omega)
  |(apply VVal.appendL0;rfl;rfl;rfl;(first|rfl|omega|(simp only [List.length_take,List.length_drop,List.length_append,List.length_singleton,List.length_cons,List.length_nil]<;>omega));rfl;rfl;(intro _ h;cases h);rfl;rfl;rfl;decide;decide;(first|omega|(simp only [List.length_take,List.length_drop,List.length_append,List.length_singleton,List.length_cons,List.length_nil]<;>omega)))
  |(apply VWp.condSeq_dec;rfl)
  |(apply VWp.cond_dec;rfl)
  |(intro _;try (exfalso;omega)))
 all_goals try (exfalso;omega)
 refine Done.ret (H0:=[]) (nx0:=0) rfl (.refl _) trivial trivial (by omega) (Nat.le_refl _) ⟨⟨⟨c.sets,c.cost,c.proof.set (f.at' % c.proof.length) ⟨(gi c.proof (f.at' % c.proof.length)).pick,(gi c.proof (f.at' % c.proof.length)).yes,(gi c.proof (f.at' % c.proof.length)).no,f.value,(gi c.proof (f.at' % c.proof.length)).ws⟩⟩,h.setN hk (h.ws _ hk),cov_eq (by simp) (by simp)⟩,rfl,rfl⟩
set_option maxRecDepth 100000 in
set_option maxHeartbeats 4000000 in
theorem spoiled6 (hj:f.how % 11=6):VCalls env 24 ([FV.agg (Enc.enc c),FV.agg (Enc.enc f)].map .p) [] 0 spoilQ:=by
 refine VCalls.enter (env_none (by decide)) Tryd.func24 rfl (by kernel_rfl) (by simp [Tryd.ntmps24]) ?_
 have hk:f.at' % c.proof.length<c.proof.length:=Nat.mod_lt _ h0
 repeat' (first
  |(refine VWp.at 32 ?_;refine VWp.ghost ((Ghost.freezeCell 0 0 rfl rfl rfl).trans (Ghost.freezeCell 0 2 rfl rfl rfl)) ?_;first|apply VWp.rseq|apply VWp.rseqD)
  |(refine VOps.atOp 141 ?_;refine VOps.ghost (Ghost.le 140 (v0:=.p (.agg (Enc.enc tmpN))) rfl (.p (.agg (.cons (.refl _) (.cons (.refl _) (.cons (.refl _) (.cons (.refl _) (.cons (.nil _) (.refl _))))))))) ?_)
  |apply VWp.assoc
  |apply VWp.rseq
  |apply VWp.region
  |apply VWp.skipSeq
  |apply VWp.blockSeq
  |apply QSeq.normal
  |apply QBlk.normal
  |apply VWp.ret
  |apply VOps.nil
  |apply VOps.one
  |(apply VVal.append1 (a:=tmpN);rfl;rfl;rfl;rfl;rfl;rfl;rfl;rfl;(intro _ h;cases h);rfl;rfl;rfl;decide;decide;(first|omega|(simp only [List.length_take,List.length_drop,List.length_append,List.length_singleton,List.length_cons,List.length_nil]<;>omega)))
  |(apply VVal.assign;rfl)
  |(apply VVal.remI;rfl;rfl;omega;omega)
  |(apply VVal.int;rfl;rfl;rfl)
  |(apply VVal.load;rfl;rfl)
  |(apply VVal.lenV;rfl;rfl;rfl)
  |(apply VVal.fieldB;rfl;rfl;rfl)
  |(apply VVal.box;rfl;trivial)
  |(apply VVal.alloc;rfl)
  |(apply VVal.storeB;rfl;rfl;rfl;trivial;rfl;rfl;exact lt_dec rfl;exact le_dec rfl)
  |(apply VVal.build;rfl;rfl;rfl;rfl;rfl)
  |(apply VVal.buildSlice;rfl;rfl;rfl;decide;rfl;rfl;rfl)
  |(apply VVal.convI;rfl;rfl;rfl;rfl;omega)
  |(apply VVal.appendL0;rfl;rfl;rfl;(first|rfl|omega|(simp only [List.length_take,List.length_drop,List.length_append,List.length_singleton,List.length_cons,List.length_nil]<;>omega));rfl;rfl;(intro _ h;cases h);rfl;rfl;rfl;decide;decide;(first|omega|(simp only [List.length_take,List.length_drop,List.length_append,List.length_singleton,List.length_cons,List.length_nil]<;>omega)))
  |(apply VWp.condSeq_dec;rfl)
  |(apply VWp.cond_dec;rfl)
  |(intro _;try (exfalso;omega)))
 all_goals try (exfalso;omega)
 refine Done.ret (H0:=[]) (nx0:=0) rfl (.refl _) trivial trivial (by omega) (Nat.le_refl _) ⟨⟨⟨c.sets,c.cost,c.proof++[tmpN]⟩,⟨h.sets,by simp only [List.length_append,List.length_singleton];omega,fun i hi=>ws_app h i hi⟩,cov_eq (by simp) (by simp)⟩,rfl,rfl⟩
set_option maxRecDepth 100000 in
set_option maxHeartbeats 4000000 in
theorem spoiled7 (hj:f.how % 11=7):VCalls env 24 ([FV.agg (Enc.enc c),FV.agg (Enc.enc f)].map .p) [] 0 spoilQ:=by
 refine VCalls.enter (env_none (by decide)) Tryd.func24 rfl (by kernel_rfl) (by simp [Tryd.ntmps24]) ?_
 have hk:f.at' % c.proof.length<c.proof.length:=Nat.mod_lt _ h0
 repeat' (first
  |(refine VWp.at 32 ?_;refine VWp.ghost ((Ghost.freezeCell 0 0 rfl rfl rfl).trans (Ghost.freezeCell 0 2 rfl rfl rfl)) ?_;first|apply VWp.rseq|apply VWp.rseqD)
  |apply VWp.assoc
  |apply VWp.rseq
  |apply VWp.region
  |apply VWp.skipSeq
  |apply VWp.blockSeq
  |apply QSeq.normal
  |apply QBlk.normal
  |apply VWp.ret
  |apply VOps.nil
  |apply VOps.one
  |(apply VVal.append1 (a:=f.value);rfl;rfl;rfl;rfl;rfl;rfl;rfl;rfl;(intro _ h;cases h);rfl;rfl;rfl;decide;decide;(first|omega|(simp only [List.length_take,List.length_drop,List.length_append,List.length_singleton,List.length_cons,List.length_nil]<;>omega)))
  |(apply VVal.assign;rfl)
  |(apply VVal.remI;rfl;rfl;omega;omega)
  |(apply VVal.int;rfl;rfl;rfl)
  |(apply VVal.load;rfl;rfl)
  |(apply VVal.lenV;rfl;rfl;rfl)
  |(apply VVal.fieldB;rfl;rfl;rfl)
  |(apply VVal.box;rfl;trivial)
  |(apply VVal.alloc;rfl)
  |(apply VVal.storeB;rfl;rfl;rfl;trivial;rfl;rfl;exact lt_dec rfl;exact le_dec rfl)
  |(apply VVal.buildSlice;rfl;rfl;rfl;decide;rfl;rfl;rfl)
  |(apply VVal.convI;rfl;rfl;rfl;rfl;omega)
  |(apply VVal.appendL0;rfl;rfl;rfl;(first|rfl|omega|(simp only [List.length_take,List.length_drop,List.length_append,List.length_singleton,List.length_cons,List.length_nil]<;>omega));rfl;rfl;(intro _ h;cases h);rfl;rfl;rfl;decide;decide;(first|omega|(simp only [List.length_take,List.length_drop,List.length_append,List.length_singleton,List.length_cons,List.length_nil]<;>omega)))
  |(apply VWp.condSeq_dec;rfl)
  |(apply VWp.cond_dec;rfl)
  |(intro _;try (exfalso;omega)))
 all_goals try (exfalso;omega)
 refine Done.ret (H0:=[]) (nx0:=0) rfl (.refl _) trivial trivial (by omega) (Nat.le_refl _) ⟨⟨⟨c.sets++[f.value],c.cost,c.proof⟩,⟨by simp only [List.length_append,List.length_singleton];omega,h.nodes,h.ws⟩,cov_eq (by simp) (by simp)⟩,rfl,rfl⟩
set_option maxRecDepth 100000 in
set_option maxHeartbeats 4000000 in
theorem spoiled9 (hj:f.how % 11=9):VCalls env 24 ([FV.agg (Enc.enc c),FV.agg (Enc.enc f)].map .p) [] 0 spoilQ:=by
 refine VCalls.enter (env_none (by decide)) Tryd.func24 rfl (by kernel_rfl) (by simp [Tryd.ntmps24]) ?_
 have hk:f.at' % c.proof.length<c.proof.length:=Nat.mod_lt _ h0
 repeat' (first
  |(refine VWp.at 32 ?_;refine VWp.ghost ((Ghost.freezeCell 0 0 rfl rfl rfl).trans (Ghost.freezeCell 0 2 rfl rfl rfl)) ?_;first|apply VWp.rseq|apply VWp.rseqD)
  |apply VWp.assoc
  |apply VWp.rseq
  |apply VWp.region
  |apply VWp.skipSeq
  |apply VWp.blockSeq
  |apply QSeq.normal
  |apply QBlk.normal
  |apply VWp.ret
  |apply VOps.nil
  |apply VOps.one
  |(apply VVal.assign;rfl)
  |(apply VVal.sub64;rfl;rfl;omega)
  |(apply VVal.remI;rfl;rfl;omega;omega)
  |(apply VVal.int;rfl;rfl;rfl)
  |(apply VVal.load;rfl;rfl)
  |(apply VVal.lenV;rfl;rfl;rfl)
  |(apply VVal.fieldB;rfl;rfl;rfl)
  |(apply VVal.box;rfl;trivial)
  |(apply VVal.alloc;rfl)
  |(apply VVal.storeB;rfl;rfl;rfl;trivial;rfl;rfl;exact lt_dec rfl;exact le_dec rfl)
  |(apply VVal.buildSlice;rfl;rfl;rfl;decide;rfl;rfl;rfl)
  |(apply VVal.convI;rfl;rfl;rfl;rfl;omega)
  |(apply VVal.appendL0;rfl;rfl;rfl;(first|rfl|omega|(simp only [List.length_take,List.length_drop,List.length_append,List.length_singleton,List.length_cons,List.length_nil]<;>omega));rfl;rfl;(intro _ h;cases h);rfl;rfl;rfl;decide;decide;(first|omega|(simp only [List.length_take,List.length_drop,List.length_append,List.length_singleton,List.length_cons,List.length_nil]<;>omega)))
  |(apply VWp.condSeq_dec;rfl)
  |(apply VWp.cond_dec;rfl)
  |(intro _;try (exfalso;omega)))
 all_goals try (exfalso;omega)
 refine Done.ret (H0:=[]) (nx0:=0) rfl (.refl _) trivial trivial (by omega) (Nat.le_refl _) ⟨⟨⟨c.sets,c.cost-1,c.proof⟩,⟨h.sets,h.nodes,h.ws⟩,cov_eq (by simp) (by simp)⟩,rfl,rfl⟩
set_option maxRecDepth 100000 in
set_option maxHeartbeats 4000000 in
theorem spoiled10 (hj:f.how % 11=10):VCalls env 24 ([FV.agg (Enc.enc c),FV.agg (Enc.enc f)].map .p) [] 0 spoilQ:=by
 refine VCalls.enter (env_none (by decide)) Tryd.func24 rfl (by kernel_rfl) (by simp [Tryd.ntmps24]) ?_
 have hk:f.at' % c.proof.length<c.proof.length:=Nat.mod_lt _ h0
 have hy2:FLes (psplice (Enc.enc (gi (c.proof.set (f.at' % c.proof.length) (⟨(gi c.proof (f.at' % c.proof.length)).pick,(gi c.proof (f.at' % c.proof.length)).no,(gi c.proof (f.at' % c.proof.length)).no,(gi c.proof (f.at' % c.proof.length)).bound,(gi c.proof (f.at' % c.proof.length)).ws⟩:CNode)) (f.at' % c.proof.length))) 2 [.int .i64 (gi c.proof (f.at' % c.proof.length)).yes]) (Enc.enc (⟨(gi c.proof (f.at' % c.proof.length)).pick,(gi c.proof (f.at' % c.proof.length)).no,(gi c.proof (f.at' % c.proof.length)).yes,(gi c.proof (f.at' % c.proof.length)).bound,(gi c.proof (f.at' % c.proof.length)).ws⟩:CNode)):=by rw [gis hk,if_pos rfl];exact .refl _
 repeat' (first
  |(refine VWp.at 32 ?_;refine VWp.ghost ((Ghost.freezeCell 0 0 rfl rfl rfl).trans (Ghost.freezeCell 0 2 rfl rfl rfl)) ?_;first|apply VWp.rseq|apply VWp.rseqD)
  |(refine VOpsD.atIdx 20 ?_;apply VOpsD.weak [.tmp 37];decide +kernel;rfl;rfl;(first|exact VOwn.ref rfl|exact VOwn.vec rfl|exact VOwn.eref rfl);decide +kernel;rfl)
  |apply VWp.assoc
  |apply VWp.rseq
  |apply VWp.regionD
  |apply VWp.skipSeq
  |apply VWp.blockSeq
  |apply QSeq.normal
  |apply QBlk.normal
  |apply VWp.ret
  |apply VOps.nil
  |apply VOpsD.nil
  |apply VOps.one
  |(apply VOpsD.bar;decide +kernel)
  |apply VOpsD.quiet
  |(apply VVal.fieldV;rfl;rfl;rfl)
  |(apply VVal.loadVF;rfl;rfl;omega;decide;rfl)
  |(apply VVal.storeVF (α:=CNode) (i:=f.at' % c.proof.length) (f:=1) (fs:=[.int .i64 (gi c.proof (f.at' % c.proof.length)).no]) (l:=c.proof) (y:=⟨(gi c.proof (f.at' % c.proof.length)).pick,(gi c.proof (f.at' % c.proof.length)).no,(gi c.proof (f.at' % c.proof.length)).no,(gi c.proof (f.at' % c.proof.length)).bound,(gi c.proof (f.at' % c.proof.length)).ws⟩);rfl;rfl;rfl;trivial;rfl;rfl;rfl;decide;omega;decide;exact .refl _)
  |(apply VVal.storeVF (α:=CNode) (i:=f.at' % c.proof.length) (f:=2) (fs:=[.int .i64 (gi c.proof (f.at' % c.proof.length)).yes]) (l:=c.proof.set (f.at' % c.proof.length) ⟨(gi c.proof (f.at' % c.proof.length)).pick,(gi c.proof (f.at' % c.proof.length)).no,(gi c.proof (f.at' % c.proof.length)).no,(gi c.proof (f.at' % c.proof.length)).bound,(gi c.proof (f.at' % c.proof.length)).ws⟩) (y:=⟨(gi c.proof (f.at' % c.proof.length)).pick,(gi c.proof (f.at' % c.proof.length)).no,(gi c.proof (f.at' % c.proof.length)).yes,(gi c.proof (f.at' % c.proof.length)).bound,(gi c.proof (f.at' % c.proof.length)).ws⟩);rfl;rfl;rfl;trivial;rfl;rfl;rfl;decide;(rw [List.length_set];omega);decide;exact hy2)
  |(apply VVal.assign;rfl)
  |(apply VVal.move;rfl)
  |(apply VVal.remI;rfl;rfl;omega;omega)
  |(apply VVal.int;rfl;rfl;rfl)
  |(apply VVal.load;rfl;rfl)
  |(apply VVal.lenV;rfl;rfl;rfl)
  |(apply VVal.fieldB;rfl;rfl;rfl)
  |(apply VVal.box;rfl;trivial)
  |(apply VVal.alloc;rfl)
  |(apply VVal.storeB;rfl;rfl;rfl;trivial;rfl;rfl;exact lt_dec rfl;exact le_dec rfl)
  |(apply VVal.buildSlice;rfl;rfl;rfl;decide;rfl;rfl;rfl)
  |(apply VVal.indexVE;rfl;rfl;rfl;rfl;omega;omega)
  |(apply VVal.convI;rfl;rfl;rfl;rfl;omega)
  |(apply VVal.appendL0;rfl;rfl;rfl;(first|rfl|omega|(simp only [List.length_take,List.length_drop,List.length_append,List.length_singleton,List.length_cons,List.length_nil]<;>omega));rfl;rfl;(intro _ h;cases h);rfl;rfl;rfl;decide;decide;(first|omega|(simp only [List.length_take,List.length_drop,List.length_append,List.length_singleton,List.length_cons,List.length_nil]<;>omega)))
  |(apply VWp.condSeq_dec;rfl)
  |(apply VWp.cond_dec;rfl)
  |(intro _;try (exfalso;omega)))
 all_goals try (exfalso;omega)
 refine Done.ret (H0:=[]) (nx0:=0) rfl (.refl _) trivial trivial (by omega) (Nat.le_refl _) ⟨⟨⟨c.sets,c.cost,(c.proof.set (f.at' % c.proof.length) ⟨(gi c.proof (f.at' % c.proof.length)).pick,(gi c.proof (f.at' % c.proof.length)).no,(gi c.proof (f.at' % c.proof.length)).no,(gi c.proof (f.at' % c.proof.length)).bound,(gi c.proof (f.at' % c.proof.length)).ws⟩).set (f.at' % c.proof.length) ⟨(gi c.proof (f.at' % c.proof.length)).pick,(gi c.proof (f.at' % c.proof.length)).no,(gi c.proof (f.at' % c.proof.length)).yes,(gi c.proof (f.at' % c.proof.length)).bound,(gi c.proof (f.at' % c.proof.length)).ws⟩⟩,by rw [List.set_set];exact h.setN hk (h.ws _ hk),cov_eq (by simp) (by simp)⟩,rfl,rfl⟩
set_option maxRecDepth 100000 in
set_option maxHeartbeats 4000000 in
theorem spoiled8 (hj:f.how % 11=8):VCalls env 24 ([FV.agg (Enc.enc c),FV.agg (Enc.enc f)].map .p) [] 0 spoilQ:=by
 refine VCalls.enter (env_none (by decide)) Tryd.func24 rfl (by kernel_rfl) (by simp [Tryd.ntmps24]) ?_
 have hk:f.at' % c.proof.length<c.proof.length:=Nat.mod_lt _ h0
 by_cases hs:c.sets.length=0
 ·repeat' (first
   |(refine VWp.at 32 ?_;refine VWp.ghost ((Ghost.freezeCell 0 0 rfl rfl rfl).trans (Ghost.freezeCell 0 2 rfl rfl rfl)) ?_;first|apply VWp.rseq|apply VWp.rseqD)
   |apply VWp.assoc
   |apply VWp.rseq
   |apply VWp.skipSeq
   |apply VWp.blockSeq
   |apply QSeq.normal
   |apply QBlk.normal
   |apply VWp.ret
   |apply VWp.skip
   |apply VOps.nil
   |apply VOps.one
   |(apply VVal.assign;rfl)
   |(apply VVal.remI;rfl;rfl;omega;omega)
   |(apply VVal.int;rfl;rfl;rfl)
   |(apply VVal.load;rfl;rfl)
   |(apply VVal.lenV;rfl;rfl;rfl)
   |(apply VVal.fieldB;rfl;rfl;rfl)
   |(apply VVal.box;rfl;trivial)
   |(apply VVal.alloc;rfl)
   |(apply VVal.storeB;rfl;rfl;rfl;trivial;rfl;rfl;exact lt_dec rfl;exact le_dec rfl)
   |(apply VVal.buildSlice;rfl;rfl;rfl;decide;rfl;rfl;rfl)
   |(apply VVal.convI;rfl;rfl;rfl;rfl;omega)
   |(apply VVal.appendL0;rfl;rfl;rfl;(first|rfl|omega|(simp only [List.length_take,List.length_drop,List.length_append,List.length_singleton,List.length_cons,List.length_nil]<;>omega));rfl;rfl;(intro _ h;cases h);rfl;rfl;rfl;decide;decide;(first|omega|(simp only [List.length_take,List.length_drop,List.length_append,List.length_singleton,List.length_cons,List.length_nil]<;>omega)))
   |(apply VWp.condSeq_dec;rfl)
   |(apply VWp.cond_dec;rfl)
   |(intro _;try (exfalso;omega)))
  all_goals try (exfalso;omega)
  refine Done.ret (H0:=[]) (nx0:=0) rfl (.refl _) trivial trivial (by omega) (Nat.le_refl _) ⟨⟨c,h,rfl⟩,rfl,rfl⟩
 ·repeat' (first
   |(refine VWp.atEnd 29 ?_;refine VWp.ghost (Ghost.freezeCell 0 0 rfl rfl rfl) ?_;first|apply VWp.region|apply VWp.regionD)
   |(refine VWp.at 32 ?_;refine VWp.ghost (Ghost.freezeCell 0 2 rfl rfl rfl) ?_;first|apply VWp.rseq|apply VWp.rseqD)
   |apply VWp.assoc
   |apply VWp.rseq
   |apply VWp.skipSeq
   |apply VWp.blockSeq
   |apply QSeq.normal
   |apply QBlk.normal
   |apply VWp.ret
   |apply VOps.nil
   |apply VOps.one
   |(apply VVal.sliceFrom (a:=1);rfl;rfl;rfl;rfl;rfl;rfl;omega)
   |(apply VVal.assign;rfl)
   |(apply VVal.remI;rfl;rfl;omega;omega)
   |(apply VVal.int;rfl;rfl;rfl)
   |(apply VVal.load;rfl;rfl)
   |(apply VVal.lenV;rfl;rfl;rfl)
   |(apply VVal.fieldB;rfl;rfl;rfl)
   |(apply VVal.box;rfl;trivial)
   |(apply VVal.alloc;rfl)
   |(apply VVal.storeB;rfl;rfl;rfl;trivial;rfl;rfl;exact lt_dec rfl;exact le_dec rfl)
   |(apply VVal.buildSlice;rfl;rfl;rfl;decide;rfl;rfl;rfl)
   |(apply VVal.convI;rfl;rfl;rfl;rfl;omega)
   |(apply VVal.appendL0;rfl;rfl;rfl;(first|rfl|omega|(simp only [List.length_take,List.length_drop,List.length_append,List.length_singleton,List.length_cons,List.length_nil]<;>omega));rfl;rfl;(intro _ h;cases h);rfl;rfl;rfl;decide;decide;(first|omega|(simp only [List.length_take,List.length_drop,List.length_append,List.length_singleton,List.length_cons,List.length_nil]<;>omega)))
   |(apply VWp.condSeq_dec;rfl)
   |(apply VWp.cond_dec;rfl)
   |(intro _;try (exfalso;omega)))
  all_goals try (exfalso;omega)
  refine Done.ret (H0:=[]) (nx0:=0) rfl (.refl _) trivial trivial (by omega) (Nat.le_refl _) ⟨⟨⟨c.sets.drop 1,c.cost,c.proof⟩,⟨by simp only [List.length_drop];omega,h.nodes,h.ws⟩,cov_eq (by simp) (by simp)⟩,rfl,rfl⟩
set_option maxRecDepth 100000 in
set_option maxHeartbeats 8000000 in
theorem spoiled5 (hj:f.how % 11=5):VCalls env 24 ([FV.agg (Enc.enc c),FV.agg (Enc.enc f)].map .p) [] 0 spoilQ:=by
 refine VCalls.enter (env_none (by decide)) Tryd.func24 rfl (by kernel_rfl) (by simp [Tryd.ntmps24]) ?_
 have hk:f.at' % c.proof.length<c.proof.length:=Nat.mod_lt _ h0
 have hwk:=h.ws _ hk
 have hle:(f.at' % c.proof.length)*Enc.size CNode+4+1≤((cells c.proof).map PV.p).length:=by
  rw [List.length_map,cells_length]
  have:Enc.size CNode=5:=rfl
  rw [this]
  omega
 by_cases hw0:(gi c.proof (f.at' % c.proof.length)).ws.length=0
 ·repeat' (first
   |(refine VWp.at 32 ?_;refine VWp.ghost ((((Ghost.freezeCellV 6 ((f.at' % c.proof.length)*Enc.size CNode+4) rfl (ws_get _ hk _) rfl).trans (Ghost.closeVec 6 (cells (c.proof.set (f.at' % c.proof.length) ⟨(gi c.proof (f.at' % c.proof.length)).pick,(gi c.proof (f.at' % c.proof.length)).yes,(gi c.proof (f.at' % c.proof.length)).no,(gi c.proof (f.at' % c.proof.length)).bound,(gi c.proof (f.at' % c.proof.length)).ws⟩)) rfl (by omega) (ws_close _ hk _ ((gi c.proof (f.at' % c.proof.length)).ws) rfl))).trans (Ghost.freezeCell 0 0 rfl rfl rfl)).trans (Ghost.freezeCell 0 2 rfl rfl rfl)) ?_;first|apply VWp.rseq|apply VWp.rseqD)
   |(refine VOpsD.atIdx 13 ?_;refine VOpsD.ghost (Ghost.openVec 6 rfl (by omega)) ?_)
   |(refine VOpsD.atIdx 10 ?_;apply VOpsD.weak [.tmp 99];decide +kernel;rfl;rfl;(first|exact VOwn.ref rfl|exact VOwn.vec rfl|exact VOwn.eref rfl);decide +kernel;rfl)
   |apply VWp.assoc
   |apply VWp.rseq
   |apply VWp.rseqD
   |apply VWp.skipSeq
   |apply VWp.blockSeq
   |apply QSeq.normal
   |apply QBlk.normal
   |apply VWp.ret
   |apply VWp.skip
   |apply VOps.nil
   |apply VOpsD.nil
   |apply VOps.one
   |(apply VOpsD.bar;decide +kernel)
   |apply VOpsD.quiet
   |(apply VVal.appendL0 (r:=(gi c.proof (f.at' % c.proof.length)).ws);rfl;rfl;rfl;rfl;rfl;rfl;(intro _ h;cases h);rfl;rfl;rfl;decide;decide;omega)
   |(apply VVal.fieldV;rfl;rfl;rfl)
   |(apply VVal.loadVF;rfl;rfl;omega;decide;rfl)
   |(apply VVal.indexQ (i:=f.at' % c.proof.length);rfl;rfl;rfl;rfl;exact hk)
   |(apply VVal.fieldQ;rfl;rfl;rfl)
   |(apply VVal.storeQ;rfl;rfl;rfl;trivial;rfl;rfl;decide;exact hle)
   |(apply VVal.loadQ;rfl;rfl;rfl;exact ws_get _ hk _)
   |(apply VVal.assign;rfl)
   |(apply VVal.move;rfl)
   |(apply VVal.remI;rfl;rfl;omega;omega)
   |(apply VVal.int;rfl;rfl;rfl)
   |(apply VVal.load;rfl;rfl)
   |(apply VVal.lenV;rfl;rfl;rfl)
   |(apply VVal.fieldB;rfl;rfl;rfl)
   |(apply VVal.box;rfl;trivial)
   |(apply VVal.alloc;rfl)
   |(apply VVal.storeB;rfl;rfl;rfl;trivial;rfl;rfl;exact lt_dec rfl;exact le_dec rfl)
   |(apply VVal.buildSlice;rfl;rfl;rfl;decide;rfl;rfl;rfl)
   |(apply VVal.indexVE;rfl;rfl;rfl;rfl;omega;omega)
   |(apply VVal.convI;rfl;rfl;rfl;rfl;omega)
   |(apply VVal.appendL0;rfl;rfl;rfl;(first|rfl|omega|(simp only [List.length_take,List.length_drop,List.length_append,List.length_singleton,List.length_cons,List.length_nil]<;>omega));rfl;rfl;(intro _ h;cases h);rfl;rfl;rfl;decide;decide;(first|omega|(simp only [List.length_take,List.length_drop,List.length_append,List.length_singleton,List.length_cons,List.length_nil]<;>omega)))
   |(apply VWp.condSeq_dec;rfl)
   |(apply VWp.cond_dec;rfl)
   |(intro _;try (exfalso;omega)))
  all_goals try (exfalso;omega)
  refine Done.ret (H0:=[]) (nx0:=0) rfl (.refl _) trivial trivial (by omega) (Nat.le_refl _) ⟨⟨⟨c.sets,c.cost,c.proof.set (f.at' % c.proof.length) ⟨(gi c.proof (f.at' % c.proof.length)).pick,(gi c.proof (f.at' % c.proof.length)).yes,(gi c.proof (f.at' % c.proof.length)).no,(gi c.proof (f.at' % c.proof.length)).bound,(gi c.proof (f.at' % c.proof.length)).ws⟩⟩,h.setN hk hwk,cov_eq (by simp) (by simp)⟩,rfl,rfl⟩
 have hj2:f.at' / 3 % (gi c.proof (f.at' % c.proof.length)).ws.length<(gi c.proof (f.at' % c.proof.length)).ws.length:=Nat.mod_lt _ (by omega)
 ·repeat' (first
   |(refine VWp.at 32 ?_;refine VWp.ghost ((((Ghost.freezeCellV 6 ((f.at' % c.proof.length)*Enc.size CNode+4) rfl (ws_get _ hk _) rfl).trans (Ghost.closeVec 6 (cells (c.proof.set (f.at' % c.proof.length) ⟨(gi c.proof (f.at' % c.proof.length)).pick,(gi c.proof (f.at' % c.proof.length)).yes,(gi c.proof (f.at' % c.proof.length)).no,(gi c.proof (f.at' % c.proof.length)).bound,(gi c.proof (f.at' % c.proof.length)).ws.set (f.at' / 3 % (gi c.proof (f.at' % c.proof.length)).ws.length) f.value⟩)) rfl (by omega) (ws_close _ hk _ ((gi c.proof (f.at' % c.proof.length)).ws.set (f.at' / 3 % (gi c.proof (f.at' % c.proof.length)).ws.length) f.value) (by simp)))).trans (Ghost.freezeCell 0 0 rfl rfl rfl)).trans (Ghost.freezeCell 0 2 rfl rfl rfl)) ?_;first|apply VWp.rseq|apply VWp.rseqD)
   |(refine VOpsD.atIdx 13 ?_;refine VOpsD.ghost (Ghost.openVec 6 rfl (by omega)) ?_)
   |(refine VOpsD.atIdx 10 ?_;apply VOpsD.weak [.tmp 99];decide +kernel;rfl;rfl;(first|exact VOwn.ref rfl|exact VOwn.vec rfl|exact VOwn.eref rfl);decide +kernel;rfl)
   |apply VWp.assoc
   |apply VWp.rseq
   |apply VWp.rseqD
   |apply VWp.regionD
   |apply VWp.skipSeq
   |apply VWp.blockSeq
   |apply QSeq.normal
   |apply QBlk.normal
   |apply VWp.ret
   |apply VOps.nil
   |apply VOpsD.nil
   |apply VOps.one
   |(apply VOpsD.bar;decide +kernel)
   |apply VOpsD.quiet
   |(apply VVal.appendL0 (r:=(gi c.proof (f.at' % c.proof.length)).ws);rfl;rfl;rfl;rfl;rfl;rfl;(intro _ h;cases h);rfl;rfl;rfl;decide;decide;omega)
   |(apply VVal.fieldV;rfl;rfl;rfl)
   |(apply VVal.loadVF;rfl;rfl;omega;decide;rfl)
   |(apply VVal.indexQ (i:=f.at' % c.proof.length);rfl;rfl;rfl;rfl;exact hk)
   |(apply VVal.fieldQ;rfl;rfl;rfl)
   |(apply VVal.storeQ;rfl;rfl;rfl;trivial;rfl;rfl;decide;exact hle)
   |(apply VVal.loadQ;rfl;rfl;rfl;exact ws_get _ hk _)
   |(apply VVal.quoB3;rfl;rfl;rfl;omega)
   |(apply VVal.remN (m:=f.at' / 3) (n:=(gi c.proof (f.at' % c.proof.length)).ws.length);rfl;rfl;omega)
   |(apply VVal.storeVL (y:=f.value);rfl;rfl;rfl;trivial;(first|rfl|(refine congrArg (fun t=>[PV.p (FV.int _ t)]) ?_;first|omega|(simp only [Int.natCast_add,Int.natCast_mul,Int.natCast_ediv,Int.natCast_emod]<;>omega)));rfl;rfl;decide;(first|omega|(simp only [List.length_set]<;>omega)))
   |(apply VVal.assign;rfl)
   |(apply VVal.move;rfl)
   |(apply VVal.remI;rfl;rfl;omega;omega)
   |(apply VVal.int;rfl;rfl;rfl)
   |(apply VVal.load;rfl;rfl)
   |(apply VVal.lenV;rfl;rfl;rfl)
   |(apply VVal.fieldB;rfl;rfl;rfl)
   |(apply VVal.box;rfl;trivial)
   |(apply VVal.alloc;rfl)
   |(apply VVal.storeB;rfl;rfl;rfl;trivial;rfl;rfl;exact lt_dec rfl;exact le_dec rfl)
   |(apply VVal.buildSlice;rfl;rfl;rfl;decide;rfl;rfl;rfl)
   |(apply VVal.indexVN;rfl;rfl;rfl;rfl;omega)
   |(apply VVal.indexVE;rfl;rfl;rfl;rfl;omega;omega)
   |(apply VVal.convI;rfl;rfl;rfl;rfl;omega)
   |(apply VVal.appendL0;rfl;rfl;rfl;(first|rfl|omega|(simp only [List.length_take,List.length_drop,List.length_append,List.length_singleton,List.length_cons,List.length_nil]<;>omega));rfl;rfl;(intro _ h;cases h);rfl;rfl;rfl;decide;decide;(first|omega|(simp only [List.length_take,List.length_drop,List.length_append,List.length_singleton,List.length_cons,List.length_nil]<;>omega)))
   |(apply VWp.condSeq_dec;rfl)
   |(apply VWp.cond_dec;rfl)
   |(intro _;try (exfalso;omega)))
  all_goals try (exfalso;omega)
  refine Done.ret (H0:=[]) (nx0:=0) rfl (.refl _) trivial trivial (by omega) (Nat.le_refl _) ⟨⟨⟨c.sets,c.cost,c.proof.set (f.at' % c.proof.length) ⟨(gi c.proof (f.at' % c.proof.length)).pick,(gi c.proof (f.at' % c.proof.length)).yes,(gi c.proof (f.at' % c.proof.length)).no,(gi c.proof (f.at' % c.proof.length)).bound,(gi c.proof (f.at' % c.proof.length)).ws.set (f.at' / 3 % (gi c.proof (f.at' % c.proof.length)).ws.length) f.value⟩⟩,h.setN hk (by simp only [List.length_set];exact hwk),cov_eq (by simp) (by simp)⟩,rfl,rfl⟩
theorem spoiled_spec:VCalls env 24 ([FV.agg (Enc.enc c),FV.agg (Enc.enc f)].map .p) [] 0 spoilQ:=by
 have hm:f.how % 11=0∨f.how % 11=1∨f.how % 11=2∨f.how % 11=3∨f.how % 11=4∨f.how % 11=5∨f.how % 11=6∨f.how % 11=7∨f.how % 11=8∨f.how % 11=9∨f.how % 11=10:=by omega
 rcases hm with hm|hm|hm|hm|hm|hm|hm|hm|hm|hm|hm
 ·exact spoiled0 c f h h7 hN h0 hc hf hm
 ·exact spoiled1 c f h h7 hN h0 hc hf hm
 ·exact spoiled2 c f h h7 hN h0 hc hf hm
 ·exact spoiled3 c f h h7 hN h0 hc hf hm
 ·exact spoiled4 c f h h7 hN h0 hc hf hm
 ·exact spoiled5 c f h h7 hN h0 hc hf hm
 ·exact spoiled6 c f h h7 hN h0 hc hf hm
 ·exact spoiled7 c f h h7 hN h0 hc hf hm
 ·exact spoiled8 c f h h7 hN h0 hc hf hm
 ·exact spoiled9 c f h h7 hN h0 hc hf hm
 ·exact spoiled10 c f h h7 hN h0 hc hf hm
end
end Go.Proofs.YtmfnchgkffhpfaaDoor
