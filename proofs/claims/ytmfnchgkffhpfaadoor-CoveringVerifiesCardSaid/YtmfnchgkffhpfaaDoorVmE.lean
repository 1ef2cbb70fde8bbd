/-
  The values' layer: structs of plain fields compared; slices of frozen lists from .. to. No condition. Nothing of one program stands here.
-/
import Derived.Test.YtmfnchgkffhpfaaDoorVmD
set_option linter.unusedSimpArgs false
set_option linter.unusedVariables false
set_option linter.unusedSectionVars false
namespace Go.Vm
open Go.Am
section
variable {P:Program}
def eqVal (d:TypeDesc) (x y:Value):Option Bool :=
 match d,x,y with
 | .int _,.int k a,.int k' b=>if k=k' then some (decide (a=b)) else none
 | .bool,.bool a,.bool b=>some (a==b)
 | .string,.string a,.string b=>some (decide (a.data.toList=b.data.toList))
 |_,_,_=>none
def eqFld (P:Program):List Field→Array Value→Array Value→Option Bool
 |[],_,_=>some true
 |f::fs,xs,ys=>if f.name="_" then none else
  match isAggT P f.type,P.underlying f.type,xs[f.offset]?,ys[f.offset]?,eqFld P fs xs ys with
  |some false,some d,some x,some y,some r=>(eqVal d x y).map (·&&r)
  |_,_,_,_,_=>none
theorem bytes_dec (a b:ByteArray):(a==b)=decide (a.data.toList=b.data.toList):=by
 rw [beq_toListBytes,ByteArray.toList_eq,ByteArray.toList_eq]
 by_cases h:a.data.toList=b.data.toList
 ·simp [h]
 ·rw [decide_eq_false h]
  simpa using fun h2:a.data=b.data=>h (by rw [h2])
theorem dry_eqVal {d:Nat} {t:TypeId} {td:TypeDesc} {x y:Value} {r:Bool} (ht:P.underlying t=some td) (h:eqVal td x y=some r):dry P (Op.equalIn (d+1) t x y)=some r:=by
 unfold eqVal at h
 split at h
 ·split at h
  ·rename_i hk
   subst hk
   cases h
   rename_i a b
   simp only [Op.equalIn,dry_bind,dry_underlying,ht,Option.bind_some,if_true]
   rw [show (decide (a=b))=(a==b) from Bool.eq_iff_iff.2 (by simp)]
   rfl
  ·cases h
 ·cases h
  simp only [Op.equalIn,dry_bind,dry_underlying,ht,Option.bind_some]
  rfl
 ·cases h
  simp only [Op.equalIn,dry_bind,dry_underlying,ht,Option.bind_some,bytes_dec]
  rfl
 ·cases h
theorem dry_part {t:TypeId} {cs:Array Value} {o:Nat} {v:Value} (ha:isAggT P t=some false) (hv:cs[o]?=some v):dry P (part t cs o)=some v:=by
 simp only [part,dry_bind,dry_isAgg,ha,Option.bind_some,Bool.false_eq_true,if_false,hv]
 rfl
theorem dry_eqFld {d:Nat} (xs ys:Array Value) {g:Option Bool×Unit→Sem Bool} (g0:g (none,())=pure true) (g1:∀ b,g (some b,())=pure b):∀ (fs:List Field) (r:Bool),eqFld P fs xs ys=some r →
 dry P ((forIn fs ((none,()):Option Bool×Unit) fun f _=>(do
     if f.name≠"_" then
      if (!(← Op.equalIn (d+1) f.type (← part f.type xs f.offset) (← part f.type ys f.offset)))=true then pure (ForInStep.done (some false,())) else pure (ForInStep.yield (none,()))
     else pure (ForInStep.yield (none,())):Sem (ForInStep (Option Bool×Unit)))) >>= g)=some r
 |[],r,h=>by
  cases h
  simp only [List.forIn_nil,dry_bind,dry_pure,Option.bind_some,g0]
 |f::fs,r,h=>by
  unfold eqFld at h
  split at h
  ·cases h
  rename_i hn
  split at h
  ·rename_i td x y r' h1 h2 h3 h4 h5
   simp only [Option.map_eq_some_iff] at h
   obtain ⟨b,h6,rfl⟩:=h
   have ih:=dry_eqFld (d:=d) xs ys g0 g1 fs r' h5
   rw [List.forIn_cons]
   simp only [dry_bind,ne_eq,hn,not_false_eq_true,if_true,dry_part h1 h3,dry_part h1 h4,Option.bind_some,dry_eqVal h2 h6]
   cases b with
   |false=>simp [dry_pure,g1]
   |true =>
    simp only [Bool.not_true,Bool.false_eq_true,if_false,dry_pure,Option.bind_some,Bool.true_and]
    rw [dry_bind] at ih
    exact ih
  ·cases h
theorem dry_eqStruct {d:Nat} {t:TypeId} {fs:Array Field} {xs ys:Array Value} {r:Bool} (ht:P.underlying t=some (.struct fs)) (hp:P.stoodInHeld t=false) (h:eqFld P fs.toList xs ys=some r) :
 dry P (Op.equalIn (d+2) t (.agg xs) (.agg ys))=some r:=by
 rw [Op.equalIn]
 simp only [dry_bind,dry_underlying,ht,Option.bind_some,program,dry,hp,Bool.false_eq_true,if_false]
 rw [← Array.forIn_toList,← dry_bind]
 exact dry_eqFld (d:=d) xs ys rfl (fun b=>rfl) fs.toList r h
def fvVal:FV→Option Value
 | .int k n=>some (.int k n)
 | .bool b=>some (.bool b)
 | .str s=>some (.string s)
 |_=>none
def fvVals:List FV→Option (List Value)
 |[]=>some []
 |x::l=>match fvVal x,fvVals l with
  |some v,some r=>some (v::r)
  |_,_=>none
theorem fvVal_rel {m:Mem} {F:Nat→Prop} {x:FV} {u v:Value} (h:RF m F x u) (hv:fvVal x=some v):u=v∧Am.plainCell v=true:=by
 cases h<;>simp only [fvVal,Option.some.injEq,reduceCtorEq] at hv
 all_goals (subst hv;exact ⟨rfl,rfl⟩)
theorem fvVals_rel {m:Mem} {F:Nat→Prop}:∀ {l:List FV} {us vs:List Value},RFs m F l us→fvVals l=some vs→us=vs∧vs.all Am.plainCell=true
 |[],_,_,.nil,h=>by cases h;exact ⟨rfl,rfl⟩
 |x::l,_,_,.cons h t,hv=>by
  simp only [fvVals] at hv
  split at hv
  ·rename_i v r h1 h2
   cases hv
   obtain ⟨rfl,p1⟩:=fvVal_rel h h1
   obtain ⟨rfl,p2⟩:=fvVals_rel t h2
   exact ⟨rfl,by simp [p1,p2]⟩
  ·cases hv
def eqSt (P:Program) (t:TypeId) (xs ys:List FV):Option Bool :=
 match P.underlying t,fvVals xs,fvVals ys with
 |some (.struct fs),some vs,some ws=>eqFld P fs.toList vs.toArray ws.toArray
 |_,_,_=>none
def eqFree (P:Program) (t:TypeId):Bool:=!(P.stoodInHeld t)&&!(P.eqGuardType P.depth t)
theorem eqSt_dry {t:TypeId} {xs ys:List FV} {vs ws:List Value} {r:Bool} {op:BinOp} {x y:Operand} (hf:eqFree P t=true) (h:eqSt P t xs ys=some r) (hv:fvVals xs=some vs) (hw:fvVals ys=some ws) (hop:op=.eql∨op=.neq) :
 dry P (do eqGuard op t x y (.agg vs.toArray) (.agg ws.toArray);binOp op t (.agg vs.toArray) (.agg ws.toArray))=some (.bool (if op=.eql then r else !r)):=by
 simp only [eqFree,Bool.and_eq_true,Bool.not_eq_true'] at hf
 unfold eqSt at h
 rw [hv,hw] at h
 split at h
 ·rename_i fs vs' ws' h1 h2 h3
  cases h2;cases h3
  have h4:dry P (Op.equal t (.agg vs.toArray) (.agg ws.toArray))=some r:=dry_eqStruct (d:=9998) h1 hf.1 h
  have h5:dry P (eqGuard op t x y (.agg vs.toArray) (.agg ws.toArray))=some ():=by
   rcases hop with rfl|rfl<;>simp [eqGuard,dry_bind,program,dry,hf.2,dry_pure]
  rcases hop with rfl|rfl
  ·rw [dry_bind,h5,Option.bind_some]
   show dry P (do pure (.bool (← Op.equal t (.agg vs.toArray) (.agg ws.toArray))):Sem Value)=_
   simp only [dry_bind,h4,Option.bind_some,dry_pure]
   rfl
  ·rw [dry_bind,h5,Option.bind_some]
   show dry P (do pure (.bool (!(← Op.equal t (.agg vs.toArray) (.agg ws.toArray)))):Sem Value)=_
   simp only [dry_bind,h4,Option.bind_some,dry_pure]
   rfl
 ·cases h
end
section
variable {E:Env} {L:Frame} {H:Heap} {nx:Nat} {Q:PV→Heap→Nat→Prop} {w:Bool}
variable {dst:Option Tmp} {ty:TypeId} {pos:String} {af:Array Edge} {gd:Option (Nat×Bool)}
theorem VVal.eqSt {op:BinOp} {t t2:TypeId} {x y:Operand} {xs ys:List FV} {r:Bool} (hx:vev E.Γ L x=some (.p (.agg xs))) (hy:vev E.Γ L y=some (.p (.agg ys))) (hop:op=.eql∨op=.neq) (hf:eqFree E.P t=true) (h:Vm.eqSt E.P t xs ys=some r)
 (q:Q (.p (.bool (if op=.eql then r else !r))) H nx):VVal E w ⟨dst,.binOp op t x y t2,ty,pos,af,gd⟩ L H nx Q :=
 VVal.quiet q fun m F σ tt c1 c2=>by
  obtain ⟨vs,hv⟩:∃ vs,fvVals xs=some vs:=by
   cases hv:fvVals xs with
   |some vs=>exact ⟨vs,rfl⟩
   |none=>unfold Vm.eqSt at h;rw [hv] at h;split at h<;>simp_all
  obtain ⟨ws,hw⟩:∃ vs,fvVals ys=some vs:=by
   cases hw:fvVals ys with
   |some vs=>exact ⟨vs,rfl⟩
   |none=>unfold Vm.eqSt at h;rw [hw] at h;split at h<;>simp_all
  have e1:ev tt x=.agg vs.toArray∧vs.all Am.plainCell=true:=by
   have:=vev_rel c1 c2 hx
   generalize ev tt x=u at this
   cases this with
   |p h1=>cases h1 with
    |agg h1 hc=>obtain ⟨rfl,hp⟩:=fvVals_rel h1 hv;exact ⟨rfl,hp⟩
  have e2:ev tt y=.agg ws.toArray∧ws.all Am.plainCell=true:=by
   have:=vev_rel c1 c2 hy
   generalize ev tt y=u at this
   cases this with
   |p h1=>cases h1 with
    |agg h1 hc=>obtain ⟨rfl,hp⟩:=fvVals_rel h1 hw;exact ⟨rfl,hp⟩
  have hd:=eqSt_dry (x:=x) (y:=y) hf h hv hw hop
  refine ⟨_,fun _=>?_,.p (.bool _)⟩
  simp only [aval,aop,e1.1,e2.1]
  have hpl:(plain (.agg vs.toArray)&&plain (.agg ws.toArray))=true:=by
   simp only [plain,plainOne,Bool.and_eq_true]
   exact ⟨e1.2,e2.2⟩
  have:abin E.P op t x y (.agg vs.toArray) (.agg ws.toArray)=some (.bool (if op=.eql then r else !r)):=by
   simp only [abin,hpl,if_true]
   exact dryV_of hd rfl
  rw [this,Option.map_some]
theorem VVal.eqSt1 {t t2:TypeId} {x y:Operand} {xs ys:List FV} {r:Bool} (hx:vev E.Γ L x=some (.p (.agg xs))) (hy:vev E.Γ L y=some (.p (.agg ys))) (hf:eqFree E.P t=true) (h:Vm.eqSt E.P t xs ys=some r)
 (q:Q (.p (.bool r)) H nx):VVal E w ⟨dst,.binOp .eql t x y t2,ty,pos,af,gd⟩ L H nx Q:=VVal.eqSt hx hy (.inl rfl) hf h q
theorem VVal.neSt1 {t t2:TypeId} {x y:Operand} {xs ys:List FV} {r:Bool} (hx:vev E.Γ L x=some (.p (.agg xs))) (hy:vev E.Γ L y=some (.p (.agg ys))) (hf:eqFree E.P t=true) (h:Vm.eqSt E.P t xs ys=some r)
 (q:Q (.p (.bool (!r))) H nx):VVal E w ⟨dst,.binOp .neq t x y t2,ty,pos,af,gd⟩ L H nx Q:=VVal.eqSt hx hy (.inr rfl) hf h q
theorem VVal.sliceFT {α:Type} {_:Enc α} {l:List α} {t:TypeId} {x lo hi:Operand} {e:TypeId} {n:Nat} {inf:TypeInfo} {k k':IntKind} {a b:Int} (hx:vev E.Γ L x=some (.p (.lst e (cells l) n))) (hlo:vev E.Γ L lo=some (.p (.int k a))) (hhi:vev E.Γ L hi=some (.p (.int k' b))) (ht:E.P.underlying t=some (.slice e)) (hi':E.P.info? e=some inf)
 (hsz:inf.size=Enc.size α) (hn:l.length=n) (h:0≤a∧a≤b∧b≤n) (q:Q (.p (.lst e (cells ((l.drop a.toNat).take (b.toNat-a.toNat))) (b.toNat-a.toNat))) H nx):VVal E w ⟨dst,.slice t x (some lo) (some hi) none,ty,pos,af,gd⟩ L H nx Q:=by
 refine VVal.sliceF (a:=a.toNat) (b:=b.toNat) (sz:=Enc.size α) hx ht hi' hsz ⟨k,by rw [Int.toNat_of_nonneg h.1];exact hlo⟩ ⟨k',by rw [Int.toNat_of_nonneg (by omega)];exact hhi⟩ (by omega) (by omega) (by rw [cells_length,hn]) ?_
 rw [cells_drop',cells_take]
 exact q
theorem VVal.indexAB {t e e':TypeId} {x ix:Operand} {n b off:Nat} {cs:List PV} {k:IntKind} {i:Int} {inf:TypeInfo} (hx:vev E.Γ L x=some (.ref b off)) (hb:hget H b=some (.box e' cs)) (hi:vev E.Γ L ix=some (.p (.int k i)))
 (ht:E.P.underlying t=some (.array n e)) (hs:E.P.info? e=some inf) (h:0≤i∧i<n) (q:Q (.ref b (off+i.toNat*inf.size)) H nx):VVal E w ⟨dst,.indexAddr t x ix,ty,pos,af,gd⟩ L H nx Q :=
 VVal.quiet q fun m F σ tt h1 h2=>by
  obtain ⟨c,h3,h4⟩:=vev_ref h1 h2 hx hb
  refine ⟨.pointer (some ⟨c,off+i.toNat*inf.size,none⟩),fun _=>?_,.ref (h1.hp b _ hb).1 rfl fun _=>⟨c,h4,rfl⟩⟩
  simp only [aval,aop,ht,h3,vev_int h1 h2 hi,hs,h,and_self,if_true]
theorem VVal.loadBI {t:TypeId} {a:Operand} {b o:Nat} {e:TypeId} {cs:List PV} {r:PV} (ha:vev E.Γ L a=some (.ref b o)) (hb:hget H b=some (.box e cs)) (ht:isAggT E.P t=some false) (hr:cs[o]?=some r) (q:Q r H nx) :
 VVal E w ⟨dst,.load t a,ty,pos,af,gd⟩ L H nx Q:=by
 refine VVal.load ha ?_ q
 simp only [vload,hb,loadP,ht]
 rw [List.head?_drop]
 exact hr
theorem VVal.ofByte1 {s d e e2:TypeId} {x:Operand} {b:Nat} {z:Bool} {n:Int} (hx:vev E.Γ L x=some (.vec b 1 0 1)) (hb:hget H b=some (.vec e2 [.int .u8 n] 1 z)) (hs:E.P.underlying s=some (.slice e)) (hd:E.P.underlying d=some .string) (he:E.P.underlying e=some (.int .u8)) (hn:0≤n∧n<256)
 (q:Q (st [UInt8.ofNat n.toNat]) H nx):VVal E w ⟨dst,.convert s d x,ty,pos,af,gd⟩ L H nx Q :=
 VVal.quiet q fun m F σ tt c1 c2=>by
  obtain ⟨hl1,vs,hl2,hl3,hl4⟩:=SlC.all (sz:=1) hx hb rfl m F σ tt c1 c2
  have hc:cells [UInt8.ofNat n.toNat]=[.int .u8 n]:=by
   show [FV.int .u8 (((UInt8.ofNat n.toNat).toNat:Nat):Int)]=_
   rw [UInt8.toNat_ofNat']
   congr 2
   omega
  rw [← hc] at hl3
  have hvs:=cells_bytes hl3
  subst hvs
  have hsub:=vev_vec c1 c2 hx hb
  have hag:∃ a g,ev tt x=.slice a 1 g:=by
   unfold SubOf at hsub
   split at hsub
   ·exact ⟨_,_,hsub⟩
   ·exact absurd hsub.2.2 (by decide)
  obtain ⟨a,g,hag⟩:=hag
  rw [hag] at hl2
  refine ⟨.string (bs [UInt8.ofNat n.toNat]),fun _=>?_,.p (.str _)⟩
  have hsl:(isSlT E.P s||isSlT E.P d)=true:=by simp only [isSlT,hs,hd];rfl
  simp only [aval,aop,hsl,if_true,aconv,hs,hd,hag,he,hl2,unbyte_some]
  rfl
theorem VVal.eqSd {t t2:TypeId} {x y:Operand} {a b:List UInt8} {r:Bool} (hx:vev E.Γ L x=some (st a)) (hy:vev E.Γ L y=some (st b)) (hr:decide (a=b)=r) (q:Q (.p (.bool r)) H nx) :
 VVal E w ⟨dst,.binOp .eql t x y t2,ty,pos,af,gd⟩ L H nx Q:=VVal.eqS hx hy (by rw [hr];exact q)
theorem VVal.neSd {t t2:TypeId} {x y:Operand} {a b:List UInt8} {r:Bool} (hx:vev E.Γ L x=some (st a)) (hy:vev E.Γ L y=some (st b)) (hr:decide (a=b)=r) (q:Q (.p (.bool (!r))) H nx) :
 VVal E w ⟨dst,.binOp .neq t x y t2,ty,pos,af,gd⟩ L H nx Q:=VVal.neS hx hy (by rw [hr];exact q)
end
end Go.Vm
set_option linter.unusedSimpArgs false
set_option linter.unusedVariables false
namespace Go.Vm
open Go.Am
def vown (H:Heap):PV→Option Nat
 | .ref b _=>match hget H b with
  |some (.box _ _)=>some b
  |_=>none
 | .vec b n _ _=>match hget H b with
  |some (.vec _ _ k _)=>match Nat.decEq n k with
   | .isTrue _=>some b
   | .isFalse _=>none
  |_=>none
 | .eref b n _=>match hget H b with
  |some (.vec _ _ k _)=>match Nat.decEq n k with
   | .isTrue _=>some b
   | .isFalse _=>none
  |_=>none
 |_=>none
def vfrz:PV→Bool
 | .p (.cptr _)=>true
 | .p (.lst _ _ _)=>true
 | .p (.val (.slice none _ _))=>true
 |_=>false
inductive VOwn (H:Heap):PV→Nat→Prop
 |ref {b off:Nat} {e:TypeId} {cs:List PV} (h:hget H b=some (.box e cs)):VOwn H (.ref b off) b
 |vec {b n off len:Nat} {e:TypeId} {cs:List FV} {z:Bool} (h:hget H b=some (.vec e cs n z)):VOwn H (.vec b n off len) b
 |eref {b n off:Nat} {e:TypeId} {cs:List FV} {z:Bool} (h:hget H b=some (.vec e cs n z)):VOwn H (.eref b n off) b
def vsep (H:Heap) (b:Nat) (y:PV):Bool:=match vown H y with
 |some c=>match Nat.decEq b c with
  | .isTrue _=>false
  | .isFalse _=>true
 |none=>vfrz y
section
variable {Γ:Nat→Option (List Value×TypeId)} {m:Mem} {F:Nat→Prop} {σ:Nat→Value} {H:Heap} {nx:Nat} {L:Frame} {t:Tr Value}
theorem VOwn.blk (hx:Ctx Γ m F σ H nx) (hl:RL m F (htag H) σ nx L t) {o:Operand} {x:PV} {b:Nat} (h:vev Γ L o=some x) (ho:VOwn H x b):∃ y,hget H b=some y∧∀ c,blkV (ev t o)=some c→blkOf (σ b)=some c:=by
 cases ho with
 |ref hb =>
  obtain ⟨c,h1,h2⟩:=vev_ref hx hl h hb
  refine ⟨_,hb,fun d hd=>?_⟩
  rw [h1] at hd
  rw [h2]
  exact hd
 |vec hb =>
  have hsub:=vev_vec hx hl h hb
  refine ⟨_,hb,fun d hd=>?_⟩
  unfold SubOf at hsub
  split at hsub
  ·rename_i c k' g hs
   rw [hsub] at hd
   rw [hs]
   exact hd
  ·rename_i hne
   obtain ⟨h1,_,_⟩:=hsub
   rcases (hx.hp b _ hb).2 with ⟨_,_,r3⟩|⟨c,g,vs,r1,_⟩
   ·rcases r3 with ⟨r3,_⟩|⟨b2,o2,g2,r3,_⟩
    ·rw [h1,r3] at hd;cases hd
    ·rw [h1,r3] at hd;cases hd
   ·exact absurd r1 (hne _ _ _)
 |eref hb =>
  obtain ⟨c,k',g,h1,h2⟩:=vev_eref hx hl h hb
  refine ⟨_,hb,fun d hd=>?_⟩
  rw [h1] at hd
  rw [h2]
  exact hd
theorem vown_own {x:PV} {b:Nat} (ho:vown H x=some b):VOwn H x b:=by
 unfold vown at ho
 split at ho
 ·split at ho
  ·rename_i hb;cases ho;exact .ref hb
  ·cases ho
 ·split at ho
  ·rename_i hb
   split at ho
   ·rename_i hn _;cases ho;subst hn;exact .vec hb
   ·cases ho
  ·cases ho
 ·split at ho
  ·rename_i hb
   split at ho
   ·rename_i hn _;cases ho;subst hn;exact .eref hb
   ·cases ho
  ·cases ho
 ·cases ho
theorem vfrz_blk (hx:Ctx Γ m F σ H nx) (hl:RL m F (htag H) σ nx L t) {o:Operand} {x:PV} (h:vev Γ L o=some x) (ho:vfrz x=true):∀ c,blkV (ev t o)=some c→F c:=by
 have hr:=vev_rel hx hl h
 generalize ev t o=v at *
 intro c hc
 unfold vfrz at ho
 split at ho
 ·cases hr with
  |p hr=>cases hr with|cptr hF=>simp only [blkV,Option.some.injEq] at hc;subst hc;exact hF
 ·cases hr with
  |p hr =>
   cases hr with
   |nil=>cases hc
   |room=>cases hc
   |lst hF=>simp only [blkV,Option.some.injEq] at hc;subst hc;exact hF
 ·cases hr with
  |p hr=>cases hr with|val=>cases hc
 ·cases ho
theorem vsep_ne (hx:Ctx Γ m F σ H nx) (hl:RL m F (htag H) σ nx L t) {o r:Operand} {x y:PV} {b:Nat} (h:vev Γ L o=some x) (hb:VOwn H x b) (h2:vev Γ L r=some y) (hs:vsep H b y=true):blkNe (blkV (ev t r)) (blkV (ev t o))=true:=by
 obtain ⟨u,hu,hub⟩:=hb.blk hx hl h
 cases hd:blkV (ev t o) with
 |none=>cases blkV (ev t r)<;>rfl
 |some d =>
  have hbd:=hub d hd
  cases he:blkV (ev t r) with
  |none=>rfl
  |some e =>
   simp only [blkNe,bne_iff_ne,ne_eq]
   intro hde
   subst hde
   unfold vsep at hs
   split at hs
   ·rename_i c hc
    obtain ⟨u',hu',hub'⟩:=(vown_own hc).blk hx hl h2
    have hce:=hub' e he
    have:=hx.sep b c u u' e hu hu' hbd hce
    subst this
    split at hs
    ·cases hs
    ·rename_i hne _;exact hne rfl
   ·exact (hx.notF ⟨b,u,hu,hbd⟩).1 (vfrz_blk hx hl h2 hs e he)
end
def opEq:Operand→Operand→Bool
 | .tmp a,.tmp b=>a==b
 | .global a,.global b=>a==b
 |_,_=>false
def opsEq:List (Option Operand)→List Operand→Bool
 |[],[]=>true
 |some a::l,b::r=>opEq a b&&opsEq l r
 |_,_=>false
theorem opEq_eq {a b:Operand} (h:opEq a b=true):a=b:=by
 cases a<;>cases b<;>simp only [opEq,beq_iff_eq,Bool.false_eq_true] at h<;>rw [h]
theorem opsEq_eq:∀ {l:List (Option Operand)} {r:List Operand},opsEq l r=true→l=r.map some
 |[],[],_=>rfl
 |some a::l,b::r,h=>by
  simp only [opsEq,Bool.and_eq_true] at h
  rw [List.map_cons,opEq_eq h.1,opsEq_eq h.2]
def vseps (Γ:Nat→Option (List Value×TypeId)) (L:Frame) (H:Heap) (x:Nat):List Operand→Bool
 |[]=>true
 |r::l=>(match vev Γ L r with
  |some y=>vsep H x y
  |none=>false)&&vseps Γ L H x l
section
variable {E:Env} {L:Frame} {H:Heap} {nx:Nat}
variable {dst:Option Tmp} {ty:TypeId} {pos:String} {af:Array Edge} {gd:Option (Nat×Bool)}
variable {bn:Nat} {ops:Array Oper} {op:Op} {l:List Oper} {i:Nat} {R:Frame→Heap→Nat→Prop}
theorem VOpsD.atIdx (n:Nat) (h:VOpsD E bn ops n l L H nx R):VOpsD E bn ops n l L H nx R:=h
theorem VOpsD.weak {wo:Operand} {x:PV} {b:Nat} (rs:List Operand) (hw:wbar E.P ops i=true) (hi:(ops[i]?).bind (fun o=>wrOp o.op)=some wo) (hx:vev E.Γ L wo=some x) (hb:VOwn H x b) (hr:opsEq (freeRoots ops i) rs=true) (hs:vseps E.Γ L H b rs=true)
 (h:VVal E true ⟨dst,op,ty,pos,af,none⟩ L H nx fun r H' nx'=>VOpsD E bn ops (i+1) l (lput L dst r) H' nx' R):VOpsD E bn ops i (⟨dst,op,ty,pos,af,none⟩::l) L H nx R:=by
 intro B hB m F σ t h1 h2 h3
 have hfree:freeAt ops i t=true:=by
  unfold freeAt
  rw [hi]
  simp only
  rw [opsEq_eq hr,List.all_eq_true]
  intro r hmem
  rw [List.mem_map] at hmem
  obtain ⟨r0,hr0,rfl⟩:=hmem
  simp only
  have key:∀ rs:List Operand,vseps E.Γ L H b rs=true→r0∈rs→∃ y,vev E.Γ L r0=some y∧vsep H b y=true:=by
   intro rs
   induction rs with
   |nil=>intro _ h;cases h
   |cons a rs ih =>
    intro h hm
    simp only [vseps,Bool.and_eq_true] at h
    rcases List.mem_cons.1 hm with rfl|hm
    ·cases hv:vev E.Γ L r0 with
     |none=>rw [hv] at h;cases h.1
     |some y=>rw [hv] at h;exact ⟨y,rfl,h.1⟩
    ·exact ih h.2 hm
  obtain ⟨y,hy,hys⟩:=key rs hs hr0
  exact vsep_ne h1 h2 hx hb hy hys
 refine AOpsD.cons (guardIs.wanted (L:=L) h1 h2 rfl) ((h (m.at m.size) F σ t (h1.at _) (RL.at (Γ:=E.Γ) _ h2)).mono ?_)
 rintro v m' ⟨r,H',nx',F',σ',q,c1,c2,c3,c4⟩
 refine ⟨.inr (.inr ⟨hw,hfree⟩),?_⟩
 exact q B hB _ F' σ' _ (c1.at _) (RL.at (Γ:=E.Γ) _ (((RL.at (Γ:=E.Γ) _ h2).step c3 (h1.at _)).put c2)) (h3.trans c3.at)
end
end Go.Vm
set_option linter.unusedSimpArgs false
set_option linter.unusedVariables false
namespace Go.Vm
open Go.Am
section
variable {E:Env} {bn:Nat} {b:Code} {L:Frame} {H:Heap} {nx:Nat} {Q:AExit→Frame→Heap→Nat→Prop}
def VUn (E:Env) (bn:Nat) (b:Code) (Q:AExit→Frame→Heap→Nat→Prop):Nat→Frame→Heap→Nat→Prop
 |0,L,H,nx=>VWp E bn b L H nx (QLoop (fun _ _ _=>False) Q)
 |n+1,L,H,nx=>VWp E bn b L H nx (QLoop (VUn E bn b Q n) Q)
theorem VWp.loopN (n:Nat) (h:VUn E bn b Q n L H nx):VWp E bn (.loop b) L H nx Q:=by
 intro B hB m F σ t h1 h2 h3
 refine AWp.loop (fun k s=>∃ L H nx F σ,VUn E bn b Q k L H nx∧Ctx E.Γ s.m F σ H nx∧RL s.m F (htag H) σ nx L s.t∧B.to s.m F σ H nx) n ⟨L,H,nx,F,σ,h,h1,h2,h3⟩ ?_
 rintro k s ⟨L1,H1,nx1,F1,σ1,u,c1,c2,c3⟩
 cases k with
 |zero =>
  refine (u B hB s.m F1 σ1 s.t c1 c2 c3).mono ?_
  rintro e s' ⟨L',H',nx',F',σ',q,d1,d2,d3⟩
  cases e with
  |normal=>exact q.elim
  |ret=>exact ⟨L',H',nx',F',σ',q,d1,d2,d3⟩
  |exit i=>exact ⟨L',H',nx',F',σ',q,d1,d2,d3⟩
 |succ k =>
  refine (u B hB s.m F1 σ1 s.t c1 c2 c3).mono ?_
  rintro e s' ⟨L',H',nx',F',σ',q,d1,d2,d3⟩
  cases e with
  |normal=>exact ⟨k,Nat.lt_succ_self _,L',H',nx',F',σ',q,d1,d2,d3⟩
  |ret=>exact ⟨L',H',nx',F',σ',q,d1,d2,d3⟩
  |exit i=>exact ⟨L',H',nx',F',σ',q,d1,d2,d3⟩
theorem VUn.zero (h:VWp E bn b L H nx (QLoop (fun _ _ _=>False) Q)):VUn E bn b Q 0 L H nx:=h
theorem VUn.succ {n:Nat} (h:VWp E bn b L H nx (QLoop (VUn E bn b Q n) Q)):VUn E bn b Q (n+1) L H nx:=h
theorem QLoop.again {I:Frame→Heap→Nat→Prop} (h:I L H nx):QLoop I Q .normal L H nx:=h
end
end Go.Vm
set_option linter.unusedSimpArgs false
set_option linter.unusedVariables false
namespace Go.Vm
open Go.Am
def setE (names:List (List UInt8)):List (FV×FV):=names.map fun s=>(.str (bs s),.bool true)
theorem bs_dec (a b:List UInt8):(bs a==bs b)=decide (a=b):=by rw [bytes_dec];simp only [bs_data]
theorem set_keys {m:Mem} {F:Nat→Prop}:∀ {names:List (List UInt8)} {l:List MapEntry},entsRel m F (setE names) l→l.map (·.key)=names.map (fun s=>Value.string (bs s))∧l.map (·.val)=names.map (fun _=>Value.bool true)
 |[],[],_=>⟨rfl,rfl⟩
 |[],e::l,h=>by cases h.1
 |s::names,[],h=>by cases h.1
 |s::names,e::l,h=>by
  obtain ⟨h1,h2⟩:=h
  simp only [setE,List.map_cons] at h1 h2
  cases h1 with
  |cons k1 t1 =>
   cases h2 with
   |cons k2 t2 =>
    obtain ⟨e1,e2⟩:=set_keys (names:=names) (l:=l) ⟨t1,t2⟩
    rw [List.map_cons,List.map_cons,List.map_cons,List.map_cons,e1,e2]
    constructor
    ·congr 1
     generalize e.key=k at k1
     cases k1;rfl
    ·congr 1
     generalize e.val=k at k2
     cases k2;rfl
theorem find_set:∀ {names:List (List UInt8)} {l:List MapEntry},l.map (·.key)=names.map (fun s=>Value.string (bs s))→l.map (·.val)=names.map (fun _=>Value.bool true)→∀ (s:List UInt8) (i:Nat),
 (s∈names→∃ j,Instr.findNow .string (.string (bs s)) l i=some (some (j,.bool true)))∧(s∉names→Instr.findNow .string (.string (bs s)) l i=some none)
 |[],[],_,_,s,i=>⟨fun h=>(by cases h),fun _=>rfl⟩
 |[],e::l,h,_,_,_=>by cases h
 |n::names,[],h,_,_,_=>by cases h
 |n::names,e::l,h1,h2,s,i=>by
  simp only [List.map_cons,List.cons.injEq] at h1 h2
  obtain ⟨i1,i2⟩:=find_set h1.2 h2.2 s (i+1)
  have hs:Instr.sameNow .string (.string (bs s)) (.string (bs n))=some (bs s==bs n):=rfl
  rw [bs_dec] at hs
  unfold Instr.findNow
  rw [h1.1,hs]
  by_cases hn:s=n
  ·rw [decide_eq_true hn]
   simp only [h2.1]
   exact ⟨fun _=>⟨i,rfl⟩,fun h=>absurd (by rw [hn];simp) h⟩
  ·rw [decide_eq_false hn]
   simp only
   refine ⟨fun h=>?_,fun h=>?_⟩
   ·rcases List.mem_cons.1 h with h|h
    ·exact absurd h hn
    ·exact i1 h
   ·exact i2 (fun h'=>h (List.mem_cons_of_mem _ h'))
section
variable {E:Env} {L:Frame} {H:Heap} {nx:Nat} {Q:PV→Heap→Nat→Prop} {w:Bool}
variable {dst:Option Tmp} {ty:TypeId} {pos:String} {af:Array Edge} {gd:Option (Nat×Bool)}
theorem vev_map {Γ:Nat→Option (List Value×TypeId)} {m:Mem} {F:Nat→Prop} {σ:Nat→Value} {t:Tr Value} {b:Nat} {o:Operand} {es:List (FV×FV)} (hx:Ctx Γ m F σ H nx) (hl:RL m F (htag H) σ nx L t) (h:vev Γ L o=some (.mref b)) (hb:hget H b=some (.map es)):ev t o=σ b:=by
 have:=vev_rel hx hl h
 generalize ev t o=v at this
 cases this with
 |mref _ _ h3=>exact h3 (by simp [htag,hb,HB.tag])
theorem VVal.makeMap {t:TypeId} (q:Q (.mref nx) ((nx,.map [])::H) (nx+1)):VVal E w ⟨dst,.makeMap t none,ty,pos,af,gd⟩ L H nx Q:=by
 intro m F σ tt h1 h2
 obtain ⟨c1,c2,c3⟩:=h1.new (m':=m.alloc (.map [] 0)) (x:=.map []) (s:=.map (some m.size)) (by simp [Mem.alloc]) (fun c hc=>by rw [Mem.get_alloc,if_neg (by omega)]) (by simp only [Mem.alloc];omega) (fun c hc=>by simp only [blkOf,Option.some.injEq] at hc;omega)
  ⟨m.size,[],0,rfl,by simp [Mem.alloc],fun hf=>Nat.lt_irrefl _ (h1.fr _ hf),by rw [Mem.get_alloc,if_pos rfl],⟨.nil,.nil⟩⟩
 exact AVal.op (v:=.map (some m.size)) (fun _=>rfl) ⟨_,_,_,F,_,q,c1,.mref (Nat.lt_succ_self _) rfl fun _=>(upd_same _ _ _).symm,c2,fun _=>c3⟩
theorem VVal.lookupSet {t kt et:TypeId} {x k:Operand} {b:Nat} {names:List (List UInt8)} {s:List UInt8} (hx:vev E.Γ L x=some (.mref b)) (hb:hget H b=some (.map (setE names))) (hk:vev E.Γ L k=some (st s))
 (ht:E.P.underlying t=some (.map kt et)) (hkk:keyKind E.P kt=some .string) (hz:zeroOf E.P et=some (.bool false)) (q:Q (.p (.bool (decide (s∈names)))) H nx):VVal E w ⟨dst,.lookup t x k false,ty,pos,af,gd⟩ L H nx Q :=
 VVal.quiet q fun m F σ tt c1 c2=>by
  obtain ⟨_,r,l,clock,r1,r2,r3,r4,r5⟩:=c1.hp b _ hb
  obtain ⟨e1,e2⟩:=set_keys r5
  obtain ⟨f1,f2⟩:=find_set e1 e2 s 0
  refine ⟨.bool (decide (s∈names)),fun _=>?_,.p (.bool _)⟩
  simp only [aval,aop,alookup,ht,hkk,hz,vev_map c1 c2 hx hb,vev_str c1 c2 hk,r1,r4]
  rw [show (plain (Value.bool false)&&plain (Value.string (bs s)))=true from rfl]
  by_cases h:s∈names
  ·obtain ⟨j,hj⟩:=f1 h
   simp only [if_true,hj,Bool.false_eq_true,if_false,Option.map_some,decide_eq_true h]
  ·simp only [if_true,f2 h,Bool.false_eq_true,if_false,Option.map_some,decide_eq_false h]
theorem RFs.snoc {m:Mem} {F:Nat→Prop}:∀ {cs:List FV} {vs:List Value} {c:FV} {v:Value},RFs m F cs vs→RF m F c v→RFs m F (cs++[c]) (vs++[v])
 |_,_,_,_,.nil,h=>.cons h .nil
 |_,_,_,_,.cons a t,h=>.cons a (RFs.snoc t h)
theorem VVal.addSet {t kt et:TypeId} {x k y:Operand} {b:Nat} {names:List (List UInt8)} {s:List UInt8} (hx:vev E.Γ L x=some (.mref b)) (hb:hget H b=some (.map (setE names))) (hk:vev E.Γ L k=some (st s)) (hy:vev E.Γ L y=some (.p (.bool true)))
 (ht:E.P.underlying t=some (.map kt et)) (hkk:keyKind E.P kt=some .string) (hn:s∉names) (q:Q (.tup []) (hput H b (.map (setE (names++[s])))) nx):VVal E true ⟨dst,.mapUpdate t x k y,ty,pos,af,gd⟩ L H nx Q:=by
 intro m F σ tt c1 c2
 obtain ⟨_,r,l,clock,r1,r2,r3,r4,r5⟩:=c1.hp b _ hb
 obtain ⟨e1,e2⟩:=set_keys r5
 have f2:=(find_set e1 e2 s 0).2 hn
 have hput':∀ d x,r≠d→(m.put r x).get d=m.get d:=fun d x hd=>by rw [Mem.get_put,if_neg hd]
 obtain ⟨d1,d2⟩:=c1.change (m':=m.put r (.map (l++[{ key:=.string (bs s),val:=.bool true,born:=clock }]) (clock+1))) (x':=.map (setE (names++[s]))) (s':=σ b) hb trivial (fun _=>rfl) (Nat.le_refl _)
  (fun d _ hd=>hput' d _ fun e=>hd (by rw [r1,e];rfl)) (fun k k1 k2 k3=>by
   have:=k3 r (by rw [r1];rfl)
   simp only [Mem.put];omega) (fun d hd=>.inl hd) (by
   refine ⟨r,_,clock+1,r1,r2,r3,by rw [Mem.get_put,if_pos rfl],?_⟩
   have hF:∀ d,F d→F d∧(m.put r (.map (l++[{ key:=.string (bs s),val:=.bool true,born:=clock }]) (clock+1))).get d=m.get d:=fun d hd=>⟨hd,hput' d _ fun e=>r3 (e▸hd)⟩
   unfold entsRel setE
   simp only [List.map_append,List.map_cons,List.map_nil]
   exact ⟨RFs.snoc (r5.1.mono hF) (.str _),RFs.snoc (r5.2.mono hF) (.bool _)⟩)
 refine AVal.op (v:=undef) (fun _=>?_) ⟨_,_,_,F,_,q,d1,.tup .nil,d2,fun h=>by cases h⟩
 have hv:ev tt y=.bool true:=vev_bool c1 c2 hy
 simp only [aval,aop,aupdate,ht,hkk,vev_map c1 c2 hx hb,vev_str c1 c2 hk,hv,r1,r4]
 rw [show plain (Value.string (bs s))=true from rfl]
 simp only [if_true,f2,Option.map_some]
end
end Go.Vm
set_option linter.unusedSimpArgs false
set_option linter.unusedVariables false
namespace Go.Vm
open Go.Am
end Go.Vm
