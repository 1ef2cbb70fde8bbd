/-
  Texts of a proof, merged (Vm34, Vm37, TraF, Vm35, TraG, TraH, TraA, TraI, HunA, HunB, HunC, HunD, TraB, TraC, TraD). Conditions: in each statement.
-/
import Derived.Test.YtdabojnmoejilaaGreatDoorKWd
set_option linter.unusedSimpArgs false
set_option linter.unusedVariables false
set_option linter.unusedSectionVars false
set_option maxRecDepth 100000
set_option maxHeartbeats 8000000
namespace Go.Vm
open Go.Am
variable {E:Env} {L:Frame} {H:Heap} {nx:Nat} {Q:PV→Heap→Nat→Prop} {w:Bool}
variable {dst:Option Tmp} {ty:TypeId} {pos:String} {af:Array Edge} {gd:Option (Nat×Bool)}
theorem upd_id (σ:Nat→Value) (a:Nat):upd σ a (σ a)=σ:=by funext x;simp only [upd];split<;>simp_all
theorem Ghost.openVec (b:Nat) {n:Nat} {e:TypeId} {cs:List FV} {z:Bool} (hb:hget H b=some (.vec e cs n z)) (hn:0<n):Ghost E L H nx L (hput H b (.vecp e (cs.map .p) n)) nx:=fun B m F σ t h1 h2 h3=>by
 obtain ⟨_,hr⟩:=h1.hp b _ hb
 rcases hr with ⟨r1,r2,r3⟩|⟨c,g,vs,r1,r2,r3,r4,r5,r6,r7⟩
 ·omega
 have hT:htag (hput H b (.vecp e (cs.map .p) n))=htag H:=by
  funext d
  rw [htag_hput]
  by_cases e':b=d
  ·subst e';rw [if_pos rfl];simp [htag,hb,HB.tag]
  ·rw [if_neg e']
 obtain ⟨d1,d2⟩:=h1.change (m':=m) (b0:=b) (x':=.vecp e (cs.map .p) n) (s':=σ b) hb (Nat.le_refl _) (fun _=>rfl) (Nat.le_refl _) (fun _ _ _=>rfl) (fun _ h _ _=>h) (fun c hc=>.inl hc)
  ⟨c,g,vs,r1,r2,r3,r4,RPs.ofRFs r5,r6⟩
 rw [upd_id] at d1 d2
 exact ⟨F,σ,d1,h2.step d2 h1,h3.trans d2⟩
theorem Ghost.closeVec (b:Nat) {n:Nat} {e:TypeId} {ds:List PV} (cs:List FV) (hb:hget H b=some (.vecp e ds n)) (hn:0<n) (hd:ds=cs.map .p):Ghost E L H nx L (hput H b (.vec e cs n false)) nx:=fun B m F σ t h1 h2 h3=>by
 subst hd
 obtain ⟨_,c,g,vs,r1,r2,r3,r4,r5,r6⟩:=h1.hp b _ hb
 obtain ⟨d1,d2⟩:=h1.change (m':=m) (b0:=b) (x':=.vec e cs n false) (s':=σ b) hb (Nat.le_refl _) (fun _=>rfl) (Nat.le_refl _) (fun _ _ _=>rfl) (fun _ h _ _=>h) (fun c hc=>.inl hc)
  (.inr ⟨c,g,vs,r1,r2,r3,r4,RFs.ofRPs r5,r6,fun _=>rfl⟩)
 rw [upd_id] at d1 d2
 exact ⟨F,σ,d1,h2.step d2 h1,h3.trans d2⟩
theorem Ghost.freezeCellV (a k:Nat) {b n n':Nat} {e e':TypeId} {cs:List FV} {ds:List PV} {z:Bool} (ha:hget H a=some (.vecp e' ds n')) (hk:ds[k]?=some (.vec b n 0 n)) (hb:hget H b=some (.vec e cs n z)) :
 Ghost E L H nx L (hput (hdel H b) a (.vecp e' (ds.set k (.p (.lst e cs n))) n')) nx:=fun B m F σ t h1 h2 h3=>by
 obtain ⟨c1,c2,c3⟩:=freezeCtx h1 hb
 have hne:b≠a:=fun e=>by subst e;rw [ha] at hb;cases hb
 have ha':hget (hdel H b) a=some (.vecp e' ds n'):=by rw [hget_hdel,if_neg hne];exact ha
 obtain ⟨_,c,g,vs,r1,r2,r3,r4,r5,r6⟩:=c1.hp a _ ha'
 obtain ⟨_,c',g',vs',s1,s2,s3,s4,s5,s6⟩:=h1.hp a _ ha
 rw [s1] at r1;cases r1
 rw [s4] at r4;cases r4
 obtain ⟨u,hu1,hu2⟩:=s5.get hk
 have hcell:RP m (fun c=>F c∨blkOf (σ b)=some c) (htag (hdel H b)) σ nx (.p (.lst e cs n)) u:=by
  cases hu2 with
  |vec hb' hc h=>exact .p (c3 _ ((h n (by simp [htag,hb,HB.tag])).2 rfl))
 obtain ⟨d1,d2⟩:=c1.change (m':=m) (b0:=a) (x':=.vecp e' (ds.set k (.p (.lst e cs n))) n') (s':=σ a) ha' (Nat.le_refl _) (fun _=>rfl) (Nat.le_refl _) (fun _ _ _=>rfl) (fun _ h _ _=>h) (fun c hc=>.inl hc) (by
  refine ⟨_,_,vs,s1,s2,r3,s4,?_,s6⟩
  have:vs=vs.set k u:=by
   apply List.ext_getElem?
   intro j
   rw [List.getElem?_set]
   by_cases e:k=j
   ·subst e
    rw [if_pos rfl,hu1]
    have:k<vs.length:=by
     rcases Nat.lt_or_ge k vs.length with h|h
     ·exact h
     ·rw [List.getElem?_eq_none h] at hu1;cases hu1
    rw [if_pos this]
   ·rw [if_neg e]
  rw [this]
  exact (r5.set k hcell).mono (fun d hd=>⟨hd,rfl⟩) (change_names (x':=.vecp e' (ds.set k (.p (.lst e cs n))) n') ha' (Nat.le_refl _) fun _=>rfl) (Nat.le_refl _))
 rw [upd_id] at d1 d2
 exact ⟨_,σ,d1,(h2.step c2 h1).step d2 c1,(h3.trans c2).trans d2⟩
theorem vev_erefQ {Γ:Nat→Option (List Value×TypeId)} {m:Mem} {F:Nat→Prop} {σ:Nat→Value} {t:Tr Value} {b tag off:Nat} {o:Operand} {e:TypeId} {cs:List PV} (hx:Ctx Γ m F σ H nx) (hl:RL m F (htag H) σ nx L t) (h:vev Γ L o=some (.eref b tag off)) (hb:hget H b=some (.vecp e cs tag)) :
 ∃ c k g,ev t o=.pointer (some ⟨c,off,some g⟩)∧σ b=.slice (some ⟨c,0,none⟩) k g:=by
 have:=vev_rel hx hl h
 generalize ev t o=v at this
 cases this with
 |eref h1 h2 h3 =>
  obtain ⟨_,h4⟩:=h3 tag (by simp [htag,hb,HB.tag])
  obtain ⟨c,k,g,h5,h6⟩:=h4 rfl
  exact ⟨c,k,g,h6,h5⟩
theorem vev_vecQ {Γ:Nat→Option (List Value×TypeId)} {m:Mem} {F:Nat→Prop} {σ:Nat→Value} {t:Tr Value} {b tag off len:Nat} {o:Operand} {e:TypeId} {cs:List PV} (hx:Ctx Γ m F σ H nx) (hl:RL m F (htag H) σ nx L t) (h:vev Γ L o=some (.vec b tag off len)) (hb:hget H b=some (.vecp e cs tag)) :
 SubOf (σ b) off len (ev t o):=by
 have:=vev_rel hx hl h
 generalize ev t o=v at this
 cases this with
 |vec h1 h2 h3=>exact (h3 tag (by simp [htag,hb,HB.tag])).2 rfl
theorem VVal.fieldQ {s:TypeId} {x:Operand} {f k b tag off:Nat} {e:TypeId} {cs:List PV} (hx:vev E.Γ L x=some (.eref b tag off)) (hb:hget H b=some (.vecp e cs tag)) (hk:fieldOff E.P s f=some k) (q:Q (.eref b tag (off+k)) H nx) :
 VVal E w ⟨dst,.fieldAddr s x f,ty,pos,af,gd⟩ L H nx Q :=
 VVal.quiet q fun m F σ tt h1 h2=>by
  obtain ⟨c,k',g,h3,h4⟩:=vev_erefQ h1 h2 hx hb
  refine ⟨_,fun _=>fieldOff_spec (dst:=dst) (ty:=ty) (pos:=pos) (af:=af) (gd:=gd) hk h3,.eref (h1.hp b _ hb).1 rfl fun n hn=>?_⟩
  simp only [htag,hb,HB.tag,Option.map_some,Option.some.injEq,Tg.vec.injEq] at hn
  exact ⟨by omega,fun _=>⟨c,k',g,h4,rfl⟩⟩
theorem VVal.indexQ {t:TypeId} {x ix:Operand} {e:TypeId} {cs:List PV} {b tag sz:Nat} {k:IntKind} {i:Nat} (hx:vev E.Γ L x=some (.vec b tag 0 tag)) (hb:hget H b=some (.vecp e cs tag)) (hi:vev E.Γ L ix=some (.p (.int k (i:Int))))
 (hs:elemSize E.P t=some sz) (h1:i<tag) (q:Q (.eref b tag (i*sz)) H nx):VVal E w ⟨dst,.indexAddr t x ix,ty,pos,af,gd⟩ L H nx Q :=
 VVal.quiet q fun m F σ tt c1 c2=>by
  obtain ⟨e',inf,h3,h4,h5⟩:=elemSize_some hs
  have hix:=vev_int c1 c2 hi
  have hsub:=vev_vecQ c1 c2 hx hb
  obtain ⟨hlt,c,g,vs,r1,r2,r3,r4,r5,r6⟩:=c1.hp b _ hb
  rw [r1] at hsub
  simp only [SubOf] at hsub
  have h0:(0:Int)≤(i:Int):=by omega
  have h1':(i:Int)<(tag:Int):=by omega
  refine ⟨.pointer (some ⟨c,i*sz,some g⟩),fun _=>by simp only [aval,aop,h3,hsub,hix,h4,h0,h1',and_self,if_true,h5,Nat.zero_add,Int.toNat_natCast],.eref hlt rfl fun n hn=>?_⟩
  simp only [htag,hb,HB.tag,Option.map_some,Option.some.injEq,Tg.vec.injEq] at hn
  exact ⟨by omega,fun _=>⟨c,tag,g,r1,rfl⟩⟩
theorem VVal.loadQ {t:TypeId} {a:Operand} {b n off:Nat} {e:TypeId} {cs:List PV} {r:PV} (ha:vev E.Γ L a=some (.eref b n off)) (hb:hget H b=some (.vecp e cs n)) (ht:isAggT E.P t=some false) (hc:cs[off]?=some r) (q:Q r H nx):VVal E w ⟨dst,.load t a,ty,pos,af,gd⟩ L H nx Q :=
 VVal.quiet q fun m F σ tt h1 h2=>by
  obtain ⟨c,k,g,h3,h4⟩:=vev_erefQ h1 h2 ha hb
  obtain ⟨_,c',g',vs,r1,r2,r3,r4,r5,r6⟩:=h1.hp b _ hb
  rw [h4] at r1
  cases r1
  obtain ⟨v,h5,h6⟩:=loadP_rel (P:=E.P) (t:=t) (a:=⟨c,off,some g⟩) (x:=r) r4 r2 rfl rfl (RPs.drop off r5) (all_drop r6 _) (by
   simp only [loadP,ht]
   rw [List.head?_drop]
   exact hc)
  exact ⟨v,fun _=>by simp only [aval,aop,h3,h5,Option.map_some],h6⟩
theorem VVal.storeQ {t:TypeId} {a x:Operand} {b tag off:Nat} {e:TypeId} {cs:List PV} {r:PV} {i:TypeInfo} (ha:vev E.Γ L a=some (.eref b tag off)) (hx:vev E.Γ L x=some r) (hb:hget H b=some (.vecp e cs tag)) (hn:notTup r)
 (hi:E.P.info? t=some i) (hl:(pcells r).length=i.size) (h0:0<i.size) (hle:off+i.size≤cs.length) (q:Q (.tup []) (hput H b (.vecp e (psplice cs off (pcells r)) tag)) nx):VVal E true ⟨dst,.store t a x,ty,pos,af,gd⟩ L H nx Q:=by
 intro m F σ tt h1 h2
 obtain ⟨c,k,g,h3,h4⟩:=vev_erefQ h1 h2 ha hb
 obtain ⟨h5,h6⟩:=pcells_rel hn (vev_rel h1 h2 hx)
 obtain ⟨hlt,c',g',vs,r1,r2,r3,r4,r5,r6⟩:=h1.hp b _ hb
 rw [h4] at r1
 cases r1
 have hlen:=h5.length
 have hlen2:=r5.length
 have hst:astore E.P t ⟨c,off,some g⟩ (ev tt x) m=some (m.put c (.cells (splice vs off (ev tt x).cells.toList) e g false)):=by
  unfold astore storeRow
  rw [hi]
  simp only [r4]
  rw [if_pos (by simpa using hlen.symm.trans hl),if_pos]
  simp only [agen,Option.getD_some,beq_self_eq_true,Bool.true_and,Bool.and_eq_true,decide_eq_true_eq]
  refine ⟨⟨?_,?_⟩,h6⟩
  ·rw [← hlen,hl,← hlen2];exact ⟨trivial,hle⟩
  ·rw [← hlen,hl];exact h0
 have hput':∀ d,c≠d→(m.put c (.cells (splice vs off (ev tt x).cells.toList) e g false)).get d=m.get d:=fun d hd=>by rw [Mem.get_put,if_neg hd]
 obtain ⟨c1,c2⟩:=h1.change (m':=m.put c (.cells (splice vs off (ev tt x).cells.toList) e g false)) (x':=.vecp e (psplice cs off (pcells r)) tag) (s':=σ b) hb (Nat.le_refl _) (fun _=>rfl) (Nat.le_refl _)
  (fun d _ hd=>hput' d fun e=>hd (by rw [h4,e];rfl)) (fun k k1 k2 k3=>by
   have:=k3 c (by rw [h4];rfl)
   simp only [Mem.put];omega) (fun d hd=>.inl hd) (by
   refine ⟨c,g,splice vs off (ev tt x).cells.toList,h4,r2,r3,by rw [Mem.get_put,if_pos rfl],?_,all_splice _ r6 h6⟩
   refine (RPs.splice off r5 h5).mono (fun d hd=>⟨hd,hput' d fun e=>r3 (e▸hd)⟩) (change_names (x':=.vecp e (psplice cs off (pcells r)) tag) hb (Nat.le_refl _) fun _=>rfl) (Nat.le_refl _))
 refine AVal.op (v:=undef) (fun _=>?_) ⟨_,_,_,F,_,q,c1,.tup .nil,c2,fun h=>by cases h⟩
 simp only [aval,aop,h3,hst,Option.map_some]
end Go.Vm
namespace Go.Vm
open Go.Am
section
variable {E:Env} {L:Vm.Frame} {H:Vm.Heap} {nx:Nat} {Q:PV→Vm.Heap→Nat→Prop} {w:Bool} {dst:Option Tmp} {ty:TypeId} {pos:String} {af:Array Edge} {gd:Option (Nat×Bool)}
theorem VVal.fieldA {t:TypeId} {x:Operand} {f:Nat} {cs:List FV} {fs:Array Field} {fd:Field} {r:FV} (hx:vev E.Γ L x=some (.p (.agg cs))) (hu:E.P.underlying t=some (.struct fs)) (hf:fs[f]?=some fd) (h:loadF E.P fd.type (cs.drop fd.offset)=some r) (q:Q (.p r) H nx) :
 VVal E w ⟨dst,.field t x f,ty,pos,af,gd⟩ L H nx Q :=
 VVal.quiet q fun m F σ tt h1 h2=>by
  have hr:=vev_rel h1 h2 hx
  generalize hv:ev tt x=v at hr
  cases hr with
  |p hr =>
   cases hr with
   |agg hr hcc =>
    rename_i l
    have hd:=RFs.drop fd.offset hr
    have key:∃ u,dry E.P (part fd.type l.toArray fd.offset)=some u∧RF m F r u:=by
     unfold loadF at h
     unfold part
     simp only [dry_bind,dry_isAgg]
     cases ha:isAggT E.P fd.type with
     |none=>rw [ha] at h;cases h
     |some b =>
      rw [ha] at h
      cases b with
      |true =>
       simp only at h
       cases hi:E.P.info? fd.type with
       |none=>rw [hi] at h;cases h
       |some i =>
        rw [hi] at h
        simp only [Option.map_eq_some_iff] at h
        obtain ⟨l',h3,rfl⟩:=h
        obtain ⟨ws,h4,h5⟩:=takeF_takeN hd h3
        simp only [Option.bind_some,if_true,dry_bind,dry_sizeOf,hi,Option.map_some]
        have e:l.toArray.extract fd.offset (fd.offset+i.size)=((l.drop fd.offset).take i.size).toArray:=by
         apply Array.ext'
         rw [Array.toList_extract]
         simp [List.extract_eq_take_drop]
        unfold takeN at h4
        split at h4
        case isFalse=>cases h4
        cases h4
        exact ⟨_,rfl,by rw [e];exact .agg h5 (all_take (all_drop hcc _) _)⟩
      |false =>
       simp only [Option.bind_some,Bool.false_eq_true,if_false]
       simp only at h
       have h':cs[fd.offset]?=some r:=by rw [← h];simp
       obtain ⟨u,g1,g2⟩:=rfs_get hr h'
       simp only [List.getElem?_toArray,g1]
       exact ⟨u,rfl,g2⟩
    obtain ⟨u,k1,k2⟩:=key
    refine ⟨u,fun _=>?_,.p k2⟩
    have hd:dry E.P (Instr.field t (.agg l.toArray) f)=some u:=by
     unfold Instr.field
     simp only [dry_bind,dry_underlying,hu,Option.bind_some,hf]
     rw [show dry E.P (asAgg (.agg l.toArray))=some l.toArray from rfl]
     exact k1
    simp only [aval,aop,hv,hd,Option.map_some]
theorem Ghost.adoptCellV (a k:Nat) (e:TypeId) {e':TypeId} {ds:List PV} {n':Nat} (ha:hget H a=some (.vecp e' ds n')) (hk:ds[k]?=some (.p (.val (.slice none 0 0)))) :
 Ghost E L H nx L (hput ((nx,.vec e [] 0 true)::H) a (.vecp e' (ds.set k (.vec nx 0 0 0)) n')) (nx+1):=fun B m F σ t h1 h2 h3=>by
 obtain ⟨c1,c2⟩:=adoptCtx e h1
 have hlt:=(h1.hp a _ ha).1
 have ha':hget ((nx,HB.vec e [] 0 true)::H) a=some (.vecp e' ds n'):=by rw [hget_cons,if_neg (by omega)];exact ha
 obtain ⟨_,c,g,vs,r1,r2,r3,r4,r5,r6⟩:=c1.hp a _ ha'
 obtain ⟨u,hu1,hu2⟩:=r5.get hk
 have hu:u=nilSlice:=by cases hu2 with|p h=>cases h;rfl
 subst hu
 obtain ⟨d1,d2⟩:=c1.change (m':=m) (b0:=a) (x':=.vecp e' (ds.set k (.vec nx 0 0 0)) n') (s':=upd σ nx nilSlice a) ha' (Nat.le_refl _) (fun _=>rfl) (Nat.le_refl _) (fun _ _ _=>rfl) (fun _ h _ _=>h) (fun c hc=>.inl hc) (by
  refine ⟨c,g,vs,r1,r2,r3,r4,?_,r6⟩
  have:vs=vs.set k nilSlice:=by
   apply List.ext_getElem?
   intro j
   rw [List.getElem?_set]
   by_cases e:k=j
   ·subst e
    rw [if_pos rfl,hu1]
    have:k<vs.length:=by
     rcases Nat.lt_or_ge k vs.length with h|h
     ·exact h
     ·rw [List.getElem?_eq_none h] at hu1;cases hu1
    rw [if_pos this]
   ·rw [if_neg e]
  rw [this]
  exact (r5.set k (nil_vec e H nx)).mono (fun d hd=>⟨hd,rfl⟩) (change_names (x':=.vecp e' (ds.set k (.vec nx 0 0 0)) n') ha' (Nat.le_refl _) fun _=>rfl) (Nat.le_refl _))
 have hσ:upd (upd σ nx nilSlice) a (upd σ nx nilSlice a)=upd σ nx nilSlice:=by
  funext x
  by_cases e:x=a
  ·rw [e,upd_same]
  ·rw [upd_other _ _ e]
 rw [hσ] at d1 d2
 exact ⟨_,_,d1,(h2.step c2 h1).step d2 c1,(h3.trans c2).trans d2⟩
theorem Ghost.leVec (b:Nat) {n:Nat} {e:TypeId} {cs:List FV} (cs':List FV) {z:Bool} (hb:hget H b=some (.vec e cs n z)) (h:FLes cs cs'):Ghost E L H nx L (hput H b (.vec e cs' n z)) nx:=fun B m F σ t h1 h2 h3=>by
 have hr:=RB.le (HLe.vec (n:=n) (z:=z) (e:=e) h rfl) (h1.hp b _ hb).2
 obtain ⟨d1,d2⟩:=h1.change (m':=m) (b0:=b) (x':=.vec e cs' n z) (s':=σ b) hb (TLe.refl _) (fun _=>rfl) (Nat.le_refl _) (fun _ _ _=>rfl) (fun _ h _ _=>h) (fun c hc=>.inl hc) hr
 exact ⟨F,_,d1,h2.step d2 h1,h3.trans d2⟩
theorem VVal.neBd {t t2:TypeId} {x y:Operand} {a b r:Bool} (hx:vev E.Γ L x=some (.p (.bool a))) (hy:vev E.Γ L y=some (.p (.bool b))) (ht:E.P.underlying t=some .bool) (hr:(a != b)=r) (q:Q (.p (.bool r)) H nx) :
 VVal E w ⟨dst,.binOp .neq t x y t2,ty,pos,af,gd⟩ L H nx Q:=VVal.neB hx hy ht (by rw [hr];exact q)
theorem VVal.callK {fo:Operand} {args:Array Operand} {aT:Array TypeId} {g:FuncId} {fs cs aa ac:List PV} {Hc:Heap} {Qc:PV→Heap→Nat→Prop} (ns:List Nat) (hc:VCalls E g ac Hc ns.length Qc)
 (hf:vev E.Γ L fo=some (.clo g fs cs)) (ha:evs E.Γ L args.toList=some aa) (hle:PLes (fs++aa++cs) (PVs.rn (rho ns nx) ac)) (hu:PVs.under ns.length ac) (hHu:HUnder ns.length Hc) (hin:HIn (rho ns nx) H Hc) (hnd:ns.Nodup) (hlt:∀ b∈ns,b<nx)
 (hq:∀ r H' nx',Qc r H' nx'→Q (r.rn (rho ns nx)) (news ns.length (rho ns nx) H' (merge ns (rho ns nx) H' H)) (nx+(nx'-ns.length))) :
 VVal E true ⟨dst,.call { callee:=.value fo,args:=args,argTypes:=aT },ty,pos,af,gd⟩ L H nx Q:=VVal.callG hf ha hle hu hHu hin hnd hlt (fun h=>by cases h) hc hq
theorem Ghost.freezeTo (d j:Nat) {b n k:Nat} {e:TypeId} {cs:List FV} {z:Bool} (hd:lget L d=some (.vec b n 0 k)) (hb:hget H b=some (.vec e cs n z)) (hn:0<n) (hj:j≤cs.length) :
 Ghost E L H nx ((d,.p (.lst e (cs.take j) k))::L) (hdel H b) nx:=fun B m F σ t h1 h2 h3=>by
 obtain ⟨c1,c2⟩:=giveCtx h1 hb
 refine ⟨_,σ,c1,fun i v hi=>?_,h3.trans c2⟩
 rw [lget_cons] at hi
 by_cases ei:d=i
 ·rw [if_pos ei] at hi;cases hi
  have:=h2 d _ hd
  subst ei
  generalize tget t d=u at this
  cases this with
  |vec hb' hc h =>
   have hsub:=(h n (by simp [htag,hb,HB.tag])).2 rfl
   obtain ⟨_,hr⟩:=h1.hp b _ hb
   rcases hr with ⟨r1,r2,r3⟩|⟨c,g,vs,r1,r2,r3,r4,r5,r6,r7⟩
   ·omega
   ·rw [r1] at hsub
    simp only [SubOf] at hsub
    subst hsub
    refine .p (.lst (.inr (by rw [r1];rfl)) r4 (ws:=vs.take j) ?_ ((RFs.take j r5).mono fun d hd=>⟨.inl hd,rfl⟩) (all_take r6 _))
    have:=r5.length
    rw [List.drop_zero,List.length_take,Nat.min_eq_left hj]
    unfold takeN
    rw [if_pos (by omega)]
 ·rw [if_neg ei] at hi
  exact (h2 i v hi).step c2 h1
end
end Go.Vm
namespace Go.Tra
open Go Go.Am Go.Vm
theorem plcL_mem {ns:List Nat} {p:Plc}:∀ {n:Nat},p∈plcL ns n→p.d<n∧p.s<gi ns p.d
 |0,h=>by cases h
 |n+1,h=>by
  have e0:plcL ns (n+1)=plcL ns n++(List.range (gi ns n)).map fun s=>⟨n,s⟩:=rfl
  rw [e0,List.mem_append] at h
  rcases h with h|h
  ·have:=plcL_mem h;omega
  ·obtain ⟨s,h1,rfl⟩:=List.mem_map.1 h
   exact ⟨Nat.lt_succ_self _,List.mem_range.1 h1⟩
end Go.Tra
namespace Go.Proofs.YtdabojnmoejilaaGreatDoor
open Go Go.Am Go.Vm Go.Tra
attribute [local irreducible] VVal VOps VOpsD VWp VCalls VFun VFunV QSeq QBlk QLoop Vm.Done DoneV DoneI
attribute [local irreducible] rchk windsE stoE dvsE cplE shiftR
structure Wts where
 tone:Int
 pitch:Int
 pedal:Int
 miss:Int
instance:Enc Wts:={ default:=⟨0,0,0,0⟩,enc:=fun x=>[.int .i64 x.tone,.int .i64 x.pitch,.int .i64 x.pedal,.int .i64 x.miss],size:=4,len:=fun _=>rfl }
structure Qst where
 frm:Org
 reg:Rgs
 tgt:Org
 wts:Wts
def Qst.enc (q:Qst):List FV:=[.str (bs q.frm.name),.lst 131 (cells q.frm.ranks) q.frm.ranks.length,.lst 97 (cells q.frm.divs) q.frm.divs.length,.lst 147 (cells q.frm.cpls) q.frm.cpls.length,
 .lst 39 (cells q.reg.stops) q.reg.stops.length,.int .u64 (q.reg.cp:Int),.int .u64 (q.reg.off:Int),.str (bs q.tgt.name),.lst 131 (cells q.tgt.ranks) q.tgt.ranks.length,.lst 97 (cells q.tgt.divs) q.tgt.divs.length,.lst 147 (cells q.tgt.cpls) q.tgt.cpls.length,
 .int .i64 q.wts.tone,.int .i64 q.wts.pitch,.int .i64 q.wts.pedal,.int .i64 q.wts.miss]
instance:Enc Qst:={ default:=⟨default,default,default,default⟩,enc:=Qst.enc,size:=15,len:=fun _=>rfl }
def nsO (o:Org):List Nat:=o.divs.map fun d=>d.stops.length
theorem nsO_len (o:Org):(nsO o).length=o.divs.length:=by simp [nsO]
theorem nsO_gi (o:Org) {d:Nat} (h:d<o.divs.length):gi (nsO o) d=(gi o.divs d).stops.length:=by
 simp [nsO,gi,List.getElem?_eq_getElem h]
def plcs (o:Org):List Plc:=plcL (nsO o) (nsO o).length
def PlcOk (o:Org) (p:Plc):Prop:=p.d<o.divs.length∧p.s<(gi o.divs p.d).stops.length
theorem plcs_mem {o:Org} {p:Plc} (h:p∈plcs o):PlcOk o p:=by
 obtain ⟨h1,h2⟩:=plcL_mem h
 rw [nsO_len] at h1
 rw [nsO_gi o h1] at h2
 exact ⟨h1,h2⟩
theorem gi_mem {α:Type} [Inhabited α] {l:List α} {i:Nat} (h:i<l.length):gi l i∈l:=by
 unfold gi;rw [List.getElem?_eq_getElem h];exact List.getElem_mem h
theorem plcs_gi {o:Org} {i:Nat} (h:i<(plcs o).length):PlcOk o (gi (plcs o) i):=plcs_mem (gi_mem h)
def stopAt (o:Org) (p:Plc):Stp:=gi (gi o.divs p.d).stops p.s
def toneP (o:Org) (p:Plc):List UInt8:=toneS o.ranks (stopAt o p)
def drawnB (r:Rgs) (p:Plc):Bool:=gi r.stops p.d / 2 ^ p.s % 2==1
def drawnL (o:Org) (r:Rgs):List Plc:=(plcs o).filter (drawnB r)
theorem drawnL_ok {o:Org} {r:Rgs} {p:Plc} (h:p∈drawnL o r):PlcOk o p:=plcs_mem (List.mem_filter.1 h).1
theorem stosE_all {rk:List Rnk} {lo hi:Int} {l:List Stp}:∀ (n k:Nat),l.length-k=n→stosE rk lo hi l k=0→∀ i,k≤i→i<l.length→stoE rk lo hi (gi l i)=0
 |0,k,h,_,i,h1,h2=>by omega
 |n+1,k,h,h0,i,h1,h2=>by
  rw [stosE,if_pos (by omega)] at h0
  split at h0
  ·rename_i h3;exact absurd h0 h3
  rename_i h3
  split at h0
  ·exact absurd h0 (by decide)
  rcases Nat.lt_or_ge k i with h4|h4
  ·exact stosE_all n (k+1) (by omega) h0 i h4 h2
  ·obtain rfl:k=i:=by omega
   exact Decidable.byContradiction fun h5=>h3 h5
theorem dvsE_sto {rk:List Rnk} {d:Dvs} (h:dvsE rk d=0):∀ i,i<d.stops.length→stoE rk d.lo d.hi (gi d.stops i)=0:=by
 unfold dvsE at h
 split at h
 ·rename_i h1;exact absurd h h1
 split at h
 ·exact absurd h (by decide)
 exact fun i hi=>stosE_all _ 0 rfl h i (Nat.zero_le _) hi
theorem OrgK.dvs {o:Org} (h:OrgK o):divsE o.ranks o.divs 0=0:=by
 have h0:=h.err
 unfold orgE at h0
 split at h0
 ·exact absurd h0 (by decide)
 split at h0
 ·exact absurd h0 (by decide)
 split at h0
 ·rename_i h1;exact absurd h0 h1
 split at h0
 ·exact absurd h0 (by decide)
 split at h0
 ·exact absurd h0 (by decide)
 split at h0
 ·rename_i h1;exact absurd h0 h1
 rename_i d3
 exact Decidable.byContradiction d3
theorem OrgK.sto {o:Org} (h:OrgK o) {p:Plc} (hp:PlcOk o p):StoK o.ranks (stopAt o p) :=
 stoK (dvsE_sto (divsE_all _ 0 rfl h.dvs p.d (Nat.zero_le _) hp.1) p.s hp.2)
theorem tstop_spec (o:Org) (ho:OrgK o) (p:Plc) (hp:PlcOk o p):VFun env 82 [.agg (Enc.enc o),.agg (Enc.enc p)] (.p (.agg (Enc.enc (stopAt o p)))):=by
 obtain ⟨h1,h2⟩:=hp
 have d1:=ho.divs
 have s1:=ho.stops p.d h1
 refine VFun.enter (env_none (by decide)) Tryz.func82 rfl (by kernel_rfl) (by simp [Tryz.ntmps82]) ?_
 repeat' (first|apply VWp.rseq|apply VWp.rseqD|apply VWp.ret|apply VOps.nil|apply VOpsD.nil|apply VOps.one|(apply VOpsD.bar;decide +kernel)|apply VOpsD.quiet|(apply VVal.indexN (l:=o.divs) (i:=p.d);rfl;rfl;rfl;exact h1;rfl)|(apply VVal.indexN (l:=(gi o.divs p.d).stops) (i:=p.s);rfl;rfl;rfl;exact h2;rfl)|(apply VVal.load;rfl;rfl)|(apply VVal.fieldB;rfl;rfl;rfl)|(apply VVal.fieldF;rfl;rfl)|(apply VVal.box;rfl;trivial)|(apply VVal.alloc;rfl)|(apply VVal.storeB;rfl;rfl;rfl;trivial;rfl;rfl;exact lt_dec rfl;exact le_dec rfl))
 all_goals first|(exfalso;omega)|(refine Done.ret rfl (.refl _) (by first|exact trivial|exact ⟨trivial,trivial,trivial⟩|exact ⟨trivial,trivial,trivial,trivial⟩) HCov.nil (Nat.zero_le _) (Nat.le_refl _) ⟨?_,rfl,rfl⟩;try rfl)
theorem ttone_spec (o:Org) (ho:OrgK o) (p:Plc) (hp:PlcOk o p):VFun env 54 [.agg (Enc.enc o),.agg (Enc.enc p)] (st (toneP o p)):=by
 have hst:=tstop_spec o ho p hp
 obtain ⟨g1,g2⟩:=ho.sto hp
 unfold toneP
 generalize stopAt o p=s at *
 have b1:=ho.sm.ranks
 refine VFun.enter (env_none (by decide)) Tryz.func54 rfl (by kernel_rfl) (by simp [Tryz.ntmps54]) ?_
 repeat' (first|apply VWp.assoc|apply VWp.rseq|apply VWp.blockSeq|apply VOps.nil|apply VOps.one|(apply VVal.fn;rfl;rfl;exact hst;intro _;rfl)|(apply VVal.fieldA;rfl;rfl;rfl;rfl)|(apply VVal.assign;rfl)|(apply VVal.move;rfl)|(apply VVal.load;rfl;rfl)|(apply VVal.lenF;rfl;rfl)|(apply VVal.box;rfl;trivial))
 all_goals try (exfalso;omega)
 apply VWp.loopRI (s.segs.length) (fun k=>toneK o.ranks s s.segs.length (s.segs.length-k)=toneS o.ranks s) [(2,_),(10,_),(11,_)] [(0,_)] (fun k r=>(12,.p (.int .i64 (k:Int)))::r) (fun k r=>r) 2
 ·first|omega|decide
 ·first|omega|decide
 ·repeat (first|exact LCov.nil|(refine LCov.eq rfl ?_ ?_;(first|exact PV.under_of rfl|(simp [PV.under,PVs.under];done)))|refine LCov.cons trivial rfl (.of_eq (lst_len (by simp<;>omega))) ?_)
 ·repeat (first|exact HCov.nil|(refine HCov.eq rfl (lt_dec rfl) ?_ ?_;(first|exact HB.under_of rfl|exact PVs.under_pure _ _|(simp [HB.under,PVs.under,PV.under];done)))|(refine HCov.cons (lt_dec rfl) ?_ rfl ?_ ?_;(first|exact trivial|exact PVs.under_pure _ _|(simp [HB.under,PVs.under,PV.under]));(first|exact HLe.refl _|exact HLe.vec (FLes.refl _) (by simp))))
 ·first|(intro _ _;omega)|omega|trivial
 ·intro k hk hi
  obtain ⟨g3,g4⟩:=g2 k hk
  by_cases h0:(gi s.segs k).draws.length=0
  ·repeat' (first|apply VWp.rseq|apply VWp.region|apply VWp.skipSeq|apply VWp.blockSeq|apply QSeq.normal|apply QBlk.normal|apply VWp.skip|apply VOps.nil|apply VOps.one|(apply VVal.move;rfl)|(apply VVal.add64;rfl;rfl;omega)|(apply VVal.int;rfl;rfl;rfl)|(apply VVal.indexN;rfl;rfl;rfl;omega;rfl)|(apply VVal.load;rfl;rfl)|(apply VVal.lenF;rfl;rfl)|(apply VVal.fieldB;rfl;rfl;rfl)|(apply VVal.alloc;rfl)|(apply VVal.storeB;rfl;rfl;rfl;trivial;rfl;rfl;exact lt_dec rfl;exact le_dec rfl)|(apply VWp.condSeq_dec;rfl)|(apply VWp.cond_dec;rfl)|(intro _;try (exfalso;omega)))
   all_goals try (exfalso;omega)
   refine QLoop.normal ⟨((toneK_skip hk h0).symm.trans hi),by first|omega|decide,?_,?_⟩
   ·repeat (first|exact LCov.nil|refine LCov.same trivial rfl ?_|refine LCov.same (lt_dec rfl) rfl ?_|refine LCov.same ⟨trivial,lt_dec rfl,trivial⟩ rfl ?_|refine LCov.same ⟨trivial,lt_dec rfl,lt_dec rfl,trivial⟩ rfl ?_|refine LCov.same ⟨trivial,lt_dec rfl,lt_dec rfl,lt_dec rfl,trivial⟩ rfl ?_|refine LCov.same ⟨trivial,lt_dec rfl,lt_dec rfl,lt_dec rfl,lt_dec rfl,trivial⟩ rfl ?_|refine LCov.same ⟨trivial,trivial⟩ rfl ?_|refine LCov.cons trivial rfl (.of_eq (lst_len (by simp<;>omega))) ?_)
   ·repeat (first|exact HCov.nil|(refine HCov.cons (lt_dec rfl) ?_ rfl ?_ ?_;(first|exact HB.under_of rfl|exact PVs.under_pure _ _|(simp [HB.under,PVs.under,PV.under]));(first|exact HLe.refl _|exact HLe.vec (FLes.refl _) (by simp))))
  ·have g5:=g4 0 (by omega)
   obtain ⟨rn,hrn⟩:∃ rn:Nat,(gi (gi s.segs k).draws 0).rank=rn:=⟨_,(Int.toNat_of_nonneg g5.1).symm⟩
   have h1:toneS o.ranks s=(gi o.ranks rn).tone:=by
    rw [← hi,toneK_hit hk (by omega),hrn];rfl
   rw [h1]
   repeat' (first|apply VWp.rseq|apply VWp.rseqD|apply VWp.skipSeq|apply VWp.blockSeq|apply QSeq.ret|apply QBlk.ret|apply QLoop.ret|apply VWp.ret|apply VOps.nil|apply VOpsD.nil|apply VOps.one|(apply VOpsD.bar;decide +kernel)|apply VOpsD.quiet|(apply VVal.indexN (l:=o.ranks) (i:=rn);rfl;(first|exact congrArg (fun a=>some (PV.p (.int .i64 a))) hrn|rfl);rfl;omega;rfl)|(apply VVal.assign;rfl)|(apply VVal.int;rfl;rfl;rfl)|(apply VVal.indexN;rfl;rfl;rfl;omega;rfl)|(apply VVal.indexE;rfl;rfl;rfl;omega;omega;rfl)|(apply VVal.load;rfl;rfl)|(apply VVal.lenF;rfl;rfl)|(apply VVal.fieldB;rfl;rfl;rfl)|(apply VVal.fieldF;rfl;rfl)|(apply VVal.alloc;rfl)|(apply VVal.storeB;rfl;rfl;rfl;trivial;rfl;rfl;exact lt_dec rfl;exact le_dec rfl)|(apply VWp.condSeq_dec;rfl)|(apply VWp.cond_dec;rfl)|(intro _;try (exfalso;omega)))
   all_goals first|(exfalso;omega)|(refine Done.ret rfl (.refl _) (by first|exact trivial|exact ⟨trivial,trivial,trivial⟩|exact ⟨trivial,trivial,trivial,trivial⟩) HCov.nil (Nat.zero_le _) (Nat.le_refl _) ⟨?_,rfl,rfl⟩;try rfl)
 ·intro hi
  have h1:toneS o.ranks s=[]:=by rw [← hi,Nat.sub_self];rfl
  rw [h1]
  repeat' (first|apply VWp.rseq|apply VWp.exitSeq|apply QSeq.normal|apply QBlk.exit|apply QLoop.exit|apply VWp.ret|apply VOps.nil|apply VOps.one|(apply VVal.assign;rfl)|(apply VVal.int;rfl;rfl;rfl)|(apply VWp.condSeq_dec;rfl)|(intro _;try (exfalso;omega)))
  all_goals first|(exfalso;omega)|(refine Done.ret rfl (.refl _) (by first|exact trivial|exact ⟨trivial,trivial,trivial⟩|exact ⟨trivial,trivial,trivial,trivial⟩) HCov.nil (Nat.zero_le _) (Nat.le_refl _) ⟨?_,rfl,rfl⟩;try rfl)
end Go.Proofs.YtdabojnmoejilaaGreatDoor
namespace Go.Vm
open Go.Am
variable {E:Env} {L:Frame} {H:Heap} {nx:Nat} {Q:PV→Heap→Nat→Prop} {w:Bool}
variable {dst:Option Tmp} {ty:TypeId} {pos:String} {af:Array Edge} {gd:Option (Nat×Bool)}
theorem VVal.sliceV {t:TypeId} {x:Operand} {lo hi:Option Operand} {e:TypeId} {cs:List FV} {b n off len a c sz:Nat} {z:Bool} {inf:TypeInfo} (hx:vev E.Γ L x=some (.vec b n off len)) (hb:hget H b=some (.vec e cs n z)) (hn:0<n) (ht:E.P.underlying t=some (.slice e)) (hi':E.P.info? e=some inf) (hsz:inf.size=sz)
 (hlo:match lo with|none=>a=0|some o=>∃ k,vev E.Γ L o=some (.p (.int k (a:Int)))) (hhi:match hi with|none=>c=len|some o=>∃ k,vev E.Γ L o=some (.p (.int k (c:Int)))) (hac:a≤c) (hcl:c≤len)
 (q:Q (.vec b n (off+a*sz) (c-a)) H nx):VVal E w ⟨dst,.slice t x lo hi none,ty,pos,af,gd⟩ L H nx Q :=
 VVal.quiet q fun m F σ tt h1 h2=>by
  have hblo:bnd 0 (lo.map (ev tt))=some a:=by
   cases lo with
   |none=>simp only at hlo;rw [hlo];rfl
   |some o =>
    obtain ⟨k,hk⟩:=hlo
    simp only [Option.map_some,vev_int h1 h2 hk,bnd]
    rw [if_pos (by omega)];simp
  have hbhi:bnd len (hi.map (ev tt))=some c:=by
   cases hi with
   |none=>simp only at hhi;rw [hhi];rfl
   |some o =>
    obtain ⟨k,hk⟩:=hhi
    simp only [Option.map_some,vev_int h1 h2 hk,bnd]
    rw [if_pos (by omega)];simp
  have hsub:=vev_vec h1 h2 hx hb
  obtain ⟨hlt,hr⟩:=h1.hp b _ hb
  rcases hr with ⟨r1,r2,r3⟩|⟨d,g,vs,r1,r2,r3,r4,r5,r6,r7⟩
  ·omega
  rw [r1] at hsub
  simp only [SubOf] at hsub
  refine ⟨.slice (some ⟨d,off+a*sz,none⟩) (c-a) g,fun _=>?_,.vec hlt rfl fun j hj=>?_⟩
  ·simp only [aval,aop,hsub,aslice,Option.isSome_none,Option.map_none,Bool.false_and,Bool.false_eq_true,if_false,ht,hi',hblo,hbhi,r4,hac,hcl,r2,and_self,if_true,Option.map_some,hsz]
  ·simp only [htag,hb,HB.tag,Option.map_some,Option.some.injEq,Tg.vec.injEq] at hj
   refine ⟨by omega,fun _=>?_⟩
   rw [r1];rfl
theorem put_cells {m:Mem} {F:Nat→Prop} {σ:Nat→Value} {b n off c g:Nat} {e:TypeId} {cs fs:List FV} {vs l:List Value} {z:Bool} (h1:Ctx E.Γ m F σ H nx) (hb:hget H b=some (.vec e cs n z)) (hn:0<n) (h4:σ b=.slice (some ⟨c,0,none⟩) n g) (r2:c<m.size) (r3:¬ F c) (r4:m.get c=.cells vs e g false) (r5:RFs m F cs vs) (r6:vs.all isCell=true)
 (hl:RFs m F fs l) (hc:l.all isCell=true) :
 Ctx E.Γ (m.put c (.cells (splice vs off l) e g false)) F (upd σ b (σ b)) (hput H b (.vec e (psplice cs off fs) n z)) nx∧Step m F σ H nx (m.put c (.cells (splice vs off l) e g false)) F (upd σ b (σ b)) (hput H b (.vec e (psplice cs off fs) n z)) nx:=by
 have hput':∀ d,c≠d→(m.put c (.cells (splice vs off l) e g false)).get d=m.get d:=fun d hd=>by rw [Mem.get_put,if_neg hd]
 exact h1.change (m':=m.put c (.cells (splice vs off l) e g false)) (x':=.vec e (psplice cs off fs) n z) (s':=σ b) hb (Nat.le_refl _) (fun _=>rfl) (Nat.le_refl _)
  (fun d _ hd=>hput' d fun e=>hd (by rw [h4,e];rfl)) (fun k k1 k2 k3=>by
   have:=k3 c (by rw [h4];rfl)
   simp only [Mem.put];omega) (fun d hd=>.inl hd) (by
   refine .inr ⟨c,g,splice vs off l,h4,r2,r3,by rw [Mem.get_put,if_pos rfl],?_,all_splice _ r6 hc,fun h=>by omega⟩
   exact (RFs.splice off r5 hl).mono (fun d hd=>⟨hd,hput' d fun e=>r3 (e▸hd)⟩))
def SlT (Γ:Nat→Option (List Value×TypeId)) (L:Frame) (H:Heap) (nx:Nat) (x:Operand) (sz n:Nat) (xs:List FV) (k:Nat):Prop :=
 ∀ m F σ t,Ctx Γ m F σ H nx→RL m F (htag H) σ nx L t→lenOf (ev t x)=some n∧∃ l,sliceCells m sz k (ev t x)=some l∧RFs m F xs l∧l.all isCell=true
theorem SlT.lst {Γ:Nat→Option (List Value×TypeId)} {x:Operand} {e:TypeId} {sz n k:Nat} {xs ys:List FV} (h:vev Γ L x=some (.p (.lst e xs n))) (hl:xs.length=n*sz) (hk:k≤n) (hy:ys=xs.take (k*sz)):SlT Γ L H nx x sz n ys k:=fun m F σ t h1 h2=>by
 subst hy
 have:=vev_rel h1 h2 h
 generalize ev t x=v at this
 cases this with
 |p h =>
  cases h with
  |nil=>obtain rfl:k=0:=by omega
        exact ⟨rfl,[],rfl,by rw [Nat.zero_mul,List.take_zero];exact .nil,rfl⟩
  |room=>obtain rfl:k=0:=by omega
         exact ⟨rfl,[],rfl,by rw [Nat.zero_mul,List.take_zero];exact .nil,rfl⟩
  |lst hF hm hw hr hc =>
   rename_i b o g vs ws ro
   refine ⟨rfl,ws.take (k*sz),?_,RFs.take _ hr,all_take hc _⟩
   have h3:=takeN_take (k:=k*sz) hw
   rw [hl,Nat.min_eq_left (Nat.mul_le_mul_right sz hk)] at h3
   simp only [sliceCells,if_pos hk,Mem.cellsAt,hm]
   simp only [agen,Option.getD_some,if_true]
   exact h3
theorem SlT.vec {Γ:Nat→Option (List Value×TypeId)} {x:Operand} {b n off len sz k:Nat} {e:TypeId} {cs ys:List FV} {z:Bool} (h:vev Γ L x=some (.vec b n off len)) (hb:hget H b=some (.vec e cs n z)) (hn:0<n) (hl:off+len*sz≤cs.length) (hk:k≤len) (hy:ys=(cs.drop off).take (k*sz)) :
 SlT Γ L H nx x sz len ys k:=fun m F σ t h1 h2=>by
 subst hy
 have hsub:=vev_vec h1 h2 h hb
 obtain ⟨_,hr⟩:=h1.hp b _ hb
 rcases hr with ⟨r1,r2,r3⟩|⟨c,g,vs,r1,r2,r3,r4,r5,r6,r7⟩
 ·omega
 ·rw [r1] at hsub
  simp only [SubOf] at hsub
  rw [hsub]
  have hlen:=r5.length
  have h0:=Nat.mul_le_mul_right sz hk
  have hle:k*sz≤(vs.drop off).length:=by rw [List.length_drop];omega
  refine ⟨rfl,(vs.drop off).take (k*sz),?_,RFs.take _ (RFs.drop off r5),all_take (all_drop r6 _) _⟩
  simp only [sliceCells,if_pos hk,Mem.cellsAt,r4]
  simp only [agen,Option.getD_some,if_true,takeN,if_pos hle]
theorem VVal.copy {d x:Operand} {dT xT e:TypeId} {i:TypeInfo} {b n off len k N:Nat} {cs xs:List FV} {z:Bool} (hd:vev E.Γ L d=some (.vec b n off len)) (hb:hget H b=some (.vec e cs n z)) (hn:0<n)
 (hdT:E.P.underlying dT=some (.slice e)) (hi:E.P.info? e=some i) (hsz:0<i.size) (hx:SlT E.Γ L H nx x i.size N xs k) (hk:k=min N len) (h0:0<k) (hxs:xs.length=k*i.size) (hl:off+k*i.size≤cs.length) (q:Q (.p (.int .i64 (k:Int))) (hput H b (.vec e (psplice cs off xs) n z)) nx) :
 VVal E true ⟨dst,.call { callee:=.builtin .copy,args:=#[d,x],argTypes:=#[dT,xT] },ty,pos,af,gd⟩ L H nx Q:=by
 intro m F σ t h1 h2
 have hsub:=vev_vec h1 h2 hd hb
 obtain ⟨hx1,l,hx2,hx3,hx4⟩:=hx m F σ t h1 h2
 obtain ⟨hlt,hr⟩:=h1.hp b _ hb
 rcases hr with ⟨r1,r2,r3⟩|⟨c,g,vs,r1,r2,r3,r4,r5,r6,r7⟩
 ·omega
 rw [r1] at hsub
 simp only [SubOf] at hsub
 have hlen:=hx3.length
 have hlen2:=r5.length
 obtain ⟨d1,d2⟩:=put_cells (E:=E) (off:=off) h1 hb hn r1 r2 r3 r4 r5 r6 hx3 hx4
 refine AVal.op (v:=.int .i64 (k:Int)) (m':=m.put c (.cells (splice vs off l) e g false)) (fun _=>?_) ⟨_,_,_,F,_,q,d1,.p (.int _ _),d2,fun h=>by cases h⟩
 have hk2:(k:Nat)=Nat.min N len:=hk
 have hp:=Nat.mul_pos h0 hsz
 simp only [aval,aop,acopy,List.map_toArray,List.map_cons,List.map_nil,List.getElem?_toArray,List.getElem?_cons_zero,List.getElem?_cons_succ,hsub,hdT,hx1,hi]
 rw [← hk2,if_neg (by omega),hx2]
 simp only [storeRow,r4,agen,Option.getD_some,beq_self_eq_true,Bool.true_and]
 rw [if_pos (by simp only [Bool.and_eq_true,decide_eq_true_eq];exact ⟨⟨by rw [← hlen,hxs,← hlen2];exact ⟨trivial,hl⟩,by rw [← hlen,hxs];exact hp⟩,hx4⟩)]
 rfl
theorem VVal.clear {d:Operand} {dT e:TypeId} {i:TypeInfo} {b n off len:Nat} {cs:List FV} {z:Bool} {zs:List Value} (hd:vev E.Γ L d=some (.vec b n off len)) (hb:hget H b=some (.vec e cs n z)) (hn:0<n) (h0:0<len)
 (hdT:E.P.underlying dT=some (.slice e)) (hi:E.P.info? e=some i) (hz:zeroCellsOf E.P e=some zs) (hzl:zs.length=i.size∧0<i.size) (hl:off+len*i.size≤cs.length) (q:Q (.tup []) (hput H b (.vec e (psplice cs off ((repeatCells zs len).map cellFV)) n z)) nx) :
 VVal E true ⟨none,.call { callee:=.builtin .clear,args:=#[d],argTypes:=#[dT] },ty,pos,af,gd⟩ L H nx Q:=by
 intro m F σ t h1 h2
 have hsub:=vev_vec h1 h2 hd hb
 obtain ⟨hlt,hr⟩:=h1.hp b _ hb
 rcases hr with ⟨r1,r2,r3⟩|⟨c,g,vs,r1,r2,r3,r4,r5,r6,r7⟩
 ·omega
 rw [r1] at hsub
 simp only [SubOf] at hsub
 have hpl:zs.all Am.plainCell=true:=by
  obtain ⟨_,zv,_,_,_,h⟩:=zeroCellsOf_some hz
  exact h
 have hx3:RFs m F ((repeatCells zs len).map cellFV) (repeatCells zs len):=cellFVs_rel (repeat_all hpl len)
 have hx4:(repeatCells zs len).all isCell=true:=all_plain_isCell (repeat_all hpl len)
 have hlen2:=r5.length
 have hrl:=repeat_length zs len
 rw [hzl.1] at hrl
 obtain ⟨d1,d2⟩:=put_cells (E:=E) (off:=off) h1 hb hn r1 r2 r3 r4 r5 r6 hx3 hx4
 refine AVal.op (v:=.tuple #[]) (m':=m.put c (.cells (splice vs off (repeatCells zs len)) e g false)) (fun _=>?_) ⟨_,_,_,F,_,q,d1,.tup .nil,d2,fun h=>by cases h⟩
 have hp:=Nat.mul_pos h0 hzl.2
 simp only [aval,aop,aclear,List.map_toArray,List.map_cons,List.map_nil,List.getElem?_toArray,List.getElem?_cons_zero,hsub,hdT,hi,hz]
 rw [if_neg (by omega),if_pos hzl]
 simp only [storeRow,r4,agen,Option.getD_some,beq_self_eq_true,Bool.true_and]
 rw [if_pos (by simp only [Bool.and_eq_true,decide_eq_true_eq];exact ⟨⟨by rw [hrl,← hlen2];exact ⟨trivial,hl⟩,by rw [hrl];exact hp⟩,hx4⟩)]
 rfl
def leftReg:Code→Option Nat
 | .region n _ _=>some n
 | .seq a b=>match leftReg a with
  |some n=>some n
  |none=>leftReg b
 | .block _ b=>leftReg b
 | .loop b=>leftReg b
 | .scope b=>leftReg b
 |_=>none
def loopAt (r:Nat):Code→Option Code
 | .loop b=>match leftReg b with
  |some n=>match Nat.beq n r with
   |true=>some (.loop b)
   |false=>loopAt r b
  |none=>loopAt r b
 | .seq a b=>match loopAt r a with
  |some c=>some c
  |none=>loopAt r b
 | .cond _ a b=>match loopAt r a with
  |some c=>some c
  |none=>loopAt r b
 | .block _ b=>loopAt r b
 | .scope b=>loopAt r b
 | .rangeFunc _ _ _ b=>loopAt r b
 |_=>none
def loopOf (fn:Func) (r:Nat):Code:=match fn.body with
 |some c=>match loopAt r c with
  |some c=>c
  |none=>.skip
 |none=>.skip
theorem VWp.blk {bn:Nat} {Q:AExit→Frame→Heap→Nat→Prop} {c:Code} {Li Lo:Frame} {Hi Ho:Heap} {nx0:Nat} {e0:AExit} (h:VWp E bn c Li Hi nx0 (fun e L' H' nx'=>e=e0∧Cov L' H' nx' Lo Ho nx0)) (hb:bn≤nx0) (hn:nx0≤nx) (h1:LCov nx0 Li L) (h2:HCov nx0 Hi H) (q:Q e0 Lo Ho nx0):VWp E bn c L H nx Q:=by
 refine VWp.weaken hb ⟨hn,h1,h2⟩ ?_
 intro B hB m F σ t h1 h2 h3
 refine (h B hB m F σ t h1 h2 h3).mono ?_
 rintro e s ⟨L',H',nx',F',σ',⟨rfl,hcov⟩,c1,c2,c3⟩
 exact ⟨Lo,Ho,nx0,F',σ',q,hcov.ctx c1,hcov.rl c2,hcov.step (by omega) c3⟩
theorem psplice_eq {α:Type}:∀ (r cs:List α) (o:Nat),o+r.length≤cs.length→psplice cs o r=cs.take o++r++cs.drop (o+r.length)
 |[],cs,o,h=>by simp [psplice]
 |a::r,cs,o,h=>by
  simp only [List.length_cons] at h
  have ih:=psplice_eq r (cs.set o a) (o+1) (by simp;omega)
  simp only [psplice]
  rw [ih]
  have e1:(cs.set o a).take (o+1)=cs.take o++[a]:=by
   rw [List.take_succ_eq_append_getElem (by simp;omega)]
   rw [List.take_set_of_le (by omega)]
   simp
  have e2:(cs.set o a).drop (o+1+r.length)=cs.drop (o+(r.length+1)):=by
   rw [List.drop_set_of_lt (by omega)]
   congr 1
   omega
  rw [e1,e2]
  simp [Nat.add_assoc]
theorem psplice_many {α:Type} [Enc α] (l r:List α) (i:Nat) (h:i+r.length≤l.length):psplice (cells l) (i*Enc.size α) (cells r)=cells (l.take i++r++l.drop (i+r.length)):=by
 rw [psplice_eq _ _ _ (by rw [cells_length,cells_length,← Nat.add_mul];exact Nat.mul_le_mul_right _ h),cells_length,← Nat.add_mul,cells_take,cells_drop',← cells_append,← cells_append]
end Go.Vm
namespace Go.Proofs.YtdabojnmoejilaaGreatDoor
open Go Go.Am Go.Vm Go.Tra
attribute [local irreducible] VVal VOps VOpsD VWp VCalls VFun VFunV QSeq QBlk QLoop Vm.Done DoneV DoneI
attribute [local irreducible] rchk windsE stoE dvsE cplE shiftR
theorem div_ns {m:Mem} {F:Nat→Prop} {l:List Dvs} {vs ws:List Value} {off:Nat} (hw:takeN (cells l).length (vs.drop off)=some ws) (hr:RFs m F (cells l) ws) (hs:∀ d,d<l.length→(gi l d).stops.length<1000000):∀ n,n≤l.length→divNs vs off n=some ((l.take n).map fun d=>d.stops.length)
 |0,_=>rfl
 |n+1,hn=>by
  have ih:=div_ns hw hr hs n (by omega)
  have hd:=RFs.drop (n*Enc.size Dvs) hr
  rw [cells_drop l n (by omega)] at hd
  have hlen:=hr.length
  have e5:Enc.size Dvs=5:=rfl
  rw [e5] at hd
  have hws:∀ j,j<5→vs[off+n*5+j]?=(ws.drop (n*5))[j]?:=fun j hj=>by
   unfold takeN at hw
   split at hw
   case isFalse=>cases hw
   cases hw
   rw [List.getElem?_drop,List.getElem?_take,if_pos (by rw [cells_length,e5];omega),List.getElem?_drop]
   congr 1;omega
  generalize ws.drop (n*5)=us at hd hws
  have hn9:=hs n (by omega)
  have ee:Enc.enc (gi l n)=[.str (bs (gi l n).name),.bool (gi l n).pedal,.int .i64 (gi l n).lo,.int .i64 (gi l n).hi,.lst 122 (cells (gi l n).stops) (gi l n).stops.length]:=rfl
  rw [ee] at hd
  cases hd with|cons a0 t =>
  cases t with|cons a1 t =>
  cases t with|cons a2 t =>
  cases t with|cons a3 t =>
  cases t with|cons a4 t =>
  cases a0;cases a1;cases a2;cases a3
  have h0:=hws 0 (by omega)
  have h1:=hws 1 (by omega)
  have h2:=hws 2 (by omega)
  have h3:=hws 3 (by omega)
  have h4:=hws 4 (by omega)
  rw [Nat.add_zero] at h0
  simp only [List.getElem?_cons_zero,List.getElem?_cons_succ] at h0 h1 h2 h3 h4
  unfold divNs
  rw [ih,take_succ_gi (by omega),List.map_append]
  simp only [h0,h1,h2,h3,h4]
  generalize hq:(gi l n).stops.length=q at a4 hn9
  generalize cells (gi l n).stops=cc at a4
  cases a4<;>simp [hn9,hq]
theorem ask_places {o:Org} (ho:OrgK o) {e:TypeId}:VAskB env 81 Tryz.f81 (Enc.enc o) e (plcRows (nsO o)):=by
 intro Fo hFo m F c vs hc hr hF
 have hFo:allO 81=some Fo:=hFo
 rw [allO_places] at hFo
 cases hFo
 have d1:=ho.divs
 have ee:Enc.enc o=[.str (bs o.name),.lst 131 (cells o.ranks) o.ranks.length,.lst 97 (cells o.divs) o.divs.length,.lst 147 (cells o.cpls) o.cpls.length]:=rfl
 rw [ee] at hr
 cases hr with|cons a0 t =>
 cases t with|cons a1 t =>
 cases t with|cons a2 t =>
 cases t with|cons a3 t =>
 cases t
 rename_i v0 v1 v2 v3
 have hdl:(cells o.divs).length=o.divs.length*5:=cells_length _
 have hsl:∀ d,d<o.divs.length→(gi o.divs d).stops.length<1000000:=fun d hd=>by have:=ho.stops d hd;omega
 generalize hn:o.divs.length=n at a2
 generalize hcs:cells o.divs=cs at a2
 cases a2 with
 |nil=>omega
 |room=>omega
 |lst hF2 hm2 hw hr2 hc2 =>
  rename_i b off g us ws ro
  subst hn;subst hcs
  refine ⟨plcKey (.slice (some ⟨b,off,none⟩) o.divs.length g) (nsO o),fun m' F' σ' H' nx' hsame hctx=>⟨m',?_⟩⟩
  rw [Tryz.ntmps81]
  refine seqFo_as (kr:=(plcKey (.slice (some ⟨b,off,none⟩) o.divs.length g) (nsO o),plcRows (nsO o))) (gl_same hctx) ?_
  have q1:=(hsame c hF).trans hc
  have q2:=(hsame b hF2).trans hm2
  have q3:=div_ns hw hr2 hsl _ (Nat.le_refl _)
  rw [List.take_of_length_le (Nat.le_refl _)] at q3
  unfold plcSq
  simp only [q1,q2]
  rw [if_pos ⟨by omega,by omega,trivial⟩,q3]
  rfl
theorem places_at:env.O 81=some (seqFo (globList Tryz.prog 8 laidL) (globMem Tryz.prog 8 laidL) 28 plcSq):=allO_places
theorem plcs_len (o:Org):(plcs o).length=plcO (nsO o) (nsO o).length:=rfl
theorem plcs_rows (o:Org):plcRows (nsO o)=(List.range (plcs o).length).map fun k=>plcRow (gi (plcs o) k):=rfl
theorem plcO_bound {ns:List Nat} {K:Nat} (h:∀ d,d<ns.length→gi ns d≤K):∀ n,n≤ns.length→plcO ns n≤n*K
 |0,_=>Nat.zero_le _
 |n+1,hn=>by
  have ih:=plcO_bound h n (by omega)
  have:=h n (by omega)
  rw [plcO_succ,Nat.succ_mul]
  omega
theorem plcs_bound {o:Org} (ho:OrgK o):(plcs o).length≤480:=by
 have h:=plcO_bound (ns:=nsO o) (K:=60) (fun d hd=>by rw [nsO_len] at hd;rw [nsO_gi o hd];exact ho.stops d hd) (nsO o).length (Nat.le_refl _)
 rw [plcs_len]
 have:=ho.divs
 rw [nsO_len] at h ⊢
 omega
theorem inl_PLC {L:Vm.Frame} {H:Vm.Heap} {nx:Nat} {Q:PV→Vm.Heap→Nat→Prop} {dst:Option Tmp} {ty:TypeId} {pos:String} {af:Array Edge} {gd:Option (Nat×Bool)} {fo:Operand} {args:Array Operand} {aT:Array TypeId} {fs cs xs:List PV} {c:Code}
 (hf:vev env.Γ L fo=some (.clo 53 fs cs)) (ha:evs env.Γ L args.toList=some xs) (hb:Tryz.f53.body=some c) (hn:(fs++xs++cs).length≤Tryz.f53.ntmps)
 (h:VWp env nx c (argFrame 0 (fs++xs++cs)) H nx (DoneI env.P Tryz.f53.results.toList Q)):VVal env true ⟨dst,.call { callee:=.value fo,args:=args,argTypes:=aT },ty,pos,af,gd⟩ L H nx Q:=by
 have h0:(match Tryz.f53.body with|some c=>fnOk env.G Tryz.f53 c|none=>false)=true:=by kernel_rfl
 rw [hb] at h0
 exact VVal.inline rfl hf ha (env_none (by decide)) Tryz.func53 hb h0 hn h
theorem inl_ASQ {L:Vm.Frame} {H:Vm.Heap} {nx:Nat} {Q:PV→Vm.Heap→Nat→Prop} {dst:Option Tmp} {ty:TypeId} {pos:String} {af:Array Edge} {gd:Option (Nat×Bool)} {fo:Operand} {args:Array Operand} {aT:Array TypeId} {fs cs xs:List PV} {c:Code}
 (hf:vev env.Γ L fo=some (.clo 80 fs cs)) (ha:evs env.Γ L args.toList=some xs) (hb:Tryz.f80.body=some c) (hn:(fs++xs++cs).length≤Tryz.f80.ntmps)
 (h:VWp env nx c (argFrame 0 (fs++xs++cs)) H nx (DoneI env.P Tryz.f80.results.toList Q)):VVal env true ⟨dst,.call { callee:=.value fo,args:=args,argTypes:=aT },ty,pos,af,gd⟩ L H nx Q:=by
 have h0:(match Tryz.f80.body with|some c=>fnOk env.G Tryz.f80 c|none=>false)=true:=by kernel_rfl
 rw [hb] at h0
 exact VVal.inline rfl hf ha (env_none (by decide)) Tryz.func80 hb h0 hn h
def plcT (o:Org) (k:Nat):List Plc:=(plcs o).take k
theorem plcT_len (o:Org) {k:Nat} (h:k≤(plcs o).length):(plcT o k).length=k:=by unfold plcT;rw [List.length_take];omega
theorem plcT_succ (o:Org) {k:Nat} (h:k<(plcs o).length):plcT o (k+1)=plcT o k++[gi (plcs o) k]:=take_succ_gi h
theorem plcT_all (o:Org):plcT o (plcs o).length=plcs o:=List.take_of_length_le (Nat.le_refl _)
theorem collect_calls (o:Org) (ho:OrgK o):VCalls env 52 [.clo 81 [] [.ref 0 0]] [(0,.box 37 ((Enc.enc o).map .p))] 1
 fun r H' nx'=>r=.vec 2 (plcs o).length 0 (plcs o).length∧H'=[(2,.vec 85 (cells (plcs o)) (plcs o).length true)]∧nx'=3:=by
 have hb:=plcs_bound ho
 refine VCalls.enter (env_none (by decide)) Tryz.func52 rfl (by kernel_rfl) (by simp [Tryz.ntmps52]) ?_
 repeat' (first|apply VWp.assoc|apply VWp.rseq|apply VWp.blockSeq|apply VOps.nil|apply VOps.one|(apply inl_ASQ;rfl;rfl;rfl;exact le_dec rfl)|(apply VVal.assign;rfl)|(apply VVal.move;rfl)|(apply VVal.box;rfl;trivial))
 all_goals try (exfalso;omega)
 refine VWp.ghost (Ghost.adoptCell 1 0 85 rfl rfl) ?_
 refine VWp.rangeFuncB (plcs o).length (fun k=>[.agg (Enc.enc (gi (plcs o) k))]) (fun k=>plcRow (gi (plcs o) k)) [(2,.ref 1 0)]
  (fun k=>[(1,.box 59 [.vec 2 (plcT o k).length 0 (plcT o k).length]),(2,.vec 85 (cells (plcT o k)) (plcT o k).length true)]) 3 (fun _=>True)
  rfl rfl Tryz.func81 rfl places_at (plcs_rows o) (fun _ _=>rfl) (fun _ _=>rfl) (fun k _ m F=>.cons (.agg (.cons (.int _ _) (.cons (.int _ _) .nil)) rfl) .nil) (by omega) ⟨by omega,?_,?_⟩ ?_ (ask_places ho) trivial ?_ ?_
 ·repeat (first|exact LCov.nil|refine LCov.same trivial rfl ?_|refine LCov.same (lt_dec rfl) rfl ?_|refine LCov.same ⟨trivial,lt_dec rfl,trivial⟩ rfl ?_|refine LCov.same ⟨trivial,lt_dec rfl,lt_dec rfl,trivial⟩ rfl ?_|refine LCov.same ⟨trivial,lt_dec rfl,lt_dec rfl,lt_dec rfl,trivial⟩ rfl ?_|refine LCov.same ⟨trivial,lt_dec rfl,lt_dec rfl,lt_dec rfl,lt_dec rfl,trivial⟩ rfl ?_|refine LCov.same ⟨trivial,trivial⟩ rfl ?_|refine LCov.cons trivial rfl (.of_eq (lst_len (by simp<;>omega))) ?_)
 ·repeat (first|exact HCov.nil|(refine HCov.cons (lt_dec rfl) ?_ rfl ?_ ?_;(first|exact HB.under_of rfl|exact PVs.under_pure _ _|(simp [HB.under,PVs.under,PV.under]));(first|exact HLe.refl _|exact HLe.vec (FLes.refl _) (by simp))))
 ·repeat (first|exact LCov.nil|refine LCov.same trivial rfl ?_|refine LCov.same (lt_dec rfl) rfl ?_|refine LCov.same ⟨trivial,lt_dec rfl,trivial⟩ rfl ?_|refine LCov.same ⟨trivial,lt_dec rfl,lt_dec rfl,trivial⟩ rfl ?_|refine LCov.same ⟨trivial,lt_dec rfl,lt_dec rfl,lt_dec rfl,trivial⟩ rfl ?_|refine LCov.same ⟨trivial,lt_dec rfl,lt_dec rfl,lt_dec rfl,lt_dec rfl,trivial⟩ rfl ?_|refine LCov.same ⟨trivial,trivial⟩ rfl ?_|refine LCov.cons trivial rfl (.of_eq (lst_len (by simp<;>omega))) ?_)
 ·intro k hk _
  have e1:=plcT_succ o hk
  have e2:(plcT o (k+1)).length=(plcT o k).length+1:=by rw [e1];simp
  have e3:=plcT_len o (Nat.le_of_lt hk)
  repeat' (first|apply VWp.region|apply VOps.nil|apply VOps.one|(apply VVal.alloc;rfl)|(apply VVal.storeB;rfl;rfl;rfl;trivial;rfl;rfl;exact lt_dec rfl;exact le_dec rfl))
  refine ⟨rfl,?_⟩
  repeat' (first|apply VWp.region|apply QBlk.normal|apply VWp.blockQ|apply VOps.nil|apply VOps.one|(apply VVal.append1 (a:=gi (plcs o) k);rfl;rfl;rfl;rfl;rfl;rfl;rfl;rfl;(intro _ h;cases h);rfl;rfl;rfl;decide;decide;(first|omega|(simp only [List.length_take,List.length_drop,List.length_append,List.length_singleton,List.length_cons,List.length_nil]<;>omega)))|(apply VVal.load;rfl;rfl)|(apply VVal.storeB;rfl;rfl;rfl;trivial;rfl;rfl;exact lt_dec rfl;exact le_dec rfl)|(apply VVal.buildSlice;rfl;rfl;rfl;decide;rfl;rfl;rfl))
  all_goals try (exfalso;omega)
  refine ⟨trivial,by omega,?_⟩
  rw [e2,e1]
  repeat (first|exact HCov.nil|(refine HCov.cons (lt_dec rfl) ?_ rfl ?_ ?_;(first|exact HB.under_of rfl|exact PVs.under_pure _ _|(simp [HB.under,PVs.under,PV.under]));(first|exact HLe.refl _|exact HLe.vec (FLes.refl _) (by simp))))
 ·intro _
  rw [plcT_all]
  repeat' (first|apply VWp.rseq|apply QSeq.normal|(apply DoneI.ret;rfl)|apply QBlk.normal|apply VWp.ret|apply VOps.nil|apply VOps.one|(apply VVal.assign;rfl)|(apply VVal.load;rfl;rfl))
  all_goals (refine Done.ret (H0:=[(2,.vec 85 (cells (plcs o)) (plcs o).length true)]) (nx0:=3) rfl (.refl _) (lt_dec rfl) ?_ (by omega) (by omega) ⟨rfl,rfl,rfl⟩)
  repeat (first|exact HCov.nil|(refine HCov.cons (lt_dec rfl) ?_ rfl ?_ ?_;(first|exact HB.under_of rfl|exact PVs.under_pure _ _|(simp [HB.under,PVs.under,PV.under]));(first|exact HLe.refl _|exact HLe.vec (FLes.refl _) (by simp))))
theorem drawn1_spec (r:Rgs) (hr:r.Ok) (p:Plc) (h1:p.d<r.stops.length) (h2:p.s<64):VRead env 79 ([.p (.agg (Enc.enc p))]++[.ref 0 0]) [(0,.box 41 ((Enc.enc r).map .p))] 1 (.bool (!drawnB r p)):=by
 have b1:=hr.stops p.d h1
 have hd:drawnB r p=(gi r.stops p.d / 2 ^ p.s % 2==1):=rfl
 rw [hd]
 have hm:=Nat.mod_lt (gi r.stops p.d / 2 ^ p.s) (show 0<2 by decide)
 have hq:gi r.stops p.d / 2 ^ p.s<18446744073709551616:=Nat.lt_of_le_of_lt (Nat.div_le_self _ _) b1
 have hv:(decide ((((gi r.stops p.d / 2 ^ p.s % 2:Nat)):Int)=0))=!(gi r.stops p.d / 2 ^ p.s % 2==1):=by
  have:gi r.stops p.d / 2 ^ p.s % 2=0∨gi r.stops p.d / 2 ^ p.s % 2=1:=by omega
  rcases this with h|h<;>rw [h]<;>rfl
 refine VRead.enter (env_none (by decide)) Tryz.func79 rfl (by kernel_rfl) (by simp [Tryz.ntmps79]) ?_
 repeat' (first|apply VWp.rseq|apply VWp.rseqD|apply VWp.ret|apply VOps.nil|apply VOpsD.nil|apply VOps.one|(apply VOpsD.bar;decide +kernel)|apply VOpsD.quiet|(apply VVal.indexN (l:=r.stops) (i:=p.d);rfl;rfl;rfl;exact h1;rfl)|(apply VVal.assign;rfl)|(apply VVal.and1U;rfl;rfl;omega)|(apply VVal.int;rfl;rfl;rfl)|(apply VVal.load;rfl;rfl)|(apply VVal.fieldB;rfl;rfl;rfl)|(apply VVal.box;rfl;trivial)|(apply VVal.shrN;rfl;rfl;(simp only [IntKind.bits];omega)))
 all_goals try (exfalso;omega)
 rw [← hv]
 all_goals (refine Done.ret rfl (.refl _) trivial ?_ (by omega) (Nat.le_refl _) ⟨?_,rfl,rfl⟩;repeat (first|exact HCov.nil|(refine HCov.cons (lt_dec rfl) ?_ rfl ?_ ?_;(first|exact HB.under_of rfl|exact PVs.under_pure _ _|(simp [HB.under,PVs.under,PV.under]));(first|exact HLe.refl _|exact HLe.vec (FLes.refl _) (by simp))));try rfl)
theorem inl_DLF {L:Vm.Frame} {H:Vm.Heap} {nx:Nat} {Q:PV→Vm.Heap→Nat→Prop} {dst:Option Tmp} {ty:TypeId} {pos:String} {af:Array Edge} {gd:Option (Nat×Bool)} {fo:Operand} {args:Array Operand} {aT:Array TypeId} {fs cs xs:List PV} {c:Code}
 (hf:vev env.Γ L fo=some (.clo 78 fs cs)) (ha:evs env.Γ L args.toList=some xs) (hb:Tryz.f78.body=some c) (hn:(fs++xs++cs).length≤Tryz.f78.ntmps)
 (h:VWp env nx c (argFrame 0 (fs++xs++cs)) H nx (DoneI env.P Tryz.f78.results.toList Q)):VVal env true ⟨dst,.call { callee:=.value fo,args:=args,argTypes:=aT },ty,pos,af,gd⟩ L H nx Q:=by
 have h0:(match Tryz.f78.body with|some c=>fnOk env.G Tryz.f78 c|none=>false)=true:=by kernel_rfl
 rw [hb] at h0
 exact VVal.inline rfl hf ha (env_none (by decide)) Tryz.func78 hb h0 hn h
theorem inl_IXP {L:Vm.Frame} {H:Vm.Heap} {nx:Nat} {Q:PV→Vm.Heap→Nat→Prop} {dst:Option Tmp} {ty:TypeId} {pos:String} {af:Array Edge} {gd:Option (Nat×Bool)} {fo:Operand} {args:Array Operand} {aT:Array TypeId} {fs cs xs:List PV} {c:Code}
 (hf:vev env.Γ L fo=some (.clo 105 fs cs)) (ha:evs env.Γ L args.toList=some xs) (hb:Tryz.f105.body=some c) (hn:(fs++xs++cs).length≤Tryz.f105.ntmps)
 (h:VWp env nx c (argFrame 0 (fs++xs++cs)) H nx (DoneI env.P Tryz.f105.results.toList Q)):VVal env true ⟨dst,.call { callee:=.value fo,args:=args,argTypes:=aT },ty,pos,af,gd⟩ L H nx Q:=by
 have h0:(match Tryz.f105.body with|some c=>fnOk env.G Tryz.f105 c|none=>false)=true:=by kernel_rfl
 rw [hb] at h0
 exact VVal.inline rfl hf ha (env_none (by decide)) Tryz.func105 hb h0 hn h
theorem take_psplice {α:Type}:∀ (r cs:List α) (o:Nat) {k:Nat},k≤o→(psplice cs o r).take k=cs.take k
 |[],cs,o,k,h=>by simp [psplice]
 |a::r,cs,o,k,h=>by
  simp only [psplice]
  rw [take_psplice r (cs.set o a) (o+1) (by omega),List.take_set_of_le h]
theorem filter_all {α:Type} {P:α→Bool} {l:List α} [Inhabited α] (h:∀ i,i<l.length→P (gi l i)=true):l.filter P=l:=by
 rw [List.filter_eq_self]
 intro a ha
 obtain ⟨i,hi,rfl⟩:=List.getElem_of_mem ha
 have:=h i hi
 rwa [show gi l i=l[i] by unfold gi;rw [List.getElem?_eq_getElem hi];rfl] at this
structure DelI {α:Type} (P:α→Bool) (l zs:List α) (i j:Nat):Prop where
 len:zs.length=l.length
 ij:i<j
 jn:j≤l.length
 keep:zs.take i=(l.take j).filter P
 rest:zs.drop j=l.drop j
theorem DelI.at_ {α:Type} [Inhabited α] {P:α→Bool} {l zs:List α} {i j:Nat} (h:DelI P l zs i j) (hj:j<l.length):gi zs j=gi l j:=by
 have:=congrArg (fun x=>gi x 0) h.rest
 simp only [gi,List.getElem?_drop,Nat.add_zero] at this
 exact this
theorem DelI.skip {α:Type} [Inhabited α] {P:α→Bool} {l zs:List α} {i j:Nat} (h:DelI P l zs i j) (hj:j<l.length) (hp:P (gi l j)=false):DelI P l zs i (j+1):=by
 refine ⟨h.len,by have:=h.ij;omega,hj,?_,?_⟩
 ·rw [take_succ_gi hj,List.filter_append,h.keep]
  simp [hp]
 ·have:=congrArg (List.drop 1) h.rest
  simpa [List.drop_drop] using this
theorem DelI.put {α:Type} [Inhabited α] {P:α→Bool} {l zs:List α} {i j:Nat} (h:DelI P l zs i j) (hj:j<l.length) (hp:P (gi l j)=true):DelI P l (zs.set i (gi l j)) (i+1) (j+1):=by
 have h1:=h.ij
 have h2:=h.len
 refine ⟨by rw [List.length_set,h2],by omega,hj,?_,?_⟩
 ·rw [take_succ_gi hj,List.filter_append,← h.keep,take_succ_gi (by rw [List.length_set];omega),List.take_set_of_le (Nat.le_refl _)]
  have e:gi (zs.set i (gi l j)) i=gi l j:=by rw [gi_set,if_pos ⟨rfl,by omega⟩]
  rw [e]
  simp [hp]
 ·rw [List.drop_set_of_lt (by omega)]
  have:=congrArg (List.drop 1) h.rest
  simpa [List.drop_drop] using this
theorem DelI.start {α:Type} [Inhabited α] {P:α→Bool} {l:List α} {k:Nat} (hk:k<l.length) (hp:P (gi l k)=false) (h:∀ i,i<k→P (gi l i)=true):DelI P l l k (k+1):=by
 refine ⟨rfl,by omega,hk,?_,rfl⟩
 rw [take_succ_gi hk,List.filter_append]
 have:(l.take k).filter P=l.take k:=filter_all fun i hi=>by
  rw [List.length_take] at hi
  have:=h i (by omega)
  rwa [show gi (l.take k) i=gi l i from by unfold gi;rw [List.getElem?_take,if_pos (by omega)]]
 rw [this]
 simp [hp]
theorem DelI.fin {α:Type} [Inhabited α] {P:α→Bool} {l zs:List α} {i:Nat} (h:DelI P l zs i l.length):zs.take i=l.filter P∧i=(l.filter P).length:=by
 have h1:=h.keep
 rw [List.take_of_length_le (Nat.le_refl _)] at h1
 refine ⟨h1,?_⟩
 rw [← h1,List.length_take,h.len]
 have:=h.ij
 omega
theorem tdrawn_spec (o:Org) (ho:OrgK o) (r:Rgs) (hr:r.Ok) (hl:r.stops.length=o.divs.length) :
 VFun env 51 [.agg (Enc.enc o),.agg (Enc.enc r)] (.p (.lst 85 (cells (drawnL o r)) (drawnL o r).length)):=by
 have hb:=plcs_bound ho
 have hcl:=collect_calls o ho
 have hok:∀ i,i<(plcs o).length→(gi (plcs o) i).d<r.stops.length∧(gi (plcs o) i).s<64:=fun i hi=>by
  obtain ⟨h1,h2⟩:=plcs_gi hi
  have:=ho.stops _ h1
  omega
 unfold drawnL
 generalize plcs o=l at *
 refine VFun.enter (env_none (by decide)) Tryz.func51 rfl (by kernel_rfl) (by simp [Tryz.ntmps51]) ?_
 repeat' (first|apply VWp.assoc|apply VWp.rseq|apply VWp.blockSeq|(apply DoneI.ret;rfl)|apply VWp.ret|apply VOps.nil|apply VOps.one|(apply inl_PLC;rfl;rfl;rfl;exact le_dec rfl)|(apply VVal.callK [2] (hcl);rfl;rfl;exact .of_eq rfl;exact PVs.under_of rfl;exact HUnder_of rfl;(repeat (first|exact trivial|refine ⟨⟨_,rfl,.of_eq rfl⟩,?_⟩));decide;(intro _ hb;first|(simp at hb;done)|(simp at hb ⊢<;>omega));(rintro _ _ _ ⟨rfl,rfl,rfl⟩))|(apply VVal.makeFunc;rfl;rfl)|(apply inl_DLF;rfl;rfl;rfl;exact le_dec rfl)|(apply inl_IXP;rfl;rfl;rfl;exact le_dec rfl)|(apply VVal.assign;rfl)|(apply VVal.move;rfl)|(apply VVal.load;rfl;rfl)|(apply VVal.lenV;rfl;rfl;rfl)|(apply VVal.box;rfl;trivial))
 all_goals try (exfalso;omega)
 apply VWp.loopRI (l.length) (fun k=>∀ i,i<k→drawnB r (gi l i)=true) [(0,_),(1,_),(7,_)] [(4,_),(1,_)] (fun k r=>(8,.p (.int .i64 (k:Int)))::r) (fun k r=>r) 5
 ·first|omega|decide
 ·first|omega|decide
 ·repeat (first|exact LCov.nil|(refine LCov.eq rfl ?_ ?_;(first|exact PV.under_of rfl|(simp [PV.under,PVs.under];done)))|refine LCov.cons trivial rfl (.of_eq (lst_len (by simp<;>omega))) ?_)
 ·repeat (first|exact HCov.nil|(refine HCov.eq rfl (lt_dec rfl) ?_ ?_;(first|exact HB.under_of rfl|exact PVs.under_pure _ _|(simp [HB.under,PVs.under,PV.under];done)))|(refine HCov.cons (lt_dec rfl) ?_ rfl ?_ ?_;(first|exact trivial|exact PVs.under_pure _ _|(simp [HB.under,PVs.under,PV.under]));(first|exact HLe.refl _|exact HLe.vec (FLes.refl _) (by simp))))
 ·first|(intro _ _;omega)|omega|trivial
 ·intro k hk hi
  obtain ⟨g1,g2⟩:=hok k hk
  have hC:=drawn1_spec r hr (gi l k) g1 g2
  by_cases hp:drawnB r (gi l k)=true
  ·rw [hp] at hC
   repeat' (first|apply VWp.rseq|apply VWp.region|apply VWp.skipSeq|apply VWp.blockSeq|apply QSeq.normal|apply QBlk.normal|apply VWp.skip|apply VOps.nil|apply VOps.one|(apply VVal.read [1] hC;rfl;rfl;exact .of_eq rfl;exact PVs.under_of rfl;exact HUnder_of rfl;(repeat (first|exact trivial|refine ⟨⟨_,rfl,.of_eq rfl⟩,?_⟩));decide;(intro _ hb;simp at hb<;>omega);rfl)|(apply VVal.assign;rfl)|(apply VVal.move;rfl)|(apply VVal.add64;rfl;rfl;omega)|(apply VVal.int;rfl;rfl;rfl)|(apply VVal.loadVL;rfl;rfl;omega;rfl)|(apply VVal.indexVN;rfl;rfl;rfl;rfl;omega)|(apply VWp.condSeq_dec;rfl)|(apply VWp.cond_false;rfl)|(intro _;try (exfalso;omega)))
   all_goals try (exfalso;omega)
   refine QLoop.normal ⟨(all_succ hi hp),by first|omega|decide,?_,?_⟩
   ·repeat (first|exact LCov.nil|refine LCov.same trivial rfl ?_|refine LCov.same (lt_dec rfl) rfl ?_|refine LCov.same ⟨trivial,lt_dec rfl,trivial⟩ rfl ?_|refine LCov.same ⟨trivial,lt_dec rfl,lt_dec rfl,trivial⟩ rfl ?_|refine LCov.same ⟨trivial,lt_dec rfl,lt_dec rfl,lt_dec rfl,trivial⟩ rfl ?_|refine LCov.same ⟨trivial,lt_dec rfl,lt_dec rfl,lt_dec rfl,lt_dec rfl,trivial⟩ rfl ?_|refine LCov.same ⟨trivial,trivial⟩ rfl ?_|refine LCov.cons trivial rfl (.of_eq (lst_len (by simp<;>omega))) ?_)
   ·repeat (first|exact HCov.nil|(refine HCov.cons (lt_dec rfl) ?_ rfl ?_ ?_;(first|exact HB.under_of rfl|exact PVs.under_pure _ _|(simp [HB.under,PVs.under,PV.under]));(first|exact HLe.refl _|exact HLe.vec (FLes.refl _) (by simp))))
  ·have hp':drawnB r (gi l k)=false:=by cases h:drawnB r (gi l k)<;>simp_all
   rw [hp'] at hC
   repeat' (first|apply VWp.assoc|apply VWp.rseq|apply VWp.skipSeq|apply VWp.blockSeq|apply QSeq.ret|(apply DoneI.ret;rfl)|apply QBlk.ret|apply QLoop.ret|apply VWp.ret|apply VOps.nil|apply VOps.one|(apply VVal.read [1] hC;rfl;rfl;exact .of_eq rfl;exact PVs.under_of rfl;exact HUnder_of rfl;(repeat (first|exact trivial|refine ⟨⟨_,rfl,.of_eq rfl⟩,?_⟩));decide;(intro _ hb;simp at hb<;>omega);rfl)|(apply VVal.assign;rfl)|(apply VVal.move;rfl)|(apply VVal.add64;rfl;rfl;omega)|(apply VVal.int;rfl;rfl;rfl)|(apply VVal.loadVL;rfl;rfl;omega;rfl)|(apply VVal.indexVN;rfl;rfl;rfl;rfl;omega)|(apply VWp.condSeq_false;rfl)|(apply VWp.condSeq_dec;rfl)|(apply VWp.cond_true;rfl)|(intro _;try (exfalso;omega)))
   all_goals try (exfalso;omega)
   refine VWp.loopQ (fun s:List Plc×Nat×Nat=>[(0,.vec 4 l.length 0 l.length),(1,.clo 79 [] [.ref 1 0]),(5,.p (.int .i64 (s.2.1:Int))),(6,.p (.int .i64 (s.2.2:Int)))]) (fun s=>[(4,.vec 85 (cells s.1) l.length true),(1,.box 41 ((Enc.enc r).map .p))]) 5 (fun s=>DelI (drawnB r) l s.1 s.2.1 s.2.2) (fun s=>l.length-s.2.2) (l,k,k+1) (by decide) (DelI.start hk hp' hi) ⟨by decide,?_,?_⟩ ?_
   ·repeat (first|exact LCov.nil|refine LCov.same trivial rfl ?_|refine LCov.same (lt_dec rfl) rfl ?_|refine LCov.same ⟨trivial,lt_dec rfl,trivial⟩ rfl ?_|refine LCov.same ⟨trivial,lt_dec rfl,lt_dec rfl,trivial⟩ rfl ?_|refine LCov.same ⟨trivial,lt_dec rfl,lt_dec rfl,lt_dec rfl,trivial⟩ rfl ?_|refine LCov.same ⟨trivial,lt_dec rfl,lt_dec rfl,lt_dec rfl,lt_dec rfl,trivial⟩ rfl ?_|refine LCov.same ⟨trivial,trivial⟩ rfl ?_|refine LCov.cons trivial rfl (.of_eq (lst_len (by simp<;>omega))) ?_)
   ·repeat (first|exact HCov.nil|(refine HCov.cons (lt_dec rfl) ?_ rfl ?_ ?_;(first|exact HB.under_of rfl|exact PVs.under_pure _ _|(simp [HB.under,PVs.under,PV.under]));(first|exact HLe.refl _|exact HLe.vec (FLes.refl _) (by simp))))
   rintro ⟨zs,i,j⟩ hD
   simp only at hD ⊢
   have z1:=hD.len
   have z2:=hD.ij
   have z3:=hD.jn
   by_cases hj:j<l.length
   ·obtain ⟨g3,g4⟩:=hok j hj
    have hC2:=drawn1_spec r hr (gi l j) g3 g4
    have hz:=hD.at_ hj
    by_cases hq:drawnB r (gi l j)=true
    ·rw [hq] at hC2
     rw [← hz] at hC2
     repeat' (first|apply VWp.assoc|apply VWp.rseq|apply VWp.region|apply VWp.skipSeq|apply VWp.blockSeq|apply QSeq.normal|apply QBlk.normal|apply VOps.nil|apply VOps.one|(apply VVal.read [1] hC2;rfl;rfl;exact .of_eq rfl;exact PVs.under_of rfl;exact HUnder_of rfl;(repeat (first|exact trivial|refine ⟨⟨_,rfl,.of_eq rfl⟩,?_⟩));decide;(intro _ hb;simp at hb<;>omega);rfl)|(apply VVal.storeVL (y:=gi zs j);rfl;rfl;rfl;trivial;(first|rfl|(refine congrArg (fun t=>[PV.p (FV.int _ t)]) ?_;first|omega|(simp only [Int.natCast_add,Int.natCast_mul,Int.natCast_ediv,Int.natCast_emod]<;>omega)));rfl;rfl;decide;(first|omega|(simp only [List.length_set]<;>omega)))|(apply VVal.assign;rfl)|(apply VVal.move;rfl)|(apply VVal.add64;rfl;rfl;omega)|(apply VVal.int;rfl;rfl;rfl)|(apply VVal.loadVL;rfl;rfl;omega;rfl)|(apply VVal.load;rfl;rfl)|(apply VVal.lenV;rfl;rfl;rfl)|(apply VVal.alloc;rfl)|(apply VVal.storeB;rfl;rfl;rfl;trivial;rfl;rfl;exact lt_dec rfl;exact le_dec rfl)|(apply VVal.indexVN;rfl;rfl;rfl;rfl;omega)|(apply VVal.not;rfl)|(apply VWp.condSeq_dec;rfl)|(apply VWp.cond_true;rfl)|(intro _;try (exfalso;omega)))
     all_goals try (exfalso;omega)
     refine QLoop.normal ⟨(zs.set i (gi l j),i+1,j+1),hD.put hj hq,by simp only;omega,⟨by omega,?_,?_⟩⟩
     ·repeat (first|exact LCov.nil|refine LCov.same trivial rfl ?_|refine LCov.same (lt_dec rfl) rfl ?_|refine LCov.same ⟨trivial,lt_dec rfl,trivial⟩ rfl ?_|refine LCov.same ⟨trivial,lt_dec rfl,lt_dec rfl,trivial⟩ rfl ?_|refine LCov.same ⟨trivial,lt_dec rfl,lt_dec rfl,lt_dec rfl,trivial⟩ rfl ?_|refine LCov.same ⟨trivial,lt_dec rfl,lt_dec rfl,lt_dec rfl,lt_dec rfl,trivial⟩ rfl ?_|refine LCov.same ⟨trivial,trivial⟩ rfl ?_|refine LCov.cons trivial rfl (.of_eq (lst_len (by simp<;>omega))) ?_)
     ·rw [← hz]
      repeat (first|exact HCov.nil|(refine HCov.cons (lt_dec rfl) ?_ rfl ?_ ?_;(first|exact HB.under_of rfl|exact PVs.under_pure _ _|(simp [HB.under,PVs.under,PV.under]));(first|exact HLe.refl _|exact HLe.vec (FLes.refl _) (by simp))))
    ·have hq':drawnB r (gi l j)=false:=by cases h:drawnB r (gi l j)<;>simp_all
     rw [hq'] at hC2
     rw [← hz] at hC2
     repeat' (first|apply VWp.assoc|apply VWp.rseq|apply VWp.region|apply VWp.skipSeq|apply VWp.blockSeq|apply QSeq.normal|apply QBlk.normal|apply VWp.skip|apply VOps.nil|apply VOps.one|(apply VVal.read [1] hC2;rfl;rfl;exact .of_eq rfl;exact PVs.under_of rfl;exact HUnder_of rfl;(repeat (first|exact trivial|refine ⟨⟨_,rfl,.of_eq rfl⟩,?_⟩));decide;(intro _ hb;simp at hb<;>omega);rfl)|(apply VVal.assign;rfl)|(apply VVal.move;rfl)|(apply VVal.add64;rfl;rfl;omega)|(apply VVal.int;rfl;rfl;rfl)|(apply VVal.loadVL;rfl;rfl;omega;rfl)|(apply VVal.load;rfl;rfl)|(apply VVal.lenV;rfl;rfl;rfl)|(apply VVal.alloc;rfl)|(apply VVal.storeB;rfl;rfl;rfl;trivial;rfl;rfl;exact lt_dec rfl;exact le_dec rfl)|(apply VVal.indexVN;rfl;rfl;rfl;rfl;omega)|(apply VVal.not;rfl)|(apply VWp.condSeq_dec;rfl)|(apply VWp.cond_false;rfl)|(intro _;try (exfalso;omega)))
     all_goals try (exfalso;omega)
     refine QLoop.normal ⟨(zs,i,j+1),hD.skip hj hq',by simp only;omega,⟨by omega,?_,?_⟩⟩
     ·repeat (first|exact LCov.nil|refine LCov.same trivial rfl ?_|refine LCov.same (lt_dec rfl) rfl ?_|refine LCov.same ⟨trivial,lt_dec rfl,trivial⟩ rfl ?_|refine LCov.same ⟨trivial,lt_dec rfl,lt_dec rfl,trivial⟩ rfl ?_|refine LCov.same ⟨trivial,lt_dec rfl,lt_dec rfl,lt_dec rfl,trivial⟩ rfl ?_|refine LCov.same ⟨trivial,lt_dec rfl,lt_dec rfl,lt_dec rfl,lt_dec rfl,trivial⟩ rfl ?_|refine LCov.same ⟨trivial,trivial⟩ rfl ?_|refine LCov.cons trivial rfl (.of_eq (lst_len (by simp<;>omega))) ?_)
     ·repeat (first|exact HCov.nil|(refine HCov.cons (lt_dec rfl) ?_ rfl ?_ ?_;(first|exact HB.under_of rfl|exact PVs.under_pure _ _|(simp [HB.under,PVs.under,PV.under]));(first|exact HLe.refl _|exact HLe.vec (FLes.refl _) (by simp))))
   ·obtain rfl:j=l.length:=by omega
    obtain ⟨f1,f2⟩:=hD.fin
    rw [← f1,show (zs.take i).length=i by rw [List.length_take];omega]
    have hps:∀ xs,((psplice (cells zs) (0+i*2) xs).take (i*2))=cells (zs.take i):=fun xs=>by
     rw [take_psplice _ _ _ (show i*2≤0+i*2 by omega)]
     exact cells_take zs i
    have hpl:∀ xs,i*2≤(psplice (cells zs) (0+i*2) xs).length:=fun xs=>by
     rw [psplice_len,cells_length,z1]
     show i*2≤l.length*2
     omega
    repeat' (first|(refine VOps.atOp 4 ?_;refine VOps.ghost (Ghost.freezeTo 9 (i*2) rfl rfl (by omega) (hpl _)) ?_)|apply VWp.assoc|apply VWp.rseq|apply VWp.exitSeq|apply QSeq.normal|(apply DoneI.ret;rfl)|apply QBlk.exit|apply QLoop.exit|apply VWp.ret|apply VOps.nil|apply VOps.one|(apply VVal.sliceV (sz:=2) (a:=i) (c:=l.length);rfl;rfl;omega;rfl;rfl;rfl;exact ⟨_,rfl⟩;rfl;omega;exact Nat.le_refl _)|(apply VVal.sliceV (sz:=2) (a:=0) (c:=i);rfl;rfl;omega;rfl;rfl;rfl;rfl;exact ⟨_,rfl⟩;omega;omega)|(apply VVal.clear;rfl;rfl;omega;omega;rfl;rfl;rfl;decide;(rw [cells_length,z1];show 0+i*2+(l.length-i)*2≤l.length*2;omega))|(apply VVal.assign;rfl)|(apply VVal.move;rfl)|(apply VVal.int;rfl;rfl;rfl)|(apply VVal.lenV;rfl;rfl;rfl)|(apply VWp.condSeq_dec;rfl)|(intro _;try (exfalso;omega)))
    all_goals first|(exfalso;omega)|(refine Done.ret rfl (.refl _) (by first|exact trivial|exact ⟨trivial,trivial,trivial⟩|exact ⟨trivial,trivial,trivial,trivial⟩) HCov.nil (Nat.zero_le _) (Nat.le_refl _) ⟨?_,rfl,rfl⟩;exact congrArg (fun c=>PV.p (FV.lst 85 c i)) (hps _))
 ·intro hi
  rw [filter_all hi]
  repeat' (first|(refine VOps.atOp 4 ?_;refine VOps.ghost (Ghost.freeze 9 rfl rfl) ?_)|apply VWp.assoc|apply VWp.rseq|apply VWp.retSeq|apply VWp.exitSeq|apply QSeq.normal|(apply DoneI.ret;rfl)|apply QBlk.exit|apply QLoop.exit|apply VWp.ret|apply VOps.nil|apply VOps.one|(apply VVal.assign;rfl)|(apply VVal.move;rfl)|(apply VVal.int;rfl;rfl;rfl)|(apply VWp.condSeq_true;rfl)|(apply VWp.condSeq_dec;rfl)|(intro _;try (exfalso;omega)))
  all_goals first|(exfalso;omega)|(refine Done.ret rfl (.refl _) (by first|exact trivial|exact ⟨trivial,trivial,trivial⟩|exact ⟨trivial,trivial,trivial,trivial⟩) HCov.nil (Nat.zero_le _) (Nat.le_refl _) ⟨?_,rfl,rfl⟩;try rfl)
end Go.Proofs.YtdabojnmoejilaaGreatDoor
namespace Go.Proofs.YtdabojnmoejilaaGreatDoor
open Go Go.Am Go.Vm Go.Tra
attribute [local irreducible] VVal VOps VOpsD VWp VCalls VFun VFunV QSeq QBlk QLoop Vm.Done DoneV DoneI
attribute [local irreducible] rchk windsE stoE dvsE cplE shiftR
theorem regK_spec (o:Org) (ho:OrgK o) (r:Rgs) (hr:r.Ok):VFun env 36 [.agg (Enc.enc o),.agg (Enc.enc r)] (.p (.int .i64 (regE o r))):=by
 have r2:=ho.divs
 have r3:=ho.cpls
 have c1:=hr.cp
 have c2:=hr.off
 have c3:=hr.len
 have hc:=ocheck_spec o ho.sm
 rw [ho.err] at hc
 refine VFun.enter (env_none (by decide)) Tryz.func36 rfl (by kernel_rfl) (by simp [Tryz.ntmps36]) ?_
 by_cases h1:r.stops.length=o.divs.length
 case neg =>
  rw [regE_len h1]
  repeat' (first|apply VWp.assoc|apply VWp.rseq|apply VWp.skipSeq|apply VWp.retSeq|apply VOps.nil|apply VOps.one|(apply VVal.fn;rfl;rfl;exact hc;intro _;rfl)|(apply VVal.assign;rfl)|(apply VVal.move;rfl)|(apply VVal.int;rfl;rfl;rfl)|(apply VVal.load;rfl;rfl)|(apply VVal.lenF;rfl;rfl)|(apply VVal.fieldB;rfl;rfl;rfl)|(apply VVal.box;rfl;trivial)|(apply VWp.condSeq_false;rfl)|(apply VWp.condSeq_dec;rfl)|(intro _;try (exfalso;omega)))
  all_goals first|(exfalso;omega)|contradiction|(refine Done.ret rfl (.refl _) (by first|exact trivial|exact ⟨trivial,trivial,trivial⟩|exact ⟨trivial,trivial,trivial,trivial⟩) HCov.nil (Nat.zero_le _) (Nat.le_refl _) ⟨?_,rfl,rfl⟩;try rfl)
 by_cases h2:∀ i,i<r.stops.length→gi r.stops i / 2 ^ (gi o.divs i).stops.length=0
 case neg =>
  obtain ⟨i,hi⟩:=Classical.not_forall.1 h2
  obtain ⟨hi,h3⟩:=Classical.not_imp.1 hi
  rw [regE_bad h1 hi h3]
  clear h2
  repeat' (first|apply VWp.assoc|apply VWp.rseq|apply VWp.skipSeq|apply VWp.blockSeq|apply VOps.nil|apply VOps.one|(apply VVal.fn;rfl;rfl;exact hc;intro _;rfl)|(apply VVal.assign;rfl)|(apply VVal.move;rfl)|(apply VVal.int;rfl;rfl;rfl)|(apply VVal.load;rfl;rfl)|(apply VVal.lenF;rfl;rfl)|(apply VVal.fieldB;rfl;rfl;rfl)|(apply VVal.box;rfl;trivial)|(apply VWp.condSeq_false;rfl)|(apply VWp.condSeq_dec;rfl)|(intro _;try (exfalso;omega)))
  all_goals try (exfalso;omega)
  all_goals try contradiction
  apply VWp.loopRI (o.divs.length) (fun k=>∀ i,i<k→gi r.stops i / 2 ^ (gi o.divs i).stops.length=0) [(2,_),(3,_),(21,_),(22,_)] [(0,_),(1,_)] (fun k r=>(23,.p (.int .i64 (k:Int)))::r) (fun k r=>r) 2
  ·first|omega|decide
  ·first|omega|decide
  ·repeat (first|exact LCov.nil|(refine LCov.eq rfl ?_ ?_;(first|exact PV.under_of rfl|(simp [PV.under,PVs.under];done)))|refine LCov.cons trivial rfl (.of_eq (lst_len (by simp<;>omega))) ?_)
  ·repeat (first|exact HCov.nil|(refine HCov.eq rfl (lt_dec rfl) ?_ ?_;(first|exact HB.under_of rfl|exact PVs.under_pure _ _|(simp [HB.under,PVs.under,PV.under];done)))|(refine HCov.cons (lt_dec rfl) ?_ rfl ?_ ?_;(first|exact trivial|exact PVs.under_pure _ _|(simp [HB.under,PVs.under,PV.under]));(first|exact HLe.refl _|exact HLe.vec (FLes.refl _) (by simp))))
  ·first|(intro _ _;omega)|omega|trivial
  ·intro k hk hok
   have s3:=ho.stops k (by omega)
   have rk:=hr.stops k (by omega)
   by_cases hb:gi r.stops k / 2 ^ (gi o.divs k).stops.length=0
   ·repeat' (first|apply VWp.rseq|apply VWp.rseqD|apply VWp.region|apply VWp.skipSeq|apply VWp.blockSeq|apply QSeq.normal|apply QBlk.normal|apply VWp.skip|apply VOps.nil|apply VOpsD.nil|apply VOps.one|(apply VOpsD.bar;decide +kernel)|apply VOpsD.quiet|(apply VVal.assign;rfl)|(apply VVal.move;rfl)|(apply VVal.add64;rfl;rfl;omega)|(apply VVal.int;rfl;rfl;rfl)|(apply VVal.indexN;rfl;rfl;rfl;omega;rfl)|(apply VVal.load;rfl;rfl)|(apply VVal.lenF;rfl;rfl)|(apply VVal.fieldB;rfl;rfl;rfl)|(apply VVal.alloc;rfl)|(apply VVal.storeB;rfl;rfl;rfl;trivial;rfl;rfl;exact lt_dec rfl;exact le_dec rfl)|(apply VVal.shrN;rfl;rfl;(simp only [IntKind.bits];omega))|(apply VWp.condSeq_dec;rfl)|(apply VWp.cond_dec;rfl)|(intro _;try (exfalso;omega)))
    all_goals try (exfalso;omega)
    all_goals try contradiction
    refine QLoop.normal ⟨(all_succ hok hb),by first|omega|decide,?_,?_⟩
    ·repeat (first|exact LCov.nil|refine LCov.same trivial rfl ?_|refine LCov.same (lt_dec rfl) rfl ?_|refine LCov.same ⟨trivial,lt_dec rfl,trivial⟩ rfl ?_|refine LCov.same ⟨trivial,lt_dec rfl,lt_dec rfl,trivial⟩ rfl ?_|refine LCov.same ⟨trivial,lt_dec rfl,lt_dec rfl,lt_dec rfl,trivial⟩ rfl ?_|refine LCov.same ⟨trivial,lt_dec rfl,lt_dec rfl,lt_dec rfl,lt_dec rfl,trivial⟩ rfl ?_|refine LCov.same ⟨trivial,trivial⟩ rfl ?_|refine LCov.cons trivial rfl (.of_eq (lst_len (by simp<;>omega))) ?_)
    ·repeat (first|exact HCov.nil|(refine HCov.cons (lt_dec rfl) ?_ rfl ?_ ?_;(first|exact HB.under_of rfl|exact PVs.under_pure _ _|(simp [HB.under,PVs.under,PV.under]));(first|exact HLe.refl _|exact HLe.vec (FLes.refl _) (by simp))))
   ·repeat' (first|apply VWp.rseq|apply VWp.rseqD|apply VWp.skipSeq|apply VWp.blockSeq|apply QSeq.ret|apply QBlk.ret|apply QLoop.ret|apply VWp.ret|apply VOps.nil|apply VOpsD.nil|apply VOps.one|(apply VOpsD.bar;decide +kernel)|apply VOpsD.quiet|(apply VVal.assign;rfl)|(apply VVal.move;rfl)|(apply VVal.int;rfl;rfl;rfl)|(apply VVal.indexN;rfl;rfl;rfl;omega;rfl)|(apply VVal.load;rfl;rfl)|(apply VVal.lenF;rfl;rfl)|(apply VVal.fieldB;rfl;rfl;rfl)|(apply VVal.alloc;rfl)|(apply VVal.storeB;rfl;rfl;rfl;trivial;rfl;rfl;exact lt_dec rfl;exact le_dec rfl)|(apply VVal.shrN;rfl;rfl;(simp only [IntKind.bits];omega))|(apply VWp.condSeq_dec;rfl)|(apply VWp.cond_dec;rfl)|(intro _;try (exfalso;omega)))
    all_goals first|(exfalso;omega)|contradiction|(refine Done.ret rfl (.refl _) (by first|exact trivial|exact ⟨trivial,trivial,trivial⟩|exact ⟨trivial,trivial,trivial,trivial⟩) HCov.nil (Nat.zero_le _) (Nat.le_refl _) ⟨?_,rfl,rfl⟩;try rfl)
  ·intro hok
   exact absurd (hok i (by omega)) h3
 rw [regE_rest h1 h2]
 repeat' (first|apply VWp.assoc|apply VWp.rseq|apply VWp.skipSeq|apply VWp.blockSeq|apply VOps.nil|apply VOps.one|(apply VVal.fn;rfl;rfl;exact hc;intro _;rfl)|(apply VVal.assign;rfl)|(apply VVal.move;rfl)|(apply VVal.int;rfl;rfl;rfl)|(apply VVal.load;rfl;rfl)|(apply VVal.lenF;rfl;rfl)|(apply VVal.fieldB;rfl;rfl;rfl)|(apply VVal.box;rfl;trivial)|(apply VWp.condSeq_false;rfl)|(apply VWp.condSeq_dec;rfl)|(intro _;try (exfalso;omega)))
 all_goals try (exfalso;omega)
 all_goals try contradiction
 apply VWp.loopRI (o.divs.length) (fun k=>∀ i,i<k→gi r.stops i / 2 ^ (gi o.divs i).stops.length=0) [(2,_),(3,_),(21,_),(22,_)] [(0,_),(1,_)] (fun k r=>(23,.p (.int .i64 (k:Int)))::r) (fun k r=>r) 2
 ·first|omega|decide
 ·first|omega|decide
 ·repeat (first|exact LCov.nil|(refine LCov.eq rfl ?_ ?_;(first|exact PV.under_of rfl|(simp [PV.under,PVs.under];done)))|refine LCov.cons trivial rfl (.of_eq (lst_len (by simp<;>omega))) ?_)
 ·repeat (first|exact HCov.nil|(refine HCov.eq rfl (lt_dec rfl) ?_ ?_;(first|exact HB.under_of rfl|exact PVs.under_pure _ _|(simp [HB.under,PVs.under,PV.under];done)))|(refine HCov.cons (lt_dec rfl) ?_ rfl ?_ ?_;(first|exact trivial|exact PVs.under_pure _ _|(simp [HB.under,PVs.under,PV.under]));(first|exact HLe.refl _|exact HLe.vec (FLes.refl _) (by simp))))
 ·first|(intro _ _;omega)|omega|trivial
 ·intro k hk hok
  have s3:=ho.stops k (by omega)
  have rk:=hr.stops k (by omega)
  have hb:=h2 k (by omega)
  repeat' (first|apply VWp.rseq|apply VWp.rseqD|apply VWp.region|apply VWp.skipSeq|apply VWp.blockSeq|apply QSeq.normal|apply QBlk.normal|apply VWp.skip|apply VOps.nil|apply VOpsD.nil|apply VOps.one|(apply VOpsD.bar;decide +kernel)|apply VOpsD.quiet|(apply VVal.assign;rfl)|(apply VVal.move;rfl)|(apply VVal.add64;rfl;rfl;omega)|(apply VVal.int;rfl;rfl;rfl)|(apply VVal.indexN;rfl;rfl;rfl;omega;rfl)|(apply VVal.load;rfl;rfl)|(apply VVal.lenF;rfl;rfl)|(apply VVal.fieldB;rfl;rfl;rfl)|(apply VVal.alloc;rfl)|(apply VVal.storeB;rfl;rfl;rfl;trivial;rfl;rfl;exact lt_dec rfl;exact le_dec rfl)|(apply VVal.shrN;rfl;rfl;(simp only [IntKind.bits];omega))|(apply VWp.condSeq_dec;rfl)|(apply VWp.cond_dec;rfl)|(intro _;try (exfalso;omega)))
  all_goals try (exfalso;omega)
  all_goals try contradiction
  refine QLoop.normal ⟨(fun j hj=>h2 j (by omega)),by first|omega|decide,?_,?_⟩
  ·repeat (first|exact LCov.nil|refine LCov.same trivial rfl ?_|refine LCov.same (lt_dec rfl) rfl ?_|refine LCov.same ⟨trivial,lt_dec rfl,trivial⟩ rfl ?_|refine LCov.same ⟨trivial,lt_dec rfl,lt_dec rfl,trivial⟩ rfl ?_|refine LCov.same ⟨trivial,lt_dec rfl,lt_dec rfl,lt_dec rfl,trivial⟩ rfl ?_|refine LCov.same ⟨trivial,lt_dec rfl,lt_dec rfl,lt_dec rfl,lt_dec rfl,trivial⟩ rfl ?_|refine LCov.same ⟨trivial,trivial⟩ rfl ?_|refine LCov.cons trivial rfl (.of_eq (lst_len (by simp<;>omega))) ?_)
  ·repeat (first|exact HCov.nil|(refine HCov.cons (lt_dec rfl) ?_ rfl ?_ ?_;(first|exact HB.under_of rfl|exact PVs.under_pure _ _|(simp [HB.under,PVs.under,PV.under]));(first|exact HLe.refl _|exact HLe.vec (FLes.refl _) (by simp))))
 ·intro hok
  by_cases h4:r.cp / 2 ^ o.cpls.length=0
  ·by_cases h5:r.off / 2 ^ o.divs.length=0
   ·rw [if_neg (by omega)]
    repeat' (first|apply VWp.assoc|apply VWp.rseq|apply VWp.skipSeq|apply VWp.exitSeq|apply QSeq.normal|apply QBlk.exit|apply QLoop.exit|apply VWp.ret|apply VOps.nil|apply VOps.one|(apply VOps.take;rfl;rfl)|(apply VOps.guard;rfl;rfl)|(apply VVal.assign;rfl)|(apply VVal.move;rfl)|(apply VVal.int;rfl;rfl;rfl)|(apply VVal.load;rfl;rfl)|(apply VVal.pick_false;rfl;rfl)|(apply VVal.lenF;rfl;rfl)|(apply VVal.fieldB;rfl;rfl;rfl)|(apply VVal.shrN;rfl;rfl;(simp only [IntKind.bits];omega))|(apply VWp.condSeq_dec;rfl)|(intro _;try (exfalso;omega)))
    all_goals first|(exfalso;omega)|contradiction|(refine Done.ret rfl (.refl _) (by first|exact trivial|exact ⟨trivial,trivial,trivial⟩|exact ⟨trivial,trivial,trivial,trivial⟩) HCov.nil (Nat.zero_le _) (Nat.le_refl _) ⟨?_,rfl,rfl⟩;try rfl)
   ·rw [if_pos (.inr h5)]
    repeat' (first|apply VWp.assoc|apply VWp.rseq|apply VWp.retSeq|apply VWp.exitSeq|apply QSeq.normal|apply QBlk.exit|apply QLoop.exit|apply VOps.nil|apply VOps.one|(apply VOps.take;rfl;rfl)|(apply VOps.guard;rfl;rfl)|(apply VVal.assign;rfl)|(apply VVal.move;rfl)|(apply VVal.int;rfl;rfl;rfl)|(apply VVal.load;rfl;rfl)|(apply VVal.pick_false;rfl;rfl)|(apply VVal.lenF;rfl;rfl)|(apply VVal.fieldB;rfl;rfl;rfl)|(apply VVal.shrN;rfl;rfl;(simp only [IntKind.bits];omega))|(apply VWp.condSeq_dec;rfl)|(intro _;try (exfalso;omega)))
    all_goals first|(exfalso;omega)|contradiction|(refine Done.ret rfl (.refl _) (by first|exact trivial|exact ⟨trivial,trivial,trivial⟩|exact ⟨trivial,trivial,trivial,trivial⟩) HCov.nil (Nat.zero_le _) (Nat.le_refl _) ⟨?_,rfl,rfl⟩;try rfl)
  ·rw [if_pos (.inl h4)]
   repeat' (first|apply VWp.assoc|apply VWp.rseq|apply VWp.retSeq|apply VWp.exitSeq|apply QSeq.normal|apply QBlk.exit|apply QLoop.exit|apply VOps.nil|apply VOps.one|(apply VOps.drop;rfl;rfl;rfl)|(apply VOps.guard;rfl;rfl)|(apply VVal.assign;rfl)|(apply VVal.move;rfl)|(apply VVal.int;rfl;rfl;rfl)|(apply VVal.load;rfl;rfl)|(apply VVal.pick_true;rfl;rfl)|(apply VVal.lenF;rfl;rfl)|(apply VVal.fieldB;rfl;rfl;rfl)|(apply VVal.shrN;rfl;rfl;(simp only [IntKind.bits];omega))|(apply VWp.condSeq_true;rfl)|(apply VWp.condSeq_dec;rfl)|(intro _;try (exfalso;omega)))
   all_goals first|(exfalso;omega)|contradiction|(refine Done.ret rfl (.refl _) (by first|exact trivial|exact ⟨trivial,trivial,trivial⟩|exact ⟨trivial,trivial,trivial,trivial⟩) HCov.nil (Nat.zero_le _) (Nat.le_refl _) ⟨?_,rfl,rfl⟩;try rfl)
def wtsL (w:Wts):List Int:=[w.tone,w.pitch,w.pedal,w.miss]
def wtsOk (w:Wts):Prop:=∀ i,i<4→0≤gi (wtsL w) i∧gi (wtsL w) i≤100000
noncomputable def qstE (q:Qst):Int :=
 open Classical in
 if orgE q.frm≠0 then orgE q.frm else if regE q.frm q.reg≠0 then regE q.frm q.reg else if orgE q.tgt≠0 then orgE q.tgt
 else if ¬ wtsOk q.wts then 3 else if (drawnL q.frm q.reg).length>60∨(plcs q.tgt).length>120 then 4 else 0
theorem wts_at (w:Wts) {k:Nat} (h:k<4):[FV.int .i64 w.tone,.int .i64 w.pitch,.int .i64 w.pedal,.int .i64 w.miss][((k:Nat):Int).toNat*1]?=some (.int .i64 (gi (wtsL w) k)):=by
 rw [Int.toNat_natCast]
 match k,h with
 |0,_=>rfl
 |1,_=>rfl
 |2,_=>rfl
 |3,_=>rfl
theorem regE_eq {o:Org} {r:Rgs} (h:regE o r=0):r.stops.length=o.divs.length:=Classical.byContradiction fun h1=>by rw [regE_len h1] at h;cases h
theorem tcheck_spec (q:Qst) (h1:OrgSm q.frm) (h2:OrgSm q.tgt) (hr:q.reg.Ok):VFun env 26 [.agg (Enc.enc q)] (.p (.int .i64 (qstE q))):=by
 have hcF:=ocheck_spec q.frm h1
 unfold qstE
 refine VFun.enter (env_none (by decide)) Tryz.func26 rfl (by kernel_rfl) (by simp [Tryz.ntmps26]) ?_
 by_cases e1:orgE q.frm=0
 case neg =>
  rw [if_pos e1]
  repeat' (first|apply VWp.assoc|apply VWp.rseq|apply VWp.retSeq|apply VOps.nil|apply VOps.one|(apply VVal.fn;rfl;rfl;exact hcF;intro _;rfl)|(apply VVal.assign;rfl)|(apply VVal.move;rfl)|(apply VVal.int;rfl;rfl;rfl)|(apply VVal.load;rfl;rfl)|(apply VVal.fieldB;rfl;rfl;rfl)|(apply VVal.box;rfl;trivial)|(apply VWp.condSeq_dec;rfl)|(intro _;try (exfalso;omega)))
  all_goals first|(exfalso;omega)|contradiction|(refine Done.ret rfl (.refl _) (by first|exact trivial|exact ⟨trivial,trivial,trivial⟩|exact ⟨trivial,trivial,trivial,trivial⟩) HCov.nil (Nat.zero_le _) (Nat.le_refl _) ⟨?_,rfl,rfl⟩;try rfl)
 rw [if_neg (fun h=>h e1)]
 rw [e1] at hcF
 have k1:=orgK h1 e1
 have hcR:=regK_spec q.frm k1 q.reg hr
 by_cases e2:regE q.frm q.reg=0
 case neg =>
  rw [if_pos e2]
  repeat' (first|apply VWp.assoc|apply VWp.rseq|apply VWp.skipSeq|apply VWp.retSeq|apply VOps.nil|apply VOps.one|(apply VVal.fn;rfl;rfl;exact hcF;intro _;rfl)|(apply VVal.fn;rfl;rfl;exact hcR;intro _;rfl)|(apply VVal.assign;rfl)|(apply VVal.move;rfl)|(apply VVal.int;rfl;rfl;rfl)|(apply VVal.load;rfl;rfl)|(apply VVal.fieldB;rfl;rfl;rfl)|(apply VVal.box;rfl;trivial)|(apply VWp.condSeq_false;rfl)|(apply VWp.condSeq_dec;rfl)|(intro _;try (exfalso;omega)))
  all_goals first|(exfalso;omega)|contradiction|(refine Done.ret rfl (.refl _) (by first|exact trivial|exact ⟨trivial,trivial,trivial⟩|exact ⟨trivial,trivial,trivial,trivial⟩) HCov.nil (Nat.zero_le _) (Nat.le_refl _) ⟨?_,rfl,rfl⟩;try rfl)
 rw [if_neg (fun h=>h e2)]
 rw [e2] at hcR
 have hcT:=ocheck_spec q.tgt h2
 by_cases e3:orgE q.tgt=0
 case neg =>
  rw [if_pos e3]
  repeat' (first|apply VWp.assoc|apply VWp.rseq|apply VWp.skipSeq|apply VWp.retSeq|apply VOps.nil|apply VOps.one|(apply VVal.fn;rfl;rfl;exact hcF;intro _;rfl)|(apply VVal.fn;rfl;rfl;exact hcR;intro _;rfl)|(apply VVal.fn;rfl;rfl;exact hcT;intro _;rfl)|(apply VVal.assign;rfl)|(apply VVal.move;rfl)|(apply VVal.int;rfl;rfl;rfl)|(apply VVal.load;rfl;rfl)|(apply VVal.fieldB;rfl;rfl;rfl)|(apply VVal.box;rfl;trivial)|(apply VWp.condSeq_false;rfl)|(apply VWp.condSeq_dec;rfl)|(intro _;try (exfalso;omega)))
  all_goals first|(exfalso;omega)|contradiction|(refine Done.ret rfl (.refl _) (by first|exact trivial|exact ⟨trivial,trivial,trivial⟩|exact ⟨trivial,trivial,trivial,trivial⟩) HCov.nil (Nat.zero_le _) (Nat.le_refl _) ⟨?_,rfl,rfl⟩;try rfl)
 rw [if_neg (fun h=>h e3)]
 rw [e3] at hcT
 have k2:=orgK h2 e3
 have hdr:=tdrawn_spec q.frm k1 q.reg hr (regE_eq e2)
 have hcl:=collect_calls q.tgt k2
 have b1:=plcs_bound k2
 have b2:(drawnL q.frm q.reg).length≤480:=by
  have:=plcs_bound k1
  have:(drawnL q.frm q.reg).length≤(plcs q.frm).length:=List.length_filter_le _ _
  omega
 by_cases e4:wtsOk q.wts
 case neg =>
  rw [if_pos e4]
  repeat' (first|apply VWp.assoc|apply VWp.rseq|apply VWp.skipSeq|apply VWp.blockSeq|apply VOps.nil|apply VOps.one|(apply VVal.fn;rfl;rfl;exact hcF;intro _;rfl)|(apply VVal.fn;rfl;rfl;exact hcR;intro _;rfl)|(apply VVal.fn;rfl;rfl;exact hcT;intro _;rfl)|(apply VVal.buildA;rfl;rfl;rfl;rfl;rfl)|(apply VVal.assign;rfl)|(apply VVal.move;rfl)|(apply VVal.int;rfl;rfl;rfl)|(apply VVal.load;rfl;rfl)|(apply VVal.fieldB;rfl;rfl;rfl)|(apply VVal.box;rfl;trivial)|(apply VWp.condSeq_false;rfl))
  all_goals try (exfalso;omega)
  all_goals try contradiction
  apply VWp.loopRI (4) (fun k=>∀ i,i<k→0≤gi (wtsL q.wts) i∧gi (wtsL q.wts) i≤100000) [(1,_),(40,_)] [(0,_)] (fun k r=>(41,.p (.int .i64 (k:Int)))::r) (fun k r=>r) 1
  ·first|omega|decide
  ·first|omega|decide
  ·repeat (first|exact LCov.nil|(refine LCov.eq rfl ?_ ?_;(first|exact PV.under_of rfl|(simp [PV.under,PVs.under];done)))|refine LCov.cons trivial rfl (.of_eq (lst_len (by simp<;>omega))) ?_)
  ·repeat (first|exact HCov.nil|(refine HCov.eq rfl (lt_dec rfl) ?_ ?_;(first|exact HB.under_of rfl|exact PVs.under_pure _ _|(simp [HB.under,PVs.under,PV.under];done)))|(refine HCov.cons (lt_dec rfl) ?_ rfl ?_ ?_;(first|exact trivial|exact PVs.under_pure _ _|(simp [HB.under,PVs.under,PV.under]));(first|exact HLe.refl _|exact HLe.vec (FLes.refl _) (by simp))))
  ·first|(intro _ _;omega)|omega|trivial
  ·intro k hk hi
   have hw:=wts_at q.wts hk
   by_cases hb:0≤gi (wtsL q.wts) k∧gi (wtsL q.wts) k≤100000
   ·repeat' (first|apply VWp.rseq|apply VWp.region|apply VWp.skipSeq|apply VWp.blockSeq|apply QSeq.normal|apply QBlk.normal|apply VWp.skip|apply VOps.nil|apply VOps.one|(apply VOps.take;rfl;rfl)|(apply VOps.guard;rfl;rfl)|(apply VVal.indexI;rfl;rfl;rfl;rfl;rfl;omega;exact hw)|(apply VVal.assign;rfl)|(apply VVal.move;rfl)|(apply VVal.add64;rfl;rfl;omega)|(apply VVal.int;rfl;rfl;rfl)|(apply VVal.pick_false;rfl;rfl)|(apply VWp.condSeq_dec;rfl)|(apply VWp.cond_dec;rfl)|(intro _;try (exfalso;omega)))
    all_goals try (exfalso;omega)
    refine QLoop.normal ⟨(all_succ hi hb),by first|omega|decide,?_,?_⟩
    ·repeat (first|exact LCov.nil|refine LCov.same trivial rfl ?_|refine LCov.same (lt_dec rfl) rfl ?_|refine LCov.same ⟨trivial,lt_dec rfl,trivial⟩ rfl ?_|refine LCov.same ⟨trivial,lt_dec rfl,lt_dec rfl,trivial⟩ rfl ?_|refine LCov.same ⟨trivial,lt_dec rfl,lt_dec rfl,lt_dec rfl,trivial⟩ rfl ?_|refine LCov.same ⟨trivial,lt_dec rfl,lt_dec rfl,lt_dec rfl,lt_dec rfl,trivial⟩ rfl ?_|refine LCov.same ⟨trivial,trivial⟩ rfl ?_|refine LCov.cons trivial rfl (.of_eq (lst_len (by simp<;>omega))) ?_)
    ·repeat (first|exact HCov.nil|(refine HCov.cons (lt_dec rfl) ?_ rfl ?_ ?_;(first|exact HB.under_of rfl|exact PVs.under_pure _ _|(simp [HB.under,PVs.under,PV.under]));(first|exact HLe.refl _|exact HLe.vec (FLes.refl _) (by simp))))
   ·repeat' (first|apply VWp.rseq|apply VWp.skipSeq|apply VWp.blockSeq|apply QSeq.ret|apply QBlk.ret|apply QLoop.ret|apply VWp.ret|apply VOps.nil|apply VOps.one|(apply VOps.take;rfl;rfl)|(apply VOps.drop;rfl;rfl;rfl)|(apply VOps.guard;rfl;rfl)|(apply VVal.indexI;rfl;rfl;rfl;rfl;rfl;omega;exact hw)|(apply VVal.assign;rfl)|(apply VVal.move;rfl)|(apply VVal.int;rfl;rfl;rfl)|(apply VVal.pick_true;rfl;rfl)|(apply VVal.pick_false;rfl;rfl)|(apply VWp.condSeq_dec;rfl)|(apply VWp.cond_true;rfl)|(apply VWp.cond_dec;rfl)|(intro _;try (exfalso;omega)))
    all_goals first|(exfalso;omega)|contradiction|(refine Done.ret rfl (.refl _) (by first|exact trivial|exact ⟨trivial,trivial,trivial⟩|exact ⟨trivial,trivial,trivial,trivial⟩) HCov.nil (Nat.zero_le _) (Nat.le_refl _) ⟨?_,rfl,rfl⟩;try rfl)
  ·intro hi
   exact absurd hi e4
 rw [if_neg (fun h=>h e4)]
 repeat' (first|apply VWp.assoc|apply VWp.rseq|apply VWp.skipSeq|apply VWp.blockSeq|apply VOps.nil|apply VOps.one|(apply VVal.fn;rfl;rfl;exact hcF;intro _;rfl)|(apply VVal.fn;rfl;rfl;exact hcR;intro _;rfl)|(apply VVal.fn;rfl;rfl;exact hcT;intro _;rfl)|(apply VVal.buildA;rfl;rfl;rfl;rfl;rfl)|(apply VVal.assign;rfl)|(apply VVal.move;rfl)|(apply VVal.int;rfl;rfl;rfl)|(apply VVal.load;rfl;rfl)|(apply VVal.fieldB;rfl;rfl;rfl)|(apply VVal.box;rfl;trivial)|(apply VWp.condSeq_false;rfl))
 all_goals try (exfalso;omega)
 all_goals try contradiction
 apply VWp.loopRI (4) (fun k=>True) [(1,_),(40,_)] [(0,_)] (fun k r=>(41,.p (.int .i64 (k:Int)))::r) (fun k r=>r) 1
 ·first|omega|decide
 ·first|omega|decide
 ·repeat (first|exact LCov.nil|(refine LCov.eq rfl ?_ ?_;(first|exact PV.under_of rfl|(simp [PV.under,PVs.under];done)))|refine LCov.cons trivial rfl (.of_eq (lst_len (by simp<;>omega))) ?_)
 ·repeat (first|exact HCov.nil|(refine HCov.eq rfl (lt_dec rfl) ?_ ?_;(first|exact HB.under_of rfl|exact PVs.under_pure _ _|(simp [HB.under,PVs.under,PV.under];done)))|(refine HCov.cons (lt_dec rfl) ?_ rfl ?_ ?_;(first|exact trivial|exact PVs.under_pure _ _|(simp [HB.under,PVs.under,PV.under]));(first|exact HLe.refl _|exact HLe.vec (FLes.refl _) (by simp))))
 ·first|(intro _ _;omega)|omega|trivial
 ·intro k hk _
  have hw:=wts_at q.wts hk
  have hb:=e4 k hk
  repeat' (first|apply VWp.rseq|apply VWp.region|apply VWp.skipSeq|apply VWp.blockSeq|apply QSeq.normal|apply QBlk.normal|apply VWp.skip|apply VOps.nil|apply VOps.one|(apply VOps.take;rfl;rfl)|(apply VOps.guard;rfl;rfl)|(apply VVal.indexI;rfl;rfl;rfl;rfl;rfl;omega;exact hw)|(apply VVal.assign;rfl)|(apply VVal.move;rfl)|(apply VVal.add64;rfl;rfl;omega)|(apply VVal.int;rfl;rfl;rfl)|(apply VVal.pick_false;rfl;rfl)|(apply VWp.condSeq_dec;rfl)|(apply VWp.cond_dec;rfl)|(intro _;try (exfalso;omega)))
  all_goals try (exfalso;omega)
  refine QLoop.normal ⟨trivial,by first|omega|decide,?_,?_⟩
  ·repeat (first|exact LCov.nil|refine LCov.same trivial rfl ?_|refine LCov.same (lt_dec rfl) rfl ?_|refine LCov.same ⟨trivial,lt_dec rfl,trivial⟩ rfl ?_|refine LCov.same ⟨trivial,lt_dec rfl,lt_dec rfl,trivial⟩ rfl ?_|refine LCov.same ⟨trivial,lt_dec rfl,lt_dec rfl,lt_dec rfl,trivial⟩ rfl ?_|refine LCov.same ⟨trivial,lt_dec rfl,lt_dec rfl,lt_dec rfl,lt_dec rfl,trivial⟩ rfl ?_|refine LCov.same ⟨trivial,trivial⟩ rfl ?_|refine LCov.cons trivial rfl (.of_eq (lst_len (by simp<;>omega))) ?_)
  ·repeat (first|exact HCov.nil|(refine HCov.cons (lt_dec rfl) ?_ rfl ?_ ?_;(first|exact HB.under_of rfl|exact PVs.under_pure _ _|(simp [HB.under,PVs.under,PV.under]));(first|exact HLe.refl _|exact HLe.vec (FLes.refl _) (by simp))))
 ·intro _
  by_cases e5:(drawnL q.frm q.reg).length>60
  ·rw [if_pos (.inl e5)]
   repeat' (first|apply VWp.assoc|apply VWp.rseq|apply VWp.retSeq|apply VWp.exitSeq|apply QSeq.normal|apply QBlk.exit|apply QLoop.exit|apply VOps.nil|apply VOps.one|(apply VOps.drop;rfl;rfl;rfl)|(apply VOps.guard;rfl;rfl)|(apply VVal.fn;rfl;rfl;exact hdr;intro _;rfl)|(apply VVal.assign;rfl)|(apply VVal.move;rfl)|(apply VVal.int;rfl;rfl;rfl)|(apply VVal.load;rfl;rfl)|(apply VVal.pick_true;rfl;rfl)|(apply VVal.lenF;rfl;rfl)|(apply VVal.fieldB;rfl;rfl;rfl)|(apply VWp.condSeq_true;rfl)|(apply VWp.condSeq_false;rfl)|(intro _;try (exfalso;omega)))
   all_goals try (exfalso;omega)
   all_goals try contradiction
   all_goals first|(exfalso;omega)|contradiction|(refine Done.ret rfl (.refl _) (by first|exact trivial|exact ⟨trivial,trivial,trivial⟩|exact ⟨trivial,trivial,trivial,trivial⟩) HCov.nil (Nat.zero_le _) (Nat.le_refl _) ⟨?_,rfl,rfl⟩;try rfl)
  ·by_cases e6:(plcs q.tgt).length>120
   ·rw [if_pos (.inr e6)]
    repeat' (first|apply VWp.assoc|apply VWp.rseq|apply VWp.retSeq|apply VWp.exitSeq|apply QSeq.normal|(apply DoneI.ret;rfl)|apply QBlk.exit|apply QLoop.exit|apply VWp.ret|apply VOps.nil|apply VOps.one|(apply VOps.take;rfl;rfl)|(apply VOps.guard;rfl;rfl)|(apply VVal.fn;rfl;rfl;exact hdr;intro _;rfl)|(apply inl_PLC;rfl;rfl;rfl;exact le_dec rfl)|(apply VVal.callK [1] (hcl);rfl;rfl;exact .of_eq rfl;exact PVs.under_of rfl;exact HUnder_of rfl;(repeat (first|exact trivial|refine ⟨⟨_,rfl,.of_eq rfl⟩,?_⟩));decide;(intro _ hb;first|(simp at hb;done)|(simp at hb ⊢<;>omega));(rintro _ _ _ ⟨rfl,rfl,rfl⟩))|(apply VVal.makeFunc;rfl;rfl)|(apply VVal.assign;rfl)|(apply VVal.move;rfl)|(apply VVal.int;rfl;rfl;rfl)|(apply VVal.load;rfl;rfl)|(apply VVal.pick_false;rfl;rfl)|(apply VVal.lenF;rfl;rfl)|(apply VVal.lenV;rfl;rfl;rfl)|(apply VVal.fieldB;rfl;rfl;rfl)|(apply VVal.box;rfl;trivial)|(apply VWp.condSeq_false;rfl)|(apply VWp.condSeq_dec;rfl)|(intro _;try (exfalso;omega)))
    all_goals try (exfalso;omega)
    all_goals try contradiction
    all_goals first|(exfalso;omega)|contradiction|(refine Done.ret rfl (.refl _) (by first|exact trivial|exact ⟨trivial,trivial,trivial⟩|exact ⟨trivial,trivial,trivial,trivial⟩) HCov.nil (Nat.zero_le _) (Nat.le_refl _) ⟨?_,rfl,rfl⟩;try rfl)
   ·rw [if_neg (by omega)]
    repeat' (first|apply VWp.assoc|apply VWp.rseq|apply VWp.skipSeq|apply VWp.exitSeq|apply QSeq.normal|(apply DoneI.ret;rfl)|apply QBlk.exit|apply QLoop.exit|apply VWp.ret|apply VOps.nil|apply VOps.one|(apply VOps.take;rfl;rfl)|(apply VOps.guard;rfl;rfl)|(apply VVal.fn;rfl;rfl;exact hdr;intro _;rfl)|(apply inl_PLC;rfl;rfl;rfl;exact le_dec rfl)|(apply VVal.callK [1] (hcl);rfl;rfl;exact .of_eq rfl;exact PVs.under_of rfl;exact HUnder_of rfl;(repeat (first|exact trivial|refine ⟨⟨_,rfl,.of_eq rfl⟩,?_⟩));decide;(intro _ hb;first|(simp at hb;done)|(simp at hb ⊢<;>omega));(rintro _ _ _ ⟨rfl,rfl,rfl⟩))|(apply VVal.makeFunc;rfl;rfl)|(apply VVal.assign;rfl)|(apply VVal.move;rfl)|(apply VVal.int;rfl;rfl;rfl)|(apply VVal.load;rfl;rfl)|(apply VVal.pick_false;rfl;rfl)|(apply VVal.lenF;rfl;rfl)|(apply VVal.lenV;rfl;rfl;rfl)|(apply VVal.fieldB;rfl;rfl;rfl)|(apply VVal.box;rfl;trivial)|(apply VWp.condSeq_false;rfl)|(apply VWp.condSeq_dec;rfl)|(intro _;try (exfalso;omega)))
    all_goals try (exfalso;omega)
    all_goals try contradiction
    all_goals first|(exfalso;omega)|contradiction|(refine Done.ret rfl (.refl _) (by first|exact trivial|exact ⟨trivial,trivial,trivial⟩|exact ⟨trivial,trivial,trivial,trivial⟩) HCov.nil (Nat.zero_le _) (Nat.le_refl _) ⟨?_,rfl,rfl⟩;try rfl)
end Go.Proofs.YtdabojnmoejilaaGreatDoor
namespace Go.Proofs.YtdabojnmoejilaaGreatDoor
open Go Go.Am Go.Vm
instance encLI:Enc (List Int):={ default:=[],enc:=fun l=>[.lst 3 (cells l) l.length],size:=1,len:=fun _=>rfl }
attribute [local irreducible] VVal VOps VOpsD VWp VCalls VFun VFunV QSeq QBlk QLoop Vm.Done DoneV DoneI
theorem bmul64_spec (n:Nat) (hn:n<4294967296):VFun env 120 [.int .u64 1,.int .u64 (n:Int)] (.tup [.p (.int .u64 0),.p (.int .u64 (n:Int))]):=by
 have e1:n &&& 4294967295=n:=by
  have:=Nat.and_two_pow_sub_one_eq_mod n 32
  rw [show (2 ^ 32-1:Nat)=4294967295 from rfl] at this
  rw [this]
  exact Nat.mod_eq_of_lt (by simpa using hn)
 have hA1:vint .and .u64 (n:Int) 4294967295=some (.int .u64 (n:Int)):=by
  have h0:=bits_and_u64_nat n 4294967295 (by omega) (by omega)
  rw [e1] at h0
  exact congrArg (fun x=>some (FV.int .u64 x)) h0
 have hA2:vint .mul .u64 1 (n:Int)=some (.int .u64 (n:Int)):=by
  simp only [vint,Int.one_mul];rw [wrap_u64 (by omega) (by omega)]
 have hZ:vint .mul .u64 0 (n:Int)=some (.int .u64 0):=by
  simp only [vint,Int.zero_mul];rfl
 have hS:∀ a:Int,0≤a→a<4294967296→(FV.int .u64 0)=if BinOp.shr=.shl then FV.int .u64 (IntKind.u64.wrap (a*2 ^ (min (32:Int).toNat IntKind.u64.bits))) else .int .u64 (a.fdiv (2 ^ (min (32:Int).toNat IntKind.u64.bits))):=fun a h0 h1=>by
  rw [if_neg (by decide)]
  have e3:(min (32:Int).toNat IntKind.u64.bits)=32:=rfl
  rw [e3,Int.fdiv_eq_ediv_of_nonneg _ (by decide)]
  have:a / 2 ^ 32=0:=by omega
  rw [this]
 have k1:vint .and .u64 1 4294967295=some (.int .u64 1):=rfl
 have k2:vint .and .u64 0 4294967295=some (.int .u64 0):=rfl
 have k3:vint .mul .u64 1 0=some (.int .u64 0):=rfl
 have k4:vint .mul .u64 0 0=some (.int .u64 0):=rfl
 have k5:vint .add .u64 0 0=some (.int .u64 0):=rfl
 refine VFun.enter (env_none (by decide)) Tryz.func120 rfl (by kernel_rfl) (by simp [Tryz.ntmps120]) ?_
 repeat' (first|apply VWp.rseq|apply VWp.ret|apply VOps.nil|apply VOps.one|(apply VVal.shift (r:=.int .u64 0);exact .inr rfl;rfl;rfl;decide;exact hS _ (by omega) (by omega))|(apply VVal.int;rfl;rfl;exact hA1)|(apply VVal.int;rfl;rfl;exact hA2)|(apply VVal.int;rfl;rfl;exact hZ)|(apply VVal.int;rfl;rfl;exact k1)|(apply VVal.int;rfl;rfl;exact k2)|(apply VVal.assign;rfl)|(apply VVal.move;rfl))
 (refine Done.ret rfl (.refl _) (by first|exact trivial|exact ⟨trivial,trivial,trivial⟩|exact ⟨trivial,trivial,trivial,trivial⟩) HCov.nil (Nat.zero_le _) (Nat.le_refl _) ⟨?_,rfl,rfl⟩;try rfl)
theorem bmul_spec (n:Nat) (hn:n<4294967296):VFun env 100 [.int .u64 1,.int .u64 (n:Int)] (.tup [.p (.int .u64 0),.p (.int .u64 (n:Int))]):=by
 have h:=bmul64_spec n hn
 refine VFun.enter (env_none (by decide)) Tryz.func100 rfl (by kernel_rfl) (by simp [Tryz.ntmps100]) ?_
 repeat' (first|apply VWp.rseq|apply VWp.skipSeq|apply VWp.ret|apply VOps.nil|apply VOps.one|(apply VVal.fn;rfl;rfl;exact h;intro _;rfl)|(apply VVal.assign;rfl)|(apply VVal.move;rfl)|(apply VVal.extract;rfl;rfl)|(apply VWp.condSeq_false;rfl))
 (refine Done.ret rfl (.refl _) (by first|exact trivial|exact ⟨trivial,trivial,trivial⟩|exact ⟨trivial,trivial,trivial,trivial⟩) HCov.nil (Nat.zero_le _) (Nat.le_refl _) ⟨?_,rfl,rfl⟩;try rfl)
def repS (n k:Nat) (v:Int):List Int:=List.replicate k v++List.replicate (n-k) 0
theorem repS_len (n k:Nat) (v:Int) (h:k≤n):(repS n k v).length=n:=by simp [repS];omega
theorem repS_all (n:Nat) (v:Int):repS n n v=List.replicate n v:=by simp [repS]
theorem repS_one (n:Nat) (v:Int) (h:0<n):psplice (cells (List.replicate n (0:Int))) 0 [FV.int .i64 v]=cells (repS n 1 v):=by
 have:=psplice_many (List.replicate n (0:Int)) [v] 0 (by simp;omega)
 rw [Nat.zero_mul] at this
 show psplice (cells (List.replicate n (0:Int))) 0 (cells [v])=_
 rw [this]
 congr 1
 simp [repS]
theorem repS_ok (n k:Nat) (v:Int) (h:k≤n):0+k*1≤(cells (repS n k v)).length:=by
 rw [cells_length,repS_len n k v h]
 show 0+k*1≤n*1
 omega
theorem repS_cut (n k:Nat) (v:Int) (h:k≤n):cells (List.replicate (min k (n-k)) v)=((cells (repS n k v)).drop 0).take (min k (n-k)*1):=by
 have:=cells_take (repS n k v) (min k (n-k))
 rw [List.drop_zero]
 refine Eq.trans ?_ this.symm
 congr 1
 unfold repS
 rw [List.take_append_of_le_length (by simp;omega),List.take_replicate]
 congr 1
 omega
theorem repS_xs (n k:Nat) (v:Int):(cells (List.replicate (min k (n-k)) v)).length=min k (n-k)*1:=by
 rw [cells_length,List.length_replicate];rfl
theorem repS_room (n k:Nat) (v:Int) (h:k≤n):0+k*1+min k (n-k)*1≤(cells (repS n k v)).length:=by
 rw [cells_length,repS_len n k v h]
 show _≤n*1
 omega
theorem repS_put (n k:Nat) (v:Int) (h:k≤n):psplice (cells (repS n k v)) (0+k*1) (cells (List.replicate (min k (n-k)) v))=cells (repS n (k+min k (n-k)) v):=by
 have:=psplice_many (repS n k v) (List.replicate (min k (n-k)) v) k (by rw [repS_len n k v h];simp;omega)
 rw [Nat.zero_add]
 refine Eq.trans this ?_
 congr 1
 unfold repS
 rw [List.take_append_of_le_length (by simp),List.take_replicate,Nat.min_self,List.length_replicate,List.drop_append,List.drop_of_length_le (by simp),List.length_replicate,List.nil_append,List.drop_replicate,List.replicate_append_replicate]
 congr 2
 omega
theorem repeat_spec (e:TypeId) (v:Int) (n:Nat) (h0:0<n) (hn:n<1000000):VFunV env 71 [.lst e [.int .i64 v] 1,.int .i64 (n:Int)] 3 (cells (List.replicate n v)) n false:=by
 have hm:=bmul_spec n (by omega)
 refine VFunV.enter (env_none (by decide)) Tryz.func71 rfl (by kernel_rfl) (by simp [Tryz.ntmps71]) ?_
 repeat' (first|apply VWp.assoc|apply VWp.rseq|apply VWp.skipSeq|apply VWp.blockSeq|apply VOps.nil|apply VOps.one|(apply VOps.take;rfl;rfl)|(apply VVal.fn;rfl;rfl;exact hm;intro _;rfl)|(apply VVal.makeSliceL n (0:Int);rfl;rfl;rfl;rfl;rfl;rfl;rfl;omega;decide;decide;rfl)|(apply VVal.copy (k:=1) (N:=1) (xs:=[.int .i64 v]);rfl;rfl;exact h0;rfl;rfl;decide;exact SlT.lst rfl rfl (Nat.le_refl 1) rfl;omega;decide;rfl;(rw [cells_length,List.length_replicate];show 0+1*1≤n*1;omega))|(apply VVal.assign;rfl)|(apply VVal.move;rfl)|(apply VVal.int;rfl;rfl;rfl)|(apply VVal.pick_false;rfl;rfl)|(apply VVal.lenF;rfl;rfl)|(apply VVal.extract;rfl;rfl)|(apply VVal.convI;rfl;rfl;rfl;rfl;omega)|(apply VVal.convU;rfl;rfl;rfl;rfl;omega)|(apply VWp.condSeq_false;rfl)|(apply VWp.condSeq_dec;rfl)|(intro _;try (exfalso;omega)))
 all_goals try (exfalso;omega)
 refine VWp.loopQ (fun k:Nat=>[(7,.vec 0 n 0 n),(8,.p (.int .i64 (k:Int)))]) (fun k=>[(0,.vec 3 (cells (repS n k v)) n false)]) 1 (fun k=>1≤k∧k≤n) (fun k=>n-k) 1 (by omega) ⟨by omega,by omega⟩ ⟨by omega,?_,?_⟩ ?_
 ·repeat (first|exact LCov.nil|refine LCov.same trivial rfl ?_|refine LCov.same (lt_dec rfl) rfl ?_|refine LCov.same ⟨trivial,lt_dec rfl,lt_dec rfl,lt_dec rfl,trivial⟩ rfl ?_|refine LCov.same ⟨trivial,lt_dec rfl,lt_dec rfl,trivial⟩ rfl ?_|refine LCov.same ⟨trivial,trivial⟩ rfl ?_|refine LCov.cons trivial rfl (.of_eq (lst_len (by simp<;>omega))) ?_)
 ·have:=repS_one n v h0
  rw [this]
  repeat (first|exact HCov.nil|(refine HCov.cons (lt_dec rfl) ?_ rfl ?_ ?_;(first|exact HB.under_of rfl|exact PVs.under_pure _ _|(simp [HB.under,PVs.under,PV.under]));(first|exact HLe.refl _|exact HLe.vec (FLes.refl _) (by simp))))
 ·rintro k ⟨k1,k2⟩
  have hl:=repS_len n k v k2
  by_cases hk:k<n
  ·repeat' (first|apply VWp.assoc|apply VWp.rseq|apply VWp.regionD|apply VWp.skipSeq|apply QBlk.normal|apply VWp.blockQ|apply VOps.nil|apply VOpsD.nil|apply VOps.one|(apply VOpsD.bar;decide +kernel)|apply VOpsD.quiet|(apply VVal.sliceV (sz:=1) (a:=k) (c:=n);rfl;rfl;exact h0;rfl;rfl;rfl;exact ⟨_,rfl⟩;rfl;omega;exact Nat.le_refl _)|(apply VVal.sliceV (sz:=1) (a:=0) (c:=k);rfl;rfl;exact h0;rfl;rfl;rfl;rfl;exact ⟨_,rfl⟩;omega;exact k2)|(apply VVal.copy (k:=min k (n-k)) (N:=k) (xs:=cells (List.replicate (min k (n-k)) v));rfl;rfl;exact h0;rfl;rfl;decide;exact SlT.vec rfl rfl h0 (repS_ok n k v k2) (by omega) (repS_cut n k v k2);rfl;omega;exact repS_xs n k v;exact repS_room n k v k2)|(apply VVal.assign;rfl)|(apply VVal.move;rfl)|(apply VVal.add64;rfl;rfl;omega)|(apply VVal.int;rfl;rfl;rfl)|(apply VVal.lenV;rfl;rfl;rfl)|(apply VWp.condSeq_dec;rfl)|(intro _;try (exfalso;omega)))
   refine QLoop.normal ⟨k+min k (n-k),⟨by omega,by omega⟩,by omega,⟨by omega,?_,?_⟩⟩
   ·repeat (first|exact LCov.nil|refine LCov.same trivial rfl ?_|refine LCov.same (lt_dec rfl) rfl ?_|refine LCov.same ⟨trivial,lt_dec rfl,lt_dec rfl,lt_dec rfl,trivial⟩ rfl ?_|refine LCov.same ⟨trivial,lt_dec rfl,lt_dec rfl,trivial⟩ rfl ?_|refine LCov.same ⟨trivial,trivial⟩ rfl ?_|refine LCov.cons trivial rfl (.of_eq (lst_len (by simp<;>omega))) ?_)
   ·rw [repS_put n k v k2]
    repeat (first|exact HCov.nil|(refine HCov.cons (lt_dec rfl) ?_ rfl ?_ ?_;(first|exact HB.under_of rfl|exact PVs.under_pure _ _|(simp [HB.under,PVs.under,PV.under]));(first|exact HLe.refl _|exact HLe.vec (FLes.refl _) (by simp))))
  ·obtain rfl:k=n:=by omega
   repeat' (first|apply VWp.assoc|apply VWp.rseq|apply VWp.exitSeq|apply QSeq.normal|apply QBlk.exit|apply QLoop.exit|apply VWp.ret|apply VOps.nil|apply VOps.one|(apply VVal.assign;rfl)|(apply VVal.move;rfl)|(apply VVal.int;rfl;rfl;rfl)|(apply VVal.lenV;rfl;rfl;rfl)|(apply VWp.condSeq_dec;rfl)|(intro _;try (exfalso;omega)))
   rw [repS_all]
   exact DoneV.ret rfl rfl rfl rfl
end Go.Proofs.YtdabojnmoejilaaGreatDoor
namespace Go.Proofs.YtdabojnmoejilaaGreatDoor
open Go Go.Am Go.Vm Go.Tra
attribute [local irreducible] VVal VOps VOpsD VWp VCalls VFun VFunV QSeq QBlk QLoop Vm.Done DoneV DoneI
attribute [local irreducible] rchk windsE stoE dvsE cplE shiftR
def shf (F T:Org) (a b:Plc):Int:=(shiftR (stopAt T b).feet (stopAt F a).feet).1
def ShB (F T:Org):Prop:=∀ a b,PlcOk F a→PlcOk T b→(shiftR (stopAt T b).feet (stopAt F a).feet).2=0∧-1000≤shf F T a b∧shf F T a b≤1000
def lossV (F T:Org) (w:Wts) (a b:Plc):Int :=
 (if toneP F a=toneP T b then 0 else w.tone)+w.pitch*max (shf F T a b) (-shf F T a b)+(if (gi F.divs a.d).pedal=(gi T.divs b.d).pedal then 0 else w.pedal)
theorem wts_tone {w:Wts} (h:wtsOk w):(0≤w.tone∧w.tone≤100000)∧(0≤w.pitch∧w.pitch≤100000)∧(0≤w.pedal∧w.pedal≤100000)∧(0≤w.miss∧w.miss≤100000):=⟨h 0 (by omega),h 1 (by omega),h 2 (by omega),h 3 (by omega)⟩
theorem pitch_bound {w:Wts} (h:wtsOk w) {n:Int} (h1:-1000≤n) (h2:n≤1000):0≤w.pitch*max n (-n)∧w.pitch*max n (-n)≤100000000:=by
 obtain ⟨_,⟨p1,p2⟩,_,_⟩:=wts_tone h
 have m1:0≤max n (-n):=by omega
 have m2:max n (-n)≤1000:=by omega
 refine ⟨Int.mul_nonneg p1 m1,?_⟩
 have:=Int.mul_le_mul p2 m2 m1 (by omega)
 omega
theorem loss_bound {F T:Org} {w:Wts} (h:wtsOk w) (hs:ShB F T) {a b:Plc} (ha:PlcOk F a) (hb:PlcOk T b):0≤lossV F T w a b∧lossV F T w a b≤101000000:=by
 obtain ⟨t,_,p,_⟩:=wts_tone h
 obtain ⟨_,s1,s2⟩:=hs a b ha hb
 have:=pitch_bound h s1 s2
 unfold lossV
 generalize w.pitch*max (shf F T a b) (-shf F T a b)=P at *
 split<;>split<;>omega
theorem tloss_spec (q:Qst) (k1:OrgK q.frm) (k2:OrgK q.tgt) (hw:wtsOk q.wts) (hs:ShB q.frm q.tgt) (a b:Plc) (ha:PlcOk q.frm a) (hb:PlcOk q.tgt b) :
 VFun env 66 [.agg (Enc.enc q),.agg (Enc.enc a),.agg (Enc.enc b)] (.tup [.p (.int .i64 (lossV q.frm q.tgt q.wts a b)),.p (.int .i64 0)]):=by
 obtain ⟨t,_,p,_⟩:=wts_tone hw
 obtain ⟨s0,s1,s2⟩:=hs a b ha hb
 have hP:=pitch_bound hw s1 s2
 have h1:=ttone_spec q.frm k1 a ha
 have h2:=ttone_spec q.tgt k2 b hb
 have h3:=tstop_spec q.frm k1 a ha
 have h4:=tstop_spec q.tgt k2 b hb
 have h5:=pShift_spec (stopAt q.tgt b).feet (stopAt q.frm a).feet
 rw [s0,show (shiftR (stopAt q.tgt b).feet (stopAt q.frm a).feet).1=shf q.frm q.tgt a b from rfl] at h5
 unfold lossV
 generalize shf q.frm q.tgt a b=n at *
 generalize hPP:q.wts.pitch*max n (-n)=P at *
 have hmul:-9223372036854775808≤q.wts.pitch*max n (-n)∧q.wts.pitch*max n (-n)<9223372036854775808:=by rw [hPP];omega
 obtain ⟨a1,a2⟩:=ha
 obtain ⟨b1,b2⟩:=hb
 refine VFun.enter (env_none (by decide)) Tryz.func66 rfl (by kernel_rfl) (by simp [Tryz.ntmps66]) ?_
 by_cases e1:toneP q.frm a=toneP q.tgt b
 ·rw [if_pos e1]
  have d1:=decide_eq_true e1
  by_cases e2:(gi q.frm.divs a.d).pedal=(gi q.tgt.divs b.d).pedal
  ·rw [if_pos e2]
   have d2:((gi q.frm.divs a.d).pedal != (gi q.tgt.divs b.d).pedal)=false:=by rw [e2];simp
   repeat' (first|apply VWp.assoc|apply VWp.rseq|apply VWp.rseqD|apply VWp.skipSeq|apply VWp.ret|apply VOps.nil|apply VOpsD.nil|apply VOps.one|(apply VOpsD.bar;decide +kernel)|apply VOpsD.quiet|(apply VVal.fn;rfl;rfl;exact h1;intro _;rfl)|(apply VVal.fn;rfl;rfl;exact h2;intro _;rfl)|(apply VVal.fn;rfl;rfl;exact h3;intro _;rfl)|(apply VVal.fn;rfl;rfl;exact h4;intro _;rfl)|(apply VVal.fn;rfl;rfl;exact h5;intro _;rfl)|(apply VVal.fieldA;rfl;rfl;rfl;rfl)|(apply VVal.neSd;rfl;rfl;exact d1)|(apply VVal.neBd;rfl;rfl;rfl;exact d2)|(apply VVal.mul64;rfl;rfl;exact hmul)|(apply VVal.indexN (l:=q.frm.divs) (i:=a.d);rfl;rfl;rfl;exact a1;rfl)|(apply VVal.indexN (l:=q.tgt.divs) (i:=b.d);rfl;rfl;rfl;exact b1;rfl)|(apply VVal.assign;rfl)|(apply VVal.move;rfl)|(apply VVal.add64;rfl;rfl;omega)|(apply VVal.int;rfl;rfl;rfl)|(apply VVal.load;rfl;rfl)|(apply VVal.fieldB;rfl;rfl;rfl)|(apply VVal.fieldF;rfl;rfl)|(apply VVal.box;rfl;trivial)|(apply VVal.neg;rfl;omega)|(apply VVal.maxI;rfl;rfl)|(apply VVal.extract;rfl;rfl)|(apply VWp.condSeq_false;rfl))
   all_goals try (exfalso;omega)
   all_goals (refine Done.ret rfl (.refl _) (by first|exact trivial|exact ⟨trivial,trivial,trivial⟩|exact ⟨trivial,trivial,trivial,trivial⟩) HCov.nil (Nat.zero_le _) (Nat.le_refl _) ⟨?_,rfl,rfl⟩;refine congrArg (fun x=>PV.tup [PV.p (FV.int .i64 x),PV.p (FV.int .i64 0)]) ?_;omega)
  ·rw [if_neg e2]
   have d2:((gi q.frm.divs a.d).pedal != (gi q.tgt.divs b.d).pedal)=true:=by simp [e2]
   repeat' (first|apply VWp.assoc|apply VWp.rseq|apply VWp.rseqD|apply VWp.skipSeq|apply VWp.ret|apply VOps.nil|apply VOpsD.nil|apply VOps.one|(apply VOpsD.bar;decide +kernel)|apply VOpsD.quiet|(apply VVal.fn;rfl;rfl;exact h1;intro _;rfl)|(apply VVal.fn;rfl;rfl;exact h2;intro _;rfl)|(apply VVal.fn;rfl;rfl;exact h3;intro _;rfl)|(apply VVal.fn;rfl;rfl;exact h4;intro _;rfl)|(apply VVal.fn;rfl;rfl;exact h5;intro _;rfl)|(apply VVal.fieldA;rfl;rfl;rfl;rfl)|(apply VVal.neSd;rfl;rfl;exact d1)|(apply VVal.neBd;rfl;rfl;rfl;exact d2)|(apply VVal.mul64;rfl;rfl;exact hmul)|(apply VVal.indexN (l:=q.frm.divs) (i:=a.d);rfl;rfl;rfl;exact a1;rfl)|(apply VVal.indexN (l:=q.tgt.divs) (i:=b.d);rfl;rfl;rfl;exact b1;rfl)|(apply VVal.assign;rfl)|(apply VVal.move;rfl)|(apply VVal.add64;rfl;rfl;omega)|(apply VVal.int;rfl;rfl;rfl)|(apply VVal.load;rfl;rfl)|(apply VVal.fieldB;rfl;rfl;rfl)|(apply VVal.fieldF;rfl;rfl)|(apply VVal.box;rfl;trivial)|(apply VVal.neg;rfl;omega)|(apply VVal.maxI;rfl;rfl)|(apply VVal.extract;rfl;rfl)|(apply VWp.condSeq_true;rfl)|(apply VWp.condSeq_false;rfl))
   all_goals try (exfalso;omega)
   all_goals (refine Done.ret rfl (.refl _) (by first|exact trivial|exact ⟨trivial,trivial,trivial⟩|exact ⟨trivial,trivial,trivial,trivial⟩) HCov.nil (Nat.zero_le _) (Nat.le_refl _) ⟨?_,rfl,rfl⟩;refine congrArg (fun x=>PV.tup [PV.p (FV.int .i64 x),PV.p (FV.int .i64 0)]) ?_;omega)
 ·rw [if_neg e1]
  have d1:=decide_eq_false e1
  by_cases e2:(gi q.frm.divs a.d).pedal=(gi q.tgt.divs b.d).pedal
  ·rw [if_pos e2]
   have d2:((gi q.frm.divs a.d).pedal != (gi q.tgt.divs b.d).pedal)=false:=by rw [e2];simp
   repeat' (first|apply VWp.assoc|apply VWp.rseq|apply VWp.rseqD|apply VWp.skipSeq|apply VWp.ret|apply VOps.nil|apply VOpsD.nil|apply VOps.one|(apply VOpsD.bar;decide +kernel)|apply VOpsD.quiet|(apply VVal.fn;rfl;rfl;exact h1;intro _;rfl)|(apply VVal.fn;rfl;rfl;exact h2;intro _;rfl)|(apply VVal.fn;rfl;rfl;exact h3;intro _;rfl)|(apply VVal.fn;rfl;rfl;exact h4;intro _;rfl)|(apply VVal.fn;rfl;rfl;exact h5;intro _;rfl)|(apply VVal.fieldA;rfl;rfl;rfl;rfl)|(apply VVal.neSd;rfl;rfl;exact d1)|(apply VVal.neBd;rfl;rfl;rfl;exact d2)|(apply VVal.mul64;rfl;rfl;exact hmul)|(apply VVal.indexN (l:=q.frm.divs) (i:=a.d);rfl;rfl;rfl;exact a1;rfl)|(apply VVal.indexN (l:=q.tgt.divs) (i:=b.d);rfl;rfl;rfl;exact b1;rfl)|(apply VVal.assign;rfl)|(apply VVal.move;rfl)|(apply VVal.add64;rfl;rfl;omega)|(apply VVal.int;rfl;rfl;rfl)|(apply VVal.load;rfl;rfl)|(apply VVal.fieldB;rfl;rfl;rfl)|(apply VVal.fieldF;rfl;rfl)|(apply VVal.box;rfl;trivial)|(apply VVal.neg;rfl;omega)|(apply VVal.maxI;rfl;rfl)|(apply VVal.extract;rfl;rfl)|(apply VWp.condSeq_true;rfl)|(apply VWp.condSeq_false;rfl))
   all_goals try (exfalso;omega)
   all_goals (refine Done.ret rfl (.refl _) (by first|exact trivial|exact ⟨trivial,trivial,trivial⟩|exact ⟨trivial,trivial,trivial,trivial⟩) HCov.nil (Nat.zero_le _) (Nat.le_refl _) ⟨?_,rfl,rfl⟩;refine congrArg (fun x=>PV.tup [PV.p (FV.int .i64 x),PV.p (FV.int .i64 0)]) ?_;omega)
  ·rw [if_neg e2]
   have d2:((gi q.frm.divs a.d).pedal != (gi q.tgt.divs b.d).pedal)=true:=by simp [e2]
   repeat' (first|apply VWp.assoc|apply VWp.rseq|apply VWp.rseqD|apply VWp.skipSeq|apply VWp.ret|apply VOps.nil|apply VOpsD.nil|apply VOps.one|(apply VOpsD.bar;decide +kernel)|apply VOpsD.quiet|(apply VVal.fn;rfl;rfl;exact h1;intro _;rfl)|(apply VVal.fn;rfl;rfl;exact h2;intro _;rfl)|(apply VVal.fn;rfl;rfl;exact h3;intro _;rfl)|(apply VVal.fn;rfl;rfl;exact h4;intro _;rfl)|(apply VVal.fn;rfl;rfl;exact h5;intro _;rfl)|(apply VVal.fieldA;rfl;rfl;rfl;rfl)|(apply VVal.neSd;rfl;rfl;exact d1)|(apply VVal.neBd;rfl;rfl;rfl;exact d2)|(apply VVal.mul64;rfl;rfl;exact hmul)|(apply VVal.indexN (l:=q.frm.divs) (i:=a.d);rfl;rfl;rfl;exact a1;rfl)|(apply VVal.indexN (l:=q.tgt.divs) (i:=b.d);rfl;rfl;rfl;exact b1;rfl)|(apply VVal.assign;rfl)|(apply VVal.move;rfl)|(apply VVal.add64;rfl;rfl;omega)|(apply VVal.int;rfl;rfl;rfl)|(apply VVal.load;rfl;rfl)|(apply VVal.fieldB;rfl;rfl;rfl)|(apply VVal.fieldF;rfl;rfl)|(apply VVal.box;rfl;trivial)|(apply VVal.neg;rfl;omega)|(apply VVal.maxI;rfl;rfl)|(apply VVal.extract;rfl;rfl)|(apply VWp.condSeq_true;rfl)|(apply VWp.condSeq_false;rfl))
   all_goals try (exfalso;omega)
   all_goals (refine Done.ret rfl (.refl _) (by first|exact trivial|exact ⟨trivial,trivial,trivial⟩|exact ⟨trivial,trivial,trivial,trivial⟩) HCov.nil (Nat.zero_le _) (Nat.le_refl _) ⟨?_,rfl,rfl⟩;refine congrArg (fun x=>PV.tup [PV.p (FV.int .i64 x),PV.p (FV.int .i64 0)]) ?_;omega)
def rowL (F T:Org) (w:Wts) (a:Plc) (k:Nat):List Int:=((plcs T).take k).map (lossV F T w a)
theorem rowL_len (F T:Org) (w:Wts) (a:Plc) {k:Nat} (h:k≤(plcs T).length):(rowL F T w a k).length=k:=by unfold rowL;rw [List.length_map,List.length_take];omega
theorem rowL_succ (F T:Org) (w:Wts) (a:Plc) {k:Nat} (h:k<(plcs T).length):rowL F T w a (k+1)=rowL F T w a k++[lossV F T w a (gi (plcs T) k)]:=by unfold rowL;rw [take_succ_gi h,List.map_append];rfl
def lossK (F T:Org) (r:Rgs) (w:Wts) (k:Nat):List (List Int):=((drawnL F r).take k).map fun a=>rowL F T w a (plcs T).length
def lossL (F T:Org) (r:Rgs) (w:Wts):List (List Int):=(drawnL F r).map fun a=>(plcs T).map (lossV F T w a)
theorem lossK_len (F T:Org) (r:Rgs) (w:Wts) {k:Nat} (h:k≤(drawnL F r).length):(lossK F T r w k).length=k:=by unfold lossK;rw [List.length_map,List.length_take];omega
theorem lossK_succ (F T:Org) (r:Rgs) (w:Wts) {k:Nat} (h:k<(drawnL F r).length):lossK F T r w (k+1)=lossK F T r w k++[rowL F T w (gi (drawnL F r) k) (plcs T).length]:=by unfold lossK;rw [take_succ_gi h,List.map_append];rfl
theorem lossK_all (F T:Org) (r:Rgs) (w:Wts):lossK F T r w (drawnL F r).length=lossL F T r w:=by
 unfold lossK lossL rowL
 rw [List.take_of_length_le (Nat.le_refl _),List.take_of_length_le (Nat.le_refl _)]
theorem tlosses0_spec (q:Qst) (k1:OrgK q.frm) (k2:OrgK q.tgt) (hw:wtsOk q.wts) (hs:ShB q.frm q.tgt) (hr:q.reg.Ok) (hl:q.reg.stops.length=q.frm.divs.length) :
 VFun env 43 [.agg (Enc.enc q)] (.tup [.p (.lst 52 (cells (lossL q.frm q.tgt q.reg q.wts)) (lossL q.frm q.tgt q.reg q.wts).length),.p (.int .i64 0)]):=by
 have hdr:=tdrawn_spec q.frm k1 q.reg hr hl
 have b1:=plcs_bound k2
 have b2:(drawnL q.frm q.reg).length≤480:=by
  have:=plcs_bound k1
  have:(drawnL q.frm q.reg).length≤(plcs q.frm).length:=List.length_filter_le _ _
  omega
 refine VFun.enter (env_none (by decide)) Tryz.func43 rfl (by kernel_rfl) (by simp [Tryz.ntmps43]) ?_
 repeat' (first|apply VWp.assoc|apply VWp.rseq|apply VWp.blockSeq|apply VOps.nil|apply VOps.one|(apply VVal.fn;rfl;rfl;exact hdr;intro _;rfl)|(apply VVal.assign;rfl)|(apply VVal.move;rfl)|(apply VVal.load;rfl;rfl)|(apply VVal.lenF;rfl;rfl)|(apply VVal.fieldB;rfl;rfl;rfl)|(apply VVal.box;rfl;trivial)|(apply VVal.alloc;rfl))
 all_goals try (exfalso;omega)
 refine VWp.ghost (Ghost.adopt 4 52 rfl) ?_
 apply VWp.loopR ((drawnL q.frm q.reg).length) [(1,_),(2,_),(3,_),(15,_),(16,_)] [(0,_),(1,_),(2,_)] (fun k r=>(4,.vec 3 (lossK q.frm q.tgt q.reg q.wts k).length 0 (lossK q.frm q.tgt q.reg q.wts k).length)::(17,.p (.int .i64 (k:Int)))::r) (fun k r=>(3,.vec 52 (cells (lossK q.frm q.tgt q.reg q.wts k)) (lossK q.frm q.tgt q.reg q.wts k).length true)::r) 4
 ·first|omega|decide
 ·first|omega|decide
 ·repeat (first|exact LCov.nil|(refine LCov.eq rfl ?_ ?_;(first|exact PV.under_of rfl|(simp [PV.under,PVs.under];done)))|refine LCov.cons trivial rfl (.of_eq (lst_len (by simp<;>omega))) ?_)
 ·repeat (first|exact HCov.nil|(refine HCov.eq rfl (lt_dec rfl) ?_ ?_;(first|exact HB.under_of rfl|exact PVs.under_pure _ _|(simp [HB.under,PVs.under,PV.under];done)))|(refine HCov.cons (lt_dec rfl) ?_ rfl ?_ ?_;(first|exact trivial|exact PVs.under_pure _ _|(simp [HB.under,PVs.under,PV.under]));(first|exact HLe.refl _|exact HLe.vec (FLes.refl _) (by simp))))
 ·intro k hk
  have ha:PlcOk q.frm (gi (drawnL q.frm q.reg) k):=drawnL_ok (gi_mem hk)
  have e1:=lossK_succ q.frm q.tgt q.reg q.wts hk
  have e2:(lossK q.frm q.tgt q.reg q.wts (k+1)).length=(lossK q.frm q.tgt q.reg q.wts k).length+1:=by rw [e1];simp
  have e3:=lossK_len q.frm q.tgt q.reg q.wts (Nat.le_of_lt hk)
  repeat' (first|apply VWp.assoc|apply VWp.rseq|apply VWp.skipSeq|apply VWp.blockSeq|(apply DoneI.ret;rfl)|apply VWp.ret|apply VOps.nil|apply VOps.one|(apply inl_PLC;rfl;rfl;rfl;exact le_dec rfl)|(apply VVal.makeFunc;rfl;rfl)|(apply VVal.assign;rfl)|(apply VVal.int;rfl;rfl;rfl)|(apply VVal.indexN;rfl;rfl;rfl;omega;rfl)|(apply VVal.load;rfl;rfl)|(apply VVal.fieldB;rfl;rfl;rfl)|(apply VVal.box;rfl;trivial)|(apply VVal.alloc;rfl)|(apply VVal.storeB;rfl;rfl;rfl;trivial;rfl;rfl;exact lt_dec rfl;exact le_dec rfl)|(apply VVal.buildSlice;rfl;rfl;rfl;decide;rfl;rfl;rfl)|(apply VWp.condSeq_dec;rfl)|(intro _;try (exfalso;omega)))
  all_goals try (exfalso;omega)
  refine VWp.rangeFuncB (plcs q.tgt).length (fun j=>[.agg (Enc.enc (gi (plcs q.tgt) j))]) (fun j=>plcRow (gi (plcs q.tgt) j)) [(1,.ref 0 0),(2,.ref 1 0),(3,.ref 2 0),(4,.vec 3 (lossK q.frm q.tgt q.reg q.wts k).length 0 (lossK q.frm q.tgt q.reg q.wts k).length),(6,.ref 4 0),(7,.ref 6 0),(15,.p (.lst 85 (cells (drawnL q.frm q.reg)) (drawnL q.frm q.reg).length)),(16,.p (.int .i64 ((drawnL q.frm q.reg).length:Int))),(17,.p (.int .i64 (k:Int)))]
   (fun j=>[(6,.box 52 [.vec 5 (rowL q.frm q.tgt q.wts (gi (drawnL q.frm q.reg) k) j).length 0 (rowL q.frm q.tgt q.wts (gi (drawnL q.frm q.reg) k) j).length]),(5,.vec 3 (cells (rowL q.frm q.tgt q.wts (gi (drawnL q.frm q.reg) k) j)) (rowL q.frm q.tgt q.wts (gi (drawnL q.frm q.reg) k) j).length false),(4,.box 85 ((Enc.enc (gi (drawnL q.frm q.reg) k)).map .p)),
    (3,.vec 52 (cells (lossK q.frm q.tgt q.reg q.wts k)) (lossK q.frm q.tgt q.reg q.wts k).length true),(0,.box 45 ((Enc.enc q).map .p)),(1,.box 47 [.p (.val (.slice none 0 0))]),(2,.box 48 [.p (.int .i64 0)])]) 7 (fun _=>True)
   rfl rfl Tryz.func81 rfl places_at (plcs_rows q.tgt) (fun _ _=>rfl) (fun _ _=>rfl) (fun k _ m F=>.cons (.agg (.cons (.int _ _) (.cons (.int _ _) .nil)) rfl) .nil) (by omega) ⟨by omega,?_,?_⟩ ?_ (ask_places k2) trivial ?_ ?_
  ·repeat (first|exact LCov.nil|refine LCov.same trivial rfl ?_|refine LCov.same (lt_dec rfl) rfl ?_|refine LCov.same ⟨trivial,lt_dec rfl,trivial⟩ rfl ?_|refine LCov.same ⟨trivial,lt_dec rfl,lt_dec rfl,trivial⟩ rfl ?_|refine LCov.same ⟨trivial,lt_dec rfl,lt_dec rfl,lt_dec rfl,trivial⟩ rfl ?_|refine LCov.same ⟨trivial,lt_dec rfl,lt_dec rfl,lt_dec rfl,lt_dec rfl,trivial⟩ rfl ?_|refine LCov.same ⟨trivial,trivial⟩ rfl ?_|refine LCov.cons trivial rfl (.of_eq (lst_len (by simp<;>omega))) ?_)
  ·repeat (first|exact HCov.nil|(refine HCov.cons (lt_dec rfl) ?_ rfl ?_ ?_;(first|exact HB.under_of rfl|exact PVs.under_pure _ _|(simp [HB.under,PVs.under,PV.under]));(first|exact HLe.refl _|exact HLe.vec (FLes.refl _) (by simp))))
  ·repeat (first|exact LCov.nil|refine LCov.same trivial rfl ?_|refine LCov.same (lt_dec rfl) rfl ?_|refine LCov.same ⟨trivial,lt_dec rfl,trivial⟩ rfl ?_|refine LCov.same ⟨trivial,lt_dec rfl,lt_dec rfl,trivial⟩ rfl ?_|refine LCov.same ⟨trivial,lt_dec rfl,lt_dec rfl,lt_dec rfl,trivial⟩ rfl ?_|refine LCov.same ⟨trivial,lt_dec rfl,lt_dec rfl,lt_dec rfl,lt_dec rfl,trivial⟩ rfl ?_|refine LCov.same ⟨trivial,trivial⟩ rfl ?_|refine LCov.cons trivial rfl (.of_eq (lst_len (by simp<;>omega))) ?_)
  ·intro j hj _
   have hb:PlcOk q.tgt (gi (plcs q.tgt) j):=plcs_gi hj
   have hlo:=tloss_spec q k1 k2 hw hs _ _ ha hb
   have f1:=rowL_succ q.frm q.tgt q.wts (gi (drawnL q.frm q.reg) k) hj
   have f2:(rowL q.frm q.tgt q.wts (gi (drawnL q.frm q.reg) k) (j+1)).length=(rowL q.frm q.tgt q.wts (gi (drawnL q.frm q.reg) k) j).length+1:=by rw [f1];simp
   have f3:=rowL_len q.frm q.tgt q.wts (gi (drawnL q.frm q.reg) k) (Nat.le_of_lt hj)
   repeat' (first|apply VWp.region|apply VOps.nil|apply VOps.one|(apply VVal.alloc;rfl)|(apply VVal.storeB;rfl;rfl;rfl;trivial;rfl;rfl;exact lt_dec rfl;exact le_dec rfl))
   refine ⟨rfl,?_⟩
   repeat' (first|apply VWp.assoc|apply VWp.rseq|apply VWp.region|apply VWp.skipSeq|apply QBlk.normal|apply VWp.blockQ|apply VOps.nil|apply VOps.one|(apply VVal.fn;rfl;rfl;exact hlo;intro _;rfl)|(apply VVal.append1 (a:=lossV q.frm q.tgt q.wts (gi (drawnL q.frm q.reg) k) (gi (plcs q.tgt) j));rfl;rfl;rfl;rfl;rfl;rfl;rfl;rfl;(intro _ h;cases h);rfl;rfl;rfl;decide;decide;(first|omega|(simp only [List.length_take,List.length_drop,List.length_append,List.length_singleton,List.length_cons,List.length_nil]<;>omega)))|(apply VVal.assign;rfl)|(apply VVal.move;rfl)|(apply VVal.int;rfl;rfl;rfl)|(apply VVal.load;rfl;rfl)|(apply VVal.storeB;rfl;rfl;rfl;trivial;rfl;rfl;exact lt_dec rfl;exact le_dec rfl)|(apply VVal.buildSlice;rfl;rfl;rfl;decide;rfl;rfl;rfl)|(apply VVal.extract;rfl;rfl)|(apply VWp.condSeq_false;rfl))
   all_goals try (exfalso;omega)
   refine ⟨trivial,by omega,?_⟩
   rw [f2,f1]
   repeat (first|exact HCov.nil|(refine HCov.cons (lt_dec rfl) ?_ rfl ?_ ?_;(first|exact HB.under_of rfl|exact PVs.under_pure _ _|(simp [HB.under,PVs.under,PV.under]));(first|exact HLe.refl _|exact HLe.vec (FLes.refl _) (by simp))))
  ·intro _
   have f3:=rowL_len q.frm q.tgt q.wts (gi (drawnL q.frm q.reg) k) (Nat.le_refl (plcs q.tgt).length)
   repeat' (first|(refine VWp.atEnd 12 ?_;refine VWp.ghost (Ghost.freezeCell 6 0 rfl rfl rfl) ?_;first|apply VWp.region|apply VWp.regionD)|apply VWp.region|apply QSeq.normal|apply QBlk.normal|apply VOps.nil|apply VOps.one|(apply VVal.append1 (a:=rowL q.frm q.tgt q.wts (gi (drawnL q.frm q.reg) k) (plcs q.tgt).length);rfl;rfl;rfl;rfl;rfl;rfl;rfl;rfl;(intro _ h;cases h);rfl;rfl;rfl;decide;decide;(first|omega|(simp only [List.length_take,List.length_drop,List.length_append,List.length_singleton,List.length_cons,List.length_nil]<;>omega)))|(apply VVal.assign;rfl)|(apply VVal.move;rfl)|(apply VVal.add64;rfl;rfl;omega)|(apply VVal.load;rfl;rfl)|(apply VVal.buildSlice;rfl;rfl;rfl;decide;rfl;rfl;rfl))
   all_goals try (exfalso;omega)
   refine QLoop.normal ⟨by omega,?_,?_⟩
   ·rw [e2]
    repeat (first|exact LCov.nil|refine LCov.same trivial rfl ?_|refine LCov.same (lt_dec rfl) rfl ?_|refine LCov.same ⟨trivial,lt_dec rfl,trivial⟩ rfl ?_|refine LCov.same ⟨trivial,lt_dec rfl,lt_dec rfl,trivial⟩ rfl ?_|refine LCov.same ⟨trivial,lt_dec rfl,lt_dec rfl,lt_dec rfl,trivial⟩ rfl ?_|refine LCov.same ⟨trivial,lt_dec rfl,lt_dec rfl,lt_dec rfl,lt_dec rfl,trivial⟩ rfl ?_|refine LCov.same ⟨trivial,trivial⟩ rfl ?_|refine LCov.cons trivial rfl (.of_eq (lst_len (by simp<;>omega))) ?_)
   ·rw [e2,e1]
    repeat (first|exact HCov.nil|(refine HCov.cons (lt_dec rfl) ?_ rfl ?_ ?_;(first|exact HB.under_of rfl|exact PVs.under_pure _ _|(simp [HB.under,PVs.under,PV.under]));(first|exact HLe.refl _|exact HLe.vec (FLes.refl _) (by simp))))
 ·rw [lossK_all]
  repeat' (first|(refine VOps.atOp 45 ?_;refine VOps.ghost (Ghost.freeze 4 rfl rfl) ?_)|apply VWp.rseq|apply VWp.exitSeq|apply QSeq.normal|apply QBlk.exit|apply QLoop.exit|apply VWp.ret|apply VOps.nil|apply VOps.one|(apply VVal.move;rfl)|(apply VVal.int;rfl;rfl;rfl)|(apply VVal.storeB;rfl;rfl;rfl;trivial;rfl;rfl;exact lt_dec rfl;exact le_dec rfl)|(apply VWp.condSeq_dec;rfl)|(intro _;try (exfalso;omega)))
  all_goals first|(exfalso;omega)|(refine Done.ret rfl (.refl _) (by first|exact trivial|exact ⟨trivial,trivial,trivial⟩|exact ⟨trivial,trivial,trivial,trivial⟩) HCov.nil (Nat.zero_le _) (Nat.le_refl _) ⟨?_,rfl,rfl⟩;try rfl)
end Go.Proofs.YtdabojnmoejilaaGreatDoor
namespace Go.Hun
open Go.Vm
structure Ix where
 n:Nat
instance:Enc Ix:={ default:=⟨0⟩,enc:=fun x=>[.int .i64 (x.n:Int)],size:=1,len:=fun _=>rfl }
instance:Inhabited Ix:=⟨⟨0⟩⟩
instance encBool:Enc Bool:={ default:=false,enc:=fun b=>[.bool b],size:=1,len:=fun _=>rfl }
def far:Int:=1152921504606846976
structure Scn where
 least:List Int
 way:List Ix
 delta:Int
 next:Nat
def cof (row:List Int) (ur:Int) (v:List Int) (k:Nat):Int:=gi row (k-1)-ur-gi v k
def scanS (row:List Int) (ur:Int) (v:List Int) (done:List Bool) (a:Nat) (s:Scn) (k:Nat):Scn :=
 if gi done k=true then s
 else if cof row ur v k<gi s.least k then
  (if cof row ur v k<s.delta then ⟨s.least.set k (cof row ur v k),s.way.set k ⟨a⟩,cof row ur v k,k⟩ else ⟨s.least.set k (cof row ur v k),s.way.set k ⟨a⟩,s.delta,s.next⟩)
 else if gi s.least k<s.delta then ⟨s.least,s.way,gi s.least k,k⟩ else s
def scanK (row:List Int) (ur:Int) (v:List Int) (done:List Bool) (a:Nat) (s0:Scn):Nat→Scn
 |0=>s0
 |j+1=>scanS row ur v done a (scanK row ur v done a s0 j) (j+1)
structure Shf where
 u:List Int
 v:List Int
 least:List Int
def shiftS (owner:List Ix) (done:List Bool) (delta:Int) (t:Shf) (k:Nat):Shf :=
 if gi done k=true then ⟨t.u.set (gi owner k).n (gi t.u (gi owner k).n+delta),t.v.set k (gi t.v k-delta),t.least⟩ else ⟨t.u,t.v,t.least.set k (gi t.least k-delta)⟩
def shiftK (owner:List Ix) (done:List Bool) (delta:Int) (t:Shf):Nat→Shf
 |0=>t
 |k+1=>shiftS owner done delta (shiftK owner done delta t k) k
structure Gr where
 u:List Int
 v:List Int
 way:List Ix
 least:List Int
 done:List Bool
 at_:Nat
def roundD (g:Gr):List Bool:=g.done.set g.at_ true
def roundC (costs:List (List Int)) (owner:List Ix) (m:Nat) (g:Gr):Scn :=
 scanK (gi costs ((gi owner g.at_).n-1)) (gi g.u (gi owner g.at_).n) g.v (roundD g) g.at_ ⟨g.least,g.way,far,0⟩ m
def roundH (costs:List (List Int)) (owner:List Ix) (m:Nat) (g:Gr):Shf :=
 shiftK owner (roundD g) (roundC costs owner m g).delta ⟨g.u,g.v,(roundC costs owner m g).least⟩ (m+1)
def roundS (costs:List (List Int)) (owner:List Ix) (m:Nat) (g:Gr):Gr :=
 ⟨(roundH costs owner m g).u,(roundH costs owner m g).v,(roundC costs owner m g).way,(roundH costs owner m g).least,roundD g,(roundC costs owner m g).next⟩
def growK (costs:List (List Int)) (owner:List Ix) (m:Nat) (g0:Gr):Nat→Gr
 |0=>g0
 |t+1=>roundS costs owner m (growK costs owner m g0 t)
def growN (costs:List (List Int)) (owner:List Ix) (m:Nat) (g0:Gr):Nat→Nat→Nat
 |0,t=>t
 |f+1,t=>if (gi owner (growK costs owner m g0 t).at_).n=0 then t else growN costs owner m g0 f (t+1)
structure Aug where
 owner:List Ix
 at_:Nat
def augS (way:List Ix) (a:Aug):Aug:=⟨a.owner.set a.at_ (gi a.owner (gi way a.at_).n),(gi way a.at_).n⟩
def augK (way:List Ix) (a:Aug):Nat→Aug
 |0=>a
 |t+1=>augS way (augK way a t)
def augN (way:List Ix) (a:Aug):Nat→Nat→Nat
 |0,t=>t
 |f+1,t=>if (augK way a t).at_=0 then t else augN way a f (t+1)
structure Stt where
 u:List Int
 v:List Int
 owner:List Ix
 way:List Ix
def stG (m:Nat) (s:Stt):Gr:=⟨s.u,s.v,s.way,List.replicate (m+1) far,List.replicate (m+1) false,0⟩
def stO (s:Stt) (i:Nat):List Ix:=s.owner.set 0 ⟨i⟩
def stT (costs:List (List Int)) (m:Nat) (s:Stt) (i:Nat):Nat:=growN costs (stO s i) m (stG m s) (m+2) 0
def stE (costs:List (List Int)) (m:Nat) (s:Stt) (i:Nat):Gr:=growK costs (stO s i) m (stG m s) (stT costs m s i)
def stA (costs:List (List Int)) (m:Nat) (s:Stt) (i:Nat):Aug:=⟨stO s i,(stE costs m s i).at_⟩
def stU (costs:List (List Int)) (m:Nat) (s:Stt) (i:Nat):Nat:=augN (stE costs m s i).way (stA costs m s i) (m+2) 0
def stageS (costs:List (List Int)) (m:Nat) (s:Stt) (i:Nat):Stt :=
 ⟨(stE costs m s i).u,(stE costs m s i).v,(augK (stE costs m s i).way (stA costs m s i) (stU costs m s i)).owner,(stE costs m s i).way⟩
def stageK (costs:List (List Int)) (n m:Nat):Nat→Stt
 |0=>⟨List.replicate (n+1) 0,List.replicate (m+1) 0,List.replicate (m+1) ⟨0⟩,List.replicate (m+1) ⟨0⟩⟩
 |i+1=>stageS costs m (stageK costs n m i) (i+1)
structure Out where
 cols:List Int
 total:Int
def outS (costs:List (List Int)) (owner:List Ix) (o:Out) (k:Nat):Out :=
 if 0<(gi owner k).n then ⟨o.cols.set ((gi owner k).n-1) ((k:Int)-1),o.total+gi (gi costs ((gi owner k).n-1)) (k-1)⟩ else o
def outK (costs:List (List Int)) (owner:List Ix) (n:Nat):Nat→Out
 |0=>⟨List.replicate n 0,0⟩
 |k+1=>outS costs owner (outK costs owner n k) (k+1)
theorem gs {α:Type} [Inhabited α] {l:List α} {i j:Nat} {a:α} (h:i<l.length):gi (l.set i a) j=if i=j then a else gi l j:=by
 rw [gi_set]
 by_cases e:i=j
 ·subst e;rw [if_pos ⟨rfl,h⟩,if_pos rfl]
 ·rw [if_neg (fun x=>e x.1),if_neg e]
structure ScanI (row:List Int) (ur:Int) (v:List Int) (done:List Bool) (a m:Nat) (s0 s:Scn) (j:Nat):Prop where
 ll:s.least.length=m+1
 lw:s.way.length=m+1
 least:∀ k,gi s.least k=if 1≤k∧k≤j∧gi done k=false∧cof row ur v k<gi s0.least k then cof row ur v k else gi s0.least k
 way:∀ k,gi s.way k=if 1≤k∧k≤j∧gi done k=false∧cof row ur v k<gi s0.least k then ⟨a⟩ else gi s0.way k
 delta:∀ k,1≤k→k≤j→gi done k=false→s.delta≤gi s.least k
 le:s.delta≤s0.delta
 next:(s.next=s0.next∧s.delta=s0.delta)∨(1≤s.next∧s.next≤j∧gi done s.next=false∧s.delta=gi s.least s.next)
theorem scan_spec {row:List Int} {ur:Int} {v:List Int} {done:List Bool} {a m:Nat} {s0:Scn} (hl:s0.least.length=m+1) (hw:s0.way.length=m+1):∀ j,j≤m→ScanI row ur v done a m s0 (scanK row ur v done a s0 j) j
 |0,_=>⟨hl,hw,fun k=>by rw [if_neg (by omega)];rfl,fun k=>by rw [if_neg (by omega)];rfl,fun k h1 h2=>by omega,Int.le_refl _,.inl ⟨rfl,rfl⟩⟩
 |j+1,hj=>by
  have ih:=scan_spec (row:=row) (ur:=ur) (v:=v) (done:=done) (a:=a) hl hw j (by omega)
  generalize hs:scanK row ur v done a s0 j=s at ih
  have e0:scanK row ur v done a s0 (j+1)=scanS row ur v done a s (j+1):=by rw [← hs];rfl
  rw [e0]
  obtain ⟨l1,l2,h1,h2,h3,h4,h5⟩:=ih
  have hlt:j+1<s.least.length:=by omega
  have hwt:j+1<s.way.length:=by omega
  have hj1:gi s.least (j+1)=gi s0.least (j+1):=by rw [h1,if_neg (by omega)]
  have hne:∀ k,k≤j→j+1≠k:=fun k hk=>by omega
  unfold scanS
  by_cases hd:gi done (j+1)=true
  ·rw [if_pos hd]
   refine ⟨l1,l2,fun k=>?_,fun k=>?_,fun k k1 k2 k3=>?_,h4,?_⟩
   ·rw [h1]
    by_cases e:k=j+1
    ·subst e;rw [if_neg (by omega),if_neg (by rw [hd];simp)]
    ·by_cases hc:1≤k∧k≤j∧gi done k=false∧cof row ur v k<gi s0.least k
     ·rw [if_pos hc,if_pos ⟨hc.1,by omega,hc.2.2⟩]
     ·rw [if_neg hc,if_neg (fun x=>hc ⟨x.1,by omega,x.2.2⟩)]
   ·rw [h2]
    by_cases e:k=j+1
    ·subst e;rw [if_neg (by omega),if_neg (by rw [hd];simp)]
    ·by_cases hc:1≤k∧k≤j∧gi done k=false∧cof row ur v k<gi s0.least k
     ·rw [if_pos hc,if_pos ⟨hc.1,by omega,hc.2.2⟩]
     ·rw [if_neg hc,if_neg (fun x=>hc ⟨x.1,by omega,x.2.2⟩)]
   ·by_cases e:k=j+1
    ·subst e;rw [hd] at k3;cases k3
    ·exact h3 k k1 (by omega) k3
   ·rcases h5 with h5|⟨x1,x2,x3,x4⟩
    ·exact .inl h5
    ·exact .inr ⟨x1,by omega,x3,x4⟩
  ·have hd':gi done (j+1)=false:=by cases h:gi done (j+1)<;>simp_all
   rw [if_neg hd]
   by_cases hc:cof row ur v (j+1)<gi s.least (j+1)
   ·rw [if_pos hc]
    rw [hj1] at hc
    have L:∀ k,gi (s.least.set (j+1) (cof row ur v (j+1))) k=if 1≤k∧k≤j+1∧gi done k=false∧cof row ur v k<gi s0.least k then cof row ur v k else gi s0.least k:=fun k=>by
     rw [gs hlt]
     by_cases e:j+1=k
     ·subst e;rw [if_pos rfl,if_pos ⟨by omega,Nat.le_refl _,hd',hc⟩]
     ·rw [if_neg e,h1]
      by_cases hc':1≤k∧k≤j∧gi done k=false∧cof row ur v k<gi s0.least k
      ·rw [if_pos hc',if_pos ⟨hc'.1,by omega,hc'.2.2⟩]
      ·rw [if_neg hc',if_neg (fun x=>hc' ⟨x.1,by omega,x.2.2⟩)]
    have W:∀ k,gi (s.way.set (j+1) ⟨a⟩) k=if 1≤k∧k≤j+1∧gi done k=false∧cof row ur v k<gi s0.least k then ⟨a⟩ else gi s0.way k:=fun k=>by
     rw [gs hwt]
     by_cases e:j+1=k
     ·subst e;rw [if_pos rfl,if_pos ⟨by omega,Nat.le_refl _,hd',hc⟩]
     ·rw [if_neg e,h2]
      by_cases hc':1≤k∧k≤j∧gi done k=false∧cof row ur v k<gi s0.least k
      ·rw [if_pos hc',if_pos ⟨hc'.1,by omega,hc'.2.2⟩]
      ·rw [if_neg hc',if_neg (fun x=>hc' ⟨x.1,by omega,x.2.2⟩)]
    by_cases hb:cof row ur v (j+1)<s.delta
    ·rw [if_pos hb]
     refine ⟨by simp [l1],by simp [l2],L,W,fun k k1 k2 k3=>?_,by simp only;omega,.inr ⟨by simp only;omega,Nat.le_refl _,hd',?_⟩⟩
     ·simp only
      rw [gs hlt]
      by_cases e:j+1=k
      ·rw [if_pos e];omega
      ·rw [if_neg e]
       have:=h3 k k1 (by omega) k3
       omega
     ·simp only
      rw [gs hlt,if_pos rfl]
    ·rw [if_neg hb]
     refine ⟨by simp [l1],by simp [l2],L,W,fun k k1 k2 k3=>?_,h4,?_⟩
     ·simp only
      rw [gs hlt]
      by_cases e:j+1=k
      ·rw [if_pos e];omega
      ·rw [if_neg e]
       exact h3 k k1 (by omega) k3
     ·rcases h5 with h5|⟨x1,x2,x3,x4⟩
      ·exact .inl h5
      ·refine .inr ⟨x1,by simp only;omega,x3,?_⟩
       simp only
       rw [gs hlt,if_neg (by omega)]
       exact x4
   ·rw [if_neg hc]
    have hc0:¬ cof row ur v (j+1)<gi s0.least (j+1):=by rw [← hj1];exact hc
    have L:∀ k,gi s.least k=if 1≤k∧k≤j+1∧gi done k=false∧cof row ur v k<gi s0.least k then cof row ur v k else gi s0.least k:=fun k=>by
     rw [h1]
     by_cases e:j+1=k
     ·subst e;rw [if_neg (by omega),if_neg (fun x=>hc0 x.2.2.2)]
     ·by_cases hc':1≤k∧k≤j∧gi done k=false∧cof row ur v k<gi s0.least k
      ·rw [if_pos hc',if_pos ⟨hc'.1,by omega,hc'.2.2⟩]
      ·rw [if_neg hc',if_neg (fun x=>hc' ⟨x.1,by omega,x.2.2⟩)]
    have W:∀ k,gi s.way k=if 1≤k∧k≤j+1∧gi done k=false∧cof row ur v k<gi s0.least k then ⟨a⟩ else gi s0.way k:=fun k=>by
     rw [h2]
     by_cases e:j+1=k
     ·subst e;rw [if_neg (by omega),if_neg (fun x=>hc0 x.2.2.2)]
     ·by_cases hc':1≤k∧k≤j∧gi done k=false∧cof row ur v k<gi s0.least k
      ·rw [if_pos hc',if_pos ⟨hc'.1,by omega,hc'.2.2⟩]
      ·rw [if_neg hc',if_neg (fun x=>hc' ⟨x.1,by omega,x.2.2⟩)]
    by_cases hb:gi s.least (j+1)<s.delta
    ·rw [if_pos hb]
     refine ⟨l1,l2,L,W,fun k k1 k2 k3=>?_,by simp only;omega,.inr ⟨by simp only;omega,Nat.le_refl _,hd',rfl⟩⟩
     simp only
     by_cases e:j+1=k
     ·rw [e];omega
     ·have:=h3 k k1 (by omega) k3
      omega
    ·rw [if_neg hb]
     refine ⟨l1,l2,L,W,fun k k1 k2 k3=>?_,h4,?_⟩
     ·by_cases e:j+1=k
      ·rw [← e];omega
      ·exact h3 k k1 (by omega) k3
     ·rcases h5 with h5|⟨x1,x2,x3,x4⟩
      ·exact .inl h5
      ·exact .inr ⟨x1,by omega,x3,x4⟩
structure ShiftI (owner:List Ix) (done:List Bool) (delta:Int) (t s:Shf) (k:Nat):Prop where
 lu:s.u.length=t.u.length
 lv:s.v.length=t.v.length
 ll:s.least.length=t.least.length
 u0:∀ r,(∀ d,d<k→gi done d=true→(gi owner d).n≠r)→gi s.u r=gi t.u r
 u1:∀ d,d<k→gi done d=true→gi s.u (gi owner d).n=gi t.u (gi owner d).n+delta
 v:∀ d,gi s.v d=if d<k∧gi done d=true then gi t.v d-delta else gi t.v d
 least:∀ d,gi s.least d=if d<k∧gi done d=false then gi t.least d-delta else gi t.least d
theorem shift_spec {owner:List Ix} {done:List Bool} {delta:Int} {t:Shf} {m:Nat} (hv:t.v.length=m+1) (hl:t.least.length=m+1)
 (hu:∀ d,d≤m→gi done d=true→(gi owner d).n<t.u.length) (hi:∀ d e,d≤m→e≤m→gi done d=true→gi done e=true→(gi owner d).n=(gi owner e).n→d=e) :
 ∀ k,k≤m+1→ShiftI owner done delta t (shiftK owner done delta t k) k
 |0,_=>⟨rfl,rfl,rfl,fun _ _=>rfl,fun d h=>by omega,fun d=>by rw [if_neg (by omega)];rfl,fun d=>by rw [if_neg (by omega)];rfl⟩
 |k+1,hk=>by
  have ih:=shift_spec (delta:=delta) hv hl hu hi k (by omega)
  generalize hs:shiftK owner done delta t k=s at ih
  have e0:shiftK owner done delta t (k+1)=shiftS owner done delta s k:=by rw [← hs];rfl
  rw [e0]
  obtain ⟨l1,l2,l3,h0,h1,h2,h3⟩:=ih
  unfold shiftS
  by_cases hd:gi done k=true
  ·rw [if_pos hd]
   have hlt:=hu k (by omega) hd
   refine ⟨by simp [l1],by simp [l2],l3,fun r hr=>?_,fun d hd1 hd2=>?_,fun d=>?_,fun d=>?_⟩
   ·simp only
    rw [gs (by omega),if_neg (hr k (by omega) hd)]
    exact h0 r fun d x y=>hr d (by omega) y
   ·simp only
    rw [gs (by omega)]
    by_cases e:k=d
    ·subst e
     rw [if_pos rfl,h0 _ fun d x y z=>by have:=hi d k (by omega) (by omega) y hd z;omega]
    ·rw [if_neg fun x=>e (hi k d (by omega) (by omega) hd hd2 x)]
     exact h1 d (by omega) hd2
   ·simp only
    rw [gs (by omega)]
    by_cases e:k=d
    ·subst e
     rw [if_pos rfl,if_pos ⟨by omega,hd⟩,h2,if_neg (by omega)]
    ·rw [if_neg e,h2]
     by_cases x:d<k∧gi done d=true
     ·rw [if_pos x,if_pos ⟨by omega,x.2⟩]
     ·rw [if_neg x,if_neg fun y=>x ⟨by omega,y.2⟩]
   ·rw [h3]
    by_cases e:k=d
    ·subst e
     rw [if_neg (by omega),if_neg (by rw [hd];simp)]
    ·by_cases x:d<k∧gi done d=false
     ·rw [if_pos x,if_pos ⟨by omega,x.2⟩]
     ·rw [if_neg x,if_neg fun y=>x ⟨by omega,y.2⟩]
  ·have hd':gi done k=false:=by cases h:gi done k<;>simp_all
   rw [if_neg hd]
   refine ⟨l1,l2,by simp [l3],fun r hr=>h0 r fun d x y=>hr d (by omega) y,fun d hd1 hd2=>?_,fun d=>?_,fun d=>?_⟩
   ·by_cases e:k=d
    ·subst e;exact absurd hd2 hd
    ·exact h1 d (by omega) hd2
   ·rw [h2]
    by_cases e:k=d
    ·subst e
     rw [if_neg (by omega),if_neg (by rw [hd'];simp)]
    ·by_cases x:d<k∧gi done d=true
     ·rw [if_pos x,if_pos ⟨by omega,x.2⟩]
     ·rw [if_neg x,if_neg fun y=>x ⟨by omega,y.2⟩]
   ·simp only
    rw [gs (by omega)]
    by_cases e:k=d
    ·subst e
     rw [if_pos rfl,if_pos ⟨by omega,hd'⟩,h3,if_neg (by omega)]
    ·rw [if_neg e,h3]
     by_cases x:d<k∧gi done d=false
     ·rw [if_pos x,if_pos ⟨by omega,x.2⟩]
     ·rw [if_neg x,if_neg fun y=>x ⟨by omega,y.2⟩]
end Go.Hun
namespace Go.Hun
open Go.Vm
theorem pigeon:∀ (n m:Nat) (f:Nat→Nat),(∀ k,k<m→f k<n)→(∀ k e,k<m→e<m→f k=f e→k=e)→m≤n
 |0,m,f,h,hi=>by
  rcases Nat.eq_zero_or_pos m with h0|h0
  ·omega
  ·exact absurd (h 0 h0) (by omega)
 |n+1,0,f,h,hi=>by omega
 |n+1,m+1,f,h,hi=>by
  have:=pigeon n m (fun k=>if f k=n then f m else f k) (fun k hk=>by
   have h1:=h k (by omega)
   have h2:=h m (by omega)
   by_cases e:f k=n
   ·simp only [if_pos e]
    have:f m≠n:=fun e2=>by have:=hi k m (by omega) (by omega) (by omega);omega
    omega
   ·simp only [if_neg e];omega) (fun k e hk he hf=>by
   by_cases e1:f k=n<;>by_cases e2:f e=n
   ·exact hi k e (by omega) (by omega) (by omega)
   ·simp only [if_pos e1,if_neg e2] at hf
    have:=hi m e (by omega) (by omega) hf;omega
   ·simp only [if_neg e1,if_pos e2] at hf
    have:=hi k m (by omega) (by omega) hf;omega
   ·simp only [if_neg e1,if_neg e2] at hf
    exact hi k e (by omega) (by omega) hf)
  omega
def cst (costs:List (List Int)) (r k:Nat):Int:=gi (gi costs (r-1)) (k-1)
def own (o:List Ix) (k:Nat):Nat:=(gi o k).n
structure CostI (costs:List (List Int)) (n m:Nat) (B:Int):Prop where
 lo:∀ r k,0≤cst costs r k
 hi:∀ r k,cst costs r k≤B
 big:0≤B∧B≤1000000000000
 nm:n<m
structure StI (costs:List (List Int)) (n m i:Nat) (s:Stt):Prop where
 lu:s.u.length=n+1
 lv:s.v.length=m+1
 lo:s.owner.length=m+1
 lw:s.way.length=m+1
 own:∀ k,1≤k→k≤m→own s.owner k≤i
 all:∀ r,1≤r→r≤i→∃ k,1≤k∧k≤m∧Hun.own s.owner k=r
 inj:∀ k e,1≤k→k≤m→1≤e→e≤m→Hun.own s.owner k=Hun.own s.owner e→Hun.own s.owner k≠0→k=e
 feas:∀ r k,1≤r→r≤i→1≤k→k≤m→gi s.u r+gi s.v k≤cst costs r k
 tight:∀ k,1≤k→k≤m→Hun.own s.owner k≠0→gi s.u (Hun.own s.owner k)+gi s.v k=cst costs (Hun.own s.owner k) k
 vneg:∀ k,1≤k→k≤m→gi s.v k≤0
 vfree:∀ k,1≤k→k≤m→Hun.own s.owner k=0→gi s.v k=0
 upos:∀ r,1≤r→r≤i→0≤gi s.u r
 uz:∀ r,i<r→gi s.u r=0
structure OwI (m i:Nat) (o:List Ix):Prop where
 len:o.length=m+1
 zero:own o 0=i+1
 le:∀ k,1≤k→k≤m→own o k≤i
 inj:∀ k e,k≤m→e≤m→own o k=own o e→own o k≠0→k=e
theorem OwI.lt {m i:Nat} {o:List Ix} (h:OwI m i o) {k:Nat} (hk:k≤m):own o k≤i+1:=by
 rcases Nat.eq_zero_or_pos k with h0|h0
 ·subst h0;rw [h.zero];omega
 ·have:=h.le k h0 hk;omega
theorem OwI.free {m i:Nat} {o:List Ix} (h:OwI m i o) (hm:i<m):∃ k,1≤k∧k≤m∧own o k=0:=by
 refine Classical.byContradiction fun hn=>?_
 have hn:∀ k,1≤k→k≤m→own o k≠0:=fun k h1 h2 h3=>hn ⟨k,h1,h2,h3⟩
 have:=pigeon i m (fun k=>own o (k+1)-1) (fun k hk=>by
  have h1:=hn (k+1) (by omega) (by omega)
  have h2:=h.le (k+1) (by omega) (by omega)
  show own o (k+1)-1<i
  omega) (fun k e hk he hf=>by
  have h1:=hn (k+1) (by omega) (by omega)
  have h2:=hn (e+1) (by omega) (by omega)
  have hf:own o (k+1)-1=own o (e+1)-1:=hf
  have:=h.inj (k+1) (e+1) (by omega) (by omega) (by omega) h1
  omega)
 omega
structure GrI (costs:List (List Int)) (n m i:Nat) (o:List Ix) (A:Nat→Nat) (t:Nat) (g:Gr):Prop where
 lu:g.u.length=n+1
 lv:g.v.length=m+1
 lw:g.way.length=m+1
 ll:g.least.length=m+1
 ld:g.done.length=m+1
 at_:g.at_=A t
 le:∀ p,p≤t→A p≤m
 zero:A 0=0
 pos:∀ p,1≤p→p≤t→1≤A p
 done:∀ k,gi g.done k=true↔∃ p,p<t∧A p=k
 new:gi g.done (A t)=false
 ownD:∀ p,p<t→own o (A p)≠0
 feas:∀ r k,1≤r→r≤i+1→1≤k→k≤m→gi g.u r+gi g.v k≤cst costs r k
 tight:∀ k,1≤k→k≤m→own o k≠0→gi g.u (own o k)+gi g.v k=cst costs (own o k) k
 vneg:∀ k,1≤k→k≤m→gi g.v k≤0
 vfree:∀ k,1≤k→k≤m→own o k=0→gi g.v k=0
 upos:∀ r,1≤r→r≤i+1→0≤gi g.u r
 uz:∀ r,i+1<r→gi g.u r=0
 least:∀ k,1≤k→k≤m→gi g.done k=false→∀ p,p<t→gi g.least k≤cst costs (own o (A p)) k-gi g.u (own o (A p))-gi g.v k
 leastE:∀ k,1≤k→k≤m→gi g.done k=false→(t=0∧gi g.least k=far)∨∃ p,p<t∧own g.way k=A p∧gi g.least k=cst costs (own o (A p)) k-gi g.u (own o (A p))-gi g.v k
 path:∀ p,1≤p→p≤t→∃ q,q<p∧own g.way (A p)=A q∧gi g.u (own o (A q))+gi g.v (A p)=cst costs (own o (A q)) (A p)
section
variable {costs:List (List Int)} {n m i:Nat} {o:List Ix} {A:Nat→Nat} {t:Nat} {g:Gr} {B:Int}
theorem GrI.ule (h:GrI costs n m i o A t g) (hc:CostI costs n m B) (ho:OwI m i o) (hi:i<m) {r:Nat} (h1:1≤r) (h2:r≤i+1):gi g.u r≤B:=by
 obtain ⟨f,f1,f2,f3⟩:=ho.free hi
 have:=h.feas r f h1 h2 f1 f2
 have:=h.vfree f f1 f2 f3
 have:=hc.hi r f
 omega
theorem GrI.vge (h:GrI costs n m i o A t g) (hc:CostI costs n m B) (ho:OwI m i o) (hi:i<m) {k:Nat} (h1:1≤k) (h2:k≤m):-B≤gi g.v k:=by
 have hb:=hc.big
 by_cases e:own o k=0
 ·rw [h.vfree k h1 h2 e];omega
 ·have h3:=ho.lt h2
  have:=h.tight k h1 h2 e
  have:=h.ule hc ho hi (r:=own o k) (by omega) h3
  have:=hc.lo (own o k) k
  omega
end
structure RdI (costs:List (List Int)) (n m i:Nat) (o:List Ix) (A:Nat→Nat) (t:Nat) (g:Gr) (B:Int) (s:Scn):Prop where
 ll:s.least.length=m+1
 lw:s.way.length=m+1
 next:1≤s.next∧s.next≤m
 newN:gi (roundD g) s.next=false
 dn:s.delta=gi s.least s.next
 dle:∀ k,1≤k→k≤m→gi (roundD g) k=false→s.delta≤gi s.least k
 d0:0≤s.delta
 dB:s.delta≤B
 least:∀ k,1≤k→k≤m→gi (roundD g) k=false→∀ p,p<t+1→gi s.least k≤cst costs (own o (A p)) k-gi g.u (own o (A p))-gi g.v k
 leastE:∀ k,1≤k→k≤m→gi (roundD g) k=false→∃ p,p<t+1∧own s.way k=A p∧gi s.least k=cst costs (own o (A p)) k-gi g.u (own o (A p))-gi g.v k
 way:∀ k,gi (roundD g) k=true→gi s.way k=gi g.way k
 doneD:∀ k,gi (roundD g) k=true↔∃ p,p<t+1∧A p=k
theorem round_scan {costs:List (List Int)} {n m i:Nat} {o:List Ix} {A:Nat→Nat} {t:Nat} {g:Gr} {B:Int} (h:GrI costs n m i o A t g) (hc:CostI costs n m B) (ho:OwI m i o) (hi:i<n) (hr:own o (A t)≠0):RdI costs n m i o A t g B (roundC costs o m g):=by
 have hm:=hc.nm
 have hb:=hc.big
 have hA:=h.le t (Nat.le_refl _)
 have hrow:=ho.lt hA
 have hD:∀ k,gi (roundD g) k=true↔∃ p,p<t+1∧A p=k:=fun k=>by
  unfold roundD
  rw [gs (by rw [h.ld,h.at_];omega),h.at_]
  by_cases e:A t=k
  ·rw [if_pos e];exact ⟨fun _=>⟨t,by omega,e⟩,fun _=>rfl⟩
  ·rw [if_neg e,h.done]
   exact ⟨fun ⟨p,h1,h2⟩=>⟨p,by omega,h2⟩,fun ⟨p,h1,h2⟩=>⟨p,by
    rcases Nat.lt_or_ge p t with h3|h3
    ·exact h3
    ·obtain rfl:p=t:=by omega
     exact absurd h2 e,h2⟩⟩
 have hO:∀ p,p<t+1→own o (A p)≠0:=fun p hp=>by
  rcases Nat.lt_or_ge p t with h3|h3
  ·exact h.ownD p h3
  ·obtain rfl:p=t:=by omega
   exact hr
 have hN:∀ k,gi (roundD g) k=false→gi g.done k=false:=fun k hk=>by
  cases hg:gi g.done k with
  |false=>rfl
  |true =>
   obtain ⟨p,h1,h2⟩:=(h.done k).1 hg
   rw [(hD k).2 ⟨p,by omega,h2⟩] at hk
   cases hk
 have spec:=scan_spec (row:=gi costs ((gi o g.at_).n-1)) (ur:=gi g.u (gi o g.at_).n) (v:=g.v) (done:=roundD g) (a:=g.at_) (m:=m) (s0:=⟨g.least,g.way,far,0⟩) h.ll h.lw m (Nat.le_refl _)
 have ecof:∀ k,cof (gi costs ((gi o g.at_).n-1)) (gi g.u (gi o g.at_).n) g.v k=cst costs (own o (A t)) k-gi g.u (own o (A t))-gi g.v k:=fun k=>by
  rw [h.at_];rfl
 have es:roundC costs o m g=scanK (gi costs ((gi o g.at_).n-1)) (gi g.u (gi o g.at_).n) g.v (roundD g) g.at_ ⟨g.least,g.way,far,0⟩ m:=rfl
 rw [← es] at spec
 generalize roundC costs o m g=s at spec ⊢
 obtain ⟨l1,l2,h1,h2,h3,h4,h5⟩:=spec
 simp only [ecof] at h1 h2 h4 h5
 have red:∀ p k,p<t+1→1≤k→k≤m→0≤cst costs (own o (A p)) k-gi g.u (own o (A p))-gi g.v k:=fun p k hp k1 k2=>by
  have:=h.feas (own o (A p)) k (by have:=hO p hp;omega) (ho.lt (h.le p (by omega))) k1 k2
  omega
 have redB:∀ p k,p<t+1→1≤k→k≤m→cst costs (own o (A p)) k-gi g.u (own o (A p))-gi g.v k<far:=fun p k hp k1 k2=>by
  have:=hc.hi (own o (A p)) k
  have:=h.upos (own o (A p)) (by have:=hO p hp;omega) (ho.lt (h.le p (by omega)))
  have:=h.vge hc ho (by omega) k1 k2
  unfold far
  omega
 have LL:∀ k,1≤k→k≤m→gi (roundD g) k=false→∀ p,p<t+1→gi s.least k≤cst costs (own o (A p)) k-gi g.u (own o (A p))-gi g.v k:=fun k k1 k2 k3 p hp=>by
  rw [h1]
  rcases Nat.lt_or_ge p t with hpt|hpt
  ·have:=h.least k k1 k2 (hN k k3) p hpt
   split
   ·rename_i hx;omega
   ·exact this
  ·obtain rfl:p=t:=by omega
   split
   ·exact Int.le_refl _
   ·rename_i hx
    have:¬ cst costs (own o (A p)) k-gi g.u (own o (A p))-gi g.v k<gi g.least k:=fun y=>hx ⟨k1,k2,k3,y⟩
    omega
 have LE:∀ k,1≤k→k≤m→gi (roundD g) k=false→∃ p,p<t+1∧own s.way k=A p∧gi s.least k=cst costs (own o (A p)) k-gi g.u (own o (A p))-gi g.v k:=fun k k1 k2 k3=>by
  unfold own
  rw [h1,h2]
  split
  ·exact ⟨t,by omega,h.at_,rfl⟩
  ·rename_i hx
   rcases h.leastE k k1 k2 (hN k k3) with ⟨_,h7⟩|⟨p,h6,h7,h8⟩
   ·exact absurd ⟨k1,k2,k3,by rw [h7];exact redB t k (by omega) k1 k2⟩ hx
   ·exact ⟨p,by omega,h7,h8⟩
 obtain ⟨f,f1,f2,f3⟩:=ho.free (by omega:i<m)
 have f4:gi (roundD g) f=false:=by
  cases hg:gi (roundD g) f with
  |false=>rfl
  |true =>
   obtain ⟨p,h6,h7⟩:=(hD f).1 hg
   have:=hO p h6
   rw [h7] at this
   exact absurd f3 this
 have f5:=h3 f f1 f2 f4
 have f6:=LL f f1 f2 f4 t (by omega)
 have f7:=h.vfree f f1 f2 f3
 have f8:=hc.hi (own o (A t)) f
 have f9:=h.upos (own o (A t)) (by omega) hrow
 have hfar:far=1152921504606846976:=rfl
 rcases h5 with ⟨_,h6⟩|⟨h6,h7,h8,h9⟩
 ·omega
 ·refine ⟨l1,l2,⟨h6,h7⟩,h8,h9,h3,?_,by omega,LL,LE,fun k hk=>?_,hD⟩
  ·obtain ⟨p,p1,p2,p3⟩:=LE s.next h6 h7 h8
   rw [h9,p3]
   exact red p _ p1 h6 h7
  ·rw [h2,if_neg]
   rintro ⟨_,_,x,_⟩
   rw [hk] at x;cases x
structure ShI (m:Nat) (o:List Ix) (g:Gr) (d:Int) (s:Scn) (t:Shf):Prop where
 lu:t.u.length=g.u.length
 lv:t.v.length=m+1
 ll:t.least.length=m+1
 u1:∀ k,k≤m→gi (roundD g) k=true→gi t.u (own o k)=gi g.u (own o k)+d
 u0:∀ r,(∀ k,k≤m→gi (roundD g) k=true→own o k≠r)→gi t.u r=gi g.u r
 v1:∀ k,k≤m→gi (roundD g) k=true→gi t.v k=gi g.v k-d
 v0:∀ k,gi (roundD g) k=false→gi t.v k=gi g.v k
 least:∀ k,k≤m→gi (roundD g) k=false→gi t.least k=gi s.least k-d
section
variable {costs:List (List Int)} {n m i:Nat} {o:List Ix} {A:Nat→Nat} {t:Nat} {g:Gr} {B:Int}
theorem round_pre (h:GrI costs n m i o A t g) (hc:CostI costs n m B) (ho:OwI m i o) (hi:i<n) (hr:own o (A t)≠0) :
 (∀ d,d≤m→gi (roundD g) d=true→(gi o d).n<g.u.length)∧∀ d e,d≤m→e≤m→gi (roundD g) d=true→gi (roundD g) e=true→(gi o d).n=(gi o e).n→d=e:=by
 have hR:=round_scan h hc ho hi hr
 refine ⟨fun d hd _=>?_,fun d e hd he h1 h2 h3=>?_⟩
 ·have:=ho.lt hd
  unfold own at this
  rw [h.lu];omega
 ·refine ho.inj d e hd he h3 ?_
  obtain ⟨p,p1,p2⟩:=(hR.doneD d).1 h1
  rw [← p2]
  rcases Nat.lt_or_ge p t with h4|h4
  ·exact h.ownD p h4
  ·obtain rfl:p=t:=by omega
   exact hr
theorem round_shift (h:GrI costs n m i o A t g) (hc:CostI costs n m B) (ho:OwI m i o) (hi:i<n) (hr:own o (A t)≠0):ShI m o g (roundC costs o m g).delta (roundC costs o m g) (roundH costs o m g):=by
 have hR:=round_scan h hc ho hi hr
 obtain ⟨e1,e2⟩:=round_pre h hc ho hi hr
 have spec:=shift_spec (owner:=o) (done:=roundD g) (delta:=(roundC costs o m g).delta) (t:=⟨g.u,g.v,(roundC costs o m g).least⟩) (m:=m) h.lv hR.ll e1 e2 (m+1) (Nat.le_refl _)
 have es:roundH costs o m g=shiftK o (roundD g) (roundC costs o m g).delta ⟨g.u,g.v,(roundC costs o m g).least⟩ (m+1):=rfl
 rw [← es] at spec
 generalize roundH costs o m g=T at spec ⊢
 generalize roundC costs o m g=s at spec hR ⊢
 obtain ⟨l1,l2,l3,h0,h1,h2,h3⟩:=spec
 simp only at l1 l2 l3 h0 h1 h2 h3
 refine ⟨l1,by rw [l2,h.lv],by rw [l3,hR.ll],fun k hk hd=>h1 k (by omega) hd,fun r hx=>h0 r fun d hd hd2=>hx d (by omega) hd2,fun k hk hd=>?_,fun k hd=>?_,fun k hk hd=>?_⟩
 ·rw [h2,if_pos ⟨by omega,hd⟩]
 ·rw [h2,if_neg (by rw [hd];simp)]
 ·rw [h3,if_pos ⟨by omega,hd⟩]
theorem GrI.step (h:GrI costs n m i o A t g) (hc:CostI costs n m B) (ho:OwI m i o) (hi:i<n) (hr:own o (A t)≠0) (hA:A (t+1)=(roundS costs o m g).at_):GrI costs n m i o A (t+1) (roundS costs o m g):=by
 have hR:=round_scan h hc ho hi hr
 have hS:=round_shift h hc ho hi hr
 have hnm:=hc.nm
 have eu:(roundS costs o m g).u=(roundH costs o m g).u:=rfl
 have ev:(roundS costs o m g).v=(roundH costs o m g).v:=rfl
 have ew:(roundS costs o m g).way=(roundC costs o m g).way:=rfl
 have el:(roundS costs o m g).least=(roundH costs o m g).least:=rfl
 have ed:(roundS costs o m g).done=roundD g:=rfl
 have ea:(roundS costs o m g).at_=(roundC costs o m g).next:=rfl
 rw [ea] at hA
 generalize roundH costs o m g=T at *
 generalize roundC costs o m g=s at *
 generalize roundS costs o m g=G at *
 have hO:∀ p,p<t+1→own o (A p)≠0:=fun p hp=>by
  rcases Nat.lt_or_ge p t with h3|h3
  ·exact h.ownD p h3
  ·obtain rfl:p=t:=by omega
   exact hr
 have hd0:=hR.d0
 have uR:∀ r,(∃ p,p<t+1∧own o (A p)=r∧gi T.u r=gi g.u r+s.delta)∨((∀ p,p<t+1→own o (A p)≠r)∧gi T.u r=gi g.u r):=fun r=>by
  by_cases hx:∃ p,p<t+1∧own o (A p)=r
  ·obtain ⟨p,p1,p2⟩:=hx
   have:=hS.u1 (A p) (h.le p (by omega)) ((hR.doneD _).2 ⟨p,p1,rfl⟩)
   rw [p2] at this
   exact .inl ⟨p,p1,p2,this⟩
  ·refine .inr ⟨fun p p1 p2=>hx ⟨p,p1,p2⟩,hS.u0 r fun k hk hd e=>?_⟩
   obtain ⟨p,p1,p2⟩:=(hR.doneD k).1 hd
   exact hx ⟨p,p1,by rw [p2];exact e⟩
 have uP:∀ p,p<t+1→gi T.u (own o (A p))=gi g.u (own o (A p))+s.delta:=fun p hp=>hS.u1 (A p) (h.le p (by omega)) ((hR.doneD _).2 ⟨p,hp,rfl⟩)
 have vR:∀ k,k≤m→(gi (roundD g) k=true∧gi T.v k=gi g.v k-s.delta)∨(gi (roundD g) k=false∧gi T.v k=gi g.v k):=fun k hk=>by
  cases hd:gi (roundD g) k with
  |true=>exact .inl ⟨rfl,hS.v1 k hk hd⟩
  |false=>exact .inr ⟨rfl,hS.v0 k hd⟩
 refine ⟨by rw [eu,hS.lu,h.lu],by rw [ev,hS.lv],by rw [ew,hR.lw],by rw [el,hS.ll],by rw [ed];unfold roundD;simp [h.ld],by rw [ea,hA],fun p hp=>?_,h.zero,fun p p1 hp=>?_,fun k=>by rw [ed];exact hR.doneD k,by rw [ed,hA];exact hR.newN,hO,?_,?_,?_,?_,?_,?_,?_,?_,?_⟩
 ·rcases Nat.lt_or_ge p (t+1) with h3|h3
  ·exact h.le p (by omega)
  ·obtain rfl:p=t+1:=by omega
   rw [hA];exact hR.next.2
 ·rcases Nat.lt_or_ge p (t+1) with h3|h3
  ·exact h.pos p p1 (by omega)
  ·obtain rfl:p=t+1:=by omega
   rw [hA];exact hR.next.1
 ·intro r k r1 r2 k1 k2
  rw [eu,ev]
  have h0:=h.feas r k r1 r2 k1 k2
  rcases uR r with ⟨p,p1,p2,p3⟩|⟨p1,p3⟩<;>rcases vR k k2 with ⟨q1,q2⟩|⟨q1,q2⟩
  ·omega
  ·have h1:=hR.dle k k1 k2 q1
   have h2:=hR.least k k1 k2 q1 p p1
   rw [p2] at h2
   omega
  ·omega
  ·omega
 ·intro k k1 k2 hk
  rw [eu,ev]
  have h0:=h.tight k k1 k2 hk
  rcases vR k k2 with ⟨q1,q2⟩|⟨q1,q2⟩
  ·have:=hS.u1 k k2 q1
   omega
  ·rcases uR (own o k) with ⟨p,p1,p2,p3⟩|⟨p1,p3⟩
   ·have:=ho.inj (A p) k (h.le p (by omega)) k2 p2 (hO p p1)
    rw [(hR.doneD k).2 ⟨p,p1,this⟩] at q1
    cases q1
   ·omega
 ·intro k k1 k2
  rw [ev]
  have h0:=h.vneg k k1 k2
  rcases vR k k2 with ⟨q1,q2⟩|⟨q1,q2⟩<;>omega
 ·intro k k1 k2 hk
  rw [ev]
  have h0:=h.vfree k k1 k2 hk
  rcases vR k k2 with ⟨q1,q2⟩|⟨q1,q2⟩
  ·obtain ⟨p,p1,p2⟩:=(hR.doneD k).1 q1
   have:=hO p p1
   rw [p2] at this
   exact absurd hk this
  ·omega
 ·intro r r1 r2
  rw [eu]
  have h0:=h.upos r r1 r2
  rcases uR r with ⟨p,p1,p2,p3⟩|⟨p1,p3⟩<;>omega
 ·intro r hr1
  rw [eu]
  rcases uR r with ⟨p,p1,p2,p3⟩|⟨p1,p3⟩
  ·have:=ho.lt (h.le p (by omega));omega
  ·rw [p3];exact h.uz r hr1
 ·intro k k1 k2 hk p hp
  rw [ed] at hk
  rw [eu,ev,el,hS.least k k2 hk,uP p hp,hS.v0 k hk]
  have:=hR.least k k1 k2 hk p hp
  omega
 ·intro k k1 k2 hk
  rw [ed] at hk
  obtain ⟨p,p1,p2,p3⟩:=hR.leastE k k1 k2 hk
  refine .inr ⟨p,p1,by rw [ew];exact p2,?_⟩
  rw [eu,ev,el,hS.least k k2 hk,uP p p1,hS.v0 k hk]
  omega
 ·intro p p1 hp
  rw [eu,ev,ew]
  rcases Nat.lt_or_ge p (t+1) with h3|h3
  ·obtain ⟨q,q1,q2,q3⟩:=h.path p p1 (by omega)
   have hd:=(hR.doneD (A p)).2 ⟨p,h3,rfl⟩
   refine ⟨q,q1,?_,?_⟩
   ·unfold own
    rw [hR.way _ hd];exact q2
   ·rw [uP q (by omega),hS.v1 _ (h.le p (by omega)) hd]
    omega
  ·obtain rfl:p=t+1:=by omega
   obtain ⟨q,q1,q2,q3⟩:=hR.leastE s.next hR.next.1 hR.next.2 hR.newN
   refine ⟨q,q1,by rw [hA];exact q2,?_⟩
   rw [hA,uP q q1,hS.v0 _ hR.newN]
   have:=hR.dn
   omega
end
end Go.Hun
namespace Go.Hun
open Go.Vm
section
variable {costs:List (List Int)} {n m i:Nat} {s:Stt} {B:Int}
theorem own_set {l:List Ix} {j k x:Nat} (h:j<l.length):own (l.set j ⟨x⟩) k=if j=k then x else own l k:=by
 unfold own
 rw [gs h]
 split<;>rfl
theorem gi_rep {α:Type} [Inhabited α] {a:α} {n i:Nat} (h:i<n):gi (List.replicate n a) i=a:=gi_replicate h
theorem gi_repz {n:Nat} (i:Nat):gi (List.replicate n (0:Int)) i=0:=by
 unfold gi
 rw [List.getElem?_replicate]
 split<;>rfl
theorem st_ow (h:StI costs n m i s):OwI m i (stO s (i+1)):=by
 have e:∀ k,own (stO s (i+1)) k=if 0=k then i+1 else own s.owner k:=fun k=>own_set (by rw [h.lo];omega)
 refine ⟨by unfold stO;simp [h.lo],by rw [e];rfl,fun k k1 k2=>?_,fun k j k1 k2=>?_⟩
 ·rw [e,if_neg (by omega)];exact h.own k k1 k2
 ·rw [e,e]
  intro h1 h2
  by_cases a:0=k<;>by_cases b:0=j
  ·omega
  ·rw [if_pos a,if_neg b] at h1
   have:=h.own j (by omega) k2;omega
  ·rw [if_neg a,if_pos b] at h1
   have:=h.own k (by omega) k1;omega
  ·rw [if_neg a,if_neg b] at h1
   rw [if_neg a] at h2
   exact h.inj k j (by omega) k1 (by omega) k2 h1 h2
def stAt (costs:List (List Int)) (m i:Nat) (s:Stt) (p:Nat):Nat:=(growK costs (stO s (i+1)) m (stG m s) p).at_
theorem st_gr0 (h:StI costs n m i s) (hc:CostI costs n m B) (hi:i<n):GrI costs n m i (stO s (i+1)) (stAt costs m i s) 0 (growK costs (stO s (i+1)) m (stG m s) 0):=by
 have ho:=st_ow h
 have eo:∀ k,own (stO s (i+1)) k=if 0=k then i+1 else own s.owner k:=fun k=>own_set (by rw [h.lo];omega)
 have nd:∀ k,gi (List.replicate (m+1) false) k=false:=fun k=>by
  unfold gi
  rw [List.getElem?_replicate]
  split<;>rfl
 refine ⟨h.lu,h.lv,h.lw,by simp [growK,stG],by simp [growK,stG],rfl,fun p hp=>?_,rfl,fun p p1 p2=>by omega,fun k=>?_,nd _,fun p hp=>by omega,?_,?_,h.vneg,?_,?_,?_,fun k _ _ _ p hp=>by omega,fun k k1 k2 _=>.inl ⟨rfl,?_⟩,fun p p1 p2=>by omega⟩
 ·obtain rfl:p=0:=by omega
  exact Nat.zero_le _
 ·constructor
  ·intro hk
   have:gi (List.replicate (m+1) false) k=true:=hk
   rw [nd] at this;cases this
  ·rintro ⟨p,hp,_⟩;omega
 ·intro r k r1 r2 k1 k2
  show gi s.u r+gi s.v k≤_
  rcases Nat.lt_or_ge r (i+1) with h3|h3
  ·exact h.feas r k r1 (by omega) k1 k2
  ·have:=h.uz r (by omega)
   have:=h.vneg k k1 k2
   have:=hc.lo r k
   omega
 ·intro k k1 k2
  rw [eo,if_neg (by omega)]
  exact h.tight k k1 k2
 ·intro k k1 k2
  rw [eo,if_neg (by omega)]
  exact h.vfree k k1 k2
 ·intro r r1 r2
  show 0≤gi s.u r
  rcases Nat.lt_or_ge r (i+1) with h3|h3
  ·exact h.upos r r1 (by omega)
  ·rw [h.uz r (by omega)];omega
 ·intro r hr
  exact h.uz r (by omega)
 ·exact gi_rep (by omega)
theorem st_gr (h:StI costs n m i s) (hc:CostI costs n m B) (hi:i<n):∀ t,(∀ p,p<t→own (stO s (i+1)) (stAt costs m i s p)≠0)→GrI costs n m i (stO s (i+1)) (stAt costs m i s) t (growK costs (stO s (i+1)) m (stG m s) t)
 |0,_=>st_gr0 h hc hi
 |t+1,hp=>(st_gr h hc hi t fun p hp'=>hp p (by omega)).step hc (st_ow h) hi (hp t (by omega)) rfl
theorem growN_spec (o:List Ix) (g0:Gr):∀ f t,(∀ p,p<t→own o (growK costs o m g0 p).at_≠0) →
 (∀ p,p<growN costs o m g0 f t→own o (growK costs o m g0 p).at_≠0)∧(own o (growK costs o m g0 (growN costs o m g0 f t)).at_=0∨growN costs o m g0 f t=t+f)∧growN costs o m g0 f t≤t+f
 |0,t,h=>⟨h,.inr rfl,Nat.le_refl _⟩
 |f+1,t,h=>by
  unfold growN
  by_cases e:(gi o (growK costs o m g0 t).at_).n=0
  ·rw [if_pos e];exact ⟨h,.inl e,by omega⟩
  ·rw [if_neg e]
   obtain ⟨a,b,c⟩:=growN_spec o g0 f (t+1) fun p hp=>by
    rcases Nat.lt_or_ge p t with h3|h3
    ·exact h p h3
    ·obtain rfl:p=t:=by omega
     exact e
   exact ⟨a,by rcases b with b|b;exact .inl b;exact .inr (by omega),by omega⟩
theorem GrI.ne {o:List Ix} {A:Nat→Nat} {p q:Nat} {g:Gr} (h:GrI costs n m i o A p g) (hq:q<p):A q≠A p:=fun e=>by
 have:=(h.done (A p)).2 ⟨q,hq,e⟩
 rw [h.new] at this;cases this
theorem st_end (h:StI costs n m i s) (hc:CostI costs n m B) (hi:i<n):(∀ p,p<stT costs m s (i+1)→own (stO s (i+1)) (stAt costs m i s p)≠0)∧own (stO s (i+1)) (stAt costs m i s (stT costs m s (i+1)))=0∧stT costs m s (i+1)≤m+1:=by
 obtain ⟨a,b,c⟩:=growN_spec (costs:=costs) (m:=m) (stO s (i+1)) (stG m s) (m+2) 0 (fun p hp=>by omega)
 have e:stT costs m s (i+1)=growN costs (stO s (i+1)) m (stG m s) (m+2) 0:=rfl
 rw [← e] at a b c
 have hlt:stT costs m s (i+1)≠m+2:=fun e2=>by
  have:=pigeon (m+1) (m+2) (stAt costs m i s) (fun k hk=>by
   have:=(st_gr h hc hi k fun p hp=>a p (by omega)).le k (Nat.le_refl _)
   omega) (fun k j hk hj hkj=>by
   rcases Nat.lt_trichotomy k j with h3|h3|h3
   ·exact absurd hkj ((st_gr h hc hi j fun p hp=>a p (by omega)).ne h3)
   ·exact h3
   ·exact absurd hkj.symm ((st_gr h hc hi k fun p hp=>a p (by omega)).ne h3))
  omega
 refine ⟨a,?_,by omega⟩
 rcases b with b|b
 ·exact b
 ·omega
structure AugI (costs:List (List Int)) (m i:Nat) (u v:List Int) (o:List Ix) (A:Nat→Nat) (q:Nat) (a:Aug):Prop where
 len:a.owner.length=m+1
 at_:a.at_=A q
 tight:∀ k,1≤k→k≤m→k≠a.at_→own a.owner k≠0→gi u (own a.owner k)+gi v k=cst costs (own a.owner k) k
 inj:∀ k e,k≤m→e≤m→k≠a.at_→e≠a.at_→own a.owner k=own a.owner e→own a.owner k≠0→k=e
 all:∀ r,1≤r→r≤i+1→∃ k,k≤m∧k≠a.at_∧own a.owner k=r
 same:∀ p,p<q→own a.owner (A p)=own o (A p)
 free:∀ k,1≤k→k≤m→k≠a.at_→own a.owner k=0→gi v k=0
 le:∀ k,k≤m→own a.owner k≤i+1
theorem AugI.step {o:List Ix} {A:Nat→Nat} {T q:Nat} {g:Gr} {a:Aug} (h:AugI costs m i g.u g.v o A q a) (hg:GrI costs n m i o A T g) (hne:∀ p q,q<p→p≤T→A q≠A p) (hq:1≤q) (hqT:q≤T):∃ q',q'<q∧AugI costs m i g.u g.v o A q' (augS g.way a):=by
 obtain ⟨q',q1,q2,q3⟩:=hg.path q hq hqT
 have ew:(gi g.way a.at_).n=A q':=by rw [h.at_];exact q2
 have hle:=hg.le q hqT
 have hle':=hg.le q' (by omega)
 have hab:A q'≠A q:=hne q q' q1 hqT
 have eo:∀ k,own (augS g.way a).owner k=if A q=k then own a.owner (A q') else own a.owner k:=fun k=>by
  unfold augS own
  simp only
  rw [gs (by rw [h.len,h.at_];omega),h.at_]
  rw [show gi g.way (A q)=⟨A q'⟩ from by
   have:own g.way (A q)=A q':=q2
   unfold own at this
   rw [← this]]
  split<;>rfl
 have ea:(augS g.way a).at_=A q':=by
  unfold augS;simp only;exact ew
 have hs:=h.same q' q1
 refine ⟨q',q1,by unfold augS;simp [h.len],ea,fun k k1 k2 k3=>?_,fun k e k1 k2 k3 k4=>?_,fun r r1 r2=>?_,fun p hp=>?_,fun k k1 k2 k3=>?_,fun k hk=>?_⟩
 ·rw [eo]
  rw [ea] at k3
  by_cases e:A q=k
  ·subst e
   rw [if_pos rfl,hs]
   intro _;exact q3
  ·rw [if_neg e]
   exact h.tight k k1 k2 (by rw [h.at_];exact fun x=>e x.symm)
 ·rw [ea] at k3 k4
  rw [eo,eo]
  have d1:A q'≠a.at_:=by rw [h.at_];exact hab
  by_cases e1:A q=k<;>by_cases e2:A q=e
  ·intro _ _;omega
  ·rw [if_pos e1,if_neg e2]
   intro x y
   have:=h.inj (A q') e hle' k2 d1 (by rw [h.at_];exact fun z=>e2 z.symm) x y
   exact absurd this.symm k4
  ·rw [if_neg e1,if_pos e2]
   intro x y
   have:=h.inj k (A q') k1 hle' (by rw [h.at_];exact fun z=>e1 z.symm) d1 x y
   exact absurd this k3
  ·rw [if_neg e1,if_neg e2]
   intro x y
   exact h.inj k e k1 k2 (by rw [h.at_];exact fun z=>e1 z.symm) (by rw [h.at_];exact fun z=>e2 z.symm) x y
 ·obtain ⟨k,k1,k2,k3⟩:=h.all r r1 r2
  rw [h.at_] at k2
  by_cases e:k=A q'
  ·refine ⟨A q,hle,by rw [ea];exact fun x=>hab x.symm,?_⟩
   rw [eo,if_pos rfl,← e];exact k3
  ·refine ⟨k,k1,by rw [ea];exact e,?_⟩
   rw [eo,if_neg (fun x=>k2 x.symm)];exact k3
 ·rw [eo,if_neg (fun x=>hne q p (by omega) hqT x.symm)]
  exact h.same p (by omega)
 ·rw [eo]
  rw [ea] at k3
  by_cases e:A q=k
  ·rw [if_pos e,hs]
   intro x
   exact absurd x (hg.ownD q' (by omega))
  ·rw [if_neg e]
   exact h.free k k1 k2 (by rw [h.at_];exact fun x=>e x.symm)
 ·rw [eo]
  split
  ·exact h.le _ hle'
  ·exact h.le k hk
theorem augN_spec (way:List Ix) (a:Aug):∀ f t,(∀ p,p<t→(augK way a p).at_≠0) →
 (∀ p,p<augN way a f t→(augK way a p).at_≠0)∧((augK way a (augN way a f t)).at_=0∨augN way a f t=t+f)∧augN way a f t≤t+f
 |0,t,h=>⟨h,.inr rfl,Nat.le_refl _⟩
 |f+1,t,h=>by
  unfold augN
  by_cases e:(augK way a t).at_=0
  ·rw [if_pos e];exact ⟨h,.inl e,by omega⟩
  ·rw [if_neg e]
   obtain ⟨x,b,c⟩:=augN_spec way a f (t+1) fun p hp=>by
    rcases Nat.lt_or_ge p t with h3|h3
    ·exact h p h3
    ·obtain rfl:p=t:=by omega
     exact e
   exact ⟨x,by rcases b with b|b;exact .inl b;exact .inr (by omega),by omega⟩
structure BackI (costs:List (List Int)) (m:Nat) (s:Stt) (i:Nat):Prop where
 go:∀ t,t<stU costs m s (i+1)→(augK (stE costs m s (i+1)).way (stA costs m s (i+1)) t).at_≠0
 fin:(augK (stE costs m s (i+1)).way (stA costs m s (i+1)) (stU costs m s (i+1))).at_=0
 inv:∀ t,t≤stU costs m s (i+1)→∃ q,q+t≤stT costs m s (i+1)∧AugI costs m i (stE costs m s (i+1)).u (stE costs m s (i+1)).v (stO s (i+1)) (stAt costs m i s) q (augK (stE costs m s (i+1)).way (stA costs m s (i+1)) t)
theorem st_back (h:StI costs n m i s) (hc:CostI costs n m B) (hi:i<n):BackI costs m s i:=by
 obtain ⟨a,b,c⟩:=st_end h hc hi
 have ho:=st_ow h
 have hg:=st_gr h hc hi (stT costs m s (i+1)) a
 have eE:growK costs (stO s (i+1)) m (stG m s) (stT costs m s (i+1))=stE costs m s (i+1):=rfl
 rw [eE] at hg
 have hne:∀ p q,q<p→p≤stT costs m s (i+1)→stAt costs m i s q≠stAt costs m i s p:=fun p q h1 h2=>(st_gr h hc hi p fun p' hp'=>a p' (by omega)).ne h1
 have eA:stA costs m s (i+1)=⟨stO s (i+1),stAt costs m i s (stT costs m s (i+1))⟩:=rfl
 have i0:AugI costs m i (stE costs m s (i+1)).u (stE costs m s (i+1)).v (stO s (i+1)) (stAt costs m i s) (stT costs m s (i+1)) (stA costs m s (i+1)):=by
  rw [eA]
  refine ⟨ho.len,rfl,fun k k1 k2 _=>hg.tight k k1 k2,fun k e k1 k2 _ _=>ho.inj k e k1 k2,fun r r1 r2=>?_,fun _ _=>rfl,fun k k1 k2 _=>hg.vfree k k1 k2,fun k hk=>ho.lt hk⟩
  have nz:∀ k,own (stO s (i+1)) k=r→k≠stAt costs m i s (stT costs m s (i+1)):=fun k hk e=>by rw [e,b] at hk;omega
  rcases Nat.lt_or_ge r (i+1) with h3|h3
  ·obtain ⟨k,k1,k2,k3⟩:=h.all r r1 (by omega)
   have:own (stO s (i+1)) k=r:=by
    unfold stO
    rw [own_set (by rw [h.lo];omega),if_neg (by omega)];exact k3
   exact ⟨k,k2,nz k this,this⟩
  ·have:own (stO s (i+1)) 0=r:=by rw [ho.zero];omega
   exact ⟨0,Nat.zero_le _,nz 0 this,this⟩
 have inv:∀ t,(∀ p,p<t→(augK (stE costs m s (i+1)).way (stA costs m s (i+1)) p).at_≠0)→∃ q,q+t≤stT costs m s (i+1)∧AugI costs m i (stE costs m s (i+1)).u (stE costs m s (i+1)).v (stO s (i+1)) (stAt costs m i s) q (augK (stE costs m s (i+1)).way (stA costs m s (i+1)) t):=by
  intro t
  induction t with
  |zero=>intro _;exact ⟨_,Nat.le_refl _,i0⟩
  |succ t ih =>
   intro hp
   obtain ⟨q,q1,q2⟩:=ih fun p hp'=>hp p (by omega)
   have h0:=hp t (by omega)
   have hq:1≤q:=by
    rcases Nat.eq_zero_or_pos q with e|e
    ·subst e
     rw [q2.at_,hg.zero] at h0;exact absurd rfl h0
    ·exact e
   obtain ⟨q',x1,x2⟩:=q2.step hg hne hq (by omega)
   exact ⟨q',by omega,x2⟩
 obtain ⟨x,y,z⟩:=augN_spec (stE costs m s (i+1)).way (stA costs m s (i+1)) (m+2) 0 (fun p hp=>by omega)
 have e:stU costs m s (i+1)=augN (stE costs m s (i+1)).way (stA costs m s (i+1)) (m+2) 0:=rfl
 rw [← e] at x y z
 refine ⟨x,?_,fun t ht=>inv t fun p hp=>x p (by omega)⟩
 rcases y with y|y
 ·exact y
 ·obtain ⟨q,q1,_⟩:=inv (stU costs m s (i+1)) x
  omega
theorem StI.step (h:StI costs n m i s) (hc:CostI costs n m B) (hi:i<n):StI costs n m (i+1) (stageS costs m s (i+1)):=by
 obtain ⟨a,b,c⟩:=st_end h hc hi
 have hg:=st_gr h hc hi (stT costs m s (i+1)) a
 have eE:growK costs (stO s (i+1)) m (stG m s) (stT costs m s (i+1))=stE costs m s (i+1):=rfl
 rw [eE] at hg
 obtain ⟨_,fin,inv⟩:=st_back h hc hi
 obtain ⟨q,_,hA⟩:=inv _ (Nat.le_refl _)
 have e1:(stageS costs m s (i+1)).u=(stE costs m s (i+1)).u:=rfl
 have e2:(stageS costs m s (i+1)).v=(stE costs m s (i+1)).v:=rfl
 have e3:(stageS costs m s (i+1)).owner=(augK (stE costs m s (i+1)).way (stA costs m s (i+1)) (stU costs m s (i+1))).owner:=rfl
 have e4:(stageS costs m s (i+1)).way=(stE costs m s (i+1)).way:=rfl
 generalize stageS costs m s (i+1)=S at *
 generalize augK (stE costs m s (i+1)).way (stA costs m s (i+1)) (stU costs m s (i+1))=a' at *
 refine ⟨by rw [e1];exact hg.lu,by rw [e2];exact hg.lv,by rw [e3];exact hA.len,by rw [e4];exact hg.lw,fun k k1 k2=>by rw [e3];exact hA.le k k2,fun r r1 r2=>?_,fun k e k1 k2 k3 k4=>?_,fun r k r1 r2 k1 k2=>by rw [e1,e2];exact hg.feas r k r1 r2 k1 k2,fun k k1 k2=>?_,fun k k1 k2=>by rw [e2];exact hg.vneg k k1 k2,fun k k1 k2=>?_,fun r r1 r2=>by rw [e1];exact hg.upos r r1 r2,fun r hr=>by rw [e1];exact hg.uz r hr⟩
 ·obtain ⟨k,k1,k2,k3⟩:=hA.all r r1 r2
  rw [fin] at k2
  exact ⟨k,by omega,k1,by rw [e3];exact k3⟩
 ·rw [e3]
  exact hA.inj k e k2 k4 (by omega) (by omega)
 ·rw [e1,e2,e3]
  exact hA.tight k k1 k2 (by omega)
 ·rw [e2,e3]
  exact hA.free k k1 k2 (by omega)
theorem stage0:StI costs n m 0 (stageK costs n m 0):=by
 have z:∀ k,own (List.replicate (m+1) (⟨0⟩:Ix)) k=0:=fun k=>by
  unfold own gi
  rw [List.getElem?_replicate]
  split<;>rfl
 refine ⟨by simp [stageK],by simp [stageK],by simp [stageK],by simp [stageK],fun k _ _=>?_,fun r h1 h2=>by omega,fun k e _ _ _ _ _ h=>absurd (z k) h,fun r k h1 h2=>by omega,fun k _ _ h=>absurd (z k) h,fun k _ _=>?_,fun k _ _ _=>?_,fun r h1 h2=>by omega,fun r _=>?_⟩
 ·show own (List.replicate (m+1) (⟨0⟩:Ix)) k≤0
  rw [z];exact Nat.le_refl _
 ·show gi (List.replicate (m+1) (0:Int)) k≤0
  rw [gi_repz];omega
 ·show gi (List.replicate (m+1) (0:Int)) k=0
  exact gi_repz k
 ·show gi (List.replicate (n+1) (0:Int)) r=0
  exact gi_repz r
theorem stage_ok (hc:CostI costs n m B):∀ i,i≤n→StI costs n m i (stageK costs n m i)
 |0,_=>stage0
 |i+1,hi=>(stage_ok hc i (by omega)).step hc (by omega)
end
end Go.Hun
namespace Go.Hun
open Go.Vm
def sumN (f:Nat→Int):Nat→Int
 |0=>0
 |k+1=>sumN f k+f k
theorem sumN_congr {f g:Nat→Int}:∀ {n:Nat},(∀ k,k<n→f k=g k)→sumN f n=sumN g n
 |0,_=>rfl
 |n+1,h=>by simp only [sumN];rw [sumN_congr fun k hk=>h k (by omega),h n (by omega)]
theorem sumN_le {f g:Nat→Int}:∀ {n:Nat},(∀ k,k<n→f k≤g k)→sumN f n≤sumN g n
 |0,_=>Int.le_refl _
 |n+1,h=>by
  simp only [sumN]
  have:=sumN_le (f:=f) (g:=g) (n:=n) fun k hk=>h k (by omega)
  have:=h n (by omega)
  omega
theorem sumN_add (f g:Nat→Int):∀ n,sumN (fun k=>f k+g k) n=sumN f n+sumN g n
 |0=>rfl
 |n+1=>by simp only [sumN];rw [sumN_add f g n];omega
theorem sumN_zero {f:Nat→Int}:∀ {n:Nat},(∀ k,k<n→f k=0)→sumN f n=0
 |0,_=>rfl
 |n+1,h=>by simp only [sumN];rw [sumN_zero fun k hk=>h k (by omega),h n (by omega)];rfl
theorem sumN_const (c:Int):∀ n:Nat,sumN (fun _=>c) n=n*c
 |0=>by simp [sumN]
 |n+1=>by
  simp only [sumN];rw [sumN_const c n]
  push_cast
  rw [Int.add_mul,Int.one_mul]
theorem sumN_bound {f:Nat→Int} {a b:Int}:∀ {n:Nat},(∀ k,k<n→a≤f k∧f k≤b)→n*a≤sumN f n∧sumN f n≤n*b:=fun {n} h=>by
 have h1:=sumN_le (f:=fun _=>a) (g:=f) (n:=n) fun k hk=>(h k hk).1
 have h2:=sumN_le (f:=f) (g:=fun _=>b) (n:=n) fun k hk=>(h k hk).2
 rw [sumN_const] at h1 h2
 exact ⟨h1,h2⟩
theorem sumN_part {f:Nat→Int} {j:Nat}:∀ {n:Nat},j<n→sumN f n=f j+sumN (fun k=>if k=j then 0 else f k) n
 |n+1,h=>by
  simp only [sumN]
  by_cases e:j=n
  ·subst e
   rw [if_pos rfl,sumN_congr (f:=fun k=>if k=j then 0 else f k) (g:=f) fun k hk=>if_neg (by omega)]
   omega
  ·rw [if_neg (fun x=>e x.symm),sumN_part (f:=f) (j:=j) (n:=n) (by omega)]
   omega
theorem sum_inj:∀ (n m:Nat) (κ:Nat→Nat) (f:Nat→Int),(∀ r,r<n→κ r<m)→(∀ r q,r<n→q<n→κ r=κ q→r=q)→(∀ k,k<m→(∀ r,r<n→κ r≠k)→f k=0)→sumN f m=sumN (fun r=>f (κ r)) n
 |0,m,κ,f,h1,h2,h3=>sumN_zero fun k hk=>h3 k hk fun r hr=>by omega
 |n+1,m,κ,f,h1,h2,h3=>by
  rw [sumN_part (h1 n (by omega))]
  have ih:=sum_inj n m κ (fun k=>if k=κ n then 0 else f k) (fun r hr=>h1 r (by omega)) (fun r q hr hq=>h2 r q (by omega) (by omega)) fun k hk hn=>by
   by_cases e:k=κ n
   ·simp only [if_pos e]
   ·simp only [if_neg e]
    refine h3 k hk fun r hr=>?_
    rcases Nat.lt_or_ge r n with h|h
    ·exact hn r h
    ·obtain rfl:r=n:=by omega
     exact fun x=>e x.symm
  rw [ih]
  simp only [sumN]
  rw [sumN_congr (n:=n) (f:=fun r=>if κ r=κ n then 0 else f (κ r)) (g:=fun r=>f (κ r)) fun r hr=>if_neg fun e=>by have:=h2 r n (by omega) (by omega) e;omega]
  omega
theorem sum_some:∀ (n m:Nat) (κ:Nat→Nat) (f:Nat→Int),(∀ r q,r<n→q<n→κ r<m→κ r=κ q→r=q)→(∀ k,k<m→f k≤0)→sumN f m≤sumN (fun r=>if κ r<m then f (κ r) else 0) n
 |0,m,κ,f,h2,h3=>by
  have:=sumN_le (f:=f) (g:=fun _=>0) (n:=m) h3
  rw [sumN_const] at this
  simp only [sumN];omega
 |n+1,m,κ,f,h2,h3=>by
  simp only [sumN]
  by_cases hk:κ n<m
  ·rw [if_pos hk,sumN_part hk]
   have ih:=sum_some n m κ (fun k=>if k=κ n then 0 else f k) (fun r q hr hq=>h2 r q (by omega) (by omega)) fun k hk=>by
    by_cases e:k=κ n
    ·simp only [if_pos e];omega
    ·simp only [if_neg e];exact h3 k hk
   have e2:sumN (fun r=>if κ r<m then (if κ r=κ n then 0 else f (κ r)) else 0) n=sumN (fun r=>if κ r<m then f (κ r) else 0) n:=sumN_congr fun r hr=>by
    by_cases h:κ r<m
    ·rw [if_pos h,if_pos h,if_neg fun e=>by have:=h2 r n (by omega) (by omega) h e;omega]
    ·rw [if_neg h,if_neg h]
   rw [e2] at ih
   omega
  ·rw [if_neg hk]
   have ih:=sum_some n m κ f (fun r q hr hq=>h2 r q (by omega) (by omega)) h3
   omega
section
variable {costs:List (List Int)} {n m:Nat} {B:Int}
structure OutI (costs:List (List Int)) (n:Nat) (o:List Ix) (j:Nat) (x:Out):Prop where
 len:x.cols.length=n
 cols:∀ k,1≤k→k≤j→0<own o k→gi x.cols (own o k-1)=(k:Int)-1
 total:x.total=sumN (fun k=>if 0<own o (k+1) then cst costs (own o (k+1)) (k+1) else 0) j
theorem out_spec {s:Stt} (h:StI costs n m n s):∀ j,j≤m→OutI costs n s.owner j (outK costs s.owner n j)
 |0,_=>⟨by simp [outK],fun k k1 k2=>by omega,rfl⟩
 |j+1,hj=>by
  obtain ⟨i1,i2,i3⟩:=out_spec h j (by omega)
  have e:outK costs s.owner n (j+1)=outS costs s.owner (outK costs s.owner n j) (j+1):=rfl
  rw [e]
  generalize outK costs s.owner n j=x at *
  unfold outS
  have e2:(gi s.owner (j+1)).n=own s.owner (j+1):=rfl
  simp only [e2]
  by_cases hp:0<own s.owner (j+1)
  ·rw [if_pos hp]
   have hle:=h.own (j+1) (by omega) hj
   refine ⟨by simp [i1],fun k k1 k2 k3=>?_,?_⟩
   ·show gi (x.cols.set (own s.owner (j+1)-1) (((j+1:Nat):Int)-1)) _=_
    rw [gs (by omega)]
    by_cases e:k=j+1
    ·subst e;rw [if_pos rfl]
    ·rw [if_neg,i2 k k1 (by omega) k3]
     intro e3
     have:=h.inj k (j+1) k1 (by omega) (by omega) hj (by omega) (by omega)
     omega
   ·simp only [sumN]
    rw [if_pos hp,i3]
    unfold cst
    rfl
  ·rw [if_neg hp]
   refine ⟨i1,fun k k1 k2 k3=>?_,?_⟩
   ·by_cases e:k=j+1
    ·subst e;exact absurd k3 hp
    ·exact i2 k k1 (by omega) k3
   ·simp only [sumN]
    rw [if_neg hp,i3];omega
def solveO (costs:List (List Int)) (n m:Nat):Out:=outK costs (stageK costs n m n).owner n m
def solveU (costs:List (List Int)) (n m:Nat):List Int:=(stageK costs n m n).u.drop 1
def solveV (costs:List (List Int)) (n m:Nat):List Int:=(stageK costs n m n).v.drop 1
theorem gi_drop {α:Type} [Inhabited α] (l:List α) (j k:Nat):gi (l.drop j) k=gi l (j+k):=by
 unfold gi;rw [List.getElem?_drop]
structure SolveI (c:Nat→Nat→Int) (n m:Nat) (B:Int) (x:Out) (U V:List Int):Prop where
 len:x.cols.length=n
 lU:U.length=n
 lV:V.length=m
 col:∀ r,r<n→0≤gi x.cols r∧gi x.cols r<m
 inj:∀ r q,r<n→q<n→gi x.cols r=gi x.cols q→r=q
 total:x.total=sumN (fun r=>c r (gi x.cols r).toNat) n
 feas:∀ r k,r<n→k<m→gi U r+gi V k≤c r k
 neg:∀ k,k<m→-B≤gi V k∧gi V k≤0
 pos:∀ r,r<n→0≤gi U r∧gi U r≤B
 dual:x.total=sumN (fun r=>gi U r) n+sumN (fun k=>gi V k) m
 free:∀ k,k<m→(∀ r,r<n→gi x.cols r≠k)→gi V k=0
theorem solve_ok (hc:CostI costs n m B):SolveI (fun r k=>gi (gi costs r) k) n m B (solveO costs n m) (solveU costs n m) (solveV costs n m):=by
 have h:=stage_ok hc n (Nat.le_refl _)
 have hO:=out_spec h m (Nat.le_refl _)
 have e1:outK costs (stageK costs n m n).owner n m=solveO costs n m:=rfl
 have e2:(stageK costs n m n).u.drop 1=solveU costs n m:=rfl
 have e3:(stageK costs n m n).v.drop 1=solveV costs n m:=rfl
 rw [e1] at hO
 have hu:∀ r,gi (solveU costs n m) r=gi (stageK costs n m n).u (r+1):=fun r=>by rw [← e2,gi_drop,Nat.add_comm]
 have hv:∀ k,gi (solveV costs n m) k=gi (stageK costs n m n).v (k+1):=fun k=>by rw [← e3,gi_drop,Nat.add_comm]
 have lU:(solveU costs n m).length=n:=by rw [← e2,List.length_drop,h.lu];omega
 have lV:(solveV costs n m).length=m:=by rw [← e3,List.length_drop,h.lv];omega
 generalize solveU costs n m=U at *
 generalize solveV costs n m=V at *
 generalize solveO costs n m=x at *
 generalize stageK costs n m n=s at *
 have hb:=hc.big
 have hnm:=hc.nm
 have hcol:∀ r,r<n→∃ k,1≤k∧k≤m∧own s.owner k=r+1∧gi x.cols r=(k:Int)-1:=fun r hr=>by
  obtain ⟨k,k1,k2,k3⟩:=h.all (r+1) (by omega) (by omega)
  have:=hO.cols k k1 k2 (by omega)
  rw [k3,Nat.add_sub_cancel] at this
  exact ⟨k,k1,k2,k3,this⟩
 have hown:∀ r,r<n→own s.owner ((gi x.cols r).toNat+1)=r+1∧(gi x.cols r).toNat<m:=fun r hr=>by
  obtain ⟨k,k1,k2,k3,k4⟩:=hcol r hr
  have:(gi x.cols r).toNat+1=k:=by omega
  rw [this];exact ⟨k3,by omega⟩
 have hinj:∀ r q,r<n→q<n→(gi x.cols r).toNat=(gi x.cols q).toNat→r=q:=fun r q hr hq e=>by
  have h1:=(hown r hr).1
  have h2:=(hown q hq).1
  rw [e] at h1;omega
 have hfree:∀ k,k<m→(∀ r,r<n→(gi x.cols r).toNat≠k)→own s.owner (k+1)=0:=fun k hk hn=>by
  rcases Nat.eq_zero_or_pos (own s.owner (k+1)) with e|e
  ·exact e
  ·have hle:=h.own (k+1) (by omega) (by omega)
   have:=hO.cols (k+1) (by omega) (by omega) e
   exact absurd (by omega) (hn (own s.owner (k+1)-1) (by omega))
 have ht:x.total=sumN (fun r=>gi (gi costs r) (gi x.cols r).toNat) n:=by
  rw [hO.total,sum_inj n m (fun r=>(gi x.cols r).toNat) _ (fun r hr=>(hown r hr).2) hinj fun k hk hn=>by
   rw [if_neg (by rw [hfree k hk hn];omega)]]
  refine sumN_congr fun r hr=>?_
  rw [(hown r hr).1,if_pos (by omega)]
  unfold cst
  rw [Nat.add_sub_cancel,Nat.add_sub_cancel]
 have hfe:∀ r k,r<n→k<m→gi U r+gi V k≤gi (gi costs r) k:=fun r k hr hk=>by
  rw [hu,hv]
  have:=h.feas (r+1) (k+1) (by omega) (by omega) (by omega) (by omega)
  unfold cst at this
  rwa [Nat.add_sub_cancel,Nat.add_sub_cancel] at this
 have hng:∀ k,k<m→gi V k≤0:=fun k hk=>by rw [hv];exact h.vneg (k+1) (by omega) (by omega)
 have hps:∀ r,r<n→0≤gi U r:=fun r hr=>by rw [hu];exact h.upos (r+1) (by omega) (by omega)
 have hf:∃ k,k<m∧own s.owner (k+1)=0:=by
  refine Classical.byContradiction fun hn=>?_
  have hn:∀ k,k<m→own s.owner (k+1)≠0:=fun k h1 h3=>hn ⟨k,h1,h3⟩
  have:=pigeon n m (fun k=>own s.owner (k+1)-1) (fun k hk=>by
   have h1:=hn k hk
   have h2:=h.own (k+1) (by omega) (by omega)
   show own s.owner (k+1)-1<n
   omega) (fun k e hk he hf=>by
   have h1:=hn k hk
   have h2:=hn e he
   have hf:own s.owner (k+1)-1=own s.owner (e+1)-1:=hf
   have:=h.inj (k+1) (e+1) (by omega) (by omega) (by omega) (by omega) (by omega) h1
   omega)
  omega
 obtain ⟨f,f1,f2⟩:=hf
 have fv:gi V f=0:=by rw [hv];exact h.vfree (f+1) (by omega) (by omega) f2
 have hub:∀ r,r<n→gi U r≤B:=fun r hr=>by
  have h1:=hfe r f hr f1
  have h2:=hc.hi (r+1) (f+1)
  unfold cst at h2
  rw [Nat.add_sub_cancel,Nat.add_sub_cancel] at h2
  omega
 have htight:∀ r,r<n→gi U r+gi V (gi x.cols r).toNat=gi (gi costs r) (gi x.cols r).toNat:=fun r hr=>by
  obtain ⟨h1,h2⟩:=hown r hr
  have:=h.tight ((gi x.cols r).toNat+1) (by omega) (by omega) (by omega)
  rw [h1] at this
  rw [hu,hv]
  unfold cst at this
  rwa [Nat.add_sub_cancel,Nat.add_sub_cancel] at this
 have hV0:∀ k,k<m→(∀ r,r<n→(gi x.cols r).toNat≠k)→gi V k=0:=fun k hk hn=>by
  rw [hv];exact h.vfree (k+1) (by omega) (by omega) (hfree k hk hn)
 refine ⟨hO.len,lU,lV,fun r hr=>?_,fun r q hr hq e=>hinj r q hr hq (by rw [e]),ht,hfe,fun k hk=>⟨?_,hng k hk⟩,fun r hr=>⟨hps r hr,hub r hr⟩,?_,fun k hk hn=>hV0 k hk fun r hr e=>hn r hr (by obtain ⟨j,j1,j2,j3,j4⟩:=hcol r hr;omega)⟩
 ·obtain ⟨k,k1,k2,k3,k4⟩:=hcol r hr
  omega
 ·by_cases e:own s.owner (k+1)=0
  ·rw [hv,h.vfree (k+1) (by omega) (by omega) e];omega
  ·have hle:=h.own (k+1) (by omega) (by omega)
   have h1:=h.tight (k+1) (by omega) (by omega) e
   have h2:=hub (own s.owner (k+1)-1) (by omega)
   rw [hu] at h2
   have h3:own s.owner (k+1)-1+1=own s.owner (k+1):=by omega
   rw [h3] at h2
   have h4:=hc.lo (own s.owner (k+1)) (k+1)
   rw [hv];omega
 ·rw [ht,sumN_congr (fun r hr=>(htight r hr).symm),sumN_add]
  congr 1
  rw [sum_inj n m (fun r=>(gi x.cols r).toNat) (fun k=>gi V k) (fun r hr=>(hown r hr).2) hinj hV0]
end
def rowC (l:List (List Int)) (skip:Int) (cols:Nat→Int) (r:Nat):Int:=if cols r<0 then skip else gi (gi l r) (cols r).toNat
structure PartI (n m:Nat) (cols:Nat→Int):Prop where
 rng:∀ r,r<n→-1≤cols r∧cols r<m
 inj:∀ r q,r<n→q<n→0≤cols r→cols r=cols q→r=q
structure PotI (l:List (List Int)) (n m:Nat) (skip:Int) (U V:Nat→Int):Prop where
 feas:∀ r k,r<n→k<m→U r+V k≤gi (gi l r) k
 skip:∀ r,r<n→U r≤skip
 neg:∀ k,k<m→V k≤0
theorem weak {l:List (List Int)} {n m:Nat} {skip:Int} {U V:Nat→Int} {cols:Nat→Int} (hp:PotI l n m skip U V) (hc:PartI n m cols):sumN U n+sumN V m≤sumN (rowC l skip cols) n:=by
 have h1:=sum_some n m (fun r=>if cols r<0 then m else (cols r).toNat) V (fun r q hr hq h e=>by
  by_cases a:cols r<0
  ·rw [if_pos a] at h;omega
  ·rw [if_neg a] at h e
   by_cases b:cols q<0
   ·rw [if_pos b] at e;omega
   ·rw [if_neg b] at e
    exact hc.inj r q hr hq (by omega) (by omega)) hp.neg
 have h2:=sumN_le (n:=n) (f:=fun r=>U r+(if (if cols r<0 then m else (cols r).toNat)<m then V (if cols r<0 then m else (cols r).toNat) else 0)) (g:=rowC l skip cols) fun r hr=>by
  unfold rowC
  have hr1:=hc.rng r hr
  by_cases a:cols r<0
  ·simp only [if_pos a]
   rw [if_neg (by omega)]
   have:=hp.skip r hr
   omega
  ·simp only [if_neg a]
   rw [if_pos (by omega)]
   exact hp.feas r _ hr (by omega)
 rw [sumN_add] at h2
 omega
def wideK (l:List (List Int)) (skip:Int) (n:Nat):List (List Int):=l.map fun row=>row++List.replicate (n+1) skip
theorem gi_map' {α β:Type} [Inhabited α] [Inhabited β] (f:α→β) {l:List α} {i:Nat} (h:i<l.length):gi (l.map f) i=f (gi l i):=by
 unfold gi;simp [List.getElem?_map,List.getElem?_eq_getElem h]
structure MatI (l:List (List Int)) (n m:Nat) (skip B:Int):Prop where
 len:l.length=n
 row:∀ r,r<n→(gi l r).length=m
 rng:∀ r k,r<n→k<m→0≤gi (gi l r) k∧gi (gi l r) k≤B
 skip:0≤skip∧skip≤B
 big:B≤1000000000000
theorem wide_at {l:List (List Int)} {n m:Nat} {skip B:Int} (h:MatI l n m skip B) {r k:Nat} (hr:r<n):gi (gi (wideK l skip n) r) k=if k<m then gi (gi l r) k else if k<m+(n+1) then skip else 0:=by
 unfold wideK
 rw [gi_map' _ (by rw [h.len];exact hr)]
 have:=h.row r hr
 unfold gi at this ⊢
 rw [List.getElem?_append]
 by_cases h1:k<m
 ·rw [if_pos (by omega),if_pos h1]
 ·rw [if_neg (by omega),if_neg h1,List.getElem?_replicate]
  by_cases h2:k<m+(n+1)
  ·rw [if_pos (by omega),if_pos h2];rfl
  ·rw [if_neg (by omega),if_neg h2];rfl
theorem wide_cost {l:List (List Int)} {n m:Nat} {skip B:Int} (h:MatI l n m skip B):CostI (wideK l skip n) n (m+(n+1)) B:=by
 have h0:=h.skip
 have hb:0≤B:=by omega
 have:∀ r k,0≤gi (gi (wideK l skip n) r) k∧gi (gi (wideK l skip n) r) k≤B:=fun r k=>by
  rcases Nat.lt_or_ge r n with h1|h1
  ·rw [wide_at h h1]
   split
   ·rename_i h2;exact h.rng r k h1 h2
   ·split
    ·exact h0
    ·omega
  ·have e:gi (wideK l skip n) r=default:=by
    unfold gi wideK
    rw [List.getElem?_eq_none (by rw [List.length_map,h.len];omega)];rfl
   rw [e]
   have:gi (default:List Int) k=0:=by
    show ((([]:List Int)[k]?).getD 0)=0
    simp
   rw [this];omega
 exact ⟨fun r k=>(this _ _).1,fun r k=>(this _ _).2,⟨hb,h.big⟩,by omega⟩
def cutC (m:Nat) (c:Int):Int:=if (m:Int)≤c then -1 else c
def parC (l:List (List Int)) (n m:Nat) (skip:Int):List Int:=(solveO (wideK l skip n) n (m+(n+1))).cols.map (cutC m)
def parT (l:List (List Int)) (n m:Nat) (skip:Int):Int:=(solveO (wideK l skip n) n (m+(n+1))).total
def parU (l:List (List Int)) (n m:Nat) (skip:Int):List Int:=solveU (wideK l skip n) n (m+(n+1))
def parV (l:List (List Int)) (n m:Nat) (skip:Int):List Int:=(solveV (wideK l skip n) n (m+(n+1))).take m
structure ParI (l:List (List Int)) (n m:Nat) (skip B:Int) (cols U V:List Int) (total:Int):Prop where
 lC:cols.length=n
 lU:U.length=n
 lV:V.length=m
 part:PartI n m (fun r=>gi cols r)
 tot:total=sumN (rowC l skip fun r=>gi cols r) n
 pot:PotI l n m skip (fun r=>gi U r) (fun k=>gi V k)
 dual:total=sumN (fun r=>gi U r) n+sumN (fun k=>gi V k) m
 posU:∀ r,r<n→0≤gi U r∧gi U r≤B
 negV:∀ k,k<m→-B≤gi V k∧gi V k≤0
theorem gi_take' {α:Type} [Inhabited α] (l:List α) {j k:Nat} (h:k<j):gi (l.take j) k=gi l k:=by
 unfold gi;rw [List.getElem?_take,if_pos h]
theorem sumN_split (f:Nat→Int) (m:Nat):∀ n,sumN f (m+n)=sumN f m+sumN (fun k=>f (m+k)) n
 |0=>by simp [sumN]
 |n+1=>by
  rw [← Nat.add_assoc]
  simp only [sumN]
  rw [sumN_split f m n];omega
theorem par_ok {l:List (List Int)} {n m:Nat} {skip B:Int} (h:MatI l n m skip B):ParI l n m skip B (parC l n m skip) (parU l n m skip) (parV l n m skip) (parT l n m skip):=by
 have hs:=solve_ok (wide_cost h)
 have eC:parC l n m skip=(solveO (wideK l skip n) n (m+(n+1))).cols.map (cutC m):=rfl
 have eT:parT l n m skip=(solveO (wideK l skip n) n (m+(n+1))).total:=rfl
 have eU:parU l n m skip=solveU (wideK l skip n) n (m+(n+1)):=rfl
 have eV:parV l n m skip=(solveV (wideK l skip n) n (m+(n+1))).take m:=rfl
 rw [eC,eT,eU,eV]
 generalize solveO (wideK l skip n) n (m+(n+1))=x at *
 generalize solveU (wideK l skip n) n (m+(n+1))=U at *
 generalize solveV (wideK l skip n) n (m+(n+1))=V at *
 obtain ⟨s1,s2,s3,s4,s5,s6,s7,s8,s9,s10,s11⟩:=hs
 have gC:∀ r,r<n→gi (x.cols.map (cutC m)) r=cutC m (gi x.cols r):=fun r hr=>gi_map' _ (by omega)
 have gV:∀ k,k<m→gi (V.take m) k=gi V k:=fun k hk=>gi_take' V hk
 have part:PartI n m (fun r=>gi (x.cols.map (cutC m)) r):=by
  refine ⟨fun r hr=>?_,fun r q hr hq h1 h2=>?_⟩
  ·rw [gC r hr]
   have:=s4 r hr
   unfold cutC;split<;>omega
  ·rw [gC r hr] at h1 h2
   rw [gC q hq] at h2
   refine s5 r q hr hq ?_
   have:=s4 q hq
   unfold cutC at h1 h2
   split at h2<;>split at h2<;>omega
 have tot:x.total=sumN (rowC l skip fun r=>gi (x.cols.map (cutC m)) r) n:=by
  rw [s6]
  refine sumN_congr fun r hr=>?_
  have:=s4 r hr
  show _=if gi (x.cols.map (cutC m)) r<0 then skip else gi (gi l r) (gi (x.cols.map (cutC m)) r).toNat
  rw [gC r hr,wide_at h hr]
  unfold cutC
  by_cases h1:(m:Int)≤gi x.cols r
  ·rw [if_pos h1,if_neg (by omega),if_pos (by omega),if_pos (by omega)]
  ·rw [if_neg h1,if_pos (by omega),if_neg (by omega)]
 have hsk:∀ r,r<n→gi U r≤skip:=fun r hr=>by
  have hx:∃ k,k<n+1∧∀ q,q<n→gi x.cols q≠((m+k:Nat):Int):=by
   refine Classical.byContradiction fun hn=>?_
   have hn:∀ k,k<n+1→∃ q,q<n∧gi x.cols q=((m+k:Nat):Int):=fun k hk=>Classical.byContradiction fun h2=>hn ⟨k,hk,fun q hq e=>h2 ⟨q,hq,e⟩⟩
   have hn':∀ k,∃ q,k<n+1→q<n∧gi x.cols q=((m+k:Nat):Int):=fun k=>by
    by_cases hk:k<n+1
    ·obtain ⟨q,hq⟩:=hn k hk;exact ⟨q,fun _=>hq⟩
    ·exact ⟨0,fun h=>absurd h hk⟩
   have hF:=fun k=>Classical.choose_spec (hn' k)
   have:=pigeon n (n+1) (fun k=>Classical.choose (hn' k)) (fun k hk=>(hF k hk).1) (fun k e hk he hf=>by
    have h1:=(hF k hk).2
    have h2:=(hF e he).2
    have hf:Classical.choose (hn' k)=Classical.choose (hn' e):=hf
    rw [hf,h2] at h1;omega)
   omega
  obtain ⟨k,k1,k2⟩:=hx
  have h1:=s7 r (m+k) hr (by omega)
  rw [wide_at h hr,if_neg (by omega),if_pos (by omega)] at h1
  have h0:=s11 (m+k) (by omega) k2
  omega
 have dual:sumN (fun k=>gi V k) (m+(n+1))≤sumN (fun k=>gi (V.take m) k) m:=by
  rw [sumN_split,sumN_congr (n:=m) (f:=fun k=>gi (V.take m) k) (g:=fun k=>gi V k) gV]
  have:=sumN_le (n:=n+1) (f:=fun k=>gi V (m+k)) (g:=fun _=>0) fun k hk=>(s8 (m+k) (by omega)).2
  rw [sumN_const] at this
  omega
 have pot:PotI l n m skip (fun r=>gi U r) (fun k=>gi (V.take m) k):=by
  refine ⟨fun r k hr hk=>?_,hsk,fun k hk=>?_⟩
  ·have h1:=s7 r k hr (by omega)
   rw [wide_at h hr,if_pos hk] at h1
   show gi U r+gi (V.take m) k≤_
   rw [gV k hk];exact h1
  ·show gi (V.take m) k≤0
   rw [gV k hk];exact (s8 k (by omega)).2
 have hw:=weak pot part
 exact ⟨by rw [List.length_map,s1],s2,by rw [List.length_take,s3];omega,part,tot,pot,by omega,s9,fun k hk=>by rw [gV k hk];exact s8 k (by omega)⟩
end Go.Hun
namespace Go.Proofs.YtdabojnmoejilaaGreatDoor
open Go Go.Am Go.Vm Go.Hun
attribute [local irreducible] VVal VOps VOpsD VWp VCalls VFun VFunV QSeq QBlk QLoop Vm.Done DoneV DoneI
def colsN (l:List (List Int)):Nat:=(gi l 0).length
theorem columns_spec (e:TypeId) (l:List (List Int)) (hl:l.length<1000000):VFun env 69 [.lst e (cells l) l.length] (.p (.int .i64 (colsN l:Int))):=by
 refine VFun.enter (env_none (by decide)) Tryz.func69 rfl (by kernel_rfl) (by simp [Tryz.ntmps69]) ?_
 by_cases h:l.length=0
 ·have hl0:l=[]:=List.length_eq_zero_iff.1 h
  subst hl0
  repeat' (first|apply VWp.assoc|apply VWp.rseq|apply VWp.retSeq|apply VOps.nil|apply VOps.one|(apply VVal.assign;rfl)|(apply VVal.move;rfl)|(apply VVal.int;rfl;rfl;rfl)|(apply VVal.lenF;rfl;rfl)|(apply VWp.condSeq_true;rfl))
  all_goals first|(exfalso;omega)|contradiction|(refine Done.ret rfl (.refl _) (by first|exact trivial|exact ⟨trivial,trivial,trivial⟩|exact ⟨trivial,trivial,trivial,trivial⟩) HCov.nil (Nat.zero_le _) (Nat.le_refl _) ⟨?_,rfl,rfl⟩;try rfl)
 ·repeat' (first|apply VWp.assoc|apply VWp.rseq|apply VWp.skipSeq|apply VWp.ret|apply VOps.nil|apply VOps.one|(apply VVal.assign;rfl)|(apply VVal.move;rfl)|(apply VVal.int;rfl;rfl;rfl)|(apply VVal.indexE;rfl;rfl;rfl;omega;omega;rfl)|(apply VVal.load;rfl;rfl)|(apply VVal.lenF;rfl;rfl)|(apply VWp.condSeq_dec;rfl)|(intro _;try (exfalso;omega)))
  all_goals first|(exfalso;omega)|contradiction|(refine Done.ret rfl (.refl _) (by first|exact trivial|exact ⟨trivial,trivial,trivial⟩|exact ⟨trivial,trivial,trivial,trivial⟩) HCov.nil (Nat.zero_le _) (Nat.le_refl _) ⟨?_,rfl,rfl⟩;try rfl)
section
variable {costs:List (List Int)} {n m:Nat} {B:Int}
theorem v0_round {i:Nat} {o:List Ix} {A:Nat→Nat} {t:Nat} {g:Gr} (h:GrI costs n m i o A t g) (hc:CostI costs n m B) (ho:OwI m i o) (hi:i<n) (hr:Hun.own o (A t)≠0):gi (roundS costs o m g).v 0+gi (roundS costs o m g).u (i+1)=gi g.v 0+gi g.u (i+1):=by
 have hR:=round_scan h hc ho hi hr
 have hS:=round_shift h hc ho hi hr
 have h0:gi (roundD g) 0=true:=(hR.doneD 0).2 ⟨0,by omega,h.zero⟩
 have h1:=hS.u1 0 (Nat.zero_le _) h0
 have h2:=hS.v1 0 (Nat.zero_le _) h0
 rw [ho.zero] at h1
 show gi (roundH costs o m g).v 0+gi (roundH costs o m g).u (i+1)=_
 omega
theorem v0_grow {i:Nat} {s:Stt} (h:StI costs n m i s) (hc:CostI costs n m B) (hi:i<n):∀ t,(∀ p,p<t→Hun.own (stO s (i+1)) (stAt costs m i s p)≠0)→gi (growK costs (stO s (i+1)) m (stG m s) t).v 0+gi (growK costs (stO s (i+1)) m (stG m s) t).u (i+1)=gi s.v 0
 |0,_=>by
  show gi s.v 0+gi s.u (i+1)=_
  rw [h.uz (i+1) (by omega)];omega
 |t+1,hp=>by
  have ih:=v0_grow h hc hi t fun p hp'=>hp p (by omega)
  have:=v0_round (st_gr h hc hi t fun p hp'=>hp p (by omega)) hc (st_ow h) hi (hp t (by omega))
  show gi (roundS costs _ m _).v 0+gi (roundS costs _ m _).u (i+1)=_
  omega
theorem v0_stage (hc:CostI costs n m B):∀ i,i≤n→-(i*B)≤gi (stageK costs n m i).v 0∧gi (stageK costs n m i).v 0≤0
 |0,_=>by
  have:gi (stageK costs n m 0).v 0=0:=gi_repz 0
  rw [this];simp
 |i+1,hi=>by
  have ih:=v0_stage hc i (by omega)
  have h:=stage_ok hc i (by omega)
  obtain ⟨a,b,c⟩:=st_end h hc (by omega)
  have h1:=v0_grow h hc (by omega) _ a
  have hg:=st_gr h hc (by omega) _ a
  have h2:=hg.ule hc (st_ow h) (by have:=hc.nm;omega) (r:=i+1) (by omega) (Nat.le_refl _)
  have h3:=hg.upos (i+1) (by omega) (Nat.le_refl _)
  have e:(stageK costs n m (i+1)).v=(growK costs (stO (stageK costs n m i) (i+1)) m (stG m (stageK costs n m i)) (stT costs m (stageK costs n m i) (i+1))).v:=rfl
  rw [e]
  push_cast
  rw [Int.add_mul,Int.one_mul]
  omega
end
def scanL (e:TypeId) (costs:List (List Int)) (n m k row a:Nat) (s:Scn) (j:Nat):Vm.Frame :=
 [(14,.p (.int .i64 s.delta)),(15,.p (.int .i64 (s.next:Int))),(16,.p (.int .i64 ((j+1:Nat):Int))),(0,.p (.lst e (cells costs) n)),(2,.ref 0 0),(3,.p (.int .i64 (n:Int))),(4,.p (.int .i64 (m:Int))),(5,.vec 1 (n+1) 0 (n+1)),(6,.vec 2 (m+1) 0 (m+1)),(7,.vec 3 (m+1) 0 (m+1)),(8,.vec 4 (m+1) 0 (m+1)),(9,.p (.int .i64 ((k+1:Nat):Int))),(10,.p (.int .i64 (a:Int))),(11,.vec 6 (m+1) 0 (m+1)),(12,.vec 7 (m+1) 0 (m+1)),(13,.p (.int .i64 (row:Int)))]
def resZ:Vm.HB:=.box 69 [.p (.val (.slice none 0 0)),.p (.int .i64 0),.p (.val (.slice none 0 0)),.p (.val (.slice none 0 0))]
def scanH (n m:Nat) (u v:List Int) (o:List Ix) (done:List Bool) (s:Scn):Vm.Heap :=
 [(4,.vec 3 (cells s.way) (m+1) false),(6,.vec 3 (cells s.least) (m+1) false),(7,.vec 4 (cells done) (m+1) false),(0,resZ),(1,.vec 3 (cells u) (n+1) false),(2,.vec 3 (cells v) (m+1) false),(3,.vec 3 (cells o) (m+1) false)]
theorem scan_walk {costs:List (List Int)} {n m k row a:Nat} {B:Int} {e:TypeId} {u v:List Int} {o:List Ix} {done:List Bool} {s0:Scn} (hB:0≤B∧B≤1000000000000) (hl:costs.length=n) (hm:m≤1000) (hn:n≤1000) (hr:1≤row∧row≤n) (hrl:(gi costs (row-1)).length=m) (hcost:∀ j,0≤gi (gi costs (row-1)) j∧gi (gi costs (row-1)) j≤B)
 (hu:u.length=n+1) (hv:v.length=m+1) (hd9:done.length=m+1) (h1:s0.least.length=m+1) (h2:s0.way.length=m+1) (hu9:0≤gi u row∧gi u row≤B) (hv9:∀ j,1≤j→j≤m→-B≤gi v j∧gi v j≤0) :
 VWp env 0 (loopOf Tryz.f72 14) (scanL e costs n m k row a s0 0) (scanH n m u v o done s0) 8 (fun ex L' H' nx'=>ex=.exit 4∧Cov L' H' nx' (scanL e costs n m k row a (scanK (gi costs (row-1)) (gi u row) v done a s0 m) m) (scanH n m u v o done (scanK (gi costs (row-1)) (gi u row) v done a s0 m)) 8):=by
 have hs1:vint .sub .i64 (row:Int) 1=some (.int .i64 ((row-1:Nat):Int)):=by
  simp only [vint]
  rw [wrap_i64 (by omega)]
  congr 2;omega
 show VWp env 0 (Code.loop _) _ _ _ _
 refine VWp.loopR m (scanL e costs n m k row a s0 0 |>.drop 3) (scanH n m u v o done s0 |>.drop 2) (fun j _=>scanL e costs n m k row a (scanK (gi costs (row-1)) (gi u row) v done a s0 j) j) (fun j _=>scanH n m u v o done (scanK (gi costs (row-1)) (gi u row) v done a s0 j)) 8 (by omega) (Nat.le_refl _) ?_ ?_ ?_ ?_
 ·repeat (first|exact LCov.nil|refine LCov.same trivial rfl ?_|refine LCov.same (lt_dec rfl) rfl ?_|refine LCov.same ⟨trivial,lt_dec rfl,trivial⟩ rfl ?_|refine LCov.same ⟨trivial,lt_dec rfl,lt_dec rfl,trivial⟩ rfl ?_|refine LCov.same ⟨trivial,lt_dec rfl,lt_dec rfl,lt_dec rfl,trivial⟩ rfl ?_|refine LCov.same ⟨trivial,lt_dec rfl,lt_dec rfl,lt_dec rfl,lt_dec rfl,trivial⟩ rfl ?_|refine LCov.same ⟨trivial,trivial⟩ rfl ?_|refine LCov.cons trivial rfl (.of_eq (lst_len (by simp<;>omega))) ?_)
 ·repeat (first|exact HCov.nil|(refine HCov.cons (lt_dec rfl) ?_ rfl ?_ ?_;(first|exact HB.under_of rfl|exact PVs.under_pure _ _|(simp [HB.under,PVs.under,PV.under]));(first|exact HLe.refl _|exact HLe.vec (FLes.refl _) (by simp))))
 ·intro j hj
  have hI:=scan_spec (row:=gi costs (row-1)) (ur:=gi u row) (v:=v) (done:=done) (a:=a) (s0:=s0) h1 h2 j (by omega)
  have eS2:scanK (gi costs (row-1)) (gi u row) v done a s0 (j+1)=scanS (gi costs (row-1)) (gi u row) v done a (scanK (gi costs (row-1)) (gi u row) v done a s0 j) (j+1):=rfl
  rw [eS2]
  generalize scanK (gi costs (row-1)) (gi u row) v done a s0 j=sc at *
  have n1:=hI.ll
  have n2:=hI.lw
  have hc1:=hcost j
  have hv1:=hv9 (j+1) (by omega) (by omega)
  obtain ⟨C,hC⟩:∃ C,C=cof (gi costs (row-1)) (gi u row) v (j+1):=⟨_,rfl⟩
  have hC':C=gi (gi costs (row-1)) j-gi u row-gi v (j+1):=hC
  have hCv:vint .sub .i64 (gi (gi costs (row-1)) j-gi u row) (gi v (j+1))=some (.int .i64 C):=by
   rw [hC']
   simp only [vint]
   rw [wrap_i64 (by omega)]
  have hs2:vint .sub .i64 ((j+1:Nat):Int) 1=some (.int .i64 (j:Int)):=by
   simp only [vint]
   rw [wrap_i64 (by omega)]
   congr 2;omega
  clear hI hcost hv9 eS2
  by_cases hd:gi done (j+1)=true
  ·have e9:scanS (gi costs (row-1)) (gi u row) v done a sc (j+1)=sc:=if_pos hd
   rw [e9]
   repeat' (first|apply VWp.assoc|apply VWp.rseq|apply VWp.region|apply VWp.skipSeq|apply VWp.exitSeq|apply VWp.blockSeq|apply QSeq.normal|apply QBlk.exit|apply VOps.nil|apply VOps.one|(apply VVal.loadVL;rfl;rfl;(first|omega|(simp only [sk_len]<;>omega));exact congrArg (fun b=>some (FV.bool b)) (hd))|(apply VVal.assign;rfl)|(apply VVal.move;rfl)|(apply VVal.add64;rfl;rfl;omega)|(apply VVal.int;rfl;rfl;rfl)|(apply VVal.indexVN;rfl;rfl;rfl;rfl;omega)|(apply VWp.condSeq_true;rfl)|(apply VWp.condSeq_dec;rfl)|(intro _;try (exfalso;omega)))
   all_goals try (exfalso;omega)
   refine QLoop.normal ⟨by first|omega|decide,?_,?_⟩
   ·repeat (first|exact LCov.nil|refine LCov.same trivial rfl ?_|refine LCov.same (lt_dec rfl) rfl ?_|refine LCov.same ⟨trivial,lt_dec rfl,trivial⟩ rfl ?_|refine LCov.same ⟨trivial,lt_dec rfl,lt_dec rfl,trivial⟩ rfl ?_|refine LCov.same ⟨trivial,lt_dec rfl,lt_dec rfl,lt_dec rfl,trivial⟩ rfl ?_|refine LCov.same ⟨trivial,lt_dec rfl,lt_dec rfl,lt_dec rfl,lt_dec rfl,trivial⟩ rfl ?_|refine LCov.same ⟨trivial,trivial⟩ rfl ?_|refine LCov.cons trivial rfl (.of_eq (lst_len (by simp<;>omega))) ?_)
   ·repeat (first|exact HCov.nil|(refine HCov.cons (lt_dec rfl) ?_ rfl ?_ ?_;(first|exact HB.under_of rfl|exact PVs.under_pure _ _|(simp [HB.under,PVs.under,PV.under]));(first|exact HLe.refl _|exact HLe.vec (FLes.refl _) (by simp))))
  ·have hd':gi done (j+1)=false:=by cases h:gi done (j+1)<;>simp_all
   by_cases h1:C<gi sc.least (j+1)
   ·have hld:gi (sc.least.set (j+1) C) (j+1)=C:=by rw [gs (by omega),if_pos rfl]
    by_cases h2:C<sc.delta
    ·have e9:scanS (gi costs (row-1)) (gi u row) v done a sc (j+1)=⟨sc.least.set (j+1) C,sc.way.set (j+1) ⟨a⟩,C,j+1⟩:=by
      unfold scanS
      rw [← hC,if_neg hd,if_pos h1,if_pos h2]
     rw [e9]
     repeat' (first|apply VWp.assoc|apply VWp.rseq|apply VWp.rseqD|apply VWp.region|apply VWp.skipSeq|apply VWp.blockSeq|apply QSeq.normal|apply QBlk.normal|apply VOps.nil|apply VOpsD.nil|apply VOps.one|(apply VOpsD.bar;decide +kernel)|apply VOpsD.quiet|(apply VVal.loadVL;rfl;rfl;(first|omega|(simp only [sk_len]<;>omega));exact congrArg (fun b=>some (FV.bool b)) (hd'))|(apply VVal.indexN (l:=costs);rfl;rfl;rfl;omega;exact hl)|(apply VVal.int;rfl;rfl;exact hs1)|(apply VVal.int;rfl;rfl;exact hs2)|(apply VVal.int;rfl;rfl;exact hCv)|(apply VVal.storeVL (y:=C);rfl;rfl;rfl;trivial;(first|rfl|(refine congrArg (fun t=>[PV.p (FV.int _ t)]) ?_;first|omega|(simp only [Int.natCast_add,Int.natCast_mul,Int.natCast_ediv,Int.natCast_emod]<;>omega)));rfl;rfl;decide;(first|omega|(simp only [List.length_set]<;>omega)))|(apply VVal.storeVL (y:=(⟨a⟩:Ix));rfl;rfl;rfl;trivial;(first|rfl|(refine congrArg (fun t=>[PV.p (FV.int _ t)]) ?_;first|omega|(simp only [Int.natCast_add,Int.natCast_mul,Int.natCast_ediv,Int.natCast_emod]<;>omega)));rfl;rfl;decide;(first|omega|(simp only [List.length_set]<;>omega)))|(apply VVal.loadVL;rfl;rfl;(first|omega|(simp only [List.length_set]<;>omega));exact congrArg (fun b=>some (FV.int .i64 b)) (hld))|(apply VVal.assign;rfl)|(apply VVal.move;rfl)|(apply VVal.add64;rfl;rfl;omega)|(apply VVal.sub64;rfl;rfl;omega)|(apply VVal.int;rfl;rfl;rfl)|(apply VVal.indexN;rfl;rfl;rfl;omega;rfl)|(apply VVal.loadVL;rfl;rfl;omega;rfl)|(apply VVal.load;rfl;rfl)|(apply VVal.indexVN;rfl;rfl;rfl;rfl;omega)|(apply VWp.condSeq_false;rfl)|(apply VWp.condSeq_dec;rfl)|(apply VWp.cond_dec;rfl)|(intro _;try (exfalso;omega)))
     all_goals try (exfalso;omega)
     refine QLoop.normal ⟨by first|omega|decide,?_,?_⟩
     ·repeat (first|exact LCov.nil|refine LCov.same trivial rfl ?_|refine LCov.same (lt_dec rfl) rfl ?_|refine LCov.same ⟨trivial,lt_dec rfl,trivial⟩ rfl ?_|refine LCov.same ⟨trivial,lt_dec rfl,lt_dec rfl,trivial⟩ rfl ?_|refine LCov.same ⟨trivial,lt_dec rfl,lt_dec rfl,lt_dec rfl,trivial⟩ rfl ?_|refine LCov.same ⟨trivial,lt_dec rfl,lt_dec rfl,lt_dec rfl,lt_dec rfl,trivial⟩ rfl ?_|refine LCov.same ⟨trivial,trivial⟩ rfl ?_|refine LCov.cons trivial rfl (.of_eq (lst_len (by simp<;>omega))) ?_)
     ·repeat (first|exact HCov.nil|(refine HCov.cons (lt_dec rfl) ?_ rfl ?_ ?_;(first|exact HB.under_of rfl|exact PVs.under_pure _ _|(simp [HB.under,PVs.under,PV.under]));(first|exact HLe.refl _|exact HLe.vec (FLes.refl _) (by simp))))
    ·have e9:scanS (gi costs (row-1)) (gi u row) v done a sc (j+1)=⟨sc.least.set (j+1) C,sc.way.set (j+1) ⟨a⟩,sc.delta,sc.next⟩:=by
      unfold scanS
      rw [← hC,if_neg hd,if_pos h1,if_neg h2]
     rw [e9]
     repeat' (first|apply VWp.assoc|apply VWp.rseq|apply VWp.rseqD|apply VWp.region|apply VWp.skipSeq|apply VWp.blockSeq|apply QSeq.normal|apply QBlk.normal|apply VWp.skip|apply VOps.nil|apply VOpsD.nil|apply VOps.one|(apply VOpsD.bar;decide +kernel)|apply VOpsD.quiet|(apply VVal.loadVL;rfl;rfl;(first|omega|(simp only [sk_len]<;>omega));exact congrArg (fun b=>some (FV.bool b)) (hd'))|(apply VVal.indexN (l:=costs);rfl;rfl;rfl;omega;exact hl)|(apply VVal.int;rfl;rfl;exact hs1)|(apply VVal.int;rfl;rfl;exact hs2)|(apply VVal.int;rfl;rfl;exact hCv)|(apply VVal.storeVL (y:=C);rfl;rfl;rfl;trivial;(first|rfl|(refine congrArg (fun t=>[PV.p (FV.int _ t)]) ?_;first|omega|(simp only [Int.natCast_add,Int.natCast_mul,Int.natCast_ediv,Int.natCast_emod]<;>omega)));rfl;rfl;decide;(first|omega|(simp only [List.length_set]<;>omega)))|(apply VVal.storeVL (y:=(⟨a⟩:Ix));rfl;rfl;rfl;trivial;(first|rfl|(refine congrArg (fun t=>[PV.p (FV.int _ t)]) ?_;first|omega|(simp only [Int.natCast_add,Int.natCast_mul,Int.natCast_ediv,Int.natCast_emod]<;>omega)));rfl;rfl;decide;(first|omega|(simp only [List.length_set]<;>omega)))|(apply VVal.loadVL;rfl;rfl;(first|omega|(simp only [List.length_set]<;>omega));exact congrArg (fun b=>some (FV.int .i64 b)) (hld))|(apply VVal.assign;rfl)|(apply VVal.move;rfl)|(apply VVal.add64;rfl;rfl;omega)|(apply VVal.sub64;rfl;rfl;omega)|(apply VVal.int;rfl;rfl;rfl)|(apply VVal.indexN;rfl;rfl;rfl;omega;rfl)|(apply VVal.loadVL;rfl;rfl;omega;rfl)|(apply VVal.load;rfl;rfl)|(apply VVal.indexVN;rfl;rfl;rfl;rfl;omega)|(apply VWp.condSeq_false;rfl)|(apply VWp.condSeq_dec;rfl)|(apply VWp.cond_dec;rfl)|(intro _;try (exfalso;omega)))
     all_goals try (exfalso;omega)
     refine QLoop.normal ⟨by first|omega|decide,?_,?_⟩
     ·repeat (first|exact LCov.nil|refine LCov.same trivial rfl ?_|refine LCov.same (lt_dec rfl) rfl ?_|refine LCov.same ⟨trivial,lt_dec rfl,trivial⟩ rfl ?_|refine LCov.same ⟨trivial,lt_dec rfl,lt_dec rfl,trivial⟩ rfl ?_|refine LCov.same ⟨trivial,lt_dec rfl,lt_dec rfl,lt_dec rfl,trivial⟩ rfl ?_|refine LCov.same ⟨trivial,lt_dec rfl,lt_dec rfl,lt_dec rfl,lt_dec rfl,trivial⟩ rfl ?_|refine LCov.same ⟨trivial,trivial⟩ rfl ?_|refine LCov.cons trivial rfl (.of_eq (lst_len (by simp<;>omega))) ?_)
     ·repeat (first|exact HCov.nil|(refine HCov.cons (lt_dec rfl) ?_ rfl ?_ ?_;(first|exact HB.under_of rfl|exact PVs.under_pure _ _|(simp [HB.under,PVs.under,PV.under]));(first|exact HLe.refl _|exact HLe.vec (FLes.refl _) (by simp))))
   ·by_cases h2:gi sc.least (j+1)<sc.delta
    ·have e9:scanS (gi costs (row-1)) (gi u row) v done a sc (j+1)=⟨sc.least,sc.way,gi sc.least (j+1),j+1⟩:=by
      unfold scanS
      rw [← hC,if_neg hd,if_neg h1,if_pos h2]
     rw [e9]
     repeat' (first|apply VWp.assoc|apply VWp.rseq|apply VWp.rseqD|apply VWp.region|apply VWp.skipSeq|apply VWp.blockSeq|apply QSeq.normal|apply QBlk.normal|apply VOps.nil|apply VOpsD.nil|apply VOps.one|(apply VOpsD.bar;decide +kernel)|apply VOpsD.quiet|(apply VVal.loadVL;rfl;rfl;(first|omega|(simp only [sk_len]<;>omega));exact congrArg (fun b=>some (FV.bool b)) (hd'))|(apply VVal.indexN (l:=costs);rfl;rfl;rfl;omega;exact hl)|(apply VVal.int;rfl;rfl;exact hs1)|(apply VVal.int;rfl;rfl;exact hs2)|(apply VVal.int;rfl;rfl;exact hCv)|(apply VVal.assign;rfl)|(apply VVal.move;rfl)|(apply VVal.add64;rfl;rfl;omega)|(apply VVal.sub64;rfl;rfl;omega)|(apply VVal.int;rfl;rfl;rfl)|(apply VVal.indexN;rfl;rfl;rfl;omega;rfl)|(apply VVal.loadVL;rfl;rfl;omega;rfl)|(apply VVal.load;rfl;rfl)|(apply VVal.indexVN;rfl;rfl;rfl;rfl;omega)|(apply VWp.condSeq_false;rfl)|(apply VWp.condSeq_dec;rfl)|(apply VWp.cond_dec;rfl)|(intro _;try (exfalso;omega)))
     all_goals try (exfalso;omega)
     refine QLoop.normal ⟨by first|omega|decide,?_,?_⟩
     ·repeat (first|exact LCov.nil|refine LCov.same trivial rfl ?_|refine LCov.same (lt_dec rfl) rfl ?_|refine LCov.same ⟨trivial,lt_dec rfl,trivial⟩ rfl ?_|refine LCov.same ⟨trivial,lt_dec rfl,lt_dec rfl,trivial⟩ rfl ?_|refine LCov.same ⟨trivial,lt_dec rfl,lt_dec rfl,lt_dec rfl,trivial⟩ rfl ?_|refine LCov.same ⟨trivial,lt_dec rfl,lt_dec rfl,lt_dec rfl,lt_dec rfl,trivial⟩ rfl ?_|refine LCov.same ⟨trivial,trivial⟩ rfl ?_|refine LCov.cons trivial rfl (.of_eq (lst_len (by simp<;>omega))) ?_)
     ·repeat (first|exact HCov.nil|(refine HCov.cons (lt_dec rfl) ?_ rfl ?_ ?_;(first|exact HB.under_of rfl|exact PVs.under_pure _ _|(simp [HB.under,PVs.under,PV.under]));(first|exact HLe.refl _|exact HLe.vec (FLes.refl _) (by simp))))
    ·have e9:scanS (gi costs (row-1)) (gi u row) v done a sc (j+1)=sc:=by
      unfold scanS
      rw [← hC,if_neg hd,if_neg h1,if_neg h2]
     rw [e9]
     repeat' (first|apply VWp.assoc|apply VWp.rseq|apply VWp.rseqD|apply VWp.region|apply VWp.skipSeq|apply VWp.blockSeq|apply QSeq.normal|apply QBlk.normal|apply VWp.skip|apply VOps.nil|apply VOpsD.nil|apply VOps.one|(apply VOpsD.bar;decide +kernel)|apply VOpsD.quiet|(apply VVal.loadVL;rfl;rfl;(first|omega|(simp only [sk_len]<;>omega));exact congrArg (fun b=>some (FV.bool b)) (hd'))|(apply VVal.indexN (l:=costs);rfl;rfl;rfl;omega;exact hl)|(apply VVal.int;rfl;rfl;exact hs1)|(apply VVal.int;rfl;rfl;exact hs2)|(apply VVal.int;rfl;rfl;exact hCv)|(apply VVal.assign;rfl)|(apply VVal.move;rfl)|(apply VVal.add64;rfl;rfl;omega)|(apply VVal.sub64;rfl;rfl;omega)|(apply VVal.int;rfl;rfl;rfl)|(apply VVal.indexN;rfl;rfl;rfl;omega;rfl)|(apply VVal.loadVL;rfl;rfl;omega;rfl)|(apply VVal.load;rfl;rfl)|(apply VVal.indexVN;rfl;rfl;rfl;rfl;omega)|(apply VWp.condSeq_false;rfl)|(apply VWp.condSeq_dec;rfl)|(apply VWp.cond_dec;rfl)|(intro _;try (exfalso;omega)))
     all_goals try (exfalso;omega)
     refine QLoop.normal ⟨by first|omega|decide,?_,?_⟩
     ·repeat (first|exact LCov.nil|refine LCov.same trivial rfl ?_|refine LCov.same (lt_dec rfl) rfl ?_|refine LCov.same ⟨trivial,lt_dec rfl,trivial⟩ rfl ?_|refine LCov.same ⟨trivial,lt_dec rfl,lt_dec rfl,trivial⟩ rfl ?_|refine LCov.same ⟨trivial,lt_dec rfl,lt_dec rfl,lt_dec rfl,trivial⟩ rfl ?_|refine LCov.same ⟨trivial,lt_dec rfl,lt_dec rfl,lt_dec rfl,lt_dec rfl,trivial⟩ rfl ?_|refine LCov.same ⟨trivial,trivial⟩ rfl ?_|refine LCov.cons trivial rfl (.of_eq (lst_len (by simp<;>omega))) ?_)
     ·repeat (first|exact HCov.nil|(refine HCov.cons (lt_dec rfl) ?_ rfl ?_ ?_;(first|exact HB.under_of rfl|exact PVs.under_pure _ _|(simp [HB.under,PVs.under,PV.under]));(first|exact HLe.refl _|exact HLe.vec (FLes.refl _) (by simp))))
 ·repeat' (first|apply VWp.assoc|apply VWp.rseq|apply VWp.exitSeq|apply QLoop.exit|apply VOps.nil|apply VOps.one|(apply VVal.move;rfl)|(apply VVal.int;rfl;rfl;rfl)|(apply VWp.condSeq_dec;rfl)|(intro _;try (exfalso;omega)))
  all_goals try (exfalso;omega)
  refine ⟨rfl,⟨Nat.le_refl _,?_,?_⟩⟩
  ·repeat (first|exact LCov.nil|refine LCov.same trivial rfl ?_|refine LCov.same (lt_dec rfl) rfl ?_|refine LCov.same ⟨trivial,lt_dec rfl,trivial⟩ rfl ?_|refine LCov.same ⟨trivial,lt_dec rfl,lt_dec rfl,trivial⟩ rfl ?_|refine LCov.same ⟨trivial,lt_dec rfl,lt_dec rfl,lt_dec rfl,trivial⟩ rfl ?_|refine LCov.same ⟨trivial,lt_dec rfl,lt_dec rfl,lt_dec rfl,lt_dec rfl,trivial⟩ rfl ?_|refine LCov.same ⟨trivial,trivial⟩ rfl ?_|refine LCov.cons trivial rfl (.of_eq (lst_len (by simp<;>omega))) ?_)
  ·repeat (first|exact HCov.nil|(refine HCov.cons (lt_dec rfl) ?_ rfl ?_ ?_;(first|exact HB.under_of rfl|exact PVs.under_pure _ _|(simp [HB.under,PVs.under,PV.under]));(first|exact HLe.refl _|exact HLe.vec (FLes.refl _) (by simp))))
end Go.Proofs.YtdabojnmoejilaaGreatDoor
namespace Go.Proofs.YtdabojnmoejilaaGreatDoor
open Go Go.Am Go.Vm Go.Hun
attribute [local irreducible] VVal VOps VOpsD VWp VCalls VFun VFunV QSeq QBlk QLoop Vm.Done DoneV DoneI
def shiftL (e:TypeId) (costs:List (List Int)) (n m k:Nat) (d:Int) (nxt:Nat) (j:Nat):Vm.Frame :=
 [(120,.p (.int .i64 (j:Int))),(0,.p (.lst e (cells costs) n)),(2,.ref 0 0),(3,.p (.int .i64 (n:Int))),(4,.p (.int .i64 (m:Int))),(5,.vec 1 (n+1) 0 (n+1)),(6,.vec 2 (m+1) 0 (m+1)),(7,.vec 3 (m+1) 0 (m+1)),(8,.vec 4 (m+1) 0 (m+1)),(9,.p (.int .i64 ((k+1:Nat):Int))),(11,.vec 6 (m+1) 0 (m+1)),(12,.vec 7 (m+1) 0 (m+1)),(14,.p (.int .i64 d)),(15,.p (.int .i64 (nxt:Int))),(119,.p (.int .i64 ((m+1:Nat):Int)))]
def shiftH (n m:Nat) (o way:List Ix) (done:List Bool) (t:Shf):Vm.Heap :=
 [(1,.vec 3 (cells t.u) (n+1) false),(2,.vec 3 (cells t.v) (m+1) false),(6,.vec 3 (cells t.least) (m+1) false),(0,resZ),(3,.vec 3 (cells o) (m+1) false),(4,.vec 3 (cells way) (m+1) false),(7,.vec 4 (cells done) (m+1) false)]
theorem shift_walk {costs:List (List Int)} {n m k nxt:Nat} {d:Int} {e:TypeId} {o way:List Ix} {done:List Bool} {t0:Shf} (hd:0≤d∧d≤1000000000000) (hm:m≤1000) (hn:n≤1000) (hu:t0.u.length=n+1) (hv:t0.v.length=m+1) (hl:t0.least.length=m+1) (ho:o.length=m+1) (hD:done.length=m+1)
 (h1:∀ j,j≤m→gi done j=true→(gi o j).n<t0.u.length) (h2:∀ j i,j≤m→i≤m→gi done j=true→gi done i=true→(gi o j).n=(gi o i).n→j=i)
 (hub:∀ j,j≤m→gi done j=true→0≤gi t0.u (gi o j).n∧gi t0.u (gi o j).n≤1000000000000) (hvb:∀ j,j≤m→-2000000000000000≤gi t0.v j∧gi t0.v j≤0) (hlb:∀ j,j≤m→gi done j=false→0≤gi t0.least j∧gi t0.least j≤far) :
 VWp env 0 (loopOf Tryz.f72 23) (shiftL e costs n m k d nxt 0) (shiftH n m o way done t0) 8 (fun ex L' H' nx'=>ex=.exit 6∧Cov L' H' nx' (shiftL e costs n m k d nxt (m+1)) (shiftH n m o way done (shiftK o done d t0 (m+1))) 8):=by
 have hf:far=1152921504606846976:=rfl
 show VWp env 0 (Code.loop _) _ _ _ _
 refine VWp.loopR (m+1) (shiftL e costs n m k d nxt 0 |>.drop 1) (shiftH n m o way done t0 |>.drop 3) (fun j _=>shiftL e costs n m k d nxt j) (fun j _=>shiftH n m o way done (shiftK o done d t0 j)) 8 (by omega) (Nat.le_refl _) ?_ ?_ ?_ ?_
 ·repeat (first|exact LCov.nil|refine LCov.same trivial rfl ?_|refine LCov.same (lt_dec rfl) rfl ?_|refine LCov.same ⟨trivial,lt_dec rfl,trivial⟩ rfl ?_|refine LCov.same ⟨trivial,lt_dec rfl,lt_dec rfl,trivial⟩ rfl ?_|refine LCov.same ⟨trivial,lt_dec rfl,lt_dec rfl,lt_dec rfl,trivial⟩ rfl ?_|refine LCov.same ⟨trivial,lt_dec rfl,lt_dec rfl,lt_dec rfl,lt_dec rfl,trivial⟩ rfl ?_|refine LCov.same ⟨trivial,trivial⟩ rfl ?_|refine LCov.cons trivial rfl (.of_eq (lst_len (by simp<;>omega))) ?_)
 ·repeat (first|exact HCov.nil|(refine HCov.cons (lt_dec rfl) ?_ rfl ?_ ?_;(first|exact HB.under_of rfl|exact PVs.under_pure _ _|(simp [HB.under,PVs.under,PV.under]));(first|exact HLe.refl _|exact HLe.vec (FLes.refl _) (by simp))))
 ·intro j hj
  have hI:=Go.Hun.shift_spec (owner:=o) (done:=done) (delta:=d) (t:=t0) (m:=m) hv hl h1 h2 j (by omega)
  have eS2:shiftK o done d t0 (j+1)=shiftS o done d (shiftK o done d t0 j) j:=rfl
  rw [eS2]
  generalize shiftK o done d t0 j=sc at *
  have n1:=hI.lu
  have n2:=hI.lv
  have n3:=hI.ll
  have hv1:=hvb j (by omega)
  have ev:gi sc.v j=gi t0.v j:=by rw [hI.v,if_neg (by omega)]
  by_cases hdj:gi done j=true
  ·have hu1:=hub j (by omega) hdj
   have hlt:=h1 j (by omega) hdj
   have eu:gi sc.u (gi o j).n=gi t0.u (gi o j).n:=hI.u0 _ fun i hi hi2 e=>by have:=h2 i j (by omega) (by omega) hi2 hdj e;omega
   have e9:shiftS o done d sc j=⟨sc.u.set (gi o j).n (gi sc.u (gi o j).n+d),sc.v.set j (gi sc.v j-d),sc.least⟩:=if_pos hdj
   rw [e9]
   clear hI hub hvb hlb h1 h2 eS2
   repeat' (first|apply VWp.rseq|apply VWp.region|apply VWp.skipSeq|apply VWp.blockSeq|apply QSeq.normal|apply QBlk.normal|apply VOps.nil|apply VOps.one|(apply VVal.loadVL;rfl;rfl;(first|omega|(simp only [sk_len]<;>omega));exact congrArg (fun b=>some (FV.bool b)) (hdj))|(apply VVal.storeVL (y:=(gi sc.u (gi o j).n+d));rfl;rfl;rfl;trivial;(first|rfl|(refine congrArg (fun t=>[PV.p (FV.int _ t)]) ?_;first|omega|(simp only [Int.natCast_add,Int.natCast_mul,Int.natCast_ediv,Int.natCast_emod]<;>omega)));rfl;rfl;decide;(first|omega|(simp only [List.length_set]<;>omega)))|(apply VVal.storeVL (y:=(gi sc.v j-d));rfl;rfl;rfl;trivial;(first|rfl|(refine congrArg (fun t=>[PV.p (FV.int _ t)]) ?_;first|omega|(simp only [Int.natCast_add,Int.natCast_mul,Int.natCast_ediv,Int.natCast_emod]<;>omega)));rfl;rfl;decide;(first|omega|(simp only [List.length_set]<;>omega)))|(apply VVal.assign;rfl)|(apply VVal.move;rfl)|(apply VVal.add64;rfl;rfl;omega)|(apply VVal.sub64;rfl;rfl;omega)|(apply VVal.int;rfl;rfl;rfl)|(apply VVal.loadVL;rfl;rfl;omega;rfl)|(apply VVal.indexVN;rfl;rfl;rfl;rfl;omega)|(apply VWp.condSeq_dec;rfl)|(apply VWp.cond_true;rfl)|(intro _;try (exfalso;omega)))
   all_goals try (exfalso;omega)
   refine QLoop.normal ⟨by first|omega|decide,?_,?_⟩
   ·repeat (first|exact LCov.nil|refine LCov.same trivial rfl ?_|refine LCov.same (lt_dec rfl) rfl ?_|refine LCov.same ⟨trivial,lt_dec rfl,trivial⟩ rfl ?_|refine LCov.same ⟨trivial,lt_dec rfl,lt_dec rfl,trivial⟩ rfl ?_|refine LCov.same ⟨trivial,lt_dec rfl,lt_dec rfl,lt_dec rfl,trivial⟩ rfl ?_|refine LCov.same ⟨trivial,lt_dec rfl,lt_dec rfl,lt_dec rfl,lt_dec rfl,trivial⟩ rfl ?_|refine LCov.same ⟨trivial,trivial⟩ rfl ?_|refine LCov.cons trivial rfl (.of_eq (lst_len (by simp<;>omega))) ?_)
   ·repeat (first|exact HCov.nil|(refine HCov.cons (lt_dec rfl) ?_ rfl ?_ ?_;(first|exact HB.under_of rfl|exact PVs.under_pure _ _|(simp [HB.under,PVs.under,PV.under]));(first|exact HLe.refl _|exact HLe.vec (FLes.refl _) (by simp))))
  ·have hdj':gi done j=false:=by cases h:gi done j<;>simp_all
   have hl1:=hlb j (by omega) hdj'
   have el:gi sc.least j=gi t0.least j:=by rw [hI.least,if_neg (by omega)]
   have e9:shiftS o done d sc j=⟨sc.u,sc.v,sc.least.set j (gi sc.least j-d)⟩:=if_neg hdj
   rw [e9]
   clear hI hub hvb hlb h1 h2 eS2
   repeat' (first|apply VWp.rseq|apply VWp.region|apply VWp.skipSeq|apply VWp.blockSeq|apply QSeq.normal|apply QBlk.normal|apply VOps.nil|apply VOps.one|(apply VVal.loadVL;rfl;rfl;(first|omega|(simp only [sk_len]<;>omega));exact congrArg (fun b=>some (FV.bool b)) (hdj'))|(apply VVal.storeVL (y:=(gi sc.least j-d));rfl;rfl;rfl;trivial;(first|rfl|(refine congrArg (fun t=>[PV.p (FV.int _ t)]) ?_;first|omega|(simp only [Int.natCast_add,Int.natCast_mul,Int.natCast_ediv,Int.natCast_emod]<;>omega)));rfl;rfl;decide;(first|omega|(simp only [List.length_set]<;>omega)))|(apply VVal.assign;rfl)|(apply VVal.move;rfl)|(apply VVal.add64;rfl;rfl;omega)|(apply VVal.sub64;rfl;rfl;omega)|(apply VVal.int;rfl;rfl;rfl)|(apply VVal.loadVL;rfl;rfl;omega;rfl)|(apply VVal.indexVN;rfl;rfl;rfl;rfl;omega)|(apply VWp.condSeq_dec;rfl)|(apply VWp.cond_false;rfl)|(intro _;try (exfalso;omega)))
   all_goals try (exfalso;omega)
   refine QLoop.normal ⟨by first|omega|decide,?_,?_⟩
   ·repeat (first|exact LCov.nil|refine LCov.same trivial rfl ?_|refine LCov.same (lt_dec rfl) rfl ?_|refine LCov.same ⟨trivial,lt_dec rfl,trivial⟩ rfl ?_|refine LCov.same ⟨trivial,lt_dec rfl,lt_dec rfl,trivial⟩ rfl ?_|refine LCov.same ⟨trivial,lt_dec rfl,lt_dec rfl,lt_dec rfl,trivial⟩ rfl ?_|refine LCov.same ⟨trivial,lt_dec rfl,lt_dec rfl,lt_dec rfl,lt_dec rfl,trivial⟩ rfl ?_|refine LCov.same ⟨trivial,trivial⟩ rfl ?_|refine LCov.cons trivial rfl (.of_eq (lst_len (by simp<;>omega))) ?_)
   ·repeat (first|exact HCov.nil|(refine HCov.cons (lt_dec rfl) ?_ rfl ?_ ?_;(first|exact HB.under_of rfl|exact PVs.under_pure _ _|(simp [HB.under,PVs.under,PV.under]));(first|exact HLe.refl _|exact HLe.vec (FLes.refl _) (by simp))))
 ·repeat' (first|apply VWp.rseq|apply VWp.exitSeq|apply QLoop.exit|apply VOps.nil|apply VOps.one|(apply VVal.int;rfl;rfl;rfl)|(apply VWp.condSeq_dec;rfl)|(intro _;try (exfalso;omega)))
  all_goals try (exfalso;omega)
  refine ⟨rfl,⟨Nat.le_refl _,?_,?_⟩⟩
  ·repeat (first|exact LCov.nil|refine LCov.same trivial rfl ?_|refine LCov.same (lt_dec rfl) rfl ?_|refine LCov.same ⟨trivial,lt_dec rfl,trivial⟩ rfl ?_|refine LCov.same ⟨trivial,lt_dec rfl,lt_dec rfl,trivial⟩ rfl ?_|refine LCov.same ⟨trivial,lt_dec rfl,lt_dec rfl,lt_dec rfl,trivial⟩ rfl ?_|refine LCov.same ⟨trivial,lt_dec rfl,lt_dec rfl,lt_dec rfl,lt_dec rfl,trivial⟩ rfl ?_|refine LCov.same ⟨trivial,trivial⟩ rfl ?_|refine LCov.cons trivial rfl (.of_eq (lst_len (by simp<;>omega))) ?_)
  ·repeat (first|exact HCov.nil|(refine HCov.cons (lt_dec rfl) ?_ rfl ?_ ?_;(first|exact HB.under_of rfl|exact PVs.under_pure _ _|(simp [HB.under,PVs.under,PV.under]));(first|exact HLe.refl _|exact HLe.vec (FLes.refl _) (by simp))))
def augL (e:TypeId) (costs:List (List Int)) (n m k:Nat) (a:Nat):Vm.Frame :=
 [(10,.p (.int .i64 (a:Int))),(0,.p (.lst e (cells costs) n)),(2,.ref 0 0),(3,.p (.int .i64 (n:Int))),(4,.p (.int .i64 (m:Int))),(5,.vec 1 (n+1) 0 (n+1)),(6,.vec 2 (m+1) 0 (m+1)),(7,.vec 3 (m+1) 0 (m+1)),(8,.vec 4 (m+1) 0 (m+1)),(9,.p (.int .i64 ((k+1:Nat):Int)))]
def augH (n m:Nat) (u v:List Int) (way o:List Ix):Vm.Heap :=
 [(3,.vec 3 (cells o) (m+1) false),(0,resZ),(1,.vec 3 (cells u) (n+1) false),(2,.vec 3 (cells v) (m+1) false),(4,.vec 3 (cells way) (m+1) false)]
theorem aug_walk {costs:List (List Int)} {n m k U:Nat} {e:TypeId} {u v:List Int} {way:List Ix} {a:Aug} (hm:m≤1000) (hw:way.length=m+1) (hlen:∀ t,t≤U→(augK way a t).owner.length=m+1) (hgo:∀ t,t<U→(augK way a t).at_≠0) (hle:∀ t,t≤U→(augK way a t).at_≤m) (hfin:(augK way a U).at_=0) :
 VWp env 0 (loopOf Tryz.f72 31) (augL e costs n m k a.at_) (augH n m u v way a.owner) 5 (fun ex L' H' nx'=>ex=.exit 8∧Cov L' H' nx' (augL e costs n m k 0) (augH n m u v way (augK way a U).owner) 5):=by
 show VWp env 0 (Code.loop _) _ _ _ _
 refine VWp.loopR U (augL e costs n m k a.at_ |>.drop 1) (augH n m u v way a.owner |>.drop 1) (fun t _=>augL e costs n m k (augK way a t).at_) (fun t _=>augH n m u v way (augK way a t).owner) 5 (by omega) (Nat.le_refl _) ?_ ?_ ?_ ?_
 ·repeat (first|exact LCov.nil|refine LCov.same trivial rfl ?_|refine LCov.same (lt_dec rfl) rfl ?_|refine LCov.same ⟨trivial,lt_dec rfl,trivial⟩ rfl ?_|refine LCov.same ⟨trivial,lt_dec rfl,lt_dec rfl,trivial⟩ rfl ?_|refine LCov.same ⟨trivial,lt_dec rfl,lt_dec rfl,lt_dec rfl,trivial⟩ rfl ?_|refine LCov.same ⟨trivial,lt_dec rfl,lt_dec rfl,lt_dec rfl,lt_dec rfl,trivial⟩ rfl ?_|refine LCov.same ⟨trivial,trivial⟩ rfl ?_|refine LCov.cons trivial rfl (.of_eq (lst_len (by simp<;>omega))) ?_)
 ·repeat (first|exact HCov.nil|(refine HCov.cons (lt_dec rfl) ?_ rfl ?_ ?_;(first|exact HB.under_of rfl|exact PVs.under_pure _ _|(simp [HB.under,PVs.under,PV.under]));(first|exact HLe.refl _|exact HLe.vec (FLes.refl _) (by simp))))
 ·intro t ht
  have h1:=hlen t (by omega)
  have h2:=hgo t ht
  have h3:=hle t (by omega)
  have h4:=hle (t+1) (by omega)
  have e1:augK way a (t+1)=⟨(augK way a t).owner.set (augK way a t).at_ (gi (augK way a t).owner (gi way (augK way a t).at_).n),(gi way (augK way a t).at_).n⟩:=rfl
  rw [e1] at h4 ⊢
  have h4:(gi way (augK way a t).at_).n≤m:=h4
  generalize augK way a t=x at *
  repeat' (first|apply VWp.assoc|apply VWp.rseq|apply VWp.region|apply VWp.skipSeq|apply QBlk.normal|apply VWp.blockQ|apply VOps.nil|apply VOps.one|(apply VVal.storeVL (y:=(gi x.owner (gi way x.at_).n));rfl;rfl;rfl;trivial;(first|rfl|(refine congrArg (fun t=>[PV.p (FV.int _ t)]) ?_;first|omega|(simp only [Int.natCast_add,Int.natCast_mul,Int.natCast_ediv,Int.natCast_emod]<;>omega)));rfl;rfl;decide;(first|omega|(simp only [List.length_set]<;>omega)))|(apply VVal.assign;rfl)|(apply VVal.move;rfl)|(apply VVal.int;rfl;rfl;rfl)|(apply VVal.loadVL;rfl;rfl;omega;rfl)|(apply VVal.indexVN;rfl;rfl;rfl;rfl;omega)|(apply VWp.condSeq_dec;rfl)|(intro _;try (exfalso;omega)))
  all_goals try (exfalso;omega)
  refine QLoop.normal ⟨by first|omega|decide,?_,?_⟩
  ·repeat (first|exact LCov.nil|refine LCov.same trivial rfl ?_|refine LCov.same (lt_dec rfl) rfl ?_|refine LCov.same ⟨trivial,lt_dec rfl,trivial⟩ rfl ?_|refine LCov.same ⟨trivial,lt_dec rfl,lt_dec rfl,trivial⟩ rfl ?_|refine LCov.same ⟨trivial,lt_dec rfl,lt_dec rfl,lt_dec rfl,trivial⟩ rfl ?_|refine LCov.same ⟨trivial,lt_dec rfl,lt_dec rfl,lt_dec rfl,lt_dec rfl,trivial⟩ rfl ?_|refine LCov.same ⟨trivial,trivial⟩ rfl ?_|refine LCov.cons trivial rfl (.of_eq (lst_len (by simp<;>omega))) ?_)
  ·repeat (first|exact HCov.nil|(refine HCov.cons (lt_dec rfl) ?_ rfl ?_ ?_;(first|exact HB.under_of rfl|exact PVs.under_pure _ _|(simp [HB.under,PVs.under,PV.under]));(first|exact HLe.refl _|exact HLe.vec (FLes.refl _) (by simp))))
 ·rw [hfin]
  repeat' (first|apply VWp.assoc|apply VWp.rseq|apply VWp.exitSeq|apply QLoop.exit|apply VOps.nil|apply VOps.one|(apply VVal.move;rfl)|(apply VVal.int;rfl;rfl;rfl)|(apply VWp.condSeq_false;rfl))
  all_goals try (exfalso;omega)
  refine ⟨rfl,⟨Nat.le_refl _,?_,?_⟩⟩
  ·repeat (first|exact LCov.nil|refine LCov.same trivial rfl ?_|refine LCov.same (lt_dec rfl) rfl ?_|refine LCov.same ⟨trivial,lt_dec rfl,trivial⟩ rfl ?_|refine LCov.same ⟨trivial,lt_dec rfl,lt_dec rfl,trivial⟩ rfl ?_|refine LCov.same ⟨trivial,lt_dec rfl,lt_dec rfl,lt_dec rfl,trivial⟩ rfl ?_|refine LCov.same ⟨trivial,lt_dec rfl,lt_dec rfl,lt_dec rfl,lt_dec rfl,trivial⟩ rfl ?_|refine LCov.same ⟨trivial,trivial⟩ rfl ?_|refine LCov.cons trivial rfl (.of_eq (lst_len (by simp<;>omega))) ?_)
  ·repeat (first|exact HCov.nil|(refine HCov.cons (lt_dec rfl) ?_ rfl ?_ ?_;(first|exact HB.under_of rfl|exact PVs.under_pure _ _|(simp [HB.under,PVs.under,PV.under]));(first|exact HLe.refl _|exact HLe.vec (FLes.refl _) (by simp))))
def outL (e:TypeId) (costs:List (List Int)) (n m:Nat) (j:Nat):Vm.Frame :=
 [(20,.p (.int .i64 ((j+1:Nat):Int))),(0,.p (.lst e (cells costs) n)),(2,.ref 0 0),(4,.p (.int .i64 (m:Int))),(7,.vec 3 (m+1) 0 (m+1)),(19,.ref 6 0)]
def outH (n m:Nat) (U V:List Int) (o:List Ix) (x:Out):Vm.Heap :=
 [(5,.vec 3 (cells x.cols) n false),(6,.box 69 [.vec 5 n 0 n,.p (.int .i64 x.total),.p (.lst 3 (cells U) n),.p (.lst 3 (cells V) m)]),(0,resZ),(3,.vec 3 (cells o) (m+1) false)]
theorem out_walk {costs:List (List Int)} {n m:Nat} {e:TypeId} {U V:List Int} {o:List Ix} (hm:m≤1000) (hn:n≤1000) (hl:costs.length=n) (hrow:∀ r,r<n→(gi costs r).length=m) (ho:o.length=m+1) (hle:∀ j,1≤j→j≤m→(gi o j).n≤n) (hlen:∀ j,j≤m→(outK costs o n j).cols.length=n)
 (hcost:∀ r j,0≤gi (gi costs r) j∧gi (gi costs r) j≤1000000000000) (htot:∀ j,j≤m→0≤(outK costs o n j).total∧(outK costs o n j).total≤1000000000000000) :
 VWp env 0 (loopOf Tryz.f72 36) (outL e costs n m 0) (outH n m U V o (outK costs o n 0)) 7 (fun ex L' H' nx'=>ex=.exit 10∧Cov L' H' nx' (outL e costs n m m) (outH n m U V o (outK costs o n m)) 7):=by
 show VWp env 0 (Code.loop _) _ _ _ _
 refine VWp.loopR m (outL e costs n m 0 |>.drop 1) (outH n m U V o (outK costs o n 0) |>.drop 2) (fun j _=>outL e costs n m j) (fun j _=>outH n m U V o (outK costs o n j)) 7 (by omega) (Nat.le_refl _) ?_ ?_ ?_ ?_
 ·repeat (first|exact LCov.nil|refine LCov.same trivial rfl ?_|refine LCov.same (lt_dec rfl) rfl ?_|refine LCov.same ⟨trivial,lt_dec rfl,trivial⟩ rfl ?_|refine LCov.same ⟨trivial,lt_dec rfl,lt_dec rfl,trivial⟩ rfl ?_|refine LCov.same ⟨trivial,lt_dec rfl,lt_dec rfl,lt_dec rfl,trivial⟩ rfl ?_|refine LCov.same ⟨trivial,lt_dec rfl,lt_dec rfl,lt_dec rfl,lt_dec rfl,trivial⟩ rfl ?_|refine LCov.same ⟨trivial,trivial⟩ rfl ?_|refine LCov.cons trivial rfl (.of_eq (lst_len (by simp<;>omega))) ?_)
 ·repeat (first|exact HCov.nil|(refine HCov.cons (lt_dec rfl) ?_ rfl ?_ ?_;(first|exact HB.under_of rfl|exact PVs.under_pure _ _|(simp [HB.under,PVs.under,PV.under]));(first|exact HLe.refl _|exact HLe.vec (FLes.refl _) (by simp))))
 ·intro j hj
  have h1:=hlen j (by omega)
  have h2:=htot j (by omega)
  have h3:=hle (j+1) (by omega) (by omega)
  have e1:outK costs o n (j+1)=outS costs o (outK costs o n j) (j+1):=rfl
  rw [e1]
  generalize outK costs o n j=x at *
  by_cases hp:0<(gi o (j+1)).n
  ·have e9:outS costs o x (j+1)=⟨x.cols.set ((gi o (j+1)).n-1) (((j+1:Nat):Int)-1),x.total+gi (gi costs ((gi o (j+1)).n-1)) j⟩:=if_pos hp
   rw [e9]
   have hrl:=hrow ((gi o (j+1)).n-1) (by omega)
   have hc1:=hcost ((gi o (j+1)).n-1) j
   have hs1:vint .sub .i64 ((gi o (j+1)).n:Int) 1=some (.int .i64 (((gi o (j+1)).n-1:Nat):Int)):=by
    simp only [vint]
    rw [wrap_i64 (by omega)]
    congr 2;omega
   have hs2:vint .sub .i64 ((j+1:Nat):Int) 1=some (.int .i64 (j:Int)):=by
    simp only [vint]
    rw [wrap_i64 (by omega)]
    congr 2;omega
   clear hcost htot hlen hle e1
   repeat' (first|apply VWp.assoc|apply VWp.rseq|apply VWp.region|apply VWp.regionD|apply VWp.skipSeq|apply VWp.blockSeq|apply QSeq.normal|apply QBlk.normal|apply VOps.nil|apply VOpsD.nil|apply VOps.one|(apply VOpsD.bar;decide +kernel)|apply VOpsD.quiet|(apply VVal.indexN (l:=costs);rfl;rfl;rfl;omega;exact hl)|(apply VVal.int;rfl;rfl;exact hs1)|(apply VVal.int;rfl;rfl;exact hs2)|(apply VVal.storeVL (y:=(((j+1:Nat):Int)-1));rfl;rfl;rfl;trivial;(first|rfl|(refine congrArg (fun t=>[PV.p (FV.int _ t)]) ?_;first|omega|(simp only [Int.natCast_add,Int.natCast_mul,Int.natCast_ediv,Int.natCast_emod]<;>omega)));rfl;rfl;decide;(first|omega|(simp only [List.length_set]<;>omega)))|(apply VVal.assign;rfl)|(apply VVal.move;rfl)|(apply VVal.add64;rfl;rfl;omega)|(apply VVal.int;rfl;rfl;rfl)|(apply VVal.indexN;rfl;rfl;rfl;omega;rfl)|(apply VVal.loadVL;rfl;rfl;omega;rfl)|(apply VVal.load;rfl;rfl)|(apply VVal.fieldB;rfl;rfl;rfl)|(apply VVal.storeB;rfl;rfl;rfl;trivial;rfl;rfl;exact lt_dec rfl;exact le_dec rfl)|(apply VVal.indexVN;rfl;rfl;rfl;rfl;omega)|(apply VWp.condSeq_dec;rfl)|(apply VWp.cond_dec;rfl)|(intro _;try (exfalso;omega)))
   all_goals try (exfalso;omega)
   refine QLoop.normal ⟨by first|omega|decide,?_,?_⟩
   ·repeat (first|exact LCov.nil|refine LCov.same trivial rfl ?_|refine LCov.same (lt_dec rfl) rfl ?_|refine LCov.same ⟨trivial,lt_dec rfl,trivial⟩ rfl ?_|refine LCov.same ⟨trivial,lt_dec rfl,lt_dec rfl,trivial⟩ rfl ?_|refine LCov.same ⟨trivial,lt_dec rfl,lt_dec rfl,lt_dec rfl,trivial⟩ rfl ?_|refine LCov.same ⟨trivial,lt_dec rfl,lt_dec rfl,lt_dec rfl,lt_dec rfl,trivial⟩ rfl ?_|refine LCov.same ⟨trivial,trivial⟩ rfl ?_|refine LCov.cons trivial rfl (.of_eq (lst_len (by simp<;>omega))) ?_)
   ·repeat (first|exact HCov.nil|(refine HCov.cons (lt_dec rfl) ?_ rfl ?_ ?_;(first|exact HB.under_of rfl|exact PVs.under_pure _ _|(simp [HB.under,PVs.under,PV.under]));(first|exact HLe.refl _|exact HLe.vec (FLes.refl _) (by simp))))
  ·have e9:outS costs o x (j+1)=x:=if_neg hp
   rw [e9]
   clear hcost htot hlen hle e1
   repeat' (first|apply VWp.assoc|apply VWp.rseq|apply VWp.region|apply VWp.skipSeq|apply VWp.blockSeq|apply QSeq.normal|apply QBlk.normal|apply VWp.skip|apply VOps.nil|apply VOps.one|(apply VVal.assign;rfl)|(apply VVal.move;rfl)|(apply VVal.add64;rfl;rfl;omega)|(apply VVal.int;rfl;rfl;rfl)|(apply VVal.loadVL;rfl;rfl;omega;rfl)|(apply VVal.indexVN;rfl;rfl;rfl;rfl;omega)|(apply VWp.condSeq_dec;rfl)|(apply VWp.cond_dec;rfl)|(intro _;try (exfalso;omega)))
   all_goals try (exfalso;omega)
   refine QLoop.normal ⟨by first|omega|decide,?_,?_⟩
   ·repeat (first|exact LCov.nil|refine LCov.same trivial rfl ?_|refine LCov.same (lt_dec rfl) rfl ?_|refine LCov.same ⟨trivial,lt_dec rfl,trivial⟩ rfl ?_|refine LCov.same ⟨trivial,lt_dec rfl,lt_dec rfl,trivial⟩ rfl ?_|refine LCov.same ⟨trivial,lt_dec rfl,lt_dec rfl,lt_dec rfl,trivial⟩ rfl ?_|refine LCov.same ⟨trivial,lt_dec rfl,lt_dec rfl,lt_dec rfl,lt_dec rfl,trivial⟩ rfl ?_|refine LCov.same ⟨trivial,trivial⟩ rfl ?_|refine LCov.cons trivial rfl (.of_eq (lst_len (by simp<;>omega))) ?_)
   ·repeat (first|exact HCov.nil|(refine HCov.cons (lt_dec rfl) ?_ rfl ?_ ?_;(first|exact HB.under_of rfl|exact PVs.under_pure _ _|(simp [HB.under,PVs.under,PV.under]));(first|exact HLe.refl _|exact HLe.vec (FLes.refl _) (by simp))))
 ·repeat' (first|apply VWp.assoc|apply VWp.rseq|apply VWp.exitSeq|apply QLoop.exit|apply VOps.nil|apply VOps.one|(apply VVal.move;rfl)|(apply VVal.int;rfl;rfl;rfl)|(apply VWp.condSeq_dec;rfl)|(intro _;try (exfalso;omega)))
  all_goals try (exfalso;omega)
  refine ⟨rfl,⟨Nat.le_refl _,?_,?_⟩⟩
  ·repeat (first|exact LCov.nil|refine LCov.same trivial rfl ?_|refine LCov.same (lt_dec rfl) rfl ?_|refine LCov.same ⟨trivial,lt_dec rfl,trivial⟩ rfl ?_|refine LCov.same ⟨trivial,lt_dec rfl,lt_dec rfl,trivial⟩ rfl ?_|refine LCov.same ⟨trivial,lt_dec rfl,lt_dec rfl,lt_dec rfl,trivial⟩ rfl ?_|refine LCov.same ⟨trivial,lt_dec rfl,lt_dec rfl,lt_dec rfl,lt_dec rfl,trivial⟩ rfl ?_|refine LCov.same ⟨trivial,trivial⟩ rfl ?_|refine LCov.cons trivial rfl (.of_eq (lst_len (by simp<;>omega))) ?_)
  ·repeat (first|exact HCov.nil|(refine HCov.cons (lt_dec rfl) ?_ rfl ?_ ?_;(first|exact HB.under_of rfl|exact PVs.under_pure _ _|(simp [HB.under,PVs.under,PV.under]));(first|exact HLe.refl _|exact HLe.vec (FLes.refl _) (by simp))))
end Go.Proofs.YtdabojnmoejilaaGreatDoor
namespace Go.Proofs.YtdabojnmoejilaaGreatDoor
open Go Go.Am Go.Vm Go.Hun
attribute [local irreducible] VVal VOps VOpsD VWp VCalls VFun VFunV QSeq QBlk QLoop Vm.Done DoneV DoneI
def solveP (costs:List (List Int)) (n m:Nat):PV:=.agg [.vec 5 n 0 n,.p (.int .i64 (solveO costs n m).total),.p (.lst 3 (cells (solveU costs n m)) n),.p (.lst 3 (cells (solveV costs n m)) m)]
theorem solve_calls {costs:List (List Int)} {n m:Nat} {B:Int} (e:TypeId) (hc:CostI costs n m B) (hl:costs.length=n) (hrow:∀ r,r<n→(gi costs r).length=m) (hn:1≤n) (hm:m≤1000) :
 VCalls env 72 [.p (.lst e (cells costs) n)] [] 0 fun r H' nx'=>r=solveP costs n m∧H'=[(5,.vec 3 (cells (solveO costs n m).cols) n false)]∧nx'=6:=by
 have hcol:VFun env 69 [.lst e (cells costs) n] (.p (.int .i64 (m:Int))):=by
  have:=columns_spec e costs (by have:=hc.nm;omega)
  rw [hl] at this
  rwa [show colsN costs=m from hrow 0 (by omega)] at this
 have hnm:=hc.nm
 have hB:=hc.big
 refine VCalls.enter (env_none (by decide)) Tryz.func72 rfl (by kernel_rfl) (by simp [Tryz.ntmps72]) ?_
 repeat' (first|apply VWp.assoc|apply VWp.rseq|apply VWp.rseqD|apply VWp.blockSeq|apply VOps.nil|apply VOpsD.nil|apply VOps.one|(apply VOpsD.bar;decide +kernel)|apply VOpsD.quiet|(apply VVal.fn;rfl;rfl;exact hcol;intro _;rfl)|(apply VVal.makeSliceL (n+1) (0:Int);rfl;rfl;rfl;rfl;rfl;omega;omega;omega;decide;decide;rfl)|(apply VVal.makeSliceL (dst:=some 34) (m+1) (⟨0⟩:Ix);rfl;rfl;rfl;rfl;rfl;omega;omega;omega;decide;decide;rfl)|(apply VVal.makeSliceL (dst:=some 37) (m+1) (⟨0⟩:Ix);rfl;rfl;rfl;rfl;rfl;omega;omega;omega;decide;decide;rfl)|(apply VVal.makeSliceL (m+1) (0:Int);rfl;rfl;rfl;rfl;rfl;omega;omega;omega;decide;decide;rfl)|(apply VVal.assign;rfl)|(apply VVal.move;rfl)|(apply VVal.add64;rfl;rfl;omega)|(apply VVal.lenF;rfl;rfl)|(apply VVal.alloc;rfl))
 apply VWp.loopR (n) [(0,_),(2,_),(3,_),(4,_),(5,_),(6,_),(7,_),(8,_)] [(0,_)] (fun k r=>(9,.p (.int .i64 ((k+1:Nat):Int)))::r) (fun k r=>(1,.vec 3 (cells (stageK costs n m k).u) (n+1) false)::(2,.vec 3 (cells (stageK costs n m k).v) (m+1) false)::(3,.vec 3 (cells (stageK costs n m k).owner) (m+1) false)::(4,.vec 3 (cells (stageK costs n m k).way) (m+1) false)::r) 5
 ·first|omega|decide
 ·first|omega|decide
 ·repeat (first|exact LCov.nil|(refine LCov.eq rfl ?_ ?_;(first|exact PV.under_of rfl|(simp [PV.under,PVs.under];done)))|refine LCov.cons trivial rfl (.of_eq (lst_len (by simp<;>omega))) ?_)
 ·repeat (first|exact HCov.nil|(refine HCov.eq rfl (lt_dec rfl) ?_ ?_;(first|exact HB.under_of rfl|exact PVs.under_pure _ _|(simp [HB.under,PVs.under,PV.under];done)))|(refine HCov.cons (lt_dec rfl) ?_ rfl ?_ ?_;(first|exact trivial|exact PVs.under_pure _ _|(simp [HB.under,PVs.under,PV.under]));(first|exact HLe.refl _|exact HLe.vec (FLes.refl _) (by simp))))
 ·intro k hk
  have hS:=stage_ok hc k (by omega)
  have hS':=hS.step hc hk
  obtain ⟨hgo,hend,hT⟩:=st_end hS hc hk
  have hgr:=st_gr hS hc hk
  have hback:=st_back hS hc hk
  have hv0:=v0_grow hS hc hk
  have hv0s:=v0_stage hc k (by omega)
  have ho:=st_ow hS
  have eS:stageK costs n m (k+1)=stageS costs m (stageK costs n m k) (k+1):=rfl
  have l1:=hS.lu
  have l2:=hS.lv
  have l3:=hS.lo
  have l4:=hS.lw
  rw [eS]
  generalize stageK costs n m k=s at *
  repeat' (first|(refine VOpsD.atIdx 3 ?_;refine VOpsD.ghost (Ghost.freeze 46 rfl rfl) ?_)|apply VWp.assoc|apply VWp.rseq|apply VWp.rseqD|apply VWp.skipSeq|apply VWp.blockSeq|apply VOps.nil|apply VOpsD.nil|apply VOps.one|(apply VOpsD.bar;decide +kernel)|apply VOpsD.quiet|(apply VVal.storeVL (y:=(⟨k+1⟩:Ix));rfl;rfl;rfl;trivial;(first|rfl|(refine congrArg (fun t=>[PV.p (FV.int _ t)]) ?_;first|omega|(simp only [Int.natCast_add,Int.natCast_mul,Int.natCast_ediv,Int.natCast_emod]<;>omega)));rfl;rfl;decide;(first|omega|(simp only [List.length_set]<;>omega)))|(apply VVal.fv;rfl;rfl;exact repeat_spec 3 far (m+1) (by omega) (by omega))|(apply VVal.makeSliceL (m+1) false;rfl;rfl;rfl;rfl;rfl;omega;omega;omega;decide;decide;rfl)|(apply VVal.assign;rfl)|(apply VVal.move;rfl)|(apply VVal.add64;rfl;rfl;omega)|(apply VVal.int;rfl;rfl;rfl)|(apply VVal.buildSlice;rfl;rfl;rfl;decide;rfl;rfl;rfl)|(apply VVal.indexVE;rfl;rfl;rfl;rfl;omega;omega)|(apply VWp.condSeq_dec;rfl)|(intro _;try (exfalso;omega)))
  all_goals try (exfalso;omega)
  apply VWp.loopR (stT costs m s (k+1)) [(0,_),(2,_),(3,_),(4,_),(5,_),(6,_),(7,_),(8,_),(9,_),(11,_),(12,_)] [(0,_)] (fun k_ r=>(10,.p (.int .i64 ((growK costs (stO s (k+1)) m (stG m s) k_).at_:Int)))::r) (fun k_ r=>(1,.vec 3 (cells (growK costs (stO s (k+1)) m (stG m s) k_).u) (n+1) false)::(2,.vec 3 (cells (growK costs (stO s (k+1)) m (stG m s) k_).v) (m+1) false)::(3,.vec 3 (cells (stO s (k+1))) (m+1) false)::(4,.vec 3 (cells (growK costs (stO s (k+1)) m (stG m s) k_).way) (m+1) false)::(6,.vec 3 (cells (growK costs (stO s (k+1)) m (stG m s) k_).least) (m+1) false)::(7,.vec 4 (cells (growK costs (stO s (k+1)) m (stG m s) k_).done) (m+1) false)::r) 8
  ·first|omega|decide
  ·first|omega|decide
  ·repeat (first|exact LCov.nil|(refine LCov.eq rfl ?_ ?_;(first|exact PV.under_of rfl|(simp [PV.under,PVs.under];done)))|refine LCov.cons trivial rfl (.of_eq (lst_len (by simp<;>omega))) ?_)
  ·repeat (first|exact HCov.nil|(refine HCov.eq rfl (lt_dec rfl) ?_ ?_;(first|exact HB.under_of rfl|exact PVs.under_pure _ _|(simp [HB.under,PVs.under,PV.under];done)))|(refine HCov.cons (lt_dec rfl) ?_ rfl ?_ ?_;(first|exact trivial|exact PVs.under_pure _ _|(simp [HB.under,PVs.under,PV.under]));(first|exact HLe.refl _|exact HLe.vec (FLes.refl _) (by simp))))
  ·intro t ht
   have hg:=hgr t fun p hp=>hgo p (by omega)
   have hr:=hgo t ht
   have hR:=round_scan hg hc ho hk hr
   have hSh:=round_shift hg hc ho hk hr
   have hpre:=round_pre hg hc ho hk hr
   have hub:∀ r,1≤r→r≤k+1→gi (growK costs (stO s (k+1)) m (stG m s) t).u r≤B:=fun r r1 r2=>hg.ule hc ho (by omega) r1 r2
   have hvb:∀ j,1≤j→j≤m→-B≤gi (growK costs (stO s (k+1)) m (stG m s) t).v j:=fun j j1 j2=>hg.vge hc ho (by omega) j1 j2
   have hv0t:=hv0 t fun p hp=>hgo p (by omega)
   have eG:growK costs (stO s (k+1)) m (stG m s) (t+1)=roundS costs (stO s (k+1)) m (growK costs (stO s (k+1)) m (stG m s) t):=rfl
   have hat:stAt costs m k s t=(growK costs (stO s (k+1)) m (stG m s) t).at_:=rfl
   have hle:=hg.le t (Nat.le_refl _)
   rw [hat] at hr hle
   rw [eG]
   generalize growK costs (stO s (k+1)) m (stG m s) t=g at *
   have hrow9:=ho.lt hle
   have lo:=ho.len
   generalize stO s (k+1)=o at *
   obtain ⟨row,hrw⟩:∃ row,row=(gi o g.at_).n:=⟨_,rfl⟩
   have hr1:1≤row:=by have:(gi o g.at_).n≠0:=hr;omega
   have hr2:row≤k+1:=by rw [hrw];exact hrow9
   have m1:=hg.lu
   have m2:=hg.lv
   have m3:=hg.lw
   have m4:=hg.ll
   have m5:=hg.ld
   have eR:roundS costs o m g=⟨(shiftK o (roundD g) (roundC costs o m g).delta ⟨g.u,g.v,(roundC costs o m g).least⟩ (m+1)).u,(shiftK o (roundD g) (roundC costs o m g).delta ⟨g.u,g.v,(roundC costs o m g).least⟩ (m+1)).v,(roundC costs o m g).way,(shiftK o (roundD g) (roundC costs o m g).delta ⟨g.u,g.v,(roundC costs o m g).least⟩ (m+1)).least,roundD g,(roundC costs o m g).next⟩:=rfl
   rw [eR]
   have hD9:(roundD g).length=m+1:=by unfold roundD;rw [List.length_set,m5]
   have hrl:(gi costs ((gi o g.at_).n-1)).length=m:=hrow _ (by omega)
   have hcost:∀ j,0≤gi (gi costs ((gi o g.at_).n-1)) j∧gi (gi costs ((gi o g.at_).n-1)) j≤B:=fun j=>⟨hc.lo (gi o g.at_).n (j+1),hc.hi (gi o g.at_).n (j+1)⟩
   have hu0:=hg.upos (gi o g.at_).n (by omega) (by omega)
   have hu1:=hub (gi o g.at_).n (by omega) (by omega)
   have hs1:vint .sub .i64 ((gi o g.at_).n:Int) 1=some (.int .i64 (((gi o g.at_).n-1:Nat):Int)):=by
    simp only [vint]
    rw [wrap_i64 (by omega)]
    congr 2;omega
   have hdn:∀ j,j≤m→gi (roundD g) j=true→1≤(gi o j).n∧(gi o j).n≤k+1:=fun j hj hd=>by
    obtain ⟨p,p1,p2⟩:=(hR.doneD j).1 hd
    have h1:=ho.lt hj
    refine ⟨?_,h1⟩
    rcases Nat.lt_or_ge p t with h|h
    ·have:=hg.ownD p h
     rw [p2] at this
     unfold Hun.own at this
     omega
    ·obtain rfl:p=t:=by omega
     have h2:=hr
     rw [← hat,p2] at h2
     unfold Hun.own at h2
     omega
   clear hs1
   have hkB:(k:Int)*B≤1000*1000000000000:=Int.mul_le_mul (by omega) hB.2 hB.1 (by omega)
   repeat' (first|apply VWp.assoc|apply VWp.rseq|apply VWp.skipSeq|apply VWp.blockSeq|apply VWp.blockQ|apply VOps.nil|apply VOps.one|(apply VVal.storeVL (y:=true);rfl;rfl;rfl;trivial;(first|rfl|(refine congrArg (fun t=>[PV.p (FV.int _ t)]) ?_;first|omega|(simp only [Int.natCast_add,Int.natCast_mul,Int.natCast_ediv,Int.natCast_emod]<;>omega)));rfl;rfl;decide;(first|omega|(simp only [List.length_set]<;>omega)))|(apply VVal.assign;rfl)|(apply VVal.move;rfl)|(apply VVal.int;rfl;rfl;rfl)|(apply VVal.loadVL;rfl;rfl;omega;rfl)|(apply VVal.indexVN;rfl;rfl;rfl;rfl;omega)|(apply VWp.condSeq_dec;rfl)|(intro _;try (exfalso;omega)))
   all_goals try (exfalso;omega)
   refine VWp.blk (scan_walk (e:=e) (k:=k) (row:=(gi o g.at_).n) (a:=g.at_) (u:=g.u) (v:=g.v) (o:=o) (done:=roundD g) (s0:=⟨g.least,g.way,far,0⟩) hB hl hm (by omega) ⟨by omega,by omega⟩ hrl hcost m1 m2 hD9 m4 m3 ⟨hu0,hu1⟩ fun j j1 j2=>⟨hvb j j1 j2,hg.vneg j j1 j2⟩) (by omega) (by omega) ?_ ?_ ?_
   ·repeat (first|exact LCov.nil|refine LCov.same trivial rfl ?_|refine LCov.same (lt_dec rfl) rfl ?_|refine LCov.same ⟨trivial,lt_dec rfl,trivial⟩ rfl ?_|refine LCov.same ⟨trivial,lt_dec rfl,lt_dec rfl,trivial⟩ rfl ?_|refine LCov.same ⟨trivial,lt_dec rfl,lt_dec rfl,lt_dec rfl,trivial⟩ rfl ?_|refine LCov.same ⟨trivial,lt_dec rfl,lt_dec rfl,lt_dec rfl,lt_dec rfl,trivial⟩ rfl ?_|refine LCov.same ⟨trivial,trivial⟩ rfl ?_|refine LCov.cons trivial rfl (.of_eq (lst_len (by simp<;>omega))) ?_)
   ·repeat (first|exact HCov.nil|(refine HCov.cons (lt_dec rfl) ?_ rfl ?_ ?_;(first|exact HB.under_of rfl|exact PVs.under_pure _ _|(simp [HB.under,PVs.under,PV.under]));(first|exact HLe.refl _|exact HLe.vec (FLes.refl _) (by simp))))
   ·have eC:scanK (gi costs ((gi o g.at_).n-1)) (gi g.u (gi o g.at_).n) g.v (roundD g) g.at_ ⟨g.least,g.way,far,0⟩ m=roundC costs o m g:=rfl
    rw [eC]
    generalize roundC costs o m g=sc at *
    have n1:=hR.ll
    have n2:=hR.lw
    repeat' (first|apply VWp.assoc|apply VWp.rseq|apply VWp.blockSeq|apply QSeq.normal|apply QBlk.exit|apply VOps.nil|apply VOps.one|(apply VVal.move;rfl)|(apply VVal.lenV;rfl;rfl;rfl))
    all_goals try (exfalso;omega)
    refine VWp.blk (shift_walk (e:=e) (costs:=costs) (k:=k) (nxt:=sc.next) (o:=o) (way:=sc.way) (done:=roundD g) (t0:=⟨g.u,g.v,sc.least⟩) ⟨hR.d0,by have:=hR.dB;omega⟩ hm (by omega) m1 m2 n1 lo hD9 hpre.1 hpre.2 (fun j hj hd=>?_) (fun j hj=>?_) (fun j hj hd=>?_)) (by omega) (by omega) ?_ ?_ ?_
    ·have:=hdn j hj hd
     exact ⟨hg.upos _ this.1 this.2,Int.le_trans (hub _ this.1 this.2) hB.2⟩
    ·show -2000000000000000≤gi g.v j∧gi g.v j≤0
     rcases Nat.eq_zero_or_pos j with h|h
     ·subst h
      have:=hg.upos (k+1) (by omega) (Nat.le_refl _)
      have:=hub (k+1) (by omega) (Nat.le_refl _)
      omega
     ·have:=hvb j h hj
      exact ⟨by omega,hg.vneg j h hj⟩
    ·have h0:1≤j:=by
      rcases Nat.eq_zero_or_pos j with h|h
      ·subst h
       rw [(hR.doneD 0).2 ⟨0,by omega,hg.zero⟩] at hd
       cases hd
      ·exact h
     obtain ⟨p,p1,p2,p3⟩:=hR.leastE j h0 hj hd
     have h1:=hR.dle j h0 hj hd
     have h2:=hR.d0
     have h3:=hvb j h0 hj
     have h4:=hc.hi (Hun.own o (stAt costs m k s p)) j
     have h5:0≤gi g.u (Hun.own o (stAt costs m k s p)):=by
      have hp1:Hun.own o (stAt costs m k s p)≠0:=by
       rcases Nat.lt_or_ge p t with h|h
       ·exact hg.ownD p h
       ·obtain rfl:p=t:=by omega
        rw [hat];exact hr
      exact hg.upos _ (by omega) (ho.lt (hg.le p (by omega)))
     have hf:far=1152921504606846976:=rfl
     show 0≤gi sc.least j∧gi sc.least j≤far
     omega
    ·repeat (first|exact LCov.nil|refine LCov.same trivial rfl ?_|refine LCov.same (lt_dec rfl) rfl ?_|refine LCov.same ⟨trivial,lt_dec rfl,trivial⟩ rfl ?_|refine LCov.same ⟨trivial,lt_dec rfl,lt_dec rfl,trivial⟩ rfl ?_|refine LCov.same ⟨trivial,lt_dec rfl,lt_dec rfl,lt_dec rfl,trivial⟩ rfl ?_|refine LCov.same ⟨trivial,lt_dec rfl,lt_dec rfl,lt_dec rfl,lt_dec rfl,trivial⟩ rfl ?_|refine LCov.same ⟨trivial,trivial⟩ rfl ?_|refine LCov.cons trivial rfl (.of_eq (lst_len (by simp<;>omega))) ?_)
    ·repeat (first|exact HCov.nil|(refine HCov.cons (lt_dec rfl) ?_ rfl ?_ ?_;(first|exact HB.under_of rfl|exact PVs.under_pure _ _|(simp [HB.under,PVs.under,PV.under]));(first|exact HLe.refl _|exact HLe.vec (FLes.refl _) (by simp))))
    ·repeat' (first|apply VWp.region|apply QSeq.normal|apply QBlk.normal|apply QBlk.exit|apply VOps.nil|apply VOps.one|(apply VVal.assign;rfl)|(apply VVal.move;rfl))
     all_goals try (exfalso;omega)
     refine QLoop.normal ⟨by first|omega|decide,?_,?_⟩
     ·repeat (first|exact LCov.nil|refine LCov.same trivial rfl ?_|refine LCov.same (lt_dec rfl) rfl ?_|refine LCov.same ⟨trivial,lt_dec rfl,trivial⟩ rfl ?_|refine LCov.same ⟨trivial,lt_dec rfl,lt_dec rfl,trivial⟩ rfl ?_|refine LCov.same ⟨trivial,lt_dec rfl,lt_dec rfl,lt_dec rfl,trivial⟩ rfl ?_|refine LCov.same ⟨trivial,lt_dec rfl,lt_dec rfl,lt_dec rfl,lt_dec rfl,trivial⟩ rfl ?_|refine LCov.same ⟨trivial,trivial⟩ rfl ?_|refine LCov.cons trivial rfl (.of_eq (lst_len (by simp<;>omega))) ?_)
     ·repeat (first|exact HCov.nil|(refine HCov.cons (lt_dec rfl) ?_ rfl ?_ ?_;(first|exact HB.under_of rfl|exact PVs.under_pure _ _|(simp [HB.under,PVs.under,PV.under]));(first|exact HLe.refl _|exact HLe.vec (FLes.refl _) (by simp))))
  ·have h0:(gi (stO s (k+1)) (growK costs (stO s (k+1)) m (stG m s) (stT costs m s (k+1))).at_).n=0:=hend
   have hg:=hgr _ hgo
   have hle:=hg.le _ (Nat.le_refl _)
   have hat:stAt costs m k s (stT costs m s (k+1))=(growK costs (stO s (k+1)) m (stG m s) (stT costs m s (k+1))).at_:=rfl
   rw [hat] at hle
   have lo:=ho.len
   have eE:growK costs (stO s (k+1)) m (stG m s) (stT costs m s (k+1))=stE costs m s (k+1):=rfl
   rw [eE] at h0 hle hg hat ⊢
   repeat' (first|apply VWp.assoc|apply VWp.rseq|apply VWp.exitSeq|apply QSeq.normal|apply QBlk.exit|apply QLoop.exit|apply VWp.blockQ|apply VOps.nil|apply VOps.one|(apply VVal.move;rfl)|(apply VVal.int;rfl;rfl;rfl)|(apply VVal.loadVL;rfl;rfl;omega;rfl)|(apply VVal.indexVN;rfl;rfl;rfl;rfl;omega)|(apply VWp.condSeq_dec;rfl)|(intro _;try (exfalso;omega)))
   all_goals try (exfalso;omega)
   have hA:∀ t,t≤stU costs m s (k+1)→(augK (stE costs m s (k+1)).way (stA costs m s (k+1)) t).owner.length=m+1∧(augK (stE costs m s (k+1)).way (stA costs m s (k+1)) t).at_≤m:=fun t ht=>by
    obtain ⟨q,q1,q2⟩:=hback.inv t ht
    exact ⟨q2.len,by rw [q2.at_];exact (hgr q fun p hp=>hgo p (by omega)).le q (Nat.le_refl _)⟩
   refine VWp.blk (aug_walk (e:=e) (costs:=costs) (n:=n) (k:=k) (u:=(stE costs m s (k+1)).u) (v:=(stE costs m s (k+1)).v) (a:=stA costs m s (k+1)) hm hg.lw (fun t ht=>(hA t ht).1) hback.go (fun t ht=>(hA t ht).2) hback.fin) (by omega) (by omega) ?_ ?_ ?_
   ·repeat (first|exact LCov.nil|refine LCov.same trivial rfl ?_|refine LCov.same (lt_dec rfl) rfl ?_|refine LCov.same ⟨trivial,lt_dec rfl,trivial⟩ rfl ?_|refine LCov.same ⟨trivial,lt_dec rfl,lt_dec rfl,trivial⟩ rfl ?_|refine LCov.same ⟨trivial,lt_dec rfl,lt_dec rfl,lt_dec rfl,trivial⟩ rfl ?_|refine LCov.same ⟨trivial,lt_dec rfl,lt_dec rfl,lt_dec rfl,lt_dec rfl,trivial⟩ rfl ?_|refine LCov.same ⟨trivial,trivial⟩ rfl ?_|refine LCov.cons trivial rfl (.of_eq (lst_len (by simp<;>omega))) ?_)
   ·repeat (first|exact HCov.nil|(refine HCov.cons (lt_dec rfl) ?_ rfl ?_ ?_;(first|exact HB.under_of rfl|exact PVs.under_pure _ _|(simp [HB.under,PVs.under,PV.under]));(first|exact HLe.refl _|exact HLe.vec (FLes.refl _) (by simp))))
   ·repeat' (first|apply VWp.region|apply QSeq.normal|apply QBlk.normal|apply QBlk.exit|apply VOps.nil|apply VOps.one|(apply VVal.assign;rfl)|(apply VVal.move;rfl)|(apply VVal.add64;rfl;rfl;omega))
    all_goals try (exfalso;omega)
    refine QLoop.normal ⟨by first|omega|decide,?_,?_⟩
    ·repeat (first|exact LCov.nil|refine LCov.same trivial rfl ?_|refine LCov.same (lt_dec rfl) rfl ?_|refine LCov.same ⟨trivial,lt_dec rfl,trivial⟩ rfl ?_|refine LCov.same ⟨trivial,lt_dec rfl,lt_dec rfl,trivial⟩ rfl ?_|refine LCov.same ⟨trivial,lt_dec rfl,lt_dec rfl,lt_dec rfl,trivial⟩ rfl ?_|refine LCov.same ⟨trivial,lt_dec rfl,lt_dec rfl,lt_dec rfl,lt_dec rfl,trivial⟩ rfl ?_|refine LCov.same ⟨trivial,trivial⟩ rfl ?_|refine LCov.cons trivial rfl (.of_eq (lst_len (by simp<;>omega))) ?_)
    ·repeat (first|exact HCov.nil|(refine HCov.cons (lt_dec rfl) ?_ rfl ?_ ?_;(first|exact HB.under_of rfl|exact PVs.under_pure _ _|(simp [HB.under,PVs.under,PV.under]));(first|exact HLe.refl _|exact HLe.vec (FLes.refl _) (by simp))))
 ·have hS:=stage_ok hc n (Nat.le_refl _)
  have hO:=out_spec hS
  have hs:=solve_ok hc
  have l1:=hS.lu
  have l2:=hS.lv
  have l3:=hS.lo
  have eO:outK costs (stageK costs n m n).owner n m=solveO costs n m:=rfl
  have eU:(stageK costs n m n).u.drop 1=solveU costs n m:=rfl
  have eV:(stageK costs n m n).v.drop 1=solveV costs n m:=rfl
  have htot:∀ j,j≤m→0≤(outK costs (stageK costs n m n).owner n j).total∧(outK costs (stageK costs n m n).owner n j).total≤1000000000000000:=fun j hj=>by
   rw [(hO j hj).total]
   have h1:=sumN_bound (f:=fun k=>if 0<Hun.own (stageK costs n m n).owner (k+1) then cst costs (Hun.own (stageK costs n m n).owner (k+1)) (k+1) else 0) (a:=0) (b:=1000000000000) (n:=j) fun k hk=>by
    split
    ·exact ⟨hc.lo _ _,Int.le_trans (hc.hi _ _) hB.2⟩
    ·exact ⟨Int.le_refl _,by decide⟩
   omega
  generalize stageK costs n m n=s at *
  repeat' (first|(refine VWp.at 34 ?_;refine VWp.ghost (Ghost.freeze 5 rfl rfl) ?_;first|apply VWp.rseq|apply VWp.rseqD)|(refine VOpsD.atIdx 4 ?_;refine VOpsD.ghost (Ghost.freeze 6 rfl rfl) ?_)|apply VWp.assoc|apply VWp.rseq|apply VWp.exitSeq|apply VWp.blockSeq|apply QSeq.normal|apply QBlk.exit|apply QLoop.exit|apply VOps.nil|apply VOpsD.nil|apply VOps.one|(apply VOpsD.bar;decide +kernel)|apply VOpsD.quiet|(apply VVal.makeSliceL n (0:Int);rfl;rfl;rfl;rfl;rfl;rfl;rfl;omega;decide;decide;rfl)|(apply VVal.sliceFrom (l:=s.u) (a:=1);rfl;rfl;rfl;rfl;rfl;exact l1;omega)|(apply VVal.sliceFrom (l:=s.v) (a:=1);rfl;rfl;rfl;rfl;rfl;exact l2;omega)|(apply VVal.assign;rfl)|(apply VVal.move;rfl)|(apply VVal.int;rfl;rfl;rfl)|(apply VVal.alloc;rfl)|(apply VVal.storeB;rfl;rfl;rfl;trivial;rfl;rfl;exact lt_dec rfl;exact le_dec rfl)|(apply VVal.build;rfl;rfl;rfl;rfl;rfl)|(apply VWp.condSeq_dec;rfl)|(intro _;try (exfalso;omega)))
  all_goals try (exfalso;omega)
  have e1:costs.length=n:=hl
  refine VWp.blk (out_walk (e:=e) (costs:=costs) (n:=n) (m:=m) (U:=s.u.drop 1) (V:=s.v.drop 1) (o:=s.owner) hm (by omega) hl hrow l3 (fun j j1 j2=>hS.own j j1 j2) (fun j hj=>(hO j hj).len) (fun r j=>⟨hc.lo (r+1) (j+1),Int.le_trans (hc.hi (r+1) (j+1)) hB.2⟩) htot) (by omega) (by omega) ?_ ?_ ?_
  ·repeat (first|exact LCov.nil|refine LCov.same trivial rfl ?_|refine LCov.same (lt_dec rfl) rfl ?_|refine LCov.same ⟨trivial,lt_dec rfl,trivial⟩ rfl ?_|refine LCov.same ⟨trivial,lt_dec rfl,lt_dec rfl,trivial⟩ rfl ?_|refine LCov.same ⟨trivial,lt_dec rfl,lt_dec rfl,lt_dec rfl,trivial⟩ rfl ?_|refine LCov.same ⟨trivial,lt_dec rfl,lt_dec rfl,lt_dec rfl,lt_dec rfl,trivial⟩ rfl ?_|refine LCov.same ⟨trivial,trivial⟩ rfl ?_|refine LCov.cons trivial rfl (.of_eq (lst_len (by simp<;>omega))) ?_)
  ·repeat (first|exact HCov.nil|(refine HCov.cons (lt_dec rfl) ?_ rfl ?_ ?_;(first|exact HB.under_of rfl|exact PVs.under_pure _ _|(simp [HB.under,PVs.under,PV.under]));(first|exact HLe.refl _|exact HLe.vec (FLes.refl _) (by simp))))
  ·rw [eO,eU,eV]
   repeat' (first|apply VWp.rseq|apply QSeq.normal|apply QBlk.exit|apply VWp.ret|apply VOps.nil|apply VOps.one|(apply VVal.load;rfl;rfl)|(apply VVal.storeB;rfl;rfl;rfl;trivial;rfl;rfl;exact lt_dec rfl;exact le_dec rfl))
   all_goals try (exfalso;omega)
   refine Done.ret (H0:=[(5,.vec 3 (cells (solveO costs n m).cols) n false)]) (nx0:=6) rfl (.refl _) ⟨lt_dec rfl,trivial,trivial,trivial,trivial⟩ ?_ (by omega) (by omega) ⟨rfl,rfl,rfl⟩
   repeat (first|exact HCov.nil|(refine HCov.cons (lt_dec rfl) ?_ rfl ?_ ?_;(first|exact HB.under_of rfl|exact PVs.under_pure _ _|(simp [HB.under,PVs.under,PV.under]));(first|exact HLe.refl _|exact HLe.vec (FLes.refl _) (by simp))))
end Go.Proofs.YtdabojnmoejilaaGreatDoor
