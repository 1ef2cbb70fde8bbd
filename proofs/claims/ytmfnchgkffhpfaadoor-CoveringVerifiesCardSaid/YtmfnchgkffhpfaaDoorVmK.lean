/-
  The values' layer: maps from ints to lists; less known within a region; names exchanged. No condition. Nothing of one program stands here.
-/
import Derived.Test.YtmfnchgkffhpfaaDoorVmE
set_option linter.unusedSimpArgs false
set_option linter.unusedVariables false
set_option linter.unusedSectionVars false
namespace Go.Vm
open Go.Am
def mapI (e:TypeId) (ks:List Int) (f:Int→List Int):List (FV×FV):=ks.map fun k=>(.int .i64 k,.lst e (cells (f k)) (f k).length)
theorem mapI_fst (e:TypeId) (ks:List Int) (f:Int→List Int):(mapI e ks f).map (·.1)=ks.map (FV.int .i64):=by simp [mapI]
theorem mapI_snd (e:TypeId) (ks:List Int) (f:Int→List Int):(mapI e ks f).map (·.2)=ks.map fun k=>FV.lst e (cells (f k)) (f k).length:=by simp [mapI]
theorem rfs_ints {m:Mem} {F:Nat→Prop}:∀ {ks:List Int} {vs:List Value},RFs m F (ks.map (FV.int .i64)) vs→vs=ks.map (Value.int .i64)
 |[],_,h=>by cases h;rfl
 |k::ks,_,h=>by
  cases h with
  |cons h t=>cases h;rw [rfs_ints t];rfl
theorem find_int:∀ {ks:List Int} {l:List MapEntry},l.map (·.key)=ks.map (Value.int .i64)→∀ (n:Int) (i:Nat),
 (n∉ks→Instr.findNow (.int .i64) (.int .i64 n) l i=some none)∧(n∈ks→∃ j v,Instr.findNow (.int .i64) (.int .i64 n) l i=some (some (i+j,v))∧ks[j]?=some n∧(l.map (·.val))[j]?=some v)
 |[],[],_,n,i=>⟨fun _=>rfl,fun h=>by cases h⟩
 |[],e::l,h,_,_=>by cases h
 |k::ks,[],h,_,_=>by cases h
 |k::ks,e::l,h1,n,i=>by
  simp only [List.map_cons,List.cons.injEq] at h1
  obtain ⟨i1,i2⟩:=find_int h1.2 n (i+1)
  have hs:Instr.sameNow (.int .i64) (.int .i64 n) (.int .i64 k)=some (n==k):=rfl
  unfold Instr.findNow
  rw [h1.1,hs]
  by_cases hn:n=k
  ·subst hn
   rw [beq_self_eq_true]
   exact ⟨fun h=>absurd (by simp) h,fun _=>⟨0,e.val,rfl,rfl,rfl⟩⟩
  ·rw [beq_false_of_ne hn]
   simp only
   refine ⟨fun h=>i1 fun h'=>h (List.mem_cons_of_mem _ h'),fun h=>?_⟩
   rcases List.mem_cons.1 h with h|h
   ·exact absurd h hn
   ·obtain ⟨j,v,e1,e2,e3⟩:=i2 h
    exact ⟨j+1,v,by rw [e1];congr 3;omega,by simpa using e2,by simpa using e3⟩
theorem rfs_at {m:Mem} {F:Nat→Prop}:∀ {cs:List FV} {vs:List Value} {j:Nat} {v:Value},RFs m F cs vs→vs[j]?=some v→∃ c,cs[j]?=some c∧RF m F c v
 |_,_,0,v,.cons h t,e=>by simp at e;subst e;exact ⟨_,rfl,h⟩
 |_,_,j+1,v,.cons h t,e=>by
  simp at e
  obtain ⟨c,h1,h2⟩:=rfs_at t e
  exact ⟨c,by simpa using h1,h2⟩
 |_,_,_,_,.nil,e=>by simp at e
section
variable {E:Env} {L:Frame} {H:Heap} {nx:Nat} {Q:PV→Heap→Nat→Prop} {w:Bool}
variable {dst:Option Tmp} {ty:TypeId} {pos:String} {af:Array Edge} {gd:Option (Nat×Bool)}
theorem vev_i {Γ:Nat→Option (List Value×TypeId)} {m:Mem} {F:Nat→Prop} {σ:Nat→Value} {t:Tr Value} {k:IntKind} {n:Int} {o:Operand} (hx:Ctx Γ m F σ H nx) (hl:RL m F (htag H) σ nx L t) (h:vev Γ L o=some (.p (.int k n))):ev t o=.int k n:=by
 have:=vev_rel hx hl h
 generalize ev t o=v at this
 cases this with
 |p h=>cases h;rfl
theorem VVal.lookupI {t kt et e:TypeId} {x k:Operand} {b:Nat} {ks:List Int} {f:Int→List Int} {n:Int} (hx:vev E.Γ L x=some (.mref b)) (hb:hget H b=some (.map (mapI e ks f))) (hk:vev E.Γ L k=some (.p (.int .i64 n)))
 (ht:E.P.underlying t=some (.map kt et)) (hkk:keyKind E.P kt=some (.int .i64)) (hz:zeroOf E.P et=some (.slice none 0 0)) (hn:n∈ks) (q:Q (.p (.lst e (cells (f n)) (f n).length)) H nx):VVal E w ⟨dst,.lookup t x k false,ty,pos,af,gd⟩ L H nx Q :=
 VVal.quiet q fun m F σ tt c1 c2=>by
  obtain ⟨_,r,l,clock,r1,r2,r3,r4,r5⟩:=c1.hp b _ hb
  obtain ⟨e1,e2⟩:=r5
  rw [mapI_fst] at e1
  rw [mapI_snd] at e2
  obtain ⟨j,v,f1,f2,f3⟩:=(find_int (rfs_ints e1) n 0).2 hn
  obtain ⟨c,g1,g2⟩:=rfs_at e2 f3
  rw [List.getElem?_map,f2] at g1
  cases g1
  refine ⟨v,fun _=>?_,.p g2⟩
  simp only [aval,aop,alookup,ht,hkk,hz,vev_map c1 c2 hx hb,vev_i c1 c2 hk,r1,r4]
  rw [show (plain (Value.slice none 0 0)&&plain (Value.int .i64 n))=true from rfl]
  simp only [if_true,f1,Bool.false_eq_true,if_false,Option.map_some]
theorem VVal.addI {t kt et e:TypeId} {x k y:Operand} {b:Nat} {ks:List Int} {f:Int→List Int} {n:Int} (hx:vev E.Γ L x=some (.mref b)) (hb:hget H b=some (.map (mapI e ks f))) (hk:vev E.Γ L k=some (.p (.int .i64 n))) (hy:vev E.Γ L y=some (.p (.lst e (cells (f n)) (f n).length)))
 (ht:E.P.underlying t=some (.map kt et)) (hkk:keyKind E.P kt=some (.int .i64)) (hn:n∉ks) (q:Q (.tup []) (hput H b (.map (mapI e (ks++[n]) f))) nx):VVal E true ⟨dst,.mapUpdate t x k y,ty,pos,af,gd⟩ L H nx Q:=by
 intro m F σ tt c1 c2
 obtain ⟨_,r,l,clock,r1,r2,r3,r4,r5⟩:=c1.hp b _ hb
 obtain ⟨e1,e2⟩:=r5
 have e1':=e1
 rw [mapI_fst] at e1'
 have f2:=(find_int (rfs_ints e1') n 0).1 hn
 have hv:=vev_rel c1 c2 hy
 generalize hvv:ev tt y=u at hv
 cases hv with
 |p hv =>
  have hput':∀ d x,r≠d→(m.put r x).get d=m.get d:=fun d x hd=>by rw [Mem.get_put,if_neg hd]
  obtain ⟨d1,d2⟩:=c1.change (m':=m.put r (.map (l++[{ key:=.int .i64 n,val:=u,born:=clock }]) (clock+1))) (x':=.map (mapI e (ks++[n]) f)) (s':=σ b) hb trivial (fun _=>rfl) (Nat.le_refl _)
   (fun d _ hd=>hput' d _ fun e=>hd (by rw [r1,e];rfl)) (fun k k1 k2 k3=>by
    have:=k3 r (by rw [r1];rfl)
    simp only [Mem.put];omega) (fun d hd=>.inl hd) (by
    refine ⟨r,_,clock+1,r1,r2,r3,by rw [Mem.get_put,if_pos rfl],?_⟩
    have hF:∀ d,F d→F d∧(m.put r (.map (l++[{ key:=.int .i64 n,val:=u,born:=clock }]) (clock+1))).get d=m.get d:=fun d hd=>⟨hd,hput' d _ fun e=>r3 (e▸hd)⟩
    unfold entsRel
    rw [mapI_fst,mapI_snd] at *
    simp only [List.map_append,List.map_cons,List.map_nil]
    exact ⟨RFs.snoc (e1.mono hF) (.int _ _),RFs.snoc (e2.mono hF) (hv.mono hF)⟩)
  refine AVal.op (v:=undef) (fun _=>?_) ⟨_,_,_,F,_,q,d1,.tup .nil,d2,fun h=>by cases h⟩
  simp only [aval,aop,aupdate,ht,hkk,vev_map c1 c2 hx hb,vev_i c1 c2 hk,hvv,r1,r4]
  rw [show plain (Value.int .i64 n)=true from rfl]
  simp only [if_true,f2,Option.map_some]
end
section
variable {E:Env} {bn i:Nat} {ops:Array Oper} {l:List Oper} {L:Frame} {H:Heap} {nx:Nat} {R:Frame→Heap→Nat→Prop}
theorem VOps.weaken {L0:Frame} {H0:Heap} {nx0:Nat} (hb:bn≤nx0) (hc:Cov L H nx L0 H0 nx0) (h:VOps E bn ops l L0 H0 nx0 R):VOps E bn ops l L H nx R :=
 fun B hB m F σ t h1 h2 h3=>h B hB m F σ t (hc.ctx h1) (hc.rl h2) (hc.step (by omega) h3)
theorem VOpsD.weaken {L0:Frame} {H0:Heap} {nx0:Nat} (hb:bn≤nx0) (hc:Cov L H nx L0 H0 nx0) (h:VOpsD E bn ops i l L0 H0 nx0 R):VOpsD E bn ops i l L H nx R :=
 fun B hB m F σ t h1 h2 h3=>h B hB m F σ t (hc.ctx h1) (hc.rl h2) (hc.step (by omega) h3)
end
def swp (a b i:Nat):Nat:=if i=a then b else if i=b then a else i
theorem swp_swp (a b i:Nat):swp a b (swp a b i)=i:=by
 unfold swp
 by_cases h1:i=a
 ·subst h1
  rw [if_pos rfl]
  by_cases h2:b=i
  ·rw [if_pos h2];exact h2
  ·rw [if_neg h2,if_pos rfl]
 ·rw [if_neg h1]
  by_cases h2:i=b
  ·subst h2;rw [if_pos rfl,if_pos rfl]
  ·rw [if_neg h2,if_neg h1,if_neg h2]
theorem swp_inj {a b i j:Nat} (h:swp a b i=swp a b j):i=j:=by rw [← swp_swp a b i,h,swp_swp]
theorem swp_low {a b i n:Nat} (ha:n≤a) (hb:n≤b) (h:i<n):swp a b i=i:=by unfold swp;rw [if_neg (by omega),if_neg (by omega)]
theorem swp_lt {a b i n:Nat} (ha:a<n) (hb:b<n) (h:i<n):swp a b i<n:=by
 unfold swp
 split
 ·exact hb
 ·split
  ·exact ha
  ·exact h
def Hrn (ρ:Nat→Nat):Heap→Heap
 |[]=>[]
 |(i,x)::H=>(ρ i,x.rn ρ)::Hrn ρ H
theorem hget_rn (a b:Nat):∀ (H:Heap) (i:Nat),hget (Hrn (swp a b) H) (swp a b i)=(hget H i).map (HB.rn (swp a b))
 |[],_=>rfl
 |(j,x)::H,i=>by
  simp only [Hrn,hget_cons]
  by_cases h:j=i
  ·subst h;rw [if_pos rfl,if_pos rfl];rfl
  ·rw [if_neg h,if_neg (fun e=>h (swp_inj e))];exact hget_rn a b H i
theorem htag_rn (a b:Nat) (H:Heap) (i:Nat):htag (Hrn (swp a b) H) (swp a b i)=htag H i:=by
 unfold htag
 rw [hget_rn]
 cases hget H i with
 |none=>rfl
 |some x=>simp [HB.rn_tag]
theorem ctx_swp {Γ:Nat→Option (List Value×TypeId)} {m:Mem} {F:Nat→Prop} {σ:Nat→Value} {H:Heap} {nx a b:Nat} (ha:a<nx) (hb:b<nx) (h:Ctx Γ m F σ H nx):Ctx Γ m F (fun i=>σ (swp a b i)) (Hrn (swp a b) H) nx:=by
 have hr:∀ j,j<nx→swp a b j<nx∧htag (Hrn (swp a b) H) (swp a b j)=htag H j∧(fun i=>σ (swp a b i)) (swp a b j)=σ j:=fun j hj=>⟨swp_lt ha hb hj,htag_rn a b H j,by simp only [swp_swp]⟩
 have hg:∀ i x,hget (Hrn (swp a b) H) i=some x→∃ y,hget H (swp a b i)=some y∧x=y.rn (swp a b):=fun i x hx=>by
  rw [← swp_swp a b i,hget_rn,Option.map_eq_some_iff] at hx
  obtain ⟨y,h1,h2⟩:=hx
  exact ⟨y,h1,h2.symm⟩
 refine ⟨h.fr,fun i x hx=>?_,fun i j x y c hx hy hc hc'=>?_,h.gl⟩
 ·obtain ⟨y,h1,rfl⟩:=hg i x hx
  obtain ⟨h2,h3⟩:=h.hp _ y h1
  refine ⟨by have:=swp_lt ha hb h2;rwa [swp_swp] at this,RB.rn hr h3⟩
 ·obtain ⟨x',h1,_⟩:=hg i x hx
  obtain ⟨y',h2,_⟩:=hg j y hy
  exact swp_inj (h.sep _ _ x' y' c h1 h2 hc hc')
theorem own_swp {σ:Nat→Value} {H:Heap} {a b c:Nat} (h:own (Hrn (swp a b) H) (fun i=>σ (swp a b i)) c):own H σ c:=by
 obtain ⟨i,x,h1,h2⟩:=h
 rw [← swp_swp a b i,hget_rn,Option.map_eq_some_iff] at h1
 obtain ⟨y,h3,_⟩:=h1
 exact ⟨_,y,h3,h2⟩
theorem VCalls.ren {E:Env} {f:FuncId} {args:List PV} {H:Heap} {nx:Nat} {Q0 Q:PV→Heap→Nat→Prop} (h:VCalls E f args H nx Q0)
 (hq:∀ r H' nx',Q0 r H' nx'→∃ a b,nx≤a∧nx≤b∧a<nx'∧b<nx'∧Ret nx Q (r.rn (swp a b)) (Hrn (swp a b) H') nx'):VCalls E f args H nx Q:=by
 intro m F σ as h1 h2
 refine (h m F σ as h1 h2).mono ?_
 rintro v m' ⟨r,H',nx',F',σ',q,c1,c2,c3⟩
 obtain ⟨a,b,ha,hb,ha',hb',r1,H0,nx0,q1,q2,q3,q4,q5,q6⟩:=hq r H' nx' q
 have hr:∀ j,j<nx'→swp a b j<nx'∧htag (Hrn (swp a b) H') (swp a b j)=htag H' j∧(fun i=>σ' (swp a b i)) (swp a b j)=σ' j:=fun j hj=>⟨swp_lt ha' hb' hj,htag_rn a b H' j,by simp only [swp_swp]⟩
 have d1:=ctx_swp ha' hb' c1
 have d2:RP m' F' (htag (Hrn (swp a b) H')) (fun i=>σ' (swp a b i)) nx' (r.rn (swp a b)) v:=RP.rn hr c2
 have d3:Step m F σ H nx m' F' (fun i=>σ' (swp a b i)) (Hrn (swp a b) H') nx':=by
  refine ⟨c3.size,c3.keep,c3.fmono,c3.fback,fun c hc ho=>c3.oback c hc (own_swp ho),c3.nxle,fun j hj=>?_,c3.low⟩
  have e:swp a b j=j:=swp_low ha hb hj
  have e2:=htag_rn a b H' j
  rw [e] at e2
  simp only [e,e2]
  exact c3.names j hj
 have hcov:Cov [] (Hrn (swp a b) H') nx' [] H0 nx0:=⟨q4,trivial,q3⟩
 refine ⟨r1,H0,nx0,F',_,q6,hcov.ctx d1,RP.low (fun b t e=>q3.tag b t e) q2 (RP.le q1 d2),?_⟩
 exact hcov.step (B:=⟨m,F,σ,H,nx⟩) q5 d3
end Go.Vm
set_option linter.unusedSimpArgs false
set_option linter.unusedVariables false
namespace Go.Vm
open Go.Am
mutual
def FV.flat:FV→Bool
 | .int ..| .bool _| .str _| .val _=>true
 | .agg cs=>FVs.flat cs
 | .lst ..| .cptr _=>false
def FVs.flat:List FV→Bool
 |[]=>true
 |c::cs=>FV.flat c&&FVs.flat cs
end
mutual
def PV.flat:PV→Bool
 | .p x=>x.flat
 | .agg cs=>PVs.flat cs
 | .tup cs=>PVs.flat cs
 | .vec ..| .ref ..| .eref ..| .mref _=>true
 | .clo _ fs cs=>PVs.flat fs&&PVs.flat cs
def PVs.flat:List PV→Bool
 |[]=>true
 |c::cs=>PV.flat c&&PVs.flat cs
end
def HB.flat:HB→Bool
 | .box _ cs=>PVs.flat cs
 | .vec _ cs _ _=>FVs.flat cs
 | .map _=>false
 | .vecp ..=>false
def Hflat:Heap→Bool
 |[]=>true
 |(_,x)::H=>x.flat&&Hflat H
section
variable {m m':Mem} {F F':Nat→Prop} {T:Nat→Option Tg} {σ:Nat→Value} {n:Nat}
mutual
theorem RF.ofFlat:∀ {x:FV} {v:Value},x.flat=true→RF m F x v→RF m' F' x v
 |_,_,_,.int k i=>.int k i
 |_,_,_,.bool b=>.bool b
 |_,_,_,.str s=>.str s
 |_,_,_,.val h=>.val h
 |_,_,f,.agg h hc=>.agg (RFs.ofFlat f h) hc
 | .lst ..,_,f,_=>by cases f
 | .cptr _,_,f,_=>by cases f
theorem RFs.ofFlat:∀ {x:List FV} {v:List Value},FVs.flat x=true→RFs m F x v→RFs m' F' x v
 |_,_,_,.nil=>.nil
 |_,_,f,.cons h t=>by
  simp only [FVs.flat,Bool.and_eq_true] at f
  exact .cons (RF.ofFlat f.1 h) (RFs.ofFlat f.2 t)
end
mutual
theorem RP.ofFlat:∀ {x:PV} {v:Value},x.flat=true→RP m F T σ n x v→RP m' F' T σ n x v
 |_,_,f,.p h=>.p (h.ofFlat f)
 |_,_,f,.agg h hc=>.agg (RPs.ofFlat f h) hc
 |_,_,f,.tup h=>.tup (RPs.ofFlat f h)
 |_,_,_,.vec hb hc h=>.vec hb hc h
 |_,_,_,.ref hb hc h=>.ref hb hc h
 |_,_,_,.eref hb hc h=>.eref hb hc h
 |_,_,_,.mref hb hc h=>.mref hb hc h
 |_,_,f,.clo h1 h2=>by
  simp only [PV.flat,Bool.and_eq_true] at f
  exact .clo (RPs.ofFlat f.1 h1) (RPs.ofFlat f.2 h2)
theorem RPs.ofFlat:∀ {x:List PV} {v:List Value},PVs.flat x=true→RPs m F T σ n x v→RPs m' F' T σ n x v
 |_,_,_,.nil=>.nil
 |_,_,f,.cons h t=>by
  simp only [PVs.flat,Bool.and_eq_true] at f
  exact .cons (RP.ofFlat f.1 h) (RPs.ofFlat f.2 t)
end
theorem RB.ofFlat {s:Value} {x:HB} (hF:∀ c,F' c→F c) (f:x.flat=true) (h:RB m F T σ n s x):RB m F' T σ n s x:=by
 cases x with
 |box e cs =>
  obtain ⟨c,vs,r1,r2,r3,r4,r5,r6⟩:=h
  exact ⟨c,vs,r1,r2,fun h=>r3 (hF c h),r4,RPs.ofFlat f r5,r6⟩
 |vec e cs k z =>
  rcases h with h|⟨c,g,vs,r1,r2,r3,r4,r5,r6,r7⟩
  ·exact .inl h
  ·exact .inr ⟨c,g,vs,r1,r2,fun h=>r3 (hF c h),r4,RFs.ofFlat f r5,r6,r7⟩
 |map es=>cases f
 |vecp e cs k=>cases f
theorem Hflat.get':∀ {H:Heap} {i:Nat} {x:HB},Hflat H=true→hget H i=some x→x.flat=true
 |[],_,_,_,h=>by cases h
 |(j,y)::H,i,x,f,h=>by
  simp only [Hflat,Bool.and_eq_true] at f
  rw [hget_cons] at h
  by_cases e:j=i
  ·rw [if_pos e] at h;cases h;exact f.1
  ·rw [if_neg e] at h;exact Hflat.get' f.2 h
mutual
theorem PV.rn_flat (ρ:Nat→Nat):∀ x:PV,(x.rn ρ).flat=x.flat
 | .p x=>rfl
 | .agg cs=>PVs.rn_flat ρ cs
 | .tup cs=>PVs.rn_flat ρ cs
 | .vec ..=>rfl
 | .ref ..=>rfl
 | .eref ..=>rfl
 | .mref _=>rfl
 | .clo f fs cs=>by simp only [PV.rn,PV.flat,PVs.rn_flat ρ fs,PVs.rn_flat ρ cs]
theorem PVs.rn_flat (ρ:Nat→Nat):∀ x:List PV,PVs.flat (PVs.rn ρ x)=PVs.flat x
 |[]=>rfl
 |c::cs=>by simp only [PVs.rn,PVs.flat,PV.rn_flat ρ c,PVs.rn_flat ρ cs]
end
theorem RPs.split:∀ {a b:List PV} {vs:List Value},RPs m F T σ n (a++b) vs→∃ v1 v2,vs=v1++v2∧RPs m F T σ n a v1∧RPs m F T σ n b v2
 |[],b,vs,h=>⟨[],vs,rfl,.nil,h⟩
 |x::a,b,_,.cons h t=>by
  obtain ⟨v1,v2,rfl,h1,h2⟩:=RPs.split (a:=a) t
  exact ⟨_::v1,v2,rfl,.cons h h1,h2⟩
end
section
variable {E:Env} {L:Frame} {H:Heap} {nx:Nat} {Q:PV→Heap→Nat→Prop} {w:Bool}
variable {dst:Option Tmp} {ty:TypeId} {pos:String} {af:Array Edge} {gd:Option (Nat×Bool)}
theorem VVal.lend {fo:Operand} {args:Array Operand} {aT:Array TypeId} {g:FuncId} {as:List PV} {pre rest:List FV} {more:List PV} {b:Nat} {e:TypeId} {Qc:PV→Heap→Nat→Prop} (hf:vev E.Γ L fo=some (.clo g [] [])) (ha:evs E.Γ L args.toList=some (.ref b 0::as)) (hle:PLes as (rest.map .p))
 (hb:hget H b=some (.box e (pre.map .p++more))) (hc:VCalls E g ((.cptr pre::rest).map .p) [] 0 Qc) (hflat:∀ r H' nx',Qc r H' nx'→r.flat=true∧Hflat H'=true)
 (hq:∀ r H' nx',Qc r H' nx'→Q (r.rn (rho [] nx)) (news 0 (rho [] nx) H' H) (nx+nx')):VVal E w ⟨dst,.call { callee:=.value fo,args:=args,argTypes:=aT },ty,pos,af,gd⟩ L H nx Q:=by
 intro m F σ t h1 h2
 obtain ⟨hbn,c,vs,s1,s2,s3,s4,s5,s6⟩:=h1.hp b _ hb
 obtain ⟨v1,v2,rfl,p1,p2⟩:=RPs.split s5
 have p1:=RFs.ofRPs p1
 have hplen:=p1.length
 have hfv:=vev_rel h1 h2 hf
 generalize hfe:ev t fo=fv at hfv
 have hrel:=evs_rel h1 h2 ha
 cases hfv with
 |clo r1 r2 =>
  cases r1
  cases r2
  generalize hva:args.toList.map (ev t)=va at hrel
  cases hrel with
  |cons q1 q2 =>
   cases q1 with
   |ref hb' hc' hr =>
    obtain ⟨c',e1,rfl⟩:=hr (by simp [htag,hb,HB.tag])
    rw [s1] at e1
    cases e1
    rename_i v3
    have q2:RFs m F rest v3:=RFs.ofRPs (RPs.le hle q2)
    have hF2:∀ d,F d→(F d∨d=c)∧m.get d=m.get d:=fun d hd=>⟨.inl hd,rfl⟩
    have hctx:Ctx E.Γ m (fun d=>F d∨d=c) (fun _=>undef) [] 0:=by
     refine ⟨fun d hd=>hd.elim (h1.fr d) (fun e=>by rw [e];exact s2),(fun i x hi=>by cases hi),(fun i j x y d hi=>by cases hi),fun d ws e hd=>?_⟩
     obtain ⟨g1,g2⟩:=h1.gl d ws e hd
     exact ⟨.inl g1,g2⟩
    have hp0:RF m (fun d=>F d∨d=c) (.cptr pre) (.pointer (some ⟨c,0,none⟩)):=by
     refine .cptr (.inr rfl) s4 rfl (ws:=v1) ?_ (RFs.mono hF2 p1) ?_
     ·rw [List.drop_zero,hplen]
      unfold takeN
      rw [if_pos (by simp),List.take_left]
     ·rw [List.all_append,Bool.and_eq_true] at s6;exact s6.1
    have hargs:RPs m (fun d=>F d∨d=c) (htag []) (fun _=>undef) 0 ((.cptr pre::rest).map .p) (.pointer (some ⟨c,0,none⟩)::v3):=RPs.ofRFs (.cons hp0 (RFs.mono hF2 q2))
    refine AVal.call (f:=g) (as:=.pointer (some ⟨c,0,none⟩)::v3) (fun call=>by simp only [aval,hfe,hva];simp) ((hc m _ _ _ hctx hargs).mono ?_)
    rintro v m' ⟨r,H',nx',F',σ',q,c1,c2,c3⟩
    obtain ⟨fl1,fl2⟩:=hflat _ _ _ q
    have hno:∀ d,¬ own [] (fun _=>undef) d:=fun d ⟨i,x,hi,_⟩=>by cases hi
    have hkeep:∀ d,d<m.size→m'.get d=m.get d:=fun d hd=>c3.keep d hd (hno d)
    have hback:∀ d,d<m.size→F' d→d≠c→F d:=fun d hd hf hne=>by
     rcases c3.fback d hd hf with (h|h)|h
     ·exact h
     ·exact absurd h hne
     ·exact absurd h (hno d)
    have hnew:∀ d,d<m.size→¬ own H' σ' d:=fun d hd ho=>hno d (c3.oback d hd ho)
    have hρ:∀ i,rho [] nx i=nx+i:=rho_nil nx
    have hinj:∀ i j,rho [] nx i=rho [] nx j→0≤i→0≤j→i=j:=fun i j h _ _=>by rw [hρ,hρ] at h;omega
    let σn:Nat→Value:=fun i=>if i<nx then σ i else σ' (i-nx)
    have hlow:∀ i,i<nx→hget (news 0 (rho [] nx) H' H) i=hget H i∧σn i=σ i:=fun i hi=>by
     refine ⟨?_,if_pos hi⟩
     rcases hget_news (k:=0) (ρ:=rho [] nx) (H:=H) (H':=H') (b:=i) hinj with ⟨j,_,hj,_⟩|⟨_,h⟩
     ·rw [hρ] at hj;omega
     ·exact h
    have hhigh:∀ j,hget (news 0 (rho [] nx) H' H) (rho [] nx j)=(hget H' j).map (HB.rn (rho [] nx)):=fun j=>by
     rcases hget_news (k:=0) (ρ:=rho [] nx) (H:=H) (H':=H') (b:=rho [] nx j) hinj with ⟨i,_,hi,_,h⟩|⟨h0,h⟩
     ·rw [h,hinj i j hi (Nat.zero_le _) (Nat.zero_le _)]
     ·rw [h,h0 j (Nat.zero_le _) rfl,h1.tagNone (by rw [hρ];omega)];rfl
    have hA:∀ j,j<nx'→rho [] nx j<nx+nx'∧htag (news 0 (rho [] nx) H' H) (rho [] nx j)=htag H' j∧σn (rho [] nx j)=σ' j:=fun j hj=>by
     refine ⟨by rw [hρ];omega,?_,?_⟩
     ·unfold htag
      rw [hhigh]
      cases hget H' j with
      |none=>rfl
      |some y=>simp [HB.rn_tag]
     ·show (if rho [] nx j<nx then _ else _)=_
      rw [hρ,if_neg (by omega),Nat.add_sub_cancel_left]
    have hC:∀ i x,hget (news 0 (rho [] nx) H' H) i=some x→(∃ j y,j<nx'∧i=rho [] nx j∧hget H' j=some y∧x=y.rn (rho [] nx))∨(i<nx∧hget H i=some x):=fun i x hx=>by
     rcases Nat.lt_or_ge i nx with h|h
     ·exact .inr ⟨h,by rw [← (hlow i h).1];exact hx⟩
     ·have e:i=rho [] nx (i-nx):=by rw [hρ];omega
      rw [e,hhigh,Option.map_eq_some_iff] at hx
      obtain ⟨y,hy,e'⟩:=hx
      exact .inl ⟨i-nx,y,(c1.hp _ y hy).1,e,hy,e'.symm⟩
    have hfz:∀ d,F d→(F' d∧d≠c)∧m'.get d=m.get d:=fun d hd=>⟨⟨c3.fmono d (.inl hd),fun e=>s3 (e▸hd)⟩,hkeep d (h1.fr d hd)⟩
    have hD:Names nx (htag H) σ (htag (news 0 (rho [] nx) H' H)) σn:=fun i hi=>by
     obtain ⟨e1,e2⟩:=hlow i hi
     rw [e2]
     unfold htag
     rw [e1]
     exact ⟨TLe.refl _,fun _ _ _=>rfl⟩
    have hrnflat:∀ y:HB,y.flat=true→(y.rn (rho [] nx)).flat=true:=by
     intro y hy
     cases y with
     |box e cs=>exact (PVs.rn_flat _ cs).trans hy
     |vec e cs k z=>exact hy
     |map es=>exact hy
     |vecp e cs k=>exact hy
    refine ⟨_,_,_,fun d=>F' d∧d≠c,σn,hq r H' nx' q,⟨fun d hd=>c1.fr d hd.1,?_,?_,?_⟩,RP.ofFlat (by rw [PV.rn_flat];exact fl1) (RP.rn hA c2),⟨c3.size,fun d hd _=>hkeep d hd,fun d hd=>(hfz d hd).1,fun d hd hf=>.inl (hback d hd hf.1 hf.2),?_,Nat.le_add_right _ _,hD,fun j j1 j2 _=>c3.low j j1 j2 fun d ho=>absurd ho (hno d)⟩,fun _ j j1 j2=>c3.low j j1 j2 fun d ho=>absurd ho (hno d)⟩
    ·intro i x hx
     rcases hC i x hx with ⟨j,y,hj,rfl,hy,rfl⟩|⟨hi,hx'⟩
     ·obtain ⟨a1,a2,a3⟩:=hA j hj
      rw [a3]
      exact ⟨a1,RB.ofFlat (fun d hd=>hd.1) (hrnflat y (Hflat.get' fl2 hy)) (RB.rn hA (c1.hp j y hy).2)⟩
     ·rw [(hlow i hi).2]
      refine ⟨by omega,(h1.hp i x hx').2.mono hfz hD (Nat.le_add_right _ _) c3.size fun d hd=>?_⟩
      obtain ⟨hnf,hds⟩:=h1.notF ⟨i,x,hx',hd⟩
      exact ⟨hkeep d hds,fun hf=>hnf (hback d hds hf.1 hf.2)⟩
    ·intro i j x y d hx hy hd hd'
     rcases hC i x hx with ⟨i',x',hi',rfl,hx',rfl⟩|⟨hi,hx1⟩<;>rcases hC j y hy with ⟨j',y',hj',rfl,hy',rfl⟩|⟨hj,hy1⟩
     ·rw [(hA i' hi').2.2] at hd
      rw [(hA j' hj').2.2] at hd'
      rw [c1.sep i' j' x' y' d hx' hy' hd hd']
     ·rw [(hA i' hi').2.2] at hd
      rw [(hlow j hj).2] at hd'
      exact absurd ⟨i',x',hx',hd⟩ (hnew d (h1.notF ⟨j,y,hy1,hd'⟩).2)
     ·rw [(hA j' hj').2.2] at hd'
      rw [(hlow i hi).2] at hd
      exact absurd ⟨j',y',hy',hd'⟩ (hnew d (h1.notF ⟨i,x,hx1,hd⟩).2)
     ·rw [(hlow i hi).2] at hd
      rw [(hlow j hj).2] at hd'
      exact h1.sep i j x y d hx1 hy1 hd hd'
    ·intro d ws e hd
     obtain ⟨g1,g2⟩:=h1.gl d ws e hd
     have:=(c1.gl d ws e hd)
     exact ⟨⟨this.1,fun e=>s3 (e▸g1)⟩,this.2⟩
    ·rintro d hd ⟨i,x,hx,hbd⟩
     rcases hC i x hx with ⟨j,y,hj,rfl,hy,rfl⟩|⟨hi,hx1⟩
     ·rw [(hA j hj).2.2] at hbd
      exact absurd ⟨j,y,hy,hbd⟩ (hnew d hd)
     ·rw [(hlow i hi).2] at hbd
      exact ⟨i,x,hx1,hbd⟩
theorem VVal.lendF {fo:Operand} {args:Array Operand} {aT:Array TypeId} {g:FuncId} {as:List PV} {pre rest:List FV} {more:List PV} {b:Nat} {e:TypeId} {x:FV} (hc:VFun E g (.cptr pre::rest) (.p x)) (hx:x.flat=true) (hf:vev E.Γ L fo=some (.clo g [] [])) (ha:evs E.Γ L args.toList=some (.ref b 0::as)) (hle:PLes as (rest.map .p))
 (hb:hget H b=some (.box e (pre.map .p++more))) (q:Q (.p x) H nx):VVal E w ⟨dst,.call { callee:=.value fo,args:=args,argTypes:=aT },ty,pos,af,gd⟩ L H nx Q :=
 VVal.lend hf ha hle hb hc (fun r H' nx' ⟨h1,h2,_⟩=>by subst h1;subst h2;exact ⟨hx,rfl⟩) fun r H' nx' ⟨h1,h2,h3⟩=>by subst h1;subst h2;subst h3;exact q
theorem VVal.lendV {fo:Operand} {args:Array Operand} {aT:Array TypeId} {g:FuncId} {as:List PV} {pre rest:List FV} {more:List PV} {b n:Nat} {e e':TypeId} {cs:List FV} {z:Bool} (hc:VFunV E g (.cptr pre::rest) e' cs n z) (hx:FVs.flat cs=true) (hf:vev E.Γ L fo=some (.clo g [] [])) (ha:evs E.Γ L args.toList=some (.ref b 0::as)) (hle:PLes as (rest.map .p))
 (hb:hget H b=some (.box e (pre.map .p++more))) (q:Q (.vec nx n 0 n) ((nx,.vec e' cs n z)::H) (nx+1)):VVal E w ⟨dst,.call { callee:=.value fo,args:=args,argTypes:=aT },ty,pos,af,gd⟩ L H nx Q :=
 VVal.lend hf ha hle hb hc (fun r H' nx' ⟨h1,h2,_⟩=>by subst h1;subst h2;exact ⟨rfl,by simp [Hflat,HB.flat,hx]⟩) fun r H' nx' ⟨h1,h2,h3⟩=>by
  subst h1;subst h2;subst h3
  have e:news 0 (rho [] nx) [(0,HB.vec e' cs n z)] H=(nx,.vec e' cs n z)::H:=rfl
  rw [e]
  exact q
theorem flat_ints:∀ l:List Int,FVs.flat (cells l)=true
 |[]=>rfl
 |a::l=>by
  show FVs.flat (.int .i64 a::cells l)=true
  simp [FVs.flat,FV.flat,flat_ints l]
end
end Go.Vm
set_option linter.unusedSimpArgs false
set_option linter.unusedVariables false
namespace Go.Vm
open Go.Am
variable {E:Env} {L:Frame} {H:Heap} {nx:Nat} {Q:PV→Heap→Nat→Prop} {w:Bool}
variable {dst:Option Tmp} {ty:TypeId} {pos:String} {af:Array Edge} {gd:Option (Nat×Bool)}
theorem upd_id (σ:Nat→Value) (a:Nat):upd σ a (σ a)=σ:=by funext x;simp only [upd];split<;>simp_all
theorem Ghost.openVec (b:Nat) {n:Nat} {e:TypeId} {cs:List FV} {z:Bool} (hb:hget H b=some (.vec e cs n z)) (hn:0<n):Ghost E L H nx L (hput H b (.vecp e (cs.map .p) n)) nx:=fun B m F σ t h1 h2 h3=>by
 obtain ⟨_,hr⟩:=h1.hp b _ hb
 rcases hr with ⟨r1,r2,r3⟩|⟨c,g,vs,r1,r2,r3,r4,r5,r6,r7⟩
 ·omega
 have hT:htag (hput H b (.vecp e (cs.map .p) n))=htag H:=by
  funext d
  rw [htag_hput]
  by_cases e':b=d
  ·subst e';rw [if_pos rfl];simp [htag,hb,HB.tag]
  ·rw [if_neg e']
 obtain ⟨d1,d2⟩:=h1.change (m':=m) (b0:=b) (x':=.vecp e (cs.map .p) n) (s':=σ b) hb (Nat.le_refl _) (fun _=>rfl) (Nat.le_refl _) (fun _ _ _=>rfl) (fun _ h _ _=>h) (fun c hc=>.inl hc)
  ⟨c,g,vs,r1,r2,r3,r4,RPs.ofRFs r5,r6⟩
 rw [upd_id] at d1 d2
 exact ⟨F,σ,d1,h2.step d2 h1,h3.trans d2⟩
theorem Ghost.closeVec (b:Nat) {n:Nat} {e:TypeId} {ds:List PV} (cs:List FV) (hb:hget H b=some (.vecp e ds n)) (hn:0<n) (hd:ds=cs.map .p):Ghost E L H nx L (hput H b (.vec e cs n false)) nx:=fun B m F σ t h1 h2 h3=>by
 subst hd
 obtain ⟨_,c,g,vs,r1,r2,r3,r4,r5,r6⟩:=h1.hp b _ hb
 obtain ⟨d1,d2⟩:=h1.change (m':=m) (b0:=b) (x':=.vec e cs n false) (s':=σ b) hb (Nat.le_refl _) (fun _=>rfl) (Nat.le_refl _) (fun _ _ _=>rfl) (fun _ h _ _=>h) (fun c hc=>.inl hc)
  (.inr ⟨c,g,vs,r1,r2,r3,r4,RFs.ofRPs r5,r6,fun _=>rfl⟩)
 rw [upd_id] at d1 d2
 exact ⟨F,σ,d1,h2.step d2 h1,h3.trans d2⟩
theorem Ghost.freezeCellV (a k:Nat) {b n n':Nat} {e e':TypeId} {cs:List FV} {ds:List PV} {z:Bool} (ha:hget H a=some (.vecp e' ds n')) (hk:ds[k]?=some (.vec b n 0 n)) (hb:hget H b=some (.vec e cs n z)) :
 Ghost E L H nx L (hput (hdel H b) a (.vecp e' (ds.set k (.p (.lst e cs n))) n')) nx:=fun B m F σ t h1 h2 h3=>by
 obtain ⟨c1,c2,c3⟩:=freezeCtx h1 hb
 have hne:b≠a:=fun e=>by subst e;rw [ha] at hb;cases hb
 have ha':hget (hdel H b) a=some (.vecp e' ds n'):=by rw [hget_hdel,if_neg hne];exact ha
 obtain ⟨_,c,g,vs,r1,r2,r3,r4,r5,r6⟩:=c1.hp a _ ha'
 obtain ⟨_,c',g',vs',s1,s2,s3,s4,s5,s6⟩:=h1.hp a _ ha
 rw [s1] at r1;cases r1
 rw [s4] at r4;cases r4
 obtain ⟨u,hu1,hu2⟩:=s5.get hk
 have hcell:RP m (fun c=>F c∨blkOf (σ b)=some c) (htag (hdel H b)) σ nx (.p (.lst e cs n)) u:=by
  cases hu2 with
  |vec hb' hc h=>exact .p (c3 _ ((h n (by simp [htag,hb,HB.tag])).2 rfl))
 obtain ⟨d1,d2⟩:=c1.change (m':=m) (b0:=a) (x':=.vecp e' (ds.set k (.p (.lst e cs n))) n') (s':=σ a) ha' (Nat.le_refl _) (fun _=>rfl) (Nat.le_refl _) (fun _ _ _=>rfl) (fun _ h _ _=>h) (fun c hc=>.inl hc) (by
  refine ⟨_,_,vs,s1,s2,r3,s4,?_,s6⟩
  have:vs=vs.set k u:=by
   apply List.ext_getElem?
   intro j
   rw [List.getElem?_set]
   by_cases e:k=j
   ·subst e
    rw [if_pos rfl,hu1]
    have:k<vs.length:=by
     rcases Nat.lt_or_ge k vs.length with h|h
     ·exact h
     ·rw [List.getElem?_eq_none h] at hu1;cases hu1
    rw [if_pos this]
   ·rw [if_neg e]
  rw [this]
  exact (r5.set k hcell).mono (fun d hd=>⟨hd,rfl⟩) (change_names (x':=.vecp e' (ds.set k (.p (.lst e cs n))) n') ha' (Nat.le_refl _) fun _=>rfl) (Nat.le_refl _))
 rw [upd_id] at d1 d2
 exact ⟨_,σ,d1,(h2.step c2 h1).step d2 c1,(h3.trans c2).trans d2⟩
theorem vev_erefQ {Γ:Nat→Option (List Value×TypeId)} {m:Mem} {F:Nat→Prop} {σ:Nat→Value} {t:Tr Value} {b tag off:Nat} {o:Operand} {e:TypeId} {cs:List PV} (hx:Ctx Γ m F σ H nx) (hl:RL m F (htag H) σ nx L t) (h:vev Γ L o=some (.eref b tag off)) (hb:hget H b=some (.vecp e cs tag)) :
 ∃ c k g,ev t o=.pointer (some ⟨c,off,some g⟩)∧σ b=.slice (some ⟨c,0,none⟩) k g:=by
 have:=vev_rel hx hl h
 generalize ev t o=v at this
 cases this with
 |eref h1 h2 h3 =>
  obtain ⟨_,h4⟩:=h3 tag (by simp [htag,hb,HB.tag])
  obtain ⟨c,k,g,h5,h6⟩:=h4 rfl
  exact ⟨c,k,g,h6,h5⟩
theorem vev_vecQ {Γ:Nat→Option (List Value×TypeId)} {m:Mem} {F:Nat→Prop} {σ:Nat→Value} {t:Tr Value} {b tag off len:Nat} {o:Operand} {e:TypeId} {cs:List PV} (hx:Ctx Γ m F σ H nx) (hl:RL m F (htag H) σ nx L t) (h:vev Γ L o=some (.vec b tag off len)) (hb:hget H b=some (.vecp e cs tag)) :
 SubOf (σ b) off len (ev t o):=by
 have:=vev_rel hx hl h
 generalize ev t o=v at this
 cases this with
 |vec h1 h2 h3=>exact (h3 tag (by simp [htag,hb,HB.tag])).2 rfl
theorem VVal.fieldQ {s:TypeId} {x:Operand} {f k b tag off:Nat} {e:TypeId} {cs:List PV} (hx:vev E.Γ L x=some (.eref b tag off)) (hb:hget H b=some (.vecp e cs tag)) (hk:fieldOff E.P s f=some k) (q:Q (.eref b tag (off+k)) H nx) :
 VVal E w ⟨dst,.fieldAddr s x f,ty,pos,af,gd⟩ L H nx Q :=
 VVal.quiet q fun m F σ tt h1 h2=>by
  obtain ⟨c,k',g,h3,h4⟩:=vev_erefQ h1 h2 hx hb
  refine ⟨_,fun _=>fieldOff_spec (dst:=dst) (ty:=ty) (pos:=pos) (af:=af) (gd:=gd) hk h3,.eref (h1.hp b _ hb).1 rfl fun n hn=>?_⟩
  simp only [htag,hb,HB.tag,Option.map_some,Option.some.injEq,Tg.vec.injEq] at hn
  exact ⟨by omega,fun _=>⟨c,k',g,h4,rfl⟩⟩
theorem VVal.indexQ {t:TypeId} {x ix:Operand} {e:TypeId} {cs:List PV} {b tag sz:Nat} {k:IntKind} {i:Nat} (hx:vev E.Γ L x=some (.vec b tag 0 tag)) (hb:hget H b=some (.vecp e cs tag)) (hi:vev E.Γ L ix=some (.p (.int k (i:Int))))
 (hs:elemSize E.P t=some sz) (h1:i<tag) (q:Q (.eref b tag (i*sz)) H nx):VVal E w ⟨dst,.indexAddr t x ix,ty,pos,af,gd⟩ L H nx Q :=
 VVal.quiet q fun m F σ tt c1 c2=>by
  obtain ⟨e',inf,h3,h4,h5⟩:=elemSize_some hs
  have hix:=vev_int c1 c2 hi
  have hsub:=vev_vecQ c1 c2 hx hb
  obtain ⟨hlt,c,g,vs,r1,r2,r3,r4,r5,r6⟩:=c1.hp b _ hb
  rw [r1] at hsub
  simp only [SubOf] at hsub
  have h0:(0:Int)≤(i:Int):=by omega
  have h1':(i:Int)<(tag:Int):=by omega
  refine ⟨.pointer (some ⟨c,i*sz,some g⟩),fun _=>by simp only [aval,aop,h3,hsub,hix,h4,h0,h1',and_self,if_true,h5,Nat.zero_add,Int.toNat_natCast],.eref hlt rfl fun n hn=>?_⟩
  simp only [htag,hb,HB.tag,Option.map_some,Option.some.injEq,Tg.vec.injEq] at hn
  exact ⟨by omega,fun _=>⟨c,tag,g,r1,rfl⟩⟩
theorem VVal.loadQ {t:TypeId} {a:Operand} {b n off:Nat} {e:TypeId} {cs:List PV} {r:PV} (ha:vev E.Γ L a=some (.eref b n off)) (hb:hget H b=some (.vecp e cs n)) (ht:isAggT E.P t=some false) (hc:cs[off]?=some r) (q:Q r H nx):VVal E w ⟨dst,.load t a,ty,pos,af,gd⟩ L H nx Q :=
 VVal.quiet q fun m F σ tt h1 h2=>by
  obtain ⟨c,k,g,h3,h4⟩:=vev_erefQ h1 h2 ha hb
  obtain ⟨_,c',g',vs,r1,r2,r3,r4,r5,r6⟩:=h1.hp b _ hb
  rw [h4] at r1
  cases r1
  obtain ⟨v,h5,h6⟩:=loadP_rel (P:=E.P) (t:=t) (a:=⟨c,off,some g⟩) (x:=r) r4 r2 rfl rfl (RPs.drop off r5) (all_drop r6 _) (by
   simp only [loadP,ht]
   rw [List.head?_drop]
   exact hc)
  exact ⟨v,fun _=>by simp only [aval,aop,h3,h5,Option.map_some],h6⟩
theorem VVal.storeQ {t:TypeId} {a x:Operand} {b tag off:Nat} {e:TypeId} {cs:List PV} {r:PV} {i:TypeInfo} (ha:vev E.Γ L a=some (.eref b tag off)) (hx:vev E.Γ L x=some r) (hb:hget H b=some (.vecp e cs tag)) (hn:notTup r)
 (hi:E.P.info? t=some i) (hl:(pcells r).length=i.size) (h0:0<i.size) (hle:off+i.size≤cs.length) (q:Q (.tup []) (hput H b (.vecp e (psplice cs off (pcells r)) tag)) nx):VVal E true ⟨dst,.store t a x,ty,pos,af,gd⟩ L H nx Q:=by
 intro m F σ tt h1 h2
 obtain ⟨c,k,g,h3,h4⟩:=vev_erefQ h1 h2 ha hb
 obtain ⟨h5,h6⟩:=pcells_rel hn (vev_rel h1 h2 hx)
 obtain ⟨hlt,c',g',vs,r1,r2,r3,r4,r5,r6⟩:=h1.hp b _ hb
 rw [h4] at r1
 cases r1
 have hlen:=h5.length
 have hlen2:=r5.length
 have hst:astore E.P t ⟨c,off,some g⟩ (ev tt x) m=some (m.put c (.cells (splice vs off (ev tt x).cells.toList) e g false)):=by
  unfold astore storeRow
  rw [hi]
  simp only [r4]
  rw [if_pos (by simpa using hlen.symm.trans hl),if_pos]
  simp only [agen,Option.getD_some,beq_self_eq_true,Bool.true_and,Bool.and_eq_true,decide_eq_true_eq]
  refine ⟨⟨?_,?_⟩,h6⟩
  ·rw [← hlen,hl,← hlen2];exact ⟨trivial,hle⟩
  ·rw [← hlen,hl];exact h0
 have hput':∀ d,c≠d→(m.put c (.cells (splice vs off (ev tt x).cells.toList) e g false)).get d=m.get d:=fun d hd=>by rw [Mem.get_put,if_neg hd]
 obtain ⟨c1,c2⟩:=h1.change (m':=m.put c (.cells (splice vs off (ev tt x).cells.toList) e g false)) (x':=.vecp e (psplice cs off (pcells r)) tag) (s':=σ b) hb (Nat.le_refl _) (fun _=>rfl) (Nat.le_refl _)
  (fun d _ hd=>hput' d fun e=>hd (by rw [h4,e];rfl)) (fun k k1 k2 k3=>by
   have:=k3 c (by rw [h4];rfl)
   simp only [Mem.put];omega) (fun d hd=>.inl hd) (by
   refine ⟨c,g,splice vs off (ev tt x).cells.toList,h4,r2,r3,by rw [Mem.get_put,if_pos rfl],?_,all_splice _ r6 h6⟩
   refine (RPs.splice off r5 h5).mono (fun d hd=>⟨hd,hput' d fun e=>r3 (e▸hd)⟩) (change_names (x':=.vecp e (psplice cs off (pcells r)) tag) hb (Nat.le_refl _) fun _=>rfl) (Nat.le_refl _))
 refine AVal.op (v:=undef) (fun _=>?_) ⟨_,_,_,F,_,q,c1,.tup .nil,c2,fun h=>by cases h⟩
 simp only [aval,aop,h3,hst,Option.map_some]
end Go.Vm
