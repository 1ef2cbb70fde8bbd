/-
  The values' layer: rules for functions that rewrite an own slice of ints in place. No condition. Nothing of one program stands here.
-/
import Derived.Test.YtmfnchgkffhpfaaDoorOri
import Derived.Test.YtmfnchgkffhpfaaDoorVmC
set_option linter.unusedSimpArgs false
set_option linter.unusedVariables false
namespace Go.Vm
open Go.Am
section
variable {P:Program} {F0:Nat} {laid:List (String×DataW Unit)} {O O0:Oracle} {ff:FuncId} {Fn:InF} {L:Frame} {H:Heap} {nx:Nat} {Q:PV→Heap→Nat→Prop} {w:Bool}
variable {dst:Option Tmp} {ty:TypeId} {pos:String} {af:Array Edge} {gd:Option (Nat×Bool)}
theorem RFs.ints {m:Mem} {F:Nat→Prop}:∀ {zs:List Int} {vs:List Value},RFs m F (cells zs) vs→vs=zs.map iV
 |[],_,h=>by cases h;rfl
 |z::zs,_,h=>by
  cases h with
  |cons h t=>cases h;rw [RFs.ints t];rfl
theorem RFs.ofInts (m:Mem) (F:Nat→Prop):∀ zs:List Int,RFs m F (cells zs) (zs.map iV)
 |[]=>.nil
 |z::zs=>.cons (.int .i64 z) (RFs.ofInts m F zs)
theorem iV_cells (zs:List Int):(zs.map iV).all isCell=true:=by
 rw [List.all_eq_true]
 intro x hx
 obtain ⟨z,_,rfl⟩:=List.mem_map.1 hx
 rfl
theorem gl_same {m:Mem} {F:Nat→Prop} {σ:Nat→Value} (h1:Ctx (lawEnvX P F0 laid O).Γ m F σ H nx):∀ k∈globList P F0 laid,m.get k=(globMem P F0 laid).get k:=fun k hk=>by
 obtain ⟨hlt,e,l,hgl⟩:=globList_mem hk
 have:=(h1.gl k l e (by simp only [lawEnvX,gam,if_pos hlt,hgl,Option.map_some])).2.1
 rw [this,globMem_get hlt,hgl]
theorem in_args {E:Env} {m:Mem} {F:Nat→Prop} {σ:Nat→Value} {t:Tr Value} {b n:Nat} {e:TypeId} {zs:List Int} {z:Bool} {args:List Operand} {rest:List FV} (h1:Ctx E.Γ m F σ H nx) (h2:RL m F (htag H) σ nx L t)
 (ha:evs E.Γ L args=some (.vec b n 0 n::rest.map .p)) (hb:hget H b=some (.vec e (cells zs) n z)) (h0:0<n) :
 ∃ c g us,args.map (ev t)=.slice (some ⟨c,0,none⟩) n g::us∧RFs m F rest us∧σ b=.slice (some ⟨c,0,none⟩) n g∧c<m.size∧¬ F c∧m.get c=.cells (zs.map iV) e g false:=by
 have hr:=evs_rel h1 h2 ha
 obtain ⟨_,hrb⟩:=h1.hp b _ hb
 rcases hrb with ⟨_,r2,_⟩|⟨c,g,vs,r1,r2,r3,r4,r5,r6,r7⟩
 ·omega
 have hv:=RFs.ints r5
 subst hv
 generalize args.map (ev t)=as at hr
 cases hr with
 |cons h3 h4 =>
  rename_i v us
  refine ⟨c,g,us,?_,RFs.ofRPs h4,r1,r2,r3,r4⟩
  cases h3 with
  |vec hb' hc h =>
   have:=(h n (by simp [htag,hb,HB.tag])).2 rfl
   rw [r1] at this
   simp only [SubOf] at this
   rw [this]
theorem VVal.inCut {fo:Operand} {args:Array Operand} {aT:Array TypeId} {b n k:Nat} {e:TypeId} {zs zs':List Int} {z:Bool} {rest:List FV} {rv:List Value} (hO:O ff=inO (globList P F0 laid) (globMem P F0 laid) ff e Fn O0 ff)
 (hf:vev (lawEnvX P F0 laid O).Γ L fo=some (.clo ff [] [])) (ha:evs (lawEnvX P F0 laid O).Γ L args.toList=some (.vec b n 0 n::rest.map .p)) (hb:hget H b=some (.vec e (cells zs) n z)) (hrv:∀ m F us,RFs m F rest us→us=rv) (hpl:rv.all Am.plainCell=true)
 (hn:zs.length=n) (h0:0<n) (hF:Fn zs rv=some (zs',some k)) (hl:zs'.length=n) (hk:k≤n)
 (q:Q (.vec nx k 0 k) ((nx,.vec e (cells (zs'.take k)) k false)::hdel H b) (nx+1)):VVal (lawEnvX P F0 laid O) true ⟨dst,.call { callee:=.value fo,args:=args,argTypes:=aT },ty,pos,af,gd⟩ L H nx Q:=by
 intro m F σ t h1 h2
 obtain ⟨c,g,us,e1,e2,e3,e4,e5,e6⟩:=in_args h1 h2 ha hb h0
 have e7:=hrv m F us e2
 subst e7
 have hfv:=vev_rel h1 h2 hf
 generalize hfe:ev t fo=fv at hfv
 cases hfv with
 |clo r1 r2 =>
  cases r1;cases r2
  have hput':∀ d,c≠d→(m.put c (.cells ((zs'.take k).map iV) e (g+1) false)).get d=m.get d:=fun d hd=>by rw [Mem.get_put,if_neg hd]
  obtain ⟨c1,c2⟩:=h1.move (m':=m.put c (.cells ((zs'.take k).map iV) e (g+1) false)) (s':=.slice (some ⟨c,0,none⟩) k (g+1)) (x':=.vec e (cells (zs'.take k)) k false) hb (Nat.le_refl _) (fun d _ hd=>hput' d fun e'=>hd (by rw [e3,e'];rfl)) (fun k' k1 k2 k3=>by
   have:=k3 c (by rw [e3];rfl)
   simp only [Mem.put];omega) (fun d hd=>.inl (by rw [e3];exact hd)) (.inr ⟨c,g+1,_,rfl,e4,e5,by rw [Mem.get_put,if_pos rfl],RFs.ofInts _ _ _,iV_cells _,fun _=>rfl⟩)
  refine AVal.call (f:=ff) (as:=args.toList.map (ev t)) (fun call=>by simp only [aval,hfe];simp) (ACalls.oracle (v:=.slice (some ⟨c,0,none⟩) k (g+1)) (m':=m.put c (.cells ((zs'.take k).map iV) e (g+1) false)) (show O ff=_ by rw [hO];exact if_pos rfl) ?_ ⟨_,_,_,F,_,q,c1,?_,c2,fun h=>by cases h⟩)
  ·rw [if_pos (gl_same h1),e1]
   simp only [inRun,e6]
   rw [if_pos ⟨trivial,trivial,by rw [List.length_map];exact hn,h0,hpl⟩,unints_iV]
   simp only [hF]
   rw [if_pos ⟨hl,hk⟩]
  ·refine .vec (Nat.lt_succ_self _) rfl fun j hj=>?_
   rw [htag_cons,if_pos rfl] at hj
   simp only [HB.tag,Option.some.injEq,Tg.vec.injEq] at hj
   refine ⟨by omega,fun _=>?_⟩
   rw [upd_same]
   exact rfl
theorem VVal.inPut {fo:Operand} {args:Array Operand} {aT:Array TypeId} {b n:Nat} {e:TypeId} {zs zs':List Int} {z:Bool} {rest:List FV} {rv:List Value} (hO:O ff=inO (globList P F0 laid) (globMem P F0 laid) ff e Fn O0 ff)
 (hf:vev (lawEnvX P F0 laid O).Γ L fo=some (.clo ff [] [])) (ha:evs (lawEnvX P F0 laid O).Γ L args.toList=some (.vec b n 0 n::rest.map .p)) (hb:hget H b=some (.vec e (cells zs) n z)) (hrv:∀ m F us,RFs m F rest us→us=rv) (hpl:rv.all Am.plainCell=true)
 (hn:zs.length=n) (h0:0<n) (hF:Fn zs rv=some (zs',none)) (hl:zs'.length=n)
 (q:Q (.tup []) (hput H b (.vec e (cells zs') n z)) nx):VVal (lawEnvX P F0 laid O) true ⟨dst,.call { callee:=.value fo,args:=args,argTypes:=aT },ty,pos,af,gd⟩ L H nx Q:=by
 intro m F σ t h1 h2
 obtain ⟨c,g,us,e1,e2,e3,e4,e5,e6⟩:=in_args h1 h2 ha hb h0
 have e7:=hrv m F us e2
 subst e7
 have hz:n=0→z=false:=fun h=>by omega
 have hfv:=vev_rel h1 h2 hf
 generalize hfe:ev t fo=fv at hfv
 cases hfv with
 |clo r1 r2 =>
  cases r1;cases r2
  have hput':∀ d,c≠d→(m.put c (.cells (zs'.map iV) e g false)).get d=m.get d:=fun d hd=>by rw [Mem.get_put,if_neg hd]
  obtain ⟨c1,c2⟩:=h1.change (m':=m.put c (.cells (zs'.map iV) e g false)) (s':=σ b) (x':=.vec e (cells zs') n z) hb (TLe.refl _) (fun _=>rfl) (Nat.le_refl _) (fun d _ hd=>hput' d fun e'=>hd (by rw [e3,e'];rfl)) (fun k' k1 k2 k3=>by
   have:=k3 c (by rw [e3];rfl)
   simp only [Mem.put];omega) (fun d hd=>.inl hd) (.inr ⟨c,g,_,e3,e4,e5,by rw [Mem.get_put,if_pos rfl],RFs.ofInts _ _ _,iV_cells _,hz⟩)
  refine AVal.call (f:=ff) (as:=args.toList.map (ev t)) (fun call=>by simp only [aval,hfe];simp) (ACalls.oracle (v:=.tuple #[]) (m':=m.put c (.cells (zs'.map iV) e g false)) (show O ff=_ by rw [hO];exact if_pos rfl) ?_ ⟨_,_,_,F,_,q,c1,.tup .nil,c2,fun h=>by cases h⟩)
  rw [if_pos (gl_same h1),e1]
  simp only [inRun,e6]
  rw [if_pos ⟨trivial,trivial,by rw [List.length_map];exact hn,h0,hpl⟩,unints_iV]
  simp only [hF]
  rw [if_pos hl]
theorem VVal.inNil {fo:Operand} {args:Array Operand} {aT:Array TypeId} {b:Nat} {e e':TypeId} {cs:List FV} {rest:List FV} {rv:List Value} (hO:O ff=inO (globList P F0 laid) (globMem P F0 laid) ff e Fn O0 ff)
 (hf:vev (lawEnvX P F0 laid O).Γ L fo=some (.clo ff [] [])) (ha:evs (lawEnvX P F0 laid O).Γ L args.toList=some (.vec b 0 0 0::rest.map .p)) (hb:hget H b=some (.vec e' cs 0 true)) (hrv:∀ m F us,RFs m F rest us→us=rv) (hF:Fn [] rv=some ([],none))
 (q:Q (.tup []) H nx):VVal (lawEnvX P F0 laid O) w ⟨dst,.call { callee:=.value fo,args:=args,argTypes:=aT },ty,pos,af,gd⟩ L H nx Q:=by
 intro m F σ t h1 h2
 have hr:=evs_rel h1 h2 ha
 obtain ⟨_,hrb⟩:=h1.hp b _ hb
 have hs:σ b=nilSlice:=by
  rcases hrb with ⟨_,_,r3⟩|⟨c,g,vs,r1,r2,r3,r4,r5,r6,r7⟩
  ·rcases r3 with ⟨r3,_⟩|⟨_,_,_,_,r3⟩
   ·exact r3
   ·cases r3
  ·exact absurd (r7 rfl) (by decide)
 generalize hA:args.toList.map (ev t)=as at hr
 have hfv:=vev_rel h1 h2 hf
 generalize hfe:ev t fo=fv at hfv
 cases hr with
 |cons h3 h4 =>
  rename_i v us
  have e7:=hrv m F us (RFs.ofRPs h4)
  subst e7
  have e1:v=.slice none 0 0:=by
   cases h3 with
   |vec hb' hc h =>
    have:=(h 0 (by simp [htag,hb,HB.tag])).2 rfl
    rw [hs] at this
    exact this.1
  subst e1
  cases hfv with
  |clo r1 r2 =>
   cases r1;cases r2
   refine AVal.call (f:=ff) (as:=args.toList.map (ev t)) (fun call=>by simp only [aval,hfe];simp) (ACalls.oracle (v:=.tuple #[]) (m':=m) (show O ff=_ by rw [hO];exact if_pos rfl) ?_ ⟨_,_,_,F,_,q,h1,.tup .nil,Step.refl _ _ _ _ _,fun _=>fun _ h _=>h⟩)
   rw [if_pos (gl_same h1),hA]
   simp only [inRun,hF]
def VReadV (E:Env) (g:FuncId) (ac:List PV) (Hc:Heap) (k:Nat) (e:TypeId) (cs:List FV) (n:Nat) (z:Bool):Prop:=VCalls E g ac Hc k fun r H' nx'=>r=.vec k n 0 n∧H'=(k,.vec e cs n z)::Hc∧nx'=k+1
theorem VReadV.enter {E:Env} {f:FuncId} {fn:Func} {c:Code} {ac:List PV} {Hc:Heap} {k n:Nat} {e:TypeId} {cs:List FV} {z:Bool} (ho:E.O f=none) (hf:E.P.funcs[f]?=some fn) (hb:fn.body=some c) (hok:fnOk E.G fn c=true) (hn:ac.length≤fn.ntmps)
 (h:VWp E k c (argFrame 0 ac) Hc k (Done E.P fn.results.toList k fun r' H' nx'=>r'=.vec k n 0 n∧H'=(k,.vec e cs n z)::Hc∧nx'=k+1)):VReadV E f ac Hc k e cs n z:=VCalls.enter ho hf hb hok hn h
theorem VVal.readV {E:Env} {fo:Operand} {args:Array Operand} {aT:Array TypeId} {g:FuncId} {fs cs0 as ac:List PV} {Hc:Heap} {e:TypeId} {cs:List FV} {n:Nat} {z:Bool} (ns:List Nat) (hc:VReadV E g ac Hc ns.length e cs n z)
 (hf:vev E.Γ L fo=some (.clo g fs cs0)) (ha:evs E.Γ L args.toList=some as) (hle:PLes (fs++as++cs0) (PVs.rn (rho ns nx) ac)) (hu:PVs.under ns.length ac) (hHu:HUnder ns.length Hc) (hin:HIn (rho ns nx) H Hc) (hnd:ns.Nodup) (hlt:∀ b∈ns,b<nx)
 (hr:rho ns nx ns.length=nx) (hm:news ns.length (rho ns nx) ((ns.length,.vec e cs n z)::Hc) (merge ns (rho ns nx) ((ns.length,.vec e cs n z)::Hc) H)=(nx,.vec e cs n z)::H) (q:Q (.vec nx n 0 n) ((nx,.vec e cs n z)::H) (nx+1)) :
 VVal E true ⟨dst,.call { callee:=.value fo,args:=args,argTypes:=aT },ty,pos,af,gd⟩ L H nx Q :=
 VVal.callG hf ha hle hu hHu hin hnd hlt (fun h=>by cases h) hc fun r H' nx' ⟨h1,h2,h3⟩=>by
  subst h1;subst h2;subst h3
  rw [hm,Nat.add_sub_cancel_left]
  simp only [PV.rn,hr]
  exact q
end
end Go.Vm
