/-
  Texts of a proof, merged (AmD). Conditions: in each statement.
-/
import Derived.RangeFuncLeaves
import GoSem.ClaimChange
import Derived.ProofKit
import Derived.Below
import Derived.WideShapes
import Derived.ChangeMaps5
import GoSem.ClaimJoined
import Derived.Test.YtnjkoebfgcbbdaaGreatDoorKCc
set_option linter.unusedSimpArgs false
set_option linter.unusedVariables false
set_option linter.unusedSectionVars false
set_option maxRecDepth 100000
set_option maxHeartbeats 8000000
abbrev am:=@Nat.eq_zero_or_pos
abbrev bc:=@List.length_map
abbrev bN:=@List.mem_cons_self
abbrev cG:=@Array.getD_eq_getD_getElem?
abbrev dm:=@Nat.mul_pos
abbrev ed:=@Eq.trans
abbrev fp:=@List.map_congr_left
abbrev fu:=@Array.getElem?_append_right
abbrev fN:=@Array.mapM_eq_mapM_toList
abbrev fR:=@List.getElem?_zip_eq_some
abbrev gw:=@List.range_succ_eq_map
abbrev gD:=@Array.getElem?_toList
abbrev gR:=@List.map_map
namespace Go.Am
section
variable {P:Program} {G:List Nat} {ds:List Deferred} {rf:Option Nat} {nn:Nat}
theorem Xw {call:EI} (hc:Dc call) {ops:Array Oper}:∀ (l:List Oper) (s s':St),Lp P call ops l s=some s'→AO s.m s'.m
 |[],s,s',h=>by cases h;exact AO.refl _
 |o::l,s,s',h=>by
  simp only [Lp] at h;cases h1:Mc P call ops o s with
  |none=>grind
  |some s1 =>
   rw [h1] at h;refine AO.trans ?_ (Xw hc l s1 s' h);unfold Mc at h1;split at h1
   ·unfold xZ at h1
    split at h1
    ·rename_i v m hv;cases h1;exact JD hc hv
    grind
   ·cases h1;exact AO.refl _
theorem WO {call:EI} (hc:Dc call) {ops:Array Oper}:∀ (l:List Oper) (i:Nat) (s s':St),Kt P call ops i l s=some s'→AO s.m s'.m
 |[],i,s,s',h=>by cases h;exact AO.refl _
 |o::l,i,s,s',h=>by
  simp only [Kt] at h;cases h1:P9 P call ops i o s with
  |none=>grind
  |some s1 =>
   rw [h1] at h;refine AO.trans ?_ (WO hc l (i+1) s1 s' h);rcases G5 h1 with ⟨_,_,x,hm,hx,_⟩|⟨_,v,m',hv,_,hm,_⟩
   ·rw [hm];exact ⟨ab _,hx,fun _ _ _=>rfl,fun _ _ _=>rfl,fun _ _=>rfl⟩
   ·have hs:=JD hc hv
    rw [hm];exact ⟨hs.size,ca _ _,fun b hb hl=>hs.keep b hb (ag hl (cj _ _)),fun b hb hr=>hs.ro b hb hr,fun b hb=>hs.ro' b hb⟩
theorem PW {n:Nat} {Ph body:St→Option (BM×St)} {ask:Mem→Prop} {t:Tr Value} {ps:List Tmp} (ha:∀ s s' x,Ph s=some (x,s')→AO s.m s'.m) (hb:∀ s s' x,body s=some (x,s')→AO s.m s'.m) :
 ∀ (rows:List (List Value)) (m m':Mem) (x:BM),EM n Ph body ask t ps rows m=some (x,m')→AO m m'
 |[],m,m',x,h=>by
  simp only [EM,Option.some.injEq,Prod.mk.injEq] at h;rw [h.2];exact AO.refl _
 |vs::rest,m,m',x,h=>by
  obtain ⟨_,_,s1,e3,xb,s2,e5,e7⟩:=Lc h;have hs:=(ha _ _ _ e3).trans (hb _ _ _ e5);have h1:AO m (I8 s2.m (min m.low s2.m.low)):=⟨hs.size,ca _ _,fun b hb hl=>hs.keep b hb (ag hl (cj _ _)),fun b hb hr=>hs.ro b hb hr,fun b hb=>hs.ro' b hb⟩
  rcases e7 with ⟨_,_,q⟩|⟨_,_,q⟩
  ·exact h1.trans (PW ha hb rest _ _ _ q)
  grind
theorem Zz {call:EI} (hc:Dc call) {N:Nat}:∀ (c:Code) (s s':St) (x:BM),Ce P call N c s=some (x,s')→AO s.m s'.m:=by
 intro c
 induction c with
 |skip=>intro s s' x h;cases h;exact AO.refl _
 |label l=>intro s s' x h;cases h;exact AO.refl _
 |ret=>intro s s' x h;cases h;exact AO.refl _
 |exit id=>intro s s' x h;cases h;exact AO.refl _
 |goto l=>intro s s' x h;cases h
 |scope b _=>intro s s' x h;cases h
 |refuse y=>intro s s' x h;cases h
 |rangeFunc f ps y z ihy ihz =>
  intro s s' x h;simp only [Ce] at h;split at h
  case h_2=>cases h
  split at h
  case h_2=>cases h
  split at h
  case isFalse=>cases h
  split at h
  case h_2=>cases h
  split at h
  case h_2=>cases h
  rw [ae] at h;obtain ⟨⟨x1,m'⟩,hrun,he⟩:=h;cases he;exact PW ihy ihz _ _ _ _ hrun
 |seq c1 c2 ih1 ih2 =>
  intro s s' x h;simp only [Ce] at h;cases h1:Ce P call N c1 s with
  |none=>grind
  |some r =>
   obtain ⟨x1,s1⟩:=r;rw [h1] at h;have:=ih1 s s1 x1 h1;cases x1 with
   |normal=>exact this.trans (ih2 s1 s' x h)
   |ret=>grind
   |exit id=>grind
 |cond c0 c1 c2 ih1 ih2 =>
  intro s s' x h;simp only [Ce] at h;grind
 |block id b ih =>
  intro s s' x h;simp only [Ce] at h;grind
 |loop b ih =>
  intro s s' x h;simp only [Ce] at h;have key:∀ (k:Nat) (s s':St) (x:BM),iterate (Ce P call N b) k s=some (x,s')→AO s.m s'.m:=by
   intro k
   induction k with
   |zero=>intro s s' x h;cases h
   |succ k ihk =>
    intro s s' x h;simp only [iterate] at h;cases h1:Ce P call N b s with
    |none=>grind
    |some r =>
     obtain ⟨x1,s1⟩:=r;rw [h1] at h;have:=ih s s1 x1 h1;cases x1 with
     |normal=>exact this.trans (ihk s1 s' x h)
     |ret=>grind
     |exit id=>grind
  grind
 |region id ops draw =>
  intro s s' x h;cases draw with
  |false =>
   simp only [Ce,Option.map_eq_some_iff] at h;obtain ⟨s1,h1,he⟩:=h;cases he;exact Xw hc _ _ _ h1
  |true =>
   simp only [Ce,Option.map_eq_some_iff] at h;obtain ⟨s1,h1,he⟩:=h;cases he;exact WO hc _ _ _ _ h1
theorem GL:∀ (l:List Value) (k:Nat) (t:Tr Value) (i:Nat),Cj (tmpsOf k l t) i=if k≤i∧i<k+l.length then l.getD (i-k) undef else Cj t i
 |[],k,t,i=>by simp only [tmpsOf];grind
 |v::l,k,t,i=>by
  simp only [tmpsOf];rw [GL l (k+1) (P7 t k v) i,Df];grind
def jS (tmps:Array Value):ResultVar→Sem Value
 | .tmp t=>pure (tmps.getD t undef)
 | .cell a t=>do loadVar t (← asAddr (tmps.getD a undef))
theorem Zn {ι:BJ} {s:St} {n:Nat} {a:Act} {w:World} (hst:D9 P G ds n s ι a w) {r:ResultVar} {v:Value} (h:J3 P s r=some v) :
 ∃ v',(jS a.tmps r).run P w=.ok v' w∧Aw ι s.m.gen v v':=by
 cases r with
 |tmp t=>cases h;exact ⟨_,rfl,hst.2.val t⟩
 |cell c t =>
  simp only [J3] at h;have hv:=hst.2.val c;cases hc:Cj s.t c<;>rw [hc] at h hv<;>first|(cases h)|skip
  rename_i ad;cases ad with
  |none=>cases h
  |some ad =>
   obtain ⟨a',e1,har⟩:∃ a',a.tmps.getD c undef=.pointer (some a')∧PI ι s.m.gen ad a':=by
    generalize a.tmps.getD c undef=u at hv;cases hv;grind
   obtain ⟨v',hr,PE⟩:=Qw hst.1 har h;exact ⟨v',by simp only [jS,e1,asAddr,Sem.run_bind,Sem.run_pure,Result.andThen_ok];omega,PE⟩
theorem SB {ι:BJ} {s:St} {n:Nat} {a:Act} {w:World} (hst:D9 P G ds n s ι a w):∀ (rs:List ResultVar) (vs:List Value),Oc (J3 P s) rs=some vs →
 ∃ vs',(rs.mapM (jS a.tmps)).run P w=.ok vs' w∧BA ι s.m.gen vs vs'
 |[],vs,h=>by cases h;exact ⟨[],rfl,BA.nil⟩
 |r::rs,vs,h=>by
  simp only [Oc] at h;split at h
  ·rename_i v l h1 h2
   cases h;obtain ⟨v',q1,q2⟩:=Zn hst h1;obtain ⟨l',r1,r2⟩:=SB hst rs l h2;refine ⟨v'::l',?_,BA.cons q2 r2⟩;simp_all
  grind
theorem Pm {ι:BJ} {s:St} {n:Nat} {a:Act} {w:World} {fn:Func} {v:Value} (hst:D9 P G ds n s ι a w) (h:Fa P fn s=some v) :
 ∃ v',(results fn a.tmps).run P w=.ok v' w∧Aw ι s.m.gen v v':=by
 have heq:results fn a.tmps=(do let vs ← fn.results.mapM (jS a.tmps);pure (if h:vs.size=1 then vs[0] else .tuple vs)):=by
  rfl
 unfold Fa at h;have run:∀ vs,Oc (J3 P s) fn.results.toList=some vs→∃ vs':List Value,BA ι s.m.gen vs vs'∧(results fn a.tmps).run P w=.ok (if h:vs'.toArray.size=1 then vs'.toArray[0] else .tuple vs'.toArray) w:=fun vs hvs=>by
  obtain ⟨vs',h1,h2⟩:=SB hst _ _ hvs;refine ⟨vs',h2,?_⟩;rw [heq,fN];simp_all
 split at h
 ·rename_i v0 hl
  cases h;obtain ⟨vs',h1,h2⟩:=run _ hl;obtain ⟨v',k',rfl,hv,hk⟩:=h1.Kv;have:k'=[]:=ar.1 hk.1.symm;grind
 ·rename_i vs hne hl
  cases h;obtain ⟨vs',h1,h2⟩:=run _ hl;have hlen:vs'.length≠1:=fun e=>by
   have:vs.length=1:=h1.1.trans e
   match vs,this with
   |[x],_=>grind
  exact ⟨.tuple vs'.toArray,by grind,.tuple vs vs' h1.1 h1.2⟩
 grind
def XM (P:Program) (G:List Nat) (f:FuncId) (F:List Value→Mem→Option (Value×Mem)):Prop:=∀ (fn:Func) (lb:List Value) (m m1:Mem) (v:Value) (rows:List (List Value)),P.funcs[f]?=some fn→F (Ep fn.ntmps lb) m=some (v,m1)→OJ v=some rows →
 ∀ (ι:BJ) (w:World) (lb':Array Value),DL P G ι m w→BA ι m.gen lb lb'.toList→YO P f lb' rows (Oz P G (fun m'=>∃ m1',F (Ep fn.ntmps lb) m'=some (v,m1')) ι m.gen lb lb') w
theorem XM.b0l {f:FuncId} {F:List Value→Mem→Option (Value×Mem)} (h:∀ BF m v m',F BF m=some (v,m')→OJ v=none):XM P G f F:=fun fn lb m m1 v rows _ h1 h2=>by grind
theorem vF (n:Nat) (lb:List Value):Ep n lb=Yg::(List.replicate n Yg++lb):=rfl
theorem XM.none {f:FuncId} {F:List Value→Mem→Option (Value×Mem)} (h:∀ n lb m,F (Ep n lb) m=none):XM P G f F:=fun fn lb m m1 v rows _ h1=>by grind
def Gu (P:Program) (G:List Nat) (O:CB):Prop:=∀ f F,O f=some F→zD P G f F∧(∀ BF m v m',F BF m=some (v,m')→AO m m')∧Enters P f∧XM P G f F
theorem O5 {O:CB} {N:Nat} (hO:Gu P G O):∀ D,Dc (FD P O G N D)
 |0=>fun f BF m v m' h=>by cases h
 |D+1=>fun f BF m v m' h=>by
  simp only [FD] at h;split at h
  ·rename_i r hF
   rw [ba] at hF;obtain ⟨F,hF,hr⟩:=hF;cases h;exact (hO f F hF).2.1 BF m v m' hr
  ·split at h
   ·cases h
   ·split at h
    ·cases h
    ·split at h
     ·split at h
      ·rename_i s' hx
       rw [ae] at h;obtain ⟨u,_,h2⟩:=h;cases h2;exact Zz (O5 hO D) _ _ _ _ hx
      ·rename_i s' hx
       rw [ae] at h;obtain ⟨u,_,h2⟩:=h;cases h2;exact Zz (O5 hO D) _ _ _ _ hx
      grind
     grind
theorem UC (n:Nat) (lb:List Value):n<(Ep n lb).length:=by unfold Ep;grind
theorem iI {O:CB} {N:Nat} (hO:Gu P G O):∀ D,aP P G (FD P O G N D)
 |0=>fun g fn lb m m1 v rows _ h=>by cases h
 |D+1=>fun g fn lb m m1 v rows hfn h hr=>by
  have hrun:∀ m',(O g).bind (fun F=>F (Ep fn.ntmps lb) m')=none→FD P O G N (D+1) g (Ep fn.ntmps lb) m'=none:=fun m' h0=>by
   have:=UC fn.ntmps lb;simp only [FD,h0,hfn];grind
  have hall:∀ m',FD P O G N (D+1) g (Ep fn.ntmps lb) m'=(O g).bind (fun F=>F (Ep fn.ntmps lb) m'):=fun m'=>by
   cases h0:(O g).bind (fun F=>F (Ep fn.ntmps lb) m') with
   |none=>grind
   |some r=>simp only [FD,h0]
  rw [hall] at h;rw [ba] at h;obtain ⟨F,hg,hF⟩:=h;obtain ⟨_,_,h3,h4⟩:=hO g F hg;refine ⟨h3,fun ι w lb' hs hl=>?_⟩;simp only [hall,hg,Option.bind_some];exact h4 fn lb m m1 v rows hfn hF hr ι w lb' hs hl
theorem sim_put' {ι:BJ} {m:Mem} {W:World} {l:Nat} {ds:List Deferred} (hs:DL P G ι m W) (ho:W.heap[l]?=some (.deferred (some ds))) (x:Obj):DL P G ι m (W.putObj l x):=by
 have hg:=grownBy_putObj' W l x;refine ⟨fun b ib hb=>⟨(hs.dom b ib hb).1,ag (hs.dom b ib hb).2 hg.size⟩,fun b ib hb=>?_,hs.inj,hs.glob⟩;rw [hg.block ib.blk (hs.dom b ib hb).2 ?_];exact hs.blk b ib hb;intro e;have e':ib.blk=l:=by grind
 have h4:=hs.blk b ib hb;rw [e',ho] at h4;obtain ⟨_,_,h5⟩:=NV h4 rfl;grind
theorem Marks.put {B:Nat} {w:World} {D:Nat} {x:Obj}:∀ {ds:List Deferred},(∀ d'∈ds,d'≠{ target:=.collected D,args:=#[] })→Marks B w ds→Marks B (w.putObj D x) ds
 |[],_,h=>by
  have:B≤w.heap.size:=h;simpa [Marks] using this
 |d::ds,hn,⟨⟨D',e,hBD,hD,hne⟩,hr⟩=>by
  refine ⟨⟨D',e,hBD,?_,hne⟩,Marks.put (fun d' hd=>hn d' (av _ hd)) hr⟩;rw [World.putObj_heap_other (fun e'=>hn d (bN ..) (by grind))];omega
theorem Om {fn:Func} {tmps:Array Value} {R:Ending→World→Prop} {ι:BJ} {m:Mem} {B:Nat}:∀ (ds:List Deferred) (w:World),Marks B w ds→DL P G ι m w →
 (∀ w',DL P G ι m w'→w.heap.size≤w'.heap.size→(∀ c,c<B→w'.heap[c]?=w.heap[c]?)→w'.tape=w.tape→w'.os=w.os→w'.output=w.output→LeavesIn Fence.wide 0 P fn tmps R [] .returning w')→LeavesInM Fence.wide 0 P fn tmps R ds .returning w
 |[],w,_,hs,h=>h w hs (ab _) (fun _ _=>rfl) rfl rfl rfl
 |d::ds,w,⟨⟨D,e,hBD,hD,hne⟩,hr⟩,hs,h=>by
  refine ⟨(by simp),.inl ⟨D,_,by rw [e],run_takeDeferred hD,?_⟩⟩;have hot:∀ c,c≠D→(w.putObj D (.deferred none)).heap[c]?=w.heap[c]?:=fun c hc=>World.putObj_heap_other hc
  refine Om ds _ ?_ ?_ fun w' h1 h2 h3 h4 h5 h6=>h w' h1 (by simp_all) (fun c hc=>(h3 c hc).trans (hot c (by omega))) h4 h5 h6
  ·rw [e] at hne;exact Marks.put hne hr
  ·exact sim_put' hs hD _
theorem II {O:CB} {N:Nat} (hO:Gu P G O) (qw:P.follows .mixedOrders=true):∀ D,JG P G (FD P O G N D)
 |0=>fun f=>⟨(fun BF m v m' h=>by cases h),(fun BF m r h=>by cases h)⟩
 |D+1=>fun f=>by
  have hcs:=O5 (N:=N) hO D;have hc:=II (N:=N) hO qw D;refine ⟨fun BF m v m' h ι w as' hs hargs=>?_,fun BF m r h=>?_⟩
  ·simp only [FD] at h
   split at h
   ·rename_i r hF
    rw [ba] at hF;obtain ⟨F,hF,hr⟩:=hF;cases h;exact (hO f F hF).1 BF m v m' hr ι w as' hs hargs
   ·split at h
    ·cases h
    ·rename_i fn hfn
     split at h
     ·cases h
     ·rename_i c hb
      split at h
      ·rename_i hok
       simp only [Bool.and_eq_true,decide_eq_true_eq] at hok;obtain ⟨hok1,hlen⟩:=hok;unfold IL at hok1;simp only [Bool.and_eq_true] at hok1;have hlen':as'.size=BF.length:=by have:=hargs.1;grind
       have hst:D9 P G [] fn.ntmps { t:=tmpsOf 0 BF .leaf,m:=m } ι { tmps:=as'++Array.replicate (fn.ntmps-as'.size) undef,defers:=[] } w:=by
        refine ⟨hs,by grind,rfl,fun i=>?_⟩;rw [GL];by_cases hi:i<BF.length
        ·have h1:=hargs.2 i hi
         have hi':i<as'.size:=by omega
         have e:(as'++Array.replicate (fn.ntmps-as'.size) undef).getD i undef=as'.toList.getD i undef:=by
          rw [cG,cH hi',getD_eq,gD]
         grind
        ·rw [if_neg (by omega)]
         have e1:Cj (.leaf:Tr Value) i=undef:=Tr.U6 _ _;have e2:(as'++Array.replicate (fn.ntmps-as'.size) undef).getD i undef=undef:=by
          rw [cG,fu (by omega)];grind
         rw [e1,e2];exact Aw.undef
       have main:∀ (x:BM) (s':St),Ce P (FD P O G N D) N c { t:=tmpsOf 0 BF .leaf,m:=m }=some (x,s')→(x=.normal∨x=.ret)→(Fa P fn s').map (fun v=>(v,s'.m))=some (v,m') →
        Calls P f as' w fun e w'=>∃ v',e=.returned v'∧Post P G ι m w v m' v' w':=fun x s' hx hxx hres=>by
        rw [ae] at hres;obtain ⟨v0,hr0,he⟩:=hres;cases he;refine (callsIn_wide (n:=0)).1 (callsIn_of_wp_marks hfn hb trivial ?_);refine (wpIn_wide (n:=0)).2 ((wpIn_wide (n:=0)).1 (Xi hc (iI hO D) (YK hc hcs qw) c w.heap.size [] none 0 _ s' x ι _ w _ (.inl rfl) hok1.2 hx hst (ab _) fun ds' a' w' hr hm' _=>?_));obtain ⟨ι',hext,hst'⟩:=hr;have hpost:LeavesInM Fence.wide 0 P fn a'.tmps (fun e w'=>∃ v',e=.returned v'∧Post P G ι m w v s'.m v' w') a'.defers .returning w':=by
         rw [hst'.2.defers];refine Om ds' w' hm' hst'.1 fun w'' h1 h2 h3 h4 h5 h6=>?_
         have hst2:D9 P G ds' fn.ntmps s' ι' a' w'':=⟨h1,hst'.2⟩
         obtain ⟨v',q1,q2⟩:=Pm hst2 hr0;refine ⟨v',q1,v',rfl,ι',?_,h1,q2⟩;exact ⟨hext.size,hext.low,hext.keep,hext.ro,hext.ro',hext.le,hext.back,hext.dom,an hext.heap h2,fun c hc' hf=>(h3 c hc').trans (hext.frame c hc' hf),h4.trans hext.tape,h5.trans hext.os,h6.trans hext.output⟩
        rcases hxx with rfl|rfl<;>exact hpost
       grind
      grind
  ·simp only [FD] at h
   split at h
   ·rename_i r hF
    rw [ba] at hF;obtain ⟨F,hF,_⟩:=hF;exact (hO f F hF).2.2.1
   ·split at h
    ·cases h
    ·rename_i fn hfn
     split at h
     ·cases h
     ·rename_i c hb
      split at h
      ·rename_i hok
       simp only [Bool.and_eq_true,decide_eq_true_eq] at hok;have hok1:=hok.1;unfold IL at hok1;simp only [Bool.and_eq_true,Bool.not_eq_true'] at hok1;exact ⟨fn,hfn,by grind,hok1.1⟩
      grind
end
section
variable {P:Program} {G:List Nat}
def QM (m:Mem):Prop:=∀ b,b<m.size→m.ro b=true
structure Grow (ι:BJ) (m:Mem) (ι':BJ) (m':Mem):Prop where
 le:Le ι m.gen ι' m'.gen
 size:m.size≤m'.size
 get:∀ b,b<m.size→m'.get b=m.get b
theorem Grow.refl (ι:BJ) (m:Mem):Grow ι m ι m:=⟨Le.refl _ _,ab _,fun _ _=>rfl⟩
theorem Grow.trans {ι ι' ι'':BJ} {m m' m'':Mem} (h:Grow ι m ι' m') (k:Grow ι' m' ι'' m''):Grow ι m ι'' m'' :=
 ⟨h.le.trans k.le,an h.size k.size,fun b hb=>(k.get b (ag hb h.size)).trans (h.get b hb)⟩
theorem vT {ι:BJ} {m:Mem} {W:World} {c sh:Nat} {cs:Array Value} {e e':TypeId} {fr:Nat×Nat} {vs:List Value} (hs:DL P G ι m W) (hro:QM m)
 (hc:W.heap[c]?=some (.cells cs e' fr)) (hv:∀ i,i<vs.length→∃ v',cs[sh+i]?=some v'∧Aw ι m.gen (vs.getD i undef) v') :
 ∃ ι',DL P G ι' (m.alloc (.cells vs e 0 true)) W∧ι' m.size=some ⟨c,sh,cs.size,P.cellsOf e⟩∧Grow ι m ι' (m.alloc (.cells vs e 0 true))∧QM (m.alloc (.cells vs e 0 true)):=by
 have hget:∀ b,b<m.size→(m.alloc (.cells vs e 0 true)).get b=m.get b:=fun b hb=>by rw [Mem.Bh,if_neg (by omega)]
 have hgen:∀ b,b<m.size→(m.alloc (.cells vs e 0 true)).gen b=m.gen b:=fun b hb=>CS (hget b hb)
 have hself:(m.alloc (.cells vs e 0 true)).get m.size=.cells vs e 0 true:=by rw [Mem.Bh,if_pos rfl]
 have b5f:QM (m.alloc (.cells vs e 0 true)):=fun b hb=>by
  by_cases h:b=m.size
  ·subst h;exact Mem.Pn hself
  ·have:b<m.size:=by simp only [Mem.alloc] at hb;omega
   rw [Fe (hget b this)];exact hro b this
 let ι':BJ:=fun b=>if b=m.size then some ⟨c,sh,cs.size,P.cellsOf e⟩ else ι b
 have hle:Le ι m.gen ι' (m.alloc (.cells vs e 0 true)).gen:=fun b ib hb=>by
  have hlt:=(hs.dom b ib hb).1;grind
 have c3h:c<W.heap.size:=(al.1 hc).1;refine ⟨ι',⟨fun b ib hb=>?_,fun b ib hb=>?_,fun b b' ib ib' hb hb' he=>?_,fun k hk=>?_⟩,if_pos rfl,⟨hle,by simp [Mem.alloc],hget⟩,b5f⟩
 ·change (if b=m.size then some _ else ι b)=some ib at hb
  split at hb
  ·cases hb;exact ⟨by simp [Mem.alloc];omega,c3h⟩
  ·have:=hs.dom b ib hb
   exact ⟨by simp only [Mem.alloc];omega,this.2⟩
 ·change (if b=m.size then some _ else ι b)=some ib at hb
  split at hb
  ·rename_i hbe;cases hb;subst hbe
   rw [hself,hc];refine ⟨(fun h=>by cases h),rfl,rfl,fun i hi=>?_,(fun h=>by cases h)⟩;obtain ⟨v',h1,h2⟩:=hv i hi;exact ⟨v',h1,h2.mono hle⟩
  ·rw [hget b (hs.dom b ib hb).1]
   exact (hs.blk b ib hb).mono hle
 ·refine .inr ⟨b5f b ?_,b5f b' ?_⟩
  ·change (if b=m.size then some _ else ι b)=some ib at hb
   split at hb
   ·simp [Mem.alloc];omega
   ·have:=(hs.dom b ib hb).1;simp only [Mem.alloc];omega
  ·change (if b'=m.size then some _ else ι b')=some ib' at hb'
   split at hb'
   ·simp [Mem.alloc];omega
   ·have:=(hs.dom b' ib' hb').1;simp only [Mem.alloc];omega
 ·obtain ⟨ib,h1,h2,h3,h4,h5⟩:=hs.glob k hk
  have hlt:=(hs.dom k ib h1).1;refine ⟨ib,?_,h2,⟨h3.1,by grind⟩,by grind,by rw [Fe (hget k hlt)];omega⟩;grind
def Vr {H:Type} (g:TypeId→DataW H→Mem→Option (List Value×Mem)):List (TypeId×DataW H)→Mem→Option (List Value×Mem)
 |[],m=>some ([],m)
 |(t,d)::rest,m=>match g t d m with
  |some (l,m1)=>match Vr g rest m1 with
   |some (r,m2)=>some (l++r,m2)
   |none=>none
  |none=>none
def RS {H:Type} (P:Program):Nat→TypeId→DataW H→Mem→Option (List Value×Mem)
 |0,_,_,_=>none
 |f+1,t,d,m =>
  match P.underlying t,d with
  |some .bool,.lit (.bool b)=>some ([.bool b],m)
  |some (.int k),.lit (.int _ n)=>some ([.int k n],m)
  |some .string,.lit (.string s)=>some ([.string ⟨s.toArray⟩],m)
  |some (.slice _),.nil=>some ([.slice none 0 0],m)
  |some (.slice e),.slice elems spare =>
   if P.cellsOf e=0 then none else
   if elems.isEmpty&&spare.isEmpty then some ([.slice (some ⟨0,0,some 0⟩) 0 0],m) else
   match Vr (RS P f) (elems.map fun x=>(e,x)) m with
   |some (l,m1)=>some ([.slice (some ⟨m1.size,0,none⟩) elems.length 0],m1.alloc (.cells l e 0 true))
   |none=>none
  |some (.struct fs),.agg parts =>
   if (fs.toList.map fun fd=>((List.range (P.cellsOf t)).drop fd.offset).take (P.cellsOf fd.type)).flatten=List.range (P.cellsOf t) then
    Vr (RS P f) ((fs.toList.map (·.type)).zip parts) m else none
  |some (.array n e),.agg parts =>
   if ((List.range n).map fun i=>((List.range (P.cellsOf t)).drop (i*P.cellsOf e)).take (P.cellsOf e)).flatten=List.range (P.cellsOf t) then
    Vr (RS P f) (parts.map fun x=>(e,x)) m else none
  |_,_=>none
theorem mapM_some {α β:Type} {f:α→Option β}:∀ {l:List α} {r:List β},l.mapM f=some r→r.length=l.length∧∀ (i:Nat) a,l[i]?=some a→∃ b,r[i]?=some b∧f a=some b
 |[],r,h=>by
  grind
 |x::l,r,h=>by
  rw [List.mapM_cons] at h;simp only [bind,Option.bind_eq_some_iff,pure,Option.some.injEq] at h;obtain ⟨y,h1,ys,h2,rfl⟩:=h;obtain ⟨q1,q2⟩:=mapM_some h2;grind
def NM (P:Program) (G:List Nat) (W:World) (ι:BJ) (m:Mem) (l:List Value) (m':Mem) (cs:List Value):Prop :=
 ∃ ι',DL P G ι' m' W∧Grow ι m ι' m'∧QM m'∧BA ι' m'.gen l cs
theorem Oq {H:Type} {W:World} {g:TypeId→DataW H→Mem→Option (List Value×Mem)}:∀ (xs:List (TypeId×DataW H)) (css:List (List Value)) (ι:BJ) (m m':Mem) (l:List Value),
 xs.length=css.length→(∀ (i:Nat) (t:TypeId) (d:DataW H) (cs:List Value),xs[i]?=some (t,d)→css[i]?=some cs→∀ (ι:BJ) (m m':Mem) (l:List Value),DL P G ι m W→QM m→g t d m=some (l,m')→NM P G W ι m l m' cs) →
 DL P G ι m W→QM m→Vr g xs m=some (l,m')→NM P G W ι m l m' css.flatten
 |[],css,ι,m,m',l,hlen,_,hs,hro,h=>by
  cases h;have:css=[]:=ar.1 hlen.symm;subst this;exact ⟨ι,hs,Grow.refl _ _,hro,BA.nil⟩
 |(t,d)::xs,css,ι,m,m',l,hlen,hg,hs,hro,h=>by
  match css,hlen with
  |cs::css,hlen =>
   simp only [Vr] at h;cases h1:g t d m with
   |none=>grind
   |some r =>
    obtain ⟨l1,m1⟩:=r;rw [h1] at h;simp only at h;cases h2:Vr g xs m1 with
    |none=>grind
    |some r2 =>
     obtain ⟨l2,m2⟩:=r2;rw [h2] at h;cases h;obtain ⟨ι1,a1,a2,a3,a4⟩:=hg 0 t d cs (by simp) (by simp) ι m m1 l1 hs hro h1;obtain ⟨ι2,b1,b2,b3,b4⟩:=Oq xs css ι1 m1 m' l2 (by grind) (fun i t d cs q1 q2=>hg (i+1) t d cs (by grind) (by grind)) a1 a3 h2;refine ⟨ι2,b1,a2.trans b2,b3,?_⟩;exact (a4.mono b2.le).append b4
theorem PZ (cs:List Value):(List.range cs.length).map (fun i=>cs.getD i undef)=cs:=by
 apply bu;grind
theorem RY {α:Type} (cs:List Value) (l:List α) (off size:α→Nat)
 (h:(l.map fun a=>((List.range cs.length).drop (off a)).take (size a)).flatten=List.range cs.length):(l.map fun a=>(cs.drop (off a)).take (size a)).flatten=cs:=by
 have h2:=congrArg (List.map fun i=>cs.getD i undef) h;rw [PZ,List.map_flatten,gR] at h2;refine ed ?_ h2;congr 1
 apply fp;intro a _;simp only [Function.comp,List.map_take,List.map_drop,PZ]
theorem kZ (sz:Nat):∀ (n:Nat) (row:List Value),row.length=n*sz→((List.range n).map fun i=>(row.drop (i*sz)).take sz).flatten=row:=by
 intro n
 induction n with
 |zero=>simp
 |succ n ih =>
  intro row h;rw [gw,bz,List.flatten_cons,gR];have h1:(row.drop sz).length=n*sz:=by grind
  have h2:=ih (row.drop sz) h1;have h3:(List.map ((fun i=>List.take sz (List.drop (i*sz) row)) ∘ Nat.succ) (List.range n))=(List.map (fun i=>List.take sz (List.drop (i*sz) (List.drop sz row))) (List.range n)):=by
   apply fp;intro i _;simp only [Function.comp,List.drop_drop];grind
  rw [h3,h2];simp
theorem cells?_some {W:World} {a:Addr} {n:Nat} {cs:List Value} (h:W.cells? 0 a n=some cs):cs.length=n∧∀ i,i<n→W.cell? (a.add i)=cs[i]?:=by
 obtain ⟨h1,h2⟩:=mapM_some h;refine ⟨by grind,fun i hi=>?_⟩;obtain ⟨b,q1,q2⟩:=h2 i i (bS hi);grind
theorem YL {H:Type} {enc:TypeId×Value→H} {W:World} {held:Bool}:∀ (f:Nat) (t:TypeId) (cs:List Value) (d:DataW H) (ps:List MemPlace),
 DataW.trod enc P W 0 (fun _=>true) held f t cs=some (d,ps)→∀ (ι:BJ) (m m':Mem) (l:List Value),DL P G ι m W→QM m→RS P f t d m=some (l,m')→NM P G W ι m l m' cs:=by
 intro f
 induction f with
 |zero=>intro t cs d ps h;cases h
 |succ f ih =>
  intro t cs d ps h ι m m' l hs hro ha;have one:∀ {v:Value},plain v=true→NM P G W ι m [v] m [v]:=fun {v} hp=>⟨ι,hs,Grow.refl _ _,hro,BA.cons (Aw.plain hp) BA.nil⟩
  unfold DataW.trod at h;unfold RS at ha;cases hu:P.underlying t with
  |none=>rw [hu] at h;simp at h
  |some u =>
   rw [hu] at h ha;cases u with
   |bool =>
    match cs,h with
    |[.bool b],h =>
     simp only [Option.some.injEq,Prod.mk.injEq] at h;obtain ⟨rfl,rfl⟩:=h;simp only [Option.some.injEq,Prod.mk.injEq] at ha;obtain ⟨rfl,rfl⟩:=ha;exact one rfl
   |int k =>
    match cs,h with
    |[.int k' n],h =>
     simp only at h;split at h
     ·rename_i hc
      obtain ⟨rfl,_⟩:=hc;simp only [Option.some.injEq,Prod.mk.injEq] at h;obtain ⟨rfl,rfl⟩:=h;simp only [Option.some.injEq,Prod.mk.injEq] at ha;obtain ⟨rfl,rfl⟩:=ha;exact one rfl
     ·cases h
   |string =>
    match cs,h with
    |[.string s],h =>
     simp only at h;split at h
     ·simp only [Option.some.injEq,Prod.mk.injEq] at h
      obtain ⟨rfl,rfl⟩:=h;simp only [Option.some.injEq,Prod.mk.injEq] at ha;obtain ⟨rfl,rfl⟩:=ha;exact one rfl
     ·cases h
   |struct fs =>
    simp only at h;split at h
    ·rename_i hlen
     rw [ae] at h;obtain ⟨xs,hxs,he⟩:=h;simp only [Prod.mk.injEq] at he;obtain ⟨rfl,rfl⟩:=he;simp only at ha;split at ha
     ·rename_i hcov
      obtain ⟨q1,q2⟩:=mapM_some hxs;have hfl:=RY cs fs.toList (fun fd=>fd.offset) (fun fd=>P.cellsOf fd.type) (by rw [hlen];exact hcov);have:=Oq (W:=W) (P:=P) (G:=G) ((fs.toList.map (·.type)).zip (xs.map (·.1))) (fs.toList.map fun fd=>(cs.drop fd.offset).take (P.cellsOf fd.type)) ι m m' l
       (by simp only [List.length_zip,List.length_map,q1,Nat.min_self]) (fun i t' d' cs' r1 r2 ι m m' l hs hro ha=>by
        rw [fR] at r1;obtain ⟨r3,r4⟩:=r1;rw [aD,ae] at r2 r3 r4;obtain ⟨fd,s1,rfl⟩:=r2;obtain ⟨fd',s2,rfl⟩:=r3;obtain ⟨x,s3,rfl⟩:=r4;rw [s1] at s2;cases s2;obtain ⟨b,u1,u2⟩:=q2 i fd s1;rw [s3] at u1;cases u1;exact ih _ _ x.1 x.2 u2 ι m m' l hs hro ha) hs hro ha
      rw [hfl] at this;exact this
     ·cases ha
    ·cases h
   |array n e =>
    simp only at h;split at h
    ·rename_i hlen
     rw [ae] at h;obtain ⟨xs,hxs,he⟩:=h;simp only [Prod.mk.injEq] at he;obtain ⟨rfl,rfl⟩:=he;simp only at ha;split at ha
     ·rename_i hcov
      obtain ⟨q1,q2⟩:=mapM_some hxs;have hfl:=RY cs (List.range n) (fun i=>i*P.cellsOf e) (fun _=>P.cellsOf e) (by rw [hlen];exact hcov);have:=Oq (W:=W) (P:=P) (G:=G) ((xs.map (·.1)).map fun x=>(e,x)) ((List.range n).map fun i=>(cs.drop (i*P.cellsOf e)).take (P.cellsOf e)) ι m m' l
       (by simp only [List.length_map,q1]) (fun i t' d' cs' r1 r2 ι m m' l hs hro ha=>by
        rw [aD,aD] at r1;rw [aD,ae] at r2;obtain ⟨j,s1,rfl⟩:=r2;simp only [Option.map_map,Option.map_eq_some_iff,Function.comp,Prod.mk.injEq] at r1;obtain ⟨x,s3,rfl,rfl⟩:=r1;obtain ⟨b,u1,u2⟩:=q2 i j s1;rw [s3] at u1;cases u1;exact ih _ _ x.1 x.2 u2 ι m m' l hs hro ha) hs hro ha
      rw [hfl] at this;exact this
     ·cases ha
    ·cases h
   |slice e =>
    match cs,h with
    |[.slice none 0 0],h =>
     simp only [Option.some.injEq,Prod.mk.injEq] at h;obtain ⟨rfl,rfl⟩:=h;simp only [Option.some.injEq,Prod.mk.injEq] at ha;obtain ⟨rfl,rfl⟩:=ha;exact one rfl
    |[.slice (some a) len cap],h =>
     simp only [if_true] at h;split at h
     ·rename_i hc
      rw [ba] at h;obtain ⟨elems,he,h⟩:=h;rw [ae] at h;obtain ⟨rest,hr,hd⟩:=h;simp only [Prod.mk.injEq] at hd;obtain ⟨rfl,rfl⟩:=hd;simp only at ha;split at ha
      ·cases ha
      ·rename_i hsz
       obtain ⟨q1,q2⟩:=mapM_some he;obtain ⟨r1,r2⟩:=mapM_some hr;rw [List.length_range] at q1 r1;have cell:∀ i,i<cap→∃ ce,W.cells? 0 (a.add (i*P.cellsOf e)) (P.cellsOf e)=some ce:=fun i hi=>by
        by_cases h1:i<len
        ·obtain ⟨b,_,u2⟩:=q2 i i (bS h1)
         rw [ba] at u2;obtain ⟨ce,u3,_⟩:=u2;exact ⟨ce,u3⟩
        ·obtain ⟨b,_,u2⟩:=r2 (i-len) (i-len) (bS (by omega))
         rw [ba] at u2;obtain ⟨ce,u3,_⟩:=u2;exact ⟨ce,by rw [← u3];congr 3;omega⟩
       split at ha
       ·rename_i hemp
        simp only [Option.some.injEq,Prod.mk.injEq] at ha;obtain ⟨rfl,rfl⟩:=ha;simp only [Bool.and_eq_true,List.isEmpty_iff,List.map_eq_nil_iff] at hemp;obtain ⟨e1,e2⟩:=hemp;have hl0:len=0:=by rw [← q1,e1];rfl
        have hc0:cap=0:=by
         have:cap-len=0:=by rw [← r1,e2];rfl
         omega
        subst hl0;subst hc0;exact ⟨ι,hs,Grow.refl _ _,hro,BA.cons (.wz _ _ _ _) BA.nil⟩
       ·rename_i hemp
        have hcap:0<cap:=by
         rcases am cap with h|h
         ·exfalso
          subst h;have e1:elems=[]:=ar.1 (by omega);have e2:rest=[]:=ar.1 (by omega);rw [e1,e2] at hemp;simp at hemp
         ·exact h
        have hsz0:0<P.cellsOf e:=by omega
        obtain ⟨ce0,b8r⟩:=cell 0 hcap;rw [ge,Addr.add_zero'] at b8r;obtain ⟨l0,c0⟩:=cells?_some b8r;have hfirst:=c0 0 hsz0;rw [Addr.add_zero',ai (by omega:0<ce0.length)] at hfirst;obtain ⟨c,off,spot⟩:=a;have hspot:spot=none:=by
         unfold World.cell? at hfirst;cases spot with
         |none=>rfl
         |some s=>split at hfirst<;>simp at hfirst
        subst hspot;have hrow:∃ cs0 e' fr,W.heap[c]?=some (.cells cs0 e' fr):=by
         unfold World.cell? at hfirst;simp only at hfirst;split at hfirst
         ·rename_i cs0 e' fr hh;exact ⟨cs0,e',fr,hh⟩
         ·cases hfirst
        obtain ⟨cs0,e',fr,hrow⟩:=hrow;have cellAt:∀ k,k<cap*P.cellsOf e→∃ v,cs0[off+k]?=some v:=fun k hk=>by
         have hi:k / P.cellsOf e<cap:=(Nat.div_lt_iff_lt_mul hsz0).2 hk;obtain ⟨ce,hce⟩:=cell (k / P.cellsOf e) hi;obtain ⟨l1,c1⟩:=cells?_some hce;have hm:k % P.cellsOf e<P.cellsOf e:=ao _ hsz0;have h1:=c1 (k % P.cellsOf e) hm;rw [addr_add,addr_add,cell_of_row hrow,ai (by omega:k % P.cellsOf e<ce.length)] at h1;have e1:off+k / P.cellsOf e*P.cellsOf e+k % P.cellsOf e=off+k:=by
          have:=Nat.div_add_mod' k (P.cellsOf e);omega
         rw [e1] at h1;exact ⟨_,h1⟩
        let row:List Value:=(List.range (len*P.cellsOf e)).map fun k=>cs0.getD (off+k) undef
        have hrl:row.length=len*P.cellsOf e:=by simp [row]
        have hlc:len*P.cellsOf e≤cap*P.cellsOf e:=bp _ hc.2.1;have rowAt:∀ k,k<len*P.cellsOf e→row[k]?=cs0[off+k]?:=fun k hk=>by
         obtain ⟨v,hv⟩:=cellAt k (by omega);show ((List.range (len*P.cellsOf e)).map fun k=>cs0.getD (off+k) undef)[k]?=_;rw [aD,bS hk,hv];simp [hv]
        split at ha
        ·rename_i l1 m1 habs
         simp only [Option.some.injEq,Prod.mk.injEq] at ha;obtain ⟨rfl,rfl⟩:=ha;have hop:=Oq (W:=W) (P:=P) (G:=G) ((elems.map (·.1)).map fun x=>(e,x)) ((List.range len).map fun i=>(row.drop (i*P.cellsOf e)).take (P.cellsOf e)) ι m m1 l1
          (by simp only [List.length_map,q1,List.length_range]) (fun i t' d' cs' u1 u2 ι m m' l hs hro ha=>by
           rw [aD,aD] at u1;rw [aD,ae] at u2;obtain ⟨j,s1,rfl⟩:=u2;simp only [Option.map_map,Option.map_eq_some_iff,Function.comp,Prod.mk.injEq] at u1;obtain ⟨x,s3,rfl,rfl⟩:=u1;have hil:i<len:=by
            rcases ax i len with h|h
            ·exact h
            ·rw [aM (by simpa using h)] at s1;cases s1
           rw [bS hil] at s1;cases s1;obtain ⟨b,w1,w2⟩:=q2 i i (bS hil);rw [s3] at w1;cases w1;rw [ba] at w2;obtain ⟨ce,w3,w4⟩:=w2;obtain ⟨l2,c2⟩:=cells?_some w3;have hce:ce=(row.drop (i*P.cellsOf e)).take (P.cellsOf e):=by
            apply bu;intro j;by_cases hj:j<P.cellsOf e
            ·have h1:=c2 j hj
             rw [addr_add,addr_add,cell_of_row hrow] at h1;rw [← h1,cR,if_pos hj,ft,rowAt _ (by
              have:(i+1)*P.cellsOf e≤len*P.cellsOf e:=bp _ (by omega);rw [fY] at this;omega)]
             congr 1;omega
            ·rw [aM (by omega),cR,if_neg hj]
           rw [← hce];exact ih _ _ x.1 x.2 w4 ι m m' l hs hro ha) hs hro habs
         rw [kZ _ _ _ hrl] at hop;obtain ⟨ι1,o1,o2,o3,o4⟩:=hop;obtain ⟨ι2,p1,p2,p3,p4⟩:=vT (e:=e) (sh:=off) (vs:=l1) o1 o3 hrow (fun i hi=>by
          obtain ⟨v',h1,h2⟩:=o4.get (ai hi);refine ⟨v',?_,by rw [getD_lt hi];exact h2⟩;have hil:i<len*P.cellsOf e:=by rw [← hrl,← o4.1];exact hi
          rw [← rowAt i hil];exact h1)
         refine ⟨ι2,p1,o2.trans p3,p4,BA.cons ?_ BA.nil⟩;rw [show (elems.map (·.1)).length=len from by rw [bc,q1]];refine .sl _ _ _ _ _ _ ⟨_,p2,aq _,?_,fun _=>⟨rfl,rfl,.inr ⟨(cw off).symm,?_⟩⟩⟩
         ·exact hc.2.1
         ·simp only
          obtain ⟨v,hv⟩:=cellAt (cap*P.cellsOf e-1) (by
           have:0<cap*P.cellsOf e:=dm hcap hsz0;omega)
          have:=(al.1 hv).1;have hp:0<cap*P.cellsOf e:=dm hcap hsz0;omega
        ·cases ha
     ·cases h
   |_=>simp at ha
end
section
variable {P:Program} {G:List Nat}
theorem RH {H:Type} {g g':TypeId→DataW H→Mem→Option (List Value×Mem)} (hg:∀ t d m r,g t d m=some r→g' t d m=some r) :
 ∀ (xs:List (TypeId×DataW H)) (m:Mem) (r:List Value×Mem),Vr g xs m=some r→Vr g' xs m=some r
 |[],m,r,h=>h
 |(t,d)::xs,m,r,h=>by
  simp only [Vr] at h ⊢;cases h1:g t d m with
  |none=>grind
  |some a =>
   rw [h1] at h;rw [hg _ _ _ _ h1];simp only at h ⊢;cases h2:Vr g xs a.2 with
   |none=>grind
   |some b =>
    rw [h2] at h;rw [RH hg xs _ _ h2];exact h
theorem eU {H:Type}:∀ (f:Nat) (t:TypeId) (d:DataW H) (m:Mem) (r:List Value×Mem),RS P f t d m=some r→RS P (f+1) t d m=some r
 |0,_,_,_,_,h=>by cases h
 |f+1,t,d,m,r,h=>by
  have ih:=fun t d m r=>eU (H:=H) f t d m r
  unfold RS at h ⊢;split at h
  all_goals try exact h
  all_goals try (cases h)
  all_goals split at h
  all_goals try (cases h)
  all_goals rename_i h0
  ·simp only [if_neg h0]
   split at h
   ·grind
   ·rename_i h1
    simp only [if_neg h1];split at h
    ·rename_i l m1 h2
     rw [RH ih _ _ _ h2];exact h
    grind
  ·simp only [if_pos h0];exact RH ih _ _ _ h
  ·simp only [if_pos h0];exact RH ih _ _ _ h
theorem yL {H:Type} {f g:Nat} {t:TypeId} {d:DataW H} {m:Mem} {r:List Value×Mem} (hfg:f≤g) (h:RS P f t d m=some r):RS P g t d m=some r:=by
 induction hfg with
 |refl=>exact h
 |step _ ih=>exact eU _ _ _ _ _ ih
theorem a1x {H:Type} {enc:TypeId×Value→H} {W:World} {held:Bool} {t:TypeId} {v:Value} {d:DataW H} {ps:List MemPlace} (h:DataW.Trod enc P W 0 (fun _=>true) held t v d ps)
 {F:Nat} {ι:BJ} {m m':Mem} {l:List Value} (hs:DL P G ι m W) (hro:QM m) (ha:RS P F t d m=some (l,m')):NM P G W ι m l m' v.cells.toList:=by
 obtain ⟨f,hf⟩:=h;exact YL (max f F) t _ d ps (DataW.trod_le (Nat.le_max_left _ _) hf) ι m m' l hs hro (yL (Nat.le_max_right _ _) ha)
def qh (P:Program) (t:TypeId) (l:List Value):Option Value :=
 match P.underlying t,l with
 |some (.struct _),l=>some (.agg ⟨l⟩)
 |some (.array _ _),l=>some (.agg ⟨l⟩)
 |some .bool,[v]|some (.int _),[v]|some .string,[v]|some (.slice _),[v]=>some v
 |_,_=>none
def Vb {H:Type} (P:Program) (F:Nat):List TypeId→List (DataW H)→Mem→Option (List Value×Mem)
 |[],[],m=>some ([],m)
 |t::ts,d::ds,m=>match RS P F t d m with
  |some (l,m1)=>match qh P t l with
   |some v=>match Vb P F ts ds m1 with
    |some (r,m2)=>some (v::r,m2)
    |none=>none
   |none=>none
  |none=>none
 |_,_,_=>none
theorem a3z {W:World} {r:Go.Reach} {b0:Nat} {ι:BJ} {g:Nat→Nat} {t:TypeId} {v x:Value} {l:List Value} (hv:Value.okWide P W r b0 t v) (hp:qh P t l=some x)
 (hl:BA ι g l v.cells.toList):Aw ι g x v:=by
 unfold qh at hp;split at hp
 ·rename_i hu
  cases hp;simp only [Value.okWide,hu] at hv;obtain ⟨⟨cs⟩,rfl,-⟩:=hv;exact .agg _ _ hl.1 hl.2
 ·rename_i hu
  cases hp;simp only [Value.okWide,hu] at hv;obtain ⟨⟨cs⟩,rfl,-⟩:=hv;exact .agg _ _ hl.1 hl.2
 all_goals first
  |(rename_i hu
    cases hp;simp only [Value.okWide,hu,Cell.okWide] at hv;have hc:v.cells=#[v]:=by cases v<;>simp_all [Cell.ok,Value.cells]
    rw [hc] at hl;have:=hl.2 0 (by simp);simpa using this)
  |grind
theorem VL {H:Type} {enc:TypeId×Value→H} {W:World} {held:Bool} {r:Go.Reach} {b0:Nat} {F:Nat}:∀ (ts:List TypeId) (vs:List Value) (ds:List (DataW H)) (ps:List MemPlace),
 DataW.TrodAll enc P W 0 (fun _=>true) held ts vs ds ps→(∀ (j:Nat) t v,ts[j]?=some t→vs[j]?=some v→Value.okWide P W r b0 t v) →
 ∀ (ι:BJ) (m m':Mem) (BF:List Value),DL P G ι m W→QM m→Vb P F ts ds m=some (BF,m')→NM P G W ι m BF m' vs
 |[],[],[],ps,h,hv,ι,m,m',BF,hs,hro,ha=>by
  cases ha;exact ⟨ι,hs,Grow.refl _ _,hro,BA.nil⟩
 |t::ts,v::vs,d::ds,ps,h,hv,ι,m,m',BF,hs,hro,ha=>by
  obtain ⟨p,q,h1,h2,-⟩:=h;simp only [Vb] at ha;split at ha
  ·rename_i l m1 e1
   split at ha
   ·rename_i x e2
    split at ha
    ·rename_i r' m2 e3
     cases ha;obtain ⟨ι1,o1,o2,o3,o4⟩:=a1x h1 hs hro e1;obtain ⟨ι2,p1,p2,p3,p4⟩:=VL ts vs ds q h2 (fun j t v ht hv'=>hv (j+1) t v (by grind) (by grind)) ι1 m1 _ r' o1 o3 e3;exact ⟨ι2,p1,o2.trans p2,p3,BA.cons ((a3z (hv 0 t v rfl rfl) e2 o4).mono p2.le) p4⟩
    grind
   grind
  grind
 |[],[],_::_,ps,h,_,_,_,_,_,_,_,_=>h.elim
 |[],_::_,_,ps,h,_,_,_,_,_,_,_,_=>h.elim
 |_::_,[],_,ps,h,_,_,_,_,_,_,_,_=>h.elim
 |_::_,_::_,[],ps,h,_,_,_,_,_,_,_,_=>h.elim
def allocs (m:Mem):List IQ→Mem
 |[]=>m
 |b::r=>allocs (m.alloc b) r
theorem QI:∀ (l:List IQ) (m:Mem),(allocs m l).size=m.size+l.length
 |[],m=>rfl
 |b::r,m=>by rw [allocs,QI r];simp [Mem.alloc];omega
theorem SN:∀ (l:List IQ) (m:Mem) (b:Nat),(allocs m l).get b=if b<m.size then m.get b else match l[b-m.size]? with|some x=>x|none=>m.get b
 |[],m,b=>by simp [allocs]
 |x::r,m,b=>by
  rw [allocs,SN r,Mem.Bh];have hsz:(m.alloc x).size=m.size+1:=rfl;grind
def empty:Mem:=⟨.leaf,0,0⟩
def absP (P:Program) (F:Nat) (t:TypeId) (d:DataW Unit):Option (List Value) :=
 match RS P F t d empty with
 |some (l,_)=>if l.all plainCell then some l else none
 |none=>none
def b8u (P:Program) (t:TypeId):TypeId:=match P.underlying t with|some (.array _ e)=>e|_=>t
def H6 (P:Program) (F:Nat) (laid:List (String×DataW Unit)) (k:Nat):Option (TypeId×List Value) :=
 match laid.find? (fun x=>P.globalNamed x.1==some k),P.globals[k]? with
 |some x,some g=>(absP P F g.type x.2).map fun l=>(b8u P g.type,l)
 |_,_=>none
def Bv (P:Program) (F:Nat) (laid:List (String×DataW Unit)):Mem :=
 allocs empty ((List.range P.globals.size).map fun k=>match H6 P F laid k with
  |some (e,l)=>.cells l e 0 true
  |none=>.cells [] 0 0 true)
def AP (P:Program) (F:Nat) (laid:List (String×DataW Unit)):List Nat:=(List.range P.globals.size).filter fun k=>(H6 P F laid k).isSome
theorem yB {W:World}:∀ {laid:List (String×DataW Unit)} {ps:List MemPlace},DataW.LaidVars P W laid ps→∀ x∈laid,∃ g t cs fuel p,P.globalNamed x.1=some g∧(P.globals[g]?).map (·.type)=some t ∧
 W.var? P x.1=some cs∧DataW.trod (fun _=>()) P W 0 (fun _=>true) false fuel t cs.toList=some (x.2,p)
 |[],_,_,x,hx=>by grind
 |(n,d)::r,ps,h,x,hx=>by
  obtain ⟨g,t,cs,fuel,p,q,h1,h2,h3,h4,h5,-⟩:=h;rcases bm.1 hx with rfl|hx
  ·grind
  ·exact yB h5 x hx
theorem a5o (W:World):DL P [] (fun _=>none) empty W :=
 ⟨fun _ _ h=>(by cases h),fun _ _ h=>(by cases h),fun _ _ _ _ h=>(by cases h),fun _ h=>(by cases h)⟩
theorem YJ {F:Nat} {laid:List (String×DataW Unit)} {W:World} (hL:laidMet P laid W) {k:Nat} {e:TypeId} {l:List Value} (hk:H6 P F laid k=some (e,l)) :
 l.all plainCell=true∧∃ cs e' fr,W.heap[k]?=some (.cells cs e' fr)∧cs.toList=l:=by
 obtain ⟨ps,hL,-⟩:=hL;unfold H6 at hk;split at hk
 ·rename_i x g hx hg
  rw [ae] at hk;obtain ⟨l',h1,h2⟩:=hk;cases h2;have hmem:=List.mem_of_find?_eq_some hx;have hn:P.globalNamed x.1=some k:=by grind
  obtain ⟨g',t,cs,fuel,p,q1,q2,q3,q4⟩:=yB hL x hmem;obtain rfl:g'=k:=cd (q1.symm.trans hn);have ht:t=g.type:=by grind
  subst ht;unfold absP at h1;split at h1
  ·rename_i l2 m' ha
   split at h1
   ·rename_i hp
    cases h1;obtain ⟨ι',o1,o2,o3,o4⟩:=YL (G:=[]) (max fuel F) _ _ _ _ (DataW.trod_le (Nat.le_max_left _ _) q4) (fun _=>none) empty _ _ (a5o W) (fun b hb=>by cases hb) (yL (Nat.le_max_right _ _) ha);refine ⟨hp,?_⟩;have hcs:cs.toList=l:=by
     apply bu;intro i;by_cases hi:i<l.length
     ·obtain ⟨v',h1,h2⟩:=o4.get (ai hi)
      rw [h1,ai hi,h2.D5 (aL.1 hp _ (cN hi))]
     ·rw [aM (by have:=o4.1;omega),aM (by omega)]
    simp only [World.var?,q1,Option.bind_some] at q3;grind
   grind
  grind
 grind
theorem eX {F:Nat} {laid:List (String×DataW Unit)} {W:World} (hL:laidMet P laid W):∃ ι,DL P (AP P F laid) ι (Bv P F laid) W∧QM (Bv P F laid):=by
 have hsz:(Bv P F laid).size=P.globals.size:=by rw [Bv,QI];simp [empty]
 have hget:∀ k,k<P.globals.size→(Bv P F laid).get k=match H6 P F laid k with|some (e,l)=>.cells l e 0 true|none=>.cells [] 0 0 true:=fun k hk=>by
  rw [Bv,SN,if_neg (by simp [empty])];simp only [empty,Nat.sub_zero,List.getElem?_map,List.getElem?_range hk,Option.map_some]
 have hro:QM (Bv P F laid):=fun b hb=>by
  have h:=hget b (hsz▸hb);split at h<;>exact Mem.Pn h
 let ι:BJ:=fun k=>match H6 P F laid k,W.heap[k]? with
  |some (e,l),some (.cells cs _ _)=>if k<P.globals.size then some ⟨k,0,cs.size,P.cellsOf e⟩ else none
  |_,_=>none
 have hι:∀ k ib,ι k=some ib→k<P.globals.size∧∃ e l cs e' fr,H6 P F laid k=some (e,l)∧W.heap[k]?=some (.cells cs e' fr)∧ib=⟨k,0,cs.size,P.cellsOf e⟩:=fun k ib h=>by
  grind
 refine ⟨ι,⟨fun k ib h=>?_,fun k ib h=>?_,fun k k' ib ib' h h' _=>?_,fun k hk=>?_⟩,hro⟩
 ·grind
 ·obtain ⟨h1,e,l,cs,e',fr,h2,h3,rfl⟩:=hι k ib h
  have hg:=hget k h1;rw [h2] at hg;obtain ⟨hp,cs',e2,fr2,h4,h5⟩:=YJ hL h2;rw [h3] at h4;cases h4;simp only [hg,h3];refine ⟨fun h=>(by cases h),rfl,rfl,fun i hi=>?_,fun h=>(by cases h)⟩;refine ⟨l.getD i undef,?_,Aw.plainCell (aL.1 hp _ (getD_mem hi))⟩;grind
 ·grind
 ·simp only [AP,List.mem_filter,List.mem_range] at hk
  obtain ⟨h1,h2⟩:=hk;obtain ⟨⟨e,l⟩,h3⟩:=gg.1 h2;obtain ⟨hp,cs,e',fr,h4,h5⟩:=YJ hL h3;refine ⟨⟨k,0,cs.size,P.cellsOf e⟩,?_,rfl,⟨rfl,fun vs e2 g ro hg=>?_⟩,?_,hro k (hsz▸h1)⟩
  ·grind
  ·grind
  ·have hg:=hget k h1
   rw [h3] at hg;simp only [Mem.gen,hg,IQ.gen]
end
section
variable {P:Program} {G:List Nat} {O:CB}
def Ev {α β:Type} (F:Nat→Nat→Option (α×β)) (Q:α→β→Prop):Prop:=∃ a b,(∃ K,∀ N D,K≤N→K≤D→F N D=some (a,b))∧Q a b
def Jh (P:Program) (O:CB) (G:List Nat) (f:FuncId) (BF:List Value) (m:Mem) (Q:Value→Mem→Prop):Prop :=
 Ev (fun N D=>FD P O G N D f BF m) Q
def Ns (P:Program) (O:CB) (G:List Nat) (c:Code) (s:St) (Q:BM→St→Prop):Prop :=
 Ev (fun N D=>Ce P (FD P O G N D) N c s) Q
def Gs (P:Program) (O:CB) (G:List Nat) (o:Oper) (s:St) (Q:Value→Mem→Prop):Prop :=
 Ev (fun N D=>BO P (FD P O G N D) (ev s.t) o s.m) Q
theorem Ev.mono {α β:Type} {F:Nat→Nat→Option (α×β)} {Q R:α→β→Prop} (h:Ev F Q) (hq:∀ a b,Q a b→R a b):Ev F R:=by
 obtain ⟨a,b,h,q⟩:=h;exact ⟨a,b,h,hq _ _ q⟩
theorem Ev.now {α β:Type} {F:Nat→Nat→Option (α×β)} {Q:α→β→Prop} {a:α} {b:β} (h:∀ N D,F N D=some (a,b)) (q:Q a b):Ev F Q:=⟨a,b,⟨0,fun N D _ _=>h N D⟩,q⟩
theorem Ns.seq {a b:Code} {s:St} {Q:BM→St→Prop} (ha:Ns P O G a s fun e s'=>match e with| .normal=>Ns P O G b s' Q|e=>Q e s'):Ns P O G (.seq a b) s Q:=by
 obtain ⟨e,s',⟨K,h⟩,q⟩:=ha;cases e with
 |normal =>
  obtain ⟨e2,s2,⟨K2,h2⟩,q2⟩:=q;refine ⟨e2,s2,⟨max K K2,fun N D hN hD=>?_⟩,q2⟩;have:=h N D (by omega) (by omega);simp only [Ce,this];grind
 |ret=>exact ⟨_,s',⟨K,fun N D hN hD=>by simp only [Ce,h N D hN hD]⟩,q⟩
 |exit i=>exact ⟨_,s',⟨K,fun N D hN hD=>by simp only [Ce,h N D hN hD]⟩,q⟩
theorem Ns.skip {s:St} {Q:BM→St→Prop} (h:Q .normal s):Ns P O G .skip s Q:=Ev.now (fun _ _=>rfl) h
theorem Ns.ret {s:St} {Q:BM→St→Prop} (h:Q .ret s):Ns P O G .ret s Q:=Ev.now (fun _ _=>rfl) h
theorem Ns.exit {id:Nat} {s:St} {Q:BM→St→Prop} (h:Q (.exit id) s):Ns P O G (.exit id) s Q:=Ev.now (fun _ _=>rfl) h
theorem Ns.cond {c:Operand} {a b:Code} {s:St} {Q:BM→St→Prop} (t:Bool) (hc:ev s.t c=.bool t) (ht:t=true→Ns P O G a s Q) (hf:t=false→Ns P O G b s Q) :
 Ns P O G (.cond c a b) s Q:=by
 cases t
 ·obtain ⟨e,s',⟨K,h⟩,q⟩:=hf rfl
  exact ⟨e,s',⟨K,fun N D hN hD=>by simp only [Ce,hc];grind⟩,q⟩
 ·obtain ⟨e,s',⟨K,h⟩,q⟩:=ht rfl
  exact ⟨e,s',⟨K,fun N D hN hD=>by simp only [Ce,hc];grind⟩,q⟩
theorem Ns.block {id:Nat} {b:Code} {s:St} {Q:BM→St→Prop} (h:Ns P O G b s fun e s'=>match e with| .exit i=>if i=id then Q .normal s' else Q (.exit i) s'|e=>Q e s'):Ns P O G (.block id b) s Q:=by
 obtain ⟨e,s',⟨K,h⟩,q⟩:=h;cases e with
 |normal=>exact ⟨_,s',⟨K,fun N D hN hD=>by simp only [Ce,h N D hN hD]⟩,q⟩
 |ret=>exact ⟨_,s',⟨K,fun N D hN hD=>by simp only [Ce,h N D hN hD]⟩,q⟩
 |exit i =>
  simp only at q;split at q
  ·rename_i hi
   exact ⟨_,s',⟨K,fun N D hN hD=>by simp only [Ce,h N D hN hD,if_pos hi]⟩,q⟩
  ·rename_i hi
   exact ⟨_,s',⟨K,fun N D hN hD=>by simp only [Ce,h N D hN hD,if_neg hi]⟩,q⟩
theorem Ns.loop {b:Code} {s:St} {Q:BM→St→Prop} (I:Nat→St→Prop) (n:Nat) (h0:I n s)
 (hstep:∀ n s,I n s→Ns P O G b s fun e s'=>match e with| .normal=>∃ n',n'<n∧I n' s'|e=>Q e s'):Ns P O G (.loop b) s Q:=by
 have key:∀ n s,I n s→∃ e s',(∃ K,∀ N D k,K≤N→K≤D→K≤k→iterate (Ce P (FD P O G N D) N b) k s=some (e,s'))∧Q e s':=by
  intro n
  induction n using Nat.strongRecOn with
  |_ n ih =>
   intro s hI;obtain ⟨e,s',⟨K,h⟩,q⟩:=hstep n s hI;cases e with
   |normal =>
    obtain ⟨n',hn,hI'⟩:=q;obtain ⟨e2,s2,⟨K2,h2⟩,q2⟩:=ih n' hn s' hI';refine ⟨e2,s2,⟨max K K2+1,fun N D k hN hD hk=>?_⟩,q2⟩;obtain ⟨k,rfl⟩:∃ j,k=j+1:=⟨k-1,by omega⟩
    simp only [iterate,h N D (by omega) (by omega)];grind
   |ret =>
    refine ⟨_,s',⟨K+1,fun N D k hN hD hk=>?_⟩,q⟩;obtain ⟨k,rfl⟩:∃ j,k=j+1:=⟨k-1,by omega⟩
    simp only [iterate,h N D (by omega) (by omega)]
   |exit i =>
    refine ⟨_,s',⟨K+1,fun N D k hN hD hk=>?_⟩,q⟩;obtain ⟨k,rfl⟩:∃ j,k=j+1:=⟨k-1,by omega⟩
    simp only [iterate,h N D (by omega) (by omega)]
 obtain ⟨e,s',⟨K,h⟩,q⟩:=key n s h0;exact ⟨e,s',⟨K,fun N D hN hD=>by simp only [Ce];grind⟩,q⟩
def UM (P:Program) (O:CB) (G:List Nat) (ops:Array Oper) (l:List Oper) (s:St) (Q:St→Prop):Prop :=
 ∃ s',(∃ K,∀ N D,K≤N→K≤D→Lp P (FD P O G N D) ops l s=some s')∧Q s'
def I9 (P:Program) (O:CB) (G:List Nat) (ops:Array Oper) (i:Nat) (l:List Oper) (s:St) (Q:St→Prop):Prop :=
 ∃ s',(∃ K,∀ N D,K≤N→K≤D→Kt P (FD P O G N D) ops i l s=some s')∧Q s'
theorem Ns.region {id:Nat} {ops:Array Oper} {s:St} {Q:BM→St→Prop} (h:UM P O G ops ops.toList s (Q .normal)):Ns P O G (.region id ops false) s Q:=by
 obtain ⟨s',⟨K,h⟩,q⟩:=h;exact ⟨_,s',⟨K,fun N D hN hD=>by simp only [Ce,h N D hN hD,Option.map_some]⟩,q⟩
theorem Ns.Dq {id:Nat} {ops:Array Oper} {s:St} {Q:BM→St→Prop} (h:I9 P O G ops 0 ops.toList s (Q .normal)):Ns P O G (.region id ops true) s Q:=by
 obtain ⟨s',⟨K,h⟩,q⟩:=h;exact ⟨_,s',⟨K,fun N D hN hD=>by simp only [Ce,h N D hN hD,Option.map_some]⟩,q⟩
theorem UM.nil {ops:Array Oper} {s:St} {Q:St→Prop} (h:Q s):UM P O G ops [] s Q:=⟨_,⟨0,fun _ _ _ _=>rfl⟩,h⟩
theorem I9.nil {ops:Array Oper} {i:Nat} {s:St} {Q:St→Prop} (h:Q s):I9 P O G ops i [] s Q:=⟨_,⟨0,fun _ _ _ _=>rfl⟩,h⟩
theorem UM.cons {ops:Array Oper} {o:Oper} {l:List Oper} {s:St} {Q:St→Prop} (hw:Region.wanted o (Eh ops s.t)=true)
 (h:Gs P O G o s fun v m'=>UM P O G ops l { t:=H7 s.t o.dst v,m:=m' } Q):UM P O G ops (o::l) s Q:=by
 obtain ⟨v,m',⟨K,h⟩,s',⟨K2,h2⟩,q⟩:=h;refine ⟨s',⟨max K K2,fun N D hN hD=>?_⟩,q⟩;simp only [Lp,Mc,hw,if_true,xZ,h N D (by omega) (by omega)];grind
theorem UM.skip {ops:Array Oper} {o:Oper} {l:List Oper} {s:St} {Q:St→Prop} (hw:Region.wanted o (Eh ops s.t)=false)
 (h:UM P O G ops l { t:=H7 s.t o.dst undef,m:=s.m } Q):UM P O G ops (o::l) s Q:=by
 obtain ⟨s',⟨K2,h2⟩,q⟩:=h;refine ⟨s',⟨K2,fun N D hN hD=>?_⟩,q⟩;simp only [Lp,Mc,hw];grind
def Mem.at (m:Mem) (k:Nat):Mem:={ m with low:=k }
@[simp] theorem Mem.c5i (m:Mem) (k b:Nat):(m.at k).get b=m.get b:=rfl
@[simp] theorem Mem.c2e (m:Mem) (k:Nat):(m.at k).size=m.size:=rfl
@[simp] theorem Mem.a7d (m:Mem) (k:Nat):(m.at k).low=k:=rfl
@[simp] theorem Mem.at_at (m:Mem) (k j:Nat):(m.at k).at j=m.at j:=rfl
theorem I9.cons {ops:Array Oper} {i:Nat} {o:Oper} {l:List Oper} {s:St} {Q:St→Prop} (hw:Region.wanted o (Eh ops s.t)=true)
 (h:Gs P O G o { t:=s.t,m:=s.m.at s.m.size } fun v m'=>(barrier P ops i=true∨s.m.size≤m'.low∨(jh P ops i=true∧Qz ops i s.t=true)∨(Qs P ops i=true∧MC ops i s.t s.m m'=true))∧I9 P O G ops (i+1) l { t:=H7 s.t o.dst v,m:=m'.at (min s.m.low m'.low) } Q) :
 I9 P O G ops i (o::l) s Q:=by
 obtain ⟨v,m',⟨K,h⟩,hb,s',⟨K2,h2⟩,q⟩:=h;refine ⟨s',⟨max K K2,fun N D hN hD=>?_⟩,q⟩;have h1:=h N D (by omega) (by omega);simp only [Mem.at] at h1;have hb':(barrier P ops i||decide (s.m.size≤m'.low)||(jh P ops i&&Qz ops i s.t)||(Qs P ops i&&MC ops i s.t s.m m'))=true:=by
  grind
 simp only [Kt,P9,Mc,hw,if_true,xZ,h1,hb'];exact h2 N D (by omega) (by omega)
theorem I9.skip {ops:Array Oper} {i:Nat} {o:Oper} {l:List Oper} {s:St} {Q:St→Prop} (hw:Region.wanted o (Eh ops s.t)=false)
 (h:I9 P O G ops (i+1) l { t:=H7 s.t o.dst undef,m:=s.m.at (min s.m.low s.m.size) } Q):I9 P O G ops i (o::l) s Q:=by
 obtain ⟨s',⟨K2,h2⟩,q⟩:=h;refine ⟨s',⟨K2,fun N D hN hD=>?_⟩,q⟩;have hb':(barrier P ops i||decide (s.m.size≤s.m.size)||(jh P ops i&&Qz ops i s.t)||(Qs P ops i&&MC ops i s.t s.m { s.m with low:=s.m.size }))=true:=by simp
 simp only [Kt,P9,Mc,hw];simp only [Bool.false_eq_true,if_false,hb',if_true];exact h2 N D (by omega) (by omega)
theorem Gs.op {o:Oper} {s:St} {Q:Value→Mem→Prop} {v:Value} {m':Mem} (hc:∀ call,BO P call (ev s.t) o s.m=some (v,m')) (q:Q v m'):Gs P O G o s Q:=Ev.now (fun _ _=>hc _) q
theorem Gs.call {o:Oper} {s:St} {Q:Value→Mem→Prop} {f:FuncId} {BF:List Value} (hc:∀ call:EI,BO P call (ev s.t) o s.m=call f BF s.m) (h:Jh P O G f BF s.m Q):Gs P O G o s Q:=by
 obtain ⟨v,m',⟨K,h⟩,q⟩:=h;exact ⟨v,m',⟨K,fun N D hN hD=>(hc _).trans (h N D hN hD)⟩,q⟩
theorem Jh.enter {f:FuncId} {fn:Func} {c:Code} {BF:List Value} {m:Mem} {Q:Value→Mem→Prop} (ho:O f=none) (hf:P.funcs[f]?=some fn) (hb:fn.body=some c) (hok:IL G fn c=true) (hn:BF.length≤fn.ntmps)
 (h:Ns P O G c { t:=tmpsOf 0 BF .leaf,m:=m } fun e s=>match e with| .exit _=>False|_=>∃ v,Fa P fn s=some v∧Q v s.m):Jh P O G f BF m Q:=by
 obtain ⟨e,s,⟨K,h⟩,q⟩:=h;have:∃ v,Fa P fn s=some v∧Q v s.m∧(e=.normal∨e=.ret):=by
  cases e with
  |normal=>grind
  |ret=>grind
  |exit i=>grind
 obtain ⟨v,h1,h2,h3⟩:=this;refine ⟨v,s.m,⟨K+1,fun N D hN hD=>?_⟩,h2⟩;obtain ⟨D,rfl⟩:∃ j,D=j+1:=⟨D-1,by omega⟩
 have hx:=h N D (by omega) (by omega);rcases h3 with rfl|rfl<;>simp only [FD,ho,Option.bind_none,hf,hb,hok,decide_eq_true hn,Bool.and_self,if_true,hx,h1,Option.map_some]
theorem Jh.ZC {f:FuncId} {F:List Value→Mem→Option (Value×Mem)} {BF:List Value} {m m':Mem} {v:Value} {Q:Value→Mem→Prop} (ho:O f=some F) (h:F BF m=some (v,m')) (q:Q v m'):Jh P O G f BF m Q:=by
 refine ⟨v,m',⟨1,fun N D hN hD=>?_⟩,q⟩;obtain ⟨D,rfl⟩:∃ j,D=j+1:=⟨D-1,by omega⟩
 simp only [FD,ho,Option.bind_some,h]
structure Fr (m m':Mem):Prop where
 size:m.size≤m'.size
 get:∀ b,b<m.size→m'.get b=m.get b
 low:min m.low m.size≤m'.low
end
end Go.Am
