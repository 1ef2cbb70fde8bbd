/-
  The values' layer: range over a function whose values are known ahead. No condition. Nothing of one program stands here.
-/
import Derived.Test.YtemfebbakfhknaaDoorVmE
set_option linter.unusedSimpArgs false
set_option linter.unusedVariables false
namespace Go.Am
section
variable {P:Program} {O:Oracle} {G:List Nat}
def seqVal (key:Value) (rows:List (List Value)):Value:=.tuple #[key,.tuple (rows.map fun r=>Value.tuple r.toArray).toArray]
theorem seqList_val:∀ rows:List (List Value),seqList (rows.map fun r=>Value.tuple r.toArray)=some rows
 |[]=>rfl
 |r::rows=>by simp only [List.map_cons,seqList,seqRow,seqList_val rows]
theorem seqRows_val (key:Value) (rows:List (List Value)):seqRows (seqVal key rows)=some rows:=seqList_val rows
def ARounds (P:Program) (O:Oracle) (G:List Nat) (asg body:Code) (n:Nat) (ask:Mem→Prop) (t:Tr Value) (ps:List Tmp):List (List Value)→Mem→(AExit→Mem→Prop)→Prop
 |[],m,Q=>Q .normal m
 |vs::rest,m,Q=>vs.length=n∧vs.all plain=true∧AWp P O G asg { t:=putAll t ps vs,m:=lowTo m m.size } fun e s1=>e=.normal∧AWp P O G body s1 fun e s2=>match e with
  | .normal=>ask (lowTo s2.m (min m.low s2.m.low))∧ARounds P O G asg body n ask t ps rest (lowTo s2.m (min m.low s2.m.low)) Q
  |e=>Q e (lowTo s2.m (min m.low s2.m.low))
theorem ARounds.run {asg body:Code} {n:Nat} {ask:Mem→Prop} {askN:Nat→Nat→Mem→Prop} (hk:∀ N D m,1≤D→(askN N D m↔ask m)) {t:Tr Value} {ps:List Tmp}:∀ {rows:List (List Value)} {m:Mem} {Q:AExit→Mem→Prop},ARounds P O G asg body n ask t ps rows m Q →
 ∃ e m',(∃ K,∀ N D,K≤N→K≤D→rangeRows n (aexec P (acall P O G N D) N asg) (aexec P (acall P O G N D) N body) (askN N D) t ps rows m=some (e,m'))∧Q e m'
 |[],m,Q,h=>⟨.normal,m,⟨0,fun N D _ _=>rfl⟩,h⟩
 |vs::rest,m,Q,⟨h1,h2,e1,s1,hk1,he,e2,s2,hk2,q⟩=>by
  subst he
  obtain ⟨K1,k1⟩:=hk1
  obtain ⟨K2,k2⟩:=hk2
  have k1:∀ N D,K1≤N→K1≤D→aexec P (acall P O G N D) N asg { t:=putAll t ps vs,m:=lowTo m m.size }=some (.normal,s1):=k1
  have k2:∀ N D,K2≤N→K2≤D→aexec P (acall P O G N D) N body s1=some (e2,s2):=k2
  cases e2 with
  |normal =>
   obtain ⟨qa,qr⟩:=q
   obtain ⟨e,m',⟨K3,k3⟩,qe⟩:=ARounds.run hk qr
   refine ⟨e,m',⟨max (max K1 K2) (max K3 1),fun N D hN hD=>?_⟩,qe⟩
   have ha:=(hk N D (lowTo s2.m (min m.low s2.m.low)) (by omega)).2 qa
   simp only [rangeRows]
   rw [if_pos ⟨h1,h2⟩,k1 N D (by omega) (by omega)]
   simp only
   rw [k2 N D (by omega) (by omega)]
   simp only
   rw [if_pos ha]
   exact k3 N D (by omega) (by omega)
  |ret =>
   refine ⟨.ret,_,⟨max K1 K2,fun N D hN hD=>?_⟩,q⟩
   simp only [rangeRows]
   rw [if_pos ⟨h1,h2⟩,k1 N D (by omega) (by omega)]
   simp only
   rw [k2 N D (by omega) (by omega)]
  |exit id =>
   refine ⟨.exit id,_,⟨max K1 K2,fun N D hN hD=>?_⟩,q⟩
   simp only [rangeRows]
   rw [if_pos ⟨h1,h2⟩,k1 N D (by omega) (by omega)]
   simp only
   rw [k2 N D (by omega) (by omega)]
theorem AWp.rangeFunc {f:Operand} {ps:Array Tmp} {asg body:Code} {s:St} {g:FuncId} {lb:Array Value} {fn:Func} {Fo:List Value→Mem→Option (Value×Mem)} {key:Value} {rows:List (List Value)} {Q:AExit→St→Prop} (hev:ev s.t f=.func (.func g) #[] lb) (hfn:P.funcs[g]?=some fn)
 (hfl:(flat asg&&flat body)=true) (ho:O g=some Fo) (hc:∃ m1,Fo (seqAs fn.ntmps lb.toList) s.m=some (seqVal key rows,m1))
 (h:ARounds P O G asg body ps.size (fun m'=>∃ m1,Fo (seqAs fn.ntmps lb.toList) m'=some (seqVal key rows,m1)) s.t ps.toList rows s.m fun e m'=>Q e { t:=s.t,m:=m' }):AWp P O G (.rangeFunc f ps asg body) s Q:=by
 simp only [Bool.and_eq_true] at hfl
 have e1:∀ N D m',1≤D→acall P O G N D g (seqAs fn.ntmps lb.toList) m'=Fo (seqAs fn.ntmps lb.toList) m':=fun N D m' hD=>by
  obtain ⟨D,rfl⟩:∃ j,D=j+1:=⟨D-1,by omega⟩
  have hl:=seqAs_length fn.ntmps lb.toList
  cases h0:Fo (seqAs fn.ntmps lb.toList) m' with
  |some r=>simp only [acall,ho,Option.bind_some,h0]
  |none =>
   simp only [acall,ho,Option.bind_some,h0,hfn]
   split
   ·rfl
   ·rw [if_neg (by simp only [Bool.and_eq_true,decide_eq_true_eq];omega)]
 obtain ⟨e,m',⟨K,hK⟩,q⟩:=ARounds.run (askN:=fun N D m'=>∃ m1,acall P O G N D g (seqAs fn.ntmps lb.toList) m'=some (seqVal key rows,m1)) (fun N D m' hD=>by rw [e1 N D m' hD]) h
 obtain ⟨m1,hc⟩:=hc
 refine ⟨e,_,⟨max K 1,fun N D hN hD=>?_⟩,q⟩
 have hr:=hK N D (by omega) (by omega)
 simp only [aexec,hev,hfn]
 rw [if_pos ⟨rfl,hfl.1,hfl.2⟩,e1 N D s.m (by omega),hc]
 simp only [seqRows_val]
 rw [hr];rfl
end
end Go.Am
namespace Go.Vm
open Go.Am
section
variable {E:Env} {bn:Nat} {L:Vm.Frame} {H:Vm.Heap} {nx:Nat} {Q:AExit→Vm.Frame→Vm.Heap→Nat→Prop}
def lputs (L:Vm.Frame):List Tmp→List FV→Vm.Frame
 |p::ps,f::fs=>lputs (lput L (some p) (.p f)) ps fs
 |_,_=>L
theorem RL.putAll {m:Mem} {F:Nat→Prop} {T:Nat→Option Tg} {σ:Nat→Value} {nx:Nat}:∀ {ps:List Tmp} {fs:List FV} {vs:List Value} {L:Vm.Frame} {t:Tr Value},RL m F T σ nx L t→RFs m F fs vs→RL m F T σ nx (lputs L ps fs) (putAll t ps vs)
 |[],fs,vs,L,t,h,hr=>by cases hr<;>exact h
 |p::ps,_,_,L,t,h,.nil=>h
 |p::ps,_,_,L,t,h,.cons (v:=v) (vs:=vs) h1 h2=>RL.putAll (ps:=ps) (t:=tset t p v) (h.put (d:=some p) (.p h1)) h2
def VAsk (E:Env) (g:FuncId) (fn:Func) (cs:List PV) (H:Vm.Heap) (nx:Nat) (key:Value) (rows:List (List Value)):Prop :=
 ∀ Fo,E.O g=some Fo→∀ m F σ lb,Ctx E.Γ m F σ H nx→RPs m F (htag H) σ nx cs lb→∃ m1,Fo (seqAs fn.ntmps lb) m=some (seqVal key rows,m1)
def RQ (iv:Prop) (nx0:Nat) (L0:Vm.Frame) (H1:Vm.Heap) (Q:AExit→Vm.Frame→Vm.Heap→Nat→Prop):AExit→Vm.Frame→Vm.Heap→Nat→Prop
 | .normal,_,H',nx'=>iv∧nx0≤nx'∧HCov nx0 H1 H'
 |e,_,H',nx'=>nx0≤nx'∧∃ H2,HCov nx0 H2 H'∧Q e L0 H2 nx0
theorem VWp.rangeFunc {f:Operand} {ps:Array Tmp} {asg body:Code} {g:FuncId} {fn:Func} {cs:List PV} {key:Value} {rows:List (List Value)} (n:Nat) (rowF:Nat→List FV) (rowV:Nat→List Value) (L0:Vm.Frame) (Hk:Nat→Vm.Heap) (nx0:Nat) (inv:Nat→Prop)
 (hf:vev E.Γ L0 f=some (.clo g [] cs)) (hfn:E.P.funcs[g]?=some fn) (hfl:(flat asg&&flat body)=true) {Fo:List Value→Mem→Option (Value×Mem)} (ho:E.O g=some Fo) (hr:rows=(List.range n).map rowV) (hlen:∀ k,k<n→(rowV k).length=ps.size) (hpl:∀ k,k<n→(rowV k).all plain=true) (hrel:∀ k,k<n→∀ m F,RFs m F (rowF k) (rowV k))
 (hb:bn≤nx0) (hc:Cov L H nx L0 (Hk 0) nx0) (hL0:LCov nx0 L0 L0) (hask:∀ k,k≤n→VAsk E g fn cs (Hk k) nx0 key rows)
 (h0:inv 0) (hround:∀ k,k<n→inv k→VWp E nx0 asg (lputs L0 ps.toList (rowF k)) (Hk k) nx0 fun e L1 H1 nx1=>e=.normal∧VWp E nx0 body L1 H1 nx1 (RQ (inv (k+1)) nx0 L0 (Hk (k+1)) Q))
 (hdone:inv n→Q .normal L0 (Hk n) nx0):VWp E bn (.rangeFunc f ps asg body) L H nx Q:=by
 intro B hB m F σ t h1 h2 h3
 have clo:∀ {m F σ H},Ctx E.Γ m F σ H nx0→RL m F (htag H) σ nx0 L0 t→∃ lb:Array Value,ev t f=.func (.func g) #[] lb∧RPs m F (htag H) σ nx0 cs lb.toList:=fun c l=>by
  have hv:=vev_rel c l hf
  generalize ev t f=u at hv
  cases hv with
  |clo r1 r2=>cases r1;exact ⟨_,rfl,by simpa using r2⟩
 obtain ⟨lb,hev,hcs⟩:=clo (hc.ctx h1) (hc.rl h2)
 have key:∀ j k,k+j=n→inv k→∀ m F σ,Ctx E.Γ m F σ (Hk k) nx0→RL m F (htag (Hk k)) σ nx0 L0 t→B.to m F σ (Hk k) nx0 →
  ARounds E.P E.O E.G asg body ps.size (fun m'=>∃ m1,Fo (seqAs fn.ntmps lb.toList) m'=some (seqVal key rows,m1)) t ps.toList (rows.drop k) m fun e m'=>∃ L' H' nx' F' σ',Q e L' H' nx'∧Ctx E.Γ m' F' σ' H' nx'∧RL m' F' (htag H') σ' nx' L' t∧B.to m' F' σ' H' nx':=by
  intro j
  induction j with
  |zero =>
   intro k hk hik m F σ c l b
   obtain rfl:k=n:=by omega
   rw [hr,List.drop_of_length_le (by simp)]
   exact ⟨L0,_,nx0,F,σ,hdone hik,c,l,b⟩
  |succ j ih =>
   intro k hk hik m F σ c l b
   have e0:rows.drop k=rowV k::rows.drop (k+1):=by
    rw [hr,List.drop_eq_getElem_cons (by simp;omega)]
    simp
   rw [e0]
   refine ⟨hlen k (by omega),hpl k (by omega),?_⟩
   refine (hround k (by omega) hik ⟨m.at m.size,F,σ,Hk k,nx0⟩ rfl _ F σ _ (c.at _) (RL.putAll (RL.at (Γ:=E.Γ) _ l) (hrel k (by omega) _ _)) (Step.refl _ _ _ _ _)).mono ?_
   rintro e1 s1 ⟨L1,H1,nx1,F1,σ1,⟨he,hbody⟩,d1,d2,d3⟩
   refine ⟨he,(hbody ⟨m.at m.size,F,σ,Hk k,nx0⟩ rfl s1.m F1 σ1 s1.t d1 d2 d3).mono ?_⟩
   rintro e2 s2 ⟨L2,H2,nx2,F2,σ2,q,g1,g2,g3⟩
   have st:Step m F σ (Hk k) nx0 (s2.m.at (min m.low s2.m.low)) F2 σ2 H2 nx2:=Step.at g3
   have g1':=g1.at (min m.low s2.m.low)
   have l':=RL.step st c l
   have b':=Step.trans b st
   cases e2 with
   |normal =>
    have cov:Cov L0 H2 nx2 L0 (Hk (k+1)) nx0:=⟨q.2.1,hL0,q.2.2⟩
    have c2:=cov.ctx g1'
    have l2:=cov.rl l'
    obtain ⟨lb2,hev2,hcs2⟩:=clo c2 l2
    rw [hev] at hev2
    cases hev2
    exact ⟨hask (k+1) (by omega) Fo ho _ _ _ _ c2 hcs2,ih (k+1) (by omega) q.1 _ _ _ c2 l2 (cov.step (by omega) b')⟩
   |ret =>
    obtain ⟨q1,H3,q2,q3⟩:=q
    have cov:Cov L0 H2 nx2 L0 H3 nx0:=⟨q1,hL0,q2⟩
    exact ⟨L0,H3,nx0,F2,σ2,q3,cov.ctx g1',cov.rl l',cov.step (by omega) b'⟩
   |exit id =>
    obtain ⟨q1,H3,q2,q3⟩:=q
    have cov:Cov L0 H2 nx2 L0 H3 nx0:=⟨q1,hL0,q2⟩
    exact ⟨L0,H3,nx0,F2,σ2,q3,cov.ctx g1',cov.rl l',cov.step (by omega) b'⟩
 refine AWp.rangeFunc (fn:=fn) (Fo:=Fo) (rows:=rows) hev hfn hfl ho (hask 0 (Nat.zero_le _) Fo ho _ _ _ _ (hc.ctx h1) hcs) ?_
 have:=key n 0 (by omega) h0 m F σ (hc.ctx h1) (hc.rl h2) (hc.step (by omega) h3)
 rw [List.drop_zero] at this
 exact this
end
end Go.Vm
