/-
  Texts of a proof, merged (VmE, Vm30, Orq, Nsq, EnvO, IntA, IntB, FraA, RkB, RkC, OrA, OrB, RkA, RkD, RkE, RkF, RkG, RkH, RkI, OrF, RkJ, RkK, RkL, OrG, OrH, OrI, OrC, OrD, OrE, VmG, OrN, TraE, PieA, PieP, Vm31, Vm36, Vm32, Vm33, Vm34, Vm37, Vm38, Vm40, Vm41). Conditions: in each statement.
-/
import Derived.Lib.SlicesCompact
import Derived.Test.YtnjkoebfgcbbdaaGreatDoorKMc
set_option linter.unusedSimpArgs false
set_option linter.unusedVariables false
set_option linter.unusedSectionVars false
set_option maxRecDepth 100000
set_option maxHeartbeats 8000000
namespace Go.Vm
section
open Go.Am
section
variable {P:Program}
def a0n (d:TypeDesc) (x y:Value):Option Bool :=
 match d,x,y with
 | .int _,.int k a,.int k' b=>if k=k' then some (decide (a=b)) else none
 | .bool,.bool a,.bool b=>some (a==b)
 | .string,.string a,.string b=>some (decide (a.data.toList=b.data.toList))
 |_,_,_=>none
def aO (P:Program):List Field→Array Value→Array Value→Option Bool
 |[],_,_=>some true
 |f::fs,xs,ys=>if f.name="_" then none else
  match GI P f.type,P.underlying f.type,xs[f.offset]?,ys[f.offset]?,aO P fs xs ys with
  |some false,some d,some x,some y,some r=>(a0n d x y).map (·&&r)
  |_,_,_,_,_=>none
theorem LC (a b:ByteArray):(a==b)=decide (a.data.toList=b.data.toList):=by
 rw [beq_toListBytes,ByteArray.toList_eq,ByteArray.toList_eq]
 by_cases h:a.data.toList=b.data.toList
 ·simp [h]
 ·rw [decide_eq_false h]
  simpa using fun h2:a.data=b.data=>h (by rw [h2])
theorem PK {d:Nat} {t:TypeId} {td:TypeDesc} {x y:Value} {r:Bool} (ht:P.underlying t=some td) (h:a0n td x y=some r):DJ P (Op.equalIn (d+1) t x y)=some r:=by
 unfold a0n at h
 split at h
 ·split at h
  ·rename_i hk
   subst hk
   cases h
   rename_i a b
   simp only [Op.equalIn,Ar,Bg,ht,Option.bind_some,if_true]
   rw [show (decide (a=b))=(a==b) from Bool.eq_iff_iff.2 (by simp)]
   rfl
  ·cases h
 ·cases h
  simp only [Op.equalIn,Ar,Bg,ht,Option.bind_some]
  rfl
 ·cases h
  simp only [Op.equalIn,Ar,Bg,ht,Option.bind_some,LC]
  rfl
 ·cases h
theorem ER {t:TypeId} {cs:Array Value} {o:Nat} {v:Value} (ha:GI P t=some false) (hv:cs[o]?=some v):DJ P (part t cs o)=some v:=by
 simp only [part,Ar,P7,ha,Option.bind_some,Bool.false_eq_true,if_false,hv]
 rfl
theorem ZO {d:Nat} (xs ys:Array Value) {g:Option Bool×Unit→Sem Bool} (g0:g (none,())=pure true) (g1:∀ b,g (some b,())=pure b):∀ (fs:List Field) (r:Bool),aO P fs xs ys=some r →
 DJ P ((forIn fs ((none,()):Option Bool×Unit) fun f _=>(do
     if f.name≠"_" then
      if (!(← Op.equalIn (d+1) f.type (← part f.type xs f.offset) (← part f.type ys f.offset)))=true then pure (ForInStep.done (some false,())) else pure (ForInStep.yield (none,()))
     else pure (ForInStep.yield (none,())):Sem (ForInStep (Option Bool×Unit)))) >>= g)=some r
 |[],r,h=>by
  cases h
  simp only [List.forIn_nil,Ar,BR,Option.bind_some,g0]
 |f::fs,r,h=>by
  unfold aO at h
  split at h
  ·cases h
  rename_i hn
  split at h
  ·rename_i td x y r' h1 h2 h3 h4 h5
   simp only [Option.map_eq_some_iff] at h
   obtain ⟨b,h6,rfl⟩:=h
   have ih:=ZO (d:=d) xs ys g0 g1 fs r' h5
   rw [List.forIn_cons]
   simp only [Ar,ne_eq,hn,not_false_eq_true,if_true,ER h1 h3,ER h1 h4,Option.bind_some,PK h2 h6]
   cases b with
   |false=>simp [BR,g1]
   |true =>
    simp only [Bool.not_true,Bool.false_eq_true,if_false,BR,Option.bind_some,Bool.true_and]
    rw [Ar] at ih
    exact ih
  ·cases h
theorem MI {d:Nat} {t:TypeId} {fs:Array Field} {xs ys:Array Value} {r:Bool} (ht:P.underlying t=some (.struct fs)) (hp:P.stoodInHeld t=false) (h:aO P fs.toList xs ys=some r) :
 DJ P (Op.equalIn (d+2) t (.agg xs) (.agg ys))=some r:=by
 rw [Op.equalIn]
 simp only [Ar,Bg,ht,Option.bind_some,program,DJ,hp,Bool.false_eq_true,if_false]
 rw [← Array.forIn_toList,← Ar]
 exact ZO (d:=d) xs ys rfl (fun b=>rfl) fs.toList r h
def Zz:FV→Option Value
 | .int k n=>some (.int k n)
 | .bool b=>some (.bool b)
 | .str s=>some (.string s)
 |_=>none
def E8:List FV→Option (List Value)
 |[]=>some []
 |x::l=>match Zz x,E8 l with
  |some v,some r=>some (v::r)
  |_,_=>none
theorem wY {m:Mem} {F:Nat→Prop} {x:FV} {u v:Value} (h:RF m F x u) (hv:Zz x=some v):u=v∧Am.plainCell v=true:=by
 cases h<;>simp only [Zz,Option.some.injEq,reduceCtorEq] at hv
 all_goals (subst hv;exact ⟨rfl,rfl⟩)
theorem Nk {m:Mem} {F:Nat→Prop}:∀ {l:List FV} {us vs:List Value},Dv m F l us→E8 l=some vs→us=vs∧vs.all Am.plainCell=true
 |[],_,_,.nil,h=>by cases h;exact ⟨rfl,rfl⟩
 |x::l,_,_,.cons h t,hv=>by
  simp only [E8] at hv
  split at hv
  ·rename_i v r h1 h2
   cases hv
   obtain ⟨rfl,p1⟩:=wY h h1
   obtain ⟨rfl,p2⟩:=Nk t h2
   exact ⟨rfl,by simp [p1,p2]⟩
  ·cases hv
def bI (P:Program) (t:TypeId) (xs ys:List FV):Option Bool :=
 match P.underlying t,E8 xs,E8 ys with
 |some (.struct fs),some vs,some ws=>aO P fs.toList vs.toArray ws.toArray
 |_,_,_=>none
def Yx (P:Program) (t:TypeId):Bool:=!(P.stoodInHeld t)&&!(P.eqGuardType P.depth t)
theorem zD {t:TypeId} {xs ys:List FV} {vs ws:List Value} {r:Bool} {op:BinOp} {x y:Operand} (hf:Yx P t=true) (h:bI P t xs ys=some r) (hv:E8 xs=some vs) (hw:E8 ys=some ws) (hop:op=.eql∨op=.neq) :
 DJ P (do eqGuard op t x y (.agg vs.toArray) (.agg ws.toArray);binOp op t (.agg vs.toArray) (.agg ws.toArray))=some (.bool (if op=.eql then r else !r)):=by
 simp only [Yx,Bool.and_eq_true,Bool.not_eq_true'] at hf
 unfold bI at h
 rw [hv,hw] at h
 split at h
 ·rename_i fs vs' ws' h1 h2 h3
  cases h2;cases h3
  have h4:DJ P (Op.equal t (.agg vs.toArray) (.agg ws.toArray))=some r:=MI (d:=9998) h1 hf.1 h
  have h5:DJ P (eqGuard op t x y (.agg vs.toArray) (.agg ws.toArray))=some ():=by
   rcases hop with rfl|rfl<;>simp [eqGuard,Ar,program,DJ,hf.2,BR]
  rcases hop with rfl|rfl
  ·rw [Ar,h5,Option.bind_some]
   show DJ P (do pure (.bool (← Op.equal t (.agg vs.toArray) (.agg ws.toArray))):Sem Value)=_
   simp only [Ar,h4,Option.bind_some,BR]
   rfl
  ·rw [Ar,h5,Option.bind_some]
   show DJ P (do pure (.bool (!(← Op.equal t (.agg vs.toArray) (.agg ws.toArray)))):Sem Value)=_
   simp only [Ar,h4,Option.bind_some,BR]
   rfl
 ·cases h
end
section
variable {E:Env} {L:Frame} {H:Heap} {nx:Nat} {Q:PV→Heap→Nat→Prop} {w:Bool}
variable {dst:Option Tmp} {ty:TypeId} {pos:String} {af:Array Edge} {gd:Option (Nat×Bool)}
theorem Aa.bI {op:BinOp} {t t2:TypeId} {x y:Operand} {xs ys:List FV} {r:Bool} (hx:Bh E.Γ L x=some (.p (.agg xs))) (hy:Bh E.Γ L y=some (.p (.agg ys))) (hop:op=.eql∨op=.neq) (hf:Yx E.P t=true) (h:Vm.bI E.P t xs ys=some r)
 (q:Q (.p (.bool (if op=.eql then r else !r))) H nx):Aa E w ⟨dst,.binOp op t x y t2,ty,pos,af,gd⟩ L H nx Q :=
 Aa.quiet q fun m F σ tt c1 c2=>by
  obtain ⟨vs,hv⟩:∃ vs,E8 xs=some vs:=by
   cases hv:E8 xs with
   |some vs=>exact ⟨vs,rfl⟩
   |none=>unfold Vm.bI at h;rw [hv] at h;split at h<;>simp_all
  obtain ⟨ws,hw⟩:∃ vs,E8 ys=some vs:=by
   cases hw:E8 ys with
   |some vs=>exact ⟨vs,rfl⟩
   |none=>unfold Vm.bI at h;rw [hw] at h;split at h<;>simp_all
  have e1:ev tt x=.agg vs.toArray∧vs.all Am.plainCell=true:=by
   have:=BK c1 c2 hx
   generalize ev tt x=u at this
   cases this with
   |p h1=>cases h1 with
    |agg h1 hc=>obtain ⟨rfl,hp⟩:=Nk h1 hv;exact ⟨rfl,hp⟩
  have e2:ev tt y=.agg ws.toArray∧ws.all Am.plainCell=true:=by
   have:=BK c1 c2 hy
   generalize ev tt y=u at this
   cases this with
   |p h1=>cases h1 with
    |agg h1 hc=>obtain ⟨rfl,hp⟩:=Nk h1 hw;exact ⟨rfl,hp⟩
  have hd:=zD (x:=x) (y:=y) hf h hv hw hop
  refine ⟨_,fun _=>?_,.p (.bool _)⟩
  simp only [Ce,EX,e1.1,e2.1]
  have hpl:(plain (.agg vs.toArray)&&plain (.agg ws.toArray))=true:=by
   simp only [plain,FC,Bool.and_eq_true]
   exact ⟨e1.2,e2.2⟩
  have:NY E.P op t x y (.agg vs.toArray) (.agg ws.toArray)=some (.bool (if op=.eql then r else !r)):=by
   simp only [NY,hpl,if_true]
   exact KJ hd rfl
  rw [this,Option.map_some]
theorem Aa.a5z {t t2:TypeId} {x y:Operand} {xs ys:List FV} {r:Bool} (hx:Bh E.Γ L x=some (.p (.agg xs))) (hy:Bh E.Γ L y=some (.p (.agg ys))) (hf:Yx E.P t=true) (h:Vm.bI E.P t xs ys=some r)
 (q:Q (.p (.bool r)) H nx):Aa E w ⟨dst,.binOp .eql t x y t2,ty,pos,af,gd⟩ L H nx Q:=Aa.bI hx hy (.inl rfl) hf h q
theorem Aa.uz {t e e':TypeId} {x ix:Operand} {n b off:Nat} {cs:List PV} {k:IntKind} {i:Int} {inf:TypeInfo} (hx:Bh E.Γ L x=some (.ref b off)) (hb:hget H b=some (.box e' cs)) (hi:Bh E.Γ L ix=some (.p (.int k i)))
 (ht:E.P.underlying t=some (.array n e)) (hs:E.P.info? e=some inf) (h:0≤i∧i<n) (q:Q (.ref b (off+i.toNat*inf.size)) H nx):Aa E w ⟨dst,.indexAddr t x ix,ty,pos,af,gd⟩ L H nx Q :=
 Aa.quiet q fun m F σ tt h1 h2=>by
  obtain ⟨c,h3,h4⟩:=WG h1 h2 hx hb
  refine ⟨.pointer (some ⟨c,off+i.toNat*inf.size,none⟩),fun _=>?_,.ref (h1.hp b _ hb).1 rfl fun _=>⟨c,h4,rfl⟩⟩
  simp only [Ce,EX,ht,h3,Dc h1 h2 hi,hs,h,and_self,if_true]
theorem Aa.b2n {t t2:TypeId} {x y:Operand} {a b:List UInt8} {r:Bool} (hx:Bh E.Γ L x=some (st a)) (hy:Bh E.Γ L y=some (st b)) (hr:decide (a=b)=r) (q:Q (.p (.bool r)) H nx) :
 Aa E w ⟨dst,.binOp .eql t x y t2,ty,pos,af,gd⟩ L H nx Q:=Aa.eqS hx hy (by rw [hr];exact q)
end
end
section
open Go.Am
def a7z (H:Heap):PV→Option Nat
 | .ref b _=>match hget H b with
  |some (.box _ _)=>some b
  |_=>none
 | .vec b n _ _=>match hget H b with
  |some (.vec _ _ k _)=>match Nat.decEq n k with
   | .isTrue _=>some b
   | .isFalse _=>none
  |_=>none
 | .Fq b n _=>match hget H b with
  |some (.vec _ _ k _)=>match Nat.decEq n k with
   | .isTrue _=>some b
   | .isFalse _=>none
  |_=>none
 |_=>none
def a1t:PV→Bool
 | .p (.EL _)=>true
 | .p (.lst _ _ _)=>true
 | .p (.val (.slice none _ _))=>true
 |_=>false
inductive Xw (H:Heap):PV→Nat→Prop
 |ref {b off:Nat} {e:TypeId} {cs:List PV} (h:hget H b=some (.box e cs)):Xw H (.ref b off) b
 |vec {b n off len:Nat} {e:TypeId} {cs:List FV} {z:Bool} (h:hget H b=some (.vec e cs n z)):Xw H (.vec b n off len) b
 |Fq {b n off:Nat} {e:TypeId} {cs:List FV} {z:Bool} (h:hget H b=some (.vec e cs n z)):Xw H (.Fq b n off) b
def a3o (H:Heap) (b:Nat) (y:PV):Bool:=match a7z H y with
 |some c=>match Nat.decEq b c with
  | .isTrue _=>false
  | .isFalse _=>true
 |none=>a1t y
section
variable {Γ:Nat→Option (List Value×TypeId)} {m:Mem} {F:Nat→Prop} {σ:Nat→Value} {H:Heap} {nx:Nat} {L:Frame} {t:Tr Value}
theorem Xw.blk (hx:Ctx Γ m F σ H nx) (hl:RL m F (htag H) σ nx L t) {o:Operand} {x:PV} {b:Nat} (h:Bh Γ L o=some x) (ho:Xw H x b):∃ y,hget H b=some y∧∀ c,GR (ev t o)=some c→Dl (σ b)=some c:=by
 cases ho with
 |ref hb =>
  obtain ⟨c,h1,h2⟩:=WG hx hl h hb
  refine ⟨_,hb,fun d hd=>?_⟩
  rw [h1] at hd
  rw [h2]
  exact hd
 |vec hb =>
  have hsub:=JK hx hl h hb
  refine ⟨_,hb,fun d hd=>?_⟩
  unfold EW at hsub
  split at hsub
  ·rename_i c k' g hs
   rw [hsub] at hd
   rw [hs]
   exact hd
  ·rename_i hne
   obtain ⟨h1,_,_⟩:=hsub
   rcases (hx.hp b _ hb).2 with ⟨_,_,r3⟩|⟨c,g,vs,r1,_⟩
   ·rcases r3 with ⟨r3,_⟩|⟨b2,o2,g2,r3,_⟩
    ·rw [h1,r3] at hd;cases hd
    ·rw [h1,r3] at hd;cases hd
   ·exact absurd r1 (hne _ _ _)
 |Fq hb =>
  obtain ⟨c,k',g,h1,h2⟩:=jX hx hl h hb
  refine ⟨_,hb,fun d hd=>?_⟩
  rw [h1] at hd
  rw [h2]
  exact hd
theorem zK {x:PV} {b:Nat} (ho:a7z H x=some b):Xw H x b:=by
 unfold a7z at ho
 split at ho
 ·split at ho
  ·rename_i hb;cases ho;exact .ref hb
  ·cases ho
 ·split at ho
  ·rename_i hb
   split at ho
   ·rename_i hn _;cases ho;subst hn;exact .vec hb
   ·cases ho
  ·cases ho
 ·split at ho
  ·rename_i hb
   split at ho
   ·rename_i hn _;cases ho;subst hn;exact .Fq hb
   ·cases ho
  ·cases ho
 ·cases ho
theorem iJ (hx:Ctx Γ m F σ H nx) (hl:RL m F (htag H) σ nx L t) {o:Operand} {x:PV} (h:Bh Γ L o=some x) (ho:a1t x=true):∀ c,GR (ev t o)=some c→F c:=by
 have hr:=BK hx hl h
 generalize ev t o=v at *
 intro c hc
 unfold a1t at ho
 split at ho
 ·cases hr with
  |p hr=>cases hr with|EL hF=>simp only [GR,Option.some.injEq] at hc;subst hc;exact hF
 ·cases hr with
  |p hr =>
   cases hr with
   |nil=>cases hc
   |room=>cases hc
   |lst hF=>simp only [GR,Option.some.injEq] at hc;subst hc;exact hF
 ·cases hr with
  |p hr=>cases hr with|val=>cases hc
 ·cases ho
theorem a2y (hx:Ctx Γ m F σ H nx) (hl:RL m F (htag H) σ nx L t) {o r:Operand} {x y:PV} {b:Nat} (h:Bh Γ L o=some x) (hb:Xw H x b) (h2:Bh Γ L r=some y) (hs:a3o H b y=true):rW (GR (ev t r)) (GR (ev t o))=true:=by
 obtain ⟨u,hu,hub⟩:=hb.blk hx hl h
 cases hd:GR (ev t o) with
 |none=>cases GR (ev t r)<;>rfl
 |some d =>
  have hbd:=hub d hd
  cases he:GR (ev t r) with
  |none=>rfl
  |some e =>
   simp only [rW,bne_iff_ne,ne_eq]
   intro hde
   subst hde
   unfold a3o at hs
   split at hs
   ·rename_i c hc
    obtain ⟨u',hu',hub'⟩:=(zK hc).blk hx hl h2
    have hce:=hub' e he
    have:=hx.sep b c u u' e hu hu' hbd hce
    subst this
    split at hs
    ·cases hs
    ·rename_i hne _;exact hne rfl
   ·exact (hx.KD ⟨b,u,hu,hbd⟩).1 (iJ hx hl h2 hs e he)
end
def b0a:Operand→Operand→Bool
 | .tmp a,.tmp b=>a==b
 | .global a,.global b=>a==b
 |_,_=>false
def gX:List (Option Operand)→List Operand→Bool
 |[],[]=>true
 |some a::l,b::r=>b0a a b&&gX l r
 |_,_=>false
theorem a3a {a b:Operand} (h:b0a a b=true):a=b:=by
 cases a<;>cases b<;>simp only [b0a,beq_iff_eq,Bool.false_eq_true] at h<;>rw [h]
theorem Yt:∀ {l:List (Option Operand)} {r:List Operand},gX l r=true→l=r.map some
 |[],[],_=>rfl
 |some a::l,b::r,h=>by
  simp only [gX,Bool.and_eq_true] at h
  rw [List.map_cons,a3a h.1,Yt h.2]
def sU (Γ:Nat→Option (List Value×TypeId)) (L:Frame) (H:Heap) (x:Nat):List Operand→Bool
 |[]=>true
 |r::l=>(match Bh Γ L r with
  |some y=>a3o H x y
  |none=>false)&&sU Γ L H x l
def uj (Γ:Nat→Option (List Value×TypeId)) (L:Frame):List Operand→Bool
 |[]=>true
 |r::l=>(match Bh Γ L r with
  |some y=>a1t y
  |none=>false)&&uj Γ L l
section
variable {E:Env} {L:Frame} {H:Heap} {nx:Nat}
variable {dst:Option Tmp} {ty:TypeId} {pos:String} {af:Array Edge} {gd:Option (Nat×Bool)}
variable {bn:Nat} {ops:Array Oper} {op:Op} {l:List Oper} {i:Nat} {R:Frame→Heap→Nat→Prop}
theorem Af.atIdx (n:Nat) (h:Af E bn ops n l L H nx R):Af E bn ops n l L H nx R:=h
theorem Af.weak {wo:Operand} {x:PV} {b:Nat} (rs:List Operand) (hw:dM E.P ops i=true) (hi:(ops[i]?).bind (fun o=>qC o.op)=some wo) (hx:Bh E.Γ L wo=some x) (hb:Xw H x b) (hr:gX (Hq ops i) rs=true) (hs:sU E.Γ L H b rs=true)
 (h:Aa E true ⟨dst,op,ty,pos,af,none⟩ L H nx fun r H' nx'=>Af E bn ops (i+1) l (Gy L dst r) H' nx' R):Af E bn ops i (⟨dst,op,ty,pos,af,none⟩::l) L H nx R:=by
 intro B hB m F σ t h1 h2 h3
 have hfree:OV ops i t=true:=by
  unfold OV
  rw [hi]
  simp only
  rw [Yt hr,List.all_eq_true]
  intro r hmem
  rw [List.mem_map] at hmem
  obtain ⟨r0,hr0,rfl⟩:=hmem
  simp only
  have key:∀ rs:List Operand,sU E.Γ L H b rs=true→r0∈rs→∃ y,Bh E.Γ L r0=some y∧a3o H b y=true:=by
   intro rs
   induction rs with
   |nil=>intro _ h;cases h
   |cons a rs ih =>
    intro h hm
    simp only [sU,Bool.and_eq_true] at h
    rcases List.mem_cons.1 hm with rfl|hm
    ·cases hv:Bh E.Γ L r0 with
     |none=>rw [hv] at h;cases h.1
     |some y=>rw [hv] at h;exact ⟨y,rfl,h.1⟩
    ·exact ih h.2 hm
  obtain ⟨y,hy,hys⟩:=key rs hs hr0
  exact a2y h1 h2 hx hb hy hys
 refine Ig.cons (Iw.wanted (L:=L) h1 h2 rfl) ((h (m.at m.size) F σ t (h1.at _) (RL.at (Γ:=E.Γ) _ h2)).mono ?_)
 rintro v m' ⟨r,H',nx',F',σ',q,c1,c2,c3,c4⟩
 refine ⟨.inr (.inr (.inl ⟨hw,hfree⟩)),?_⟩
 exact q B hB _ F' σ' _ (c1.at _) (RL.at (Γ:=E.Γ) _ (((RL.at (Γ:=E.Γ) _ h2).step c3 (h1.at _)).put c2)) (h3.trans c3.at)
theorem Af.b3r (rs:List Operand) (hw:OD E.P ops i=true) (hr:gX (Hq ops i) rs=true) (hs:uj E.Γ L rs=true)
 (h:Aa E true ⟨dst,op,ty,pos,af,none⟩ L H nx fun r H' nx'=>Af E bn ops (i+1) l (Gy L dst r) H' nx' R):Af E bn ops i (⟨dst,op,ty,pos,af,none⟩::l) L H nx R:=by
 intro B hB m F σ t h1 h2 h3
 refine Ig.cons (Iw.wanted (L:=L) h1 h2 rfl) ((h (m.at m.size) F σ t (h1.at _) (RL.at (Γ:=E.Γ) _ h2)).mono ?_)
 rintro v m' ⟨r,H',nx',F',σ',q,c1,c2,c3,c4⟩
 have hleave:KN ops i t m m'=true:=by
  unfold KN
  rw [Yt hr,List.all_eq_true]
  intro r hmem
  rw [List.mem_map] at hmem
  obtain ⟨r0,hr0,rfl⟩:=hmem
  simp only
  have key:∀ rs:List Operand,uj E.Γ L rs=true→r0∈rs→∃ y,Bh E.Γ L r0=some y∧a1t y=true:=by
   intro rs
   induction rs with
   |nil=>intro _ h;cases h
   |cons a rs ih =>
    intro h hm
    simp only [uj,Bool.and_eq_true] at h
    rcases List.mem_cons.1 hm with rfl|hm
    ·cases hv:Bh E.Γ L r0 with
     |none=>rw [hv] at h;cases h.1
     |some y=>rw [hv] at h;exact ⟨y,rfl,h.1⟩
    ·exact ih h.2 hm
  obtain ⟨y,hy,hys⟩:=key rs hs hr0
  split
  ·rename_i b hb
   have hF:=iJ h1 h2 hy hys b hb
   exact @decide_eq_true _ (Classical.propDecidable _) (c3.keep b (h1.fr b hF) fun ho=>(h1.KD ho).1 hF)
  ·rfl
 refine ⟨.inr (.inr (.inr ⟨hw,hleave⟩)),?_⟩
 exact q B hB _ F' σ' _ (c1.at _) (RL.at (Γ:=E.Γ) _ (((RL.at (Γ:=E.Γ) _ h2).step c3 (h1.at _)).put c2)) (h3.trans c3.at)
end
end
section
open Go.Am
section
variable {E:Env} {bn:Nat} {b:Code} {L:Frame} {H:Heap} {nx:Nat} {Q:BZ→Frame→Heap→Nat→Prop}
def Qr (E:Env) (bn:Nat) (b:Code) (Q:BZ→Frame→Heap→Nat→Prop):Nat→Frame→Heap→Nat→Prop
 |0,L,H,nx=>Ac E bn b L H nx (Ah (fun _ _ _=>False) Q)
 |n+1,L,H,nx=>Ac E bn b L H nx (Ah (Qr E bn b Q n) Q)
theorem Ac.a7f (n:Nat) (h:Qr E bn b Q n L H nx):Ac E bn (.loop b) L H nx Q:=by
 intro B hB m F σ t h1 h2 h3
 refine LM.loop (fun k s=>∃ L H nx F σ,Qr E bn b Q k L H nx∧Ctx E.Γ s.m F σ H nx∧RL s.m F (htag H) σ nx L s.t∧B.to s.m F σ H nx) n ⟨L,H,nx,F,σ,h,h1,h2,h3⟩ ?_
 rintro k s ⟨L1,H1,nx1,F1,σ1,u,c1,c2,c3⟩
 cases k with
 |zero =>
  refine (u B hB s.m F1 σ1 s.t c1 c2 c3).mono ?_
  rintro e s' ⟨L',H',nx',F',σ',q,d1,d2,d3⟩
  cases e with
  |normal=>exact q.elim
  |ret=>exact ⟨L',H',nx',F',σ',q,d1,d2,d3⟩
  |exit i=>exact ⟨L',H',nx',F',σ',q,d1,d2,d3⟩
 |succ k =>
  refine (u B hB s.m F1 σ1 s.t c1 c2 c3).mono ?_
  rintro e s' ⟨L',H',nx',F',σ',q,d1,d2,d3⟩
  cases e with
  |normal=>exact ⟨k,Nat.lt_succ_self _,L',H',nx',F',σ',q,d1,d2,d3⟩
  |ret=>exact ⟨L',H',nx',F',σ',q,d1,d2,d3⟩
  |exit i=>exact ⟨L',H',nx',F',σ',q,d1,d2,d3⟩
theorem Qr.zero (h:Ac E bn b L H nx (Ah (fun _ _ _=>False) Q)):Qr E bn b Q 0 L H nx:=h
theorem Qr.succ {n:Nat} (h:Ac E bn b L H nx (Ah (Qr E bn b Q n) Q)):Qr E bn b Q (n+1) L H nx:=h
theorem Ah.again {I:Frame→Heap→Nat→Prop} (h:I L H nx):Ah I Q .normal L H nx:=h
end
end
section
open Go.Am
def Lu (names:List (List UInt8)):List (FV×FV):=names.map fun s=>(.str (bs s),.bool true)
theorem b0g (a b:List UInt8):(bs a==bs b)=decide (a=b):=by rw [LC];simp only [fP]
theorem XA {m:Mem} {F:Nat→Prop}:∀ {names:List (List UInt8)} {l:List MapEntry},eP m F (Lu names) l→l.map (·.key)=names.map (fun s=>Value.string (bs s))∧l.map (·.val)=names.map (fun _=>Value.bool true)
 |[],[],_=>⟨rfl,rfl⟩
 |[],e::l,h=>by cases h.1
 |s::names,[],h=>by cases h.1
 |s::names,e::l,h=>by
  obtain ⟨h1,h2⟩:=h
  simp only [Lu,List.map_cons] at h1 h2
  cases h1 with
  |cons k1 t1 =>
   cases h2 with
   |cons k2 t2 =>
    obtain ⟨e1,e2⟩:=XA (names:=names) (l:=l) ⟨t1,t2⟩
    rw [List.map_cons,List.map_cons,List.map_cons,List.map_cons,e1,e2]
    constructor
    ·congr 1
     generalize e.key=k at k1
     cases k1;rfl
    ·congr 1
     generalize e.val=k at k2
     cases k2;rfl
theorem YD:∀ {names:List (List UInt8)} {l:List MapEntry},l.map (·.key)=names.map (fun s=>Value.string (bs s))→l.map (·.val)=names.map (fun _=>Value.bool true)→∀ (s:List UInt8) (i:Nat),
 (s∈names→∃ j,Instr.findNow .string (.string (bs s)) l i=some (some (j,.bool true)))∧(s∉names→Instr.findNow .string (.string (bs s)) l i=some none)
 |[],[],_,_,s,i=>⟨fun h=>(by cases h),fun _=>rfl⟩
 |[],e::l,h,_,_,_=>by cases h
 |n::names,[],h,_,_,_=>by cases h
 |n::names,e::l,h1,h2,s,i=>by
  simp only [List.map_cons,List.cons.injEq] at h1 h2
  obtain ⟨i1,i2⟩:=YD h1.2 h2.2 s (i+1)
  have hs:Instr.sameNow .string (.string (bs s)) (.string (bs n))=some (bs s==bs n):=rfl
  rw [b0g] at hs
  unfold Instr.findNow
  rw [h1.1,hs]
  by_cases hn:s=n
  ·rw [decide_eq_true hn]
   simp only [h2.1]
   exact ⟨fun _=>⟨i,rfl⟩,fun h=>absurd (by rw [hn];simp) h⟩
  ·rw [decide_eq_false hn]
   simp only
   refine ⟨fun h=>?_,fun h=>?_⟩
   ·rcases List.mem_cons.1 h with h|h
    ·exact absurd h hn
    ·exact i1 h
   ·exact i2 (fun h'=>h (List.mem_cons_of_mem _ h'))
section
variable {E:Env} {L:Frame} {H:Heap} {nx:Nat} {Q:PV→Heap→Nat→Prop} {w:Bool}
variable {dst:Option Tmp} {ty:TypeId} {pos:String} {af:Array Edge} {gd:Option (Nat×Bool)}
theorem qW {Γ:Nat→Option (List Value×TypeId)} {m:Mem} {F:Nat→Prop} {σ:Nat→Value} {t:Tr Value} {b:Nat} {o:Operand} {es:List (FV×FV)} (hx:Ctx Γ m F σ H nx) (hl:RL m F (htag H) σ nx L t) (h:Bh Γ L o=some (.mref b)) (hb:hget H b=some (.map es)):ev t o=σ b:=by
 have:=BK hx hl h
 generalize ev t o=v at this
 cases this with
 |mref _ _ h3=>exact h3 (by simp [htag,hb,HB.tag])
theorem Aa.makeMap {t:TypeId} (q:Q (.mref nx) ((nx,.map [])::H) (nx+1)):Aa E w ⟨dst,.makeMap t none,ty,pos,af,gd⟩ L H nx Q:=by
 intro m F σ tt h1 h2
 obtain ⟨c1,c2,c3⟩:=h1.new (m':=m.alloc (.map [] 0)) (x:=.map []) (s:=.map (some m.size)) (by simp [Mem.alloc]) (fun c hc=>by rw [Mem.Bv,if_neg (by omega)]) (by simp only [Mem.alloc];omega) (fun c hc=>by simp only [Dl,Option.some.injEq] at hc;omega)
  ⟨m.size,[],0,rfl,by simp [Mem.alloc],fun hf=>Nat.lt_irrefl _ (h1.fr _ hf),by rw [Mem.Bv,if_pos rfl],⟨.nil,.nil⟩⟩
 exact F5.op (v:=.map (some m.size)) (fun _=>rfl) ⟨_,_,_,F,_,q,c1,.mref (Nat.lt_succ_self _) rfl fun _=>(upd_same _ _ _).symm,c2,fun _=>c3⟩
theorem Aa.IW {t kt et:TypeId} {x k:Operand} {b:Nat} {names:List (List UInt8)} {s:List UInt8} (hx:Bh E.Γ L x=some (.mref b)) (hb:hget H b=some (.map (Lu names))) (hk:Bh E.Γ L k=some (st s))
 (ht:E.P.underlying t=some (.map kt et)) (hkk:Ec E.P kt=some .string) (hz:zeroOf E.P et=some (.bool false)) (q:Q (.p (.bool (decide (s∈names)))) H nx):Aa E w ⟨dst,.lookup t x k false,ty,pos,af,gd⟩ L H nx Q :=
 Aa.quiet q fun m F σ tt c1 c2=>by
  obtain ⟨_,r,l,clock,r1,r2,r3,r4,r5⟩:=c1.hp b _ hb
  obtain ⟨e1,e2⟩:=XA r5
  obtain ⟨f1,f2⟩:=YD e1 e2 s 0
  refine ⟨.bool (decide (s∈names)),fun _=>?_,.p (.bool _)⟩
  simp only [Ce,EX,KR,Hu,ht,hkk,hz,qW c1 c2 hx hb,KL c1 c2 hk,r1,r4]
  rw [show (plain (Value.bool false)&&plain (Value.string (bs s)))=true from rfl]
  by_cases h:s∈names
  ·obtain ⟨j,hj⟩:=f1 h
   simp only [if_true,hj,Bool.false_eq_true,if_false,Option.map_some,decide_eq_true h]
  ·simp only [if_true,f2 h,Bool.false_eq_true,if_false,Option.map_some,decide_eq_false h]
theorem Dv.snoc {m:Mem} {F:Nat→Prop}:∀ {cs:List FV} {vs:List Value} {c:FV} {v:Value},Dv m F cs vs→RF m F c v→Dv m F (cs++[c]) (vs++[v])
 |_,_,_,_,.nil,h=>.cons h .nil
 |_,_,_,_,.cons a t,h=>.cons a (Dv.snoc t h)
theorem Aa.cZ {t kt et:TypeId} {x k y:Operand} {b:Nat} {names:List (List UInt8)} {s:List UInt8} (hx:Bh E.Γ L x=some (.mref b)) (hb:hget H b=some (.map (Lu names))) (hk:Bh E.Γ L k=some (st s)) (hy:Bh E.Γ L y=some (.p (.bool true)))
 (ht:E.P.underlying t=some (.map kt et)) (hkk:Ec E.P kt=some .string) (hn:s∉names) (q:Q (.Ee []) (hput H b (.map (Lu (names++[s])))) nx):Aa E true ⟨dst,.mapUpdate t x k y,ty,pos,af,gd⟩ L H nx Q:=by
 intro m F σ tt c1 c2
 obtain ⟨_,r,l,clock,r1,r2,r3,r4,r5⟩:=c1.hp b _ hb
 obtain ⟨e1,e2⟩:=XA r5
 have f2:=(YD e1 e2 s 0).2 hn
 have hput':∀ d x,r≠d→(m.put r x).get d=m.get d:=fun d x hd=>by rw [Mem.get_put,if_neg hd]
 obtain ⟨d1,d2⟩:=c1.change (m':=m.put r (.map (l++[{ key:=.string (bs s),val:=.bool true,born:=clock }]) (clock+1))) (x':=.map (Lu (names++[s]))) (s':=σ b) hb trivial (fun _=>rfl) (Nat.le_refl _)
  (fun d _ hd=>hput' d _ fun e=>hd (by rw [r1,e];rfl)) (fun k k1 k2 k3=>by
   have:=k3 r (by rw [r1];rfl)
   simp only [Mem.put];omega) (fun d hd=>.inl hd) (by
   refine ⟨r,_,clock+1,r1,r2,r3,by rw [Mem.get_put,if_pos rfl],?_⟩
   have hF:∀ d,F d→F d∧(m.put r (.map (l++[{ key:=.string (bs s),val:=.bool true,born:=clock }]) (clock+1))).get d=m.get d:=fun d hd=>⟨hd,hput' d _ fun e=>r3 (e▸hd)⟩
   unfold eP Lu
   simp only [List.map_append,List.map_cons,List.map_nil]
   exact ⟨Dv.snoc (r5.1.mono hF) (.str _),Dv.snoc (r5.2.mono hF) (.bool _)⟩)
 refine F5.op (v:=undef) (fun _=>?_) ⟨_,_,_,F,_,q,d1,.Ee .nil,d2,fun h=>by cases h⟩
 have hv:ev tt y=.bool true:=GX c1 c2 hy
 simp only [Ce,EX,Ia,Hu,ht,hkk,qW c1 c2 hx hb,KL c1 c2 hk,hv,r1,r4]
 rw [show plain (Value.string (bs s))=true from rfl]
 simp only [if_true,f2,Option.map_some]
end
end
section
open Go.Am
end
end Go.Vm
namespace Go.Am
section
variable {P:Program} {O:CJ} {G:List Nat}
def IX (key:Value) (rows:List (List Value)):Value:=.tuple #[key,.tuple (rows.map fun r=>Value.tuple r.toArray).toArray]
theorem UO:∀ rows:List (List Value),Wp (rows.map fun r=>Value.tuple r.toArray)=some rows
 |[]=>rfl
 |r::rows=>by simp only [List.map_cons,Wp,yw,UO rows]
theorem KW (key:Value) (rows:List (List Value)):MK (IX key rows)=some rows:=UO rows
def Na (P:Program) (O:CJ) (G:List Nat) (NT body:Code) (n:Nat) (ask:Mem→Prop) (t:Tr Value) (ps:List Tmp):List (List Value)→Mem→(BZ→Mem→Prop)→Prop
 |[],m,Q=>Q .normal m
 |vs::rest,m,Q=>vs.length=n∧vs.all plain=true∧LM P O G NT { t:=Kv t ps vs,m:=Ie m m.size } fun e s1=>e=.normal∧LM P O G body s1 fun e s2=>match e with
  | .normal=>ask (Ie s2.m (min m.low s2.m.low))∧Na P O G NT body n ask t ps rest (Ie s2.m (min m.low s2.m.low)) Q
  |e=>Q e (Ie s2.m (min m.low s2.m.low))
theorem Na.run {NT body:Code} {n:Nat} {ask:Mem→Prop} {a7n:Nat→Nat→Mem→Prop} (hk:∀ N D m,1≤D→(a7n N D m↔ask m)) {t:Tr Value} {ps:List Tmp}:∀ {rows:List (List Value)} {m:Mem} {Q:BZ→Mem→Prop},Na P O G NT body n ask t ps rows m Q →
 ∃ e m',(∃ K,∀ N D,K≤N→K≤D→Ea n (BX P (EP P O G N D) N NT) (BX P (EP P O G N D) N body) (a7n N D) t ps rows m=some (e,m'))∧Q e m'
 |[],m,Q,h=>⟨.normal,m,⟨0,fun N D _ _=>rfl⟩,h⟩
 |vs::rest,m,Q,⟨h1,h2,e1,s1,hk1,he,e2,s2,hk2,q⟩=>by
  subst he
  obtain ⟨K1,k1⟩:=hk1
  obtain ⟨K2,k2⟩:=hk2
  have k1:∀ N D,K1≤N→K1≤D→BX P (EP P O G N D) N NT { t:=Kv t ps vs,m:=Ie m m.size }=some (.normal,s1):=k1
  have k2:∀ N D,K2≤N→K2≤D→BX P (EP P O G N D) N body s1=some (e2,s2):=k2
  cases e2 with
  |normal =>
   obtain ⟨qa,qr⟩:=q
   obtain ⟨e,m',⟨K3,k3⟩,qe⟩:=Na.run hk qr
   refine ⟨e,m',⟨max (max K1 K2) (max K3 1),fun N D hN hD=>?_⟩,qe⟩
   have ha:=(hk N D (Ie s2.m (min m.low s2.m.low)) (by omega)).2 qa
   simp only [Ea]
   rw [if_pos ⟨h1,h2⟩,k1 N D (by omega) (by omega)]
   simp only
   rw [k2 N D (by omega) (by omega)]
   simp only
   rw [if_pos ha]
   exact k3 N D (by omega) (by omega)
  |ret =>
   refine ⟨.ret,_,⟨max K1 K2,fun N D hN hD=>?_⟩,q⟩
   simp only [Ea]
   rw [if_pos ⟨h1,h2⟩,k1 N D (by omega) (by omega)]
   simp only
   rw [k2 N D (by omega) (by omega)]
  |exit id =>
   refine ⟨.exit id,_,⟨max K1 K2,fun N D hN hD=>?_⟩,q⟩
   simp only [Ea]
   rw [if_pos ⟨h1,h2⟩,k1 N D (by omega) (by omega)]
   simp only
   rw [k2 N D (by omega) (by omega)]
theorem LM.rangeFunc {f:Operand} {ps:Array Tmp} {NT body:Code} {s:St} {g:FuncId} {lb:Array Value} {fn:Func} {Fo:List Value→Mem→Option (Value×Mem)} {key:Value} {rows:List (List Value)} {Q:BZ→St→Prop} (hev:ev s.t f=.func (.func g) #[] lb) (hfn:P.funcs[g]?=some fn)
 (hfl:(flat NT&&flat body)=true) (ho:O g=some Fo) (hc:∃ m1,Fo (Ed fn.ntmps lb.toList) s.m=some (IX key rows,m1))
 (h:Na P O G NT body ps.size (fun m'=>∃ m1,Fo (Ed fn.ntmps lb.toList) m'=some (IX key rows,m1)) s.t ps.toList rows s.m fun e m'=>Q e { t:=s.t,m:=m' }):LM P O G (.rangeFunc f ps NT body) s Q:=by
 simp only [Bool.and_eq_true] at hfl
 have e1:∀ N D m',1≤D→EP P O G N D g (Ed fn.ntmps lb.toList) m'=Fo (Ed fn.ntmps lb.toList) m':=fun N D m' hD=>by
  obtain ⟨D,rfl⟩:∃ j,D=j+1:=⟨D-1,by omega⟩
  have hl:=Sj fn.ntmps lb.toList
  cases h0:Fo (Ed fn.ntmps lb.toList) m' with
  |some r=>simp only [EP,ho,Option.bind_some,h0]
  |none =>
   simp only [EP,ho,Option.bind_some,h0,hfn]
   split
   ·rfl
   ·rw [if_neg (by simp only [Bool.and_eq_true,decide_eq_true_eq];omega)]
 obtain ⟨e,m',⟨K,hK⟩,q⟩:=Na.run (a7n:=fun N D m'=>∃ m1,EP P O G N D g (Ed fn.ntmps lb.toList) m'=some (IX key rows,m1)) (fun N D m' hD=>by rw [e1 N D m' hD]) h
 obtain ⟨m1,hc⟩:=hc
 refine ⟨e,_,⟨max K 1,fun N D hN hD=>?_⟩,q⟩
 have hr:=hK N D (by omega) (by omega)
 simp only [BX,hev,hfn]
 rw [if_pos ⟨rfl,hfl.1,hfl.2⟩,e1 N D s.m (by omega),hc]
 simp only [KW]
 rw [hr];rfl
end
end Go.Am
namespace Go.Vm
section
open Go.Am
section
variable {E:Env} {bn:Nat} {L:Vm.Frame} {H:Vm.Heap} {nx:Nat} {Q:BZ→Vm.Frame→Vm.Heap→Nat→Prop}
def a0e (L:Vm.Frame):List Tmp→List FV→Vm.Frame
 |p::ps,f::fs=>a0e (Gy L (some p) (.p f)) ps fs
 |_,_=>L
theorem RL.Kv {m:Mem} {F:Nat→Prop} {T:Nat→Option Tg} {σ:Nat→Value} {nx:Nat}:∀ {ps:List Tmp} {fs:List FV} {vs:List Value} {L:Vm.Frame} {t:Tr Value},RL m F T σ nx L t→Dv m F fs vs→RL m F T σ nx (a0e L ps fs) (Kv t ps vs)
 |[],fs,vs,L,t,h,hr=>by cases hr<;>exact h
 |p::ps,_,_,L,t,h,.nil=>h
 |p::ps,_,_,L,t,h,.cons (v:=v) (vs:=vs) h1 h2=>RL.Kv (ps:=ps) (t:=Og t p v) (h.put (d:=some p) (.p h1)) h2
def c0h (E:Env) (g:FuncId) (fn:Func) (cs:List PV) (H:Vm.Heap) (nx:Nat) (key:Value) (rows:List (List Value)):Prop :=
 ∀ Fo,E.O g=some Fo→∀ m F σ lb,Ctx E.Γ m F σ H nx→Dx m F (htag H) σ nx cs lb→∃ m1,Fo (Ed fn.ntmps lb) m=some (IX key rows,m1)
def RQ (iv:Prop) (DC:Nat) (L0:Vm.Frame) (H1:Vm.Heap) (Q:BZ→Vm.Frame→Vm.Heap→Nat→Prop):BZ→Vm.Frame→Vm.Heap→Nat→Prop
 | .normal,_,H',nx'=>iv∧DC≤nx'∧Ci DC H1 H'
 |e,_,H',nx'=>DC≤nx'∧∃ H2,Ci DC H2 H'∧Q e L0 H2 DC
end
end
section
open Go.Am
section
variable {P:Program} {G:List Nat}
theorem J6 (n:Nat) (lb:List Value):(Ed n lb).drop (n+1)=lb:=by
 unfold Ed
 rw [List.drop_append_of_le_length (by simp),List.drop_of_length_le (by simp)];rfl
theorem qp {k k':Value} {a b:List (List Value)} (h:IX k a=IX k' b):k=k'∧a=b:=by
 have:=congrArg MK h
 rw [KW,KW] at this
 refine ⟨?_,Option.some.inj this⟩
 unfold IX at h
 simp only [Value.tuple.injEq] at h
 have h2:=congrArg (fun x=>x.toList) h
 simp only [List.cons.injEq] at h2
 exact h2.1
abbrev SqF:=List Value→Mem→Option (Value×List (List Value))
open Classical in
noncomputable def Vr (G:List Nat) (M0:Mem) (nt:Nat) (Sq:SqF) (BF:List Value) (m:Mem):Option (Value×Mem) :=
 if BF=Ed nt (BF.drop (nt+1))∧∀ k∈G,m.get k=M0.get k then (Sq (BF.drop (nt+1)) m).map fun kr=>(IX kr.1 kr.2,m) else none
noncomputable def a4o (G:List Nat) (M0:Mem) (gf:FuncId) (nt:Nat) (Sq:SqF) (O:CJ):CJ:=fun f=>if f=gf then some (Vr G M0 nt Sq) else O f
theorem rP {M0:Mem} {gf f:FuncId} {nt:Nat} {Sq:SqF} {O:CJ} (h:f≠gf):a4o G M0 gf nt Sq O f=O f:=if_neg h
theorem qZ {M0:Mem} {gf:FuncId} {nt:Nat} {Sq:SqF} {O:CJ}:a4o G M0 gf nt Sq O gf=some (Vr G M0 nt Sq):=if_pos rfl
theorem Ny {M0:Mem} {nt:Nat} {Sq:SqF} {BF:List Value} {m:Mem} {r:Value×Mem} (h:Vr G M0 nt Sq BF m=some r):∃ lb kr,BF=Ed nt lb∧(∀ k∈G,m.get k=M0.get k)∧Sq lb m=some kr∧r=(IX kr.1 kr.2,m):=by
 unfold Vr at h
 split at h
 case isFalse=>cases h
 rename_i hc
 rw [Option.map_eq_some_iff] at h
 obtain ⟨rows,h1,h2⟩:=h
 exact ⟨_,rows,hc.1,hc.2,h1,h2.symm⟩
theorem yK {M0:Mem} {nt:Nat} {Sq:SqF} {lb:List Value} {m:Mem} {kr:Value×List (List Value)} (hg:∀ k∈G,m.get k=M0.get k) (h:Sq lb m=some kr):Vr G M0 nt Sq (Ed nt lb) m=some (IX kr.1 kr.2,m):=by
 unfold Vr
 rw [J6,if_pos ⟨rfl,hg⟩,h];rfl
theorem jl {ι:BN} {g:Nat→Nat} {v:Value} (h:AA ι g SL v):False:=by cases h
theorem dF {gf:Nat} {lb:Array Value} {rows:List (List Value)} {I1 I2:World→Prop} {w:World} (h:YB P gf lb rows I2 w) (hi:∀ W,I1 W→I2 W):YB P gf lb rows I1 w :=
 fun l J Jx W hb hJ hx hy h0 hj=>h l J Jx W hb hJ hx (fun i W1 hi' hj'=>by
  obtain ⟨fn,tmps,NT,body,e1,e2⟩:=hy i W1 hi' hj'
  refine ⟨fn,tmps,NT,body,e1,e2.mono ?_⟩
  rintro e W' (⟨q1,q2,q3⟩|q)
  ·exact .inl ⟨q1,q2,hi _ q3⟩
  ·exact .inr q) (hi _ h0) hj
theorem qH {M0:Mem} {gf:FuncId} {nt:Nat} {Sq:SqF} {O:CJ} (hO:FT P G O) (he:Am.Enters P gf) (hnt:∀ fn,P.funcs[gf]?=some fn→fn.ntmps=nt)
 (hs:∀ (lb:List Value) (m:Mem) (key:Value) (rows:List (List Value)),Sq lb m=some (key,rows)→(∀ k∈G,m.get k=M0.get k)→∀ (ι:BN) (w:World) (lb':Array Value),DL P G ι m w→BI ι m.gen lb lb'.toList →
  YB P gf lb' rows (Np P G (fun m'=>Sq lb m'=some (key,rows)∧∀ k∈G,m'.get k=M0.get k) ι m.gen lb lb') w):FT P G (a4o G M0 gf nt Sq O):=by
 intro f Fo hf
 by_cases h:f=gf
 ·subst h
  rw [qZ] at hf
  cases hf
  refine ⟨fun BF m v m' hv ι w as' hs' hrel=>?_,fun BF m v m' hv=>?_,he,fun fn lb m m1 v rows hfn hv hr ι w lb' Dp hl=>?_⟩
  ·obtain ⟨lb,rows,rfl,_⟩:=Ny hv
   rw [Yn] at hrel
   obtain ⟨v',k',_,h2,_⟩:=hrel.Jt
   exact (jl h2).elim
  ·obtain ⟨lb,rows,_,_,_,e⟩:=Ny hv
   cases e;exact AV.refl _
  ·rw [hnt fn hfn] at hv ⊢
   obtain ⟨lb2,a5w,e1,e2,e3,e4⟩:=Ny hv
   have e5:lb=lb2:=by
    have:=congrArg (List.drop (nt+1)) e1
    rwa [J6,J6] at this
   subst e5
   obtain ⟨key2,a5w⟩:=a5w
   cases e4
   rw [KW] at hr
   cases hr
   refine dF (hs lb m _ _ e3 e2 ι w lb' Dp hl) ?_
   rintro W ⟨ι',m',q1,q2,⟨m2,q3⟩,q4⟩
   obtain ⟨lb3,a6a,p1,p2,p3,p4⟩:=Ny q3
   have e6:lb=lb3:=by
    have:=congrArg (List.drop (nt+1)) p1
    rwa [J6,J6] at this
   subst e6
   simp only [Prod.mk.injEq] at p4
   obtain ⟨r1,r2⟩:=qp p4.1
   obtain ⟨c1c,a6a⟩:=a6a
   simp only at r1 r2
   subst r1;subst r2
   exact ⟨ι',m',q1,q2,⟨p3,p2⟩,q4⟩
 ·rw [rP h] at hf
  exact hO f Fo hf
end
end
end Go.Vm
namespace Go.Proofs.YtnjkoebfgcbbdaaGreatDoor
section
open Go Go.Am Go.Vm Go.RowKit
def Fj (lo hi:Nat):List (List Value):=(D7 lo hi).map fun x=>[Go.encZ x]
def NR:SqF:=fun lb m=>match lb with
 |[.pointer (some ⟨b,0,none⟩)]=>match m.get b with
  | .cells [.int .u64 lo,.int .u64 hi] _ 0 false=>if (0≤lo∧lo<18446744073709551616)∧(0≤hi∧hi<18446744073709551616) then some (.agg #[.int .u64 lo,.int .u64 hi],Fj lo.toNat hi.toNat) else none
  |_=>none
 |_=>none
def notKey (lo hi:Nat):Value:=.agg #[.int .u64 (lo:Int),.int .u64 (hi:Int)]
theorem XR {lb:List Value} {m:Mem} {kr:Value×List (List Value)} (h:NR lb m=some kr):∃ b lo hi e,lb=[.pointer (some ⟨b,0,none⟩)]∧m.get b=.cells [.int .u64 ((lo:Nat):Int),.int .u64 ((hi:Nat):Int)] e 0 false∧lo<18446744073709551616∧hi<18446744073709551616∧kr=(notKey lo hi,Fj lo hi):=by
 unfold NR at h
 split at h
 ·rename_i b
  split at h
  ·rename_i lo hi e h1
   split at h
   ·rename_i hc
    cases h
    obtain ⟨lo,rfl⟩:∃ n:Nat,lo=n:=⟨lo.toNat,by omega⟩
    obtain ⟨hi,rfl⟩:∃ n:Nat,hi=n:=⟨hi.toNat,by omega⟩
    exact ⟨b,lo,hi,e,rfl,h1,by omega,by omega,rfl⟩
   ·cases h
  ·cases h
 ·cases h
theorem qc {a b c d:Nat} (h:notKey a b=notKey c d):a=c∧b=d:=by
 simp [notKey] at h
 omega
theorem X9 {G:List Nat} {ι:BN} {m:Mem} {w:World} {b:Nat} {p':Value} {vs:List Value} {e:TypeId} (hs:DL Tryz.prog G ι m w) (h:AA ι m.gen (.pointer (some ⟨b,0,none⟩)) p') (hm:m.get b=.cells vs e 0 false) (hp:vs.all Am.plainCell=true) :
 ∃ c o,p'=.pointer (some ⟨c,o,none⟩)∧∀ i,i<vs.length→w.cell? ⟨c,o+i,none⟩=some (vs.getD i undef):=by
 cases h with
 |ptr a a' h =>
  obtain ⟨ib,h1,h2,h3⟩:=h
  obtain ⟨cs,fr,e',q1,q2,q3,q4,q5⟩:=GV hs h1 hm
  have e1:=h3 (by simp [Mem.gen,hm,HY.gen,LZ])
  refine ⟨ib.blk,ib.sh,by rw [e1];simp,fun i hi=>?_⟩
  obtain ⟨v',r1,r2⟩:=q4 i hi
  have hpi:Am.plainCell (vs.getD i undef)=true:=by
   rw [List.getD_eq_getElem?_getD,List.getElem?_eq_getElem hi]
   exact List.all_eq_true.1 hp _ (List.getElem_mem hi)
  rw [r2.DT hpi] at r1
  rw [Am.cell_of_row q1];exact r1
theorem U8 (lo hi:Nat):(Fj lo hi).length=(D7 lo hi).length:=by simp [Fj]
theorem a3b (lo hi:Nat):∀ k,∃ r,D7 lo hi=Jm lo hi k++r
 |0=>⟨_,rfl⟩
 |1=>⟨(FX hi).map (fun n:Nat=>((64+n:Nat):Int)),by simp [Jm,D7]⟩
 |_+2=>⟨[],by simp [Jm]⟩
theorem zY {lo hi k:Nat} {done rest:List Int} {x:Int} (h:done++(x::rest)=Jm lo hi k):∃ hl:done.length<(Fj lo hi).length,(Fj lo hi)[done.length]=[Go.encZ x]:=by
 obtain ⟨r,hr⟩:=a3b lo hi k
 rw [← h] at hr
 have hl:done.length<(Fj lo hi).length:=by
  rw [U8,hr];simp
 refine ⟨hl,?_⟩
 unfold Fj
 simp only [List.getElem_map,hr]
 simp
attribute [local go_sem] Oper.semAt_some uF tq
theorem dB {F:Nat} {laid:List (String×DataW Unit)} (ht:QM F laid) (lb:List Value) (m:Mem) (key:Value) (rows:List (List Value)) (hq:NR lb m=some (key,rows)) (hg:∀ k∈AX Tryz.prog F laid,m.get k=(BD Tryz.prog F laid).get k) (ι:BN) (w:World) (lb':Array Value) (Dp:DL Tryz.prog (AX Tryz.prog F laid) ι m w) (hl:BI ι m.gen lb lb'.toList) :
 YB Tryz.prog 147 lb' rows (Np Tryz.prog (AX Tryz.prog F laid) (fun m'=>NR lb m'=some (key,rows)∧∀ k∈AX Tryz.prog F laid,m'.get k=(BD Tryz.prog F laid).get k) ι m.gen lb lb') w:=by
 obtain ⟨b,lo,hi,e,rfl,h1,hlo,hhi,he⟩:=XR hq
 cases he
 obtain ⟨lb'⟩:=lb'
 obtain ⟨p1,k1,rfl,r1,hl2⟩:=hl.Jt
 have hk:k1=[]:=List.length_eq_zero_iff.1 hl2.1.symm
 subst hk
 obtain ⟨c1,o1,rfl,_⟩:=X9 Dp r1 h1 rfl
 have facts:∀ X,Np Tryz.prog (AX Tryz.prog F laid) (fun m'=>NR [.pointer (some ⟨b,0,none⟩)] m'=some (notKey lo hi,Fj lo hi)∧∀ k∈AX Tryz.prog F laid,m'.get k=(BD Tryz.prog F laid).get k) ι m.gen [.pointer (some ⟨b,0,none⟩)] ⟨[.pointer (some ⟨c1,o1,none⟩)]⟩ X →
  X.cell? ⟨c1,o1,none⟩=some (.int .u64 (lo:Int))∧X.cell? ⟨c1,o1+1,none⟩=some (.int .u64 (hi:Int))∧Nc X:=by
  rintro X ⟨ι',m',g1,g2,⟨g3,g4⟩,_⟩
  obtain ⟨b',lo',hi',e',q0,q1,_,_,q3⟩:=XR g3
  cases q0
  obtain ⟨rfl,rfl⟩:=qc (congrArg Prod.fst q3)
  obtain ⟨p1',k1',x1,x2,x3⟩:=g2.Jt
  cases x1
  obtain ⟨c1',o1',z1,z2⟩:=X9 g1 x2 q1 rfl
  cases z1
  obtain ⟨e,t1⟩:=ht.tab
  exact ⟨z2 0 (by simp),z2 1 (by simp),(YK ht.nm (WT g1 g4 ht.nm t1 ht.lt)).1⟩
 have later:∀ X Y,Np Tryz.prog (AX Tryz.prog F laid) (fun m'=>NR [.pointer (some ⟨b,0,none⟩)] m'=some (notKey lo hi,Fj lo hi)∧∀ k∈AX Tryz.prog F laid,m'.get k=(BD Tryz.prog F laid).get k) ι m.gen [.pointer (some ⟨b,0,none⟩)] ⟨[.pointer (some ⟨c1,o1,none⟩)]⟩ X→Below X.heap.size X Y →
  Np Tryz.prog (AX Tryz.prog F laid) (fun m'=>NR [.pointer (some ⟨b,0,none⟩)] m'=some (notKey lo hi,Fj lo hi)∧∀ k∈AX Tryz.prog F laid,m'.get k=(BD Tryz.prog F laid).get k) ι m.gen [.pointer (some ⟨b,0,none⟩)] ⟨[.pointer (some ⟨c1,o1,none⟩)]⟩ Y:=by
  rintro X Y ⟨ι',m',g1,g2,g3⟩ hb
  exact ⟨ι',m',Po g1 hb,g2,g3⟩
 generalize Np Tryz.prog (AX Tryz.prog F laid) (fun m'=>NR [.pointer (some ⟨b,0,none⟩)] m'=some (notKey lo hi,Fj lo hi)∧∀ k∈AX Tryz.prog F laid,m'.get k=(BD Tryz.prog F laid).get k) ι m.gen [.pointer (some ⟨b,0,none⟩)] ⟨[.pointer (some ⟨c1,o1,none⟩)]⟩=SI at *
 intro l J Jx W hB hJ hx hY hI hj
 refine callsIn_of_wp Tryz.func147 rfl trivial ?_ rfl
 simp only [Tryz.ntmps147,List.size_toArray,List.length_cons,List.length_nil,Nat.reduceAdd,Nat.reduceSub,Array.replicate_succ,Array.replicate_zero,List.push_toArray,List.append_toArray,List.nil_append,List.cons_append]
 obtain ⟨d0,d1,_⟩:=facts W hI
 gi_wp2
 gi_loopw [10] (fun i wr=>(i=.int .i64 0∧J (Jm lo hi 0).length wr∧SI wr)∨(i=.int .i64 1∧J (Jm lo hi 1).length wr∧SI wr)∨(i=.int .i64 2∧J (Jm lo hi 2).length wr∧SI wr)) (fun i _=>(2-tZ i).toNat)
 case atStart=>exact Or.inl ⟨rfl,hj,hI⟩
 case round =>
  rcases hrel with ⟨rfl,hJs,hIs⟩|⟨rfl,hJs,hIs⟩|⟨rfl,hJs,hIs⟩
  ·gi_wp2
   gi_loopw [4] (fun v wr=>∃ p:Nat,p<18446744073709551616∧v=.int .u64 (p:Int)∧∃ done:List Int,J done.length wr∧SI wr∧done++(FX p).map (fun n:Nat=>((64*0+n:Nat):Int))=Jm lo hi (0+1)) (fun v _=>(tZ v).toNat)
   case atStart=>exact ⟨_,hlo,rfl,Jm lo hi 0,hJs,hIs,by simp [Jm,D7]⟩
   case round =>
    obtain ⟨p,hp,rfl,done,hJd,hId,hdone⟩:=hrel
    by_cases hp0:p=0
    ·subst hp0
     have hz:((0:Nat):Int)=0:=rfl
     rw [MP,List.map_nil,List.append_nil] at hdone
     gi_wp2
     go_roundw
     case rel=>exact Or.inr <| Or.inl ⟨by first|rfl|simp,by rw [← hdone];exact hJd,hId⟩
     case measure=>simp [tZ]
    ·obtain ⟨e1,e2,e3⟩:=RG hp0 hp
     rw [e1,List.map_cons] at hdone
     obtain ⟨_,_,hTb⟩:=facts _ hId
     have htz:=rD p hp _ hTb
     have hne:¬ ((p:Int)=0):=by omega
     have hw1:=PU hp0 hp
     have hw2:=P6 hp
     obtain ⟨x0,hx0⟩:∃ x0:Int,((64*0+Lib.ctz 64 p:Nat):Int)=x0:=⟨_,rfl⟩
     rw [hx0] at hdone
     generalize Lib.ctz 64 p=t at *
     have hw4:IntKind.i64.wrap (0+(t:Int))=x0:=by rw [Ov (by omega) (by omega)];omega
     have hw5:IntKind.i64.wrap ((t:Int))=x0:=by rw [Ov (by omega) (by omega)];omega
     obtain ⟨hl,hrow⟩:=zY hdone
     obtain ⟨fn,tmps,assign,body,hy,hR⟩:=hY done.length _ hl hJd
     rw [hrow] at hy
     have hy:(Instr.yield l #[.int .i64 x0]).run Tryz.prog wr=.ok (.round l fn tmps assign body) wr:=hy
     gi_wp2
     refine ⟨trivial,rfl,(callsIn_wide.2 htz).mono ?_⟩
     rintro _ _ ⟨rfl,rfl⟩
     gi_wp2
     refine ⟨rfl,hR.mono ?_⟩
     rintro e W3 (⟨rfl,hJ3,hI3⟩|⟨rfl,hx3⟩)
     ·gi_wp2
      go_roundw
      case rel=>exact ⟨p &&& (p-1),by omega,by first|rfl|simp,done++[x0],by rw [List.length_append];exact hJ3,hI3,by rw [List.append_assoc];exact hdone⟩
      case measure=>simp [tZ];omega
     ·gi_wp2
      refine ⟨rfl,_,results_none rfl _ _ _,⟨_,rfl⟩,.inr ⟨_,hx3⟩⟩
  ·gi_wp2
   gi_loopw [4] (fun v wr=>∃ p:Nat,p<18446744073709551616∧v=.int .u64 (p:Int)∧∃ done:List Int,J done.length wr∧SI wr∧done++(FX p).map (fun n:Nat=>((64*1+n:Nat):Int))=Jm lo hi (1+1)) (fun v _=>(tZ v).toNat)
   case atStart=>exact ⟨_,hhi,rfl,Jm lo hi 1,hJs,hIs,by simp [Jm,D7]⟩
   case round =>
    obtain ⟨p,hp,rfl,done,hJd,hId,hdone⟩:=hrel
    by_cases hp0:p=0
    ·subst hp0
     have hz:((0:Nat):Int)=0:=rfl
     rw [MP,List.map_nil,List.append_nil] at hdone
     gi_wp2
     go_roundw
     case rel=>exact Or.inr <| Or.inr ⟨by first|rfl|simp,by rw [← hdone];exact hJd,hId⟩
     case measure=>simp [tZ]
    ·obtain ⟨e1,e2,e3⟩:=RG hp0 hp
     rw [e1,List.map_cons] at hdone
     obtain ⟨_,_,hTb⟩:=facts _ hId
     have htz:=rD p hp _ hTb
     have hne:¬ ((p:Int)=0):=by omega
     have hw1:=PU hp0 hp
     have hw2:=P6 hp
     obtain ⟨x0,hx0⟩:∃ x0:Int,((64*1+Lib.ctz 64 p:Nat):Int)=x0:=⟨_,rfl⟩
     rw [hx0] at hdone
     generalize Lib.ctz 64 p=t at *
     have hw4:IntKind.i64.wrap (64+(t:Int))=x0:=by rw [Ov (by omega) (by omega)];omega
     have hw5:IntKind.i64.wrap (64+(t:Int))=x0:=by rw [Ov (by omega) (by omega)];omega
     obtain ⟨hl,hrow⟩:=zY hdone
     obtain ⟨fn,tmps,assign,body,hy,hR⟩:=hY done.length _ hl hJd
     rw [hrow] at hy
     have hy:(Instr.yield l #[.int .i64 x0]).run Tryz.prog wr=.ok (.round l fn tmps assign body) wr:=hy
     gi_wp2
     refine ⟨trivial,rfl,(callsIn_wide.2 htz).mono ?_⟩
     rintro _ _ ⟨rfl,rfl⟩
     gi_wp2
     refine ⟨rfl,hR.mono ?_⟩
     rintro e W3 (⟨rfl,hJ3,hI3⟩|⟨rfl,hx3⟩)
     ·gi_wp2
      go_roundw
      case rel=>exact ⟨p &&& (p-1),by omega,by first|rfl|simp,done++[x0],by rw [List.length_append];exact hJ3,hI3,by rw [List.append_assoc];exact hdone⟩
      case measure=>simp [tZ];omega
     ·gi_wp2
      refine ⟨rfl,_,results_none rfl _ _ _,⟨_,rfl⟩,.inr ⟨_,hx3⟩⟩
  ·gi_wp2
   go_end0
   refine ⟨⟨_,rfl⟩,.inl ?_⟩
   rw [U8]
   have:Jm lo hi 2=D7 lo hi:=rfl
   rw [← this];exact hJs
end
section
open Go Go.Am Go.Vm
theorem b3e:Tryz.prog.follows .mixedOrders=true:=by kernel_rfl
theorem zf:oM 8 DX:=⟨⟨2,82,by kernel_rfl,by kernel_rfl,of_decide_eq_true (by kernel_rfl)⟩⟩
theorem l7:Am.Enters Tryz.prog 52:=⟨_,Tryz.func52,by kernel_rfl,by kernel_rfl⟩
theorem Yj:Am.Enters Tryz.prog 55:=⟨_,Tryz.func55,by kernel_rfl,by kernel_rfl⟩
theorem kM:Am.Enters Tryz.prog 130:=⟨_,Tryz.func130,by kernel_rfl,by kernel_rfl⟩
def a4w:List (FuncId×XB):=[(52,rY),(55,Xz),(130,textF)]
theorem a3m:FT Tryz.prog (AX Tryz.prog 8 DX) (bG (AX Tryz.prog 8 DX) (BD Tryz.prog 8 DX) a4w):=oU fun x hx=>by
 simp only [a4w,List.mem_cons,List.not_mem_nil,or_false] at hx
 rcases hx with rfl|rfl|rfl
 ·exact qR zf l7
 ·exact Zl Yj
 ·exact nY zf kM
def bf:InF:=fun zs rest=>match rest with
 |[]=>if zs.length<1000000 then some (zs.mergeSort fun x y=>decide (x≤y),none) else none
 |_=>none
theorem Xn {zs zs':List Int} {rest:List Value} {r:Option Nat} (h:bf zs rest=some (zs',r)):rest=[]∧zs.length<1000000∧zs'=zs.mergeSort (fun x y=>decide (x≤y))∧r=none:=by
 unfold bf at h
 split at h
 ·split at h
  ·rename_i hc;cases h;exact ⟨rfl,hc,rfl,rfl⟩
  ·cases h
 ·cases h
def aG:InF:=fun zs rest=>match rest with
 |[]=>if zs.length<1000000 then some (Lib.compact zs++List.replicate (zs.length-(Lib.compact zs).length) 0,some (Lib.compact zs).length) else none
 |_=>none
theorem Yl {zs zs':List Int} {rest:List Value} {r:Option Nat} (h:aG zs rest=some (zs',r)):rest=[]∧zs.length<1000000∧zs'=Lib.compact zs++List.replicate (zs.length-(Lib.compact zs).length) 0∧r=some (Lib.compact zs).length:=by
 unfold aG at h
 split at h
 ·split at h
  ·rename_i hc;cases h;exact ⟨rfl,hc,rfl,rfl⟩
  ·cases h
 ·cases h
theorem jL:Am.Enters Tryz.prog 48:=⟨_,Tryz.func48,by kernel_rfl,by kernel_rfl⟩
theorem kG:Am.Enters Tryz.prog 49:=⟨_,Tryz.func49,by kernel_rfl,by kernel_rfl⟩
noncomputable abbrev a1p:CJ:=bG (AX Tryz.prog 8 DX) (BD Tryz.prog 8 DX) a4w
noncomputable abbrev yN:CJ:=xO (AX Tryz.prog 8 DX) (BD Tryz.prog 8 DX) 48 3 bf a1p
noncomputable abbrev tC:CJ:=xO (AX Tryz.prog 8 DX) (BD Tryz.prog 8 DX) 49 3 aG yN
theorem a5j:FT Tryz.prog (AX Tryz.prog 8 DX) yN:=aY a3m jL (by kernel_rfl)
 (fun blk off cap zs zs' r rest w h hl hr hH hb hc h0=>by
  obtain ⟨rfl,h1,rfl,rfl⟩:=Xn h
  refine (show Calls Tryz.prog 48 _ w _ from Tryz.slices_Sort_int blk off cap zs w hH hb (by omega)).mono ?_
  rintro x w' ⟨rfl,n,os,rfl⟩
  exact ⟨rfl,n,os,rfl⟩)
 (fun rest rest' w h hs=>by
  obtain ⟨rfl,_⟩:=Xn h
  have e:rest'=#[]:=Array.eq_empty_of_size_eq_zero hs
  subst e
  exact Tryz.slices_Sort_int_none none 0 w)
theorem a5f:FT Tryz.prog (AX Tryz.prog 8 DX) tC:=aY a5j kG (by kernel_rfl)
 (fun blk off cap zs zs' r rest w h hl hr hH hb hc h0=>by
  obtain ⟨rfl,h1,rfl,rfl⟩:=Yl h
  refine (show Calls Tryz.prog 49 _ w _ from Tryz.slices_Compact_int blk off cap zs w hH (by omega) hc).mono ?_
  rintro x w' ⟨rfl,q,rfl⟩
  refine ⟨rfl,q,#[],?_⟩
  rw [Go.Sort.grow_empty];rfl)
 (fun rest rest' w h _=>by
  obtain ⟨_,_,_,h1⟩:=Yl h
  cases h1)
theorem XP:QM 8 DX:=⟨by kernel_rfl,⟨5,by kernel_rfl⟩,of_decide_eq_true (by kernel_rfl)⟩
theorem X0:Am.Enters Tryz.prog 61:=⟨_,Tryz.func61,by kernel_rfl,by kernel_rfl⟩
theorem fM:Am.Enters Tryz.prog 147:=⟨_,Tryz.func147,by kernel_rfl,by kernel_rfl⟩
noncomputable abbrev zo:CJ:=frO (AX Tryz.prog 8 DX) (BD Tryz.prog 8 DX) 61 3 yu tC
noncomputable def WZ:CJ:=a4o (AX Tryz.prog 8 DX) (BD Tryz.prog 8 DX) 147 Tryz.f147.ntmps NR zo
theorem a3w:FT Tryz.prog (AX Tryz.prog 8 DX) zo:=vU a5f X0 (by kernel_rfl) (vO XP)
theorem je:∀ fn,Tryz.prog.funcs[147]?=some fn→fn.ntmps=Tryz.f147.ntmps:=fun fn h=>by
 rw [Tryz.func147] at h;cases h;rfl
theorem a9f:FT Tryz.prog (AX Tryz.prog 8 DX) WZ:=qH a3w fM je fun lb m key rows h1 h2 ι w lb' h3 h4=>dB XP lb m key rows h1 h2 ι w lb' h3 h4
noncomputable abbrev env:Env:=EH Tryz.prog 8 DX WZ
theorem a0p {f:FuncId} (h:f≠147):WZ f=zo f:=rP h
theorem oP {f:FuncId} (h:f≠147) (h1:f≠61):WZ f=tC f:=by
 rw [a0p h]
 exact a1a h1
theorem tV {f:FuncId} (h:f≠147) (h0:f≠61) (h1:f≠49) (h2:f≠48):WZ f=a1p f:=by
 rw [oP h h0]
 show xO _ _ _ _ _ _ f=_
 rw [fH h1]
 show xO _ _ _ _ _ _ f=_
 rw [fH h2]
theorem Aj {f:FuncId} (h:f∉147::61::49::48::a4w.map (·.1)):env.O f=none:=by
 show WZ f=none
 rw [tV (fun e=>h (by rw [e];simp)) (fun e=>h (by rw [e];simp)) (fun e=>h (by rw [e];simp)) (fun e=>h (by rw [e];simp))]
 refine wV ?_
 rw [List.lookup_eq_none_iff]
 intro p hp
 by_cases e:f=p.1
 ·exact absurd (List.mem_cons_of_mem _ (List.mem_cons_of_mem _ (List.mem_cons_of_mem _ (List.mem_cons_of_mem _ (List.mem_map.2 ⟨p,hp,e.symm⟩))))) h
 ·simpa using e
theorem a4c:WZ 49=xO (AX Tryz.prog 8 DX) (BD Tryz.prog 8 DX) 49 3 aG yN 49:=oP (by decide) (by decide)
theorem a2s:WZ 48=xO (AX Tryz.prog 8 DX) (BD Tryz.prog 8 DX) 48 3 bf a1p 48:=by
 rw [oP (by decide) (by decide)]
 show xO _ _ _ _ _ _ _=_
 rw [fH (by decide)]
theorem x9 (n:Int) (h:-9223372036854775808≤n∧n≤9223372036854775807):AB env 52 [.int .i64 n] (st (Lib.itoa n)) :=
 a0g (tV (by decide) (by decide) (by decide) (by decide)) rfl fun m F xs h1=>by
  cases h1 with
  |cons h1 t =>
   cases t;cases h1
   exact ⟨_,by simp only [rY];rw [if_pos h],.str _⟩
theorem kD (m:Mem) (F:Nat→Prop):∀ l:List Int,Dv m F (cells l) (l.map Go.encZ)
 |[]=>.nil
 |z::l=>.cons (.int .i64 z) (kD m F l)
theorem UZ {lo hi:Nat} (hlo:lo<18446744073709551616) (hhi:hi<18446744073709551616):BG env 61 [.agg [.int .u64 (lo:Int),.int .u64 (hi:Int)]] 3 (cells (D7 lo hi)) (D7 lo hi).length ((D7 lo hi).map Go.encZ).isEmpty:=by
 have h:=a9j (P:=Tryz.prog) (F:=8) (laid:=DX) (O:=WZ) (O0:=tC) (ff:=61) (e:=3) (Fn:=yu) (xs:=[.agg [.int .u64 (lo:Int),.int .u64 (hi:Int)]]) (cs:=cells (D7 lo hi)) (l:=(D7 lo hi).map Go.encZ) (a0p (by decide))
  (fun m F' us h1=>by
   cases h1 with
   |cons h1 t =>
    cases t
    cases h1 with
    |agg h2 hc =>
     cases h2 with
     |cons h3 t =>
      cases t with
      |cons h4 t =>
       cases t;cases h3;cases h4
       simp only [yu,uy]
       rw [if_pos ⟨⟨by omega,by omega⟩,by omega,by omega⟩]
       simp) (fun m F'=>kD m F' _) (by
   rw [List.all_eq_true]
   intro x hx
   obtain ⟨z,_,rfl⟩:=List.mem_map.1 hx
   rfl)
 rwa [List.length_map] at h
end
section
open Go Go.Am Go.Vm
attribute [local irreducible] Aa Ad Af Ac Ba AB BG Au Ap Ah Vm.Done BQ AY
end
section
open Go Go.Am Go.Vm
attribute [local irreducible] Aa Ad Af Ac Ba AB BG Au Ap Ah Vm.Done BQ AY
theorem zB {l:List UInt8} {p:UInt8→Prop} (h:∀ c∈l,p c) (i:Nat) (hi:i<l.length):p (gi l i):=by
 simp only [gi,List.getElem?_eq_getElem hi,Option.getD_some];exact h _ (List.getElem_mem _)
end
section
open Go Go.Am Go.Vm
attribute [local irreducible] Aa Ad Af Ac Ba AB BG Au Ap Ah Vm.Done BQ AY
theorem a1h {L:Vm.Frame} {H:Vm.Heap} {nx:Nat} {Q:PV→Vm.Heap→Nat→Prop} {dst:Option Tmp} {ty:TypeId} {pos:String} {af:Array Edge} {gd:Option (Nat×Bool)} {fo:Operand} {args:Array Operand} {aT:Array TypeId} {fs cs xs:List PV} {c:Code}
 (hf:Bh env.Γ L fo=some (.clo 104 fs cs)) (ha:evs env.Γ L args.toList=some xs) (hb:Tryz.f104.body=some c) (hn:(fs++xs++cs).length≤Tryz.f104.ntmps)
 (h:Ac env nx c (CP 0 (fs++xs++cs)) H nx (AY env.P Tryz.f104.results.toList Q)):Aa env true ⟨dst,.call { callee:=.value fo,args:=args,argTypes:=aT },ty,pos,af,gd⟩ L H nx Q:=by
 have h0:(match Tryz.f104.body with|some c=>Ij env.G Tryz.f104 c|none=>false)=true:=by kernel_rfl
 rw [hb] at h0
 exact Aa.inline rfl hf ha (Aj (by decide)) Tryz.func104 hb h0 hn h
theorem zn {L:Vm.Frame} {H:Vm.Heap} {nx:Nat} {Q:PV→Vm.Heap→Nat→Prop} {dst:Option Tmp} {ty:TypeId} {pos:String} {af:Array Edge} {gd:Option (Nat×Bool)} {fo:Operand} {args:Array Operand} {aT:Array TypeId} {fs cs xs:List PV} {c:Code}
 (hf:Bh env.Γ L fo=some (.clo 144 fs cs)) (ha:evs env.Γ L args.toList=some xs) (hb:Tryz.f144.body=some c) (hn:(fs++xs++cs).length≤Tryz.f144.ntmps)
 (h:Ac env nx c (CP 0 (fs++xs++cs)) H nx (AY env.P Tryz.f144.results.toList Q)):Aa env true ⟨dst,.call { callee:=.value fo,args:=args,argTypes:=aT },ty,pos,af,gd⟩ L H nx Q:=by
 have h0:(match Tryz.f144.body with|some c=>Ij env.G Tryz.f144 c|none=>false)=true:=by kernel_rfl
 rw [hb] at h0
 exact Aa.inline rfl hf ha (Aj (by decide)) Tryz.func144 hb h0 hn h
theorem yE (n:Nat):¬ (List.take 1 (Lib.decDigits n)=[45]):=fun h=>by
 have h1:=Num.Jo n 45 (List.mem_of_mem_take (by rw [h];simp))
 have:(45:UInt8).toNat=45:=rfl
 omega
theorem a2n (n:Nat):0<(Lib.decDigits n).length:=by rw [Lib.decDigits_length];exact Lib.nDigits_pos n
theorem vS (n:Nat):Num.parse (Lib.decDigits n)=n:=by
 rw [Num.OU,Num.sG,Nat.mod_eq_of_lt (Lib.lt_pow_nDigits n)]
theorem a1u (n:Nat):AB env 54 [.str (bs (Lib.decDigits n)),.str (bs [45])] (.Ee [st (Lib.decDigits n),.p (.bool false)]):=by
 refine AB.enter (Aj (by decide)) Tryz.func54 rfl (by kernel_rfl) (by simp [Tryz.ntmps54]) ?_
 have h1:=yE n
 have h2:=a2n n
 repeat' (first|apply Ac.assoc|apply Ac.Ak|apply Ac.Ai|apply Ac.BL|(apply AY.ret;rfl)|apply Ac.ret|apply Ad.nil|apply Ad.one|(apply Ad.take;rfl;rfl)|(apply Ad.drop;rfl;rfl;rfl)|(apply Ad.guard;rfl;rfl)|(apply a1h;rfl;rfl;rfl;exact le_dec rfl)|(apply zn;rfl;rfl;rfl;exact le_dec rfl)|(apply Aa.assign;rfl)|(apply Aa.move;rfl)|(apply Aa.int;rfl;rfl;rfl)|(apply Aa.Bc;rfl;rfl)|(apply Aa.AL;rfl;rfl)|(apply Aa.SV;rfl;rfl)|(apply Aa.eqS;rfl;rfl)|(apply Aa.yj;rfl;rfl;rfl;omega)|(apply Aa.oq;rfl;rfl;rfl;omega)|(apply Aa.not;rfl)|(apply Aa.extract;rfl;rfl)|(apply Ac.Bf;rfl)|(apply Ac.Pm;rfl)|(intro _;try (exfalso;omega)))
 ·refine Done.rt rfl rfl ⟨?_,rfl,rfl⟩
  rfl
 ·exfalso;simp_all
 ·exfalso;simp_all;omega
theorem cut_spec' (n:Nat):AB env 54 [.str (bs (Lib.decDigits n)),.str ⟨#[45]⟩] (.Ee [st (Lib.decDigits n),.p (.bool false)]):=a1u n
theorem a3u (n:Int) (h:-9223372036854775808≤n∧n≤9223372036854775807):AB env 18 [.int .i64 n] (st (Lib.itoa n)):=by
 refine AB.enter (Aj (by decide)) Tryz.func18 rfl (by kernel_rfl) (by simp [Tryz.ntmps18]) ?_
 repeat' (first|apply Ac.Ak|apply Ac.ret|apply Ad.nil|apply Ad.one|(apply Aa.fn;rfl;rfl;exact x9 n h;intro _;rfl)|(apply Aa.assign;rfl)|(apply Aa.move;rfl))
 ·refine Done.rt rfl rfl ⟨?_,rfl,rfl⟩
  rfl
theorem a0k (n:Nat):Lib.itoa (n:Int)=Lib.decDigits n:=by simp [Lib.itoa]
theorem Ya (n g:Nat) (hg:g≤18):AB env 91 [.str (bs (Lib.decDigits n)),.int .i64 (g:Int)] (.Ee [.p (.int .i64 ((if Lib.nDigits n≤g then n else 0:Nat):Int)),.p (.bool (decide (Lib.nDigits n≤g)))]):=by
 refine AB.enter (Aj (by decide)) Tryz.func91 rfl (by kernel_rfl) (by simp [Tryz.ntmps91]) ?_
 have hl:=Lib.decDigits_length n
 by_cases hng:Lib.nDigits n≤g
 ·rw [if_pos hng,decide_eq_true hng]
  obtain ⟨d,hd⟩:∃ d,d=Lib.decDigits n:=⟨_,rfl⟩
  have hc:=cut_spec' n
  rw [← hd] at hl hc ⊢
  have hdig:∀ i,i<d.length→48≤(gi d i).toNat∧(gi d i).toNat≤57:=fun i hi=>zB (p:=fun c=>48≤c.toNat∧c.toNat≤57) (by rw [hd];exact Num.Jo n) i hi
  have hpv:∀ j,j≤d.length→Num.parse (d.take j)<1000000000000000000:=fun j hj=>by
   have h1:=Num.a1r (d.take j) (fun c hc=>by
    have hm:=List.mem_of_mem_take hc
    rw [hd] at hm
    exact Num.Jo n c hm)
   rw [List.length_take,Nat.min_eq_left hj] at h1
   have h2:10 ^ j≤10 ^ 18:=Nat.pow_le_pow_right (by decide) (by omega)
   exact Nat.lt_of_lt_of_le h1 h2
  repeat' (first|apply Ac.assoc|apply Ac.Ak|apply Ac.Ai|apply Ac.Ag|apply Ad.nil|apply Ad.one|(apply Aa.fn;rfl;rfl;exact hc;intro _;rfl)|(apply Aa.assign;rfl)|(apply Aa.move;rfl)|(apply Aa.int;rfl;rfl;rfl)|(apply Aa.lenV;rfl;rfl;rfl)|(apply Aa.SV;rfl;rfl)|(apply Aa.a2z;rfl;rfl;rfl;rfl;rfl;rfl;omega)|(apply Aa.extract;rfl;rfl)|(apply Ac.Ae;rfl)|(intro _;try (exfalso;omega)))
  refine Ac.Gp (fun j:Nat=>[(7,.p (.bool false)),(8,.p (.int .i64 ((Num.parse (d.take j):Nat):Int))),(21,.vec 0 d.length 0 d.length),(22,.p (.int .i64 d.length)),(23,.p (.int .i64 (j:Int)))])
   (fun _=>[(0,.vec 5 (cells d) d.length false)]) 1 (fun j=>j≤d.length) (fun j=>d.length-j) 0 (by omega) (by omega) ⟨Nat.le_refl _,?_,?_⟩ ?_
  ·exact EJ
  ·exact FM
  intro j hj
  have hv:=hpv j hj
  by_cases hlj:j<d.length
  ·have hd2:=hdig j hlj
   have hv2:=hpv (j+1) hlj
   rw [Num.parse_snoc' d j hlj] at hv2
   repeat' (first|apply Ac.Ak|apply Ac.region|apply Ac.Ai|apply Ac.Ag|apply Au.normal|apply Ap.normal|apply Ad.nil|apply Ad.one|(apply Aa.assign;rfl)|(apply Aa.move;rfl)|(apply Aa.BU;rfl;rfl;omega)|(apply Aa.a6j;rfl;rfl;omega)|(apply Aa.b3b (c:=48);rfl;rfl;omega)|(apply Aa.int;rfl;rfl;rfl)|(apply Aa.Io;rfl;rfl;omega;rfl)|(apply Aa.EY;rfl;rfl;rfl;rfl;omega)|(apply Aa.a2a;rfl;rfl;rfl;rfl;omega)|(apply Ac.Ae;rfl)|(intro _;try (exfalso;omega)))
   refine Ah.normal ⟨j+1,by omega,by omega,⟨by omega,?_,?_⟩⟩
   ·rw [Num.parse_snoc' d j hlj,Int.natCast_add,Int.natCast_mul];exact EJ
   ·exact FM
  ·have hjp:j=d.length:=by omega
   subst hjp
   repeat' (first|apply Ac.assoc|apply Ac.Ak|apply Ac.Ai|apply Ac.Bl|apply Au.normal|apply Ap.exit|apply Ah.exit|apply Ac.ret|apply Ad.nil|apply Ad.one|(apply Aa.assign;rfl)|(apply Aa.move;rfl)|(apply Aa.int;rfl;rfl;rfl)|(apply Ac.Aq;rfl)|(apply Ac.Ae;rfl)|(intro _;try (exfalso;omega)))
   ·refine Done.rt rfl rfl ⟨?_,rfl,rfl⟩
    rw [List.take_length,hd,vS]
 ·rw [if_neg hng,decide_eq_false hng]
  repeat' (first|apply Ac.assoc|apply Ac.Ak|apply Ac.BL|apply Ad.nil|apply Ad.one|(apply Aa.fn;rfl;rfl;exact cut_spec' n;intro _;rfl)|(apply Aa.assign;rfl)|(apply Aa.move;rfl)|(apply Aa.int;rfl;rfl;rfl)|(apply Aa.SV;rfl;rfl)|(apply Aa.extract;rfl;rfl)|(apply Ac.Ae;rfl)|(intro _;try (exfalso;omega)))
  ·refine Done.rt rfl rfl ⟨?_,rfl,rfl⟩
   rfl
end
section
open Go Go.Am Go.Vm
attribute [local irreducible] Aa Ad Af Ac Ba AB BG Au Ap Ah Vm.Done BQ AY
def b9v (a b:Nat):Int:=if a<b then -1 else if b<a then 1 else 0
end
end Go.Proofs.YtnjkoebfgcbbdaaGreatDoor
namespace Go.Vm
open Go.Am
theorem SE {n:Int} (h0:n<0) (h:-18446744073709551616≤n):IntKind.u64.wrap n=n+18446744073709551616:=by
 have e:IntKind.u64.wrap n=n % 2^64:=by
  simp [IntKind.wrap,IntKind.signed,IntKind.bits]
  try omega
 rw [e]
 omega
section
variable {E:Env} {L:Frame} {H:Heap} {nx:Nat} {Q:PV→Heap→Nat→Prop} {w:Bool}
variable {dst:Option Tmp} {ty:TypeId} {pos:String} {af:Array Edge} {gd:Option (Nat×Bool)}
theorem Aa.b0i {s d:TypeId} {x:Operand} {k':IntKind} {n:Int} {sd:TypeDesc} (hx:Bh E.Γ L x=some (.p (.int k' n))) (hs:E.P.underlying s=some sd) (hns:jf sd=true) (hd:E.P.underlying d=some (.int .u64)) (hn:n<0∧-18446744073709551616≤n) (q:Q (.p (.int .u64 (n+18446744073709551616))) H nx) :
 Aa E w ⟨dst,.convert s d x,ty,pos,af,gd⟩ L H nx Q:=Aa.Wn hx hs hns hd (by rw [SE hn.1 hn.2];exact q)
theorem Aa.b5u {t:TypeId} {x:Operand} {a:Int} (hx:Bh E.Γ L x=some (.p (.int .u64 a))) (h:0<a∧a<18446744073709551616) (q:Q (.p (.int .u64 (18446744073709551616-a))) H nx):Aa E w ⟨dst,.unOp .neg t x,ty,pos,af,gd⟩ L H nx Q :=
 Aa.quiet q fun m F σ tt c1 c2=>by
  refine ⟨.int .u64 (18446744073709551616-a),fun _=>?_,.p (.int _ _)⟩
  have hd:DJ E.P (Op.unary .neg (.int .u64 a))=some (.int .u64 (18446744073709551616-a)):=by
   simp only [Op.unary,Op.intArith,Int.zero_sub,SE (n:=-a) (by omega) (by omega)]
   rw [show -a+18446744073709551616=18446744073709551616-a by omega]
   rfl
  simp only [Ce,EX,Dc c1 c2 hx]
  rw [show plain (Value.int IntKind.u64 a)=true from rfl]
  simp only [if_true,KJ hd rfl,Option.map_some]
theorem Aa.makeFunc {f:FuncId} {fs cs:Array Operand} {pf pc:List PV} (hf:evs E.Γ L fs.toList=some pf) (hc:evs E.Γ L cs.toList=some pc) (q:Q (.clo f pf pc) H nx):Aa E w ⟨dst,.makeFunc (.func f) fs cs,ty,pos,af,gd⟩ L H nx Q :=
 Aa.quiet q fun m F σ tt c1 c2=>by
  refine ⟨.func (.func f) (fs.toList.map (ev tt)).toArray (cs.toList.map (ev tt)).toArray,fun _=>?_,.clo (PX c1 c2 hf) (PX c1 c2 hc)⟩
  simp only [Ce,EX,Option.map_some,← Array.toList_map,Array.toArray_toList]
end
end Go.Vm
namespace Go.Proofs.YtnjkoebfgcbbdaaGreatDoor
section
open Go Go.Am Go.Vm
attribute [local irreducible] Aa Ad Af Ac Ba AB BG Au Ap Ah Vm.Done BQ AY
structure Me where
 num:Int
 den:Int
instance:Enc Me:={ default:=⟨0,0⟩,enc:=fun x=>[.int .i64 x.num,.int .i64 x.den],size:=2,len:=fun _=>rfl }
theorem Xl (n:Int) (h:-9223372036854775808≤n∧n<9223372036854775808):AB env 198 [.int .i64 n] (.p (.int .u64 ((n.natAbs:Nat):Int))):=by
 refine AB.enter (Aj (by decide)) Tryz.func198 rfl (by kernel_rfl) (by simp [Tryz.ntmps198]) ?_
 repeat' (first|apply Ac.assoc|apply Ac.Ak|apply Ac.Ai|apply Ac.BL|apply Ac.ret|apply Ad.nil|apply Ad.one|(apply Aa.b0i;rfl;rfl;rfl;rfl;omega)|(apply Aa.b5u;rfl;omega)|(apply Aa.assign;rfl)|(apply Aa.move;rfl)|(apply Aa.int;rfl;rfl;rfl)|(apply Aa.a7e;rfl;rfl;rfl;rfl;omega)|(apply Ac.Ae;rfl)|(intro _;try (exfalso;omega)))
 all_goals (refine Done.rt rfl rfl ⟨?_,rfl,rfl⟩;refine PV.int_eq ?_;omega)
theorem zl (a b:Nat) (ha:a<18446744073709551616) (hb:b<18446744073709551616):AB env 197 [.int .u64 (a:Int),.int .u64 (b:Int)] (.p (.int .u64 ((Nat.gcd a b:Nat):Int))):=by
 refine AB.enter (Aj (by decide)) Tryz.func197 rfl (by kernel_rfl) (by simp [Tryz.ntmps197]) ?_
 repeat' (first|apply Ac.Ak|apply Ac.Ag|apply Ad.nil|apply Ad.one|(apply Aa.assign;rfl))
 refine Ac.Gp (fun s:Nat×Nat=>[(0,.p (.int .u64 (s.1:Int))),(1,.p (.int .u64 (s.2:Int)))]) (fun _=>[]) 0 (fun s=>s.1<18446744073709551616∧s.2<18446744073709551616∧Nat.gcd s.1 s.2=Nat.gcd a b) (fun s=>s.2) (a,b) (Nat.le_refl _) ⟨ha,hb,rfl⟩ ⟨Nat.le_refl _,?_,trivial⟩ ?_
 ·exact EJ
 rintro ⟨x,y⟩ ⟨hx,hy,hg⟩
 simp only at hx hy hg
 have hmod:0<y→x % y<y:=fun h=>Nat.mod_lt _ h
 repeat' (first|apply Ac.assoc|apply Ac.Ak|apply Ac.Gv|apply Ac.Ai|apply Ac.Bl|apply Au.normal|apply Ap.normal|apply Ap.exit|apply Ah.exit|apply Ac.ret|apply Ac.NI|apply Ad.nil|apply Af.nil|apply Ad.one|(apply Af.bar;decide +kernel)|(apply Aa.assign;rfl)|(apply Aa.move;rfl)|(apply Aa.b2x;rfl;rfl;omega)|(apply Aa.int;rfl;rfl;rfl)|(apply Ac.Ae;rfl)|(intro _;try (exfalso;omega)))
 ·rename_i h1
  have hy0:0<y:=by omega
  refine Ah.normal ⟨(y,x % y),⟨hy,by have:=hmod hy0;omega,?_⟩,hmod hy0,⟨Nat.le_refl _,?_,trivial⟩⟩
  ·rw [← hg,Nat.gcd_comm x y,Nat.gcd_rec y x,Nat.gcd_comm]
  ·exact EJ
 ·rename_i h1
  refine Done.rt rfl rfl ⟨?_,rfl,rfl⟩
  have hy0:y=0:=by omega
  subst hy0
  rw [← hg,Nat.gcd_zero_right]
def yC (x:Me):Prop:=0<x.den∧x.den≤1000000∧-1000000≤x.num∧x.num≤1000000∧Nat.gcd x.num.natAbs x.den.toNat=1
instance (x:Me):Decidable (yC x):=by unfold yC;infer_instance
def a4d (x:Me):Int:=if yC x then 0 else 2
theorem iI (x:Me):AB env 178 [.agg (Enc.enc x)] (.p (.int .i64 (a4d x))):=by
 refine AB.enter (Aj (by decide)) Tryz.func178 rfl (by kernel_rfl) (by simp [Tryz.ntmps178]) ?_
 have hd:0<x.den→((x.den.toNat:Nat):Int)=x.den:=fun h=>Int.toNat_of_nonneg (Int.le_of_lt h)
 have hg:0<x.den→x.den≤1000000→-1000000≤x.num→x.num≤1000000→AB env 197 [.int .u64 ((x.num.natAbs:Nat):Int),.int .u64 x.den] (.p (.int .u64 ((Nat.gcd x.num.natAbs x.den.toNat:Nat):Int))):=fun h1 h2 h3 h4=>by
  have:=zl x.num.natAbs x.den.toNat (by omega) (by omega)
  rwa [hd h1] at this
 repeat' (first|apply Ac.assoc|apply Ac.Ak|apply Ac.Dq|apply Ac.Ai|apply Ac.BL|apply Ac.ret|apply Ad.nil|apply Af.nil|apply Ad.one|(apply Af.bar;decide +kernel)|(apply Af.FK;rfl;rfl)|(apply Af.drop;rfl;rfl;rfl)|(apply Af.guard;rfl;rfl)|(apply Aa.fn;rfl;rfl;exact Xl _ (by omega);intro _;rfl)|(apply Aa.fn;rfl;rfl;exact hg (by omega) (by omega) (by omega) (by omega);intro _;rfl)|(apply Aa.assign;rfl)|(apply Aa.move;rfl)|(apply Aa.int;rfl;rfl;rfl)|(apply Aa.load;rfl;rfl)|(apply Aa.Bc;rfl;rfl)|(apply Aa.AL;rfl;rfl)|(apply Aa.Aw;rfl;rfl;rfl)|(apply Aa.box;rfl;trivial)|(apply Aa.a7e;rfl;rfl;rfl;rfl;omega)|(apply Ac.Bf;rfl)|(apply Ac.Ae;rfl)|(intro _;try (exfalso;omega)))
 all_goals (refine Done.rt rfl rfl ⟨?_,rfl,rfl⟩;refine PV.int_eq ?_;unfold a4d;first|(rw [if_neg (show ¬ yC x from fun h=>by unfold yC at h;omega)];done)|(rw [if_pos (show yC x from by unfold yC;omega)];done))
end
section
open Go Go.Am Go.Vm
attribute [local irreducible] Aa Ad Af Ac Ba AB BG Au Ap Ah Vm.Done BQ AY
def pOk (x:Me):Prop:=yC x∧0<x.num∧x.num≤128*x.den∧x.den≤128
instance (x:Me):Decidable (pOk x):=by unfold pOk;infer_instance
def Qb (x:Me):Int:=if ¬ yC x then 2 else if x.num≤0∨x.num>128*x.den then 3 else if x.den>128 then 4 else 0
theorem a4m {x:Me}:Qb x=0↔pOk x:=by
 unfold Qb pOk
 by_cases h1:yC x
 ·rw [if_neg (Classical.not_not.2 h1)]
  split
  ·constructor
   ·intro h;cases h
   ·rintro ⟨_,_,_,_⟩;omega
  ·split
   ·constructor
    ·intro h;cases h
    ·rintro ⟨_,_,_,_⟩;omega
   ·exact ⟨fun _=>⟨h1,by omega,by omega,by omega⟩,fun _=>rfl⟩
 ·rw [if_pos h1]
  exact ⟨fun h=>(by cases h),fun h=>absurd h.1 h1⟩
theorem VE (x:Me):AB env 154 [.agg (Enc.enc x)] (.p (.int .i64 (Qb x))):=by
 have hc:=iI x
 refine AB.enter (Aj (by decide)) Tryz.func154 rfl (by kernel_rfl) (by simp [Tryz.ntmps154]) ?_
 by_cases h1:yC x
 ·rw [show a4d x=0 from if_pos h1] at hc
  have h1':=h1
  obtain ⟨h2,h3,h4,h5,-⟩:=h1'
  have e:Qb x=if x.num≤0∨x.num>128*x.den then 3 else if x.den>128 then 4 else 0:=by unfold Qb;rw [if_neg (Classical.not_not.2 h1)]
  rw [e]
  repeat' (first|apply Ac.Ak|apply Ac.Ag|apply Au.normal|apply Au.ret|apply Ap.normal|apply Ap.ret|apply Ac.ret|apply Ac.skip|apply Ad.nil|apply Ad.one|(apply Ad.take;rfl;rfl)|(apply Ad.drop;rfl;rfl;rfl)|(apply Ad.guard;rfl;rfl)|(apply Aa.fn;rfl;rfl;exact hc;intro _;rfl)|(apply Aa.assign;rfl)|(apply Aa.move;rfl)|(apply Aa.a6j;rfl;rfl;omega)|(apply Aa.int;rfl;rfl;rfl)|(apply Aa.load;rfl;rfl)|(apply Aa.Bc;rfl;rfl)|(apply Aa.AL;rfl;rfl)|(apply Aa.Aw;rfl;rfl;rfl)|(apply Aa.box;rfl;trivial)|(apply Ac.cond_true;rfl)|(apply Ac.cond_false;rfl)|(apply Ac.AZ;rfl)|(intro _;try (exfalso;omega)))
  all_goals first|(exfalso;omega)|(rw [if_pos (by omega)];(refine Done.rt rfl rfl ⟨?_,rfl,rfl⟩;try rfl);done)|(rw [if_neg (by omega),if_pos (by omega)];(refine Done.rt rfl rfl ⟨?_,rfl,rfl⟩;try rfl);done)|(rw [if_neg (by omega),if_neg (by omega)];(refine Done.rt rfl rfl ⟨?_,rfl,rfl⟩;try rfl);done)
 ·rw [show a4d x=2 from if_neg h1] at hc
  rw [show Qb x=2 from if_pos h1]
  repeat' (first|apply Ac.Ak|apply Ac.Ag|apply Au.ret|apply Ap.ret|apply Ac.ret|apply Ad.nil|apply Ad.one|(apply Aa.fn;rfl;rfl;exact hc;intro _;rfl)|(apply Aa.assign;rfl)|(apply Aa.int;rfl;rfl;rfl)|(apply Aa.load;rfl;rfl)|(apply Aa.box;rfl;trivial)|(apply Ac.cond_true;rfl))
  all_goals (refine Done.rt rfl rfl ⟨?_,rfl,rfl⟩;try rfl)
def bothR (x y:Me):Int:=if Qb x≠0 then Qb x else Qb y
def sh1 (den:Nat):Nat→Nat→Int→Nat×Int
 |0,num,n=>(num,n)
 |f+1,num,n=>if num<den then sh1 den f (num*2) (n-12) else (num,n)
def sh2 (num:Nat):Nat→Nat→Int→Nat×Int
 |0,den,n=>(den,n)
 |f+1,den,n=>if 2*den≤num then sh2 num f (den*2) (n+12) else (den,n)
def sh3 (p:Nat):Nat→Nat→Int→Int
 |0,l,n=>n
 |f+1,l,n=>if l<p then sh3 p f (l*4) (n+1) else n
def shN (num den:Nat):Int :=
 let a:=sh1 den 30 num 0
 let b:=sh2 a.1 30 den a.2
 sh3 (a.1 ^ 24) 30 (b.1 ^ 24*2) b.2
def shz (x y:Me):Int:=shN (y.num*x.den).toNat (y.den*x.num).toNat
def BH (x y:Me):Int×Int:=if bothR x y≠0 then (0,bothR x y) else (shz x y,0)
end
section
open Go Go.Am Go.Vm
attribute [local irreducible] Aa Ad Af Ac Ba AB BG Au Ap Ah Vm.Done BQ AY
structure IE where
 name:List UInt8
 MB:List UInt8
 Fv:Me
 first:Int
 FN:List Int
instance:Enc IE:={ default:=⟨[],[],⟨0,0⟩,0,[]⟩,enc:=fun r=>[.str (bs r.name),.str (bs r.MB),.int .i64 r.Fv.num,.int .i64 r.Fv.den,.int .i64 r.first,.lst 3 (cells r.FN) r.FN.length],size:=6,len:=fun _=>rfl }
theorem PV.H9 {a b:Bool} (h:a=b):PV.p (.bool a)=PV.p (.bool b):=by rw [h]
def ku (x:Int):Prop:=x<0∨x>1000000
instance (x:Int):Decidable (ku x):=by unfold ku;infer_instance
theorem a2j (x:Int):AB env 180 [.int .i64 x] (.p (.bool (decide (ku x)))):=by
 refine AB.enter (Aj (by decide)) Tryz.func180 rfl (by kernel_rfl) (by simp [Tryz.ntmps180]) ?_
 repeat' (first|apply Ac.Ak|apply Ac.ret|apply Ad.nil|apply Ad.one|(apply Ad.take;rfl;rfl)|(apply Ad.drop;rfl;rfl;rfl)|(apply Ad.guard;rfl;rfl)|(apply Aa.assign;rfl)|(apply Aa.move;rfl)|(apply Aa.int;rfl;rfl;rfl)|(apply Aa.Bc;rfl;rfl)|(apply Aa.AL;rfl;rfl)|(intro _;try (exfalso;omega)))
 all_goals (refine Done.rt rfl rfl ⟨?_,rfl,rfl⟩;refine PV.H9 ?_;first|(refine decide_eq_decide.2 ⟨fun h=>by unfold ku;omega,fun h=>by unfold ku at h;omega⟩)|(symm;apply decide_eq_true;unfold ku;omega))
def okW (l:List Int):Prop:=∀ i,i<l.length→¬ ku (gi l i)
noncomputable instance (l:List Int):Decidable (okW l):=Classical.propDecidable _
noncomputable def Bq (l:List Int):Int:=if okW l then 0 else 3
theorem a8x {L:Vm.Frame} {H:Vm.Heap} {nx:Nat} {Q:PV→Vm.Heap→Nat→Prop} {dst:Option Tmp} {ty:TypeId} {pos:String} {af:Array Edge} {gd:Option (Nat×Bool)} {fo:Operand} {args:Array Operand} {aT:Array TypeId} {fs cs xs:List PV} {c:Code}
 (hf:Bh env.Γ L fo=some (.clo 179 fs cs)) (ha:evs env.Γ L args.toList=some xs) (hb:Tryz.f179.body=some c) (hn:(fs++xs++cs).length≤Tryz.f179.ntmps)
 (h:Ac env nx c (CP 0 (fs++xs++cs)) H nx (AY env.P Tryz.f179.results.toList Q)):Aa env true ⟨dst,.call { callee:=.value fo,args:=args,argTypes:=aT },ty,pos,af,gd⟩ L H nx Q:=by
 have h0:(match Tryz.f179.body with|some c=>Ij env.G Tryz.f179 c|none=>false)=true:=by kernel_rfl
 rw [hb] at h0
 exact Aa.inline rfl hf ha (Aj (by decide)) Tryz.func179 hb h0 hn h
theorem a7r {L:Vm.Frame} {H:Vm.Heap} {nx:Nat} {Q:PV→Vm.Heap→Nat→Prop} {dst:Option Tmp} {ty:TypeId} {pos:String} {af:Array Edge} {gd:Option (Nat×Bool)} {fo:Operand} {args:Array Operand} {aT:Array TypeId} {fs cs xs:List PV} {c:Code}
 (hf:Bh env.Γ L fo=some (.clo 160 fs cs)) (ha:evs env.Γ L args.toList=some xs) (hb:Tryz.f160.body=some c) (hn:(fs++xs++cs).length≤Tryz.f160.ntmps)
 (h:Ac env nx c (CP 0 (fs++xs++cs)) H nx (AY env.P Tryz.f160.results.toList Q)):Aa env true ⟨dst,.call { callee:=.value fo,args:=args,argTypes:=aT },ty,pos,af,gd⟩ L H nx Q:=by
 have h0:(match Tryz.f160.body with|some c=>Ij env.G Tryz.f160 c|none=>false)=true:=by kernel_rfl
 rw [hb] at h0
 exact Aa.inline rfl hf ha (Aj (by decide)) Tryz.func160 hb h0 hn h
theorem qj (l:List Int) (hl:l.length<9223372036854775808):AB env 156 [.lst 3 (cells l) l.length] (.p (.int .i64 (Bq l))):=by
 refine AB.enter (Aj (by decide)) Tryz.func156 rfl (by kernel_rfl) (by simp [Tryz.ntmps156]) ?_
 repeat' (first|apply Ac.assoc|apply Ac.Ak|apply Ac.Ag|apply Ad.nil|apply Ad.one|(apply a8x;rfl;rfl;rfl;exact le_dec rfl)|(apply a7r;rfl;rfl;rfl;exact le_dec rfl)|(apply Aa.assign;rfl)|(apply Aa.move;rfl)|(apply Aa.CX;rfl;rfl))
 refine Ac.Gp (fun k:Nat=>[(0,lst 3 l),(1,.clo 180 [] []),(7,.p (.int .i64 (l.length:Int))),(8,.p (.int .i64 (k:Int)))]) (fun _=>[]) 0 (fun k=>k≤l.length∧∀ i,i<k→¬ ku (gi l i)) (fun k=>l.length-k) 0 (by omega) ⟨by omega,fun i hi=>by omega⟩ ⟨by omega,?_,?_⟩ ?_
 ·exact EJ
 ·exact Ci.nil
 rintro k ⟨hk,hok⟩
 have hw:=a2j (gi l k)
 repeat' (first|apply Ac.assoc|apply Ac.Ak|apply Ac.region|apply Ac.Ai|apply Ac.BL|apply Ac.Bl|apply Ac.Ag|apply Au.normal|apply Au.ret|(apply AY.ret;rfl)|apply Ap.normal|apply Ap.ret|apply Ap.exit|apply Ah.ret|apply Ah.exit|apply Ac.ret|apply Ac.skip|apply Ad.nil|apply Ad.one|(apply Aa.fn;rfl;rfl;exact hw;intro _;rfl)|(apply Aa.assign;rfl)|(apply Aa.move;rfl)|(apply Aa.BU;rfl;rfl;omega)|(apply Aa.int;rfl;rfl;rfl)|(apply Aa.AP;rfl;rfl;rfl;omega;rfl)|(apply Aa.load;rfl;rfl)|(apply Ac.Bf;rfl)|(apply Ac.Aq;rfl)|(apply Ac.Ae;rfl)|(apply Ac.AZ;rfl)|(intro _;try (exfalso;omega)))
 ·rename_i a1 a2
  rw [show Bq l=3 from if_neg (fun h=>h k (by omega) a2)]
  (refine Done.rt rfl rfl ⟨?_,rfl,rfl⟩;try rfl)
 ·rename_i a1 a2
  refine Ah.normal ⟨k+1,⟨by omega,fun i hi=>?_⟩,by omega,⟨by omega,?_,?_⟩⟩
  ·rcases Nat.lt_or_ge i k with h|h
   ·exact hok i h
   ·obtain rfl:i=k:=by omega
    exact a2
  ·exact EJ
  ·exact Ci.nil
 ·rename_i a1
  rw [show Bq l=0 from if_pos (fun i hi=>hok i (by omega))]
  (refine Done.rt rfl rfl ⟨?_,rfl,rfl⟩;try rfl)
def oO (c:Nat):Prop:=(65≤c∧c≤90)∨(97≤c∧c≤122)
instance (c:Nat):Decidable (oO c):=by unfold oO;infer_instance
def nmC (c:Nat):Prop:=oO c∨(48≤c∧c≤57)∨c=95
theorem VG (c:Nat) (hc:c<256):AB env 153 [.int .u8 (c:Int)] (.p (.bool (decide (oO c)))):=by
 refine AB.enter (Aj (by decide)) Tryz.func153 rfl (by kernel_rfl) (by simp [Tryz.ntmps153]) ?_
 repeat' (first|apply Ac.Ak|apply Ac.ret|apply Ad.nil|apply Ad.one|(apply Ad.take;rfl;rfl)|(apply Ad.drop;rfl;rfl;rfl)|(apply Ad.guard;rfl;rfl)|(apply Ad.Sz;rfl;rfl)|(apply Aa.assign;rfl)|(apply Aa.move;rfl)|(apply Aa.int;rfl;rfl;rfl)|(apply Aa.Bc;rfl;rfl)|(apply Aa.AL;rfl;rfl)|(intro _;try (exfalso;omega)))
 all_goals (refine Done.rt rfl rfl ⟨?_,rfl,rfl⟩;refine PV.H9 ?_;first|(refine decide_eq_decide.2 ⟨fun h=>by unfold oO;omega,fun h=>by unfold oO at h;omega⟩)|(symm;apply decide_eq_true;unfold oO;omega)|(symm;apply decide_eq_false;unfold oO;omega))
def EC (s:List UInt8):Prop:=0<s.length∧s.length≤32∧oO (gi s 0).toNat∧∀ i,1≤i→i<s.length→nmC (gi s i).toNat
noncomputable instance (s:List UInt8):Decidable (EC s):=Classical.propDecidable _
theorem Ht (s:List UInt8) (hs:s.length<9223372036854775808):AB env 117 [.str (bs s)] (.p (.bool (decide (EC s)))):=by
 have hl0:=VG (gi s 0).toNat (gi s 0).toNat_lt
 by_cases hz:s=[]
 ·subst hz
  rw [decide_eq_false (show ¬ EC [] from fun h=>absurd h.1 (by decide))]
  refine AB.enter (Aj (by decide)) Tryz.func117 rfl (by kernel_rfl) (by simp [Tryz.ntmps117]) ?_
  repeat' (first|apply Ac.assoc|apply Ac.Ak|apply Ac.BL|apply Ad.nil|apply Ad.one|(apply Ad.drop;rfl;rfl;rfl)|(apply Aa.assign;rfl)|(apply Aa.move;rfl)|(apply Aa.Bc;rfl;rfl)|(apply Aa.eqS;rfl;rfl)|(apply Ac.Bf;rfl))
  all_goals first|(refine Done.rt rfl rfl ⟨?_,rfl,rfl⟩;try rfl)|contradiction
 ·have hpos:0<s.length:=List.length_pos_iff.2 hz
  refine AB.enter (Aj (by decide)) Tryz.func117 rfl (by kernel_rfl) (by simp [Tryz.ntmps117]) ?_
  by_cases h32:s.length≤32
  ·by_cases hL:oO (gi s 0).toNat
   ·rw [decide_eq_true hL] at hl0
    repeat' (first|apply Ac.assoc|apply Ac.Ak|apply Ac.Ai|apply Ac.BL|apply Ac.Ag|apply Ad.nil|apply Ad.one|(apply Ad.take;rfl;rfl)|(apply Ad.drop;rfl;rfl;rfl)|(apply Ad.guard;rfl;rfl)|(apply Aa.fn;rfl;rfl;exact hl0;intro _;rfl)|(apply Aa.Tc (i:=0);rfl;rfl;rfl;omega)|(apply Aa.assign;rfl)|(apply Aa.move;rfl)|(apply Aa.int;rfl;rfl;rfl)|(apply Aa.Bc;rfl;rfl)|(apply Aa.AL;rfl;rfl)|(apply Aa.SV;rfl;rfl)|(apply Aa.eqS;rfl;rfl)|(apply Aa.not;rfl)|(apply Ac.Bf;rfl)|(apply Ac.Aq;rfl)|(intro _;try (exfalso;omega)))
    all_goals try (exfalso;omega)
    all_goals try contradiction
    refine Ac.Gp (fun k:Nat=>[(0,st s),(3,.p (.int .i64 (k:Int)))]) (fun _=>[]) 0 (fun k=>1≤k∧k≤s.length∧∀ i,1≤i→i<k→nmC (gi s i).toNat) (fun k=>s.length-k) 1 (by omega) ⟨by omega,by omega,fun i h1 h2=>by omega⟩ ⟨by omega,?_,?_⟩ ?_
    ·exact EJ
    ·exact Ci.nil
    rintro k ⟨hk1,hk2,hok⟩
    have hlk:=VG (gi s k).toNat (gi s k).toNat_lt
    have hc256:=(gi s k).toNat_lt
    have hnext:nmC (gi s k).toNat→∀ i,1≤i→i<k+1→nmC (gi s i).toNat:=fun h i h1 h2=>by
     rcases Nat.lt_or_ge i k with h3|h3
     ·exact hok i h1 h3
     ·obtain rfl:i=k:=by omega
      exact h
    have hbad:k<s.length→¬ nmC (gi s k).toNat→decide (EC s)=false:=fun h1 h2=>decide_eq_false fun h=>h2 (h.2.2.2 k hk1 h1)
    by_cases hkl:k<s.length
    ·by_cases hLk:oO (gi s k).toNat
     ·rw [decide_eq_true hLk] at hlk
      repeat' (first|apply Ac.assoc|apply Ac.Ak|apply Ac.region|apply Ac.Ai|apply Ac.Ag|apply Au.normal|apply Ap.normal|apply Ac.skip|apply Ad.nil|apply Ad.one|(apply Ad.drop;rfl;rfl;rfl)|(apply Ad.Sz;rfl;rfl)|(apply Aa.fn;rfl;rfl;exact hlk;intro _;rfl)|(apply Aa.assign;rfl)|(apply Aa.move;rfl)|(apply Aa.BU;rfl;rfl;omega)|(apply Aa.int;rfl;rfl;rfl)|(apply Aa.AL;rfl;rfl)|(apply Aa.SV;rfl;rfl)|(apply Aa.Tc;rfl;rfl;rfl;omega)|(apply Aa.not;rfl)|(apply Ac.Ae;rfl)|(apply Ac.cond_false;rfl)|(intro _;try (exfalso;omega)))
      all_goals try (exfalso;omega)
      refine Ah.normal ⟨k+1,⟨by omega,by omega,hnext (.inl hLk)⟩,by omega,⟨by omega,?_,?_⟩⟩
      ·exact EJ
      ·exact Ci.nil
     ·rw [decide_eq_false hLk] at hlk
      have hn1:nmC (gi s k).toNat↔(48≤(gi s k).toNat∧(gi s k).toNat≤57)∨(gi s k).toNat=95:=⟨fun h=>h.resolve_left hLk,fun h=>.inr h⟩
      repeat' (first|apply Ac.assoc|apply Ac.Ak|apply Ac.region|apply Ac.Ai|apply Ac.Ag|apply Au.normal|apply Au.ret|apply Ap.normal|apply Ap.ret|apply Ah.ret|apply Ac.ret|apply Ac.skip|apply Ad.nil|apply Ad.one|(apply Ad.take;rfl;rfl)|(apply Ad.drop;rfl;rfl;rfl)|(apply Ad.guard;rfl;rfl)|(apply Aa.fn;rfl;rfl;exact hlk;intro _;rfl)|(apply Aa.assign;rfl)|(apply Aa.move;rfl)|(apply Aa.BU;rfl;rfl;omega)|(apply Aa.int;rfl;rfl;rfl)|(apply Aa.Bc;rfl;rfl)|(apply Aa.AL;rfl;rfl)|(apply Aa.SV;rfl;rfl)|(apply Aa.Tc;rfl;rfl;rfl;omega)|(apply Aa.not;rfl)|(apply Ac.Ae;rfl)|(apply Ac.cond_false;rfl)|(apply Ac.AZ;rfl)|(intro _;try (exfalso;omega)))
      all_goals try (exfalso;omega)
      all_goals first
       |(rw [hbad hkl (fun h=>by have:=hn1.1 h;omega)];(refine Done.rt rfl rfl ⟨?_,rfl,rfl⟩;try rfl);done)
       |(refine Ah.normal ⟨k+1,⟨by omega,by omega,hnext (hn1.2 (by omega))⟩,by omega,⟨by omega,?_,Ci.nil⟩⟩;exact EJ)
    ·obtain rfl:k=s.length:=by omega
     rw [decide_eq_true (show EC s from ⟨hpos,h32,hL,fun i h1 h2=>hok i h1 h2⟩)]
     repeat' (first|apply Ac.assoc|apply Ac.Ak|apply Ac.Bl|apply Au.normal|apply Ap.exit|apply Ah.exit|apply Ac.ret|apply Ad.nil|apply Ad.one|(apply Aa.assign;rfl)|(apply Aa.move;rfl)|(apply Aa.int;rfl;rfl;rfl)|(apply Aa.SV;rfl;rfl)|(apply Ac.Ae;rfl)|(intro _;try (exfalso;omega)))
     all_goals first|(exfalso;omega)|(refine Done.rt rfl rfl ⟨?_,rfl,rfl⟩;try rfl)
   ·rw [decide_eq_false (show ¬ EC s from fun h=>hL h.2.2.1)]
    rw [decide_eq_false hL] at hl0
    repeat' (first|apply Ac.assoc|apply Ac.Ak|apply Ac.BL|apply Ad.nil|apply Ad.one|(apply Ad.take;rfl;rfl)|(apply Ad.drop;rfl;rfl;rfl)|(apply Ad.guard;rfl;rfl)|(apply Aa.fn;rfl;rfl;exact hl0;intro _;rfl)|(apply Aa.Tc (i:=0);rfl;rfl;rfl;omega)|(apply Aa.assign;rfl)|(apply Aa.move;rfl)|(apply Aa.int;rfl;rfl;rfl)|(apply Aa.Bc;rfl;rfl)|(apply Aa.AL;rfl;rfl)|(apply Aa.SV;rfl;rfl)|(apply Aa.eqS;rfl;rfl)|(apply Aa.not;rfl)|(apply Ac.Bf;rfl)|(intro _;try (exfalso;omega)))
    all_goals first|(exfalso;omega)|contradiction|(refine Done.rt rfl rfl ⟨?_,rfl,rfl⟩;try rfl)
  ·rw [decide_eq_false (show ¬ EC s from fun h=>h32 h.2.1)]
   repeat' (first|apply Ac.assoc|apply Ac.Ak|apply Ac.BL|apply Ad.nil|apply Ad.one|(apply Ad.take;rfl;rfl)|(apply Ad.drop;rfl;rfl;rfl)|(apply Ad.guard;rfl;rfl)|(apply Aa.assign;rfl)|(apply Aa.move;rfl)|(apply Aa.int;rfl;rfl;rfl)|(apply Aa.Bc;rfl;rfl)|(apply Aa.AL;rfl;rfl)|(apply Aa.SV;rfl;rfl)|(apply Aa.eqS;rfl;rfl)|(apply Ac.Bf;rfl)|(intro _;try (exfalso;omega)))
   all_goals first|(exfalso;omega)|contradiction|(refine Done.rt rfl rfl ⟨?_,rfl,rfl⟩;try rfl)
noncomputable def CV (r:IE):Int:=if ¬ EC r.name∨¬ EC r.MB then 8 else if Qb r.Fv≠0 then Qb r.Fv else if r.first< -256∨r.first>256 then 3 else if r.FN.length=0 then 13 else if r.FN.length>128 then 4 else Bq r.FN
def OW (n:Int):Prop:=-256≤n∧n≤256
instance (n:Int):Decidable (OW n):=by unfold OW;infer_instance
theorem qL (n:Int):AB env 155 [.int .i64 n] (.p (.bool (decide (OW n)))):=by
 refine AB.enter (Aj (by decide)) Tryz.func155 rfl (by kernel_rfl) (by simp [Tryz.ntmps155]) ?_
 repeat' (first|apply Ac.Ak|apply Ac.ret|apply Ad.nil|apply Ad.one|(apply Ad.take;rfl;rfl)|(apply Ad.drop;rfl;rfl;rfl)|(apply Ad.guard;rfl;rfl)|(apply Aa.assign;rfl)|(apply Aa.move;rfl)|(apply Aa.int;rfl;rfl;rfl)|(apply Aa.Bc;rfl;rfl)|(apply Aa.AL;rfl;rfl)|(intro _;try (exfalso;omega)))
 all_goals (refine Done.rt rfl rfl ⟨?_,rfl,rfl⟩;refine PV.H9 ?_;first|(refine decide_eq_decide.2 ⟨fun h=>by unfold OW;omega,fun h=>by unfold OW at h;omega⟩)|(symm;apply decide_eq_false;unfold OW;omega))
theorem Vs (r:IE) (h1:r.name.length<9223372036854775808) (h2:r.MB.length<9223372036854775808) (h3:r.FN.length<9223372036854775808):AB env 118 [.agg (Enc.enc r)] (.p (.int .i64 (CV r))):=by
 have n1:=Ht r.name h1
 have n2:=Ht r.MB h2
 have p1:=VE r.Fv
 have f1:=qL r.first
 have w1:=qj r.FN h3
 unfold CV
 refine AB.enter (Aj (by decide)) Tryz.func118 rfl (by kernel_rfl) (by simp [Tryz.ntmps118]) ?_
 by_cases a1:EC r.name
 ·rw [decide_eq_true a1] at n1
  by_cases a2:EC r.MB
  ·rw [decide_eq_true a2] at n2
   rw [if_neg (fun h=>h.elim (fun h=>h a1) (fun h=>h a2))]
   by_cases a3:OW r.first
   ·rw [decide_eq_true a3] at f1
    unfold OW at a3
    repeat' (first|apply Ac.assoc|apply Ac.Ak|apply Ac.Ai|apply Ac.BL|apply Ac.Ag|apply Au.normal|apply Au.ret|apply Ap.normal|apply Ap.ret|apply Ac.ret|apply Ac.skip|apply Ad.nil|apply Ad.one|(apply Ad.take;rfl;rfl)|(apply Aa.fn;rfl;rfl;exact n1;intro _;rfl)|(apply Aa.fn;rfl;rfl;exact n2;intro _;rfl)|(apply Aa.fn;rfl;rfl;exact p1;intro _;rfl)|(apply Aa.fn;rfl;rfl;exact f1;intro _;rfl)|(apply Aa.fn;rfl;rfl;exact w1;intro _;rfl)|(apply Aa.assign;rfl)|(apply Aa.move;rfl)|(apply Aa.int;rfl;rfl;rfl)|(apply Aa.load;rfl;rfl)|(apply Aa.AL;rfl;rfl)|(apply Aa.CX;rfl;rfl)|(apply Aa.Aw;rfl;rfl;rfl)|(apply Aa.box;rfl;trivial)|(apply Aa.not;rfl)|(apply Ac.Aq;rfl)|(apply Ac.Ae;rfl)|(apply Ac.cond_false;rfl)|(apply Ac.AZ;rfl)|(intro _;try (exfalso;omega)))
    all_goals first
     |(rw [if_pos (by assumption)];(refine Done.rt rfl rfl ⟨?_,rfl,rfl⟩;try rfl);done)
     |(rw [if_neg (by assumption),if_neg (by omega),if_pos (by omega)];(refine Done.rt rfl rfl ⟨?_,rfl,rfl⟩;try rfl);done)
     |(rw [if_neg (by assumption),if_neg (by omega),if_neg (by omega),if_pos (by omega)];(refine Done.rt rfl rfl ⟨?_,rfl,rfl⟩;try rfl);done)
     |(rw [if_neg (by assumption),if_neg (by omega),if_neg (by omega),if_neg (by omega)];(refine Done.rt rfl rfl ⟨?_,rfl,rfl⟩;try rfl);done)
   ·rw [decide_eq_false a3] at f1
    unfold OW at a3
    repeat' (first|apply Ac.assoc|apply Ac.Ak|apply Ac.Ai|apply Ac.BL|apply Ac.Ag|apply Au.ret|apply Ap.ret|apply Ac.ret|apply Ad.nil|apply Ad.one|(apply Ad.take;rfl;rfl)|(apply Aa.fn;rfl;rfl;exact n1;intro _;rfl)|(apply Aa.fn;rfl;rfl;exact n2;intro _;rfl)|(apply Aa.fn;rfl;rfl;exact p1;intro _;rfl)|(apply Aa.fn;rfl;rfl;exact f1;intro _;rfl)|(apply Aa.assign;rfl)|(apply Aa.move;rfl)|(apply Aa.int;rfl;rfl;rfl)|(apply Aa.load;rfl;rfl)|(apply Aa.AL;rfl;rfl)|(apply Aa.Aw;rfl;rfl;rfl)|(apply Aa.box;rfl;trivial)|(apply Aa.not;rfl)|(apply Ac.Aq;rfl)|(apply Ac.Ae;rfl)|(apply Ac.cond_true;rfl)|(intro _;try (exfalso;omega)))
    all_goals first
     |(rw [if_pos (by assumption)];(refine Done.rt rfl rfl ⟨?_,rfl,rfl⟩;try rfl);done)
     |(rw [if_neg (by assumption),if_pos (by omega)];(refine Done.rt rfl rfl ⟨?_,rfl,rfl⟩;try rfl);done)
  ·rw [decide_eq_false a2] at n2
   rw [if_pos (.inr a2)]
   repeat' (first|apply Ac.assoc|apply Ac.Ak|apply Ac.BL|apply Ad.nil|apply Ad.one|(apply Ad.take;rfl;rfl)|(apply Aa.fn;rfl;rfl;exact n1;intro _;rfl)|(apply Aa.fn;rfl;rfl;exact n2;intro _;rfl)|(apply Aa.assign;rfl)|(apply Aa.move;rfl)|(apply Aa.load;rfl;rfl)|(apply Aa.AL;rfl;rfl)|(apply Aa.Aw;rfl;rfl;rfl)|(apply Aa.box;rfl;trivial)|(apply Aa.not;rfl)|(apply Ac.Bf;rfl))
   all_goals (refine Done.rt rfl rfl ⟨?_,rfl,rfl⟩;try rfl)
 ·rw [decide_eq_false a1] at n1
  rw [if_pos (.inl a1)]
  repeat' (first|apply Ac.assoc|apply Ac.Ak|apply Ac.BL|apply Ad.nil|apply Ad.one|(apply Ad.drop;rfl;rfl;rfl)|(apply Aa.fn;rfl;rfl;exact n1;intro _;rfl)|(apply Aa.assign;rfl)|(apply Aa.move;rfl)|(apply Aa.load;rfl;rfl)|(apply Aa.Bc;rfl;rfl)|(apply Aa.Aw;rfl;rfl;rfl)|(apply Aa.box;rfl;trivial)|(apply Aa.not;rfl)|(apply Ac.Bf;rfl))
  all_goals (refine Done.rt rfl rfl ⟨?_,rfl,rfl⟩;try rfl)
end
section
open Go Go.Am Go.Vm
structure xK where
 rank:Int
 shift:Int
instance:Enc xK:={ default:=⟨0,0⟩,enc:=fun x=>[.int .i64 x.rank,.int .i64 x.shift],size:=2,len:=fun _=>rfl }
structure Seg where
 lo:Int
 hi:Int
 draws:List xK
instance:Enc Seg:={ default:=⟨0,0,[]⟩,enc:=fun x=>[.int .i64 x.lo,.int .i64 x.hi,.lst 270 (cells x.draws) x.draws.length],size:=3,len:=fun _=>rfl }
structure Stp where
 name:List UInt8
 Fv:Me
 Ih:List Seg
instance:Enc Stp:={ default:=⟨[],⟨0,0⟩,[]⟩,enc:=fun x=>[.str (bs x.name),.int .i64 x.Fv.num,.int .i64 x.Fv.den,.lst 273 (cells x.Ih) x.Ih.length],size:=4,len:=fun _=>rfl }
structure gU where
 name:List UInt8
 aB:Bool
 lo:Int
 hi:Int
 stops:List Stp
instance:Enc gU:={ default:=⟨[],false,0,0,[]⟩,enc:=fun x=>[.str (bs x.name),.bool x.aB,.int .i64 x.lo,.int .i64 x.hi,.lst 229 (cells x.stops) x.stops.length],size:=5,len:=fun _=>rfl }
structure xQ where
 name:List UInt8
 rO:Int
 tgt:Int
 shift:Int
 through:Bool
instance:Enc xQ:={ default:=⟨[],0,0,0,false⟩,enc:=fun x=>[.str (bs x.name),.int .i64 x.rO,.int .i64 x.tgt,.int .i64 x.shift,.bool x.through],size:=5,len:=fun _=>rfl }
structure IV where
 name:List UInt8
 ranks:List IE
 AU:List gU
 Ku:List xQ
instance:Enc IV:={ default:=⟨[],[],[],[]⟩,enc:=fun x=>[.str (bs x.name),.lst 113 (cells x.ranks) x.ranks.length,.lst 118 (cells x.AU) x.AU.length,.lst 236 (cells x.Ku) x.Ku.length],size:=4,len:=fun _=>rfl }
structure kF where
 lo:Int
 hi:Int
instance:Enc kF:={ default:=⟨0,0⟩,enc:=fun x=>[.int .i64 x.lo,.int .i64 x.hi],size:=2,len:=fun _=>rfl }
noncomputable instance (a b:xK):Decidable (a=b):=Classical.propDecidable _
noncomputable instance (a:xK) (l:List xK):Decidable (a∈l):=Classical.propDecidable _
noncomputable instance (a:List UInt8) (l:List (List UInt8)):Decidable (a∈l):=Classical.propDecidable _
def UA (lo hi:Int):Int:=if lo<0∨hi>127 then 3 else if lo>hi then 23 else 0
noncomputable def WX (n:Nat) (l:List xK) (k:Nat):Int :=
 if k<l.length then
  if (gi l k).rank<0∨(gi l k).rank≥n then 10 else if (gi l k).shift< -127∨(gi l k).shift>127 then 3 else if gi l k∈l.take k then 9 else WX n l (k+1)
 else 0
termination_by l.length-k
noncomputable def wO (n:Nat) (l:List xK):Int:=if l.length>8 then 4 else WX n l 0
noncomputable def XY (n:Nat) (lo hi:Int) (l:List Seg) (k:Nat):Int :=
 if k<l.length then
  if min (gi l k).lo (gi l k).hi<lo∨max (gi l k).lo (gi l k).hi>hi then 23 else if (gi l k).lo>(gi l k).hi∨0<k∧(gi l k).lo≤(gi l (k-1)).hi then 6
  else if wO n (gi l k).draws≠0 then wO n (gi l k).draws else XY n lo hi l (k+1)
 else 0
termination_by l.length-k
noncomputable def b0z (n:Nat) (lo hi:Int) (s:Stp):Int :=
 if ¬ EC s.name then 8 else if Qb s.Fv≠0 then Qb s.Fv else if s.Ih.length=0 then 13 else if s.Ih.length>12 then 4 else XY n lo hi s.Ih 0
noncomputable def gZ (l:List IE) (k:Nat):Int :=
 if k<l.length then if CV (gi l k)≠0 then CV (gi l k) else gZ l (k+1) else 0
termination_by l.length-k
noncomputable def a0q (l:List IE) (lo hi:Int):Int:=if l.length>60 then 4 else if gZ l 0≠0 then gZ l 0 else UA lo hi
noncomputable def Eh (rk:List IE) (lo hi:Int) (s:Stp):Int:=if a0q rk lo hi≠0 then a0q rk lo hi else b0z rk.length lo hi s
noncomputable def Qh (l:List IE) (k:Nat):Int :=
 if k<l.length then if CV (gi l k)≠0 then CV (gi l k) else if (gi l k).name∈(l.take k).map IE.name then 9 else Qh l (k+1) else 0
termination_by l.length-k
noncomputable def Qw (rk:List IE) (lo hi:Int) (l:List Stp) (k:Nat):Int :=
 if k<l.length then if Eh rk lo hi (gi l k)≠0 then Eh rk lo hi (gi l k) else if (gi l k).name∈(l.take k).map Stp.name then 9 else Qw rk lo hi l (k+1) else 0
termination_by l.length-k
noncomputable def DY (rk:List IE) (d:gU):Int:=if UA d.lo d.hi≠0 then UA d.lo d.hi else if d.stops.length>60 then 4 else Qw rk d.lo d.hi d.stops 0
noncomputable def Gx (rk:List IE) (l:List gU) (k:Nat):Int :=
 if k<l.length then if ¬ EC (gi l k).name then 8 else if (gi l k).name∈(l.take k).map gU.name then 9 else if DY rk (gi l k)≠0 then DY rk (gi l k) else Gx rk l (k+1) else 0
termination_by l.length-k
noncomputable def Qm (n:Nat) (l:List xQ) (k:Nat):Int :=
 if k<l.length then
  if ¬ EC (gi l k).name then 8 else if (gi l k).name∈(l.take k).map xQ.name then 9
  else if (gi l k).rO<0∨(gi l k).rO≥n∨(gi l k).tgt<0∨(gi l k).tgt≥n then 10
  else if (gi l k).shift< -127∨(gi l k).shift>127 then 3 else if (gi l k).rO=(gi l k).tgt∧(gi l k).shift=0 then 7 else Qm n l (k+1)
 else 0
termination_by l.length-k
noncomputable def Tn (l:List kF) (k:Nat):Int:=if k<l.length then if UA (gi l k).lo (gi l k).hi≠0 then 23 else Tn l (k+1) else 0
termination_by l.length-k
noncomputable def Ez (ks:List kF) (l:List xQ):Int:=if ks.length>8∨l.length>40 then 4 else if Tn ks 0≠0 then Tn ks 0 else Qm ks.length l 0
noncomputable def YS (o:IV):Int :=
 if ¬ EC o.name then 8 else if o.ranks.length>60 then 4 else if Qh o.ranks 0≠0 then Qh o.ranks 0 else if o.AU.length=0 then 13 else if o.AU.length>8 then 4
 else if Gx o.ranks o.AU 0≠0 then Gx o.ranks o.AU 0 else Ez (o.AU.map fun d=>⟨d.lo,d.hi⟩) o.Ku
structure b3o (x:Seg):Prop where
 draws:x.draws.length<1000000
structure a1d (x:Stp):Prop where
 name:x.name.length<1000000
 Ih:x.Ih.length<1000000
 all:∀ i,i<x.Ih.length→b3o (gi x.Ih i)
structure a6y (x:gU):Prop where
 name:x.name.length<1000000
 stops:x.stops.length<1000000
 all:∀ i,i<x.stops.length→a1d (gi x.stops i)
structure jD (r:IE):Prop where
 name:r.name.length<1000000
 MB:r.MB.length<1000000
 FN:r.FN.length<1000000
structure Ry (o:IV):Prop where
 name:o.name.length<1000000
 ranks:o.ranks.length<1000000
 AU:o.AU.length<1000000
 Ku:o.Ku.length<1000000
 rk:∀ i,i<o.ranks.length→jD (gi o.ranks i)
 dv:∀ i,i<o.AU.length→a6y (gi o.AU i)
 cp:∀ i,i<o.Ku.length→(gi o.Ku i).name.length<1000000
theorem jD.len {r:IE} (h:jD r):r.name.length<9223372036854775808∧r.MB.length<9223372036854775808∧r.FN.length<9223372036854775808:=⟨by have:=h.name;omega,by have:=h.MB;omega,by have:=h.FN;omega⟩
end
section
open Go Go.Am Go.Vm
theorem ZH {l:List IE} (h:∀ i,i<l.length→CV (gi l i)=0∧(gi l i).name∉(l.take i).map IE.name):∀ n k,l.length-k=n→Qh l k=0
 |0,k,hk=>by rw [Qh,if_neg (by omega)]
 |n+1,k,hk=>by
  obtain ⟨h1,h2⟩:=h k (by omega)
  rw [Qh,if_pos (by omega),if_neg (fun h'=>h' h1),if_neg h2]
  exact ZH h n (k+1) (by omega)
theorem Ye {rk:List IE} {lo hi:Int} {l:List Stp} (h:∀ i,i<l.length→Eh rk lo hi (gi l i)=0∧(gi l i).name∉(l.take i).map Stp.name):∀ n k,l.length-k=n→Qw rk lo hi l k=0
 |0,k,hk=>by rw [Qw,if_neg (by omega)]
 |n+1,k,hk=>by
  obtain ⟨h1,h2⟩:=h k (by omega)
  rw [Qw,if_pos (by omega),if_neg (fun h'=>h' h1),if_neg h2]
  exact Ye h n (k+1) (by omega)
theorem Xm {rk:List IE} {l:List gU} (h:∀ i,i<l.length→EC (gi l i).name∧(gi l i).name∉(l.take i).map gU.name∧DY rk (gi l i)=0):∀ n k,l.length-k=n→Gx rk l k=0
 |0,k,hk=>by rw [Gx,if_neg (by omega)]
 |n+1,k,hk=>by
  obtain ⟨h1,h2,h3⟩:=h k (by omega)
  rw [Gx,if_pos (by omega),if_neg (fun h'=>h' h1),if_neg h2,if_neg (fun h'=>h' h3)]
  exact Xm h n (k+1) (by omega)
theorem Z7 {l:List kF} (h:∀ i,i<l.length→UA (gi l i).lo (gi l i).hi=0):∀ n k,l.length-k=n→Tn l k=0
 |0,k,hk=>by rw [Tn,if_neg (by omega)]
 |n+1,k,hk=>by
  rw [Tn,if_pos (by omega),if_neg (fun h'=>h' (h k (by omega)))]
  exact Z7 h n (k+1) (by omega)
structure a7g (n:Nat) (c:xQ):Prop where
 name:EC c.name
 rO:0≤c.rO∧c.rO<n
 tgt:0≤c.tgt∧c.tgt<n
 shift:-127≤c.shift∧c.shift≤127
 form:¬ (c.rO=c.tgt∧c.shift=0)
theorem XD {m:Nat} {l:List xQ} (h:∀ i,i<l.length→a7g m (gi l i)∧(gi l i).name∉(l.take i).map xQ.name):∀ n k,l.length-k=n→Qm m l k=0
 |0,k,hk=>by rw [Qm,if_neg (by omega)]
 |n+1,k,hk=>by
  obtain ⟨⟨h1,h2,h3,h4,h5⟩,h6⟩:=h k (by omega)
  rw [Qm,if_pos (by omega),if_neg (fun h'=>h' h1),if_neg h6,if_neg (by omega),if_neg (by omega),if_neg h5]
  exact XD h n (k+1) (by omega)
structure b8w (n:Nat) (d:xK):Prop where
 rank:0≤d.rank∧d.rank<n
 shift:-127≤d.shift∧d.shift≤127
theorem ZQ {lo hi:Int} (h:0≤lo∧lo≤hi∧hi≤127):UA lo hi=0:=by
 unfold UA
 rw [if_neg (by omega),if_neg (by omega)]
structure b8l (n:Nat) (lo hi:Int) (g:Seg):Prop where
 pl:lo≤g.lo∧g.lo≤g.hi∧g.hi≤hi
 draws:wO n g.draws=0
def nmI (c:UInt8) (i:Int):List UInt8:=[c,UInt8.ofNat (48+i).toNat]
end
section
open Go Go.Am Go.Vm
attribute [local irreducible] Aa Ad Af Ac Ba AB BG Au Ap Ah Vm.Done BQ AY Qr
end
section
open Go Go.Am Go.Vm
attribute [local irreducible] Aa Ad Af Ac Ba AB BG Au Ap Ah Vm.Done BQ AY
attribute [local irreducible] CV Bq shz BH
def c0w (r:IE):Prop:=r.name.length<9223372036854775808∧r.MB.length<9223372036854775808∧r.FN.length<9223372036854775808
noncomputable def VY (r:IE) (n:Int):Int:=if CV r≠0 then CV r else if n<0∨n≥r.FN.length then 10 else 0
def KA:FV:=.agg [.str ⟨#[]⟩,.str ⟨#[]⟩,.int .i64 0,.int .i64 0,.int .i64 0,.val (.slice none 0 0)]
def a5g (r:IE) (n:Int) (w:List Int):FV×Int:=if w.length>128 then (KA,4) else if ¬ OW n then (KA,3) else (.agg (Enc.enc { r with first:=n,FN:=w }),0)
noncomputable def b7e (r:IE) (k:Int):Int×Bool×Int:=if VY r k≠0 then (0,false,VY r k) else if (BH r.Fv ⟨8,1⟩).2≠0∨r.first+k+(BH r.Fv ⟨8,1⟩).1<0∨r.first+k+(BH r.Fv ⟨8,1⟩).1>127 then (0,false,(BH r.Fv ⟨8,1⟩).2) else (r.first+k+(BH r.Fv ⟨8,1⟩).1,true,0)
end
section
open Go Go.Am Go.Vm
attribute [local irreducible] Aa Ad Af Ac Ba AB BG Au Ap Ah Vm.Done BQ AY
attribute [local irreducible] CV Bq shz BH
noncomputable def b5j (r:IE) (n:Int):Int×Bool×Int:=if CV r≠0 then (0,false,CV r) else if n<r.first∨n≥r.first+r.FN.length then (0,false,0) else (n-r.first,true,0)
noncomputable def b7b (r:IE) (w:List Int):FV×Int:=if CV r≠0 then (KA,CV r) else if Bq w≠0 then (KA,Bq w) else a5g r (r.first-w.length) (w++r.FN)
noncomputable def b6x (r:IE) (f:Me):FV×Int:=if CV r≠0 then (KA,CV r) else if (BH f r.Fv).2≠0 then (KA,(BH f r.Fv).2) else if OW (r.first-(BH f r.Fv).1) then (.agg (Enc.enc { r with first:=r.first-(BH f r.Fv).1,Fv:=f }),0) else (KA,3)
end
section
open Go Go.Am Go.Vm
attribute [local irreducible] Aa Ad Af Ac Ba AB BG Au Ap Ah Vm.Done BQ AY
attribute [local irreducible] CV Bq shz BH VY
noncomputable def c0q (r:IE) (n:Int):Int×Int:=if VY r n≠0 then (0,VY r n) else (r.first+n,0)
noncomputable def b9x (r:IE) (n:Int):Int×Int:=if VY r n≠0 then (0,VY r n) else (gi r.FN n.toNat,0)
noncomputable def c2e (r:IE) (w:List Int):FV×Int:=if CV r≠0 then (KA,CV r) else if Bq w≠0 then (KA,Bq w) else a5g r r.first (r.FN++w)
end
section
open Go Go.Am Go.Vm
attribute [local irreducible] Aa Ad Af Ac Ba AB BG Au Ap Ah Vm.Done BQ AY
attribute [local irreducible] CV Bq shz BH VY
def b3a (l:List Int):Nat→Int
 |0=>0
 |k+1=>b3a l k+gi l k
noncomputable def c1k (r:IE):Int×Int:=if CV r≠0 then (0,CV r) else (b3a r.FN r.FN.length,0)
def a7d:List Me:=[⟨8,1⟩,⟨4,1⟩,⟨16,1⟩,⟨2,1⟩,⟨8,3⟩,⟨8,5⟩,⟨4,3⟩,⟨1,1⟩,⟨32,1⟩,⟨16,3⟩,⟨16,5⟩,⟨32,3⟩,⟨8,7⟩,⟨2,3⟩,⟨1,2⟩,⟨64,1⟩]
end
section
open Go Go.Am Go.Vm
attribute [local irreducible] Aa Ad Af Ac Ba AB BG Au Ap Ah Vm.Done BQ AY
def b9e (f first:Int) (n:Nat):IE:=⟨[82,111,119],[79,112,101,110],⟨f,1⟩,first,List.replicate n 1⟩
def b7k:IE:=⟨[82,111,119],[79,112,101,110],⟨8,1⟩,24,List.replicate 12 0++List.replicate 61 1⟩
attribute [local irreducible] CV Bq shz BH VY b5j b7e b7b b6x
end
section
open Go Go.Am Go.Vm
attribute [local irreducible] Aa Ad Af Ac Ba AB BG Au Ap Ah Vm.Done BQ AY
instance encStr:Enc (List UInt8):={ default:=[],enc:=fun s=>[.str (bs s)],size:=1,len:=fun _=>rfl }
structure Qx where
 MB:Nat
 Fv:Nat
 first:Int
 pipes:Nat
 FN:List Nat
def Qx.enc (x:Qx):List FV:=[.int .u8 (x.MB:Int),.int .u8 (x.Fv:Int),.int .i8 x.first,.int .u8 (x.pipes:Int),.int .u8 ((gi x.FN 0:Nat):Int),.int .u8 ((gi x.FN 1:Nat):Int),.int .u8 ((gi x.FN 2:Nat):Int),.int .u8 ((gi x.FN 3:Nat):Int),.int .u8 ((gi x.FN 4:Nat):Int)]
structure Qx.Ok (x:Qx):Prop where
 MB:x.MB<256
 Fv:x.Fv<256
 first:-128≤x.first∧x.first≤127
 pipes:x.pipes<256
 FN:∀ i,gi x.FN i<256
def b1k:List (List UInt8):=[[79,112,101,110],[70,108,117,116,101],[82,101,101,100]]
def a7a (x:Qx):Nat→List Int
 |0=>[]
 |k+1=>a7a x k++[((gi x.FN (k % 5):Nat):Int)]
def mkR (x:Qx) (i:Int):IE:=⟨[82,UInt8.ofNat (48+i % 10).toNat],gi b1k (x.MB % 3),gi a7d (x.Fv % 16),x.first,a7a x (1+x.pipes % 25)⟩
end
section
open Go Go.Am Go.Vm
attribute [local irreducible] Aa Ad Af Ac Ba AB BG Au Ap Ah Vm.Done BQ AY
structure Pul where
 rank:Nat
 Fv:Nat
 kind:Nat
 at_:Nat
instance:Enc Pul:={ default:=⟨0,0,0,0⟩,enc:=fun x=>[.int .u8 (x.rank:Int),.int .u8 (x.Fv:Int),.int .u8 (x.kind:Int),.int .u8 (x.at_:Int)],size:=4,len:=fun _=>rfl }
structure Pul.Ok (x:Pul):Prop where
 rank:x.rank<256
 Fv:x.Fv<256
 kind:x.kind<256
 at_:x.at_<256
structure Brd where
 low:Nat
 keys:Nat
 aB:Bool
 stops:List Pul
instance:Enc Brd:={ default:=⟨0,0,false,[]⟩,enc:=fun x=>[.int .u8 (x.low:Int),.int .u8 (x.keys:Int),.bool x.aB,.lst 232 (cells x.stops) x.stops.length],size:=4,len:=fun _=>rfl }
structure Brd.Ok (x:Brd):Prop where
 low:x.low<256
 keys:x.keys<256
 stops:x.stops.length<9223372036854775808
 all:∀ i,i<x.stops.length→(gi x.stops i).Ok
structure Lnk where
 rO:Nat
 tgt:Nat
 shift:Int
 through:Bool
instance:Enc Lnk:={ default:=⟨0,0,0,false⟩,enc:=fun x=>[.int .u8 (x.rO:Int),.int .u8 (x.tgt:Int),.int .i8 x.shift,.bool x.through],size:=4,len:=fun _=>rfl }
structure Lnk.Ok (x:Lnk):Prop where
 rO:x.rO<256
 tgt:x.tgt<256
 shift:-128≤x.shift∧x.shift≤127
instance b3n:Enc Qx:={ default:=⟨0,0,0,0,[]⟩,enc:=Qx.enc,size:=9,len:=fun _=>rfl }
structure OPl where
 ranks:List Qx
 AU:List Brd
 links:List Lnk
def OPl.enc (x:OPl):List FV:=[.lst 226 (cells x.ranks) x.ranks.length,.lst 211 (cells x.AU) x.AU.length,.lst 234 (cells x.links) x.links.length]
structure OPl.Ok (x:OPl):Prop where
 ranks:∀ i,i<x.ranks.length→(gi x.ranks i).Ok
 AU:∀ i,i<x.AU.length→(gi x.AU i).Ok
 links:∀ i,i<x.links.length→(gi x.links i).Ok
 nr:x.ranks.length<9223372036854775808
 nd:x.AU.length<9223372036854775808
 nl:x.links.length<9223372036854775808
def a6s:List Me:=[⟨8,1⟩,⟨4,1⟩,⟨16,1⟩,⟨8,3⟩,⟨2,1⟩,⟨8,5⟩]
structure b3u (rk:List IE):Prop where
 len:0<rk.length∧rk.length≤3
 ok:∀ i,i<rk.length→CV (gi rk i)=0∧∃ b,b<16∧(gi rk i).Fv=gi a7d b
attribute [local irreducible] CV Bq BH
end
section
open Go Go.Am Go.Vm
attribute [local irreducible] Aa Ad Af Ac Ba AB BG Au Ap Ah Vm.Done BQ AY
end
section
open Go Go.Am Go.Vm
attribute [local irreducible] Aa Ad Af Ac Ba AB BG Au Ap Ah Vm.Done BQ AY
noncomputable instance (a b:Me):Decidable (a=b):=Classical.propDecidable _
noncomputable instance (a b:IE):Decidable (a=b):=Classical.propDecidable _
def lnC (i c:Nat):Prop:=oO c∨(i≠0∧(c=95∨(48≤c∧c≤57)))
def b1f (r:IE):Prop:=(r.FN.length≤30∨r.FN.length=129)∧r.name.length≤40∧r.MB.length≤40
instance (r:IE):Decidable (b1f r):=by unfold b1f;infer_instance
end
section
open Go Go.Am Go.Vm
attribute [local irreducible] Aa Ad Af Ac Ba AB BG Au Ap Ah Vm.Done BQ AY
attribute [local irreducible] CV Bq shz BH VY
noncomputable def c0i (r:IE) (f p:Int):FV×Int:=if VY r f≠0 then (KA,VY r f) else if p<1∨p>r.FN.length-f then (KA,3) else a5g r (r.first+f) ((r.FN.drop f.toNat).take ((f+p).toNat-f.toNat))
noncomputable def c1x (a b:IE):FV×Int:=if CV a≠0 then (KA,CV a) else if CV b≠0 then (KA,CV b) else if ¬ (a.MB=b.MB∧a.Fv=b.Fv) then (KA,14) else if b.first≠a.first+a.FN.length then (KA,6) else a5g a a.first (a.FN++b.FN)
def b8a:IE:=⟨[],[],⟨0,0⟩,0,[]⟩
end
section
open Go Go.Am Go.Vm
attribute [local irreducible] Aa Ad Af Ac Ba AB BG Au Ap Ah Vm.Done BQ AY
def a5y (x:OPl):Prop:=(1≤x.ranks.length∧x.ranks.length≤3)∧(1≤x.AU.length∧x.AU.length≤3)∧x.links.length≤3∧∀ i,i<x.AU.length→(gi x.AU i).stops.length≤3
noncomputable instance (x:OPl):Decidable (a5y x):=Classical.propDecidable _
def b3x (rk:List IE) (lo hi:Int) (x:Pul) (i:Nat) (s:Stp):Prop :=
 AB env 115 [.lst 113 (cells rk) rk.length,.agg [.int .i64 lo,.int .i64 hi],.agg (Enc.enc x),.int .i64 (i:Int)] (.p (.agg (Enc.enc s)))∧s.name=nmI 83 i∧Eh rk lo hi s=0∧a1d s∧∃ a,a<6∧s.Fv=gi a6s a
noncomputable def a0h (rk:List IE) (lo hi:Int) (x:Pul) (i:Nat):Stp:=Classical.epsilon (h:=⟨default⟩) (b3x rk lo hi x i)
def mX (l:List Qx):Nat→List IE
 |0=>[]
 |k+1=>mX l k++[mkR (gi l k) (k:Int)]
noncomputable def a1v (rk:List IE) (lo hi:Int) (l:List Pul):Nat→List Stp
 |0=>[]
 |k+1=>a1v rk lo hi l k++[a0h rk lo hi (gi l k) k]
def a1s (b:Brd):Int:=36+(b.low:Int) % 12
def a7h (b:Brd):Int:=a1s b+(b.keys:Int) % 9
noncomputable def b7c (rk:List IE) (b:Brd) (k:Nat):gU:=⟨nmI 68 (k:Int),b.aB,a1s b,a7h b,a1v rk (a1s b) (a7h b) b.stops b.stops.length⟩
noncomputable def a6t (rk:List IE) (l:List Brd):Nat→List gU
 |0=>[]
 |k+1=>a6t rk l k++[b7c rk (gi l k) k]
def b5r (n:Nat) (c:Lnk) (k:Nat):xQ:=⟨nmI 67 (k:Int),(c.rO:Int) % n,(c.tgt:Int) % n,if (c.rO:Int) % n=(c.tgt:Int) % n∧c.shift.tmod 25=0 then 12 else c.shift.tmod 25,c.through⟩
def a6o (n:Nat) (l:List Lnk):Nat→List xQ
 |0=>[]
 |k+1=>a6o n l k++[b5r n (gi l k) k]
noncomputable def mkO (x:OPl):IV:=⟨[79,114,103,97,110],mX x.ranks x.ranks.length,a6t (mX x.ranks x.ranks.length) x.AU x.AU.length,a6o x.AU.length x.links x.links.length⟩
end
section
open Go Go.Am Go.Vm
attribute [local irreducible] Aa Ad Af Ac Ba AB BG Au Ap Ah Vm.Done BQ AY
attribute [local irreducible] mkR a0h
def b9i (a b c:PV):Vm.HB:=.box 27 [.p (.str (bs [79,114,103,97,110])),a,b,c]
def c0f:Vm.HB:=.box 27 [.p (.str ⟨#[]⟩),.p (.val (.slice none 0 0)),.p (.val (.slice none 0 0)),.p (.val (.slice none 0 0))]
end
section
open Go Go.Am Go.Vm
attribute [local irreducible] Aa Ad Af Ac Ba AB BG Au Ap Ah Vm.Done BQ AY
attribute [local irreducible] mkR a0h CV Bq BH
structure c0c (o:IV):Prop where
 sm:Ry o
 ranks:1≤o.ranks.length∧o.ranks.length≤3
 AU:1≤o.AU.length∧o.AU.length≤3
 Ku:o.Ku.length≤3
 stops:∀ i,i<o.AU.length→(gi o.AU i).stops.length≤3
 rk:b3u o.ranks
 dv:∀ i,i<o.AU.length→0≤(gi o.AU i).lo∧(gi o.AU i).lo≤(gi o.AU i).hi∧(gi o.AU i).hi≤127
 dn:∀ i,i<o.AU.length→(gi o.AU i).name=nmI 68 i
 st:∀ i,i<o.AU.length→∀ j,j<(gi o.AU i).stops.length→Eh o.ranks (gi o.AU i).lo (gi o.AU i).hi (gi (gi o.AU i).stops j)=0∧(gi (gi o.AU i).stops j).name=nmI 83 j∧∃ a,a<6∧(gi (gi o.AU i).stops j).Fv=gi a6s a
 cp:∀ i,i<o.Ku.length→a7g o.AU.length (gi o.Ku i)∧(gi o.Ku i).name=nmI 67 i
 rn:∀ i,i<o.ranks.length→(gi o.ranks i).name=nmI 82 i
 nm:o.name=[79,114,103,97,110]
end
section
open Go Go.Am Go.Vm
attribute [local irreducible] Aa Ad Af Ac Ba AB BG Au Ap Ah Vm.Done BQ AY
attribute [local irreducible] CV Bq
theorem YQ (lo hi:Int):AB env 110 [.agg [.int .i64 lo,.int .i64 hi]] (.p (.int .i64 (UA lo hi))):=by
 unfold UA
 refine AB.enter (Aj (by decide)) Tryz.func110 rfl (by kernel_rfl) (by simp [Tryz.ntmps110]) ?_
 repeat' (first|apply Ac.Ak|apply Ac.Ag|apply Au.normal|apply Au.ret|apply Ap.normal|apply Ap.ret|apply Ac.ret|apply Ac.skip|apply Ad.nil|apply Ad.one|(apply Ad.take;rfl;rfl)|(apply Ad.drop;rfl;rfl;rfl)|(apply Ad.guard;rfl;rfl)|(apply Aa.assign;rfl)|(apply Aa.move;rfl)|(apply Aa.int;rfl;rfl;rfl)|(apply Aa.load;rfl;rfl)|(apply Aa.Bc;rfl;rfl)|(apply Aa.AL;rfl;rfl)|(apply Aa.Aw;rfl;rfl;rfl)|(apply Aa.box;rfl;trivial)|(apply Ac.cond_true;rfl)|(apply Ac.AZ;rfl)|(intro _;try (exfalso;omega)))
 all_goals first
  |(rw [if_pos (by omega)];(refine Done.rt rfl rfl ⟨?_,rfl,rfl⟩;try rfl);done)
  |(rw [if_neg (by omega),if_pos (by omega)];(refine Done.rt rfl rfl ⟨?_,rfl,rfl⟩;try rfl);done)
  |(rw [if_neg (by omega),if_neg (by omega)];(refine Done.rt rfl rfl ⟨?_,rfl,rfl⟩;try rfl);done)
theorem kR:Yx Tryz.prog 270=true:=by kernel_rfl
theorem a9y (x y:xK):Vm.bI Tryz.prog 270 (Enc.enc x) (Enc.enc y)=some (decide (x=y)):=by
 show some (decide (x.rank=y.rank)&&(decide (x.shift=y.shift)&&true))=_
 by_cases h:x=y
 ·subst h;simp
 ·rw [decide_eq_false h]
  have:¬ (x.rank=y.rank∧x.shift=y.shift):=fun h'=>h (by cases x;cases y;simp_all)
  by_cases h1:x.rank=y.rank<;>simp_all
theorem XG {α:Type} [Inhabited α] {a:α} {l:List α}:a∈l↔∃ i,i<l.length∧gi l i=a:=by
 constructor
 ·intro h
  obtain ⟨i,hi,e⟩:=List.getElem_of_mem h
  exact ⟨i,hi,by simp [gi,List.getElem?_eq_getElem hi,e]⟩
 ·rintro ⟨i,hi,e⟩
  rw [← e]
  simp only [gi,List.getElem?_eq_getElem hi,Option.getD_some]
  exact List.getElem_mem hi
theorem Wx {α:Type} [Inhabited α] {l:List α} {i k:Nat} (h:i<k):gi (l.take k) i=gi l i:=by simp [gi,List.getElem?_take,h]
theorem Ej {α:Type} [Inhabited α] {l:List α} {k:Nat} (hk:k<l.length):l.take (k+1)=l.take k++[gi l k]:=by
 rw [List.take_succ_eq_append_getElem hk];simp [gi,List.getElem?_eq_getElem hk]
theorem a3g {L:Vm.Frame} {H:Vm.Heap} {nx:Nat} {Q:PV→Vm.Heap→Nat→Prop} {dst:Option Tmp} {ty:TypeId} {pos:String} {af:Array Edge} {gd:Option (Nat×Bool)} {fo:Operand} {args:Array Operand} {aT:Array TypeId} {fs cs xs:List PV} {c:Code}
 (hf:Bh env.Γ L fo=some (.clo 206 fs cs)) (ha:evs env.Γ L args.toList=some xs) (hb:Tryz.f206.body=some c) (hn:(fs++xs++cs).length≤Tryz.f206.ntmps)
 (h:Ac env nx c (CP 0 (fs++xs++cs)) H nx (AY env.P Tryz.f206.results.toList Q)):Aa env true ⟨dst,.call { callee:=.value fo,args:=args,argTypes:=aT },ty,pos,af,gd⟩ L H nx Q:=by
 have h0:(match Tryz.f206.body with|some c=>Ij env.G Tryz.f206 c|none=>false)=true:=by kernel_rfl
 rw [hb] at h0
 exact Aa.inline rfl hf ha (Aj (by decide)) Tryz.func206 hb h0 hn h
theorem Zb (l:List xK) (d:xK) (hl:l.length<1000000):AB env 199 [.lst 270 (cells l) l.length,.agg (Enc.enc d)] (.p (.bool (decide (d∈l)))):=by
 refine AB.enter (Aj (by decide)) Tryz.func199 rfl (by kernel_rfl) (by simp [Tryz.ntmps199]) ?_
 repeat' (first|apply Ac.assoc|apply Ac.Ak|apply Ac.Ag|apply Ad.nil|apply Ad.one|(apply a3g;rfl;rfl;rfl;exact le_dec rfl)|(apply Aa.assign;rfl)|(apply Aa.move;rfl)|(apply Aa.load;rfl;rfl)|(apply Aa.CX;rfl;rfl)|(apply Aa.box;rfl;trivial))
 refine Ac.Gp (fun k:Nat=>[(0,lst 270 l),(3,.ref 1 0),(7,.p (.int .i64 (l.length:Int))),(8,.p (.int .i64 (k:Int)))]) (fun _=>[(1,.box 270 ((Enc.enc d).map .p)),(0,.box 270 ((Enc.enc d).map .p))]) 2 (fun k=>k≤l.length∧∀ i,i<k→d≠gi l i) (fun k=>l.length-k) 0 (by omega) ⟨by omega,fun i hi=>by omega⟩ ⟨by omega,?_,?_⟩ ?_
 ·exact EJ
 ·exact FM
 rintro k ⟨hk,hok⟩
 have he:=a9y d (gi l k)
 by_cases hd:d=gi l k
 ·rw [decide_eq_true hd] at he
  repeat' (first|apply Ac.Ak|apply Ac.Dq|apply Ac.Ai|apply Ac.Bl|apply Ac.Ag|apply Au.normal|apply Au.ret|(apply AY.ret;rfl)|apply Ap.ret|apply Ap.exit|apply Ah.ret|apply Ah.exit|apply Ac.ret|apply Ad.nil|apply Af.nil|apply Ad.one|(apply Af.bar;decide +kernel)|apply Af.quiet|(apply Aa.a5z;rfl;rfl;exact kR;exact he)|(apply Aa.assign;rfl)|(apply Aa.move;rfl)|(apply Aa.int;rfl;rfl;rfl)|(apply Aa.AP;rfl;rfl;rfl;omega;rfl)|(apply Aa.load;rfl;rfl)|(apply Ac.Ae;rfl)|(apply Ac.cond_true;rfl)|(intro _;try (exfalso;omega)))
  ·rename_i a1
   rw [decide_eq_true (XG.2 ⟨k,by omega,hd.symm⟩)]
   refine Done.rt rfl rfl ⟨?_,rfl,rfl⟩
   refine PV.H9 ?_
   simp
  ·rename_i a1
   rw [decide_eq_false (fun h=>by obtain ⟨i,h1,h2⟩:=XG.1 h;exact hok i (by omega) h2.symm)]
   (refine Done.rt rfl rfl ⟨?_,rfl,rfl⟩;try rfl)
 ·rw [decide_eq_false hd] at he
  repeat' (first|apply Ac.Ak|apply Ac.Dq|apply Ac.region|apply Ac.Ai|apply Ac.Bl|apply Ac.Ag|apply Au.normal|(apply AY.ret;rfl)|apply Ap.normal|apply Ap.exit|apply Ah.exit|apply Ac.ret|apply Ac.skip|apply Ad.nil|apply Af.nil|apply Ad.one|(apply Af.bar;decide +kernel)|apply Af.quiet|(apply Aa.a5z;rfl;rfl;exact kR;exact he)|(apply Aa.assign;rfl)|(apply Aa.move;rfl)|(apply Aa.BU;rfl;rfl;omega)|(apply Aa.int;rfl;rfl;rfl)|(apply Aa.AP;rfl;rfl;rfl;omega;rfl)|(apply Aa.load;rfl;rfl)|(apply Ac.Ae;rfl)|(apply Ac.cond_false;rfl)|(intro _;try (exfalso;omega)))
  ·rename_i a1
   refine Ah.normal ⟨k+1,⟨by omega,fun i hi=>?_⟩,by omega,⟨by omega,?_,?_⟩⟩
   ·rcases Nat.lt_or_ge i k with h|h
    ·exact hok i h
    ·obtain rfl:i=k:=by omega
     exact hd
   ·exact EJ
   ·exact FM
  ·rename_i a1
   rw [decide_eq_false (fun h=>by obtain ⟨i,h1,h2⟩:=XG.1 h;exact hok i (by omega) h2.symm)]
   (refine Done.rt rfl rfl ⟨?_,rfl,rfl⟩;try rfl)
def xG (rk:List IE) (lo hi:Int):List FV:=[.lst 113 (cells rk) rk.length,.int .i64 lo,.int .i64 hi]
theorem pz (rk:List IE) (lo hi:Int) (l:List xK) (hl:l.length<1000000) (hr:rk.length<1000000):AB env 182 [.agg (xG rk lo hi),.lst 270 (cells l) l.length] (.p (.int .i64 (wO rk.length l))):=by
 unfold wO
 refine AB.enter (Aj (by decide)) Tryz.func182 rfl (by kernel_rfl) (by simp [Tryz.ntmps182]) ?_
 repeat' (first|apply Ac.assoc|apply Ac.Ak|apply Ac.Ai|apply Ac.BL|apply Ac.Ag|apply Ad.nil|apply Ad.one|(apply Aa.assign;rfl)|(apply Aa.move;rfl)|(apply Aa.int;rfl;rfl;rfl)|(apply Aa.CX;rfl;rfl)|(apply Aa.box;rfl;trivial)|(apply Ac.Ae;rfl)|(intro _;try (exfalso;omega)))
 ·rw [if_pos (by omega)];(refine Done.rt rfl rfl ⟨?_,rfl,rfl⟩;try rfl)
 rw [if_neg (by omega)]
 refine Ac.Gp (fun k:Nat=>[(1,lst 270 l),(2,.ref 0 0),(10,lst 270 l),(11,.p (.int .i64 (l.length:Int))),(12,.p (.int .i64 (k:Int)))]) (fun _=>[(0,.box 277 ((xG rk lo hi).map .p))]) 1 (fun k=>k≤l.length∧WX rk.length l k=WX rk.length l 0) (fun k=>l.length-k) 0 (by omega) ⟨by omega,rfl⟩ ⟨by omega,?_,?_⟩ ?_
 ·exact EJ
 ·exact FM
 rintro k ⟨hk,hE⟩
 have hc:=Zb (l.take k) (gi l k) (by rw [List.length_take];omega)
 rw [List.length_take,Nat.min_eq_left (by omega)] at hc
 rw [← hE]
 by_cases hkl:k<l.length
 ·rw [WX,if_pos hkl]
  generalize hg:decide (gi l k∈l.take k)=g at *
  cases g
  all_goals
   repeat' (first|apply Ac.Ak|apply Ac.Dq|apply Ac.region|apply Ac.Ai|apply Ac.Ag|apply Au.normal|apply Au.ret|apply Ap.normal|apply Ap.ret|apply Ah.ret|apply Ac.ret|apply Ac.skip|apply Ac.NI|apply Ad.nil|apply Af.nil|apply Ad.one|(apply Af.bar;decide +kernel)|apply Af.quiet|(apply Ad.take;rfl;rfl)|(apply Ad.drop;rfl;rfl;rfl)|(apply Ad.guard;rfl;rfl)|(apply Aa.fn;rfl;rfl;exact hc;intro _;rfl)|(apply Aa.sliceTo;rfl;rfl;rfl;rfl;rfl;rfl;omega)|(apply Aa.assign;rfl)|(apply Aa.move;rfl)|(apply Aa.BU;rfl;rfl;omega)|(apply Aa.int;rfl;rfl;rfl)|(apply Aa.AP;rfl;rfl;rfl;omega;rfl)|(apply Aa.load;rfl;rfl)|(apply Aa.Bc;rfl;rfl)|(apply Aa.AL;rfl;rfl)|(apply Aa.CX;rfl;rfl)|(apply Aa.Aw;rfl;rfl;rfl)|(apply Aa.alloc;rfl)|(apply Aa.Bd;rfl;rfl;rfl;trivial;rfl;rfl;exact Az rfl;exact le_dec rfl)|(apply Ac.Ae;rfl)|(apply Ac.cond_true;rfl)|(apply Ac.cond_false;rfl)|(apply Ac.AZ;rfl)|(intro _;try (exfalso;omega)))
  all_goals try (exfalso;omega)
  all_goals first
   |(rw [if_pos (by omega)];(refine Done.rt rfl rfl ⟨?_,rfl,rfl⟩;try rfl);done)
   |(rw [if_neg (by omega),if_pos (by omega)];(refine Done.rt rfl rfl ⟨?_,rfl,rfl⟩;try rfl);done)
   |(rw [if_neg (by omega),if_neg (by omega),if_pos (of_decide_eq_true hg)];(refine Done.rt rfl rfl ⟨?_,rfl,rfl⟩;try rfl);done)
   |(rw [if_neg (by omega),if_neg (by omega),if_neg (of_decide_eq_false hg)]
     refine Ah.normal ⟨k+1,⟨by omega,?_⟩,by omega,⟨by omega,?_,?_⟩⟩
     ·first|rfl|(refine Eq.trans ?_ hE;symm;(conv=>lhs;rw [WX]);rw [if_pos hkl,if_neg (by omega),if_neg (by omega),if_neg (of_decide_eq_false hg)])
     ·exact EJ
     ·exact FM)
 ·rw [WX,if_neg hkl]
  repeat' (first|apply Ac.Ak|apply Ac.Bl|apply Au.normal|apply Ap.exit|apply Ah.exit|apply Ac.ret|apply Ad.nil|apply Ad.one|(apply Aa.assign;rfl)|(apply Aa.int;rfl;rfl;rfl)|(apply Ac.Ae;rfl)|(intro _;try (exfalso;omega)))
  all_goals first|(exfalso;omega)|(refine Done.rt rfl rfl ⟨?_,rfl,rfl⟩;try rfl)
theorem nZ (rk:List IE) (lo hi:Int) (hr:rk.length<1000000) (hs:∀ i,i<rk.length→jD (gi rk i)):AB env 181 [.agg (xG rk lo hi)] (.p (.int .i64 (a0q rk lo hi))):=by
 have hcm:=YQ lo hi
 unfold a0q
 refine AB.enter (Aj (by decide)) Tryz.func181 rfl (by kernel_rfl) (by simp [Tryz.ntmps181]) ?_
 repeat' (first|apply Ac.assoc|apply Ac.Ak|apply Ac.Ai|apply Ac.BL|apply Ac.Ag|apply Ad.nil|apply Ad.one|(apply Aa.assign;rfl)|(apply Aa.move;rfl)|(apply Aa.int;rfl;rfl;rfl)|(apply Aa.load;rfl;rfl)|(apply Aa.CX;rfl;rfl)|(apply Aa.Aw;rfl;rfl;rfl)|(apply Aa.box;rfl;trivial)|(apply Ac.Ae;rfl)|(intro _;try (exfalso;omega)))
 ·rw [if_pos (by omega)];(refine Done.rt rfl rfl ⟨?_,rfl,rfl⟩;try rfl)
 rw [if_neg (by omega)]
 refine Ac.Gp (fun k:Nat=>[(1,.ref 0 0),(11,lst 113 rk),(12,.p (.int .i64 (rk.length:Int))),(13,.p (.int .i64 (k:Int)))]) (fun _=>[(0,.box 277 ((xG rk lo hi).map .p))]) 1 (fun k=>k≤rk.length∧gZ rk k=gZ rk 0) (fun k=>rk.length-k) 0 (by omega) ⟨by omega,rfl⟩ ⟨by omega,?_,?_⟩ ?_
 ·exact EJ
 ·exact FM
 rintro k ⟨hk,hE⟩
 rw [← hE]
 by_cases hkl:k<rk.length
 ·have hsm:=(hs k hkl).len
  have hc:=Vs (gi rk k) hsm.1 hsm.2.1 hsm.2.2
  rw [gZ,if_pos hkl]
  by_cases h0:CV (gi rk k)=0
  ·rw [h0] at hc ⊢
   rw [if_neg (by decide)]
   repeat' (first|apply Ac.Ak|apply Ac.region|apply Ac.Ai|apply Ac.Ag|apply Au.normal|apply Ap.normal|apply Ac.skip|apply Ad.nil|apply Ad.one|(apply Aa.fn;rfl;rfl;exact hc;intro _;rfl)|(apply Aa.assign;rfl)|(apply Aa.move;rfl)|(apply Aa.BU;rfl;rfl;omega)|(apply Aa.int;rfl;rfl;rfl)|(apply Aa.AP;rfl;rfl;rfl;omega;rfl)|(apply Aa.load;rfl;rfl)|(apply Aa.alloc;rfl)|(apply Aa.Bd;rfl;rfl;rfl;trivial;rfl;rfl;exact Az rfl;exact le_dec rfl)|(apply Ac.Ae;rfl)|(apply Ac.cond_false;rfl)|(intro _;try (exfalso;omega)))
   all_goals try (exfalso;omega)
   refine Ah.normal ⟨k+1,⟨by omega,?_⟩,by omega,⟨by omega,?_,?_⟩⟩
   ·first|rfl|(refine Eq.trans ?_ hE;symm;(conv=>lhs;rw [gZ]);rw [if_pos hkl,if_neg (fun h=>h h0)])
   ·exact EJ
   ·exact FM
  ·rw [if_pos h0,if_pos h0]
   repeat' (first|apply Ac.Ak|apply Ac.Ai|apply Ac.Ag|apply Au.ret|apply Ap.ret|apply Ah.ret|apply Ac.ret|apply Ad.nil|apply Ad.one|(apply Aa.fn;rfl;rfl;exact hc;intro _;rfl)|(apply Aa.assign;rfl)|(apply Aa.move;rfl)|(apply Aa.int;rfl;rfl;rfl)|(apply Aa.AP;rfl;rfl;rfl;omega;rfl)|(apply Aa.load;rfl;rfl)|(apply Aa.alloc;rfl)|(apply Aa.Bd;rfl;rfl;rfl;trivial;rfl;rfl;exact Az rfl;exact le_dec rfl)|(apply Ac.Ae;rfl)|(apply Ac.AZ;rfl)|(intro _;try (exfalso;omega)))
   all_goals first|(exfalso;omega)|(refine Done.rt rfl rfl ⟨?_,rfl,rfl⟩;try rfl)
 ·rw [gZ,if_neg hkl,if_neg (by decide)]
  repeat' (first|apply Ac.Ak|apply Ac.Bl|apply Au.normal|apply Ap.exit|apply Ah.exit|apply Ac.ret|apply Ad.nil|apply Ad.one|(apply Aa.fn;rfl;rfl;exact hcm;intro _;rfl)|(apply Aa.assign;rfl)|(apply Aa.int;rfl;rfl;rfl)|(apply Aa.load;rfl;rfl)|(apply Aa.Aw;rfl;rfl;rfl)|(apply Ac.Ae;rfl)|(intro _;try (exfalso;omega)))
  all_goals first|(exfalso;omega)|(refine Done.rt rfl rfl ⟨?_,rfl,rfl⟩;try rfl)
theorem wI (rk:List IE) (lo hi:Int) (s:Stp) (hr:rk.length<1000000) (hs:∀ i,i<rk.length→jD (gi rk i)) (hS:a1d s):AB env 157 [.agg (xG rk lo hi),.agg (Enc.enc s)] (.p (.int .i64 (Eh rk lo hi s))):=by
 obtain ⟨q1,q2,q3⟩:=hS
 have hp:=nZ rk lo hi hr hs
 have hn:=Ht s.name (by omega)
 have hf:=VE s.Fv
 unfold Eh b0z
 refine AB.enter (Aj (by decide)) Tryz.func157 rfl (by kernel_rfl) (by simp [Tryz.ntmps157]) ?_
 by_cases h0:a0q rk lo hi=0
 case neg =>
  rw [if_pos h0]
  repeat' (first|apply Ac.assoc|apply Ac.Ak|apply Ac.BL|apply Ad.nil|apply Ad.one|(apply Aa.fn;rfl;rfl;exact hp;intro _;rfl)|(apply Aa.assign;rfl)|(apply Aa.move;rfl)|(apply Aa.int;rfl;rfl;rfl)|(apply Aa.load;rfl;rfl)|(apply Aa.box;rfl;trivial)|(apply Ac.Ae;rfl)|(intro _;try (exfalso;omega)))
  all_goals first|(exfalso;omega)|(refine Done.rt rfl rfl ⟨?_,rfl,rfl⟩;try rfl)
 rw [h0] at hp ⊢
 rw [if_neg (by decide)]
 by_cases h1:EC s.name
 case neg =>
  rw [if_pos h1]
  rw [decide_eq_false h1] at hn
  repeat' (first|apply Ac.assoc|apply Ac.Ak|apply Ac.Ai|apply Ac.BL|apply Ad.nil|apply Ad.one|(apply Aa.fn;rfl;rfl;exact hp;intro _;rfl)|(apply Aa.fn;rfl;rfl;exact hn;intro _;rfl)|(apply Aa.assign;rfl)|(apply Aa.move;rfl)|(apply Aa.int;rfl;rfl;rfl)|(apply Aa.load;rfl;rfl)|(apply Aa.Aw;rfl;rfl;rfl)|(apply Aa.box;rfl;trivial)|(apply Aa.not;rfl)|(apply Ac.Bf;rfl)|(apply Ac.Aq;rfl))
  all_goals first|contradiction|(exfalso;omega)|(refine Done.rt rfl rfl ⟨?_,rfl,rfl⟩;try rfl)
 rw [if_neg (fun h=>h h1)]
 rw [decide_eq_true h1] at hn
 by_cases h2:Qb s.Fv=0
 case neg =>
  rw [if_pos h2]
  repeat' (first|apply Ac.assoc|apply Ac.Ak|apply Ac.Ai|apply Ac.BL|apply Ad.nil|apply Ad.one|(apply Aa.fn;rfl;rfl;exact hp;intro _;rfl)|(apply Aa.fn;rfl;rfl;exact hn;intro _;rfl)|(apply Aa.fn;rfl;rfl;exact hf;intro _;rfl)|(apply Aa.assign;rfl)|(apply Aa.move;rfl)|(apply Aa.int;rfl;rfl;rfl)|(apply Aa.load;rfl;rfl)|(apply Aa.Aw;rfl;rfl;rfl)|(apply Aa.box;rfl;trivial)|(apply Aa.not;rfl)|(apply Ac.Aq;rfl)|(apply Ac.Ae;rfl)|(intro _;try (exfalso;omega)))
  all_goals first|contradiction|(exfalso;omega)|(refine Done.rt rfl rfl ⟨?_,rfl,rfl⟩;try rfl)
 rw [if_neg (fun h=>h h2)]
 rw [h2] at hf
 repeat' (first|apply Ac.assoc|apply Ac.Ak|apply Ac.Ai|apply Ac.Ag|apply Au.normal|apply Au.ret|apply Ap.normal|apply Ap.ret|apply Ac.ret|apply Ac.skip|apply Ad.nil|apply Ad.one|(apply Aa.fn;rfl;rfl;exact hp;intro _;rfl)|(apply Aa.fn;rfl;rfl;exact hn;intro _;rfl)|(apply Aa.fn;rfl;rfl;exact hf;intro _;rfl)|(apply Aa.assign;rfl)|(apply Aa.move;rfl)|(apply Aa.int;rfl;rfl;rfl)|(apply Aa.load;rfl;rfl)|(apply Aa.CX;rfl;rfl)|(apply Aa.Aw;rfl;rfl;rfl)|(apply Aa.box;rfl;trivial)|(apply Aa.not;rfl)|(apply Ac.Aq;rfl)|(apply Ac.AZ;rfl)|(intro _;try (exfalso;omega)))
 all_goals try contradiction
 all_goals try (exfalso;omega)
 ·rw [if_pos (by omega)];(refine Done.rt rfl rfl ⟨?_,rfl,rfl⟩;try rfl)
 ·rw [if_neg (by omega),if_pos (by omega)];(refine Done.rt rfl rfl ⟨?_,rfl,rfl⟩;try rfl)
 rw [if_neg (by omega),if_neg (by omega)]
 refine Ac.Gp (fun k:Nat=>[(2,.ref 0 0),(3,.ref 1 0),(36,lst 273 s.Ih),(37,.p (.int .i64 (s.Ih.length:Int))),(38,.p (.int .i64 (k:Int)))]) (fun _=>[(1,.box 229 ((Enc.enc s).map .p)),(0,.box 277 ((xG rk lo hi).map .p))]) 2 (fun k=>k≤s.Ih.length∧XY rk.length lo hi s.Ih k=XY rk.length lo hi s.Ih 0) (fun k=>s.Ih.length-k) 0 (by omega) ⟨by omega,rfl⟩ ⟨by omega,?_,?_⟩ ?_
 ·exact EJ
 ·exact FM
 rintro k ⟨hk,hE⟩
 rw [← hE]
 by_cases hkl:k<s.Ih.length
 ·have hsm:=(q3 k hkl).draws
  have hd:=pz rk lo hi (gi s.Ih k).draws hsm hr
  rw [XY,if_pos hkl]
  have hk1:((k:Int)-1).toNat=k-1:=by omega
  have hkc:0<k→((k-1:Nat):Int)=(k:Int)-1:=fun h=>by omega
  generalize hD:wO rk.length (gi s.Ih k).draws=D at *
  repeat' (first|apply Ac.Ak|apply Ac.Dq|apply Ac.region|apply Ac.Ai|apply Ac.Ag|apply Au.normal|apply Au.ret|apply Ap.normal|apply Ap.ret|apply Ah.ret|apply Ac.ret|apply Ac.skip|apply Ad.nil|apply Af.nil|apply Ad.one|(apply Af.bar;decide +kernel)|apply Af.quiet|(apply Ad.take;rfl;rfl)|(apply Af.FK;rfl;rfl)|(apply Ad.drop;rfl;rfl;rfl)|(apply Af.drop;rfl;rfl;rfl)|(apply Ad.guard;rfl;rfl)|(apply Af.guard;rfl;rfl)|(apply Af.Sz;rfl;rfl)|(apply Aa.fn;rfl;rfl;exact hd;intro _;rfl)|(apply Aa.assign;rfl)|(apply Aa.move;rfl)|(apply Aa.BU;rfl;rfl;omega)|(apply Aa.Jv;rfl;rfl;omega)|(apply Aa.int;rfl;rfl;rfl)|(apply Aa.AP;rfl;rfl;rfl;omega;rfl)|(apply Aa.a8p;rfl;rfl;rfl;omega;omega;rfl)|(apply Aa.load;rfl;rfl)|(apply Aa.Bc;rfl;rfl)|(apply Aa.AL;rfl;rfl)|(apply Aa.Aw;rfl;rfl;rfl)|(apply Aa.GY;rfl;rfl)|(apply Aa.alloc;rfl)|(apply Aa.Bd;rfl;rfl;rfl;trivial;rfl;rfl;exact Az rfl;exact le_dec rfl)|(apply Aa.a8w;rfl;rfl)|(apply Aa.b7f;rfl;rfl)|(apply Ac.Ae;rfl)|(apply Ac.cond_true;rfl)|(apply Ac.cond_false;rfl)|(apply Ac.AZ;rfl)|(intro _;try (exfalso;omega)))
  all_goals try (exfalso;omega)
  all_goals first
   |(rw [if_pos (by omega)];(refine Done.rt rfl rfl ⟨?_,rfl,rfl⟩;try rfl);done)
   |(rw [if_neg (by omega),if_pos (by omega)];(refine Done.rt rfl rfl ⟨?_,rfl,rfl⟩;try rfl);done)
   |(rw [if_neg (by omega),if_neg (by omega),if_pos (by omega)];(refine Done.rt rfl rfl ⟨?_,rfl,rfl⟩;try rfl);done)
   |(rw [if_neg (by omega),if_neg (by omega),if_neg (by omega)]
     refine Ah.normal ⟨k+1,⟨by omega,?_⟩,by omega,⟨by omega,?_,?_⟩⟩
     ·first|rfl|(refine Eq.trans ?_ hE;symm;(conv=>lhs;rw [XY]);rw [if_pos hkl,if_neg (by omega),if_neg (by omega),if_neg (by omega)])
     ·exact EJ
     ·exact FM)
 ·rw [XY,if_neg hkl]
  repeat' (first|apply Ac.Ak|apply Ac.Bl|apply Au.normal|apply Ap.exit|apply Ah.exit|apply Ac.ret|apply Ad.nil|apply Ad.one|(apply Aa.assign;rfl)|(apply Aa.int;rfl;rfl;rfl)|(apply Ac.Ae;rfl)|(intro _;try (exfalso;omega)))
  all_goals first|(exfalso;omega)|(refine Done.rt rfl rfl ⟨?_,rfl,rfl⟩;try rfl)
end
section
open Go Go.Am Go.Vm
attribute [local irreducible] Aa Ad Af Ac Ba AB BG Au Ap Ah Vm.Done BQ AY
attribute [local irreducible] CV Bq
theorem a4l {L:Vm.Frame} {H:Vm.Heap} {nx:Nat} {Q:PV→Vm.Heap→Nat→Prop} {dst:Option Tmp} {ty:TypeId} {pos:String} {af:Array Edge} {gd:Option (Nat×Bool)} {fo:Operand} {args:Array Operand} {aT:Array TypeId} {fs cs xs:List PV} {c:Code}
 (hf:Bh env.Γ L fo=some (.clo 158 fs cs)) (ha:evs env.Γ L args.toList=some xs) (hb:Tryz.f158.body=some c) (hn:(fs++xs++cs).length≤Tryz.f158.ntmps)
 (h:Ac env nx c (CP 0 (fs++xs++cs)) H nx (AY env.P Tryz.f158.results.toList Q)):Aa env true ⟨dst,.call { callee:=.value fo,args:=args,argTypes:=aT },ty,pos,af,gd⟩ L H nx Q:=by
 have h0:(match Tryz.f158.body with|some c=>Ij env.G Tryz.f158 c|none=>false)=true:=by kernel_rfl
 rw [hb] at h0
 exact Aa.inline rfl hf ha (Aj (by decide)) Tryz.func158 hb h0 hn h
theorem a4p {L:Vm.Frame} {H:Vm.Heap} {nx:Nat} {Q:PV→Vm.Heap→Nat→Prop} {dst:Option Tmp} {ty:TypeId} {pos:String} {af:Array Edge} {gd:Option (Nat×Bool)} {fo:Operand} {args:Array Operand} {aT:Array TypeId} {fs cs xs:List PV} {c:Code}
 (hf:Bh env.Γ L fo=some (.clo 183 fs cs)) (ha:evs env.Γ L args.toList=some xs) (hb:Tryz.f183.body=some c) (hn:(fs++xs++cs).length≤Tryz.f183.ntmps)
 (h:Ac env nx c (CP 0 (fs++xs++cs)) H nx (AY env.P Tryz.f183.results.toList Q)):Aa env true ⟨dst,.call { callee:=.value fo,args:=args,argTypes:=aT },ty,pos,af,gd⟩ L H nx Q:=by
 have h0:(match Tryz.f183.body with|some c=>Ij env.G Tryz.f183 c|none=>false)=true:=by kernel_rfl
 rw [hb] at h0
 exact Aa.inline rfl hf ha (Aj (by decide)) Tryz.func183 hb h0 hn h
theorem ug {L:Vm.Frame} {H:Vm.Heap} {nx:Nat} {Q:PV→Vm.Heap→Nat→Prop} {dst:Option Tmp} {ty:TypeId} {pos:String} {af:Array Edge} {gd:Option (Nat×Bool)} {fo:Operand} {args:Array Operand} {aT:Array TypeId} {fs cs xs:List PV} {c:Code}
 (hf:Bh env.Γ L fo=some (.clo 159 fs cs)) (ha:evs env.Γ L args.toList=some xs) (hb:Tryz.f159.body=some c) (hn:(fs++xs++cs).length≤Tryz.f159.ntmps)
 (h:Ac env nx c (CP 0 (fs++xs++cs)) H nx (AY env.P Tryz.f159.results.toList Q)):Aa env true ⟨dst,.call { callee:=.value fo,args:=args,argTypes:=aT },ty,pos,af,gd⟩ L H nx Q:=by
 have h0:(match Tryz.f159.body with|some c=>Ij env.G Tryz.f159 c|none=>false)=true:=by kernel_rfl
 rw [hb] at h0
 exact Aa.inline rfl hf ha (Aj (by decide)) Tryz.func159 hb h0 hn h
theorem fO (ks:List kF) (l:List xQ) (hk0:ks.length<1000000) (hl:l.length<1000000) (hn0:∀ i,i<l.length→(gi l i).name.length<1000000):AB env 121 [.lst 115 (cells ks) ks.length,.lst 236 (cells l) l.length] (.p (.int .i64 (Ez ks l))):=by
 unfold Ez
 refine AB.enter (Aj (by decide)) Tryz.func121 rfl (by kernel_rfl) (by simp [Tryz.ntmps121]) ?_
 by_cases h0:ks.length>8∨l.length>40
 ·rw [if_pos h0]
  repeat' (first|apply Ac.assoc|apply Ac.Ak|apply Ac.BL|apply Ad.nil|apply Ad.one|(apply Ad.take;rfl;rfl)|(apply Ad.drop;rfl;rfl;rfl)|(apply Ad.guard;rfl;rfl)|(apply Aa.assign;rfl)|(apply Aa.move;rfl)|(apply Aa.int;rfl;rfl;rfl)|(apply Aa.Bc;rfl;rfl)|(apply Aa.AL;rfl;rfl)|(apply Aa.CX;rfl;rfl)|(apply Ac.Bf;rfl)|(apply Ac.Ae;rfl)|(intro _;try (exfalso;omega)))
  all_goals first|(exfalso;omega)|(refine Done.rt rfl rfl ⟨?_,rfl,rfl⟩;try rfl)
 rw [if_neg h0]
 repeat' (first|apply Ac.assoc|apply Ac.Ak|apply Ac.Ai|apply Ac.Ag|apply Ad.nil|apply Ad.one|(apply Ad.take;rfl;rfl)|(apply Ad.guard;rfl;rfl)|(apply Aa.assign;rfl)|(apply Aa.move;rfl)|(apply Aa.int;rfl;rfl;rfl)|(apply Aa.AL;rfl;rfl)|(apply Aa.CX;rfl;rfl)|(apply Ac.Ae;rfl)|(intro _;try (exfalso;omega)))
 all_goals try (exfalso;omega)
 refine Ac.Gp (fun k:Nat=>[(0,lst 115 ks),(1,lst 236 l),(17,lst 115 ks),(18,.p (.int .i64 (ks.length:Int))),(19,.p (.int .i64 (k:Int)))]) (fun _=>[]) 0 (fun k=>k≤ks.length∧Tn ks k=Tn ks 0) (fun k=>ks.length-k) 0 (by omega) ⟨by omega,rfl⟩ ⟨by omega,?_,Ci.nil⟩ ?_
 ·exact EJ
 rintro k ⟨hk,hE⟩
 by_cases hkl:k<ks.length
 ·have hc:=YQ (gi ks k).lo (gi ks k).hi
  by_cases h1:UA (gi ks k).lo (gi ks k).hi=0
  ·rw [h1] at hc
   repeat' (first|apply Ac.Ak|apply Ac.region|apply Ac.Ai|apply Ac.Ag|apply Au.normal|apply Ap.normal|apply Ac.skip|apply Ad.nil|apply Ad.one|(apply Aa.fn;rfl;rfl;exact hc;intro _;rfl)|(apply Aa.move;rfl)|(apply Aa.BU;rfl;rfl;omega)|(apply Aa.int;rfl;rfl;rfl)|(apply Aa.AP;rfl;rfl;rfl;omega;rfl)|(apply Aa.load;rfl;rfl)|(apply Aa.alloc;rfl)|(apply Aa.Bd;rfl;rfl;rfl;trivial;rfl;rfl;exact Az rfl;exact le_dec rfl)|(apply Ac.Ae;rfl)|(apply Ac.cond_false;rfl)|(intro _;try (exfalso;omega)))
   all_goals try (exfalso;omega)
   all_goals try contradiction
   refine Ah.normal ⟨k+1,⟨by omega,?_⟩,by omega,⟨by omega,?_,Ci.nil⟩⟩
   ·first|rfl|(refine Eq.trans ?_ hE;symm;(conv=>lhs;rw [Tn]);rw [if_pos hkl,if_neg (fun h=>h h1)])
   ·exact EJ
  ·have e:Tn ks 0=23:=by rw [← hE,Tn,if_pos hkl,if_pos h1]
   rw [if_pos (by rw [e];decide),e]
   repeat' (first|apply Ac.Ak|apply Ac.Ai|apply Ac.Ag|apply Au.ret|apply Ap.ret|apply Ah.ret|apply Ac.ret|apply Ad.nil|apply Ad.one|(apply Aa.fn;rfl;rfl;exact hc;intro _;rfl)|(apply Aa.assign;rfl)|(apply Aa.int;rfl;rfl;rfl)|(apply Aa.AP;rfl;rfl;rfl;omega;rfl)|(apply Aa.load;rfl;rfl)|(apply Aa.alloc;rfl)|(apply Aa.Bd;rfl;rfl;rfl;trivial;rfl;rfl;exact Az rfl;exact le_dec rfl)|(apply Ac.Ae;rfl)|(apply Ac.AZ;rfl)|(intro _;try (exfalso;omega)))
   all_goals first|(exfalso;omega)|contradiction|(refine Done.rt rfl rfl ⟨?_,rfl,rfl⟩;try rfl)
 obtain rfl:k=ks.length:=by omega
 have e:Tn ks 0=0:=by rw [← hE,Tn,if_neg (by omega)]
 rw [if_neg (fun h=>h e)]
 repeat' (first|apply Ac.assoc|apply Ac.Ak|apply Ac.Bl|apply Ac.Ag|apply Au.normal|apply Ap.exit|apply Ah.exit|apply Ad.nil|apply Ad.one|(apply Aa.move;rfl)|(apply Aa.int;rfl;rfl;rfl)|(apply Aa.CX;rfl;rfl)|(apply Ac.Ae;rfl)|(intro _;try (exfalso;omega)))
 all_goals try (exfalso;omega)
 refine Ac.Gp (fun k:Nat=>[(0,lst 115 ks),(1,lst 236 l),(27,lst 236 l),(28,.p (.int .i64 (l.length:Int))),(29,.p (.int .i64 (k:Int)))]) (fun _=>[]) 0 (fun k=>k≤l.length∧Qm ks.length l k=Qm ks.length l 0) (fun k=>l.length-k) 0 (by omega) ⟨by omega,rfl⟩ ⟨by omega,?_,Ci.nil⟩ ?_
 ·exact EJ
 rintro k ⟨hk,hE⟩
 rw [← hE]
 by_cases hkl:k<l.length
 case neg =>
  rw [Qm,if_neg hkl]
  repeat' (first|apply Ac.Ak|apply Ac.Bl|apply Au.normal|apply Ap.exit|apply Ah.exit|apply Ac.ret|apply Ad.nil|apply Ad.one|(apply Aa.assign;rfl)|(apply Aa.int;rfl;rfl;rfl)|(apply Ac.Ae;rfl)|(intro _;try (exfalso;omega)))
  all_goals first|(exfalso;omega)|(refine Done.rt rfl rfl ⟨?_,rfl,rfl⟩;try rfl)
 rw [Qm,if_pos hkl]
 have hN:=Ht (gi l k).name (by have:=hn0 k hkl;omega)
 by_cases h1:EC (gi l k).name
 case neg =>
  rw [if_pos h1]
  rw [decide_eq_false h1] at hN
  repeat' (first|apply Ac.Ak|apply Ac.Ai|apply Ac.Ag|apply Au.ret|apply Ap.ret|apply Ah.ret|apply Ac.ret|apply Ac.NI|apply Ad.nil|apply Ad.one|(apply Aa.fn;rfl;rfl;exact hN;intro _;rfl)|(apply Aa.assign;rfl)|(apply Aa.move;rfl)|(apply Aa.int;rfl;rfl;rfl)|(apply Aa.AP;rfl;rfl;rfl;omega;rfl)|(apply Aa.load;rfl;rfl)|(apply Aa.Aw;rfl;rfl;rfl)|(apply Aa.alloc;rfl)|(apply Aa.Bd;rfl;rfl;rfl;trivial;rfl;rfl;exact Az rfl;exact le_dec rfl)|(apply Aa.not;rfl)|(apply Ac.Ae;rfl)|(apply Ac.cond_true;rfl)|(intro _;try (exfalso;omega)))
  all_goals first|(exfalso;omega)|contradiction|(refine Done.rt rfl rfl ⟨?_,rfl,rfl⟩;try rfl)
 rw [if_neg (fun h=>h h1)]
 rw [decide_eq_true h1] at hN
 have hT:(gi l k).name∈(l.take k).map xQ.name↔∃ j,j<k∧(gi l j).name=(gi l k).name:=by
  rw [List.mem_map]
  constructor
  ·rintro ⟨a,ha,e⟩
   obtain ⟨j,h1,h2⟩:=XG.1 ha
   rw [List.length_take] at h1
   rw [Wx (by omega)] at h2
   exact ⟨j,by omega,by rw [h2,e]⟩
  ·rintro ⟨j,hj,e⟩
   exact ⟨gi l j,XG.2 ⟨j,by rw [List.length_take];omega,Wx hj⟩,e⟩
 repeat' (first|apply Ac.assoc|apply Ac.Ak|apply Ac.Ai|apply Ac.Ag|apply Ac.NI|apply Ad.nil|apply Ad.one|(apply Aa.fn;rfl;rfl;exact hN;intro _;rfl)|(apply a4l;rfl;rfl;rfl;exact le_dec rfl)|(apply a4p;rfl;rfl;rfl;exact le_dec rfl)|(apply Aa.makeFunc;rfl;rfl)|(apply Aa.sliceTo;rfl;rfl;rfl;rfl;rfl;rfl;omega)|(apply Aa.assign;rfl)|(apply Aa.move;rfl)|(apply Aa.int;rfl;rfl;rfl)|(apply Aa.AP;rfl;rfl;rfl;omega;rfl)|(apply Aa.load;rfl;rfl)|(apply Aa.CX;rfl;rfl)|(apply Aa.Aw;rfl;rfl;rfl)|(apply Aa.alloc;rfl)|(apply Aa.Bd;rfl;rfl;rfl;trivial;rfl;rfl;exact Az rfl;exact le_dec rfl)|(apply Aa.not;rfl)|(apply Ac.Ae;rfl)|(apply Ac.cond_false;rfl)|(intro _;try (exfalso;omega)))
 all_goals try (exfalso;omega)
 all_goals try contradiction
 refine Ac.Gp (fun j:Nat=>[(0,.p (.lst 236 (cells (l.take k)) k)),(1,.clo 159 [] [.ref 0 0]),(7,.p (.int .i64 (k:Int))),(8,.p (.int .i64 (j:Int)))]) (fun _=>[(0,.box 236 ((Enc.enc (gi l k)).map .p))]) 1 (fun j=>j≤k∧∀ i,i<j→(gi l i).name≠(gi l k).name) (fun j=>k-j) 0 (by omega) ⟨by omega,fun i hi=>by omega⟩ ⟨by omega,?_,?_⟩ ?_
 ·exact EJ
 ·exact FM
 rintro j ⟨hj,hok⟩
 by_cases hjk:j<k
 ·have hgt:gi (l.take k) j=gi l j:=Wx hjk
  have hlt:(l.take k).length=k:=by rw [List.length_take];omega
  generalize hg:decide ((gi l j).name=(gi l k).name)=g at *
  have hg2:decide ((gi (l.take k) j).name=(gi l k).name)=g:=by rw [hgt];exact hg
  cases g
  ·repeat' (first|apply Ac.Ak|apply Ac.region|apply Ac.Ai|apply Ac.Ag|apply Au.normal|(apply AY.ret;rfl)|apply Ap.normal|apply Ac.ret|apply Ac.skip|apply Ad.nil|apply Ad.one|(apply ug;rfl;rfl;rfl;exact le_dec rfl)|(apply Aa.b2n;rfl;rfl;exact hg2)|(apply Aa.AP (l:=l.take k) (i:=j);rfl;rfl;rfl;omega;exact hlt)|(apply Aa.assign;rfl)|(apply Aa.move;rfl)|(apply Aa.BU;rfl;rfl;omega)|(apply Aa.int;rfl;rfl;rfl)|(apply Aa.load;rfl;rfl)|(apply Aa.Aw;rfl;rfl;rfl)|(apply Aa.box;rfl;trivial)|(apply Ac.Ae;rfl)|(apply Ac.cond_false;rfl)|(intro _;try (exfalso;omega)))
   all_goals try (exfalso;omega)
   refine Ah.normal ⟨j+1,⟨by omega,fun i hi=>?_⟩,by omega,⟨by omega,?_,?_⟩⟩
   ·rcases Nat.lt_or_ge i j with h|h
    ·exact hok i h
    ·obtain rfl:i=j:=by omega
     exact of_decide_eq_false hg
   ·exact EJ
   ·exact FM
  ·rw [if_pos (hT.2 ⟨j,hjk,of_decide_eq_true hg⟩)]
   repeat' (first|apply Ac.Ak|apply Ac.Ai|apply Ac.Ag|apply Au.ret|(apply AY.ret;rfl)|apply Ap.ret|apply Ah.ret|apply Ac.ret|apply Ad.nil|apply Ad.one|(apply ug;rfl;rfl;rfl;exact le_dec rfl)|(apply Aa.b2n;rfl;rfl;exact hg2)|(apply Aa.AP (l:=l.take k) (i:=j);rfl;rfl;rfl;omega;exact hlt)|(apply Aa.assign;rfl)|(apply Aa.move;rfl)|(apply Aa.int;rfl;rfl;rfl)|(apply Aa.load;rfl;rfl)|(apply Aa.Aw;rfl;rfl;rfl)|(apply Aa.box;rfl;trivial)|(apply Ac.Ae;rfl)|(apply Ac.cond_true;rfl)|(intro _;try (exfalso;omega)))
   all_goals first|(exfalso;omega)|contradiction|(refine Done.rt rfl rfl ⟨?_,rfl,rfl⟩;try rfl)
 obtain rfl:j=k:=by omega
 rw [if_neg (fun h=>by obtain ⟨i,h1,h2⟩:=hT.1 h;exact hok i h1 h2)]
 repeat' (first|apply Ac.Ak|apply Ac.region|apply Ac.Bl|apply Au.normal|apply Au.ret|(apply AY.ret;rfl)|apply Ap.normal|apply Ap.ret|apply Ap.exit|apply Ah.ret|apply Ah.exit|apply Ac.ret|apply Ac.skip|apply Ad.nil|apply Ad.one|(apply Ad.take;rfl;rfl)|(apply Ad.drop;rfl;rfl;rfl)|(apply Ad.guard;rfl;rfl)|(apply Aa.assign;rfl)|(apply Aa.move;rfl)|(apply Aa.BU;rfl;rfl;omega)|(apply Aa.int;rfl;rfl;rfl)|(apply Aa.load;rfl;rfl)|(apply Aa.Bc;rfl;rfl)|(apply Aa.AL;rfl;rfl)|(apply Aa.CX;rfl;rfl)|(apply Aa.Aw;rfl;rfl;rfl)|(apply Ac.Ae;rfl)|(apply Ac.cond_true;rfl)|(apply Ac.cond_false;rfl)|(apply Ac.AZ;rfl)|(intro _;try (exfalso;omega)))
 all_goals try (exfalso;omega)
 all_goals try contradiction
 all_goals first
  |(rw [if_pos (by omega)];(refine Done.rt rfl rfl ⟨?_,rfl,rfl⟩;try rfl);done)
  |(rw [if_neg (by omega),if_pos (by omega)];(refine Done.rt rfl rfl ⟨?_,rfl,rfl⟩;try rfl);done)
  |(rw [if_neg (by omega),if_neg (by omega),if_pos (by omega)];(refine Done.rt rfl rfl ⟨?_,rfl,rfl⟩;try rfl);done)
  |(rw [if_neg (by omega),if_neg (by omega),if_neg (by omega)]
    refine Ah.normal ⟨j+1,⟨by omega,?_⟩,by omega,⟨by omega,?_,Ci.nil⟩⟩
    ·first|rfl|(refine Eq.trans ?_ hE;symm;(conv=>lhs;rw [Qm]);rw [if_pos hkl,if_neg (fun h=>h h1),if_neg (fun h=>by obtain ⟨i,h1,h2⟩:=hT.1 h;exact hok i h1 h2),if_neg (by omega),if_neg (by omega),if_neg (by omega)])
    ·exact EJ)
end
section
open Go Go.Am Go.Vm
attribute [local irreducible] Aa Ad Af Ac Ba AB BG Au Ap Ah Vm.Done BQ AY
attribute [local irreducible] CV Bq Eh DY Ez
theorem QU {α:Type} [Inhabited α] (f:α→List UInt8) {l:List α} {k:Nat} (hk:k<l.length):(l.take (k+1)).map f=(l.take k).map f++[f (gi l k)]:=by
 rw [Ej hk,List.map_append];rfl
theorem Rh {L:Vm.Frame} {H:Vm.Heap} {nx:Nat} {Q:PV→Vm.Heap→Nat→Prop} {dst:Option Tmp} {ty:TypeId} {pos:String} {af:Array Edge} {gd:Option (Nat×Bool)} {fo:Operand} {args:Array Operand} {aT:Array TypeId} {fs cs xs:List PV} {c:Code}
 (hf:Bh env.Γ L fo=some (.clo 119 fs cs)) (ha:evs env.Γ L args.toList=some xs) (hb:Tryz.f119.body=some c) (hn:(fs++xs++cs).length≤Tryz.f119.ntmps)
 (h:Ac env nx c (CP 0 (fs++xs++cs)) H nx (AY env.P Tryz.f119.results.toList Q)):Aa env true ⟨dst,.call { callee:=.value fo,args:=args,argTypes:=aT },ty,pos,af,gd⟩ L H nx Q:=by
 have h0:(match Tryz.f119.body with|some c=>Ij env.G Tryz.f119 c|none=>false)=true:=by kernel_rfl
 rw [hb] at h0
 exact Aa.inline rfl hf ha (Aj (by decide)) Tryz.func119 hb h0 hn h
theorem Zc (o:IV) (d:gU) (ho:Ry o) (hd:a6y d):AB env 120 [.agg (Enc.enc o),.agg (Enc.enc d)] (.p (.int .i64 (DY o.ranks d))):=by
 have hc:=YQ d.lo d.hi
 obtain ⟨d1,d2,d3⟩:=hd
 unfold DY
 refine AB.enter (Aj (by decide)) Tryz.func120 rfl (by kernel_rfl) (by simp [Tryz.ntmps120]) ?_
 by_cases h0:UA d.lo d.hi=0
 case neg =>
  rw [if_pos h0]
  repeat' (first|apply Ac.assoc|apply Ac.Ak|apply Ac.BL|apply Ad.nil|apply Ad.one|(apply Aa.fn;rfl;rfl;exact hc;intro _;rfl)|(apply Aa.assign;rfl)|(apply Aa.move;rfl)|(apply Aa.int;rfl;rfl;rfl)|(apply Aa.load;rfl;rfl)|(apply Aa.Aw;rfl;rfl;rfl)|(apply Aa.box;rfl;trivial)|(apply Ac.Ae;rfl)|(intro _;try (exfalso;omega)))
  all_goals first|(exfalso;omega)|(refine Done.rt rfl rfl ⟨?_,rfl,rfl⟩;try rfl)
 rw [h0] at hc ⊢
 rw [if_neg (by decide)]
 repeat' (first|apply Ac.assoc|apply Ac.Ak|apply Ac.Ai|apply Ac.BL|apply Ac.Ag|apply Ad.nil|apply Ad.one|(apply Aa.fn;rfl;rfl;exact hc;intro _;rfl)|(apply Aa.makeMap)|(apply Aa.assign;rfl)|(apply Aa.move;rfl)|(apply Aa.int;rfl;rfl;rfl)|(apply Aa.load;rfl;rfl)|(apply Aa.CX;rfl;rfl)|(apply Aa.Aw;rfl;rfl;rfl)|(apply Aa.box;rfl;trivial)|(apply Ac.Aq;rfl)|(apply Ac.Ae;rfl)|(intro _;try (exfalso;omega)))
 all_goals try contradiction
 ·rw [if_pos (by omega)];(refine Done.rt rfl rfl ⟨?_,rfl,rfl⟩;try rfl)
 rw [if_neg (by omega)]
 refine Ac.Gp (fun k:Nat=>[(2,.ref 0 0),(3,.ref 1 0),(6,.mref 2),(23,lst 229 d.stops),(24,.p (.int .i64 (d.stops.length:Int))),(25,.p (.int .i64 (k:Int)))]) (fun k=>[(2,.map (Lu ((d.stops.take k).map Stp.name))),(1,.box 118 ((Enc.enc d).map .p)),(0,.box 27 ((Enc.enc o).map .p))]) 3 (fun k=>k≤d.stops.length∧Qw o.ranks d.lo d.hi d.stops k=Qw o.ranks d.lo d.hi d.stops 0) (fun k=>d.stops.length-k) 0 (by omega) ⟨by omega,rfl⟩ ⟨by omega,?_,?_⟩ ?_
 ·exact EJ
 ·exact FM
 rintro k ⟨hk,hE⟩
 rw [← hE]
 by_cases hkl:k<d.stops.length
 case neg =>
  rw [Qw,if_neg hkl]
  repeat' (first|apply Ac.Ak|apply Ac.Bl|apply Au.normal|apply Ap.exit|apply Ah.exit|apply Ac.ret|apply Ad.nil|apply Ad.one|(apply Aa.assign;rfl)|(apply Aa.int;rfl;rfl;rfl)|(apply Ac.Ae;rfl)|(intro _;try (exfalso;omega)))
  all_goals first|(exfalso;omega)|(refine Done.rt rfl rfl ⟨?_,rfl,rfl⟩;try rfl)
 rw [Qw,if_pos hkl]
 have hst:=wI o.ranks d.lo d.hi (gi d.stops k) ho.ranks ho.rk (d3 k hkl)
 by_cases h1:Eh o.ranks d.lo d.hi (gi d.stops k)=0
 case neg =>
  rw [if_pos h1]
  repeat' (first|apply Ac.assoc|apply Ac.Ak|apply Ac.Ai|apply Ac.BL|apply Ac.Ag|apply Au.ret|apply Ap.ret|apply Ah.ret|apply Ad.nil|apply Ad.one|(apply Aa.fn;rfl;rfl;exact hst;intro _;rfl)|(apply Aa.assign;rfl)|(apply Aa.move;rfl)|(apply Aa.int;rfl;rfl;rfl)|(apply Aa.AP;rfl;rfl;rfl;omega;rfl)|(apply Aa.load;rfl;rfl)|(apply Aa.Aw;rfl;rfl;rfl)|(apply Aa.alloc;rfl)|(apply Aa.Bd;rfl;rfl;rfl;trivial;rfl;rfl;exact Az rfl;exact le_dec rfl)|(apply Aa.build;rfl;rfl;rfl;rfl;rfl)|(apply Ac.Ae;rfl)|(intro _;try (exfalso;omega)))
  all_goals first|(exfalso;omega)|contradiction|(refine Done.rt rfl rfl ⟨?_,rfl,rfl⟩;try rfl)
 rw [h1] at hst ⊢
 rw [if_neg (by decide)]
 by_cases h2:(gi d.stops k).name∈(d.stops.take k).map Stp.name
 ·rw [if_pos h2]
  repeat' (first|apply Ac.assoc|apply Ac.Ak|apply Ac.Ai|apply Ac.BL|apply Ac.Ag|apply Au.ret|(apply AY.ret;rfl)|apply Ap.ret|apply Ah.ret|apply Ac.ret|apply Ad.nil|apply Ad.one|(apply Aa.fn;rfl;rfl;exact hst;intro _;rfl)|(apply Rh;rfl;rfl;rfl;exact le_dec rfl)|(apply Aa.IW;rfl;rfl;rfl;rfl;rfl;rfl)|(apply Aa.assign;rfl)|(apply Aa.move;rfl)|(apply Aa.int;rfl;rfl;rfl)|(apply Aa.AP;rfl;rfl;rfl;omega;rfl)|(apply Aa.load;rfl;rfl)|(apply Aa.Aw;rfl;rfl;rfl)|(apply Aa.alloc;rfl)|(apply Aa.Bd;rfl;rfl;rfl;trivial;rfl;rfl;exact Az rfl;exact le_dec rfl)|(apply Aa.build;rfl;rfl;rfl;rfl;rfl)|(apply Ac.Aq;rfl)|(apply Ac.Ae;rfl)|(apply Ac.cond_true;rfl)|(intro _;try (exfalso;omega)))
  all_goals first|(exfalso;omega)|contradiction|(refine Done.rt rfl rfl ⟨?_,rfl,rfl⟩;try rfl)
 ·rw [if_neg h2]
  repeat' (first|apply Ac.assoc|apply Ac.Ak|apply Ac.region|apply Ac.Ai|apply Ac.BL|apply Ac.Ag|apply Au.normal|apply Au.ret|(apply AY.ret;rfl)|apply Ap.normal|apply Ap.ret|apply Ah.ret|apply Ac.ret|apply Ac.skip|apply Ad.nil|apply Ad.one|(apply Aa.fn;rfl;rfl;exact hst;intro _;rfl)|(apply Rh;rfl;rfl;rfl;exact le_dec rfl)|(apply Aa.IW;rfl;rfl;rfl;rfl;rfl;rfl)|(apply Aa.cZ;rfl;rfl;rfl;rfl;rfl;rfl;exact h2)|(apply Aa.assign;rfl)|(apply Aa.move;rfl)|(apply Aa.BU;rfl;rfl;omega)|(apply Aa.int;rfl;rfl;rfl)|(apply Aa.AP;rfl;rfl;rfl;omega;rfl)|(apply Aa.load;rfl;rfl)|(apply Aa.Aw;rfl;rfl;rfl)|(apply Aa.alloc;rfl)|(apply Aa.Bd;rfl;rfl;rfl;trivial;rfl;rfl;exact Az rfl;exact le_dec rfl)|(apply Aa.build;rfl;rfl;rfl;rfl;rfl)|(apply Ac.Aq;rfl)|(apply Ac.Ae;rfl)|(apply Ac.cond_true;rfl)|(apply Ac.cond_false;rfl)|(intro _;try (exfalso;omega)))
  all_goals try (exfalso;omega)
  all_goals try contradiction
  refine Ah.normal ⟨k+1,⟨by omega,?_⟩,by omega,⟨by omega,?_,?_⟩⟩
  ·first|rfl|(refine Eq.trans ?_ hE;symm;(conv=>lhs;rw [Qw]);rw [if_pos hkl,if_neg (fun h=>h h1),if_neg h2])
  ·exact EJ
  ·rw [QU Stp.name hkl];exact FM
theorem VI (o:IV) (ho:Ry o):AB env 78 [.agg (Enc.enc o)] (.p (.int .i64 (YS o))):=by
 have hn:=Ht o.name (by have:=ho.name;omega)
 have b1:=ho.ranks
 have b2:=ho.AU
 unfold YS
 refine AB.enter (Aj (by decide)) Tryz.func78 rfl (by kernel_rfl) (by simp [Tryz.ntmps78]) ?_
 by_cases h0:EC o.name
 case neg =>
  rw [if_pos h0]
  rw [decide_eq_false h0] at hn
  repeat' (first|apply Ac.Ak|apply Ac.Ag|apply Au.ret|apply Ap.ret|apply Ac.ret|apply Ad.nil|apply Ad.one|(apply Aa.fn;rfl;rfl;exact hn;intro _;rfl)|(apply Aa.assign;rfl)|(apply Aa.load;rfl;rfl)|(apply Aa.Aw;rfl;rfl;rfl)|(apply Aa.box;rfl;trivial)|(apply Aa.not;rfl)|(apply Ac.cond_true;rfl))
  all_goals first|(exfalso;omega)|contradiction|(refine Done.rt rfl rfl ⟨?_,rfl,rfl⟩;try rfl)
 rw [if_neg (fun h=>h h0)]
 rw [decide_eq_true h0] at hn
 repeat' (first|apply Ac.assoc|apply Ac.Ak|apply Ac.Ag|apply Au.normal|apply Au.ret|apply Ap.normal|apply Ap.ret|apply Ac.ret|apply Ac.skip|apply Ad.nil|apply Ad.one|(apply Aa.fn;rfl;rfl;exact hn;intro _;rfl)|(apply Aa.makeMap)|(apply Aa.assign;rfl)|(apply Aa.move;rfl)|(apply Aa.int;rfl;rfl;rfl)|(apply Aa.load;rfl;rfl)|(apply Aa.CX;rfl;rfl)|(apply Aa.Aw;rfl;rfl;rfl)|(apply Aa.box;rfl;trivial)|(apply Aa.not;rfl)|(apply Ac.cond_false;rfl)|(apply Ac.AZ;rfl)|(intro _;try (exfalso;omega)))
 all_goals try contradiction
 ·rw [if_pos (by omega)];(refine Done.rt rfl rfl ⟨?_,rfl,rfl⟩;try rfl)
 rw [if_neg (by omega)]
 refine Ac.Gp (fun k:Nat=>[(1,.ref 0 0),(3,.mref 1),(25,lst 113 o.ranks),(26,.p (.int .i64 (o.ranks.length:Int))),(27,.p (.int .i64 (k:Int)))]) (fun k=>[(1,.map (Lu ((o.ranks.take k).map IE.name))),(0,.box 27 ((Enc.enc o).map .p))]) 2 (fun k=>k≤o.ranks.length∧Qh o.ranks k=Qh o.ranks 0) (fun k=>o.ranks.length-k) 0 (by omega) ⟨by omega,rfl⟩ ⟨by omega,?_,?_⟩ ?_
 ·exact EJ
 ·exact FM
 rintro k ⟨hk,hE⟩
 by_cases hkl:k<o.ranks.length
 ·have hsm:=(ho.rk k hkl).len
  have hc:=Vs (gi o.ranks k) hsm.1 hsm.2.1 hsm.2.2
  by_cases h1:CV (gi o.ranks k)=0
  case neg =>
   have e:Qh o.ranks 0=CV (gi o.ranks k):=by rw [← hE,Qh,if_pos hkl,if_pos h1]
   rw [e,if_pos h1]
   repeat' (first|apply Ac.assoc|apply Ac.Ak|apply Ac.Ai|apply Ac.BL|apply Ac.Ag|apply Au.ret|apply Ap.ret|apply Ah.ret|apply Ad.nil|apply Ad.one|(apply Aa.fn;rfl;rfl;exact hc;intro _;rfl)|(apply Aa.assign;rfl)|(apply Aa.move;rfl)|(apply Aa.int;rfl;rfl;rfl)|(apply Aa.AP;rfl;rfl;rfl;omega;rfl)|(apply Aa.load;rfl;rfl)|(apply Aa.alloc;rfl)|(apply Aa.Bd;rfl;rfl;rfl;trivial;rfl;rfl;exact Az rfl;exact le_dec rfl)|(apply Ac.Ae;rfl)|(intro _;try (exfalso;omega)))
   all_goals first|(exfalso;omega)|contradiction|(refine Done.rt rfl rfl ⟨?_,rfl,rfl⟩;try rfl)
  rw [h1] at hc
  by_cases h2:(gi o.ranks k).name∈(o.ranks.take k).map IE.name
  ·have e:Qh o.ranks 0=9:=by rw [← hE,Qh,if_pos hkl,if_neg (fun h=>h h1),if_pos h2]
   rw [e,if_pos (by decide)]
   repeat' (first|apply Ac.assoc|apply Ac.Ak|apply Ac.Ai|apply Ac.BL|apply Ac.Ag|apply Au.ret|(apply AY.ret;rfl)|apply Ap.ret|apply Ah.ret|apply Ac.ret|apply Ad.nil|apply Ad.one|(apply Aa.fn;rfl;rfl;exact hc;intro _;rfl)|(apply Rh;rfl;rfl;rfl;exact le_dec rfl)|(apply Aa.IW;rfl;rfl;rfl;rfl;rfl;rfl)|(apply Aa.assign;rfl)|(apply Aa.move;rfl)|(apply Aa.int;rfl;rfl;rfl)|(apply Aa.AP;rfl;rfl;rfl;omega;rfl)|(apply Aa.load;rfl;rfl)|(apply Aa.Aw;rfl;rfl;rfl)|(apply Aa.alloc;rfl)|(apply Aa.Bd;rfl;rfl;rfl;trivial;rfl;rfl;exact Az rfl;exact le_dec rfl)|(apply Ac.Aq;rfl)|(apply Ac.Ae;rfl)|(apply Ac.cond_true;rfl)|(intro _;try (exfalso;omega)))
   all_goals first|(exfalso;omega)|contradiction|(refine Done.rt rfl rfl ⟨?_,rfl,rfl⟩;try rfl)
  ·repeat' (first|apply Ac.assoc|apply Ac.Ak|apply Ac.region|apply Ac.Ai|apply Ac.BL|apply Ac.Ag|apply Au.normal|apply Au.ret|(apply AY.ret;rfl)|apply Ap.normal|apply Ap.ret|apply Ah.ret|apply Ac.ret|apply Ac.skip|apply Ad.nil|apply Ad.one|(apply Aa.fn;rfl;rfl;exact hc;intro _;rfl)|(apply Rh;rfl;rfl;rfl;exact le_dec rfl)|(apply Aa.IW;rfl;rfl;rfl;rfl;rfl;rfl)|(apply Aa.cZ;rfl;rfl;rfl;rfl;rfl;rfl;exact h2)|(apply Aa.assign;rfl)|(apply Aa.move;rfl)|(apply Aa.BU;rfl;rfl;omega)|(apply Aa.int;rfl;rfl;rfl)|(apply Aa.AP;rfl;rfl;rfl;omega;rfl)|(apply Aa.load;rfl;rfl)|(apply Aa.Aw;rfl;rfl;rfl)|(apply Aa.alloc;rfl)|(apply Aa.Bd;rfl;rfl;rfl;trivial;rfl;rfl;exact Az rfl;exact le_dec rfl)|(apply Ac.Aq;rfl)|(apply Ac.Ae;rfl)|(apply Ac.cond_true;rfl)|(apply Ac.cond_false;rfl)|(intro _;try (exfalso;omega)))
   all_goals try (exfalso;omega)
   all_goals try contradiction
   refine Ah.normal ⟨k+1,⟨by omega,?_⟩,by omega,⟨by omega,?_,?_⟩⟩
   ·first|rfl|(refine Eq.trans ?_ hE;symm;(conv=>lhs;rw [Qh]);rw [if_pos hkl,if_neg (fun h=>h h1),if_neg h2])
   ·exact EJ
   ·rw [QU IE.name hkl];exact FM
 obtain rfl:k=o.ranks.length:=by omega
 have e:Qh o.ranks 0=0:=by rw [← hE,Qh,if_neg (by omega)]
 rw [if_neg (fun h=>h e)]
 repeat' (first|apply Ac.assoc|apply Ac.Ak|apply Ac.Bl|apply Ac.Ag|apply Au.normal|apply Au.ret|apply Ap.normal|apply Ap.ret|apply Ap.exit|apply Ah.exit|apply Ac.ret|apply Ac.skip|apply Ad.nil|apply Ad.one|(apply Aa.makeMap)|(apply Aa.assign;rfl)|(apply Aa.move;rfl)|(apply Aa.int;rfl;rfl;rfl)|(apply Aa.load;rfl;rfl)|(apply Aa.CX;rfl;rfl)|(apply Aa.Aw;rfl;rfl;rfl)|(apply Ac.Ae;rfl)|(apply Ac.AZ;rfl)|(intro _;try (exfalso;omega)))
 all_goals try (exfalso;omega)
 ·rw [if_pos (by omega)];(refine Done.rt rfl rfl ⟨?_,rfl,rfl⟩;try rfl)
 ·rw [if_neg (by omega),if_pos (by omega)];(refine Done.rt rfl rfl ⟨?_,rfl,rfl⟩;try rfl)
 rw [if_neg (by omega),if_neg (by omega)]
 refine Ac.ghost (Bo.adopt 8 115 rfl) ?_
 refine Ac.Gp (fun k:Nat=>[(1,.ref 0 0),(3,.mref 2),(8,.vec 3 ((o.AU.take k).map fun d=>(⟨d.lo,d.hi⟩:kF)).length 0 ((o.AU.take k).map fun d=>(⟨d.lo,d.hi⟩:kF)).length),(56,lst 118 o.AU),(57,.p (.int .i64 (o.AU.length:Int))),(58,.p (.int .i64 (k:Int)))]) (fun k=>[(3,.vec 115 (cells ((o.AU.take k).map fun d=>(⟨d.lo,d.hi⟩:kF))) ((o.AU.take k).map fun d=>(⟨d.lo,d.hi⟩:kF)).length true),(2,.map (Lu ((o.AU.take k).map gU.name))),(0,.box 27 ((Enc.enc o).map .p))]) 4 (fun k=>k≤o.AU.length∧Gx o.ranks o.AU k=Gx o.ranks o.AU 0) (fun k=>o.AU.length-k) 0 (by omega) ⟨by omega,rfl⟩ ⟨by omega,?_,?_⟩ ?_
 ·exact EJ
 ·exact FM
 rintro k ⟨hk,hE⟩
 have hlen:((o.AU.take k).map fun d=>(⟨d.lo,d.hi⟩:kF)).length=k:=by rw [List.length_map,List.length_take];omega
 by_cases hkl:k<o.AU.length
 ·have hds:=ho.dv k hkl
  have hdn:=Ht (gi o.AU k).name (by have:=hds.name;omega)
  have hdv:=Zc o (gi o.AU k) ho hds
  by_cases h1:EC (gi o.AU k).name
  case neg =>
   have e2:Gx o.ranks o.AU 0=8:=by rw [← hE,Gx,if_pos hkl,if_pos h1]
   rw [e2,if_pos (by decide)]
   rw [decide_eq_false h1] at hdn
   repeat' (first|apply Ac.assoc|apply Ac.Ak|apply Ac.Ai|apply Ac.BL|apply Ac.Ag|apply Au.ret|apply Ap.ret|apply Ah.ret|apply Ad.nil|apply Ad.one|(apply Aa.fn;rfl;rfl;exact hdn;intro _;rfl)|(apply Aa.assign;rfl)|(apply Aa.int;rfl;rfl;rfl)|(apply Aa.AP;rfl;rfl;rfl;omega;rfl)|(apply Aa.load;rfl;rfl)|(apply Aa.Aw;rfl;rfl;rfl)|(apply Aa.alloc;rfl)|(apply Aa.Bd;rfl;rfl;rfl;trivial;rfl;rfl;exact Az rfl;exact le_dec rfl)|(apply Aa.not;rfl)|(apply Ac.Bf;rfl)|(apply Ac.Ae;rfl)|(intro _;try (exfalso;omega)))
   all_goals first|(exfalso;omega)|contradiction|(refine Done.rt rfl rfl ⟨?_,rfl,rfl⟩;try rfl)
  rw [decide_eq_true h1] at hdn
  by_cases h2:(gi o.AU k).name∈(o.AU.take k).map gU.name
  ·have e2:Gx o.ranks o.AU 0=9:=by rw [← hE,Gx,if_pos hkl,if_neg (fun h=>h h1),if_pos h2]
   rw [e2,if_pos (by decide)]
   repeat' (first|apply Ac.assoc|apply Ac.Ak|apply Ac.Ai|apply Ac.BL|apply Ac.Ag|apply Au.ret|(apply AY.ret;rfl)|apply Ap.ret|apply Ah.ret|apply Ad.nil|apply Ad.one|(apply Aa.fn;rfl;rfl;exact hdn;intro _;rfl)|(apply Rh;rfl;rfl;rfl;exact le_dec rfl)|(apply Aa.IW;rfl;rfl;rfl;rfl;rfl;rfl)|(apply Aa.assign;rfl)|(apply Aa.move;rfl)|(apply Aa.int;rfl;rfl;rfl)|(apply Aa.AP;rfl;rfl;rfl;omega;rfl)|(apply Aa.load;rfl;rfl)|(apply Aa.Aw;rfl;rfl;rfl)|(apply Aa.alloc;rfl)|(apply Aa.Bd;rfl;rfl;rfl;trivial;rfl;rfl;exact Az rfl;exact le_dec rfl)|(apply Aa.not;rfl)|(apply Ac.Bf;rfl)|(apply Ac.Aq;rfl)|(apply Ac.Ae;rfl)|(intro _;try (exfalso;omega)))
   all_goals first|(exfalso;omega)|contradiction|(refine Done.rt rfl rfl ⟨?_,rfl,rfl⟩;try rfl)
  by_cases h3:DY o.ranks (gi o.AU k)=0
  case neg =>
   have e2:Gx o.ranks o.AU 0=DY o.ranks (gi o.AU k):=by rw [← hE,Gx,if_pos hkl,if_neg (fun h=>h h1),if_neg h2,if_pos h3]
   rw [e2,if_pos h3]
   repeat' (first|apply Ac.assoc|apply Ac.Ak|apply Ac.Ai|apply Ac.BL|apply Ac.Ag|apply Au.ret|(apply AY.ret;rfl)|apply Ap.ret|apply Ah.ret|apply Ac.ret|apply Ad.nil|apply Ad.one|(apply Aa.fn;rfl;rfl;exact hdn;intro _;rfl)|(apply Aa.fn;rfl;rfl;exact hdv;intro _;rfl)|(apply Rh;rfl;rfl;rfl;exact le_dec rfl)|(apply Aa.IW;rfl;rfl;rfl;rfl;rfl;rfl)|(apply Aa.cZ;rfl;rfl;rfl;rfl;rfl;rfl;exact h2)|(apply Aa.assign;rfl)|(apply Aa.move;rfl)|(apply Aa.int;rfl;rfl;rfl)|(apply Aa.AP;rfl;rfl;rfl;omega;rfl)|(apply Aa.load;rfl;rfl)|(apply Aa.Aw;rfl;rfl;rfl)|(apply Aa.alloc;rfl)|(apply Aa.Bd;rfl;rfl;rfl;trivial;rfl;rfl;exact Az rfl;exact le_dec rfl)|(apply Aa.not;rfl)|(apply Ac.Bf;rfl)|(apply Ac.Aq;rfl)|(apply Ac.Ae;rfl)|(intro _;try (exfalso;omega)))
   all_goals first|(exfalso;omega)|contradiction|(refine Done.rt rfl rfl ⟨?_,rfl,rfl⟩;try rfl)
  rw [h3] at hdv
  have e5:((o.AU.take (k+1)).map fun d=>(⟨d.lo,d.hi⟩:kF))=((o.AU.take k).map fun d=>(⟨d.lo,d.hi⟩:kF))++[⟨(gi o.AU k).lo,(gi o.AU k).hi⟩]:=by rw [Ej hkl,List.map_append];rfl
  have e6:((o.AU.take (k+1)).map fun d=>(⟨d.lo,d.hi⟩:kF)).length=((o.AU.take k).map fun d=>(⟨d.lo,d.hi⟩:kF)).length+1:=by rw [e5,List.length_append];rfl
  repeat' (first|apply Ac.assoc|apply Ac.Ak|apply Ac.region|apply Ac.Ai|apply Ac.BL|apply Ac.Ag|apply Au.normal|apply Au.ret|(apply AY.ret;rfl)|apply Ap.normal|apply Ap.ret|apply Ah.ret|apply Ac.ret|apply Ad.nil|apply Ad.one|(apply Aa.fn;rfl;rfl;exact hdn;intro _;rfl)|(apply Aa.fn;rfl;rfl;exact hdv;intro _;rfl)|(apply Aa.MO (a:=(⟨(gi o.AU k).lo,(gi o.AU k).hi⟩:kF));rfl;rfl;rfl;rfl;rfl;rfl;rfl;rfl;(intro _ h;cases h);rfl;rfl;rfl;decide;decide;(first|omega|(simp only [List.length_take,List.length_drop,List.length_append,List.length_singleton,List.length_cons,List.length_nil]<;>omega)))|(apply Rh;rfl;rfl;rfl;exact le_dec rfl)|(apply Aa.IW;rfl;rfl;rfl;rfl;rfl;rfl)|(apply Aa.cZ;rfl;rfl;rfl;rfl;rfl;rfl;exact h2)|(apply Aa.assign;rfl)|(apply Aa.move;rfl)|(apply Aa.BU;rfl;rfl;omega)|(apply Aa.int;rfl;rfl;rfl)|(apply Aa.AP;rfl;rfl;rfl;omega;rfl)|(apply Aa.load;rfl;rfl)|(apply Aa.Aw;rfl;rfl;rfl)|(apply Aa.alloc;rfl)|(apply Aa.Bd;rfl;rfl;rfl;trivial;rfl;rfl;exact Az rfl;exact le_dec rfl)|(apply Aa.buildSlice;rfl;rfl;rfl;decide;rfl;rfl;rfl)|(apply Aa.not;rfl)|(apply Ac.Bf;rfl)|(apply Ac.Aq;rfl)|(apply Ac.Ae;rfl)|(intro _;try (exfalso;omega)))
  all_goals try (exfalso;omega)
  all_goals try contradiction
  refine Ah.normal ⟨k+1,⟨by omega,?_⟩,by omega,⟨by omega,?_,?_⟩⟩
  ·first|rfl|(refine Eq.trans ?_ hE;symm;(conv=>lhs;rw [Gx]);rw [if_pos hkl,if_neg (fun h=>h h1),if_neg h2,if_neg (fun h=>h h3)])
  ·rw [e6];exact EJ
  ·rw [e6,e5,QU gU.name hkl];exact FM
 obtain rfl:k=o.AU.length:=by omega
 have e2:Gx o.ranks o.AU 0=0:=by rw [← hE,Gx,if_neg (by omega)]
 rw [if_neg (fun h=>h e2)]
 have et:o.AU.take o.AU.length=o.AU:=List.take_of_length_le (Nat.le_refl _)
 have hcp:=fO (o.AU.map fun d=>(⟨d.lo,d.hi⟩:kF)) o.Ku (by rw [List.length_map];exact b2) ho.Ku ho.cp
 rw [et]
 repeat' (first|(refine Ac.at 35 ?_;refine Ac.ghost (Bo.freeze 8 rfl rfl) ?_;first|apply Ac.Ak|apply Ac.Dq)|apply Ac.Ak|apply Ac.Bl|apply Au.normal|apply Ap.exit|apply Ah.exit|apply Ac.ret|apply Ad.nil|apply Ad.one|(apply Aa.fn;rfl;rfl;exact hcp;intro _;rfl)|(apply Aa.assign;rfl)|(apply Aa.move;rfl)|(apply Aa.int;rfl;rfl;rfl)|(apply Aa.load;rfl;rfl)|(apply Aa.Aw;rfl;rfl;rfl)|(apply Ac.Ae;rfl)|(intro _;try (exfalso;omega)))
 all_goals first|(exfalso;omega)|(refine Done.rt rfl rfl ⟨?_,rfl,rfl⟩;try rfl)
end
end Go.Proofs.YtnjkoebfgcbbdaaGreatDoor
namespace Go.Vm
section
open Go.Am
variable {E:Env} {bn:Nat} {L:Frame} {H:Heap} {nx:Nat} {Q:BZ→Frame→Heap→Nat→Prop} {b:Code}
theorem Ac.Kt (n:Nat) (L0:Frame) (H0:Heap) (Lf:Nat→Frame→Frame) (Hf:Nat→Heap→Heap) (DC:Nat) (hb:bn≤DC) (hn:DC≤nx) (h1:FY DC (Lf 0 L0) L) (h2:Ci DC (Hf 0 H0) H)
 (hs:∀ k,k<n→Ac E bn b (Lf k L0) (Hf k H0) DC (Ah (fun L' H' nx'=>DC≤nx'∧FY DC (Lf (k+1) L0) L'∧Ci DC (Hf (k+1) H0) H') Q))
 (he:Ac E bn b (Lf n L0) (Hf n H0) DC (Ah (fun _ _ _=>False) Q)):Ac E bn (.loop b) L H nx Q :=
 Ac.Gp (fun k=>Lf k L0) (fun k=>Hf k H0) DC (fun k=>k≤n) (fun k=>n-k) 0 hb (Nat.zero_le _) ⟨hn,h1,h2⟩ fun k hk=>by
  rcases Nat.lt_or_ge k n with h|h
  ·refine (hs k h).mono fun e L' H' nx' q=>?_
   cases e with
   |normal=>exact ⟨k+1,h,by omega,⟨q.1,q.2.1,q.2.2⟩⟩
   |ret=>exact q
   |exit i=>exact q
  ·obtain rfl:k=n:=by omega
   refine he.mono fun e L' H' nx' q=>?_
   cases e with
   |normal=>exact q.elim
   |ret=>exact q
   |exit i=>exact q
theorem Ac.G9 (n:Nat) (inv:Nat→Prop) (L0:Frame) (H0:Heap) (Lf:Nat→Frame→Frame) (Hf:Nat→Heap→Heap) (DC:Nat) (hb:bn≤DC) (hn:DC≤nx) (h1:FY DC (Lf 0 L0) L) (h2:Ci DC (Hf 0 H0) H) (h0:inv 0)
 (hs:∀ k,k<n→inv k→Ac E bn b (Lf k L0) (Hf k H0) DC (Ah (fun L' H' nx'=>inv (k+1)∧DC≤nx'∧FY DC (Lf (k+1) L0) L'∧Ci DC (Hf (k+1) H0) H') Q))
 (he:inv n→Ac E bn b (Lf n L0) (Hf n H0) DC (Ah (fun _ _ _=>False) Q)):Ac E bn (.loop b) L H nx Q :=
 Ac.Gp (fun k=>Lf k L0) (fun k=>Hf k H0) DC (fun k=>k≤n∧inv k) (fun k=>n-k) 0 hb ⟨Nat.zero_le _,h0⟩ ⟨hn,h1,h2⟩ fun k hk=>by
  obtain ⟨hk,hi⟩:=hk
  rcases Nat.lt_or_ge k n with h|h
  ·refine (hs k h hi).mono fun e L' H' nx' q=>?_
   cases e with
   |normal=>exact ⟨k+1,⟨h,q.1⟩,by omega,⟨q.2.1,q.2.2.1,q.2.2.2⟩⟩
   |ret=>exact q
   |exit i=>exact q
  ·obtain rfl:k=n:=by omega
   refine (he hi).mono fun e L' H' nx' q=>?_
   cases e with
   |normal=>exact q.elim
   |ret=>exact q
   |exit i=>exact q
section
variable {Q:PV→Heap→Nat→Prop} {w:Bool} {dst:Option Tmp} {ty:TypeId} {pos:String} {af:Array Edge} {gd:Option (Nat×Bool)}
theorem a4a {Γ:Nat→Option (List Value×TypeId)} {m:Mem} {F:Nat→Prop} {σ:Nat→Value} {t:Tr Value} {x:Operand} {e:TypeId} {cs:List FV} {n:Nat} (hx:Ctx Γ m F σ H nx) (hl:RL m F (htag H) σ nx L t) (h:Bh Γ L x=some (.p (.lst e cs n))) :
 ∃ a k g,ev t x=.slice a k g∧(0<n→a.isNone=false):=by
 have:=BK hx hl h
 generalize ev t x=v at this
 cases this with
 |p hr =>
  cases hr with
  |nil=>exact ⟨_,_,_,rfl,fun h=>by omega⟩
  |room=>exact ⟨_,_,_,rfl,fun _=>rfl⟩
  |lst=>exact ⟨_,_,_,rfl,fun _=>rfl⟩
theorem WM {Γ:Nat→Option (List Value×TypeId)} {m:Mem} {F:Nat→Prop} {σ:Nat→Value} {t:Tr Value} {y:Operand} {v:Value} (hx:Ctx Γ m F σ H nx) (hl:RL m F (htag H) σ nx L t) (h:Bh Γ L y=some (.p (.val v))):ev t y=v:=by
 have:=BK hx hl h
 generalize ev t y=u at this
 cases this with|p hr=>cases hr;rfl
theorem a0j {P:Program} {t e':TypeId} {xo yo:Operand} {a:Option Addr} {k g:Nat} (ht:P.underlying t=some (.slice e')):NY P .eql t xo yo (.slice a k g) (.slice none 0 0)=some (.bool a.isNone)∧NY P .neq t xo yo (.slice a k g) (.slice none 0 0)=some (.bool !a.isNone):=by
 simp [NY,ht,I9]
theorem Aa.eqNil {t t2 e e':TypeId} {x y:Operand} {cs:List FV} {n:Nat} (hx:Bh E.Γ L x=some (.p (.lst e cs n))) (hy:Bh E.Γ L y=some (.p (.val (.slice none 0 0)))) (ht:E.P.underlying t=some (.slice e')) (q:∀ b,(0<n→b=false)→Q (.p (.bool b)) H nx) :
 Aa E w ⟨dst,.binOp .eql t x y t2,ty,pos,af,gd⟩ L H nx Q:=fun m F σ tt h1 h2=>by
 obtain ⟨a,k,g,h3,h4⟩:=a4a h1 h2 hx
 have h5:=WM h1 h2 hy
 exact F5.op (v:=.bool a.isNone) (m':=m) (fun _=>by simp only [Ce,EX,h3,h5];rw [(a0j ht).1];rfl) ⟨_,H,nx,F,σ,q a.isNone h4,h1,.p (.bool _),Step.refl _ _ _ _ _,fun _ k hk _=>hk⟩
theorem Aa.a1j {t t2 e e':TypeId} {x y:Operand} {cs:List FV} {n:Nat} (hx:Bh E.Γ L x=some (.p (.lst e cs n))) (hy:Bh E.Γ L y=some (.p (.val (.slice none 0 0)))) (ht:E.P.underlying t=some (.slice e')) (hn:0<n) (q:Q (.p (.bool false)) H nx) :
 Aa E w ⟨dst,.binOp .eql t x y t2,ty,pos,af,gd⟩ L H nx Q:=Aa.eqNil hx hy ht fun b hb=>by rw [hb hn];exact q
theorem GZ {α:Type} [Inhabited α] {l:List α} {i j:Nat} {a:α}:gi (l.set i a) j=if i=j∧j<l.length then a else gi l j:=by
 unfold gi
 rw [List.getElem?_set]
 by_cases h:i=j
 ·subst h
  by_cases h2:i<l.length
  ·simp [h2]
  ·simp [h2,List.getElem?_eq_none (by omega:l.length≤i)]
 ·simp [h]
end
theorem all_succ {P:Nat→Prop} {k:Nat} (h:∀ i,i<k→P i) (hk:P k):∀ i,i<k+1→P i:=fun i hi=>by
 rcases Nat.lt_or_ge i k with h1|h1
 ·exact h i h1
 ·obtain rfl:i=k:=by omega
  exact hk
def Dt {α:Type} (f:Nat→α):Nat→List α
 |0=>[]
 |k+1=>Dt f k++[f k]
theorem Dn {α:Type} (f:Nat→α):∀ k,(Dt f k).length=k
 |0=>rfl
 |k+1=>by simp [Dt,Dn f k]
theorem kY {α:Type} (f:Nat→α):∀ k i,i<k→(Dt f k)[i]?=some (f i)
 |0,i,h=>by omega
 |k+1,i,h=>by
  simp only [Dt]
  rw [List.getElem?_append]
  rw [Dn]
  by_cases h2:i<k
  ·rw [if_pos h2];exact kY f k i h2
  ·obtain rfl:i=k:=by omega
   rw [if_neg (by omega)];simp
theorem Fb {α:Type} [Inhabited α] (f:Nat→α) {k i:Nat} (h:i<k):gi (Dt f k) i=f i:=by
 unfold gi;rw [kY f k i h];rfl
theorem KQ {α:Type} {f g:Nat→α}:∀ {k:Nat},(∀ i,i<k→f i=g i)→Dt f k=Dt g k
 |0,_=>rfl
 |k+1,h=>by rw [Dt,Dt,KQ (fun i hi=>h i (by omega)),h k (by omega)]
def a7k {α:Type} (f:Nat→α) (l:List α):Nat→List α
 |0=>l
 |k+1=>(a7k f l k).set k (f k)
theorem JL {α:Type} [Inhabited α] {l r:List α} (h:l.length=r.length) (hg:∀ i,i<l.length→gi l i=gi r i):l=r:=by
 refine List.ext_getElem h fun i h1 h2=>?_
 have:=hg i h1
 unfold gi at this
 rw [List.getElem?_eq_getElem h1,List.getElem?_eq_getElem h2] at this
 exact this
def a7y (k:Nat):Heap→Bool
 |[]=>true
 |(i,x)::H=>and (and (Nat.blt i k) (HB.ub k x)) (a7y k H)
theorem Du {k:Nat}:∀ {H:Heap},a7y k H=true→JY k H
 |[],_=>trivial
 |(_,_)::_,h=>by
  simp only [a7y,Bool.and_eq_true] at h
  exact ⟨⟨Az h.1.1,HB.AO h.1.2⟩,Du h.2⟩
def Et (E:Env) (g:FuncId) (ac:List PV) (Hc:Heap) (k:Nat) (x:FV):Prop:=Ba E g ac Hc k fun r H' nx'=>r=.p x∧H'=Hc∧nx'=k
theorem Et.enter {f:FuncId} {fn:Func} {c:Code} {ac:List PV} {Hc:Heap} {k:Nat} {x:FV} (ho:E.O f=none) (hf:E.P.funcs[f]?=some fn) (hb:fn.body=some c) (hok:Ij E.G fn c=true) (hn:ac.length≤fn.ntmps)
 (h:Ac E k c (CP 0 ac) Hc k (Done E.P fn.results.toList k fun r' H' nx'=>r'=.p x∧H'=Hc∧nx'=k)):Et E f ac Hc k x:=Ba.enter ho hf hb hok hn h
theorem Aa.read {Q:PV→Heap→Nat→Prop} {dst:Option Tmp} {ty:TypeId} {pos:String} {af:Array Edge} {gd:Option (Nat×Bool)} {fo:Operand} {args:Array Operand} {aT:Array TypeId} {g:FuncId} {fs cs BF ac:List PV} {Hc:Heap} {x:FV} (ns:List Nat) (hc:Et E g ac Hc ns.length x)
 (hf:Bh E.Γ L fo=some (.clo g fs cs)) (ha:evs E.Γ L args.toList=some BF) (hle:MF (fs++BF++cs) (CZ.rn (rho ns nx) ac)) (hu:CZ.under ns.length ac) (ql:JY ns.length Hc) (hin:HIn (rho ns nx) H Hc) (hnd:ns.Nodup) (hlt:∀ b∈ns,b<nx)
 (hm:news ns.length (rho ns nx) Hc (merge ns (rho ns nx) Hc H)=H) (q:Q (.p x) H nx) :
 Aa E true ⟨dst,.call { callee:=.value fo,args:=args,argTypes:=aT },ty,pos,af,gd⟩ L H nx Q :=
 Aa.Y1 hf ha hle hu ql hin hnd hlt (fun h=>by cases h) hc fun r H' nx' ⟨h1,h2,h3⟩=>by
  subst h1;subst h2;subst h3
  rw [hm,Nat.sub_self]
  exact q
theorem jC {P:Program} {t e:TypeId} {n:Nat} {z:List Value} {inf:TypeInfo} {ps:Array (Nat×Value)} {out:Array Value} (hz:Cj P t=some z) (hu:P.underlying t=some (.array n e)) (hi:P.info? e=some inf)
 (hf:Instr.fill (fun i=>some (i*inf.size,inf.size)) z.toArray ps.toList=some out):DJ P (Instr.build t ps)=some (.agg out):=by
 obtain ⟨i,zv,h1,h2,h3,h4⟩:=BP hz
 unfold Instr.build
 simp only [Ar]
 have hzv:DJ P (zeroValue t)=some zv:=by
  simp only [zeroValue,Ar,JI,h1,Option.bind_some,h2]
  rfl
 rw [hzv]
 simp only [Option.bind_some,Bg,hu]
 simp only [Ar,Fp,hi,Option.map_some,Option.bind_some]
 have e:zv.cells=z.toArray:=by rw [h3]
 rw [e,hf]
 rfl
theorem Aa.a8z {Q:PV→Heap→Nat→Prop} {w:Bool} {dst:Option Tmp} {ty:TypeId} {pos:String} {af:Array Edge} {gd:Option (Nat×Bool)} {t e:TypeId} {n:Nat} {ps:Array (Nat×Operand)} {z:List Value} {inf:TypeInfo} {parts:List (Nat×PV)} {out:List PV} (hz:Cj E.P t=some z) (hu:E.P.underlying t=some (.array n e))
 (hi:E.P.info? e=some inf) (hp:evp E.Γ L ps.toList=some parts) (hf:QB (fun i=>some (i*inf.size,inf.size)) (z.map fun v=>.p (GL v)) parts=some out) (q:Q (jg out) H nx) :
 Aa E w ⟨dst,.build t ps,ty,pos,af,gd⟩ L H nx Q :=
 Aa.quiet q fun m F σ tt h1 h2=>by
  obtain ⟨_,_,_,_,_,hpz⟩:=BP hz
  obtain ⟨out',e1,e2,e3⟩:=Pj (fun i=>some (i*inf.size,inf.size)) (WJ h1 h2 hp) (cs':=z.toArray) (Dx.zero hpz) (Dj hpz) hf
  have e4:=jC (ps:=ps.map fun (i,x)=>(i,ev tt x)) hz hu hi (by rw [Array.toList_map];simpa using e1)
  refine ⟨.agg out',fun _=>?_,Uh e2 e3⟩
  simp only [Ce,EX,hz,e4,Option.map_some]
end
section
open Go.Am
variable {E:Env} {L:Frame} {H:Heap} {nx:Nat} {Q:PV→Heap→Nat→Prop}
variable {dst:Option Tmp} {ty:TypeId} {pos:String} {af:Array Edge} {gd:Option (Nat×Bool)}
end
end Go.Vm
namespace Go.Proofs.YtnjkoebfgcbbdaaGreatDoor
section
open Go Go.Am Go.Vm
attribute [local irreducible] Aa Ad Af Ac Ba AB BG Au Ap Ah Vm.Done BQ AY
structure Rgs where
 stops:List Nat
 cp:Nat
 off:Nat
instance:Enc Rgs:={ default:=⟨[],0,0⟩,enc:=fun x=>[.lst 82 (cells x.stops) x.stops.length,.int .u64 (x.cp:Int),.int .u64 (x.off:Int)],size:=3,len:=fun _=>rfl }
structure Rgs.Ok (r:Rgs):Prop where
 stops:∀ i,i<r.stops.length→gi r.stops i<18446744073709551616
 cp:r.cp<18446744073709551616
 off:r.off<18446744073709551616
 len:r.stops.length<9223372036854775808
def b8x (b:Nat→Nat):List FV:=[.int .u8 (b 0:Int),.int .u8 (b 1:Int),.int .u8 (b 2:Int),.int .u8 (b 3:Int),.int .u8 (b 4:Int)]
def b2a (o:IV) (b:Nat→Nat) (k:Nat):Nat:=b (k % 3) &&& (2 ^ (gi o.AU k).stops.length-1)
def a9o (o:IV) (b:Nat→Nat):Rgs:=⟨Dt (b2a o b) o.AU.length,b 3 &&& (2 ^ o.Ku.length-1),b 4 &&& (2 ^ o.AU.length-1)⟩
noncomputable def V5 (o:IV) (r:Rgs):Int :=
 open Classical in
 if r.stops.length≠o.AU.length then 5
 else if ∃ i,i<r.stops.length∧gi r.stops i / 2 ^ (gi o.AU i).stops.length≠0 then 3
 else if r.cp / 2 ^ o.Ku.length≠0∨r.off / 2 ^ o.AU.length≠0 then 3 else 0
theorem yP {o:IV} {r:Rgs} (h:r.stops.length≠o.AU.length):V5 o r=5:=by unfold V5;rw [if_pos h]
theorem yQ {o:IV} {r:Rgs} (h:r.stops.length=o.AU.length) {i:Nat} (hi:i<r.stops.length) (h2:gi r.stops i / 2 ^ (gi o.AU i).stops.length≠0):V5 o r=3:=by
 unfold V5;rw [if_neg (fun h'=>h' h),if_pos ⟨i,hi,h2⟩]
theorem wJ {o:IV} {r:Rgs} (h:r.stops.length=o.AU.length) (h2:∀ i,i<r.stops.length→gi r.stops i / 2 ^ (gi o.AU i).stops.length=0):V5 o r=if r.cp / 2 ^ o.Ku.length≠0∨r.off / 2 ^ o.AU.length≠0 then 3 else 0:=by
 unfold V5;rw [if_neg (fun h'=>h' h),if_neg (fun ⟨i,hi,h3⟩=>h3 (h2 i hi))]
end
section
open Go Go.Am Go.Vm
attribute [local irreducible] CV Bq
theorem Uk {rk:List IE} {l:List gU}:∀ (n k:Nat),l.length-k=n→Gx rk l k=0→∀ i,k≤i→i<l.length→DY rk (gi l i)=0
 |0,k,h,_,i,h1,h2=>by omega
 |n+1,k,h,h0,i,h1,h2=>by
  rw [Gx,if_pos (by omega)] at h0
  split at h0
  ·exact absurd h0 (by decide)
  split at h0
  ·exact absurd h0 (by decide)
  split at h0
  ·rename_i h3;exact absurd h0 h3
  rename_i h3
  rcases Nat.lt_or_ge k i with h4|h4
  ·exact Uk n (k+1) (by omega) h0 i h4 h2
  ·obtain rfl:k=i:=by omega
   exact Decidable.byContradiction fun h5=>h3 h5
structure wC (o:IV):Prop where
 sm:Ry o
 err:YS o=0
 AU:1≤o.AU.length∧o.AU.length≤8
 Ku:o.Ku.length≤40
 stops:∀ i,i<o.AU.length→(gi o.AU i).stops.length≤60
theorem b2q {o:IV} (hs:Ry o) (h:YS o=0):wC o:=by
 have h0:=h
 unfold YS at h0
 split at h0
 ·exact absurd h0 (by decide)
 split at h0
 ·exact absurd h0 (by decide)
 split at h0
 ·rename_i h1;exact absurd h0 h1
 split at h0
 ·exact absurd h0 (by decide)
 rename_i d1
 split at h0
 ·exact absurd h0 (by decide)
 rename_i d2
 split at h0
 ·rename_i h1;exact absurd h0 h1
 rename_i d3
 have d3:Gx o.ranks o.AU 0=0:=Decidable.byContradiction d3
 unfold Ez at h0
 split at h0
 ·exact absurd h0 (by decide)
 rename_i c1
 refine ⟨hs,h,⟨by omega,by omega⟩,by omega,fun i hi=>?_⟩
 have:=Uk _ 0 rfl d3 i (Nat.zero_le _) hi
 unfold DY at this
 split at this
 ·rename_i h1;exact absurd this h1
 split at this
 ·exact absurd this (by decide)
 rename_i h2
 omega
structure b9s (rk:List IE) (s:Stp):Prop where
 Ih:s.Ih.length≤12
 draws:∀ i,i<s.Ih.length→(gi s.Ih i).draws.length≤8∧∀ j,j<(gi s.Ih i).draws.length→0≤(gi (gi s.Ih i).draws j).rank∧(gi (gi s.Ih i).draws j).rank<rk.length
def a5q (rk:List IE) (s:Stp) (n:Nat):Nat→List UInt8
 |0=>[]
 |k+1=>if (gi s.Ih (n-(k+1))).draws.length>0 then (gi rk (gi (gi s.Ih (n-(k+1))).draws 0).rank.toNat).MB else a5q rk s n k
def b9b (rk:List IE) (s:Stp):List UInt8:=a5q rk s s.Ih.length s.Ih.length
end
section
open Go Go.Am Go.Vm
structure KG where
 s:Int
 e:Int
 d:Int
 k:Int
deriving DecidableEq
instance:Enc KG:={ default:=⟨0,0,0,0⟩,enc:=fun x=>[.int .i64 x.s,.int .i64 x.e,.int .i64 x.d,.int .i64 x.k],size:=4,len:=fun _=>rfl }
structure o9 where
 bar:Int
 reg:Rgs
instance:Enc o9:={ default:=⟨0,default⟩,enc:=fun x=>[.int .i64 x.bar,.lst 82 (cells x.reg.stops) x.reg.stops.length,.int .u64 (x.reg.cp:Int),.int .u64 (x.reg.off:Int)],size:=4,len:=fun _=>rfl }
structure F7 where
 bars:List Int
 notes:List KG
 sets:List o9
instance:Enc F7:={ default:=⟨[],[],[]⟩,enc:=fun x=>[.lst 3 (cells x.bars) x.bars.length,.lst 39 (cells x.notes) x.notes.length,.lst 182 (cells x.sets) x.sets.length],size:=3,len:=fun _=>rfl }
def yZ (a b:KG):Bool:=decide (a.d=b.d)&&(decide (a.k=b.k)&&(decide (a.s<b.e)&&decide (b.s<a.e)))
def V3 (l:List Int) (k:Nat):Int :=
 if k<l.length then if gi l k<0∨gi l k>100000 then 3 else if 0<k∧gi l k≤gi l (k-1) then 6 else V3 l (k+1) else 0
termination_by l.length-k
def Qn (l:List Int):Int:=if l.length<2 then 5 else if l.length>201 then 4 else V3 l 0
def SQ (o:IV) (a z:Int) (pre:List KG) (n:KG):Int :=
 if n.d<0∨n.d≥o.AU.length then 10
 else if n.k<(gi o.AU n.d.toNat).lo∨n.k>(gi o.AU n.d.toNat).hi then 23
 else if n.s<a∨n.e>z then 3
 else if n.s≥n.e then 6
 else if pre.any (fun m=>yZ m n) then 14 else 0
def GN (o:IV) (a z:Int) (l:List KG) (k:Nat):Int :=
 if k<l.length then if SQ o a z (l.take k) (gi l k)≠0 then SQ o a z (l.take k) (gi l k) else GN o a z l (k+1) else 0
termination_by l.length-k
noncomputable def Lu (o:IV) (nb:Nat) (l:List o9) (k:Nat):Int :=
 if (gi l k).bar<0∨(gi l k).bar≥(nb:Int)-1 then 3
 else if 0<k∧(gi l k).bar=(gi l (k-1)).bar then 9
 else if 0<k∧(gi l k).bar<(gi l (k-1)).bar then 6
 else V5 o (gi l k).reg
noncomputable def NM (o:IV) (nb:Nat) (l:List o9) (k:Nat):Int :=
 if k<l.length then if Lu o nb l k≠0 then Lu o nb l k else NM o nb l (k+1) else 0
termination_by l.length-k
def NG (p:F7):Int:=gi p.bars 0
def OH (p:F7):Int:=gi p.bars (p.bars.length-1)
noncomputable def ZL (o:IV) (p:F7):Int :=
 if Qn p.bars≠0 then Qn p.bars else if p.notes.length>1000 then 4 else if GN o (NG p) (OH p) p.notes 0≠0 then GN o (NG p) (OH p) p.notes 0
 else if p.sets.length>100 then 4 else NM o p.bars.length p.sets 0
noncomputable def Y8 (o:IV) (p:F7):Int:=if YS o≠0 then YS o else ZL o p
structure Yk (p:F7):Prop where
 bars:p.bars.length<1000000
 notes:p.notes.length<1000000
 sets:p.sets.length<1000000
 reg:∀ i,i<p.sets.length→(gi p.sets i).reg.Ok
theorem bK {l:List Int} {k:Nat} (h:k<l.length):V3 l k=if gi l k<0∨gi l k>100000 then 3 else if 0<k∧gi l k≤gi l (k-1) then 6 else V3 l (k+1):=by
 rw [V3,if_pos h]
theorem zT (l:List Int):V3 l l.length=0:=by rw [V3,if_neg (Nat.lt_irrefl _)]
theorem TG {o:IV} {a z:Int} {l:List KG} {k:Nat} (h:k<l.length):GN o a z l k=if SQ o a z (l.take k) (gi l k)≠0 then SQ o a z (l.take k) (gi l k) else GN o a z l (k+1):=by
 rw [GN,if_pos h]
theorem nT (o:IV) (a z:Int) (l:List KG):GN o a z l l.length=0:=by rw [GN,if_neg (Nat.lt_irrefl _)]
theorem WW {o:IV} {nb:Nat} {l:List o9} {k:Nat} (h:k<l.length):NM o nb l k=if Lu o nb l k≠0 then Lu o nb l k else NM o nb l (k+1):=by
 rw [NM,if_pos h]
theorem vg (o:IV) (nb:Nat) (l:List o9):NM o nb l l.length=0:=by rw [NM,if_neg (Nat.lt_irrefl _)]
theorem iy {l:List Int}:∀ (n k:Nat),l.length-k=n→V3 l k=0→∀ i,k≤i→i<l.length→(0≤gi l i∧gi l i≤100000)∧(0<i→gi l (i-1)<gi l i)
 |0,k,h,_,i,h1,h2=>by omega
 |n+1,k,h,h0,i,h1,h2=>by
  rw [bK (by omega)] at h0
  split at h0
  ·exact absurd h0 (by decide)
  rename_i h3
  split at h0
  ·exact absurd h0 (by decide)
  rename_i h4
  rcases Nat.lt_or_ge k i with h5|h5
  ·exact iy n (k+1) (by omega) h0 i h5 h2
  ·obtain rfl:k=i:=by omega
   exact ⟨by omega,fun h6=>by omega⟩
theorem aA {l:List Int} (h:∀ i,i<l.length→(0≤gi l i∧gi l i≤100000)∧(0<i→gi l (i-1)<gi l i)):∀ (n k:Nat),l.length-k=n→V3 l k=0
 |0,k,hk=>by rw [V3,if_neg (by omega)]
 |n+1,k,hk=>by
  obtain ⟨h1,h2⟩:=h k (by omega)
  rw [bK (by omega),if_neg (by omega),if_neg (fun ⟨h3,h4⟩=>by have:=h2 h3;omega)]
  exact aA h n (k+1) (by omega)
theorem YO {o:IV} {a z:Int} {l:List KG}:∀ (n k:Nat),l.length-k=n→GN o a z l k=0→∀ i,k≤i→i<l.length→SQ o a z (l.take i) (gi l i)=0
 |0,k,h,_,i,h1,h2=>by omega
 |n+1,k,h,h0,i,h1,h2=>by
  rw [TG (by omega)] at h0
  split at h0
  ·rename_i h3;exact absurd h0 h3
  rename_i h3
  rcases Nat.lt_or_ge k i with h5|h5
  ·exact YO n (k+1) (by omega) h0 i h5 h2
  ·obtain rfl:k=i:=by omega
   exact Decidable.byContradiction h3
theorem Vw {o:IV} {a z:Int} {l:List KG} (h:∀ i,i<l.length→SQ o a z (l.take i) (gi l i)=0):∀ (n k:Nat),l.length-k=n→GN o a z l k=0
 |0,k,hk=>by rw [GN,if_neg (by omega)]
 |n+1,k,hk=>by
  rw [TG (by omega),if_neg (fun h'=>h' (h k (by omega)))]
  exact Vw h n (k+1) (by omega)
theorem ay {o:IV} {nb:Nat} {l:List o9}:∀ (n k:Nat),l.length-k=n→NM o nb l k=0→∀ i,k≤i→i<l.length→Lu o nb l i=0
 |0,k,h,_,i,h1,h2=>by omega
 |n+1,k,h,h0,i,h1,h2=>by
  rw [WW (by omega)] at h0
  split at h0
  ·rename_i h3;exact absurd h0 h3
  rename_i h3
  rcases Nat.lt_or_ge k i with h5|h5
  ·exact ay n (k+1) (by omega) h0 i h5 h2
  ·obtain rfl:k=i:=by omega
   exact Decidable.byContradiction h3
theorem Yz {o:IV} {nb:Nat} {l:List o9} (h:∀ i,i<l.length→Lu o nb l i=0):∀ (n k:Nat),l.length-k=n→NM o nb l k=0
 |0,k,hk=>by rw [NM,if_neg (by omega)]
 |n+1,k,hk=>by
  rw [WW (by omega),if_neg (fun h'=>h' (h k (by omega)))]
  exact Yz h n (k+1) (by omega)
structure a9u (o:IV) (p:F7) (i:Nat):Prop where
 d:0≤(gi p.notes i).d∧(gi p.notes i).d<o.AU.length
 k:(gi o.AU (gi p.notes i).d.toNat).lo≤(gi p.notes i).k∧(gi p.notes i).k≤(gi o.AU (gi p.notes i).d.toNat).hi
 r:NG p≤(gi p.notes i).s∧(gi p.notes i).s<(gi p.notes i).e∧(gi p.notes i).e≤OH p
 c:∀ j,j<i→yZ (gi p.notes j) (gi p.notes i)=false
structure uM (o:IV) (p:F7):Prop where
 sm:Yk p
 err:ZL o p=0
 bars:2≤p.bars.length∧p.bars.length≤201
 bar:∀ i,i<p.bars.length→(0≤gi p.bars i∧gi p.bars i≤100000)∧(0<i→gi p.bars (i-1)<gi p.bars i)
 notes:p.notes.length≤1000
 note:∀ i,i<p.notes.length→a9u o p i
 sets:p.sets.length≤100
 set:∀ i,i<p.sets.length→(0≤(gi p.sets i).bar∧(gi p.sets i).bar<(p.bars.length:Int)-1)∧(0<i→(gi p.sets (i-1)).bar<(gi p.sets i).bar)∧V5 o (gi p.sets i).reg=0
theorem kP {l:List KG} {f:KG→Bool} {i:Nat} (hi:i≤l.length):(l.take i).any f=false↔∀ j,j<i→f (gi l j)=false:=by
 rw [List.any_eq_false]
 constructor
 ·intro h j hj
  have:gi l j∈l.take i:=by
   unfold gi
   rw [List.getElem?_eq_getElem (by omega)]
   exact List.mem_take_iff_getElem.2 ⟨j,by omega,rfl⟩
  simpa using h _ this
 ·intro h x hx
  obtain ⟨j,hj,rfl⟩:=List.mem_take_iff_getElem.1 hx
  have:=h j (by omega)
  unfold gi at this
  rw [List.getElem?_eq_getElem (by omega)] at this
  simpa using this
theorem YV {o:IV} {p:F7} {i:Nat} (hi:i<p.notes.length):SQ o (NG p) (OH p) (p.notes.take i) (gi p.notes i)=0↔a9u o p i:=by
 unfold SQ
 constructor
 ·intro h
  split at h
  ·exact absurd h (by decide)
  split at h
  ·exact absurd h (by decide)
  split at h
  ·exact absurd h (by decide)
  split at h
  ·exact absurd h (by decide)
  split at h
  ·exact absurd h (by decide)
  rename_i h1 h2 h3 h4 h5
  exact ⟨by omega,by omega,by omega,(kP (f:=fun m=>yZ m (gi p.notes i)) (by omega)).1 (by simpa using h5)⟩
 ·rintro ⟨h1,h2,h3,h4⟩
  rw [if_neg (by omega),if_neg (by omega),if_neg (by omega),if_neg (by omega),if_neg]
  rw [(kP (f:=fun m=>yZ m (gi p.notes i)) (by omega)).2 h4]
  decide
theorem ZC {o:IV} {nb:Nat} {l:List o9} {i:Nat}:Lu o nb l i=0↔(0≤(gi l i).bar∧(gi l i).bar<(nb:Int)-1)∧(0<i→(gi l (i-1)).bar<(gi l i).bar)∧V5 o (gi l i).reg=0:=by
 unfold Lu
 constructor
 ·intro h
  split at h
  ·exact absurd h (by decide)
  split at h
  ·exact absurd h (by decide)
  split at h
  ·exact absurd h (by decide)
  exact ⟨by omega,fun h0=>by omega,h⟩
 ·rintro ⟨h1,h2,h3⟩
  rw [if_neg (by omega),if_neg (fun ⟨h4,h5⟩=>by have:=h2 h4;omega),if_neg (fun ⟨h4,h5⟩=>by have:=h2 h4;omega)]
  exact h3
theorem b6u {o:IV} {p:F7} (h:Yk p) (he:ZL o p=0):uM o p:=by
 have h0:=he
 unfold ZL at h0
 split at h0
 ·rename_i h1;exact absurd h0 h1
 rename_i h1
 have h1:=Decidable.byContradiction h1
 split at h0
 ·exact absurd h0 (by decide)
 rename_i h2
 split at h0
 ·rename_i h3;exact absurd h0 h3
 rename_i h3
 have h3:=Decidable.byContradiction h3
 split at h0
 ·exact absurd h0 (by decide)
 rename_i h4
 unfold Qn at h1
 split at h1
 ·exact absurd h1 (by decide)
 split at h1
 ·exact absurd h1 (by decide)
 refine ⟨h,he,by omega,fun i hi=>iy _ 0 rfl h1 i (Nat.zero_le _) hi,by omega,fun i hi=>(YV hi).1 (YO _ 0 rfl h3 i (Nat.zero_le _) hi),by omega,fun i hi=>ZC.1 (ay _ 0 rfl h0 i (Nat.zero_le _) hi)⟩
theorem a3i {o:IV} {p:F7} (h:Yk p) (h1:2≤p.bars.length∧p.bars.length≤201) (h2:∀ i,i<p.bars.length→(0≤gi p.bars i∧gi p.bars i≤100000)∧(0<i→gi p.bars (i-1)<gi p.bars i)) (h3:p.notes.length≤1000) (h4:∀ i,i<p.notes.length→a9u o p i) (h5:p.sets.length≤100)
 (h6:∀ i,i<p.sets.length→(0≤(gi p.sets i).bar∧(gi p.sets i).bar<(p.bars.length:Int)-1)∧(0<i→(gi p.sets (i-1)).bar<(gi p.sets i).bar)∧V5 o (gi p.sets i).reg=0):uM o p:=by
 refine b6u h ?_
 unfold ZL
 have e1:Qn p.bars=0:=by
  unfold Qn
  rw [if_neg (by omega),if_neg (by omega)]
  exact aA h2 _ 0 rfl
 have e2:GN o (NG p) (OH p) p.notes 0=0:=Vw (fun i hi=>(YV hi).2 (h4 i hi)) _ 0 rfl
 rw [if_neg (fun h=>h e1),if_neg (by omega),if_neg (fun h=>h e2),if_neg (by omega)]
 exact Yz (fun i hi=>ZC.2 (h6 i hi)) _ 0 rfl
end
end Go.Proofs.YtnjkoebfgcbbdaaGreatDoor
namespace Go.Pie
open Go Go.Vm
def VB (P:Nat→Bool) (n:Nat):Nat→Int
 |0=>-1
 |r+1=>if P (n-(r+1))=true then ((n-(r+1):Nat):Int) else VB P n r
def Ef (P:Nat→Bool) (n:Nat):Int:=VB P n n
theorem Rw {P:Nat→Bool} {n k:Nat} (hk:k<n) (h:P k=false):VB P n (n-k)=VB P n (n-(k+1)):=by
 obtain ⟨j,hj⟩:∃ j,n-k=j+1:=⟨n-k-1,by omega⟩
 rw [hj]
 have e:n-(j+1)=k:=by omega
 show (if P (n-(j+1))=true then _ else VB P n j)=_
 rw [e,if_neg (by rw [h];decide)]
 congr 1;omega
theorem WR {P:Nat→Bool} {n k:Nat} (hk:k<n) (h:P k=true):VB P n (n-k)=(k:Int):=by
 obtain ⟨j,hj⟩:∃ j,n-k=j+1:=⟨n-k-1,by omega⟩
 rw [hj]
 have e:n-(j+1)=k:=by omega
 show (if P (n-(j+1))=true then _ else VB P n j)=_
 rw [e,if_pos h]
theorem uq (P:Nat→Bool) (n:Nat):∀ r,r≤n→-1≤VB P n r∧VB P n r<(n:Int)
 |0,_=>⟨by simp [VB],by simp only [VB];omega⟩
 |r+1,hr=>by
  unfold VB
  split
  ·omega
  ·exact uq P n r (by omega)
theorem lW {P:Nat→Bool} {n:Nat}:∀ r,r≤n→0≤VB P n r→P (VB P n r).toNat=true
 |0,_,h=>by simp [VB] at h
 |r+1,hr,h=>by
  unfold VB at h ⊢
  split
  ·rename_i h1;simpa using h1
  ·rename_i h1
   rw [if_neg h1] at h
   exact lW r (by omega) h
theorem SK {P:Nat→Bool} {n:Nat} (h:∀ i,i<n→P i=false):∀ r,r≤n→VB P n r=-1
 |0,_=>rfl
 |r+1,hr=>by
  unfold VB
  rw [if_neg (by rw [h _ (by omega)];decide)]
  exact SK h r (by omega)
theorem Oq {P:Nat→Bool} {n k:Nat} (hp:P k=true):∀ r,r≤n→n-r≤k→k<n→0≤VB P n r
 |0,_,h1,h2=>by omega
 |r+1,hr,h1,h2=>by
  unfold VB
  split
  ·omega
  ·rename_i h3
   refine Oq hp r (by omega) ?_ h2
   by_cases e:n-(r+1)=k
   ·rw [e] at h3;exact absurd hp h3
   ·omega
structure Zv where
 s:Int
 e:Int
 notes:List Int
deriving DecidableEq
instance:Inhabited Zv:=⟨⟨0,0,[]⟩⟩
def b2j (a:Int) (S:Int→List Int):Nat→List Int
 |0=>[]
 |n+1=>if n=0∨S (a+n)≠S (a+n-1) then b2j a S n++[a+n] else b2j a S n
def xY (S:Int→List Int) (T:List Int):List Zv:=Dt (fun i=>⟨gi T i,gi T (i+1),S (gi T i)⟩) (T.length-1)
def stepW (S:Int→List Int) (w:List Zv) (t:Int):List Zv :=
 if w.length≠0∧(gi w (w.length-1)).notes=S t then w.set (w.length-1) ⟨(gi w (w.length-1)).s,(gi w (w.length-1)).e+1,(gi w (w.length-1)).notes⟩ else w++[⟨t,t+1,S t⟩]
def b6o (a:Int) (S:Int→List Int):Nat→List Zv
 |0=>[]
 |n+1=>stepW S (b6o a S n) (a+n)
theorem RX {α:Type} [Inhabited α] {l r:List α} {i:Nat} (h:i<l.length):gi (l++r) i=gi l i:=by
 unfold gi;rw [List.getElem?_append_left h]
theorem X4 {α:Type} [Inhabited α] {l:List α} {x:α}:gi (l++[x]) l.length=x:=by
 unfold gi;simp
theorem iP (S:Int→List Int) (T:List Int):(xY S T).length=T.length-1:=Dn _ _
def Inc (l:List Int):Prop:=l.Pairwise (·<·)
theorem dU:∀ {l r:List Int},Inc l→Inc r→(∀ x,x∈l↔x∈r)→l=r
 |[],[],_,_,_=>rfl
 |[],y::r,_,_,h=>by have:=(h y).2 (by simp);cases this
 |x::l,[],_,_,h=>by have:=(h x).1 (by simp);cases this
 |x::l,y::r,h1,h2,h=>by
  have h1':=List.pairwise_cons.1 h1
  have h2':=List.pairwise_cons.1 h2
  have e:x=y:=by
   have a1:=(h x).1 (by simp)
   have a2:=(h y).2 (by simp)
   rcases List.mem_cons.1 a1 with e|a1
   ·exact e
   rcases List.mem_cons.1 a2 with e|a2
   ·exact e.symm
   have:=h1'.1 y a2
   have:=h2'.1 x a1
   omega
  subst e
  rw [dU h1'.2 h2'.2 fun z=>?_]
  constructor
  ·intro hz
   rcases List.mem_cons.1 ((h z).1 (List.mem_cons_of_mem _ hz)) with e|hz'
   ·subst e;have:=h1'.1 z hz;omega
   ·exact hz'
  ·intro hz
   rcases List.mem_cons.1 ((h z).2 (List.mem_cons_of_mem _ hz)) with e|hz'
   ·subst e;have:=h2'.1 z hz;omega
   ·exact hz'
theorem OX (zs:List Int) (x:Int):x∈Lib.compact zs↔x∈zs:=by
 unfold Lib.compact Lib.compactUpTo
 simp only [List.mem_map,List.mem_filter,List.mem_range]
 constructor
 ·rintro ⟨i,⟨hi,_⟩,rfl⟩
  rw [getElem!_pos zs.toArray i (by simpa using hi)]
  simp
 ·intro hx
  obtain ⟨i,hi,e⟩:=List.mem_iff_getElem.1 hx
  have key:∀ n i,i≤n→∀ hi:i<zs.length,∃ j,(j<zs.length∧Lib.keeps zs.toArray j=true)∧zs.toArray[j]! =zs[i]:=by
   intro n
   induction n with
   |zero =>
    intro i h0 hi
    obtain rfl:i=0:=by omega
    exact ⟨0,⟨hi,rfl⟩,by rw [getElem!_pos zs.toArray 0 (by simpa using hi)];simp⟩
   |succ n ih =>
    intro i h0 hi
    by_cases hk:Lib.keeps zs.toArray i=true
    ·exact ⟨i,⟨hi,hk⟩,by rw [getElem!_pos zs.toArray i (by simpa using hi)];simp⟩
    ·match i,hi,h0,hk with
     |0,_,_,hk=>exact absurd rfl hk
     |i+1,hi,h0,hk =>
      obtain ⟨j,h1,h2⟩:=ih i (by omega) (by omega)
      refine ⟨j,h1,h2.trans ?_⟩
      unfold Lib.keeps at hk
      simp only [Nat.add_sub_cancel] at hk
      rw [getElem!_pos zs.toArray i (by simpa using (by omega:i<zs.length)),getElem!_pos zs.toArray (i+1) (by simpa using hi)] at hk
      simp at hk
      exact hk.symm
  obtain ⟨j,h1,h2⟩:=key i i (Nat.le_refl _) hi
  exact ⟨j,h1,h2.trans e⟩
theorem UQ {zs:List Int} (h:zs.Pairwise (·≤·)):Inc (Lib.compact zs):=by
 have hs:∀ i j,i≤j→j<zs.length→zs.toArray[i]!≤zs.toArray[j]!:=fun i j hij hj=>by
  rw [getElem!_pos zs.toArray i (by simp;omega),getElem!_pos zs.toArray j (by simpa using hj)]
  rcases Nat.lt_or_ge i j with h'|h'
  ·simpa using List.pairwise_iff_getElem.1 h i j (by omega) hj h'
  ·obtain rfl:i=j:=by omega
   exact Int.le_refl _
 have key:∀ m,m≤zs.length→Inc (Lib.compactUpTo zs.toArray m)∧∀ x,x∈Lib.compactUpTo zs.toArray m→∃ j,j<m∧x=zs.toArray[j]!:=by
  intro m
  induction m with
  |zero=>intro _;exact ⟨List.Pairwise.nil,fun x hx=>by cases hx⟩
  |succ m ih =>
   intro hm
   obtain ⟨i1,i2⟩:=ih (by omega)
   rw [Lib.compactUpTo_succ]
   by_cases hk:Lib.keeps zs.toArray m=true
   ·rw [if_pos hk]
    refine ⟨List.pairwise_append.2 ⟨i1,List.pairwise_singleton _ _,fun x hx y hy=>?_⟩,fun x hx=>?_⟩
    ·obtain ⟨j,h1,rfl⟩:=i2 x hx
     rw [List.mem_singleton] at hy
     subst hy
     have h2:=hs j (m-1) (by omega) (by omega)
     have h3:=hs (m-1) m (by omega) (by omega)
     unfold Lib.keeps at hk
     have h4:zs.toArray[m]!≠zs.toArray[m-1]!:=by
      rcases of_decide_eq_true hk with h5|h5
      ·omega
      ·exact h5
     omega
    ·rcases List.mem_append.1 hx with hx|hx
     ·obtain ⟨j,h1,h2⟩:=i2 x hx
      exact ⟨j,by omega,h2⟩
     ·exact ⟨m,by omega,List.mem_singleton.1 hx⟩
   ·rw [if_neg hk,List.append_nil]
    exact ⟨i1,fun x hx=>by
     obtain ⟨j,h1,h2⟩:=i2 x hx
     exact ⟨j,by omega,h2⟩⟩
 exact (key zs.length (Nat.le_refl _)).1
theorem aX (zs:List Int):(zs.mergeSort fun x y=>decide (x≤y)).Pairwise (·≤·):=by
 have:=List.pairwise_mergeSort (le:=fun x y:Int=>decide (x≤y)) (fun a b c h1 h2=>by simp at *;omega) (fun a b=>by simp;omega) zs
 exact this.imp fun h=>by simpa using h
end Go.Pie
namespace Go.Vm
section
open Go.Am
section
variable {E:Env} {L:Vm.Frame} {H:Vm.Heap} {nx:Nat} {Q:PV→Vm.Heap→Nat→Prop} {w:Bool} {dst:Option Tmp} {ty:TypeId} {pos:String} {af:Array Edge} {gd:Option (Nat×Bool)}
theorem tu {m:Mem} {F:Nat→Prop}:∀ {cs:List FV} {vs:List Value} {j:Nat} {c:FV},Dv m F cs vs→cs[j]?=some c→∃ v,vs[j]?=some v∧RF m F c v
 |_,_,0,c,.cons h t,e=>by simp at e;subst e;exact ⟨_,rfl,h⟩
 |_,_,j+1,c,.cons h t,e=>by
  simp at e
  obtain ⟨v,h1,h2⟩:=tu t e
  exact ⟨v,by simpa using h1,h2⟩
 |_,_,_,_,.nil,e=>by simp at e
theorem Aa.a9g {t e:TypeId} {x ix:Operand} {n:Nat} {cs:List FV} {k:IntKind} {i:Int} {inf:TypeInfo} {c:FV} (hx:Bh E.Γ L x=some (.p (.agg cs))) (hi:Bh E.Γ L ix=some (.p (.int k i)))
 (ht:E.P.underlying t=some (.array n e)) (ha:GI E.P e=some false) (hs:E.P.info? e=some inf) (h:0≤i∧i<n) (hc:cs[i.toNat*inf.size]?=some c) (q:Q (.p c) H nx) :
 Aa E w ⟨dst,.index t x ix,ty,pos,af,gd⟩ L H nx Q :=
 Aa.quiet q fun m F σ tt h1 h2=>by
  have hr:=BK h1 h2 hx
  generalize hv:ev tt x=v at hr
  cases hr with
  |p hr =>
   cases hr with
   |agg hr hcc =>
    rename_i l
    obtain ⟨u,g1,g2⟩:=tu hr hc
    refine ⟨u,fun _=>?_,.p g2⟩
    have hd:DJ E.P (Instr.index t (.agg l.toArray) (.int k i))=some u:=by
     unfold Instr.index
     simp only [Ar,Bg,ht]
     show (DJ E.P (asIntOf (.int k i))).bind _=_
     rw [show DJ E.P (asIntOf (.int k i))=some (k,i) from rfl]
     simp only [Option.bind_some,h,and_self,if_true,Ar,Fp,hs,Option.map_some]
     unfold part
     simp only [Ar,P7,ha,Option.bind_some,Bool.false_eq_true,if_false,List.getElem?_toArray,g1]
     rfl
    simp only [Ce,EX,hv,Dc h1 h2 hi,hd,Option.map_some]
    rw [show plain (Value.int k i)=true from rfl,if_pos rfl]
end
end
section
open Go.Am
theorem dK {Γ:Nat→Option (List Value×TypeId)} {m:Mem} {F:Nat→Prop} {σ:Nat→Value} {H:Heap} {nx b:Nat} {y:HB} (h:Ctx Γ m F σ H nx) (hb:hget H b=some y) :
 Ctx Γ m (fun c=>F c∨Dl (σ b)=some c) σ (hdel H b) nx∧Step m F σ H nx m (fun c=>F c∨Dl (σ b)=some c) σ (hdel H b) nx:=by
 have hown:∀ c,Dl (σ b)=some c→own H σ c:=fun c hc=>⟨b,_,hb,hc⟩
 have hfz:∀ c,F c→(F c∨Dl (σ b)=some c)∧m.get c=m.get c:=fun c hc=>⟨.inl hc,rfl⟩
 have hN:Names nx (htag H) σ (htag (hdel H b)) σ:=fun d _=>by
  rw [Um]
  split
  ·exact ⟨trivial,fun _ _ _=>rfl⟩
  ·exact ⟨UC.refl _,fun _ _ _=>rfl⟩
 have hsub:∀ d x,hget (hdel H b) d=some x→d≠b∧hget H d=some x:=fun d x hd=>by
  rw [LG] at hd
  split at hd
  ·cases hd
  ·rename_i hne;exact ⟨Ne.symm hne,hd⟩
 refine ⟨⟨?_,?_,?_,?_⟩,⟨Nat.le_refl _,fun _ _ _=>rfl,fun _ h=>.inl h,fun c _ hc=>hc.imp id (hown c),?_,Nat.le_refl _,hN,fun _ h _ _=>h⟩⟩
 ·rintro c (hc|hc)
  ·exact h.fr c hc
  ·exact (h.KD (hown c hc)).2
 ·intro d x hd
  obtain ⟨hne,hd⟩:=hsub d x hd
  obtain ⟨h1,h2⟩:=h.hp d x hd
  refine ⟨h1,h2.mono hfz hN (Nat.le_refl _) (Nat.le_refl _) fun c hc=>⟨rfl,?_⟩⟩
  rintro (hf|hf)
  ·exact (h.KD ⟨d,x,hd,hc⟩).1 hf
  ·exact hne (h.sep d b x _ c hd hb hc hf)
 ·intro d d' x x' c hd hd' hc hc'
  exact h.sep d d' x x' c (hsub d x hd).2 (hsub d' x' hd').2 hc hc'
 ·intro g cs' e' hg
  obtain ⟨h1,h2⟩:=h.gl g cs' e' hg
  exact ⟨.inl h1,h2⟩
 ·rintro c _ ⟨d,x,hd,hc⟩
  exact ⟨d,x,(hsub d x hd).2,hc⟩
section
variable {E:Env} {bn:Nat} {L:Vm.Frame} {H:Vm.Heap} {nx:Nat} {Q:BZ→Vm.Frame→Vm.Heap→Nat→Prop}
def a6n (E:Env) (g:FuncId) (fn:Func) (cs:List FV) (e:TypeId) (rows:List (List Value)):Prop :=
 ∀ Fo,E.O g=some Fo→∀ m F c vs,m.get c=.cells vs e 0 false→Dv m F cs vs→F c→∃ key,∀ m' F' σ' H' nx',(∀ d,F d→m'.get d=m.get d)→Ctx E.Γ m' F' σ' H' nx'→∃ m1,Fo (Ed fn.ntmps [.pointer (some ⟨c,0,none⟩)]) m'=some (IX key rows,m1)
theorem Ac.o8 {f:Operand} {ps:Array Tmp} {NT body:Code} {g:FuncId} {fn:Func} {b:Nat} {cs:List FV} {ct:TypeId} {rows:List (List Value)} (n:Nat) (b3s:Nat→List FV) (zO:Nat→List Value) (L0:Vm.Frame) (Hk:Nat→Vm.Heap) (DC:Nat) (inv:Nat→Prop)
 (hf:Bh E.Γ L f=some (.clo g [] [.ref b 0])) (hbx:hget H b=some (.box ct (cs.map .p))) (hfn:E.P.funcs[g]?=some fn) (hfl:(flat NT&&flat body)=true) {Fo:List Value→Mem→Option (Value×Mem)} (ho:E.O g=some Fo) (hr:rows=(List.range n).map zO) (hlen:∀ k,k<n→(zO k).length=ps.size) (hpl:∀ k,k<n→(zO k).all plain=true) (hrel:∀ k,k<n→∀ m F,Dv m F (b3s k) (zO k))
 (hb:bn≤DC) (hc:Yi L (hdel H b) nx L0 (Hk 0) DC) (hL0:FY DC L0 L0) (hask:a6n E g fn cs ct rows)
 (h0:inv 0) (qh:∀ k,k<n→inv k→Ac E DC NT (a0e L0 ps.toList (b3s k)) (Hk k) DC fun e L1 H1 nx1=>e=.normal∧Ac E DC body L1 H1 nx1 (RQ (inv (k+1)) DC L0 (Hk (k+1)) Q))
 (hdone:inv n→Q .normal L0 (Hk n) DC):Ac E bn (.rangeFunc f ps NT body) L H nx Q:=by
 intro B hB m F σ t h1 h2 h3
 have hv:=BK h1 h2 hf
 have hlb:∃ c vs,ev t f=.func (.func g) #[] #[.pointer (some ⟨c,0,none⟩)]∧m.get c=.cells vs ct 0 false∧Dv m F cs vs∧Dl (σ b)=some c:=by
  obtain ⟨_,c,vs,r1,r2,r3,r4,r5,r6⟩:=h1.hp b _ hbx
  generalize ev t f=u at hv
  cases hv with
  |clo p1 p2 =>
   cases p1
   cases p2 with
   |cons p2 p3 =>
    cases p3
    cases p2 with
    |ref q1 q2 q3 =>
     obtain ⟨c',s1,s2⟩:=q3 (by simp [htag,hbx,HB.tag])
     rw [r1] at s1
     cases s1
     exact ⟨c,vs,by rw [s2],r4,Dv.YI r5,by rw [r1];rfl⟩
 obtain ⟨c,vs,hev,hgc,hrc,hblk⟩:=hlb
 obtain ⟨g1,g2⟩:=dK h1 hbx
 obtain ⟨F0,hF0⟩:∃ F0:Nat→Prop,F0=fun d=>F d∨Dl (σ b)=some d:=⟨_,rfl⟩
 rw [← hF0] at g1 g2
 have hcF:F0 c:=by rw [hF0];exact .inr hblk
 obtain ⟨key,hkey⟩:=hask Fo ho m F0 c vs hgc (hrc.mono fun d hd=>⟨by rw [hF0];exact .inl hd,rfl⟩) hcF
 have l1:RL m F0 (htag (hdel H b)) σ nx L t:=RL.step g2 h1 h2
 have rounds:∀ j k,k+j=n→inv k→∀ m1 F1 σ1,Ctx E.Γ m1 F1 σ1 (Hk k) DC→RL m1 F1 (htag (Hk k)) σ1 DC L0 t→B.to m1 F1 σ1 (Hk k) DC→(∀ d,F0 d→F1 d∧m1.get d=m.get d) →
  Na E.P E.O E.G NT body ps.size (fun m'=>∃ m1,Fo (Ed fn.ntmps [.pointer (some ⟨c,0,none⟩)]) m'=some (IX key rows,m1)) t ps.toList (rows.drop k) m1 fun e m'=>∃ L' H' nx' F' σ',Q e L' H' nx'∧Ctx E.Γ m' F' σ' H' nx'∧RL m' F' (htag H') σ' nx' L' t∧B.to m' F' σ' H' nx':=by
  intro j
  induction j with
  |zero =>
   intro k hk hik m1 F1 σ1 c1 l b fz
   obtain rfl:k=n:=by omega
   rw [hr,List.drop_of_length_le (by simp)]
   exact ⟨L0,_,DC,F1,σ1,hdone hik,c1,l,b⟩
  |succ j ih =>
   intro k hk hik m1 F1 σ1 c1 l b fz
   have e0:rows.drop k=zO k::rows.drop (k+1):=by
    rw [hr,List.drop_eq_getElem_cons (by simp;omega)]
    simp
   rw [e0]
   refine ⟨hlen k (by omega),hpl k (by omega),?_⟩
   refine (qh k (by omega) hik ⟨m1.at m1.size,F1,σ1,Hk k,DC⟩ rfl _ F1 σ1 _ (c1.at _) (RL.Kv (RL.at (Γ:=E.Γ) _ l) (hrel k (by omega) _ _)) (Step.refl _ _ _ _ _)).mono ?_
   rintro e1 s1 ⟨L1,H1,nx1,F2,σ2,⟨he,hbody⟩,d1,d2,d3⟩
   refine ⟨he,(hbody ⟨m1.at m1.size,F1,σ1,Hk k,DC⟩ rfl s1.m F2 σ2 s1.t d1 d2 d3).mono ?_⟩
   rintro e2 s2 ⟨L2,H2,xJ,F3,σ3,q,k1,k2,k3⟩
   have st:Step m1 F1 σ1 (Hk k) DC (s2.m.at (min m1.low s2.m.low)) F3 σ3 H2 xJ:=Step.at k3
   have k1':=k1.at (min m1.low s2.m.low)
   have l':=RL.step st c1 l
   have b':=Step.trans b st
   have fz':∀ d,F0 d→F3 d∧(s2.m.at (min m1.low s2.m.low)).get d=m.get d:=fun d hd=>by
    obtain ⟨x1,x2⟩:=fz d hd
    obtain ⟨y1,y2⟩:=st.frozen c1 d x1
    exact ⟨y1,y2.trans x2⟩
   cases e2 with
   |normal =>
    have yL:Yi L0 H2 xJ L0 (Hk (k+1)) DC:=⟨q.2.1,hL0,q.2.2⟩
    have c2:=yL.ctx k1'
    exact ⟨hkey _ _ _ _ _ (fun d hd=>(fz' d hd).2) c2,ih (k+1) (by omega) q.1 _ _ _ c2 (yL.rl l') (yL.step (by omega) b') fz'⟩
   |ret =>
    obtain ⟨q1,H3,q2,q3⟩:=q
    have yL:Yi L0 H2 xJ L0 H3 DC:=⟨q1,hL0,q2⟩
    exact ⟨L0,H3,DC,F3,σ3,q3,yL.ctx k1',yL.rl l',yL.step (by omega) b'⟩
   |exit id =>
    obtain ⟨q1,H3,q2,q3⟩:=q
    have yL:Yi L0 H2 xJ L0 H3 DC:=⟨q1,hL0,q2⟩
    exact ⟨L0,H3,DC,F3,σ3,q3,yL.ctx k1',yL.rl l',yL.step (by omega) b'⟩
 refine LM.rangeFunc (fn:=fn) (Fo:=Fo) (rows:=rows) hev hfn hfl ho (hkey _ _ _ _ _ (fun _ _=>rfl) g1) ?_
 have:=rounds n 0 (by omega) h0 m F0 σ (hc.ctx g1) (hc.rl l1) (hc.step (by omega) (h3.trans g2)) fun d hd=>⟨hd,rfl⟩
 rw [List.drop_zero] at this
 exact this
end
end
section
open Go.Am
def c0d (e:TypeId) (ks:List Int) (f:Int→List Int):List (FV×FV):=ks.map fun k=>(.int .i64 k,.lst e (cells (f k)) (f k).length)
section
variable {E:Env} {L:Frame} {H:Heap} {nx:Nat} {Q:PV→Heap→Nat→Prop} {w:Bool}
variable {dst:Option Tmp} {ty:TypeId} {pos:String} {af:Array Edge} {gd:Option (Nat×Bool)}
theorem b3f {Γ:Nat→Option (List Value×TypeId)} {m:Mem} {F:Nat→Prop} {σ:Nat→Value} {t:Tr Value} {k:IntKind} {n:Int} {o:Operand} (hx:Ctx Γ m F σ H nx) (hl:RL m F (htag H) σ nx L t) (h:Bh Γ L o=some (.p (.int k n))):ev t o=.int k n:=by
 have:=BK hx hl h
 generalize ev t o=v at this
 cases this with
 |p h=>cases h;rfl
end
section
variable {E:Env} {bn i:Nat} {ops:Array Oper} {l:List Oper} {L:Frame} {H:Heap} {nx:Nat} {R:Frame→Heap→Nat→Prop}
end
def swp (a b i:Nat):Nat:=if i=a then b else if i=b then a else i
theorem Nw (a b i:Nat):swp a b (swp a b i)=i:=by
 unfold swp
 by_cases h1:i=a
 ·subst h1
  rw [if_pos rfl]
  by_cases h2:b=i
  ·rw [if_pos h2];exact h2
  ·rw [if_neg h2,if_pos rfl]
 ·rw [if_neg h1]
  by_cases h2:i=b
  ·subst h2;rw [if_pos rfl,if_pos rfl]
  ·rw [if_neg h2,if_neg h1,if_neg h2]
theorem tN {a b i j:Nat} (h:swp a b i=swp a b j):i=j:=by rw [← Nw a b i,h,Nw]
theorem a2w {a b i n:Nat} (ha:n≤a) (hb:n≤b) (h:i<n):swp a b i=i:=by unfold swp;rw [if_neg (by omega),if_neg (by omega)]
theorem nK {a b i n:Nat} (ha:a<n) (hb:b<n) (h:i<n):swp a b i<n:=by
 unfold swp
 split
 ·exact hb
 ·split
  ·exact ha
  ·exact h
def xI (ρ:Nat→Nat):Heap→Heap
 |[]=>[]
 |(i,x)::H=>(ρ i,x.rn ρ)::xI ρ H
theorem WS (a b:Nat):∀ (H:Heap) (i:Nat),hget (xI (swp a b) H) (swp a b i)=(hget H i).map (HB.rn (swp a b))
 |[],_=>rfl
 |(j,x)::H,i=>by
  simp only [xI,BA]
  by_cases h:j=i
  ·subst h;rw [if_pos rfl,if_pos rfl];rfl
  ·rw [if_neg h,if_neg (fun e=>h (tN e))];exact WS a b H i
theorem eH (a b:Nat) (H:Heap) (i:Nat):htag (xI (swp a b) H) (swp a b i)=htag H i:=by
 unfold htag
 rw [WS]
 cases hget H i with
 |none=>rfl
 |some x=>simp [HB.qg]
theorem a3y {Γ:Nat→Option (List Value×TypeId)} {m:Mem} {F:Nat→Prop} {σ:Nat→Value} {H:Heap} {nx a b:Nat} (ha:a<nx) (hb:b<nx) (h:Ctx Γ m F σ H nx):Ctx Γ m F (fun i=>σ (swp a b i)) (xI (swp a b) H) nx:=by
 have hr:∀ j,j<nx→swp a b j<nx∧htag (xI (swp a b) H) (swp a b j)=htag H j∧(fun i=>σ (swp a b i)) (swp a b j)=σ j:=fun j hj=>⟨nK ha hb hj,eH a b H j,by simp only [Nw]⟩
 have hg:∀ i x,hget (xI (swp a b) H) i=some x→∃ y,hget H (swp a b i)=some y∧x=y.rn (swp a b):=fun i x hx=>by
  rw [← Nw a b i,WS,Option.map_eq_some_iff] at hx
  obtain ⟨y,h1,h2⟩:=hx
  exact ⟨y,h1,h2.symm⟩
 refine ⟨h.fr,fun i x hx=>?_,fun i j x y c hx hy hc hc'=>?_,h.gl⟩
 ·obtain ⟨y,h1,rfl⟩:=hg i x hx
  obtain ⟨h2,h3⟩:=h.hp _ y h1
  refine ⟨by have:=nK ha hb h2;rwa [Nw] at this,RB.rn hr h3⟩
 ·obtain ⟨x',h1,_⟩:=hg i x hx
  obtain ⟨y',h2,_⟩:=hg j y hy
  exact tN (h.sep _ _ x' y' c h1 h2 hc hc')
theorem a4t {σ:Nat→Value} {H:Heap} {a b c:Nat} (h:own (xI (swp a b) H) (fun i=>σ (swp a b i)) c):own H σ c:=by
 obtain ⟨i,x,h1,h2⟩:=h
 rw [← Nw a b i,WS,Option.map_eq_some_iff] at h1
 obtain ⟨y,h3,_⟩:=h1
 exact ⟨_,y,h3,h2⟩
end
section
open Go.Am
mutual
def FV.flat:FV→Bool
 | .int ..| .bool _| .str _| .val _=>true
 | .agg cs=>FVs.flat cs
 | .lst ..| .EL _| .own ..=>false
def FVs.flat:List FV→Bool
 |[]=>true
 |c::cs=>FV.flat c&&FVs.flat cs
end
mutual
def PV.flat:PV→Bool
 | .p x=>x.flat
 | .agg cs=>CZ.flat cs
 | .Ee cs=>CZ.flat cs
 | .vec ..| .ref ..| .Fq ..| .mref _=>true
 | .clo _ fs cs=>CZ.flat fs&&CZ.flat cs
def CZ.flat:List PV→Bool
 |[]=>true
 |c::cs=>PV.flat c&&CZ.flat cs
end
def HB.flat:HB→Bool
 | .box _ cs=>CZ.flat cs
 | .vec _ cs _ _=>FVs.flat cs
 | .map _=>false
 | .OY ..=>false
 | .IU ..=>false
def b1m:Heap→Bool
 |[]=>true
 |(_,x)::H=>x.flat&&b1m H
section
variable {m m':Mem} {F F':Nat→Prop} {T:Nat→Option Tg} {σ:Nat→Value} {n:Nat}
end
section
variable {E:Env} {L:Frame} {H:Heap} {nx:Nat} {Q:PV→Heap→Nat→Prop} {w:Bool}
variable {dst:Option Tmp} {ty:TypeId} {pos:String} {af:Array Edge} {gd:Option (Nat×Bool)}
end
end
section
open Go.Am
variable {E:Env} {L:Frame} {H:Heap} {nx:Nat} {Q:PV→Heap→Nat→Prop} {w:Bool}
variable {dst:Option Tmp} {ty:TypeId} {pos:String} {af:Array Edge} {gd:Option (Nat×Bool)}
theorem yR (σ:Nat→Value) (a:Nat):upd σ a (σ a)=σ:=by funext x;simp only [upd];split<;>simp_all
end
section
open Go.Am
section
variable {E:Env} {L:Vm.Frame} {H:Vm.Heap} {nx:Nat} {Q:PV→Vm.Heap→Nat→Prop} {w:Bool} {dst:Option Tmp} {ty:TypeId} {pos:String} {af:Array Edge} {gd:Option (Nat×Bool)}
theorem Bo.b2l (b:Nat) {n:Nat} {e:TypeId} {cs:List FV} (cs':List FV) {z:Bool} (hb:hget H b=some (.vec e cs n z)) (h:IG cs cs'):Bo E L H nx L (hput H b (.vec e cs' n z)) nx:=fun B m F σ t h1 h2 h3=>by
 have hr:=RB.le (Jj.vec (n:=n) (z:=z) (e:=e) h rfl) (h1.hp b _ hb).2
 obtain ⟨d1,d2⟩:=h1.change (m':=m) (b0:=b) (x':=.vec e cs' n z) (s':=σ b) hb (UC.refl _) (fun _=>rfl) (Nat.le_refl _) (fun _ _ _=>rfl) (fun _ h _ _=>h) (fun c hc=>.inl hc) hr
 exact ⟨F,_,d1,h2.step d2 h1,h3.trans d2⟩
theorem Aa.b3c {t t2:TypeId} {x y:Operand} {a b r:Bool} (hx:Bh E.Γ L x=some (.p (.bool a))) (hy:Bh E.Γ L y=some (.p (.bool b))) (ht:E.P.underlying t=some .bool) (hr:(a != b)=r) (q:Q (.p (.bool r)) H nx) :
 Aa E w ⟨dst,.binOp .neq t x y t2,ty,pos,af,gd⟩ L H nx Q:=Aa.neB hx hy ht (by rw [hr];exact q)
theorem Bo.lK (d j:Nat) {b n k:Nat} {e:TypeId} {cs:List FV} {z:Bool} (hd:ET L d=some (.vec b n 0 k)) (hb:hget H b=some (.vec e cs n z)) (hn:0<n) (hj:j≤cs.length) :
 Bo E L H nx ((d,.p (.lst e (cs.take j) k))::L) (hdel H b) nx:=fun B m F σ t h1 h2 h3=>by
 obtain ⟨c1,c2⟩:=dK h1 hb
 refine ⟨_,σ,c1,fun i v hi=>?_,h3.trans c2⟩
 rw [DW] at hi
 by_cases ei:d=i
 ·rw [if_pos ei] at hi;cases hi
  have:=h2 d _ hd
  subst ei
  generalize CB t d=u at this
  cases this with
  |vec hb' hc h =>
   have hsub:=(h n (by simp [htag,hb,HB.tag])).2 rfl
   obtain ⟨_,hr⟩:=h1.hp b _ hb
   rcases hr with ⟨r1,r2,r3⟩|⟨c,g,vs,r1,r2,r3,r4,r5,r6,r7⟩
   ·omega
   ·rw [r1] at hsub
    simp only [EW] at hsub
    subst hsub
    refine .p (.lst (.inr (by rw [r1];rfl)) r4 (ws:=vs.take j) ?_ ((Dv.take j r5).mono fun d hd=>⟨.inl hd,rfl⟩) (Ls r6 _))
    have:=r5.length
    rw [List.drop_zero,List.length_take,Nat.min_eq_left hj]
    unfold takeN
    rw [if_pos (by omega)]
 ·rw [if_neg ei] at hi
  exact (h2 i v hi).step c2 h1
end
end
section
open Go.Am
section
variable {P:Program}
structure c1n (P:Program) (t e:TypeId):Prop where
 arr:P.underlying t=some (.array 2 e)
 elt:P.underlying e=some (.int .i64)
 agg:GI P e=some false
 sz:(P.info? e).map (·.size)=some 1
def a2V (a b:Int):Value:=.agg #[.int .i64 a,.int .i64 b]
abbrev b1b:=List ((Int×Int)×Int)
def c0t (es:b1b):List (FV×FV):=es.map fun x=>(.agg [.int .i64 x.1.1,.int .i64 x.1.2],.int .i64 x.2)
def b3m:b1b→Int→Int→Option Int
 |[],_,_=>none
 |x::es,a,b=>if a=x.1.1∧b=x.1.2 then some x.2 else b3m es a b
variable {E:Env} {L:Vm.Frame} {H:Vm.Heap} {nx:Nat} {Q:PV→Vm.Heap→Nat→Prop} {w:Bool} {dst:Option Tmp} {ty:TypeId} {pos:String} {af:Array Edge} {gd:Option (Nat×Bool)}
end
end
section
open Go.Am
section
variable {E:Env} {L:Frame} {H:Heap} {nx:Nat}
theorem Bo.fresh (e:TypeId):Bo E L H nx L ((nx,.vec e [] 0 true)::H) (nx+1):=fun B m F σ t h1 h2 h3=>by
 obtain ⟨c1,c2⟩:=RY e h1
 exact ⟨F,_,c1,fun i v hi=>(h2 i v hi).step c2 h1,h3.trans c2⟩
variable {Q:PV→Heap→Nat→Prop} {dst:Option Tmp} {ty:TypeId} {pos:String} {af:Array Edge} {gd:Option (Nat×Bool)}
end
end
section
open Go.Am
def CW (s:Nat):Nat→(Nat→HB)→Heap
 |0,_=>[]
 |n+1,f=>(s+n,f n)::CW s n f
theorem PN {s:Nat} {f:Nat→HB}:∀ {n j:Nat},j<n→hget (CW s n f) (s+j)=some (f j)
 |0,_,h=>by omega
 |n+1,j,h=>by
  unfold CW
  rw [BA]
  by_cases e:n=j
  ·subst e;rw [if_pos rfl]
  ·rw [if_neg (by omega)];exact PN (by omega)
theorem N9 {s:Nat} {f:Nat→HB}:∀ {n b:Nat},b<s∨s+n≤b→hget (CW s n f) b=none
 |0,_,_=>rfl
 |n+1,b,h=>by
  unfold CW
  rw [BA,if_neg (by omega)]
  exact N9 (by omega)
theorem X7 {s:Nat} {f g:Nat→HB}:∀ {n:Nat},(∀ j,j<n→f j=g j)→CW s n f=CW s n g
 |0,_=>rfl
 |n+1,h=>by
  unfold CW
  rw [h n (by omega),X7 fun j hj=>h j (by omega)]
theorem Zq {s:Nat} {f:Nat→HB} {y:HB}:∀ {n j:Nat},j<n→hput (CW s n f) (s+j) y=CW s n fun i=>if i=j then y else f i
 |0,_,h=>by omega
 |n+1,j,h=>by
  unfold CW
  simp only [hput]
  by_cases e:n=j
  ·subst e
   have hd:∃ h,Nat.decEq (s+n) (s+n)=.isTrue h:=⟨rfl,by cases Nat.decEq (s+n) (s+n) with|isTrue h=>rfl|isFalse h=>exact absurd rfl h⟩
   obtain ⟨_,hd⟩:=hd
   rw [hd,if_pos rfl]
   simp only
   congr 1
   exact X7 fun i hi=>by rw [if_neg (by omega)]
  ·have hd:∃ h,Nat.decEq (s+n) (s+j)=.isFalse h:=⟨by omega,by cases Nat.decEq (s+n) (s+j) with|isTrue h=>omega|isFalse h=>rfl⟩
   obtain ⟨_,hd⟩:=hd
   rw [hd,if_neg e]
   simp only
   rw [Zq (by omega)]
theorem Ew {a b:Nat} {x:HB} {H:Heap} {r:Option HB} (h:a≠b) (t:hget H b=r):hget ((a,x)::H) b=r:=by rw [BA,if_neg h];exact t
theorem PG {a b:Nat} {x y:HB} {H H':Heap} (h:a≠b) (t:hput H b y=H'):hput ((a,x)::H) b y=(a,x)::H':=by
 simp only [hput]
 cases hd:Nat.decEq a b with
 |isTrue e=>exact absurd e h
 |isFalse _=>simp only [t]
theorem Gl {b c:Nat} {y:HB} {H:Heap} {r:Option HB} (h:b≠c) (t:hget H c=r):hget (hput H b y) c=r:=by rw [LP,if_neg h];exact t
theorem Sl {b c:Nat} {x y:HB} (h:b≠c):∀ {H:Heap},hput (hput H b x) c y=hput (hput H c y) b x
 |[]=>rfl
 |(a,z)::H=>by
  simp only [hput]
  cases h1:Nat.decEq a b with
  |isTrue e1 =>
   cases h2:Nat.decEq a c with
   |isTrue e2=>exact absurd (e1.symm.trans e2) h
   |isFalse _=>simp only [hput,h1,h2]
  |isFalse _ =>
   cases h2:Nat.decEq a c with
   |isTrue e2=>simp only [hput,h1,h2]
   |isFalse _=>simp only [hput,h1,h2,Sl h (H:=H)]
theorem kC {b c:Nat} {x y:HB} {H H':Heap} (h:b≠c) (t:hput H c y=H'):hput (hput H b x) c y=hput H' b x:=by rw [Sl h,t]
theorem XE:∀ {H T:Heap} {b:Nat},hget (H++T) b=match hget H b with|some x=>some x|none=>hget T b
 |[],_,_=>rfl
 |(a,x)::H,T,b=>by
  rw [List.cons_append,BA,BA]
  by_cases e:a=b
  ·rw [if_pos e,if_pos e]
  ·rw [if_neg e,if_neg e];exact XE
theorem Ci.tail {k s:Nat} {f:Nat→HB} {H:Heap}:∀ {n:Nat},(∀ j,j<n→hget H (s+j)=some (f j))→s+n≤k→(∀ j,j<n→(f j).under k)→Ci k (CW s n f) H
 |0,_,_,_=>trivial
 |n+1,h,hk,hu=>⟨⟨by omega,hu n (by omega),f n,h n (by omega),.refl _⟩,Ci.tail (fun j hj=>h j (by omega)) (by omega) fun j hj=>hu j (by omega)⟩
section
variable {E:Env} {L:Frame} {H:Heap} {nx:Nat}
theorem Nr {H1 H2:Heap} (h:∀ b,hget H1 b=hget H2 b):htag H1=htag H2:=by
 funext b
 unfold htag
 rw [h b]
theorem xg {H1 H2:Heap} (h:∀ b,hget H1 b=hget H2 b) {σ:Nat→Value} {c:Nat} (ho:own H1 σ c):own H2 σ c:=by
 obtain ⟨b,x,hb,hc⟩:=ho
 exact ⟨b,x,(h b).symm.trans hb,hc⟩
theorem Ctx.congr {Γ:Nat→Option (List Value×TypeId)} {m:Mem} {F:Nat→Prop} {σ:Nat→Value} {H1 H2:Heap} (h:∀ b,hget H1 b=hget H2 b) (c:Ctx Γ m F σ H1 nx):Ctx Γ m F σ H2 nx where
 fr:=c.fr
 hp b x hb:=by
  rw [← Nr h]
  exact c.hp b x ((h b).trans hb)
 sep b b' x x' d h1 h2:=c.sep b b' x x' d ((h b).trans h1) ((h b').trans h2)
 gl:=c.gl
theorem Step.congr {m m':Mem} {F F':Nat→Prop} {σ σ':Nat→Value} {H0 H1 H2:Heap} {nx nx':Nat} (h:∀ b,hget H1 b=hget H2 b) (s:Step m F σ H0 nx m' F' σ' H1 nx'):Step m F σ H0 nx m' F' σ' H2 nx' where
 size:=s.size
 keep:=s.keep
 JC:=s.JC
 JA:=s.JA
 IK c hc ho:=s.IK c hc (xg (fun b=>(h b).symm) ho)
 Ud:=s.Ud
 names:=by rw [← Nr h];exact s.names
 low:=s.low
theorem Bo.congr {L1:Frame} {H1 H2:Heap} {nx1:Nat} (h:∀ b,hget H1 b=hget H2 b) (g:Bo E L H nx L1 H1 nx1):Bo E L H nx L1 H2 nx1:=fun B m F σ t h1 h2 h3=>by
 obtain ⟨F1,σ1,c1,c2,c3⟩:=g B m F σ t h1 h2 h3
 refine ⟨F1,σ1,c1.congr h,?_,c3.congr h⟩
 rw [← Nr h]
 exact c2
theorem Bo.refl:Bo E L H nx L H nx:=fun B m F σ t h1 h2 h3=>⟨F,σ,h1,h2,h3⟩
theorem Bo.freshN' (e:TypeId):∀ n:Nat,Bo E L H nx L (CW nx n (fun _=>.vec e [] 0 true)++H) (nx+n)
 |0=>Bo.refl
 |n+1=>(Bo.freshN' e n).trans (Bo.fresh e)
theorem Bo.a8j (e:TypeId) (n:Nat) (hH:∀ b x,hget H b=some x→b<nx):Bo E L H nx L (H++CW nx n (fun _=>.vec e [] 0 true)) (nx+n) :=
 (Bo.freshN' e n).congr fun b=>by
  rw [XE,XE]
  rcases Nat.lt_or_ge b nx with h|h
  ·rw [N9 (.inl h)]
   cases hget H b<;>rfl
  ·cases h0:hget H b with
   |some x=>exact absurd (hH b x h0) (by omega)
   |none =>
    simp only
    cases hget (CW nx n fun _=>HB.vec e [] 0 true) b<;>rfl
theorem XF {a n:Nat} {x:HB} {T:Heap} (h:a<n) (t:∀ b y,hget T b=some y→b<n):∀ b y,hget ((a,x)::T) b=some y→b<n:=fun b y hb=>by
 rw [BA] at hb
 by_cases e:a=b
 ·omega
 ·rw [if_neg e] at hb;exact t b y hb
theorem a2t {n:Nat}:∀ b y,hget ([]:Heap) b=some y→b<n:=fun _ _ h=>by cases h
theorem xU {σ:Nat→Value} {m:Mem} {F:Nat→Prop} {b:Nat} {e:TypeId} {Γ:Nat→Option (List Value×TypeId)} (h1:Ctx Γ m F σ H nx) (hb:hget H b=some (.vec e [] 0 true)):RP m F (htag H) σ nx (.vec b 0 0 0) Dh:=by
 obtain ⟨hlb,hrb⟩:=h1.hp b _ hb
 have hσb:σ b=Dh:=by
  rcases hrb with ⟨_,_,h⟩|⟨c,g,vs,_,_,_,_,_,_,h⟩
  ·rcases h with ⟨h,_⟩|⟨_,_,_,_,h⟩
   ·exact h
   ·cases h
  ·have:=h rfl
   cases this
 refine .vec hlb rfl fun n hn=>?_
 have:htag H b=some (.vec 0):=by unfold htag;rw [hb];rfl
 rw [this] at hn
 simp only [Option.some.injEq,Tg.vec.injEq] at hn
 subst hn
 refine ⟨Nat.le_refl _,fun _=>?_⟩
 rw [hσb]
 exact ⟨rfl,rfl,rfl⟩
end
section
variable {E:Env} {L:Frame} {H:Heap} {nx:Nat} {Q:PV→Heap→Nat→Prop}
variable {dst:Option Tmp} {ty:TypeId} {pos:String} {af:Array Edge} {gd:Option (Nat×Bool)}
theorem Aa.congr {w:Bool} {o:Oper} {Q1:PV→Heap→Nat→Prop} (h:Aa E w o L H nx Q1) (hq:∀ r H' nx',Q1 r H' nx'→∃ H'',(∀ b,hget H' b=hget H'' b)∧Q r H'' nx'):Aa E w o L H nx Q:=fun m F σ t h1 h2=>by
 refine (h m F σ t h1 h2).mono ?_
 rintro v m' ⟨r,H',nx',F',σ',q,c1,c2,c3,c4⟩
 obtain ⟨H'',e,q'⟩:=hq r H' nx' q
 refine ⟨r,H'',nx',F',σ',q',c1.congr e,?_,c3.congr e,c4⟩
 rw [← Nr e]
 exact c2
def iD (ρ:Nat→Nat) (H:Heap):Heap→Prop
 |[]=>True
 |(i,x)::Hc=>hget H (ρ i)=some (x.rn ρ)∧iD ρ H Hc
theorem iD.hin {ρ:Nat→Nat} {H:Heap}:∀ {Hc:Heap},iD ρ H Hc→HIn ρ H Hc
 |[],_=>trivial
 |(i,x)::Hc,⟨h1,h2⟩=>⟨⟨_,h1,.refl _⟩,iD.hin h2⟩
theorem iD.get {ρ:Nat→Nat} {H:Heap}:∀ {Hc:Heap},iD ρ H Hc→∀ i x,hget Hc i=some x→hget H (ρ i)=some (x.rn ρ)
 |[],_,_,_,h=>by cases h
 |(j,y)::Hc,⟨h1,h2⟩,i,x,h=>by
  rw [BA] at h
  by_cases e:j=i
  ·rw [if_pos e] at h;cases h;subst e;exact h1
  ·rw [if_neg e] at h;exact iD.get h2 i x h
def allIn:Nat→Heap→Bool
 |0,_=>true
 |n+1,Hc=>(hget Hc n).isSome&&allIn n Hc
theorem aF {Hc:Heap}:∀ {n i:Nat},allIn n Hc=true→i<n→(hget Hc i).isSome=true
 |0,_,_,h=>by omega
 |n+1,i,h,hi=>by
  simp only [allIn,Bool.and_eq_true] at h
  by_cases e:i=n
  ·subst e;exact h.1
  ·exact aF h.2 (by omega)
theorem Aa.a5x {fo:Operand} {args:Array Operand} {aT:Array TypeId} {g:FuncId} {fs cs BF ac:List PV} {Hc:Heap} {x:FV} (ns:List Nat) (hc:Et E g ac Hc ns.length x)
 (hf:Bh E.Γ L fo=some (.clo g fs cs)) (ha:evs E.Γ L args.toList=some BF) (hle:MF (fs++BF++cs) (CZ.rn (rho ns nx) ac)) (hu:CZ.under ns.length ac) (ql:JY ns.length Hc) (hin:iD (rho ns nx) H Hc) (hall:allIn ns.length Hc=true) (hnd:ns.Nodup) (hlt:∀ b∈ns,b<nx) (q:Q (.p x) H nx) :
 Aa E true ⟨dst,.call { callee:=.value fo,args:=args,argTypes:=aT },ty,pos,af,gd⟩ L H nx Q:=by
 have hge:∀ i,ns.length≤i→rho ns nx i=nx+(i-ns.length):=fun i hi=>a0b hi
 have hinj:∀ i j,rho ns nx i=rho ns nx j→ns.length≤i→ns.length≤j→i=j:=fun i j e hi hj=>by
  rw [hge i hi,hge j hj] at e;omega
 refine Aa.congr (Aa.Y1 hf ha hle hu ql hin.hin hnd hlt (fun h=>by cases h) hc (Q:=fun r H' nx'=>r=.p x∧(∀ b,hget H' b=hget H b)∧nx'=nx) ?_) fun r H' nx' ⟨h1,h2,h3⟩=>⟨H,h2,by rw [h1,h3];exact q⟩
 rintro r H' nx' ⟨rfl,rfl,rfl⟩
 refine ⟨rfl,fun b=>?_,by omega⟩
 rcases JW (k:=ns.length) (ρ:=rho ns nx) (H:=merge ns (rho ns nx) H' H) (H':=H') (b:=b) hinj with ⟨i,hi,e1,e2,e3⟩|⟨_,e⟩
 ·cases h0:hget H' i with
  |none=>rw [h0] at e2;simp at e2
  |some y=>have:=(ql.get i y h0).1;omega
 ·rw [e]
  cases hi:idx ns b with
  |none=>rw [FB hi]
  |some i =>
   have h0:=Xa hi
   have hb:rho ns nx i=b:=yV h0
   rw [Ju hi]
   cases h1:hget H b with
   |none=>rfl
   |some y =>
    cases h2:hget H' i with
    |none =>
     have hlt':i<ns.length:=by
      rcases Nat.lt_or_ge i ns.length with h|h
      ·exact h
      ·rw [List.getElem?_eq_none h] at h0;cases h0
     have:=aF hall hlt'
     rw [h2] at this
     cases this
    |some x =>
     have:=hin.get i x h2
     rw [hb,h1] at this
     simpa using this.symm
end
end
end Go.Vm
