/-
  Texts of a proof, merged (HanN, HanS, HanT, HanU, HanV, PieX, HanW, HanX, HanY). Conditions: in each statement.
-/
import Derived.Test.YtnjkoebfgcbbdaaGreatDoorKMf
set_option linter.unusedSimpArgs false
set_option linter.unusedVariables false
set_option linter.unusedSectionVars false
set_option maxRecDepth 100000
set_option maxHeartbeats 8000000
namespace Go.Proofs.YtnjkoebfgcbbdaaGreatDoor
section
open Go Go.Am Go.Vm Go.Pie Go.Sch
attribute [local irreducible] Aa Ad Af Ac Ba AB BG Au Ap Ah Vm.Done BQ AY Qr Bj CG Ey IJ E5 Hold
attribute [local irreducible] CV Bq Eh DY Ez BH CW
abbrev Way:=List Int×Int
def Oj (w:Way):FV:=.agg [.lst 3 (cells w.1) w.1.length,.int .i64 w.2]
def I8 (es:List (Jp×Way)):List (Jp×PV):=es.map fun e=>(e.1,.p (Oj e.2))
def KC (es:List (Jp×Way)):HB:=Lr (fun x:Jp=>.agg (Enc.enc x)) (I8 es)
theorem Tf {α β γ:Type} [DecidableEq α] (g:β→γ) (a:α):∀ es:List (α×β),Cb (es.map fun e=>(e.1,g e.2)) a=(Cb es a).map g
 |[]=>rfl
 |x::es=>by
  simp only [List.map_cons,Cb]
  split
  ·rfl
  ·exact Tf g a es
theorem RU {α β γ:Type} [DecidableEq α] (g:β→γ) (a:α) (b:β):∀ es:List (α×β),Cm (es.map fun e=>(e.1,g e.2)) a (g b)=(Cm es a b).map fun e=>(e.1,g e.2)
 |[]=>rfl
 |x::es=>by
  simp only [List.map_cons,Cm]
  split
  ·rfl
  ·rw [RU g a b es];rfl
theorem CU (k:Nat) (es:List (Jp×Way)):HB.under k (KC es):=by
 show CZ.under k ((I8 es).map (·.2))
 induction es with
 |nil=>exact trivial
 |cons e es ih=>exact ⟨trivial,ih⟩
theorem Wj (ρ:Nat→Nat) (es:List (Jp×Way)):(KC es).rn ρ=KC es:=by
 show HB.IU _ (CZ.rn ρ ((I8 es).map (·.2)))=HB.IU _ _
 have:CZ.rn ρ ((I8 es).map (·.2))=(I8 es).map (·.2):=by
  induction es with
  |nil=>rfl
  |cons e es ih =>
   show PV.rn ρ (PV.p (Oj e.2))::CZ.rn ρ ((I8 es).map (·.2))=_
   rw [ih];rfl
 rw [this]
section
variable {L:Vm.Frame} {H:Vm.Heap} {nx:Nat} {Q:PV→Vm.Heap→Nat→Prop} {w:Bool} {dst:Option Tmp} {ty:TypeId} {pos:String} {af:Array Edge} {gd:Option (Nat×Bool)}
theorem a6r {t:TypeId} (q:Q (.mref nx) ((nx,KC [])::H) (nx+1)):Aa env w ⟨dst,.makeMap t none,ty,pos,af,gd⟩ L H nx Q:=Aa.Yy q
def foundW:Option Way→PV
 |none=>.p (.agg [.val (.slice none 0 0),.int .i64 0])
 |some w=>.p (Oj w)
theorem lookW {t:TypeId} {x k:Operand} {b:Nat} {m:List (Jp×Way)} {y:Jp} (hx:Bh env.Γ L x=some (.mref b)) (hb:hget H b=some (KC m)) (hk:Bh env.Γ L k=some (.p (.agg (Enc.enc y))))
 (ht:env.P.underlying t=some (.map 124 127)) (q:Q (.Ee [foundW (Cb m y),.p (.bool (Cb m y).isSome)]) H nx):Aa env w ⟨dst,.lookup t x k true,ty,pos,af,gd⟩ L H nx Q:=by
 have hl:Cb (I8 m) y=(Cb m y).map fun w=>PV.p (Oj w):=Tf (fun w=>PV.p (Oj w)) y m
 have hs:(Cb (I8 m) y).isSome=(Cb m y).isSome:=by rw [hl,Option.isSome_map]
 rw [← hs] at q
 refine Aa.lookupGo (z:=.agg #[.slice none 0 0,.int .i64 0]) bH hx hb hk ht (by kernel_rfl) rfl ?_ q
 cases h:Cb m y with
 |none =>
  rw [h] at hl
  exact JX.const hl rfl
 |some w =>
  rw [h] at hl
  exact .inl hl
theorem a7p {t:TypeId} {x k:Operand} {b:Nat} {m:List (Jp×Way)} {y:Jp} (hl:Cb m y=none) (hx:Bh env.Γ L x=some (.mref b)) (hb:hget H b=some (KC m)) (hk:Bh env.Γ L k=some (.p (.agg (Enc.enc y))))
 (ht:env.P.underlying t=some (.map 124 127)) (q:Q (.Ee [.p (.agg [.val (.slice none 0 0),.int .i64 0]),.p (.bool false)]) H nx):Aa env w ⟨dst,.lookup t x k true,ty,pos,af,gd⟩ L H nx Q :=
 lookW hx hb hk ht (by rw [hl];exact q)
theorem a9e {t:TypeId} {x k:Operand} {b:Nat} {m:List (Jp×Way)} {y:Jp} {v:Way} (hl:Cb m y=some v) (hx:Bh env.Γ L x=some (.mref b)) (hb:hget H b=some (KC m)) (hk:Bh env.Γ L k=some (.p (.agg (Enc.enc y))))
 (ht:env.P.underlying t=some (.map 124 127)) (q:Q (.Ee [.p (Oj v),.p (.bool true)]) H nx):Aa env w ⟨dst,.lookup t x k true,ty,pos,af,gd⟩ L H nx Q :=
 lookW hx hb hk ht (by rw [hl];exact q)
theorem b2v {t:TypeId} {x k y':Operand} {b:Nat} {m:List (Jp×Way)} {y:Jp} (v:Way) (hx:Bh env.Γ L x=some (.mref b)) (hb:hget H b=some (KC m)) (hk:Bh env.Γ L k=some (.p (.agg (Enc.enc y)))) (hy:Bh env.Γ L y'=some (.p (Oj v)))
 (ht:env.P.underlying t=some (.map 124 127)) (q:Q (.Ee []) (hput H b (KC (Cm m y v))) nx):Aa env true ⟨dst,.mapUpdate t x k y',ty,pos,af,gd⟩ L H nx Q :=
 Aa.rU bH hx hb hk hy ht (by
  show hput H b (Lr _ (Cm (I8 m) y (.p (Oj v))))=hput H b (Lr _ (I8 (Cm m y v)))
  have:Cm (I8 m) y (PV.p (Oj v))=I8 (Cm m y v):=RU (fun w=>PV.p (Oj w)) y v m
  rw [this]) q
theorem b1t {t:TypeId} {x k y':Operand} {b:Nat} {m:List (Jp×Way)} {y:Jp} (v:Way) (hx:Bh env.Γ L x=some (.mref b)) (hb:hget H b=some (KC m)) (hk:Bh env.Γ L k=some (.p (.agg (Enc.enc y)))) (hy:Bh env.Γ L y'=some (.p (Oj v)))
 (ht:env.P.underlying t=some (.map 124 127)) (q:Q (.Ee []) (hput H b (KC (Cm m y v))) nx):Aa env true ⟨dst,.insert t x k y',ty,pos,af,gd⟩ L H nx Q :=
 Aa.rG bH hx hb hk hy ht (by
  show hput H b (Lr _ (Cm (I8 m) y (.p (Oj v))))=hput H b (Lr _ (I8 (Cm m y v)))
  have:Cm (I8 m) y (PV.p (Oj v))=I8 (Cm m y v):=RU (fun w=>PV.p (Oj w)) y v m
  rw [this]) q
end
theorem jU (q:Qu) (hq:Jw q) {t:Nat} (ht:t<(BJ q.p).length) {l:List Int} (hl:uZ q t l) {x:List Int} (hx:x∈dw q t l):x.length=q.p.notes.length∧∀ i,i<x.length→0≤gi x i∧gi x i≤2:=by
 have hS:=Vl q hq
 have hll:=hl.len
 have hm:=(L8 (nw:=Lp q t) (f:=fQ q t) (l:=l) (kQ q t) (hS.inj t ht) (fun j hj=>by rw [hll];exact hS.rng t ht j hj) hl.zero x).1 (List.mem_filter.1 hx).1
 refine ⟨hm.1.trans hll,fun i hi=>?_⟩
 have h2:=hm.2 i (by rw [← hm.1];exact hi)
 by_cases h:Tz (Lp q t) (fQ q t) (kQ q t) i
 ·rcases h2.1 h with e|e<;>omega
 ·rw [h2.2 h];exact hl.rng i (by rw [← hm.1];exact hi)
theorem jE (q:Qu) (t:Nat) (hM:kQ q t≤12) (l:List Int):(dw q t l).length≤4096:=by
 refine Nat.le_trans (List.length_filter_le _ _) (Nat.le_trans (Yg _ _ _ _).2 ?_)
 exact Nat.pow_le_pow_right (by decide) (show kQ q t≤12 by omega)
def yJ (q:Qu) (t:Nat) (e:Jp×Way):List (Jp×Way):=(dw q t e.2.1).map fun x=>(Gw q t e.1 x,(x,e.2.2+Jq q t e.1 x))
def a5c (q:Qu) (t:Nat) (x:Jp) (l:List Int):Nat→Jp
 |0=>⟨NW (Hy q t) l,x.c0,x.c1,x.b0,x.b1⟩
 |1=>⟨NW (Hy q t) l,if (FW q l 0 t).1=true then (FW q l 0 t).2 else x.c0,x.c1,(FW q l 0 t).1||x.b0,x.b1⟩
 |_=>Gw q t x l
def wU (q:Qu) (t:Nat) (x:Jp) (c:Int) (l:List Int):Nat→Int
 |0=>c
 |1=>c+FQ (FW q l 0 t) x.b0 x.c0
 |_=>c+FQ (FW q l 0 t) x.b0 x.c0+FQ (FW q l 1 t) x.b1 x.c1
theorem yA (q:Qu) (t:Nat) (x:Jp) (c:Int) (l:List Int):wU q t x c l 2=c+Jq q t x l:=by
 show c+FQ (FW q l 0 t) x.b0 x.c0+FQ (FW q l 1 t) x.b1 x.c1=c+(FQ (FW q l 0 t) x.b0 x.c0+FQ (FW q l 1 t) x.b1 x.c1)
 omega
def both (b c:Bool) (v w:Int):Int:=bif b then (bif c then v else w) else w
theorem lT (x:Int) (b c:Bool) (a d:Ul):x+FQ (b,a) c d=both b c (x+tK d a) x:=by cases b<;>cases c<;>simp [FQ,both]
theorem Xy (r:Bool×Ul) (b:Bool) (c:Ul) (hr:r.2.Ok) (hc:c.Ok):0≤FQ r b c∧FQ r b c≤139:=by
 have:=Wq hc hr
 unfold FQ
 split
 ·split<;>omega
 ·omega
theorem a0x {n:Nat} {m:List (Jp×Way)} {d:Jp×Way} (hm:∀ e∈m,e.2.1.length=n) (hd:d.2.1.length=n):∀ e∈QJ m d,e.2.1.length=n:=fun e he=>by
 have key:∀ e∈Cm m d.1 d.2,e.2.1.length=n:=fun e he=>by
  rcases Om he with h|h|h
  ·rw [h];exact hd
  ·exact hm e h.1
  ·exact hm e h
 unfold QJ at he
 split at he
 ·exact key e he
 ·split at he
  ·exact key e he
  ·exact hm e he
structure b1g (q:Qu) (t:Nat) (e:Jp×Way):Prop where
 way:uZ q t e.2.1
 cost:0≤e.2.2∧e.2.2≤1000000000000
 c0:e.1.c0.Ok
 c1:e.1.c1.Ok
instance:Inhabited (Jp×Way):=⟨(st0,([],0))⟩
def QA (q:Qu) (t:Nat) (es:List (Jp×Way)) (V:List Nat):List (Jp×Way):=((V.map (gi es)).flatMap (yJ q t)).foldl QJ []
theorem Ot:Am.Enters Tryz.prog 41:=⟨_,Tryz.func41,by kernel_rfl,by kernel_rfl⟩
theorem qN (q:Qu) (hq:Jw q) (t:Nat) (ht:t<(BJ q.p).length) (hM:kQ q t≤12) (es:List (Jp×Way)) (hes:∀ e∈es,b1g q t e) :
 E5 env 39 [.p (.agg (Enc.enc q)),.p (.agg (Enc.enc (LV q t))),.mref 0] [(0,KC es)] 1 (fun r H' nx'=>∃ V:List Nat,V.Nodup∧(∀ i,i∈V↔i<es.length)∧r=.mref 1∧H'=[(1,KC (QA q t es V))]∧nx'=2):=by
 refine E5.enter Tryz.func39 rfl (by kernel_rfl) (by kernel_rfl) (by simp [Tryz.ntmps39]) ?_
 repeat' (first|((refine Bj.at 2 ?_;refine Hold.of ?_))|apply Bj.Ak|apply Bj.to|apply Ad.nil|apply Ad.one|(apply a6r)|(apply Aa.assign;rfl)|(apply Aa.box;rfl;trivial))
 all_goals try (exfalso;omega)
 refine Hold.go ?_
 refine Bj.dI (fun m:List (Jp×Way)=>[(3,.ref 1 0),(4,.ref 2 0),(7,.mref 3),(21,.mref 0)]) (fun m=>[(0,KC es),(1,Zg q),(2,xP (LV q t)),(3,KC m)]) (fun V m=>m=QA q t es V∧∀ e∈m,e.2.1.length=q.p.notes.length) [] (DC:=4) (b:=0) (ks:=(I8 es).map fun x=>.agg (Enc.enc x.1)) (cs:=(I8 es).map (·.2)) rfl rfl (by decide) rfl ⟨rfl,fun e h=>absurd h List.not_mem_nil⟩ ⟨by decide,?_,?_⟩ rfl (fun _=>⟨rfl,rfl,rfl⟩) (fun _ _ _=>rfl) (by simp) rfl (by kernel_rfl) (by kernel_rfl) (by decide) ?_ ?_
 ·exact EJ
 ·repeat (first|exact Ci.nil|(refine Ci.cons (Az rfl) ?_ rfl ?_ ?_;(first|exact CU _ _|exact C9 _ _|exact HB.AO rfl|exact CZ.Bz _ _|(simp [HB.under,CZ.under,PV.under]));(first|exact Jj.refl _|exact Jj.vec (IG.refl _) (by simp))))
 ·rintro V m i kk c ⟨hi,hml⟩ hnd hni hk hc
  subst hi
  have hil:i<es.length:=by
   have:=(List.getElem?_eq_some_iff.1 hk).1
   simpa [I8] using this
  have hm:=EI hil
  have hei:es[i]?=some (gi es i):=by unfold gi;rw [List.getElem?_eq_getElem hil];rfl
  have hE:=hes _ hm
  have ek:kk=.agg (Enc.enc (gi es i).1):=by
   unfold I8 at hk
   rw [List.getElem?_map,List.getElem?_map,hei] at hk
   simpa using hk.symm
  have ec:c=.p (Oj (gi es i).2):=by
   unfold I8 at hc
   rw [List.getElem?_map,List.getElem?_map,hei] at hc
   simpa using hc.symm
  subst ek;subst ec
  have hfold:QA q t es (V++[i])=(yJ q t (gi es i)).foldl QJ (QA q t es V):=by
   unfold QA
   rw [List.map_append,List.flatMap_append,List.foldl_append,List.map_singleton,List.flatMap_singleton]
  rw [hfold]
  clear hfold
  generalize QA q t es V=m0 at *
  generalize gi es i=e at *
  obtain ⟨⟨nw,c0,c1,b0,b1⟩,l,cc⟩:=e
  obtain ⟨h1,h2,h3,h4⟩:=hE
  simp only at h1 h2 h3 h4
  have hch:=Tm q hq t ht hM l h1
  have hwy:=fun y hy=>jU q hq ht h1 (x:=y) hy
  have hLl:=jE q t hM l
  unfold yJ
  simp only
  generalize dw q t l=L at *
  have hN:iW q (LV q t).notes:=OQ ht
  have hNl:(LV q t).notes.length≤1000:=Xj hq ht
  obtain ⟨G,hG⟩:∃ G:List Int→Jp×Way,G=fun y=>(Gw q t ⟨nw,c0,c1,b0,b1⟩ y,(y,cc+Jq q t ⟨nw,c0,c1,b0,b1⟩ y)):=⟨_,rfl⟩
  rw [← hG]
  repeat' (first|(refine Bj.at 5 ?_;apply Bj.N8)|(apply CG.fn;rfl;rfl;exact hch;exact Ot;intro _;rfl)|apply Bj.block|apply CG.nil|apply CG.one|(apply Aa.move;rfl)|(apply Aa.load;rfl;rfl)|(apply Aa.CX;rfl;rfl)|(apply Aa.Aw;rfl;rfl;rfl)|(apply Aa.alloc;rfl)|(apply Aa.Bd;rfl;rfl;rfl;trivial;rfl;rfl;exact Az rfl;exact le_dec rfl)|(apply Aa.extract;rfl;rfl))
  all_goals try (exfalso;omega)
  refine Bj.nU ?_
  apply Ac.G9 (L.length) (fun k=>∀ e∈((L.take k).map G).foldl QJ m0,e.2.1.length=q.p.notes.length) [(3,_),(4,_),(7,_),(8,_),(9,_),(21,_),(32,_),(33,_)] [(0,_),(1,_),(2,_),(4,_),(5,_)] (fun k r=>(34,.p (.int .i64 (k:Int)))::r) (fun k r=>(3,KC (((L.take k).map G).foldl QJ m0))::r) 6
  ·first|omega|decide
  ·first|omega|decide
  ·exact Rz
  ·repeat (first|exact Ci.nil|(refine Ci.eq rfl (Az rfl) ?_ ?_;(first|exact CU _ _|exact C9 _ _|exact HB.AO rfl|exact CZ.Bz _ _|(simp [HB.under,CZ.under,PV.under];done)))|(refine Ci.cons (Az rfl) ?_ rfl ?_ ?_;(first|exact CU _ _|exact C9 _ _|exact trivial|exact CZ.Bz _ _|(simp [HB.under,CZ.under,PV.under]));(first|exact Jj.refl _|exact Jj.vec (IG.refl _) (by simp))))
  ·first|(intro _ _;omega)|omega|trivial
  ·intro k hk hi
   obtain ⟨y1,y2⟩:=hwy _ (EI hk)
   have e1:((L.take (k+1)).map G).foldl QJ m0=QJ (((L.take k).map G).foldl QJ m0) (G (gi L k)):=by
    rw [Ej hk,List.map_append,List.foldl_append];rfl
   rw [e1]
   clear e1
   generalize ((L.take k).map G).foldl QJ m0=m at *
   have n1:=hq.p.notes
   have a2x:=lZ q (LV q t) hN hNl (gi L k) y1 y2
   have hh0:=Ph q hq (LV q t) hN hNl (gi L k) 0 y1
   have hh1:=Ph q hq (LV q t) hN hNl (gi L k) 1 y1
   have a0:=Xf hq hN (gi L k) 0 _ (Nat.le_refl _)
   have a1:=Xf hq hN (gi L k) 1 _ (Nat.le_refl _)
   have hr0:Tv q.p (LV q t).notes (gi L k) 0 (LV q t).notes.length=FW q (gi L k) 0 t:=rfl
   have hr1:Tv q.p (LV q t).notes (gi L k) 1 (LV q t).notes.length=FW q (gi L k) 1 t:=rfl
   have es0:a5c q t ⟨nw,c0,c1,b0,b1⟩ (gi L k) (0+1)=⟨NW (Hy q t) (gi L k),if (FW q (gi L k) 0 t).1=true then (FW q (gi L k) 0 t).2 else c0,c1,(FW q (gi L k) 0 t).1||b0,b1⟩:=rfl
   have es1:a5c q t ⟨nw,c0,c1,b0,b1⟩ (gi L k) (1+1)=⟨NW (Hy q t) (gi L k),if (FW q (gi L k) 0 t).1=true then (FW q (gi L k) 0 t).2 else c0,if (FW q (gi L k) 1 t).1=true then (FW q (gi L k) 1 t).2 else c1,(FW q (gi L k) 0 t).1||b0,(FW q (gi L k) 1 t).1||b1⟩:=rfl
   have ec0:wU q t ⟨nw,c0,c1,b0,b1⟩ cc (gi L k) (0+1)=cc+FQ (FW q (gi L k) 0 t) b0 c0:=rfl
   have ec1:wU q t ⟨nw,c0,c1,b0,b1⟩ cc (gi L k) (1+1)=cc+FQ (FW q (gi L k) 0 t) b0 c0+FQ (FW q (gi L k) 1 t) b1 c1:=rfl
   rw [hr0] at hh0 a0
   rw [hr1] at hh1 a1
   repeat' (first|(refine Af.atIdx 4 ?_;apply Af.weak [.tmp 39];decide +kernel;rfl;rfl;(first|exact Xw.ref rfl|exact Xw.vec rfl|exact Xw.Fq rfl);decide +kernel;rfl)|apply Ac.assoc|apply Ac.Ak|apply Ac.Dq|apply Ac.Ai|apply Ac.Ag|apply Ad.nil|apply Af.nil|apply Ad.one|(apply Af.bar;decide +kernel)|apply Af.quiet|(apply Aa.fn;rfl;rfl;exact a2x;intro _;rfl)|(apply Aa.assign;rfl)|(apply Aa.move;rfl)|(apply Aa.int;rfl;rfl;rfl)|(apply Aa.AP;rfl;rfl;rfl;omega;rfl)|(apply Aa.load;rfl;rfl)|(apply Aa.Aw;rfl;rfl;rfl)|(apply Aa.alloc;rfl)|(apply Aa.Bd;rfl;rfl;rfl;trivial;rfl;rfl;exact Az rfl;exact le_dec rfl)|(apply Ac.Ae;rfl)|(intro _;try (exfalso;omega)))
   all_goals try (exfalso;omega)
   apply Ac.Kt (2) [(3,_),(4,_),(7,_),(8,_),(9,_),(11,_),(12,_),(21,_),(32,_),(33,_),(34,_)] [(0,_),(1,_),(2,_),(3,_),(4,_),(5,_)] (fun k_ r=>(46,.p (.int .i64 (k_:Int)))::(13,.p (.int .i64 (wU q t ⟨nw,c0,c1,b0,b1⟩ cc (gi L k) k_)))::r) (fun k_ r=>(6,.box 124 ((Enc.enc (a5c q t ⟨nw,c0,c1,b0,b1⟩ (gi L k) k_)).map .p))::r) 7
   ·first|omega|decide
   ·first|omega|decide
   ·exact Rz
   ·repeat (first|exact Ci.nil|(refine Ci.eq rfl (Az rfl) ?_ ?_;(first|exact CU _ _|exact C9 _ _|exact HB.AO rfl|exact CZ.Bz _ _|(simp [HB.under,CZ.under,PV.under];done)))|(refine Ci.cons (Az rfl) ?_ rfl ?_ ?_;(first|exact CU _ _|exact C9 _ _|exact trivial|exact CZ.Bz _ _|(simp [HB.under,CZ.under,PV.under]));(first|exact Jj.refl _|exact Jj.vec (IG.refl _) (by simp))))
   ·intro k_ hk_
    obtain rfl|rfl:k_=0∨k_=1:=by omega
    ·generalize FW q (gi L k) 0 t=r0 at *
     obtain ⟨b,a⟩:=r0
     have a0:a.Ok:=a0
     have hm0:=ZP c0 a h3 a0
     have hmr:=Wq h3 a0
     have hk0:wU q t ⟨nw,c0,c1,b0,b1⟩ cc (gi L k) 0=cc:=rfl
     have ei:cc+FQ (b,a) b0 c0=both b b0 (cc+tK c0 a) cc:=lT cc b b0 a c0
     rw [ec0,es0,ei]
     cases b<;>cases b0
     all_goals
      repeat' (first|apply Ac.assoc|apply Ac.Ak|apply Ac.Dq|apply Ac.region|apply Ac.Ai|apply Ac.Bl|apply Ac.Ag|apply Au.normal|apply Ap.normal|apply Ap.exit|apply Ad.nil|apply Af.nil|apply Ad.one|(apply Af.bar;decide +kernel)|apply Af.quiet|(apply Aa.fn;rfl;rfl;exact hh0;intro _;rfl)|(apply Aa.fn;rfl;rfl;exact hm0;intro _;rfl)|(apply Aa.uz;rfl;rfl;rfl;rfl;rfl;decide)|(apply Aa.assign;rfl)|(apply Aa.move;rfl)|(apply Aa.BU;rfl;rfl;omega)|(apply Aa.int;rfl;rfl;rfl)|(apply Aa.load;rfl;rfl)|(apply Aa.Aw;rfl;rfl;rfl)|(apply Aa.alloc;rfl)|(apply Aa.Bd;rfl;rfl;rfl;trivial;rfl;rfl;exact Az rfl;exact le_dec rfl)|(apply Aa.not;rfl)|(apply Aa.extract;rfl;rfl)|(apply Ac.Bf;rfl)|(apply Ac.Aq;rfl))
     all_goals try (exfalso;omega)
     all_goals try contradiction
     all_goals
      refine Ah.normal ⟨by first|omega|decide,?_,?_⟩
      ·exact EJ
      ·repeat (first|exact Ci.nil|(refine Ci.cons (Az rfl) ?_ rfl ?_ ?_;(first|exact CU _ _|exact C9 _ _|exact HB.AO rfl|exact CZ.Bz _ _|(simp [HB.under,CZ.under,PV.under]));(first|exact Jj.refl _|exact Jj.vec (IG.refl _) (by simp))))
    ·generalize FW q (gi L k) 1 t=r1 at *
     obtain ⟨b,a⟩:=r1
     have a1:a.Ok:=a1
     have hm0:=ZP c1 a h4 a1
     have hmr:=Wq h4 a1
     have hk2:wU q t ⟨nw,c0,c1,b0,b1⟩ cc (gi L k) 1=cc+FQ (FW q (gi L k) 0 t) b0 c0:=ec0
     have hin:0≤FQ (FW q (gi L k) 0 t) b0 c0∧FQ (FW q (gi L k) 0 t) b0 c0≤139:=Xy _ _ _ a0 h3
     have es2:=es0
     simp only [Nat.zero_add] at es2
     generalize FW q (gi L k) 0 t=r0 at *
     rw [ec1,es1,hk2,es2]
     generalize FQ r0 b0 c0=i0 at *
     have ei:cc+i0+FQ (b,a) b1 c1=both b b1 (cc+i0+tK c1 a) (cc+i0):=lT (cc+i0) b b1 a c1
     rw [ei]
     generalize (if r0.1=true then r0.2 else c0)=c0' at *
     generalize (r0.1||b0)=b0' at *
     cases b<;>cases b1
     all_goals
      repeat' (first|apply Ac.assoc|apply Ac.Ak|apply Ac.Dq|apply Ac.region|apply Ac.Ai|apply Ac.Bl|apply Ac.Ag|apply Au.normal|apply Ap.normal|apply Ap.exit|apply Ad.nil|apply Af.nil|apply Ad.one|(apply Af.bar;decide +kernel)|apply Af.quiet|(apply Aa.fn;rfl;rfl;exact hh1;intro _;rfl)|(apply Aa.fn;rfl;rfl;exact hm0;intro _;rfl)|(apply Aa.uz;rfl;rfl;rfl;rfl;rfl;decide)|(apply Aa.assign;rfl)|(apply Aa.move;rfl)|(apply Aa.BU;rfl;rfl;omega)|(apply Aa.int;rfl;rfl;rfl)|(apply Aa.load;rfl;rfl)|(apply Aa.Aw;rfl;rfl;rfl)|(apply Aa.alloc;rfl)|(apply Aa.Bd;rfl;rfl;rfl;trivial;rfl;rfl;exact Az rfl;exact le_dec rfl)|(apply Aa.not;rfl)|(apply Aa.extract;rfl;rfl)|(apply Ac.Bf;rfl)|(apply Ac.Aq;rfl))
     all_goals try (exfalso;omega)
     all_goals try contradiction
     all_goals
      refine Ah.normal ⟨by first|omega|decide,?_,?_⟩
      ·exact EJ
      ·repeat (first|exact Ci.nil|(refine Ci.cons (Az rfl) ?_ rfl ?_ ?_;(first|exact CU _ _|exact C9 _ _|exact HB.AO rfl|exact CZ.Bz _ _|(simp [HB.under,CZ.under,PV.under]));(first|exact Jj.refl _|exact Jj.vec (IG.refl _) (by simp))))
   ·have e2:a5c q t ⟨nw,c0,c1,b0,b1⟩ (gi L k) 2=Gw q t ⟨nw,c0,c1,b0,b1⟩ (gi L k):=rfl
    have hi0:=Xy (FW q (gi L k) 0 t) b0 c0 a0 h3
    have hi1:=Xy (FW q (gi L k) 1 t) b1 c1 a1 h4
    have hiq:Jq q t ⟨nw,c0,c1,b0,b1⟩ (gi L k)=FQ (FW q (gi L k) 0 t) b0 c0+FQ (FW q (gi L k) 1 t) b1 c1:=rfl
    have hGk:G (gi L k)=(Gw q t ⟨nw,c0,c1,b0,b1⟩ (gi L k),(gi L k,cc+Jq q t ⟨nw,c0,c1,b0,b1⟩ (gi L k))):=by rw [hG]
    rw [hGk,yA,e2]
    have hnl:=a0x (d:=(Gw q t ⟨nw,c0,c1,b0,b1⟩ (gi L k),(gi L k,cc+Jq q t ⟨nw,c0,c1,b0,b1⟩ (gi L k)))) hi y1
    have hcb:0≤cc+Jq q t ⟨nw,c0,c1,b0,b1⟩ (gi L k)∧cc+Jq q t ⟨nw,c0,c1,b0,b1⟩ (gi L k)≤1000000000278:=by rw [hiq];omega
    generalize cc+Jq q t ⟨nw,c0,c1,b0,b1⟩ (gi L k)=c' at *
    generalize Gw q t ⟨nw,c0,c1,b0,b1⟩ (gi L k)=sq at *
    have ei:QJ m (sq,(gi L k,c'))=match Cb m sq with|none=>Cm m sq (gi L k,c')|some o=>if vH (gi L k,c') o=true then Cm m sq (gi L k,c') else m:=rfl
    cases hl:Cb m sq with
    |none =>
     rw [hl] at ei
     simp only at ei
     rw [ei] at hnl ⊢
     repeat' (first|apply Ac.Ak|apply Ac.region|apply Ac.Bl|apply Au.normal|apply Ap.normal|apply Ap.exit|apply Ah.exit|apply Ad.nil|apply Ad.one|(apply Ad.drop;rfl;rfl;rfl)|(apply Ad.Sz;rfl;rfl)|(apply a7p (m:=m) (y:=sq) hl;rfl;rfl;rfl;rfl)|(apply b2v (m:=m) (y:=sq) (gi L k,c');rfl;rfl;rfl;rfl;rfl)|(apply Aa.assign;rfl)|(apply Aa.move;rfl)|(apply Aa.BU;rfl;rfl;omega)|(apply Aa.int;rfl;rfl;rfl)|(apply Aa.load;rfl;rfl)|(apply Aa.Bc;rfl;rfl)|(apply Aa.alloc;rfl)|(apply Aa.Bd;rfl;rfl;rfl;trivial;rfl;rfl;exact Az rfl;exact le_dec rfl)|(apply Aa.build;rfl;rfl;rfl;rfl;rfl)|(apply Aa.not;rfl)|(apply Aa.extract;rfl;rfl)|(apply Ac.Aq;rfl)|(apply Ac.cond_true;rfl))
     all_goals try (exfalso;omega)
     all_goals try contradiction
     refine Ah.normal ⟨hnl,by first|omega|decide,?_,?_⟩
     ·exact EJ
     ·repeat (first|exact Ci.nil|(refine Ci.cons (Az rfl) ?_ rfl ?_ ?_;(first|exact CU _ _|exact C9 _ _|exact HB.AO rfl|exact CZ.Bz _ _|(simp [HB.under,CZ.under,PV.under]));(first|exact Jj.refl _|exact Jj.vec (IG.refl _) (by simp))))
    |some o =>
     obtain ⟨ol,oc⟩:=o
     have hol:ol.length=q.p.notes.length:=hi _ (JR hl)
     have hcmp:=Qk (gi L k) ol (by omega) (by omega)
     rw [hl] at ei
     simp only at ei
     have hb:vH (gi L k,c') (ol,oc)=(decide (c'<oc)||(decide (c'=oc)&&decide (cmpL (gi L k) ol<0))):=rfl
     rw [hb] at ei
     generalize cmpL (gi L k) ol=cm at *
     by_cases g1:c'<oc
     all_goals by_cases g2:c'=oc
     all_goals by_cases g3:cm<0
     all_goals first|rw [decide_eq_true g1] at ei|rw [decide_eq_false g1] at ei
     all_goals first|rw [decide_eq_true g2] at ei|rw [decide_eq_false g2] at ei
     all_goals first|rw [decide_eq_true g3] at ei|rw [decide_eq_false g3] at ei
     all_goals simp only [Bool.true_or,Bool.false_or,Bool.true_and,Bool.false_and,Bool.false_eq_true,if_true,if_false] at ei
     all_goals rw [ei] at hnl ⊢
     all_goals
      repeat' (first|apply Ac.Ak|apply Ac.region|apply Ac.Bl|apply Au.normal|apply Ap.normal|apply Ap.exit|apply Ah.exit|apply Ac.skip|apply Ad.nil|apply Ad.one|(apply Ad.take;rfl;rfl)|(apply Ad.drop;rfl;rfl;rfl)|(apply Ad.guard;rfl;rfl)|(apply Ad.Sz;rfl;rfl)|(apply a9e (m:=m) (y:=sq) hl;rfl;rfl;rfl;rfl)|(apply Aa.fn;rfl;rfl;exact hcmp;intro _;rfl)|(apply b2v (m:=m) (y:=sq) (gi L k,c');rfl;rfl;rfl;rfl;rfl)|(apply Aa.assign;rfl)|(apply Aa.move;rfl)|(apply Aa.BU;rfl;rfl;omega)|(apply Aa.int;rfl;rfl;rfl)|(apply Aa.load;rfl;rfl)|(apply Aa.Bc;rfl;rfl)|(apply Aa.AL;rfl;rfl)|(apply Aa.Aw;rfl;rfl;rfl)|(apply Aa.alloc;rfl)|(apply Aa.Bd;rfl;rfl;rfl;trivial;rfl;rfl;exact Az rfl;exact le_dec rfl)|(apply Aa.build;rfl;rfl;rfl;rfl;rfl)|(apply Aa.not;rfl)|(apply Aa.extract;rfl;rfl)|(apply Ac.Aq;rfl)|(apply Ac.cond_true;rfl)|(apply Ac.cond_false;rfl)|(apply Ac.AZ;rfl)|(intro _;try (exfalso;omega)))
     all_goals try (exfalso;omega)
     all_goals try contradiction
     all_goals
      refine Ah.normal ⟨hnl,by first|omega|decide,?_,?_⟩
      ·exact EJ
      ·repeat (first|exact Ci.nil|(refine Ci.cons (Az rfl) ?_ rfl ?_ ?_;(first|exact CU _ _|exact C9 _ _|exact HB.AO rfl|exact CZ.Bz _ _|(simp [HB.under,CZ.under,PV.under]));(first|exact Jj.refl _|exact Jj.vec (IG.refl _) (by simp))))
  ·intro hi
   rw [List.take_length] at hi ⊢
   repeat' (first|apply Ac.Ak|apply Ac.Bl|apply Ap.normal|apply Ap.exit|apply Ah.exit|apply Ad.nil|apply Ad.one|(apply Aa.int;rfl;rfl;rfl)|(apply Ac.Ae;rfl)|(intro _;try (exfalso;omega)))
   all_goals try (exfalso;omega)
   refine Ah.normal ⟨_,⟨rfl,hi⟩,⟨by decide,?_,?_⟩⟩
   ·exact EJ
   ·repeat (first|exact Ci.nil|(refine Ci.cons (Az rfl) ?_ rfl ?_ ?_;(first|exact CU _ _|exact C9 _ _|exact HB.AO rfl|exact CZ.Bz _ _|(simp [HB.under,CZ.under,PV.under]));(first|exact Jj.refl _|exact Jj.vec (IG.refl _) (by simp))))
 ·rintro V m ⟨hi,_⟩ hnd h1 h2
  subst hi
  refine Ey.normal ?_
  refine Bj.swap 1 3 (by decide) (by decide) (by decide) (by decide) ?_
  have e:xI (swp 1 3) [(0,KC es),(1,Zg q),(2,xP (LV q t)),(3,KC (QA q t es V))]=[(0,KC es),(3,(Zg q).rn (swp 1 3)),(2,(xP (LV q t)).rn (swp 1 3)),(1,KC (QA q t es V))]:=by
   simp only [xI,Wj];rfl
  rw [e]
  repeat' (first|apply Bj.Ak|apply Bj.ret|apply Ad.nil|apply Ad.one|(apply Aa.assign;rfl)|(apply Aa.move;rfl))
  have hc:I8 es=es.map fun e=>(e.1,PV.p (Oj e.2)):=rfl
  simp only [List.length_map,hc] at h1 h2
  refine Done.ret rfl (.refl _) (Az rfl) ?_ (by decide) (by decide) ⟨V,hnd,fun i=>⟨h2 i,h1 i⟩,rfl,rfl,rfl⟩
  repeat (first|exact Ci.nil|(refine Ci.cons (Az rfl) ?_ rfl ?_ ?_;(first|exact CU _ _|exact C9 _ _|exact HB.AO rfl|exact CZ.Bz _ _|(simp [HB.under,CZ.under,PV.under]));(first|exact Jj.refl _|exact Jj.vec (IG.refl _) (by simp))))
end
section
open Go Go.Am Go.Vm Go.Pie Go.Sch
attribute [local irreducible] CV Bq Eh DY Ez BH CW
def Rf (L:List Pos):Int:=sD L (L.length-1)
theorem iU (L:List Pos) (p:Pos):∀ k,k<L.length→sD (L++[p]) k=sD L k
 |0,_=>rfl
 |k+1,h=>by
  unfold sD
  rw [iU L p k (by omega),RX (by omega),RX (by omega)]
def Xu (L:List Pos) (p:Pos):Int:=match L.getLast? with|none=>0|some x=>if p.h=x.h then tK x.c p.c else 0
theorem TU (L:List Pos) (p:Pos):Rf (L++[p])=Rf L+Xu L p:=by
 unfold Rf Xu
 rcases Nat.eq_zero_or_pos L.length with h|h
 ·obtain rfl:=List.length_eq_zero_iff.1 h
  rfl
 ·obtain ⟨m,hm⟩:∃ m,L.length=m+1:=⟨L.length-1,by omega⟩
  have e1:(L++[p]).length-1=m+1:=by rw [List.length_append,hm];rfl
  have e2:L.getLast?=some (gi L m):=by
   rw [List.getLast?_eq_getElem?,hm,Nat.add_sub_cancel,List.getElem?_eq_getElem (by omega)]
   unfold gi
   rw [List.getElem?_eq_getElem (by omega)];rfl
  have e3:gi (L++[p]) (m+1)=p:=by rw [← hm];exact X4
  rw [e1,e2,hm,Nat.add_sub_cancel]
  have e4:sD (L++[p]) (m+1)=if (gi (L++[p]) (m+1)).h=(gi (L++[p]) m).h then sD (L++[p]) m+tK (gi (L++[p]) m).c (gi (L++[p]) (m+1)).c else sD (L++[p]) m:=rfl
  rw [e4,iU L p m (by omega),e3,RX (by omega)]
  show (if p.h=(gi L m).h then sD L m+tK (gi L m).c p.c else sD L m)=sD L m+if p.h=(gi L m).h then tK (gi L m).c p.c else 0
  split
  ·rfl
  ·rw [Int.add_zero]
theorem dH (q:Qu) (l:List Int) (h:Int):∀ k,∀ x∈H6 q l h k,x.h=h
 |0,x,hx=>absurd hx List.not_mem_nil
 |k+1,x,hx=>by
  unfold H6 at hx
  split at hx
  ·rcases List.mem_append.1 hx with hx|hx
   ·exact dH q l h k x hx
   ·rw [List.mem_singleton] at hx;subst hx;rfl
  ·exact dH q l h k x hx
theorem getLast_mem {α:Type} {L:List α} {x:α} (h:L.getLast?=some x):x∈L:=List.mem_of_getLast? h
theorem lV (q:Qu) (l:List Int) (A:List Pos) (hA:∀ x∈A,x.h=0):∀ k,Rf (A++H6 q l 1 k)=Rf A+Rf (H6 q l 1 k)
 |0=>by
  show Rf (A++[])=Rf A+Rf []
  rw [List.append_nil]
  show Rf A=Rf A+0
  omega
 |k+1=>by
  have ih:=lV q l A hA k
  unfold H6
  split
  ·rw [← List.append_assoc,TU,TU,ih]
   have:Xu (A++H6 q l 1 k) ⟨1,k,(FW q l 1 k).2⟩=Xu (H6 q l 1 k) ⟨1,k,(FW q l 1 k).2⟩:=by
    unfold Xu
    rw [List.getLast?_append]
    cases h:(H6 q l 1 k).getLast? with
    |some x=>rfl
    |none =>
     simp only [Option.none_or]
     cases h2:A.getLast? with
     |none=>rfl
     |some x =>
      simp only
      rw [if_neg]
      have:=hA x (getLast_mem h2)
      omega
   rw [this];omega
  ·exact ih
def U0 (L:List Pos) (b:Bool) (c:Ul):Prop:=match L.getLast? with|none=>b=false|some x=>b=true∧c=x.c
theorem pX {L:List Pos} {b:Bool} {c:Ul} (p:Pos):U0 (L++[p]) true p.c:=by
 unfold U0
 rw [List.getLast?_append]
 exact ⟨rfl,rfl⟩
theorem uS {q:Qu} {l:List Int} {h:Int} {k:Nat} {b:Bool} {c:Ul} (hp:U0 (H6 q l h k) b c) (r:Bool×Ul) (hr:r.1=true) (i:Int):Xu (H6 q l h k) ⟨h,i,r.2⟩=FQ r b c:=by
 unfold U0 at hp
 unfold Xu FQ
 rw [if_pos hr]
 cases h1:(H6 q l h k).getLast? with
 |none =>
  rw [h1] at hp
  simp only at hp ⊢
  rw [hp];rfl
 |some x =>
  rw [h1] at hp
  simp only at hp ⊢
  obtain ⟨hb,hc⟩:=hp
  rw [hb,if_pos rfl,if_pos (dH q l h k x (getLast_mem h1)).symm,hc]
theorem ZF (q:Qu) (l:List Int):∀ t,U0 (H6 q l 0 t) (Jb st0 (Gw q) l t).b0 (Jb st0 (Gw q) l t).c0∧U0 (H6 q l 1 t) (Jb st0 (Gw q) l t).b1 (Jb st0 (Gw q) l t).c1∧cF st0 (Gw q) (Jq q) l t=Rf (H6 q l 0 t)+Rf (H6 q l 1 t)
 |0=>⟨rfl,rfl,rfl⟩
 |t+1=>by
  obtain ⟨h0,h1,h2⟩:=ZF q l t
  have e0:Jb st0 (Gw q) l (t+1)=Gw q t (Jb st0 (Gw q) l t) l:=rfl
  have e1:cF st0 (Gw q) (Jq q) l (t+1)=cF st0 (Gw q) (Jq q) l t+Jq q t (Jb st0 (Gw q) l t) l:=rfl
  rw [e0,e1,h2]
  generalize Jb st0 (Gw q) l t=x at *
  obtain ⟨nw,c0,c1,b0,b1⟩:=x
  simp only at h0 h1
  have key:∀ (h:Int) (b:Bool) (c:Ul),U0 (H6 q l h t) b c→U0 (H6 q l h (t+1)) ((FW q l h t).1||b) (if (FW q l h t).1=true then (FW q l h t).2 else c)∧Rf (H6 q l h (t+1))=Rf (H6 q l h t)+FQ (FW q l h t) b c:=fun h b c hp=>by
   have hi:=uS hp (FW q l h t)
   have e2:H6 q l h (t+1)=if (FW q l h t).1=true then H6 q l h t++[⟨h,t,(FW q l h t).2⟩] else H6 q l h t:=rfl
   rw [e2]
   by_cases hr:(FW q l h t).1=true
   ·rw [if_pos hr,if_pos hr,TU,hi hr,hr]
    exact ⟨pX (b:=b) (c:=c) ⟨h,t,(FW q l h t).2⟩,rfl⟩
   ·rw [if_neg hr,if_neg hr]
    have hf:(FW q l h t).1=false:=by simpa using hr
    rw [hf]
    refine ⟨by simpa using hp,?_⟩
    unfold FQ
    rw [if_neg hr];omega
  obtain ⟨k0,k1⟩:=key 0 b0 c0 h0
  obtain ⟨k2,k3⟩:=key 1 b1 c1 h1
  refine ⟨k0,k2,?_⟩
  rw [k1,k3]
  unfold Jq
  simp only
  omega
theorem Y4 (q:Qu) (l:List Int):cF st0 (Gw q) (Jq q) l (BJ q.p).length=KH q l:=by
 rw [(ZF q l _).2.2]
 exact (lV q l _ (dH q l 0 _) _).symm
theorem o7 (q:Qu) (hq:Jw q) (l:List Int):∀ t,t≤(BJ q.p).length→(Jb st0 (Gw q) l t).c0.Ok∧(Jb st0 (Gw q) l t).c1.Ok∧0≤cF st0 (Gw q) (Jq q) l t∧cF st0 (Gw q) (Jq q) l t≤278*t
 |0,_=>⟨⟨Int.le_refl _,by show (0:Int)≤127;omega⟩,⟨Int.le_refl _,by show (0:Int)≤127;omega⟩,Int.le_refl _,Int.le_refl _⟩
 |t+1,ht=>by
  obtain ⟨h0,h1,h2,h3⟩:=o7 q hq l t (by omega)
  have a0:=Xf hq (OQ (q:=q) (i:=t) (by omega)) l 0 _ (Nat.le_refl _)
  have a1:=Xf hq (OQ (q:=q) (i:=t) (by omega)) l 1 _ (Nat.le_refl _)
  have e0:Jb st0 (Gw q) l (t+1)=Gw q t (Jb st0 (Gw q) l t) l:=rfl
  have e1:cF st0 (Gw q) (Jq q) l (t+1)=cF st0 (Gw q) (Jq q) l t+Jq q t (Jb st0 (Gw q) l t) l:=rfl
  rw [e0,e1]
  generalize Jb st0 (Gw q) l t=x at *
  have key:∀ (r:Bool×Ul) (b:Bool) (c:Ul),r.2.Ok→c.Ok→0≤FQ r b c∧FQ r b c≤139:=fun r b c hr hc=>by
   have:=Wq hc hr
   unfold FQ
   split
   ·split<;>omega
   ·omega
  have k0:=key (FW q l 0 t) x.b0 x.c0 a0 h0
  have k1:=key (FW q l 1 t) x.b1 x.c1 a1 h1
  refine ⟨?_,?_,?_,?_⟩
  ·show Ul.Ok (if (FW q l 0 t).1=true then (FW q l 0 t).2 else x.c0)
   split
   ·exact a0
   ·exact h0
  ·show Ul.Ok (if (FW q l 1 t).1=true then (FW q l 1 t).2 else x.c1)
   split
   ·exact a1
   ·exact h1
  ·show 0≤_+(FQ (FW q l 0 t) x.b0 x.c0+FQ (FW q l 1 t) x.b1 x.c1)
   omega
  ·show _+(FQ (FW q l 0 t) x.b0 x.c0+FQ (FW q l 1 t) x.b1 x.c1)≤278*((t+1:Nat):Int)
   omega
theorem XQ {q:Qu} (hM:∀ t,t<(BJ q.p).length→kQ q t≤12):jT q=false:=by
 unfold jT Ef
 rw [SK (fun i hi=>decide_eq_false (by have:=hM i hi;unfold kQ at this;omega)) _ (Nat.le_refl _)]
 rfl
end
section
open Go Go.Am Go.Vm Go.Pie Go.Sch
attribute [local irreducible] Aa Ad Af Ac Ba AB BG Au Ap Ah Vm.Done BQ AY Qr Bj CG Ey IJ E5 Hold
attribute [local irreducible] CV Bq Eh DY Ez BH CW
def IsB (q:Qu) (l:List Int):Prop:=l∈Ic q (BJ q.p).length∧∀ h∈Ic q (BJ q.p).length,aZ (l,KH q l) (h,KH q h)
theorem zV {q:Qu} {a b:List Int} (ha:IsB q a) (hb:IsB q b):a=b:=congrArg Prod.fst (y8 (ha.2 b hb.1) (hb.2 a ha.1))
noncomputable def V7 (q:Qu):Option (List Int):=open Classical in if h:∃ l,IsB q l then some (Classical.choose h) else none
theorem TB {q:Qu} {l:List Int} (h:IsB q l):V7 q=some l:=by
 unfold V7
 rw [dif_pos ⟨l,h⟩]
 exact congrArg some (zV (Classical.choose_spec (p:=IsB q) ⟨l,h⟩) h)
theorem a5i {q:Qu} {l:List Int} (h:V7 q=some l):IsB q l:=by
 unfold V7 at h
 split at h
 ·rename_i h1
  cases h
  exact Classical.choose_spec h1
 ·cases h
theorem ZJ {q:Qu} (h:Ic q (BJ q.p).length=[]):V7 q=none:=by
 cases h1:V7 q with
 |none=>rfl
 |some l =>
  have:=(a5i h1).1
  rw [h] at this
  cases this
def aC (q:Qu) (t:Nat) (m:List (Jp×Way)):Prop:=jv (Lp q) (fQ q) (kQ q) (UY q) (LH q) st0 (Gw q) (Jq q) t m
theorem nJ {es:List (Jp×Way)} {V:List Nat} (h:∀ i,i∈V↔i<es.length) (d:Jp×Way):d∈V.map (gi es)↔d∈es:=by
 rw [List.mem_map]
 constructor
 ·rintro ⟨i,h1,rfl⟩
  exact EI ((h i).1 h1)
 ·intro hd
  obtain ⟨i,h1,h2⟩:=KI hd
  exact ⟨i,(h i).2 h1,h2⟩
theorem ou (q:Qu) (hq:Jw q) {t:Nat} (ht:t<(BJ q.p).length) {m:List (Jp×Way)} (hm:aC q t m) {V:List Nat} (hV:∀ i,i∈V↔i<m.length):aC q (t+1) (QA q t m V) :=
 jv.step (Vl q hq) (a4x q) (Sm q) (a6p q) ht hm (nJ hV)
theorem wu (q:Qu) (hq:Jw q) {t:Nat} (ht:t<(BJ q.p).length) {m:List (Jp×Way)} (hm:aC q t m):∀ e∈m,b1g q t e:=fun e he=>by
 obtain ⟨g1,g2,g3⟩:=hm.sub e he
 obtain ⟨k1,k2,k3,k4⟩:=o7 q hq e.2.1 t (by omega)
 have hT:=PI q.p
 have hn:=hq.p.notes
 refine ⟨kH q hq ht ((OT q hq (by omega) _).1 g1),?_,by rw [g2];exact k1,by rw [g2];exact k2⟩
 rw [g3]
 omega
theorem uU (q:Qu) (hq:Jw q) {m:List (Jp×Way)} (hm:aC q (BJ q.p).length m):∀ e∈m,e.2.1.length=q.p.notes.length∧0≤e.2.2∧e.2.2≤1000000000000:=fun e he=>by
 obtain ⟨g1,g2,g3⟩:=hm.sub e he
 obtain ⟨k1,k2,k3,k4⟩:=o7 q hq e.2.1 (BJ q.p).length (Nat.le_refl _)
 have hT:=PI q.p
 have hn:=hq.p.notes
 refine ⟨ZA.len ((OT q hq (Nat.le_refl _) _).1 g1),?_⟩
 rw [g3]
 omega
def Qp (es:List (Jp×Way)) (V:List Nat):Option Way:=(V.map fun i=>(gi es i).2).foldl Vh none
theorem wP (q:Qu) {es:List (Jp×Way)} (hm:aC q (BJ q.p).length es) {V:List Nat} (hV:∀ i,i∈V↔i<es.length):Qp es V=(V7 q).map fun l=>(l,KH q l):=by
 have hmem:∀ w,w∈(V.map fun i=>(gi es i).2)↔∃ e∈es,e.2=w:=fun w=>by
  rw [List.mem_map]
  constructor
  ·rintro ⟨i,h1,rfl⟩
   exact ⟨_,EI ((hV i).1 h1),rfl⟩
  ·rintro ⟨e,h1,rfl⟩
   obtain ⟨i,h2,rfl⟩:=KI h1
   exact ⟨i,(hV i).2 h2,rfl⟩
 have hw:∀ e∈es,e.2.2=KH q e.2.1:=fun e he=>by rw [(hm.sub e he).2.2];exact Y4 q _
 unfold Qp
 rcases TJ (V.map fun i=>(gi es i).2) none with ⟨_,h1,h2⟩|⟨w,h1,h2,h3,_⟩
 ·rw [h2]
  have:Ic q (BJ q.p).length=[]:=by
   cases h:Ic q (BJ q.p).length with
   |nil=>rfl
   |cons a l =>
    obtain ⟨o,ho,_⟩:=hm.best a (by show a∈Ic q _;rw [h];simp)
    have:=(hmem o).2 ⟨_,ho,rfl⟩
    rw [h1] at this
    cases this
  rw [ZJ this];rfl
 ·rw [h1]
  rcases h2 with h2|h2
  ·obtain ⟨e,he,rfl⟩:=(hmem w).1 h2
   have hc:=hw e he
   have hB:IsB q e.2.1:=by
    refine ⟨(hm.sub e he).1,fun h hh=>?_⟩
    obtain ⟨o,ho,hle⟩:=hm.best h hh
    have e1:=Y4 q h
    rw [e1] at hle
    rw [← hc]
    exact JO (h3 o ((hmem o).2 ⟨_,ho,rfl⟩)) hle
   rw [TB hB]
   show some e.2=some (e.2.1,KH q e.2.1)
   rw [← hc]
  ·cases h2
def b1z:Option Way→PV
 |none=>.p (.val (.pointer none))
 |some w=>.p (.EL [.lst 3 (cells w.1) w.1.length,.int .i64 w.2])
def a9s:HB:=.box 41 [.p (.val (.slice none 0 0)),.p (.int .i64 0)]
noncomputable def XV (q:Qu):PV:=match V7 q with
 |none=>.Ee [.p (.agg [.val (.slice none 0 0),.int .i64 0]),.p (.int .i64 24)]
 |some l=>.Ee [.p (.agg [.lst 3 (cells l) l.length,.int .i64 (KH q l)]),.p (.int .i64 0)]
theorem fK:Am.Enters Tryz.prog 39:=⟨_,Tryz.func39,by kernel_rfl,by kernel_rfl⟩
theorem vN (q:Qu) (hq:Jw q) (hM:∀ t,t<(BJ q.p).length→kQ q t≤12):IJ env 11 [.agg (Enc.enc q)] (XV q):=by
 have hc:=Jl q hq.o.sm hq.p.sm
 rw [Xt hq] at hc
 have hcr:=JM q hq
 rw [XQ hM] at hcr
 have hbg:=YN q hq
 have hsl:=JH q hq
 have hSl:=PI q.p
 have hn:=hq.p.notes
 refine IJ.enter Tryz.func11 rfl (by kernel_rfl) (by kernel_rfl) (by simp [Tryz.ntmps11]) ?_
 repeat' (first|apply Bj.Ak|apply Ey.normal|apply Bj.to|apply Bj.block|apply Bj.skip|(apply Bj.cond_false;rfl)|apply Ad.nil|apply Ad.one|(apply Aa.fn;rfl;rfl;exact hc;intro _;rfl)|(apply Aa.fn;rfl;rfl;exact hcr;intro _;rfl)|(apply Aa.fn;rfl;rfl;exact hbg;intro _;rfl)|(apply Aa.fn;rfl;rfl;exact hsl;intro _;rfl)|(apply a6r)|(apply b1t (m:=[]) (y:=st0) (LH q,0);rfl;rfl;rfl;rfl;rfl)|(apply Aa.assign;rfl)|(apply Aa.move;rfl)|(apply Aa.int;rfl;rfl;rfl)|(apply Aa.load;rfl;rfl)|(apply Aa.CX;rfl;rfl)|(apply Aa.box;rfl;trivial)|(apply Aa.alloc;rfl)|(apply Aa.build;rfl;rfl;rfl;rfl;rfl))
 all_goals try (exfalso;omega)
 all_goals try contradiction
 have hS2:∀ k,k<(BJ q.p).length→gi (BJ q.p) k=LV q k:=fun k _=>rfl
 refine Bj.Gp (fun s:Nat×List (Jp×Way)=>[(1,.ref 0 0),(2,.ref 1 0),(5,.mref 2),(27,.p (.lst 81 (cells (BJ q.p)) (BJ q.p).length)),(28,.p (.int .i64 ((BJ q.p).length:Int))),(29,.p (.int .i64 (s.1:Int)))])
  (fun s=>[(0,Zg q),(1,a9s),(2,KC s.2)]) 3 (fun s=>s.1≤(BJ q.p).length∧aC q s.1 s.2) (fun s=>(BJ q.p).length-s.1) (0,[(st0,(LH q,0))]) (by decide) ⟨Nat.zero_le _,jv.start⟩ ⟨by decide,?_,?_⟩ ?_
 ·exact EJ
 ·repeat (first|exact Ci.nil|(refine Ci.cons (Az rfl) ?_ rfl ?_ ?_;(first|exact CU _ _|exact C9 _ _|exact HB.AO rfl|exact CZ.Bz _ _|(simp [HB.under,CZ.under,PV.under]));(first|exact Jj.refl _|exact Jj.vec (IG.refl _) (by simp))))
 rintro ⟨k,m⟩ ⟨hk,hm⟩
 simp only at hk hm ⊢
 rcases Nat.lt_or_ge k (BJ q.p).length with hkl|hkl
 ·have ha:=qN q hq k hkl (hM k hkl) m (wu q hq hkl hm)
  unfold Zg a9s
  repeat' (first|(refine Bj.atEnd 10 ?_;apply Bj.dG)|((refine CG.JE 36 ?_;refine Hold.of ?_))|apply Bj.Ak|apply Ey.normal|apply Bj.to|apply Bj.block|apply Bj.skip|(apply Bj.AZ;rfl)|apply CG.one|apply Ad.nil|apply Ad.one|(apply Aa.move;rfl)|(apply Aa.int;rfl;rfl;rfl)|(apply Aa.AP;rfl;rfl;rfl;omega;rfl)|(apply Aa.load;rfl;rfl)|(apply Aa.alloc;rfl)|(apply Aa.Bd;rfl;rfl;rfl;trivial;rfl;rfl;exact Az rfl;exact le_dec rfl)|(intro _;try (exfalso;omega)))
  all_goals try (exfalso;omega)
  refine Hold.go ?_
  refine CG.b3j [2] ha fK rfl rfl (.of_eq rfl) (CZ.AO rfl) ⟨⟨by decide,CU _ _⟩,trivial⟩ ⟨⟨_,rfl,by rw [Wj];exact Jj.refl _⟩,trivial⟩ (by decide) (by decide) ?_
  rintro r H' nx' ⟨V,hV1,hV2,rfl,rfl,rfl⟩
  have hms:=ou q hq hkl hm hV2
  repeat' (first|((refine Bj.atEnd 11 ?_;refine Hold.of ?_))|apply Ey.normal|apply CG.nil|apply CG.one|apply Ap.normal|(apply Aa.assign;rfl))
  refine Hold.go ?_
  refine Bj.swap 2 4 (by decide) (by decide) (by decide) (by decide) ?_
  repeat' (first|apply Bj.region|apply Ad.nil|apply Ad.one|(apply Aa.move;rfl)|(apply Aa.BU;rfl;rfl;omega))
  all_goals try (exfalso;omega)
  refine Ah.normal ⟨(k+1,QA q k m V),⟨hkl,hms⟩,by show (BJ q.p).length-(k+1)<(BJ q.p).length-k;omega,⟨by decide,?_,?_⟩⟩
  ·dsimp only
   exact EJ
  ·dsimp only
   repeat (first|exact Ci.nil|(refine Ci.cons (Az rfl) ?_ rfl ?_ ?_;(first|exact CU _ _|exact HB.AO rfl);(first|exact Jj.refl _|(rw [Wj,Wj];exact Jj.refl _))))
 ·obtain rfl:k=(BJ q.p).length:=by omega
  repeat' (first|((refine Bj.at 13 ?_;refine Hold.of ?_))|apply Bj.Ak|apply Ey.normal|apply Ey.exit|apply Bj.to|apply Bj.exit|(apply Bj.AZ;rfl)|apply Ap.exit|apply Ah.exit|apply Ad.nil|apply Ad.one|(apply Aa.assign;rfl)|(apply Aa.int;rfl;rfl;rfl)|(intro _;try (exfalso;omega)))
  all_goals try (exfalso;omega)
  refine Hold.go ?_
  have hfin:=uU q hq hm
  refine Bj.dI (fun b:Option Way=>[(1,.ref 0 0),(2,.ref 1 0),(8,b1z b),(38,.mref 2)]) (fun b=>[(0,Zg q),(1,a9s),(2,KC m)]) (fun V b=>b=Qp m V∧∀ i∈V,i<m.length) none (DC:=3) (b:=2) (ks:=(I8 m).map fun x=>.agg (Enc.enc x.1)) (cs:=(I8 m).map (·.2)) rfl rfl (by decide) rfl ⟨rfl,fun i h=>absurd h List.not_mem_nil⟩ ⟨by decide,?_,?_⟩ rfl (fun _=>⟨rfl,rfl,rfl⟩) (fun _ _ _=>rfl) (by simp) rfl (by kernel_rfl) (by kernel_rfl) (by decide) ?_ ?_
  ·exact EJ
  ·repeat (first|exact Ci.nil|(refine Ci.cons (Az rfl) ?_ rfl ?_ ?_;(first|exact CU _ _|exact C9 _ _|exact HB.AO rfl|exact CZ.Bz _ _|(simp [HB.under,CZ.under,PV.under]));(first|exact Jj.refl _|exact Jj.vec (IG.refl _) (by simp))))
  ·rintro V b i kk c ⟨hi,hV⟩ hnd hni hk hc
   subst hi
   have hil:i<m.length:=by
    have:=(List.getElem?_eq_some_iff.1 hk).1
    simpa [I8] using this
   have hei:m[i]?=some (gi m i):=by unfold gi;rw [List.getElem?_eq_getElem hil];rfl
   have ec:c=.p (Oj (gi m i).2):=by
    unfold I8 at hc
    rw [List.getElem?_map,List.getElem?_map,hei] at hc
    simpa using hc.symm
   subst ec
   have hpick:Qp m (V++[i])=Vh (Qp m V) (gi m i).2:=by
    unfold Qp
    rw [List.map_append,List.foldl_append];rfl
   have hlen:∀ o,Qp m V=some o→o.1.length=q.p.notes.length∧0≤o.2∧o.2≤1000000000000:=fun o ho=>by
    rcases TJ (V.map fun i=>(gi m i).2) none with ⟨_,_,h⟩|⟨w,h1,h2,_,_⟩
    ·unfold Qp at ho;rw [h] at ho;cases ho
    ·unfold Qp at ho;rw [h1] at ho;cases ho
     rcases h2 with h2|h2
     ·obtain ⟨j,j1,rfl⟩:=List.mem_map.1 h2
      exact hfin _ (EI (hV j j1))
     ·cases h2
   rw [hpick]
   clear hpick
   have hV':∀ j∈V++[i],j<m.length:=fun j hj=>by
    rcases List.mem_append.1 hj with h|h
    ·exact hV j h
    ·rw [List.mem_singleton] at h;omega
   obtain ⟨f1,f2⟩:=hfin _ (EI hil)
   generalize Qp m V=b at *
   generalize (gi m i).2=v at *
   obtain ⟨l,cc⟩:=v
   simp only at f1 f2
   cases b with
   |none =>
    have ei:Vh none (l,cc)=some (l,cc):=rfl
    rw [ei]
    repeat' (first|(refine Bj.atEnd 17 ?_;refine Bj.ghost (Bo.Zx 10 [.lst 3 (cells l) l.length,.int .i64 cc] rfl rfl rfl) ?_;first|apply Bj.region|apply Bj.Gv)|apply Bj.Dq|(apply Bj.cond_true;rfl)|apply CG.nil|apply CG.one|apply Ap.normal|apply Ad.nil|apply Af.nil|apply Ad.one|(apply Af.bar;decide +kernel)|(apply Af.drop;rfl;rfl;rfl)|(apply Af.Sz;rfl;rfl)|(apply Aa.yX;rfl;rfl;rfl)|(apply Aa.assign;rfl)|(apply Aa.move;rfl)|(apply Aa.Bc;rfl;rfl)|(apply Aa.alloc;rfl)|(apply Aa.Bd;rfl;rfl;rfl;trivial;rfl;rfl;exact Az rfl;exact le_dec rfl)|(apply Aa.extract;rfl;rfl))
    all_goals try (exfalso;omega)
    all_goals try contradiction
    refine Ah.normal ⟨some (l,cc),⟨rfl,hV'⟩,⟨by decide,?_,?_⟩⟩
    ·exact EJ
    ·repeat (first|exact Ci.nil|(refine Ci.cons (Az rfl) ?_ rfl ?_ ?_;(first|exact CU _ _|exact C9 _ _|exact HB.AO rfl|exact CZ.Bz _ _|(simp [HB.under,CZ.under,PV.under]));(first|exact Jj.refl _|exact Jj.vec (IG.refl _) (by simp))))
   |some o =>
    obtain ⟨ol,oc⟩:=o
    obtain ⟨o1,o2⟩:=hlen _ rfl
    simp only at o1 o2
    have hcmp:=Qk l ol (by omega) (by omega)
    have ei:Vh (some (ol,oc)) (l,cc)=if vH (l,cc) (ol,oc)=true then some (l,cc) else some (ol,oc):=rfl
    have hb:vH (l,cc) (ol,oc)=(decide (cc<oc)||(decide (cc=oc)&&decide (cmpL l ol<0))):=rfl
    rw [hb] at ei
    generalize cmpL l ol=cm at *
    by_cases g1:cc<oc
    all_goals by_cases g2:cc=oc
    all_goals by_cases g3:cm<0
    all_goals first|rw [decide_eq_true g1] at ei|rw [decide_eq_false g1] at ei
    all_goals first|rw [decide_eq_true g2] at ei|rw [decide_eq_false g2] at ei
    all_goals first|rw [decide_eq_true g3] at ei|rw [decide_eq_false g3] at ei
    all_goals simp only [Bool.true_or,Bool.false_or,Bool.true_and,Bool.false_and,Bool.false_eq_true,if_true,if_false] at ei
    all_goals rw [ei]
    all_goals
     repeat' (first|(refine Bj.atEnd 17 ?_;refine Bj.ghost (Bo.Zx 10 [.lst 3 (cells l) l.length,.int .i64 cc] rfl rfl rfl) ?_;first|apply Bj.region|apply Bj.Gv)|apply Bj.Dq|apply Bj.skip|(apply Bj.cond_true;rfl)|(apply Bj.cond_false;rfl)|(apply Bj.AZ;rfl)|apply CG.nil|apply CG.one|apply Ap.normal|apply Ad.nil|apply Af.nil|apply Ad.one|(apply Af.bar;decide +kernel)|(apply Af.FK;rfl;rfl)|(apply Af.drop;rfl;rfl;rfl)|(apply Af.guard;rfl;rfl)|(apply Af.Sz;rfl;rfl)|(apply Aa.yF;rfl;rfl;rfl)|(apply Aa.qY;rfl)|(apply Aa.fn;rfl;rfl;exact hcmp;intro _;rfl)|(apply Aa.assign;rfl)|(apply Aa.move;rfl)|(apply Aa.int;rfl;rfl;rfl)|(apply Aa.load;rfl;rfl)|(apply Aa.Bc;rfl;rfl)|(apply Aa.AL;rfl;rfl)|(apply Aa.Aw;rfl;rfl;rfl)|(apply Aa.GY;rfl;rfl)|(apply Aa.alloc;rfl)|(apply Aa.Bd;rfl;rfl;rfl;trivial;rfl;rfl;exact Az rfl;exact le_dec rfl)|(apply Aa.extract;rfl;rfl)|(intro _;try (exfalso;omega)))
    all_goals try (exfalso;omega)
    all_goals try contradiction
    all_goals
     refine Ah.normal ⟨_,⟨rfl,hV'⟩,⟨by decide,?_,?_⟩⟩
     ·exact EJ
     ·repeat (first|exact Ci.nil|(refine Ci.cons (Az rfl) ?_ rfl ?_ ?_;(first|exact CU _ _|exact C9 _ _|exact HB.AO rfl|exact CZ.Bz _ _|(simp [HB.under,CZ.under,PV.under]));(first|exact Jj.refl _|exact Jj.vec (IG.refl _) (by simp))))
  ·rintro V b ⟨hi,hV⟩ hnd h1 h2
   subst hi
   have hV2:∀ i,i∈V↔i<m.length:=fun i=>⟨hV i,fun h=>h1 i (by simpa [I8] using h)⟩
   rw [wP q hm hV2]
   unfold XV
   cases V7 q with
   |none =>
    show Ey _ _ _ _ _ _ [(1,_),(2,_),(8,.p (.val (.pointer none))),(38,_)] _ _
    repeat' (first|apply Bj.Ak|apply Ey.normal|apply Ey.ret|apply Bj.to|apply Bj.ret|(apply Bj.cond_true;rfl)|apply Ad.nil|apply Ad.one|(apply Aa.yX;rfl;rfl;rfl)|(apply Aa.assign;rfl)|(apply Aa.move;rfl)|(apply Aa.Bd;rfl;rfl;rfl;trivial;rfl;rfl;exact Az rfl;exact le_dec rfl)|(apply Aa.build;rfl;rfl;rfl;rfl;rfl))
    all_goals try (exfalso;omega)
    all_goals try contradiction
    all_goals (refine Done.rt rfl rfl ⟨?_,rfl,rfl⟩;try rfl)
   |some l =>
    show Ey _ _ _ _ _ _ [(1,_),(2,_),(8,.p (.EL [.lst 3 (cells l) l.length,.int .i64 (KH q l)])),(38,_)] _ _
    repeat' (first|apply Bj.Ak|apply Bj.Dq|apply Ey.normal|apply Bj.to|apply Bj.ret|apply Bj.skip|(apply Bj.cond_false;rfl)|apply Ad.nil|apply Af.nil|apply Ad.one|(apply Af.bar;decide +kernel)|apply Af.quiet|(apply Aa.yF;rfl;rfl;rfl)|(apply Aa.qY;rfl)|(apply Aa.assign;rfl)|(apply Aa.move;rfl)|(apply Aa.load;rfl;rfl)|(apply Aa.GY;rfl;rfl)|(apply Aa.Bd;rfl;rfl;rfl;trivial;rfl;rfl;exact Az rfl;exact le_dec rfl)|(apply Aa.build;rfl;rfl;rfl;rfl;rfl))
    all_goals try (exfalso;omega)
    all_goals try contradiction
    all_goals (refine Done.rt rfl rfl ⟨?_,rfl,rfl⟩;try rfl)
end
section
open Go Go.Am Go.Vm Go.Pie Go.Sch
attribute [local irreducible] Aa Ad Af Ac Ba AB BG Au Ap Ah Vm.Done BQ AY Qr Bj CG Ey IJ E5 Hold
attribute [local irreducible] CV Bq Eh DY Ez BH CW
theorem a4h {a:Nat} (h:a<100000000000000000):Lib.nDigits a≤18:=by
 have h1:Lib.nDigits 100000000000000000=18:=Lib.nDigits_unique 17 _ (by decide) (by decide)
 rcases Nat.lt_or_ge 18 (Lib.nDigits a) with h2|h2
 ·have:=Num.dA (a:=100000000000000000) (b:=a) (by omega)
  omega
 ·exact h2
theorem YG (a b:Nat) (ha:a<100000000000000000) (hb:b<100000000000000000):AB env 43 [.str (bs (Lib.decDigits a)),.str (bs (Lib.decDigits b))] (st (Lib.decDigits (a+b))):=by
 have q1:AB env 91 [.str (bs (Lib.decDigits a)),.int .i64 18] (.Ee [.p (.int .i64 (a:Int)),.p (.bool true)]):=by
  have:=Ya a 18 (Nat.le_refl _)
  rw [if_pos (a4h ha),decide_eq_true (a4h ha)] at this
  exact this
 have q2:AB env 91 [.str (bs (Lib.decDigits b)),.int .i64 18] (.Ee [.p (.int .i64 (b:Int)),.p (.bool true)]):=by
  have:=Ya b 18 (Nat.le_refl _)
  rw [if_pos (a4h hb),decide_eq_true (a4h hb)] at this
  exact this
 have ho:AB env 18 [.int .i64 ((a:Int)+(b:Int))] (st (Lib.decDigits (a+b))):=by
  have:=a3u ((a+b:Nat):Int) ⟨by omega,by omega⟩
  rw [a0k,Int.natCast_add] at this
  exact this
 generalize Lib.decDigits a=x at *
 generalize Lib.decDigits b=y at *
 generalize Lib.decDigits (a+b)=z at *
 refine AB.enter (Aj (by decide)) Tryz.func43 rfl (by kernel_rfl) (by simp [Tryz.ntmps43]) ?_
 repeat' (first|apply Ac.assoc|apply Ac.Ak|apply Ac.BL|apply Ad.nil|apply Ad.one|(apply Aa.fn;rfl;rfl;exact q1;intro _;rfl)|(apply Aa.fn;rfl;rfl;exact q2;intro _;rfl)|(apply Aa.fn;rfl;rfl;exact ho;intro _;rfl)|(apply Aa.assign;rfl)|(apply Aa.move;rfl)|(apply Aa.BU;rfl;rfl;omega)|(apply Aa.extract;rfl;rfl)|(apply Ac.Bf;rfl))
 all_goals first|(exfalso;omega)|contradiction|(refine Done.rt rfl rfl ⟨?_,rfl,rfl⟩;try rfl)
abbrev H7:=List Int×Nat
def NU (w:H7):FV:=.agg [.lst 3 (cells w.1) w.1.length,.str (bs (Lib.decDigits w.2))]
def II (es:List (List UInt8×H7)):List (List UInt8×PV):=es.map fun e=>(e.1,.p (NU e.2))
def QT (es:List (List UInt8×H7)):HB:=Lr (fun x:List UInt8=>.str (bs x)) (II es)
theorem C9 (k:Nat) (es:List (List UInt8×H7)):HB.under k (QT es):=by
 show CZ.under k ((II es).map (·.2))
 induction es with
 |nil=>exact trivial
 |cons e es ih=>exact ⟨trivial,ih⟩
theorem cvJ {k:Nat} {a b:Heap} (h:Vm.Ci k a b:=by repeat (first|exact Ci.nil|(refine Ci.cons (Az rfl) ?_ rfl ?_ ?_;(first|exact C9 _ _|exact CU _ _|exact HB.AO rfl|exact CZ.Bz _ _|(simp [HB.under,CZ.under,PV.under]));(first|exact Jj.refl _|exact Jj.vec (IG.refl _) (by simp))))):Vm.Ci k a b:=h
theorem cvK {k:Nat} {a b:Heap} (h:Vm.Ci k a b:=by repeat (first|exact Ci.nil|(refine Ci.eq rfl (Az rfl) ?_ ?_;(first|exact C9 _ _|exact CU _ _|exact HB.AO rfl|exact CZ.Bz _ _|(simp [HB.under,CZ.under,PV.under];done)))|(refine Ci.cons (Az rfl) ?_ rfl ?_ ?_;(first|exact C9 _ _|exact CU _ _|exact HB.AO rfl|exact CZ.Bz _ _|(simp [HB.under,CZ.under,PV.under]));(first|exact Jj.refl _|exact Jj.vec (IG.refl _) (by simp))))):Vm.Ci k a b:=h
theorem a5a (ρ:Nat→Nat) (es:List (List UInt8×H7)):(QT es).rn ρ=QT es:=by
 show HB.IU _ (CZ.rn ρ ((II es).map (·.2)))=HB.IU _ _
 have:CZ.rn ρ ((II es).map (·.2))=(II es).map (·.2):=by
  induction es with
  |nil=>rfl
  |cons e es ih =>
   show PV.rn ρ (PV.p (NU e.2))::CZ.rn ρ ((II es).map (·.2))=_
   rw [ih];rfl
 rw [this]
section
variable {L:Vm.Frame} {H:Vm.Heap} {nx:Nat} {Q:PV→Vm.Heap→Nat→Prop} {w:Bool} {dst:Option Tmp} {ty:TypeId} {pos:String} {af:Array Edge} {gd:Option (Nat×Bool)}
theorem a5m {t:TypeId} (q:Q (.mref nx) ((nx,QT [])::H) (nx+1)):Aa env w ⟨dst,.makeMap t none,ty,pos,af,gd⟩ L H nx Q:=Aa.Yy q
theorem a7w {t et:TypeId} {x k:Operand} {b:Nat} {m:List (List UInt8×H7)} {y:List UInt8} (hl:Cb m y=none) (hx:Bh env.Γ L x=some (.mref b)) (hb:hget H b=some (QT m)) (hk:Bh env.Γ L k=some (.p (.str (bs y))))
 (ht:env.P.underlying t=some (.map 9 et)) (hz:zeroOf env.P et=some (.agg #[.slice none 0 0,.string ⟨#[]⟩])) (q:Q (.Ee [.p (.agg [.val (.slice none 0 0),.str ⟨#[]⟩]),.p (.bool false)]) H nx):Aa env w ⟨dst,.lookup t x k true,ty,pos,af,gd⟩ L H nx Q:=by
 have h2:Cb (II m) y=none:=by
  have:=Tf (fun w=>PV.p (NU w)) y m
  rw [hl] at this
  exact this
 have hs:(Cb (II m) y).isSome=false:=by rw [h2];rfl
 rw [← hs] at q
 exact Aa.lookupGo (z:=.agg #[.slice none 0 0,.string ⟨#[]⟩]) WH hx hb hk ht hz rfl (JX.const h2 rfl) q
theorem a7o {t et:TypeId} {x k:Operand} {b:Nat} {m:List (List UInt8×H7)} {y:List UInt8} {v:H7} (hl:Cb m y=some v) (hx:Bh env.Γ L x=some (.mref b)) (hb:hget H b=some (QT m)) (hk:Bh env.Γ L k=some (.p (.str (bs y))))
 (ht:env.P.underlying t=some (.map 9 et)) (hz:zeroOf env.P et=some (.agg #[.slice none 0 0,.string ⟨#[]⟩])) (q:Q (.Ee [.p (NU v),.p (.bool true)]) H nx):Aa env w ⟨dst,.lookup t x k true,ty,pos,af,gd⟩ L H nx Q:=by
 have h2:Cb (II m) y=some (.p (NU v)):=by
  have:=Tf (fun w=>PV.p (NU w)) y m
  rw [hl] at this
  exact this
 have hs:(Cb (II m) y).isSome=true:=by rw [h2];rfl
 rw [← hs] at q
 exact Aa.lookupGo (z:=.agg #[.slice none 0 0,.string ⟨#[]⟩]) WH hx hb hk ht hz rfl (.inl h2) q
theorem b1e {t et:TypeId} {x k y':Operand} {b:Nat} {m:List (List UInt8×H7)} {y:List UInt8} (v:H7) (hx:Bh env.Γ L x=some (.mref b)) (hb:hget H b=some (QT m)) (hk:Bh env.Γ L k=some (.p (.str (bs y)))) (hy:Bh env.Γ L y'=some (.p (NU v)))
 (ht:env.P.underlying t=some (.map 9 et)) (q:Q (.Ee []) (hput H b (QT (Cm m y v))) nx):Aa env true ⟨dst,.mapUpdate t x k y',ty,pos,af,gd⟩ L H nx Q :=
 Aa.rU WH hx hb hk hy ht (by
  show hput H b (Lr _ (Cm (II m) y (.p (NU v))))=hput H b (Lr _ (II (Cm m y v)))
  have:Cm (II m) y (PV.p (NU v))=II (Cm m y v):=RU (fun w=>PV.p (NU w)) y v m
  rw [this]) q
theorem b1n {t et:TypeId} {x k y':Operand} {b:Nat} {m:List (List UInt8×H7)} {y:List UInt8} (v:H7) (hx:Bh env.Γ L x=some (.mref b)) (hb:hget H b=some (QT m)) (hk:Bh env.Γ L k=some (.p (.str (bs y)))) (hy:Bh env.Γ L y'=some (.p (NU v)))
 (ht:env.P.underlying t=some (.map 9 et)) (q:Q (.Ee []) (hput H b (QT (Cm m y v))) nx):Aa env true ⟨dst,.insert t x k y',ty,pos,af,gd⟩ L H nx Q :=
 Aa.rG WH hx hb hk hy ht (by
  show hput H b (Lr _ (Cm (II m) y (.p (NU v))))=hput H b (Lr _ (II (Cm m y v)))
  have:Cm (II m) y (PV.p (NU v))=II (Cm m y v):=RU (fun w=>PV.p (NU w)) y v m
  rw [this]) q
end
instance:Inhabited (List UInt8×H7):=⟨([],([],0))⟩
def qP (q:Qu) (t:Nat) (e:List UInt8×H7):List (List UInt8×H7):=(dw q t e.2.1).map fun x=>(NW (Hy q t) x,(x,e.2.2))
def Yv (q:Qu) (t:Nat) (es:List (List UInt8×H7)) (V:List Nat):List (List UInt8×H7):=((V.map (gi es)).flatMap (qP q t)).foldl Qi []
def jY (q:Qu) (t:Nat) (m:List (List UInt8×H7)):Prop:=VT (Lp q) (fQ q) (kQ q) (UY q) (LH q) [] (b3w q) t m
theorem U1 {α:Type} [Inhabited α] {es:List α} {V:List Nat} (hn:V.Nodup) (h:∀ i,i∈V↔i<es.length):(V.map (gi es)).Perm es:=by
 have h1:V.Perm (List.range es.length):=(List.perm_ext_iff_of_nodup hn List.nodup_range).2 fun i=>by rw [h,List.mem_range]
 have h2:(List.range es.length).map (gi es)=es:=by
  refine JL (by simp) fun i hi=>?_
  rw [List.length_map,List.length_range] at hi
  unfold gi
  rw [List.getElem?_map,List.getElem?_range hi]
  rfl
 have:=h1.map (gi es)
 rwa [h2] at this
theorem oG (q:Qu) (hq:Jw q) {t:Nat} (ht:t<(BJ q.p).length) {m:List (List UInt8×H7)} (hm:jY q t m) {V:List Nat} (hn:V.Nodup) (hV:∀ i,i∈V↔i<m.length):jY q (t+1) (Yv q t m V) :=
 VT.step (Vl q hq) (a2o q) (Sm q) (a6p q) ht hm (U1 hn hV)
theorem vP (q:Qu) (hq:Jw q) {t:Nat} (ht:t≤(BJ q.p).length) {m:List (List UInt8×H7)} (hm:jY q t m):∀ e∈m,a7m q t e.2.1∧e.2.2≤(Ic q t).length:=fun e he=>by
 obtain ⟨g1,g2,g3⟩:=hm.sub e he
 refine ⟨(OT q hq ht _).1 g1,?_⟩
 rw [g3]
 exact List.countP_le_length
theorem ig {α:Type} (F:α→Nat):∀ l:List α,(∀ a∈l,1≤F a)→l.length≤sumF F l
 |[],_=>Nat.le_refl _
 |a::l,h=>by
  have:=ig F l fun b hb=>h b (List.mem_cons_of_mem _ hb)
  have:=h a (by simp)
  simp only [sumF,List.length_cons];omega
theorem wQ (q:Qu) {t:Nat} {m:List (List UInt8×H7)} (hm:jY q t m):m.length≤(Ic q t).length:=by
 have h:=VT.total hm
 refine Nat.le_trans (ig (fun d:List UInt8×H7=>d.2.2) m fun d hd=>?_) (Nat.le_of_eq h)
 obtain ⟨g1,g2,g3⟩:=hm.sub d hd
 rw [g3]
 exact List.countP_pos_iff.2 ⟨_,g1,decide_eq_true g2.symm⟩
theorem a3c {n c:Nat} {m:List (List UInt8×H7)} {d:List UInt8×H7} (hm:∀ e∈m,e.2.2≤n) (hd:d.2.2≤c):∀ e∈Qi m d,e.2.2≤n+c:=fun e he=>by
 have key:∀ w:H7,w.2≤n+c→∀ e∈Cm m d.1 w,e.2.2≤n+c:=fun w hw e he=>by
  rcases Om he with h|h|h
  ·rw [h];exact hw
  ·have:=hm e h.1;omega
  ·have:=hm e h;omega
 unfold Qi at he
 split at he
 ·exact key _ (by show 0+d.2.2≤n+c;omega) e he
 ·rename_i o ho
  have:=hm _ (JR ho)
  simp only at this
  exact key _ (by show o.2+d.2.2≤n+c;omega) e he
theorem b0v:Lib.decDigits 0=[48]:=by rw [Lib.decDigits];rfl
theorem b6v:Lib.decDigits 1=[49]:=by rw [Lib.decDigits];rfl
def cbd (n:Nat):Nat:=n*4096000000
theorem a8v {n:Nat} (h:n≤1000000):cbd n≤4096000000000000:=by unfold cbd;omega
theorem y9 (n:Nat):cbd (n+1)=cbd n+4096000000:=by unfold cbd;omega
theorem bZ (q:Qu) (hq:Jw q) (hM:∀ t,t<(BJ q.p).length→kQ q t≤12) (hP:∀ t,t≤(BJ q.p).length→(Ic q t).length≤1000000):IJ env 12 [.agg (Enc.enc q)] (.Ee [st (Lib.decDigits (Ic q (BJ q.p).length).length),.p (.int .i64 0)]):=by
 have hc:=Jl q hq.o.sm hq.p.sm
 rw [Xt hq] at hc
 have hcr:=JM q hq
 rw [XQ hM] at hcr
 have hbg:=YN q hq
 have hsl:=JH q hq
 have hSl:=PI q.p
 have hn:=hq.p.notes
 have e1:(some (PV.p (.agg [.lst 3 (cells (LH q)) (LH q).length,.str ⟨#[49]⟩])))=some (PV.p (NU (LH q,1))):=by
  unfold NU
  simp only [b6v]
  rfl
 refine IJ.enter Tryz.func12 rfl (by kernel_rfl) (by kernel_rfl) (by simp [Tryz.ntmps12]) ?_
 repeat' (first|apply Bj.Ak|apply Ey.normal|apply Bj.to|apply Bj.block|apply Bj.skip|(apply Bj.cond_false;rfl)|apply Ad.nil|apply Ad.one|(apply Aa.fn;rfl;rfl;exact hc;intro _;rfl)|(apply Aa.fn;rfl;rfl;exact hcr;intro _;rfl)|(apply Aa.fn;rfl;rfl;exact hbg;intro _;rfl)|(apply Aa.fn;rfl;rfl;exact hsl;intro _;rfl)|(apply a5m)|(apply b1n (m:=[]) (y:=[]) (LH q,1);rfl;rfl;rfl;exact e1;rfl)|(apply Aa.assign;rfl)|(apply Aa.move;rfl)|(apply Aa.int;rfl;rfl;rfl)|(apply Aa.load;rfl;rfl)|(apply Aa.CX;rfl;rfl)|(apply Aa.box;rfl;trivial)|(apply Aa.build;rfl;rfl;rfl;rfl;rfl))
 all_goals try (exfalso;omega)
 all_goals try contradiction
 refine Bj.Gp (fun s:Nat×List (List UInt8×H7)=>[(1,.ref 0 0),(5,.mref 1),(32,.p (.lst 81 (cells (BJ q.p)) (BJ q.p).length)),(33,.p (.int .i64 ((BJ q.p).length:Int))),(34,.p (.int .i64 (s.1:Int)))])
  (fun s=>[(0,Zg q),(1,QT s.2)]) 2 (fun s=>s.1≤(BJ q.p).length∧jY q s.1 s.2) (fun s=>(BJ q.p).length-s.1) (0,[([],(LH q,1))]) (by decide) ⟨Nat.zero_le _,VT.start⟩ ⟨by decide,?_,?_⟩ ?_
 ·exact EJ
 ·exact cvJ
 rintro ⟨k,m⟩ ⟨hk,hm⟩
 simp only at hk hm ⊢
 have hml:=Nat.le_trans (wQ q hm) (hP k hk)
 have hen:=vP q hq hk hm
 have hPk:=hP k hk
 rcases Nat.lt_or_ge k (BJ q.p).length with hkl|hkl
 ·unfold Zg
  repeat' (first|((refine Bj.at 11 ?_;refine Hold.of ?_))|apply Bj.Ak|apply Ey.normal|apply Bj.to|apply Bj.block|apply Bj.skip|(apply Bj.AZ;rfl)|apply Ad.nil|apply Ad.one|(apply a5m)|(apply Aa.assign;rfl)|(apply Aa.int;rfl;rfl;rfl)|(apply Aa.AP;rfl;rfl;rfl;omega;rfl)|(apply Aa.load;rfl;rfl)|(apply Aa.alloc;rfl)|(apply Aa.Bd;rfl;rfl;rfl;trivial;rfl;rfl;exact Az rfl;exact le_dec rfl)|(intro _;try (exfalso;omega)))
  all_goals try (exfalso;omega)
  refine Hold.go ?_
  refine Bj.dI (fun b:List (List UInt8×H7)=>[(1,.ref 0 0),(7,.ref 2 0),(8,.mref 3),(32,.p (.lst 81 (cells (BJ q.p)) (BJ q.p).length)),(33,.p (.int .i64 ((BJ q.p).length:Int))),(34,.p (.int .i64 (k:Int))),(39,.mref 1)]) (fun b=>[(0,Zg q),(1,QT m),(2,xP (LV q k)),(3,QT b)]) (fun V b=>b=Yv q k m V∧(∀ i∈V,i<m.length)∧∀ e∈b,e.2.2≤cbd V.length) [] (DC:=4) (b:=1) (ks:=(II m).map fun x=>.str (bs x.1)) (cs:=(II m).map (·.2)) rfl rfl (by decide) rfl ⟨rfl,(fun i h=>absurd h List.not_mem_nil),fun e h=>absurd h List.not_mem_nil⟩ ⟨by decide,?_,?_⟩ rfl (fun _=>⟨rfl,rfl,rfl⟩) (fun _ _ _=>rfl) (by simp) rfl (by kernel_rfl) (by kernel_rfl) (by decide) ?_ ?_
  ·exact EJ
  ·exact cvJ
  ·rintro V b i kk c ⟨hi,hV,hbl⟩ hnd hni hk' hc'
   subst hi
   have hil:i<m.length:=by
    have:=(List.getElem?_eq_some_iff.1 hk').1
    simpa [II] using this
   have hei:m[i]?=some (gi m i):=by unfold gi;rw [List.getElem?_eq_getElem hil];rfl
   have ec:c=.p (NU (gi m i).2):=by
    unfold II at hc'
    rw [List.getElem?_map,List.getElem?_map,hei] at hc'
    simpa using hc'.symm
   subst ec
   have hfold:Yv q k m (V++[i])=(qP q k (gi m i)).foldl Qi (Yv q k m V):=by
    unfold Yv
    rw [List.map_append,List.flatMap_append,List.foldl_append,List.map_singleton,List.flatMap_singleton]
   rw [hfold]
   clear hfold
   have hV':∀ j∈V++[i],j<m.length:=fun j hj=>by
    rcases List.mem_append.1 hj with h|h
    ·exact hV j h
    ·rw [List.mem_singleton] at h;omega
   have hVl:=Hw m.length V hnd hV
   have hVs:(V++[i]).length=V.length+1:=by simp
   rw [hVs]
   have hcs:=y9 V.length
   have hcl:=a8v (Nat.le_trans hVl hml)
   obtain ⟨w1,w2⟩:=hen _ (EI hil)
   have w3:=kH q hq hkl w1
   generalize Yv q k m V=b0 at *
   unfold qP
   generalize (gi m i).2=v at *
   obtain ⟨l,cc⟩:=v
   simp only at w1 w2 w3 ⊢
   have hch:=Tm q hq k hkl (hM k hkl) l w3
   have hwy:=fun y hy=>jU q hq hkl w3 (x:=y) hy
   have hLl:=jE q k (hM k hkl) l
   generalize dw q k l=L at *
   have hN:iW q (LV q k).notes:=OQ hkl
   have hNl:(LV q k).notes.length≤1000:=Xj hq hkl
   obtain ⟨G,hG⟩:∃ G:List Int→List UInt8×H7,G=fun y=>(NW (Hy q k) y,(y,cc)):=⟨_,rfl⟩
   rw [← hG]
   rw [hcs]
   generalize cbd V.length=B at *
   unfold Zg xP
   repeat' (first|(refine Bj.at 14 ?_;apply Bj.N8)|(apply CG.fn;rfl;rfl;exact hch;exact Ot;intro _;rfl)|apply Bj.block|apply CG.nil|apply CG.one|(apply Aa.move;rfl)|(apply Aa.load;rfl;rfl)|(apply Aa.CX;rfl;rfl)|(apply Aa.Aw;rfl;rfl;rfl)|(apply Aa.alloc;rfl)|(apply Aa.Bd;rfl;rfl;rfl;trivial;rfl;rfl;exact Az rfl;exact le_dec rfl)|(apply Aa.extract;rfl;rfl))
   all_goals try (exfalso;omega)
   refine Bj.nU ?_
   apply Ac.G9 (L.length) (fun k_=>∀ e∈((L.take k_).map G).foldl Qi b0,e.2.2≤B+k_*1000000) [(1,_),(7,_),(8,_),(10,_),(32,_),(33,_),(34,_),(39,_),(49,_),(50,_)] [(0,_),(1,_),(2,_),(4,_)] (fun k_ r=>(51,.p (.int .i64 (k_:Int)))::r) (fun k_ r=>(3,QT (((L.take k_).map G).foldl Qi b0))::r) 5
   ·first|omega|decide
   ·first|omega|decide
   ·exact Rz
   ·exact cvK
   ·first|(intro _ _;omega)|omega|trivial
   ·intro k_ hk_ hi
    obtain ⟨y1,y2⟩:=hwy _ (EI hk_)
    have e1:((L.take (k_+1)).map G).foldl Qi b0=Qi (((L.take k_).map G).foldl Qi b0) (G (gi L k_)):=by
     rw [Ej hk_,List.map_append,List.foldl_append];rfl
    rw [e1]
    clear e1
    generalize ((L.take k_).map G).foldl Qi b0=mm at *
    have a2x:=lZ q (LV q k) hN hNl (gi L k_) y1 y2
    have hGk:G (gi L k_)=(NW (LV q k).notes (gi L k_),(gi L k_,cc)):=by rw [hG];rfl
    rw [hGk]
    have hle:=a3c (c:=1000000) (d:=(NW (LV q k).notes (gi L k_),(gi L k_,cc))) hi (by show cc≤1000000;omega)
    have hle:∀ e∈Qi mm (NW (LV q k).notes (gi L k_),(gi L k_,cc)),e.2.2≤B+(k_+1)*1000000:=fun e he=>by have:=hle e he;omega
    generalize NW (LV q k).notes (gi L k_)=nn at *
    have ei:Qi mm (nn,(gi L k_,cc))=match Cb mm nn with|none=>Cm mm nn (gi L k_,0+cc)|some o=>Cm mm nn (o.1,o.2+cc):=rfl
    cases hl:Cb mm nn with
    |none =>
     rw [hl] at ei
     simp only at ei
     rw [ei] at hle ⊢
     have ha:=YG 0 cc (by omega) (by omega)
     rw [b0v] at ha
     repeat' (first|apply Ac.assoc|apply Ac.Ak|apply Ac.region|apply Ac.Ai|apply Ac.Ag|apply Au.normal|apply Ap.normal|apply Ad.nil|apply Ad.one|(apply Aa.fn;rfl;rfl;exact a2x;intro _;rfl)|(apply Aa.fn;rfl;rfl;exact ha;intro _;rfl)|(apply a7w (m:=mm) (y:=nn) hl;rfl;rfl;rfl;rfl;rfl)|(apply b1e (m:=mm) (y:=nn) (gi L k_,0+cc);rfl;rfl;rfl;rfl;rfl)|(apply Aa.assign;rfl)|(apply Aa.move;rfl)|(apply Aa.BU;rfl;rfl;omega)|(apply Aa.int;rfl;rfl;rfl)|(apply Aa.AP;rfl;rfl;rfl;omega;rfl)|(apply Aa.load;rfl;rfl)|(apply Aa.Aw;rfl;rfl;rfl)|(apply Aa.alloc;rfl)|(apply Aa.Bd;rfl;rfl;rfl;trivial;rfl;rfl;exact Az rfl;exact le_dec rfl)|(apply Aa.build;rfl;rfl;rfl;rfl;rfl)|(apply Aa.not;rfl)|(apply Aa.extract;rfl;rfl)|(apply Ac.Bf;rfl)|(apply Ac.Ae;rfl)|(intro _;try (exfalso;omega)))
     all_goals try (exfalso;omega)
     all_goals try contradiction
     refine Ah.normal ⟨hle,by first|omega|decide,?_,?_⟩
     ·exact EJ
     ·exact cvJ
    |some o =>
     obtain ⟨ol,oc⟩:=o
     have hoc:=hi _ (JR hl)
     simp only at hoc
     rw [hl] at ei
     simp only at ei
     rw [ei] at hle ⊢
     have ha:=YG oc cc (by omega) (by omega)
     repeat' (first|apply Ac.assoc|apply Ac.Ak|apply Ac.region|apply Ac.Ai|apply Ac.Ag|apply Au.normal|apply Ap.normal|apply Ad.nil|apply Ad.one|(apply Aa.fn;rfl;rfl;exact a2x;intro _;rfl)|(apply Aa.fn;rfl;rfl;exact ha;intro _;rfl)|(apply a7o (m:=mm) (y:=nn) hl;rfl;rfl;rfl;rfl;rfl)|(apply b1e (m:=mm) (y:=nn) (ol,oc+cc);rfl;rfl;rfl;rfl;rfl)|(apply Aa.assign;rfl)|(apply Aa.move;rfl)|(apply Aa.BU;rfl;rfl;omega)|(apply Aa.int;rfl;rfl;rfl)|(apply Aa.AP;rfl;rfl;rfl;omega;rfl)|(apply Aa.load;rfl;rfl)|(apply Aa.Aw;rfl;rfl;rfl)|(apply Aa.alloc;rfl)|(apply Aa.Bd;rfl;rfl;rfl;trivial;rfl;rfl;exact Az rfl;exact le_dec rfl)|(apply Aa.not;rfl)|(apply Aa.extract;rfl;rfl)|(apply Ac.Aq;rfl)|(apply Ac.Ae;rfl)|(intro _;try (exfalso;omega)))
     all_goals try (exfalso;omega)
     all_goals try contradiction
     refine Ah.normal ⟨hle,by first|omega|decide,?_,?_⟩
     ·exact EJ
     ·exact cvJ
   ·intro hi
    rw [List.take_length] at hi ⊢
    repeat' (first|apply Ac.Ak|apply Ac.Bl|apply Ap.normal|apply Ap.exit|apply Ah.exit|apply Ad.nil|apply Ad.one|(apply Aa.int;rfl;rfl;rfl)|(apply Ac.Ae;rfl)|(intro _;try (exfalso;omega)))
    all_goals try (exfalso;omega)
    refine Ah.normal ⟨_,⟨rfl,hV',fun e he=>by have:=hi e he;omega⟩,⟨by decide,?_,?_⟩⟩
    ·exact EJ
    ·exact cvJ
  ·rintro V b ⟨hi,hV,_⟩ hnd h1 h2
   subst hi
   have hV2:∀ i,i∈V↔i<m.length:=fun i=>⟨hV i,fun h=>h1 i (by simpa [II] using h)⟩
   have hms:=oG q hq hkl hm hnd hV2
   refine Ey.normal ?_
   refine Bj.swap 1 3 (by decide) (by decide) (by decide) (by decide) ?_
   repeat' (first|apply Bj.region|apply Ey.normal|apply Ap.normal|apply Ad.nil|apply Ad.one|(apply Aa.assign;rfl)|(apply Aa.move;rfl)|(apply Aa.BU;rfl;rfl;omega))
   all_goals try (exfalso;omega)
   refine Ah.normal ⟨(k+1,Yv q k m V),⟨hkl,hms⟩,by show (BJ q.p).length-(k+1)<(BJ q.p).length-k;omega,⟨by decide,?_,?_⟩⟩
   ·dsimp only
    exact EJ
   ·dsimp only
    repeat (first|exact Ci.nil|(refine Ci.cons (Az rfl) ?_ rfl ?_ ?_;(first|exact C9 _ _|exact HB.AO rfl);(first|exact Jj.refl _|(rw [a5a];exact Jj.refl _))))
 ·obtain rfl:k=(BJ q.p).length:=by omega
  repeat' (first|((refine Bj.at 27 ?_;refine Hold.of ?_))|apply Bj.Ak|apply Ey.normal|apply Ey.exit|apply Bj.to|apply Bj.exit|(apply Bj.AZ;rfl)|apply Ap.exit|apply Ah.exit|apply Ad.nil|apply Ad.one|(apply Aa.assign;rfl)|(apply Aa.int;rfl;rfl;rfl)|(intro _;try (exfalso;omega)))
  all_goals try (exfalso;omega)
  refine Hold.go ?_
  have hsb:∀ V:List Nat,(∀ i∈V,i<m.length)→sumF (fun i=>(gi m i).2.2) V≤V.length*1000000:=fun V=>by
   induction V with
   |nil=>intro _;exact Nat.le_refl _
   |cons a V ih =>
    intro h
    have h1:=ih fun i hi=>h i (List.mem_cons_of_mem _ hi)
    have h2:=(hen _ (EI (h a (by simp)))).2
    simp only [sumF,List.length_cons]
    omega
  refine Bj.dI (fun s:Nat=>[(16,.p (.str (bs (Lib.decDigits s)))),(81,.mref 1)]) (fun s=>[(1,QT m)]) (fun V s=>s=sumF (fun i=>(gi m i).2.2) V∧∀ i∈V,i<m.length) 0 (DC:=2) (b:=1) (ks:=(II m).map fun x=>.str (bs x.1)) (cs:=(II m).map (·.2)) rfl rfl (by decide) rfl ⟨rfl,fun i h=>absurd h List.not_mem_nil⟩ ⟨by decide,?_,?_⟩ rfl (fun _=>⟨rfl,rfl,rfl⟩) (fun _ _ _=>rfl) (by simp) rfl (by kernel_rfl) (by kernel_rfl) (by decide) ?_ ?_
  ·rw [b0v]
   exact EJ
  ·exact cvJ
  ·rintro V b i kk c ⟨hi,hV⟩ hnd hni hk' hc'
   subst hi
   have hil:i<m.length:=by
    have:=(List.getElem?_eq_some_iff.1 hk').1
    simpa [II] using this
   have hei:m[i]?=some (gi m i):=by unfold gi;rw [List.getElem?_eq_getElem hil];rfl
   have ec:c=.p (NU (gi m i).2):=by
    unfold II at hc'
    rw [List.getElem?_map,List.getElem?_map,hei] at hc'
    simpa using hc'.symm
   subst ec
   have hV':∀ j∈V++[i],j<m.length:=fun j hj=>by
    rcases List.mem_append.1 hj with h|h
    ·exact hV j h
    ·rw [List.mem_singleton] at h;omega
   have hVl:=Hw m.length V hnd hV
   have hs:=hsb V hV
   have w2:=(hen _ (EI hil)).2
   have hsum:sumF (fun i=>(gi m i).2.2) (V++[i])=sumF (fun i=>(gi m i).2.2) V+(gi m i).2.2:=by
    rw [KE];simp [sumF]
   rw [hsum]
   generalize sumF (fun i=>(gi m i).2.2) V=sv at *
   generalize (gi m i).2=v at *
   obtain ⟨l,cc⟩:=v
   simp only at w2 ⊢
   have ha:=YG sv cc (by omega) (by omega)
   repeat' (first|apply Bj.region|apply CG.nil|apply CG.one|apply Ap.normal|apply Ad.nil|apply Ad.one|(apply Aa.fn;rfl;rfl;exact ha;intro _;rfl)|(apply Aa.assign;rfl)|(apply Aa.move;rfl)|(apply Aa.load;rfl;rfl)|(apply Aa.Aw;rfl;rfl;rfl)|(apply Aa.alloc;rfl)|(apply Aa.Bd;rfl;rfl;rfl;trivial;rfl;rfl;exact Az rfl;exact le_dec rfl)|(apply Aa.extract;rfl;rfl))
   all_goals try (exfalso;omega)
   refine Ah.normal ⟨_,⟨rfl,hV'⟩,⟨by decide,?_,?_⟩⟩
   ·exact EJ
   ·exact cvJ
  ·rintro V s ⟨hi,hV⟩ hnd h1 h2
   subst hi
   have hV2:∀ i,i∈V↔i<m.length:=fun i=>⟨hV i,fun h=>h1 i (by simpa [II] using h)⟩
   have ht:sumF (fun i=>(gi m i).2.2) V=(Ic q (BJ q.p).length).length:=by
    have h3:sumF (fun d:List UInt8×H7=>d.2.2) m=(Ic q (BJ q.p).length).length:=VT.total hm
    rw [← h3,← Zo (fun d:List UInt8×H7=>d.2.2) (U1 hnd hV2),XU]
   rw [ht]
   refine Ey.normal ?_
   repeat' (first|apply Bj.Ak|apply Bj.ret|apply Ad.nil|apply Ad.one|(apply Aa.assign;rfl)|(apply Aa.move;rfl))
   all_goals (refine Done.rt rfl rfl ⟨?_,rfl,rfl⟩;try rfl)
end
section
open Go Go.Am Go.Vm Go.Pie Go.Sch
attribute [local irreducible] Aa Ad Af Ac Ba AB BG Au Ap Ah Vm.Done BQ AY Qr Bj CG Ey IJ E5 Hold
attribute [local irreducible] CV Bq Eh DY Ez BH CW
theorem lD:∀ (n:Nat) (a b:List Int),a.length=n→b.length=n→(∀ x∈a,0≤x∧x≤2)→(∀ x∈b,0≤x∧x≤2)→a.foldr (fun x s=>x.toNat+3*s) 0=b.foldr (fun x s=>x.toNat+3*s) 0→a=b
 |0,a,b,ha,hb,_,_,_=>by rw [List.length_eq_zero_iff.1 ha,List.length_eq_zero_iff.1 hb]
 |n+1,[],_,ha,_,_,_,_=>by cases ha
 |n+1,_::_,[],_,hb,_,_,_=>by cases hb
 |n+1,x::a,y::b,ha,hb,h1,h2,he=>by
  simp only [List.foldr_cons] at he
  have hx:=h1 x (by simp)
  have hy:=h2 y (by simp)
  have e1:x=y:=by omega
  rw [e1,lD n a b (by simpa using ha) (by simpa using hb) (fun z hz=>h1 z (List.mem_cons_of_mem _ hz)) (fun z hz=>h2 z (List.mem_cons_of_mem _ hz)) (by omega)]
theorem rE:∀ (a:List Int),(∀ x∈a,0≤x∧x≤2)→a.foldr (fun x s=>x.toNat+3*s) 0<3 ^ a.length
 |[],_=>by decide
 |x::a,h=>by
  have ih:=rE a fun z hz=>h z (List.mem_cons_of_mem _ hz)
  have hx:=h x (by simp)
  simp only [List.foldr_cons,List.length_cons,Nat.pow_succ]
  omega
theorem wX (q:Qu) (hq:Jw q) (hn:q.p.notes.length≤12) {t:Nat} (ht:t≤(BJ q.p).length):(Ic q t).length≤1000000:=by
 have hr:∀ l∈Ic q t,l.length=q.p.notes.length∧∀ x∈l,0≤x∧x≤2:=fun l hl=>by
  have hi:=(OT q hq ht l).1 hl
  have hlen:l.length=q.p.notes.length:=ZA.len hi
  refine ⟨hlen,fun x hx=>?_⟩
  obtain ⟨i,h1,rfl⟩:=KI hx
  exact WC (Sm q) hi (by omega)
 have h1:((Ic q t).map fun a=>a.foldr (fun (x:Int) s=>x.toNat+3*s) 0).Nodup:=by
  refine List.Pairwise.map _ (R:=fun a b=>a∈Ic q t∧b∈Ic q t∧a≠b) (fun a b ⟨ha,hb,hne⟩ e=>hne ?_) ?_
  ·exact lD _ a b (hr a ha).1 (hr b hb).1 (hr a ha).2 (hr b hb).2 e
  ·exact List.Pairwise.imp_of_mem (R:=(·≠·)) (fun {a b} ha hb h=>⟨ha,hb,h⟩) (Xr q hq ht)
 have h2:=Hw (3 ^ q.p.notes.length) _ h1 fun i hi=>by
  obtain ⟨a,ha,rfl⟩:=List.mem_map.1 hi
  have:=rE a (hr a ha).2
  rw [(hr a ha).1] at this
  exact this
 rw [List.length_map] at h2
 have h3:3 ^ q.p.notes.length≤3 ^ 12:=Nat.pow_le_pow_right (by decide) hn
 omega
theorem jB (q:Qu) (hn:q.p.notes.length≤12):∀ t,t<(BJ q.p).length→kQ q t≤12:=fun t ht=>by
 unfold kQ Gs
 refine Nat.le_trans (List.length_filter_le _ _) ?_
 rw [YP q ht]
 exact Nat.le_trans (RZ q.p _ _) hn
theorem a3q (q:Qu) (hq:Jw q) (l:List Int):zI q l=0↔l∈Ic q (BJ q.p).length:=by
 rw [PO q hq]
 unfold zI
 constructor
 ·intro h
  by_cases hc:VQ q l=0
  ·rw [if_pos hc] at h
   have hlen:=lQ hc
   have hcf:¬ 0≤mW q l:=fun h1=>by rw [if_pos h1] at h;cases h
   have hk:∀ i,i<l.length→Uy q l i=true:=fun i hi=>by
    unfold VQ at hc
    rw [if_pos hlen] at hc
    have h1:Ef (fun i=>!Uy q l i) l.length=-1:=Classical.byContradiction fun h1=>by rw [if_neg h1] at hc;cases hc
    cases h2:Uy q l i with
    |true=>rfl
    |false =>
     have:=Oq (P:=fun i=>!Uy q l i) (n:=l.length) (k:=i) (by simp [h2]) l.length (Nat.le_refl _) (by omega) hi
     unfold Ef at h1
     omega
   refine ⟨hlen,fun i hi=>?_,fun t ht=>?_⟩
   ·obtain ⟨g1,g2,g3⟩:=ZI (hk i (by omega))
    by_cases hp:EZ q i=true
    ·rw [if_pos hp]
     rw [hp] at g3
     by_cases e:gi l i=2
     ·exact e
     ·rw [decide_eq_false e] at g3;cases g3
    ·rw [if_neg hp]
     have hp':EZ q i=false:=by simpa using hp
     rw [hp'] at g3
     by_cases e:gi l i=2
     ·rw [decide_eq_true e] at g3;cases g3
     ·omega
   ·cases h2:Iz q (Hy q t) l with
    |true=>rfl
    |false =>
     exact absurd (Oq (P:=fun i=>!Iz q (Hy q i) l) (n:=(BJ q.p).length) (k:=t) (by simp [h2]) _ (Nat.le_refl _) (by omega) ht) hcf
  ·rw [if_neg hc] at h
   exact absurd h hc
 ·rintro ⟨h1,h2,h3⟩
  have hc:VQ q l=0:=by
   unfold VQ Ef
   rw [if_pos h1,SK (fun i hi=>?_) _ (Nat.le_refl _),if_pos rfl]
   have:=h2 i (by omega)
   unfold Uy
   by_cases hp:EZ q i=true
   ·rw [if_pos hp] at this
    rw [this,hp];rfl
   ·rw [if_neg hp] at this
    have hp':EZ q i=false:=by simpa using hp
    rw [hp']
    rcases this with e|e<;>rw [e]<;>rfl
  have hcf:mW q l=-1:=by
   unfold mW Ef
   exact SK (fun i hi=>by rw [h3 i hi];rfl) _ (Nat.le_refl _)
  rw [if_pos hc,hcf,if_neg (by omega)]
theorem ny (q:Qu) (hq:Jw q) (hM:jT q=true):AB env 11 [.agg (Enc.enc q)] (.Ee [.p (.agg [.val (.slice none 0 0),.int .i64 0]),.p (.int .i64 4)]):=by
 have hc:=Jl q hq.o.sm hq.p.sm
 rw [Xt hq] at hc
 have hcr:=JM q hq
 rw [hM] at hcr
 refine AB.enter (Aj (by decide)) Tryz.func11 rfl (by kernel_rfl) (by simp [Tryz.ntmps11]) ?_
 repeat' (first|apply Ac.assoc|apply Ac.Ak|apply Ac.Ai|apply Ac.BL|apply Ad.nil|apply Ad.one|(apply Aa.fn;rfl;rfl;exact hc;intro _;rfl)|(apply Aa.fn;rfl;rfl;exact hcr;intro _;rfl)|(apply Aa.assign;rfl)|(apply Aa.move;rfl)|(apply Aa.int;rfl;rfl;rfl)|(apply Aa.load;rfl;rfl)|(apply Aa.box;rfl;trivial)|(apply Aa.alloc;rfl)|(apply Aa.Bd;rfl;rfl;rfl;trivial;rfl;rfl;exact Az rfl;exact le_dec rfl)|(apply Aa.build;rfl;rfl;rfl;rfl;rfl)|(apply Ac.Bf;rfl)|(apply Ac.Aq;rfl))
 all_goals first|(exfalso;omega)|contradiction|(refine Done.rt rfl rfl ⟨?_,rfl,rfl⟩;try rfl)
theorem jV (q:Qu) (hq:Jw q) (hM:jT q=true):AB env 12 [.agg (Enc.enc q)] (.Ee [.p (.str ⟨#[]⟩),.p (.int .i64 4)]):=by
 have hc:=Jl q hq.o.sm hq.p.sm
 rw [Xt hq] at hc
 have hcr:=JM q hq
 rw [hM] at hcr
 refine AB.enter (Aj (by decide)) Tryz.func12 rfl (by kernel_rfl) (by simp [Tryz.ntmps12]) ?_
 repeat' (first|apply Ac.assoc|apply Ac.Ak|apply Ac.Ai|apply Ac.BL|apply Ad.nil|apply Ad.one|(apply Aa.fn;rfl;rfl;exact hc;intro _;rfl)|(apply Aa.fn;rfl;rfl;exact hcr;intro _;rfl)|(apply Aa.assign;rfl)|(apply Aa.move;rfl)|(apply Aa.int;rfl;rfl;rfl)|(apply Aa.load;rfl;rfl)|(apply Aa.box;rfl;trivial)|(apply Ac.Bf;rfl)|(apply Ac.Aq;rfl))
 all_goals first|(exfalso;omega)|contradiction|(refine Done.rt rfl rfl ⟨?_,rfl,rfl⟩;try rfl)
theorem Xx (q:Qu) (hq:Jw q) (hn:q.p.notes.length≤12):IJ env 11 [.agg (Enc.enc q)] (XV q):=vN q hq (jB q hn)
theorem Vp (q:Qu) (hq:Jw q) (hn:q.p.notes.length≤12):IJ env 12 [.agg (Enc.enc q)] (.Ee [st (Lib.decDigits (Ic q (BJ q.p).length).length),.p (.int .i64 0)]) :=
 bZ q hq (jB q hn) fun t ht=>wX q hq hn ht
theorem wW (x y:Way):aZ x y∨aZ y x:=by
 cases h:vH x y with
 |true=>exact .inl (nI h)
 |false=>exact .inr (dJ h)
theorem a0r (f:List Int→Int):∀ L:List (List Int),L≠[]→∃ l∈L,∀ h∈L,aZ (l,f l) (h,f h)
 |[],h=>absurd rfl h
 |a::L,_=>by
  by_cases hL:L=[]
  ·subst hL
   exact ⟨a,by simp,fun h hh=>by rw [List.mem_singleton] at hh;subst hh;exact IC _⟩
  ·obtain ⟨l,h1,h2⟩:=a0r f L hL
   rcases wW (a,f a) (l,f l) with h3|h3
   ·refine ⟨a,by simp,fun h hh=>?_⟩
    rcases List.mem_cons.1 hh with rfl|hh
    ·exact IC _
    ·exact JO h3 (h2 h hh)
   ·refine ⟨l,List.mem_cons_of_mem _ h1,fun h hh=>?_⟩
    rcases List.mem_cons.1 hh with rfl|hh
    ·exact h3
    ·exact h2 h hh
theorem pU (q:Qu):(Ic q (BJ q.p).length=[]∧V7 q=none)∨∃ l,V7 q=some l∧IsB q l:=by
 by_cases h:Ic q (BJ q.p).length=[]
 ·exact .inl ⟨h,ZJ h⟩
 ·obtain ⟨l,h1,h2⟩:=a0r (KH q) _ h
  exact .inr ⟨l,TB ⟨h1,h2⟩,h1,h2⟩
end
section
open Go Go.Am Go.Vm Go.Pie
attribute [local irreducible] Aa Ad Af Ac Ba AB BG Au Ap Ah Vm.Done BQ AY
attribute [local irreducible] CV Bq Eh DY Ez BH CW
end
section
open Go Go.Am Go.Vm Go.Pie Go.Sch
attribute [local irreducible] Aa Ad Af Ac Ba AB BG Au Ap Ah Vm.Done BQ AY Qr Bj CG Ey IJ E5 Hold
attribute [local irreducible] CV Bq Eh DY Ez BH CW
def thR:IE:=⟨[79,112,101,110],[79,112,101,110],⟨8,1⟩,36,[1]⟩
def thD:gU:=⟨[71,114,101,97,116],false,36,72,[]⟩
def vK:IV:=⟨[84,104,114,101,101],[thR],[thD],[]⟩
def thP:F7:=⟨[0,8],[⟨0,4,0,40⟩,⟨0,4,0,52⟩,⟨4,8,0,60⟩],[]⟩
def thY:au:=⟨1,12,0,0⟩
def Ub:Qu:=⟨vK,thP,thY⟩
theorem YF:AB env 10 [] (.p (.agg (Enc.enc Ub))):=by
 refine AB.enter (Aj (by decide)) Tryz.func10 rfl (by kernel_rfl) (by simp [Tryz.ntmps10]) ?_
 repeat' (first|(refine Ad.JE 6 ?_;refine Ad.ghost (Bo.freeze 5 rfl rfl) ?_)|(refine Ad.JE 12 ?_;refine Ad.ghost (Bo.trans (Bo.freeze 8 rfl rfl) (Bo.freeze 11 rfl rfl)) ?_)|(refine Ad.JE 18 ?_;refine Ad.ghost (Bo.trans (Bo.freeze 13 rfl rfl) (Bo.freeze 17 rfl rfl)) ?_)|apply Ac.Ak|apply Ac.ret|apply Ad.nil|apply Ad.one|(apply Aa.load;rfl;rfl)|(apply Aa.alloc;rfl)|(apply Aa.Bd;rfl;rfl;rfl;trivial;rfl;rfl;exact Az rfl;exact le_dec rfl)|(apply Aa.build;rfl;rfl;rfl;rfl;rfl)|(apply Aa.buildSlice;rfl;rfl;rfl;decide;rfl;rfl;rfl))
 all_goals try (exfalso;omega)
 refine Done.ret rfl (.p (.agg ?_)) trivial Ci.nil (Nat.zero_le _) (Nat.le_refl _) ⟨rfl,rfl,rfl⟩
 exact .cons (.refl _) (.cons (.refl _) (.cons (.lst (.cons (.refl _) (.cons (.refl _) (.cons (.refl _) (.cons (.refl _) (.cons (.nil _) (.refl _))))))) (.cons (.nil _) (.cons (.refl _) (.cons (.refl _) (.cons (.nil _) (.refl _)))))))
theorem lt1 {i:Nat} (h:i<1):i=0:=by omega
theorem a9q:CV thR=0:=by
 unfold CV
 have h1:EC thR.name:=a1b [79,112,101,110] (by decide) (by decide) (by decide)
 have h3:Qb thR.Fv=0:=pk1 8 (.inl rfl)
 have hw:thR.FN=[1]:=rfl
 rw [if_neg (by rintro (h|h);exact h h1;exact h h1),if_neg (fun h=>h h3),if_neg (by show ¬ ((36:Int)< -256∨(36:Int)>256);omega),hw,if_neg (by simp),if_neg (by simp)]
 unfold Bq
 rw [if_pos]
 intro j hj
 obtain rfl:=lt1 hj
 decide
theorem uI:YS vK=0:=by
 have eR:vK.ranks=[thR]:=rfl
 have eD:vK.AU=[thD]:=rfl
 have eC:vK.Ku=[]:=rfl
 have eN:vK.name=[84,104,114,101,101]:=rfl
 unfold YS
 rw [eR,eD,eC,eN]
 have hr:Qh [thR] 0=0:=ZH (fun i hi=>by
  obtain rfl:=lt1 hi
  exact ⟨a9q,by simp⟩) _ 0 rfl
 have hv:DY [thR] thD=0:=by
  unfold DY
  rw [show UA thD.lo thD.hi=0 from ZQ (by decide),if_neg (fun h=>h rfl),if_neg (by show ¬ (([]:List Stp).length>60);simp)]
  exact Ye (fun i hi=>absurd hi (Nat.not_lt_zero _)) _ 0 rfl
 have hd:Gx [thR] [thD] 0=0:=Xm (fun i hi=>by
  obtain rfl:=lt1 hi
  exact ⟨a1b [71,114,101,97,116] (by decide) (by decide) (by decide),by simp,hv⟩) _ 0 rfl
 rw [if_neg (fun h=>h (a1b [84,104,114,101,101] (by decide) (by decide) (by decide))),if_neg (by simp),if_neg (fun h=>h hr),if_neg (by simp),if_neg (by simp),if_neg (fun h=>h hd)]
 unfold Ez
 rw [if_neg (by simp)]
 have hc:Tn ([thD].map fun d=>(⟨d.lo,d.hi⟩:kF)) 0=0:=Z7 (fun i hi=>by
  obtain rfl:=lt1 hi
  exact ZQ (by decide)) _ 0 rfl
 rw [if_neg (fun h=>h hc)]
 exact XD (fun i hi=>absurd hi (Nat.not_lt_zero _)) _ 0 rfl
theorem a9w:Ry vK:=by
 refine ⟨by show 5<1000000;decide,by show 1<1000000;decide,by show 1<1000000;decide,by show 0<1000000;decide,fun i hi=>?_,fun i hi=>?_,fun i hi=>absurd hi (Nat.not_lt_zero _)⟩
 ·obtain rfl:=lt1 hi
  exact ⟨by show 4<1000000;decide,by show 4<1000000;decide,by show 1<1000000;decide⟩
 ·obtain rfl:=lt1 hi
  exact ⟨by show 5<1000000;decide,by show 0<1000000;decide,fun j hj=>absurd hj (Nat.not_lt_zero _)⟩
theorem b3v:wC vK:=b2q a9w uI
theorem a5k (N:List KG) (h1:N.length≤1000) (h2:∀ i,i<N.length→(gi N i).d=0∧(36≤(gi N i).k∧(gi N i).k≤72)∧0≤(gi N i).s∧(gi N i).s<(gi N i).e∧(gi N i).e≤8) (h3:∀ i,i<N.length→∀ j,j<i→yZ (gi N j) (gi N i)=false):uM vK ⟨[0,8],N,[]⟩:=by
 refine a3i ⟨by show 2<1000000;decide,by show N.length<1000000;omega,by show 0<1000000;decide,fun i hi=>absurd hi (Nat.not_lt_zero _)⟩ ⟨by show 2≤2;decide,by show 2≤201;decide⟩ (fun i hi=>?_) h1 (fun i hi=>?_) (by show 0≤100;decide) fun i hi=>absurd hi (Nat.not_lt_zero _)
 ·rcases lt2 hi with rfl|rfl
  ·exact ⟨by show (0:Int)≤0∧(0:Int)≤100000;decide,fun h=>by omega⟩
  ·exact ⟨by show (0:Int)≤8∧(8:Int)≤100000;decide,fun _=>by show (0:Int)<8;decide⟩
 ·obtain ⟨g1,g2,g3,g4,g5⟩:=h2 i hi
  refine ⟨by show 0≤(gi N i).d∧(gi N i).d<((1:Nat):Int);omega,?_,by show (0:Int)≤(gi N i).s∧(gi N i).s<(gi N i).e∧(gi N i).e≤8;omega,h3 i hi⟩
  show (gi [thD] (gi N i).d.toNat).lo≤(gi N i).k∧(gi N i).k≤(gi [thD] (gi N i).d.toNat).hi
  rw [g1]
  exact g2
theorem a7c (N:List KG) (y:au) (hy:y.Ok) (h:uM vK ⟨[0,8],N,[]⟩):Jw ⟨vK,⟨[0,8],N,[]⟩,y⟩ :=
 ⟨b3v,by unfold Y8;rw [if_neg (fun h=>h uI)];exact h.err,h,hy⟩
theorem Ws:Jw Ub:=a7c _ thY ⟨by decide,by decide,by decide,by decide⟩ (a5k _ (by show 3≤1000;decide) (fun i hi=>by
 have:i=0∨i=1∨i=2:=by
  have:i<3:=hi
  omega
 rcases this with rfl|rfl|rfl<;>decide) fun i hi j hj=>by
 have hi3:i=0∨i=1∨i=2:=by
  have:i<3:=hi
  omega
 rcases hi3 with rfl|rfl|rfl
 ·omega
 ·obtain rfl:j=0:=by omega
  decide
 ·have hj2:j=0∨j=1:=by omega
  rcases hj2 with rfl|rfl<;>decide)
theorem a9k:DN thP=[0,4,8]:=by
 refine dU (UQ (aX _)) (by unfold Inc;simp) fun x=>?_
 unfold DN
 rw [OX,List.mem_mergeSort]
 have:Rj thP thP.notes.length=[0,8,0,4,0,4,4,8]:=rfl
 rw [this]
 simp only [List.mem_cons,List.not_mem_nil,or_false]
 omega
theorem bU:BJ Ub.p=[⟨0,4,[0,1]⟩,⟨4,8,[2]⟩]:=by
 show BJ thP=_
 unfold BJ
 rw [a9k]
 decide +kernel
theorem yU:Hy Ub 0=[0,1]:=by unfold Hy;rw [bU];rfl
theorem yM:Hy Ub 1=[2]:=by unfold Hy;rw [bU];rfl
def thL:List (List Int):=[[0,1,0],[0,1,1],[1,0,0],[1,0,1]]
theorem rM:∀ l∈([[0,0,0],[0,0,1],[0,1,0],[0,1,1],[1,0,0],[1,0,1],[1,1,0],[1,1,1]]:List (List Int)),(Iz Ub [0,1] l&&Iz Ub [2] l)=decide (l∈thL):=by decide +kernel
theorem mF (l:List Int):l∈Ic Ub (BJ Ub.p).length↔l∈thL:=by
 rw [PO Ub Ws,bU]
 have h8:∀ l:List Int,(l.length=3∧∀ i,i<3→gi l i=0∨gi l i=1)→l∈([[0,0,0],[0,0,1],[0,1,0],[0,1,1],[1,0,0],[1,0,1],[1,1,0],[1,1,1]]:List (List Int)):=by
  rintro l ⟨h1,h2⟩
  obtain ⟨a,b,c,rfl⟩:∃ a b c,l=[a,b,c]:=by
   match l,h1 with
   |[a,b,c],_=>exact ⟨a,b,c,rfl⟩
  have ha:a=0∨a=1:=h2 0 (by decide)
  have hb:b=0∨b=1:=h2 1 (by decide)
  have hc:c=0∨c=1:=h2 2 (by decide)
  rcases ha with rfl|rfl<;>rcases hb with rfl|rfl<;>rcases hc with rfl|rfl<;>simp
 have hpd:∀ i,i<3→EZ Ub i=false:=fun i hi=>by
  have:i=0∨i=1∨i=2:=by omega
  rcases this with rfl|rfl|rfl<;>rfl
 constructor
 ·rintro ⟨h1,h2,h3⟩
  have hl:=h8 l ⟨h1,fun i hi=>by
   have:=h2 i hi
   rw [hpd i hi] at this
   simpa using this⟩
  have hp:=rM l hl
  have p0:=h3 0 (by decide)
  have p1:=h3 1 (by decide)
  rw [yU] at p0
  rw [yM] at p1
  rw [p0,p1] at hp
  exact of_decide_eq_true hp.symm
 ·intro h
  have hl:l∈([[0,0,0],[0,0,1],[0,1,0],[0,1,1],[1,0,0],[1,0,1],[1,1,0],[1,1,1]]:List (List Int)):=by
   simp only [thL,List.mem_cons,List.not_mem_nil,or_false] at h
   rcases h with rfl|rfl|rfl|rfl<;>simp
  have hp:=rM l hl
  rw [decide_eq_true h,Bool.and_eq_true] at hp
  refine ⟨?_,fun i hi=>?_,fun t ht=>?_⟩
  ·simp only [thL,List.mem_cons,List.not_mem_nil,or_false] at h
   rcases h with rfl|rfl|rfl|rfl<;>rfl
  ·have hi:i<3:=hi
   rw [hpd i hi]
   have:i=0∨i=1∨i=2:=by omega
   simp only [thL,List.mem_cons,List.not_mem_nil,or_false] at h
   rcases h with rfl|rfl|rfl|rfl<;>rcases this with rfl|rfl|rfl<;>decide
  ·rcases lt2 ht with rfl|rfl
   ·rw [yU];exact hp.1
   ·rw [yM];exact hp.2
theorem yI:(Ic Ub (BJ Ub.p).length).length=4:=by
 have h:(Ic Ub (BJ Ub.p).length).Perm thL:=(List.perm_ext_iff_of_nodup (Xr Ub Ws (Nat.le_refl _)) (by decide)).2 mF
 exact h.length_eq
theorem a6v (l:List Int) (h:Int):H6 Ub l h 2=(let r0:=Tv thP [0,1] l h 2;let r1:=Tv thP [2] l h 1;let A:=if r0.1=true then [(⟨h,0,r0.2⟩:Pos)] else [];if r1.1=true then A++[⟨h,1,r1.2⟩] else A):=by
 have e0:FW Ub l h 0=Tv thP [0,1] l h 2:=by unfold FW;rw [yU];rfl
 have e1:FW Ub l h 1=Tv thP [2] l h 1:=by unfold FW;rw [yM];rfl
 unfold H6 H6 H6
 rw [e0,e1]
 rfl
def thC (l:List Int):Int :=
 let P:=fun h:Int=>(let r0:=Tv thP [0,1] l h 2;let r1:=Tv thP [2] l h 1;let A:=if r0.1=true then [(⟨h,0,r0.2⟩:Pos)] else [];if r1.1=true then A++[⟨h,1,r1.2⟩] else A)
 sD (P 0++P 1) ((P 0++P 1).length-1)
theorem fD (l:List Int):KH Ub l=thC l:=by
 unfold KH a8g
 have:(BJ Ub.p).length=2:=by rw [bU];rfl
 rw [this,a6v,a6v]
 rfl
theorem zQ:thL.map thC=[20,8,8,20]:=by decide +kernel
theorem tH:V7 Ub=some [0,1,1]∧KH Ub [0,1,1]=8:=by
 have c:=zQ
 simp only [thL,List.map_cons,List.map_nil,List.cons.injEq,and_true] at c
 obtain ⟨c0,c1,c2,c3⟩:=c
 refine ⟨TB ⟨(mF _).2 (by simp [thL]),fun h hh=>?_⟩,by rw [fD,c1]⟩
 have:=(mF h).1 hh
 rw [fD,fD,c1]
 simp only [thL,List.mem_cons,List.not_mem_nil,or_false] at this
 rcases this with rfl|rfl|rfl|rfl
 ·rw [c0];exact .inl (by decide)
 ·rw [c1];exact IC _
 ·rw [c2];exact .inr ⟨rfl,by decide⟩
 ·rw [c3];exact .inl (by decide)
end
section
open Go Go.Am Go.Vm Go.Pie Go.Sch
attribute [local irreducible] Aa Ad Af Ac Ba AB BG Au Ap Ah Vm.Done BQ AY Qr Bj CG Ey IJ E5 Hold
attribute [local irreducible] CV Bq Eh DY Ez BH CW
theorem OZ:Am.Enters Tryz.prog 11:=⟨_,Tryz.func11,by kernel_rfl,by kernel_rfl⟩
theorem MC:Am.Enters Tryz.prog 12:=⟨_,Tryz.func12,by kernel_rfl,by kernel_rfl⟩
theorem bJ:Am.Enters Tryz.prog 9:=⟨_,Tryz.func9,by kernel_rfl,by kernel_rfl⟩
theorem jQ (a b:List Int) (ha:a.length<1000000) (hb:b.length<1000000):AB env 21 [.lst 3 (cells a) a.length,.lst 3 (cells b) b.length] (.p (.bool (decide (a=b)))):=by
 by_cases hl:a.length=b.length
 ·refine AB.enter (Aj (by decide)) Tryz.func21 rfl (by kernel_rfl) (by simp [Tryz.ntmps21]) ?_
  repeat' (first|apply Ac.assoc|apply Ac.Ak|apply Ac.Ai|apply Ac.Ag|apply Ad.nil|apply Ad.one|(apply Aa.assign;rfl)|(apply Aa.move;rfl)|(apply Aa.int;rfl;rfl;rfl)|(apply Aa.CX;rfl;rfl)|(apply Ac.Ae;rfl)|(intro _;try (exfalso;omega)))
  all_goals try (exfalso;omega)
  apply Ac.G9 (a.length) (fun k=>∀ i,i<k→gi a i=gi b i) [(0,_),(1,_)] [] (fun k r=>(5,.p (.int .i64 (k:Int)))::r) (fun k r=>r) 0
  ·first|omega|decide
  ·first|omega|decide
  ·exact Rz
  ·exact VZ
  ·first|(intro _ _;omega)|omega|trivial
  ·intro k hk hi
   by_cases h:gi a k=gi b k
   ·repeat' (first|apply Ac.assoc|apply Ac.Ak|apply Ac.Dq|apply Ac.region|apply Ac.Ai|apply Ac.Ag|apply Au.normal|apply Ap.normal|apply Ac.skip|apply Ad.nil|apply Af.nil|apply Ad.one|(apply Af.bar;decide +kernel)|apply Af.quiet|(apply Aa.assign;rfl)|(apply Aa.move;rfl)|(apply Aa.BU;rfl;rfl;omega)|(apply Aa.int;rfl;rfl;rfl)|(apply Aa.AP;rfl;rfl;rfl;omega;rfl)|(apply Aa.load;rfl;rfl)|(apply Aa.CX;rfl;rfl)|(apply Ac.Ae;rfl)|(apply Ac.AZ;rfl)|(intro _;try (exfalso;omega)))
    all_goals try (exfalso;omega)
    all_goals try contradiction
    refine Ah.normal ⟨(fun i hik=>by rcases Nat.lt_or_ge i k with h1|h1;exact hi i h1;rw [show i=k by omega];exact h),by first|omega|decide,?_,?_⟩
    ·exact EJ
    ·exact FM
   ·rw [decide_eq_false (fun e=>h (by rw [e]))]
    repeat' (first|apply Ac.assoc|apply Ac.Ak|apply Ac.Dq|apply Ac.Ai|apply Ac.Ag|apply Au.ret|apply Ap.ret|apply Ah.ret|apply Ac.ret|apply Ad.nil|apply Af.nil|apply Ad.one|(apply Af.bar;decide +kernel)|apply Af.quiet|(apply Aa.assign;rfl)|(apply Aa.move;rfl)|(apply Aa.int;rfl;rfl;rfl)|(apply Aa.AP;rfl;rfl;rfl;omega;rfl)|(apply Aa.load;rfl;rfl)|(apply Aa.CX;rfl;rfl)|(apply Ac.Ae;rfl)|(apply Ac.AZ;rfl)|(intro _;try (exfalso;omega)))
    all_goals first|(exfalso;omega)|contradiction|(refine Done.rt rfl rfl ⟨?_,rfl,rfl⟩;try rfl)
  ·intro hi
   rw [decide_eq_true (JL hl hi)]
   repeat' (first|apply Ac.assoc|apply Ac.Ak|apply Ac.Bl|apply Au.normal|apply Ap.exit|apply Ah.exit|apply Ac.ret|apply Ad.nil|apply Ad.one|(apply Aa.assign;rfl)|(apply Aa.move;rfl)|(apply Aa.int;rfl;rfl;rfl)|(apply Aa.CX;rfl;rfl)|(apply Ac.Ae;rfl)|(intro _;try (exfalso;omega)))
   all_goals first|(exfalso;omega)|contradiction|(refine Done.rt rfl rfl ⟨?_,rfl,rfl⟩;try rfl)
 ·rw [decide_eq_false (fun e=>hl (by rw [e]))]
  refine AB.enter (Aj (by decide)) Tryz.func21 rfl (by kernel_rfl) (by simp [Tryz.ntmps21]) ?_
  repeat' (first|apply Ac.assoc|apply Ac.Ak|apply Ac.BL|apply Ad.nil|apply Ad.one|(apply Aa.assign;rfl)|(apply Aa.move;rfl)|(apply Aa.int;rfl;rfl;rfl)|(apply Aa.CX;rfl;rfl)|(apply Ac.Ae;rfl)|(intro _;try (exfalso;omega)))
  all_goals first|(exfalso;omega)|contradiction|(refine Done.rt rfl rfl ⟨?_,rfl,rfl⟩;try rfl)
theorem b6i:Lib.decDigits 4=[52]:=by rw [Lib.decDigits];rfl
theorem bY:IJ env 9 [] (.p (.bool true)):=by
 have h3:=YF
 have hB:=Xx Ub Ws (by show 3≤12;decide)
 have hC:=Vp Ub Ws (by show 3≤12;decide)
 rw [yI,b6i] at hC
 have hR:XV Ub=.Ee [.p (.agg [.lst 3 (cells ([0,1,1]:List Int)) 3,.int .i64 8]),.p (.int .i64 0)]:=by
  unfold XV
  rw [tH.1]
  show PV.Ee [.p (.agg [.lst 3 (cells ([0,1,1]:List Int)) 3,.int .i64 (KH Ub [0,1,1])]),.p (.int .i64 0)]=_
  rw [tH.2]
 rw [hR] at hB
 have hs:=jQ [0,1,1] [0,1,1] (by show 3<1000000;decide) (by show 3<1000000;decide)
 rw [decide_eq_true rfl] at hs
 refine IJ.enter Tryz.func9 rfl (by kernel_rfl) (by kernel_rfl) (by simp [Tryz.ntmps9]) ?_
 repeat' (first|(refine Bj.at 1 ?_;apply Bj.N8)|(refine Bj.at 2 ?_;apply Bj.N8)|(apply CG.fn;rfl;rfl;exact hB;exact OZ;intro _;rfl)|(apply CG.fn;rfl;rfl;exact hC;exact MC;intro _;rfl)|(refine Ad.JE 21 ?_;refine Ad.ghost (Bo.freeze 20 rfl rfl) ?_)|apply Bj.Ak|apply Bj.ret|apply CG.nil|apply CG.one|apply Ad.nil|apply Ad.one|(apply Ad.take;rfl;rfl)|(apply Aa.fn;rfl;rfl;exact h3;intro _;rfl)|(apply Aa.fn;rfl;rfl;exact hs;intro _;rfl)|(apply Aa.assign;rfl)|(apply Aa.move;rfl)|(apply Aa.int;rfl;rfl;rfl)|(apply Aa.load;rfl;rfl)|(apply Aa.Bc;rfl;rfl)|(apply Aa.Aw;rfl;rfl;rfl)|(apply Aa.alloc;rfl)|(apply Aa.Bd;rfl;rfl;rfl;trivial;rfl;rfl;exact Az rfl;exact le_dec rfl)|(apply Aa.buildSlice;rfl;rfl;rfl;decide;rfl;rfl;rfl)|(apply Aa.eqS;rfl;rfl)|(apply Aa.extract;rfl;rfl))
 all_goals first|(exfalso;omega)|contradiction|(refine Done.rt rfl rfl ⟨?_,rfl,rfl⟩;try rfl)
end
section
open Go Go.Am Go.Vm Go.Pie Go.Sch
attribute [local irreducible] Aa Ad Af Ac Ba AB BG Au Ap Ah Vm.Done BQ AY Qr Bj CG Ey IJ E5 Hold
attribute [local irreducible] CV Bq Eh DY Ez BH CW
def rV (k:Nat):List KG:=Dt (fun i=>⟨0,8,0,40+(i:Int)⟩) k
def MS (k:Nat):Qu:=⟨vK,⟨[0,8],rV k,[]⟩,⟨7,12,0,0⟩⟩
theorem Il (k:Nat):(rV k).length=k:=Dn _ _
theorem Ug {k i:Nat} (h:i<k):gi (rV k) i=⟨0,8,0,40+(i:Int)⟩:=Fb _ h
theorem rQ {k:Nat} (hk:k≤14):Jw (MS k):=a7c _ _ ⟨by decide,by decide,by decide,by decide⟩ (a5k _ (by rw [Il];omega) (fun i hi=>by
 rw [Il] at hi
 rw [Ug hi]
 refine ⟨rfl,?_,by show (0:Int)≤0;decide,by show (0:Int)<8;decide,by show (8:Int)≤8;decide⟩
 show 36≤40+(i:Int)∧40+(i:Int)≤72
 omega) fun i hi j hj=>by
 rw [Il] at hi
 rw [Ug hi,Ug (by omega)]
 unfold yZ
 have:¬ (40+(j:Int)=40+(i:Int)):=by omega
 simp only [decide_eq_false this,Bool.false_and,Bool.and_false])
theorem a8i {k:Nat} (hk:0<k):DN (MS k).p=[0,8]:=by
 refine dU (tJ _) (by unfold Inc;simp) fun x=>?_
 rw [eX,Wh]
 have e1:NG (MS k).p=0:=rfl
 have e2:OH (MS k).p=8:=rfl
 rw [e1,e2]
 simp only [List.mem_cons,List.not_mem_nil,or_false]
 constructor
 ·rintro (h|h|⟨i,hi,h⟩)
  ·exact .inl h
  ·exact .inr h
  ·have hi':i<k:=by rw [← Il k];exact hi
   have e3:gi (MS k).p.notes i=⟨0,8,0,40+(i:Int)⟩:=Ug hi'
   rw [e3] at h
   exact h
 ·rintro (h|h)
  ·exact .inl h
  ·exact .inr (.inl h)
theorem a1l {k:Nat} (hk:0<k):BJ (MS k).p=[⟨0,8,snd (MS k).p 0⟩]:=by
 unfold BJ
 rw [a8i hk]
 rfl
theorem a7s {k:Nat} (hk:0<k):(BJ (MS k).p).length=1:=by rw [a1l hk];rfl
theorem yH {k:Nat} (hk:0<k):Hy (MS k) 0=snd (MS k).p 0:=by
 unfold Hy
 rw [a1l hk];rfl
theorem a4z {k:Nat}:(snd (MS k).p 0).length=k:=by
 have:∀ j,j≤k→Jr (MS k).p 0 j=Dt (fun i=>(i:Int)) j:=by
  intro j
  induction j with
  |zero=>intro _;rfl
  |succ j ih =>
   intro hj
   have hb:VW (MS k).p 0 j=true:=by
    rw [kJ]
    have e3:gi (MS k).p.notes j=⟨0,8,0,40+(j:Int)⟩:=Ug (by omega)
    rw [e3]
    exact ⟨Int.le_refl _,by show (0:Int)<8;decide⟩
   unfold Jr
   rw [if_pos hb,ih (by omega)]
   rfl
 have h1:(MS k).p.notes.length=k:=Il k
 unfold snd
 rw [h1,this k (Nat.le_refl _),Dn]
theorem yh {k i:Nat} (hi:i<k):EZ (MS k) i=false:=by
 unfold EZ
 have e3:gi (MS k).p.notes i=⟨0,8,0,40+(i:Int)⟩:=Ug hi
 rw [e3]
 rfl
theorem a8l {k:Nat} (hk:0<k):(Gs (MS k) (Hy (MS k) 0)).length=k:=by
 have:Gs (MS k) (Hy (MS k) 0)=Hy (MS k) 0:=by
  unfold Gs
  rw [List.filter_eq_self]
  intro x hx
  rw [yH hk,WE] at hx
  obtain ⟨i,hi,rfl,_⟩:=hx
  unfold QN
  rw [show ((i:Int)).toNat=i by omega,yh (k:=k) (by rw [← Il k];exact hi)]
  rfl
 rw [this,yH hk,a4z]
theorem zk {k:Nat} (hk:12<k):jT (MS k)=true:=by
 unfold jT Ef
 rw [a7s (by omega)]
 refine decide_eq_true (Oq (n:=1) (k:=0) ?_ 1 (Nat.le_refl _) (by omega) (by omega))
 refine decide_eq_true ?_
 rw [a8l (by omega)]
 exact hk
def mnL (k:Nat):List Int:=Dt (fun i=>if i<7 then 0 else 1) k
theorem a5e {k:Nat} (hk:10≤k∧k≤12):Iz (MS k) (snd (MS k).p 0) (mnL k)=true:=by
 have:k=10∨k=11∨k=12:=by omega
 rcases this with rfl|rfl|rfl
 ·decide +kernel
 ·decide +kernel
 ·decide +kernel
theorem b3t {k:Nat} (hk:10≤k∧k≤12):mnL k∈Ic (MS k) (BJ (MS k).p).length:=by
 rw [PO _ (rQ (by omega)),a7s (by omega)]
 refine ⟨by show (mnL k).length=(rV k).length;rw [Il];exact Dn _ _,fun i hi=>?_,fun t ht=>?_⟩
 ·have hi:i<k:=by rw [← Il k];exact hi
  rw [yh hi]
  unfold mnL
  rw [Fb _ hi]
  by_cases h:i<7
  ·rw [if_pos h];exact .inl rfl
  ·rw [if_neg h];exact .inr rfl
 ·obtain rfl:t=0:=by omega
  rw [yH (by omega)]
  exact a5e hk
theorem a3z {k:Nat} (hk:0<k) (l:List Int):KH (MS k) l=0:=by
 rw [← Y4,a7s hk]
 show 0+Jq (MS k) 0 st0 l=0
 unfold Jq FQ
 simp [st0]
theorem a2k {k:Nat} (hk:10≤k∧k≤12):∃ l:List Int,XV (MS k)=.Ee [.p (.agg [.lst 3 (cells l) l.length,.int .i64 0]),.p (.int .i64 0)]∧l.length=k∧zI (MS k) l=0:=by
 rcases pU (MS k) with ⟨h,_⟩|⟨l,h1,h2⟩
 ·have:=b3t hk
  rw [h] at this
  cases this
 ·refine ⟨l,?_,?_,(a3q _ (rQ (by omega)) l).2 h2.1⟩
  ·unfold XV
   rw [h1]
   simp only [a3z (show 0<k by omega)]
  ·have:=((PO _ (rQ (k:=k) (by omega)) l).1 h2.1).1
   rw [this]
   exact Il k
theorem X5 (n:Nat) (hn:n<256):IJ env 3 [.int .u8 (n:Int)] (.p (.bool true)):=by
 have hkn:=bY
 have h3:=YF
 have hk:∃ k:Nat,(10:Int)+(n:Int) % 5=(k:Int)∧10≤k∧k≤14:=⟨10+n % 5,by omega,by omega,by omega⟩
 obtain ⟨K,hK,hk1,hk2⟩:=hk
 refine IJ.enter Tryz.func3 rfl (by kernel_rfl) (by kernel_rfl) (by simp [Tryz.ntmps3]) ?_
 repeat' (first|(refine Bj.at 1 ?_;apply Bj.N8)|(refine Bj.at 7 ?_;refine Bj.ghost (Bo.xH 0 5 39 rfl rfl) ?_;first|apply Bj.Ak|apply Bj.Dq)|(apply CG.fn;rfl;rfl;exact hkn;exact bJ;intro _;rfl)|apply Bj.Ak|apply Ey.normal|apply Bj.to|apply Bj.block|apply Bj.skip|(apply Bj.cond_false;rfl)|apply CG.nil|apply CG.one|apply Ad.nil|apply Ad.one|(apply Aa.fn;rfl;rfl;exact h3;intro _;rfl)|(apply Aa.assign;rfl)|(apply Aa.move;rfl)|(apply Aa.BU;rfl;rfl;omega)|(apply Aa.b4v;rfl;rfl;omega;omega)|(apply Aa.Aw;rfl;rfl;rfl)|(apply Aa.alloc;rfl)|(apply Aa.Bd;rfl;rfl;rfl;trivial;rfl;rfl;exact Az rfl;exact le_dec rfl)|(apply Aa.build;rfl;rfl;rfl;rfl;rfl)|(apply Aa.not;rfl)|(apply Aa.a2a;rfl;rfl;rfl;rfl;omega))
 all_goals try (exfalso;omega)
 all_goals try contradiction
 refine Bj.nU ?_
 apply Ac.Kt (K) [(3,_),(4,_)] [] (fun k r=>(5,.p (.int .i64 (k:Int)))::r) (fun k r=>(1,.vec 39 (cells (rV k)) (rV k).length true)::(0,.box 36 ((Enc.enc vK).map .p++[.p (.lst 3 (cells ([0,8]:List Int)) 2),.vec 1 (rV k).length 0 (rV k).length,.p (.lst 182 (cells ([]:List o9)) 0),.p (.int .i64 7),.p (.int .i64 12),.p (.int .i64 0),.p (.int .i64 0)]))::r) 2
 ·first|omega|decide
 ·first|omega|decide
 ·exact Rz
 ·exact VZ
 ·intro k hk
  have hl:=Il k
  have e1:rV (k+1)=rV k++[⟨0,8,0,40+(k:Int)⟩]:=rfl
  have e2:(rV (k+1)).length=(rV k).length+1:=by rw [e1];simp
  repeat' (first|apply Ac.assoc|apply Ac.Ak|apply Ac.region|apply Ac.Ai|apply Ac.Ag|apply Au.normal|apply Ap.normal|apply Ad.nil|apply Ad.one|(apply Aa.MO (a:=(⟨0,8,0,40+(k:Int)⟩:KG));rfl;rfl;rfl;rfl;rfl;rfl;rfl;rfl;(intro _ h;cases h);rfl;rfl;rfl;decide;decide;(first|omega|(simp only [List.length_take,List.length_drop,List.length_append,List.length_singleton,List.length_cons,List.length_nil]<;>omega)))|(apply Aa.assign;rfl)|(apply Aa.move;rfl)|(apply Aa.BU;rfl;rfl;omega)|(apply Aa.int;rfl;rfl;rfl)|(apply Aa.load;rfl;rfl)|(apply Aa.Aw;rfl;rfl;rfl)|(apply Aa.Bd;rfl;rfl;rfl;trivial;rfl;rfl;exact Az rfl;exact le_dec rfl)|(apply Aa.build;rfl;rfl;rfl;rfl;rfl)|(apply Aa.buildSlice;rfl;rfl;rfl;decide;rfl;rfl;rfl)|(apply Ac.Ae;rfl)|(intro _;try (exfalso;omega)))
  all_goals try (exfalso;omega)
  refine Ah.normal ⟨by first|omega|decide,?_,?_⟩
  ·try (rw [e2,e1])
   exact EJ
  ·rw [e2,e1]
   exact FM
 ·have hl:=Il K
  have hq:=rQ hk2
  by_cases h12:12<K
  ·have hB:=IJ.nU (ny (MS K) hq (zk h12))
   have hC:=IJ.nU (jV (MS K) hq (zk h12))
   repeat' (first|(refine Bj.at 12 ?_;apply Bj.N8)|(apply CG.fn;rfl;rfl;exact hB;exact OZ;intro _;rfl)|(apply CG.fn;rfl;rfl;exact hC;exact MC;intro _;rfl)|((refine Bj.at 11 ?_;refine Bj.ghost (Bo.Xk 0 5 rfl rfl rfl) ?_;apply Bj.N8))|apply Bj.Ak|apply Ey.normal|apply Ey.ret|apply Bj.to|apply Bj.ret|(apply Bj.AZ;rfl)|apply CG.nil|apply CG.one|apply Ac.assoc|apply Ac.Ak|apply Ac.Bl|apply Ap.exit|apply Ah.exit|apply Ad.nil|apply Ad.one|(apply Ad.take;rfl;rfl)|(apply Aa.assign;rfl)|(apply Aa.move;rfl)|(apply Aa.int;rfl;rfl;rfl)|(apply Aa.load;rfl;rfl)|(apply Aa.Bc;rfl;rfl)|(apply Aa.a7u;rfl;rfl)|(apply Aa.Aw;rfl;rfl;rfl)|(apply Aa.alloc;rfl)|(apply Aa.Bd;rfl;rfl;rfl;trivial;rfl;rfl;exact Az rfl;exact le_dec rfl)|(apply Aa.eqS;rfl;rfl)|(apply Aa.extract;rfl;rfl)|(apply Ac.Ae;rfl)|(intro _;try (exfalso;omega)))
   all_goals first|(exfalso;omega)|contradiction|(refine Done.rt rfl rfl ⟨?_,rfl,rfl⟩;try rfl)
  ·obtain ⟨l,hb,hll,hle⟩:=a2k (k:=K) ⟨hk1,by omega⟩
   have hB:=Xx (MS K) hq (by show (rV K).length≤12;omega)
   have hC:=Vp (MS K) hq (by show (rV K).length≤12;omega)
   have hL:=nV (MS K) hq l (by omega)
   rw [hle] at hL
   rw [hb] at hB
   generalize Lib.decDigits (Ic (MS K) (BJ (MS K).p).length).length=dd at *
   repeat' (first|(refine Bj.at 12 ?_;apply Bj.N8)|(apply CG.fn;rfl;rfl;exact hB;exact OZ;intro _;rfl)|(apply CG.fn;rfl;rfl;exact hC;exact MC;intro _;rfl)|((refine Bj.at 11 ?_;refine Bj.ghost (Bo.Xk 0 5 rfl rfl rfl) ?_;apply Bj.N8))|apply Bj.Ak|apply Ey.normal|apply Bj.to|apply Bj.ret|apply Bj.skip|(apply Bj.AZ;rfl)|apply CG.nil|apply CG.one|apply Ac.assoc|apply Ac.Ak|apply Ac.Bl|apply Ap.exit|apply Ah.exit|apply Ad.nil|apply Ad.one|(apply Ad.take;rfl;rfl)|(apply Ad.guard;rfl;rfl)|(apply Aa.fn;rfl;rfl;exact hL;intro _;rfl)|(apply Aa.assign;rfl)|(apply Aa.move;rfl)|(apply Aa.int;rfl;rfl;rfl)|(apply Aa.load;rfl;rfl)|(apply Aa.Bc;rfl;rfl)|(apply Aa.CX;rfl;rfl)|(apply Aa.Aw;rfl;rfl;rfl)|(apply Aa.alloc;rfl)|(apply Aa.Bd;rfl;rfl;rfl;trivial;rfl;rfl;exact Az rfl;exact le_dec rfl)|(apply Aa.extract;rfl;rfl)|(apply Ac.Ae;rfl)|(intro _;try (exfalso;omega)))
   all_goals first|(exfalso;omega)|contradiction|(refine Done.rt rfl rfl ⟨?_,rfl,rfl⟩;try rfl)
end
end Go.Proofs.YtnjkoebfgcbbdaaGreatDoor
