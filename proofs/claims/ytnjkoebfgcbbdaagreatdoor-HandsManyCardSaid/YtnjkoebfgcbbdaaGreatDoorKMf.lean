/-
  Texts of a proof, merged (HanI, HanJ, HanK, Wm1, Wm3, HanL, PieT, PieU, PieS, TraA, PieN, PieO, RkQ, OrK, OrP, PieV, PieY, Sch, HanP, Wm2, Wm4, HanM, Vm45, HanQ, Wm5). Conditions: in each statement.
-/
import Derived.Maps.RangeRun
import Derived.Test.YtnjkoebfgcbbdaaGreatDoorKMe
set_option linter.unusedSimpArgs false
set_option linter.unusedVariables false
set_option linter.unusedSectionVars false
set_option maxRecDepth 100000
set_option maxHeartbeats 8000000
namespace Go.Proofs.YtnjkoebfgcbbdaaGreatDoor
section
open Go Go.Am Go.Vm Go.Pie
attribute [local irreducible] Aa Ad Af Ac Ba AB BG Au Ap Ah Vm.Done BQ AY Qr
attribute [local irreducible] CV Bq Eh DY Ez BH CW
def Uy (q:Qu) (l:List Int) (i:Nat):Bool:=decide (0≤gi l i)&&decide (gi l i≤2)&&!(EZ q i != decide (gi l i=2))
theorem ZI {q:Qu} {l:List Int} {i:Nat} (h:Uy q l i=true):0≤gi l i∧gi l i≤2∧(EZ q i != decide (gi l i=2))=false:=by
 unfold Uy at h
 simp only [Bool.and_eq_true,decide_eq_true_eq,Bool.not_eq_true'] at h
 exact ⟨h.1.1,h.1.2,h.2⟩
theorem qI {q:Qu} {l:List Int} {i:Nat} (h:Uy q l i=false):gi l i<0∨2<gi l i∨(0≤gi l i∧gi l i≤2∧(EZ q i != decide (gi l i=2))=true):=by
 unfold Uy at h
 by_cases h1:0≤gi l i
 ·by_cases h2:gi l i≤2
  ·rw [decide_eq_true h1,decide_eq_true h2] at h
   simp only [Bool.true_and,Bool.not_eq_false'] at h
   exact .inr (.inr ⟨h1,h2,h⟩)
  ·exact .inr (.inl (by omega))
 ·exact .inl (by omega)
def VQ (q:Qu) (l:List Int):Int:=if l.length=q.p.notes.length then if Ef (fun i=>!Uy q l i) l.length=-1 then 0 else 12 else 5
theorem zX (q:Qu) (hq:Jw q) (l:List Int) (hll:l.length<1000000):AB env 44 [.agg (Enc.enc q),.lst 3 (cells l) l.length] (.p (.int .i64 (VQ q l))):=by
 have hc:=Jl q hq.o.sm hq.p.sm
 rw [Xt hq] at hc
 unfold VQ
 by_cases hl:l.length=q.p.notes.length
 ·rw [if_pos hl]
  generalize hP:(fun i=>!Uy q l i)=P at *
  have hPk:∀ k,P k=!Uy q l k:=fun k=>by rw [← hP]
  refine AB.enter (Aj (by decide)) Tryz.func44 rfl (by kernel_rfl) (by simp [Tryz.ntmps44]) ?_
  repeat' (first|apply Ac.assoc|apply Ac.Ak|apply Ac.Ai|apply Ac.Ag|apply Ad.nil|apply Ad.one|(apply Aa.fn;rfl;rfl;exact hc;intro _;rfl)|(apply Aa.assign;rfl)|(apply Aa.move;rfl)|(apply Aa.int;rfl;rfl;rfl)|(apply Aa.load;rfl;rfl)|(apply Aa.CX;rfl;rfl)|(apply Aa.Aw;rfl;rfl;rfl)|(apply Aa.box;rfl;trivial)|(apply Ac.Aq;rfl)|(apply Ac.Ae;rfl)|(intro _;try (exfalso;omega)))
  all_goals try (exfalso;omega)
  all_goals try contradiction
  apply Ac.G9 (l.length) (fun k=>VB P l.length (l.length-k)=Ef P l.length) [(2,_),(20,_),(21,_)] [(0,_)] (fun k r=>(22,.p (.int .i64 (k:Int)))::r) (fun k r=>r) 1
  ·first|omega|decide
  ·first|omega|decide
  ·exact Rz
  ·exact VZ
  ·first|(intro _ _;omega)|omega|trivial
  ·intro k hk hi
   have hC:=Nj q hq k (by omega)
   cases hp:Uy q l k with
   |true =>
    obtain ⟨g1,g2,hb⟩:=ZI hp
    have hp':P k=false:=by rw [hPk,hp];rfl
    repeat' (first|apply Ac.Ak|apply Ac.region|apply Ac.Ai|apply Ac.Ag|apply Au.normal|apply Ap.normal|apply Ac.skip|apply Ad.nil|apply Ad.one|(apply Ad.take;rfl;rfl)|(apply Ad.guard;rfl;rfl)|(apply Aa.SX hC;rfl;rfl;exact .of_eq rfl;exact CZ.AO rfl)|(apply Aa.b3c;rfl;rfl;rfl;exact hb)|(apply Aa.assign;rfl)|(apply Aa.move;rfl)|(apply Aa.BU;rfl;rfl;omega)|(apply Aa.int;rfl;rfl;rfl)|(apply Aa.AP;rfl;rfl;rfl;omega;rfl)|(apply Aa.load;rfl;rfl)|(apply Aa.AL;rfl;rfl)|(apply Ac.Ae;rfl)|(apply Ac.cond_false;rfl)|(intro _;try (exfalso;omega)))
    all_goals try (exfalso;omega)
    all_goals try contradiction
    refine Ah.normal ⟨((Rw hk hp').symm.trans hi),by first|omega|decide,?_,?_⟩
    ·exact EJ
    ·exact FM
   |false =>
    have hp':P k=true:=by rw [hPk,hp];rfl
    have e1:Ef P l.length=(k:Int):=by rw [← hi,WR hk hp']
    rw [if_neg (by rw [e1];omega)]
    rcases qI hp with g|g|⟨g1,g2,hb⟩
    all_goals
     repeat' (first|apply Ac.Ak|apply Ac.Ai|apply Ac.Ag|apply Au.ret|apply Ap.ret|apply Ah.ret|apply Ac.ret|apply Ad.nil|apply Ad.one|(apply Ad.take;rfl;rfl)|(apply Ad.drop;rfl;rfl;rfl)|(apply Ad.guard;rfl;rfl)|(apply Aa.SX hC;rfl;rfl;exact .of_eq rfl;exact CZ.AO rfl)|(apply Aa.b3c;rfl;rfl;rfl;exact hb)|(apply Aa.assign;rfl)|(apply Aa.move;rfl)|(apply Aa.int;rfl;rfl;rfl)|(apply Aa.AP;rfl;rfl;rfl;omega;rfl)|(apply Aa.load;rfl;rfl)|(apply Aa.Bc;rfl;rfl)|(apply Aa.AL;rfl;rfl)|(apply Ac.Ae;rfl)|(apply Ac.cond_true;rfl)|(intro _;try (exfalso;omega)))
    all_goals first|(exfalso;omega)|contradiction|(refine Done.rt rfl rfl ⟨?_,rfl,rfl⟩;try rfl)
  ·intro hi
   have e1:Ef P l.length=-1:=by rw [← hi,Nat.sub_self];rfl
   rw [if_pos e1]
   repeat' (first|apply Ac.Ak|apply Ac.Bl|apply Au.normal|apply Ap.exit|apply Ah.exit|apply Ac.ret|apply Ad.nil|apply Ad.one|(apply Aa.assign;rfl)|(apply Aa.int;rfl;rfl;rfl)|(apply Ac.Ae;rfl)|(intro _;try (exfalso;omega)))
   all_goals first|(exfalso;omega)|(refine Done.rt rfl rfl ⟨?_,rfl,rfl⟩;try rfl)
 ·rw [if_neg hl]
  refine AB.enter (Aj (by decide)) Tryz.func44 rfl (by kernel_rfl) (by simp [Tryz.ntmps44]) ?_
  repeat' (first|apply Ac.assoc|apply Ac.Ak|apply Ac.Ai|apply Ac.BL|apply Ad.nil|apply Ad.one|(apply Aa.fn;rfl;rfl;exact hc;intro _;rfl)|(apply Aa.assign;rfl)|(apply Aa.move;rfl)|(apply Aa.int;rfl;rfl;rfl)|(apply Aa.load;rfl;rfl)|(apply Aa.CX;rfl;rfl)|(apply Aa.Aw;rfl;rfl;rfl)|(apply Aa.box;rfl;trivial)|(apply Ac.Aq;rfl)|(apply Ac.Ae;rfl)|(intro _;try (exfalso;omega)))
  all_goals first|(exfalso;omega)|contradiction|(refine Done.rt rfl rfl ⟨?_,rfl,rfl⟩;try rfl)
def zI (q:Qu) (l:List Int):Int:=if VQ q l=0 then if 0≤mW q l then 24 else 0 else VQ q l
theorem lQ {q:Qu} {l:List Int} (h:VQ q l=0):l.length=q.p.notes.length:=by
 unfold VQ at h
 split at h
 ·assumption
 ·cases h
theorem nV (q:Qu) (hq:Jw q) (l:List Int) (hll:l.length<1000000):AB env 13 [.agg (Enc.enc q),.lst 3 (cells l) l.length] (.p (.int .i64 (zI q l))):=by
 have hc:=zX q hq l hll
 unfold zI
 by_cases h:VQ q l=0
 ·have hf:=Zd q hq l (lQ h)
  rw [if_pos h]
  rw [h] at hc
  generalize mW q l=c at *
  by_cases h2:0≤c
  ·rw [if_pos h2]
   refine AB.enter (Aj (by decide)) Tryz.func13 rfl (by kernel_rfl) (by simp [Tryz.ntmps13]) ?_
   repeat' (first|apply Ac.assoc|apply Ac.Ak|apply Ac.Ai|apply Ac.BL|apply Ad.nil|apply Ad.one|(apply Aa.fn;rfl;rfl;exact hc;intro _;rfl)|(apply Aa.fn;rfl;rfl;exact hf;intro _;rfl)|(apply Aa.assign;rfl)|(apply Aa.move;rfl)|(apply Aa.int;rfl;rfl;rfl)|(apply Aa.load;rfl;rfl)|(apply Aa.box;rfl;trivial)|(apply Ac.Aq;rfl)|(apply Ac.Ae;rfl)|(intro _;try (exfalso;omega)))
   all_goals first|(exfalso;omega)|contradiction|(refine Done.rt rfl rfl ⟨?_,rfl,rfl⟩;try rfl)
  ·rw [if_neg h2]
   refine AB.enter (Aj (by decide)) Tryz.func13 rfl (by kernel_rfl) (by simp [Tryz.ntmps13]) ?_
   repeat' (first|apply Ac.assoc|apply Ac.Ak|apply Ac.Ai|apply Ac.ret|apply Ad.nil|apply Ad.one|(apply Aa.fn;rfl;rfl;exact hc;intro _;rfl)|(apply Aa.fn;rfl;rfl;exact hf;intro _;rfl)|(apply Aa.assign;rfl)|(apply Aa.move;rfl)|(apply Aa.int;rfl;rfl;rfl)|(apply Aa.load;rfl;rfl)|(apply Aa.box;rfl;trivial)|(apply Ac.Aq;rfl)|(apply Ac.Ae;rfl)|(intro _;try (exfalso;omega)))
   all_goals first|(exfalso;omega)|contradiction|(refine Done.rt rfl rfl ⟨?_,rfl,rfl⟩;try rfl)
 ·rw [if_neg h]
  generalize VQ q l=c at *
  refine AB.enter (Aj (by decide)) Tryz.func13 rfl (by kernel_rfl) (by simp [Tryz.ntmps13]) ?_
  repeat' (first|apply Ac.assoc|apply Ac.Ak|apply Ac.BL|apply Ad.nil|apply Ad.one|(apply Aa.fn;rfl;rfl;exact hc;intro _;rfl)|(apply Aa.assign;rfl)|(apply Aa.move;rfl)|(apply Aa.int;rfl;rfl;rfl)|(apply Aa.load;rfl;rfl)|(apply Aa.box;rfl;trivial)|(apply Ac.Ae;rfl)|(intro _;try (exfalso;omega)))
  all_goals first|(exfalso;omega)|contradiction|(refine Done.rt rfl rfl ⟨?_,rfl,rfl⟩;try rfl)
end
section
open Go Go.Am Go.Vm Go.Pie
attribute [local irreducible] Aa Ad Af Ac Ba AB BG Au Ap Ah Vm.Done BQ AY Qr
attribute [local irreducible] CV Bq Eh DY Ez BH CW
def tK (a b:Ul):Int:=max (a.k-b.k) (b.k-a.k)+if a.d=b.d then 0 else 12
def Ul.Ok (a:Ul):Prop:=0≤a.k∧a.k≤127
theorem Wq {a b:Ul} (ha:a.Ok) (hb:b.Ok):0≤tK a b∧tK a b≤139:=by
 obtain ⟨a1,a2⟩:=ha
 obtain ⟨b1,b2⟩:=hb
 unfold tK
 split<;>omega
theorem ZP (a b:Ul) (ha:a.Ok) (hb:b.Ok):AB env 57 [.agg (Enc.enc a),.agg (Enc.enc b)] (.p (.int .i64 (tK a b))):=by
 obtain ⟨a1,a2⟩:=ha
 obtain ⟨b1,b2⟩:=hb
 unfold tK
 by_cases h:a.d=b.d
 ·rw [if_pos h,Int.add_zero]
  refine AB.enter (Aj (by decide)) Tryz.func57 rfl (by kernel_rfl) (by simp [Tryz.ntmps57]) ?_
  repeat' (first|apply Ac.assoc|apply Ac.Ak|apply Ac.Ai|apply Ac.ret|apply Ad.nil|apply Ad.one|(apply Aa.assign;rfl)|(apply Aa.move;rfl)|(apply Aa.Jv;rfl;rfl;omega)|(apply Aa.int;rfl;rfl;rfl)|(apply Aa.load;rfl;rfl)|(apply Aa.Aw;rfl;rfl;rfl)|(apply Aa.box;rfl;trivial)|(apply Aa.a8w;rfl;rfl)|(apply Ac.Ae;rfl)|(intro _;try (exfalso;omega)))
  all_goals first|(exfalso;omega)|contradiction|(refine Done.rt rfl rfl ⟨?_,rfl,rfl⟩;try rfl)
 ·rw [if_neg h]
  refine AB.enter (Aj (by decide)) Tryz.func57 rfl (by kernel_rfl) (by simp [Tryz.ntmps57]) ?_
  repeat' (first|apply Ac.assoc|apply Ac.Ak|apply Ac.ret|apply Ad.nil|apply Ad.one|(apply Aa.assign;rfl)|(apply Aa.move;rfl)|(apply Aa.BU;rfl;rfl;omega)|(apply Aa.Jv;rfl;rfl;omega)|(apply Aa.int;rfl;rfl;rfl)|(apply Aa.load;rfl;rfl)|(apply Aa.Aw;rfl;rfl;rfl)|(apply Aa.box;rfl;trivial)|(apply Aa.a8w;rfl;rfl)|(apply Ac.Ae;rfl)|(intro _;try (exfalso;omega)))
  all_goals first|(exfalso;omega)|contradiction|(refine Done.rt rfl rfl ⟨?_,rfl,rfl⟩;try rfl)
structure Pos where
 h:Int
 i:Int
 c:Ul
deriving DecidableEq
instance:Enc Pos:={ default:=⟨0,0,⟨0,0⟩⟩,enc:=fun x=>[.int .i64 x.h,.int .i64 x.i,.int .i64 x.c.d,.int .i64 x.c.k],size:=4,len:=fun _=>rfl }
def FW (q:Qu) (l:List Int) (h:Int) (i:Nat):Bool×Ul:=Tv q.p (Hy q i) l h (Hy q i).length
def H6 (q:Qu) (l:List Int) (h:Int):Nat→List Pos
 |0=>[]
 |k+1=>if (FW q l h k).1=true then H6 q l h k++[⟨h,k,(FW q l h k).2⟩] else H6 q l h k
def a8g (q:Qu) (l:List Int):List Pos:=H6 q l 0 (BJ q.p).length++H6 q l 1 (BJ q.p).length
def sD (L:List Pos):Nat→Int
 |0=>0
 |k+1=>if (gi L (k+1)).h=(gi L k).h then sD L k+tK (gi L k).c (gi L (k+1)).c else sD L k
def KH (q:Qu) (l:List Int):Int:=sD (a8g q l) ((a8g q l).length-1)
theorem Xf {q:Qu} (hq:Jw q) {N:List Int} (hN:iW q N) (l:List Int) (h:Int):∀ k,k≤N.length→(Tv q.p N l h k).2.Ok
 |0,_=>⟨Int.le_refl _,by show (0:Int)≤127;omega⟩
 |k+1,hk=>by
  have ih:=Xf hq hN l h k (by omega)
  obtain ⟨g1,g2⟩:=hN k (by omega)
  have hh:=hq.p.note (gi N k).toNat (by omega)
  have h1:=hq.o.cmp (i:=(gi q.p.notes (gi N k).toNat).d.toNat) (by have:=hh.d;omega)
  have h2:=hh.k
  unfold Tv
  split
  ·exact ⟨by show 0≤(gi q.p.notes (gi N k).toNat).k;omega,by show (gi q.p.notes (gi N k).toNat).k≤127;omega⟩
  ·exact ih
end
section
open Go Go.Am Go.Vm Go.Pie
attribute [local irreducible] Aa Ad Af Ac Ba AB BG Au Ap Ah Vm.Done BQ AY Qr
attribute [local irreducible] CV Bq Eh DY Ez BH CW
def Uu (q:Qu) (k:Nat):List Int:=Dt (fun i=>if i<k∧EZ q i=true then 2 else 0) q.p.notes.length
def LH (q:Qu):List Int:=Uu q q.p.notes.length
theorem LY (q:Qu) (k:Nat):(Uu q k).length=q.p.notes.length:=Dn _ _
theorem Zy (q:Qu):∀ n,List.replicate n (0:Int)=Dt (fun i=>if i<0∧EZ q i=true then (2:Int) else 0) n
 |0=>rfl
 |n+1=>by
  rw [List.replicate_succ',Zy q n]
  rfl
theorem a0o (q:Qu) {k:Nat} (hk:k<q.p.notes.length) (h:EZ q k=true):(Uu q k).set k 2=Uu q (k+1):=by
 refine JL (by rw [List.length_set,LY,LY]) fun i hi=>?_
 rw [List.length_set,LY] at hi
 unfold Uu
 rw [GZ,Fb _ hi,Fb _ hi,Dn]
 by_cases e:k=i
 ·subst e;rw [if_pos ⟨rfl,hi⟩,if_pos ⟨by omega,h⟩]
 ·rw [if_neg (fun h=>e h.1)]
  by_cases h2:i<k
  ·by_cases h3:EZ q i=true
   ·rw [if_pos ⟨h2,h3⟩,if_pos ⟨by omega,h3⟩]
   ·rw [if_neg (fun h=>h3 h.2),if_neg (fun h=>h3 h.2)]
  ·rw [if_neg (fun h=>h2 h.1),if_neg (fun h=>by omega)]
theorem xA (q:Qu) {k:Nat} (h:EZ q k=false):Uu q k=Uu q (k+1):=by
 unfold Uu
 refine KQ fun i _=>?_
 by_cases h3:EZ q i=true
 ·have e:i≠k:=fun e=>by subst e;rw [h] at h3;cases h3
  by_cases h2:i<k
  ·rw [if_pos ⟨h2,h3⟩,if_pos ⟨by omega,h3⟩]
  ·rw [if_neg (fun h=>h2 h.1),if_neg (fun h=>by omega)]
 ·rw [if_neg (fun h=>h3 h.2),if_neg (fun h=>h3 h.2)]
theorem YN (q:Qu) (hq:Jw q):AB env 37 [.agg (Enc.enc q)] (.p (.lst 3 (cells (LH q)) (LH q).length)):=by
 have n1:=hq.p.notes
 have hB:(LH q).length=q.p.notes.length:=LY _ _
 rw [hB]
 have hz:List.replicate q.p.notes.length (0:Int)=Uu q 0:=Zy q _
 refine AB.enter (Aj (by decide)) Tryz.func37 rfl (by kernel_rfl) (by simp [Tryz.ntmps37]) ?_
 repeat' (first|apply Ac.assoc|apply Ac.Ak|apply Ac.Ag|apply Ad.nil|apply Ad.one|(apply Aa.QO q.p.notes.length (0:Int);rfl;rfl;rfl;rfl;rfl;rfl;rfl;omega;decide;decide;rfl)|(apply Aa.assign;rfl)|(apply Aa.move;rfl)|(apply Aa.load;rfl;rfl)|(apply Aa.CX;rfl;rfl)|(apply Aa.lenV;rfl;rfl;rfl)|(apply Aa.Aw;rfl;rfl;rfl)|(apply Aa.box;rfl;trivial))
 all_goals try (exfalso;omega)
 rw [hz]
 apply Ac.Kt (q.p.notes.length) [(1,_),(3,_),(11,_)] [(0,_)] (fun k r=>(12,.p (.int .i64 (k:Int)))::r) (fun k r=>(1,.vec 3 (cells (Uu q k)) q.p.notes.length false)::r) 2
 ·first|omega|decide
 ·first|omega|decide
 ·exact Rz
 ·exact VZ
 ·intro k hk
  have hC:=Nj q hq k hk
  have hl:=LY q k
  cases hp:EZ q k with
  |true =>
   have e1:=a0o q hk hp
   rw [hp] at hC
   repeat' (first|apply Ac.Ak|apply Ac.region|apply Ac.Ai|apply Ac.Ag|apply Au.normal|apply Ap.normal|apply Ad.nil|apply Ad.one|(apply Aa.SX hC;rfl;rfl;exact .of_eq rfl;exact CZ.AO rfl)|(apply Aa.EY (l:=Uu q k) (i:=k);rfl;rfl;rfl;rfl;omega)|(apply Aa.Nh (l:=Uu q k) (i:=k) (y:=(2:Int));rfl;rfl;rfl;trivial;rfl;rfl;rfl;decide;omega)|(apply Aa.assign;rfl)|(apply Aa.move;rfl)|(apply Aa.BU;rfl;rfl;omega)|(apply Aa.int;rfl;rfl;rfl)|(apply Aa.load;rfl;rfl)|(apply Ac.Ae;rfl)|(apply Ac.cond_true;rfl)|(intro _;try (exfalso;omega)))
   all_goals try (exfalso;omega)
   all_goals try contradiction
   refine Ah.normal ⟨by first|omega|decide,?_,?_⟩
   ·try (rw [← e1])
    exact EJ
   ·rw [← e1]
    exact FM
  |false =>
   have e1:=xA q hp
   rw [hp] at hC
   repeat' (first|apply Ac.Ak|apply Ac.region|apply Ac.Ai|apply Ac.Ag|apply Au.normal|apply Ap.normal|apply Ac.skip|apply Ad.nil|apply Ad.one|(apply Aa.SX hC;rfl;rfl;exact .of_eq rfl;exact CZ.AO rfl)|(apply Aa.assign;rfl)|(apply Aa.move;rfl)|(apply Aa.BU;rfl;rfl;omega)|(apply Aa.int;rfl;rfl;rfl)|(apply Aa.load;rfl;rfl)|(apply Ac.Ae;rfl)|(apply Ac.cond_false;rfl)|(intro _;try (exfalso;omega)))
   all_goals try (exfalso;omega)
   all_goals try contradiction
   refine Ah.normal ⟨by first|omega|decide,?_,?_⟩
   ·try (rw [← e1])
    exact EJ
   ·rw [← e1]
    exact FM
 ·repeat' (first|(refine Ad.JE 2 ?_;refine Ad.ghost (Bo.freeze 22 rfl rfl) ?_)|apply Ac.Ak|apply Ac.Bl|apply Au.normal|apply Ap.exit|apply Ah.exit|apply Ac.ret|apply Ad.nil|apply Ad.one|(apply Aa.assign;rfl)|(apply Aa.move;rfl)|(apply Aa.int;rfl;rfl;rfl)|(apply Ac.Ae;rfl)|(intro _;try (exfalso;omega)))
  all_goals first|(exfalso;omega)|(refine Done.rt rfl rfl ⟨?_,rfl,rfl⟩;try rfl)
theorem oW {H:Heap} {nx k:Nat} {e:TypeId} {cs:List FV} {o:Option PV} (h:o=some (.p (.lst e cs k))):∃ y,o=some y∧(∀ m F σ v,RP m F (htag H) σ nx y v→∃ a g,v=.slice a k g):=by
 refine ⟨_,h,fun m F σ v hr=>?_⟩
 cases hr with
 |p hr=>cases hr<;>exact ⟨_,_,rfl⟩
def aQ (N l:List Int):Nat→List UInt8
 |0=>[]
 |k+1=>aQ N l k++[UInt8.ofNat (gi l (gi N k).toNat).toNat]
theorem SC (N l:List Int):∀ k,(aQ N l k).length=k
 |0=>rfl
 |k+1=>by
  show (aQ N l k++[_]).length=k+1
  rw [List.length_append,SC N l k];rfl
def NW (N l:List Int):List UInt8:=aQ N l N.length
theorem lZ (q:Qu) (s:Zv) (hN:iW q s.notes) (hNl:s.notes.length≤1000) (l:List Int) (hl:l.length=q.p.notes.length) (hr:∀ i,i<l.length→0≤gi l i∧gi l i≤2):AB env 42 [.agg (Enc.enc q),.agg (Enc.enc s),.lst 3 (cells l) l.length] (st (NW s.notes l)):=by
 unfold NW
 refine AB.enter (Aj (by decide)) Tryz.func42 rfl (by kernel_rfl) (by simp [Tryz.ntmps42]) ?_
 repeat' (first|(refine Ac.at 2 ?_;refine Ac.ghost (Bo.adopt 7 5 rfl) ?_;first|apply Ac.Ak|apply Ac.Dq)|apply Ac.assoc|apply Ac.Ak|apply Ac.Ag|apply Ad.nil|apply Ad.one|(apply Aa.assign;rfl)|(apply Aa.move;rfl)|(apply Aa.load;rfl;rfl)|(apply Aa.CX;rfl;rfl)|(apply Aa.Aw;rfl;rfl;rfl)|(apply Aa.box;rfl;trivial))
 all_goals try (exfalso;omega)
 apply Ac.Kt (s.notes.length) [(2,_),(11,_),(12,_)] [] (fun k r=>(13,.p (.int .i64 (k:Int)))::(7,.vec 2 (aQ s.notes l k).length 0 (aQ s.notes l k).length)::r) (fun k r=>(2,.vec 5 (cells (aQ s.notes l k)) (aQ s.notes l k).length true)::r) 3
 ·first|omega|decide
 ·first|omega|decide
 ·exact Rz
 ·exact VZ
 ·intro k hk
  obtain ⟨g1,g2⟩:=hN k hk
  obtain ⟨m,hm⟩:∃ m:Nat,gi s.notes k=(m:Int):=⟨(gi s.notes k).toNat,by omega⟩
  have hm2:m<l.length:=by omega
  obtain ⟨r1,r2⟩:=hr m hm2
  have e1:aQ s.notes l (k+1)=aQ s.notes l k++[UInt8.ofNat (gi l m).toNat]:=by rw [← Int.toNat_natCast m,← hm];rfl
  have e2:(aQ s.notes l (k+1)).length=(aQ s.notes l k).length+1:=by rw [e1,List.length_append];rfl
  have e3:=SC s.notes l k
  have hb:(((UInt8.ofNat (gi l m).toNat).toNat:Nat):Int)=gi l m:=by rw [UInt8.toNat_ofNat'];omega
  generalize aQ s.notes l k=X at *
  rw [e2,e1]
  have he:[FV.int .u8 (gi l m)]=Enc.enc (UInt8.ofNat (gi l m).toNat):=by
   show _=[FV.int .u8 (((UInt8.ofNat (gi l m).toNat).toNat:Nat):Int)]
   rw [hb]
  repeat' (first|apply Ac.Ak|apply Ac.region|apply Ac.Ai|apply Ac.Ag|apply Au.normal|apply Ap.normal|apply Ad.nil|apply Ad.one|(apply Aa.AP (l:=l) (i:=m);rfl;exact congrArg (fun b=>some (PV.p (.int .i64 b))) hm;rfl;omega;rfl)|(apply Aa.b2o;rfl;rfl;rfl;rfl;exact ⟨r1,by omega⟩)|(apply Aa.MO (l:=X) (a:=UInt8.ofNat (gi l m).toNat);rfl;rfl;rfl;rfl;exact he;rfl;rfl;rfl;(intro _ h;cases h);rfl;rfl;rfl;decide;decide;omega)|(apply Aa.assign;rfl)|(apply Aa.move;rfl)|(apply Aa.BU;rfl;rfl;omega)|(apply Aa.int;rfl;rfl;rfl)|(apply Aa.AP;rfl;rfl;rfl;omega;rfl)|(apply Aa.load;rfl;rfl)|(apply Aa.buildSlice;rfl;rfl;rfl;decide;rfl;rfl;rfl)|(apply Ac.Ae;rfl)|(intro _;try (exfalso;omega)))
  all_goals try (exfalso;omega)
  refine Ah.normal ⟨by first|omega|decide,?_,?_⟩
  ·exact EJ
  ·exact FM
 ·have e3:=SC s.notes l s.notes.length
  generalize aQ s.notes l s.notes.length=X at *
  repeat' (first|(refine Ad.JE 27 ?_;refine Ad.ghost (Bo.freeze 26 rfl rfl) ?_)|apply Ac.Ak|apply Ac.Bl|apply Au.normal|apply Ap.exit|apply Ah.exit|apply Ac.ret|apply Ad.nil|apply Ad.one|(apply Aa.ofBytes (l:=X) (k:=X.length);exact mD.lst rfl (by rw [Dw];rfl);exact oW rfl;rfl;rfl;rfl)|(apply Aa.assign;rfl)|(apply Aa.move;rfl)|(apply Aa.int;rfl;rfl;rfl)|(apply Ac.Ae;rfl)|(intro _;try (exfalso;omega)))
  all_goals first|(exfalso;omega)|contradiction|(refine Done.rt rfl rfl ⟨?_,rfl,rfl⟩;try rfl)
end
end Go.Proofs.YtnjkoebfgcbbdaaGreatDoor
namespace Go.Am
variable {P:Program} {G:List Nat}
def keeps (d:Tmp):Code→Bool
 | .seq a b=>keeps d a&&keeps d b
 | .cond _ a b=>keeps d a&&keeps d b
 | .block _ b=>keeps d b
 | .loop b=>keeps d b
 | .scope b=>keeps d b
 | .region _ ops _=>ops.toList.all fun o=>o.dst != some d
 |_=>true
theorem LJ {t:Tr Value} {dst:Option Tmp} {v:Value} {d:Tmp} (h:(dst != some d)=true):CB (Gz t dst v) d=CB t d:=by
 cases dst with
 |none=>rfl
 |some x =>
  have hx:x≠d:=fun e=>by subst e;simp at h
  simp only [Gz,Di,if_neg hx]
theorem XO {call:Ep} {ops:Array Oper} {o:Oper} {s s':St} {d:Tmp} (h:KZ P call ops o s=some s') (hk:(o.dst != some d)=true):CB s'.t d=CB s.t d:=by
 unfold KZ at h
 split at h
 ·unfold nM at h
  split at h
  ·cases h;exact LJ hk
  ·cases h
 ·cases h;exact LJ hk
theorem UU {call:Ep} {ops:Array Oper} {d:Tmp}:∀ (l:List Oper) (s s':St),J4 P call ops l s=some s'→(l.all fun o=>o.dst != some d)=true→CB s'.t d=CB s.t d
 |[],s,s',h,_=>by cases h;rfl
 |o::l,s,s',h,hk=>by
  simp only [List.all_cons,Bool.and_eq_true] at hk
  simp only [J4] at h
  cases h1:KZ P call ops o s with
  |none=>rw [h1] at h;cases h
  |some s1 =>
   rw [h1] at h
   exact (UU l s1 s' h hk.2).trans (XO h1 hk.1)
theorem VH {call:Ep} {ops:Array Oper} {d:Tmp}:∀ (l:List Oper) (i:Nat) (s s':St),Js P call ops i l s=some s'→(l.all fun o=>o.dst != some d)=true→CB s'.t d=CB s.t d
 |[],i,s,s',h,_=>by cases h;rfl
 |o::l,i,s,s',h,hk=>by
  simp only [List.all_cons,Bool.and_eq_true] at hk
  simp only [Js] at h
  cases h1:N7 P call ops i o s with
  |none=>rw [h1] at h;cases h
  |some s1 =>
   rw [h1] at h
   refine (VH l (i+1) s1 s' h hk.2).trans ?_
   unfold N7 at h1
   split at h1
   ·rename_i s2 h2
    split at h1
    ·cases h1
     have hh:=XO h2 hk.1
     exact hh
    ·cases h1
   ·cases h1
theorem pR {call:Ep} {N:Nat} {d:Tmp}:∀ (c:Code) (s s':St) (x:BZ),BX P call N c s=some (x,s')→keeps d c=true→CB s'.t d=CB s.t d:=by
 intro c
 induction c with
 |skip=>intro s s' x h _;cases h;rfl
 |label l=>intro s s' x h _;cases h;rfl
 |ret=>intro s s' x h _;cases h;rfl
 |exit id=>intro s s' x h _;cases h;rfl
 |goto l=>intro s s' x h;cases h
 |scope b _=>intro s s' x h;cases h
 |refuse y=>intro s s' x h;cases h
 |rangeFunc f ps y z ihy ihz =>
  intro s s' x h _
  simp only [BX] at h
  split at h
  case h_2=>cases h
  split at h
  case h_2=>cases h
  split at h
  case isFalse=>cases h
  split at h
  case h_2=>cases h
  split at h
  case h_2=>cases h
  rw [Option.map_eq_some_iff] at h
  obtain ⟨⟨x1,m'⟩,hrun,he⟩:=h
  cases he
  rfl
 |seq c1 c2 ih1 ih2 =>
  intro s s' x h hk
  simp only [keeps,Bool.and_eq_true] at hk
  simp only [BX] at h
  cases h1:BX P call N c1 s with
  |none=>rw [h1] at h;cases h
  |some r =>
   obtain ⟨x1,s1⟩:=r
   rw [h1] at h
   have:=ih1 s s1 x1 h1 hk.1
   cases x1 with
   |normal=>exact (ih2 s1 s' x h hk.2).trans this
   |ret=>cases h;exact this
   |exit id=>cases h;exact this
 |cond c0 c1 c2 ih1 ih2 =>
  intro s s' x h hk
  simp only [keeps,Bool.and_eq_true] at hk
  simp only [BX] at h
  split at h
  ·exact ih1 s s' x h hk.1
  ·exact ih2 s s' x h hk.2
  ·cases h
 |block id b ih =>
  intro s s' x h hk
  simp only [keeps] at hk
  simp only [BX] at h
  cases h1:BX P call N b s with
  |none=>rw [h1] at h;cases h
  |some r =>
   obtain ⟨x1,s1⟩:=r
   rw [h1] at h
   have:=ih s s1 x1 h1 hk
   cases x1 with
   |normal=>cases h;exact this
   |ret=>cases h;exact this
   |exit i=>simp only at h;split at h<;>(cases h;exact this)
 |loop b ih =>
  intro s s' x h hk
  simp only [keeps] at hk
  simp only [BX] at h
  have key:∀ (k:Nat) (s s':St) (x:BZ),iterate (BX P call N b) k s=some (x,s')→CB s'.t d=CB s.t d:=by
   intro k
   induction k with
   |zero=>intro s s' x h;cases h
   |succ k ihk =>
    intro s s' x h
    simp only [iterate] at h
    cases h1:BX P call N b s with
    |none=>rw [h1] at h;cases h
    |some r =>
     obtain ⟨x1,s1⟩:=r
     rw [h1] at h
     have:=ih s s1 x1 h1 hk
     cases x1 with
     |normal=>exact (ihk s1 s' x h).trans this
     |ret=>cases h;exact this
     |exit id=>cases h;exact this
  exact key N s s' x h
 |region id ops draw =>
  intro s s' x h hk
  simp only [keeps] at hk
  cases draw with
  |false =>
   simp only [BX,Option.map_eq_some_iff] at h
   obtain ⟨s1,h1,he⟩:=h
   cases he
   exact UU _ _ _ h1 hk
  |true =>
   simp only [BX,Option.map_eq_some_iff] at h
   obtain ⟨s1,h1,he⟩:=h
   cases he
   exact VH _ _ _ _ h1 hk
end Go.Am
namespace Go.Vm
open Go.Am
structure Snd (E:Env):Prop where
 o:FT E.P E.G E.O
 mix:E.P.follows .mixedOrders=true
structure WAt (E:Env) (n:Nat) (B:Base) (ι:BN) (m:Mem) (w:World) (t:Tr Value) (kp:Tmp→Bool) (L':Frame) (H':Heap) (nx':Nat) (a':Act) (w':World):Prop where
 ex:∃ m' F' σ' t' ι',Ctx E.Γ m' F' σ' H' nx'∧RL m' F' (htag H') σ' nx' L' t'∧B.to m' F' σ' H' nx'∧Ext ι m w ι' m' w'∧DV E.P E.G [] n ⟨t',m'⟩ ι' a' w'∧∀ d,kp d=true→CB t' d=CB t d
def Bj (E:Env) (n bn:Nat) (c:Code) (L:Frame) (H:Heap) (nx:Nat) (Q:BZ→Frame→Heap→Nat→Prop):Prop :=
 Snd E→codeOk E.G n c=true→flat c=true→∀ (B:Base),B.nx=bn→∀ m F σ t,Ctx E.Γ m F σ H nx→RL m F (htag H) σ nx L t→B.to m F σ H nx →
  ∀ (ι:BN) (a:Act) (w:World),DV E.P E.G [] n ⟨t,m⟩ ι a w→∀ R:Exit→Act→World→Prop,
   (∀ e L' H' nx' a' w',Q e L' H' nx'→WAt E n B ι m w t (fun d=>keeps d c) L' H' nx' a' w'→R e.O5 a' w')→c.wpIn Fence.wide 0 E.P R a w
variable {E:Env} {n bn:Nat} {L:Frame} {H:Heap} {nx:Nat} {Q:BZ→Frame→Heap→Nat→Prop} {a b c k:Code} {id:Nat} {x:Operand}
theorem Bj.nU (h:Ac E bn c L H nx Q):Bj E n bn c L H nx Q:=by
 intro hs hok hfl B hB m F σ t h1 h2 h3 ι ac w hst R hR
 obtain ⟨e,s',⟨K,hk⟩,L',H',nx',F',σ',q,c1,c2,c3⟩:=h B hB m F σ t h1 h2 h3
 have hx:=hk K K (Nat.le_refl _) (Nat.le_refl _)
 have hcall:=Hr (N:=K) hs.o hs.mix K
 refine (wpIn_wide (n:=0)).2 ((wpIn_wide (n:=0)).1 (VD hcall (aN hs.o K) (YU hcall (MV hs.o K) hs.mix) c w.heap.size [] none 0 ⟨t,m⟩ s' e ι ac w R (.inl rfl) hok hx hst (Nat.le_refl _) fun ds' a' w' hr hm hf=>?_))
 obtain rfl:=hf hfl
 obtain ⟨ι',he,hst'⟩:=hr
 exact hR e L' H' nx' a' w' q ⟨s'.m,F',σ',s'.t,ι',c1,c2,c3,he,hst',fun d hd=>pR c _ _ _ hx hd⟩
theorem Bj.mono {R:BZ→Frame→Heap→Nat→Prop} (h:Bj E n bn c L H nx R) (hq:∀ e L' H' nx',R e L' H' nx'→Q e L' H' nx'):Bj E n bn c L H nx Q :=
 fun hs hok hfl B hB m F σ t h1 h2 h3 ι ac w hst R' hR=>h hs hok hfl B hB m F σ t h1 h2 h3 ι ac w hst R' fun e L' H' nx' a' w' q=>hR e L' H' nx' a' w' (hq _ _ _ _ q)
def Ey (E:Env) (n bn:Nat) (k:Code) (Q:BZ→Frame→Heap→Nat→Prop) (e:BZ) (L:Frame) (H:Heap) (nx:Nat):Prop :=
 match e with
 | .normal=>Bj E n bn k L H nx Q
 | .ret=>Q .ret L H nx
 | .exit i=>Q (.exit i) L H nx
theorem Ey.normal (h:Bj E n bn k L H nx Q):Ey E n bn k Q .normal L H nx:=h
theorem Ey.ret (h:Q .ret L H nx):Ey E n bn k Q .ret L H nx:=h
theorem Ey.exit {i:Nat} (h:Q (.exit i) L H nx):Ey E n bn k Q (.exit i) L H nx:=h
theorem Bj.to (h:Bj E n bn a L H nx (Ey E n bn k Q)):Bj E n bn (.seq a k) L H nx Q:=by
 intro hs hok hfl B hB m F σ t h1 h2 h3 ι ac w hst R hR
 simp only [codeOk,Bool.and_eq_true] at hok
 simp only [flat,Bool.and_eq_true] at hfl
 refine wpIn_seq (h hs hok.1 hfl.1 B hB m F σ t h1 h2 h3 ι ac w hst _ fun e L' H' nx' a' w' q hw=>?_)
 obtain ⟨m',F',σ',t',ι',c1,c2,c3,he,hst',hkp⟩:=hw.ex
 cases e with
 |normal =>
  refine q hs hok.2 hfl.2 B hB m' F' σ' t' c1 c2 c3 ι' a' w' hst' R fun e2 L2 H2 xJ a2 w2 q2 hw2=>hR e2 L2 H2 xJ a2 w2 q2 ?_
  obtain ⟨m2,F2,σ2,t2,ι2,d1,d2,d3,he2,hst2,zU⟩:=hw2.ex
  exact ⟨m2,F2,σ2,t2,ι2,d1,d2,d3,Ext.trans hst.1 he he2,hst2,fun d hd=>by
   simp only [keeps,Bool.and_eq_true] at hd
   exact (zU d hd.2).trans (hkp d hd.1)⟩
 |ret=>exact hR .ret L' H' nx' a' w' q ⟨m',F',σ',t',ι',c1,c2,c3,he,hst',fun d hd=>by simp only [keeps,Bool.and_eq_true] at hd;exact hkp d hd.1⟩
 |exit i=>exact hR (.exit i) L' H' nx' a' w' q ⟨m',F',σ',t',ι',c1,c2,c3,he,hst',fun d hd=>by simp only [keeps,Bool.and_eq_true] at hd;exact hkp d hd.1⟩
theorem Bj.Ak {ops:Array Oper} (h:Ad E bn ops ops.toList L H nx fun L' H' nx'=>Bj E n bn k L' H' nx' Q):Bj E n bn (.seq (.region id ops false) k) L H nx Q:=Bj.to (Bj.nU (Ac.region h))
theorem Bj.Dq {ops:Array Oper} (h:Af E bn ops 0 ops.toList L H nx fun L' H' nx'=>Bj E n bn k L' H' nx' Q):Bj E n bn (.seq (.region id ops true) k) L H nx Q:=Bj.to (Bj.nU (Ac.Gv h))
theorem Bj.region {ops:Array Oper} (h:Ad E bn ops ops.toList L H nx (Q .normal)):Bj E n bn (.region id ops false) L H nx Q:=Bj.nU (Ac.region h)
theorem Bj.Gv {ops:Array Oper} (h:Af E bn ops 0 ops.toList L H nx (Q .normal)):Bj E n bn (.region id ops true) L H nx Q:=Bj.nU (Ac.Gv h)
theorem Bj.skip (h:Q .normal L H nx):Bj E n bn .skip L H nx Q:=Bj.nU (Ac.skip h)
theorem Bj.ret (h:Q .ret L H nx):Bj E n bn .ret L H nx Q:=Bj.nU (Ac.ret h)
theorem Bj.exit {i:Nat} (h:Q (.exit i) L H nx):Bj E n bn (.exit i) L H nx Q:=Bj.nU (Ac.exit h)
theorem Bj.at (r:Nat) {ops:Array Oper} {d:Bool} (h:Bj E n bn (.seq (.region r ops d) k) L H nx Q):Bj E n bn (.seq (.region r ops d) k) L H nx Q:=h
theorem Bj.atEnd (r:Nat) {ops:Array Oper} {d:Bool} (h:Bj E n bn (.region r ops d) L H nx Q):Bj E n bn (.region r ops d) L H nx Q:=h
theorem Bj.ghost {L':Frame} {H':Heap} {nx':Nat} (g:Bo E L H nx L' H' nx') (h:Bj E n bn c L' H' nx' Q):Bj E n bn c L H nx Q:=by
 intro hs hok hfl B hB m F σ t h1 h2 h3
 obtain ⟨F',σ',c1,c2,c3⟩:=g B m F σ t h1 h2 h3
 exact h hs hok hfl B hB m F' σ' t c1 c2 c3
theorem Bj.cond (u:Bool) (hc:Bh E.Γ L x=some (.p (.bool u))) (ht:u=true→Bj E n bn a L H nx Q) (hf:u=false→Bj E n bn b L H nx Q):Bj E n bn (.cond x a b) L H nx Q:=by
 intro hs hok hfl B hB m F σ t h1 h2 h3 ι ac w hst R hR
 simp only [codeOk,Bool.and_eq_true] at hok
 simp only [flat,Bool.and_eq_true] at hfl
 have hv:=GX h1 h2 hc
 have he:ac.eval x=.bool u:=((I7 hst.1 hst.2 hok.1.1).Jk u).1 hv
 cases u with
 |true=>exact wpIn_cond_true he (ht rfl hs hok.1.2 hfl.1 B hB m F σ t h1 h2 h3 ι ac w hst R fun e L' H' nx' a' w' q hw=>hR e L' H' nx' a' w' q ⟨by
  obtain ⟨m',F',σ',t',ι',c1,c2,c3,he,hst',hkp⟩:=hw.ex
  exact ⟨m',F',σ',t',ι',c1,c2,c3,he,hst',fun d hd=>by simp only [keeps,Bool.and_eq_true] at hd;exact hkp d hd.1⟩⟩)
 |false=>exact wpIn_cond_false he (hf rfl hs hok.2 hfl.2 B hB m F σ t h1 h2 h3 ι ac w hst R fun e L' H' nx' a' w' q hw=>hR e L' H' nx' a' w' q ⟨by
  obtain ⟨m',F',σ',t',ι',c1,c2,c3,he,hst',hkp⟩:=hw.ex
  exact ⟨m',F',σ',t',ι',c1,c2,c3,he,hst',fun d hd=>by simp only [keeps,Bool.and_eq_true] at hd;exact hkp d hd.2⟩⟩)
theorem Bj.cond_true (hc:Bh E.Γ L x=some (.p (.bool true))) (ht:Bj E n bn a L H nx Q):Bj E n bn (.cond x a b) L H nx Q:=Bj.cond true hc (fun _=>ht) (fun h=>by cases h)
theorem Bj.cond_false (hc:Bh E.Γ L x=some (.p (.bool false))) (hf:Bj E n bn b L H nx Q):Bj E n bn (.cond x a b) L H nx Q:=Bj.cond false hc (fun h=>by cases h) (fun _=>hf)
theorem Bj.AZ {p:Prop} {_:Decidable p} (hc:Bh E.Γ L x=some (.p (.bool (decide p)))) (ht:p→Bj E n bn a L H nx Q) (hf:¬ p→Bj E n bn b L H nx Q):Bj E n bn (.cond x a b) L H nx Q :=
 Bj.cond (decide p) hc (fun h=>ht (of_decide_eq_true h)) (fun h=>hf (of_decide_eq_false h))
theorem Bj.block (h:Bj E n bn b L H nx (Ap id Q)):Bj E n bn (.block id b) L H nx Q:=by
 intro hs hok hfl B hB m F σ t h1 h2 h3 ι ac w hst R hR
 simp only [codeOk] at hok
 simp only [flat] at hfl
 refine wpIn_block (h hs hok hfl B hB m F σ t h1 h2 h3 ι ac w hst _ fun e L' H' nx' a' w' q hw=>?_)
 have hw2:WAt E n B ι m w t (fun d=>keeps d (.block id b)) L' H' nx' a' w':=⟨hw.ex⟩
 cases e with
 |normal=>exact hR .normal L' H' nx' a' w' q hw2
 |ret=>exact hR .ret L' H' nx' a' w' q hw2
 |exit i =>
  show (if i=id then R .normal a' w' else R (.exit i) a' w')
  simp only [Ap] at q
  split
  ·rename_i e;rw [if_pos e] at q;exact hR .normal L' H' nx' a' w' q hw2
  ·rename_i e;rw [if_neg e] at q;exact hR (.exit i) L' H' nx' a' w' q hw2
theorem Bj.Gp {α:Type} (Lf:α→Frame) (Hf:α→Heap) (DC:Nat) (inv:α→Prop) (μ:α→Nat) (a0:α) (hb:bn≤DC) (h0:inv a0) (hc:Yi L H nx (Lf a0) (Hf a0) DC)
 (hs:∀ s,inv s→Bj E n bn a (Lf s) (Hf s) DC (Ah (fun L' H' nx'=>∃ s',inv s'∧μ s'<μ s∧Yi L' H' nx' (Lf s') (Hf s') DC) Q)):Bj E n bn (.loop a) L H nx Q:=by
 intro hsn hok hfl B hB m F σ t h1 h2 h3 ι ac w hst R hR
 simp only [codeOk] at hok
 simp only [flat] at hfl
 refine wpIn_loop_rounds (μ a0+1) ?_
 have key:∀ N s,inv s→μ s<N→∀ m1 F1 σ1 t1 ι1 a1 w1,Ctx E.Γ m1 F1 σ1 (Hf s) DC→RL m1 F1 (htag (Hf s)) σ1 DC (Lf s) t1→B.to m1 F1 σ1 (Hf s) DC→Ext ι m w ι1 m1 w1→DV E.P E.G [] n ⟨t1,m1⟩ ι1 a1 w1→(∀ d,keeps d a=true→CB t1 d=CB t d) →
  Code.roundsIn Fence.wide 0 E.P a R N a1 w1:=by
  intro N
  induction N with
  |zero=>intro s _ h;omega
  |succ N ih =>
   intro s hi hlt m1 F1 σ1 t1 ι1 a1 w1 c1 c2 c3 he1 hst1 hk1
   rw [roundsIn_succ]
   refine hs s hi hsn hok hfl B hB m1 F1 σ1 t1 c1 c2 c3 ι1 a1 w1 hst1 _ fun e L' H' nx' a' w' q hw=>?_
   obtain ⟨m',F',σ',t',ι',d1,d2,d3,he,hst',hkp⟩:=hw.ex
   have hE:=Ext.trans hst.1 he1 he
   have hK:∀ d,keeps d a=true→CB t' d=CB t d:=fun d hd=>(hkp d hd).trans (hk1 d hd)
   cases e with
   |normal =>
    obtain ⟨s',i1,i2,i3⟩:=q
    exact ih s' i1 (by omega) m' F' σ' t' ι' a' w' (i3.ctx d1) (i3.rl d2) (i3.step (by omega) d3) hE hst' hK
   |ret=>exact hR .ret L' H' nx' a' w' q ⟨m',F',σ',t',ι',d1,d2,d3,hE,hst',hK⟩
   |exit i=>exact hR (.exit i) L' H' nx' a' w' q ⟨m',F',σ',t',ι',d1,d2,d3,hE,hst',hK⟩
 exact key _ a0 h0 (Nat.lt_succ_self _) m F σ t ι ac w (hc.ctx h1) (hc.rl h2) (hc.step (by omega) h3) (Ext.refl _ _ _) hst fun _ _=>rfl
def Ru (d:Tmp) (l:List Oper):Bool:=l.all fun o=>o.dst != some d
def CG (E:Env) (n bn:Nat) (ops:Array Oper) (l:List Oper) (L:Frame) (H:Heap) (nx:Nat) (Q:Frame→Heap→Nat→Prop):Prop :=
 Snd E→(∀ o∈l,G5 E.G n o=true)→∀ (B:Base),B.nx=bn→∀ m F σ t,Ctx E.Γ m F σ H nx→RL m F (htag H) σ nx L t→B.to m F σ H nx →
  ∀ (ι:BN) (a:Act) (w:World),DV E.P E.G [] n ⟨t,m⟩ ι a w→∀ R:Exit→Act→World→Prop,
   (∀ L' H' nx' a' w',Q L' H' nx'→WAt E n B ι m w t (fun d=>Ru d l) L' H' nx' a' w'→R .normal a' w')→wpListIn Fence.wide 0 E.P ops R l a w
theorem CG.nil {ops:Array Oper} {R:Frame→Heap→Nat→Prop} (h:R L H nx):CG E n bn ops [] L H nx R :=
 fun _ _ B _ m F σ t h1 h2 h3 ι ac w hst R' hR=>hR L H nx ac w h ⟨m,F,σ,t,ι,h1,h2,h3,Ext.refl _ _ _,hst,fun _ _=>rfl⟩
theorem CG.step {ops:Array Oper} {l:List Oper} {R:Frame→Heap→Nat→Prop} {op:Op} {dst:Option Tmp} {ty:TypeId} {pos:String} {af:Array Edge} {r:PV} {H':Heap} {nx':Nat} (hs:Snd E) (hok:∀ o∈(⟨dst,op,ty,pos,af,none⟩::l:List Oper),G5 E.G n o=true)
 {B:Base} (hB:B.nx=bn) {m m':Mem} {F F':Nat→Prop} {σ σ':Nat→Value} {t:Tr Value} (h1:Ctx E.Γ m F σ H nx) (h2:RL m F (htag H) σ nx L t) (h3:B.to m F σ H nx) {ι ι':BN} {ac:Act} {w w':World} (hst:DV E.P E.G [] n ⟨t,m⟩ ι ac w)
 {R':Exit→Act→World→Prop} (hR:∀ L' H' nx' a' w',R L' H' nx'→WAt E n B ι m w t (fun d=>Ru d (⟨dst,op,ty,pos,af,none⟩::l)) L' H' nx' a' w'→R' .normal a' w') {v v':Value}
 (q:CG E n bn ops l (Gy L dst r) H' nx' R) (c1:Ctx E.Γ m' F' σ' H' nx') (c2:RP m' F' (htag H') σ' nx' r v) (c3:Step m F σ H nx m' F' σ' H' nx') (he:Ext ι m w ι' m' w') (Dp:DL E.P E.G ι' m' w') (hv:AA ι' m'.gen v v') :
 wpListIn Fence.wide 0 E.P ops R' l (ac.put dst v') w':=by
 have hdst:=(DK (hok _ (List.mem_cons_self ..))).2
 refine q hs (fun o ho=>hok o (List.mem_cons_of_mem _ ho)) B hB m' F' σ' (Gz t dst v) c1 ((h2.step c3 h1).put c2) (h3.trans c3) ι' _ w' ⟨Dp,(hst.2.mono he.le).put hdst hv⟩ R' fun L2 H2 xJ a2 w2 q2 hw2=>hR L2 H2 xJ a2 w2 q2 ?_
 obtain ⟨m2,F2,σ2,t2,ι2,d1,d2,d3,he2,hst2,zU⟩:=hw2.ex
 refine ⟨m2,F2,σ2,t2,ι2,d1,d2,d3,Ext.trans hst.1 he he2,hst2,fun d hd=>?_⟩
 simp only [Ru,List.all_cons,Bool.and_eq_true] at hd
 exact (zU d hd.2).trans (LJ hd.1)
theorem Hl {o:Oper} {y:Nat→Option Bool} (h:o.guard=none):Region.wanted o y=true:=by unfold Region.wanted;rw [h]
theorem CG.one {ops:Array Oper} {l:List Oper} {R:Frame→Heap→Nat→Prop} {op:Op} {dst:Option Tmp} {ty:TypeId} {pos:String} {af:Array Edge} (h:Aa E true ⟨dst,op,ty,pos,af,none⟩ L H nx fun r H' nx'=>CG E n bn ops l (Gy L dst r) H' nx' R) :
 CG E n bn ops (⟨dst,op,ty,pos,af,none⟩::l) L H nx R:=by
 intro hs hok B hB m F σ t h1 h2 h3 ι ac w hst R' hR
 obtain ⟨v,m',⟨K,hk⟩,r,H',nx',F',σ',q,c1,c2,c3,_⟩:=h m F σ t h1 h2
 have hx:=hk K K (Nat.le_refl _) (Nat.le_refl _)
 have hcall:=Hr (N:=K) hs.o hs.mix K
 unfold wpListIn
 rw [Hl rfl,if_pos rfl]
 have hop:=(DK (hok _ (List.mem_cons_self ..))).1
 have:=MW (rf:=none) (nn:=0) (a:=ac) (K:=wpListIn Fence.wide 0 E.P ops R' l) (Q:=R') hcall hst.1 (fun x hx=>I7 hst.1 hst.2 (hop x hx)) hx fun v' w' hp=>by
  obtain ⟨ι',he,Dp,NZ⟩:=hp
  exact CG.step hs hok hB h1 h2 h3 hst hR q c1 c2 c3 he Dp NZ
 exact this
def E5 (E:Env) (f:FuncId) (args:List PV) (H:Heap) (nx:Nat) (Q:PV→Heap→Nat→Prop):Prop :=
 Snd E→∀ m F σ BF,Ctx E.Γ m F σ H nx→Dx m F (htag H) σ nx args BF→∀ (ι:BN) (w:World) (as':Array Value),DL E.P E.G ι m w→BI ι m.gen BF as'.toList →
  Calls E.P f as' w fun e w'=>∃ v',e=.returned v'∧∃ r H' nx' m' F' σ' v ι',Q r H' nx'∧Ctx E.Γ m' F' σ' H' nx'∧RP m' F' (htag H') σ' nx' r v∧Step m F σ H nx m' F' σ' H' nx'∧Ext ι m w ι' m' w'∧DL E.P E.G ι' m' w'∧AA ι' m'.gen v v'
theorem E5.enter {f:FuncId} {fn:Func} {c:Code} {args:List PV} {Q:PV→Heap→Nat→Prop} (hf:E.P.funcs[f]?=some fn) (hb:fn.body=some c) (hok:Ij E.G fn c=true) (hfl:flat c=true) (hn:args.length≤fn.ntmps)
 (h:Bj E fn.ntmps nx c (CP 0 args) H nx (Done E.P fn.results.toList nx Q)):E5 E f args H nx Q:=by
 intro hs m F σ BF h1 h2 ι w as' Dp hargs
 unfold Ij at hok
 simp only [Bool.and_eq_true] at hok
 have hlen:BF.length≤fn.ntmps:=by rw [← h2.length];exact hn
 have hlen':as'.size=BF.length:=by have:=hargs.1;simpa using this.symm
 have hst:DV E.P E.G [] fn.ntmps { t:=tmpsOf 0 BF .leaf,m:=m } ι { tmps:=as'++Array.replicate (fn.ntmps-as'.size) undef,defers:=[] } w:=by
  refine ⟨Dp,by simp;omega,rfl,fun i=>?_⟩
  rw [F9]
  by_cases hi:i<BF.length
  ·rw [if_pos (by omega)]
   have h1:=hargs.2 i hi
   have hi':i<as'.size:=by omega
   have e:(as'++Array.replicate (fn.ntmps-as'.size) undef).getD i undef=as'.toList.getD i undef:=by
    rw [Array.getD_eq_getD_getElem?,Array.getElem?_append_left hi',getD_eq,Array.getElem?_toList]
   rw [e,Nat.sub_zero]
   exact h1
  ·rw [if_neg (by omega)]
   have e1:CB (.leaf:Tr Value) i=undef:=Tr.SY _ _
   have e2:(as'++Array.replicate (fn.ntmps-as'.size) undef).getD i undef=undef:=by
    rw [Array.getD_eq_getD_getElem?,Array.getElem?_append_right (by omega)]
    by_cases hr:i-as'.size<fn.ntmps-as'.size
    ·simp [hr]
    ·simp [hr]
   rw [e1,e2]
   exact AA.undef
 have hRL:RL m F (htag H) σ nx (CP 0 args) (tmpsOf 0 BF .leaf):=by
  intro i v hi
  obtain ⟨_,h3⟩:=Ik args 0 i v hi
  obtain ⟨u,h4,h5⟩:=h2.get h3
  have:=F9 BF 0 .leaf i
  simp only [Nat.sub_zero] at h4
  have hlt:i<BF.length:=by
   rcases Nat.lt_or_ge i BF.length with h|h
   ·exact h
   ·rw [List.getElem?_eq_none h] at h4;cases h4
  rw [this,if_pos ⟨Nat.zero_le _,by omega⟩,Nat.sub_zero,List.getD_eq_getElem?_getD,h4]
  exact h5
 refine (callsIn_wide (n:=0)).1 (callsIn_of_wp_marks hf hb trivial ?_)
 refine h hs hok.2 hfl ⟨m,F,σ,H,nx⟩ rfl m F σ _ h1 hRL (Step.refl _ _ _ _ _) ι _ w hst _ fun e L' H' nx' a' w' q hw=>?_
 obtain ⟨m',F',σ',t',ι',c1,c2,c3,he,hst',_⟩:=hw.ex
 have key:(∃ r,Ei E.P fn.results.toList L' H'=some r∧Ret nx Q r H' nx')→LeavesInM Fence.wide 0 E.P fn a'.tmps (fun e w'=>∃ v',e=.returned v'∧∃ r H' nx' m' F' σ' v ι',Q r H' nx'∧Ctx E.Γ m' F' σ' H' nx'∧RP m' F' (htag H') σ' nx' r v∧Step m F σ H nx m' F' σ' H' nx'∧Ext ι m w ι' m' w'∧DL E.P E.G ι' m' w'∧AA ι' m'.gen v v') a'.defers .returning w':=by
  rintro ⟨r0,hr,r,H0,DC,q1,q2,q3,q4,q5,q6⟩
  obtain ⟨v,h3,h4⟩:=JG c1 c2 hr
  have hcov:Yi L' H' nx' [] H0 DC:=⟨q4,trivial,q3⟩
  rw [hst'.2.defers]
  refine MH (B:=w'.heap.size) [] w' (Nat.le_refl _) hst'.1 fun w'' g1 g2 g3 g4 g5 g6=>?_
  have hst2:DV E.P E.G [] fn.ntmps ⟨t',m'⟩ ι' a' w'':=⟨g1,hst'.2⟩
  obtain ⟨v',r1,r2⟩:=NJ hst2 h3
  refine ⟨v',r1,v',rfl,r,H0,DC,m',F',σ',v,ι',q6,hcov.ctx c1,RP.low (fun b t=>Ci.tag q3 b t) q2 (RP.le q1 h4),hcov.step (B:=⟨m,F,σ,H,nx⟩) q5 c3,?_,g1,r2⟩
  exact ⟨he.size,he.low,he.keep,he.ro,he.ro',he.le,he.back,he.dom,Nat.le_trans he.heap g2,fun c hc' hf=>(g3 c (Nat.lt_of_lt_of_le hc' he.heap)).trans (he.frame c hc' hf),g4.trans he.tape,g5.trans he.os,g6.trans he.output⟩
 cases e with
 |exit i=>exact q.elim
 |normal=>exact key q
 |ret=>exact key q
theorem E5.nU {f:FuncId} {args:List PV} {Q:PV→Heap→Nat→Prop} (h:Ba E f args H nx Q):E5 E f args H nx Q:=by
 intro hs m F σ BF h1 h2 ι w as' Dp hargs
 obtain ⟨v,m',⟨K,hk⟩,r,H',nx',F',σ',q,c1,c2,c3⟩:=h m F σ BF h1 h2
 have hx:=hk K K (Nat.le_refl _) (Nat.le_refl _)
 refine ((Hr (N:=K) hs.o hs.mix K f).1 BF m v m' hx ι w as' Dp hargs).mono fun e w' ⟨v',he,ι',h3,h4,h5⟩=>?_
 exact ⟨v',he,r,H',nx',m',F',σ',v,ι',q,c1,c2,c3,h3,h4,h5⟩
theorem CG.Y1 {ops:Array Oper} {l:List Oper} {R:Frame→Heap→Nat→Prop} {dst:Option Tmp} {ty:TypeId} {pos:String} {af:Array Edge} {fo:Operand} {args:Array Operand} {aT:Array TypeId} {g:FuncId} {fs cs BF ac:List PV} {ns:List Nat} {Hc:Heap} {Qc:PV→Heap→Nat→Prop}
 (hent:Enters E.P g) (hf:Bh E.Γ L fo=some (.clo g fs cs)) (ha:evs E.Γ L args.toList=some BF) (hle:MF (fs++BF++cs) (CZ.rn (rho ns nx) ac)) (hu:CZ.under ns.length ac) (ql:JY ns.length Hc) (hin:HIn (rho ns nx) H Hc) (hnd:ns.Nodup) (hlt:∀ b∈ns,b<nx)
 (hc:E5 E g ac Hc ns.length Qc) (hq:∀ r H' nx',Qc r H' nx'→CG E n bn ops l (Gy L dst (r.rn (rho ns nx))) (news ns.length (rho ns nx) H' (merge ns (rho ns nx) H' H)) (nx+(nx'-ns.length)) R) :
 CG E n bn ops (⟨dst,.call { callee:=.value fo,args:=args,argTypes:=aT },ty,pos,af,none⟩::l) L H nx R:=by
 intro hs hok B hB m F σ t h1 h2 h3 ι ac0 w hst R' hR
 obtain ⟨vf,vc,σc,hfe,V4,hargs,hback⟩:=lu (w:=true) hf ha hle hu ql hin hnd hlt (fun e=>by cases e) h1 h2
 have hop:=(DK (hok _ (List.mem_cons_self ..))).1
 have hfr:=I7 hst.1 hst.2 (hop fo (by simp [Op.operands,Call.operands]))
 rw [hfe] at hfr
 obtain ⟨fs',cs',e1,hfs,hcs⟩:∃ fs' cs',ac0.eval fo=.func (.func g) fs' cs'∧BI ι m.gen vf fs'.toList∧BI ι m.gen vc cs'.toList:=by
  generalize ac0.eval fo=u at hfr
  cases hfr with
  |fn _ l1 l2 l3 l4 h1 h2 h3 h4=>exact ⟨⟨l2⟩,⟨l4⟩,rfl,⟨h1,h2⟩,⟨h3,h4⟩⟩
 obtain ⟨fn,hfn,hbody,hname⟩:=hent
 have hcall:=hc hs m F σc _ V4 hargs ι w (fs'++args.map ac0.eval++cs') hst.1 (by
  rw [Array.toList_append,Array.toList_append,Array.toList_map]
  exact (hfs.append (BI.QK fun x hx=>I7 hst.1 hst.2 (hop x (by simp [Op.operands,Call.operands];exact .inr (by simpa using hx))))).append hcs)
 have hrun:(execOp ac0.eval ⟨dst,.call { callee:=.value fo,args:=args,argTypes:=aT },ty,pos,af,none⟩).run E.P w=.ok (.enter g (fs'++args.map ac0.eval++cs')) w:=by
  simp only [execOp,resolve,e1,Deferred.ofValue,Sem.run_bind,Sem.run_pure,Result.andThen_ok,invoke,callFunc,run_program,hfn,hname,Bool.false_eq_true,if_false]
  have:fn.body.isNone=false:=by cases hb:fn.body<;>simp_all
  simp [this]
 unfold wpListIn
 rw [Hl rfl,if_pos rfl]
 unfold Oper.wpIn
 rw [Oper.semAt_eq _ _ _ (fun c hc=>by cases hc),hrun]
 refine ⟨fun _ _=>trivial,?_⟩
 rw [Oper.uponIn_enter]
 refine ⟨(fun hh=>by cases hh),?_⟩
 refine ((callsIn_wide (n:=0)).2 hcall).mono fun e w' he=>?_
 obtain ⟨v',rfl,r,H',nx',m',F',σ',v,ι',q,c1,c2,c3,x1,x2,x3⟩:=he
 obtain ⟨σn,d1,d2,d3,_⟩:=hback v m' r H' nx' F' σ' c1 c2 c3
 exact CG.step hs hok hB h1 h2 h3 hst hR (hq r H' nx' q) d1 d2 d3 x1 x2 x3
theorem Bj.dG {ops:Array Oper} (h:CG E n bn ops ops.toList L H nx (Q .normal)):Bj E n bn (.region id ops false) L H nx Q:=by
 intro hs hok hfl B hB m F σ t h1 h2 h3 ι ac w hst R hR
 simp only [codeOk,Bool.and_eq_true] at hok
 refine wpIn_region_list (h hs (fun o ho=>Array.all_eq_true_iff_forall_mem.1 hok.1 o (by simpa using ho)) B hB m F σ t h1 h2 h3 ι ac w hst R fun L' H' nx' a' w' q hw=>hR .normal L' H' nx' a' w' q hw)
theorem Bj.N8 {ops:Array Oper} (h:CG E n bn ops ops.toList L H nx fun L' H' nx'=>Bj E n bn k L' H' nx' Q):Bj E n bn (.seq (.region id ops false) k) L H nx Q:=Bj.to (Bj.dG h)
end Go.Vm
namespace Go.Am
variable {P:Program} {G:List Nat}
theorem fV {ι:BN} {m:Mem} {w:World} {sT xT e:TypeId} {xd:TypeDesc} {i:TypeInfo} {len n c g:Nat} {vs l:List Value} {x s' x':Value} (ty:TypeId) (hs:DL P G ι m w)
 (hv:AA ι m.gen (.slice (some ⟨c,0,none⟩) len g) s') (hxr:AA ι m.gen x x') (hg:m.get c=.cells vs e g false) (hvl:vs.length=len*i.size)
 (hu:P.underlying sT=some (.slice e)) (hx:P.underlying xT=some xd) (hd:∀ k,xd≠.int k) (hi:P.info? e=some i) (hz:Eb i=true) (hsize:0<i.size) (hn:0<n) (hroom:(len+n)*(i.bytes+1)≤room)
 (hxn:lenOf x=some n) (hl:CO m i.size n x=some l) (hcell:l.all BO=true) :
 ∃ v' w',(Builtin.append_ #[sT,xT] ty #[s',x']).run P w=.ok v' w' ∧
  (Post P G ι m w (.slice (some ⟨c,0,none⟩) (len+n) g) (m.put c (.cells (vs++l) e g false)) v' w'∨Post P G ι m w (A8 m e (vs++l) (len+n)).1 (A8 m e (vs++l) (len+n)).2 v' w'):=by
 obtain ⟨z,hz1,hz2⟩:=OI hz
 obtain ⟨l',hr,hrel⟩:=Eu hs hxr hl
 have hlen:l.length=n*i.size:=ES hl
 have hap:∀ k,(Builtin.firstCells i.size n x').run P { w with drawn:=k }=.ok l'.toArray { w with drawn:=k }:=fun k=>I4 k hr
 have uY:(Builtin.firstCells i.size n x').run P w=.ok l'.toArray w:=hap w.drawn
 have hlen':l'.length=n*i.size:=by rw [← hrel.1];exact hlen
 cases hv with
 |sl _ _ _ _ a' sCap hsr =>
  rw [LW (x:=x') (n:=n) (i:=i) ty rfl rfl rfl rfl hu hx hd hi (fun w=>KY hxr hxn w)]
  obtain ⟨ib,hb,_,q3,hcur⟩:=hsr
  obtain ⟨q1,q2,q4⟩:=hcur (Mem.F8 hg).symm
  obtain ⟨cs,fr,e0,hrow,hlim,QL,hcr,hfr0⟩:=GV hs hb hg
  obtain ⟨he0,lY⟩:=hfr0 rfl
  subst he0
  have hesz':ib.pF=i.size:=by rw [QL,Em hi]
  by_cases hfit:len+n≤sCap
  ·obtain ⟨q5,q6⟩:a'.off=0+ib.sh∧a'.off+sCap*ib.pF≤ib.lim:=by
    rcases q4 with h|h
    ·omega
    ·exact h
   have ha':a'=⟨ib.blk,ib.sh,none⟩:=by
    obtain ⟨x1,y1,z1⟩:=a'
    simp at q1 q2 q5
    simp [q1,q2,q5]
   have hmul:(len+n)*i.size≤sCap*i.size:=Nat.mul_le_mul_right _ hfit
   rw [Nat.add_mul] at hmul
   rw [hesz',hlim] at q6
   obtain ⟨w',cs',hrun,r1,r2,r3,r4,r5,r6,r7,r8⟩:=Gf (P:=P) ib.blk e0 fr (ib.sh+len*i.size) l' 0 w cs hrow (hrel.QE hcell) (by omega) lY
   obtain ⟨ι',hext,Dp,hb'⟩:=Iq (x:=.cells (vs++l) e0 g false) (ib':=ib) (w':=w') (obj:=.cells cs' e0 fr) hs hb (Mem.NQ hg) rfl
    ⟨by rw [Mem.F8 hg];exact Nat.le_refl _,fun _=>rfl⟩ (.inl rfl) r1 (fun c _ hne=>r4 c hne) (by omega) r6 r7 r8
    (fun ι' g' hle'=>by
     refine ⟨fun _=>rfl,by rw [hlim];exact r2.symm,QL,fun k hk=>?_,fun _ j hj=>lY j (by omega)⟩
     rw [List.length_append] at hk
     show ∃ v',cs'[ib.sh+k]?=some v'∧AA ι' g' _ v'
     rw [r3,getD_eq]
     by_cases hk1:k<len*i.size
     ·rw [if_neg (by omega),List.getElem?_append_left (by omega)]
      obtain ⟨v',h1,h2⟩:=hcr k (by omega)
      exact ⟨v',h1,by rw [← getD_eq];exact h2.mono hle'⟩
     ·rw [if_pos (by omega),List.getElem?_append_right (by omega)]
      have e2:ib.sh+k-(ib.sh+len*i.size+0)=k-len*i.size:=by omega
      rw [e2,hvl]
      have hlt:k-len*i.size<l.length:=by omega
      obtain ⟨v',h1,h2⟩:=hrel.get (List.getElem?_eq_getElem hlt)
      refine ⟨v',h1,?_⟩
      rw [List.getElem?_eq_getElem hlt]
      exact h2.mono hle')
   refine ⟨.slice (some a') (len+n) sCap,w',?_,.inl ⟨ι',hext,Dp,?_⟩⟩
   ·simp only [DR,hfit,if_true,Sem.run_bind,uY,Result.andThen_ok,ha',addr_add,hrun,Sem.run_pure]
   ·exact .sl _ _ _ _ _ _ ⟨ib,hb',by simp [Mem.gen,Mem.get_put,HY.gen],hfit,fun _=>⟨q1,q2,.inr ⟨q5,by rw [hesz',hlim];exact q6⟩⟩⟩
  ·have hsc:CO m i.size len (.slice (some ⟨c,0,none⟩) len g)=some vs:=by
    simp only [CO,Nat.le_refl,if_true,Mem.EK,hg,LZ,Option.getD_some,List.drop_zero,takeN,← hvl,List.take_length]
   have NZ:AA ι m.gen (.slice (some ⟨c,0,none⟩) len g) (.slice (some a') len sCap):=.sl _ _ _ _ _ _ ⟨ib,hb,by rw [Mem.F8 hg];exact Nat.le_refl _,q3,fun _=>⟨q1,q2,q4⟩⟩
   obtain ⟨old',ho,hor⟩:=Eu hs NZ hsc
   obtain ⟨cap,hcap,hrun⟩:=I5 (old:=old') (new:=l') (z:=z) (x:=x') (zeros:=false) hi hz1 hfit hroom (fun k=>I4 k ho) hap
   have ho1:old'.length=len*i.size:=by rw [← hor.1];exact hvl
   refine ⟨_,_,hrun,.inr ?_⟩
   refine Ib (w':={ w with heap:=w.heap.push (.cells (old'.toArray++l'.toArray++Builtin.zeroCells z.cells (cap-(len+n))) e0 (0,0)),drawn:=w.drawn+1 })
    (e:=e0) (l:=vs++l) (n:=len+n) (cap:=cap) hs rfl rfl rfl rfl (fun j hj=>Q9 (old:=old') (rest:=(Builtin.zeroCells z.cells (cap-(len+n))).toList) (hor.append hrel) j hj) hcap (.inr ?_)
   rw [Em hi]
   have h1:(Builtin.zeroCells z.cells (cap-(len+n))).size=(cap-(len+n))*i.size:=by rw [JZ,hz2]
   simp only [Array.size_append,List.size_toArray,h1,ho1,hlen']
   rw [← Nat.add_mul,← Nat.add_mul]
   exact Nat.le_of_eq (by congr 1;omega)
theorem Ze {ι:BN} {m:Mem} {w:World} {t:TypeId} {a a':Addr} {vs:List Value} {e:TypeId} {g:Nat} {inf:TypeInfo} {x:Value} (hs:DL P G ι m w) (ha:NV ι m.gen a a') (hg:m.get a.block=.cells vs e g false) (hag:LZ a=g)
 (hx:vs[a.off]?=some x) (hp:plainCell x=true) (hc:x.cells=#[x]) (hcell:BO x=true) (hi:P.info? t=some inf) (h1:inf.size=1) :
 ∃ w',(storeVar t a' x).run P w=.ok () w'∧w'.heap=w.heap∧w'.tape=w.tape∧w'.os=w.os∧w'.output=w.output:=by
 obtain ⟨ib,hb,_,ha'⟩:=ha
 have hcur:=ha' (by rw [hag,Mem.F8 hg])
 obtain ⟨cs,fr,e',hrow,hlim,QL,hrel,hfr0⟩:=GV hs hb hg
 obtain ⟨rfl,lY⟩:=hfr0 rfl
 have hlt:a.off<vs.length:=(List.getElem?_eq_some_iff.1 hx).1
 obtain ⟨v',h2,h3⟩:=hrel a.off hlt
 have hv:vs.getD a.off undef=x:=by rw [List.getD_eq_getElem?_getD,hx];rfl
 rw [hv] at h3
 have e1:v'=x:=h3.DT hp
 subst e1
 have hsz:=(Array.getElem?_eq_some_iff.1 h2).1
 obtain ⟨w',cs',hrun,r1,r2,r3,r4,r5,r6,r7,r8⟩:=Gf (P:=P) ib.blk e' fr (a.off+ib.sh) [v'] 0 w cs hrow (fun v hv=>by
  have:v=v':=by simpa using hv
  subst this
  exact AA.oneCell (AA.plainCell (ι:=ι) (g:=m.gen) hp) hcell) (by simp only [List.length_singleton];omega) lY
 refine ⟨w',?_,?_,r6,r7,r8⟩
 ·rw [hcur]
  simp only [storeVar,Sem.run_bind,run_sizeOf' hi,Result.andThen_ok,hc,List.size_toArray,List.length_singleton,h1,ne_eq,not_true_eq_false,if_false]
  exact hrun
 ·have ec:cs'=cs:=by
   refine Array.ext_getElem? fun j=>?_
   rw [r3]
   split
   ·rename_i hj
    simp only [List.length_singleton] at hj
    have:j=ib.sh+a.off:=by omega
    subst this
    rw [h2]
    have:ib.sh+a.off-(a.off+ib.sh+0)=0:=by omega
    rw [this];rfl
   ·rfl
  subst ec
  refine Array.ext_getElem? fun c=>?_
  by_cases hcb:c=ib.blk
  ·subst hcb;rw [r1,hrow]
  ·exact r4 c hcb
theorem DL.heap {ι:BN} {m:Mem} {w w':World} (hs:DL P G ι m w) (h:w'.heap=w.heap):DL P G ι m w' :=
 ⟨fun b ib hb=>by rw [h];exact hs.dom b ib hb,fun b ib hb=>by rw [h];exact hs.blk b ib hb,hs.inj,hs.glob⟩
theorem Ext.a8y (ι:BN) (m:Mem) {w w':World} (h:w'.heap=w.heap) (h1:w'.tape=w.tape) (h2:w'.os=w.os) (h3:w'.output=w.output):Ext ι m w ι m w' :=
 ⟨Nat.le_refl _,Nat.le_refl _,fun _ _ _=>rfl,fun _ _ _=>rfl,fun _ _=>rfl,Le.refl _ _,fun _ ib h=>.inl ⟨ib,h,rfl⟩,fun _ ib h=>.inl ⟨ib,h⟩,by rw [h];exact Nat.le_refl _,fun _ _ _=>by rw [h],h1,h2,h3⟩
end Go.Am
namespace Go.Vm
open Go.Am
theorem Ctx.b0e {Γ:Nat→Option (List Value×TypeId)} {m:Mem} {F:Nat→Prop} {σ:Nat→Value} {H:Heap} {nx c:Nat} (h:Ctx Γ m F σ H nx) (hc:c<m.size) (ho:¬ own H σ c):Ctx Γ m (fun d=>F d∨d=c) σ H nx where
 fr d hd:=hd.elim (h.fr d) fun e=>by rw [e];exact hc
 hp d x hd:=⟨(h.hp d x hd).1,(h.hp d x hd).2.mono (fun d hd=>⟨.inl hd,rfl⟩) (Names.refl _ _ _) (Nat.le_refl _) (Nat.le_refl _) fun c' hc'=>⟨rfl,by
  rintro (hf|rfl)
  ·exact (h.KD ⟨d,x,hd,hc'⟩).1 hf
  ·exact ho ⟨d,x,hd,hc'⟩⟩⟩
 sep:=h.sep
 gl g cs e hg:=⟨.inl (h.gl g cs e hg).1,(h.gl g cs e hg).2⟩
theorem Step.b0e {m m':Mem} {F F1:Nat→Prop} {σ σ':Nat→Value} {H H':Heap} {nx nx' c:Nat} (s:Step m F σ H nx m' F1 σ' H' nx') (ho:own H σ c):Step m F σ H nx m' (fun d=>F1 d∨d=c) σ' H' nx' :=
 { s with
  JC:=fun d hd=>.inl (s.JC d hd)
  JA:=fun d hd hf=>by
   rcases hf with hf|rfl
   ·exact s.JA d hd hf
   ·exact .inr ho }
variable {E:Env} {n bn:Nat} {L:Frame} {H:Heap} {nx:Nat}
theorem CG.a6k {ops:Array Oper} {l:List Oper} {R:Frame→Heap→Nat→Prop} {op:Op} {dst:Option Tmp} {ty:TypeId} {pos:String} {af:Array Edge} {r:PV} {L1:Frame} {H':Heap} {nx':Nat} (hs:Snd E) (hok:∀ o∈(⟨dst,op,ty,pos,af,none⟩::l:List Oper),G5 E.G n o=true)
 {B:Base} (hB:B.nx=bn) {m m':Mem} {F F':Nat→Prop} {σ σ':Nat→Value} {t:Tr Value} (h2:RL m' F' (htag H') σ' nx' L1 t) (h3:B.to m F σ H nx) {ι ι':BN} {ac:Act} {w w':World} (hst:DV E.P E.G [] n ⟨t,m⟩ ι ac w)
 {R':Exit→Act→World→Prop} (hR:∀ L' H' nx' a' w',R L' H' nx'→WAt E n B ι m w t (fun d=>Ru d (⟨dst,op,ty,pos,af,none⟩::l)) L' H' nx' a' w'→R' .normal a' w') {v v':Value}
 (q:CG E n bn ops l (Gy L1 dst r) H' nx' R) (c1:Ctx E.Γ m' F' σ' H' nx') (c2:RP m' F' (htag H') σ' nx' r v) (c3:Step m F σ H nx m' F' σ' H' nx') (he:Ext ι m w ι' m' w') (Dp:DL E.P E.G ι' m' w') (hv:AA ι' m'.gen v v') :
 wpListIn Fence.wide 0 E.P ops R' l (ac.put dst v') w':=by
 have hdst:=(DK (hok _ (List.mem_cons_self ..))).2
 refine q hs (fun o ho=>hok o (List.mem_cons_of_mem _ ho)) B hB m' F' σ' (Gz t dst v) c1 (h2.put c2) (h3.trans c3) ι' _ w' ⟨Dp,(hst.2.mono he.le).put hdst hv⟩ R' fun L2 H2 xJ a2 w2 q2 hw2=>hR L2 H2 xJ a2 w2 q2 ?_
 obtain ⟨m2,F2,σ2,t2,ι2,d1,d2,d3,he2,hst2,zU⟩:=hw2.ex
 refine ⟨m2,F2,σ2,t2,ι2,d1,d2,d3,Ext.trans hst.1 he he2,hst2,fun d hd=>?_⟩
 simp only [Ru,List.all_cons,Bool.and_eq_true] at hd
 exact (zU d hd.2).trans (LJ hd.1)
theorem RL.cons {m:Mem} {F:Nat→Prop} {T:Nat→Option Tg} {σ:Nat→Value} {L:Frame} {t:Tr Value} (h:RL m F T σ nx L t) {r:Nat} {x:PV} (hx:RP m F T σ nx x (CB t r)):RL m F T σ nx ((r,x)::L) t:=fun i y hi=>by
 rw [DW] at hi
 by_cases e:r=i
 ·rw [if_pos e] at hi;cases hi;subst e;exact hx
 ·rw [if_neg e] at hi;exact h i y hi
theorem CG.a5d {ops:Array Oper} {l:List Oper} {R:Frame→Heap→Nat→Prop} {dst:Option Tmp} {ty:TypeId} {pos:String} {af:Array Edge} {s x:Operand} {sT xT e:TypeId} {xd:TypeDesc} {i:TypeInfo} {b k j r N:Nat} {cs xs:List FV} {z:Bool}
 (hs:Bh E.Γ L s=some (.vec b N 0 N)) (hb:hget H b=some (.vec e cs N z)) (hx:mD E.Γ L H nx x i.size xs k) (hr:ET L r=some (.vec b N 0 j)) (hj:j≤N) (hN:0<N)
 (qQ:E.P.underlying sT=some (.slice e)) (hxT:E.P.underlying xT=some xd) (hd:∀ k,xd≠.int k) (hi:E.P.info? e=some i) (hzs:Eb i=true) (h0:0<k) (hroom:(N+k)*(i.bytes+1)≤room) (hl:cs.length=N*i.size) (hsz:0<i.size)
 (q1:CG E n bn ops l (Gy ((r,.vec b (N+k) 0 j)::L) dst (.vec b (N+k) 0 (N+k))) (hput H b (.vec e (cs++xs) (N+k) z)) nx R)
 (q2:CG E n bn ops l (Gy ((r,.p (.lst e (cs.take (j*i.size)) j))::L) dst (.vec b (N+k) 0 (N+k))) (hput H b (.vec e (cs++xs) (N+k) z)) nx R) :
 CG E n bn ops (⟨dst,.call { callee:=.builtin .append,args:=#[s,x],argTypes:=#[sT,xT] },ty,pos,af,none⟩::l) L H nx R:=by
 intro hsn hok B hB m F σ t h1 h2 h3 ι ac w hst R' hR
 have hsub:=JK h1 h2 hs hb
 obtain ⟨hx1,lv,hx2,hx3,hx4⟩:=hx m F σ t h1 h2
 obtain ⟨hlt,hrb⟩:=h1.hp b _ hb
 rcases hrb with ⟨_,r2,_⟩|⟨c,g,vs,r1,r2,r3,r4,r5,r6,r7⟩
 ·omega
 rw [r1] at hsub
 simp only [EW] at hsub
 have hlen:=r5.length
 have hop:=(DK (hok _ (List.mem_cons_self ..))).1
 have hvs:AA ι m.gen (ev t s) (ac.eval s):=I7 hst.1 hst.2 (hop s (by simp [Op.operands,Call.operands]))
 have hvx:AA ι m.gen (ev t x) (ac.eval x):=I7 hst.1 hst.2 (hop x (by simp [Op.operands,Call.operands]))
 rw [hsub] at hvs
 have hown:own H σ c:=⟨b,_,hb,by rw [r1];rfl⟩
 have a2b:UC (some (HB.vec e cs N z).tag) (some (HB.vec e (cs++xs) (N+k) z).tag):=Nat.le_add_right _ _
 have hne:(HB.vec e cs N z).tag=(HB.vec e (cs++xs) (N+k) z).tag→False:=by simp only [HB.tag,Tg.vec.injEq];omega
 have hrv:CB t r=.slice (some ⟨c,0,none⟩) j g:=by
  have:=h2 r _ hr
  generalize CB t r=u at this
  cases this with
  |vec hb' hc h =>
   have:=(h N (by simp [htag,hb,HB.tag])).2 rfl
   rw [r1] at this
   exact this
 unfold wpListIn
 rw [Hl rfl,if_pos rfl]
 obtain ⟨v',w',hrun,hp⟩:=fV ty hst.1 hvs hvx r4 (by rw [← hlen];exact hl) qQ hxT hd hi hzs hsz h0 hroom hx1 hx2 hx4
 have hrun2:(execOp ac.eval ⟨dst,.call { callee:=.builtin .append,args:=#[s,x],argTypes:=#[sT,xT] },ty,pos,af,none⟩).run E.P w=.ok (.value v') w':=by
  rw [DU]
  exact FU (by simpa using hrun)
 have hres:∀ {m2:Mem} {F2:Nat→Prop} {σ2:Nat→Value} {g2 c2:Nat},σ2 b=.slice (some ⟨c2,0,none⟩) (N+k) g2→RP m2 F2 (htag (hput H b (.vec e (cs++xs) (N+k) z))) σ2 nx (.vec b (N+k) 0 (N+k)) (.slice (some ⟨c2,0,none⟩) (N+k) g2):=fun {m2 F2 σ2 g2 c2} e2=>by
  refine .vec hlt rfl fun j' hj'=>?_
  rw [Pn,if_pos rfl,htag,hb] at hj'
  simp only [Option.map_some,HB.tag,Option.some.injEq,Tg.vec.injEq] at hj'
  refine ⟨by omega,fun _=>?_⟩
  rw [e2]
  rfl
 unfold Oper.wpIn
 rw [Oper.semAt_eq _ _ _ (fun c hc=>by cases hc),hrun2]
 refine ⟨fun _ _=>trivial,?_⟩
 rcases hp with ⟨ι',he,Dp,hv⟩|⟨ι',he,Dp,hv⟩
 ·have hput':∀ d,c≠d→(m.put c (.cells (vs++lv) e g false)).get d=m.get d:=fun d hd=>by rw [Mem.get_put,if_neg hd]
  obtain ⟨c1,c3⟩:=h1.change (s':=.slice (some ⟨c,0,none⟩) (N+k) g) (m':=m.put c (.cells (vs++lv) e g false)) (x':=.vec e (cs++xs) (N+k) z) hb a2b (fun e=>(hne e).elim) (Nat.le_refl _) (fun d _ hd=>hput' d fun e=>hd (by rw [r1,e];rfl)) (fun k' k1 k2 k3=>by
   have:=k3 c (by rw [r1];rfl)
   simp only [Mem.put];omega) (fun d hd=>.inl (by rw [r1];exact hd))
   (.inr ⟨c,g,vs++lv,rfl,r2,r3,by rw [Mem.get_put,if_pos rfl],(r5.append hx3).mono (fun d hd=>⟨hd,hput' d fun e=>r3 (e▸hd)⟩),by rw [List.all_append,r6,hx4];rfl,fun h=>by omega⟩)
  refine CG.a6k hsn hok hB (RL.cons (h2.step c3 h1) ?_) h3 hst hR q1 c1 (hres (upd_same _ _ _)) c3 he Dp hv
  rw [hrv]
  refine .vec hlt rfl fun j' hj'=>?_
  rw [Pn,if_pos rfl,htag,hb] at hj'
  simp only [Option.map_some,HB.tag,Option.some.injEq,Tg.vec.injEq] at hj'
  refine ⟨by omega,fun _=>?_⟩
  rw [upd_same]
  rfl
 ·obtain ⟨c1,c3⟩:=h1.change (m':=(A8 m e (vs++lv) (N+k)).2) (s':=(A8 m e (vs++lv) (N+k)).1) (x':=.vec e (cs++xs) (N+k) z) hb a2b (fun e=>(hne e).elim) (by simp [A8,Mem.alloc]) (fun c hc _=>by (try simp only [A8]);rw [Mem.Bv,if_neg (by omega)])
   (fun k' k1 k2 _=>by simp only [A8,Mem.alloc];omega) (fun c hc=>by simp only [A8,Dl,Option.some.injEq] at hc;right;omega)
   (.inr ⟨m.size,0,vs++lv,by simp [A8],by simp [A8,Mem.alloc],fun hf=>Nat.lt_irrefl _ (h1.fr _ hf),by (try simp only [A8]);rw [Mem.Bv,if_pos rfl],
    (r5.append hx3).mono (fun c hf=>⟨hf,by (try simp only [A8]);rw [Mem.Bv,if_neg (by have:=h1.fr c hf;omega)]⟩),by rw [List.all_append,r6,hx4];rfl,fun h=>by omega⟩)
  have hno:¬ own (hput H b (.vec e (cs++xs) (N+k) z)) (upd σ b (A8 m e (vs++lv) (N+k)).1) c:=by
   rintro ⟨b',x',hb',hc'⟩
   by_cases eb:b'=b
   ·subst eb
    rw [upd_same] at hc'
    simp only [A8,Dl,Option.some.injEq] at hc'
    omega
   ·rw [CQ _ _ eb] at hc'
    rw [LP,if_neg (Ne.symm eb)] at hb'
    exact eb (h1.sep b' b _ _ c hb' hb hc' (by rw [r1];rfl))
  have hcs:c<(A8 m e (vs++lv) (N+k)).2.size:=Nat.lt_of_lt_of_le r2 (by simp [A8,Mem.alloc])
  have c1':=c1.b0e hcs hno
  have c3':=c3.b0e hown
  refine CG.a6k hsn hok hB (RL.cons (h2.step c3' h1) ?_) h3 hst hR q2 c1' (hres (upd_same _ _ _)) c3' he Dp hv
  rw [hrv]
  refine .p (.lst (.inr rfl) (vs:=vs) (e:=e) (ws:=vs.take (j*i.size)) (ro:=false) ?_ ?_ ((Dv.take (j*i.size) r5).mono (fun d hd=>⟨.inl hd,?_⟩)) (Ls r6 _))
  ·simp only [A8];rw [Mem.Bv,if_neg (by omega)];exact r4
  ·have:j*i.size≤N*i.size:=Nat.mul_le_mul_right _ hj
   rw [List.drop_zero,List.length_take,Nat.min_eq_left (by omega)]
   unfold takeN
   rw [if_pos (by omega)]
  ·simp only [A8];rw [Mem.Bv,if_neg (by have:=h1.fr d hd;omega)]
theorem Dv.nth {m:Mem} {F:Nat→Prop}:∀ {cs:List FV} {vs:List Value},Dv m F cs vs→∀ {i:Nat} {x:FV},cs[i]?=some x→∃ u,vs[i]?=some u∧RF m F x u
 |_,_,.nil,i,x,h=>by simp at h
 |_,_,.cons h _,0,x,e=>by
  simp only [List.getElem?_cons_zero,Option.some.injEq] at e
  subst e;exact ⟨_,rfl,h⟩
 |_,_,.cons _ t,i+1,x,e=>by
  simp only [List.getElem?_cons_succ] at e ⊢
  exact Dv.nth t e
theorem CG.jd {ops:Array Oper} {l:List Oper} {R:Frame→Heap→Nat→Prop} {d:Tmp} {ty1 ty2:TypeId} {pos1 pos2:String} {af1 af2:Array Edge} {tA tS:TypeId} {x ix y:Operand} {e:TypeId} {cs:List FV} {N:Nat} {k kd:IntKind} {i:Nat} {v:Int} {inf:TypeInfo}
 (hx:Bh E.Γ L x=some (.p (.own e cs N))) (hi:Bh E.Γ L ix=some (.p (.int k (i:Int)))) (hs:elemSize E.P tA=some 1) (h1:i<N) (hv:cs[i]?=some (.int kd v))
 (hy:Bh E.Γ (Gy L (some d) (.p (.EL (cs.drop i)))) y=some (.p (.int kd v))) (a8r:E.P.info? tS=some inf) (hsz:inf.size=1)
 (q:CG E n bn ops l (Gy L (some d) (.p (.EL (cs.drop i)))) H nx R) :
 CG E n bn ops (⟨some d,.indexAddr tA x ix,ty1,pos1,af1,none⟩::⟨none,.store tS (.tmp d) y,ty2,pos2,af2,none⟩::l) L H nx R:=by
 intro hsn hok B hB m F σ t c1 c2 h3 ι ac w hst R' hR
 obtain ⟨e',inf',g3,g4,g5⟩:=Ll hs
 have hix:=Dc c1 c2 hi
 have hrx:=BK c1 c2 hx
 generalize hvx:ev t x=vx at hrx
 cases hrx with
 |p hr =>
 cases hr with
 |QI=>simp at hv
 |O7=>simp at hv
 |own hF hm hw hr hc =>
 rename_i b o g vs ws
 have hws:=EU hw
 have hcell:RF m F (.int kd v) (.int kd v):=.int _ _
 have hwi:ws[i]?=some (.int kd v):=by
  obtain ⟨u,hu,hru⟩:=hr.nth hv
  cases hru
  exact hu
 have hvi:vs[o+i]?=some (.int kd v):=by
  rw [hws.1,List.getElem?_take] at hwi
  split at hwi
  ·rw [List.getElem?_drop] at hwi;exact hwi
  ·cases hwi
 have hval:∀ call,Ce E.P call (ev t) ⟨some d,.indexAddr tA x ix,ty1,pos1,af1,none⟩ m=some (.pointer (some ⟨b,o+i,some g⟩),m):=fun call=>by
  have h0:(0:Int)≤(i:Int)∧(i:Int)<(N:Int):=⟨by omega,by omega⟩
  simp only [Ce,EX,g3,hvx,hix,g4,h0,and_self,if_true,g5,Int.toNat_natCast,Nat.mul_one]
 have hcall:=Hr (N:=0) hsn.o hsn.mix 0
 unfold wpListIn
 rw [Hl rfl,if_pos rfl]
 have hop:=(DK (hok _ (List.mem_cons_self ..))).1
 have hop2:=DK (hok ⟨none,.store tS (.tmp d) y,ty2,pos2,af2,none⟩ (by simp))
 have hdst:=(DK (hok _ (List.mem_cons_self ..))).2
 have:=MW (rf:=none) (nn:=0) (a:=ac) (K:=wpListIn Fence.wide 0 E.P ops R' (⟨none,.store tS (.tmp d) y,ty2,pos2,af2,none⟩::l)) (Q:=R') hcall hst.1 (fun x hx=>I7 hst.1 hst.2 (hop x hx)) (hval _) fun v' w' hp=>by
  obtain ⟨ι',he,Dp,NZ⟩:=hp
  have hst1:DV E.P E.G [] n ⟨Gz t (some d) (.pointer (some ⟨b,o+i,some g⟩)),m⟩ ι' (ac.put (some d) v') w':=⟨Dp,(hst.2.mono he.le).put hdst NZ⟩
  have hcp:RP m F (htag H) σ nx (.p (.EL (cs.drop i))) (.pointer (some ⟨b,o+i,some g⟩)):=by
   refine .p (.EL hF hm rfl ?_ (Dv.drop i hr) (J8 hc _))
   have:=MR (k:=i) hw
   rw [List.length_drop,← List.drop_drop]
   exact this
  have hL1:RL m F (htag H) σ nx (Gy L (some d) (.p (.EL (cs.drop i)))) (Gz t (some d) (.pointer (some ⟨b,o+i,some g⟩))):=c2.put hcp
  have hey:AA ι' m.gen (ev (Gz t (some d) (.pointer (some ⟨b,o+i,some g⟩))) y) ((ac.put (some d) v').eval y):=I7 hst1.1 hst1.2 (hop2.1 y (by simp [Op.operands]))
  rw [Dc c1 hL1 hy] at hey
  have ey:(ac.put (some d) v').eval y=.int kd v:=by generalize (ac.put (some d) v').eval y=u at hey;cases hey;rfl
  have hed:AA ι' m.gen (ev (Gz t (some d) (.pointer (some ⟨b,o+i,some g⟩))) (.tmp d)) ((ac.put (some d) v').eval (.tmp d)):=I7 hst1.1 hst1.2 (hop2.1 (.tmp d) (by simp [Op.operands]))
  have et:ev (Gz t (some d) (.pointer (some ⟨b,o+i,some g⟩))) (.tmp d)=.pointer (some ⟨b,o+i,some g⟩):=by
   show CB (Og t d _) d=_
   rw [Di,if_pos rfl]
  rw [et] at hed
  obtain ⟨a',ea,har⟩:∃ a',(ac.put (some d) v').eval (.tmp d)=.pointer (some a')∧NV ι' m.gen ⟨b,o+i,some g⟩ a':=by
   generalize (ac.put (some d) v').eval (.tmp d)=u at hed;cases hed;exact ⟨_,rfl,by assumption⟩
  obtain ⟨w2,hrun,k1,k2,k3,k4⟩:=Ze (t:=tS) (x:=.int kd v) hst1.1 har hm rfl hvi rfl rfl rfl a8r hsz
  have hrun2:(execOp (ac.put (some d) v').eval ⟨none,.store tS (.tmp d) y,ty2,pos2,af2,none⟩).run E.P w'=.ok .skip w2:=by
   simp only [execOp,Instr.storeAt,ea,ey,Instr.sureAddr,Sem.run_bind,Sem.run_pure,Result.andThen_ok,hrun]
  unfold wpListIn
  rw [Hl rfl,if_pos rfl]
  unfold Oper.wpIn
  rw [Oper.semAt_eq _ _ _ (fun c hc=>by cases hc),hrun2]
  refine ⟨fun _ _=>trivial,?_⟩
  have he2:=Ext.a8y ι' m k1 k2 k3 k4
  refine q hsn (fun o ho=>hok o (List.mem_cons_of_mem _ (List.mem_cons_of_mem _ ho))) B hB m F σ _ c1 hL1 h3 ι' _ w2 ⟨hst1.1.heap k1,hst1.2⟩ R' fun L2 H2 xJ a2 w3 q2 hw2=>hR L2 H2 xJ a2 w3 q2 ?_
  obtain ⟨m2,F2,σ2,t2,ι2,d1,d2,d3,he3,hst3,hkp3⟩:=hw2.ex
  refine ⟨m2,F2,σ2,t2,ι2,d1,d2,d3,Ext.trans hst.1 (Ext.trans hst.1 he he2) he3,hst3,fun z hz=>?_⟩
  simp only [Ru,List.all_cons,Bool.and_eq_true] at hz
  exact (hkp3 z hz.2.2).trans (LJ hz.1)
 exact this
theorem Bo.Pg (d:Nat) {b N:Nat} {e:TypeId} {cs:List FV} {z:Bool} (hd:ET L d=some (.vec b N 0 N)) (hb:hget H b=some (.vec e cs N z)):Bo E L H nx ((d,.p (.own e cs N))::L) (hdel H b) nx:=fun B m F σ t h1 h2 h3=>by
 obtain ⟨c1,c2,c3⟩:=TV h1 hb
 refine ⟨_,σ,c1,fun i v hi=>?_,h3.trans c2⟩
 rw [DW] at hi
 by_cases ei:d=i
 ·rw [if_pos ei] at hi;cases hi
  have:=h2 d _ hd
  subst ei
  generalize CB t d=u at this
  cases this with
  |vec hb' hc h =>
   have hv:=(h N (by simp [htag,hb,HB.tag])).2 rfl
   obtain ⟨_,hr⟩:=h1.hp b _ hb
   rcases hr with ⟨r1,r2,r3⟩|⟨c,g,vs,r1,r2,r3,r4,r5,r6,r7⟩
   ·subst r1;subst r2
    rcases r3 with ⟨r3,_⟩|⟨b',o',g',r3,_⟩
    ·rw [r3] at hv;obtain ⟨rfl,_,_⟩:=hv;exact .p (.QI _)
    ·rw [r3] at hv;simp only [EW] at hv;rw [hv.1];exact .p (.O7 _ _ _ _)
   ·rw [r1] at hv
    simp only [EW] at hv
    subst hv
    refine .p (.own (.inr (by rw [r1];rfl)) r4 ?_ (r5.mono fun c hc=>⟨.inl hc,rfl⟩) r6)
    rw [List.drop_zero,r5.length];simp [takeN]
 ·rw [if_neg ei] at hi
  exact (h2 i v hi).step c2 h1
theorem Bo.b3g (d:Nat) (e:TypeId) (hd:ET L d=some (.p (.val (.slice none 0 0)))):Bo E L H nx ((d,.p (.own e [] 0))::L) H nx:=fun B m F σ t h1 h2 h3=>by
 refine ⟨F,σ,h1,fun i v hi=>?_,h3⟩
 rw [DW] at hi
 by_cases ei:d=i
 ·rw [if_pos ei] at hi;cases hi
  have:=h2 d _ hd
  subst ei
  generalize CB t d=u at this
  cases this with
  |p hr=>cases hr;exact .p (.QI _)
 ·rw [if_neg ei] at hi
  exact h2 i v hi
end Go.Vm
namespace Go.Proofs.YtnjkoebfgcbbdaaGreatDoor
section
open Go Go.Am Go.Vm Go.Pie
attribute [local irreducible] Aa Ad Af Ac Ba AB BG Au Ap Ah Vm.Done BQ AY Qr
attribute [local irreducible] CV Bq Eh DY Ez BH CW
structure OwL where
 l:List Int
instance:Enc OwL:={ default:=⟨[]⟩,enc:=fun x=>[.own 3 (cells x.l) x.l.length],size:=1,len:=fun _=>rfl }
instance:Enc (List Int):={ default:=[],enc:=fun x=>[.lst 3 (cells x) x.length],size:=1,len:=fun _=>rfl }
theorem iO (l:List Int) (h1:l.length<1000000):AB env 75 [.lst 3 (cells l) l.length] (.p (.own 3 (cells l) l.length)):=by
 rcases Nat.eq_zero_or_pos l.length with h0|h0
 ·obtain rfl:l=[]:=List.length_eq_zero_iff.1 h0
  refine AB.enter (Aj (by decide)) Tryz.func75 rfl (by kernel_rfl) (by simp [Tryz.ntmps75]) ?_
  repeat' (first|(refine Ad.JE 2 ?_;refine Ad.ghost (Bo.Pg 7 rfl rfl) ?_)|(refine Ac.ghost (Bo.b3g 2 3 rfl) ?_;apply Ac.BL)|apply Ac.assoc|apply Ac.Ak|apply Ac.Ai|apply Ac.ret|apply Ad.nil|apply Ad.one|(apply Aa.eqNil;rfl;rfl;rfl)|(apply Aa.assign;rfl)|(apply Aa.move;rfl)|(apply Aa.buildSlice;rfl;rfl;rfl;decide;rfl;rfl;rfl)|(apply Aa.Rl;rfl;rfl;rfl;(first|rfl|omega|(simp only [List.length_take,List.length_drop,List.length_append,List.length_singleton,List.length_cons,List.length_nil]<;>omega));rfl;rfl;(intro _ h;cases h);rfl;rfl;rfl;decide;decide;(first|omega|(simp only [List.length_take,List.length_drop,List.length_append,List.length_singleton,List.length_cons,List.length_nil]<;>omega)))|(apply Ac.Pm;rfl)|(intro _;try (exfalso;omega)))
  all_goals first|(exfalso;omega)|(refine Done.rt rfl rfl ⟨?_,rfl,rfl⟩;try rfl)
 ·refine AB.enter (Aj (by decide)) Tryz.func75 rfl (by kernel_rfl) (by simp [Tryz.ntmps75]) ?_
  repeat' (first|(refine Ad.JE 2 ?_;refine Ad.ghost (Bo.Pg 7 rfl rfl) ?_)|apply Ac.assoc|apply Ac.Ak|apply Ac.Ai|apply Ac.ret|apply Ad.nil|apply Ad.one|(apply Aa.a1j;rfl;rfl;rfl;exact h0)|(apply Aa.assign;rfl)|(apply Aa.move;rfl)|(apply Aa.buildSlice;rfl;rfl;rfl;decide;rfl;rfl;rfl)|(apply Aa.Rl;rfl;rfl;rfl;(first|rfl|omega|(simp only [List.length_take,List.length_drop,List.length_append,List.length_singleton,List.length_cons,List.length_nil]<;>omega));rfl;rfl;(intro _ h;cases h);rfl;rfl;rfl;decide;decide;(first|omega|(simp only [List.length_take,List.length_drop,List.length_append,List.length_singleton,List.length_cons,List.length_nil]<;>omega)))|(apply Ac.Aq;rfl))
  all_goals first|(exfalso;omega)|(refine Done.rt rfl rfl ⟨?_,rfl,rfl⟩;try rfl)
end
section
open Go Go.Am Go.Vm Go.Pie
attribute [local irreducible] Aa Ad Af Ac Ba AB BG Au Ap Ah Vm.Done BQ AY
attribute [local irreducible] CV Bq Eh DY Ez BH CW
def lwR (r:Rgs) (p:F7) (t:Int):Nat→Rgs
 |0=>r
 |k+1=>if gi p.bars (gi p.sets k).bar.toNat≤t then (gi p.sets k).reg else lwR r p t k
end
section
open Go Go.Am Go.Vm Go.Pie
attribute [local irreducible] Aa Ad Af Ac Ba AB BG Au Ap Ah Vm.Done BQ AY
attribute [local irreducible] CV Bq Eh DY Ez BH CW
def lkF (p:F7) (L:List Int) (k d:Nat):Jy:=kK (kdK p L d k) (kdK p L d k).length
end
section
open Go Go.Am Go.Vm Go.Pie
attribute [local irreducible] Aa Ad Af Ac Ba AB BG Au Ap Ah Vm.Done BQ AY
attribute [local irreducible] CV Bq Eh DY Ez BH CW
noncomputable instance (a b:Rgs):Decidable (a=b):=Classical.propDecidable _
noncomputable instance (a b:o9):Decidable (a=b):=Classical.propDecidable _
noncomputable instance (a b:F7):Decidable (a=b):=Classical.propDecidable _
end
section
open Go Go.Am Go.Vm
instance b8d:Enc (List Int):={ default:=[],enc:=fun l=>[.lst 3 (cells l) l.length],size:=1,len:=fun _=>rfl }
attribute [local irreducible] Aa Ad Af Ac Ba AB BG Au Ap Ah Vm.Done BQ AY
def c0k (n k:Nat) (v:Int):List Int:=List.replicate k v++List.replicate (n-k) 0
end
section
open Go Go.Am Go.Vm Go.Pie
attribute [local irreducible] Aa Ad Af Ac Ba AB BG Au Ap Ah Vm.Done BQ AY
attribute [local irreducible] CV Bq Eh DY Ez BH CW
def exR (c:UInt8):IE:=⟨[c],[102,108,117,116,101],⟨8,1⟩,36,List.replicate 25 1⟩
def exS (n Fv sh:Int):Stp:=⟨[97],⟨Fv,1⟩,[⟨36,48,[⟨n,sh⟩]⟩]⟩
def b5a:gU:=⟨[111,110,101],false,36,48,[exS 0 8 0]⟩
def b7m:gU:=⟨[116,119,111],false,36,48,[exS 1 4 12]⟩
def exO:IV:=⟨[101],[exR 114,exR 115],[b5a,b7m],[⟨[99],0,1,0,false⟩]⟩
def exG:Rgs:=⟨[1,0],0,0⟩
def exP:F7:=⟨[0,4,8],[⟨0,6,0,40⟩,⟨4,8,0,43⟩],[⟨1,exG⟩]⟩
end
section
open Go Go.Am Go.Vm Go.Pie
attribute [local irreducible] Aa Ad Af Ac Ba AB BG Au Ap Ah Vm.Done BQ AY
attribute [local irreducible] CV Bq Eh DY Ez BH CW
instance (c:Nat):Decidable (oO c):=by unfold oO;infer_instance
theorem a1b (s:List UInt8) (h0:0<s.length) (h1:s.length≤32) (h:∀ i,i<s.length→oO (gi s i).toNat):EC s:=⟨h0,h1,h 0 h0,fun i _ hi=>.inl (h i hi)⟩
theorem lt2 {i:Nat} (h:i<2):i=0∨i=1:=by omega
theorem pk1 (n:Int) (h:n=8∨n=4):Qb ⟨n,1⟩=0:=a4m.2 (by rcases h with rfl|rfl<;>decide +kernel)
end
section
open Go Go.Am Go.Vm
theorem a8h {n:Int} (h:(Lit.int .u8 n).wf=true):∃ m:Nat,m<256∧n=m:=by
 simp [Lit.wf,IntKind.min,IntKind.max,IntKind.signed,IntKind.bits] at h
 exact ⟨n.toNat,by omega,by omega⟩
section
variable {α β:Type} {R:α→β→Prop} {a b c d e:α} {r:List β}
theorem kU (h:IZ R [a] r):∃ x,r=[x]∧R a x:=by
 cases h with|cons h1 t=>cases t;exact ⟨_,rfl,h1⟩
end
end
section
open Go Go.Am Go.Vm
theorem b0d {j:Nat} {fs:List FV} (h:Oo Tryz.prog (j+1) 5 fs):∃ n:Nat,fs=[.int .u8 (n:Int)]∧n<256:=by
 simp only [Oo,Tryz.underlying5] at h
 obtain ⟨n,rfl,hn⟩:=h
 obtain ⟨m,q,rfl⟩:=a8h hn
 exact ⟨m,rfl,q⟩
end
section
open Go Go.Am Go.Vm
end
section
open Go Go.Am Go.Vm Go.Pie
attribute [local irreducible] Aa Ad Af Ac Ba AB BG Au Ap Ah Vm.Done BQ AY
attribute [local irreducible] CV Bq Eh DY Ez BH CW
def Sd8.Ok (y:Sd8):Prop:=y.st<256∧y.lg<256∧y.dv<256∧y.ky<256
def Mrk.Ok (y:Mrk):Prop:=y.bar<256∧∀ j,y.b j<256
noncomputable instance (a b:Jy):Decidable (a=b):=Classical.propDecidable _
end
section
open Go Go.Am Go.Vm Go.Pie
attribute [local irreducible] Aa Ad Af Ac Ba AB BG Au Ap Ah Vm.Done BQ AY
attribute [local irreducible] CV Bq Eh DY Ez BH CW
theorem iM (p:F7) (t:Int) (x:Int):∀ k,x∈Jr p t k↔∃ i:Nat,i<k∧x=(i:Int)∧VW p t i=true
 |0=>by simp [Jr]
 |k+1=>by
  have ih:=iM p t x k
  have e:Jr p t (k+1)=if VW p t k=true then Jr p t k++[(k:Int)] else Jr p t k:=rfl
  rw [e]
  by_cases h:VW p t k=true
  ·rw [if_pos h,List.mem_append,List.mem_singleton,ih]
   constructor
   ·rintro (⟨i,h1,h2⟩|h1)
    ·exact ⟨i,by omega,h2⟩
    ·exact ⟨k,by omega,h1,h⟩
   ·rintro ⟨i,h1,h2,h3⟩
    by_cases e:i=k
    ·subst e;exact .inr h2
    ·exact .inl ⟨i,by omega,h2,h3⟩
  ·rw [if_neg h,ih]
   constructor
   ·rintro ⟨i,h1,h2⟩;exact ⟨i,by omega,h2⟩
   ·rintro ⟨i,h1,h2,h3⟩
    by_cases e:i=k
    ·subst e;exact absurd h3 h
    ·exact ⟨i,by omega,h2,h3⟩
theorem Wh (p:F7) (t:Int):∀ k,t∈Rj p k↔t=NG p∨t=OH p∨∃ i,i<k∧(t=(gi p.notes i).s∨t=(gi p.notes i).e)
 |0=>by simp [Rj]
 |k+1=>by
  have ih:=Wh p t k
  have e:Rj p (k+1)=Rj p k++[(gi p.notes k).s,(gi p.notes k).e]:=rfl
  rw [e,List.mem_append,ih]
  simp only [List.mem_cons,List.not_mem_nil,or_false]
  constructor
  ·rintro ((h|h|⟨i,h1,h2⟩)|h)
   ·exact .inl h
   ·exact .inr (.inl h)
   ·exact .inr (.inr ⟨i,by omega,h2⟩)
   ·exact .inr (.inr ⟨k,by omega,h⟩)
  ·rintro (h|h|⟨i,h1,h2⟩)
   ·exact .inl (.inl h)
   ·exact .inl (.inr (.inl h))
   ·by_cases e:i=k
    ·subst e;exact .inr h2
    ·exact .inl (.inr (.inr ⟨i,by omega,h2⟩))
theorem kJ (p:F7) (t:Int) (i:Nat):VW p t i=true↔(gi p.notes i).s≤t∧t<(gi p.notes i).e:=by
 unfold VW;simp
end
end Go.Proofs.YtnjkoebfgcbbdaaGreatDoor
namespace Go.Sch
section
open Go.Vm
def cmpL:List Int→List Int→Int
 |[],[]=>0
 |[],_::_=>-1
 |_::_,[]=>1
 |x::a,y::b=>if x<y then -1 else if y<x then 1 else cmpL a b
theorem aP:∀ a:List Int,cmpL a a=0
 |[]=>rfl
 |x::a=>by unfold cmpL;rw [if_neg (by omega),if_neg (by omega),aP a]
theorem cmpL_eq:∀ {a b:List Int},cmpL a b=0→a=b
 |[],[],_=>rfl
 |[],_::_,h=>by cases h
 |_::_,[],h=>by cases h
 |x::a,y::b,h=>by
  unfold cmpL at h
  split at h
  ·cases h
  ·split at h
   ·cases h
   ·rw [cmpL_eq h,show x=y by omega]
theorem TS:∀ a b:List Int,cmpL a b=-cmpL b a
 |[],[]=>rfl
 |[],_::_=>rfl
 |_::_,[]=>rfl
 |x::a,y::b=>by
  unfold cmpL
  by_cases h1:x<y
  ·rw [if_pos h1,if_neg (by omega),if_pos h1]
  ·by_cases h2:y<x
   ·rw [if_neg h1,if_pos h2,if_pos h2];rfl
   ·rw [if_neg h1,if_neg h2,if_neg h2,if_neg h1,TS a b]
theorem Yp:∀ {a b c:List Int},cmpL a b≤0→cmpL b c≤0→cmpL a c≤0
 |[],_,[],_,_=>Int.le_refl _
 |[],_,_::_,_,_=>by show (-1:Int)≤0;omega
 |_::_,[],_,h,_=>by exact absurd h (by show ¬ (1:Int)≤0;omega)
 |_::_,_::_,[],_,h=>by exact absurd h (by show ¬ (1:Int)≤0;omega)
 |x::a,y::b,z::c,h1,h2=>by
  unfold cmpL at h1 h2 ⊢
  by_cases g1:x<y
  ·by_cases g2:y<z
   ·rw [if_pos (by omega)];omega
   ·rw [if_neg g2] at h2
    by_cases g3:z<y
    ·rw [if_pos g3] at h2;omega
    ·rw [if_pos (by omega)];omega
  ·rw [if_neg g1] at h1
   by_cases g1':y<x
   ·rw [if_pos g1'] at h1;omega
   ·rw [if_neg g1'] at h1
    by_cases g2:y<z
    ·rw [if_pos (by omega)];omega
    ·rw [if_neg g2] at h2
     by_cases g3:z<y
     ·rw [if_pos g3] at h2;omega
     ·rw [if_neg g3] at h2
      rw [if_neg (by omega),if_neg (by omega)]
      exact Yp h1 h2
theorem iL:∀ {a b:List Int} {m:Nat} {v:Int},m<a.length→m<b.length→gi a m=gi b m→cmpL (a.set m v) (b.set m v)=cmpL a b
 |[],_,_,_,h,_,_=>absurd h (Nat.not_lt_zero _)
 |_::_,[],_,_,_,h,_=>absurd h (Nat.not_lt_zero _)
 |x::a,y::b,0,v,_,_,h=>by
  have e:x=y:=h
  subst e
  rw [List.set_cons_zero,List.set_cons_zero]
  unfold cmpL
  rw [if_neg (by omega),if_neg (by omega),if_neg (by omega),if_neg (by omega)]
 |x::a,y::b,m+1,v,h1,h2,h=>by
  rw [List.set_cons_succ,List.set_cons_succ]
  have ih:=iL (v:=v) (a:=a) (b:=b) (m:=m) (by simpa using h1) (by simpa using h2) (by simpa [gi] using h)
  unfold cmpL
  rw [ih]
def aZ (x y:List Int×Int):Prop:=x.2<y.2∨x.2=y.2∧cmpL x.1 y.1≤0
theorem IC (x:List Int×Int):aZ x x:=.inr ⟨rfl,by rw [aP];omega⟩
theorem JO {x y z:List Int×Int} (h1:aZ x y) (h2:aZ y z):aZ x z:=by
 rcases h1 with h1|⟨h1,h1'⟩
 ·rcases h2 with h2|⟨h2,_⟩
  ·exact .inl (by omega)
  ·exact .inl (by omega)
 ·rcases h2 with h2|⟨h2,h2'⟩
  ·exact .inl (by omega)
  ·exact .inr ⟨by omega,Yp h1' h2'⟩
theorem y8 {x y:List Int×Int} (h1:aZ x y) (h2:aZ y x):x=y:=by
 obtain ⟨a,c⟩:=x
 obtain ⟨b,d⟩:=y
 rcases h1 with h1|⟨h1,h1'⟩
 ·rcases h2 with h2|⟨h2,_⟩<;>simp only at h1 h2<;>omega
 ·rcases h2 with h2|⟨h2,h2'⟩
  ·simp only at h1 h2;omega
  ·simp only at h1 h1' h2'
   have h3:=TS a b
   rw [h1,cmpL_eq (a:=a) (b:=b) (by omega)]
def vH (x y:List Int×Int):Bool:=decide (x.2<y.2)||(decide (x.2=y.2)&&decide (cmpL x.1 y.1<0))
theorem nI {x y:List Int×Int} (h:vH x y=true):aZ x y:=by
 unfold vH at h
 simp only [Bool.or_eq_true,Bool.and_eq_true,decide_eq_true_eq] at h
 rcases h with h|⟨h,h'⟩
 ·exact .inl h
 ·exact .inr ⟨h,by omega⟩
theorem dJ {x y:List Int×Int} (h:vH x y=false):aZ y x:=by
 unfold vH at h
 simp only [Bool.or_eq_false_iff,Bool.and_eq_false_iff,decide_eq_false_iff_not] at h
 obtain ⟨h1,h2⟩:=h
 rcases h2 with h2|h2
 ·exact .inl (by omega)
 ·by_cases e:x.2=y.2
  ·have:=TS x.1 y.1
   exact .inr ⟨e.symm,by omega⟩
  ·exact .inl (by omega)
def Fg (nw:Nat→Bool) (f:Nat→Nat) (l:List Int):Nat→List (List Int)
 |0=>[l]
 |k+1=>if nw k=true then Fg nw f l k++(Fg nw f l k).map (fun x=>x.set (f k) 1) else Fg nw f l k
theorem Yg (nw:Nat→Bool) (f:Nat→Nat) (l:List Int):∀ k,1≤(Fg nw f l k).length∧(Fg nw f l k).length≤2 ^ k
 |0=>⟨Nat.le_refl _,Nat.le_refl _⟩
 |k+1=>by
  have ih:=Yg nw f l k
  have:2 ^ (k+1)=2 ^ k+2 ^ k:=by rw [Nat.pow_succ];omega
  unfold Fg
  split
  ·rw [List.length_append,List.length_map];omega
  ·omega
def Tz (nw:Nat→Bool) (f:Nat→Nat) (k i:Nat):Prop:=∃ j,j<k∧nw j=true∧f j=i
theorem Tz.succ {nw:Nat→Bool} {f:Nat→Nat} {k i:Nat}:Tz nw f (k+1) i↔Tz nw f k i∨nw k=true∧f k=i:=by
 constructor
 ·rintro ⟨j,h1,h2,h3⟩
  by_cases e:j=k
  ·subst e;exact .inr ⟨h2,h3⟩
  ·exact .inl ⟨j,by omega,h2,h3⟩
 ·rintro (⟨j,h1,h2,h3⟩|⟨h1,h2⟩)
  ·exact ⟨j,by omega,h2,h3⟩
  ·exact ⟨k,by omega,h1,h2⟩
theorem L8 {nw:Nat→Bool} {f:Nat→Nat} {l:List Int}:∀ (k:Nat),(∀ j j',j<k→j'<k→f j=f j'→j=j')→(∀ j,j<k→f j<l.length)→(∀ j,j<k→nw j=true→gi l (f j)=0)→∀ x:List Int,
 x∈Fg nw f l k↔x.length=l.length∧∀ i,i<l.length→(Tz nw f k i→gi x i=0∨gi x i=1)∧(¬ Tz nw f k i→gi x i=gi l i)
 |0,_,_,_,x=>by
  have h0:∀ i,¬ Tz nw f 0 i:=fun i ⟨j,h,_⟩=>by omega
  unfold Fg
  rw [List.mem_singleton]
  constructor
  ·rintro rfl;exact ⟨rfl,fun i _=>⟨fun h=>(h0 i h).elim,fun _=>rfl⟩⟩
  ·rintro ⟨h1,h2⟩
   exact JL h1 fun i hi=>(h2 i (by omega)).2 (h0 i)
 |k+1,hinj,hr,hz,x=>by
  have ih:=L8 k (fun j j' h h'=>hinj j j' (by omega) (by omega)) (fun j h=>hr j (by omega)) (fun j h=>hz j (by omega))
  have hk:=hr k (by omega)
  unfold Fg
  by_cases hn:nw k=true
  ·rw [if_pos hn,List.mem_append,ih,List.mem_map]
   have hnk:¬ Tz nw f k (f k):=fun ⟨j,h1,_,h3⟩=>by
    have:=hinj j k (by omega) (by omega) h3
    omega
   have hzk:=hz k (by omega) hn
   constructor
   ·rintro (⟨h1,h2⟩|⟨y,hy,rfl⟩)
    ·refine ⟨h1,fun i hi=>⟨fun hh=>?_,fun hh=>(h2 i hi).2 fun h=>hh (Tz.succ.2 (.inl h))⟩⟩
     rcases Tz.succ.1 hh with hh|⟨_,rfl⟩
     ·exact (h2 i hi).1 hh
     ·exact .inl (((h2 _ hi).2 hnk).trans hzk)
    ·obtain ⟨h1,h2⟩:=(ih y).1 hy
     refine ⟨by rw [List.length_set,h1],fun i hi=>⟨fun hh=>?_,fun hh=>?_⟩⟩
     ·rw [GZ]
      split
      ·exact .inr rfl
      ·rename_i e
       rcases Tz.succ.1 hh with hh|⟨_,rfl⟩
       ·exact (h2 i hi).1 hh
       ·exact absurd ⟨rfl,by omega⟩ e
     ·rw [GZ,if_neg fun e=>hh (Tz.succ.2 (.inr ⟨hn,e.1⟩))]
      exact (h2 i hi).2 fun h=>hh (Tz.succ.2 (.inl h))
   ·rintro ⟨h1,h2⟩
    rcases (h2 (f k) hk).1 (Tz.succ.2 (.inr ⟨hn,rfl⟩)) with e|e
    ·refine .inl ⟨h1,fun i hi=>⟨fun hh=>(h2 i hi).1 (Tz.succ.2 (.inl hh)),fun hh=>?_⟩⟩
     by_cases ei:f k=i
     ·subst ei;rw [e,hzk]
     ·exact (h2 i hi).2 fun h=>(Tz.succ.1 h).elim hh fun h=>ei h.2
    ·refine .inr ⟨x.set (f k) 0,(ih _).2 ⟨by rw [List.length_set,h1],fun i hi=>⟨fun hh=>?_,fun hh=>?_⟩⟩,?_⟩
     ·have ei:f k≠i:=fun e=>hnk (e.symm▸hh)
      rw [GZ,if_neg fun e=>ei e.1]
      exact (h2 i hi).1 (Tz.succ.2 (.inl hh))
     ·rw [GZ]
      by_cases ei:f k=i
      ·subst ei;rw [if_pos ⟨rfl,by omega⟩,hzk]
      ·rw [if_neg fun h=>ei h.1]
       exact (h2 i hi).2 fun h=>(Tz.succ.1 h).elim hh fun h=>ei h.2
     ·refine JL (by simp) fun i hi=>?_
      rw [GZ,GZ]
      by_cases ei:f k=i
      ·subst ei;rw [if_pos ⟨rfl,by simpa using hi⟩,e]
      ·rw [if_neg fun h=>ei h.1,if_neg fun h=>ei h.1]
  ·rw [if_neg hn,ih]
   have:∀ i,Tz nw f (k+1) i↔Tz nw f k i:=fun i=>by
    rw [Tz.succ]
    exact ⟨fun h=>h.elim id fun h=>absurd h.1 hn,.inl⟩
   simp only [this]
theorem Za {L:List (List Int)} {m:Nat} (hz:∀ x∈L,m<x.length∧gi x m=0) (h:L.Nodup):(L.map fun x=>x.set m 1).Nodup:=by
 have hb:∀ x∈L,((x.set m 1).set m 0)=x:=fun x hx=>by
  obtain ⟨h1,h2⟩:=hz x hx
  refine JL (by simp) fun i hi=>?_
  rw [GZ,GZ]
  by_cases e:m=i
  ·subst e;rw [if_pos ⟨rfl,by simpa using hi⟩,h2]
  ·rw [if_neg fun h=>e h.1,if_neg fun h=>e h.1]
 refine List.Pairwise.map _ (R:=fun a b=>a∈L∧b∈L∧a≠b) (fun a b ⟨ha,hb',hne⟩ e=>hne ?_) ?_
 ·rw [← hb a ha,← hb b hb',e]
 ·exact List.Pairwise.imp_of_mem (R:=(·≠·)) (fun {a b} ha hb h=>⟨ha,hb,h⟩) h
theorem XC {nw:Nat→Bool} {f:Nat→Nat} {l:List Int}:∀ (k:Nat),(∀ j j',j<k→j'<k→f j=f j'→j=j')→(∀ j,j<k→f j<l.length)→(∀ j,j<k→nw j=true→gi l (f j)=0)→(Fg nw f l k).Nodup
 |0,_,_,_=>by unfold Fg;simp
 |k+1,hinj,hr,hz=>by
  have hm:=L8 (nw:=nw) (f:=f) (l:=l) k (fun j j' h h'=>hinj j j' (by omega) (by omega)) (fun j h=>hr j (by omega)) (fun j h=>hz j (by omega))
  have ih:=XC (nw:=nw) (f:=f) (l:=l) k (fun j j' h h'=>hinj j j' (by omega) (by omega)) (fun j h=>hr j (by omega)) (fun j h=>hz j (by omega))
  have hk:=hr k (by omega)
  unfold Fg
  by_cases hn:nw k=true
  ·rw [if_pos hn]
   have hnk:¬ Tz nw f k (f k):=fun ⟨j,h1,_,h3⟩=>by
    have:=hinj j k (by omega) (by omega) h3
    omega
   have hzz:∀ x∈Fg nw f l k,f k<x.length∧gi x (f k)=0:=fun x hx=>by
    obtain ⟨h1,h2⟩:=(hm x).1 hx
    exact ⟨by omega,((h2 _ hk).2 hnk).trans (hz k (by omega) hn)⟩
   refine List.nodup_append.2 ⟨ih,Za hzz ih,fun a ha b hb e=>?_⟩
   subst e
   obtain ⟨y,hy,e⟩:=List.mem_map.1 hb
   have h1:=(hzz a ha).2
   rw [← e,GZ,if_pos ⟨rfl,(hzz y hy).1⟩] at h1
   cases h1
  ·rw [if_neg hn];exact ih
inductive All2' {α β:Type} (R:α→β→Prop):List α→List β→Prop
 |nil:All2' R [] []
 |cons {a b l r} (h:R a b) (t:All2' R l r):All2' R (a::l) (b::r)
theorem All2'.append {α β:Type} {R:α→β→Prop}:∀ {l1:List α} {r1:List β} {l2:List α} {r2:List β},All2' R l1 r1→All2' R l2 r2→All2' R (l1++l2) (r1++r2)
 |_,_,_,_,.nil,h=>h
 |_,_,_,_,.cons h t,k=>.cons h (All2'.append t k)
theorem All2'.map {α β γ δ:Type} {R:α→β→Prop} {S:γ→δ→Prop} {g:α→γ} {h:β→δ} (hi:∀ a b,R a b→S (g a) (h b)):∀ {l:List α} {r:List β},All2' R l r→All2' S (l.map g) (r.map h)
 |_,_,.nil=>.nil
 |_,_,.cons a t=>.cons (hi _ _ a) (All2'.map hi t)
theorem All2'.filter {α β:Type} {R:α→β→Prop} {g:α→Bool} {h:β→Bool} (hi:∀ a b,R a b→g a=h b):∀ {l:List α} {r:List β},All2' R l r→All2' R (l.filter g) (r.filter h)
 |_,_,.nil=>.nil
 |_,_,.cons (a:=a) (b:=b) x t=>by
  rw [List.filter_cons,List.filter_cons,hi a b x]
  cases h b
  ·exact All2'.filter hi t
  ·exact .cons x (All2'.filter hi t)
theorem All2'.right {α β:Type} {R:α→β→Prop}:∀ {l:List α} {r:List β},All2' R l r→∀ b∈r,∃ a,a∈l∧R a b
 |_,_,.nil,b,h=>absurd h List.not_mem_nil
 |_,_,.cons x t,b,h=>by
  rcases List.mem_cons.1 h with rfl|h
  ·exact ⟨_,List.mem_cons_self ..,x⟩
  ·obtain ⟨a,h1,h2⟩:=All2'.right t b h
   exact ⟨a,List.mem_cons_of_mem _ h1,h2⟩
theorem All2'.count {α β:Type} {R:α→β→Prop} {g:α→Bool} {h:β→Bool} (hi:∀ a b,R a b→g a=h b):∀ {l:List α} {r:List β},All2' R l r→l.countP g=r.countP h
 |_,_,.nil=>rfl
 |_,_,.cons (a:=a) (b:=b) x t=>by
  rw [List.countP_cons,List.countP_cons,All2'.count hi t,hi a b x]
theorem aK {nw:Nat→Bool} {f:Nat→Nat} {R:List Int→List Int→Prop} {a b:List Int} (hab:R a b):∀ (k:Nat),(∀ j,j<k→nw j=true→∀ x y,R x y→R (x.set (f j) 1) (y.set (f j) 1))→All2' R (Fg nw f a k) (Fg nw f b k)
 |0,_=>.cons hab .nil
 |k+1,h=>by
  have ih:=aK hab k fun j hj=>h j (by omega)
  unfold Fg
  by_cases hn:nw k=true
  ·rw [if_pos hn,if_pos hn]
   exact ih.append (ih.map (h k (by omega) hn))
  ·rw [if_neg hn,if_neg hn];exact ih
end
section
open Go.Vm
section
variable (nw:Nat→Nat→Bool) (f:Nat→Nat→Nat) (K:Nat→Nat) (play:Nat→List Int→Bool) (GU:List Int)
def nC (t:Nat) (l:List Int):List (List Int):=(Fg (nw t) (f t) l (K t)).filter (play t)
def Tt:Nat→List (List Int)
 |0=>[GU]
 |t+1=>(Tt t).flatMap (nC nw f K play t)
end
structure YZ (n T:Nat) (nw:Nat→Nat→Bool) (f:Nat→Nat→Nat) (K:Nat→Nat) (S:Nat→Nat→Prop) (play:Nat→List Int→Bool) (GU:List Int):Prop where
 len:GU.length=n
 inj:∀ t,t<T→∀ j j',j<K t→j'<K t→f t j=f t j'→j=j'
 rng:∀ t,t<T→∀ j,j<K t→f t j<n
 zero:∀ t,t<T→∀ j,j<K t→nw t j=true→gi GU (f t j)=0
 once:∀ t t',t<T→t'<T→∀ i,Tz (nw t) (f t) (K t) i→Tz (nw t') (f t') (K t') i→t=t'
 sub:∀ t,t<T→∀ j,j<K t→S t (f t j)
 old:∀ t t',t<t'→t'<T→∀ i,S t i→¬ Tz (nw t') (f t') (K t') i
 cont:∀ t,t+1<T→∀ i,S (t+1) i→S t i∨∀ t',t'<t+1→¬ Tz (nw t') (f t') (K t') i
 loc:∀ t,t<T→∀ l l':List Int,l.length=n→l'.length=n→(∀ i,S t i→gi l i=gi l' i)→play t l=play t l'
section
variable {n T:Nat} {nw:Nat→Nat→Bool} {f:Nat→Nat→Nat} {K:Nat→Nat} {S:Nat→Nat→Prop} {play:Nat→List Int→Bool} {GU:List Int}
def uT (nw:Nat→Nat→Bool) (f:Nat→Nat→Nat) (K:Nat→Nat) (t i:Nat):Prop:=Tz (nw t) (f t) (K t) i
structure ZA (nw:Nat→Nat→Bool) (f:Nat→Nat→Nat) (K:Nat→Nat) (play:Nat→List Int→Bool) (GU:List Int) (n t:Nat) (l:List Int):Prop where
 len:l.length=n
 yes:∀ i,i<n→(∃ t',t'<t∧uT nw f K t' i)→gi l i=0∨gi l i=1
 no:∀ i,i<n→(¬ ∃ t',t'<t∧uT nw f K t' i)→gi l i=gi GU i
 play:∀ t',t'<t→play t' l=true
theorem Pz (h:YZ n T nw f K S play GU) {t:Nat} (ht:t<T) {l:List Int} (hl:ZA nw f K play GU n t l) (x:List Int) :
 x∈nC nw f K play t l↔(x.length=n∧∀ i,i<n→(uT nw f K t i→gi x i=0∨gi x i=1)∧(¬ uT nw f K t i→gi x i=gi l i))∧play t x=true:=by
 have hz:∀ j,j<K t→nw t j=true→gi l (f t j)=0:=fun j hj hn=>by
  rw [hl.no _ (h.rng t ht j hj) fun ⟨t',h1,h2⟩=>?_]
  ·exact h.zero t ht j hj hn
  ·have:=h.once t' t (by omega) ht _ h2 ⟨j,hj,hn,rfl⟩
   omega
 unfold nC
 rw [List.mem_filter,L8 (K t) (h.inj t ht) (fun j hj=>by rw [hl.len];exact h.rng t ht j hj) hz,hl.len]
 rfl
theorem xu (h:YZ n T nw f K S play GU) {t:Nat} (ht:t<T) {l:List Int} (hl:ZA nw f K play GU n t l):(nC nw f K play t l).Nodup:=by
 have hz:∀ j,j<K t→nw t j=true→gi l (f t j)=0:=fun j hj hn=>by
  rw [hl.no _ (h.rng t ht j hj) fun ⟨t',h1,h2⟩=>?_]
  ·exact h.zero t ht j hj hn
  ·have:=h.once t' t (by omega) ht _ h2 ⟨j,hj,hn,rfl⟩
   omega
 exact (XC (K t) (h.inj t ht) (fun j hj=>by rw [hl.len];exact h.rng t ht j hj) hz).filter _
theorem kX (h:YZ n T nw f K S play GU) {t:Nat} (ht:t<T) {l x:List Int} (hl:ZA nw f K play GU n t l) (hx:x∈nC nw f K play t l) {t':Nat} (ht':t'<t) {i:Nat} (hS:S t' i):gi x i=gi l i:=by
 obtain ⟨⟨h1,h2⟩,_⟩:=(Pz h ht hl x).1 hx
 by_cases hi:i<n
 ·exact (h2 i hi).2 (h.old t' t ht' ht i hS)
 ·unfold gi
  have e:=hl.len
  rw [List.getElem?_eq_none (by omega),List.getElem?_eq_none (by omega)]
theorem RV (h:YZ n T nw f K S play GU):∀ t,t≤T→∀ l,l∈Tt nw f K play GU t↔ZA nw f K play GU n t l
 |0,_,l=>by
  unfold Tt
  rw [List.mem_singleton]
  constructor
  ·rintro rfl
   exact ⟨h.len,fun i _ ⟨t',h1,_⟩=>by omega,fun _ _ _=>rfl,fun t' h1=>by omega⟩
  ·intro hl
   exact JL (by rw [hl.len,h.len]) fun i hi=>hl.no i (by rw [← hl.len];exact hi) fun ⟨t',h1,_⟩=>by omega
 |t+1,ht,l=>by
  have ih:=RV h t (by omega)
  unfold Tt
  rw [List.mem_flatMap]
  constructor
  ·rintro ⟨y,hy,hx⟩
   have hy:=(ih y).1 hy
   obtain ⟨⟨h1,h2⟩,h3⟩:=(Pz h (by omega) hy l).1 hx
   refine ⟨h1,fun i hi ⟨t',g1,g2⟩=>?_,fun i hi hno=>?_,fun t' g1=>?_⟩
   ·by_cases e:t'=t
    ·subst e;exact (h2 i hi).1 g2
    ·by_cases hb:uT nw f K t i
     ·exact (h2 i hi).1 hb
     ·rw [(h2 i hi).2 hb];exact hy.yes i hi ⟨t',by omega,g2⟩
   ·rw [(h2 i hi).2 fun hb=>hno ⟨t,by omega,hb⟩]
    exact hy.no i hi fun ⟨t',g1,g2⟩=>hno ⟨t',by omega,g2⟩
   ·by_cases e:t'=t
    ·subst e;exact h3
    ·rw [h.loc t' (by omega) l y h1 hy.len fun i hS=>kX h (by omega) hy hx (by omega) hS]
     exact hy.play t' (by omega)
  ·intro hl
   let y:List Int:=Dt (fun i=>open Classical in if uT nw f K t i then 0 else gi l i) n
   have hyl:y.length=n:=Dn _ _
   have hyi:∀ i,i<n→gi y i=open Classical in if uT nw f K t i then 0 else gi l i:=fun i hi=>Fb _ hi
   have hy:ZA nw f K play GU n t y:=by
    refine ⟨hyl,fun i hi ⟨t',g1,g2⟩=>?_,fun i hi hno=>?_,fun t' g1=>?_⟩
    ·rw [hyi i hi]
     split
     ·exact .inl rfl
     ·exact hl.yes i hi ⟨t',by omega,g2⟩
    ·rw [hyi i hi]
     split
     ·rename_i hb
      obtain ⟨j,j1,j2,rfl⟩:=hb
      exact (h.zero t (by omega) j j1 j2).symm
     ·rename_i hb
      exact hl.no i hi fun ⟨t',g1,g2⟩=>by
       by_cases e:t'=t
       ·subst e;exact hb g2
       ·exact hno ⟨t',by omega,g2⟩
    ·rw [h.loc t' (by omega) y l hyl hl.len fun i hS=>?_]
     ·exact hl.play t' (by omega)
     ·by_cases hi:i<n
      ·have hno:¬ uT nw f K t i:=h.old t' t g1 (by omega) i hS
       rw [hyi i hi,if_neg hno]
      ·have e:=hl.len
       unfold gi
       rw [List.getElem?_eq_none (by omega),List.getElem?_eq_none (by omega)]
   refine ⟨y,(ih y).2 hy,(Pz h (by omega) hy l).2 ⟨⟨hl.len,fun i hi=>⟨fun hb=>hl.yes i hi ⟨t,by omega,hb⟩,fun hb=>?_⟩⟩,hl.play t (by omega)⟩⟩
   rw [hyi i hi,if_neg hb]
theorem Qq {g:List Int→List (List Int)}:∀ {L:List (List Int)},L.Nodup→(∀ a∈L,(g a).Nodup)→(∀ a∈L,∀ b∈L,∀ x,x∈g a→x∈g b→a=b)→(L.flatMap g).Nodup
 |[],_,_,_=>List.nodup_nil
 |a::L,h1,h2,h3=>by
  obtain ⟨n1,n2⟩:=List.nodup_cons.1 h1
  rw [List.flatMap_cons]
  refine List.nodup_append.2 ⟨h2 a (by simp),Qq n2 (fun b hb=>h2 b (List.mem_cons_of_mem _ hb)) fun b hb c hc=>h3 b (List.mem_cons_of_mem _ hb) c (List.mem_cons_of_mem _ hc),fun x hx y hy e=>?_⟩
  subst e
  obtain ⟨b,hb,hxb⟩:=List.mem_flatMap.1 hy
  have:=h3 a (by simp) b (List.mem_cons_of_mem _ hb) x hx hxb
  subst this
  exact n1 hb
theorem ak (h:YZ n T nw f K S play GU):∀ t,t≤T→(Tt nw f K play GU t).Nodup
 |0,_=>by unfold Tt;simp
 |t+1,ht=>by
  have hm:=RV h t (by omega)
  unfold Tt
  refine Qq (ak h t (by omega)) (fun a ha=>xu h (by omega) ((hm a).1 ha)) fun a ha b hb x hxa hxb=>?_
  have ia:=(hm a).1 ha
  have ib:=(hm b).1 hb
  obtain ⟨⟨_,h2⟩,_⟩:=(Pz h (by omega) ia x).1 hxa
  obtain ⟨⟨_,h3⟩,_⟩:=(Pz h (by omega) ib x).1 hxb
  refine JL (by rw [ia.len,ib.len]) fun i hi=>?_
  rw [ia.len] at hi
  by_cases hbg:uT nw f K t i
  ·have hno:¬ ∃ t',t'<t∧uT nw f K t' i:=fun ⟨t',g1,g2⟩=>by
    have:=h.once t' t (by omega) (by omega) i g2 hbg
    omega
   rw [ia.no i hi hno,ib.no i hi hno]
  ·rw [← (h2 i hi).2 hbg,← (h3 i hi).2 hbg]
variable {σ:Type} (s0:σ) (ED:Nat→σ→List Int→σ) (inc:Nat→σ→List Int→Int)
def Jb (l:List Int):Nat→σ
 |0=>s0
 |t+1=>ED t (Jb l t) l
def cF (l:List Int):Nat→Int
 |0=>0
 |t+1=>cF l t+inc t (Jb s0 ED l t) l
structure Stp (n T:Nat) (S:Nat→Nat→Prop) (ED:Nat→σ→List Int→σ) (inc:Nat→σ→List Int→Int):Prop where
 loc:∀ t,t<T→∀ x (l l':List Int),l.length=n→l'.length=n→(∀ i,S t i→gi l i=gi l' i)→ED t x l=ED t x l'∧inc t x l=inc t x l'
 tell:∀ t,t<T→∀ x x' (l l':List Int),l.length=n→l'.length=n→(∀ i,i<n→0≤gi l i∧gi l i≤2)→(∀ i,i<n→0≤gi l' i∧gi l' i≤2)→ED t x l=ED t x' l'→∀ i,S t i→gi l i=gi l' i
variable {s0:σ} {ED:Nat→σ→List Int→σ} {inc:Nat→σ→List Int→Int}
theorem sF (hs:Stp n T S ED inc) {l l':List Int} (h1:l.length=n) (h2:l'.length=n):∀ t,t≤T→(∀ t',t'<t→∀ i,S t' i→gi l i=gi l' i)→Jb s0 ED l t=Jb s0 ED l' t∧cF s0 ED inc l t=cF s0 ED inc l' t
 |0,_,_=>⟨rfl,rfl⟩
 |t+1,ht,h=>by
  obtain ⟨i1,i2⟩:=sF hs h1 h2 t (by omega) fun t' ht'=>h t' (by omega)
  unfold Jb cF
  rw [i1,i2]
  obtain ⟨g1,g2⟩:=hs.loc t (by omega) (Jb s0 ED l' t) l l' h1 h2 (h t (by omega))
  rw [g1,g2]
  exact ⟨rfl,rfl⟩
theorem Ui (h:YZ n T nw f K S play GU) (hs:Stp n T S ED inc) {t:Nat} (ht:t<T) {l x:List Int} (hl:ZA nw f K play GU n t l) (hx:x∈nC nw f K play t l) :
 Jb s0 ED x t=Jb s0 ED l t∧cF s0 ED inc x t=cF s0 ED inc l t:=by
 have hxl:=((Pz h ht hl x).1 hx).1.1
 exact sF hs hxl hl.len t (by omega) fun t' ht' i hS=>kX h ht hl hx ht' hS
theorem WC (hb:∀ i,i<n→0≤gi GU i∧gi GU i≤2) {t:Nat} {l:List Int} (hl:ZA nw f K play GU n t l) {i:Nat} (hi:i<n):0≤gi l i∧gi l i≤2:=by
 by_cases e:∃ t',t'<t∧uT nw f K t' i
 ·rcases hl.yes i hi e with h|h<;>omega
 ·rw [hl.no i hi e];exact hb i hi
theorem vV (h:YZ n T nw f K S play GU) (hs:Stp n T S ED inc) (hb:∀ i,i<n→0≤gi GU i∧gi GU i≤2) (hSn:∀ t,t<T→∀ i,S t i→i<n):∀ {t:Nat},t<T→∀ {l l':List Int},ZA nw f K play GU n t l→ZA nw f K play GU n t l'→Jb s0 ED l t=Jb s0 ED l' t→∀ i,S t i→gi l i=gi l' i
 |0,ht,l,l',hl,hl',_,i,hS=>by
  have hi:=hSn 0 ht i hS
  rw [hl.no i hi fun ⟨t',h1,_⟩=>by omega,hl'.no i hi fun ⟨t',h1,_⟩=>by omega]
 |t+1,ht,l,l',hl,hl',he,i,hS=>by
  have hi:=hSn _ ht i hS
  rcases h.cont t ht i hS with h1|h1
  ·exact hs.tell t (by omega) _ _ l l' hl.len hl'.len (fun i hi=>WC hb hl hi) (fun i hi=>WC hb hl' hi) he i h1
  ·rw [hl.no i hi fun ⟨t',g1,g2⟩=>h1 t' g1 g2,hl'.no i hi fun ⟨t',g1,g2⟩=>h1 t' g1 g2]
theorem dR (h:YZ n T nw f K S play GU) (hs:Stp n T S ED inc) (hb:∀ i,i<n→0≤gi GU i∧gi GU i≤2) (hSn:∀ t,t<T→∀ i,S t i→i<n) {t:Nat} (ht:t<T) {l l':List Int} (hl:ZA nw f K play GU n t l) (hl':ZA nw f K play GU n t l') (he:Jb s0 ED l t=Jb s0 ED l' t) :
 All2' (fun x y=>(∀ i,S t i→gi x i=gi y i)∧cmpL x y=cmpL l l'∧x.length=n∧y.length=n) (nC nw f K play t l) (nC nw f K play t l'):=by
 have hag:=vV h hs hb hSn ht hl hl' he
 have h0:All2' (fun x y=>(∀ i,S t i→gi x i=gi y i)∧cmpL x y=cmpL l l'∧x.length=n∧y.length=n) (Fg (nw t) (f t) l (K t)) (Fg (nw t) (f t) l' (K t)):=by
  refine aK ⟨hag,rfl,hl.len,hl'.len⟩ (K t) fun j hj hn x y ⟨g1,g2,g3,g4⟩=>⟨fun i hi=>?_,?_,by rw [List.length_set];exact g3,by rw [List.length_set];exact g4⟩
  ·rw [GZ,GZ,g3,g4]
   split
   ·rfl
   ·exact g1 i hi
  ·have hr:=h.rng t ht j hj
   rw [iL (by omega) (by omega) (g1 _ (h.sub t ht j hj)),g2]
 exact h0.filter fun a b ⟨g1,_,g3,g4⟩=>h.loc t ht a b g3 g4 g1
variable [DecidableEq σ]
def QJ (m:List (σ×(List Int×Int))) (d:σ×(List Int×Int)):List (σ×(List Int×Int)) :=
 match Cb m d.1 with
 |none=>Cm m d.1 d.2
 |some o=>if vH d.2 o=true then Cm m d.1 d.2 else m
theorem JR {β:Type}:∀ {m:List (σ×β)} {y:σ} {o:β},Cb m y=some o→(y,o)∈m
 |[],_,_,h=>by cases h
 |x::m,y,o,h=>by
  unfold Cb at h
  split at h
  ·rename_i e;cases h;subst e;exact List.mem_cons_self ..
  ·exact List.mem_cons_of_mem _ (JR h)
theorem QG {β:Type}:∀ {m:List (σ×β)} {y:σ},Cb m y=none→∀ o,(y,o)∉m
 |[],_,_,_,h=>absurd h List.not_mem_nil
 |x::m,y,h,o,hm=>by
  unfold Cb at h
  split at h
  ·cases h
  ·rename_i e
   rcases List.mem_cons.1 hm with h1|h1
   ·exact e (by rw [← h1])
   ·exact QG h o h1
theorem Om {β:Type}:∀ {m:List (σ×β)} {y:σ} {b:β} {z:σ×β},z∈Cm m y b→z=(y,b)∨z∈m∧z.1≠y∨z∈m
 |[],y,b,z,h=>by
  unfold Cm at h
  exact .inl (List.mem_singleton.1 h)
 |x::m,y,b,z,h=>by
  unfold Cm at h
  split at h
  ·rcases List.mem_cons.1 h with h|h
   ·exact .inl h
   ·exact .inr (.inr (List.mem_cons_of_mem _ h))
  ·rcases List.mem_cons.1 h with h|h
   ·exact .inr (.inr (h▸List.mem_cons_self ..))
   ·rcases Om h with h|h|h
    ·exact .inl h
    ·exact .inr (.inl ⟨List.mem_cons_of_mem _ h.1,h.2⟩)
    ·exact .inr (.inr (List.mem_cons_of_mem _ h))
theorem JV {β:Type}:∀ {m:List (σ×β)} {y:σ} {b:β},(y,b)∈Cm m y b
 |[],_,_=>List.mem_singleton.2 rfl
 |x::m,y,b=>by
  unfold Cm
  split
  ·exact List.mem_cons_self ..
  ·exact List.mem_cons_of_mem _ JV
theorem YC {β:Type}:∀ {m:List (σ×β)} {y:σ} {b:β} {z:σ×β},z∈m→z.1≠y→z∈Cm m y b
 |[],_,_,_,h,_=>absurd h List.not_mem_nil
 |x::m,y,b,z,h,hne=>by
  unfold Cm
  split
  ·rename_i e
   rcases List.mem_cons.1 h with h|h
   ·exact absurd (h▸e.symm) hne
   ·exact List.mem_cons_of_mem _ h
  ·rcases List.mem_cons.1 h with h|h
   ·exact h▸List.mem_cons_self ..
   ·exact List.mem_cons_of_mem _ (YC h hne)
theorem aU {β:Type}:∀ {m:List (σ×β)} {y:σ} {b:β} {z:σ},z∈(Cm m y b).map (·.1)→z=y∨z∈m.map (·.1)
 |[],y,b,z,h=>by
  unfold Cm at h
  exact .inl (by simpa using h)
 |x::m,y,b,z,h=>by
  unfold Cm at h
  split at h
  ·rcases List.mem_cons.1 h with h|h
   ·exact .inl h
   ·exact .inr (List.mem_cons_of_mem _ h)
  ·rcases List.mem_cons.1 h with h|h
   ·exact .inr (h▸List.mem_cons_self ..)
   ·exact (aU h).elim .inl fun h=>.inr (List.mem_cons_of_mem _ h)
theorem NC {β:Type}:∀ {m:List (σ×β)} {y:σ} {b:β},(m.map (·.1)).Nodup→((Cm m y b).map (·.1)).Nodup
 |[],_,_,_=>by unfold Cm;simp
 |x::m,y,b,h=>by
  obtain ⟨h1,h2⟩:=List.nodup_cons.1 h
  unfold Cm
  split
  ·rename_i e
   exact List.nodup_cons.2 ⟨by rw [e];exact h1,h2⟩
  ·rename_i e
   refine List.nodup_cons.2 ⟨fun hm=>?_,NC h2⟩
   rcases aU hm with h3|h3
   ·exact e h3.symm
   ·exact h1 h3
theorem Xe {β:Type}:∀ {m:List (σ×β)} {y:σ} {a b:β},(m.map (·.1)).Nodup→(y,a)∈m→(y,b)∈m→a=b
 |[],_,_,_,_,h,_=>absurd h List.not_mem_nil
 |x::m,y,a,b,hn,h1,h2=>by
  obtain ⟨n1,n2⟩:=List.nodup_cons.1 hn
  rcases List.mem_cons.1 h1 with e1|h1
  ·rcases List.mem_cons.1 h2 with e2|h2
   ·rw [← e1] at e2;cases e2;rfl
   ·exact absurd (List.mem_map.2 ⟨_,h2,by rw [← e1]⟩) n1
  ·rcases List.mem_cons.1 h2 with e2|h2
   ·exact absurd (List.mem_map.2 ⟨_,h1,by rw [← e2]⟩) n1
   ·exact Xe n2 h1 h2
structure VN (D m:List (σ×(List Int×Int))):Prop where
 keys:(m.map (·.1)).Nodup
 sub:∀ d∈m,d∈D
 best:∀ d∈D,∃ o,(d.1,o)∈m∧aZ o d.2
theorem VN.ins {D m:List (σ×(List Int×Int))} (h:VN D m) (d:σ×(List Int×Int)):VN (D++[d]) (QJ m d):=by
 obtain ⟨y,w⟩:=d
 unfold QJ
 have hput:(∀ o,(y,o)∈m→aZ w o)→VN (D++[(y,w)]) (Cm m y w):=fun hw=>by
  refine ⟨NC h.keys,fun z hz=>?_,fun z hz=>?_⟩
  ·rcases Om hz with rfl|hz|hz
   ·simp
   ·exact List.mem_append_left _ (h.sub z hz.1)
   ·exact List.mem_append_left _ (h.sub z hz)
  ·rcases List.mem_append.1 hz with hz|hz
   ·obtain ⟨o,h1,h2⟩:=h.best z hz
    by_cases e:z.1=y
    ·refine ⟨w,by rw [e];exact JV,JO (hw o (by rw [← e];exact h1)) h2⟩
    ·exact ⟨o,YC h1 e,h2⟩
   ·rw [List.mem_singleton] at hz
    subst hz
    exact ⟨w,JV,IC _⟩
 cases hl:Cb m y with
 |none=>exact hput fun o ho=>absurd ho (QG hl o)
 |some o =>
  have ho:=JR hl
  simp only
  cases hb:vH w o with
  |true =>
   rw [if_pos rfl]
   refine hput fun o' ho'=>?_
   rw [Xe h.keys ho' ho]
   exact nI hb
  |false =>
   rw [if_neg (by simp)]
   refine ⟨h.keys,fun z hz=>List.mem_append_left _ (h.sub z hz),fun z hz=>?_⟩
   rcases List.mem_append.1 hz with hz|hz
   ·exact h.best z hz
   ·rw [List.mem_singleton] at hz
    subst hz
    exact ⟨o,ho,dJ hb⟩
theorem VN.fold {D:List (σ×(List Int×Int))}:∀ (L:List (σ×(List Int×Int))) {m:List (σ×(List Int×Int))},VN D m→VN (D++L) (L.foldl QJ m)
 |[],m,h=>by rw [List.append_nil];exact h
 |d::L,m,h=>by
  rw [List.foldl_cons]
  have:=VN.fold L (h.ins d)
  rwa [List.append_assoc] at this
theorem VN.nil:VN ([]:List (σ×(List Int×Int))) []:=⟨List.nodup_nil,fun d h=>absurd h List.not_mem_nil,fun d h=>absurd h List.not_mem_nil⟩
structure jv (nw:Nat→Nat→Bool) (f:Nat→Nat→Nat) (K:Nat→Nat) (play:Nat→List Int→Bool) (GU:List Int) (s0:σ) (ED:Nat→σ→List Int→σ) (inc:Nat→σ→List Int→Int) (t:Nat) (m:List (σ×(List Int×Int))):Prop where
 keys:(m.map (·.1)).Nodup
 sub:∀ d∈m,d.2.1∈Tt nw f K play GU t∧d.1=Jb s0 ED d.2.1 t∧d.2.2=cF s0 ED inc d.2.1 t
 best:∀ h∈Tt nw f K play GU t,∃ o,(Jb s0 ED h t,o)∈m∧aZ o (h,cF s0 ED inc h t)
def cand (nw:Nat→Nat→Bool) (f:Nat→Nat→Nat) (K:Nat→Nat) (play:Nat→List Int→Bool) (ED:Nat→σ→List Int→σ) (inc:Nat→σ→List Int→Int) (t:Nat) (d:σ×(List Int×Int)):List (σ×(List Int×Int)) :=
 (nC nw f K play t d.2.1).map fun x=>(ED t d.1 x,(x,d.2.2+inc t d.1 x))
theorem jv.step (h:YZ n T nw f K S play GU) (hs:Stp n T S ED inc) (hb:∀ i,i<n→0≤gi GU i∧gi GU i≤2) (hSn:∀ t,t<T→∀ i,S t i→i<n) {t:Nat} (ht:t<T) {m L:List (σ×(List Int×Int))} (hm:jv nw f K play GU s0 ED inc t m) (hL:∀ d,d∈L↔d∈m) :
 jv nw f K play GU s0 ED inc (t+1) ((L.flatMap (cand nw f K play ED inc t)).foldl QJ []):=by
 have hp:=RV h t (by omega)
 have hI:=VN.fold (L.flatMap (cand nw f K play ED inc t)) (VN.nil (σ:=σ))
 rw [List.nil_append] at hI
 have hc:∀ e∈L.flatMap (cand nw f K play ED inc t),e.2.1∈Tt nw f K play GU (t+1)∧e.1=Jb s0 ED e.2.1 (t+1)∧e.2.2=cF s0 ED inc e.2.1 (t+1):=fun e he=>by
  obtain ⟨d,hd,he⟩:=List.mem_flatMap.1 he
  obtain ⟨x,hx,rfl⟩:=List.mem_map.1 he
  obtain ⟨g1,g2,g3⟩:=hm.sub d ((hL d).1 hd)
  have hi:=(hp _).1 g1
  obtain ⟨k1,k2⟩:=Ui (s0:=s0) h hs ht hi hx
  refine ⟨?_,?_,?_⟩
  ·unfold Tt;exact List.mem_flatMap.2 ⟨_,g1,hx⟩
  ·show ED t d.1 x=ED t (Jb s0 ED x t) x
   rw [k1,← g2]
  ·show d.2.2+inc t d.1 x=cF s0 ED inc x t+inc t (Jb s0 ED x t) x
   rw [k1,k2,← g2,← g3]
 refine ⟨hI.keys,fun d hd=>hc d (hI.sub d hd),fun x hx=>?_⟩
 unfold Tt at hx
 obtain ⟨y,hy,hx⟩:=List.mem_flatMap.1 hx
 obtain ⟨o,ho,hle⟩:=hm.best y hy
 obtain ⟨g1,g2,g3⟩:=hm.sub _ ho
 simp only at g1 g2 g3
 have hyi:=(hp y).1 hy
 have hoi:=(hp o.1).1 g1
 obtain ⟨z,hz,z1,z2,z3,z4⟩:=(dR h hs hb hSn ht hoi hyi g2.symm).right x hx
 obtain ⟨k1,k2⟩:=Ui (s0:=s0) h hs ht hyi hx
 obtain ⟨k3,k4⟩:=Ui (s0:=s0) h hs ht hoi hz
 have hzc:(ED t (Jb s0 ED y t) z,(z,o.2+inc t (Jb s0 ED y t) z))∈L.flatMap (cand nw f K play ED inc t):=List.mem_flatMap.2 ⟨_,(hL _).2 ho,List.mem_map.2 ⟨z,hz,rfl⟩⟩
 obtain ⟨o',h1,h2⟩:=hI.best _ hzc
 obtain ⟨l1,l2⟩:=hs.loc t ht (Jb s0 ED y t) z x z3 z4 z1
 simp only [l1] at h1
 refine ⟨o',?_,JO h2 ?_⟩
 ·show (ED t (Jb s0 ED x t) x,o')∈_
  rw [k1];exact h1
 ·show aZ _ (x,cF s0 ED inc x t+inc t (Jb s0 ED x t) x)
  rw [k1,k2,← l2]
  rcases hle with hle|⟨hle,hle'⟩
  ·exact .inl (by simp only at hle ⊢;omega)
  ·exact .inr ⟨by simp only at hle ⊢;omega,by simp only at hle' ⊢;rw [z2];exact hle'⟩
theorem jv.start:jv nw f K play GU s0 ED inc 0 [(s0,(GU,0))] :=
 ⟨by simp,fun d hd=>by rw [List.mem_singleton] at hd;subst hd;exact ⟨by simp [Tt],rfl,rfl⟩,fun h hh=>⟨(GU,0),by simp [Jb],by
  have:h=GU:=by simpa [Tt] using hh
  subst this
  exact IC _⟩⟩
end
end
section
open Go.Vm
def sumF {α:Type} (F:α→Nat):List α→Nat
 |[]=>0
 |a::l=>F a+sumF F l
theorem KE {α:Type} (F:α→Nat):∀ l r:List α,sumF F (l++r)=sumF F l+sumF F r
 |[],r=>by simp [sumF]
 |a::l,r=>by simp only [List.cons_append,sumF,KE F l r];omega
theorem Zo {α:Type} (F:α→Nat) {l r:List α} (h:l.Perm r):sumF F l=sumF F r:=by
 induction h with
 |nil=>rfl
 |cons a _ ih=>simp only [sumF,ih]
 |swap a b l=>simp only [sumF];omega
 |trans _ _ h1 h2=>rw [h1,h2]
theorem G6 {α:Type} {F G:α→Nat}:∀ {l:List α},(∀ a∈l,F a=G a)→sumF F l=sumF G l
 |[],_=>rfl
 |a::l,h=>by
  simp only [sumF]
  rw [h a (by simp),G6 fun b hb=>h b (List.mem_cons_of_mem _ hb)]
theorem PY {α:Type} {F:α→Nat}:∀ {l:List α},(∀ a∈l,F a=0)→sumF F l=0
 |[],_=>rfl
 |a::l,h=>by
  simp only [sumF]
  rw [h a (by simp),PY fun b hb=>h b (List.mem_cons_of_mem _ hb)]
theorem iK {α:Type} (F G:α→Nat):∀ l:List α,sumF (fun a=>F a+G a) l=sumF F l+sumF G l
 |[]=>rfl
 |a::l=>by simp only [sumF,iK F G l];omega
theorem kN {α:Type}:∀ l:List α,sumF (fun _=>1) l=l.length
 |[]=>rfl
 |a::l=>by simp only [sumF,kN l,List.length_cons];omega
theorem MZ {α β:Type} (F:β→Nat) (g:α→List β):∀ l:List α,sumF F (l.flatMap g)=sumF (fun a=>sumF F (g a)) l
 |[]=>rfl
 |a::l=>by rw [List.flatMap_cons,KE,MZ F g l];rfl
theorem XU {α β:Type} (F:β→Nat) (g:α→β):∀ l:List α,sumF F (l.map g)=sumF (fun a=>F (g a)) l
 |[]=>rfl
 |a::l=>by simp only [List.map_cons,sumF,XU F g l]
theorem Oe {α:Type} (p:α→Bool):∀ l:List α,l.countP p=sumF (fun a=>if p a=true then 1 else 0) l
 |[]=>rfl
 |a::l=>by
  rw [List.countP_cons,Oe p l]
  simp only [sumF];omega
theorem countP_flatMap {α β:Type} (p:β→Bool) (g:α→List β) (l:List α):(l.flatMap g).countP p=sumF (fun a=>(g a).countP p) l:=by
 rw [Oe,MZ]
 exact G6 fun a _=>(Oe p _).symm
section
variable {σ β:Type} [DecidableEq σ]
theorem qx {m:List (σ×β)} {y:σ} {o:β} {G:σ×β→Nat} (hk:(m.map (·.1)).Nodup) (h:(y,o)∈m):sumF (fun e=>if y=e.1 then G e else 0) m=G (y,o):=by
 induction m with
 |nil=>cases h
 |cons x m ih =>
  obtain ⟨n1,n2⟩:=List.nodup_cons.1 hk
  simp only [sumF]
  rcases List.mem_cons.1 h with h|h
  ·subst h
   rw [if_pos rfl,PY fun e he=>if_neg fun e1=>n1 (List.mem_map.2 ⟨e,he,e1.symm⟩)]
   rfl
  ·have:y≠x.1:=fun e=>n1 (List.mem_map.2 ⟨_,h,e⟩)
   rw [if_neg this,ih n2 h,Nat.zero_add]
theorem Uj {α:Type} {m:List (σ×β)} (hk:(m.map (·.1)).Nodup) {g:α→σ} {F:α→Nat} {G:σ×β→Nat}:∀ {P:List α},(∀ h∈P,∃ o,(g h,o)∈m)→(∀ h∈P,∀ e∈m,e.1=g h→F h=G e)→sumF F P=sumF (fun e=>P.countP (fun h=>decide (g h=e.1))*G e) m
 |[],_,_=>by
  refine (PY fun e _=>?_).symm
  rw [List.countP_nil,Nat.zero_mul]
 |h::P,h1,h2=>by
  have ih:=Uj hk (P:=P) (g:=g) (F:=F) (G:=G) (fun x hx=>h1 x (List.mem_cons_of_mem _ hx)) fun x hx=>h2 x (List.mem_cons_of_mem _ hx)
  obtain ⟨o,ho⟩:=h1 h (by simp)
  simp only [sumF]
  rw [ih,h2 h (by simp) _ ho rfl,← qx (G:=G) hk ho,← iK]
  refine G6 fun e _=>?_
  rw [List.countP_cons,Nat.add_mul]
  by_cases he:g h=e.1
  ·rw [if_pos he,decide_eq_true he,if_pos rfl,Nat.one_mul,Nat.add_comm]
  ·rw [if_neg he,decide_eq_false he,if_neg (by simp),Nat.zero_mul,Nat.add_comm]
def Qi (m:List (σ×(List Int×Nat))) (d:σ×(List Int×Nat)):List (σ×(List Int×Nat)) :=
 match Cb m d.1 with
 |none=>Cm m d.1 (d.2.1,0+d.2.2)
 |some o=>Cm m d.1 (o.1,o.2+d.2.2)
def lS (D:List (σ×(List Int×Nat))) (y:σ):Nat:=sumF (fun d=>if d.1=y then d.2.2 else 0) D
structure VO (D m:List (σ×(List Int×Nat))):Prop where
 keys:(m.map (·.1)).Nodup
 sub:∀ d∈m,(∃ c,(d.1,(d.2.1,c))∈D)∧d.2.2=lS D d.1
 all:∀ d∈D,∃ o,(d.1,o)∈m
theorem Zp (D:List (σ×(List Int×Nat))) (d:σ×(List Int×Nat)) (y:σ):lS (D++[d]) y=lS D y+if d.1=y then d.2.2 else 0:=by
 unfold lS
 rw [KE]
 simp [sumF]
theorem uO {D:List (σ×(List Int×Nat))} {y:σ} (h:∀ d∈D,d.1≠y):lS D y=0:=PY fun d hd=>if_neg (h d hd)
theorem Ti {m:List (σ×β)} {y:σ} {b c:β} (hk:(m.map (·.1)).Nodup) (h:(y,c)∈Cm m y b):c=b:=Xe (NC hk) h JV
theorem VO.ins {D m:List (σ×(List Int×Nat))} (h:VO D m) (d:σ×(List Int×Nat)):VO (D++[d]) (Qi m d):=by
 obtain ⟨y,x,c⟩:=d
 unfold Qi
 have hput:∀ w:List Int×Nat,(∃ c',(y,(w.1,c'))∈D++[(y,(x,c))])→w.2=lS D y+c→VO (D++[(y,(x,c))]) (Cm m y w):=fun w hw1 hw2=>by
  refine ⟨NC h.keys,fun z hz=>?_,fun z hz=>?_⟩
  ·by_cases e:z.1=y
   ·obtain ⟨z1,z2⟩:=z
    simp only at e
    subst e
    have:=Ti h.keys hz
    subst this
    exact ⟨hw1,by rw [hw2,Zp,if_pos rfl]⟩
   ·have hz':z∈m:=by
     rcases Om hz with h1|h1|h1
     ·exact absurd (by rw [h1]) e
     ·exact h1.1
     ·exact h1
    obtain ⟨⟨c',h1⟩,h2⟩:=h.sub z hz'
    exact ⟨⟨c',List.mem_append_left _ h1⟩,by rw [h2,Zp,if_neg (fun e'=>e e'.symm),Nat.add_zero]⟩
  ·rcases List.mem_append.1 hz with hz|hz
   ·by_cases e:z.1=y
    ·exact ⟨w,by rw [e];exact JV⟩
    ·obtain ⟨o,ho⟩:=h.all z hz
     exact ⟨o,YC ho e⟩
   ·rw [List.mem_singleton] at hz
    subst hz
    exact ⟨w,JV⟩
 cases hl:Cb m y with
 |none =>
  refine hput _ ⟨c,by simp⟩ ?_
  rw [uO fun d hd e=>?_]
  obtain ⟨o,ho⟩:=h.all d hd
  rw [e] at ho
  exact QG hl o ho
 |some o =>
  have ho:=JR hl
  obtain ⟨⟨c',h1⟩,h2⟩:=h.sub _ ho
  exact hput _ ⟨c',List.mem_append_left _ h1⟩ (by show o.2+c=_;rw [show o.2=_ from h2])
theorem VO.fold:∀ (L:List (σ×(List Int×Nat))) {D m:List (σ×(List Int×Nat))},VO D m→VO (D++L) (L.foldl Qi m)
 |[],D,m,h=>by rw [List.append_nil];exact h
 |d::L,D,m,h=>by
  rw [List.foldl_cons]
  have:=VO.fold L (h.ins d)
  rwa [List.append_assoc] at this
theorem VO.nil:VO ([]:List (σ×(List Int×Nat))) []:=⟨List.nodup_nil,fun d h=>absurd h List.not_mem_nil,fun d h=>absurd h List.not_mem_nil⟩
variable {n T:Nat} {nw:Nat→Nat→Bool} {f:Nat→Nat→Nat} {K:Nat→Nat} {S:Nat→Nat→Prop} {play:Nat→List Int→Bool} {GU:List Int} {s0:σ} {ED:Nat→σ→List Int→σ} {inc:Nat→σ→List Int→Int}
structure VT (nw:Nat→Nat→Bool) (f:Nat→Nat→Nat) (K:Nat→Nat) (play:Nat→List Int→Bool) (GU:List Int) (s0:σ) (ED:Nat→σ→List Int→σ) (t:Nat) (m:List (σ×(List Int×Nat))):Prop where
 keys:(m.map (·.1)).Nodup
 sub:∀ d∈m,d.2.1∈Tt nw f K play GU t∧d.1=Jb s0 ED d.2.1 t∧d.2.2=(Tt nw f K play GU t).countP fun h=>decide (Jb s0 ED h t=d.1)
 all:∀ h∈Tt nw f K play GU t,∃ o,(Jb s0 ED h t,o)∈m
def ZW (nw:Nat→Nat→Bool) (f:Nat→Nat→Nat) (K:Nat→Nat) (play:Nat→List Int→Bool) (ED:Nat→σ→List Int→σ) (t:Nat) (d:σ×(List Int×Nat)):List (σ×(List Int×Nat)) :=
 (nC nw f K play t d.2.1).map fun x=>(ED t d.1 x,(x,d.2.2))
theorem jk (p:List Int→Bool) (c:Nat):∀ l:List (List Int),sumF (fun x=>if p x=true then c else 0) l=c*l.countP p
 |[]=>rfl
 |a::l=>by
  simp only [sumF,jk p c l,List.countP_cons]
  cases p a
  ·simp
  ·simp [Nat.mul_add];omega
theorem VT.step (h:YZ n T nw f K S play GU) (hs:Stp n T S ED inc) (hb:∀ i,i<n→0≤gi GU i∧gi GU i≤2) (hSn:∀ t,t<T→∀ i,S t i→i<n) {t:Nat} (ht:t<T) {m L:List (σ×(List Int×Nat))} (hm:VT nw f K play GU s0 ED t m) (hL:L.Perm m) :
 VT nw f K play GU s0 ED (t+1) ((L.flatMap (ZW nw f K play ED t)).foldl Qi []):=by
 have hp:=RV h t (by omega)
 have hI:=VO.fold (L.flatMap (ZW nw f K play ED t)) (VO.nil (σ:=σ))
 rw [List.nil_append] at hI
 have hsum:∀ y,lS (L.flatMap (ZW nw f K play ED t)) y=(Tt nw f K play GU (t+1)).countP fun x=>decide (Jb s0 ED x (t+1)=y):=fun y=>by
  unfold lS
  rw [MZ,Zo _ hL]
  have e1:∀ d∈m,sumF (fun e:σ×(List Int×Nat)=>if e.1=y then e.2.2 else 0) (ZW nw f K play ED t d)=(Tt nw f K play GU t).countP (fun h=>decide (Jb s0 ED h t=d.1))*(nC nw f K play t d.2.1).countP (fun x=>decide (ED t d.1 x=y)):=fun d hd=>by
   obtain ⟨_,_,g3⟩:=hm.sub d hd
   rw [← g3]
   unfold ZW
   rw [XU]
   rw [← jk]
   exact G6 fun x _=>by simp
  rw [G6 e1]
  rw [← Uj (P:=Tt nw f K play GU t) (g:=fun h=>Jb s0 ED h t) (F:=fun h=>(nC nw f K play t h).countP fun x=>decide (ED t (Jb s0 ED h t) x=y)) (G:=fun d=>(nC nw f K play t d.2.1).countP fun x=>decide (ED t d.1 x=y)) hm.keys hm.all]
  ·show _=List.countP _ (List.flatMap _ _)
   rw [countP_flatMap]
   refine G6 fun a ha=>?_
   refine List.countP_congr fun x hx=>?_
   obtain ⟨k1,_⟩:=Ui (s0:=s0) (inc:=inc) h hs ht ((hp a).1 ha) hx
   show decide (ED t (Jb s0 ED a t) x=y)=true↔decide (ED t (Jb s0 ED x t) x=y)=true
   rw [k1]
  ·intro a ha e he hea
   obtain ⟨g1,g2,_⟩:=hm.sub e he
   have:=(dR (s0:=s0) (inc:=inc) h hs hb hSn ht ((hp a).1 ha) ((hp _).1 g1) (by rw [← g2,hea])).count (g:=fun x=>decide (ED t (Jb s0 ED a t) x=y)) (h:=fun x=>decide (ED t e.1 x=y)) fun x z ⟨z1,_,z3,z4⟩=>by
    rw [hea,(hs.loc t ht _ x z z3 z4 z1).1]
   exact this
 have hc:∀ e∈L.flatMap (ZW nw f K play ED t),e.2.1∈Tt nw f K play GU (t+1)∧e.1=Jb s0 ED e.2.1 (t+1):=fun e he=>by
  obtain ⟨d,hd,he⟩:=List.mem_flatMap.1 he
  obtain ⟨x,hx,rfl⟩:=List.mem_map.1 he
  obtain ⟨g1,g2,g3⟩:=hm.sub d (hL.mem_iff.1 hd)
  obtain ⟨k1,_⟩:=Ui (s0:=s0) (inc:=inc) h hs ht ((hp _).1 g1) hx
  refine ⟨?_,?_⟩
  ·unfold Tt;exact List.mem_flatMap.2 ⟨_,g1,hx⟩
  ·show ED t d.1 x=ED t (Jb s0 ED x t) x
   rw [k1,← g2]
 refine ⟨hI.keys,fun d hd=>?_,fun x hx=>?_⟩
 ·obtain ⟨⟨c,h1⟩,h2⟩:=hI.sub d hd
  obtain ⟨g1,g2⟩:=hc _ h1
  exact ⟨g1,g2,by rw [h2,hsum]⟩
 ·unfold Tt at hx
  obtain ⟨y,hy,hx⟩:=List.mem_flatMap.1 hx
  obtain ⟨o,ho⟩:=hm.all y hy
  obtain ⟨g1,g2,_⟩:=hm.sub _ ho
  simp only at g1 g2
  obtain ⟨z,hz,z1,_,z3,z4⟩:=(dR (s0:=s0) (inc:=inc) h hs hb hSn ht ((hp _).1 g1) ((hp y).1 hy) g2.symm).right x hx
  obtain ⟨o',h1⟩:=hI.all (ED t (Jb s0 ED y t) z,(z,o.2)) (List.mem_flatMap.2 ⟨_,hL.mem_iff.2 ho,List.mem_map.2 ⟨z,hz,rfl⟩⟩)
  obtain ⟨k1,_⟩:=Ui (s0:=s0) (inc:=inc) h hs ht ((hp y).1 hy) hx
  refine ⟨o',?_⟩
  show (ED t (Jb s0 ED x t) x,o')∈_
  rw [k1,← (hs.loc t ht _ z x z3 z4 z1).1]
  exact h1
theorem VT.start:VT nw f K play GU s0 ED 0 [(s0,(GU,1))] :=
 ⟨by simp,fun d hd=>by rw [List.mem_singleton] at hd;subst hd;exact ⟨by simp [Tt],rfl,by simp [Tt,Jb]⟩,fun h hh=>⟨(GU,1),by simp [Jb]⟩⟩
theorem VT.total {t:Nat} {m:List (σ×(List Int×Nat))} (hm:VT nw f K play GU s0 ED t m):sumF (fun d=>d.2.2) m=(Tt nw f K play GU t).length:=by
 rw [← kN,Uj (P:=Tt nw f K play GU t) (g:=fun h=>Jb s0 ED h t) (F:=fun _=>1) (G:=fun _=>1) hm.keys hm.all fun _ _ _ _ _=>rfl]
 exact G6 fun d hd=>by rw [(hm.sub d hd).2.2,Nat.mul_one]
end
end
section
open Go.Vm
def Vh (b:Option (List Int×Int)) (w:List Int×Int):Option (List Int×Int) :=
 match b with
 |none=>some w
 |some o=>if vH w o=true then some w else some o
theorem TJ:∀ (L:List (List Int×Int)) (b:Option (List Int×Int)),(b=none∧L=[]∧L.foldl Vh b=none)∨∃ w,L.foldl Vh b=some w∧(w∈L∨b=some w)∧(∀ x∈L,aZ w x)∧∀ o,b=some o→aZ w o
 |[],none=>.inl ⟨rfl,rfl,rfl⟩
 |[],some o=>.inr ⟨o,rfl,.inr rfl,fun x h=>absurd h List.not_mem_nil,fun o' h=>by cases h;exact IC _⟩
 |x::L,b=>by
  rw [List.foldl_cons]
  have hb:∃ o,Vh b x=some o∧(o=x∨b=some o)∧aZ o x∧∀ o',b=some o'→aZ o o':=by
   cases b with
   |none=>exact ⟨x,rfl,.inl rfl,IC _,fun o' h=>by cases h⟩
   |some o =>
    unfold Vh
    simp only
    cases h:vH x o with
    |true =>
     rw [if_pos rfl]
     exact ⟨x,rfl,.inl rfl,IC _,fun o' h'=>by cases h';exact nI h⟩
    |false =>
     rw [if_neg (by simp)]
     exact ⟨o,rfl,.inr rfl,dJ h,fun o' h'=>by cases h';exact IC _⟩
  obtain ⟨o,h1,h2,h3,h4⟩:=hb
  rw [h1]
  rcases TJ L (some o) with ⟨h,_⟩|⟨w,g1,g2,g3,g4⟩
  ·cases h
  ·have hw:=g4 o rfl
   refine .inr ⟨w,g1,?_,fun y hy=>?_,fun o' ho'=>JO hw (h4 o' ho')⟩
   ·rcases g2 with g2|g2
    ·exact .inl (List.mem_cons_of_mem _ g2)
    ·cases g2
     rcases h2 with rfl|h2
     ·exact .inl (List.mem_cons_self ..)
     ·exact .inr h2
   ·rcases List.mem_cons.1 hy with rfl|hy
    ·exact JO hw h3
    ·exact g3 y hy
end
end Go.Sch
namespace Go.Proofs.YtnjkoebfgcbbdaaGreatDoor
open Go Go.Am Go.Vm Go.Pie Go.Sch
attribute [local irreducible] Aa Ad Af Ac Ba AB BG Au Ap Ah Vm.Done BQ AY Qr
attribute [local irreducible] CV Bq Eh DY Ez BH CW
theorem tJ (p:F7):Inc (DN p):=UQ (aX _)
theorem UE (p:F7) {i j:Nat} (h:i<j) (hj:j<(DN p).length):gi (DN p) i<gi (DN p) j:=by
 have:=List.pairwise_iff_getElem.1 (tJ p) i j (by omega) hj h
 unfold gi
 rw [List.getElem?_eq_getElem hj,List.getElem?_eq_getElem (by omega)]
 exact this
theorem yY (p:F7) {i j:Nat} (hi:i<(DN p).length) (hj:j<(DN p).length) (h:gi (DN p) i=gi (DN p) j):i=j:=by
 rcases Nat.lt_trichotomy i j with h1|h1|h1
 ·have:=UE p h1 hj;omega
 ·exact h1
 ·have:=UE p h1 hi;omega
theorem eX (p:F7) (t:Int):t∈DN p↔t∈Rj p p.notes.length:=by
 unfold DN
 rw [OX,List.mem_mergeSort]
theorem KI {α:Type} [Inhabited α] {l:List α} {x:α} (h:x∈l):∃ i,i<l.length∧gi l i=x:=by
 obtain ⟨i,hi,e⟩:=List.mem_iff_getElem.1 h
 exact ⟨i,hi,by unfold gi;rw [List.getElem?_eq_getElem hi,e];rfl⟩
theorem EI {α:Type} [Inhabited α] {l:List α} {i:Nat} (h:i<l.length):gi l i∈l:=by
 unfold gi;rw [List.getElem?_eq_getElem h];exact List.getElem_mem h
theorem xZ {α:Type} [Inhabited α] {l:List α} (h:l.Nodup) {i j:Nat} (hi:i<l.length) (hj:j<l.length) (e:gi l i=gi l j):i=j:=by
 unfold gi at e
 rw [List.getElem?_eq_getElem hi,List.getElem?_eq_getElem hj] at e
 exact (List.getElem_inj h).1 e
theorem Y5 (p:F7) (t:Int):∀ k,(Jr p t k).Nodup
 |0=>List.nodup_nil
 |k+1=>by
  have ih:=Y5 p t k
  unfold Jr
  split
  ·refine List.nodup_append.2 ⟨ih,by simp,fun a ha b hb e=>?_⟩
   rw [List.mem_singleton] at hb
   have:=WQ ha
   omega
  ·exact ih
theorem WE (p:F7) (t:Int) (x:Int):x∈snd p t↔∃ i:Nat,i<p.notes.length∧x=(i:Int)∧(gi p.notes i).s≤t∧t<(gi p.notes i).e:=by
 have h:=iM p t x p.notes.length
 simp only [kJ] at h
 exact h
def LV (q:Qu) (t:Nat):Zv:=gi (BJ q.p) t
def a4j (q:Qu) (s:Zv) (x:Int):Bool:=decide ((gi q.p.notes x.toNat).s=s.s)
def Lp (q:Qu) (t j:Nat):Bool:=a4j q (LV q t) (gi (Gs q (Hy q t)) j)
def fQ (q:Qu) (t j:Nat):Nat:=(gi (Gs q (Hy q t)) j).toNat
def kQ (q:Qu) (t:Nat):Nat:=(Gs q (Hy q t)).length
def sQ (q:Qu) (t i:Nat):Prop:=(i:Int)∈Hy q t
def UY (q:Qu) (t:Nat) (l:List Int):Bool:=Iz q (Hy q t) l
theorem jW (p:F7):(BJ p).length+1=(DN p).length:=by
 have:=uf p
 show (xY _ _).length+1=_
 rw [iP];omega
theorem a6z (q:Qu) {t:Nat} (ht:t<(BJ q.p).length):(LV q t).s=gi (DN q.p) t:=by
 unfold LV;rw [Wy _ ht]
theorem YP (q:Qu) {t:Nat} (ht:t<(BJ q.p).length):Hy q t=snd q.p (gi (DN q.p) t):=by
 unfold Hy;rw [Wy _ ht]
theorem WY (q:Qu) {t:Nat} (ht:t<(BJ q.p).length) (i:Nat):sQ q t i↔i<q.p.notes.length∧(gi q.p.notes i).s≤gi (DN q.p) t∧gi (DN q.p) t<(gi q.p.notes i).e:=by
 unfold sQ
 rw [YP q ht,WE]
 constructor
 ·rintro ⟨j,h1,h2,h3⟩
  obtain rfl:i=j:=by omega
  exact ⟨h1,h3⟩
 ·rintro ⟨h1,h2⟩
  exact ⟨i,h1,rfl,h2⟩
theorem l9 (q:Qu) (N:List Int) (x:Int):x∈Gs q N↔x∈N∧EZ q x.toNat=false:=by
 unfold Gs QN
 rw [List.mem_filter,Bool.not_eq_true']
theorem nS (q:Qu) {t:Nat} (ht:t<(BJ q.p).length):(Gs q (Hy q t)).Nodup:=by
 rw [YP q ht]
 exact (Y5 _ _ _).filter _
theorem Nb (q:Qu) {t:Nat} (ht:t<(BJ q.p).length) {j:Nat} (hj:j<kQ q t):∃ i:Nat,gi (Gs q (Hy q t)) j=(i:Int)∧fQ q t j=i∧i<q.p.notes.length∧sQ q t i∧EZ q i=false:=by
 have hm:=EI (l:=Gs q (Hy q t)) hj
 obtain ⟨h1,h2⟩:=(l9 q _ _).1 hm
 have h1':=h1
 have h3:gi (Gs q (Hy q t)) j∈snd q.p (gi (DN q.p) t):=by rw [← YP q ht];exact h1
 obtain ⟨i,g1,g2,_⟩:=(WE _ _ _).1 h3
 refine ⟨i,g2,by unfold fQ;rw [g2];rfl,g1,by unfold sQ;rw [← g2];exact h1',by rw [g2] at h2;exact h2⟩
theorem Nv (q:Qu) (hq:Jw q) {t:Nat} (ht:t<(BJ q.p).length) (i:Nat):uT (Lp q) (fQ q) (kQ q) t i↔i<q.p.notes.length∧EZ q i=false∧(gi q.p.notes i).s=gi (DN q.p) t:=by
 constructor
 ·rintro ⟨j,h1,h2,rfl⟩
  obtain ⟨i,g1,g2,g3,g4,g5⟩:=Nb q ht h1
  rw [g2]
  refine ⟨g3,g5,?_⟩
  unfold Lp a4j at h2
  rw [g1,a6z q ht] at h2
  exact of_decide_eq_true h2
 ·rintro ⟨h1,h2,h3⟩
  have hn:=hq.p.note i h1
  have hS:sQ q t i:=(WY q ht i).2 ⟨h1,by omega,by have:=hn.r;omega⟩
  have hm:(i:Int)∈Gs q (Hy q t):=(l9 q _ _).2 ⟨hS,h2⟩
  obtain ⟨j,j1,j2⟩:=KI hm
  refine ⟨j,j1,?_,by unfold fQ;rw [j2];rfl⟩
  unfold Lp a4j
  rw [j2,a6z q ht]
  exact decide_eq_true h3
theorem aj {p:F7} {N:List Int} {is is':Nat→Bool} (h:∀ x∈N,is x.toNat=is' x.toNat) (d:Nat):∀ k,k≤N.length→oz p N is d k=oz p N is' d k
 |0,_=>rfl
 |k+1,hk=>by
  rw [SS,SS,aj h d k (by omega),h _ (EI (by omega))]
theorem xq {q:Qu} {N:List Int} {is is':Nat→Bool} (h:∀ x∈N,is x.toNat=is' x.toNat):Zw q N is=Zw q N is':=by
 unfold Zw
 refine KQ fun d _=>?_
 unfold Y6
 rw [aj h d _ (Nat.le_refl _)]
theorem Ue {p:F7} {N l l':List Int} (h:∀ x∈N,gi l x.toNat=gi l' x.toNat) (hd:Int):∀ k,k≤N.length→Tv p N l hd k=Tv p N l' hd k
 |0,_=>rfl
 |k+1,hk=>by
  unfold Tv
  rw [Ue h hd k (by omega),h _ (EI (by omega))]
theorem YR {q:Qu} {N l l':List Int} (h:∀ x∈N,gi l x.toNat=gi l' x.toNat) (hd:Int):gQ q N l hd=gQ q N l' hd:=by
 unfold gQ
 rw [xq (is:=hasB l hd) (is':=hasB l' hd) fun x hx=>by unfold hasB;rw [h x hx]]
theorem iw {q:Qu} {N l l':List Int} (h:∀ x∈N,gi l x.toNat=gi l' x.toNat):Iz q N l=Iz q N l':=by
 unfold Iz
 rw [YR h,YR h]
theorem TF {N l l':List Int} (h:∀ x∈N,gi l x.toNat=gi l' x.toNat):∀ k,k≤N.length→aQ N l k=aQ N l' k
 |0,_=>rfl
 |k+1,hk=>by
  unfold aQ
  rw [TF h k (by omega),h _ (EI (by omega))]
theorem jS {N l l':List Int} (hr:∀ x∈N,0≤gi l x.toNat∧gi l x.toNat≤2) (hr':∀ x∈N,0≤gi l' x.toNat∧gi l' x.toNat≤2):∀ k,k≤N.length→aQ N l k=aQ N l' k→∀ j,j<k→gi l (gi N j).toNat=gi l' (gi N j).toNat
 |0,_,_,j,hj=>by omega
 |k+1,hk,he,j,hj=>by
  unfold aQ at he
  have hl:=SC N l k
  have hl':=SC N l' k
  obtain ⟨e1,e2⟩:=List.append_inj he (by rw [hl,hl'])
  by_cases e:j=k
  ·subst e
   simp only [List.cons.injEq,and_true] at e2
   have e3:=congrArg UInt8.toNat e2
   rw [UInt8.toNat_ofNat',UInt8.toNat_ofNat'] at e3
   have:=hr _ (EI (l:=N) (i:=j) (by omega))
   have:=hr' _ (EI (l:=N) (i:=j) (by omega))
   omega
  ·exact jS hr hr' k (by omega) e1 j (by omega)
theorem cO {q:Qu} {t:Nat} (ht:t<(BJ q.p).length) {l l':List Int} (h:∀ i,sQ q t i→gi l i=gi l' i):∀ x∈Hy q t,gi l x.toNat=gi l' x.toNat:=fun x hx=>by
 have hx':=hx
 rw [YP q ht,WE] at hx
 obtain ⟨i,_,rfl,_⟩:=hx
 exact h i hx'
theorem Wv (q:Qu) {i:Nat} (hi:i<q.p.notes.length):gi (LH q) i=if EZ q i=true then 2 else 0:=by
 unfold LH Uu
 rw [Fb _ hi]
 by_cases h:EZ q i=true
 ·rw [if_pos ⟨hi,h⟩,if_pos h]
 ·rw [if_neg fun e=>h e.2,if_neg h]
theorem a0d (q:Qu):(LH q).length=q.p.notes.length:=LY _ _
theorem Vl (q:Qu) (hq:Jw q):YZ q.p.notes.length (BJ q.p).length (Lp q) (fQ q) (kQ q) (sQ q) (UY q) (LH q):=by
 have hT:=jW q.p
 refine ⟨a0d q,fun t ht j j' hj hj' e=>?_,fun t ht j hj=>?_,fun t ht j hj hn=>?_,fun t t' ht ht' i h1 h2=>?_,fun t ht j hj=>?_,fun t t' h1 h2 i hS hh=>?_,fun t ht i hS=>?_,fun t ht l l' _ _ h=>?_⟩
 ·obtain ⟨i,g1,g2,_⟩:=Nb q ht hj
  obtain ⟨i',g3,g4,_⟩:=Nb q ht hj'
  refine xZ (nS q ht) hj hj' ?_
  rw [g1,g3,← g2,← g4,e]
 ·obtain ⟨i,g1,g2,g3,_⟩:=Nb q ht hj
  rw [g2];exact g3
 ·obtain ⟨i,g1,g2,g3,_,g5⟩:=Nb q ht hj
  rw [g2,Wv q g3,g5];rfl
 ·have h1:=((Nv q hq ht i).1 h1).2.2
  have h2:=((Nv q hq ht' i).1 h2).2.2
  exact yY q.p (by omega) (by omega) (h1.symm.trans h2)
 ·obtain ⟨i,g1,g2,g3,g4,_⟩:=Nb q ht hj
  rw [g2];exact g4
 ·have h3:=((Nv q hq h2 i).1 hh).2.2
  have h4:=((WY q (by omega) i).1 hS).2.1
  have:=UE q.p h1 (by omega)
  omega
 ·obtain ⟨g1,g2,g3⟩:=(WY q ht i).1 hS
  have hlt:=UE q.p (show t<t+1 by omega) (by omega)
  by_cases h1:(gi q.p.notes i).s≤gi (DN q.p) t
  ·exact .inl ((WY q (by omega) i).2 ⟨g1,h1,by omega⟩)
  ·refine .inr fun t' ht' hh=>?_
   have h3:=((Nv q hq (by omega) i).1 hh).2.2
   rcases Nat.lt_or_ge t' t with h4|h4
   ·have:=UE q.p h4 (by omega);omega
   ·obtain rfl:t'=t:=by omega
    omega
 ·exact iw (cO ht h)
theorem Sm (q:Qu):∀ i,i<q.p.notes.length→0≤gi (LH q) i∧gi (LH q) i≤2:=fun i hi=>by
 rw [Wv q hi];split<;>omega
theorem a6p (q:Qu):∀ t,t<(BJ q.p).length→∀ i,sQ q t i→i<q.p.notes.length:=fun t ht i h=>((WY q ht i).1 h).1
def Ic (q:Qu) (t:Nat):List (List Int):=Tt (Lp q) (fQ q) (kQ q) (UY q) (LH q) t
def a7m (q:Qu) (t:Nat) (l:List Int):Prop:=ZA (Lp q) (fQ q) (kQ q) (UY q) (LH q) q.p.notes.length t l
theorem OT (q:Qu) (hq:Jw q) {t:Nat} (ht:t≤(BJ q.p).length) (l:List Int):l∈Ic q t↔a7m q t l:=RV (Vl q hq) t ht l
theorem Xr (q:Qu) (hq:Jw q) {t:Nat} (ht:t≤(BJ q.p).length):(Ic q t).Nodup:=ak (Vl q hq) t ht
def dw (q:Qu) (t:Nat) (l:List Int):List (List Int):=nC (Lp q) (fQ q) (kQ q) (UY q) t l
structure uZ (q:Qu) (t:Nat) (l:List Int):Prop where
 len:l.length=q.p.notes.length
 rng:∀ i,i<l.length→0≤gi l i∧gi l i≤2
 zero:∀ j,j<kQ q t→Lp q t j=true→gi l (fQ q t j)=0
theorem kH (q:Qu) (hq:Jw q) {t:Nat} (ht:t<(BJ q.p).length) {l:List Int} (h:a7m q t l):uZ q t l:=by
 have hS:=Vl q hq
 have hlen:l.length=q.p.notes.length:=ZA.len h
 refine ⟨hlen,fun i hi=>WC (Sm q) h (by omega),fun j hj hn=>?_⟩
 rw [ZA.no h _ (hS.rng t ht j hj) fun ⟨t',h1,h2⟩=>by have:=hS.once t' t (by omega) ht _ h2 ⟨j,hj,hn,rfl⟩;omega]
 exact hS.zero t ht j hj hn
theorem ZX (q:Qu) (hq:Jw q) {i:Nat} (hi:i<q.p.notes.length) (hp:EZ q i=false):∃ t,t<(BJ q.p).length∧uT (Lp q) (fQ q) (kQ q) t i:=by
 have hT:=jW q.p
 have hn:=hq.p.note i hi
 have h1:(gi q.p.notes i).s∈DN q.p:=(eX _ _).2 ((Wh _ _ _).2 (.inr (.inr ⟨i,hi,.inl rfl⟩)))
 have h2:(gi q.p.notes i).e∈DN q.p:=(eX _ _).2 ((Wh _ _ _).2 (.inr (.inr ⟨i,hi,.inr rfl⟩)))
 obtain ⟨a,a1,a2⟩:=KI h1
 obtain ⟨b,b1,b2⟩:=KI h2
 have hlt:a<(BJ q.p).length:=by
  rcases Nat.lt_or_ge a (BJ q.p).length with h|h
  ·exact h
  ·have:=hn.r
   rcases Nat.lt_trichotomy a b with g|g|g
   ·omega
   ·subst g;omega
   ·have:=UE q.p g a1;omega
 exact ⟨a,hlt,(Nv q hq hlt i).2 ⟨hi,hp,a2.symm⟩⟩
theorem PO (q:Qu) (hq:Jw q) (l:List Int):l∈Ic q (BJ q.p).length↔l.length=q.p.notes.length∧(∀ i,i<q.p.notes.length→if EZ q i=true then gi l i=2 else gi l i=0∨gi l i=1)∧∀ t,t<(BJ q.p).length→Iz q (Hy q t) l=true:=by
 rw [OT q hq (Nat.le_refl _)]
 constructor
 ·intro h
  refine ⟨ZA.len h,fun i hi=>?_,fun t ht=>ZA.play h t ht⟩
  split
  ·rename_i hp
   rw [ZA.no h i hi (fun ⟨t,h1,h2⟩=>by have:=((Nv q hq h1 i).1 h2).2.1;rw [hp] at this;cases this),Wv q hi,if_pos hp]
  ·rename_i hp
   exact ZA.yes h i hi (ZX q hq hi (by simpa using hp))
 ·rintro ⟨h1,h2,h3⟩
  refine ⟨h1,fun i hi ⟨t,g1,g2⟩=>?_,fun i hi hno=>?_,fun t ht=>h3 t ht⟩
  ·have:=h2 i hi
   rw [((Nv q hq g1 i).1 g2).2.1] at this
   simpa using this
  ·have:=h2 i hi
   by_cases hp:EZ q i=true
   ·rw [if_pos hp] at this
    rw [this,Wv q hi,if_pos hp]
   ·exact absurd (ZX q hq hi (by simpa using hp)) hno
structure Jp where
 now:List UInt8
 c0:Ul
 c1:Ul
 b0:Bool
 b1:Bool
deriving DecidableEq
def st0:Jp:=⟨[],⟨0,0⟩,⟨0,0⟩,false,false⟩
def Gw (q:Qu) (t:Nat) (x:Jp) (l:List Int):Jp :=
 ⟨NW (Hy q t) l,if (FW q l 0 t).1=true then (FW q l 0 t).2 else x.c0,if (FW q l 1 t).1=true then (FW q l 1 t).2 else x.c1,(FW q l 0 t).1||x.b0,(FW q l 1 t).1||x.b1⟩
def FQ (r:Bool×Ul) (b:Bool) (c:Ul):Int:=if r.1=true then if b=true then tK c r.2 else 0 else 0
def Jq (q:Qu) (t:Nat) (x:Jp) (l:List Int):Int:=FQ (FW q l 0 t) x.b0 x.c0+FQ (FW q l 1 t) x.b1 x.c1
theorem kE (q:Qu) {t:Nat} (ht:t<(BJ q.p).length) {l l':List Int} (h2:∀ i,i<q.p.notes.length→0≤gi l i∧gi l i≤2) (h2':∀ i,i<q.p.notes.length→0≤gi l' i∧gi l' i≤2) (e2:NW (Hy q t) l=NW (Hy q t) l') {i:Nat} (hS:sQ q t i):gi l i=gi l' i:=by
 have hin:=OQ ht
 have hb:∀ x∈Hy q t,x.toNat<q.p.notes.length:=fun x hx=>by
  obtain ⟨j,j1,j2⟩:=KI hx
  have:=hin j j1
  rw [j2] at this;omega
 obtain ⟨j,j1,j2⟩:=KI (l:=Hy q t) hS
 have:=jS (fun x hx=>h2 _ (hb x hx)) (fun x hx=>h2' _ (hb x hx)) _ (Nat.le_refl _) e2 j j1
 rw [j2] at this
 exact this
theorem a4x (q:Qu):Go.Sch.Stp q.p.notes.length (BJ q.p).length (sQ q) (Gw q) (Jq q):=by
 refine ⟨fun t ht x l l' _ _ h=>?_,fun t ht x x' l l' h1 h1' h2 h2' he i hS=>?_⟩
 ·have hx:=cO ht h
  have e0:FW q l 0 t=FW q l' 0 t:=Ue hx 0 _ (Nat.le_refl _)
  have e1:FW q l 1 t=FW q l' 1 t:=Ue hx 1 _ (Nat.le_refl _)
  have e2:NW (Hy q t) l=NW (Hy q t) l':=TF hx _ (Nat.le_refl _)
  unfold Gw Jq
  rw [e0,e1,e2]
  exact ⟨rfl,rfl⟩
 ·exact kE q ht h2 h2' (congrArg Jp.now he) hS
def b3w (q:Qu) (t:Nat) (_:List UInt8) (l:List Int):List UInt8:=NW (Hy q t) l
theorem a2o (q:Qu):Go.Sch.Stp q.p.notes.length (BJ q.p).length (sQ q) (b3w q) (fun _ _ _=>0):=by
 refine ⟨fun t ht x l l' _ _ h=>⟨TF (cO ht h) _ (Nat.le_refl _),rfl⟩,fun t ht x x' l l' h1 h1' h2 h2' he i hS=>?_⟩
 exact kE q ht h2 h2' he hS
end Go.Proofs.YtnjkoebfgcbbdaaGreatDoor
namespace Go.Am
open Go.ChangeMaps (setBlock)
variable {P:Program} {G:List Nat}
theorem Y3 {ops:Array Oper} {o:Oper} {l:List Oper} {R:Exit→Act→World→Prop} {ac:Act} {w w':World} {v':Value} (hg:o.guard=none) (hno:∀ c,o.op≠.defer c) (hr:(execOp ac.eval o).run P w=.ok (.value v') w')
 (k:wpListIn Fence.wide 0 P ops R l (ac.put o.dst v') w'):wpListIn Fence.wide 0 P ops R (o::l) ac w:=by
 unfold wpListIn
 rw [Vm.Hl hg,if_pos rfl]
 unfold Oper.wpIn
 rw [Oper.semAt_eq _ _ _ hno,hr]
 refine ⟨fun _ _=>trivial,?_⟩
 exact k
theorem Dy.len {ι:BN} {g:Nat→Nat}:∀ {es es':List MapEntry},Dy ι g es es'→es'.length=es.length
 |[],[],_=>rfl
 |_::_,_::_,⟨_,k⟩=>by simp [Dy.len k]
 |[],_::_,h=>h.elim
 |_::_,[],h=>h.elim
theorem a0c {ι ι':BN} {m m':Mem} {w w':World} (hs:DL P G ι m w) (h:Ext ι m w ι' m' w') {k:Nat} {o:Obj} (hk:w.heap[k]?=some o) (ho:o.isCells=false) (hm:∀ es c,o≠.map es c):w'.heap[k]?=some o:=by
 rw [h.frame k (Array.getElem?_eq_some_iff.1 hk).1 ?_];exact hk
 intro b ib hb hc
 have h1:=hs.blk b ib hb
 rw [hc,hk] at h1
 obtain ⟨es,c,h2⟩:=LK h1 ho
 exact absurd h2 (hm es c)
theorem a1m {ι:BN} {m:Mem} {W W1:World} {l:Nat} {o o':Obj} (hs:DL P G ι m W) (hd:W1=W∨W1=W.drew) (hk:W.heap[l]?=some o) (ho:o.isCells=false) (hm:∀ es c,o≠.map es c):DL P G ι m (setBlock W1 l o'):=by
 have hh:W1.heap=W.heap:=by rcases hd with rfl|rfl<;>rfl
 have hg:∀ c,c≠l→(setBlock W1 l o').heap[c]?=W.heap[c]?:=fun c hc=>by
  show (W1.heap.setIfInBounds l o')[c]?=_
  rw [hh,Array.getElem?_setIfInBounds_ne (fun e=>hc e.symm)]
 have hz:(setBlock W1 l o').heap.size=W.heap.size:=by
  show (W1.heap.setIfInBounds l o').size=_
  rw [hh,Array.size_setIfInBounds]
 refine ⟨fun b ib hb=>⟨(hs.dom b ib hb).1,by rw [hz];exact (hs.dom b ib hb).2⟩,fun b ib hb=>?_,hs.inj,hs.glob⟩
 rw [hg ib.blk ?_];exact hs.blk b ib hb
 intro e
 have h1:=hs.blk b ib hb
 rw [e,hk] at h1
 obtain ⟨es,c,h2⟩:=LK h1 ho
 exact hm es c h2
theorem zH {ι ι':BN} {m m':Mem} {w W W1:World} {l:Nat} (h:Ext ι m w ι' m' W) (hd:W1=W∨W1=W.drew) (hl:w.heap.size≤l) (o':Obj):Ext ι m w ι' m' (setBlock W1 l o'):=by
 have hh:W1.heap=W.heap:=by rcases hd with rfl|rfl<;>rfl
 have hz:(setBlock W1 l o').heap.size=W.heap.size:=by
  show (W1.heap.setIfInBounds l o').size=_
  rw [hh,Array.size_setIfInBounds]
 refine ⟨h.size,h.low,h.keep,h.ro,h.ro',h.le,h.back,h.dom,by rw [hz];exact h.heap,fun c hc hf=>?_,?_,?_,?_⟩
 ·show (W1.heap.setIfInBounds l o')[c]?=_
  rw [hh,Array.getElem?_setIfInBounds_ne (by omega)]
  exact h.frame c hc hf
 ·rcases hd with rfl|rfl<;>exact h.tape
 ·rcases hd with rfl|rfl<;>exact h.os
 ·rcases hd with rfl|rfl<;>exact h.output
theorem run_move {ρ:Operand→Value} {dst:Option Tmp} {x:Operand} {ty:TypeId} {pos:String} {af:Array Edge} {gd:Option (Nat×Bool)} {w:World}:(execOp ρ ⟨dst,.move x,ty,pos,af,gd⟩).run P w=.ok (.value (ρ x)) w:=by
 simp [execOp]
theorem Vf {ρ:Operand→Value} {dst:Option Tmp} {x:Operand} {i:Nat} {vs:Array Value} {v:Value} {ty:TypeId} {pos:String} {af:Array Edge} {gd:Option (Nat×Bool)} {w:World} (hx:ρ x=.tuple vs) (hv:vs[i]?=some v):(execOp ρ ⟨dst,.extract x i,ty,pos,af,gd⟩).run P w=.ok (.value v) w:=by
 simp only [execOp,hx]
 exact FU (by simp [Instr.extract,hv])
theorem Nz {a:Act} {d d':Tmp} {v:Value} (h:d<a.tmps.size):(a.put (some d) v).eval (.tmp d')=if d=d' then v else a.eval (.tmp d'):=by
 show (a.tmps.setIfInBounds d v).getD d' undef=_
 by_cases e:d=d'
 ·subst e
  rw [if_pos rfl]
  simp [h]
 ·rw [if_neg e]
  show _=a.tmps.getD d' undef
  simp [Array.getElem?_setIfInBounds_ne e]
theorem Xc {es:Array MapEntry} {V:List Nat} {e:MapEntry}:e∈(leftOf es V.toArray).toList↔e∈es.toList∧e.born∉V:=by
 unfold leftOf
 simp
end Go.Am
namespace Go.Vm
section
open Go.Am
open Go.ChangeMaps (setBlock)
variable {E:Env} {n bn:Nat} {L:Frame} {H:Heap} {nx:Nat} {Q:BZ→Frame→Heap→Nat→Prop}
theorem a3n {l:List MapEntry} {clock:Nat} (h:Stamped l clock) {i:Nat} {e:MapEntry} (he:l[i]?=some e):e.born=i:=h.at he
theorem Dv.at {m:Mem} {F:Nat→Prop}:∀ {xs:List FV} {vs:List Value} {i:Nat} {x:FV} {v:Value},Dv m F xs vs→xs[i]?=some x→vs[i]?=some v→RF m F x v
 |_,_,i,_,_,.nil,h,_=>by simp at h
 |_,_,0,_,_,.cons h t,h1,h2=>by simp at h1 h2;subst h1;subst h2;exact h
 |_,_,i+1,_,_,.cons h t,h1,h2=>Dv.at t (by simpa using h1) (by simpa using h2)
theorem Dx.at {m:Mem} {F:Nat→Prop} {T:Nat→Option Tg} {σ:Nat→Value} {n:Nat}:∀ {xs:List PV} {vs:List Value} {i:Nat} {x:PV} {v:Value},Dx m F T σ n xs vs→xs[i]?=some x→vs[i]?=some v→RP m F T σ n x v
 |_,_,i,_,_,.nil,h,_=>by simp at h
 |_,_,0,_,_,.cons h t,h1,h2=>by simp at h1 h2;subst h1;subst h2;exact h
 |_,_,i+1,_,_,.cons h t,h1,h2=>Dx.at t (by simpa using h1) (by simpa using h2)
theorem RL.other {m:Mem} {F:Nat→Prop} {T:Nat→Option Tg} {σ:Nat→Value} {nx:Nat} {L:Frame} {t:Tr Value} (h:RL m F T σ nx L t) {d:Nat} (hd:ET L d=none) (v:Value):RL m F T σ nx L (Og t d v):=fun i x hi=>by
 rw [Di]
 by_cases e:d=i
 ·subst e;rw [hd] at hi;cases hi
 ·rw [if_neg e];exact h i x hi
theorem AA.b0b {ι:BN} {g:Nat→Nat} {l:Nat} {v':Value} (h:AA ι g (.iface 0 (.int .i64 l)) v'):v'=.pointer (some ⟨l,0,none⟩):=by
 generalize hv:Value.iface 0 (.int .i64 (l:Int))=v at h
 cases h<;>simp at hv
 rename_i b
 obtain rfl:l=b:=by omega
 rfl
theorem Hw:∀ (n:Nat) (V:List Nat),V.Nodup→(∀ i∈V,i<n)→V.length≤n
 |0,V,_,h=>by
  match V,h with
  |[],_=>exact Nat.le_refl _
  |a::V,h=>exact absurd (h a (by simp)) (Nat.not_lt_zero _)
 |n+1,V,hn,h=>by
  by_cases hm:n∈V
  ·have h1:=Hw n (V.erase n) (hn.erase n) fun i hi=>by
    have h2:=h i (List.mem_of_mem_erase hi)
    have h3:i≠n:=fun e=>by
     subst e
     exact (List.Nodup.not_mem_erase hn) hi
    omega
   have h4:=List.length_erase_of_mem hm
   have:0<V.length:=List.length_pos_of_mem hm
   omega
  ·have:=Hw n V hn fun i hi=>by
    have h2:=h i hi
    have h3:i≠n:=fun e=>hm (e▸hi)
    omega
   omega
theorem lM {ι:BN} {g:Nat→Nat} {l es:List MapEntry} (h:Dy ι g l es) {j:Nat} {e:MapEntry} (he:es[j]?=some e):∃ ea,l[j]?=some ea∧dY ι g ea e:=by
 have hj:=(List.getElem?_eq_some_iff.1 he).1
 rw [h.len] at hj
 exact ⟨l[j],List.getElem?_eq_getElem hj,Dy.get h (List.getElem?_eq_getElem hj) he⟩
theorem Yb {ι:BN} {g:Nat→Nat}:∀ {l es:List MapEntry},Dy ι g l es→es.map (·.born)=l.map (·.born)
 |[],[],_=>rfl
 |e::l,e'::es,⟨h,k⟩=>by
  rw [List.map_cons,List.map_cons,Yb k,h.2.1]
 |[],_::_,h=>h.elim
 |_::_,[],h=>h.elim
theorem Bj.dI {r1 id r2 id2 r3:Nat} {x:Operand} {d0 d dn dk de:Tmp} {T kt et aa1 a2 a3 a4 aa5:TypeId} {p1 p2 p3 p4 p5:String} {f1 f2 f3 f4 f5:Array Edge} {ops3:Array Oper} {tl:List Oper} {rest:Code} {b DC:Nat} {ks:List FV} {cs:List PV} {α:Type} (Lf:α→Frame) (Hf:α→Heap) (inv:List Nat→α→Prop) (s0:α)
 (ht:E.P.underlying T=some (.map kt et)) (hx:Bh E.Γ L x=some (.mref b)) (hb:bn≤DC) (hbm:hget H b=some (.IU ks cs))
 (h0:inv [] s0) (hc:Yi (Gy L (some d0) (.mref b)) H nx (Lf s0) (Hf s0) DC)
 (hLd:ET L d=none) (hL:∀ s,ET (Lf s) d0=some (.mref b)∧ET (Lf s) dn=none∧ET (Lf s) dk=none)
 (hH:∀ V s,inv V s→hget (Hf s) b=some (.IU ks cs)) (hl:ks.length=cs.length)
 (hops:ops3.toList=⟨some de,.entry (.tmp d),aa5,p5,f5,none⟩::tl) (hkd:keeps d (.seq (.region r3 ops3 false) rest)=true) (hk0:keeps d0 (.seq (.region r3 ops3 false) rest)=true)
 (hne:d0≠d∧dn≠d∧dn≠d0∧dk≠d∧dk≠d0∧de≠d)
 (hs:∀ V s i kk c,inv V s→V.Nodup→i∉V→ks[i]?=some kk→cs[i]?=some c→CG E n bn ops3 tl (Gy (Lf s) (some de) (.Ee [.p kk,c])) (Hf s) DC fun L' H' nx' =>
  Bj E n bn rest L' H' nx' (Ap id2 (Ah (fun L' H' nx'=>∃ s',inv (V++[i]) s'∧Yi L' H' nx' (Lf s') (Hf s') DC) (Ap id Q))))
 (he:∀ V s,inv V s→V.Nodup→(∀ i,i<cs.length→i∈V)→(∀ i∈V,i<cs.length)→Q .normal (Lf s) (Hf s) DC) :
 Bj E n bn (.seq (.region r1 #[⟨some d0,.move x,aa1,p1,f1,none⟩,⟨some d,.range T (.tmp d0),a2,p2,f2,none⟩] false)
  (.block id (.loop (.seq (.region r2 #[⟨some dn,.next (.tmp d) false,a3,p3,f3,none⟩,⟨some dk,.extract (.tmp dn) 0,a4,p4,f4,none⟩] false) (.seq (.cond (.tmp dk) .skip (.exit id)) (.block id2 (.seq (.region r3 ops3 false) rest))))))) L H nx Q:=by
 intro hsn hok hfl B hB m F σ t h1 h2 h3 ι ac w hst R hR
 simp only [codeOk,Bool.and_eq_true] at hok
 simp only [flat,Bool.true_and,Bool.and_true,Bool.and_eq_true] at hfl
 obtain ⟨⟨hok1,_⟩,⟨hok2,_⟩,_,⟨a8k,_⟩,hokr⟩:=hok
 have b4t:=hfl
 obtain ⟨hn1,hn2,hn3,hn4,hn5,hn6⟩:=hne
 have ho1:=fun o ho=>DK (Array.all_eq_true_iff_forall_mem.1 hok1 o ho)
 have ho2:=fun o ho=>DK (Array.all_eq_true_iff_forall_mem.1 hok2 o ho)
 have ho3:∀ o∈ops3.toList,G5 E.G n o=true:=fun o ho=>Array.all_eq_true_iff_forall_mem.1 a8k o (by simpa using ho)
 rw [hops] at ho3
 have hd0:d0<n:=(ho1 ⟨some d0,.move x,aa1,p1,f1,none⟩ (by simp)).2 d0 rfl
 have hdd:d<n:=(ho1 ⟨some d,.range T (.tmp d0),a2,p2,f2,none⟩ (by simp)).2 d rfl
 have hdn:dn<n:=(ho2 ⟨some dn,.next (.tmp d) false,a3,p3,f3,none⟩ (by simp)).2 dn rfl
 have hdk:dk<n:=(ho2 ⟨some dk,.extract (.tmp dn) 0,a4,p4,f4,none⟩ (by simp)).2 dk rfl
 have hde:de<n:=(DK (ho3 _ (List.mem_cons_self ..))).2 de rfl
 have b5m:FI E.G x=true:=(ho1 ⟨some d0,.move x,aa1,p1,f1,none⟩ (by simp)).1 x (by simp [Op.operands])
 simp only [keeps,Bool.and_eq_true,hops,List.all_cons] at hkd hk0
 obtain ⟨c1j,r,l,clock,q1,q2,q3,q4,q5,q6,q7⟩:=h1.hp b _ hbm
 have hxv:ev t x=.map (some r):=(Iy h1 h2 hx hbm).trans q1
 have hrx:=BK h1 h2 hx
 rw [hxv] at hrx
 have hvx:=I7 hst.1 hst.2 b5m
 rw [hxv] at hvx
 obtain ⟨ib,hib,hxe⟩:∃ ib,ι r=some ib∧ac.eval x=.map (some ib.blk):=by
  have hg0:m.gen r=0:=by unfold Mem.gen;rw [q4];rfl
  generalize ac.eval x=u at hvx
  cases hvx with
  |map _ c ib h hc=>exact ⟨ib,h,by rw [hc hg0]⟩
 have hlen:l.length=cs.length:=by have:=q5.length;rw [List.length_map] at this;omega
 have b6y:clock=cs.length:=by rw [q7.2,hlen]
 obtain ⟨es,hes,b9t⟩:∃ es,w.heap[ib.blk]?=some (.map es clock)∧Dy ι m.gen l es.toList:=by
  have hbr:=hst.1.blk r ib hib
  rw [q4] at hbr
  cases ho:w.heap[ib.blk]? with
  |none=>rw [ho] at hbr;exact hbr.elim
  |some o =>
   rw [ho] at hbr
   cases o<;>simp only [QC] at hbr<;>first|exact hbr.elim|skip
   rename_i es' c'
   exact ⟨es',by rw [hbr.1],hbr.2⟩
 have hsz:∀ {a:Act} {s:St} {ι:BN} {w:World},DV E.P E.G [] n s ι a w→a.tmps.size=n:=fun h=>h.2.size
 refine wpIn_seq (wpIn_region_list ?_)
 refine Y3 rfl (fun c hc=>by cases hc) run_move ?_
 have b8r:(ac.put (some d0) (ac.eval x)).tmps.size=n:=by
  show (ac.tmps.setIfInBounds d0 _).size=n
  rw [Array.size_setIfInBounds];exact hsz hst
 have hrun0:(execOp (ac.put (some d0) (ac.eval x)).eval ⟨some d,.range T (.tmp d0),a2,p2,f2,none⟩).run E.P w=.ok (.value (.pointer (some ⟨w.heap.size,0,none⟩))) (w.alloc (.mapIter (some ib.blk) clock #[] clock)):=by
  simp only [execOp]
  refine FU ?_
  rw [Nz (by rw [hsz hst];exact hd0),if_pos rfl,hxe]
  exact run_range_map w T kt et ib.blk es clock ht hes
 refine Y3 rfl (fun c hc=>by cases hc) hrun0 ?_
 have hbel:Go.RowKit.Below w.heap.size w (w.alloc (.mapIter (some ib.blk) clock #[] clock)):=⟨rfl,rfl,rfl,by show w.heap.size≤(w.heap.push _).size;simp,fun c hc=>(by first|exact heap_alloc_old w _ hc|exact heap_alloc_old w _ _ hc)⟩
 have hlt:w.heap.size<(w.alloc (.mapIter (some ib.blk) clock #[] clock)).heap.size:=by show w.heap.size<(w.heap.push _).size;simp
 have hst1:DV E.P E.G [] n ⟨Og (Og t d0 (.map (some r))) d (.iface 0 (.int .i64 w.heap.size)),m⟩ ι ((ac.put (some d0) (ac.eval x)).put (some d) (.pointer (some ⟨w.heap.size,0,none⟩))) (w.alloc (.mapIter (some ib.blk) clock #[] clock)):=by
  refine ⟨Po hst.1 hbel,?_⟩
  have e1:Qa [] ι m.gen n (Gz t (some d0) (.map (some r))) (ac.put (some d0) (ac.eval x)):=hst.2.put (fun d' e=>by cases e;exact hd0) hvx
  exact e1.put (dst:=some d) (fun d' e=>by cases e;exact hdd) (.it _)
 have b6r:RL m F (htag H) σ nx (Gy L (some d0) (.mref b)) (Og (Og t d0 (.map (some r))) d (.iface 0 (.int .i64 w.heap.size))):=by
  refine RL.other (RL.set h2 hrx) ?_ _
  rw [DW,if_neg hn1];exact hLd
 show (Code.block _ _).wpIn _ _ _ _ _ _
 refine (wpIn_block (wpIn_loop_rounds (cs.length+1) ?_))
 have key:∀ N V s,inv V s→V.Nodup→(∀ i∈V,i<cs.length)→cs.length<N+V.length→∀ m1 F1 σ1 t1 ι1 a1 w1,Ctx E.Γ m1 F1 σ1 (Hf s) DC→RL m1 F1 (htag (Hf s)) σ1 DC (Lf s) t1→B.to m1 F1 σ1 (Hf s) DC →
  Ext ι m w ι1 m1 w1→DV E.P E.G [] n ⟨t1,m1⟩ ι1 a1 w1→CB t1 d=.iface 0 (.int .i64 w.heap.size)→CB t1 d0=.map (some r)→w1.heap[w.heap.size]?=some (.mapIter (some ib.blk) cs.length V.toArray cs.length) →
  (∀ y,y≠d0→y≠d→y≠dn→y≠dk→y≠de→Ru y tl=true→keeps y rest=true→CB t1 y=CB t y) →
  Code.roundsIn Fence.wide 0 E.P (.seq (.region r2 #[⟨some dn,.next (.tmp d) false,a3,p3,f3,none⟩,⟨some dk,.extract (.tmp dn) 0,a4,p4,f4,none⟩] false) (.seq (.cond (.tmp dk) .skip (.exit id)) (.block id2 (.seq (.region r3 ops3 false) rest)))) (Exit.inBlock id R) N a1 w1:=by
  intro N
  induction N with
  |zero =>
   intro V s _ hnd hV hlt
   have:=Hw _ V hnd hV
   omega
  |succ N ih =>
   intro V s hi hnd hV hN m1 F1 σ1 t1 ι1 a1 w1 c1 c2 c3 hE hS hit hmp hob hkp
   rw [roundsIn_succ]
   refine wpIn_seq (wpIn_region_list ?_)
   obtain ⟨b6b,b3h,b3q⟩:=hL s
   obtain ⟨_,rr,l1,clock1,g1,g2,g3,g4,g5,g6,g7⟩:=c1.hp b _ (hH V s hi)
   have hrr:rr=r:=by
    have hh:=c2 d0 _ b6b
    rw [hmp] at hh
    have ht':htag (Hf s) b=some .map:=by unfold htag;rw [hH V s hi];rfl
    cases hh with
    |mref _ _ h4 =>
     have:=h4 ht'
     rw [g1] at this
     cases this;rfl
   subst hrr
   obtain ⟨ib1,b6c,he1⟩:∃ ib1,ι1 rr=some ib1∧ib1.blk=ib.blk:=by
    obtain ⟨_,ib1,k1,k2⟩:=hE.le rr ib hib
    have e1:m1.gen rr=0:=by unfold Mem.gen;rw [g4];rfl
    have e2:m.gen rr=0:=by unfold Mem.gen;rw [q4];rfl
    exact ⟨ib1,k1,by rw [k2 (by rw [e1,e2])]⟩
   have hlen1:l1.length=cs.length:=by have:=g5.length;rw [List.length_map] at this;omega
   have a6b:clock1=cs.length:=by rw [g7.2,hlen1]
   obtain ⟨es1,hes1,Zu⟩:∃ es1,w1.heap[ib.blk]?=some (.map es1 clock1)∧Dy ι1 m1.gen l1 es1.toList:=by
    have hbr:=hS.1.blk rr ib1 b6c
    rw [g4,he1] at hbr
    cases ho:w1.heap[ib.blk]? with
    |none=>rw [ho] at hbr;exact hbr.elim
    |some o =>
     rw [ho] at hbr
     cases o<;>simp only [QC] at hbr<;>first|exact hbr.elim|skip
     rename_i es' c'
     exact ⟨es',by rw [hbr.1],hbr.2⟩
   have hborn:∀ {j:Nat} {e:MapEntry},es1.toList[j]?=some e→e.born=j:=fun {j e} he=>by
    obtain ⟨ea,k1,k2⟩:=lM Zu he
    rw [k2.2.1];exact a3n g7 k1
   have hold:∀ x∈es1.toList,x.born<cs.length:=fun x hx=>by
    obtain ⟨j,hj,e⟩:=List.mem_iff_getElem.1 hx
    have:=hborn (j:=j) (e:=x) (by rw [List.getElem?_eq_getElem hj,e])
    rw [Zu.len] at hj
    omega
   have hiv:a1.eval (.tmp d)=.pointer (some ⟨w.heap.size,0,none⟩):=by
    have hh:=hS.2.val d
    have e:CB (⟨t1,m1⟩:St).t d=_:=hit
    rw [e] at hh
    exact AA.b0b hh
   rcases run_next_at w1 a3 w.heap.size ib.blk cs.length cs.length V.toArray es1 clock1 (P:=E.P) hob hes1 hold (Nat.le_refl _) with ⟨hz,hrun⟩|⟨e,hel,w2,hdr,hrun⟩
   ·
    refine Y3 (v':=.tuple #[.bool false]) (w':=w1) rfl (fun c hc=>by cases hc) (by simp only [execOp];rw [hiv];exact FU hrun) ?_
    refine Y3 (v':=.bool false) (w':=w1) rfl (fun c hc=>by cases hc) (Vf (vs:=#[.bool false]) (by rw [Nz (by rw [hsz hS];exact hdn),if_pos rfl]) rfl) ?_
    have hsz2:(a1.put (some dn) (.tuple #[.bool false])).tmps.size=n:=by
     show (a1.tmps.setIfInBounds dn _).size=n
     rw [Array.size_setIfInBounds];exact hsz hS
    show (Code.seq _ _).wpIn _ _ _ _ _ _
    refine wpIn_seq (wpIn_cond_false (by rw [Nz (by rw [hsz2];exact hdk),if_pos rfl]) (wpIn_exit ?_))
    show (if id=id then _ else _)
    rw [if_pos rfl]
    show R .normal _ _
    have hall:∀ i,i<cs.length→i∈V:=fun i hil=>Classical.byContradiction fun hni=>by
     have hil':i<es1.toList.length:=by rw [Zu.len,hlen1];exact hil
     have hm:es1.toList[i]∈(leftOf es1 V.toArray).toList:=Xc.2 ⟨List.getElem_mem hil',by rw [hborn (List.getElem?_eq_getElem hil')];exact hni⟩
     have:=List.length_pos_of_mem hm
     rw [Array.length_toList] at this
     omega
    have e1:Qa [] ι1 m1.gen n (Gz t1 (some dn) (.tuple #[.bool false])) (a1.put (some dn) (.tuple #[.bool false])):=hS.2.put (fun d' e=>by cases e;exact hdn) (.tuple [.bool false] [.bool false] rfl fun i hi=>by
     have:i=0:=by simpa using hi
     subst this;exact .bool _)
    have e2:=e1.put (dst:=some dk) (v:=.bool false) (v':=.bool false) (fun d' e=>by cases e;exact hdk) (.bool _)
    refine hR .normal _ _ _ _ _ (he V s hi hnd hall hV) ⟨m1,F1,σ1,_,ι1,c1,((c2.other b3h (.tuple #[.bool false])).other b3q (.bool false)),c3,hE,⟨hS.1,e2⟩,fun y hy=>?_⟩
    simp only [keeps,Bool.and_eq_true,hops,List.all_cons] at hy
    obtain ⟨y1,y2,_,⟨⟨y3,y4⟩,y5⟩⟩:=hy
    simp only [List.all_nil,Bool.and_true,Bool.and_eq_true,bne_iff_ne,ne_eq,Option.some.injEq] at y1 y2 y3
    show CB (Og (Og t1 dn _) dk _) y=_
    rw [Di,if_neg y2.2.1,Di,if_neg y2.1]
    exact hkp y (fun e=>y1.1 e.symm) (fun e=>y1.2.1 e.symm) (fun e=>y2.1 e.symm) (fun e=>y2.2.1 e.symm) (fun e=>y3 e.symm) y4 y5
   ·
    have hem:=Xc.1 hel
    obtain ⟨i,hil,hei⟩:=List.mem_iff_getElem.1 hem.1
    have hei':es1.toList[i]?=some e:=by rw [List.getElem?_eq_getElem hil,hei]
    have hbi:=hborn hei'
    obtain ⟨ea,hea,hka,hba,hpl,hva⟩:=lM Zu hei'
    have hic:i<cs.length:=by rw [Zu.len,hlen1] at hil;exact hil
    have hni:i∉V:=by rw [← hbi];exact hem.2
    have hw3:(V.toArray.push e.born)=(V++[i]).toArray:=by rw [hbi];simp
    rw [hw3] at hrun
    rw [a6b] at hrun
    have hS3:=a1m (o':=.mapIter (some ib.blk) cs.length (V++[i]).toArray cs.length) hS.1 hdr hob rfl (fun es c hc=>by cases hc)
    have hE3:=zH hE hdr (Nat.le_refl _) (.mapIter (some ib.blk) cs.length (V++[i]).toArray cs.length)
    have hh2:w2.heap=w1.heap:=by rcases hdr with rfl|rfl<;>rfl
    have hl0:w.heap.size<w1.heap.size:=(Array.getElem?_eq_some_iff.1 hob).1
    have b1c:(setBlock w2 w.heap.size (.mapIter (some ib.blk) cs.length (V++[i]).toArray cs.length)).heap[w.heap.size]?=some (.mapIter (some ib.blk) cs.length (V++[i]).toArray cs.length):=by
     show (w2.heap.setIfInBounds _ _)[_]?=_
     rw [hh2,Array.getElem?_setIfInBounds_self_of_lt hl0]
    have b6z:ib.blk≠w.heap.size:=fun e=>by have:=(hst.1.dom rr ib hib).2;omega
    have hes3:(setBlock w2 w.heap.size (.mapIter (some ib.blk) cs.length (V++[i]).toArray cs.length)).heap[ib.blk]?=some (.map es1 clock1):=by
     show (w2.heap.setIfInBounds _ _)[_]?=_
     rw [hh2,Array.getElem?_setIfInBounds_ne (fun e=>b6z e.symm)];exact hes1
    generalize setBlock w2 w.heap.size (.mapIter (some ib.blk) cs.length (V++[i]).toArray cs.length)=w3 at *
    refine Y3 (v':=.tuple #[.bool true,e.key,e.val]) (w':=w3) rfl (fun c hc=>by cases hc) (by simp only [execOp];rw [hiv];exact FU hrun) ?_
    refine Y3 (v':=.bool true) (w':=w3) rfl (fun c hc=>by cases hc) (Vf (vs:=#[.bool true,e.key,e.val]) (by rw [Nz (by rw [hsz hS];exact hdn),if_pos rfl]) rfl) ?_
    have hsz2:(a1.put (some dn) (.tuple #[.bool true,e.key,e.val])).tmps.size=n:=by
     show (a1.tmps.setIfInBounds dn _).size=n
     rw [Array.size_setIfInBounds];exact hsz hS
    show (Code.seq _ _).wpIn _ _ _ _ _ _
    refine wpIn_seq (wpIn_cond_true (by rw [Nz (by rw [hsz2];exact hdk),if_pos rfl]) (wpIn_skip ?_))
    show (Code.block _ _).wpIn _ _ _ _ _ _
    refine wpIn_block (wpIn_seq (wpIn_region_list ?_))
    rw [hops]
    have hkey:AA ι1 m1.gen ea.key e.key:=by rw [hka];exact AA.plain hpl
    have e1:Qa [] ι1 m1.gen n (Gz t1 (some dn) (.tuple ⟨[.bool true,ea.key,ea.val]⟩)) (a1.put (some dn) (.tuple #[.bool true,e.key,e.val])):=hS.2.put (fun d' e=>by cases e;exact hdn) (.tuple _ [.bool true,e.key,e.val] rfl fun i hi=>by
     have:i=0∨i=1∨i=2:=by simp at hi;omega
     rcases this with rfl|rfl|rfl
     ·exact .bool _
     ·exact hkey
     ·exact hva)
    have e2:=e1.put (dst:=some dk) (v:=.bool true) (v':=.bool true) (fun d' e=>by cases e;exact hdk) (.bool _)
    have hsz3:((a1.put (some dn) (.tuple #[.bool true,e.key,e.val])).put (some dk) (.bool true)).tmps.size=n:=e2.size
    have b7w:((a1.put (some dn) (.tuple #[.bool true,e.key,e.val])).put (some dk) (.bool true)).eval (.tmp d)=.pointer (some ⟨w.heap.size,0,none⟩):=by
     rw [Nz (by rw [hsz2];exact hdk),if_neg hn4,Nz (by rw [hsz hS];exact hdn),if_neg hn2];exact hiv
    refine Y3 (v':=.tuple #[e.key,e.val]) (w':=w3) rfl (fun c hc=>by cases hc) (by
     simp only [execOp];rw [b7w]
     refine FU (run_entry_at w3 w.heap.size ib.blk cs.length V.toArray es1 clock1 e ?_ hes3 hem.1 ?_)
     ·rw [hw3,a6b];exact b1c
     ·rw [Yb Zu,g7.1];exact List.nodup_range) ?_
    have e3:=e2.put (dst:=some de) (v:=.tuple ⟨[ea.key,ea.val]⟩) (v':=.tuple #[e.key,e.val]) (fun d' e=>by cases e;exact hde) (.tuple _ [e.key,e.val] rfl fun i hi=>by
     have:i=0∨i=1:=by simp at hi;omega
     rcases this with rfl|rfl
     ·exact hkey
     ·exact hva)
    have hik:i<ks.length:=by omega
    have hkk:ks[i]?=some ks[i]:=List.getElem?_eq_getElem hik
    have hcc:cs[i]?=some cs[i]:=List.getElem?_eq_getElem hic
    have hrk:RF m1 F1 ks[i] ea.key:=Dv.at g5 hkk (by rw [List.getElem?_map,hea];rfl)
    have hrc:RP m1 F1 (htag (Hf s)) σ1 DC cs[i] ea.val:=Dx.at g6 hcc (by rw [List.getElem?_map,hea];rfl)
    have b6j:RL m1 F1 (htag (Hf s)) σ1 DC (Gy (Lf s) (some de) (.Ee [.p ks[i],cs[i]])) (Gz (Gz (Gz t1 (some dn) (.tuple ⟨[.bool true,ea.key,ea.val]⟩)) (some dk) (.bool true)) (some de) (.tuple ⟨[ea.key,ea.val]⟩)) :=
     RL.set ((c2.other b3h _).other b3q _) (.Ee (.cons (.p hrk) (.cons hrc .nil)))
    refine hs V s i _ _ hi hnd hni hkk hcc hsn (fun o ho=>ho3 o (List.mem_cons_of_mem _ ho)) B hB m1 F1 σ1 _ c1 b6j c3 ι1 _ w3 ⟨hS3,e3⟩ _ fun L' H' nx' a' w' q hw=>?_
    obtain ⟨m4,F4,σ4,t4,ι4,d1,d2,d3,hE4,hS4,hk4⟩:=hw.ex
    refine q hsn hokr b4t B hB m4 F4 σ4 t4 d1 d2 d3 ι4 a' w' hS4 _ fun e5 L5 H5 nx5 zC w5 q5 hw5=>?_
    obtain ⟨m6,F6,σ6,t6,ι6,x1,x2,x3,hE6,hS6,hk6⟩:=hw5.ex
    have b2z:=Ext.trans hS3 hE4 hE6
    have hE0:=Ext.trans hst.1 hE3 b2z
    have b5d:=a0c hS3 b2z b1c rfl (fun es c hc=>by cases hc)
    have ht6:∀ y,y≠dn→y≠dk→y≠de→Ru y tl=true→keeps y rest=true→CB t6 y=CB t1 y:=fun y y1 y2 y3 y4 y5=>by
     rw [hk6 y y5,hk4 y y4]
     simp only [Gz]
     rw [Di,if_neg (fun e=>y3 e.symm),Di,if_neg (fun e=>y2 e.symm),Di,if_neg (fun e=>y1 e.symm)]
    have hd6:CB t6 d=.iface 0 (.int .i64 w.heap.size):=by rw [ht6 d (fun e=>hn2 e.symm) (fun e=>hn4 e.symm) (fun e=>hn6 e.symm) hkd.1.2 hkd.2];exact hit
    have hm6:CB t6 d0=.map (some rr):=by
     have:de≠d0:=fun e=>by
      have:=hk0.1.1
      simp [e] at this
     rw [ht6 d0 (fun e=>hn3 e.symm) (fun e=>hn5 e.symm) (fun e=>this e.symm) hk0.1.2 hk0.2];exact hmp
    have b1l:∀ y,y≠d0→y≠d→y≠dn→y≠dk→y≠de→Ru y tl=true→keeps y rest=true→CB t6 y=CB t y:=fun y y1 y2 y3 y4 y5 y6 y7=>(ht6 y y3 y4 y5 y6 y7).trans (hkp y y1 y2 y3 y4 y5 y6 y7)
    have hout:∀ y,keeps y (.seq (.region r1 #[⟨some d0,.move x,aa1,p1,f1,none⟩,⟨some d,.range T (.tmp d0),a2,p2,f2,none⟩] false)
     (.block id (.loop (.seq (.region r2 #[⟨some dn,.next (.tmp d) false,a3,p3,f3,none⟩,⟨some dk,.extract (.tmp dn) 0,a4,p4,f4,none⟩] false) (.seq (.cond (.tmp dk) .skip (.exit id)) (.block id2 (.seq (.region r3 ops3 false) rest)))))))=true→CB t6 y=CB t y:=fun y hy=>by
     simp only [keeps,Bool.and_eq_true,hops,List.all_cons] at hy
     obtain ⟨y1,y2,_,⟨⟨y3,y4⟩,y5⟩⟩:=hy
     simp only [List.all_nil,Bool.and_true,Bool.and_eq_true,bne_iff_ne,ne_eq,Option.some.injEq] at y1 y2 y3
     exact b1l y (fun e=>y1.1 e.symm) (fun e=>y1.2.1 e.symm) (fun e=>y2.1 e.symm) (fun e=>y2.2.1 e.symm) (fun e=>y3 e.symm) y4 y5
    have fin:∀ e',Ah (fun L' H' nx'=>∃ s',inv (V++[i]) s'∧Yi L' H' nx' (Lf s') (Hf s') DC) (Ap id Q) e' L5 H5 nx5→Exit.then (Code.roundsIn Fence.wide 0 E.P (.seq (.region r2 #[⟨some dn,.next (.tmp d) false,a3,p3,f3,none⟩,⟨some dk,.extract (.tmp dn) 0,a4,p4,f4,none⟩] false) (.seq (.cond (.tmp dk) .skip (.exit id)) (.block id2 (.seq (.region r3 ops3 false) rest)))) (Exit.inBlock id R) N) (Exit.inBlock id R) e'.O5 zC w5:=fun e' qq=>by
     cases e' with
     |normal =>
      obtain ⟨s',i1,i2⟩:=qq
      have hnd':(V++[i]).Nodup:=List.nodup_append.2 ⟨hnd,by simp,fun a ha b hb=>by
       rw [List.mem_singleton] at hb
       subst hb
       exact fun e=>hni (e▸ha)⟩
      refine ih (V++[i]) s' i1 hnd' (fun j hj=>?_) (by rw [List.length_append];show _<N+(V.length+1);omega) m6 F6 σ6 t6 ι6 zC w5 (i2.ctx x1) (i2.rl x2) (i2.step (by omega) x3) hE0 hS6 hd6 hm6 b5d b1l
      rcases List.mem_append.1 hj with h|h
      ·exact hV j h
      ·rw [List.mem_singleton] at h;omega
     |ret=>exact hR .ret L5 H5 nx5 zC w5 qq ⟨m6,F6,σ6,t6,ι6,x1,x2,x3,hE0,hS6,fun y hy=>hout y hy⟩
     |exit j =>
      show (if j=id then _ else _)
      simp only [Ah,Ap] at qq
      split
      ·rename_i e;rw [if_pos e] at qq
       exact hR .normal L5 H5 nx5 zC w5 qq ⟨m6,F6,σ6,t6,ι6,x1,x2,x3,hE0,hS6,fun y hy=>hout y hy⟩
      ·rename_i e;rw [if_neg e] at qq
       exact hR (.exit j) L5 H5 nx5 zC w5 qq ⟨m6,F6,σ6,t6,ι6,x1,x2,x3,hE0,hS6,fun y hy=>hout y hy⟩
    cases e5 with
    |normal=>exact fin .normal q5
    |ret=>exact fin .ret q5
    |exit j =>
     show (if j=id2 then _ else _)
     simp only [Ap] at q5
     split
     ·rename_i e;rw [if_pos e] at q5;exact fin .normal q5
     ·rename_i e;rw [if_neg e] at q5;exact fin (.exit j) q5
 refine key (cs.length+1) [] s0 h0 List.nodup_nil (fun i hi=>by cases hi) (by simp) m F σ _ ι _ _ (hc.ctx h1) (hc.rl b6r) (hc.step (by omega) h3) (Ur (Ext.refl _ _ _) hbel) hst1 ?_ ?_ ?_ fun y y1 y2 _ _ _ _ _=>?_
 ·rw [Di,if_pos rfl]
 ·rw [Di,if_neg (fun e=>hn1 e.symm),Di,if_pos rfl]
 ·rw [heap_alloc_new,b6y]
 ·rw [Di,if_neg (fun e=>y2 e.symm),Di,if_neg (fun e=>y1 e.symm)]
end
section
open Go.Am
variable {E:Env} {n bn:Nat} {L:Frame} {H:Heap} {nx:Nat}
def IJ (E:Env) (g:FuncId) (xs:List FV) (r:PV):Prop:=E5 E g (xs.map .p) [] 0 fun r' H' nx'=>r'=r∧H'=[]∧nx'=0
theorem IJ.enter {f:FuncId} {fn:Func} {c:Code} {xs:List FV} {r:PV} (hf:E.P.funcs[f]?=some fn) (hb:fn.body=some c) (hok:Ij E.G fn c=true) (hfl:flat c=true) (hn:xs.length≤fn.ntmps)
 (h:Bj E fn.ntmps 0 c (CP 0 (xs.map .p)) [] 0 (Done E.P fn.results.toList 0 fun r' H' nx'=>r'=r∧H'=[]∧nx'=0)):IJ E f xs r:=E5.enter hf hb hok hfl (by simpa using hn) h
theorem IJ.nU {g:FuncId} {xs:List FV} {r:PV} (h:AB E g xs r):IJ E g xs r:=E5.nU h
theorem CG.uw {ops:Array Oper} {l:List Oper} {R:Frame→Heap→Nat→Prop} {dst:Option Tmp} {ty:TypeId} {pos:String} {af:Array Edge} {fo:Operand} {args:Array Operand} {aT:Array TypeId} {g:FuncId} {xs:List FV} {Qc:PV→Heap→Nat→Prop}
 (hent:Enters E.P g) (hf:Bh E.Γ L fo=some (.clo g [] [])) (ha:evF E.Γ L args.toList=some xs) (hc:E5 E g (xs.map .p) [] 0 Qc)
 (hq:∀ r H' nx',Qc r H' nx'→CG E n bn ops l (Gy L dst (r.rn (rho [] nx))) (news 0 (rho [] nx) H' H) (nx+nx') R):CG E n bn ops (⟨dst,.call { callee:=.value fo,args:=args,argTypes:=aT },ty,pos,af,none⟩::l) L H nx R:=by
 refine CG.Y1 (ns:=[]) (Hc:=[]) (BF:=xs.map .p) (ac:=xs.map .p) hent hf (WV ha) ?_ (CZ.Bz _ _) trivial trivial List.nodup_nil (by simp) hc fun r H' nx' q=>?_
 ·rw [CZ.dZ,List.nil_append,List.append_nil];exact .refl _
 ·rw [Pv];exact hq r H' nx' q
theorem CG.fn {ops:Array Oper} {l:List Oper} {R:Frame→Heap→Nat→Prop} {dst:Option Tmp} {ty:TypeId} {pos:String} {af:Array Edge} {fo:Operand} {args:Array Operand} {aT:Array TypeId} {g:FuncId} {xs:List FV} {r:PV}
 (hf:Bh E.Γ L fo=some (.clo g [] [])) (ha:evF E.Γ L args.toList=some xs) (hc:IJ E g xs r) (hent:Enters E.P g) (hr:∀ ρ,r.rn ρ=r) (q:CG E n bn ops l (Gy L dst r) H nx R):CG E n bn ops (⟨dst,.call { callee:=.value fo,args:=args,argTypes:=aT },ty,pos,af,none⟩::l) L H nx R :=
 CG.uw hent hf ha hc fun r' H' nx' ⟨h1,h2,h3⟩=>by subst h1;subst h2;subst h3;rw [hr];exact q
theorem Bj.Kt {b:Code} {Q:BZ→Frame→Heap→Nat→Prop} (N:Nat) (L0:Frame) (H0:Heap) (Lf:Nat→Frame→Frame) (Hf:Nat→Heap→Heap) (DC:Nat) (hb:bn≤DC) (hn:DC≤nx) (h1:FY DC (Lf 0 L0) L) (h2:Ci DC (Hf 0 H0) H)
 (hs:∀ k,k<N→Bj E n bn b (Lf k L0) (Hf k H0) DC (Ah (fun L' H' nx'=>DC≤nx'∧FY DC (Lf (k+1) L0) L'∧Ci DC (Hf (k+1) H0) H') Q))
 (he:Bj E n bn b (Lf N L0) (Hf N H0) DC (Ah (fun _ _ _=>False) Q)):Bj E n bn (.loop b) L H nx Q :=
 Bj.Gp (fun k=>Lf k L0) (fun k=>Hf k H0) DC (fun k=>k≤N) (fun k=>N-k) 0 hb (Nat.zero_le _) ⟨hn,h1,h2⟩ fun k hk=>by
  rcases Nat.lt_or_ge k N with h|h
  ·refine (hs k h).mono fun e L' H' nx' q=>?_
   cases e with
   |normal=>exact ⟨k+1,h,by omega,⟨q.1,q.2.1,q.2.2⟩⟩
   |ret=>exact q
   |exit i=>exact q
  ·obtain rfl:k=N:=by omega
   refine he.mono fun e L' H' nx' q=>?_
   cases e with
   |normal=>exact q.elim
   |ret=>exact q
   |exit i=>exact q
end
section
open Go.Am Go.ChangeShapes Go.WideShapes Go.ChangeAt Go.WideMaps Go.WideElems
variable {P:Program} {H:Type} {enc:TypeId×Value→H} {W:World} {held:Bool}
theorem b2c {r:Go.Reach} {b0 F:Nat} {laid:List (String×DataW Unit)} {O:CJ} {f:FuncId} {ts:List TypeId} {args:Array Value} {ds:List (DataW H)} {ps:List MemPlace}
 (hL:laidMet P laid W) (hA:DataW.TrodAll enc P W 0 (fun _=>true) held ts args.toList ds ps) (hv:∀ (j:Nat) t v,ts[j]?=some t→args.toList[j]?=some v→Value.okWide P W r b0 t v)
 (jq:P.follows .mixedOrders=true) (hty:ts.all (TT P F)=true)
 (hO:FT P (AX P F laid) O)
 (hp:∀ j nX xs,zy P (j+F) ts nX→IZ (fun (tf:TypeId×List FV) x=>ZG P tf.1 tf.2=some x) (ts.zip nX) xs→IJ (EH P F laid O) f xs (.p (.bool true))) :
 Calls P f args W fun e W'=>e=.returned (.bool true)∧Go.RowKit.Below W.heap.size W W':=by
 obtain ⟨N,hN⟩:=zS ts _ ds ps hA
 obtain ⟨j,hj⟩:∃ j,max N F=j+F:=⟨max N F-F,by omega⟩
 obtain ⟨BF,m1,nX,xs,q1,q2,q3,q4,q5,q6⟩:=UD ts _ ds (fun t ht=>uD (by omega) (List.all_eq_true.1 hty t ht)) (hN (max N F) (by omega)) (BD P F laid)
 rw [hj] at q2
 have V4:Ctx (EH P F laid O).Γ m1 (fun c=>c<m1.size) (fun _=>undef) [] 0:=by
  refine ⟨fun _ h=>h,fun b x hb=>(by cases hb),fun b b' x x' c hb=>(by cases hb),fun g vs e hg=>?_⟩
  simp only [EH,gam] at hg
  split at hg
  ·rename_i hlt
   simp only [Option.map_eq_some_iff,Prod.mk.injEq] at hg
   obtain ⟨⟨e',l⟩,h1,rfl,rfl⟩:=hg
   have hlt':g<(BD P F laid).size:=by rw [S9];exact hlt
   exact ⟨by omega,by rw [q6 g hlt',Hz hlt,h1],Ro h1⟩
  ·cases hg
 obtain ⟨ι,hs,hro⟩:=Z5 (F:=F) hL
 obtain ⟨ι1,o1,o2,o3,o4⟩:=Un ts _ ds ps hA hv ι _ m1 BF hs hro q1
 refine (hp j nX xs q2 q3 ⟨hO,jq⟩ m1 _ _ BF V4 (Dx.jZ q4) ι1 W args o1 o4).mono fun e W' ⟨v',he,r0,H',nx',m',F',σ',v,ι2,hq,_,hrv,_,hx,hs2,NZ⟩=>?_
 obtain ⟨rfl,_,_⟩:=hq
 have hv1:v=.bool true:=by cases hrv with|p h=>cases h;rfl
 subst hv1
 have:=NZ.Cc (v:=.bool true) rfl
 subst this
 exact ⟨he,⟨hx.os,hx.tape,hx.output,hx.heap,fun c hcl=>hx.frame c hcl fun b ib hb _=>.inl (o3 b (o1.dom b ib hb).1)⟩⟩
end
section
open Go.Am
theorem Aa.a4y {E:Env} {L:Frame} {H:Heap} {nx:Nat} {Q:PV→Heap→Nat→Prop} {w:Bool} {dst:Option Tmp} {ty:TypeId} {pos:String} {af:Array Edge} {gd:Option (Nat×Bool)} {α:Type} {_:Enc α} {t:TypeId} {x ix:Operand} {e:TypeId} {l:List α} {b n j:Nat} {z:Bool} {k:IntKind} {i:Nat} (hx:Bh E.Γ L x=some (.vec b n 0 j)) (hb:hget H b=some (.vec e (cells l) n z)) (hi:Bh E.Γ L ix=some (.p (.int k (i:Int))))
 (hs:elemSize E.P t=some (Enc.size α)) (h1:i<j) (q:Q (.Fq b n (i*Enc.size α)) H nx):Aa E w ⟨dst,.indexAddr t x ix,ty,pos,af,gd⟩ L H nx Q :=
 Aa.a1c hx hb hi hs (by omega) (by omega) (by rw [Nat.zero_add];exact q)
end
section
open Go.Am
def Hold (p:Prop):Prop:=p
theorem Hold.of {p:Prop} (h:Hold p):p:=h
theorem Hold.go {p:Prop} (h:p):Hold p:=h
theorem CG.JE {E:Env} {n bn:Nat} {L:Frame} {H:Heap} {nx:Nat} {ops:Array Oper} {l:List Oper} {R:Frame→Heap→Nat→Prop} {op:Op} {ty:TypeId} {pos:String} {af:Array Edge} (d:Tmp) (h:CG E n bn ops (⟨some d,op,ty,pos,af,none⟩::l) L H nx R):CG E n bn ops (⟨some d,op,ty,pos,af,none⟩::l) L H nx R:=h
end
end Go.Vm
namespace Go.Proofs.YtnjkoebfgcbbdaaGreatDoor
open Go Go.Am Go.Vm Go.Pie Go.Sch
attribute [local irreducible] Aa Ad Af Ac Ba AB BG Au Ap Ah Vm.Done BQ AY Qr Bj CG Ey IJ E5 Hold
attribute [local irreducible] CV Bq Eh DY Ez BH CW
def Fz (O:List (List Int)) (m:Nat) (j:Nat):List (List Int):=O++(O.take j).map fun x=>x.set m 1
theorem uN (O:List (List Int)) (m:Nat):Fz O m 0=O:=by simp [Fz]
theorem zJ (O:List (List Int)) (m:Nat):Fz O m O.length=O++O.map fun x=>x.set m 1:=by simp [Fz]
theorem aS (O:List (List Int)) (m:Nat) {j:Nat} (h:j<O.length):Fz O m (j+1)=Fz O m j++[(gi O j).set m 1]:=by
 unfold Fz
 rw [Ej h,List.map_append,← List.append_assoc]
 rfl
theorem jw (O:List (List Int)) (m:Nat) {j:Nat} (h:j≤O.length):(Fz O m j).length=O.length+j:=by
 unfold Fz
 rw [List.length_append,List.length_map,List.length_take]
 omega
theorem a2u (O:List (List Int)) (m j:Nat) {i:Nat} (h:i<O.length):gi (Fz O m j) i=gi O i:=by
 unfold Fz gi
 rw [List.getElem?_append_left h]
def ow (L:List (List Int)):List OwL:=L.map OwL.mk
theorem nR (L:List (List Int)):(ow L).length=L.length:=by simp [ow]
theorem TM (L R:List (List Int)):ow (L++R)=ow L++ow R:=by simp [ow]
theorem a5u (L:List (List Int)) {i:Nat} (h:i<L.length):gi (ow L) i=⟨gi L i⟩:=by
 unfold ow gi
 rw [List.getElem?_map,List.getElem?_eq_getElem h]
 rfl
theorem cells_at (l:List Int) {i:Nat} (h:i<l.length):(cells l)[i]?=some (.int .i64 (gi l i)):=by
 have:∀ l:List Int,cells l=l.map fun x=>FV.int .i64 x:=by
  intro l
  induction l with
  |nil=>rfl
  |cons a l ih=>rw [List.map_cons,← ih];rfl
 rw [this,List.getElem?_map,List.getElem?_eq_getElem h]
 unfold gi
 rw [List.getElem?_eq_getElem h];rfl
theorem rJ (L:List (List Int)) (m j:Nat):(cells (ow (Fz L m j))).take (L.length*1)=cells (ow L):=by
 have h:∀ R:List OwL,cells R=R.map fun x=>FV.own 3 (cells x.l) x.l.length:=by
  intro R
  induction R with
  |nil=>rfl
  |cons a l ih=>rw [List.map_cons,← ih];rfl
 unfold Fz
 rw [TM,h,h,List.map_append,Nat.mul_one,List.take_append_of_le_length (by simp [ow]),List.take_of_length_le (by simp [ow])]
theorem vF (q:Qu) (hq:Jw q) {t:Nat} (ht:t<(BJ q.p).length) {l:List Int} (hl:uZ q t l) {k:Nat} (hk:k<kQ q t) (hn:Lp q t k=true) {x:List Int} (hx:x∈Fg (Lp q t) (fQ q t) l k):x.length=q.p.notes.length∧gi x (fQ q t k)=0:=by
 have hS:=Vl q hq
 have hll:=hl.len
 have hr:=hS.rng t ht k hk
 have hm:=(L8 (nw:=Lp q t) (f:=fQ q t) (l:=l) k (fun j j' h h'=>hS.inj t ht j j' (by omega) (by omega)) (fun j hj=>by rw [hll];exact hS.rng t ht j (by omega)) (fun j hj=>hl.zero j (by omega)) x).1 hx
 refine ⟨hm.1.trans hll,?_⟩
 rw [(hm.2 _ (by rw [hll];exact hr)).2 fun ⟨j,h1,_,h3⟩=>by
  have:=hS.inj t ht j k (by omega) hk h3
  omega]
 exact hl.zero k hk hn
theorem wE (q:Qu) (hq:Jw q) {t:Nat} (ht:t<(BJ q.p).length) {l:List Int} (hl:uZ q t l) {x:List Int} (hx:x∈Fg (Lp q t) (fQ q t) l (kQ q t)):x.length=q.p.notes.length:=by
 have hS:=Vl q hq
 have hll:=hl.len
 have hm:=(L8 (nw:=Lp q t) (f:=fQ q t) (l:=l) (kQ q t) (hS.inj t ht) (fun j hj=>by rw [hll];exact hS.rng t ht j hj) hl.zero x).1 hx
 exact hm.1.trans hll
theorem a5r:∀ L:List (List Int),IG (cells (ow L)) (cells L)
 |[]=>.refl _
 |a::L=>.cons .own (a5r L)
theorem a4g {L:Vm.Frame} {H:Vm.Heap} {nx:Nat} {Q:PV→Vm.Heap→Nat→Prop} {dst:Option Tmp} {ty:TypeId} {pos:String} {af:Array Edge} {gd:Option (Nat×Bool)} {fo:Operand} {args:Array Operand} {aT:Array TypeId} {fs cs xs:List PV} {c:Code}
 (hf:Bh env.Γ L fo=some (.clo 88 fs cs)) (ha:evs env.Γ L args.toList=some xs) (hb:Tryz.f88.body=some c) (hn:(fs++xs++cs).length≤Tryz.f88.ntmps)
 (h:Ac env nx c (CP 0 (fs++xs++cs)) H nx (AY env.P Tryz.f88.results.toList Q)):Aa env true ⟨dst,.call { callee:=.value fo,args:=args,argTypes:=aT },ty,pos,af,gd⟩ L H nx Q:=by
 have h0:(match Tryz.f88.body with|some c=>Ij env.G Tryz.f88 c|none=>false)=true:=by kernel_rfl
 rw [hb] at h0
 exact Aa.inline rfl hf ha (Aj (by decide)) Tryz.func88 hb h0 hn h
theorem a3d {L:Vm.Frame} {H:Vm.Heap} {nx:Nat} {Q:PV→Vm.Heap→Nat→Prop} {dst:Option Tmp} {ty:TypeId} {pos:String} {af:Array Edge} {gd:Option (Nat×Bool)} {fo:Operand} {args:Array Operand} {aT:Array TypeId} {fs cs xs:List PV} {c:Code}
 (hf:Bh env.Γ L fo=some (.clo 127 fs cs)) (ha:evs env.Γ L args.toList=some xs) (hb:Tryz.f127.body=some c) (hn:(fs++xs++cs).length≤Tryz.f127.ntmps)
 (h:Ac env nx c (CP 0 (fs++xs++cs)) H nx (AY env.P Tryz.f127.results.toList Q)):Aa env true ⟨dst,.call { callee:=.value fo,args:=args,argTypes:=aT },ty,pos,af,gd⟩ L H nx Q:=by
 have h0:(match Tryz.f127.body with|some c=>Ij env.G Tryz.f127 c|none=>false)=true:=by kernel_rfl
 rw [hb] at h0
 exact Aa.inline rfl hf ha (Aj (by decide)) Tryz.func127 hb h0 hn h
theorem Tm (q:Qu) (hq:Jw q) (t:Nat) (ht:t<(BJ q.p).length) (hM:kQ q t≤12) (l:List Int) (hl:uZ q t l) :
 IJ env 41 [.agg (Enc.enc q),.agg (Enc.enc (LV q t)),.lst 3 (cells l) l.length] (.p (.lst 28 (cells (dw q t l)) (dw q t l).length)):=by
 have n1:=hq.p.notes
 have hll:=hl.len
 have hcl:=iO l (by omega)
 have hN:iW q (LV q t).notes:=OQ ht
 have hNl:(LV q t).notes.length≤1000:=Xj hq ht
 have hm:=Tq q hq (LV q t) hN hNl
 have hat:=fun j hj=>Nb q ht (j:=j) hj
 have hK:kQ q t=(Gs q (LV q t).notes).length:=rfl
 have hnw:∀ j,Lp q t j=a4j q (LV q t) (gi (Gs q (LV q t).notes) j):=fun j=>rfl
 have hMg:Gs q (Hy q t)=Gs q (LV q t).notes:=rfl
 rw [hMg] at hat
 have hzero:=hl.zero
 unfold dw nC
 rw [hK] at hat hM hzero ⊢
 have hOl:∀ k,k≤(Gs q (LV q t).notes).length→1≤(Fg (Lp q t) (fQ q t) l k).length∧(Fg (Lp q t) (fQ q t) l k).length≤4096:=fun k hk=>by
  obtain ⟨g1,g2⟩:=Yg (Lp q t) (fQ q t) l k
  exact ⟨g1,Nat.le_trans g2 (Nat.pow_le_pow_right (by decide) (show k≤12 by omega))⟩
 have hOx:∀ k,k<(Gs q (LV q t).notes).length→Lp q t k=true→∀ j,j<(Fg (Lp q t) (fQ q t) l k).length→(gi (Fg (Lp q t) (fQ q t) l k) j).length=q.p.notes.length∧gi (gi (Fg (Lp q t) (fQ q t) l k) j) (fQ q t k)=0:=fun k hk hn j hj=>vF q hq ht hl hk hn (EI hj)
 have b1j:∀ x∈Fg (Lp q t) (fQ q t) l (Gs q (LV q t).notes).length,x.length=q.p.notes.length:=fun x hx=>wE q hq ht hl hx
 generalize Gs q (LV q t).notes=M at *
 refine IJ.enter Tryz.func41 rfl (by kernel_rfl) (by kernel_rfl) (by simp [Tryz.ntmps41]) ?_
 repeat' (first|apply Bj.Ak|apply Bj.to|apply Bj.block|apply Ad.nil|apply Ad.one|(apply Aa.fn;rfl;rfl;exact hcl;intro _;rfl)|(apply Aa.fn;rfl;rfl;exact hm;intro _;rfl)|(apply Aa.assign;rfl)|(apply Aa.move;rfl)|(apply Aa.load;rfl;rfl)|(apply Aa.CX;rfl;rfl)|(apply Aa.box;rfl;trivial)|(apply Aa.buildSlice;rfl;rfl;rfl;decide;rfl;rfl;rfl))
 all_goals try (exfalso;omega)
 apply Bj.Kt (M.length) [(3,_),(4,_),(18,_),(19,_)] [(0,_),(1,_)] (fun k r=>(20,.p (.int .i64 (k:Int)))::(7,.vec 2 (Fg (Lp q t) (fQ q t) l k).length 0 (Fg (Lp q t) (fQ q t) l k).length)::r) (fun k r=>(2,.vec 28 (cells (ow (Fg (Lp q t) (fQ q t) l k))) (Fg (Lp q t) (fQ q t) l k).length false)::r) 3
 ·first|omega|decide
 ·first|omega|decide
 ·exact Rz
 ·exact VZ
 ·intro k hk
  obtain ⟨m,g1,g2,g3,g4,g5⟩:=hat k hk
  have hOk:=hOl k (by omega)
  have b2t:=hOx k hk
  have e1:Fg (Lp q t) (fQ q t) l (k+1)=if Lp q t k=true then Fg (Lp q t) (fQ q t) l k++(Fg (Lp q t) (fQ q t) l k).map (fun x=>x.set (fQ q t k) 1) else Fg (Lp q t) (fQ q t) l k:=rfl
  have hnk:=hnw k
  rw [g2] at e1 b2t
  rw [g1] at hnk
  rw [e1]
  clear hOx hOl
  generalize Fg (Lp q t) (fQ q t) l k=O at *
  by_cases hn:(gi q.p.notes m).s=(LV q t).s
  ·have hn1:Lp q t k=true:=by rw [hnk];exact decide_eq_true hn
   rw [if_pos hn1]
   have hOx:=b2t hn1
   repeat' (first|apply Bj.Ak|apply Bj.Dq|apply Ey.normal|apply Bj.to|apply Bj.block|apply Bj.skip|(apply Bj.AZ;rfl)|apply Ad.nil|apply Af.nil|apply Ad.one|(apply Af.bar;decide +kernel)|apply Af.quiet|(apply Aa.AP (l:=q.p.notes) (i:=m);rfl;exact congrArg (fun b=>some (PV.p (.int .i64 b))) g1;rfl;omega;rfl)|(apply Aa.assign;rfl)|(apply Aa.move;rfl)|(apply Aa.int;rfl;rfl;rfl)|(apply Aa.AP;rfl;rfl;rfl;omega;rfl)|(apply Aa.load;rfl;rfl)|(apply Aa.lenV;rfl;rfl;rfl)|(apply Aa.Aw;rfl;rfl;rfl)|(apply Aa.GY;rfl;rfl)|(intro _;try (exfalso;omega)))
   all_goals try (exfalso;omega)
   all_goals try contradiction
   refine Bj.Gp (fun s:Nat×Bool=>[(3,.ref 0 0),(4,.ref 1 0),(18,.p (.lst 3 (cells M) M.length)),(19,.p (.int .i64 (M.length:Int))),(20,.p (.int .i64 (k:Int))),(9,.p (.int .i64 (gi M k))),(34,bif s.2 then .vec 2 (O.length+s.1) 0 O.length else .p (.lst 28 (cells (ow O)) O.length)),(35,.p (.int .i64 (O.length:Int))),(36,.p (.int .i64 (s.1:Int))),(7,.vec 2 (O.length+s.1) 0 (O.length+s.1))])
    (fun s=>[(0,Zg q),(1,xP (LV q t)),(2,.vec 28 (cells (ow (Fz O m s.1))) (O.length+s.1) false)]) 3 (fun s=>s.1≤O.length) (fun s=>O.length-s.1) (0,true) (by decide) (Nat.zero_le _) ⟨by decide,?_,?_⟩ ?_
   ·exact EJ
   ·simp only [uN]
    exact FM
   rintro ⟨j,att⟩ hj
   simp only at hj ⊢
   by_cases hjl:j<O.length
   ·obtain ⟨x1,x2⟩:=hOx j hjl
    have hgj:gi (ow (Fz O m j)) j=⟨gi O j⟩:=by rw [a5u _ (by rw [jw O m (by omega)];omega),a2u _ _ _ hjl]
    have hgo:gi (ow O) j=⟨gi O j⟩:=a5u _ hjl
    have a4v:=U6 (gi O j) (by omega) (by omega)
    have hz:(cells (gi O j))[m]?=some (.int .i64 0):=by rw [cells_at _ (by omega),x2]
    have hlr:=jw O m (j:=j) (by omega)
    have b9o:=nR O
    have hroom:(ow (Fz O m j)).length=O.length+j:=by rw [nR,hlr]
    cases att
    ·have hy:gi O j=(gi (ow O) j).l:=by rw [hgo]
     have e2:ow (Fz O m (j+1))=ow (Fz O m j)++[⟨(gi (ow O) j).l.set m 1⟩]:=by rw [aS O m hjl,TM,← hy];rfl
     rw [hy] at a4v hz x1
     repeat' (first|(refine Bj.at 10 ?_;apply Bj.N8)|(refine Bj.atEnd 11 ?_;refine Bj.ghost (Bo.Pg 12 rfl rfl) ?_;first|apply Bj.region|apply Bj.Gv)|(refine Ad.JE 41 ?_;refine Ad.ghost (Bo.le 40 (v0:=.p (.lst 3 (cells (gi (ow O) j).l) (gi (ow O) j).l.length)) rfl (.p .own)) ?_)|((apply CG.jd (i:=m);rfl;exact congrArg (fun b=>some (PV.p (.int .i64 b))) g1;rfl;omega;exact hz;rfl;rfl;rfl))|apply Bj.Ak|apply Bj.region|apply Ey.normal|apply Bj.to|apply Bj.block|apply Bj.skip|(apply Bj.AZ;rfl)|apply CG.nil|apply CG.one|apply Ap.normal|apply Ad.nil|apply Ad.one|(apply Aa.AP (l:=ow O) (i:=j);rfl;rfl;rfl;omega;exact nR O)|(apply Aa.MO (l:=ow (Fz O m j)) (a:=OwL.mk ((gi (ow O) j).l.set m 1));rfl;rfl;rfl;rfl;exact congrArg (fun n=>[FV.own 3 (cells ((gi (ow O) j).l.set m 1)) n]) List.length_set.symm;exact hroom;rfl;rfl;(intro _ h;cases h);rfl;rfl;rfl;decide;decide;omega)|(apply Aa.fv;rfl;rfl;exact a4v)|(apply Aa.EY (l:=(gi (ow O) j).l) (i:=m);rfl;rfl;exact congrArg (fun b=>some (PV.p (.int .i64 b))) g1;rfl;omega)|(apply Aa.Nh (l:=(gi (ow O) j).l) (i:=m) (y:=(1:Int));rfl;rfl;rfl;trivial;rfl;rfl;rfl;decide;omega)|(apply Aa.assign;rfl)|(apply Aa.move;rfl)|(apply Aa.BU;rfl;rfl;omega)|(apply Aa.int;rfl;rfl;rfl)|(apply Aa.load;rfl;rfl)|(apply Aa.buildSlice;rfl;rfl;rfl;decide;rfl;rfl;rfl)|(intro _;try (exfalso;omega)))
     all_goals try (exfalso;omega)
     have e3:O.length+(j+1)=(ow (Fz O m j)).length+1:=by omega
     refine Ah.normal ⟨(j+1,false),by show j+1≤O.length;omega,by show O.length-(j+1)<O.length-j;omega,⟨by decide,?_,?_⟩⟩
     ·dsimp only
      rw [e3]
      exact EJ
     ·dsimp only
      rw [e3,e2]
      exact FM
    ·have hy:gi O j=(gi (ow (Fz O m j)) j).l:=by rw [hgj]
     have e2:ow (Fz O m (j+1))=ow (Fz O m j)++[⟨(gi (ow (Fz O m j)) j).l.set m 1⟩]:=by rw [aS O m hjl,TM,← hy];rfl
     rw [hy] at a4v hz x1
     have e4:cells (ow (Fz O m (j+1)))=cells (ow (Fz O m j))++[FV.own 3 (cells ((gi (ow (Fz O m j)) j).l.set m 1)) (gi (ow (Fz O m j)) j).l.length]:=by
      rw [e2,Fh]
      refine congrArg (fun x=>cells (ow (Fz O m j))++x) ?_
      show [FV.own 3 (cells ((gi (ow (Fz O m j)) j).l.set m 1)) ((gi (ow (Fz O m j)) j).l.set m 1).length]=_
      rw [List.length_set]
     repeat' (first|(refine Bj.at 10 ?_;apply Bj.N8)|(refine Ad.JE 41 ?_;refine Ad.ghost (Bo.le 40 (v0:=.p (.lst 3 (cells (gi (ow (Fz O m j)) j).l) (gi (ow (Fz O m j)) j).l.length)) rfl (.p .own)) ?_)|((refine Bj.atEnd 11 ?_;refine Bj.ghost (Bo.Pg 12 rfl rfl) ?_;apply Bj.dG))|((refine CG.JE 51 ?_;refine Hold.of ?_))|((apply CG.jd (i:=m);rfl;exact congrArg (fun b=>some (PV.p (.int .i64 b))) g1;rfl;omega;exact hz;rfl;rfl;rfl))|apply Bj.Ak|apply Ey.normal|apply Bj.to|apply Bj.block|apply Bj.skip|(apply Bj.AZ;rfl)|apply CG.nil|apply CG.one|apply Ad.nil|apply Ad.one|(apply Aa.a4y (l:=ow (Fz O m j)) (i:=j);rfl;rfl;rfl;rfl;omega)|(apply Aa.Io (l:=ow (Fz O m j)) (i:=j);rfl;rfl;omega;rfl)|(apply Aa.fv;rfl;rfl;exact a4v)|(apply Aa.EY (l:=(gi (ow (Fz O m j)) j).l) (i:=m);rfl;rfl;exact congrArg (fun b=>some (PV.p (.int .i64 b))) g1;rfl;omega)|(apply Aa.Nh (l:=(gi (ow (Fz O m j)) j).l) (i:=m) (y:=(1:Int));rfl;rfl;rfl;trivial;rfl;rfl;rfl;decide;omega)|(apply Aa.assign;rfl)|(apply Aa.move;rfl)|(apply Aa.int;rfl;rfl;rfl)|(apply Aa.buildSlice;rfl;rfl;rfl;decide;rfl;rfl;rfl)|(intro _;try (exfalso;omega)))
     all_goals try (exfalso;omega)
     refine Hold.go ?_
     refine CG.a5d (r:=34) (i:=_) (k:=1) (xs:=[FV.own 3 (cells ((gi (ow (Fz O m j)) j).l.set m 1)) (gi (ow (Fz O m j)) j).l.length]) (j:=O.length) (N:=O.length+j) rfl rfl ?_ rfl ?_ ?_ rfl rfl (by intro _ h;cases h) rfl rfl (by decide) ?_ ?_ (by decide) ?_ ?_
     ·refine mD.all rfl rfl ?_
      rfl
     ·omega
     ·omega
     ·exact eG (by omega) (by decide)
     ·rw [Dw,hroom];rfl
     ·repeat' (first|apply Bj.region|apply Ey.normal|apply CG.nil|apply CG.one|apply Ap.normal|apply Ad.nil|apply Ad.one|(apply Aa.assign;rfl)|(apply Aa.move;rfl)|(apply Aa.BU;rfl;rfl;omega))
      refine Ah.normal ⟨(j+1,true),by show j+1≤O.length;omega,by show O.length-(j+1)<O.length-j;omega,⟨by decide,?_,?_⟩⟩
      ·dsimp only
       try rw [← rJ O m j]
       exact EJ
      ·dsimp only
       rw [e4]
       exact FM
     ·repeat' (first|apply Bj.region|apply Ey.normal|apply CG.nil|apply CG.one|apply Ap.normal|apply Ad.nil|apply Ad.one|(apply Aa.assign;rfl)|(apply Aa.move;rfl)|(apply Aa.BU;rfl;rfl;omega))
      refine Ah.normal ⟨(j+1,false),by show j+1≤O.length;omega,by show O.length-(j+1)<O.length-j;omega,⟨by decide,?_,?_⟩⟩
      ·dsimp only
       try rw [← rJ O m j]
       exact EJ
      ·dsimp only
       rw [e4]
       exact FM
   ·have hje:j=O.length:=by omega
    have e5:(O++O.map (fun x=>x.set m 1)).length=O.length+O.length:=by simp
    subst hje
    repeat' (first|apply Bj.Ak|apply Bj.region|apply Ey.normal|apply Ey.exit|apply Bj.to|apply Bj.exit|(apply Bj.AZ;rfl)|apply Ap.normal|apply Ap.exit|apply Ah.exit|apply Ad.nil|apply Ad.one|(apply Aa.move;rfl)|(apply Aa.BU;rfl;rfl;omega)|(apply Aa.int;rfl;rfl;rfl)|(intro _;try (exfalso;omega)))
    all_goals try (exfalso;omega)
    refine Ah.normal ⟨by decide,?_,?_⟩
    ·rw [e5]
     exact EJ
    ·rw [e5,← zJ]
     exact FM
  ·have hn1:¬ Lp q t k=true:=by rw [hnk];exact fun h=>hn (of_decide_eq_true h)
   rw [if_neg hn1]
   repeat' (first|apply Bj.Ak|apply Bj.Dq|apply Bj.region|apply Ey.normal|apply Ey.exit|apply Bj.to|apply Bj.block|apply Bj.skip|apply Bj.exit|(apply Bj.AZ;rfl)|apply Ap.exit|apply Ad.nil|apply Af.nil|apply Ad.one|(apply Af.bar;decide +kernel)|apply Af.quiet|(apply Aa.AP (l:=q.p.notes) (i:=m);rfl;exact congrArg (fun b=>some (PV.p (.int .i64 b))) g1;rfl;omega;rfl)|(apply Aa.assign;rfl)|(apply Aa.move;rfl)|(apply Aa.BU;rfl;rfl;omega)|(apply Aa.int;rfl;rfl;rfl)|(apply Aa.AP;rfl;rfl;rfl;omega;rfl)|(apply Aa.load;rfl;rfl)|(apply Aa.Aw;rfl;rfl;rfl)|(apply Aa.GY;rfl;rfl)|(intro _;try (exfalso;omega)))
   all_goals try (exfalso;omega)
   all_goals try contradiction
   refine Ah.normal ⟨by first|omega|decide,?_,?_⟩
   ·exact EJ
   ·exact FM
 ·have hOk:=hOl M.length (Nat.le_refl _)
  have b7i:∀ i,i<(Fg (Lp q t) (fQ q t) l M.length).length→(gi (Fg (Lp q t) (fQ q t) l M.length) i).length=q.p.notes.length:=fun i hi=>b1j _ (EI hi)
  clear hOl hOx
  generalize Fg (Lp q t) (fQ q t) l M.length=O at *
  have hC:∀ i,i<O.length→Et env 89 ([.p (.lst 3 (cells (gi O i)) (gi O i).length)]++[.ref 0 0,.ref 1 0]) [(0,Zg q),(1,xP (LV q t))] 2 (.bool (!UY q t (gi O i))):=fun i hi=>Zk q hq _ hN hNl (gi O i) (b7i i hi)
  unfold Zg xP at hC
  generalize hP:UY q t=P at *
  repeat' (first|(refine Bj.at 14 ?_;refine Bj.ghost (Bo.b2l 2 (cells O) rfl (a5r O)) ?_;first|apply Bj.Ak|apply Bj.Dq)|apply Bj.Ak|apply Ey.normal|apply Ey.exit|apply Bj.to|apply Bj.exit|(apply Bj.AZ;rfl)|apply Ac.assoc|apply Ac.Ak|apply Ac.Ag|apply Ap.exit|apply Ah.exit|apply Ad.nil|apply Ad.one|(apply Aa.makeFunc;rfl;rfl)|(apply a4g;rfl;rfl;rfl;exact le_dec rfl)|(apply a3d;rfl;rfl;rfl;exact le_dec rfl)|(apply Aa.assign;rfl)|(apply Aa.move;rfl)|(apply Aa.int;rfl;rfl;rfl)|(apply Aa.lenV;rfl;rfl;rfl)|(intro _;try (exfalso;omega)))
  all_goals try (exfalso;omega)
  apply Ac.G9 (O.length) (fun k=>∀ i,i<k→P (gi O i)=true) [(0,_),(1,_),(7,_)] [(0,_),(1,_),(2,_)] (fun k r=>(8,.p (.int .i64 (k:Int)))::r) (fun k r=>r) 3
  ·first|omega|decide
  ·first|omega|decide
  ·exact Rz
  ·exact VZ
  ·first|(intro _ _;omega)|omega|trivial
  ·intro k hk hi
   have hCk:=hC k hk
   by_cases hp:P (gi O k)=true
   ·rw [hp] at hCk
    repeat' (first|apply Ac.Ak|apply Ac.region|apply Ac.Ai|apply Ac.Ag|apply Au.normal|apply Ap.normal|apply Ac.skip|apply Ad.nil|apply Ad.one|(apply Aa.read [0,1] hCk;rfl;rfl;exact .of_eq rfl;exact CZ.AO rfl;exact Du rfl;(repeat (first|exact trivial|refine ⟨⟨_,rfl,.of_eq rfl⟩,?_⟩));decide;(intro _ hb;simp at hb<;>omega);rfl)|(apply Aa.assign;rfl)|(apply Aa.move;rfl)|(apply Aa.BU;rfl;rfl;omega)|(apply Aa.int;rfl;rfl;rfl)|(apply Aa.Io;rfl;rfl;omega;rfl)|(apply Aa.EY;rfl;rfl;rfl;rfl;omega)|(apply Ac.Ae;rfl)|(apply Ac.cond_false;rfl)|(intro _;try (exfalso;omega)))
    all_goals try (exfalso;omega)
    all_goals try contradiction
    refine Ah.normal ⟨(all_succ hi hp),by first|omega|decide,?_,?_⟩
    ·exact EJ
    ·exact FM
   ·have hp':P (gi O k)=false:=by cases h:P (gi O k)<;>simp_all
    rw [hp'] at hCk
    repeat' (first|apply Ac.assoc|apply Ac.Ak|apply Ac.Ai|apply Ac.Ag|apply Au.ret|(apply AY.ret;rfl)|apply Ap.ret|apply Ah.ret|apply Ac.ret|apply Ad.nil|apply Ad.one|(apply Aa.read [0,1] hCk;rfl;rfl;exact .of_eq rfl;exact CZ.AO rfl;exact Du rfl;(repeat (first|exact trivial|refine ⟨⟨_,rfl,.of_eq rfl⟩,?_⟩));decide;(intro _ hb;simp at hb<;>omega);rfl)|(apply Aa.assign;rfl)|(apply Aa.move;rfl)|(apply Aa.BU;rfl;rfl;omega)|(apply Aa.int;rfl;rfl;rfl)|(apply Aa.Io;rfl;rfl;omega;rfl)|(apply Aa.EY;rfl;rfl;rfl;rfl;omega)|(apply Ac.Aq;rfl)|(apply Ac.Ae;rfl)|(apply Ac.cond_true;rfl)|(intro _;try (exfalso;omega)))
    all_goals try (exfalso;omega)
    all_goals try contradiction
    refine Ac.Gp (fun s:List (List Int)×Nat×Nat=>[(0,.vec 2 O.length 0 O.length),(1,.clo 89 [] [.ref 0 0,.ref 1 0]),(5,.p (.int .i64 (s.2.1:Int))),(6,.p (.int .i64 (s.2.2:Int)))]) (fun s=>[(0,Zg q),(1,xP (LV q t)),(2,.vec 28 (cells s.1) O.length false)]) 3 (fun s=>P9 P O s.1 s.2.1 s.2.2) (fun s=>O.length-s.2.2) (O,k,k+1) (by decide) (P9.start hk hp' hi) ⟨by decide,?_,?_⟩ ?_
    ·exact EJ
    ·exact FM
    rintro ⟨zs,i,j⟩ hD
    simp only at hD ⊢
    have z1:=hD.len
    have z2:=hD.ij
    have z3:=hD.jn
    unfold Zg xP
    by_cases hj:j<O.length
    ·have hC2:=hC j hj
     have hz:=hD.at_ hj
     by_cases hw:P (gi O j)=true
     ·rw [hw] at hC2
      rw [← hz] at hC2
      repeat' (first|apply Ac.assoc|apply Ac.Ak|apply Ac.region|apply Ac.Ai|apply Ac.Ag|apply Au.normal|apply Ap.normal|apply Ad.nil|apply Ad.one|(apply Aa.read [0,1] hC2;rfl;rfl;exact .of_eq rfl;exact CZ.AO rfl;exact Du rfl;(repeat (first|exact trivial|refine ⟨⟨_,rfl,.of_eq rfl⟩,?_⟩));decide;(intro _ hb;simp at hb<;>omega);rfl)|(apply Aa.Nh (y:=gi zs j);rfl;rfl;rfl;trivial;(first|rfl|(refine congrArg (fun t=>[PV.p (FV.int _ t)]) ?_;first|omega|(simp only [Int.natCast_add,Int.natCast_mul,Int.natCast_ediv,Int.natCast_emod]<;>omega)));rfl;rfl;decide;(first|omega|(simp only [List.length_set]<;>omega)))|(apply Aa.assign;rfl)|(apply Aa.move;rfl)|(apply Aa.BU;rfl;rfl;omega)|(apply Aa.int;rfl;rfl;rfl)|(apply Aa.Io;rfl;rfl;omega;rfl)|(apply Aa.lenV;rfl;rfl;rfl)|(apply Aa.EY;rfl;rfl;rfl;rfl;omega)|(apply Aa.not;rfl)|(apply Ac.Ae;rfl)|(apply Ac.cond_true;rfl)|(intro _;try (exfalso;omega)))
      all_goals try (exfalso;omega)
      refine Ah.normal ⟨(zs.set i (gi O j),i+1,j+1),hD.put hj hw,by simp only;omega,⟨by omega,?_,?_⟩⟩
      ·exact EJ
      ·rw [← hz]
       exact FM
     ·have hw':P (gi O j)=false:=by cases h:P (gi O j)<;>simp_all
      rw [hw'] at hC2
      rw [← hz] at hC2
      repeat' (first|apply Ac.assoc|apply Ac.Ak|apply Ac.region|apply Ac.Ai|apply Ac.Ag|apply Au.normal|apply Ap.normal|apply Ac.skip|apply Ad.nil|apply Ad.one|(apply Aa.read [0,1] hC2;rfl;rfl;exact .of_eq rfl;exact CZ.AO rfl;exact Du rfl;(repeat (first|exact trivial|refine ⟨⟨_,rfl,.of_eq rfl⟩,?_⟩));decide;(intro _ hb;simp at hb<;>omega);rfl)|(apply Aa.assign;rfl)|(apply Aa.move;rfl)|(apply Aa.BU;rfl;rfl;omega)|(apply Aa.int;rfl;rfl;rfl)|(apply Aa.Io;rfl;rfl;omega;rfl)|(apply Aa.lenV;rfl;rfl;rfl)|(apply Aa.EY;rfl;rfl;rfl;rfl;omega)|(apply Aa.not;rfl)|(apply Ac.Ae;rfl)|(apply Ac.cond_false;rfl)|(intro _;try (exfalso;omega)))
      all_goals try (exfalso;omega)
      refine Ah.normal ⟨(zs,i,j+1),hD.skip hj hw',by simp only;omega,⟨by omega,?_,?_⟩⟩
      ·exact EJ
      ·exact FM
    ·obtain rfl:j=O.length:=by omega
     obtain ⟨f1,f2⟩:=hD.fin
     rw [← f1,show (zs.take i).length=i by rw [List.length_take];omega]
     have hps:∀ xs,((Dk (cells zs) (0+i*1) xs).take (i*1))=cells (zs.take i):=fun xs=>by
      rw [MX _ _ _ (show i*1≤0+i*1 by omega)]
      exact MG zs i
     have hpl:∀ xs,i*1≤(Dk (cells zs) (0+i*1) xs).length:=fun xs=>by
      rw [Ol,Dw,z1]
      show i*1≤O.length*1
      omega
     repeat' (first|(refine Ad.JE 6 ?_;refine Ad.ghost (Bo.lK 56 (i*1) rfl rfl (by omega) (hpl _)) ?_)|apply Bj.ret|apply Ac.assoc|apply Ac.Ak|apply Ac.Bl|apply Au.normal|(apply AY.ret;rfl)|apply Ap.exit|apply Ah.exit|apply Ac.ret|apply Ad.nil|apply Ad.one|(apply Aa.bP (sz:=1) (a:=i) (c:=O.length);rfl;rfl;omega;rfl;rfl;rfl;exact ⟨_,rfl⟩;rfl;omega;exact Nat.le_refl _)|(apply Aa.bP (sz:=1) (a:=0) (c:=i);rfl;rfl;omega;rfl;rfl;rfl;rfl;exact ⟨_,rfl⟩;omega;omega)|(apply Aa.clear;rfl;rfl;omega;omega;rfl;rfl;rfl;decide;(rw [Dw,z1];show 0+i*1+(O.length-i)*1≤O.length*1;omega))|(apply Aa.assign;rfl)|(apply Aa.move;rfl)|(apply Aa.int;rfl;rfl;rfl)|(apply Aa.lenV;rfl;rfl;rfl)|(apply Ac.Ae;rfl)|(intro _;try (exfalso;omega)))
     all_goals first|(exfalso;omega)|(refine Done.rt rfl rfl ⟨?_,rfl,rfl⟩;exact congrArg (fun c=>PV.p (FV.lst 28 c i)) (hps _))
  ·intro hi
   rw [filter_all hi]
   repeat' (first|(refine Ad.JE 6 ?_;refine Ad.ghost (Bo.freeze 56 rfl rfl) ?_)|apply Bj.ret|apply Ac.assoc|apply Ac.Ak|apply Ac.BL|apply Ac.Bl|apply Au.normal|(apply AY.ret;rfl)|apply Ap.exit|apply Ah.exit|apply Ac.ret|apply Ad.nil|apply Ad.one|(apply Aa.assign;rfl)|(apply Aa.move;rfl)|(apply Aa.int;rfl;rfl;rfl)|(apply Ac.Bf;rfl)|(apply Ac.Ae;rfl)|(intro _;try (exfalso;omega)))
   all_goals first|(exfalso;omega)|(refine Done.rt rfl rfl ⟨?_,rfl,rfl⟩;try rfl)
end Go.Proofs.YtnjkoebfgcbbdaaGreatDoor
namespace Go.Vm
open Go.Am
def keyAt {α:Type} [DecidableEq α]:List α→α→Option Nat
 |[],_=>none
 |x::l,a=>if a=x then some 0 else (keyAt l a).map (·+1)
structure GK (P:Program) (t:TypeId) {α:Type} [DecidableEq α] (kf:α→FV) (kv:α→Value):Prop where
 rel:∀ {m:Mem} {F:Nat→Prop} {a:α} {v:Value},RF m F (kf a) v→v=kv a
 of:∀ {m:Mem} {F:Nat→Prop} (a:α),RF m F (kf a) (kv a)
 plain:∀ a,Am.plain (kv a)=true
 bits:∀ a,((Ec P t).isSome||Instr.sameBits 10000 (kv a) (kv a))=true
 find:∀ (fl:Bool) (a:α) (ks:List α) (l:List MapEntry),l.map (·.key)=ks.map kv→Hu P fl t (kv a) l=some ((keyAt ks a).bind fun j=>(l[j]?).map fun e=>(j,e.val))
def Lr {α:Type} (kf:α→FV) (es:List (α×PV)):HB:=.IU (es.map fun x=>kf x.1) (es.map (·.2))
theorem YJ {α β:Type} [DecidableEq α] (a:α):∀ (es:List (α×β)),(Cb es a=none→keyAt (es.map (·.1)) a=none∧∀ b,Cm es a b=es++[(a,b)]) ∧
 (∀ c,Cb es a=some c→∃ j,keyAt (es.map (·.1)) a=some j∧es[j]?=some (a,c)∧∀ b,Cm es a b=es.set j (a,b))
 |[]=>⟨fun _=>⟨rfl,fun _=>rfl⟩,fun c h=>by cases h⟩
 |x::es=>by
  obtain ⟨h1,h2⟩:=YJ a es
  unfold Cb Cm
  simp only [List.map_cons,keyAt]
  by_cases e:a=x.1
  ·simp only [if_pos e]
   refine ⟨(fun h=>by cases h),fun c hc=>⟨0,rfl,?_,fun b=>rfl⟩⟩
   cases hc
   rw [e];rfl
  ·simp only [if_neg e]
   refine ⟨fun hn=>?_,fun c hc=>?_⟩
   ·obtain ⟨g1,g2⟩:=h1 hn
    exact ⟨by rw [g1];rfl,fun b=>by rw [g2 b];rfl⟩
   ·obtain ⟨j,g1,g2,g3⟩:=h2 c hc
    exact ⟨j+1,by rw [g1];rfl,by rw [List.getElem?_cons_succ];exact g2,fun b=>by rw [g3 b];rfl⟩
theorem GK.b2g {P:Program} {t:TypeId} {α:Type} [DecidableEq α] {kf:α→List FV} {kv:α→List Value} (hv:∀ a,E8 (kf a)=some (kv a)) (hg:QY P t=true) (he:∀ a b,DJ P (Op.equal t (.agg (kv a).toArray) (.agg (kv b).toArray))=some (decide (a=b)))
 (hc:∀ fl a,Vg P (Instr.checkKey fl 10000 t (.agg (kv a).toArray))=true):GK P t (fun a=>.agg (kf a)) (fun a=>.agg (kv a).toArray):=by
 have h:IsKey P t kf kv:=⟨hv,hg,he,hc⟩
 refine ⟨fun r=>h.rel r,fun a=>h.of a,fun a=>h.plain a,fun a=>by rw [h.bits,Bool.or_true],fun fl a ks l hl=>?_⟩
 rw [WU h]
 have key:∀ (ks:List α) (l:List MapEntry) (i:Nat),l.map (·.key)=ks.map (fun a=>.agg (kv a).toArray)→DJ P (Instr.findAsking t (.agg (kv a).toArray) l i)=some ((keyAt ks a).bind fun j=>(l[j]?).map fun e=>(i+j,e.val)):=by
  intro ks
  induction ks with
  |nil =>
   intro l i h1
   rw [List.map_nil,List.map_eq_nil_iff] at h1
   subst h1
   rfl
  |cons x ks ih =>
   intro l i h1
   cases l with
   |nil=>cases h1
   |cons y l =>
    simp only [List.map_cons,List.cons.injEq] at h1
    rw [Instr.findAsking,h1.1]
    simp only [Ar,he,Option.bind_some,keyAt]
    by_cases e:a=x
    ·rw [decide_eq_true e,if_pos e];rfl
    ·rw [decide_eq_false e,if_neg e]
     show DJ P (Instr.findAsking t (.agg (kv a).toArray) l (i+1))=_
     rw [ih l (i+1) h1.2]
     cases keyAt ks a with
     |none=>rfl
     |some j =>
      simp only [Option.map_some,Option.bind_some,List.getElem?_cons_succ]
      rw [show i+1+j=i+(j+1) by omega]
 have:=key ks l 0 hl
 simp only [Nat.zero_add] at this
 exact this
theorem GK.ofStr {P:Program} {t:TypeId} {α:Type} [DecidableEq α] {f:α→ByteArray} (hi:∀ a b,f a=f b→a=b) (ht:P.underlying t=some .string):GK P t (fun a=>.str (f a)) (fun a=>.string (f a)):=by
 have hk:Ec P t=some .string:=by unfold Ec;rw [ht]
 refine ⟨fun r=>by cases r;rfl,fun a=>.str _,fun a=>rfl,fun a=>by rw [hk];rfl,fun fl a ks l hl=>?_⟩
 unfold Hu
 rw [hk]
 have key:∀ (ks:List α) (l:List MapEntry) (i:Nat),l.map (·.key)=ks.map (fun a=>.string (f a))→Instr.findNow .string (.string (f a)) l i=some ((keyAt ks a).bind fun j=>(l[j]?).map fun e=>(i+j,e.val)):=by
  intro ks
  induction ks with
  |nil =>
   intro l i h1
   rw [List.map_nil,List.map_eq_nil_iff] at h1
   subst h1
   rfl
  |cons x ks ih =>
   intro l i h1
   cases l with
   |nil=>cases h1
   |cons y l =>
    simp only [List.map_cons,List.cons.injEq] at h1
    unfold Instr.findNow
    rw [h1.1]
    simp only [Instr.sameNow,keyAt]
    by_cases e:a=x
    ·subst e
     rw [show (f a==f a)=true by simp [LC],if_pos rfl];rfl
    ·have hne:(f a==f x)=false:=by
      rw [LC]
      refine decide_eq_false fun h2=>e (hi _ _ ?_)
      have h3:(f a).data=(f x).data:=Array.toList_inj.1 h2
      cases hfa:f a;cases hfx:f x
      rw [hfa,hfx] at h3
      exact congrArg ByteArray.mk h3
     rw [hne,if_neg e]
     show Instr.findNow .string (.string (f a)) l (i+1)=_
     rw [ih l (i+1) h1.2]
     cases keyAt ks a with
     |none=>rfl
     |some j =>
      simp only [Option.map_some,Option.bind_some,List.getElem?_cons_succ]
      rw [show i+1+j=i+(j+1) by omega]
 have:=key ks l 0 hl
 simp only [Nat.zero_add] at this
 exact this
section
variable {P:Program} {α:Type} [DecidableEq α] {kf:α→FV} {kv:α→Value} {t:TypeId}
theorem fJ (h:GK P t kf kv) {m:Mem} {F:Nat→Prop}:∀ {es:List (α×PV)} {ks:List Value},Dv m F (es.map fun x=>kf x.1) ks→ks=(es.map (·.1)).map kv
 |[],_,r=>by cases r;rfl
 |x::es,_,r=>by
  cases r with
  |cons r1 r2=>rw [h.rel r1,fJ h r2];rfl
theorem lq (h:GK P t kf kv) {m:Mem} {F:Nat→Prop}:∀ (es:List (α×PV)),Dv m F (es.map fun x=>kf x.1) ((es.map (·.1)).map kv)
 |[]=>.nil
 |x::l=>.cons (h.of x.1) (lq h l)
theorem Dx.atG {m:Mem} {F:Nat→Prop} {T:Nat→Option Tg} {σ:Nat→Value} {n:Nat}:∀ {xs:List PV} {vs:List Value} {i:Nat} {x:PV} {v:Value},Dx m F T σ n xs vs→xs[i]?=some x→vs[i]?=some v→RP m F T σ n x v
 |_,_,i,_,_,.nil,h,_=>by simp at h
 |_,_,0,_,_,.cons h t,h1,h2=>by simp at h1 h2;subst h1;subst h2;exact h
 |_,_,i+1,_,_,.cons h t,h1,h2=>Dx.atG t (by simpa using h1) (by simpa using h2)
theorem ni (h:GK P t kf kv) {m:Mem} {F:Nat→Prop} {T:Nat→Option Tg} {σ:Nat→Value} {n:Nat} (fl:Bool) (a:α) {es:List (α×PV)} {l:List MapEntry} (h1:l.map (·.key)=(es.map (·.1)).map kv) (h2:Dx m F T σ n (es.map (·.2)) (l.map (·.val))) :
 (Cb es a=none→Hu P fl t (kv a) l=some none∧∀ b,Cm es a b=es++[(a,b)]) ∧
 (∀ c,Cb es a=some c→∃ j v e,Hu P fl t (kv a) l=some (some (j,v))∧RP m F T σ n c v∧l[j]?=some e∧e.key=kv a∧e.val=v∧∀ b,Cm es a b=es.set j (a,b)):=by
 obtain ⟨g1,g2⟩:=YJ a es
 have hf:=h.find fl a (es.map (·.1)) l h1
 refine ⟨fun hn=>?_,fun c hc=>?_⟩
 ·obtain ⟨k1,k2⟩:=g1 hn
  rw [k1] at hf
  exact ⟨hf,k2⟩
 ·obtain ⟨j,k1,k2,k3⟩:=g2 c hc
  have hlen:l.length=es.length:=by
   have:=congrArg List.length h1
   simpa using this
  have hj:j<l.length:=by rw [hlen];exact (List.getElem?_eq_some_iff.1 k2).1
  rw [k1] at hf
  simp only [Option.bind_some,List.getElem?_eq_getElem hj,Option.map_some] at hf
  refine ⟨j,l[j].val,l[j],hf,?_,List.getElem?_eq_getElem hj,?_,rfl,k3⟩
  ·have e1:(es.map (·.2))[j]?=some c:=by rw [List.getElem?_map,k2];rfl
   have e2:(l.map (·.val))[j]?=some l[j].val:=by rw [List.getElem?_map,List.getElem?_eq_getElem hj];rfl
   exact Dx.atG h2 e1 e2
  ·have e1:(l.map (·.key))[j]?=some l[j].key:=by rw [List.getElem?_map,List.getElem?_eq_getElem hj];rfl
   rw [h1,List.getElem?_map,List.getElem?_map,k2] at e1
   simpa using e1.symm
variable {E:Env} {L:Vm.Frame} {H:Vm.Heap} {nx:Nat} {Q:PV→Vm.Heap→Nat→Prop} {w:Bool} {dst:Option Tmp} {ty:TypeId} {pos:String} {af:Array Edge} {gd:Option (Nat×Bool)}
theorem RI {Γ:Nat→Option (List Value×TypeId)} {m:Mem} {F:Nat→Prop} {σ:Nat→Value} {tt:Tr Value} {a:α} {o:Operand} (h:GK P t kf kv) (hx:Ctx Γ m F σ H nx) (hl:RL m F (htag H) σ nx L tt) (hv:Bh Γ L o=some (.p (kf a))):ev tt o=kv a:=by
 have:=BK hx hl hv
 generalize ev tt o=v at this
 cases this with
 |p r=>exact h.rel r
theorem Aa.lookupGo {t kt et:TypeId} {x k:Operand} {b:Nat} {es:List (α×PV)} {a:α} {z:Value} {c:PV} (hkt:GK E.P kt kf kv) (hx:Bh E.Γ L x=some (.mref b)) (hb:hget H b=some (Lr kf es)) (hk:Bh E.Γ L k=some (.p (kf a)))
 (ht:E.P.underlying t=some (.map kt et)) (hz:zeroOf E.P et=some z) (hzp:Am.plain z=true) (hv:JX E H nx es a z c) (q:Q (.Ee [c,.p (.bool (Cb es a).isSome)]) H nx):Aa E w ⟨dst,.lookup t x k true,ty,pos,af,gd⟩ L H nx Q :=
 Aa.quiet q fun m F σ tt c1 c2=>by
  obtain ⟨_,r,l,clock,r1,r2,r3,r4,r5,r6,r7⟩:=c1.hp b _ hb
  have e1:=fJ hkt r5
  have hpl:(Am.plain z&&Am.plain (kv a))=true:=by rw [hzp,hkt.plain];rfl
  obtain ⟨f1,f2⟩:=ni hkt l.isEmpty a e1 r6
  rcases hv with hv|⟨hv,hc⟩
  ·obtain ⟨j,u,e,f3,f4,_⟩:=f2 c hv
   refine ⟨.tuple #[u,.bool true],fun _=>?_,?_⟩
   ·simp only [Ce,EX,KR,ht,hz,Iy c1 c2 hx hb,RI hkt c1 c2 hk,r1,r4,hpl,if_true,f3,Option.map_some]
   ·rw [hv];exact .Ee (.cons f4 (.cons (.p (.bool _)) .nil))
  ·have f3:=(f1 hv).1
   refine ⟨.tuple #[z,.bool false],fun _=>?_,?_⟩
   ·simp only [Ce,EX,KR,ht,hz,Iy c1 c2 hx hb,RI hkt c1 c2 hk,r1,r4,hpl,if_true,f3,Option.map_some]
   ·rw [hv];exact .Ee (.cons (hc m F σ c1) (.cons (.p (.bool _)) .nil))
theorem JJ {m:Mem} {F:Nat→Prop} {σ:Nat→Value} {kt:TypeId} {b r:Nat} {es es':List (α×PV)} {l':List MapEntry} {clock':Nat} (hkt:GK P kt kf kv) {Γ:Nat→Option (List Value×TypeId)} (c1:Ctx Γ m F σ H nx) (hb:hget H b=some (Lr kf es)) (r1:σ b=.map (some r)) (r2:r<m.size) (r3:¬ F r)
 (k1:l'.map (·.key)=(es'.map (·.1)).map kv) (k2:Dx m F (htag H) σ nx (es'.map (·.2)) (l'.map (·.val))) (k3:Stamped l' clock') :
 Ctx Γ (m.put r (.map l' clock')) F σ (hput H b (Lr kf es')) nx∧Step m F σ H nx (m.put r (.map l' clock')) F σ (hput H b (Lr kf es')) nx:=by
 have hput':∀ d' x,r≠d'→(m.put r x).get d'=m.get d':=fun d' x hd=>by rw [Mem.get_put,if_neg hd]
 have:=c1.change (m':=m.put r (.map l' clock')) (x':=Lr kf es') (s':=σ b) hb trivial (fun _=>rfl) (Nat.le_refl _)
  (fun d' _ hd=>hput' d' _ fun e=>hd (by rw [r1,e];rfl)) (fun k k1 k2 k3=>by
   have:=k3 r (by rw [r1];rfl)
   simp only [Mem.put];omega) (fun d' hd=>.inl hd) (by
   have hF:∀ d',F d'→F d'∧(m.put r (.map l' clock')).get d'=m.get d':=fun d' hd=>⟨hd,hput' d' _ fun e=>r3 (e▸hd)⟩
   refine ⟨r,l',clock',r1,r2,r3,by rw [Mem.get_put,if_pos rfl],?_,?_,k3⟩
   ·rw [k1]
    exact lq hkt es'
   ·exact k2.mono hF (Gt (x':=Lr kf es') hb trivial fun _=>rfl) (Nat.le_refl _))
 rw [yR] at this
 exact this
theorem Aa.rU {t kt et:TypeId} {x k y:Operand} {b:Nat} {es:List (α×PV)} {a:α} {c:PV} (hkt:GK E.P kt kf kv) (hx:Bh E.Γ L x=some (.mref b)) (hb:hget H b=some (Lr kf es)) (hk:Bh E.Γ L k=some (.p (kf a))) (hy:Bh E.Γ L y=some c)
 (ht:E.P.underlying t=some (.map kt et)) {H':Vm.Heap} (hH:hput H b (Lr kf (Cm es a c))=H') (q:Q (.Ee []) H' nx):Aa E true ⟨dst,.mapUpdate t x k y,ty,pos,af,gd⟩ L H nx Q:=by
 subst hH
 intro m F σ tt c1 c2
 obtain ⟨_,r,l,clock,r1,r2,r3,r4,r5,r6,r7⟩:=c1.hp b _ hb
 have e1:=fJ hkt r5
 obtain ⟨f1,f2⟩:=ni hkt false a e1 r6
 have hyv:=BK c1 c2 hy
 have hup:Ia E.P t (ev tt x) (ev tt k) (ev tt y) m=match Hu E.P false kt (kv a) l with
  |some (some (i,_))=>if (Ec E.P kt).isSome||Instr.sameBits 10000 (((l[i]?).map (·.key)).getD (kv a)) (kv a) then some (m.put r (.map (l.modify i fun e=>{ e with key:=kv a,val:=ev tt y }) clock)) else none
  |some none=>some (m.put r (.map (l++[{ key:=kv a,val:=ev tt y,born:=clock }]) (clock+1)))
  |none=>none:=by
  unfold Ia
  simp only [ht,Iy c1 c2 hx hb,RI hkt c1 c2 hk,r1,r4,hkt.plain,if_true]
  rfl
 cases hl:Cb es a with
 |none =>
  obtain ⟨f3,f4⟩:=f1 hl
  rw [f3] at hup
  simp only at hup
  obtain ⟨d1,d2⟩:=JJ hkt c1 hb r1 r2 r3 (es':=Cm es a c) (l':=l++[{ key:=kv a,val:=ev tt y,born:=clock }]) (clock':=clock+1) (by rw [f4 c,List.map_append,List.map_append,List.map_append,e1];rfl) (by rw [f4 c,List.map_append,List.map_append];exact Dx.snoc r6 hyv) r7.push
  exact F5.op (v:=undef) (fun _=>by simp only [Ce,EX,hup,Option.map_some]) ⟨_,_,_,F,_,q,d1,.Ee .nil,d2,fun h=>by cases h⟩
 |some c0 =>
  obtain ⟨j,u,e0,f3,f4,f5,f5',_,f6⟩:=f2 c0 hl
  rw [f3] at hup
  simp only [f5,Option.map_some,Option.getD_some,f5',hkt.bits,if_true] at hup
  have hmod:∀ (g:MapEntry→MapEntry),l.modify j g=l.set j (g e0):=fun g=>J5 f5
  obtain ⟨d1,d2⟩:=JJ hkt c1 hb r1 r2 r3 (es':=Cm es a c) (l':=l.modify j fun e=>{ e with key:=kv a,val:=ev tt y }) (by rw [hmod,f6 c,List.map_set,List.map_set,List.map_set,e1]) (by rw [hmod,f6 c,List.map_set,List.map_set];exact r6.set j hyv) (r7.modify fun _=>rfl)
  exact F5.op (v:=undef) (fun _=>by simp only [Ce,EX,hup,Option.map_some]) ⟨_,_,_,F,_,q,d1,.Ee .nil,d2,fun h=>by cases h⟩
theorem Aa.rG {t kt et:TypeId} {x k y:Operand} {b:Nat} {es:List (α×PV)} {a:α} {c:PV} (hkt:GK E.P kt kf kv) (hx:Bh E.Γ L x=some (.mref b)) (hb:hget H b=some (Lr kf es)) (hk:Bh E.Γ L k=some (.p (kf a))) (hy:Bh E.Γ L y=some c)
 (ht:E.P.underlying t=some (.map kt et)) {H':Vm.Heap} (hH:hput H b (Lr kf (Cm es a c))=H') (q:Q (.Ee []) H' nx):Aa E true ⟨dst,.insert t x k y,ty,pos,af,gd⟩ L H nx Q:=by
 subst hH
 intro m F σ tt c1 c2
 obtain ⟨_,r,l,clock,r1,r2,r3,r4,r5,r6,r7⟩:=c1.hp b _ hb
 have e1:=fJ hkt r5
 obtain ⟨f1,f2⟩:=ni hkt false a e1 r6
 have hyv:=BK c1 c2 hy
 have hup:Ia E.P t (ev tt x) (ev tt k) (ev tt y) m=match Hu E.P false kt (kv a) l with
  |some (some (i,_))=>if (Ec E.P kt).isSome||Instr.sameBits 10000 (((l[i]?).map (·.key)).getD (kv a)) (kv a) then some (m.put r (.map (l.modify i fun e=>{ e with key:=kv a,val:=ev tt y }) clock)) else none
  |some none=>some (m.put r (.map (l++[{ key:=kv a,val:=ev tt y,born:=clock }]) (clock+1)))
  |none=>none:=by
  unfold Ia
  simp only [ht,Iy c1 c2 hx hb,RI hkt c1 c2 hk,r1,r4,hkt.plain,if_true]
  rfl
 cases hl:Cb es a with
 |none =>
  obtain ⟨f3,f4⟩:=f1 hl
  rw [f3] at hup
  simp only at hup
  obtain ⟨d1,d2⟩:=JJ hkt c1 hb r1 r2 r3 (es':=Cm es a c) (l':=l++[{ key:=kv a,val:=ev tt y,born:=clock }]) (clock':=clock+1) (by rw [f4 c,List.map_append,List.map_append,List.map_append,e1];rfl) (by rw [f4 c,List.map_append,List.map_append];exact Dx.snoc r6 hyv) r7.push
  exact F5.op (v:=undef) (fun _=>by simp only [Ce,EX,hup,Option.map_some]) ⟨_,_,_,F,_,q,d1,.Ee .nil,d2,fun h=>by cases h⟩
 |some c0 =>
  obtain ⟨j,u,e0,f3,f4,f5,f5',_,f6⟩:=f2 c0 hl
  rw [f3] at hup
  simp only [f5,Option.map_some,Option.getD_some,f5',hkt.bits,if_true] at hup
  have hmod:∀ (g:MapEntry→MapEntry),l.modify j g=l.set j (g e0):=fun g=>J5 f5
  obtain ⟨d1,d2⟩:=JJ hkt c1 hb r1 r2 r3 (es':=Cm es a c) (l':=l.modify j fun e=>{ e with key:=kv a,val:=ev tt y }) (by rw [hmod,f6 c,List.map_set,List.map_set,List.map_set,e1]) (by rw [hmod,f6 c,List.map_set,List.map_set];exact r6.set j hyv) (r7.modify fun _=>rfl)
  exact F5.op (v:=undef) (fun _=>by simp only [Ce,EX,hup,Option.map_some]) ⟨_,_,_,F,_,q,d1,.Ee .nil,d2,fun h=>by cases h⟩
theorem XI {d:Nat} (xs ys:Array Value) {g:Option Bool×Unit→Sem Bool} (g0:g (none,())=pure true) (g1:∀ b,g (some b,())=pure b):∀ (fs:List Field) (bs:List Bool),fs.length=bs.length→(∀ (i:Nat) (f:Field) (b:Bool),fs[i]?=some f→bs[i]?=some b→f.name≠"_"∧∃ x y,DJ P (part f.type xs f.offset)=some x∧DJ P (part f.type ys f.offset)=some y∧DJ P (Op.equalIn d f.type x y)=some b) →
 DJ P ((forIn fs ((none,()):Option Bool×Unit) fun f _=>(do
     if f.name≠"_" then
      if (!(← Op.equalIn d f.type (← part f.type xs f.offset) (← part f.type ys f.offset)))=true then pure (ForInStep.done (some false,())) else pure (ForInStep.yield (none,()))
     else pure (ForInStep.yield (none,())):Sem (ForInStep (Option Bool×Unit)))) >>= g)=some (bs.all id)
 |[],[],_,h=>by
  simp only [List.forIn_nil,Ar,BR,Option.bind_some,g0];rfl
 |f::fs,b::bs,hl,h=>by
  obtain ⟨hn,x,y,h1,h2,h3⟩:=h 0 f b rfl rfl
  have ih:=XI (d:=d) xs ys g0 g1 fs bs (by simpa using hl) fun i f b hf hb=>h (i+1) f b (by simpa using hf) (by simpa using hb)
  rw [List.forIn_cons]
  simp only [Ar,ne_eq,hn,not_false_eq_true,if_true,h1,h2,Option.bind_some,h3]
  cases b with
  |false=>simp [BR,g1]
  |true =>
   simp only [Bool.not_true,Bool.false_eq_true,if_false,BR,Option.bind_some,List.all_cons,id_eq,Bool.true_and]
   rw [Ar] at ih
   exact ih
 |[],_::_,hl,_=>by cases hl
 |_::_,[],hl,_=>by cases hl
theorem Y7 {d:Nat} {t:TypeId} {fs:Array Field} {xs ys:Array Value} {bs:List Bool} (ht:P.underlying t=some (.struct fs)) (hp:P.stoodInHeld t=false) (hl:fs.toList.length=bs.length)
 (h:∀ (i:Nat) (f:Field) (b:Bool),fs.toList[i]?=some f→bs[i]?=some b→f.name≠"_"∧∃ x y,DJ P (part f.type xs f.offset)=some x∧DJ P (part f.type ys f.offset)=some y∧DJ P (Op.equalIn d f.type x y)=some b) :
 DJ P (Op.equalIn (d+1) t (.agg xs) (.agg ys))=some (bs.all id):=by
 rw [Op.equalIn]
 simp only [Ar,Bg,ht,Option.bind_some,program,DJ,hp,Bool.false_eq_true,if_false]
 rw [← Array.forIn_toList,← Ar]
 exact XI (d:=d) xs ys rfl (fun b=>rfl) fs.toList bs hl h
theorem Yd {d:Nat} {t e:TypeId} {xs ys:Array Value} {n:Nat} {x0 y0 x1 y1:Value} {b0 b1:Bool} (ht:P.underlying t=some (.array 2 e)) (hn:(P.info? e).map (·.size)=some n) (p0:DJ P (part e xs 0)=some x0) (p1:DJ P (part e ys 0)=some y0) (p2:DJ P (part e xs n)=some x1) (p3:DJ P (part e ys n)=some y1)
 (h0:DJ P (Op.equalIn d e x0 y0)=some b0) (h1:DJ P (Op.equalIn d e x1 y1)=some b1):DJ P (Op.equalIn (d+1) t (.agg xs) (.agg ys))=some (b0&&b1):=by
 rw [Op.equalIn]
 simp only [Ar,Bg,ht,Option.bind_some,Fp,hn]
 rw [Std.Legacy.Range.forIn_eq_forIn_range']
 show ((DJ P (forIn [0,1] _ _)).bind _)=_
 rw [List.forIn_cons]
 simp only [Ar,Nat.zero_mul,p0,p1,h0,Option.bind_some]
 cases b0 with
 |false=>rfl
 |true =>
  simp only [Bool.not_true,Bool.false_eq_true,if_false,BR,Option.bind_some,List.forIn_cons,List.forIn_nil,Ar,Nat.one_mul,p2,p3,h1]
  cases b1<;>rfl
theorem EO {t:TypeId} {cs:Array Value} {o n:Nat} (ha:GI P t=some true) (hn:(P.info? t).map (·.size)=some n):DJ P (part t cs o)=some (.agg (cs.extract o (o+n))):=by
 simp only [part,Ar,P7,ha,Option.bind_some,if_true,Fp,hn,BR]
theorem OC {fl:Bool} {n:Nat} {t:TypeId} {fs:Array Field} {xs:Array Value} (ht:P.underlying t=some (.struct fs)) (h:∀ f∈fs.toList,∃ x,DJ P (part f.type xs f.offset)=some x∧DJ P (Instr.checkKey fl n f.type x)=some ()):DJ P (Instr.checkKey fl (n+1) t (.agg xs))=some ():=by
 rw [Instr.checkKey]
 simp only [Ar,Bg,ht,Option.bind_some]
 rw [← Array.forIn_toList]
 generalize fs.toList=l at h
 have key:∀ l:List Field,(∀ f∈l,∃ x,DJ P (part f.type xs f.offset)=some x∧DJ P (Instr.checkKey fl n f.type x)=some ())→DJ P (forIn l PUnit.unit fun f _=>(do
  if f.name≠"_" then do
   let x ← part f.type xs f.offset
   Instr.checkKey fl n f.type x
   pure (ForInStep.yield PUnit.unit)
  else pure (ForInStep.yield PUnit.unit):Sem (ForInStep PUnit)))=some PUnit.unit:=by
  intro l
  induction l with
  |nil=>intro _;rfl
  |cons f l ih =>
   intro h
   obtain ⟨x,h1,h2⟩:=h f (by simp)
   have ih:=ih fun f hf=>h f (List.mem_cons_of_mem _ hf)
   rw [List.forIn_cons,Ar]
   by_cases hn:f.name≠"_"
   ·rw [if_pos hn]
    simp only [Ar,h1,Option.bind_some,h2,BR]
    exact ih
   ·rw [if_neg hn]
    simp only [BR,Option.bind_some]
    exact ih
 rw [key l h]
 rfl
theorem U9 {fl:Bool} {n:Nat} {t e:TypeId} {xs:Array Value} {k:Nat} {x0 x1:Value} (ht:P.underlying t=some (.array 2 e)) (hk:(P.info? e).map (·.size)=some k) (p0:DJ P (part e xs 0)=some x0) (p1:DJ P (part e xs k)=some x1)
 (h0:DJ P (Instr.checkKey fl n e x0)=some ()) (h1:DJ P (Instr.checkKey fl n e x1)=some ()):DJ P (Instr.checkKey fl (n+1) t (.agg xs))=some ():=by
 rw [Instr.checkKey]
 simp only [Ar,Bg,ht,Option.bind_some]
 rw [Std.Legacy.Range.forIn_eq_forIn_range']
 show ((DJ P (forIn [0,1] _ _)).bind _)=_
 simp only [List.forIn_cons,List.forIn_nil,Ar,BR,Nat.zero_mul,Nat.one_mul,Fp,hk,p0,p1,h0,h1,Option.bind_some]
theorem Ji {fl:Bool} {n:Nat} {t:TypeId} {d:TypeDesc} {x:Value} (ht:P.underlying t=some d) (hd:a1o d=true):DJ P (Instr.checkKey fl (n+1) t x)=some ():=by
 rw [Instr.checkKey]
 simp only [Ar,Bg,ht,Option.bind_some]
 cases d<;>first|rfl|cases hd
theorem Bo.Zx (d:Nat) {b:Nat} {e:TypeId} {ds:List PV} (cs:List FV) (hd:ET L d=some (.ref b 0)) (hb:hget H b=some (.box e ds)) (hds:ds=cs.map .p):Bo E L H nx ((d,.p (.EL cs))::L) (hdel H b) nx:=fun B m F σ t h1 h2 h3=>by
 subst hds
 obtain ⟨c1,c2⟩:=dK h1 hb
 refine ⟨_,σ,c1,fun i v hi=>?_,h3.trans c2⟩
 rw [DW] at hi
 by_cases ei:d=i
 ·rw [if_pos ei] at hi;cases hi
  have:=h2 d _ hd
  subst ei
  generalize CB t d=u at this
  cases this with
  |ref hb' hc h =>
   obtain ⟨c0,hs,hv⟩:=h (by simp [htag,hb,HB.tag])
   obtain ⟨_,c,vs,r1,r2,r3,r4,r5,r6⟩:=h1.hp b _ hb
   rw [r1] at hs;cases hs
   rw [hv]
   have r5':=Dv.YI r5
   refine .p (.EL (g:=0) (.inr (by rw [r1];rfl)) r4 rfl ?_ (r5'.mono fun c hc=>⟨.inl hc,rfl⟩) r6)
   rw [List.drop_zero,r5'.length];simp [takeN]
 ·rw [if_neg ei] at hi
  exact (h2 i v hi).step c2 h1
theorem Aa.qY {x:Operand} {cs:List FV} (hx:Bh E.Γ L x=some (.p (.EL cs))) (q:Q (.p (.EL cs)) H nx):Aa E w ⟨dst,.nilCheck x,ty,pos,af,gd⟩ L H nx Q :=
 Aa.quiet q fun m F σ tt h1 h2=>by
  obtain ⟨a,h3,h4⟩:=Xi h1 h2 hx
  exact ⟨_,fun _=>by simp only [Ce,EX,h3],.p h4⟩
theorem Aa.yF {t t2 e:TypeId} {x y:Operand} {cs:List FV} (hx:Bh E.Γ L x=some (.p (.EL cs))) (hy:Bh E.Γ L y=some (.p (.val (.pointer none)))) (ht:E.P.underlying t=some (.pointer e)) (q:Q (.p (.bool false)) H nx) :
 Aa E w ⟨dst,.binOp .eql t x y t2,ty,pos,af,gd⟩ L H nx Q:=Aa.quiet q fun m F σ tt h1 h2=>by
 obtain ⟨a,h3,_⟩:=Xi h1 h2 hx
 have h5:=WM h1 h2 hy
 exact ⟨.bool false,fun _=>by simp [Ce,EX,h3,h5,NY,ht,I9],.p (.bool _)⟩
theorem Aa.yX {t t2 e:TypeId} {x y:Operand} (hx:Bh E.Γ L x=some (.p (.val (.pointer none)))) (hy:Bh E.Γ L y=some (.p (.val (.pointer none)))) (ht:E.P.underlying t=some (.pointer e)) (q:Q (.p (.bool true)) H nx) :
 Aa E w ⟨dst,.binOp .eql t x y t2,ty,pos,af,gd⟩ L H nx Q:=Aa.quiet q fun m F σ tt h1 h2=>by
 have h4:=WM h1 h2 hx
 have h5:=WM h1 h2 hy
 exact ⟨.bool true,fun _=>by simp [Ce,EX,h4,h5,NY,ht,I9],.p (.bool _)⟩
end
end Go.Vm
namespace Go.Proofs.YtnjkoebfgcbbdaaGreatDoor
open Go Go.Am Go.Vm Go.Pie Go.Sch
attribute [local irreducible] Aa Ad Af Ac Ba AB BG Au Ap Ah Vm.Done BQ AY Qr
attribute [local irreducible] CV Bq Eh DY Ez BH CW
instance:Enc Jp:={ default:=st0,enc:=fun x=>[.str (bs x.now),.int .i64 x.c0.d,.int .i64 x.c0.k,.int .i64 x.c1.d,.int .i64 x.c1.k,.bool x.b0,.bool x.b1],size:=7,len:=fun _=>rfl }
def oh (x:Jp):List Value:=[.string (bs x.now),.int .i64 x.c0.d,.int .i64 x.c0.k,.int .i64 x.c1.d,.int .i64 x.c1.k,.bool x.b0,.bool x.b1]
theorem yD (d:Nat) (a b:Ul):DJ Tryz.prog (Op.equalIn (d+2) 120 (.agg #[.int .i64 a.d,.int .i64 a.k]) (.agg #[.int .i64 b.d,.int .i64 b.k]))=some (decide (a=b)):=by
 obtain ⟨fs,hu⟩:∃ fs,Tryz.prog.underlying 120=some (.struct fs):=⟨_,rfl⟩
 refine MI hu (by kernel_rfl) ?_
 have hu2:some (TypeDesc.struct fs)=Tryz.prog.underlying 120:=hu.symm
 cases hu2
 show some (decide (a.d=b.d)&&(decide (a.k=b.k)&&true))=_
 obtain ⟨a1,a2⟩:=a
 obtain ⟨b1,b2⟩:=b
 by_cases h1:a1=b1<;>by_cases h2:a2=b2<;>simp [h1,h2]
theorem uH (fl:Bool) (n:Nat) (a:Ul):DJ Tryz.prog (Instr.checkKey fl (n+2) 120 (.agg #[.int .i64 a.d,.int .i64 a.k]))=some ():=by
 obtain ⟨fs,hu⟩:∃ fs,Tryz.prog.underlying 120=some (.struct fs):=⟨_,rfl⟩
 refine OC hu fun f hf=>?_
 have hu2:some (TypeDesc.struct fs)=Tryz.prog.underlying 120:=hu.symm
 cases hu2
 rcases List.mem_cons.1 hf with rfl|hf
 ·exact ⟨_,ER (v:=.int .i64 a.d) rfl rfl,Ji (d:=.int .i64) rfl rfl⟩
 rcases List.mem_cons.1 hf with rfl|hf
 ·exact ⟨_,ER (v:=.int .i64 a.k) rfl rfl,Ji (d:=.int .i64) rfl rfl⟩
 ·cases hf
theorem a8e (a b:Jp):DJ Tryz.prog (Op.equal 124 (.agg (oh a).toArray) (.agg (oh b).toArray))=some (decide (a=b)):=by
 obtain ⟨fs,hu⟩:∃ fs,Tryz.prog.underlying 124=some (.struct fs):=⟨_,rfl⟩
 have h1:DJ Tryz.prog (Op.equalIn 9999 9 (.string (bs a.now)) (.string (bs b.now)))=some (decide (a.now=b.now)):=PK (d:=9998) (td:=.string) rfl rfl
 have h2:DJ Tryz.prog (Op.equalIn 9999 121 (.agg #[.int .i64 a.c0.d,.int .i64 a.c0.k,.int .i64 a.c1.d,.int .i64 a.c1.k]) (.agg #[.int .i64 b.c0.d,.int .i64 b.c0.k,.int .i64 b.c1.d,.int .i64 b.c1.k]))=some (decide (a.c0=b.c0)&&decide (a.c1=b.c1)) :=
  Yd (d:=9998) (e:=120) (n:=2) rfl rfl (EO rfl rfl) (EO rfl rfl) (EO rfl rfl) (EO rfl rfl) (yD 9996 a.c0 b.c0) (yD 9996 a.c1 b.c1)
 have h3:DJ Tryz.prog (Op.equalIn 9999 122 (.agg #[.bool a.b0,.bool a.b1]) (.agg #[.bool b.b0,.bool b.b1]))=some ((a.b0==b.b0)&&(a.b1==b.b1)) :=
  Yd (d:=9998) (e:=4) (n:=1) rfl rfl (ER rfl rfl) (ER rfl rfl) (ER rfl rfl) (ER rfl rfl) (PK (d:=9997) (td:=.bool) rfl rfl) (PK (d:=9997) (td:=.bool) rfl rfl)
 have:=Y7 (P:=Tryz.prog) (d:=9999) (t:=124) (xs:=(oh a).toArray) (ys:=(oh b).toArray) (bs:=[decide (a.now=b.now),decide (a.c0=b.c0)&&decide (a.c1=b.c1),(a.b0==b.b0)&&(a.b1==b.b1)]) hu (by kernel_rfl) (by
  have hu2:some (TypeDesc.struct fs)=Tryz.prog.underlying 124:=hu.symm
  cases hu2;rfl) (by
  have hu2:some (TypeDesc.struct fs)=Tryz.prog.underlying 124:=hu.symm
  cases hu2
  intro i f b' hf hb
  match i with
  |0 =>
   cases hf;cases hb
   exact ⟨by decide,_,_,ER (v:=.string (bs a.now)) rfl rfl,ER (v:=.string (bs b.now)) rfl rfl,h1⟩
  |1 =>
   cases hf;cases hb
   exact ⟨by decide,_,_,EO rfl rfl,EO rfl rfl,h2⟩
  |2 =>
   cases hf;cases hb
   exact ⟨by decide,_,_,EO rfl rfl,EO rfl rfl,h3⟩
  |i+3=>cases hb)
 refine Eq.trans this (congrArg some ?_)
 obtain ⟨a1,a2,a3,a4,a5⟩:=a
 obtain ⟨b1,b2,b3,b4,b5⟩:=b
 simp only [List.all_cons,List.all_nil,id_eq,Bool.and_true,Jp.mk.injEq]
 rw [Bool.eq_iff_iff]
 simp only [Bool.and_eq_true,decide_eq_true_eq,beq_iff_eq]
 constructor
 ·rintro ⟨g1,⟨g2,g3⟩,g4,g5⟩;exact ⟨g1,g2,g3,g4,g5⟩
 ·rintro ⟨g1,g2,g3,g4,g5⟩;exact ⟨g1,⟨g2,g3⟩,g4,g5⟩
theorem a2p (fl:Bool) (a:Jp):Vg Tryz.prog (Instr.checkKey fl 10000 124 (.agg (oh a).toArray))=true:=by
 obtain ⟨fs,hu⟩:∃ fs,Tryz.prog.underlying 124=some (.struct fs):=⟨_,rfl⟩
 have:DJ Tryz.prog (Instr.checkKey fl 10000 124 (.agg (oh a).toArray))=some ():=by
  refine OC (n:=9999) hu fun f hf=>?_
  have hu2:some (TypeDesc.struct fs)=Tryz.prog.underlying 124:=hu.symm
  cases hu2
  rcases List.mem_cons.1 hf with rfl|hf
  ·exact ⟨_,ER (v:=.string (bs a.now)) rfl rfl,Ji (n:=9998) (d:=.string) rfl rfl⟩
  rcases List.mem_cons.1 hf with rfl|hf
  ·refine ⟨_,EO rfl rfl,?_⟩
   exact U9 (n:=9998) (e:=120) (k:=2) rfl rfl (EO rfl rfl) (EO rfl rfl) (uH fl 9996 a.c0) (uH fl 9996 a.c1)
  rcases List.mem_cons.1 hf with rfl|hf
  ·refine ⟨_,EO rfl rfl,?_⟩
   exact U9 (n:=9998) (e:=4) (k:=1) rfl rfl (ER (v:=.bool a.b0) rfl rfl) (ER (v:=.bool a.b1) rfl rfl) (Ji (n:=9997) (d:=.bool) rfl rfl) (Ji (n:=9997) (d:=.bool) rfl rfl)
  ·cases hf
 unfold Vg
 rw [this]
theorem bH:GK Tryz.prog 124 (fun x:Jp=>.agg (Enc.enc x)) (fun x=>.agg (oh x).toArray):=GK.b2g (fun _=>rfl) (by kernel_rfl) a8e a2p
theorem a1y (a b:List UInt8) (h:bs a=bs b):a=b:=by
 have:=congrArg (fun x:ByteArray=>x.data.toList) h
 simpa [bs] using this
theorem WH:GK Tryz.prog 9 (fun x:List UInt8=>.str (bs x)) (fun x=>.string (bs x)):=GK.ofStr a1y rfl
theorem U2 (a:Int):AB env 126 [.int .i64 a] (.p (.bool false)):=by
 refine AB.enter (Aj (by decide)) Tryz.func126 rfl (by kernel_rfl) (by simp [Tryz.ntmps126]) ?_
 repeat' (first|apply Ac.Ak|apply Ac.ret|apply Ad.nil|apply Ad.one|(apply Aa.assign;rfl)|(apply Aa.move;rfl)|(apply Aa.int;rfl;rfl;rfl))
 all_goals first|(exfalso;omega)|(refine Done.rt rfl rfl ⟨?_,rfl,rfl⟩;try rfl)
 all_goals first|exact PV.H9 (decide_eq_false (by omega))|exact PV.H9 (by simp)
theorem jc (a b:Int):AB env 87 [.int .i64 a,.int .i64 b] (.p (.int .i64 (if a<b then -1 else if b<a then 1 else 0))):=by
 have n1:=U2 a
 have n2:=U2 b
 by_cases h1:a<b
 all_goals by_cases h2:b<a
 all_goals first|rw [if_pos h1]|rw [if_neg h1]
 all_goals try first|rw [if_pos h2]|rw [if_neg h2]
 all_goals
  refine AB.enter (Aj (by decide)) Tryz.func87 rfl (by kernel_rfl) (by simp [Tryz.ntmps87]) ?_
 all_goals
  repeat' (first|apply Ac.assoc|apply Ac.Ak|apply Ac.Ai|apply Ac.BL|apply Ac.ret|apply Ad.nil|apply Ad.one|(apply Aa.fn;rfl;rfl;exact n1;intro _;rfl)|(apply Aa.fn;rfl;rfl;exact n2;intro _;rfl)|(apply Aa.assign;rfl)|(apply Aa.move;rfl)|(apply Aa.int;rfl;rfl;rfl)|(apply Ac.Aq;rfl)|(apply Ac.Ae;rfl)|(intro _;try (exfalso;omega)))
 all_goals first|(exfalso;omega)|contradiction|(refine Done.rt rfl rfl ⟨?_,rfl,rfl⟩;try rfl)
theorem xB (a b:List Int):∀ k,k<a.length→k<b.length→cmpL (a.drop k) (b.drop k)=if gi a k<gi b k then -1 else if gi b k<gi a k then 1 else cmpL (a.drop (k+1)) (b.drop (k+1)):=fun k ha hb=>by
 rw [List.drop_eq_getElem_cons ha,List.drop_eq_getElem_cons hb]
 have e1:gi a k=a[k]:=by unfold gi;rw [List.getElem?_eq_getElem ha];rfl
 have e2:gi b k=b[k]:=by unfold gi;rw [List.getElem?_eq_getElem hb];rfl
 rw [e1,e2]
 rfl
theorem Qk (a b:List Int) (h:a.length=b.length) (hl:a.length<1000000):AB env 40 [.lst 3 (cells a) a.length,.lst 3 (cells b) b.length] (.p (.int .i64 (cmpL a b))):=by
 refine AB.enter (Aj (by decide)) Tryz.func40 rfl (by kernel_rfl) (by simp [Tryz.ntmps40]) ?_
 repeat' (first|apply Ac.assoc|apply Ac.Ak|apply Ac.Ag|apply Ad.nil|apply Ad.one|(apply Aa.assign;rfl)|(apply Aa.move;rfl)|(apply Aa.CX;rfl;rfl))
 all_goals try (exfalso;omega)
 apply Ac.G9 (a.length) (fun k=>cmpL (a.drop k) (b.drop k)=cmpL a b) [(0,_),(1,_),(9,_),(10,_)] [] (fun k r=>(11,.p (.int .i64 (k:Int)))::r) (fun k r=>r) 0
 ·first|omega|decide
 ·first|omega|decide
 ·exact Rz
 ·exact VZ
 ·first|(intro _ _;omega)|omega|trivial
 ·intro k hk hi
  have hc:=jc (gi a k) (gi b k)
  have hd:=xB a b k hk (by omega)
  rw [hi] at hd
  by_cases h1:gi a k<gi b k
  ·rw [if_pos h1] at hc hd
   rw [hd]
   repeat' (first|apply Ac.assoc|apply Ac.Ak|apply Ac.Ai|apply Ac.Ag|apply Au.ret|apply Ap.ret|apply Ah.ret|apply Ac.ret|apply Ad.nil|apply Ad.one|(apply Aa.fn;rfl;rfl;exact hc;intro _;rfl)|(apply Aa.assign;rfl)|(apply Aa.move;rfl)|(apply Aa.int;rfl;rfl;rfl)|(apply Aa.AP;rfl;rfl;rfl;omega;rfl)|(apply Aa.load;rfl;rfl)|(apply Aa.CX;rfl;rfl)|(apply Ac.Ae;rfl)|(apply Ac.cond_true;rfl)|(intro _;try (exfalso;omega)))
   all_goals first|(exfalso;omega)|contradiction|(refine Done.rt rfl rfl ⟨?_,rfl,rfl⟩;try rfl)
  ·rw [if_neg h1] at hc hd
   by_cases h2:gi b k<gi a k
   ·rw [if_pos h2] at hc hd
    rw [hd]
    repeat' (first|apply Ac.assoc|apply Ac.Ak|apply Ac.Ai|apply Ac.Ag|apply Au.ret|apply Ap.ret|apply Ah.ret|apply Ac.ret|apply Ad.nil|apply Ad.one|(apply Aa.fn;rfl;rfl;exact hc;intro _;rfl)|(apply Aa.assign;rfl)|(apply Aa.move;rfl)|(apply Aa.int;rfl;rfl;rfl)|(apply Aa.AP;rfl;rfl;rfl;omega;rfl)|(apply Aa.load;rfl;rfl)|(apply Aa.CX;rfl;rfl)|(apply Ac.Ae;rfl)|(apply Ac.cond_true;rfl)|(intro _;try (exfalso;omega)))
    all_goals first|(exfalso;omega)|contradiction|(refine Done.rt rfl rfl ⟨?_,rfl,rfl⟩;try rfl)
   ·rw [if_neg h2] at hc hd
    repeat' (first|apply Ac.assoc|apply Ac.Ak|apply Ac.region|apply Ac.Ai|apply Ac.Ag|apply Au.normal|apply Ap.normal|apply Ac.skip|apply Ad.nil|apply Ad.one|(apply Aa.fn;rfl;rfl;exact hc;intro _;rfl)|(apply Aa.assign;rfl)|(apply Aa.move;rfl)|(apply Aa.BU;rfl;rfl;omega)|(apply Aa.int;rfl;rfl;rfl)|(apply Aa.AP;rfl;rfl;rfl;omega;rfl)|(apply Aa.load;rfl;rfl)|(apply Aa.CX;rfl;rfl)|(apply Ac.Ae;rfl)|(apply Ac.cond_false;rfl)|(intro _;try (exfalso;omega)))
    all_goals try (exfalso;omega)
    all_goals try contradiction
    refine Ah.normal ⟨hd.symm,by first|omega|decide,?_,?_⟩
    ·exact EJ
    ·exact FM
 ·intro hi
  have e0:cmpL a b=0:=by
   rw [← hi,List.drop_of_length_le (Nat.le_refl _),List.drop_of_length_le (by omega)];rfl
  rw [e0]
  repeat' (first|apply Ac.assoc|apply Ac.Ak|apply Ac.Ai|apply Ac.Bl|apply Au.normal|apply Ap.exit|apply Ah.exit|apply Ac.ret|apply Ad.nil|apply Ad.one|(apply Aa.assign;rfl)|(apply Aa.move;rfl)|(apply Aa.int;rfl;rfl;rfl)|(apply Aa.CX;rfl;rfl)|(apply Ac.Ae;rfl)|(intro _;try (exfalso;omega)))
  all_goals first|(exfalso;omega)|(refine Done.rt rfl rfl ⟨?_,rfl,rfl⟩;try rfl)
end Go.Proofs.YtnjkoebfgcbbdaaGreatDoor
namespace Go.Vm
open Go.Am
variable {E:Env} {n bn:Nat} {L:Frame} {H:Heap} {nx:Nat}
def Lrn (ρ:Nat→Nat):Frame→Frame
 |[]=>[]
 |(i,v)::L=>(i,v.rn ρ)::Lrn ρ L
theorem qU (ρ:Nat→Nat):∀ (L:Frame) (i:Nat),ET (Lrn ρ L) i=(ET L i).map (·.rn ρ)
 |[],_=>rfl
 |(j,v)::L,i=>by
  simp only [Lrn,DW]
  split
  ·rfl
  ·exact qU ρ L i
theorem Bj.swap {c:Code} {Q:BZ→Frame→Heap→Nat→Prop} (a b:Nat) (ha:bn≤a) (hb:bn≤b) (ha':a<nx) (hb':b<nx) (h:Bj E n bn c (Lrn (swp a b) L) (xI (swp a b) H) nx Q):Bj E n bn c L H nx Q:=by
 intro hs hok hfl B hB m F σ t h1 h2 h3
 have hr:∀ j,j<nx→swp a b j<nx∧htag (xI (swp a b) H) (swp a b j)=htag H j∧(fun i=>σ (swp a b i)) (swp a b j)=σ j:=fun j hj=>⟨nK ha' hb' hj,eH a b H j,by simp only [Nw]⟩
 have d1:=a3y ha' hb' h1
 refine h hs hok hfl B hB m F _ t d1 (fun i v hi=>?_) ?_
 ·rw [qU,Option.map_eq_some_iff] at hi
  obtain ⟨u,hu,rfl⟩:=hi
  exact RP.rn hr (h2 i u hu)
 ·refine ⟨h3.size,h3.keep,h3.JC,h3.JA,fun c hc ho=>h3.IK c hc (a4t ho),h3.Ud,fun j hj=>?_,h3.low⟩
  have e:swp a b j=j:=a2w ha hb (by rw [← hB];exact hj)
  have e2:=eH a b H j
  rw [e] at e2
  simp only [e,e2]
  exact h3.names j hj
theorem CG.b3j {ops:Array Oper} {l:List Oper} {R:Frame→Heap→Nat→Prop} {dst:Option Tmp} {ty:TypeId} {pos:String} {af:Array Edge} {fo:Operand} {args:Array Operand} {aT:Array TypeId} {g:FuncId} {fs cs BF ac:List PV} {Hc:Heap} {Qc:PV→Heap→Nat→Prop} (ns:List Nat) (hc:E5 E g ac Hc ns.length Qc)
 (hent:Enters E.P g) (hf:Bh E.Γ L fo=some (.clo g fs cs)) (ha:evs E.Γ L args.toList=some BF) (hle:MF (fs++BF++cs) (CZ.rn (rho ns nx) ac)) (hu:CZ.under ns.length ac) (ql:JY ns.length Hc) (hin:HIn (rho ns nx) H Hc) (hnd:ns.Nodup) (hlt:∀ b∈ns,b<nx)
 (hq:∀ r H' nx',Qc r H' nx'→CG E n bn ops l (Gy L dst (r.rn (rho ns nx))) (news ns.length (rho ns nx) H' (merge ns (rho ns nx) H' H)) (nx+(nx'-ns.length)) R) :
 CG E n bn ops (⟨dst,.call { callee:=.value fo,args:=args,argTypes:=aT },ty,pos,af,none⟩::l) L H nx R:=CG.Y1 hent hf ha hle hu ql hin hnd hlt hc hq
end Go.Vm
