/-
  Texts of a proof, merged (PieK, HanG, HanH, HanI, HanJ, HanK, Wm1). Conditions: in each statement.
-/
import Derived.Maps.RangeRun
import Derived.Test.YthlffjlbidibdaaGreatDoorKHn
set_option linter.unusedSimpArgs false
set_option autoImplicit true
set_option relaxedAutoImplicit true
set_option linter.unusedVariables false
set_option linter.unusedSectionVars false
set_option maxRecDepth 100000
set_option maxHeartbeats 8000000
namespace Go.Proofs.YthlffjlbidibdaaGreatDoor
open Go Go.Am Go.Vm Go.Pie
attribute [local irreducible] Aa Ah Ai Ad AL Ak Bf BK Bj Aj Vm.Done Bv AP
attribute [local irreducible] Cb Bg D5 DU EF AV CB
theorem RX(l:List Int)(d:0<l.length)(e:l.length<1000000):Bf env 77 [.lst 3 (cells l) l.length] 3 (cells l) l.length false:=by
 refine Bf.enter (Af (by decide)) Tryz.func77 rfl (by kernel_rfl) (by simp[Tryz.ntmps77]) ?_
 repeat' (first|(apply mN;rfl;rfl;rfl;exact d)|refine lP ?_|refine go1 ?_|refine bi ?_|(apply cn;rfl))
 exact Bv.ret rfl rfl rfl rfl
def jL(p:Ez)(a z:Int):Nat→List LM
 |0=>[]
 |k+1=>if(gi p.notes k).s<z∧(gi p.notes k).e>a then jL p a z k++[⟨max (gi p.notes k).s a,min (gi p.notes k).e z,(gi p.notes k).d,(gi p.notes k).k⟩] else jL p a z k
theorem a7a(p:Ez)(a z:Int):∀k,(jL p a z k).length≤k
 |0=>ab _
 |k+1=>by
  have:=a7a p a z k;unfold jL;grind
def sN(p:Ez)(f:Nat):List iU:=if 0≤QK p (gi p.bars f)∧(gi p.sets (QK p (gi p.bars f)).toNat).bar<f then [⟨0,(gi p.sets (QK p (gi p.bars f)).toNat).reg⟩] else []
def Ud(p:Ez)(f t:Nat)(s0:List iU):Nat→List iU
 |0=>s0
 |k+1=>if(gi p.sets k).bar≥f∧(gi p.sets k).bar<t then Ud p f t s0 k++[⟨(gi p.sets k).bar-f,(gi p.sets k).reg⟩] else Ud p f t s0 k
theorem b9b(p:Ez)(f:Nat):(sN p f).length≤1:=by
 unfold sN;split<;>simp
theorem aA(p:Ez)(f t:Nat)(s0:List iU):∀k,(Ud p f t s0 k).length≤s0.length+k
 |0=>ab _
 |k+1=>by
  have:=aA p f t s0 k;unfold Ud;grind
def X4(p:Ez)(f t:Nat):List Int:=(p.bars.drop f).take (t+1-f)
def c1g(p:Ez)(f t:Nat):Ez:=⟨X4 p f t,jL p (gi p.bars f) (gi p.bars t) p.notes.length,Ud p f t (sN p f) p.sets.length⟩
theorem c0q(e:f<t)(d:t<p.bars.length):(X4 p f t).length=t+1-f:=by
 unfold X4;grind
theorem b5e(h:i<t+1-f):gi (X4 p f t) i=gi p.bars (f+i):=by
 unfold X4 gi;grind
def d9x:List FV:=[.val (.slice none 0 0),.val (.slice none 0 0),.val (.slice none 0 0)]
theorem b6f(T:SA o)(Y:OT o p=0)(h:XM o p)(f t:Nat)(h1:f<t)(Z:t<p.bars.length):Ak env 90 [.agg (Enc.enc o),.agg (Enc.enc p),.int .i64 (f:Int),.int .i64 (t:Int)] (.DK [.p (.agg (Enc.enc (c1g p f t))),.p (.int .i64 0)]):=by
 have V:=KR o p T.sm h.sm;rw[Y] at V;have d1:=T.Ae;have n1:=h.notes;have n2:=h.bars;have n3:=h.sets;have w:=c0q h1 Z;have R:gi (X4 p f t) 0=gi p.bars f:=b5e (by omega);have O:gi (X4 p f t) (t+1-f-1)=gi p.bars t:=by rw[b5e (by omega)];congr 1;omega
 have C:=RX (X4 p f t) (by omega) (by omega);have u:=Tc ⟨X4 p f t,[],[]⟩ (by show 0<(X4 p f t).length;omega) (by show(X4 p f t).length<_;omega);rw[show Ll ⟨X4 p f t,[],[]⟩=gi p.bars f from R,show LW ⟨X4 p f t,[],[]⟩=gi p.bars t by show gi (X4 p f t) ((X4 p f t).length-1)=_;rw[w,O]] at u;have u:Ak env 19 [.agg [.lst 3 (cells (X4 p f t)) (t+1-f),.val (.slice none 0 0),.val (.slice none 0 0)]] (.DK [.p (.int .i64 (gi p.bars f)),.p (.int .i64 (gi p.bars t))]):=by
  refine Ak.le ?_ u;rw[show Enc.enc (⟨X4 p f t,[],[]⟩:Ez)=[.lst 3 (cells (X4 p f t)) (t+1-f),.lst 64 [] 0,.lst 148 [] 0] by show [FV.lst 3 (cells (X4 p f t)) (X4 p f t).length,_,_]=_;rw[w];rfl];exact .cons (.agg (.cons (.refl _) (.cons (.nil _) (.cons (.nil _) (.refl _))))) (.refl _)
 have J:=Y1 h (gi p.bars f);have I:=fD p (gi p.bars f) p.sets.length;rw[show bQ p (gi p.bars f) p.sets.length=QK p (gi p.bars f) from rfl] at I;have y:∀i,i<p.sets.length→Ak env 132 [.agg (Enc.enc (gi p.sets i).reg)] (.p (.agg (Enc.enc (gi p.sets i).reg))):=fun i W=>by
  have U:=oJ (h.set i W).2.2;exact RU _ (by omega) (by omega)
 have S:Enc.enc (c1g p f t)=[.lst 3 (cells (X4 p f t)) (t+1-f),.lst 64 (cells (jL p (gi p.bars f) (gi p.bars t) p.notes.length)) (jL p (gi p.bars f) (gi p.bars t) p.notes.length).length,.lst 148 (cells (Ud p f t (sN p f) p.sets.length)) (Ud p f t (sN p f) p.sets.length).length]:=by
  show [FV.lst 3 (cells (X4 p f t)) (X4 p f t).length,_,_]=_;rw[w];rfl
 rw[w] at C;rw[S];have X:=b9b p f;refine Ak.enter (Af (by decide)) Tryz.func90 rfl (by kernel_rfl) (by simp[Tryz.ntmps90]) ?_
 repeat' (first|(refine eB 49 ?_;refine c7 (b6 48 rfl rfl) ?_)|apply Ad.assoc|apply ce|apply f9|apply jt|apply Ah.nil|apply c9|(apply Ah.take;rfl;rfl)|(apply Ah.guard;rfl;rfl)|refine a6 V ?_|refine a6 u ?_|(apply jz;rfl;rfl;exact C)|(apply rT;rfl;rfl;rfl;rfl;rfl;rfl;rfl;omega)|(apply Aa.assign;rfl)|(apply Aa.move;rfl)|(apply jl;rfl;rfl;omega)|(apply lh;rfl;rfl;omega)|refine a7 ?_|(apply Aa.load;rfl;rfl)|(apply lv;rfl;rfl)|(apply kb;rfl;rfl)|(apply e8;rfl;rfl;rfl)|(apply Aa.box;rfl;trivial)|(apply Aa.alloc;rfl)|refine d9 ?_|refine b7 ?_|(apply Aa.extract;rfl;rfl)|(apply cn;rfl)|(apply a8;rfl)|(intro _;try omega))
 all_goals try omega
 all_goals try contradiction
 refine cb (jw 4 1 64 rfl rfl) ?_;refine cb (jw 4 2 148 rfl rfl) ?_;have F:=a7a p (gi p.bars f) (gi p.bars t);apply Ad.EY (p.notes.length) [(2,_),(3,_),(5,_),(8,_),(12,_),(13,_),(11,_),(56,_),(57,_)] [(1,_),(2,_),(6,_)] (fun k r=>(58,.p (.int .i64 (k:Int)))::r) (fun k r=>(5,.vec 64 (cells (jL p (gi p.bars f) (gi p.bars t) k)) (jL p (gi p.bars f) (gi p.bars t) k).length true)::(4,.box 45 [.p (.lst 3 (cells (X4 p f t)) (t+1-f)),.vec 5 (jL p (gi p.bars f) (gi p.bars t) k).length 0 (jL p (gi p.bars f) (gi p.bars t) k).length,.vec 6 0 0 0])::r) 7
 ·first|omega|decide
 ·first|omega|decide
 ·exact Ns
 ·exact O9
 ·intro k q
  have U:=F k;have g:jL p (gi p.bars f) (gi p.bars t) (k+1)=if(gi p.notes k).s<gi p.bars t∧(gi p.notes k).e>gi p.bars f then jL p (gi p.bars f) (gi p.bars t) k++[⟨max (gi p.notes k).s (gi p.bars f),min (gi p.notes k).e (gi p.bars t),(gi p.notes k).d,(gi p.notes k).k⟩] else jL p (gi p.bars f) (gi p.bars t) k:=rfl
  by_cases c:(gi p.notes k).s<gi p.bars t∧(gi p.notes k).e>gi p.bars f
  ·rw[if_pos c] at g
   have m:(jL p (gi p.bars f) (gi p.bars t) (k+1)).length=(jL p (gi p.bars f) (gi p.bars t) k).length+1:=by rw[g];simp
   repeat' (first|refine d7 (a:=(⟨max (gi p.notes k).s (gi p.bars f),min (gi p.notes k).e (gi p.bars t),(gi p.notes k).d,(gi p.notes k).k⟩:LM)) ?_|refine b9 ?_|refine Fh ?_|(apply Ah.guard;rfl;rfl)|refine a7 ?_|refine bi ?_|(apply lO;rfl;rfl)|(apply mr;rfl;rfl)|(apply a8;rfl)|(apply c8;rfl)|(intro _;try omega))
   all_goals try omega
   refine Aj.normal ⟨by first|omega|decide,?_,?_⟩
   ·try(rw[m,g])
    exact Dh
   ·rw[m,g]
    exact DT
  ·rw[if_neg c] at g
   repeat' (first|refine b9 ?_|refine Fj ?_|(apply Ah.guard;rfl;rfl)|(apply a8;rfl)|(apply b5;rfl)|(apply c8;rfl)|(intro _;try omega))
   all_goals try omega
   all_goals
    refine Aj.normal ⟨by first|omega|decide,?_,?_⟩
    ·try(rw[g])
     exact Dh
    ·rw[g]
     exact DT
 ·have U:=F p.notes.length
  by_cases c:0≤QK p (gi p.bars f)∧(gi p.sets (QK p (gi p.bars f)).toNat).bar<f
  ·have N:sN p f=[⟨0,(gi p.sets (QK p (gi p.bars f)).toNat).reg⟩]:=by unfold sN;rw[if_pos c]
   rw[N];have M:QK p (gi p.bars f)=((QK p (gi p.bars f)).toNat:Int):=by omega
   have K:=y (QK p (gi p.bars f)).toNat (by omega)
   repeat' (first|refine a6 J ?_|refine a6 K ?_|(apply dl (l:=p.sets) (i:=(QK p (gi p.bars f)).toNat);rfl;exact congrArg (fun b=>some (PV.p (.int .i64 b))) M;rfl;omega;rfl)|refine d7 (l:=[]) (a:=(⟨0,(gi p.sets (QK p (gi p.bars f)).toNat).reg⟩:iU)) ?_|refine KP ?_|(apply Ah.guard;rfl;rfl)|refine a7 ?_|refine b7 ?_|refine bi ?_|(apply a8;rfl)|(intro _;try omega))
   all_goals try omega
   apply Ad.EY (p.sets.length) [(2,_),(3,_),(5,_),(8,_),(11,_),(118,_),(119,_)] [(1,_),(2,_),(5,_)] (fun k r=>(120,.p (.int .i64 (k:Int)))::r) (fun k r=>(6,.vec 148 (cells (Ud p f t [⟨0,(gi p.sets (QK p (gi p.bars f)).toNat).reg⟩] k)) (Ud p f t [⟨0,(gi p.sets (QK p (gi p.bars f)).toNat).reg⟩] k).length true)::(4,.box 45 [.p (.lst 3 (cells (X4 p f t)) (t+1-f)),.vec 5 (jL p (gi p.bars f) (gi p.bars t) p.notes.length).length 0 (jL p (gi p.bars f) (gi p.bars t) p.notes.length).length,.vec 6 (Ud p f t [⟨0,(gi p.sets (QK p (gi p.bars f)).toNat).reg⟩] k).length 0 (Ud p f t [⟨0,(gi p.sets (QK p (gi p.bars f)).toNat).reg⟩] k).length])::r) 7
   ·first|omega|decide
   ·first|omega|decide
   ·exact Ns
   ·exact O9
   ·intro k q
    have B:=aA p f t [⟨0,(gi p.sets (QK p (gi p.bars f)).toNat).reg⟩] k;have A:([⟨0,(gi p.sets (QK p (gi p.bars f)).toNat).reg⟩]:List iU).length≤1:=by simp
    have g:Ud p f t [⟨0,(gi p.sets (QK p (gi p.bars f)).toNat).reg⟩] (k+1)=if(gi p.sets k).bar≥f∧(gi p.sets k).bar<t then Ud p f t [⟨0,(gi p.sets (QK p (gi p.bars f)).toNat).reg⟩] k++[⟨(gi p.sets k).bar-f,(gi p.sets k).reg⟩] else Ud p f t [⟨0,(gi p.sets (QK p (gi p.bars f)).toNat).reg⟩] k:=rfl
    have j:=y k q;have z:=(h.set k q).1;by_cases d:(gi p.sets k).bar≥f∧(gi p.sets k).bar<t
    ·rw[if_pos d] at g
     have m:(Ud p f t [⟨0,(gi p.sets (QK p (gi p.bars f)).toNat).reg⟩] (k+1)).length=(Ud p f t [⟨0,(gi p.sets (QK p (gi p.bars f)).toNat).reg⟩] k).length+1:=by rw[g];simp
     repeat' (first|refine a6 j ?_|refine d7 (a:=(⟨(gi p.sets k).bar-f,(gi p.sets k).reg⟩:iU)) ?_|refine b9 ?_|refine KP ?_|(apply Ah.guard;rfl;rfl)|refine a7 ?_|refine b7 ?_|refine bi ?_|(apply a8;rfl)|(apply c8;rfl)|(intro _;try omega))
     all_goals try omega
     refine Aj.normal ⟨by first|omega|decide,?_,?_⟩
     ·try(rw[m,g])
      exact Dh
     ·rw[m,g]
      exact DT
    ·rw[if_neg d] at g
     repeat' (first|refine b9 ?_|refine Fj ?_|(apply Ah.guard;rfl;rfl)|(apply a8;rfl)|(apply b5;rfl)|(apply c8;rfl)|(intro _;try omega))
     all_goals try omega
     all_goals
      refine Aj.normal ⟨by first|omega|decide,?_,?_⟩
      ·try(rw[g])
       exact Dh
      ·rw[g]
       exact DT
   ·repeat' (first|(refine Ad.at 24 ?_;refine cb (Ap.trans (e9 4 1 rfl rfl rfl) (e9 4 2 rfl rfl rfl)) ?_;first|apply ce|apply da)|apply ce|refine go0 ?_|(apply a8;rfl)|(intro _;try omega))
    all_goals first|omega|(refine aa ?_;try rfl)
  ·have N:sN p f=[]:=by unfold sN;rw[if_neg c]
   rw[N];by_cases c2:0≤QK p (gi p.bars f)
   ·have M:QK p (gi p.bars f)=((QK p (gi p.bars f)).toNat:Int):=by omega
    repeat' (first|refine a6 J ?_|(apply dl (l:=p.sets) (i:=(QK p (gi p.bars f)).toNat);rfl;exact congrArg (fun b=>some (PV.p (.int .i64 b))) M;rfl;omega;rfl)|refine KP ?_|(apply Ah.guard;rfl;rfl)|refine a7 ?_|(apply a8;rfl)|(intro _;try omega))
    all_goals try omega
    apply Ad.EY (p.sets.length) [(2,_),(3,_),(5,_),(8,_),(11,_),(118,_),(119,_)] [(1,_),(2,_),(5,_)] (fun k r=>(120,.p (.int .i64 (k:Int)))::r) (fun k r=>(6,.vec 148 (cells (Ud p f t [] k)) (Ud p f t [] k).length true)::(4,.box 45 [.p (.lst 3 (cells (X4 p f t)) (t+1-f)),.vec 5 (jL p (gi p.bars f) (gi p.bars t) p.notes.length).length 0 (jL p (gi p.bars f) (gi p.bars t) p.notes.length).length,.vec 6 (Ud p f t [] k).length 0 (Ud p f t [] k).length])::r) 7
    ·first|omega|decide
    ·first|omega|decide
    ·exact Ns
    ·exact O9
    ·intro k q
     have B:=aA p f t [] k;have A:([]:List iU).length≤1:=by simp
     have g:Ud p f t [] (k+1)=if(gi p.sets k).bar≥f∧(gi p.sets k).bar<t then Ud p f t [] k++[⟨(gi p.sets k).bar-f,(gi p.sets k).reg⟩] else Ud p f t [] k:=rfl
     have j:=y k q;have z:=(h.set k q).1;by_cases d:(gi p.sets k).bar≥f∧(gi p.sets k).bar<t
     ·rw[if_pos d] at g
      have m:(Ud p f t [] (k+1)).length=(Ud p f t [] k).length+1:=by rw[g];simp
      repeat' (first|refine a6 j ?_|refine d7 (a:=(⟨(gi p.sets k).bar-f,(gi p.sets k).reg⟩:iU)) ?_|refine b9 ?_|refine KP ?_|(apply Ah.guard;rfl;rfl)|refine a7 ?_|refine b7 ?_|refine bi ?_|(apply a8;rfl)|(apply c8;rfl)|(intro _;try omega))
      all_goals try omega
      refine Aj.normal ⟨by first|omega|decide,?_,?_⟩
      ·try(rw[m,g])
       exact Dh
      ·rw[m,g]
       exact DT
     ·rw[if_neg d] at g
      repeat' (first|refine b9 ?_|refine Fj ?_|(apply Ah.guard;rfl;rfl)|(apply a8;rfl)|(apply b5;rfl)|(apply c8;rfl)|(intro _;try omega))
      all_goals try omega
      all_goals
       refine Aj.normal ⟨by first|omega|decide,?_,?_⟩
       ·try(rw[g])
        exact Dh
       ·rw[g]
        exact DT
    ·repeat' (first|(refine Ad.at 24 ?_;refine cb (Ap.trans (e9 4 1 rfl rfl rfl) (e9 4 2 rfl rfl rfl)) ?_;first|apply ce|apply da)|apply ce|refine go0 ?_|(apply a8;rfl)|(intro _;try omega))
     all_goals first|omega|(refine aa ?_;try rfl)
   ·repeat' (first|refine a6 J ?_|refine Fh ?_|(apply Ah.guard;rfl;rfl)|refine a7 ?_|(apply cn;rfl)|(apply a8;rfl)|(intro _;try omega))
    all_goals try omega
    apply Ad.EY (p.sets.length) [(2,_),(3,_),(5,_),(8,_),(11,_),(118,_),(119,_)] [(1,_),(2,_),(5,_)] (fun k r=>(120,.p (.int .i64 (k:Int)))::r) (fun k r=>(6,.vec 148 (cells (Ud p f t [] k)) (Ud p f t [] k).length true)::(4,.box 45 [.p (.lst 3 (cells (X4 p f t)) (t+1-f)),.vec 5 (jL p (gi p.bars f) (gi p.bars t) p.notes.length).length 0 (jL p (gi p.bars f) (gi p.bars t) p.notes.length).length,.vec 6 (Ud p f t [] k).length 0 (Ud p f t [] k).length])::r) 7
    ·first|omega|decide
    ·first|omega|decide
    ·exact Ns
    ·exact O9
    ·intro k q
     have B:=aA p f t [] k;have A:([]:List iU).length≤1:=by simp
     have g:Ud p f t [] (k+1)=if(gi p.sets k).bar≥f∧(gi p.sets k).bar<t then Ud p f t [] k++[⟨(gi p.sets k).bar-f,(gi p.sets k).reg⟩] else Ud p f t [] k:=rfl
     have j:=y k q;have z:=(h.set k q).1;by_cases d:(gi p.sets k).bar≥f∧(gi p.sets k).bar<t
     ·rw[if_pos d] at g
      have m:(Ud p f t [] (k+1)).length=(Ud p f t [] k).length+1:=by rw[g];simp
      repeat' (first|refine a6 j ?_|refine d7 (a:=(⟨(gi p.sets k).bar-f,(gi p.sets k).reg⟩:iU)) ?_|refine b9 ?_|refine KP ?_|(apply Ah.guard;rfl;rfl)|refine a7 ?_|refine b7 ?_|refine bi ?_|(apply a8;rfl)|(apply c8;rfl)|(intro _;try omega))
      all_goals try omega
      refine Aj.normal ⟨by first|omega|decide,?_,?_⟩
      ·try(rw[m,g])
       exact Dh
      ·rw[m,g]
       exact DT
     ·rw[if_neg d] at g
      repeat' (first|refine b9 ?_|refine Fj ?_|(apply Ah.guard;rfl;rfl)|(apply a8;rfl)|(apply b5;rfl)|(apply c8;rfl)|(intro _;try omega))
      all_goals try omega
      all_goals
       refine Aj.normal ⟨by first|omega|decide,?_,?_⟩
       ·try(rw[g])
        exact Dh
       ·rw[g]
        exact DT
    ·repeat' (first|(refine Ad.at 24 ?_;refine cb (Ap.trans (e9 4 1 rfl rfl rfl) (e9 4 2 rfl rfl rfl)) ?_;first|apply ce|apply da)|apply ce|refine go0 ?_|(apply a8;rfl)|(intro _;try omega))
     all_goals first|omega|(refine aa ?_;try rfl)
attribute [local irreducible] Nl
theorem P8:∀(r cs:List α) (o:Nat) {k:Nat},k≤o→(CG cs o r).take k=cs.take k
 |[],cs,o,k,h=>by rfl
 |a::r,cs,o,k,h=>by
  simp only[CG];rw[P8 r (cs.set o a) (o+1) (by omega),gv h]
theorem filter_all{α:Type}{P:α→Bool}{l:List α}[Inhabited α](h:∀i,i<l.length→P (gi l i)=true):l.filter P=l:=by
 rw[iS];intro a e;obtain⟨i,d,rfl⟩:=er e;have:=h i d
 rwa[show gi l i=l[i] by unfold gi;grind] at this
structure Us{α:Type}(P:α→Bool)(l zs:List α)(i j:Nat):Prop where
 len:zs.length=l.length
 ij:i<j
 jn:j≤l.length
 keep:zs.take i=(l.take j).filter P
 rest:zs.drop j=l.drop j
theorem Us.at_{α:Type}[Inhabited α]{P:α→Bool}{l zs:List α}{i j:Nat}(h:Us P l zs i j)(d:j<l.length):gi zs j=gi l j:=by
 have:=congrArg (fun x=>gi x 0) h.rest;simp only[gi,List.getElem?_drop,Nat.add_zero] at this;exact this
theorem Us.skip{α:Type}[Inhabited α]{P:α→Bool}{l zs:List α}{i j:Nat}(h:Us P l zs i j)(d:j<l.length)(e:P (gi l j)=false):Us P l zs i (j+1):=by
 refine⟨h.len,by have:=h.ij;omega,d,?_,?_⟩
 ·rw[EH d,dr,h.keep]
  grind
 ·have:=congrArg (List.drop 1) h.rest
  simp_all
theorem Us.put{α:Type}[Inhabited α]{P:α→Bool}{l zs:List α}{i j:Nat}(h:Us P l zs i j)(d:j<l.length)(f:P (gi l j)=true):Us P l (zs.set i (gi l j)) (i+1) (j+1):=by
 have m:=h.ij;have g:=h.len;refine⟨by grind,by omega,d,?_,?_⟩
 ·rw[EH d,dr,← h.keep,EH (by grind),gv (ab _)]
  have e:gi (zs.set i (gi l j)) i=gi l j:=by rw[Ht,if_pos ⟨rfl,by omega⟩]
  grind
 ·rw[ja (by omega)]
  have:=congrArg (List.drop 1) h.rest;simp_all
theorem mv{α:Type}[Inhabited α]{P:α→Bool}{l:List α}{k:Nat}(d:k<l.length)(f:P (gi l k)=false)(h:∀i,i<k→P (gi l i)=true):Us P l l k (k+1):=by
 refine⟨rfl,by omega,d,?_,rfl⟩;rw[EH d,dr];have:(l.take k).filter P=l.take k:=filter_all fun i e=>by
  rw[av] at e;have:=h i (by omega)
  rwa[show gi (l.take k) i=gi l i from by unfold gi;grind]
 grind
theorem Us.fin{α:Type}[Inhabited α]{P:α→Bool}{l zs:List α}{i:Nat}(h:Us P l zs i l.length):zs.take i=l.filter P∧i=(l.filter P).length:=by
 have d:=h.keep;rw[dz (ab _)] at d;refine⟨d,?_⟩;rw[← d,av,h.len];have:=h.ij;omega
theorem a6b
 (j:AY env.Γ L g=some (.clo 114 d cs)) (l:evs env.Γ L args.toList=some xs) (e:Tryz.f114.body=some c) (i:(d++xs++cs).length≤Tryz.f114.ntmps)
 (h:Ad env nx c (CS 0 (d++xs++cs)) H nx (AP env.P Tryz.f114.results.toList Q)):Aa env true ⟨dst,.call { callee:=.value g,args:=args,argTypes:=m },ty,pos,af,gd⟩ L H nx Q:=by
 have f:(match Tryz.f114.body with|some c=>IV env.G Tryz.f114 c|none=>false)=true:=by kernel_rfl
 rw[e] at f;exact Aa.inline rfl j l (Af (by decide)) Tryz.func114 e f i h
theorem a6l
 (j:AY env.Γ L g=some (.clo 153 d cs)) (l:evs env.Γ L args.toList=some xs) (e:Tryz.f153.body=some c) (i:(d++xs++cs).length≤Tryz.f153.ntmps)
 (h:Ad env nx c (CS 0 (d++xs++cs)) H nx (AP env.P Tryz.f153.results.toList Q)):Aa env true ⟨dst,.call { callee:=.value g,args:=args,argTypes:=m },ty,pos,af,gd⟩ L H nx Q:=by
 have f:(match Tryz.f153.body with|some c=>IV env.G Tryz.f153 c|none=>false)=true:=by kernel_rfl
 rw[e] at f;exact Aa.inline rfl j l (Af (by decide)) Tryz.func153 e f i h
theorem sO:Ak env 77 [.lst 3 (cells ([]:List Int)) 0] (.p (.lst 3 (cells ([]:List Int)) 0)):=by
 refine Ak.enter (Af (by decide)) Tryz.func77 rfl (by kernel_rfl) (by simp) ?_
 repeat' (first|(refine eB 2 ?_;refine c7 (b6 7 rfl rfl) ?_)|apply Ad.assoc|apply ce|apply f9|apply kj|apply Ad.ret|apply Ah.nil|apply c9|(apply lL;rfl;rfl;rfl)|(apply Aa.assign;rfl)|(apply Aa.move;rfl)|refine bi ?_|refine lP ?_|(apply Ad.Ub;rfl)|(intro _))
 all_goals first|(omega)|(refine Done.ret rfl (.p (.nil _)) trivial BN.nil (ao _) (ab _) ⟨rfl,rfl,rfl⟩)|(refine aa ?_;try rfl)
def Xw(q:Qu)(x:Int):Bool:=!FK q x.toNat
def Jm(q:Qu)(N:List Int):List Int:=N.filter (Xw q)
theorem V4(q:Qu)(V:IQ q)(s:qA)(S:VB q s.notes)(R:s.notes.length≤1000):Ak env 62 [.agg (Enc.enc q),.agg (Enc.enc s)] (.p (.lst 3 (cells (Jm q s.notes)) (Jm q s.notes).length)):=by
 have C:=fun i A=>U9 q V i A
 obtain⟨a,e,l⟩:=s;simp only at S R ⊢;rcases bq l.length with h0|h0
 ·obtain rfl:l=[]:=aw.1 h0
  have z:=sO;unfold Jm;rw[List.filter_nil];refine Ak.enter (Af (by decide)) Tryz.func62 rfl (by kernel_rfl) (by simp[Tryz.ntmps62]) ?_
  repeat' (first|refine a6 z ?_|(apply Aa.makeFunc;rfl;rfl)|(apply a6b;rfl;rfl;rfl;exact le_dec rfl)|(apply a6l;rfl;rfl;rfl;exact le_dec rfl)|refine KP ?_|fail)
  all_goals try omega
  refine Ad.nZ 0 ?_
  repeat' (first|refine Fj ?_|(apply AP.ret;rfl)|(apply Nl.zero)|(apply ei;rfl)|(apply cn;rfl))
  all_goals first|omega|contradiction|(refine aa ?_;try rfl)
 have z:=RX l h0 (by omega);unfold Jm;refine Ak.enter (Af (by decide)) Tryz.func62 rfl (by kernel_rfl) (by simp[Tryz.ntmps62]) ?_
 repeat' (first|(apply jz;rfl;rfl;exact z)|(apply Aa.makeFunc;rfl;rfl)|(apply a6b;rfl;rfl;rfl;exact le_dec rfl)|(apply a6l;rfl;rfl;rfl;exact le_dec rfl)|(apply eC;rfl;rfl;rfl)|refine KP ?_|fail)
 all_goals try omega
 apply Ad.Jy (l.length) (fun k=>∀i,i<k→Xw q (gi l i)=true) [(0,_),(1,_),(7,_)] [(2,_)] (fun k r=>(8,.p (.int .i64 (k:Int)))::r) (fun k r=>r) 3
 ·first|omega|decide
 ·first|omega|decide
 ·exact Ns
 ·exact O9
 ·first|(intro _ _;omega)|omega|trivial
 ·intro k U A
  obtain⟨X,g2⟩:=S k U;have F:=C (gi l k).toNat (by omega);rw[cE X] at F;by_cases O:Xw q (gi l k)=true
  ·have u:FK q (gi l k).toNat=false:=by unfold Xw at O;simpa using O
   rw[u] at F
   repeat' (first|(apply lf F;rfl;rfl;exact .of_eq rfl;exact eA rfl)|(apply g9;rfl;rfl;rfl;rfl;omega)|refine Fh ?_|refine a7 ?_|(apply a8;rfl)|(apply b5;rfl)|(intro _;try omega))
   all_goals try omega
   refine Aj.normal ⟨(all_succ A O),by first|omega|decide,?_,?_⟩
   ·exact Dh
   ·exact DT
  ·have w:Xw q (gi l k)=false:=by cases h:Xw q (gi l k)<;>simp_all
   have u:FK q (gi l k).toNat=true:=by unfold Xw at w;simpa using w
   rw[u] at F
   repeat' (first|(apply lf F;rfl;rfl;exact .of_eq rfl;exact eA rfl)|(apply g9;rfl;rfl;rfl;rfl;omega)|refine Fh ?_|(apply AP.ret;rfl)|refine a7 ?_|(apply cn;rfl)|(apply a8;rfl)|(apply b8;rfl)|(intro _;try omega))
   all_goals try omega
   refine eD (fun s:List Int×Nat×Nat=>[(0,.vec 2 l.length 0 l.length),(1,.clo 63 [.p (.agg (Enc.enc q))] []),(5,.p (.int .i64 (s.2.1:Int))),(6,.p (.int .i64 (s.2.2:Int)))]) (fun s=>[(2,.vec 3 (cells s.1) l.length false)]) 3 (fun s=>Us (Xw q) l s.1 s.2.1 s.2.2) (fun s=>l.length-s.2.2) (l,k,k+1) (by decide) (mv U w A) ⟨by decide,?_,?_⟩ ?_
   ·exact Dh
   ·exact DT
   rintro⟨f,i,j⟩ g;simp only at g ⊢;have T:=g.len;have Z:=g.ij;have Y:=g.jn;by_cases I:j<l.length
   ·obtain⟨W,g4⟩:=S j I
    have d:=C (gi l j).toNat (by omega);rw[cE W] at d;have J:=g.at_ I;by_cases K:Xw q (gi l j)=true
    ·have m:FK q (gi l j).toNat=false:=by unfold Xw at K;simpa using K
     rw[m] at d;rw[← J] at d
     repeat' (first|(apply lf d;rfl;rfl;exact .of_eq rfl;exact eA rfl)|(apply kz (y:=gi f j);rfl;rfl;rfl;trivial;(first|rfl|(refine congrArg (fun t=>[PV.p (FV.int _ t)]) ?_;first|omega|(simp only[Int.natCast_add,Int.natCast_mul,Int.natCast_ediv,Int.natCast_emod]<;>omega)));rfl;rfl;decide;(first|omega|(simp only[List.length_set]<;>omega)))|(apply eC;rfl;rfl;rfl)|(apply g9;rfl;rfl;rfl;rfl;omega)|refine Fh ?_|refine a7 ?_|(apply a8;rfl)|(apply b8;rfl)|(intro _;try omega))
     all_goals try omega
     refine Aj.normal ⟨(f.set i (gi l j),i+1,j+1),g.put I K,by simp only;omega,⟨by omega,?_,?_⟩⟩
     ·exact Dh
     ·rw[← J]
      exact DT
    ·have o:Xw q (gi l j)=false:=by cases h:Xw q (gi l j)<;>simp_all
     have m:FK q (gi l j).toNat=true:=by unfold Xw at o;simpa using o
     rw[m] at d;rw[← J] at d
     repeat' (first|(apply lf d;rfl;rfl;exact .of_eq rfl;exact eA rfl)|(apply eC;rfl;rfl;rfl)|(apply g9;rfl;rfl;rfl;rfl;omega)|refine Fh ?_|refine a7 ?_|(apply a8;rfl)|(apply b5;rfl)|(intro _;try omega))
     all_goals try omega
     refine Aj.normal ⟨(f,i,j+1),g.skip I o,by simp only;omega,⟨by omega,?_,?_⟩⟩
     ·exact Dh
     ·exact DT
   ·obtain rfl:j=l.length:=by omega
    obtain⟨f1,f2⟩:=g.fin;rw[← f1,show(f.take i).length=i by rw[av];omega];have M:∀B,((CG (cells f) (0+i*1) B).take (i*1))=cells (f.take i):=fun B=>by
     rw[P8 _ _ _ (show i*1≤0+i*1 by omega)];exact I8 f i
    have N:∀B,i*1≤(CG (cells f) (0+i*1) B).length:=fun B=>by
     rw[Rn,BD,T];show i*1≤l.length*1;omega
    repeat' (first|(refine mc 4 ?_;refine i6 (pE 10 (i*1) rfl rfl (by omega) (N _)) ?_)|apply Ad.assoc|apply ce|apply jx|apply BK.normal|(apply AP.ret;rfl)|apply Bj.exit|apply Aj.exit|apply Ad.ret|apply Ah.nil|apply Ai.nil|apply c9|(apply Ai.bar;decide +kernel)|(apply mi (sz:=1) (a:=i) (c:=l.length);rfl;rfl;omega;rfl;rfl;rfl;exact⟨_,rfl⟩;rfl;omega;exact ab _)|(apply mi (sz:=1) (a:=0) (c:=i);rfl;rfl;omega;rfl;rfl;rfl;rfl;exact⟨_,rfl⟩;omega;omega)|(apply Aa.clear;rfl;rfl;omega;omega;rfl;rfl;rfl;decide;(rw[BD,T];show 0+i*1+(l.length-i)*1≤l.length*1;omega))|(apply Aa.assign;rfl)|(apply Aa.move;rfl)|refine a7 ?_|(apply eC;rfl;rfl;rfl)|(apply a8;rfl)|(intro _;try omega))
    all_goals first|omega|(refine aa ?_;exact congrArg (fun c=>PV.p (FV.lst 3 c i)) (M _))
 ·intro A
  rw[filter_all A]
  repeat' (first|(refine mc 4 ?_;refine i6 (b6 10 rfl rfl) ?_)|apply Ad.assoc|apply ce|apply kj|apply jx|apply BK.normal|(apply AP.ret;rfl)|apply Bj.exit|apply Aj.exit|apply Ad.ret|apply Ah.nil|apply Ai.nil|apply c9|(apply Ai.bar;decide +kernel)|(apply Aa.assign;rfl)|(apply Aa.move;rfl)|refine a7 ?_|(apply ei;rfl)|(apply a8;rfl)|(intro _;try omega))
  all_goals first|omega|(refine aa ?_;try rfl)
theorem aK(p:Ez)(d:i<(Bc p).length):gi (Bc p) i=⟨gi (DC p) i,gi (DC p) (i+1),snd p (gi (DC p) i)⟩:=by
 unfold Bc b6k at d ⊢;rw[Cm] at d;exact Dz _ d
theorem Qk(p:Ez):(Bc p).length≤2*p.notes.length+1:=by
 have f:=wG (snd p) (DC p);have d:=YM ((VD p p.notes.length).mergeSort fun x y=>decide (x≤y));rw[iz,aF] at d;have e:(DC p).length≤_:=d;show(b6k (snd p) (DC p)).length≤_;omega
def Dy(q:Qu)(i:Nat):List Int:=(gi (Bc q.p) i).notes
theorem G7(e:i<(Bc q.p).length):VB q (Dy q i):=by
 unfold Dy;rw[aK _ e];exact fun k d=>b2o d
theorem bV(d:IQ q)(e:i<(Bc q.p).length):(Dy q i).length≤1000:=by
 unfold Dy;rw[aK _ e];exact an (OM q.p _ _) d.p.notes
theorem LP(q:Qu)(d:IQ q):Ak env 26 [.agg (Enc.enc q)] (.p (.lst 62 (cells (Bc q.p)) (Bc q.p).length)):=by
 have h:=Q7 d.o.sm d.e d.p;refine Ak.enter (Af (by decide)) Tryz.func26 rfl (by kernel_rfl) (by simp) ?_
 repeat' (first|refine a6 h ?_|refine go1 ?_|fail)
 all_goals first|(omega)|(refine aa ?_;try rfl)
theorem c1z
 (j:AY env.Γ L g=some (.clo 60 d cs)) (l:evs env.Γ L args.toList=some xs) (e:Tryz.f60.body=some c) (i:(d++xs++cs).length≤Tryz.f60.ntmps)
 (h:Ad env nx c (CS 0 (d++xs++cs)) H nx (AP env.P Tryz.f60.results.toList Q)):Aa env true ⟨dst,.call { callee:=.value g,args:=args,argTypes:=m },ty,pos,af,gd⟩ L H nx Q:=by
 have f:(match Tryz.f60.body with|some c=>IV env.G Tryz.f60 c|none=>false)=true:=by kernel_rfl
 rw[e] at f;exact Aa.inline rfl j l (Af (by decide)) Tryz.func60 e f i h
theorem c3b
 (j:AY env.Γ L g=some (.clo 113 d cs)) (l:evs env.Γ L args.toList=some xs) (e:Tryz.f113.body=some c) (i:(d++xs++cs).length≤Tryz.f113.ntmps)
 (h:Ad env nx c (CS 0 (d++xs++cs)) H nx (AP env.P Tryz.f113.results.toList Q)):Aa env true ⟨dst,.call { callee:=.value g,args:=args,argTypes:=m },ty,pos,af,gd⟩ L H nx Q:=by
 have f:(match Tryz.f113.body with|some c=>IV env.G Tryz.f113 c|none=>false)=true:=by kernel_rfl
 rw[e] at f;exact Aa.inline rfl j l (Af (by decide)) Tryz.func113 e f i h
def d6s(q:Qu)(l:List Int):Int:=Ey (fun i=>!J4 q (Dy q i) l) (Bc q.p).length
theorem kN(q:Qu)(f:IQ q)(s:qA)(i:VB q s.notes)(d:s.notes.length≤1000):Ej env 61 ([.p (.agg (Enc.enc s))]++[.ref 0 0]) [(0,.box 49 ((Enc.enc q).map .p))] 1 (.bool (decide (12<(Jm q s.notes).length))):=by
 have g:=V4 q f s i d;have e:decide (12<(Jm q s.notes).length)=decide (((Jm q s.notes).length:Int)>12):=by
  by_cases h:12<(Jm q s.notes).length
  ·rw[decide_eq_true h,decide_eq_true (by omega)]
  ·rw[decide_eq_false h,decide_eq_false (by omega)]
 rw[e];generalize Jm q s.notes=M at *;refine Ej.enter (Af (by decide)) Tryz.func61 rfl (by kernel_rfl) (by simp[Tryz.ntmps61]) ?_
 repeat' (first|refine a6 g ?_|refine go1 ?_|refine a7 ?_|fail)
 all_goals first|omega|(refine Done.ret rfl (.refl _) trivial ?_ (by omega) (ab _) ⟨?_,rfl,rfl⟩;exact DT;try rfl)
def c1o(q:Qu):Bool:=decide (0≤Ey (fun i=>decide (12<(Jm q (Dy q i)).length)) (Bc q.p).length)
theorem Xg(q:Qu)(f:IQ q):Ak env 24 [.agg (Enc.enc q)] (.p (.bool (c1o q))):=by
 have u:=LP q f;have s:=Qk q.p;have w:=f.p.notes;have m:∀k,k<(Bc q.p).length→Ej env 61 ([.p (.agg (Enc.enc (gi (Bc q.p) k)))]++[.ref 0 0]) [(0,.box 49 ((Enc.enc q).map .p))] 1 (.bool (decide (12<(Jm q (Dy q k)).length))):=fun k d=>kN q f _ (G7 d) (bV f d)
 unfold c1o;generalize hP:(fun i=>decide (12<(Jm q (Dy q i)).length))=P at *;have m:∀k,k<(Bc q.p).length→Ej env 61 ([.p (.agg (Enc.enc (gi (Bc q.p) k)))]++[.ref 0 0]) [(0,.box 49 ((Enc.enc q).map .p))] 1 (.bool (P k)):=fun k d=>by rw[← hP];exact m k d
 generalize Bc q.p=S at *;refine Ak.enter (Af (by decide)) Tryz.func24 rfl (by kernel_rfl) (by simp[Tryz.ntmps24]) ?_
 repeat' (first|refine a6 u ?_|(apply Aa.makeFunc;rfl;rfl)|(apply c1z;rfl;rfl;rfl;exact le_dec rfl)|(apply c3b;rfl;rfl;rfl;exact le_dec rfl)|refine go1 ?_|fail)
 all_goals try omega
 apply Ad.Jy (S.length) (fun k=>Xy P S.length (S.length-k)=Ey P S.length) [(0,_),(1,_),(7,_)] [(0,_)] (fun k r=>(8,.p (.int .i64 (k:Int)))::r) (fun k r=>r) 1
 ·first|omega|decide
 ·first|omega|decide
 ·exact Ns
 ·exact O9
 ·first|(intro _ _;omega)|omega|trivial
 ·intro k d g
  have h:=m k d;by_cases j:P k=true
  ·rw[j] at h
   have o:Ey P S.length=(k:Int):=by rw[← g,rM d j]
   rw[o]
   repeat' (first|(apply eO [0] h;rfl;rfl;exact .of_eq rfl;exact eA rfl;exact Dp rfl;(repeat(first|exact trivial|refine⟨⟨_,rfl,.of_eq rfl⟩,?_⟩));decide;(intro _ l;simp at l<;>omega);rfl)|refine b9 ?_|refine go1 ?_|(apply AP.ret;rfl)|refine a7 ?_|(apply a8;rfl)|(apply b8;rfl)|(intro _;try omega))
   all_goals first|omega|contradiction|(refine aa ?_;try rfl)
  ·have e:P k=false:=by simpa using j
   rw[e] at h
   repeat' (first|(apply eO [0] h;rfl;rfl;exact .of_eq rfl;exact eA rfl;exact Dp rfl;(repeat(first|exact trivial|refine⟨⟨_,rfl,.of_eq rfl⟩,?_⟩));decide;(intro _ l;simp at l<;>omega);rfl)|refine b9 ?_|refine go1 ?_|refine a7 ?_|(apply a8;rfl)|(apply b5;rfl)|(intro _;try omega))
   all_goals try omega
   all_goals try contradiction
   refine Aj.normal ⟨((iF d e).symm.trans g),by first|omega|decide,?_,?_⟩
   ·exact Dh
   ·exact DT
 ·intro g
  have o:Ey P S.length=-1:=by rw[← g,cW];rfl
  rw[o]
  repeat' (first|refine Fj ?_|(apply AP.ret;rfl)|(apply a8;rfl)|(intro _;try omega))
  all_goals first|omega|(refine aa ?_;try rfl)
noncomputable def hcE(q:Qu):Int:=if OT q.o q.p=0 then a9l q.y else OT q.o q.p
theorem a0t(d:IQ q):hcE q=0:=by
 unfold hcE;rw[if_pos d.e,ak d.y]
theorem QZ(q:Qu)(g:RD q.o)(f:UM q.p):Ak env 23 [.agg (Enc.enc q)] (.p (.int .i64 (hcE q))):=by
 have d:=KR q.o q.p g f;have e:=Js q.y;unfold hcE;generalize OT q.o q.p=e1 at *;generalize a9l q.y=e2 at *;by_cases h:e1=0
 ·rw[if_pos h]
  subst h;refine Ak.enter (Af (by decide)) Tryz.func23 rfl (by kernel_rfl) (by simp[Tryz.ntmps23]) ?_
  repeat' (first|refine a6 d ?_|refine a6 e ?_|refine go1 ?_|refine a7 ?_|(apply cn;rfl))
  all_goals first|omega|contradiction|(refine aa ?_;try rfl)
 ·rw[if_neg h]
  refine Ak.enter (Af (by decide)) Tryz.func23 rfl (by kernel_rfl) (by simp[Tryz.ntmps23]) ?_
  repeat' (first|refine a6 d ?_|refine go1 ?_|refine a7 ?_|(apply a8;rfl)|(intro _;try omega))
  all_goals first|omega|contradiction|(refine aa ?_;try rfl)
def d5o(q:Qu)(l:List Int)(i:Nat):Bool:=decide (0≤gi l i)&&decide (gi l i≤2)&&!(FK q i != decide (gi l i=2))
def c9w(q:Qu)(l:List Int):Int:=if l.length=q.p.notes.length then if Ey (fun i=>!d5o q l i) l.length=-1 then 0 else 12 else 5
def e1x(q:Qu)(l:List Int):Int:=if c9w q l=0 then if 0≤d6s q l then 24 else 0 else c9w q l
def mvC(a b:XI):Int:=max (a.k-b.k) (b.k-a.k)+if a.d=b.d then 0 else 12
def XI.Ok(a:XI):Prop:=0≤a.k∧a.k≤127
theorem aV(e:a.Ok)(d:b.Ok):0≤mvC a b∧mvC a b≤139:=by
 obtain⟨g,f⟩:=e;obtain⟨b1,b2⟩:=d;unfold mvC;split<;>omega
theorem nD(a b:XI)(f:a.Ok)(e:b.Ok):Ak env 65 [.agg (Enc.enc a),.agg (Enc.enc b)] (.p (.int .i64 (mvC a b))):=by
 obtain⟨i,g⟩:=f;obtain⟨b1,b2⟩:=e;unfold mvC;by_cases h:a.d=b.d
 ·rw[if_pos h,Int.add_zero]
  refine Ak.enter (Af (by decide)) Tryz.func65 rfl (by kernel_rfl) (by simp[Tryz.ntmps65]) ?_
  repeat' (first|refine Fj ?_|(apply lO;rfl;rfl)|(apply a8;rfl)|(intro _;try omega))
  all_goals first|omega|contradiction|(refine aa ?_;try rfl)
 ·rw[if_neg h]
  refine Ak.enter (Af (by decide)) Tryz.func65 rfl (by kernel_rfl) (by simp[Tryz.ntmps65]) ?_
  repeat' (first|refine Fj ?_|(apply lO;rfl;rfl)|(apply a8;rfl)|(intro _;try omega))
  all_goals first|omega|contradiction|(refine aa ?_;try rfl)
structure Pos where
 h:Int
 i:Int
 c:XI
deriving DecidableEq
instance:Enc Pos:={ default:=⟨0,0,⟨0,0⟩⟩,enc:=fun x=>[.int .i64 x.h,.int .i64 x.i,.int .i64 x.c.d,.int .i64 x.c.k],size:=4,len:=fun _=>rfl }
def He(q:Qu)(l:List Int)(h:Int)(i:Nat):Bool×XI:=Xx q.p (Dy q i) l h (Dy q i).length
def JU(q:Qu)(l:List Int)(h:Int):Nat→List Pos
 |0=>[]
 |k+1=>if(He q l h k).1=true then JU q l h k++[⟨h,k,(He q l h k).2⟩] else JU q l h k
def c7k(q:Qu)(l:List Int):List Pos:=JU q l 0 (Bc q.p).length++JU q l 1 (Bc q.p).length
def csK(L:List Pos):Nat→Int
 |0=>0
 |k+1=>if(gi L (k+1)).h=(gi L k).h then csK L k+mvC (gi L k).c (gi L (k+1)).c else csK L k
def NJ(q:Qu)(l:List Int):Int:=csK (c7k q l) ((c7k q l).length-1)
theorem dR(e:IQ q)(g:VB q N)(l:List Int)(h:Int):∀k,k≤N.length→(Xx q.p N l h k).2.Ok
 |0,_=>⟨bj _,by show(0:Int)≤127;omega⟩
 |k+1,hk=>by
  have j:=dR e g l h k (by omega);obtain⟨u,s⟩:=g k (by omega);have f:=e.p.note (gi N k).toNat (by omega);have r:=e.o.cmp (i:=(gi q.p.notes (gi N k).toNat).d.toNat) (by have:=f.d;omega);have m:=f.k;unfold Xx;split
  ·exact⟨by grind,by grind⟩
  omega
def Yd(q:Qu)(k:Nat):List Int:=Bh (fun i=>if i<k∧FK q i=true then 2 else 0) q.p.notes.length
def OW(q:Qu):List Int:=Yd q q.p.notes.length
theorem O4(q:Qu)(k:Nat):(Yd q k).length=q.p.notes.length:=Cm _ _
theorem nK(q:Qu):∀n,List.replicate n (0:Int)=Bh (fun i=>if i<0∧FK q i=true then(2:Int) else 0) n
 |0=>rfl
 |n+1=>by
  rw[gk,nK q n];rfl
theorem b8y(q:Qu)(e:k<q.p.notes.length)(h:FK q k=true):(Yd q k).set k 2=Yd q (k+1):=by
 refine LV (by rw[cX,O4,O4]) fun i d=>?_
 rw[cX,O4] at d;unfold Yd;rw[Ht,Dz _ d,Dz _ d,Cm];grind
theorem a7u(q:Qu)(h:FK q k=false):Yd q k=Yd q (k+1):=by
 unfold Yd;grind
theorem eG(q:Qu)(f:IQ q):Ak env 25 [.agg (Enc.enc q)] (.p (.lst 3 (cells (OW q)) (OW q).length)):=by
 have m:=f.p.notes;have j:(OW q).length=q.p.notes.length:=O4 _ _;rw[j];have h:List.replicate q.p.notes.length (0:Int)=Yd q 0:=nK q _;refine Ak.enter (Af (by decide)) Tryz.func25 rfl (by kernel_rfl) (by simp[Tryz.ntmps25]) ?_
 repeat' (first|(apply ll q.p.notes.length (0:Int);rfl;rfl;rfl;rfl;rfl;rfl;rfl;omega;decide;decide;rfl)|(apply eC;rfl;rfl;rfl)|refine go1 ?_|fail)
 all_goals try omega
 rw[h];apply Ad.EY (q.p.notes.length) [(1,_),(3,_),(11,_)] [(0,_)] (fun k r=>(12,.p (.int .i64 (k:Int)))::r) (fun k r=>(1,.vec 3 (cells (Yd q k)) q.p.notes.length false)::r) 2
 ·first|omega|decide
 ·first|omega|decide
 ·exact Ns
 ·exact O9
 ·intro k g
  have e:=U9 q f k g;have o:=O4 q k;cases hp:FK q k with
  |true =>
   have d:=b8y q g hp;rw[hp] at e
   repeat' (first|(apply lf e;rfl;rfl;exact .of_eq rfl;exact eA rfl)|(apply g9 (l:=Yd q k) (i:=k);rfl;rfl;rfl;rfl;omega)|(apply kz (l:=Yd q k) (i:=k) (y:=(2:Int));rfl;rfl;rfl;trivial;rfl;rfl;rfl;decide;omega)|refine go1 ?_|refine a7 ?_|(apply a8;rfl)|(apply b8;rfl)|(intro _;try omega))
   all_goals try omega
   all_goals try contradiction
   refine Aj.normal ⟨by first|omega|decide,?_,?_⟩
   ·try(rw[← d])
    exact Dh
   ·rw[← d]
    exact DT
  |false =>
   have d:=a7u q hp;rw[hp] at e
   repeat' (first|(apply lf e;rfl;rfl;exact .of_eq rfl;exact eA rfl)|refine go1 ?_|refine a7 ?_|(apply a8;rfl)|(apply b5;rfl)|(intro _;try omega))
   all_goals try omega
   all_goals try contradiction
   refine Aj.normal ⟨by first|omega|decide,?_,?_⟩
   ·try(rw[← d])
    exact Dh
   ·rw[← d]
    exact DT
 ·repeat' (first|(refine eB 2 ?_;refine c7 (b6 22 rfl rfl) ?_)|apply ce|apply jx|apply BK.normal|apply Bj.exit|apply Aj.exit|apply Ad.ret|apply Ah.nil|apply c9|(apply Aa.assign;rfl)|(apply Aa.move;rfl)|refine a7 ?_|(apply a8;rfl)|(intro _;try omega))
  all_goals first|omega|(refine aa ?_;try rfl)
theorem a2d(h:o=some (.p (.lst e cs k))):∃y,o=some y∧(∀m F σ v,RP m F (htag H) σ nx y v→∃a g,v=.slice a k g):=by
 refine⟨_,h,fun m F σ v d=>?_⟩;cases d with
 |p d=>cases d<;>exact⟨_,_,rfl⟩
def qh(N l:List Int):Nat→List UInt8
 |0=>[]
 |k+1=>qh N l k++[UInt8.ofNat (gi l (gi N k).toNat).toNat]
theorem WG(N l:List Int):∀k,(qh N l k).length=k
 |0=>rfl
 |k+1=>by
  show(qh N l k++[_]).length=k+1;rw[ar,WG N l k];rfl
def QJ(N l:List Int):List UInt8:=qh N l N.length
theorem uJ(q:Qu)(s:qA)(z:VB q s.notes)(y:s.notes.length≤1000)(l:List Int)(F:l.length=q.p.notes.length)(j:∀i,i<l.length→0≤gi l i∧gi l i≤2):Ak env 42 [.agg (Enc.enc q),.agg (Enc.enc s),.lst 3 (cells l) l.length] (st (QJ s.notes l)):=by
 unfold QJ;refine Ak.enter (Af (by decide)) Tryz.func42 rfl (by kernel_rfl) (by simp[Tryz.ntmps42]) ?_
 repeat' (first|(refine Ad.at 2 ?_;refine cb (iD 7 5 rfl) ?_;first|apply ce|apply da)|refine go2 ?_|apply ce)
 all_goals try omega
 apply Ad.EY (s.notes.length) [(2,_),(11,_),(12,_)] [] (fun k r=>(13,.p (.int .i64 (k:Int)))::(7,.vec 2 (qh s.notes l k).length 0 (qh s.notes l k).length)::r) (fun k r=>(2,.vec 5 (cells (qh s.notes l k)) (qh s.notes l k).length true)::r) 3
 ·first|omega|decide
 ·first|omega|decide
 ·exact Ns
 ·exact O9
 ·intro k o
  obtain⟨J,I⟩:=z k o;obtain⟨m,e⟩:∃m:Nat,gi s.notes k=(m:Int):=⟨(gi s.notes k).toNat,by omega⟩
  have d:m<l.length:=by omega
  obtain⟨g,C⟩:=j m d;have f:qh s.notes l (k+1)=qh s.notes l k++[UInt8.ofNat (gi l m).toNat]:=by rw[← az m,← e];rfl
  have B:(qh s.notes l (k+1)).length=(qh s.notes l k).length+1:=by rw[f,ar];rfl
  have A:=WG s.notes l k;have w:(((UInt8.ofNat (gi l m).toNat).toNat:Nat):Int)=gi l m:=by rw[UInt8.toNat_ofNat'];omega
  generalize qh s.notes l k=X at *;rw[B,f];have u:[FV.int .u8 (gi l m)]=Enc.enc (UInt8.ofNat (gi l m).toNat):=by
   show _=[FV.int .u8 (((UInt8.ofNat (gi l m).toNat).toNat:Nat):Int)]
   rw[w]
  repeat' (first|(apply dl (l:=l) (i:=m);rfl;exact congrArg (fun b=>some (PV.p (.int .i64 b))) e;rfl;omega;rfl)|(apply kc;rfl;rfl;rfl;rfl;exact⟨g,by omega⟩)|(apply nv (l:=X) (a:=UInt8.ofNat (gi l m).toNat);rfl;rfl;rfl;rfl;exact u;rfl;rfl;rfl;(intro _ h;cases h);rfl;rfl;rfl;decide;decide;omega)|refine b9 ?_|refine go1 ?_|refine a7 ?_|refine bi ?_|(apply a8;rfl)|(intro _;try omega))
  all_goals try omega
  refine Aj.normal ⟨by first|omega|decide,?_,?_⟩
  ·exact Dh
  ·exact DT
 ·have A:=WG s.notes l s.notes.length
  generalize qh s.notes l s.notes.length=X at *
  repeat' (first|(refine eB 27 ?_;refine c7 (b6 26 rfl rfl) ?_)|apply ce|apply jx|apply BK.normal|apply Bj.exit|apply Aj.exit|apply Ad.ret|apply Ah.nil|apply c9|(apply mE (l:=X) (k:=X.length);exact uG.lst rfl (by rw[BD];rfl);exact a2d rfl;rfl;rfl;rfl)|(apply Aa.assign;rfl)|(apply Aa.move;rfl)|refine a7 ?_|(apply a8;rfl)|(intro _;try omega))
  all_goals first|omega|contradiction|(refine aa ?_;try rfl)
end Go.Proofs.YthlffjlbidibdaaGreatDoor
namespace Go.Am
variable {P:Program}{G:List Nat}
def keeps(d:Tmp):Code→Bool
 | .seq a b=>keeps d a&&keeps d b
 | .cond _ a b=>keeps d a&&keeps d b
 | .block _ b=>keeps d b
 | .loop b=>keeps d b
 | .scope b=>keeps d b
 | .region _ ops _=>ops.toList.all fun o=>o.dst != some d
 |_=>true
theorem OH(h:(dst != some d)=true):CO (IE t dst v) d=CO t d:=by
 cases dst with
 |none=>rfl
 |some x =>
  have f:x≠d:=fun e=>by grind
  simp only[IE,Dt,if_neg f]
theorem fE(h:JC P call ops o s=some s')(e:(o.dst != some d)=true):CO s'.t d=CO s.t d:=by
 unfold JC at h;split at h
 ·unfold uU at h
  split at h
  ·cases h;exact OH e
  grind
 ·cases h;exact OH e
theorem Ro:∀(l:List Oper) (s s':St),Jt P call ops l s=some s'→(l.all fun o=>o.dst != some d)=true→CO s'.t d=CO s.t d
 |[],s,s',h,_=>by cases h;rfl
 |o::l,s,s',h,hk=>by
  simp only[List.all_cons,Bool.and_eq_true] at hk;simp only[Jt] at h;cases h1:JC P call ops o s with
  |none=>grind
  |some s1 =>
   rw[h1] at h;exact(Ro l s1 s' h hk.2).trans (fE h1 hk.1)
theorem Zx:∀(l:List Oper) (i:Nat) (s s':St),I9 P call ops i l s=some s'→(l.all fun o=>o.dst != some d)=true→CO s'.t d=CO s.t d
 |[],i,s,s',h,_=>by cases h;rfl
 |o::l,i,s,s',h,hk=>by
  simp only[List.all_cons,Bool.and_eq_true] at hk;simp only[I9] at h;cases h1:NG P call ops i o s with
  |none=>grind
  |some s1 =>
   rw[h1] at h;refine(Zx l (i+1) s1 s' h hk.2).trans ?_;unfold NG at h1;split at h1
   ·rename_i s2 e
    split at h1
    ·cases h1
     have f:=fE e hk.1;omega
    grind
   grind
theorem a2u:∀(c:Code) (s s':St) (x:BP),BO P call N c s=some (x,s')→keeps d c=true→CO s'.t d=CO s.t d:=by
 intro c
 induction c with
 |skip=>intro s s' x h _;cases h;rfl
 |label l=>intro s s' x h _;cases h;rfl
 |ret=>intro s s' x h _;cases h;rfl
 |exit id=>intro s s' x h _;cases h;rfl
 |goto l=>intro s s' x h;cases h
 |scope b _=>intro s s' x h;cases h
 |refuse y=>intro s s' x h;cases h
 |rangeFunc f F y z u r =>
  intro s s' x h _;simp only[BO] at h;split at h
  case h_2=>cases h
  split at h
  case h_2=>cases h
  split at h
  case isFalse=>cases h
  split at h
  case h_2=>cases h
  split at h
  case h_2=>cases h
  rw[ae] at h;grind
 |seq C B j i =>
  intro s s' x h e;simp only[keeps,Bool.and_eq_true] at e;simp only[BO] at h;grind
 |cond I C B j i =>
  intro s s' x h e;simp only[keeps,Bool.and_eq_true] at e;simp only[BO] at h;grind
 |block id b A =>
  intro s s' x h e;simp only[keeps] at e;simp only[BO] at h;grind
 |loop b A =>
  intro s s' x h e;simp only[keeps] at e;simp only[BO] at h;have q:∀(k:Nat) (s s':St) (x:BP),iterate (BO P call N b) k s=some (x,s')→CO s'.t d=CO s.t d:=by
   intro k
   induction k with
   |zero=>intro s s' x h;cases h
   |succ k w =>
    intro s s' x h;simp only[iterate] at h;grind
  grind
 |region id p g =>
  intro s s' x h e;cases g with
  |false =>
   simp only[BO,Option.map_eq_some_iff] at h;obtain⟨s1,o,m⟩:=h;cases m;exact Ro _ _ _ o e
  |true =>
   simp only[BO,Option.map_eq_some_iff] at h;obtain⟨s1,o,m⟩:=h;cases m;exact Zx _ _ _ _ o e
end Go.Am
namespace Go.Vm
open Go.Am
structure Snd(E:Env):Prop where
 o:EI E.P E.G E.O
 mix:E.P.follows .mixedOrders=true
structure WAt(E:Env)(n:Nat)(B:Base)(ι:BJ)(m:Mem)(w:World)(t:Tr Value)(kp:Tmp→Bool)(L':Frame)(H':Heap)(nx':Nat)(a':Act)(w':World):Prop where
 ex:∃m' F' σ' t' ι',Ctx E.Γ m' F' σ' H' nx'∧RL m' F' (htag H') σ' nx' L' t'∧B.to m' F' σ' H' nx'∧Ext ι m w ι' m' w'∧Ep E.P E.G [] n ⟨t',m'⟩ ι' a' w'∧∀d,kp d=true→CO t' d=CO t d
def Ba(E:Env)(n bn:Nat)(c:Code)(L:Frame)(H:Heap)(nx:Nat)(Q:BP→Frame→Heap→Nat→Prop):Prop :=
 Snd E→codeOk E.G n c=true→flat c=true→∀(B:Base),B.nx=bn→∀m F σ t,Ctx E.Γ m F σ H nx→RL m F (htag H) σ nx L t→B.to m F σ H nx →
  ∀(ι:BJ) (a:Act) (w:World),Ep E.P E.G [] n ⟨t,m⟩ ι a w→∀R:Exit→Act→World→Prop,
   (∀e L' H' nx' a' w',Q e L' H' nx'→WAt E n B ι m w t (fun d=>keeps d c) L' H' nx' a' w'→R e.toExit a' w')→c.wpIn Fence.wide 0 E.P R a w
variable {E:Env}{n bn:Nat}{L:Frame}{H:Heap}{nx:Nat}{Q:BP→Frame→Heap→Nat→Prop}{a b c k:Code}{id:Nat}{x:Operand}
theorem kg(h:Ad E bn c L H nx Q):Ba E n bn c L H nx Q:=by
 intro i u y B S m F σ t V U T ι ac w s R O;obtain⟨e,p,⟨K,C⟩,L',H',r,F',j,q,Z,Y,X⟩:=h B S m F σ t V U T;have z:=C K K (ab _) (ab _);have f:=Ib (N:=K) i.o i.mix K;refine(wpIn_wide (n:=0)).2 ((wpIn_wide (n:=0)).1 (Y7 f (kW i.o K) (aZ f (Qa i.o K) i.mix) c w.heap.size [] none 0 ⟨t,m⟩ p e ι ac w R (.inl rfl) u z s (ab _) fun W a' w' A hm I=>?_));obtain rfl:=I y;obtain⟨l,J,g⟩:=A;exact O e L' H' r a' w' q ⟨p.m,F',j,p.t,l,Z,Y,X,J,g,fun d M=>a2u c _ _ _ z M⟩
theorem Ba.mono(h:Ba E n bn c L H nx R)(o:∀e f H' d,R e f H' d→Q e f H' d):Ba E n bn c L H nx Q :=
 fun l i j B r m F σ t y u s ι z w g C p=>h l i j B r m F σ t y u s ι z w g C fun e f H' d A w' q=>p e f H' d A w' (o _ _ _ _ q)
def Et(E:Env)(n bn:Nat)(k:Code)(Q:BP→Frame→Heap→Nat→Prop)(e:BP)(L:Frame)(H:Heap)(nx:Nat):Prop :=
 match e with
 | .normal=>Ba E n bn k L H nx Q
 | .ret=>Q .ret L H nx
 | .exit i=>Q (.exit i) L H nx
theorem Et.normal(h:Ba E n bn k L H nx Q):Et E n bn k Q .normal L H nx:=h
theorem Et.ret(h:Q .ret L H nx):Et E n bn k Q .ret L H nx:=h
theorem Et.exit(h:Q (.exit i) L H nx):Et E n bn k Q (.exit i) L H nx:=h
theorem Ba.to(h:Ba E n bn a L H nx (Et E n bn k Q)):Ba E n bn (.seq a k) L H nx Q:=by
 intro V l o B W m F σ t h1 h2 h3 ι ac w s R M;simp only[codeOk,Bool.and_eq_true] at l;simp only[flat,Bool.and_eq_true] at o;refine wpIn_seq (h V l.1 o.1 B W m F σ t h1 h2 h3 ι ac w s _ fun e X Y p T w' q hw=>?_);obtain⟨C,U,g,A,j,S,O,N,K,f,hkp⟩:=hw.ex;cases e with
 |normal =>
  refine q V l.2 o.2 B W C U g A S O N j T w' f R fun e2 L2 H2 Z a2 w2 q2 I=>M e2 L2 H2 Z a2 w2 q2 ?_
  obtain⟨m2,F2,y,t2,z,d1,d2,d3,J,r,c3o⟩:=I.ex;exact⟨m2,F2,y,t2,z,d1,d2,d3,Ext.trans s.1 K J,r,fun d u=>by
   simp only[keeps,Bool.and_eq_true] at u;grind⟩
 |ret=>exact M .ret X Y p T w' q ⟨C,U,g,A,j,S,O,N,K,f,fun d u=>by simp only[keeps,Bool.and_eq_true] at u;grind⟩
 |exit i=>exact M (.exit i) X Y p T w' q ⟨C,U,g,A,j,S,O,N,K,f,fun d u=>by simp only[keeps,Bool.and_eq_true] at u;grind⟩
theorem eN(h:Ah E bn ops ops.toList L H nx fun e H' d=>Ba E n bn k e H' d Q):Ba E n bn (.seq (.region id ops false) k) L H nx Q:=Ba.to (kg (Ad.region h))
theorem k9(h:Ai E bn ops 0 ops.toList L H nx fun e H' d=>Ba E n bn k e H' d Q):Ba E n bn (.seq (.region id ops true) k) L H nx Q:=Ba.to (kg (ka h))
theorem Ba.region(h:Ah E bn ops ops.toList L H nx (Q .normal)):Ba E n bn (.region id ops false) L H nx Q:=kg (Ad.region h)
theorem ob(h:Ai E bn ops 0 ops.toList L H nx (Q .normal)):Ba E n bn (.region id ops true) L H nx Q:=kg (ka h)
theorem Ba.skip(h:Q .normal L H nx):Ba E n bn .skip L H nx Q:=kg (Ad.skip h)
theorem Ba.ret(h:Q .ret L H nx):Ba E n bn .ret L H nx Q:=kg (Ad.ret h)
theorem Ba.exit(h:Q (.exit i) L H nx):Ba E n bn (.exit i) L H nx Q:=kg (Ad.exit h)
theorem Ba.at(r:Nat)(h:Ba E n bn (.seq (.region r ops d) k) L H nx Q):Ba E n bn (.seq (.region r ops d) k) L H nx Q:=h
theorem j9(r:Nat)(h:Ba E n bn (.region r ops d) L H nx Q):Ba E n bn (.region r ops d) L H nx Q:=h
theorem ju(g:Ap E L H nx j H' d)(h:Ba E n bn c j H' d Q):Ba E n bn c L H nx Q:=by
 intro l f i B o m F σ t r q p;obtain⟨y,e,w,u,s⟩:=g B m F σ t r q p;exact h l f i B o m y e t w u s
theorem Ba.cond(u:Bool)(hc:AY E.Γ L x=some (.p (.bool u)))(ht:u=true→Ba E n bn a L H nx Q)(hf:u=false→Ba E n bn b L H nx Q):Ba E n bn (.cond x a b) L H nx Q:=by
 intro W h o B Y m F σ t J I Z ι O w g R X;simp only[codeOk,Bool.and_eq_true] at h;simp only[flat,Bool.and_eq_true] at o;have hv:=IU J I hc;have r:O.eval x=.bool u:=((KC g.1 g.2 h.1.1).KW u).1 hv;cases u with
 |true=>exact wpIn_cond_true r (ht rfl W h.1.2 o.1 B Y m F σ t J I Z ι O w g R fun e T U l S w' q z=>X e T U l S w' q ⟨by
  obtain⟨y,V,i,s,j,N,M,K,r,f,A⟩:=z.ex;exact⟨y,V,i,s,j,N,M,K,r,f,fun d C=>by simp only[keeps,Bool.and_eq_true] at C;grind⟩⟩)
 |false=>exact wpIn_cond_false r (hf rfl W h.2 o.2 B Y m F σ t J I Z ι O w g R fun e T U l S w' q z=>X e T U l S w' q ⟨by
  obtain⟨y,V,i,s,j,N,M,K,r,f,A⟩:=z.ex;exact⟨y,V,i,s,j,N,M,K,r,f,fun d C=>by simp only[keeps,Bool.and_eq_true] at C;grind⟩⟩)
theorem j5(e:AY E.Γ L x=some (.p (.bool true)))(d:Ba E n bn a L H nx Q):Ba E n bn (.cond x a b) L H nx Q:=Ba.cond true e (fun _=>d) (fun h=>by cases h)
theorem f7(e:AY E.Γ L x=some (.p (.bool false)))(d:Ba E n bn b L H nx Q):Ba E n bn (.cond x a b) L H nx Q:=Ba.cond false e (fun h=>by cases h) (fun _=>d)
theorem j4{p:Prop}{_:Decidable p}(f:AY E.Γ L x=some (.p (.bool (decide p))))(d:p→Ba E n bn a L H nx Q)(e:¬ p→Ba E n bn b L H nx Q):Ba E n bn (.cond x a b) L H nx Q :=
 Ba.cond (decide p) f (fun h=>d (of_decide_eq_true h)) (fun h=>e (of_decide_eq_false h))
theorem Ba.block(h:Ba E n bn b L H nx (Bj id Q)):Ba E n bn (.block id b) L H nx Q:=by
 intro z s u B A m F σ t J I C ι K w r R p;refine wpIn_block (h z s u B A m F σ t J I C ι K w r _ fun e l o f j w' q y=>?_);have g:WAt E n B ι m w t (fun d=>keeps d (.block id b)) l o f j w':=⟨y.ex⟩
 cases e with
 |normal=>exact p .normal l o f j w' q g
 |ret=>exact p .ret l o f j w' q g
 |exit i =>
  show(if i=id then R .normal j w' else R (.exit i) j w');simp only[Bj] at q;split
  ·rename_i e;rw[if_pos e] at q;exact p .normal l o f j w' q g
  ·rename_i e;rw[if_neg e] at q;exact p (.exit i) l o f j w' q g
theorem Ba.D7{α:Type}(M:α→Frame)(r:α→Heap)(C9:Nat)(l:α→Prop)(μ:α→Nat)(C:α)(hb:bn≤C9)(h0:l C)(hc:Xz L H nx (M C) (r C) C9)
 (hs:∀s,l s→Ba E n bn a (M s) (r s) C9 (Aj (fun O H' j=>∃s',l s'∧μ s'<μ s∧Xz O H' j (M s') (r s') C9) Q)):Ba E n bn (.loop a) L H nx Q:=by
 intro V W Z B hB m F σ t h1 h2 h3 ι ac w A R hR;refine wpIn_loop_rounds (μ C+1) ?_;have T:∀N s,l s→μ s<N→∀m1 I f y h K u,Ctx E.Γ m1 I f (r s) C9→RL m1 I (htag (r s)) f C9 (M s) y→B.to m1 I f (r s) C9→Ext ι m w h m1 u→Ep E.P E.G [] n ⟨y,m1⟩ h K u→(∀d,keeps d a=true→CO y d=CO t d) →
  Code.roundsIn Fence.wide 0 E.P a R N K u:=by
  intro N
  induction N with
  |zero=>simp
  |succ N ih =>
   intro s hi hlt m1 I f y h K u c1 c2 c3 he1 z Y;refine hs s hi V W Z B hB m1 I f y c1 c2 c3 h K u z _ fun e O H' j a' w' q hw=>?_
   obtain⟨S,F',o,J,p,d1,d2,d3,he,g,X⟩:=hw.ex;have hE:=Ext.trans A.1 he1 he;have hK:∀d,keeps d a=true→CO J d=CO t d:=fun d hd=>(X d hd).trans (Y d hd)
   cases e with
   |normal =>
    obtain⟨s',i1,i2,U⟩:=q;exact ih s' i1 (by omega) S F' o J p a' w' (U.ctx d1) (U.rl d2) (U.step (by omega) d3) hE g hK
   |ret=>exact hR .ret O H' j a' w' q ⟨S,F',o,J,p,d1,d2,d3,hE,g,hK⟩
   |exit i=>exact hR (.exit i) O H' j a' w' q ⟨S,F',o,J,p,d1,d2,d3,hE,g,hK⟩
 exact T _ C h0 (bN _) m F σ t ι ac w (hc.ctx h1) (hc.rl h2) (hc.step (by omega) h3) (Ext.refl _ _ _) A fun _ _=>rfl
def Xq(d:Tmp)(l:List Oper):Bool:=l.all fun o=>o.dst != some d
def Cc(E:Env)(n bn:Nat)(ops:Array Oper)(l:List Oper)(L:Frame)(H:Heap)(nx:Nat)(Q:Frame→Heap→Nat→Prop):Prop :=
 Snd E→(∀o∈l,I5 E.G n o=true)→∀(B:Base),B.nx=bn→∀m F σ t,Ctx E.Γ m F σ H nx→RL m F (htag H) σ nx L t→B.to m F σ H nx →
  ∀(ι:BJ) (a:Act) (w:World),Ep E.P E.G [] n ⟨t,m⟩ ι a w→∀R:Exit→Act→World→Prop,
   (∀L' H' nx' a' w',Q L' H' nx'→WAt E n B ι m w t (fun d=>Xq d l) L' H' nx' a' w'→R .normal a' w')→wpListIn Fence.wide 0 E.P ops R l a w
theorem Cc.nil(h:R L H nx):Cc E n bn ops [] L H nx R :=
 fun _ _ B _ m F σ t i g f ι j w d l e=>e L H nx j w h ⟨m,F,σ,t,ι,i,g,f,Ext.refl _ _ _,d,fun _ _=>rfl⟩
theorem Cc.step(W:Snd E)(j:∀o∈(⟨dst,op,ty,pos,af,none⟩::l:List Oper),I5 E.G n o=true)
  (Z:B.nx=bn)     (h1:Ctx E.Γ m F σ H nx) (h2:RL m F (htag H) σ nx L t) (h3:B.to m F σ H nx)    (i:Ep E.P E.G [] n ⟨t,m⟩ ι ac w)
  (Y:∀N H' e a' w',R N H' e→WAt E n B ι m w t (fun d=>Xq d (⟨dst,op,ty,pos,af,none⟩::l)) N H' e a' w'→J .normal a' w') 
 (q:Cc E n bn ops l (IJ L dst r) H' e R) (c1:Ctx E.Γ m' s f H' e) (c2:RP m' s (htag H') f e r v) (M:Step m F σ H nx m' s f H' e) (K:Ext ι m w g m' w') (Dk:DR E.P E.G g m' w') (V:Az g m'.gen v v') :
 wpListIn Fence.wide 0 E.P ops J l (ac.put dst v') w':=by
 have p:=(DV (j _ (bX ..))).2;refine q W (fun o X=>j o (am _ X)) B Z m' s f (IE t dst v) c1 ((h2.step M h1).put c2) (h3.trans M) g _ w' ⟨Dk,(i.2.mono K.le).put p V⟩ J fun L2 H2 O a2 S U z=>Y L2 H2 O a2 S U ?_
 obtain⟨m2,F2,u,T,y,d1,d2,d3,A,h,I⟩:=z.ex;refine⟨m2,F2,u,T,y,d1,d2,d3,Ext.trans i.1 K A,h,fun d C=>?_⟩;simp only[Xq,List.all_cons,Bool.and_eq_true] at C;exact(I d C.2).trans (OH C.1)
theorem NY(h:o.guard=none):Region.wanted o y=true:=by unfold Region.wanted;rw[h]
theorem hU(h:Aa E true ⟨dst,op,ty,pos,af,none⟩ L H nx fun r H' f=>Cc E n bn ops l (IJ L dst r) H' f R) :
 Cc E n bn ops (⟨dst,op,ty,pos,af,none⟩::l) L H nx R:=by
 intro j g B O m F σ t u s S ι W w d y M;obtain⟨v,m',⟨K,I⟩,r,H',f,F',z,q,V,U,T,_⟩:=h m F σ t u s;have i:=I K K (ab _) (ab _);have e:=Ib (N:=K) j.o j.mix K;have p:=(DV (g _ (bX ..))).1;have:=PD (rf:=none) (nn:=0) (a:=W) (K:=wpListIn Fence.wide 0 E.P ops y l) (Q:=y) e d.1 (fun x i=>KC d.1 d.2 (p x i)) i fun Z w' C=>by
  obtain⟨A,J,Y,X⟩:=C;exact Cc.step j g O u s S d M q V U T J Y X
 exact this
def F8(E:Env)(f:FuncId)(args:List PV)(H:Heap)(nx:Nat)(Q:PV→Heap→Nat→Prop):Prop :=
 Snd E→∀m F σ Bo,Ctx E.Γ m F σ H nx→Dw m F (htag H) σ nx args Bo→∀(ι:BJ) (w:World) (as':Array Value),DR E.P E.G ι m w→BF ι m.gen Bo as'.toList →
  Calls E.P f as' w fun e w'=>∃v',e=.returned v'∧∃r H' nx' m' F' σ' v ι',Q r H' nx'∧Ctx E.Γ m' F' σ' H' nx'∧RP m' F' (htag H') σ' nx' r v∧Step m F σ H nx m' F' σ' H' nx'∧Ext ι m w ι' m' w'∧DR E.P E.G ι' m' w'∧Az ι' m'.gen v v'
theorem F8.enter{Q:PV→Heap→Nat→Prop}(X:E.P.funcs[f]?=some fn)(hb:fn.body=some c)(C:IV E.G fn c=true)(W:flat c=true)(hn:args.length≤fn.ntmps)
 (h:Ba E fn.ntmps nx c (CS 0 args) H nx (Done E.P fn.results.toList nx Q)):F8 E f args H nx Q:=by
 intro hs m F σ I h1 h2 ι w d Dk s;unfold IV at C;simp only[Bool.and_eq_true] at C;have hlen:I.length≤fn.ntmps:=by rw[← h2.length];omega
 have T:d.size=I.length:=by have:=s.1;grind
 have S:Ep E.P E.G [] fn.ntmps { t:=tmpsOf 0 I .leaf,m:=m } ι { tmps:=d++Array.replicate (fn.ntmps-d.size) undef,defers:=[] } w:=by
  refine⟨Dk,by grind,rfl,fun i=>?_⟩;rw[Hq];by_cases V:i<I.length
  ·have h1:=s.2 i V
   have U:i<d.size:=by omega
   have e:(d++Array.replicate (fn.ntmps-d.size) undef).getD i undef=d.toList.getD i undef:=by
    rw[cV,dc U,getD_eq,iu]
   grind
  ·rw[if_neg (by omega)]
   have e1:CO (.leaf:Tr Value) i=undef:=mT _ _;have e2:(d++Array.replicate (fn.ntmps-d.size) undef).getD i undef=undef:=by
    rw[cV,gz (by omega)];grind
   rw[e1,e2];exact Az.undef
 have Y:RL m F (htag H) σ nx (CS 0 args) (tmpsOf 0 I .leaf):=by
  intro i v V;obtain⟨_,Z⟩:=Jz args 0 i v V;obtain⟨u,h4,h5⟩:=h2.get Z;have:=Hq I 0 .leaf i;grind
 refine(callsIn_wide (n:=0)).1 (callsIn_of_wp_marks X hb trivial ?_);refine h hs C.2 W ⟨m,F,σ,H,nx⟩ rfl m F σ _ h1 Y (Step.refl _ _ _ _ _) ι _ w S _ fun e L' A g a' w' q hw=>?_
 obtain⟨y,O,o,t',l,c1,c2,c3,j,p,_⟩:=hw.ex;have K:(∃r,EJ E.P fn.results.toList L' A=some r∧Ret nx Q r A g)→LeavesInM Fence.wide 0 E.P fn a'.tmps (fun e w'=>∃J,e=.returned J∧∃r A g y O o v l,Q r A g∧Ctx E.Γ y O o A g∧RP y O (htag A) o g r v∧Step m F σ H nx y O o A g∧Ext ι m w l y w'∧DR E.P E.G l y w'∧Az l y.gen v J) a'.defers .returning w':=by
  rintro⟨r0,hr,r,H0,C9,q1,q2,q3,q4,q5,q6⟩;obtain⟨v,Z,h4⟩:=LZ c1 c2 hr;have z:Xz L' A g [] H0 C9:=⟨q4,trivial,q3⟩
  rw[p.2.defers];refine Qe (B:=w'.heap.size) [] w' (ab _) p.1 fun R g1 g2 g3 g4 g5 g6=>?_
  have M:Ep E.P E.G [] fn.ntmps ⟨t',y⟩ l a' R:=⟨g1,p.2⟩
  obtain⟨J,r1,r2⟩:=QF M Z;refine⟨J,r1,J,rfl,r,H0,C9,y,O,o,v,l,q6,z.ctx c1,RP.low (fun b t=>BN.tag q3 b t) q2 (RP.le q1 h4),z.step (B:=⟨m,F,σ,H,nx⟩) q5 c3,?_,g1,r2⟩;exact⟨j.size,j.low,j.keep,j.ro,j.ro',j.le,j.back,j.dom,an j.heap g2,fun c N X=>(g3 c (ag N j.heap)).trans (j.frame c N X),g4.trans j.tape,g5.trans j.os,g6.trans j.output⟩
 cases e with
 |exit i=>exact q.elim
 |normal=>exact K q
 |ret=>exact K q
theorem Cc.iG{dst:Option Tmp}
 (K:Enters E.P g) (hf:AY E.Γ L A=some (.clo g fs cs)) (ha:evs E.Γ L args.toList=some Bo) (V:OE (fs++Bo++cs) (CZ.rn (rho ns nx) ac)) (hu:CZ.under ns.length ac) (hHu:Nk ns.length Hc) (hin:HIn (rho ns nx) H Hc) (T:ns.Nodup) (U:∀b∈ns,b<nx)
 (hc:F8 E g ac Hc ns.length Qc) (hq:∀r H' f,Qc r H' f→Cc E n bn ops l (IJ L dst (r.rn (rho ns nx))) (news ns.length (rho ns nx) H' (merge ns (rho ns nx) H' H)) (nx+(f-ns.length)) R) :
 Cc E n bn ops (⟨dst,.call { callee:=.value A,args:=args,argTypes:=aT },ty,pos,af,none⟩::l) L H nx R:=by
 intro hs J B hB m F σ t N M h3 ι j w d R' hR;obtain⟨vf,vc,O,Y,Uk,z,y⟩:=yj (w:=true) hf ha V hu hHu hin T U (fun e=>by cases e) N M;have I:=(DV (J _ (bX ..))).1;have p:=KC d.1 d.2 (I A (by simp[Op.operands,Call.operands]));rw[Y] at p;obtain⟨h,i,e1,W,Z⟩:∃h i,j.eval A=.func (.func g) h i∧BF ι m.gen vf h.toList∧BF ι m.gen vc i.toList:=by
  generalize j.eval A=u at p;cases p with
  |fn _ l1 l2 l3 l4 N M h3 h4=>exact⟨⟨l2⟩,⟨l4⟩,rfl,⟨N,M⟩,⟨h3,h4⟩⟩
 obtain⟨fn,X,hbody,o⟩:=K;have s:=hc hs m F O _ Uk z ι w (h++args.map j.eval++i) d.1 (by
  rw[ez,ez,bL];exact(W.append (lA fun x hx=>KC d.1 d.2 (I x (by simp[Op.operands,Call.operands];grind)))).append Z)
 have C:(execOp j.eval ⟨dst,.call { callee:=.value A,args:=args,argTypes:=aT },ty,pos,af,none⟩).run E.P w=.ok (.enter g (h++args.map j.eval++i)) w:=by
  simp only[execOp,resolve,e1,Deferred.ofValue,Sem.run_bind,Sem.run_pure,Result.andThen_ok,invoke,callFunc,run_program,X,o,Bool.false_eq_true,if_false];have:fn.body.isNone=false:=by cases hb:fn.body<;>simp_all
  simp[this]
 unfold wpListIn;unfold Oper.wpIn;rw[Oper.semAt_eq _ _ _ (fun c hc=>by grind),C];refine⟨fun _ _=>trivial,?_⟩;refine⟨(fun hh=>by cases hh),?_⟩;refine((callsIn_wide (n:=0)).2 s).mono fun e w' he=>?_
 obtain⟨v',rfl,r,H',f,m',F',S,v,ι',q,c1,c2,c3,x1,x2,x3⟩:=he;obtain⟨σn,d1,d2,d3,_⟩:=y v m' r H' f F' S c1 c2 c3;exact Cc.step hs J hB N M h3 d hR (hq r H' f q) d1 d2 d3 x1 x2 x3
theorem Ba.qP(h:Cc E n bn ops ops.toList L H nx (Q .normal)):Ba E n bn (.region id ops false) L H nx Q:=by
 intro i d j B p m F σ t u s r ι y w f R l;simp only[codeOk,Bool.and_eq_true] at d;refine wpIn_region_list (h i (fun o I=>bl.1 d.1 o (by grind)) B p m F σ t u s r ι y w f R fun A C e z w' q g=>l .normal A C e z w' q g)
theorem ki(h:Cc E n bn ops ops.toList L H nx fun e H' d=>Ba E n bn k e H' d Q):Ba E n bn (.seq (.region id ops false) k) L H nx Q:=Ba.to (Ba.qP h)
end Go.Vm
