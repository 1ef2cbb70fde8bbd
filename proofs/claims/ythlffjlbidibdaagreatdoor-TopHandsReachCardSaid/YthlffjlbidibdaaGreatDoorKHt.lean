/-
  Texts of a proof, merged (HanPl, HanTw). Conditions: in each statement.
-/
import Derived.Test.YthlffjlbidibdaaGreatDoorKHs
set_option linter.unusedSimpArgs false
set_option autoImplicit true
set_option relaxedAutoImplicit true
set_option linter.unusedVariables false
set_option linter.unusedSectionVars false
set_option maxRecDepth 100000
set_option maxHeartbeats 8000000
namespace Go.Proofs.YthlffjlbidibdaaGreatDoor
open Go Go.Am Go.Vm Go.Pie Go.Sch
attribute [local irreducible] Aa Ah Ai Ad AL Ak Bf BK Bj Aj Vm.Done Bv AP Nl Ba Cc Et GY F8 Hold
attribute [local irreducible] Cb Bg D5 DU EF AV CB
theorem a7p(p:Ez)(L:List Int)(d:Nat):∀k,Oc p L d k=V3 p L (fun _=>true) d k
 |0=>rfl
 |k+1=>by
  show(if(gi p.notes (gi L k).toNat).d=(d:Int) then Oc p L d k++[(gi p.notes (gi L k).toNat).k] else Oc p L d k)=_;rw[FT,a7p p L d k];simp
theorem a8e(q:Qu)(a:t<(Bc q.p).length):a0a q.o q.p (Oj q t).s=F7 q (Dy q t) fun _=>true:=by
 rw[a4y q a,Px q a];refine Ld fun d _=>?_
 unfold VK;rw[a7p]
theorem d0g(b:IQ q)(f:t<(Bc q.p).length):atE q.o q.p (Oj q t).s=0:=by
 rw[a4y q f];have y:=VX q.p;have g:=Vl q.p (i:=t) (j:=t+1) (by omega) (by omega);have a:∀i,i<(DC q.p).length→Ll q.p≤gi (DC q.p) i∧gi (DC q.p) i≤LW q.p:=fun i m=>by
  have n:Ll q.p<LW q.p:=by
   have z:=b.p.bars;have c:∀k,1≤k→k<q.p.bars.length→gi q.p.bars 0<gi q.p.bars k:=fun k=>by
    induction k with
    |zero=>simp
    |succ k x =>
     intro _ l;have A:=(b.p.bar (k+1) l).2 (by omega);grind
   exact c (q.p.bars.length-1) (by omega) (by omega)
  rcases(VT _ _ _).1 ((ah _ _).1 (Dj m)) with e|e|⟨j,d,e|e⟩
  ·omega
  ·omega
  ·have:=(b.p.note j d).r;omega
  ·have:=(b.p.note j d).r;omega
 have w:=a t (by omega);have u:=a (t+1) (by omega);unfold atE;rw[if_neg (fun h=>h b.e),if_neg (by omega)]
theorem ZH(x:jK)(T:x.Ok)(y:Rch)(hy:y.Ok):GY Gv 3 [.agg x.enc,.agg y.enc] (.p (.bool true)):=by
 have A:=b7b qj;have M:=Nw (a3j x T);by_cases j:QA x
 ·rw[decide_eq_true j] at M
  have L:=Nw (uH x T j y hy);have c:=d1r x T j y;have hn:=d0m x j y;unfold mkH at *;generalize bP x.org=o at *;generalize mkP x=p at *;generalize mkY y=z at *;have w:p.notes.length≤8:=hn;have n:=b7b (jc _ c (by omega));have U:=Nw (Q7 c.o.sm c.e c.p);obtain⟨P,H⟩:∃P:Nat→Bool,P=fun i=>!posB z o (F7 ⟨o,p,z⟩ (Dy ⟨o,p,z⟩ i) fun _=>true):=⟨_,rfl⟩
  have u:=ZG ⟨o,p,z⟩ c P H;have hSl:=Qk p;have I:∀k,k<(Bc p).length→Ak Gv 10 [.agg (Enc.enc o),.agg (Enc.enc p),.int .i64 (gi (Bc p) k).s] (.DK [.p (.lst 106 (cells (F7 ⟨o,p,z⟩ (Dy ⟨o,p,z⟩ k) fun _=>true)) (F7 ⟨o,p,z⟩ (Dy ⟨o,p,z⟩ k) fun _=>true).length),.p (.int .i64 0)]):=fun k f=>by
   have:=Nw (b1q c.o c.p (gi (Bc p) k).s (d0g c f));rw[show a0a o p (gi (Bc p) k).s=_ from a8e ⟨o,p,z⟩ f] at this;exact this
  have F:∀k,k<(Bc p).length→Ak Gv 11 [.agg (Enc.enc z),.lst 114 (cells o.Ae) o.Ae.length,.lst 106 (cells (F7 ⟨o,p,z⟩ (Dy ⟨o,p,z⟩ k) fun _=>true)) (F7 ⟨o,p,z⟩ (Dy ⟨o,p,z⟩ k) fun _=>true).length] (.DK [.p (.bool (!P k)),.p (.int .i64 0)]):=fun k f=>by
   have:=UG z c.y o c.o (F7 ⟨o,p,z⟩ (Dy ⟨o,p,z⟩ k) fun _=>true) (Po _ _ _) (fun d Y=>bH c (G7 f) _ Y) (fun d Y=>a7c c (G7 f) Y);rw[H,Bool.not_not];exact this
  have hS:∀k,k<(Bc p).length→(∀i,i<(gi (Bc p) k).notes.length→0≤gi (gi (Bc p) k).notes i∧gi (gi (Bc p) k).notes i<p.notes.length)∧(gi (Bc p) k).notes.length≤p.notes.length:=fun k f=>⟨G7 (q:=⟨o,p,z⟩) f,rQ (q:=⟨o,p,z⟩) f⟩
  have hC:∀k,k<(Bc p).length→∃dg:List UInt8,decide (dg=[48])=P k∧GY Gv 12 [.agg (Enc.enc (⟨o,⟨[0,1],um p (gi (Bc p) k).notes (gi (Bc p) k).notes.length,[]⟩,z⟩:Qu))] (.DK [st dg,.p (.int .i64 0)]):=fun k f=>by
   have O:=G7 (q:=⟨o,p,z⟩) f;have hNl:(Dy ⟨o,p,z⟩ k).length≤p.notes.length:=rQ (q:=⟨o,p,z⟩) f;have ha:=Tf c f;refine⟨_,(c1p c O ha (by omega)).trans (by rw[H]),?_⟩;have:=b7b (YJ _ (d2z c O ha (by omega)) (show(Lr ⟨o,p,z⟩ (Dy ⟨o,p,z⟩ k)).notes.length≤12 by rw[OZ];omega));have e:=c1e (q:=⟨o,p,z⟩) (N:=Dy ⟨o,p,z⟩ k);show GY Gv _ [.agg (Enc.enc (⟨o,⟨[0,1],um p (Dy ⟨o,p,z⟩ k) (Dy ⟨o,p,z⟩ k).length,[]⟩,z⟩:Qu))] _;rw[show um p (Dy ⟨o,p,z⟩ k) (Dy ⟨o,p,z⟩ k).length=_ from e];exact this
  replace n:GY Gv 8 [.agg (Enc.enc (⟨o,p,z⟩:Qu))] (jf ⟨o,p,z⟩):=n;replace u:Ak Gv 9 [.agg (Enc.enc (⟨o,p,z⟩:Qu))] (.DK [.p (.int .i64 (max (Ey P (Bc p).length) 0)),.p (.bool (decide (0≤Ey P (Bc p).length))),.p (.int .i64 0)]):=u;have pk:(∃(fi:Int) (R:Bool),GY Gv 8 [.agg (Enc.enc (⟨o,p,z⟩:Qu))] (.DK [.p (.agg [.val (.slice none 0 0),.int .i64 0]),.p (.int .i64 24)])∧Ak Gv 9 [.agg (Enc.enc (⟨o,p,z⟩:Qu))] (.DK [.p (.int .i64 fi),.p (.bool R),.p (.int .i64 0)])∧(∀k,k<(Bc p).length→P k=true→R=true∧fi≤k)∧∀k,k<(Bc p).length→True) ∨
   ∃(a:List Int) (ca:Int),a.length=(⟨o,p,z⟩:Qu).p.notes.length∧GY Gv 8 [.agg (Enc.enc (⟨o,p,z⟩:Qu))] (.DK [.p (.agg [.lst 3 (cells a) a.length,.int .i64 ca]),.p (.int .i64 0)])∧Ak Gv 9 [.agg (Enc.enc (⟨o,p,z⟩:Qu))] (.DK [.p (.int .i64 0),.p (.bool false),.p (.int .i64 0)])∧(∀k,k<(Bc p).length→P k=true→false=true∧(0:Int)≤k)∧∀k,k<(Bc p).length→Ak Gv 13 [.agg (Enc.enc (⟨o,p,z⟩:Qu)),.agg [.lst 3 (cells a) a.length,.int .i64 ca],.agg (Enc.enc (gi (Bc p) k))] (.p (.bool true)):=by
   unfold jf at n;rcases a0u ⟨o,p,z⟩ with⟨hE,K⟩|⟨a,K,hA⟩
   ·rw[K] at n
    refine .inl ⟨_,_,n,u,fun k f h=>?_,fun _ _=>trivial⟩;have:=b0v f h;exact⟨decide_eq_true this.1,by omega⟩
   ·rw[K] at n
    have G:∀k,k<(Bc p).length→P k=false:=fun k f=>by
     rw[H];show(!posB z o (F7 ⟨o,p,z⟩ (Dy ⟨o,p,z⟩ k) fun _=>true))=false;rw[fin_pos c hA.1 f];rfl
    rw[zT.2 G] at u;exact .inr ⟨a,_,((Ku _ c a).1 hA.1).1,n,u,fun k f h=>absurd h (by rw[G k f];decide),fun k f=>Nw (zG _ c w hA.1 f)⟩
  clear H n u;generalize hKK:(fun k=>F7 ⟨o,p,z⟩ (Dy ⟨o,p,z⟩ k) fun _=>true)=KK at *;have J:∀k,(F7 ⟨o,p,z⟩ (Dy ⟨o,p,z⟩ k) fun _=>true)=KK k:=fun k=>by rw[← hKK]
  simp only[J] at I F;clear J hKK;generalize Bc p=S at *;refine GY.enter (E:=Gv) Tryz.func3 rfl (by kernel_rfl) (by kernel_rfl) (by simp[Tryz.ntmps3]) ?_;rcases pk with⟨fi,R,n,u,B,Q⟩|⟨a,ca,hal,n,u,B,Q⟩
  all_goals
   repeat' (first|(refine Ba.at 1 ?_;apply ki)|(refine Ba.at 5 ?_;apply ki)|(apply Cc.fn;rfl;rfl;exact A;exact Wj;intro _;rfl)|(apply Cc.fn;rfl;rfl;exact n;exact YW;intro _;rfl)|((refine Ba.at 9 ?_;refine Hold.of ?_))|apply eN|apply Et.normal|apply Ba.to|apply Ba.skip|(apply f7;rfl)|(apply j4;rfl)|apply Cc.nil|apply hU|refine a6 M ?_|refine a6 L ?_|refine a6 u ?_|refine a6 U ?_|refine go2 ?_|refine a7 ?_|(intro _;try omega)|(apply mB))
   all_goals try omega
   all_goals try contradiction
   refine Hold.go ?_
   repeat' (first|apply eN|apply Ba.block|refine go1 ?_|fail)
   all_goals try omega
   apply Ba.EY (S.length) [(4,_),(5,_),(8,_),(9,_),(10,_),(11,_),(86,_),(87,_)] [(2,_),(3,_)] (fun k r=>(88,.p (.int .i64 (k:Int)))::r) (fun k r=>r) 4
   ·first|omega|decide
   ·first|omega|decide
   ·exact Ns
   ·exact O9
   ·intro k f
    obtain⟨O,hNl⟩:=hS k f;obtain⟨dg,C,hCk⟩:=hC k f;have hKk:=I k f;have Z:=F k f;have W:=B k f;have Q:=Q k f;generalize P k=b at *
    repeat' (first|(refine Ba.at 13 ?_;refine ju (jw 6 5 64 rfl rfl) ?_;first|apply eN|apply k9)|(refine eB 96 ?_;refine c7 (b6 95 rfl rfl) ?_)|apply eN|apply Et.normal|apply Ba.to|apply Ba.block|apply Ba.skip|(apply j4;rfl)|apply Ah.nil|apply c9|(apply Aa.assign;rfl)|(apply Aa.move;rfl)|refine a7 ?_|refine b9 ?_|(apply Aa.load;rfl;rfl)|(apply kb;rfl;rfl)|(apply e8;rfl;rfl;rfl)|(apply Aa.alloc;rfl)|refine d9 ?_|refine b7 ?_|refine bi ?_|(intro _;try omega))
    all_goals try omega
    apply Ba.EY ((gi S k).notes.length) [(4,_),(5,_),(8,_),(9,_),(10,_),(11,_),(13,_),(14,_),(15,_),(86,_),(87,_),(88,_),(101,_),(102,_)] [(2,_),(3,_),(4,_)] (fun g r=>(103,.p (.int .i64 (g:Int)))::r) (fun g r=>(7,.vec 64 (cells (um p (gi S k).notes g)) (um p (gi S k).notes g).length true)::(6,.box 49 [.p (.str (bs o.name)),.p (.lst 188 (cells o.ranks) o.ranks.length),.p (.lst 114 (cells o.Ae) o.Ae.length),.p (.lst 207 (cells o.IW) o.IW.length),.p (.lst 3 (cells [(0:Int),1]) 2),.vec 7 (um p (gi S k).notes g).length 0 (um p (gi S k).notes g).length,.p (.val (.slice none 0 0)),.p (.int .i64 z.hn),.p (.int .i64 z.hs),.p (.int .i64 z.fn),.p (.int .i64 z.fs)])::r) 8
    ·first|omega|decide
    ·first|omega|decide
    ·exact Ns
    ·exact O9
    ·intro g V
     obtain⟨g1,g2⟩:=O g V;have g3:gi (gi S k).notes g<((⟨o,p,z⟩:Qu).p.notes.length:Int):=g2;obtain⟨m,L⟩:∃m:Nat,gi (gi S k).notes g=(m:Int):=⟨(gi (gi S k).notes g).toNat,by omega⟩
     have hmn:m<p.notes.length:=by omega
     have e2:um p (gi S k).notes (g+1)=um p (gi S k).notes g++[n01 (gi p.notes m)]:=by
      show um p (gi S k).notes g++[n01 (gi p.notes (gi (gi S k).notes g).toNat)]=_;rw[L];rfl
     have e3:(um p (gi S k).notes (g+1)).length=(um p (gi S k).notes g).length+1:=by rw[e2,ar];rfl
     have hXl:=a6s (p:=p) (N:=(gi S k).notes) g;rw[e3,e2];generalize um p (gi S k).notes g=X at *
     repeat' (first|apply eN|apply Ba.region|apply Et.normal|apply Ba.to|apply Ba.block|apply Ba.skip|(apply j4;rfl)|(apply dl (l:=p.notes) (i:=m);rfl;exact congrArg (fun b=>some (PV.p (.int .i64 b))) L;rfl;omega;rfl)|refine d7 (l:=X) (a:=n01 (gi p.notes m)) ?_|refine b9 ?_|refine Fh ?_|(apply Ah.guard;rfl;rfl)|refine a7 ?_|refine bi ?_|(intro _;try omega))
     all_goals try omega
     all_goals try contradiction
     refine Aj.normal ⟨by first|omega|decide,?_,?_⟩
     ·exact Dh
     ·exact DT
    ·cases b
     rotate_left
     obtain⟨K,e2⟩:=W rfl;cases K;all_goals
      repeat' (first|(refine Ba.at 24 ?_;apply ki)|(refine Ba.at 22 ?_;refine ju (e9 6 5 rfl rfl rfl) ?_;first|apply eN|apply k9)|(refine Ba.at 23 ?_;refine ju (jw 6 6 148 rfl rfl) ?_;first|apply eN|apply k9)|(apply Cc.fn;rfl;rfl;exact hCk;exact Wi;intro _;rfl)|(refine eB 151 ?_;refine c7 (e9 6 6 rfl rfl rfl) ?_)|apply eN|apply Ba.region|apply Et.normal|apply Et.exit|apply Ba.to|apply Ba.skip|apply Ba.exit|(apply f7;rfl)|(apply j4;rfl)|apply Cc.nil|apply hU|apply Bj.normal|apply Bj.exit|apply Aj.exit|apply Ah.nil|apply c9|(apply Ah.take;rfl;rfl)|(apply Ah.drop;rfl;rfl;rfl)|(apply nc;rfl;rfl)|refine a6 hKk ?_|refine a6 Z ?_|refine a6 Q ?_|(apply qs;rfl;rfl;exact C)|(apply Aa.assign;rfl)|(apply Aa.move;rfl)|(apply jl;rfl;rfl;omega)|refine a7 ?_|(apply Aa.load;rfl;rfl)|(apply lk;rfl;rfl)|(apply lv;rfl;rfl)|(apply e8;rfl;rfl;rfl)|(apply oR;rfl;rfl;rfl)|(apply Aa.not;rfl)|(apply Aa.extract;rfl;rfl)|(intro _;try omega))
     all_goals try omega
     all_goals try contradiction
     all_goals
      refine Aj.normal ⟨by first|omega|decide,?_,?_⟩
      ·exact Dh
      ·exact DT
   ·intros
    repeat' (first|apply eN|apply Et.normal|apply Et.exit|apply Ba.to|apply Ba.ret|apply Ba.exit|(apply j4;rfl)|refine go0 ?_|(intro _;try omega))
    all_goals first|omega|contradiction|(refine aa ?_;try rfl)
 ·rw[decide_eq_false j] at M
  refine GY.enter (E:=Gv) Tryz.func3 rfl (by kernel_rfl) (by kernel_rfl) (by simp[Tryz.ntmps3]) ?_
  repeat' (first|(refine Ba.at 1 ?_;apply ki)|(refine Ba.at 2 ?_;apply ki)|(apply Cc.fn;rfl;rfl;exact A;exact Wj;intro _;rfl)|apply eN|apply Et.ret|apply Ba.to|apply Ba.ret|(apply j5;rfl)|apply Cc.nil|apply hU|refine a6 M ?_|refine go2 ?_|(apply mB))
  all_goals first|omega|contradiction|(refine aa ?_;try rfl)
end Go.Proofs.YthlffjlbidibdaaGreatDoor
