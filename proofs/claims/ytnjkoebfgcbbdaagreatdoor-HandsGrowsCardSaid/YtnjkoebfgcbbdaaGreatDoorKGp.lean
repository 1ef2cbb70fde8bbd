/-
  Texts of a proof, merged (HanM, Vm45, HanQ, Wm5, HanN, HanS). Conditions: in each statement.
-/
import Derived.Test.YtnjkoebfgcbbdaaGreatDoorKGo
set_option linter.unusedSimpArgs false
set_option linter.unusedVariables false
set_option linter.unusedSectionVars false
set_option maxRecDepth 100000
set_option maxHeartbeats 8000000
abbrev cX:=@List.foldl_append
abbrev gx:=@List.flatMap_singleton
abbrev gO:=@List.map_eq_nil_iff
abbrev gP:=@List.flatMap_append
namespace Go.Vm
section
open Go.Am
theorem Aa.b0i {E:Env} {L:Frame} {H:Heap} {nx:Nat} {Q:PV→Heap→Nat→Prop} {w:Bool} {dst:Option Tmp} {ty:TypeId} {pos:String} {af:Array Edge} {gd:Option (Nat×Bool)} {α:Type} {_:Enc α} {t:TypeId} {x ix:Operand} {e:TypeId} {l:List α} {b n j:Nat} {z:Bool} {k:IntKind} {i:Nat} (hx:AU E.Γ L x=some (.vec b n 0 j)) (hb:hget H b=some (.vec e (cells l) n z)) (hi:AU E.Γ L ix=some (.p (.int k (i:Int))))
 (hs:elemSize E.P t=some (Enc.size α)) (h1:i<j) (q:Q (.EZ b n (i*Enc.size α)) H nx):Aa E w ⟨dst,.indexAddr t x ix,ty,pos,af,gd⟩ L H nx Q :=
 Aa.a4q hx hb hi hs (by omega) (by omega) (by grind)
end
section
open Go.Am
def Hold (p:Prop):Prop:=p
theorem Hold.of {p:Prop} (h:Hold p):p:=h
theorem Hold.go {p:Prop} (h:p):Hold p:=h
theorem Bz.Je {E:Env} {n bn:Nat} {L:Frame} {H:Heap} {nx:Nat} {ops:Array Oper} {l:List Oper} {R:Frame→Heap→Nat→Prop} {op:Op} {ty:TypeId} {pos:String} {af:Array Edge} (d:Tmp) (h:Bz E n bn ops (⟨some d,op,ty,pos,af,none⟩::l) L H nx R):Bz E n bn ops (⟨some d,op,ty,pos,af,none⟩::l) L H nx R:=h
end
end Go.Vm
namespace Go.Proofs.YtnjkoebfgcbbdaaGreatDoor
open Go Go.Am Go.Vm Go.Pie Go.Sch
attribute [local irreducible] Aa Ai Ag Ad AP Ak Bf BM Bq Ah Vm.Done BD AB Q7 AV Bz Ee Ic F9 Hold
attribute [local irreducible] Ci Ba DV DN Eo AZ CG
def FM (O:List (List Int)) (m:Nat) (j:Nat):List (List Int):=O++(O.take j).map fun x=>x.set m 1
theorem zQ (O:List (List Int)) (m:Nat):FM O m 0=O:=by simp [FM]
theorem a6c (O:List (List Int)) (m:Nat):FM O m O.length=O++O.map fun x=>x.set m 1:=by simp [FM]
theorem eu (O:List (List Int)) (m:Nat) {j:Nat} (h:j<O.length):FM O m (j+1)=FM O m j++[(gi O j).set m 1]:=by
 unfold FM;rw [Em h,bj,← cz];rfl
theorem pI (O:List (List Int)) (m:Nat) {j:Nat} (h:j≤O.length):(FM O m j).length=O.length+j:=by
 unfold FM;grind
theorem b0m (O:List (List Int)) (m j:Nat) {i:Nat} (h:i<O.length):gi (FM O m j) i=gi O i:=by
 unfold FM gi;grind
def ow (L:List (List Int)):List OwL:=L.map OwL.mk
theorem wR (L:List (List Int)):(ow L).length=L.length:=by simp [ow]
theorem U8 (L R:List (List Int)):ow (L++R)=ow L++ow R:=by simp [ow]
theorem b3a (L:List (List Int)) {i:Nat} (h:i<L.length):gi (ow L) i=⟨gi L i⟩:=by
 unfold ow gi;grind
theorem cells_at (l:List Int) {i:Nat} (h:i<l.length):(cells l)[i]?=some (.int .i64 (gi l i)):=by
 have:∀ l:List Int,cells l=l.map fun x=>FV.int .i64 x:=by
  intro l
  induction l with
  |nil=>rfl
  |cons a l ih=>rw [bw,← ih];rfl
 unfold gi;grind
theorem yG (L:List (List Int)) (m j:Nat):(cells (ow (FM L m j))).take (L.length*1)=cells (ow L):=by
 have h:∀ R:List OwL,cells R=R.map fun x=>FV.own 3 (cells x.l) x.l.length:=by
  intro R
  induction R with
  |nil=>rfl
  |cons a l ih=>rw [bw,← ih];rfl
 unfold FM;rw [U8,h,h,bj,gw,List.take_append_of_le_length (by simp [ow]),cV (by simp [ow])]
theorem zX (q:Qu) (hq:JV q) {t:Nat} (ht:t<(A8 q.p).length) {l:List Int} (hl:a0n q t l) {k:Nat} (hk:k<kQ q t) (hn:MJ q t k=true) {x:List Int} (hx:x∈FH (MJ q t) (fQ q t) l k):x.length=q.p.notes.length∧gi x (fQ q t k)=0:=by
 have hS:=Xq q hq;have hll:=hl.len;have hr:=hS.rng t ht k hk;have hm:=(MZ (nw:=MJ q t) (f:=fQ q t) (l:=l) k (fun j j' h h'=>hS.inj t ht j j' (by omega) (by omega)) (fun j hj=>by rw [hll];exact hS.rng t ht j (by omega)) (fun j hj=>hl.zero j (by omega)) x).1 hx;refine ⟨hm.1.trans hll,?_⟩;rw [(hm.2 _ (by omega)).2 fun ⟨j,h1,_,h3⟩=>by
  have:=hS.inj t ht j k (by omega) hk h3;omega]
 exact hl.zero k hk hn
theorem a0w (q:Qu) (hq:JV q) {t:Nat} (ht:t<(A8 q.p).length) {l:List Int} (hl:a0n q t l) {x:List Int} (hx:x∈FH (MJ q t) (fQ q t) l (kQ q t)):x.length=q.p.notes.length:=by
 have hS:=Xq q hq;have hll:=hl.len;have hm:=(MZ (nw:=MJ q t) (f:=fQ q t) (l:=l) (kQ q t) (hS.inj t ht) (fun j hj=>by rw [hll];exact hS.rng t ht j hj) hl.zero x).1 hx;omega
theorem b3r:∀ L:List (List Int),Jg (cells (ow L)) (cells L)
 |[]=>.refl _
 |a::L=>.cons .own (b3r L)
theorem a9y {L:Vm.Frame} {H:Vm.Heap} {nx:Nat} {Q:PV→Vm.Heap→Nat→Prop} {dst:Option Tmp} {ty:TypeId} {pos:String} {af:Array Edge} {gd:Option (Nat×Bool)} {fo:Operand} {args:Array Operand} {aT:Array TypeId} {fs cs xs:List PV} {c:Code}
 (hf:AU env.Γ L fo=some (.clo 88 fs cs)) (ha:evs env.Γ L args.toList=some xs) (hb:Tryz.f88.body=some c) (hn:(fs++xs++cs).length≤Tryz.f88.ntmps)
 (h:Ad env nx c (Ce 0 (fs++xs++cs)) H nx (AB env.P Tryz.f88.results.toList Q)):Aa env true ⟨dst,.call { callee:=.value fo,args:=args,argTypes:=aT },ty,pos,af,gd⟩ L H nx Q:=by
 have h0:(match Tryz.f88.body with|some c=>II env.G Tryz.f88 c|none=>false)=true:=by kernel_rfl
 rw [hb] at h0;exact Aa.inline rfl hf ha (Ae (by decide)) Tryz.func88 hb h0 hn h
theorem a9r {L:Vm.Frame} {H:Vm.Heap} {nx:Nat} {Q:PV→Vm.Heap→Nat→Prop} {dst:Option Tmp} {ty:TypeId} {pos:String} {af:Array Edge} {gd:Option (Nat×Bool)} {fo:Operand} {args:Array Operand} {aT:Array TypeId} {fs cs xs:List PV} {c:Code}
 (hf:AU env.Γ L fo=some (.clo 127 fs cs)) (ha:evs env.Γ L args.toList=some xs) (hb:Tryz.f127.body=some c) (hn:(fs++xs++cs).length≤Tryz.f127.ntmps)
 (h:Ad env nx c (Ce 0 (fs++xs++cs)) H nx (AB env.P Tryz.f127.results.toList Q)):Aa env true ⟨dst,.call { callee:=.value fo,args:=args,argTypes:=aT },ty,pos,af,gd⟩ L H nx Q:=by
 have h0:(match Tryz.f127.body with|some c=>II env.G Tryz.f127 c|none=>false)=true:=by kernel_rfl
 rw [hb] at h0;exact Aa.inline rfl hf ha (Ae (by decide)) Tryz.func127 hb h0 hn h
theorem TS (q:Qu) (hq:JV q) (t:Nat) (ht:t<(A8 q.p).length) (hM:kQ q t≤12) (l:List Int) (hl:a0n q t l) :
 Ic env 41 [.agg (Enc.enc q),.agg (Enc.enc (Ns q t)),.lst 3 (cells l) l.length] (.p (.lst 28 (cells (jh q t l)) (jh q t l).length)):=by
 have n1:=hq.p.notes;have hll:=hl.len;have hcl:=l7 l (by omega);have hN:mW q (Ns q t).notes:=Qn ht;have hNl:(Ns q t).notes.length≤1000:=YG hq ht;have hm:=Uw q hq (Ns q t) hN hNl;have hat:=fun j hj=>Ob q ht (j:=j) hj
 have hK:kQ q t=(IU q (Ns q t).notes).length:=rfl;have hnw:∀ j,MJ q t j=a9f q (Ns q t) (gi (IU q (Ns q t).notes) j):=fun j=>rfl
 have hMg:IU q (Jd q t)=IU q (Ns q t).notes:=rfl;rw [hMg] at hat;have hzero:=hl.zero;unfold jh uz;rw [hK] at hat hM hzero ⊢;have hOl:∀ k,k≤(IU q (Ns q t).notes).length→1≤(FH (MJ q t) (fQ q t) l k).length∧(FH (MJ q t) (fQ q t) l k).length≤4096:=fun k hk=>by
  obtain ⟨g1,g2⟩:=Y1 (MJ q t) (fQ q t) l k;exact ⟨g1,am g2 (ax (by decide) (show k≤12 by omega))⟩
 have hOx:∀ k,k<(IU q (Ns q t).notes).length→MJ q t k=true→∀ j,j<(FH (MJ q t) (fQ q t) l k).length→(gi (FH (MJ q t) (fQ q t) l k) j).length=q.p.notes.length∧gi (gi (FH (MJ q t) (fQ q t) l k) j) (fQ q t k)=0:=fun k hk hn j hj=>zX q hq ht hl hk hn (EK hj)
 have c0l:∀ x∈FH (MJ q t) (fQ q t) l (IU q (Ns q t).notes).length,x.length=q.p.notes.length:=fun x hx=>a0w q hq ht hl hx
 generalize IU q (Ns q t).notes=M at *;refine Ic.enter Tryz.func41 rfl (by kernel_rfl) (by kernel_rfl) (by simp [Tryz.ntmps41]) ?_
 repeat' (first|apply AV.BL|apply AV.to|apply AV.block|(apply Aa.fn;rfl;rfl;exact hcl;intro _;rfl)|(apply Aa.fn;rfl;rfl;exact hm;intro _;rfl)|refine go1 ?_|(apply Aa.buildSlice;rfl;rfl;rfl;decide;rfl;rfl;rfl))
 all_goals try (exfalso;omega)
 apply AV.Jj (M.length) [(3,_),(4,_),(18,_),(19,_)] [(0,_),(1,_)] (fun k r=>(20,.p (.int .i64 (k:Int)))::(7,.vec 2 (FH (MJ q t) (fQ q t) l k).length 0 (FH (MJ q t) (fQ q t) l k).length)::r) (fun k r=>(2,.vec 28 (cells (ow (FH (MJ q t) (fQ q t) l k))) (FH (MJ q t) (fQ q t) l k).length false)::r) 3
 ·first|omega|decide
 ·first|omega|decide
 ·exact RH
 ·exact U0
 ·intro k hk
  obtain ⟨m,g1,g2,g3,g4,g5⟩:=hat k hk;have hOk:=hOl k (by omega);have b8s:=hOx k hk;have e1:FH (MJ q t) (fQ q t) l (k+1)=if MJ q t k=true then FH (MJ q t) (fQ q t) l k++(FH (MJ q t) (fQ q t) l k).map (fun x=>x.set (fQ q t k) 1) else FH (MJ q t) (fQ q t) l k:=rfl
  have hnk:=hnw k;rw [g2] at e1 b8s;rw [g1] at hnk;rw [e1];clear hOx hOl;generalize FH (MJ q t) (fQ q t) l k=O at *;by_cases hn:(gi q.p.notes m).s=(Ns q t).s
  ·have hn1:MJ q t k=true:=by rw [hnk];exact decide_eq_true hn
   rw [if_pos hn1];have hOx:=b8s hn1
   repeat' (first|apply AV.BL|apply AV.CO|apply Ee.normal|apply AV.to|apply AV.block|apply AV.skip|(apply AV.Au;rfl)|(apply Aa.Ap (l:=q.p.notes) (i:=m);rfl;exact congrArg (fun b=>some (PV.p (.int .i64 b))) g1;rfl;omega;rfl)|(apply Aa.Ap;rfl;rfl;rfl;omega;rfl)|(apply Aa.lenV;rfl;rfl;rfl)|refine Zm ?_|(apply Aa.int;rfl;rfl;rfl)|(intro _;try (exfalso;omega)))
   all_goals try (exfalso;omega)
   all_goals try contradiction
   refine AV.DK (fun s:Nat×Bool=>[(3,.ref 0 0),(4,.ref 1 0),(18,.p (.lst 3 (cells M) M.length)),(19,.p (.int .i64 (M.length:Int))),(20,.p (.int .i64 (k:Int))),(9,.p (.int .i64 (gi M k))),(34,bif s.2 then .vec 2 (O.length+s.1) 0 O.length else .p (.lst 28 (cells (ow O)) O.length)),(35,.p (.int .i64 (O.length:Int))),(36,.p (.int .i64 (s.1:Int))),(7,.vec 2 (O.length+s.1) 0 (O.length+s.1))])
    (fun s=>[(0,bP q),(1,slB (Ns q t)),(2,.vec 28 (cells (ow (FM O m s.1))) (O.length+s.1) false)]) 3 (fun s=>s.1≤O.length) (fun s=>O.length-s.1) (0,true) (by decide) (ao _) ⟨by decide,?_,?_⟩ ?_
   ·exact Dl
   ·simp only [zQ]
    exact Eh
   rintro ⟨j,att⟩ hj;simp only at hj ⊢;by_cases hjl:j<O.length
   ·obtain ⟨x1,x2⟩:=hOx j hjl
    have hgj:gi (ow (FM O m j)) j=⟨gi O j⟩:=by rw [b3a _ (by rw [pI O m (by omega)];omega),b0m _ _ _ hjl]
    have hgo:gi (ow O) j=⟨gi O j⟩:=b3a _ hjl;have b0t:=WE (gi O j) (by omega) (by omega);have hz:(cells (gi O j))[m]?=some (.int .i64 0):=by rw [cells_at _ (by omega),x2]
    have hlr:=pI O m (j:=j) (by omega);have c6j:=wR O;have hroom:(ow (FM O m j)).length=O.length+j:=by rw [wR,hlr]
    cases att
    ·have hy:gi O j=(gi (ow O) j).l:=by rw [hgo]
     have e2:ow (FM O m (j+1))=ow (FM O m j)++[⟨(gi (ow O) j).l.set m 1⟩]:=by rw [eu O m hjl,U8,← hy];rfl
     rw [hy] at b0t hz x1
     repeat' (first|(refine AV.at 10 ?_;apply AV.Gm)|(refine AV.atEnd 11 ?_;refine AV.ghost (Aw.QD 12 rfl rfl) ?_;first|apply AV.region|apply AV.Fe)|(refine Ai.Je 41 ?_;refine Ai.ghost (Aw.le 40 (v0:=.p (.lst 3 (cells (gi (ow O) j).l) (gi (ow O) j).l.length)) rfl (.p .own)) ?_)|((apply Bz.qp (i:=m);rfl;exact congrArg (fun b=>some (PV.p (.int .i64 b))) g1;rfl;omega;exact hz;rfl;rfl;rfl))|apply AV.BL|apply AV.region|apply Ee.normal|apply AV.to|apply AV.block|apply AV.skip|(apply AV.Au;rfl)|apply Bz.nil|apply Bz.one|apply Bq.normal|apply Ai.nil|apply Ai.one|(apply Aa.Ap (l:=ow O) (i:=j);rfl;rfl;rfl;omega;exact wR O)|(apply Aa.Dw (l:=ow (FM O m j)) (a:=OwL.mk ((gi (ow O) j).l.set m 1));rfl;rfl;rfl;rfl;exact congrArg (fun n=>[FV.own 3 (cells ((gi (ow O) j).l.set m 1)) n]) List.length_set.symm;exact hroom;rfl;rfl;(intro _ h;cases h);rfl;rfl;rfl;decide;decide;omega)|(apply Aa.fv;rfl;rfl;exact b0t)|(apply Aa.DU (l:=(gi (ow O) j).l) (i:=m);rfl;rfl;exact congrArg (fun b=>some (PV.p (.int .i64 b))) g1;rfl;omega)|(apply Aa.Kz (l:=(gi (ow O) j).l) (i:=m) (y:=(1:Int));rfl;rfl;rfl;trivial;rfl;rfl;rfl;decide;omega)|(apply Aa.assign;rfl)|(apply Aa.move;rfl)|(apply Aa.LV;rfl;rfl;omega)|(apply Aa.int;rfl;rfl;rfl)|(apply Aa.load;rfl;rfl)|(apply Aa.buildSlice;rfl;rfl;rfl;decide;rfl;rfl;rfl)|(intro _;try (exfalso;omega)))
     all_goals try (exfalso;omega)
     have e3:O.length+(j+1)=(ow (FM O m j)).length+1:=by omega
     refine Ah.normal ⟨(j+1,false),by show j+1≤O.length;omega,by show O.length-(j+1)<O.length-j;omega,⟨by decide,?_,?_⟩⟩
     ·dsimp only
      rw [e3];exact Dl
     ·dsimp only
      rw [e3,e2];exact Eh
    ·have hy:gi O j=(gi (ow (FM O m j)) j).l:=by rw [hgj]
     have e2:ow (FM O m (j+1))=ow (FM O m j)++[⟨(gi (ow (FM O m j)) j).l.set m 1⟩]:=by rw [eu O m hjl,U8,← hy];rfl
     rw [hy] at b0t hz x1;have e4:cells (ow (FM O m (j+1)))=cells (ow (FM O m j))++[FV.own 3 (cells ((gi (ow (FM O m j)) j).l.set m 1)) (gi (ow (FM O m j)) j).l.length]:=by
      rw [e2,FI];refine congrArg (fun x=>cells (ow (FM O m j))++x) ?_;show [FV.own 3 (cells ((gi (ow (FM O m j)) j).l.set m 1)) ((gi (ow (FM O m j)) j).l.set m 1).length]=_;rw [cG]
     repeat' (first|(refine AV.at 10 ?_;apply AV.Gm)|(refine Ai.Je 41 ?_;refine Ai.ghost (Aw.le 40 (v0:=.p (.lst 3 (cells (gi (ow (FM O m j)) j).l) (gi (ow (FM O m j)) j).l.length)) rfl (.p .own)) ?_)|((refine AV.atEnd 11 ?_;refine AV.ghost (Aw.QD 12 rfl rfl) ?_;apply AV.jk))|((refine Bz.Je 51 ?_;refine Hold.of ?_))|((apply Bz.qp (i:=m);rfl;exact congrArg (fun b=>some (PV.p (.int .i64 b))) g1;rfl;omega;exact hz;rfl;rfl;rfl))|apply AV.BL|apply Ee.normal|apply AV.to|apply AV.block|apply AV.skip|(apply AV.Au;rfl)|apply Bz.nil|apply Bz.one|apply Ai.nil|apply Ai.one|(apply Aa.b0i (l:=ow (FM O m j)) (i:=j);rfl;rfl;rfl;rfl;omega)|(apply Aa.Pm (l:=ow (FM O m j)) (i:=j);rfl;rfl;omega;rfl)|(apply Aa.fv;rfl;rfl;exact b0t)|(apply Aa.DU (l:=(gi (ow (FM O m j)) j).l) (i:=m);rfl;rfl;exact congrArg (fun b=>some (PV.p (.int .i64 b))) g1;rfl;omega)|(apply Aa.Kz (l:=(gi (ow (FM O m j)) j).l) (i:=m) (y:=(1:Int));rfl;rfl;rfl;trivial;rfl;rfl;rfl;decide;omega)|(apply Aa.assign;rfl)|(apply Aa.move;rfl)|(apply Aa.int;rfl;rfl;rfl)|(apply Aa.buildSlice;rfl;rfl;rfl;decide;rfl;rfl;rfl)|(intro _;try (exfalso;omega)))
     all_goals try (exfalso;omega)
     refine Hold.go ?_;refine Bz.b0a (r:=34) (i:=_) (k:=1) (xs:=[FV.own 3 (cells ((gi (ow (FM O m j)) j).l.set m 1)) (gi (ow (FM O m j)) j).l.length]) (j:=O.length) (N:=O.length+j) rfl rfl ?_ rfl ?_ ?_ rfl rfl (by intro _ h;cases h) rfl rfl (by decide) ?_ ?_ (by decide) ?_ ?_
     ·refine rF.all rfl rfl ?_
      rfl
     ·omega
     ·omega
     ·exact kU (by omega) (by decide)
     ·rw [CZ,hroom];rfl
     ·repeat' (first|apply AV.region|apply Ee.normal|apply Bz.nil|apply Bz.one|refine go1 ?_|fail)
      refine Ah.normal ⟨(j+1,true),by show j+1≤O.length;omega,by show O.length-(j+1)<O.length-j;omega,⟨by decide,?_,?_⟩⟩
      ·dsimp only
       try rw [← yG O m j]
       exact Dl
      ·dsimp only
       rw [e4];exact Eh
     ·repeat' (first|apply AV.region|apply Ee.normal|apply Bz.nil|apply Bz.one|refine go1 ?_|fail)
      refine Ah.normal ⟨(j+1,false),by show j+1≤O.length;omega,by show O.length-(j+1)<O.length-j;omega,⟨by decide,?_,?_⟩⟩
      ·dsimp only
       try rw [← yG O m j]
       exact Dl
      ·dsimp only
       rw [e4];exact Eh
   ·have hje:j=O.length:=by omega
    have e5:(O++O.map (fun x=>x.set m 1)).length=O.length+O.length:=by simp
    subst hje
    repeat' (first|apply AV.BL|apply AV.region|apply Ee.normal|apply Ee.exit|apply AV.to|apply AV.exit|(apply AV.Au;rfl)|refine go2 ?_|(intro _;try (exfalso;omega)))
    all_goals try (exfalso;omega)
    refine Ah.normal ⟨by decide,?_,?_⟩
    ·rw [e5]
     exact Dl
    ·rw [e5,← a6c]
     exact Eh
  ·have hn1:¬ MJ q t k=true:=by rw [hnk];exact fun h=>hn (of_decide_eq_true h)
   rw [if_neg hn1]
   repeat' (first|apply AV.BL|apply AV.CO|apply AV.region|apply Ee.normal|apply Ee.exit|apply AV.to|apply AV.block|apply AV.skip|apply AV.exit|(apply AV.Au;rfl)|(apply Aa.Ap (l:=q.p.notes) (i:=m);rfl;exact congrArg (fun b=>some (PV.p (.int .i64 b))) g1;rfl;omega;rfl)|(apply Aa.Ap;rfl;rfl;rfl;omega;rfl)|refine Zm ?_|(apply Aa.int;rfl;rfl;rfl)|(intro _;try (exfalso;omega)))
   all_goals try (exfalso;omega)
   all_goals try contradiction
   refine Ah.normal ⟨by first|omega|decide,?_,?_⟩
   ·exact Dl
   ·exact Eh
 ·have hOk:=hOl M.length (ab _)
  have c3b:∀ i,i<(FH (MJ q t) (fQ q t) l M.length).length→(gi (FH (MJ q t) (fQ q t) l M.length) i).length=q.p.notes.length:=fun i hi=>c0l _ (EK hi)
  clear hOl hOx;generalize FH (MJ q t) (fQ q t) l M.length=O at *;have hC:∀ i,i<O.length→Eb env 89 ([.p (.lst 3 (cells (gi O i)) (gi O i).length)]++[.ref 0 0,.ref 1 0]) [(0,bP q),(1,slB (Ns q t))] 2 (.bool (!Xo q t (gi O i))):=fun i hi=>bU q hq _ hN hNl (gi O i) (c3b i hi)
  unfold bP slB at hC;generalize hP:Xo q t=P at *
  repeat' (first|(refine AV.at 14 ?_;refine AV.ghost (Aw.b9l 2 (cells O) rfl (b3r O)) ?_;first|apply AV.BL|apply AV.CO)|apply AV.BL|apply Ee.normal|apply Ee.exit|apply AV.to|apply AV.exit|(apply AV.Au;rfl)|(apply Aa.makeFunc;rfl;rfl)|(apply a9y;rfl;rfl;rfl;exact le_dec rfl)|(apply a9r;rfl;rfl;rfl;exact le_dec rfl)|(apply Aa.lenV;rfl;rfl;rfl)|refine Zm ?_|apply Ad.BL|(apply Aa.int;rfl;rfl;rfl)|(intro _;try (exfalso;omega)))
  all_goals try (exfalso;omega)
  apply Ad.Il (O.length) (fun k=>∀ i,i<k→P (gi O i)=true) [(0,_),(1,_),(7,_)] [(0,_),(1,_),(2,_)] (fun k r=>(8,.p (.int .i64 (k:Int)))::r) (fun k r=>r) 3
  ·first|omega|decide
  ·first|omega|decide
  ·exact RH
  ·exact U0
  ·first|(intro _ _;omega)|omega|trivial
  ·intro k hk hi
   have hCk:=hC k hk;by_cases hp:P (gi O k)=true
   ·rw [hp] at hCk
    repeat' (first|(apply Aa.read [0,1] hCk;rfl;rfl;exact .of_eq rfl;exact CS.Az rfl;exact CY rfl;(repeat (first|exact trivial|refine ⟨⟨_,rfl,.of_eq rfl⟩,?_⟩));decide;(intro _ hb;simp at hb<;>omega);rfl)|(apply Aa.DU;rfl;rfl;rfl;rfl;omega)|refine go1 ?_|(apply Aa.int;rfl;rfl;rfl)|(apply Ad.Ac;rfl)|(apply Ad.cond_false;rfl)|(intro _;try (exfalso;omega)))
    all_goals try (exfalso;omega)
    all_goals try contradiction
    refine Ah.normal ⟨(all_succ hi hp),by first|omega|decide,?_,?_⟩
    ·exact Dl
    ·exact Eh
   ·have hp':P (gi O k)=false:=by cases h:P (gi O k)<;>simp_all
    rw [hp'] at hCk
    repeat' (first|(apply Aa.read [0,1] hCk;rfl;rfl;exact .of_eq rfl;exact CS.Az rfl;exact CY rfl;(repeat (first|exact trivial|refine ⟨⟨_,rfl,.of_eq rfl⟩,?_⟩));decide;(intro _ hb;simp at hb<;>omega);rfl)|(apply Aa.DU;rfl;rfl;rfl;rfl;omega)|refine go1 ?_|(apply AB.ret;rfl)|(apply Aa.int;rfl;rfl;rfl)|(apply Ad.Aj;rfl)|(apply Ad.Ac;rfl)|(apply Ad.cond_true;rfl)|(intro _;try (exfalso;omega)))
    all_goals try (exfalso;omega)
    all_goals try contradiction
    refine Ad.DK (fun s:List (List Int)×Nat×Nat=>[(0,.vec 2 O.length 0 O.length),(1,.clo 89 [] [.ref 0 0,.ref 1 0]),(5,.p (.int .i64 (s.2.1:Int))),(6,.p (.int .i64 (s.2.2:Int)))]) (fun s=>[(0,bP q),(1,slB (Ns q t)),(2,.vec 28 (cells s.1) O.length false)]) 3 (fun s=>Q8 P O s.1 s.2.1 s.2.2) (fun s=>O.length-s.2.2) (O,k,k+1) (by decide) (Q8.start hk hp' hi) ⟨by decide,?_,?_⟩ ?_
    ·exact Dl
    ·exact Eh
    rintro ⟨zs,i,j⟩ hD;simp only at hD ⊢;have z1:=hD.len;have z2:=hD.ij;have z3:=hD.jn;unfold bP slB;by_cases hj:j<O.length
    ·have hC2:=hC j hj
     have hz:=hD.at_ hj;by_cases hw:P (gi O j)=true
     ·rw [hw] at hC2
      rw [← hz] at hC2
      repeat' (first|(apply Aa.read [0,1] hC2;rfl;rfl;exact .of_eq rfl;exact CS.Az rfl;exact CY rfl;(repeat (first|exact trivial|refine ⟨⟨_,rfl,.of_eq rfl⟩,?_⟩));decide;(intro _ hb;simp at hb<;>omega);rfl)|(apply Aa.Kz (y:=gi zs j);rfl;rfl;rfl;trivial;(first|rfl|(refine congrArg (fun t=>[PV.p (FV.int _ t)]) ?_;first|omega|(simp only [Int.natCast_add,Int.natCast_mul,Int.natCast_ediv,Int.natCast_emod]<;>omega)));rfl;rfl;decide;(first|omega|(simp only [List.length_set]<;>omega)))|(apply Aa.lenV;rfl;rfl;rfl)|(apply Aa.DU;rfl;rfl;rfl;rfl;omega)|refine go1 ?_|(apply Aa.int;rfl;rfl;rfl)|(apply Ad.Ac;rfl)|(apply Ad.cond_true;rfl)|(intro _;try (exfalso;omega)))
      all_goals try (exfalso;omega)
      refine Ah.normal ⟨(zs.set i (gi O j),i+1,j+1),hD.put hj hw,by simp only;omega,⟨by omega,?_,?_⟩⟩
      ·exact Dl
      ·rw [← hz]
       exact Eh
     ·have hw':P (gi O j)=false:=by cases h:P (gi O j)<;>simp_all
      rw [hw'] at hC2;rw [← hz] at hC2
      repeat' (first|(apply Aa.read [0,1] hC2;rfl;rfl;exact .of_eq rfl;exact CS.Az rfl;exact CY rfl;(repeat (first|exact trivial|refine ⟨⟨_,rfl,.of_eq rfl⟩,?_⟩));decide;(intro _ hb;simp at hb<;>omega);rfl)|(apply Aa.lenV;rfl;rfl;rfl)|(apply Aa.DU;rfl;rfl;rfl;rfl;omega)|refine go1 ?_|(apply Aa.int;rfl;rfl;rfl)|(apply Ad.Ac;rfl)|(apply Ad.cond_false;rfl)|(intro _;try (exfalso;omega)))
      all_goals try (exfalso;omega)
      refine Ah.normal ⟨(zs,i,j+1),hD.skip hj hw',by simp only;omega,⟨by omega,?_,?_⟩⟩
      ·exact Dl
      ·exact Eh
    ·obtain rfl:j=O.length:=by omega
     obtain ⟨f1,f2⟩:=hD.fin;rw [← f1,show (zs.take i).length=i by rw [aw];omega];have hps:∀ xs,((Df (cells zs) (0+i*1) xs).take (i*1))=cells (zs.take i):=fun xs=>by
      rw [Oi _ _ _ (show i*1≤0+i*1 by omega)];exact NP zs i
     have hpl:∀ xs,i*1≤(Df (cells zs) (0+i*1) xs).length:=fun xs=>by
      rw [PU,CZ,z1];show i*1≤O.length*1;omega
     repeat' (first|(refine Ai.Je 6 ?_;refine Ai.ghost (Aw.mV 56 (i*1) rfl rfl (by omega) (hpl _)) ?_)|apply AV.ret|apply Ad.assoc|apply Ad.BL|apply Ad.Gi|apply BM.normal|(apply AB.ret;rfl)|apply Bq.exit|apply Ah.exit|apply Ad.ret|apply Ai.nil|apply Ai.one|(apply Aa.jf (sz:=1) (a:=i) (c:=O.length);rfl;rfl;omega;rfl;rfl;rfl;exact ⟨_,rfl⟩;rfl;omega;exact ab _)|(apply Aa.jf (sz:=1) (a:=0) (c:=i);rfl;rfl;omega;rfl;rfl;rfl;rfl;exact ⟨_,rfl⟩;omega;omega)|(apply Aa.clear;rfl;rfl;omega;omega;rfl;rfl;rfl;decide;(rw [CZ,z1];show 0+i*1+(O.length-i)*1≤O.length*1;omega))|(apply Aa.assign;rfl)|(apply Aa.move;rfl)|(apply Aa.int;rfl;rfl;rfl)|(apply Aa.lenV;rfl;rfl;rfl)|(apply Ad.Ac;rfl)|(intro _;try (exfalso;omega)))
     all_goals first|(exfalso;omega)|(refine Done.rt rfl rfl ⟨?_,rfl,rfl⟩;exact congrArg (fun c=>PV.p (FV.lst 28 c i)) (hps _))
  ·intro hi
   rw [filter_all hi]
   repeat' (first|(refine Ai.Je 6 ?_;refine Ai.ghost (Aw.freeze 56 rfl rfl) ?_)|apply AV.ret|apply Ad.assoc|apply Ad.BL|apply Ad.P9|apply Ad.Gi|apply BM.normal|(apply AB.ret;rfl)|apply Bq.exit|apply Ah.exit|apply Ad.ret|apply Ai.nil|apply Ai.one|(apply Aa.assign;rfl)|(apply Aa.move;rfl)|(apply Aa.int;rfl;rfl;rfl)|(apply Ad.AX;rfl)|(apply Ad.Ac;rfl)|(intro _;try (exfalso;omega)))
   all_goals first|(exfalso;omega)|(refine Done.rt rfl rfl ⟨?_,rfl,rfl⟩;try rfl)
end Go.Proofs.YtnjkoebfgcbbdaaGreatDoor
namespace Go.Vm
open Go.Am
def keyAt {α:Type} [DecidableEq α]:List α→α→Option Nat
 |[],_=>none
 |x::l,a=>if a=x then some 0 else (keyAt l a).map (·+1)
structure Hy (P:Program) (t:TypeId) {α:Type} [DecidableEq α] (kf:α→FV) (kv:α→Value):Prop where
 rel:∀ {m:Mem} {F:Nat→Prop} {a:α} {v:Value},RF m F (kf a) v→v=kv a
 of:∀ {m:Mem} {F:Nat→Prop} (a:α),RF m F (kf a) (kv a)
 plain:∀ a,Am.plain (kv a)=true
 bits:∀ a,((D7 P t).isSome||Instr.sameBits 10000 (kv a) (kv a))=true
 find:∀ (fl:Bool) (a:α) (ks:List α) (l:List MapEntry),l.map (·.key)=ks.map kv→Iq P fl t (kv a) l=some ((keyAt ks a).bind fun j=>(l[j]?).map fun e=>(j,e.val))
def MK {α:Type} (kf:α→FV) (es:List (α×PV)):HB:=.Js (es.map fun x=>kf x.1) (es.map (·.2))
theorem Y8 {α β:Type} [DecidableEq α] (a:α):∀ (es:List (α×β)),(BN es a=none→keyAt (es.map (·.1)) a=none∧∀ b,BZ es a b=es++[(a,b)]) ∧
 (∀ c,BN es a=some c→∃ j,keyAt (es.map (·.1)) a=some j∧es[j]?=some (a,c)∧∀ b,BZ es a b=es.set j (a,b))
 |[]=>⟨fun _=>⟨rfl,fun _=>rfl⟩,fun c h=>by cases h⟩
 |x::es=>by
  obtain ⟨h1,h2⟩:=Y8 a es;unfold BN BZ;simp only [List.map_cons,keyAt];grind
theorem Hy.b9y {P:Program} {t:TypeId} {α:Type} [DecidableEq α] {kf:α→List FV} {kv:α→List Value} (hv:∀ a,Fg (kf a)=some (kv a)) (hg:SL P t=true) (he:∀ a b,Dq P (Op.equal t (.agg (kv a).toArray) (.agg (kv b).toArray))=some (decide (a=b)))
 (hc:∀ fl a,WV P (Instr.checkKey fl 10000 t (.agg (kv a).toArray))=true):Hy P t (fun a=>.agg (kf a)) (fun a=>.agg (kv a).toArray):=by
 have h:IsKey P t kf kv:=⟨hv,hg,he,hc⟩
 refine ⟨fun r=>h.rel r,fun a=>h.of a,fun a=>h.plain a,fun a=>by rw [h.bits,Bool.or_true],fun fl a ks l hl=>?_⟩;rw [Yk h];have key:∀ (ks:List α) (l:List MapEntry) (i:Nat),l.map (·.key)=ks.map (fun a=>.agg (kv a).toArray)→Dq P (Instr.findAsking t (.agg (kv a).toArray) l i)=some ((keyAt ks a).bind fun j=>(l[j]?).map fun e=>(i+j,e.val)):=by
  intro ks
  induction ks with
  |nil =>
   intro l i h1;rw [ej,gO] at h1;subst h1;rfl
  |cons x ks ih =>
   intro l i h1;cases l with
   |nil=>grind
   |cons y l =>
    simp only [List.map_cons,List.cons.injEq] at h1;rw [Instr.findAsking,h1.1];simp only [Aq,he,Option.bind_some,keyAt];by_cases e:a=x
    ·rw [decide_eq_true e,if_pos e];rfl
    ·rw [decide_eq_false e,if_neg e]
     show Dq P (Instr.findAsking t (.agg (kv a).toArray) l (i+1))=_;rw [ih l (i+1) h1.2];cases keyAt ks a with
     |none=>rfl
     |some j =>
      grind
 grind
theorem Hy.ofStr {P:Program} {t:TypeId} {α:Type} [DecidableEq α] {f:α→ByteArray} (hi:∀ a b,f a=f b→a=b) (ht:P.underlying t=some .string):Hy P t (fun a=>.str (f a)) (fun a=>.string (f a)):=by
 have hk:D7 P t=some .string:=by unfold D7;rw [ht]
 refine ⟨fun r=>by cases r;rfl,fun a=>.str _,fun a=>rfl,fun a=>by grind,fun fl a ks l hl=>?_⟩;unfold Iq;have key:∀ (ks:List α) (l:List MapEntry) (i:Nat),l.map (·.key)=ks.map (fun a=>.string (f a))→Instr.findNow .string (.string (f a)) l i=some ((keyAt ks a).bind fun j=>(l[j]?).map fun e=>(i+j,e.val)):=by
  intro ks
  induction ks with
  |nil =>
   intro l i h1;rw [ej,gO] at h1;subst h1;rfl
  |cons x ks ih =>
   intro l i h1;cases l with
   |nil=>grind
   |cons y l =>
    simp only [List.map_cons,List.cons.injEq] at h1;unfold Instr.findNow;rw [h1.1];simp only [Instr.sameNow,keyAt];by_cases e:a=x
    ·subst e
     rw [show (f a==f a)=true by simp [MO],if_pos rfl];rfl
    ·have hne:(f a==f x)=false:=by
      rw [MO];refine decide_eq_false fun h2=>e (hi _ _ ?_)
      cases hfa:f a;simp_all
     rw [hne,if_neg e];rw [ih l (i+1) h1.2];cases keyAt ks a with
     |none=>rfl
     |some j =>
      grind
 grind
section
variable {P:Program} {α:Type} [DecidableEq α] {kf:α→FV} {kv:α→Value} {t:TypeId}
theorem kM (h:Hy P t kf kv) {m:Mem} {F:Nat→Prop}:∀ {es:List (α×PV)} {ks:List Value},Dc m F (es.map fun x=>kf x.1) ks→ks=(es.map (·.1)).map kv
 |[],_,r=>by cases r;rfl
 |x::es,_,r=>by
  cases r with
  |cons r1 r2=>rw [h.rel r1,kM h r2];rfl
theorem rH (h:Hy P t kf kv) {m:Mem} {F:Nat→Prop}:∀ (es:List (α×PV)),Dc m F (es.map fun x=>kf x.1) ((es.map (·.1)).map kv)
 |[]=>.nil
 |x::l=>.cons (h.of x.1) (rH h l)
theorem Dh.atG {m:Mem} {F:Nat→Prop} {T:Nat→Option Tg} {σ:Nat→Value} {n:Nat}:∀ {xs:List PV} {vs:List Value} {i:Nat} {x:PV} {v:Value},Dh m F T σ n xs vs→xs[i]?=some x→vs[i]?=some v→RP m F T σ n x v
 |_,_,i,_,_,.nil,h,_=>by grind
 |_,_,0,_,_,.cons h t,h1,h2=>by grind
 |_,_,i+1,_,_,.cons h t,h1,h2=>Dh.atG t (by assumption) (by grind)
theorem uD (h:Hy P t kf kv) {m:Mem} {F:Nat→Prop} {T:Nat→Option Tg} {σ:Nat→Value} {n:Nat} (fl:Bool) (a:α) {es:List (α×PV)} {l:List MapEntry} (h1:l.map (·.key)=(es.map (·.1)).map kv) (h2:Dh m F T σ n (es.map (·.2)) (l.map (·.val))) :
 (BN es a=none→Iq P fl t (kv a) l=some none∧∀ b,BZ es a b=es++[(a,b)]) ∧
 (∀ c,BN es a=some c→∃ j v e,Iq P fl t (kv a) l=some (some (j,v))∧RP m F T σ n c v∧l[j]?=some e∧e.key=kv a∧e.val=v∧∀ b,BZ es a b=es.set j (a,b)):=by
 obtain ⟨g1,g2⟩:=Y8 a es;have hf:=h.find fl a (es.map (·.1)) l h1;refine ⟨fun hn=>?_,fun c hc=>?_⟩
 ·grind
 ·obtain ⟨j,k1,k2,k3⟩:=g2 c hc
  have hlen:l.length=es.length:=by
   have:=congrArg List.length h1;grind
  have hj:j<l.length:=by grind
  rw [k1] at hf;simp only [Option.bind_some,List.getElem?_eq_getElem hj,Option.map_some] at hf;refine ⟨j,l[j].val,l[j],hf,?_,ai hj,?_,rfl,k3⟩
  ·have e1:(es.map (·.2))[j]?=some c:=by grind
   have e2:(l.map (·.val))[j]?=some l[j].val:=by grind
   exact Dh.atG h2 e1 e2
  ·have e1:(l.map (·.key))[j]?=some l[j].key:=by grind
   grind
variable {E:Env} {L:Vm.Frame} {H:Vm.Heap} {nx:Nat} {Q:PV→Vm.Heap→Nat→Prop} {w:Bool} {dst:Option Tmp} {ty:TypeId} {pos:String} {af:Array Edge} {gd:Option (Nat×Bool)}
theorem TF {Γ:Nat→Option (List Value×TypeId)} {m:Mem} {F:Nat→Prop} {σ:Nat→Value} {tt:Tr Value} {a:α} {o:Operand} (h:Hy P t kf kv) (hx:Ctx Γ m F σ H nx) (hl:RL m F (htag H) σ nx L tt) (hv:AU Γ L o=some (.p (kf a))):ev tt o=kv a:=by
 have:=BA hx hl hv;cases this with
 |p r=>exact h.rel r
theorem Aa.lookupGo {t kt et:TypeId} {x k:Operand} {b:Nat} {es:List (α×PV)} {a:α} {z:Value} {c:PV} (hkt:Hy E.P kt kf kv) (hx:AU E.Γ L x=some (.mref b)) (hb:hget H b=some (MK kf es)) (hk:AU E.Γ L k=some (.p (kf a)))
 (ht:E.P.underlying t=some (.map kt et)) (hz:zeroOf E.P et=some z) (hzp:Am.plain z=true) (hv:KT E H nx es a z c) (q:Q (.DX [c,.p (.bool (BN es a).isSome)]) H nx):Aa E w ⟨dst,.lookup t x k true,ty,pos,af,gd⟩ L H nx Q :=
 Aa.quiet q fun m F σ tt c1 c2=>by
  obtain ⟨_,r,l,clock,r1,r2,r3,r4,r5,r6,r7⟩:=c1.hp b _ hb;have e1:=kM hkt r5;have hpl:(Am.plain z&&Am.plain (kv a))=true:=by rw [hzp,hkt.plain];rfl
  obtain ⟨f1,f2⟩:=uD hkt l.isEmpty a e1 r6;rcases hv with hv|⟨hv,hc⟩
  ·obtain ⟨j,u,e,f3,f4,_⟩:=f2 c hv
   refine ⟨.tuple #[u,.bool true],fun _=>?_,?_⟩
   ·simp only [BU,Fb,LJ,ht,hz,IV c1 c2 hx hb,TF hkt c1 c2 hk,r1,r4,hpl,if_true,f3,Option.map_some]
   ·rw [hv];exact .DX (.cons f4 (.cons (.p (.bool _)) .nil))
  ·have f3:=(f1 hv).1
   refine ⟨.tuple #[z,.bool false],fun _=>?_,?_⟩
   ·simp only [BU,Fb,LJ,ht,hz,IV c1 c2 hx hb,TF hkt c1 c2 hk,r1,r4,hpl,if_true,f3,Option.map_some]
   ·rw [hv];exact .DX (.cons (hc m F σ c1) (.cons (.p (.bool _)) .nil))
theorem Kv {m:Mem} {F:Nat→Prop} {σ:Nat→Value} {kt:TypeId} {b r:Nat} {es es':List (α×PV)} {l':List MapEntry} {clock':Nat} (hkt:Hy P kt kf kv) {Γ:Nat→Option (List Value×TypeId)} (c1:Ctx Γ m F σ H nx) (hb:hget H b=some (MK kf es)) (r1:σ b=.map (some r)) (r2:r<m.size) (r3:¬ F r)
 (k1:l'.map (·.key)=(es'.map (·.1)).map kv) (k2:Dh m F (htag H) σ nx (es'.map (·.2)) (l'.map (·.val))) (k3:Stamped l' clock') :
 Ctx Γ (m.put r (.map l' clock')) F σ (hput H b (MK kf es')) nx∧Step m F σ H nx (m.put r (.map l' clock')) F σ (hput H b (MK kf es')) nx:=by
 have hput':∀ d' x,r≠d'→(m.put r x).get d'=m.get d':=fun d' x hd=>by rw [Mem.get_put,if_neg hd]
 have:=c1.change (m':=m.put r (.map l' clock')) (x':=MK kf es') (s':=σ b) hb trivial (fun _=>rfl) (ab _)
  (fun d' _ hd=>hput' d' _ fun e=>hd (by rw [r1,e];rfl)) (fun k k1 k2 k3=>by
   have:=k3 r (by rw [r1];rfl);simp only [Mem.put];omega) (fun d' hd=>.inl hd) (by
   have hF:∀ d',F d'→F d'∧(m.put r (.map l' clock')).get d'=m.get d':=fun d' hd=>⟨hd,hput' d' _ fun e=>r3 (e▸hd)⟩
   refine ⟨r,l',clock',r1,r2,r3,by rw [Mem.get_put,if_pos rfl],?_,?_,k3⟩
   ·rw [k1]
    exact rH hkt es'
   ·exact k2.mono hF (G7 (x':=MK kf es') hb trivial fun _=>rfl) (ab _))
 rw [a5m] at this;omega
theorem Aa.zh {t kt et:TypeId} {x k y:Operand} {b:Nat} {es:List (α×PV)} {a:α} {c:PV} (hkt:Hy E.P kt kf kv) (hx:AU E.Γ L x=some (.mref b)) (hb:hget H b=some (MK kf es)) (hk:AU E.Γ L k=some (.p (kf a))) (hy:AU E.Γ L y=some c)
 (ht:E.P.underlying t=some (.map kt et)) {H':Vm.Heap} (hH:hput H b (MK kf (BZ es a c))=H') (q:Q (.DX []) H' nx):Aa E true ⟨dst,.mapUpdate t x k y,ty,pos,af,gd⟩ L H nx Q:=by
 subst hH;intro m F σ tt c1 c2;obtain ⟨_,r,l,clock,r1,r2,r3,r4,r5,r6,r7⟩:=c1.hp b _ hb;have e1:=kM hkt r5;obtain ⟨f1,f2⟩:=uD hkt false a e1 r6;have hyv:=BA c1 c2 hy;have hup:IW E.P t (ev tt x) (ev tt k) (ev tt y) m=match Iq E.P false kt (kv a) l with
  |some (some (i,_))=>if (D7 E.P kt).isSome||Instr.sameBits 10000 (((l[i]?).map (·.key)).getD (kv a)) (kv a) then some (m.put r (.map (l.modify i fun e=>{ e with key:=kv a,val:=ev tt y }) clock)) else none
  |some none=>some (m.put r (.map (l++[{ key:=kv a,val:=ev tt y,born:=clock }]) (clock+1)))
  |none=>none:=by
  unfold IW;simp only [ht,IV c1 c2 hx hb,TF hkt c1 c2 hk,r1,r4,hkt.plain,if_true];rfl
 cases hl:BN es a with
 |none =>
  obtain ⟨f3,f4⟩:=f1 hl;rw [f3] at hup;obtain ⟨d1,d2⟩:=Kv hkt c1 hb r1 r2 r3 (es':=BZ es a c) (l':=l++[{ key:=kv a,val:=ev tt y,born:=clock }]) (clock':=clock+1) (by grind) (by rw [f4 c,bj,bj];exact Dh.snoc r6 hyv) r7.push;exact Gj.op (v:=undef) (fun _=>by simp only [BU,Fb,hup,Option.map_some]) ⟨_,_,_,F,_,q,d1,.DX .nil,d2,fun h=>by cases h⟩
 |some c0 =>
  obtain ⟨j,u,e0,f3,f4,f5,f5',_,f6⟩:=f2 c0 hl;rw [f3] at hup;simp only [f5,Option.map_some,Option.getD_some,f5',hkt.bits,if_true] at hup;have hmod:∀ (g:MapEntry→MapEntry),l.modify j g=l.set j (g e0):=fun g=>Lj f5
  obtain ⟨d1,d2⟩:=Kv hkt c1 hb r1 r2 r3 (es':=BZ es a c) (l':=l.modify j fun e=>{ e with key:=kv a,val:=ev tt y }) (by simp_all) (by rw [hmod,f6 c,cy,cy];exact r6.set j hyv) (r7.modify fun _=>rfl);exact Gj.op (v:=undef) (fun _=>by simp only [BU,Fb,hup,Option.map_some]) ⟨_,_,_,F,_,q,d1,.DX .nil,d2,fun h=>by cases h⟩
theorem Aa.x9 {t kt et:TypeId} {x k y:Operand} {b:Nat} {es:List (α×PV)} {a:α} {c:PV} (hkt:Hy E.P kt kf kv) (hx:AU E.Γ L x=some (.mref b)) (hb:hget H b=some (MK kf es)) (hk:AU E.Γ L k=some (.p (kf a))) (hy:AU E.Γ L y=some c)
 (ht:E.P.underlying t=some (.map kt et)) {H':Vm.Heap} (hH:hput H b (MK kf (BZ es a c))=H') (q:Q (.DX []) H' nx):Aa E true ⟨dst,.insert t x k y,ty,pos,af,gd⟩ L H nx Q:=by
 subst hH;intro m F σ tt c1 c2;obtain ⟨_,r,l,clock,r1,r2,r3,r4,r5,r6,r7⟩:=c1.hp b _ hb;have e1:=kM hkt r5;obtain ⟨f1,f2⟩:=uD hkt false a e1 r6;have hyv:=BA c1 c2 hy;have hup:IW E.P t (ev tt x) (ev tt k) (ev tt y) m=match Iq E.P false kt (kv a) l with
  |some (some (i,_))=>if (D7 E.P kt).isSome||Instr.sameBits 10000 (((l[i]?).map (·.key)).getD (kv a)) (kv a) then some (m.put r (.map (l.modify i fun e=>{ e with key:=kv a,val:=ev tt y }) clock)) else none
  |some none=>some (m.put r (.map (l++[{ key:=kv a,val:=ev tt y,born:=clock }]) (clock+1)))
  |none=>none:=by
  unfold IW;simp only [ht,IV c1 c2 hx hb,TF hkt c1 c2 hk,r1,r4,hkt.plain,if_true];rfl
 cases hl:BN es a with
 |none =>
  obtain ⟨f3,f4⟩:=f1 hl;rw [f3] at hup;obtain ⟨d1,d2⟩:=Kv hkt c1 hb r1 r2 r3 (es':=BZ es a c) (l':=l++[{ key:=kv a,val:=ev tt y,born:=clock }]) (clock':=clock+1) (by grind) (by rw [f4 c,bj,bj];exact Dh.snoc r6 hyv) r7.push;exact Gj.op (v:=undef) (fun _=>by simp only [BU,Fb,hup,Option.map_some]) ⟨_,_,_,F,_,q,d1,.DX .nil,d2,fun h=>by cases h⟩
 |some c0 =>
  obtain ⟨j,u,e0,f3,f4,f5,f5',_,f6⟩:=f2 c0 hl;rw [f3] at hup;simp only [f5,Option.map_some,Option.getD_some,f5',hkt.bits,if_true] at hup;have hmod:∀ (g:MapEntry→MapEntry),l.modify j g=l.set j (g e0):=fun g=>Lj f5
  obtain ⟨d1,d2⟩:=Kv hkt c1 hb r1 r2 r3 (es':=BZ es a c) (l':=l.modify j fun e=>{ e with key:=kv a,val:=ev tt y }) (by simp_all) (by rw [hmod,f6 c,cy,cy];exact r6.set j hyv) (r7.modify fun _=>rfl);exact Gj.op (v:=undef) (fun _=>by simp only [BU,Fb,hup,Option.map_some]) ⟨_,_,_,F,_,q,d1,.DX .nil,d2,fun h=>by cases h⟩
theorem aV {d:Nat} (xs ys:Array Value) {g:Option Bool×Unit→Sem Bool} (g0:g (none,())=pure true) (g1:∀ b,g (some b,())=pure b):∀ (fs:List Field) (bs:List Bool),fs.length=bs.length→(∀ (i:Nat) (f:Field) (b:Bool),fs[i]?=some f→bs[i]?=some b→f.name≠"_"∧∃ x y,Dq P (part f.type xs f.offset)=some x∧Dq P (part f.type ys f.offset)=some y∧Dq P (Op.equalIn d f.type x y)=some b) →
 Dq P ((forIn fs ((none,()):Option Bool×Unit) fun f _=>(do
     if f.name≠"_" then
      if (!(← Op.equalIn d f.type (← part f.type xs f.offset) (← part f.type ys f.offset)))=true then pure (ForInStep.done (some false,())) else pure (ForInStep.yield (none,()))
     else pure (ForInStep.yield (none,())):Sem (ForInStep (Option Bool×Unit)))) >>= g)=some (bs.all id)
 |[],[],_,h=>by
  simp only [List.forIn_nil,Aq,BP,Option.bind_some,g0];rfl
 |f::fs,b::bs,hl,h=>by
  obtain ⟨hn,x,y,h1,h2,h3⟩:=h 0 f b rfl rfl;have ih:=aV (d:=d) xs ys g0 g1 fs bs (by grind) fun i f b hf hb=>h (i+1) f b (by grind) (by grind)
  rw [dC];simp only [Aq,ne_eq,hn,not_false_eq_true,if_true,h1,h2,Option.bind_some,h3];cases b with
  |false=>simp [BP,g1]
  |true =>
   simp only [Bool.not_true,Bool.false_eq_true,if_false,BP,Option.bind_some,List.all_cons,id_eq,Bool.true_and];rw [Aq] at ih;omega
 |[],_::_,hl,_=>by grind
 |_::_,[],hl,_=>by grind
theorem dh {d:Nat} {t:TypeId} {fs:Array Field} {xs ys:Array Value} {bs:List Bool} (ht:P.underlying t=some (.struct fs)) (hp:P.stoodInHeld t=false) (hl:fs.toList.length=bs.length)
 (h:∀ (i:Nat) (f:Field) (b:Bool),fs.toList[i]?=some f→bs[i]?=some b→f.name≠"_"∧∃ x y,Dq P (part f.type xs f.offset)=some x∧Dq P (part f.type ys f.offset)=some y∧Dq P (Op.equalIn d f.type x y)=some b) :
 Dq P (Op.equalIn (d+1) t (.agg xs) (.agg ys))=some (bs.all id):=by
 rw [Op.equalIn];simp only [Aq,AY,ht,Option.bind_some,program,Dq,hp,Bool.false_eq_true,if_false];rw [← el,← Aq];exact aV (d:=d) xs ys rfl (fun b=>rfl) fs.toList bs hl h
theorem aH {d:Nat} {t e:TypeId} {xs ys:Array Value} {n:Nat} {x0 y0 x1 y1:Value} {b0 b1:Bool} (ht:P.underlying t=some (.array 2 e)) (hn:(P.info? e).map (·.size)=some n) (p0:Dq P (part e xs 0)=some x0) (p1:Dq P (part e ys 0)=some y0) (p2:Dq P (part e xs n)=some x1) (p3:Dq P (part e ys n)=some y1)
 (h0:Dq P (Op.equalIn d e x0 y0)=some b0) (h1:Dq P (Op.equalIn d e x1 y1)=some b1):Dq P (Op.equalIn (d+1) t (.agg xs) (.agg ys))=some (b0&&b1):=by
 rw [Op.equalIn];simp only [Aq,AY,ht,Option.bind_some,Fz,hn];rw [Std.Legacy.Range.forIn_eq_forIn_range'];show ((Dq P (forIn [0,1] _ _)).bind _)=_;rw [dC];simp only [Aq,Nat.zero_mul,p0,p1,h0,Option.bind_some];cases b0 with
 |false=>rfl
 |true =>
  simp only [Bool.not_true,Bool.false_eq_true,if_false,BP,Option.bind_some,List.forIn_cons,List.forIn_nil,Aq,Nat.one_mul,p2,p3,h1];cases b1<;>rfl
theorem ES {t:TypeId} {cs:Array Value} {o n:Nat} (ha:Gs P t=some true) (hn:(P.info? t).map (·.size)=some n):Dq P (part t cs o)=some (.agg (cs.extract o (o+n))):=by
 simp only [part,Aq,QC,ha,Option.bind_some,if_true,Fz,hn,BP]
theorem Zf {fl:Bool} {n:Nat} {t:TypeId} {fs:Array Field} {xs:Array Value} (ht:P.underlying t=some (.struct fs)) (h:∀ f∈fs.toList,∃ x,Dq P (part f.type xs f.offset)=some x∧Dq P (Instr.checkKey fl n f.type x)=some ()):Dq P (Instr.checkKey fl (n+1) t (.agg xs))=some ():=by
 rw [Instr.checkKey];simp only [Aq,AY,ht,Option.bind_some];rw [← el];generalize fs.toList=l at h;have key:∀ l:List Field,(∀ f∈l,∃ x,Dq P (part f.type xs f.offset)=some x∧Dq P (Instr.checkKey fl n f.type x)=some ())→Dq P (forIn l PUnit.unit fun f _=>(do
  if f.name≠"_" then do
   let x ← part f.type xs f.offset
   Instr.checkKey fl n f.type x
   pure (ForInStep.yield PUnit.unit)
  else pure (ForInStep.yield PUnit.unit):Sem (ForInStep PUnit)))=some PUnit.unit:=by
  intro l
  induction l with
  |nil=>intro _;rfl
  |cons f l ih =>
   intro h;obtain ⟨x,h1,h2⟩:=h f (by simp);have ih:=ih fun f hf=>h f (an _ hf)
   rw [dC,Aq];by_cases hn:f.name≠"_"
   ·rw [if_pos hn]
    simp only [Aq,h1,Option.bind_some,h2,BP];omega
   ·rw [if_neg hn]
    assumption
 rw [key l h];rfl
theorem Xd {fl:Bool} {n:Nat} {t e:TypeId} {xs:Array Value} {k:Nat} {x0 x1:Value} (ht:P.underlying t=some (.array 2 e)) (hk:(P.info? e).map (·.size)=some k) (p0:Dq P (part e xs 0)=some x0) (p1:Dq P (part e xs k)=some x1)
 (h0:Dq P (Instr.checkKey fl n e x0)=some ()) (h1:Dq P (Instr.checkKey fl n e x1)=some ()):Dq P (Instr.checkKey fl (n+1) t (.agg xs))=some ():=by
 rw [Instr.checkKey];simp only [Aq,AY,ht,Option.bind_some];rw [Std.Legacy.Range.forIn_eq_forIn_range'];show ((Dq P (forIn [0,1] _ _)).bind _)=_;simp only [List.forIn_cons,List.forIn_nil,Aq,BP,Nat.zero_mul,Nat.one_mul,Fz,hk,p0,p1,h0,h1,Option.bind_some]
theorem Qi {fl:Bool} {n:Nat} {t:TypeId} {d:TypeDesc} {x:Value} (ht:P.underlying t=some d) (hd:a6p d=true):Dq P (Instr.checkKey fl (n+1) t x)=some ():=by
 rw [Instr.checkKey];simp only [Aq,AY,ht,Option.bind_some];cases d<;>first|rfl|cases hd
theorem Aw.iH (d:Nat) {b:Nat} {e:TypeId} {ds:List PV} (cs:List FV) (hd:EY L d=some (.ref b 0)) (hb:hget H b=some (.box e ds)) (hds:ds=cs.map .p):Aw E L H nx ((d,.p (.EN cs))::L) (hdel H b) nx:=fun B m F σ t h1 h2 h3=>by
 subst hds;obtain ⟨c1,c2⟩:=lJ h1 hb;refine ⟨_,σ,c1,fun i v hi=>?_,h3.trans c2⟩;rw [DR] at hi;by_cases ei:d=i
 ·rw [if_pos ei] at hi;cases hi
  have:=h2 d _ hd;subst ei;cases this with
  |ref hb' hc h =>
   obtain ⟨c0,hs,hv⟩:=h (by simp [htag,hb,HB.tag]);obtain ⟨_,c,vs,r1,r2,r3,r4,r5,r6⟩:=h1.hp b _ hb;rw [r1] at hs;cases hs;rw [hv];have r5':=Dc.ZU r5;refine .p (.EN (g:=0) (.inr (by rw [r1];rfl)) r4 rfl ?_ (r5'.mono fun c hc=>⟨.inl hc,rfl⟩) r6);rw [cr,r5'.length];simp [takeN]
 ·rw [if_neg ei] at hi
  exact (h2 i v hi).step c2 h1
theorem Aa.yZ {x:Operand} {cs:List FV} (hx:AU E.Γ L x=some (.p (.EN cs))) (q:Q (.p (.EN cs)) H nx):Aa E w ⟨dst,.nilCheck x,ty,pos,af,gd⟩ L H nx Q :=
 Aa.quiet q fun m F σ tt h1 h2=>by
  obtain ⟨a,h3,h4⟩:=ZP h1 h2 hx;exact ⟨_,fun _=>by simp only [BU,Fb,h3],.p h4⟩
theorem Aa.a4d {t t2 e:TypeId} {x y:Operand} {cs:List FV} (hx:AU E.Γ L x=some (.p (.EN cs))) (hy:AU E.Γ L y=some (.p (.val (.pointer none)))) (ht:E.P.underlying t=some (.pointer e)) (q:Q (.p (.bool false)) H nx) :
 Aa E w ⟨dst,.binOp .eql t x y t2,ty,pos,af,gd⟩ L H nx Q:=Aa.quiet q fun m F σ tt h1 h2=>by
 obtain ⟨a,h3,_⟩:=ZP h1 h2 hx;have h5:=Ye h1 h2 hy;exact ⟨.bool false,fun _=>by simp [BU,Fb,h3,h5,OY,ht,JC],.p (.bool _)⟩
theorem Aa.a5r {t t2 e:TypeId} {x y:Operand} (hx:AU E.Γ L x=some (.p (.val (.pointer none)))) (hy:AU E.Γ L y=some (.p (.val (.pointer none)))) (ht:E.P.underlying t=some (.pointer e)) (q:Q (.p (.bool true)) H nx) :
 Aa E w ⟨dst,.binOp .eql t x y t2,ty,pos,af,gd⟩ L H nx Q:=Aa.quiet q fun m F σ tt h1 h2=>by
 have h4:=Ye h1 h2 hx;have h5:=Ye h1 h2 hy;exact ⟨.bool true,fun _=>by simp [BU,Fb,h4,h5,OY,ht,JC],.p (.bool _)⟩
end
end Go.Vm
namespace Go.Proofs.YtnjkoebfgcbbdaaGreatDoor
open Go Go.Am Go.Vm Go.Pie Go.Sch
attribute [local irreducible] Aa Ai Ag Ad AP Ak Bf BM Bq Ah Vm.Done BD AB Q7
attribute [local irreducible] Ci Ba DV DN Eo AZ CG
instance:Enc JY:={ default:=st0,enc:=fun x=>[.str (bs x.now),.int .i64 x.c0.d,.int .i64 x.c0.k,.int .i64 x.c1.d,.int .i64 x.c1.k,.bool x.b0,.bool x.b1],size:=7,len:=fun _=>rfl }
def vT (x:JY):List Value:=[.string (bs x.now),.int .i64 x.c0.d,.int .i64 x.c0.k,.int .i64 x.c1.d,.int .i64 x.c1.k,.bool x.b0,.bool x.b1]
theorem a6x (d:Nat) (a b:Vh):Dq Tryz.prog (Op.equalIn (d+2) 120 (.agg #[.int .i64 a.d,.int .i64 a.k]) (.agg #[.int .i64 b.d,.int .i64 b.k]))=some (decide (a=b)):=by
 obtain ⟨fs,hu⟩:∃ fs,Tryz.prog.underlying 120=some (.struct fs):=⟨_,rfl⟩
 refine OB hu (by simp) ?_;have hu2:some (TypeDesc.struct fs)=Tryz.prog.underlying 120:=hu.symm;cases hu2;show some (decide (a.d=b.d)&&(decide (a.k=b.k)&&true))=_;obtain ⟨a1,a2⟩:=a;obtain ⟨b1,b2⟩:=b;by_cases h1:a1=b1<;>by_cases h2:a2=b2<;>simp [h1,h2]
theorem zy (fl:Bool) (n:Nat) (a:Vh):Dq Tryz.prog (Instr.checkKey fl (n+2) 120 (.agg #[.int .i64 a.d,.int .i64 a.k]))=some ():=by
 rfl
theorem b4n (a b:JY):Dq Tryz.prog (Op.equal 124 (.agg (vT a).toArray) (.agg (vT b).toArray))=some (decide (a=b)):=by
 obtain ⟨fs,hu⟩:∃ fs,Tryz.prog.underlying 124=some (.struct fs):=⟨_,rfl⟩
 have h1:Dq Tryz.prog (Op.equalIn 9999 9 (.string (bs a.now)) (.string (bs b.now)))=some (decide (a.now=b.now)):=QZ (d:=9998) (td:=.string) rfl rfl;have h2:Dq Tryz.prog (Op.equalIn 9999 121 (.agg #[.int .i64 a.c0.d,.int .i64 a.c0.k,.int .i64 a.c1.d,.int .i64 a.c1.k]) (.agg #[.int .i64 b.c0.d,.int .i64 b.c0.k,.int .i64 b.c1.d,.int .i64 b.c1.k]))=some (decide (a.c0=b.c0)&&decide (a.c1=b.c1)) :=
  aH (d:=9998) (e:=120) (n:=2) rfl rfl (ES rfl rfl) (ES rfl rfl) (ES rfl rfl) (ES rfl rfl) (a6x 9996 a.c0 b.c0) (a6x 9996 a.c1 b.c1)
 have h3:Dq Tryz.prog (Op.equalIn 9999 122 (.agg #[.bool a.b0,.bool a.b1]) (.agg #[.bool b.b0,.bool b.b1]))=some ((a.b0==b.b0)&&(a.b1==b.b1)) :=
  aH (d:=9998) (e:=4) (n:=1) rfl rfl (FN rfl rfl) (FN rfl rfl) (FN rfl rfl) (FN rfl rfl) (QZ (d:=9997) (td:=.bool) rfl rfl) (QZ (d:=9997) (td:=.bool) rfl rfl)
 have:=dh (P:=Tryz.prog) (d:=9999) (t:=124) (xs:=(vT a).toArray) (ys:=(vT b).toArray) (bs:=[decide (a.now=b.now),decide (a.c0=b.c0)&&decide (a.c1=b.c1),(a.b0==b.b0)&&(a.b1==b.b1)]) hu (by kernel_rfl) (by
  have hu2:some (TypeDesc.struct fs)=Tryz.prog.underlying 124:=hu.symm;cases hu2;rfl) (by
  have hu2:some (TypeDesc.struct fs)=Tryz.prog.underlying 124:=hu.symm;cases hu2;intro i f b' hf hb
  match i with
  |0 =>
   cases hf;cases hb;exact ⟨by decide,_,_,FN (v:=.string (bs a.now)) rfl rfl,FN (v:=.string (bs b.now)) rfl rfl,h1⟩
  |1 =>
   cases hf;cases hb;exact ⟨by decide,_,_,ES rfl rfl,ES rfl rfl,h2⟩
  |2 =>
   cases hf;cases hb;exact ⟨by decide,_,_,ES rfl rfl,ES rfl rfl,h3⟩
  |i+3=>cases hb)
 refine ee this (congrArg some ?_);obtain ⟨a1,a2,a3,a4,a5⟩:=a;obtain ⟨b1,b2,b3,b4,b5⟩:=b;simp only [List.all_cons,List.all_nil,id_eq,Bool.and_true,JY.mk.injEq];rw [eV];simp only [Bool.and_eq_true,decide_eq_true_eq,beq_iff_eq];constructor
 ·rintro ⟨g1,⟨g2,g3⟩,g4,g5⟩;exact ⟨g1,g2,g3,g4,g5⟩
 ·rintro ⟨g1,g2,g3,g4,g5⟩;exact ⟨g1,⟨g2,g3⟩,g4,g5⟩
theorem b2d (fl:Bool) (a:JY):WV Tryz.prog (Instr.checkKey fl 10000 124 (.agg (vT a).toArray))=true:=by
 obtain ⟨fs,hu⟩:∃ fs,Tryz.prog.underlying 124=some (.struct fs):=⟨_,rfl⟩
 have:Dq Tryz.prog (Instr.checkKey fl 10000 124 (.agg (vT a).toArray))=some ():=by
  refine Zf (n:=9999) hu fun f hf=>?_
  have hu2:some (TypeDesc.struct fs)=Tryz.prog.underlying 124:=hu.symm;cases hu2;rcases be.1 hf with rfl|hf
  ·exact ⟨_,FN (v:=.string (bs a.now)) rfl rfl,Qi (n:=9998) (d:=.string) rfl rfl⟩
  rcases be.1 hf with rfl|hf
  ·refine ⟨_,ES rfl rfl,?_⟩
   exact Xd (n:=9998) (e:=120) (k:=2) rfl rfl (ES rfl rfl) (ES rfl rfl) (zy fl 9996 a.c0) (zy fl 9996 a.c1)
  rcases be.1 hf with rfl|hf
  ·refine ⟨_,ES rfl rfl,?_⟩
   exact Xd (n:=9998) (e:=4) (k:=1) rfl rfl (FN (v:=.bool a.b0) rfl rfl) (FN (v:=.bool a.b1) rfl rfl) (Qi (n:=9997) (d:=.bool) rfl rfl) (Qi (n:=9997) (d:=.bool) rfl rfl)
  ·cases hf
 unfold WV;rw [this]
theorem iT:Hy Tryz.prog 124 (fun x:JY=>.agg (Enc.enc x)) (fun x=>.agg (vT x).toArray):=Hy.b9y (fun _=>rfl) (by rfl) b4n b2d
theorem a5y (a b:List UInt8) (h:bs a=bs b):a=b:=by
 have:=congrArg (fun x:ByteArray=>x.data.toList) h;assumption
theorem Yi:Hy Tryz.prog 9 (fun x:List UInt8=>.str (bs x)) (fun x=>.string (bs x)):=Hy.ofStr a5y rfl
theorem Xh (a:Int):Ak env 126 [.int .i64 a] (.p (.bool false)):=by
 refine Ak.enter (Ae (by decide)) Tryz.func126 rfl (by kernel_rfl) (by simp) ?_
 repeat' (first|refine go2 ?_|fail)
 all_goals first|(omega)|(refine Done.rt rfl rfl ⟨?_,rfl,rfl⟩)
 simp
theorem oM (a b:Int):Ak env 87 [.int .i64 a,.int .i64 b] (.p (.int .i64 (if a<b then -1 else if b<a then 1 else 0))):=by
 have n1:=Xh a;have n2:=Xh b;by_cases h1:a<b;all_goals by_cases h2:b<a
 all_goals first|rw [if_pos h1]|rw [if_neg h1]
 all_goals try first|rw [if_pos h2]|rw [if_neg h2]
 all_goals
  refine Ak.enter (Ae (by decide)) Tryz.func87 rfl (by kernel_rfl) (by simp [Tryz.ntmps87]) ?_
 all_goals
  repeat' (first|(apply Aa.fn;rfl;rfl;exact n1;intro _;rfl)|(apply Aa.fn;rfl;rfl;exact n2;intro _;rfl)|refine go1 ?_|(apply Aa.int;rfl;rfl;rfl)|(apply Ad.Aj;rfl)|(apply Ad.Ac;rfl)|(intro _;try (exfalso;omega)))
 all_goals first|(exfalso;omega)|contradiction|(refine Done.rt rfl rfl ⟨?_,rfl,rfl⟩;try rfl)
theorem a0q (a b:List Int):∀ k,k<a.length→k<b.length→cmpL (a.drop k) (b.drop k)=if gi a k<gi b k then -1 else if gi b k<gi a k then 1 else cmpL (a.drop (k+1)) (b.drop (k+1)):=fun k ha hb=>by
 rw [cf ha,cf hb];have e1:gi a k=a[k]:=by unfold gi;grind
 have e2:gi b k=b[k]:=by unfold gi;grind
 rw [e1,e2];rfl
theorem RS (a b:List Int) (h:a.length=b.length) (hl:a.length<1000000):Ak env 40 [.lst 3 (cells a) a.length,.lst 3 (cells b) b.length] (.p (.int .i64 (cmpL a b))):=by
 refine Ak.enter (Ae (by decide)) Tryz.func40 rfl (by kernel_rfl) (by simp [Tryz.ntmps40]) ?_
 repeat' (first|refine go1 ?_|fail)
 all_goals try (exfalso;omega)
 apply Ad.Il (a.length) (fun k=>cmpL (a.drop k) (b.drop k)=cmpL a b) [(0,_),(1,_),(9,_),(10,_)] [] (fun k r=>(11,.p (.int .i64 (k:Int)))::r) (fun k r=>r) 0
 ·first|omega|decide
 ·first|omega|decide
 ·exact RH
 ·exact U0
 ·first|(intro _ _;omega)|omega|trivial
 ·intro k hk hi
  have hc:=oM (gi a k) (gi b k);have hd:=a0q a b k hk (by omega);rw [hi] at hd;by_cases h1:gi a k<gi b k
  ·rw [if_pos h1] at hc hd
   rw [hd]
   repeat' (first|(apply Aa.fn;rfl;rfl;exact hc;intro _;rfl)|(apply Aa.Ap;rfl;rfl;rfl;omega;rfl)|refine go1 ?_|(apply Aa.int;rfl;rfl;rfl)|(apply Ad.Ac;rfl)|(apply Ad.cond_true;rfl)|(intro _;try (exfalso;omega)))
   all_goals first|(exfalso;omega)|contradiction|(refine Done.rt rfl rfl ⟨?_,rfl,rfl⟩;try rfl)
  ·rw [if_neg h1] at hc hd
   by_cases h2:gi b k<gi a k
   ·rw [if_pos h2] at hc hd
    rw [hd]
    repeat' (first|(apply Aa.fn;rfl;rfl;exact hc;intro _;rfl)|(apply Aa.Ap;rfl;rfl;rfl;omega;rfl)|refine go1 ?_|(apply Aa.int;rfl;rfl;rfl)|(apply Ad.Ac;rfl)|(apply Ad.cond_true;rfl)|(intro _;try (exfalso;omega)))
    all_goals first|(exfalso;omega)|contradiction|(refine Done.rt rfl rfl ⟨?_,rfl,rfl⟩;try rfl)
   ·rw [if_neg h2] at hc hd
    repeat' (first|(apply Aa.fn;rfl;rfl;exact hc;intro _;rfl)|(apply Aa.Ap;rfl;rfl;rfl;omega;rfl)|refine go1 ?_|(apply Aa.int;rfl;rfl;rfl)|(apply Ad.Ac;rfl)|(apply Ad.cond_false;rfl)|(intro _;try (exfalso;omega)))
    all_goals try (exfalso;omega)
    all_goals try contradiction
    refine Ah.normal ⟨hd.symm,by first|omega|decide,?_,?_⟩
    ·exact Dl
    ·exact Eh
 ·intro hi
  have e0:cmpL a b=0:=by
   rw [← hi,eJ (ab _),eJ (by omega)];rfl
  rw [e0]
  repeat' (first|refine go2 ?_|(apply Ad.Ac;rfl)|(intro _;try (exfalso;omega)))
  all_goals first|(exfalso;omega)|(refine Done.rt rfl rfl ⟨?_,rfl,rfl⟩;try rfl)
end Go.Proofs.YtnjkoebfgcbbdaaGreatDoor
namespace Go.Vm
open Go.Am
variable {E:Env} {n bn:Nat} {L:Frame} {H:Heap} {nx:Nat}
def Lrn (ρ:Nat→Nat):Frame→Frame
 |[]=>[]
 |(i,v)::L=>(i,v.rn ρ)::Lrn ρ L
theorem zn (ρ:Nat→Nat):∀ (L:Frame) (i:Nat),EY (Lrn ρ L) i=(EY L i).map (·.rn ρ)
 |[],_=>rfl
 |(j,v)::L,i=>by
  simp only [Lrn,DR];split
  ·rfl
  ·exact zn ρ L i
theorem AV.swap {c:Code} {Q:BK→Frame→Heap→Nat→Prop} (a b:Nat) (ha:bn≤a) (hb:bn≤b) (ha':a<nx) (hb':b<nx) (h:AV E n bn c (Lrn (swp a b) L) (Hrn (swp a b) H) nx Q):AV E n bn c L H nx Q:=by
 intro hs hok hfl B hB m F σ t h1 h2 h3;have hr:∀ j,j<nx→swp a b j<nx∧htag (Hrn (swp a b) H) (swp a b j)=htag H j∧(fun i=>σ (swp a b i)) (swp a b j)=σ j:=fun j hj=>⟨rX ha' hb' hj,kE a b H j,by simp only [NM]⟩
 have d1:=b2a ha' hb' h1;refine h hs hok hfl B hB m F _ t d1 (fun i v hi=>?_) ?_
 ·rw [zn,ae] at hi
  obtain ⟨u,hu,rfl⟩:=hi;exact RP.rn hr (h2 i u hu)
 ·refine ⟨h3.size,h3.keep,h3.J7,h3.J5,fun c hc ho=>h3.Ji c hc (b2j ho),h3.VX,fun j hj=>?_,h3.low⟩
  have e:swp a b j=j:=a9l ha hb (by omega);have e2:=kE a b H j;rw [e] at e2;simp only [e,e2];exact h3.names j hj
theorem Bz.b8a {ops:Array Oper} {l:List Oper} {R:Frame→Heap→Nat→Prop} {dst:Option Tmp} {ty:TypeId} {pos:String} {af:Array Edge} {fo:Operand} {args:Array Operand} {aT:Array TypeId} {g:FuncId} {fs cs Bo ac:List PV} {Hc:Heap} {Qc:PV→Heap→Nat→Prop} (ns:List Nat) (hc:F9 E g ac Hc ns.length Qc)
 (hent:Enters E.P g) (hf:AU E.Γ L fo=some (.clo g fs cs)) (ha:evs E.Γ L args.toList=some Bo) (hle:NV (fs++Bo++cs) (CS.rn (rho ns nx) ac)) (hu:CS.under ns.length ac) (wO:KQ ns.length Hc) (hin:HIn (rho ns nx) H Hc) (hnd:ns.Nodup) (hlt:∀ b∈ns,b<nx)
 (hq:∀ r H' nx',Qc r H' nx'→Bz E n bn ops l (Hz L dst (r.rn (rho ns nx))) (news ns.length (rho ns nx) H' (merge ns (rho ns nx) H' H)) (nx+(nx'-ns.length)) R) :
 Bz E n bn ops (⟨dst,.call { callee:=.value fo,args:=args,argTypes:=aT },ty,pos,af,none⟩::l) L H nx R:=Bz.Zj hent hf ha hle hu wO hin hnd hlt hc hq
end Go.Vm
namespace Go.Proofs.YtnjkoebfgcbbdaaGreatDoor
open Go Go.Am Go.Vm Go.Pie Go.Sch
attribute [local irreducible] Aa Ai Ag Ad AP Ak Bf BM Bq Ah Vm.Done BD AB Q7 AV Bz Ee Ic F9 Hold
attribute [local irreducible] Ci Ba DV DN Eo AZ CG
abbrev Way:=List Int×Int
def PO (w:Way):FV:=.agg [.lst 3 (cells w.1) w.1.length,.int .i64 w.2]
def JK (es:List (JY×Way)):List (JY×PV):=es.map fun e=>(e.1,.p (PO e.2))
def Lu (es:List (JY×Way)):HB:=MK (fun x:JY=>.agg (Enc.enc x)) (JK es)
theorem UN {α β γ:Type} [DecidableEq α] (g:β→γ) (a:α):∀ es:List (α×β),BN (es.map fun e=>(e.1,g e.2)) a=(BN es a).map g
 |[]=>rfl
 |x::es=>by
  simp only [List.map_cons,BN];split
  ·rfl
  ·exact UN g a es
theorem UO {α β γ:Type} [DecidableEq α] (g:β→γ) (a:α) (b:β):∀ es:List (α×β),BZ (es.map fun e=>(e.1,g e.2)) a (g b)=(BZ es a b).map fun e=>(e.1,g e.2)
 |[]=>rfl
 |x::es=>by
  simp only [List.map_cons,BZ];split
  ·rfl
  ·rw [UO g a b es];rfl
theorem Cm (k:Nat) (es:List (JY×Way)):HB.under k (Lu es):=by
 induction es with
 |nil=>exact trivial
 |cons e es ih=>exact ⟨trivial,ih⟩
theorem X6 (ρ:Nat→Nat) (es:List (JY×Way)):(Lu es).rn ρ=Lu es:=by
 show HB.Js _ (CS.rn ρ ((JK es).map (·.2)))=HB.Js _ _;have:CS.rn ρ ((JK es).map (·.2))=(JK es).map (·.2):=by
  induction es with
  |nil=>rfl
  |cons e es ih =>
   show PV.rn ρ (PV.p (PO e.2))::CS.rn ρ ((JK es).map (·.2))=_;rw [ih];rfl
 grind
section
variable {L:Vm.Frame} {H:Vm.Heap} {nx:Nat} {Q:PV→Vm.Heap→Nat→Prop} {w:Bool} {dst:Option Tmp} {ty:TypeId} {pos:String} {af:Array Edge} {gd:Option (Nat×Bool)}
theorem b3h {t:TypeId} (q:Q (.mref nx) ((nx,Lu [])::H) (nx+1)):Aa env w ⟨dst,.makeMap t none,ty,pos,af,gd⟩ L H nx Q:=Aa.Zq q
def foundW:Option Way→PV
 |none=>.p (.agg [.val (.slice none 0 0),.int .i64 0])
 |some w=>.p (PO w)
theorem lookW {t:TypeId} {x k:Operand} {b:Nat} {m:List (JY×Way)} {y:JY} (hx:AU env.Γ L x=some (.mref b)) (hb:hget H b=some (Lu m)) (hk:AU env.Γ L k=some (.p (.agg (Enc.enc y))))
 (ht:env.P.underlying t=some (.map 124 127)) (q:Q (.DX [foundW (BN m y),.p (.bool (BN m y).isSome)]) H nx):Aa env w ⟨dst,.lookup t x k true,ty,pos,af,gd⟩ L H nx Q:=by
 have hl:BN (JK m) y=(BN m y).map fun w=>PV.p (PO w):=UN (fun w=>PV.p (PO w)) y m
 have hs:(BN (JK m) y).isSome=(BN m y).isSome:=by grind
 rw [← hs] at q;refine Aa.lookupGo (z:=.agg #[.slice none 0 0,.int .i64 0]) iT hx hb hk ht (by kernel_rfl) rfl ?_ q;cases h:BN m y with
 |none =>
  rw [h] at hl;exact KT.const hl rfl
 |some w =>
  rw [h] at hl;exact .inl hl
theorem b5j {t:TypeId} {x k:Operand} {b:Nat} {m:List (JY×Way)} {y:JY} (hl:BN m y=none) (hx:AU env.Γ L x=some (.mref b)) (hb:hget H b=some (Lu m)) (hk:AU env.Γ L k=some (.p (.agg (Enc.enc y))))
 (ht:env.P.underlying t=some (.map 124 127)) (q:Q (.DX [.p (.agg [.val (.slice none 0 0),.int .i64 0]),.p (.bool false)]) H nx):Aa env w ⟨dst,.lookup t x k true,ty,pos,af,gd⟩ L H nx Q :=
 lookW hx hb hk ht (by rw [hl];exact q)
theorem b3z {t:TypeId} {x k:Operand} {b:Nat} {m:List (JY×Way)} {y:JY} {v:Way} (hl:BN m y=some v) (hx:AU env.Γ L x=some (.mref b)) (hb:hget H b=some (Lu m)) (hk:AU env.Γ L k=some (.p (.agg (Enc.enc y))))
 (ht:env.P.underlying t=some (.map 124 127)) (q:Q (.DX [.p (PO v),.p (.bool true)]) H nx):Aa env w ⟨dst,.lookup t x k true,ty,pos,af,gd⟩ L H nx Q :=
 lookW hx hb hk ht (by rw [hl];exact q)
theorem b9a {t:TypeId} {x k y':Operand} {b:Nat} {m:List (JY×Way)} {y:JY} (v:Way) (hx:AU env.Γ L x=some (.mref b)) (hb:hget H b=some (Lu m)) (hk:AU env.Γ L k=some (.p (.agg (Enc.enc y)))) (hy:AU env.Γ L y'=some (.p (PO v)))
 (ht:env.P.underlying t=some (.map 124 127)) (q:Q (.DX []) (hput H b (Lu (BZ m y v))) nx):Aa env true ⟨dst,.mapUpdate t x k y',ty,pos,af,gd⟩ L H nx Q :=
 Aa.zh iT hx hb hk hy ht (by
  show hput H b (MK _ (BZ (JK m) y (.p (PO v))))=hput H b (MK _ (JK (BZ m y v)));have:BZ (JK m) y (PV.p (PO v))=JK (BZ m y v):=UO (fun w=>PV.p (PO w)) y v m;grind) q
theorem b8b {t:TypeId} {x k y':Operand} {b:Nat} {m:List (JY×Way)} {y:JY} (v:Way) (hx:AU env.Γ L x=some (.mref b)) (hb:hget H b=some (Lu m)) (hk:AU env.Γ L k=some (.p (.agg (Enc.enc y)))) (hy:AU env.Γ L y'=some (.p (PO v)))
 (ht:env.P.underlying t=some (.map 124 127)) (q:Q (.DX []) (hput H b (Lu (BZ m y v))) nx):Aa env true ⟨dst,.insert t x k y',ty,pos,af,gd⟩ L H nx Q :=
 Aa.x9 iT hx hb hk hy ht (by
  show hput H b (MK _ (BZ (JK m) y (.p (PO v))))=hput H b (MK _ (JK (BZ m y v)));have:BZ (JK m) y (PV.p (PO v))=JK (BZ m y v):=UO (fun w=>PV.p (PO w)) y v m;grind) q
end
theorem qc (q:Qu) (hq:JV q) {t:Nat} (ht:t<(A8 q.p).length) {l:List Int} (hl:a0n q t l) {x:List Int} (hx:x∈jh q t l):x.length=q.p.notes.length∧∀ i,i<x.length→0≤gi x i∧gi x i≤2:=by
 have hS:=Xq q hq;have hll:=hl.len;have hm:=(MZ (nw:=MJ q t) (f:=fQ q t) (l:=l) (kQ q t) (hS.inj t ht) (fun j hj=>by rw [hll];exact hS.rng t ht j hj) hl.zero x).1 (List.mem_filter.1 hx).1;refine ⟨hm.1.trans hll,fun i hi=>?_⟩;have h2:=hm.2 i (by omega);by_cases h:V5 (MJ q t) (fQ q t) (kQ q t) i
 ·rcases h2.1 h with e|e<;>omega
 ·rw [h2.2 h];exact hl.rng i (by omega)
theorem qy (q:Qu) (t:Nat) (hM:kQ q t≤12) (l:List Int):(jh q t l).length≤4096:=by
 refine am (dd _ _) (am (Y1 _ _ _ _).2 ?_);exact ax (by decide) (show kQ q t≤12 by omega)
def a4b (q:Qu) (t:Nat) (e:JY×Way):List (JY×Way):=(jh q t e.2.1).map fun x=>(G8 q t e.1 x,(x,e.2.2+KZ q t e.1 x))
def b0p (q:Qu) (t:Nat) (x:JY) (l:List Int):Nat→JY
 |0=>⟨OT (Jd q t) l,x.c0,x.c1,x.b0,x.b1⟩
 |1=>⟨OT (Jd q t) l,if (FY q l 0 t).1=true then (FY q l 0 t).2 else x.c0,x.c1,(FY q l 0 t).1||x.b0,x.b1⟩
 |_=>G8 q t x l
def a1n (q:Qu) (t:Nat) (x:JY) (c:Int) (l:List Int):Nat→Int
 |0=>c
 |1=>c+Gl (FY q l 0 t) x.b0 x.c0
 |_=>c+Gl (FY q l 0 t) x.b0 x.c0+Gl (FY q l 1 t) x.b1 x.c1
theorem a6u (q:Qu) (t:Nat) (x:JY) (c:Int) (l:List Int):a1n q t x c l 2=c+KZ q t x l:=by
 show c+Gl (FY q l 0 t) x.b0 x.c0+Gl (FY q l 1 t) x.b1 x.c1=c+(Gl (FY q l 0 t) x.b0 x.c0+Gl (FY q l 1 t) x.b1 x.c1);omega
def both (b c:Bool) (v w:Int):Int:=bif b then (bif c then v else w) else w
theorem o7 (x:Int) (b c:Bool) (a d:Vh):x+Gl (b,a) c d=both b c (x+mvC d a) x:=by cases b<;>cases c<;>simp [Gl,both]
theorem ay (r:Bool×Vh) (b:Bool) (c:Vh) (hr:r.2.Ok) (hc:c.Ok):0≤Gl r b c∧Gl r b c≤139:=by
 have:=Yn hc hr;unfold Gl;omega
theorem a7n {n:Nat} {m:List (JY×Way)} {d:JY×Way} (hm:∀ e∈m,e.2.1.length=n) (hd:d.2.1.length=n):∀ e∈RX m d,e.2.1.length=n:=fun e he=>by
 have key:∀ e∈BZ m d.1 d.2,e.2.1.length=n:=fun e he=>by
  rcases PZ he with h|h|h
  ·grind
  ·grind
  grind
 unfold RX at he;grind
structure b8j (q:Qu) (t:Nat) (e:JY×Way):Prop where
 way:a0n q t e.2.1
 cost:0≤e.2.2∧e.2.2≤1000000000000
 c0:e.1.c0.Ok
 c1:e.1.c1.Ok
instance:Inhabited (JY×Way):=⟨(st0,([],0))⟩
def Rl (q:Qu) (t:Nat) (es:List (JY×Way)) (V:List Nat):List (JY×Way):=((V.map (gi es)).flatMap (a4b q t)).foldl RX []
theorem PY:Am.Enters Tryz.prog 41:=⟨_,Tryz.func41,by rfl,by rfl⟩
theorem uG (q:Qu) (hq:JV q) (t:Nat) (ht:t<(A8 q.p).length) (hM:kQ q t≤12) (es:List (JY×Way)) (hes:∀ e∈es,b8j q t e) :
 F9 env 39 [.p (.agg (Enc.enc q)),.p (.agg (Enc.enc (Ns q t))),.mref 0] [(0,Lu es)] 1 (fun r H' nx'=>∃ V:List Nat,V.Nodup∧(∀ i,i∈V↔i<es.length)∧r=.mref 1∧H'=[(1,Lu (Rl q t es V))]∧nx'=2):=by
 refine F9.enter Tryz.func39 rfl (by kernel_rfl) (by kernel_rfl) (by simp [Tryz.ntmps39]) ?_
 repeat' (first|((refine AV.at 2 ?_;refine Hold.of ?_))|apply AV.BL|apply AV.to|refine Zm ?_|(apply b3h))
 all_goals try (exfalso;omega)
 refine Hold.go ?_;refine AV.kD (fun m:List (JY×Way)=>[(3,.ref 1 0),(4,.ref 2 0),(7,.mref 3),(21,.mref 0)]) (fun m=>[(0,Lu es),(1,bP q),(2,slB (Ns q t)),(3,Lu m)]) (fun V m=>m=Rl q t es V∧∀ e∈m,e.2.1.length=q.p.notes.length) [] (Dn:=4) (b:=0) (ks:=(JK es).map fun x=>.agg (Enc.enc x.1)) (cs:=(JK es).map (·.2)) rfl rfl (by decide) rfl ⟨rfl,fun e h=>absurd h bk⟩ ⟨by decide,?_,?_⟩ rfl (fun _=>⟨rfl,rfl,rfl⟩) (fun _ _ _=>rfl) (by simp) rfl (by kernel_rfl) (by kernel_rfl) (by decide) ?_ ?_
 ·exact Dl
 ·repeat (first|exact BH.nil|(refine BH.cons (Bh rfl) ?_ rfl ?_ ?_;(first|exact Cm _ _|exact CU _ _|exact HB.Az rfl|exact CS.Bd _ _|(simp [HB.under,CS.under,PV.under]));(first|exact JH.refl _|exact JH.vec (Jg.refl _) (by simp))))
 ·rintro V m i kk c ⟨hi,hml⟩ hnd hni hk hc
  subst hi;have hil:i<es.length:=by
   have:=(bt.1 hk).1;simpa [JK] using this
  have hm:=EK hil;have hei:es[i]?=some (gi es i):=by unfold gi;rw [ai hil];rfl
  have hE:=hes _ hm;have ek:kk=.agg (Enc.enc (gi es i).1):=by
   unfold JK at hk;rw [av,av,hei] at hk;simpa using hk.symm
  have ec:c=.p (PO (gi es i).2):=by
   unfold JK at hc;rw [av,av,hei] at hc;simpa using hc.symm
  subst ek;subst ec;have hfold:Rl q t es (V++[i])=(a4b q t (gi es i)).foldl RX (Rl q t es V):=by
   unfold Rl;rw [bj,gP,cX,List.map_singleton,gx]
  rw [hfold];clear hfold;generalize Rl q t es V=m0 at *;generalize gi es i=e at *;obtain ⟨⟨nw,c0,c1,b0,b1⟩,l,cc⟩:=e;obtain ⟨h1,h2,h3,h4⟩:=hE;simp only at h1 h2 h3 h4;have hch:=TS q hq t ht hM l h1;have hwy:=fun y hy=>qc q hq ht h1 (x:=y) hy
  have hLl:=qy q t hM l;unfold a4b;simp only;generalize jh q t l=L at *;have hN:mW q (Ns q t).notes:=Qn ht;have hNl:(Ns q t).notes.length≤1000:=YG hq ht;obtain ⟨G,hG⟩:∃ G:List Int→JY×Way,G=fun y=>(G8 q t ⟨nw,c0,c1,b0,b1⟩ y,(y,cc+KZ q t ⟨nw,c0,c1,b0,b1⟩ y)):=⟨_,rfl⟩
  rw [← hG]
  repeat' (first|(refine AV.at 5 ?_;apply AV.Gm)|(apply Bz.fn;rfl;rfl;exact hch;exact PY;intro _;rfl)|apply AV.block|apply Bz.nil|apply Bz.one|refine Zm ?_|fail)
  all_goals try (exfalso;omega)
  refine AV.yR ?_;apply Ad.Il (L.length) (fun k=>∀ e∈((L.take k).map G).foldl RX m0,e.2.1.length=q.p.notes.length) [(3,_),(4,_),(7,_),(8,_),(9,_),(21,_),(32,_),(33,_)] [(0,_),(1,_),(2,_),(4,_),(5,_)] (fun k r=>(34,.p (.int .i64 (k:Int)))::r) (fun k r=>(3,Lu (((L.take k).map G).foldl RX m0))::r) 6
  ·first|omega|decide
  ·first|omega|decide
  ·exact RH
  ·repeat (first|exact BH.nil|(refine BH.eq rfl (Bh rfl) ?_ ?_;(first|exact Cm _ _|exact CU _ _|exact HB.Az rfl|exact CS.Bd _ _|(simp [HB.under,CS.under,PV.under];done)))|(refine BH.cons (Bh rfl) ?_ rfl ?_ ?_;(first|exact Cm _ _|exact CU _ _|exact trivial|exact CS.Bd _ _|(simp [HB.under,CS.under,PV.under]));(first|exact JH.refl _|exact JH.vec (Jg.refl _) (by simp))))
  ·first|(intro _ _;omega)|omega|trivial
  ·intro k hk hi
   obtain ⟨y1,y2⟩:=hwy _ (EK hk);have e1:((L.take (k+1)).map G).foldl RX m0=RX (((L.take k).map G).foldl RX m0) (G (gi L k)):=by
    rw [Em hk,bj,cX];rfl
   rw [e1];clear e1;generalize ((L.take k).map G).foldl RX m0=m at *;have n1:=hq.p.notes;have b0w:=oH q (Ns q t) hN hNl (gi L k) y1 y2;have hh0:=QI q hq (Ns q t) hN hNl (gi L k) 0 y1;have hh1:=QI q hq (Ns q t) hN hNl (gi L k) 1 y1;have a0:=YI hq hN (gi L k) 0 _ (ab _);have a1:=YI hq hN (gi L k) 1 _ (ab _);have hr0:U1 q.p (Ns q t).notes (gi L k) 0 (Ns q t).notes.length=FY q (gi L k) 0 t:=rfl;have hr1:U1 q.p (Ns q t).notes (gi L k) 1 (Ns q t).notes.length=FY q (gi L k) 1 t:=rfl;have es0:b0p q t ⟨nw,c0,c1,b0,b1⟩ (gi L k) (0+1)=⟨OT (Jd q t) (gi L k),if (FY q (gi L k) 0 t).1=true then (FY q (gi L k) 0 t).2 else c0,c1,(FY q (gi L k) 0 t).1||b0,b1⟩:=rfl;have es1:b0p q t ⟨nw,c0,c1,b0,b1⟩ (gi L k) (1+1)=⟨OT (Jd q t) (gi L k),if (FY q (gi L k) 0 t).1=true then (FY q (gi L k) 0 t).2 else c0,if (FY q (gi L k) 1 t).1=true then (FY q (gi L k) 1 t).2 else c1,(FY q (gi L k) 0 t).1||b0,(FY q (gi L k) 1 t).1||b1⟩:=rfl;have ec0:a1n q t ⟨nw,c0,c1,b0,b1⟩ cc (gi L k) (0+1)=cc+Gl (FY q (gi L k) 0 t) b0 c0:=rfl;have ec1:a1n q t ⟨nw,c0,c1,b0,b1⟩ cc (gi L k) (1+1)=cc+Gl (FY q (gi L k) 0 t) b0 c0+Gl (FY q (gi L k) 1 t) b1 c1:=rfl;rw [hr0] at hh0 a0;rw [hr1] at hh1 a1
   repeat' (first|(refine Ag.atIdx 4 ?_;apply Ag.weak [.tmp 39];decide +kernel;rfl;rfl;(first|exact Ll.ref rfl|exact Ll.vec rfl|exact Ll.EZ rfl);decide +kernel;rfl)|apply Ad.assoc|apply Ad.BL|apply Ad.CO|apply Ad.G5|apply Ad.FP|apply Ai.nil|apply Ag.nil|apply Ai.one|(apply Ag.bar;decide +kernel)|apply Ag.quiet|(apply Aa.fn;rfl;rfl;exact b0w;intro _;rfl)|(apply Aa.assign;rfl)|(apply Aa.move;rfl)|(apply Aa.int;rfl;rfl;rfl)|(apply Aa.Ap;rfl;rfl;rfl;omega;rfl)|(apply Aa.load;rfl;rfl)|(apply Aa.Ii;rfl;rfl;rfl)|(apply Aa.alloc;rfl)|(apply Aa.FD;rfl;rfl;rfl;trivial;rfl;rfl;exact Bh rfl;exact le_dec rfl)|(apply Ad.Ac;rfl)|(intro _;try (exfalso;omega)))
   all_goals try (exfalso;omega)
   apply Ad.Jj (2) [(3,_),(4,_),(7,_),(8,_),(9,_),(11,_),(12,_),(21,_),(32,_),(33,_),(34,_)] [(0,_),(1,_),(2,_),(3,_),(4,_),(5,_)] (fun k_ r=>(46,.p (.int .i64 (k_:Int)))::(13,.p (.int .i64 (a1n q t ⟨nw,c0,c1,b0,b1⟩ cc (gi L k) k_)))::r) (fun k_ r=>(6,.box 124 ((Enc.enc (b0p q t ⟨nw,c0,c1,b0,b1⟩ (gi L k) k_)).map .p))::r) 7
   ·first|omega|decide
   ·first|omega|decide
   ·exact RH
   ·repeat (first|exact BH.nil|(refine BH.eq rfl (Bh rfl) ?_ ?_;(first|exact Cm _ _|exact CU _ _|exact HB.Az rfl|exact CS.Bd _ _|(simp [HB.under,CS.under,PV.under];done)))|(refine BH.cons (Bh rfl) ?_ rfl ?_ ?_;(first|exact Cm _ _|exact CU _ _|exact trivial|exact CS.Bd _ _|(simp [HB.under,CS.under,PV.under]));(first|exact JH.refl _|exact JH.vec (Jg.refl _) (by simp))))
   ·intro k_ hk_
    obtain rfl|rfl:k_=0∨k_=1:=by omega
    ·generalize FY q (gi L k) 0 t=r0 at *
     obtain ⟨b,a⟩:=r0;have a0:a.Ok:=a0;have hm0:=fK c0 a h3 a0;have hmr:=Yn h3 a0;have hk0:a1n q t ⟨nw,c0,c1,b0,b1⟩ cc (gi L k) 0=cc:=rfl;have ei:cc+Gl (b,a) b0 c0=both b b0 (cc+mvC c0 a) cc:=o7 cc b b0 a c0;rw [ec0,es0,ei];cases b<;>cases b0
     all_goals
      repeat' (first|(apply Aa.fn;rfl;rfl;exact hh0;intro _;rfl)|(apply Aa.fn;rfl;rfl;exact hm0;intro _;rfl)|(apply Aa.LZ;rfl;rfl;rfl;rfl;rfl;decide)|refine FT ?_|(apply Aa.int;rfl;rfl;rfl)|(apply Ad.AX;rfl)|(apply Ad.Aj;rfl))
     all_goals try (exfalso;omega)
     all_goals try contradiction
     all_goals
      refine Ah.normal ⟨by first|omega|decide,?_,?_⟩
      ·exact Dl
      ·repeat (first|exact BH.nil|(refine BH.cons (Bh rfl) ?_ rfl ?_ ?_;(first|exact Cm _ _|exact CU _ _|exact HB.Az rfl|exact CS.Bd _ _|(simp [HB.under,CS.under,PV.under]));(first|exact JH.refl _|exact JH.vec (Jg.refl _) (by simp))))
    ·generalize FY q (gi L k) 1 t=r1 at *
     obtain ⟨b,a⟩:=r1;have a1:a.Ok:=a1;have hm0:=fK c1 a h4 a1;have hmr:=Yn h4 a1;have hk2:a1n q t ⟨nw,c0,c1,b0,b1⟩ cc (gi L k) 1=cc+Gl (FY q (gi L k) 0 t) b0 c0:=ec0;have hin:0≤Gl (FY q (gi L k) 0 t) b0 c0∧Gl (FY q (gi L k) 0 t) b0 c0≤139:=ay _ _ _ a0 h3;have es2:=es0;simp only [Nat.zero_add] at es2;generalize FY q (gi L k) 0 t=r0 at *;rw [ec1,es1,hk2,es2];generalize Gl r0 b0 c0=i0 at *;have ei:cc+i0+Gl (b,a) b1 c1=both b b1 (cc+i0+mvC c1 a) (cc+i0):=o7 (cc+i0) b b1 a c1;rw [ei];generalize (if r0.1=true then r0.2 else c0)=c0' at *;generalize (r0.1||b0)=b0' at *;cases b<;>cases b1
     all_goals
      repeat' (first|(apply Aa.fn;rfl;rfl;exact hh1;intro _;rfl)|(apply Aa.fn;rfl;rfl;exact hm0;intro _;rfl)|(apply Aa.LZ;rfl;rfl;rfl;rfl;rfl;decide)|refine FT ?_|(apply Aa.int;rfl;rfl;rfl)|(apply Ad.AX;rfl)|(apply Ad.Aj;rfl))
     all_goals try (exfalso;omega)
     all_goals try contradiction
     all_goals
      refine Ah.normal ⟨by first|omega|decide,?_,?_⟩
      ·exact Dl
      ·repeat (first|exact BH.nil|(refine BH.cons (Bh rfl) ?_ rfl ?_ ?_;(first|exact Cm _ _|exact CU _ _|exact HB.Az rfl|exact CS.Bd _ _|(simp [HB.under,CS.under,PV.under]));(first|exact JH.refl _|exact JH.vec (Jg.refl _) (by simp))))
   ·have e2:b0p q t ⟨nw,c0,c1,b0,b1⟩ (gi L k) 2=G8 q t ⟨nw,c0,c1,b0,b1⟩ (gi L k):=rfl
    have hi0:=ay (FY q (gi L k) 0 t) b0 c0 a0 h3;have hi1:=ay (FY q (gi L k) 1 t) b1 c1 a1 h4;have hiq:KZ q t ⟨nw,c0,c1,b0,b1⟩ (gi L k)=Gl (FY q (gi L k) 0 t) b0 c0+Gl (FY q (gi L k) 1 t) b1 c1:=rfl;have hGk:G (gi L k)=(G8 q t ⟨nw,c0,c1,b0,b1⟩ (gi L k),(gi L k,cc+KZ q t ⟨nw,c0,c1,b0,b1⟩ (gi L k))):=by rw [hG]
    rw [hGk,a6u,e2];have hnl:=a7n (d:=(G8 q t ⟨nw,c0,c1,b0,b1⟩ (gi L k),(gi L k,cc+KZ q t ⟨nw,c0,c1,b0,b1⟩ (gi L k)))) hi y1;have hcb:0≤cc+KZ q t ⟨nw,c0,c1,b0,b1⟩ (gi L k)∧cc+KZ q t ⟨nw,c0,c1,b0,b1⟩ (gi L k)≤1000000000278:=by rw [hiq];omega
    generalize cc+KZ q t ⟨nw,c0,c1,b0,b1⟩ (gi L k)=c' at *;generalize G8 q t ⟨nw,c0,c1,b0,b1⟩ (gi L k)=sq at *;have ei:RX m (sq,(gi L k,c'))=match BN m sq with|none=>BZ m sq (gi L k,c')|some o=>if zH (gi L k,c') o=true then BZ m sq (gi L k,c') else m:=rfl
    cases hl:BN m sq with
    |none =>
     rw [hl] at ei;simp only at ei;rw [ei] at hnl ⊢
     repeat' (first|(apply b5j (m:=m) (y:=sq) hl;rfl;rfl;rfl;rfl)|(apply b9a (m:=m) (y:=sq) (gi L k,c');rfl;rfl;rfl;rfl;rfl)|refine JA ?_|(apply Aa.build;rfl;rfl;rfl;rfl;rfl)|(apply Ad.Aj;rfl)|(apply Ad.cond_true;rfl))
     all_goals try (exfalso;omega)
     all_goals try contradiction
     refine Ah.normal ⟨hnl,by first|omega|decide,?_,?_⟩
     ·exact Dl
     ·repeat (first|exact BH.nil|(refine BH.cons (Bh rfl) ?_ rfl ?_ ?_;(first|exact Cm _ _|exact CU _ _|exact HB.Az rfl|exact CS.Bd _ _|(simp [HB.under,CS.under,PV.under]));(first|exact JH.refl _|exact JH.vec (Jg.refl _) (by simp))))
    |some o =>
     obtain ⟨ol,oc⟩:=o;have hol:ol.length=q.p.notes.length:=hi _ (KG hl);have hcmp:=RS (gi L k) ol (by omega) (by omega);rw [hl] at ei;simp only at ei;have hb:zH (gi L k,c') (ol,oc)=(decide (c'<oc)||(decide (c'=oc)&&decide (cmpL (gi L k) ol<0))):=rfl;rw [hb] at ei;generalize cmpL (gi L k) ol=cm at *;by_cases g1:c'<oc;all_goals by_cases g2:c'=oc
     all_goals by_cases g3:cm<0
     all_goals first|rw [decide_eq_true g1] at ei|rw [decide_eq_false g1] at ei
     all_goals first|rw [decide_eq_true g2] at ei|rw [decide_eq_false g2] at ei
     all_goals first|rw [decide_eq_true g3] at ei|rw [decide_eq_false g3] at ei
     all_goals simp only [Bool.true_or,Bool.false_or,Bool.true_and,Bool.false_and,Bool.false_eq_true,if_true,if_false] at ei
     all_goals rw [ei] at hnl ⊢
     all_goals
      repeat' (first|(apply b3z (m:=m) (y:=sq) hl;rfl;rfl;rfl;rfl)|(apply Aa.fn;rfl;rfl;exact hcmp;intro _;rfl)|(apply b9a (m:=m) (y:=sq) (gi L k,c');rfl;rfl;rfl;rfl;rfl)|refine FT ?_|(apply Ai.guard;rfl;rfl)|(apply Aa.int;rfl;rfl;rfl)|(apply Aa.build;rfl;rfl;rfl;rfl;rfl)|(apply Ad.Aj;rfl)|(apply Ad.cond_true;rfl)|(apply Ad.cond_false;rfl)|(apply Ad.Au;rfl)|(intro _;try (exfalso;omega)))
     all_goals try (exfalso;omega)
     all_goals try contradiction
     all_goals
      refine Ah.normal ⟨hnl,by first|omega|decide,?_,?_⟩
      ·exact Dl
      ·repeat (first|exact BH.nil|(refine BH.cons (Bh rfl) ?_ rfl ?_ ?_;(first|exact Cm _ _|exact CU _ _|exact HB.Az rfl|exact CS.Bd _ _|(simp [HB.under,CS.under,PV.under]));(first|exact JH.refl _|exact JH.vec (Jg.refl _) (by simp))))
  ·intro hi
   rw [cB] at hi ⊢
   repeat' (first|refine go2 ?_|(apply Ad.Ac;rfl)|(intro _;try (exfalso;omega)))
   all_goals try (exfalso;omega)
   refine Ah.normal ⟨_,⟨rfl,hi⟩,⟨by decide,?_,?_⟩⟩
   ·exact Dl
   ·repeat (first|exact BH.nil|(refine BH.cons (Bh rfl) ?_ rfl ?_ ?_;(first|exact Cm _ _|exact CU _ _|exact HB.Az rfl|exact CS.Bd _ _|(simp [HB.under,CS.under,PV.under]));(first|exact JH.refl _|exact JH.vec (Jg.refl _) (by simp))))
 ·rintro V m ⟨hi,_⟩ hnd h1 h2
  subst hi;refine Ee.normal ?_;refine AV.swap 1 3 (by decide) (by decide) (by decide) (by decide) ?_;have e:Hrn (swp 1 3) [(0,Lu es),(1,bP q),(2,slB (Ns q t)),(3,Lu (Rl q t es V))]=[(0,Lu es),(3,(bP q).rn (swp 1 3)),(2,(slB (Ns q t)).rn (swp 1 3)),(1,Lu (Rl q t es V))]:=by
   simp only [Hrn,X6];rfl
  rw [e]
  repeat' (first|apply AV.BL|apply AV.ret|refine go1 ?_|fail)
  have hc:JK es=es.map fun e=>(e.1,PV.p (PO e.2)):=rfl
  simp only [List.length_map,hc] at h1 h2;refine Done.ret rfl (.refl _) (Bh rfl) ?_ (by decide) (by decide) ⟨V,hnd,fun i=>⟨h2 i,h1 i⟩,rfl,rfl,rfl⟩;repeat (first|exact BH.nil|(refine BH.cons (Bh rfl) ?_ rfl ?_ ?_;(first|exact Cm _ _|exact CU _ _|exact HB.Az rfl|exact CS.Bd _ _|(simp [HB.under,CS.under,PV.under]));(first|exact JH.refl _|exact JH.vec (Jg.refl _) (by simp))))
end Go.Proofs.YtnjkoebfgcbbdaaGreatDoor
namespace Go.Proofs.YtnjkoebfgcbbdaaGreatDoor
open Go Go.Am Go.Vm Go.Pie Go.Sch
attribute [local irreducible] Ci Ba DV DN Eo AZ CG
def SN (L:List Pos):Int:=csK L (L.length-1)
theorem oK (L:List Pos) (p:Pos):∀ k,k<L.length→csK (L++[p]) k=csK L k
 |0,_=>rfl
 |k+1,h=>by
  unfold csK;rw [oK L p k (by omega),Ue (by omega),Ue (by omega)]
def YO (L:List Pos) (p:Pos):Int:=match L.getLast? with|none=>0|some x=>if p.h=x.h then mvC x.c p.c else 0
theorem Ve (L:List Pos) (p:Pos):SN (L++[p])=SN L+YO L p:=by
 unfold SN YO;rcases bl L.length with h|h
 ·obtain rfl:=ar.1 h
  rfl
 ·obtain ⟨m,hm⟩:∃ m,L.length=m+1:=⟨L.length-1,by omega⟩
  have e1:(L++[p]).length-1=m+1:=by grind
  have e2:L.getLast?=some (gi L m):=by
   unfold gi;grind
  have e3:gi (L++[p]) (m+1)=p:=by rw [← hm];exact aP
  rw [e1,e2,hm,Nat.add_sub_cancel];have e4:csK (L++[p]) (m+1)=if (gi (L++[p]) (m+1)).h=(gi (L++[p]) m).h then csK (L++[p]) m+mvC (gi (L++[p]) m).c (gi (L++[p]) (m+1)).c else csK (L++[p]) m:=rfl
  rw [e4,oK L p m (by omega),e3,Ue (by omega)];grind
theorem jI (q:Qu) (l:List Int) (h:Int):∀ k,∀ x∈H8 q l h k,x.h=h
 |0,x,hx=>absurd hx bk
 |k+1,x,hx=>by
  unfold H8 at hx;split at hx
  ·rcases bm.1 hx with hx|hx
   ·exact jI q l h k x hx
   grind
  ·exact jI q l h k x hx
theorem getLast_mem {α:Type} {L:List α} {x:α} (h:L.getLast?=some x):x∈L :=by grind
theorem nX (q:Qu) (l:List Int) (A:List Pos) (hA:∀ x∈A,x.h=0):∀ k,SN (A++H8 q l 1 k)=SN A+SN (H8 q l 1 k)
 |0=>by
  show SN (A++[])=SN A+SN [];rw [cT];show SN A=SN A+0;omega
 |k+1=>by
  have ih:=nX q l A hA k;unfold H8;split
  ·rw [← cz,Ve,Ve,ih]
   have:YO (A++H8 q l 1 k) ⟨1,k,(FY q l 1 k).2⟩=YO (H8 q l 1 k) ⟨1,k,(FY q l 1 k).2⟩:=by
    unfold YO;grind
   omega
  omega
def WQ (L:List Pos) (b:Bool) (c:Vh):Prop:=match L.getLast? with|none=>b=false|some x=>b=true∧c=x.c
theorem vI {L:List Pos} {b:Bool} {c:Vh} (p:Pos):WQ (L++[p]) true p.c:=by
 unfold WQ;simp
theorem a2n {q:Qu} {l:List Int} {h:Int} {k:Nat} {b:Bool} {c:Vh} (hp:WQ (H8 q l h k) b c) (r:Bool×Vh) (hr:r.1=true) (i:Int):YO (H8 q l h k) ⟨h,i,r.2⟩=Gl r b c:=by
 unfold WQ at hp;unfold YO Gl;rw [if_pos hr];cases h1:(H8 q l h k).getLast? with
 |none =>
  grind
 |some x =>
  rw [h1] at hp;simp only at hp ⊢;obtain ⟨hb,hc⟩:=hp;rw [hb,if_pos rfl,if_pos (jI q l h k x (getLast_mem h1)).symm,hc]
theorem eP (q:Qu) (l:List Int):∀ t,WQ (H8 q l 0 t) (JG st0 (G8 q) l t).b0 (JG st0 (G8 q) l t).c0∧WQ (H8 q l 1 t) (JG st0 (G8 q) l t).b1 (JG st0 (G8 q) l t).c1∧cF st0 (G8 q) (KZ q) l t=SN (H8 q l 0 t)+SN (H8 q l 1 t)
 |0=>⟨rfl,rfl,rfl⟩
 |t+1=>by
  obtain ⟨h0,h1,h2⟩:=eP q l t;have e0:JG st0 (G8 q) l (t+1)=G8 q t (JG st0 (G8 q) l t) l:=rfl;have e1:cF st0 (G8 q) (KZ q) l (t+1)=cF st0 (G8 q) (KZ q) l t+KZ q t (JG st0 (G8 q) l t) l:=rfl;rw [e0,e1,h2];generalize JG st0 (G8 q) l t=x at *;obtain ⟨nw,c0,c1,b0,b1⟩:=x;simp only at h0 h1;have key:∀ (h:Int) (b:Bool) (c:Vh),WQ (H8 q l h t) b c→WQ (H8 q l h (t+1)) ((FY q l h t).1||b) (if (FY q l h t).1=true then (FY q l h t).2 else c)∧SN (H8 q l h (t+1))=SN (H8 q l h t)+Gl (FY q l h t) b c:=fun h b c hp=>by
   have hi:=a2n hp (FY q l h t);have e2:H8 q l h (t+1)=if (FY q l h t).1=true then H8 q l h t++[⟨h,t,(FY q l h t).2⟩] else H8 q l h t:=rfl
   rw [e2];by_cases hr:(FY q l h t).1=true
   ·rw [if_pos hr,if_pos hr,Ve,hi hr,hr]
    exact ⟨vI (b:=b) (c:=c) ⟨h,t,(FY q l h t).2⟩,rfl⟩
   ·rw [if_neg hr,if_neg hr]
    have hf:(FY q l h t).1=false:=by simpa using hr
    rw [hf];refine ⟨by simpa using hp,?_⟩;unfold Gl;rw [if_neg hr];omega
  obtain ⟨k0,k1⟩:=key 0 b0 c0 h0;obtain ⟨k2,k3⟩:=key 1 b1 c1 h1;refine ⟨k0,k2,?_⟩;rw [k1,k3];unfold KZ;simp only;omega
theorem rU (q:Qu) (l:List Int):cF st0 (G8 q) (KZ q) l (A8 q.p).length=GV q l:=by
 rw [(eP q l _).2.2];exact (nX q l _ (jI q l 0 _) _).symm
theorem vW (q:Qu) (hq:JV q) (l:List Int):∀ t,t≤(A8 q.p).length→(JG st0 (G8 q) l t).c0.Ok∧(JG st0 (G8 q) l t).c1.Ok∧0≤cF st0 (G8 q) (KZ q) l t∧cF st0 (G8 q) (KZ q) l t≤278*t
 |0,_=>⟨⟨bh _,by show (0:Int)≤127;omega⟩,⟨bh _,by show (0:Int)≤127;omega⟩,bh _,bh _⟩
 |t+1,ht=>by
  obtain ⟨h0,h1,h2,h3⟩:=vW q hq l t (by omega);have a0:=YI hq (Qn (q:=q) (i:=t) (by omega)) l 0 _ (ab _);have a1:=YI hq (Qn (q:=q) (i:=t) (by omega)) l 1 _ (ab _);have e0:JG st0 (G8 q) l (t+1)=G8 q t (JG st0 (G8 q) l t) l:=rfl;have e1:cF st0 (G8 q) (KZ q) l (t+1)=cF st0 (G8 q) (KZ q) l t+KZ q t (JG st0 (G8 q) l t) l:=rfl;rw [e0,e1];generalize JG st0 (G8 q) l t=x at *;have key:∀ (r:Bool×Vh) (b:Bool) (c:Vh),r.2.Ok→c.Ok→0≤Gl r b c∧Gl r b c≤139:=fun r b c hr hc=>by
   have:=Yn hc hr;unfold Gl;omega
  have k0:=key (FY q l 0 t) x.b0 x.c0 a0 h0;have k1:=key (FY q l 1 t) x.b1 x.c1 a1 h1;refine ⟨?_,?_,?_,?_⟩
  ·show Vh.Ok (if (FY q l 0 t).1=true then (FY q l 0 t).2 else x.c0)
   split
   ·exact a0
   omega
  ·show Vh.Ok (if (FY q l 1 t).1=true then (FY q l 1 t).2 else x.c1)
   split
   ·exact a1
   omega
  ·show 0≤_+(Gl (FY q l 0 t) x.b0 x.c0+Gl (FY q l 1 t) x.b1 x.c1)
   omega
  ·show _+(Gl (FY q l 0 t) x.b0 x.c0+Gl (FY q l 1 t) x.b1 x.c1)≤278*((t+1:Nat):Int)
   omega
theorem YU {q:Qu} (hM:∀ t,t<(A8 q.p).length→kQ q t≤12):b0n q=false:=by
 unfold b0n Ep;rw [UA (fun i hi=>decide_eq_false (by have:=hM i hi;unfold kQ at this;omega)) _ (ab _)];rfl
end Go.Proofs.YtnjkoebfgcbbdaaGreatDoor
