/-
  Texts of a proof, merged (CarF, CarC, CarG, CarI, TraQ, TraR, TraT, CarJ, CarK, RkQ, OrK, OrP, TraU). Conditions: in each statement.
-/
import Derived.Test.YtdabojnmoejilaaGreatDoorKCf
set_option linter.unusedSimpArgs false
set_option linter.unusedVariables false
set_option linter.unusedSectionVars false
set_option maxRecDepth 100000
set_option maxHeartbeats 8000000
namespace Go.Proofs.YtdabojnmoejilaaGreatDoor
open Go Go.Am Go.Vm Go.Tra Go.Hun
attribute [local irreducible] Aa Af Ar Ad BA AY CG AO AL Aw Vm.Done CW Bl
attribute [local irreducible] DR Dw Io Jd Nh BU
def SG (q:Iu) (i:Nat):Int:=ER (fun k=>decide ((gi q.tgt.Ap k).name=(gi q.BG.Ap i).name)) q.tgt.Ap.length
def KR (q:Iu):Nat→Nat
 |0=>0
 |i+1=>if q.reg.off / 2 ^ i % 2=1∧0≤SG q i then KR q i ||| 2 ^ (SG q i).toNat else KR q i
theorem iq (q:Iu) (i:Nat):-1≤SG q i∧SG q i<q.tgt.Ap.length:=OA _ _ _ (Nat.le_refl _)
theorem ZR (q:Iu):∀ i,KR q i<2 ^ q.tgt.Ap.length
 |0=>Nat.pow_pos (by decide)
 |i+1=>by
  have ih:=ZR q i
  have:=iq q i
  unfold KR
  split
  ·rename_i h
   exact Nat.or_lt_two_pow ih (Nat.pow_lt_pow_right (by decide) (by omega))
  ·exact ih
def a4b (q:Iu) (l:List Int):Rgs:=⟨Fv (Bo q.tgt) l q.tgt.Ap.length l.length,Ey (DN q) (DN q).length,KR q q.BG.Ap.length⟩
def P8 (q:Iu) (l:List Int):Int:=if l.length≠(BJ q.BG q.reg).length then 5 else Og l (Bo q.tgt).length l.length l.length
def zf:List FV:=[.val (.slice none 0 0),.int .u64 0,.int .u64 0]
theorem Jv {a:Nat} (h:a<60):2 ^ a<18446744073709551616:=Nat.lt_of_lt_of_le (Nat.pow_lt_pow_right (by decide) h) (by decide)
theorem VT (q:Iu) (h:q.tgt.BF.length≤40) (k:Nat) (hk:k≤(DN q).length):Ey (DN q) k<18446744073709551616 :=
 Nat.lt_of_lt_of_le (QT k fun j hj=>(QL q _ j (by unfold DN at hk;omega)).2) (Nat.le_trans (Nat.pow_le_pow_right (by decide) h) (by decide))
theorem zF (q:Iu) (h:q.tgt.Ap.length≤8) (k:Nat):KR q k<18446744073709551616 :=
 Nat.lt_of_lt_of_le (ZR q k) (Nat.le_trans (Nat.pow_le_pow_right (by decide) h) (by decide))
theorem fF {q:Iu} (h2:Gi q.tgt) {l:List Int} {k:Nat} (hk:k<l.length) (hb:∀ j,j<k→gi l j<(Bo q.tgt).length) :
 (gi l k< -1∧Og l (Bo q.tgt).length l.length (l.length-k)=3)∨(gi l k≥(Bo q.tgt).length∧Og l (Bo q.tgt).length l.length (l.length-k)=3) ∨
 (∃ a:Nat,gi l k=(a:Int)∧a<(Bo q.tgt).length∧gi l k∈l.take k∧Og l (Bo q.tgt).length l.length (l.length-k)=9) ∨
 (gi l k=-1∧Og l (Bo q.tgt).length l.length (l.length-k)=Og l (Bo q.tgt).length l.length (l.length-(k+1))∧Fv (Bo q.tgt) l q.tgt.Ap.length k=Fv (Bo q.tgt) l q.tgt.Ap.length (k+1)) ∨
 (∃ a:Nat,gi l k=(a:Int)∧a<(Bo q.tgt).length∧¬ gi l k∈l.take k∧Og l (Bo q.tgt).length l.length (l.length-k)=Og l (Bo q.tgt).length l.length (l.length-(k+1)) ∧
  (Fv (Bo q.tgt) l q.tgt.Ap.length k).set (gi (Bo q.tgt) a).d (gi (Fv (Bo q.tgt) l q.tgt.Ap.length k) (gi (Bo q.tgt) a).d ||| 2 ^ (gi (Bo q.tgt) a).s)=Fv (Bo q.tgt) l q.tgt.Ap.length (k+1)):=by
 have hi:=a0h (l:=l) (m:=(Bo q.tgt).length) (n:=l.length) hk
 by_cases h1:gi l k< -1
 ·exact .inl ⟨h1,by rw [hi,if_pos (.inl h1)]⟩
 by_cases h3:gi l k≥(Bo q.tgt).length
 ·exact .inr (.inl ⟨h3,by rw [hi,if_pos (.inr h3)]⟩)
 rw [if_neg (by omega)] at hi
 by_cases h0:gi l k<0
 ·rw [if_neg (fun h=>by omega)] at hi
  refine .inr (.inr (.inr (.inl ⟨by omega,hi,?_⟩)))
  conv=>rhs;unfold Fv
  rw [if_pos h0]
 obtain ⟨a,ha⟩:∃ a:Nat,gi l k=(a:Int):=⟨(gi l k).toNat,by omega⟩
 by_cases hm:gi l k∈l.take k
 ·rw [if_pos ⟨by omega,hm⟩] at hi
  exact .inr (.inr (.inl ⟨a,ha,by omega,hm,hi⟩))
 ·rw [if_neg (fun h=>hm h.2)] at hi
  refine .inr (.inr (.inr (.inr ⟨a,ha,by omega,hm,hi,?_⟩)))
  conv=>rhs;unfold Fv
  rw [if_neg h0,ha,Int.toNat_natCast]
theorem mW {q:Iu} (h2:Gi q.tgt) {l:List Int} {k:Nat} (hb:∀ j,j<k→gi l j<(Bo q.tgt).length) (i:Nat):gi (Fv (Bo q.tgt) l q.tgt.Ap.length k) i<18446744073709551616 :=
 Nat.lt_of_lt_of_le (ny (B:=fun _=>60) k (fun j hj hj0=>by
  have h3:=hb j hj
  have h4:=Kt (o:=q.tgt) (i:=(gi l j).toNat) (by omega)
  have h5:=h2.stops _ h4.1
  have h6:=h4.2
  show _<60
  omega) i) (by decide)
def kC (q:Iu) (l:List Int):PV:=if P8 q l=0 then .EP [.p (.agg (Enc.enc (a4b q l))),.p (.int .i64 0)] else .EP [.p (.agg zf),.p (.int .i64 (P8 q l))]
theorem Ur {q:Iu} (h:Zg q) (l:List Int) (hl9:l.length<1000000) (x1:Int) (y z:FV) :
 AY env 37 [.agg (Enc.enc q),.agg [.lst 3 (cells l) l.length,.int .i64 x1,y,z]] (kC q l):=by
 have hc:=Ou q h.sm1 h.sm2 h.rg
 rw [h.err] at hc
 have hd:=Ov q.BG h.k1 q.reg h.rg h.len
 have hcl:=KP q.tgt h.k2
 have hcp:=Pv q h.k1 h.k2 h.rg
 obtain ⟨_,_,_,_,p5,p6⟩:=Hw h.err
 have d1:=h.k1.Ap
 have d2:=h.k2.Ap
 have c1:=h.k1.BF
 have c2:=h.k2.BF
 have o1:=h.rg.off
 have hpl:∀ i,i<(Bo q.tgt).length→Ic q.tgt (gi (Bo q.tgt) i):=fun i hi=>Kt hi
 have hct:=JM q q.BG.BF.length
 rw [show FB q q.BG.BF.length=DN q from rfl] at hct
 have hst:=h.k2.stops
 have eE:Enc.enc (a4b q l)=[.lst 39 (cells (Fv (Bo q.tgt) l q.tgt.Ap.length l.length)) q.tgt.Ap.length,.int .u64 (Ey (DN q) (DN q).length:Nat),.int .u64 (KR q q.BG.Ap.length:Nat)]:=by
  show [FV.lst 39 (cells (Fv (Bo q.tgt) l q.tgt.Ap.length l.length)) (Fv (Bo q.tgt) l q.tgt.Ap.length l.length).length,.int .u64 (Ey (DN q) (DN q).length:Nat),.int .u64 (KR q q.BG.Ap.length:Nat)]=_
  rw [GH]
 obtain ⟨E,hE⟩:∃ E,E=Og l (Bo q.tgt).length l.length l.length:=⟨_,rfl⟩
 obtain ⟨R,hR⟩:∃ R,R=kC q l:=⟨_,rfl⟩
 have r0:l.length≠(BJ q.BG q.reg).length→R=.EP [.p (.agg zf),.p (.int .i64 5)]:=fun hne=>by
  have e:P8 q l=5:=by unfold P8;rw [if_pos hne]
  rw [hR];unfold kC;rw [e];rfl
 have r1:l.length=(BJ q.BG q.reg).length→E≠0→R=.EP [.p (.agg zf),.p (.int .i64 E)]:=fun hne h0=>by
  have e:P8 q l=E:=by unfold P8;rw [if_neg (fun h'=>h' hne),hE]
  rw [hR];unfold kC;rw [e,if_neg h0]
 have r2:l.length=(BJ q.BG q.reg).length→E=0→R=.EP [.p (.agg [.lst 39 (cells (Fv (Bo q.tgt) l q.tgt.Ap.length l.length)) q.tgt.Ap.length,.int .u64 (Ey (DN q) (DN q).length:Nat),.int .u64 (KR q q.BG.Ap.length:Nat)]),.p (.int .i64 0)]:=fun hne h0=>by
  have e:P8 q l=0:=by unfold P8;rw [if_neg (fun h'=>h' hne),← hE,h0]
  rw [hR];unfold kC;rw [e,if_pos rfl,eE]
 rw [← hR]
 clear hR eE
 generalize hdr:BJ q.BG q.reg=dr at *
 refine AY.enter (AB (by decide)) Tryz.func37 rfl (by kernel_rfl) (by simp [Tryz.ntmps37]) ?_
 repeat' (first|(refine Ad.at 7 ?_;refine Ad.ghost (A8.freeze 7 rfl rfl) ?_;first|apply Ad.AA|apply Ad.BI)|apply Ad.assoc|apply Ad.AA|apply Ad.BI|apply Ad.Au|apply Ad.BL|apply Ad.Ai|(apply Bl.ret;rfl)|apply Ad.ret|apply Af.nil|apply Ar.nil|apply Af.one|(apply Ar.bar;decide +kernel)|apply Ar.quiet|(apply Aa.fn;rfl;rfl;exact hc;intro _;rfl)|(apply Aa.fn;rfl;rfl;exact hd;intro _;rfl)|(apply Q5;rfl;rfl;rfl;exact le_dec rfl)|(apply Aa.cZ [3] (hcl);rfl;rfl;exact .of_eq rfl;exact AP.Ac rfl;exact DJ rfl;(repeat (first|exact trivial|refine ⟨⟨_,rfl,.of_eq rfl⟩,?_⟩));decide;(intro _ hb;first|(simp at hb;done)|(simp at hb ⊢<;>omega));(rintro _ _ _ ⟨rfl,rfl,rfl⟩))|(apply Aa.makeFunc;rfl;rfl)|(apply Aa.DX q.tgt.Ap.length (0:Nat);rfl;rfl;rfl;rfl;rfl;rfl;rfl;omega;decide;decide;rfl)|(apply Aa.assign;rfl)|(apply Aa.move;rfl)|(apply Aa.int;rfl;rfl;rfl)|(apply Aa.load;rfl;rfl)|(apply Aa.BH;rfl;rfl)|(apply Aa.AQ;rfl;rfl;rfl)|(apply Aa.box;rfl;trivial)|(apply Aa.alloc;rfl)|(apply Aa.Bj;rfl;rfl;rfl;trivial;rfl;rfl;exact Aj rfl;exact le_dec rfl)|(apply Aa.build;rfl;rfl;rfl;rfl;rfl)|(apply Ad.Az;rfl)|(apply Ad.Ae;rfl)|(intro _;try (exfalso;omega)))
 all_goals try (exfalso;omega)
 all_goals try contradiction
 ·rename_i hne
  rw [r0 (by omega)]
  (refine Done.ret rfl (.refl _) (by exact PV.Ac rfl) Ah.nil (Nat.zero_le _) (Nat.le_refl _) ⟨?_,rfl,rfl⟩;try rfl)
 rename_i hne
 have hlen:l.length=dr.length:=by omega
 have hll:l.length≤60:=by omega
 have hi0:Og l (Bo q.tgt).length l.length (l.length-0)=E∧∀ j,j<0→gi l j<(Bo q.tgt).length:=⟨hE.symm,fun j hj=>absurd hj (by omega)⟩
 apply Ad.FK (l.length) (fun k=>Og l (Bo q.tgt).length l.length (l.length-k)=E∧(∀ j,j<k→gi l j<(Bo q.tgt).length)) [(2,_),(3,_),(4,_),(7,_),(8,_),(44,_),(45,_)] [(0,_),(1,_),(2,_),(7,_)] (fun k r=>(46,.p (.int .i64 (k:Int)))::r) (fun k r=>(6,.vec 39 (cells (Fv (Bo q.tgt) l q.tgt.Ap.length k)) q.tgt.Ap.length false)::r) 8
 ·first|omega|decide
 ·first|omega|decide
 ·repeat (first|exact Ak.nil|(refine Ak.eq rfl ?_ ?_;(first|exact PV.Ac rfl|(simp [PV.under,AP.under];done)))|refine Ak.cons trivial rfl (.of_eq (Aq (by simp<;>omega))) ?_)
 ·repeat (first|exact Ah.nil|(refine Ah.eq rfl (Aj rfl) ?_ ?_;(first|exact HB.Ac rfl|exact AP.Ag _ _|(simp [HB.under,AP.under,PV.under];done)))|(refine Ah.cons (Aj rfl) ?_ rfl ?_ ?_;(first|exact trivial|exact AP.Ag _ _|(simp [HB.under,AP.under,PV.under]));(first|exact Bg.refl _|exact Bg.vec (Bf.refl _) (by simp))))
 ·first|(intro _ _;omega)|omega|trivial
 ·rintro k hk ⟨hi,hb⟩
  have hcs:=GH (Bo q.tgt) l q.tgt.Ap.length k
  have h64:=mW h.k2 hb
  have hcon:=TQ 3 (l.take k) (gi l k) (by rw [List.length_take];omega)
  rw [List.length_take,Nat.min_eq_left (by omega)] at hcon
  rcases fF h.k2 hk hb with ⟨hr,e⟩|⟨hr,e⟩|⟨a,ha,ham,hm,e⟩|⟨hr,e,e1⟩|⟨a,ha,ham,hm,e,e1⟩
  all_goals try rw [decide_eq_true hm] at hcon
  all_goals try rw [decide_eq_false hm] at hcon
  all_goals rw [e] at hi
  all_goals try (have hg:=hpl a ham;have g3:=hst _ hg.1;have g4:=hg.1;have g5:=hg.2;have U7:=Jv (a:=(gi (Bo q.tgt) a).s) (by omega))
  all_goals
   repeat' (first|apply Ad.assoc|apply Ad.AA|apply Ad.region|apply Ad.Et|apply Ad.Au|apply Ad.BL|apply Ad.Ai|apply AO.normal|apply AO.ret|apply AL.normal|apply AL.ret|apply Aw.ret|apply Ad.skip|apply Af.nil|apply Ar.nil|apply Af.one|(apply Ar.bar;decide +kernel)|apply Ar.quiet|(apply Af.take;rfl;rfl)|(apply Af.drop;rfl;rfl;rfl)|(apply Af.guard;rfl;rfl)|(apply Aa.fn;rfl;rfl;exact hcon;intro _;rfl)|(apply Aa.sliceTo;rfl;rfl;rfl;rfl;rfl;rfl;omega)|(apply Aa.AV (l:=Bo q.tgt) (i:=a);rfl;(first|exact congrArg (fun b=>some (PV.p (.int .i64 b))) ha|rfl);rfl;omega;rfl)|(apply Aa.orU;rfl;rfl;exact h64 _;exact U7)|(apply Aa.D6 (y:=gi (Fv (Bo q.tgt) l q.tgt.Ap.length k) (gi (Bo q.tgt) a).d ||| 2 ^ (gi (Bo q.tgt) a).s);rfl;rfl;rfl;trivial;(first|rfl|(refine congrArg (fun t=>[PV.p (FV.int _ t)]) ?_;first|omega|(simp only [Int.natCast_add,Int.natCast_mul,Int.natCast_ediv,Int.natCast_emod]<;>omega)));rfl;rfl;decide;(first|omega|(simp only [List.length_set]<;>omega)))|(apply Aa.assign;rfl)|(apply Aa.move;rfl)|(apply Aa.Bq;rfl;rfl;omega)|(apply Aa.int;rfl;rfl;rfl)|(apply Aa.AV;rfl;rfl;rfl;omega;rfl)|(apply Aa.Dk;rfl;rfl;omega;rfl)|(apply Aa.load;rfl;rfl)|(apply Aa.Bz;rfl;rfl)|(apply Aa.AU;rfl;rfl)|(apply Aa.BH;rfl;rfl)|(apply Aa.AQ;rfl;rfl;rfl)|(apply Aa.DW;rfl;rfl)|(apply Aa.Bj;rfl;rfl;rfl;trivial;rfl;rfl;exact Aj rfl;exact le_dec rfl)|(apply Aa.build;rfl;rfl;rfl;rfl;rfl)|(apply Aa.Df;rfl;rfl;rfl;rfl;omega)|(apply Aa.KC;rfl;rfl;omega)|(apply Ad.Bh;rfl)|(apply Ad.Az;rfl)|(apply Ad.Ae;rfl)|(apply Ad.AZ;rfl)|(intro _;try (exfalso;omega)))
  all_goals try (exfalso;omega)
  all_goals try contradiction
  all_goals try (rw [r1 hlen (by omega),← hi];(refine Done.ret rfl (.refl _) (by exact PV.Ac rfl) Ah.nil (Nat.zero_le _) (Nat.le_refl _) ⟨?_,rfl,rfl⟩;try rfl);done)
  all_goals
   refine Aw.normal ⟨⟨hi,all_succ hb (by omega)⟩,by first|omega|decide,?_,?_⟩
   ·try (rw [← e1])
    repeat (first|exact Ak.nil|refine Ak.same (by exact PV.Ac rfl) rfl ?_|refine Ak.cons trivial rfl (.of_eq (Aq (by simp<;>omega))) ?_)
   ·rw [← e1]
    repeat (first|exact Ah.nil|(refine Ah.cons (Aj rfl) ?_ rfl ?_ ?_;(first|exact HB.Ac rfl|exact AP.Ag _ _|(simp [HB.under,AP.under,PV.under]));(first|exact Bg.refl _|exact Bg.vec (Bf.refl _) (by simp))))
 ·rintro ⟨hi,_⟩
  rw [Nat.sub_self] at hi
  rw [r2 hlen hi.symm]
  repeat' (first|apply Ad.assoc|apply Ad.AA|apply Ad.AX|apply Ad.Ai|apply AO.normal|apply AL.exit|apply Aw.exit|apply Af.nil|apply Af.one|(apply Aa.fn;rfl;rfl;exact hcp;intro _;rfl)|(apply Aa.move;rfl)|(apply Aa.int;rfl;rfl;rfl)|(apply Aa.load;rfl;rfl)|(apply Aa.BH;rfl;rfl)|(apply Ad.Ae;rfl)|(intro _;try (exfalso;omega)))
  all_goals try (exfalso;omega)
  apply Ad.Ed ((DN q).length) [(2,_),(4,_),(8,_),(92,_),(93,_)] [(0,_),(1,_),(2,_),(6,_)] (fun k r=>(94,.p (.int .i64 (k:Int)))::r) (fun k r=>(7,.box 41 [.vec 6 q.tgt.Ap.length 0 q.tgt.Ap.length,.p (.int .u64 (Ey (DN q) k:Nat)),.p (.int .u64 0)])::r) 8
  ·first|omega|decide
  ·first|omega|decide
  ·repeat (first|exact Ak.nil|(refine Ak.eq rfl ?_ ?_;(first|exact PV.Ac rfl|(simp [PV.under,AP.under];done)))|refine Ak.cons trivial rfl (.of_eq (Aq (by simp<;>omega))) ?_)
  ·repeat (first|exact Ah.nil|(refine Ah.eq rfl (Aj rfl) ?_ ?_;(first|exact HB.Ac rfl|exact AP.Ag _ _|(simp [HB.under,AP.under,PV.under];done)))|(refine Ah.cons (Aj rfl) ?_ rfl ?_ ?_;(first|exact trivial|exact AP.Ag _ _|(simp [HB.under,AP.under,PV.under]));(first|exact Bg.refl _|exact Bg.vec (Bf.refl _) (by simp))))
  ·intro k hk
   obtain ⟨g1,g2⟩:=QL q q.BG.BF.length k hk
   rw [show FB q q.BG.BF.length=DN q from rfl] at g1 g2
   have ht:=VT q c2 k (by omega)
   have U7:=Jv (a:=(gi (DN q) k).toNat) (by omega)
   by_cases h0:gi (DN q) k<0
   all_goals have e1:Ey (DN q) (k+1)=if gi (DN q) k<0 then Ey (DN q) k else Ey (DN q) k ||| 2 ^ (gi (DN q) k).toNat:=rfl
   all_goals first|rw [if_pos h0] at e1|rw [if_neg h0] at e1
   all_goals try have ha:gi (DN q) k=((gi (DN q) k).toNat:Int):=by omega
   all_goals
    repeat' (first|apply Ad.AA|apply Ad.region|apply Ad.Et|apply Ad.Au|apply Ad.Ai|apply AO.normal|apply AL.normal|apply Ad.skip|apply Af.nil|apply Ar.nil|apply Af.one|(apply Ar.bar;decide +kernel)|apply Ar.quiet|(apply Aa.load (r:=.p (.int .i64 ((gi (DN q) k).toNat:Int)));rfl;exact (congrArg (fun b=>some (PV.p (FV.int .i64 b))) ha))|(apply Aa.orU;rfl;rfl;exact ht;exact U7)|(apply Aa.assign;rfl)|(apply Aa.move;rfl)|(apply Aa.Bq;rfl;rfl;omega)|(apply Aa.int;rfl;rfl;rfl)|(apply Aa.AV;rfl;rfl;rfl;omega;rfl)|(apply Aa.load;rfl;rfl)|(apply Aa.AQ;rfl;rfl;rfl)|(apply Aa.Bj;rfl;rfl;rfl;trivial;rfl;rfl;exact Aj rfl;exact le_dec rfl)|(apply Aa.KC;rfl;rfl;omega)|(apply Ad.Ae;rfl)|(apply Ad.cond_true;rfl)|(apply Ad.AZ;rfl)|(intro _;try (exfalso;omega)))
   all_goals try (exfalso;omega)
   all_goals
    refine Aw.normal ⟨by first|omega|decide,?_,?_⟩
    ·try (rw [e1])
     repeat (first|exact Ak.nil|refine Ak.same (by exact PV.Ac rfl) rfl ?_|refine Ak.cons trivial rfl (.of_eq (Aq (by simp<;>omega))) ?_)
    ·rw [e1]
     repeat (first|exact Ah.nil|(refine Ah.cons (Aj rfl) ?_ rfl ?_ ?_;(first|exact HB.Ac rfl|exact AP.Ag _ _|(simp [HB.under,AP.under,PV.under]));(first|exact Bg.refl _|exact Bg.vec (Bf.refl _) (by simp))))
  ·repeat' (first|apply Ad.assoc|apply Ad.AA|apply Ad.AX|apply Ad.Ai|apply AO.normal|apply AL.exit|apply Aw.exit|apply Af.nil|apply Af.one|(apply Aa.move;rfl)|(apply Aa.int;rfl;rfl;rfl)|(apply Aa.load;rfl;rfl)|(apply Aa.BH;rfl;rfl)|(apply Aa.AQ;rfl;rfl;rfl)|(apply Ad.Ae;rfl)|(intro _;try (exfalso;omega)))
   all_goals try (exfalso;omega)
   apply Ad.Ed (q.BG.Ap.length) [(2,_),(4,_),(8,_),(109,_),(110,_)] [(0,_),(1,_),(2,_),(6,_)] (fun k r=>(111,.p (.int .i64 (k:Int)))::r) (fun k r=>(7,.box 41 [.vec 6 q.tgt.Ap.length 0 q.tgt.Ap.length,.p (.int .u64 (Ey (DN q) (DN q).length:Nat)),.p (.int .u64 (KR q k:Nat))])::r) 8
   ·first|omega|decide
   ·first|omega|decide
   ·repeat (first|exact Ak.nil|(refine Ak.eq rfl ?_ ?_;(first|exact PV.Ac rfl|(simp [PV.under,AP.under];done)))|refine Ak.cons trivial rfl (.of_eq (Aq (by simp<;>omega))) ?_)
   ·repeat (first|exact Ah.nil|(refine Ah.eq rfl (Aj rfl) ?_ ?_;(first|exact HB.Ac rfl|exact AP.Ag _ _|(simp [HB.under,AP.under,PV.under];done)))|(refine Ah.cons (Aj rfl) ?_ rfl ?_ ?_;(first|exact trivial|exact AP.Ag _ _|(simp [HB.under,AP.under,PV.under]));(first|exact Bg.refl _|exact Bg.vec (Bf.refl _) (by simp))))
   ·intro k hk
    have hix:=a6i q.tgt.Ap (gi q.BG.Ap k) (by omega)
    rw [show ER (fun j=>decide ((gi q.tgt.Ap j).name=(gi q.BG.Ap k).name)) q.tgt.Ap.length=SG q k from rfl] at hix
    obtain ⟨g1,g2⟩:=iq q k
    have ht:=zF q d2.2 k
    have hq:q.reg.off / 2 ^ k<18446744073709551616:=Nat.lt_of_le_of_lt (Nat.div_le_self _ _) o1
    have hm2:=Nat.mod_lt (q.reg.off / 2 ^ k) (show 0<2 by decide)
    have U7:=Jv (a:=(SG q k).toNat) (by omega)
    have e1:KR q (k+1)=if q.reg.off / 2 ^ k % 2=1∧0≤SG q k then KR q k ||| 2 ^ (SG q k).toNat else KR q k:=rfl
    by_cases hbb:q.reg.off / 2 ^ k % 2=1∧0≤SG q k
    all_goals first|rw [if_pos hbb] at e1|rw [if_neg hbb] at e1
    all_goals try have ha:SG q k=((SG q k).toNat:Int):=by omega
    all_goals try rw [ha] at hix
    all_goals
     repeat' (first|apply Ad.AA|apply Ad.region|apply Ad.Et|apply Ad.Au|apply Ad.Ai|apply AO.normal|apply AL.normal|apply Ad.skip|apply Af.nil|apply Ar.nil|apply Af.one|(apply Ar.bar;decide +kernel)|apply Ar.quiet|(apply Af.take;rfl;rfl)|(apply Af.drop;rfl;rfl;rfl)|(apply Af.guard;rfl;rfl)|(apply Aa.read [8] hix;rfl;rfl;exact .of_eq rfl;exact AP.Ac rfl;exact DJ rfl;(repeat (first|exact trivial|refine ⟨⟨_,rfl,.of_eq rfl⟩,?_⟩));decide;(intro _ hb;simp at hb<;>omega);rfl)|(apply Aa.makeFunc;rfl;rfl)|(apply Aa.orU;rfl;rfl;exact ht;exact U7)|(apply Aa.assign;rfl)|(apply Aa.move;rfl)|(apply Aa.Bq;rfl;rfl;omega)|(apply Aa.Q9;rfl;rfl;omega)|(apply Aa.int;rfl;rfl;rfl)|(apply Aa.AV;rfl;rfl;rfl;omega;rfl)|(apply Aa.load;rfl;rfl)|(apply Aa.Bz;rfl;rfl)|(apply Aa.AU;rfl;rfl)|(apply Aa.AQ;rfl;rfl;rfl)|(apply Aa.alloc;rfl)|(apply Aa.Bj;rfl;rfl;rfl;trivial;rfl;rfl;exact Aj rfl;exact le_dec rfl)|(apply Aa.KC;rfl;rfl;omega)|(apply Aa.NU;rfl;rfl;(simp only [IntKind.bits];omega))|(apply Ad.Ae;rfl)|(apply Ad.cond_true;rfl)|(apply Ad.cond_false;rfl)|(apply Ad.AZ;rfl)|(intro _;try (exfalso;omega)))
    all_goals try (exfalso;omega)
    all_goals
     refine Aw.normal ⟨by first|omega|decide,?_,?_⟩
     ·try (rw [e1])
      repeat (first|exact Ak.nil|refine Ak.same (by exact PV.Ac rfl) rfl ?_|refine Ak.cons trivial rfl (.of_eq (Aq (by simp<;>omega))) ?_)
     ·rw [e1]
      repeat (first|exact Ah.nil|(refine Ah.cons (Aj rfl) ?_ rfl ?_ ?_;(first|exact HB.Ac rfl|exact AP.Ag _ _|(simp [HB.under,AP.under,PV.under]));(first|exact Bg.refl _|exact Bg.vec (Bf.refl _) (by simp))))
   ·repeat' (first|(refine Ad.at 31 ?_;refine Ad.ghost (A8.Dc 7 0 rfl rfl rfl) ?_;first|apply Ad.AA|apply Ad.BI)|apply Ad.AA|apply Ad.AX|apply AO.normal|apply AL.exit|apply Aw.exit|apply Ad.ret|apply Af.nil|apply Af.one|(apply Aa.assign;rfl)|(apply Aa.int;rfl;rfl;rfl)|(apply Aa.load;rfl;rfl)|(apply Aa.Bj;rfl;rfl;rfl;trivial;rfl;rfl;exact Aj rfl;exact le_dec rfl)|(apply Ad.Ae;rfl)|(intro _;try (exfalso;omega)))
    all_goals first|(exfalso;omega)|(refine Done.ret rfl (.refl _) (by exact PV.Ac rfl) Ah.nil (Nat.zero_le _) (Nat.le_refl _) ⟨?_,rfl,rfl⟩;try rfl)
theorem dG {q:Iu} (h:Zg q) (l:List Int) (hl9:l.length<1000000) (he:P8 q l≠0) (x1:Int) (y z:FV) :
 AY env 37 [.agg (Enc.enc q),.agg [.lst 3 (cells l) l.length,.int .i64 x1,y,z]] (.EP [.p (.agg zf),.p (.int .i64 (P8 q l))]):=by
 have:=Ur h l hl9 x1 y z
 unfold kC at this
 rwa [if_neg he] at this
end Go.Proofs.YtdabojnmoejilaaGreatDoor
namespace Go.Proofs.YtdabojnmoejilaaGreatDoor
open Go Go.Am Go.Vm Go.Tra Go.Hun
def a8b (x:jW) (k:Nat) (p:mG):jW:={ x with Ap:=x.Ap.set k { gi x.Ap k with stops:=(gi x.Ap k).stops++[p] } }
end Go.Proofs.YtdabojnmoejilaaGreatDoor
namespace Go.Proofs.YtdabojnmoejilaaGreatDoor
open Go Go.Am Go.Vm Go.Tra Go.Hun
end Go.Proofs.YtdabojnmoejilaaGreatDoor
namespace Go.Proofs.YtdabojnmoejilaaGreatDoor
open Go Go.Am Go.Vm Go.Tra Go.Hun
attribute [local irreducible] Aa Af Ar Ad BA AY CG AO AL Aw Vm.Done CW Bl
attribute [local irreducible] DR Dw Io Jd Nh BU
theorem V7 {q:Iu} (h:Zg q):AY env 38 [.agg (Enc.enc q)] (.EP [.p (.lst 3 (cells (DN q)) (DN q).length),.p (.int .i64 0)]):=by
 have hc:=Ou q h.sm1 h.sm2 h.rg
 rw [h.err] at hc
 have hcp:=Pv q h.k1 h.k2 h.rg
 refine AY.enter (AB (by decide)) Tryz.func38 rfl (by kernel_rfl) (by simp [Tryz.ntmps38]) ?_
 repeat' (first|apply Ad.assoc|apply Ad.AA|apply Ad.Au|apply Ad.ret|apply Af.nil|apply Af.one|(apply Aa.fn;rfl;rfl;exact hc;intro _;rfl)|(apply Aa.fn;rfl;rfl;exact hcp;intro _;rfl)|(apply Aa.assign;rfl)|(apply Aa.move;rfl)|(apply Aa.int;rfl;rfl;rfl)|(apply Aa.load;rfl;rfl)|(apply Aa.box;rfl;trivial)|(apply Ad.Az;rfl))
 all_goals first|(exfalso;omega)|contradiction|(refine Done.ret rfl (.refl _) (by exact PV.Ac rfl) Ah.nil (Nat.zero_le _) (Nat.le_refl _) ⟨?_,rfl,rfl⟩;try rfl)
theorem Wu (q:Iu) (h1:Gi q.BG) (h2:Gi q.tgt) (hr:q.reg.Ok):AY env 39 [.agg (Enc.enc q)] (.p (.lst 3 (cells (DN q)) (DN q).length)):=by
 have b1:=h1.BF
 have b2:=h2.BF
 have b3:=h1.Ap
 have b5:=h2.Ap
 have b4:=hr.cp
 unfold DN
 refine AY.enter (AB (by decide)) Tryz.func39 rfl (by kernel_rfl) (by simp [Tryz.ntmps39]) ?_
 repeat' (first|apply Ad.assoc|apply Ad.AA|apply Ad.Ai|apply Af.nil|apply Af.one|(apply Aa.assign;rfl)|(apply Aa.box;rfl;trivial))
 all_goals try (exfalso;omega)
 refine Ad.ghost (A8.adopt 3 3 rfl) ?_
 apply Ad.Ed (q.BG.BF.length) [(1,_)] [(0,_)] (fun k r=>(3,.vec 1 (FB q k).length 0 (FB q k).length)::(4,.p (.int .i64 (k:Int)))::r) (fun k r=>(1,.vec 3 (cells (FB q k)) (FB q k).length true)::r) 2
 ·first|omega|decide
 ·first|omega|decide
 ·repeat (first|exact Ak.nil|(refine Ak.eq rfl ?_ ?_;(first|exact PV.Ac rfl|(simp [PV.under,AP.under];done)))|refine Ak.cons trivial rfl (.of_eq (Aq (by simp<;>omega))) ?_)
 ·repeat (first|exact Ah.nil|(refine Ah.eq rfl (Aj rfl) ?_ ?_;(first|exact HB.Ac rfl|exact AP.Ag _ _|(simp [HB.under,AP.under,PV.under];done)))|(refine Ah.cons (Aj rfl) ?_ rfl ?_ ?_;(first|exact trivial|exact AP.Ag _ _|(simp [HB.under,AP.under,PV.under]));(first|exact Bg.refl _|exact Bg.vec (Bf.refl _) (by simp))))
 ·intro k hk
  obtain ⟨c1,c2,c3,c4⟩:=h1.a0w hk
  have e3:=JM q k
  have hq:q.reg.cp / 2 ^ k<18446744073709551616:=Nat.lt_of_le_of_lt (Nat.div_le_self _ _) b4
  have hm2:=Nat.mod_lt (q.reg.cp / 2 ^ k) (show 0<2 by decide)
  by_cases hb:q.reg.cp / 2 ^ k % 2=1
  case neg =>
   have e1:FB q (k+1)=FB q k:=by rw [FB,if_neg hb]
   repeat' (first|apply Ad.assoc|apply Ad.AA|apply Ad.region|apply Ad.Au|apply Ad.AX|apply Ad.Ai|apply AO.normal|apply AL.exit|apply Af.nil|apply Af.one|(apply Aa.assign;rfl)|(apply Aa.move;rfl)|(apply Aa.Bq;rfl;rfl;omega)|(apply Aa.Q9;rfl;rfl;omega)|(apply Aa.int;rfl;rfl;rfl)|(apply Aa.load;rfl;rfl)|(apply Aa.BH;rfl;rfl)|(apply Aa.AQ;rfl;rfl;rfl)|(apply Aa.LK;rfl;rfl;rfl;rfl;omega)|(apply Aa.NU;rfl;rfl;(simp only [IntKind.bits];omega))|(apply Ad.Ae;rfl)|(intro _;try (exfalso;omega)))
   all_goals try (exfalso;omega)
   refine Aw.normal ⟨by omega,?_,?_⟩
   ·rw [e1]
    repeat (first|exact Ak.nil|refine Ak.same (by exact PV.Ac rfl) rfl ?_|refine Ak.cons trivial rfl (.of_eq (Aq (by simp<;>omega))) ?_)
   ·rw [e1]
    repeat (first|exact Ah.nil|(refine Ah.cons (Aj rfl) ?_ rfl ?_ ?_;(first|exact HB.Ac rfl|exact AP.Ag _ _|(simp [HB.under,AP.under,PV.under]));(first|exact Bg.refl _|exact Bg.vec (Bf.refl _) (by simp))))
  have e1:FB q (k+1)=FB q k++[Z9 q k]:=by rw [FB,if_pos hb]
  have e2:(FB q (k+1)).length=(FB q k).length+1:=by rw [e1];simp
  obtain ⟨cf,hcf⟩:∃ n:Nat,(gi q.BG.BF k).BG=n:=⟨(gi q.BG.BF k).BG.toNat,by omega⟩
  obtain ⟨ct,hct⟩:∃ n:Nat,(gi q.BG.BF k).tgt=n:=⟨(gi q.BG.BF k).tgt.toNat,by omega⟩
  obtain ⟨P,hP⟩:∃ P:Nat→Bool,P=fun j=>X7 q.BG q.tgt (gi q.BG.BF k) (gi q.tgt.BF j):=⟨_,rfl⟩
  have hPI:Z9 q k=PS P q.tgt.BF.length q.tgt.BF.length:=by rw [hP];rfl
  repeat' (first|apply Ad.assoc|apply Ad.AA|apply Ad.Au|apply Ad.Ai|apply Af.nil|apply Af.one|(apply Aa.assign;rfl)|(apply Aa.move;rfl)|(apply Aa.Hr;rfl;rfl;omega)|(apply Aa.Q9;rfl;rfl;omega)|(apply Aa.int;rfl;rfl;rfl)|(apply Aa.AV;rfl;rfl;rfl;omega;rfl)|(apply Aa.load;rfl;rfl)|(apply Aa.BH;rfl;rfl)|(apply Aa.AQ;rfl;rfl;rfl)|(apply Aa.alloc;rfl)|(apply Aa.Bj;rfl;rfl;rfl;trivial;rfl;rfl;exact Aj rfl;exact le_dec rfl)|(apply Aa.LK;rfl;rfl;rfl;rfl;omega)|(apply Aa.NU;rfl;rfl;(simp only [IntKind.bits];omega))|(apply Ad.Ae;rfl)|(intro _;try (exfalso;omega)))
  all_goals try (exfalso;omega)
  apply Ad.Ed (q.tgt.BF.length) [(1,_),(3,_),(4,_),(5,_)] [(0,_),(1,_),(2,_)] (fun k_ r=>(6,.p (.int .i64 (PS P q.tgt.BF.length k_)))::(7,.p (.int .i64 (((q.tgt.BF.length-k_:Nat):Int)-1)))::r) (fun k_ r=>r) 3
  ·first|omega|decide
  ·first|omega|decide
  ·repeat (first|exact Ak.nil|(refine Ak.eq rfl ?_ ?_;(first|exact PV.Ac rfl|(simp [PV.under,AP.under];done)))|refine Ak.cons trivial rfl (.of_eq (Aq (by simp<;>omega))) ?_)
  ·repeat (first|exact Ah.nil|(refine Ah.eq rfl (Aj rfl) ?_ ?_;(first|exact HB.Ac rfl|exact AP.Ag _ _|(simp [HB.under,AP.under,PV.under];done)))|(refine Ah.cons (Aj rfl) ?_ rfl ?_ ?_;(first|exact trivial|exact AP.Ag _ _|(simp [HB.under,AP.under,PV.under]));(first|exact Bg.refl _|exact Bg.vec (Bf.refl _) (by simp))))
  ·intro j hj
   have hix:(((q.tgt.BF.length-j:Nat):Int)-1)=((q.tgt.BF.length-(j+1):Nat):Int):=by omega
   have e7:(((q.tgt.BF.length-(j+1):Nat):Int)-1)=(((q.tgt.BF.length-j:Nat):Int)-1-1):=by omega
   have e7':(((q.tgt.BF.length-(j+1):Nat):Int))=(((q.tgt.BF.length-j:Nat):Int)-1):=by omega
   obtain ⟨y1,y2,y3,y4⟩:=h2.a0w (i:=q.tgt.BF.length-(j+1)) (by omega)
   obtain ⟨yf,hyf⟩:∃ n:Nat,(gi q.tgt.BF (q.tgt.BF.length-(j+1))).BG=n:=⟨(gi q.tgt.BF (q.tgt.BF.length-(j+1))).BG.toNat,by omega⟩
   obtain ⟨yt,hyt⟩:∃ n:Nat,(gi q.tgt.BF (q.tgt.BF.length-(j+1))).tgt=n:=⟨(gi q.tgt.BF (q.tgt.BF.length-(j+1))).tgt.toNat,by omega⟩
   obtain ⟨b2,d2⟩:∃ b,((gi q.BG.BF k).through==(gi q.tgt.BF (q.tgt.BF.length-(j+1))).through)=b:=⟨_,rfl⟩
   obtain ⟨b3,d3⟩:∃ b,decide ((gi q.BG.Ap cf).name=(gi q.tgt.Ap yf).name)=b:=⟨_,rfl⟩
   obtain ⟨b4,d4⟩:∃ b,decide ((gi q.BG.Ap ct).name=(gi q.tgt.Ap yt).name)=b:=⟨_,rfl⟩
   have hPj:P (q.tgt.BF.length-(j+1))=(decide ((gi q.BG.BF k).shift=(gi q.tgt.BF (q.tgt.BF.length-(j+1))).shift)&&(b2&&(b3&&b4))):=by
    rw [hP,← d2,← d3,← d4]
    show X7 q.BG q.tgt (gi q.BG.BF k) (gi q.tgt.BF (q.tgt.BF.length-(j+1)))=_
    unfold X7
    rw [hcf,hct,hyf,hyt,Int.toNat_natCast,Int.toNat_natCast,Int.toNat_natCast,Int.toNat_natCast]
    congr 1
    ·exact decide_eq_decide.2 eq_comm
    congr 1
    ·exact Bool.beq_comm
    congr 1
    ·exact decide_eq_decide.2 eq_comm
    ·exact decide_eq_decide.2 eq_comm
   have e4:PS P q.tgt.BF.length (j+1)=if P (q.tgt.BF.length-(j+1))=true then (((q.tgt.BF.length-j:Nat):Int)-1) else PS P q.tgt.BF.length j:=by
    rw [PS,e7']
   rw [hPj] at e4
   clear hPj
   by_cases q1:(gi q.BG.BF k).shift=(gi q.tgt.BF (q.tgt.BF.length-(j+1))).shift
   all_goals first|rw [decide_eq_true q1] at e4|rw [decide_eq_false q1] at e4
   all_goals cases b2
   all_goals cases b3
   all_goals cases b4
   all_goals simp only [Bool.and_true,Bool.and_false,Bool.true_and,Bool.false_and,if_true,Bool.false_eq_true,if_false] at e4
   all_goals
    repeat' (first|apply Ad.assoc|apply Ad.AA|apply Ad.BI|apply Ad.region|apply Ad.Au|apply Ad.Ai|apply AO.normal|apply AL.normal|apply Ad.skip|apply Af.nil|apply Ar.nil|apply Af.one|(apply Ar.bar;decide +kernel)|apply Ar.quiet|(apply Ar.Lr;rfl;rfl)|(apply Ar.drop;rfl;rfl;rfl)|(apply Ar.guard;rfl;rfl)|(apply Aa.a5j;rfl;rfl;rfl;exact d2)|(apply Aa.dM;rfl;rfl;exact d3)|(apply Aa.dM;rfl;rfl;exact d4)|(apply Aa.AV (l:=q.tgt.BF) (i:=q.tgt.BF.length-(j+1));rfl;(first|exact congrArg (fun a=>some (PV.p (.int .i64 a))) hix|rfl);rfl;omega;rfl)|(apply Aa.AV (l:=q.BG.Ap) (i:=cf);rfl;(first|exact congrArg (fun a=>some (PV.p (.int .i64 a))) hcf|rfl);rfl;omega;rfl)|(apply Aa.AV (l:=q.BG.Ap) (i:=ct);rfl;(first|exact congrArg (fun a=>some (PV.p (.int .i64 a))) hct|rfl);rfl;omega;rfl)|(apply Aa.AV (l:=q.tgt.Ap) (i:=yf);rfl;(first|exact congrArg (fun a=>some (PV.p (.int .i64 a))) hyf|rfl);rfl;omega;rfl)|(apply Aa.AV (l:=q.tgt.Ap) (i:=yt);rfl;(first|exact congrArg (fun a=>some (PV.p (.int .i64 a))) hyt|rfl);rfl;omega;rfl)|(apply Aa.assign;rfl)|(apply Aa.move;rfl)|(apply Aa.Hr;rfl;rfl;omega)|(apply Aa.int;rfl;rfl;rfl)|(apply Aa.load;rfl;rfl)|(apply Aa.Bz;rfl;rfl)|(apply Aa.AU;rfl;rfl)|(apply Aa.AQ;rfl;rfl;rfl)|(apply Aa.DW;rfl;rfl)|(apply Aa.alloc;rfl)|(apply Aa.Bj;rfl;rfl;rfl;trivial;rfl;rfl;exact Aj rfl;exact le_dec rfl)|(apply Ad.Ae;rfl)|(apply Ad.cond_true;rfl)|(apply Ad.cond_false;rfl)|(intro _;try (exfalso;omega)))
   all_goals try (exfalso;omega)
   all_goals try contradiction
   all_goals
    refine Aw.normal ⟨by first|omega|decide,?_,?_⟩
    ·try (try rw [e4,e7])
     repeat (first|exact Ak.nil|refine Ak.same (by exact PV.Ac rfl) rfl ?_|refine Ak.cons trivial rfl (.of_eq (Aq (by simp<;>omega))) ?_)
    ·try rw [e4,e7]
     repeat (first|exact Ah.nil|(refine Ah.cons (Aj rfl) ?_ rfl ?_ ?_;(first|exact HB.Ac rfl|exact AP.Ag _ _|(simp [HB.under,AP.under,PV.under]));(first|exact Bg.refl _|exact Bg.vec (Bf.refl _) (by simp))))
  ·rw [← hPI]
   repeat' (first|apply Ad.assoc|apply Ad.AA|apply Ad.region|apply Ad.AX|apply AO.normal|apply AL.normal|apply AL.exit|apply Aw.exit|apply Af.nil|apply Af.one|(apply Aa.Dv (a:=Z9 q k);rfl;rfl;rfl;rfl;rfl;rfl;rfl;rfl;(intro _ h;cases h);rfl;rfl;rfl;decide;decide;(first|omega|(simp only [List.length_take,List.length_drop,List.length_append,List.length_singleton,List.length_cons,List.length_nil]<;>omega)))|(apply Aa.assign;rfl)|(apply Aa.move;rfl)|(apply Aa.Bq;rfl;rfl;omega)|(apply Aa.int;rfl;rfl;rfl)|(apply Aa.buildSlice;rfl;rfl;rfl;decide;rfl;rfl;rfl)|(apply Ad.Ae;rfl)|(intro _;try (exfalso;omega)))
   all_goals try (exfalso;omega)
   refine Aw.normal ⟨by omega,?_,?_⟩
   ·rw [e2]
    repeat (first|exact Ak.nil|refine Ak.same (by exact PV.Ac rfl) rfl ?_|refine Ak.cons trivial rfl (.of_eq (Aq (by simp<;>omega))) ?_)
   ·rw [e2,e1]
    repeat (first|exact Ah.nil|(refine Ah.cons (Aj rfl) ?_ rfl ?_ ?_;(first|exact HB.Ac rfl|exact AP.Ag _ _|(simp [HB.under,AP.under,PV.under]));(first|exact Bg.refl _|exact Bg.vec (Bf.refl _) (by simp))))
 ·have e3:=JM q q.BG.BF.length
  repeat' (first|(refine Af.IU 2 ?_;refine Af.ghost (A8.freeze 101 rfl rfl) ?_)|apply Ad.assoc|apply Ad.AA|apply Ad.AX|apply AO.normal|apply AL.exit|apply Aw.exit|apply Ad.ret|apply Af.nil|apply Af.one|(apply Aa.assign;rfl)|(apply Aa.move;rfl)|(apply Aa.int;rfl;rfl;rfl)|(apply Aa.load;rfl;rfl)|(apply Aa.BH;rfl;rfl)|(apply Aa.AQ;rfl;rfl;rfl)|(apply Ad.Ae;rfl)|(intro _;try (exfalso;omega)))
  all_goals first|(exfalso;omega)|(refine Done.ret rfl (.refl _) (by exact PV.Ac rfl) Ah.nil (Nat.zero_le _) (Nat.le_refl _) ⟨?_,rfl,rfl⟩;try rfl)
end Go.Proofs.YtdabojnmoejilaaGreatDoor
namespace Go.Proofs.YtdabojnmoejilaaGreatDoor
open Go Go.Am Go.Vm Go.Tra
attribute [local irreducible] Aa Af Ar Ad BA AY CG AO AL Aw Vm.Done CW Bl ZA
def cu (i:Nat) (f:Int):Stp:=⟨[82,UInt8.ofNat (48+i)],⟨f,1⟩,[⟨36,38,[⟨(i:Int),0⟩]⟩]⟩
def Zw (i:Nat) (t:List UInt8) (f:Int):FQ:=⟨[82,UInt8.ofNat (48+i)],t,⟨f,1⟩,36,[1,1,1]⟩
def WM (ss:List Stp):VB:=⟨[71,114,101,97,116],false,36,38,ss⟩
structure Tn where
 t:List UInt8
instance:Enc Tn:={ default:=⟨[]⟩,enc:=fun x=>[.str (bs x.t)],size:=1,len:=fun _=>rfl }
def EK (fs:List Int) (k:Nat):List Stp:=(List.range k).map fun i=>cu i (gi fs i)
def FM (ts:List Tn) (fs:List Int) (k:Nat):List FQ:=(List.range k).map fun i=>Zw i (gi ts i).t (gi fs i)
theorem lY (fs:List Int) (k:Nat):EK fs (k+1)=EK fs k++[cu k (gi fs k)]:=by simp [EK,List.range_succ]
theorem lX (ts:List Tn) (fs:List Int) (k:Nat):FM ts fs (k+1)=FM ts fs k++[Zw k (gi ts k).t (gi fs k)]:=by simp [FM,List.range_succ]
theorem SL (fs:List Int) (k:Nat):(EK fs k).length=k:=by simp [EK]
theorem TG (ts:List Tn) (fs:List Int) (k:Nat):(FM ts fs k).length=k:=by simp [FM]
def JL (ts:List Tn) (fs:List Int):EN:=⟨[79],FM ts fs ts.length,[WM (EK fs ts.length)],[]⟩
theorem UD (ts:List Tn) (fs:List Int) (hl:ts.length=fs.length) (h9:ts.length≤9):AY env 23 [.lst 9 (cells ts) ts.length,.lst 3 (cells fs) fs.length] (.p (.agg (Enc.enc (JL ts fs)))):=by
 refine AY.enter (AB (by decide)) Tryz.func23 rfl (by kernel_rfl) (by simp [Tryz.ntmps23]) ?_
 repeat' (first|apply Ad.assoc|apply Ad.AA|apply Ad.Ai|apply Af.nil|apply Af.one|(apply Aa.assign;rfl)|(apply Aa.alloc;rfl)|(apply Aa.Bj;rfl;rfl;rfl;trivial;rfl;rfl;exact Aj rfl;exact le_dec rfl)|(apply Aa.build;rfl;rfl;rfl;rfl;rfl)|(apply Aa.buildSlice;rfl;rfl;rfl;decide;rfl;rfl;rfl))
 all_goals try (exfalso;omega)
 refine Ad.ghost ((((A8.a0n 1 rfl (by decide)).trans (A8.iZ 1 4 122 rfl rfl)).trans (A8.EC 2 1 131 rfl rfl))) ?_
 apply Ad.Ed (ts.length) [(0,_),(1,_),(4,_),(5,_)] [(0,_)] (fun k r=>(6,.p (.int .i64 (k:Int)))::r) (fun k r=>(1,.Fe 97 [.p (.str (bs [71,114,101,97,116])),.p (.bool false),.p (.int .i64 36),.p (.int .i64 38),.vec 3 (EK fs k).length 0 (EK fs k).length] 1)::(2,.box 37 [.p (.str (bs [79])),.vec 4 (FM ts fs k).length 0 (FM ts fs k).length,.vec 1 1 0 1,.p (.val (.slice none 0 0))])::(3,.vec 122 (cells (EK fs k)) (EK fs k).length true)::(4,.vec 131 (cells (FM ts fs k)) (FM ts fs k).length true)::r) 5
 ·first|omega|decide
 ·first|omega|decide
 ·repeat (first|exact Ak.nil|(refine Ak.eq rfl ?_ ?_;(first|exact PV.Ac rfl|(simp [PV.under,AP.under];done)))|refine Ak.cons trivial rfl (.of_eq (Aq (by simp<;>omega))) ?_)
 ·repeat (first|exact Ah.nil|(refine Ah.eq rfl (Aj rfl) ?_ ?_;(first|exact HB.Ac rfl|exact AP.Ag _ _|(simp [HB.under,AP.under,PV.under];done)))|(refine Ah.cons (Aj rfl) ?_ rfl ?_ ?_;(first|exact trivial|exact AP.Ag _ _|(simp [HB.under,AP.under,PV.under]));(first|exact Bg.refl _|exact Bg.vec (Bf.refl _) (by simp))))
 ·intro k hk
  have a1:=lY fs k
  have a2:=lX ts fs k
  have a3:(EK fs (k+1)).length=(EK fs k).length+1:=by rw [a1];simp
  have a4:(FM ts fs (k+1)).length=(FM ts fs k).length+1:=by rw [a2];simp
  have a5:=SL fs k
  have a6:=TG ts fs k
  repeat' (first|(refine Ar.atIdx 9 ?_;refine Ar.ghost (A8.freeze 37 rfl rfl) ?_)|(refine Ar.atIdx 12 ?_;refine Ar.ghost (A8.freeze 53 rfl rfl) ?_)|(refine Ar.atIdx 14 ?_;refine Ar.ghost (A8.freeze 55 rfl rfl) ?_)|(refine Ar.atIdx 16 ?_;apply Ar.weak [.tmp 42];decide +kernel;rfl;rfl;(first|exact QD.ref rfl|exact QD.vec rfl|exact QD.Eo rfl);decide +kernel;rfl)|apply Ad.assoc|apply Ad.AA|apply Ad.BI|apply Ad.region|apply Ad.Et|apply Ad.Au|apply Ad.Ai|apply AO.normal|apply AL.normal|apply Af.nil|apply Ar.nil|apply Af.one|(apply Ar.bar;decide +kernel)|apply Ar.quiet|(apply Aa.Dv (a:=Zw k (gi ts k).t (gi fs k));rfl;rfl;rfl;rfl;rfl;rfl;rfl;rfl;(intro _ h;cases h);rfl;rfl;rfl;decide;decide;(first|omega|(simp only [List.length_take,List.length_drop,List.length_append,List.length_singleton,List.length_cons,List.length_nil]<;>omega)))|(apply Aa.Dv (a:=cu k (gi fs k));rfl;rfl;rfl;rfl;rfl;rfl;rfl;rfl;(intro _ h;cases h);rfl;rfl;rfl;decide;decide;(first|omega|(simp only [List.length_take,List.length_drop,List.length_append,List.length_singleton,List.length_cons,List.length_nil]<;>omega)))|(apply Aa.zh;rfl;rfl;rfl;rfl;rfl;decide;omega)|(apply Aa.AV (l:=ts) (i:=k);rfl;rfl;rfl;exact hk;rfl)|(apply Aa.AV (l:=fs) (i:=k);rfl;rfl;rfl;omega;rfl)|(apply Aa.a4w (i:=0);rfl;rfl;rfl;rfl;decide)|(apply Aa.a4q;rfl;rfl;rfl)|(apply Aa.a6w;rfl;rfl;rfl;rfl)|(apply Aa.a4a;rfl;rfl;rfl;trivial;rfl;rfl;decide;(simp only [List.length_cons,List.length_nil]<;>decide))|(apply Aa.assign;rfl)|(apply Aa.move;rfl)|(apply Aa.Bq;rfl;rfl;omega)|(apply Aa.a8i;rfl;rfl;omega)|(apply Aa.int;rfl;rfl;rfl)|(apply Aa.load;rfl;rfl)|(apply Aa.BH;rfl;rfl)|(apply Aa.AQ;rfl;rfl;rfl)|(apply Aa.alloc;rfl)|(apply Aa.Bj;rfl;rfl;rfl;trivial;rfl;rfl;exact Aj rfl;exact le_dec rfl)|(apply Aa.build;rfl;rfl;rfl;rfl;rfl)|(apply Aa.buildSlice;rfl;rfl;rfl;decide;rfl;rfl;rfl)|(apply Aa.Lc;rfl;rfl;rfl;rfl;omega)|(apply Ad.Ae;rfl)|(intro _;try (exfalso;omega)))
  all_goals try (exfalso;omega)
  refine Aw.normal ⟨by omega,?_,?_⟩
  ·repeat (first|exact Ak.nil|refine Ak.same (by exact PV.Ac rfl) rfl ?_|refine Ak.cons trivial rfl (.of_eq (Aq (by simp<;>omega))) ?_)
  ·rw [a3,a4,a1,a2]
   repeat (first|exact Ah.nil|(refine Ah.cons (Aj rfl) ?_ rfl ?_ ?_;(first|exact HB.Ac rfl|exact AP.Ag _ _|(simp [HB.under,AP.under,PV.under]));(first|exact Bg.refl _|exact Bg.vec (Bf.refl _) (by simp))))
 ·repeat' (first|(refine Ad.at 9 ?_;refine Ad.ghost (((((A8.bG 1 4 rfl rfl rfl).trans (A8.uU 1 (cells [WM (EK fs ts.length)]) rfl (by decide) rfl)).trans (A8.Dc 2 2 rfl rfl rfl)).trans (A8.Dc 2 1 rfl rfl rfl))) ?_;first|apply Ad.AA|apply Ad.BI)|apply Ad.assoc|apply Ad.AA|apply Ad.AX|apply AO.normal|apply AL.exit|apply Aw.exit|apply Ad.ret|apply Af.nil|apply Af.one|(apply Aa.move;rfl)|(apply Aa.int;rfl;rfl;rfl)|(apply Aa.load;rfl;rfl)|(apply Aa.BH;rfl;rfl)|(apply Aa.Bj;rfl;rfl;rfl;trivial;rfl;rfl;exact Aj rfl;exact le_dec rfl)|(apply Ad.Ae;rfl)|(intro _;try (exfalso;omega)))
  all_goals try (exfalso;omega)
  all_goals (refine Done.ret (r:=.p (.agg (Enc.enc (JL ts fs)))) rfl (.p (.agg (.cons (.refl _) (.cons (.refl _) (.cons (.refl _) (.cons (.nil _) (.refl _))))))) trivial Ah.nil (Nat.zero_le _) (Nat.le_refl _) ⟨rfl,rfl,rfl⟩)
end Go.Proofs.YtdabojnmoejilaaGreatDoor
namespace Go.Proofs.YtdabojnmoejilaaGreatDoor
open Go Go.Am Go.Vm Go.Tra Go.Hun
attribute [local irreducible] Aa Af Ar Ad BA AY CG AO AL Aw Vm.Done CW Bl
theorem iK (fs:List Int):∀ {k i:Nat},i<k→gi (EK fs k) i=cu i (gi fs i):=fun {k i} h=>by
 unfold EK gi;simp [List.getElem?_map,List.getElem?_range h]
theorem dI (ts:List Tn) (fs:List Int):∀ {k i:Nat},i<k→gi (FM ts fs k) i=Zw i (gi ts i).t (gi fs i):=fun {k i} h=>by
 unfold FM gi;simp [List.getElem?_map,List.getElem?_range h]
theorem a0e {i:Nat} {t:List UInt8} {f:Int} (hi:i<10) (ht:C9 t) (hf:pI ⟨f,1⟩):DR (Zw i t f)=0:=by
 unfold DR
 have h1:C9 (Zw i t f).name:=VL (by decide) hi
 have h2:C9 (Zw i t f).Fq:=ht
 have h3:O7 (Zw i t f).Du=0:=Oy.2 hf
 rw [if_neg (by rintro (h|h);exact h h1;exact h h2),if_neg (fun h=>h h3),if_neg (by show ¬ ((36:Int)< -256∨(36:Int)>256);omega),if_neg (by show ¬ (3=0);omega),if_neg (by show ¬ (3>128);omega)]
 unfold Dw
 rw [if_pos]
 intro j hj
 have:j=0∨j=1∨j=2:=by
  have:j<3:=hj
  omega
 rcases this with rfl|rfl|rfl<;>(show ¬ XZ 1)<;>decide
theorem oL {ts:List Tn} {fs:List Int} (hl:ts.length=fs.length) (h9:ts.length≤9) (hT:∀ i,i<ts.length→C9 (gi ts i).t) (hF:∀ i,i<ts.length→pI ⟨gi fs i,1⟩):KW (JL ts fs)=0:=by
 have eR:(JL ts fs).ranks=FM ts fs ts.length:=rfl
 have eD:(JL ts fs).Ap=[WM (EK fs ts.length)]:=rfl
 have eC:(JL ts fs).BF=[]:=rfl
 have eN:(JL ts fs).name=[79]:=rfl
 have lR:=TG ts fs ts.length
 have lS:=SL fs ts.length
 have gR:∀ i,i<ts.length→gi (FM ts fs ts.length) i=Zw i (gi ts i).t (gi fs i):=fun i hi=>dI ts fs hi
 have gS:∀ i,i<ts.length→gi (EK fs ts.length) i=cu i (gi fs i):=fun i hi=>iK fs hi
 unfold KW
 rw [eR,eD,eC,eN]
 have hr:∀ i,i<(FM ts fs ts.length).length→DR (gi (FM ts fs ts.length) i)=0:=fun i hi=>by
  rw [lR] at hi
  rw [gR i hi]
  exact a0e (by omega) (hT i hi) (hF i hi)
 have hrk:N7 (FM ts fs ts.length) 0=0:=SN (fun i hi=>⟨hr i hi,TS (c:=82) (by omega) (fun j hj=>by rw [gR j (by omega)];rfl) hi⟩) _ 0 rfl
 have n1:C9 [79]:=⟨by decide,by decide,by decide,fun j h1 h2=>by simp at h2;omega⟩
 have n2:C9 [71,114,101,97,116]:=⟨by decide,by decide,by decide,fun j h1 h2=>by
  have:j=1∨j=2∨j=3∨j=4:=by simp at h2;omega
  rcases this with rfl|rfl|rfl|rfl<;>exact .inl (by decide)⟩
 rw [if_neg (fun h=>h n1),if_neg (by omega),if_neg (fun h=>h hrk),if_neg (by simp),if_neg (by simp)]
 have hst:∀ i,i<(EK fs ts.length).length→Io (FM ts fs ts.length) 36 38 (gi (EK fs ts.length) i)=0:=fun i hi=>by
  rw [lS] at hi
  rw [gS i hi]
  unfold Io
  rw [YF hr (by omega) (by omega),if_neg (fun h=>h rfl)]
  unfold xu
  have h1:C9 (cu i (gi fs i)).name:=VL (by decide) (by omega)
  have h3:O7 (cu i (gi fs i)).Du=0:=Oy.2 (hF i hi)
  have es:(cu i (gi fs i)).Fb=[⟨36,38,[⟨(i:Int),0⟩]⟩]:=rfl
  rw [if_neg (fun h=>h h1),if_neg (fun h=>h h3),es,if_neg (by simp),if_neg (by simp)]
  exact Jt (by simp) (Ij ⟨by simp only;omega,by simp⟩)
 have hd:FD (FM ts fs ts.length) [WM (EK fs ts.length)] 0=0:=Qb (fun i hi=>by
  obtain rfl:i=0:=by simp at hi;omega
  refine ⟨n2,by simp,?_⟩
  show Jd (FM ts fs ts.length) (WM (EK fs ts.length))=0
  unfold Jd
  rw [show U9 (WM (EK fs ts.length)).lo (WM (EK fs ts.length)).hi=0 from La (by simp [WM]),if_neg (fun h=>h rfl),if_neg (by show ¬ (EK fs ts.length).length>60;omega)]
  exact PI (fun j hj=>⟨hst j hj,TS (c:=82) (l:=EK fs ts.length) (by omega) (fun a ha=>by rw [gS a (by omega)];rfl) hj⟩) _ 0 rfl) _ 0 rfl
 rw [if_neg (fun h=>h hd)]
 unfold Nh
 rw [if_neg (by simp)]
 have hc:PZ ([WM (EK fs ts.length)].map fun d=>(⟨d.lo,d.hi⟩:aQ)) 0=0:=TK (fun i hi=>by
  obtain rfl:i=0:=by simp at hi;omega
  exact La (by simp [gi,WM])) _ 0 rfl
 rw [if_neg (fun h=>h hc),LD,if_neg (by simp)]
theorem sK {ts:List Tn} {fs:List Int} (h9:ts.length≤9) (hT:∀ i,i<ts.length→C9 (gi ts i).t):Pg (JL ts fs):=by
 have lR:=TG ts fs ts.length
 have lS:=SL fs ts.length
 refine ⟨by show 1<1000000;decide,by show (FM ts fs ts.length).length<_;omega,by show 1<1000000;decide,by show 0<1000000;decide,fun i hi=>?_,fun i hi=>?_,fun i hi=>?_⟩
 ·have hi:i<ts.length:=by rw [← lR];exact hi
  show Ws (gi (FM ts fs ts.length) i)
  rw [dI ts fs hi]
  exact ⟨by show 2<1000000;decide,by show (gi ts i).t.length<_;have:=(hT i hi).2.1;omega,by show 3<1000000;decide⟩
 ·obtain rfl:i=0:=by
   have:i<1:=hi
   omega
  show uX (WM (EK fs ts.length))
  refine ⟨by show 5<1000000;decide,by show (EK fs ts.length).length<_;omega,fun j hj=>?_⟩
  have hj:j<ts.length:=by rw [← lS];exact hj
  show YK (gi (EK fs ts.length) j)
  rw [iK fs hj]
  refine ⟨by show 2<1000000;decide,by show 1<1000000;decide,fun a ha=>?_⟩
  obtain rfl:a=0:=by
   have:a<1:=ha
   omega
  exact ⟨by show 1<1000000;decide⟩
 ·have:i<0:=hi
  omega
def yN:List Tn:=[⟨[112,114,105,110,99,105,112,97,108]⟩,⟨[102,108,117,116,101]⟩]
def yS:List Tn:=[⟨[102,108,117,116,101]⟩]
theorem yE (s:List UInt8) (h0:0<s.length) (h1:s.length≤32) (h:∀ i,i<s.length→bT (gi s i).toNat):C9 s:=⟨h0,h1,h 0 h0,fun i _ hi=>.inl (h i hi)⟩
instance (c:Nat):Decidable (bT c):=by unfold bT;infer_instance
theorem a3q:C9 [112,114,105,110,99,105,112,97,108]:=yE _ (by decide) (by decide) (by decide)
theorem vJ:C9 [102,108,117,116,101]:=yE _ (by decide) (by decide) (by decide)
theorem uM:∀ i,i<yN.length→C9 (gi yN i).t:=fun i hi=>by
 have:i=0∨i=1:=by
  have:i<2:=hi
  omega
 rcases this with rfl|rfl
 ·exact a3q
 ·exact vJ
theorem uw:∀ i,i<yS.length→C9 (gi yS i).t:=fun i hi=>by
 obtain rfl:i=0:=by
  have:i<1:=hi
  omega
 exact vJ
def qK (w:Int):Iu:=⟨JL yN [8,4],⟨[3],0,0⟩,JL yS [8],⟨10,1,5,w⟩⟩
theorem a3n {w:Int} (hw:0≤w∧w≤100):NH (qK w).Iq:=fun i hi=>by
 match i,hi with
 |0,_=>show (0:Int)≤10∧(10:Int)≤100000;decide
 |1,_=>show (0:Int)≤1∧(1:Int)≤100000;decide
 |2,_=>show (0:Int)≤5∧(5:Int)≤100000;decide
 |3,_=>exact ⟨hw.1,Int.le_trans hw.2 (by decide)⟩
theorem shK:∀ a,a<2→(BU ⟨8,1⟩ ⟨gi [8,4] a,1⟩).2=0∧-1000≤(BU ⟨8,1⟩ ⟨gi [8,4] a,1⟩).1∧(BU ⟨8,1⟩ ⟨gi [8,4] a,1⟩).1≤1000:=by decide +kernel
theorem fZ {w:Int} (hw:0≤w∧w≤100):Zg (qK w):=by
 have e1:KW (JL yN [8,4])=0:=oL rfl (by decide) uM (fun i hi=>by
  have:i=0∨i=1:=by
   have:i<2:=hi
   omega
  rcases this with rfl|rfl<;>decide +kernel)
 have e2:KW (JL yS [8])=0:=oL rfl (by decide) uw (fun i hi=>by
  obtain rfl:i=0:=by
   have:i<1:=hi
   omega
  decide +kernel)
 have e3:Qw (JL yN [8,4]) ⟨[3],0,0⟩=0:=by
  rw [Tj rfl (fun i hi=>by
   obtain rfl:i=0:=by
    have:i<1:=hi
    omega
   rfl)]
  rfl
 refine ⟨sK (by decide) uM,sK (by decide) uw,⟨fun i hi=>?_,by show 0<18446744073709551616;decide,by show 0<18446744073709551616;decide,by show 1<9223372036854775808;decide⟩,?_,fun a b ha hb=>?_⟩
 ·obtain rfl:i=0:=by
   have:i<1:=hi
   omega
  show 3<18446744073709551616
  decide
 ·unfold jX
  rw [if_neg (fun h=>h e1),if_neg (fun h=>h e3),if_neg (fun h=>h e2),if_neg (fun h=>h (a3n hw)),if_neg]
  have h1:(BJ (JL yN [8,4]) ⟨[3],0,0⟩).length=2:=by decide +kernel
  have h2:(Bo (JL yS [8])).length=1:=by decide +kernel
  have h1:(BJ (qK w).BG (qK w).reg).length=2:=h1
  have h2:(Bo (qK w).tgt).length=1:=h2
  omega
 ·obtain ⟨d,s⟩:=a
  obtain ⟨d',s'⟩:=b
  have a1:d<1:=ha.1
  obtain rfl:d=0:=by omega
  have a2:s<2:=ha.2
  have b1:d'<1:=hb.1
  obtain rfl:d'=0:=by omega
  have b2:s'<1:=hb.2
  obtain rfl:s'=0:=by omega
  have:s=0∨s=1:=by omega
  rcases this with rfl|rfl
  ·exact shK 0 (by decide)
  ·exact shK 1 (by decide)
theorem ah (w:Int):Jg (qK w)=[[10],[12]]:=by
 show Oe (JL yN [8,4]) (JL yS [8]) ⟨[3],0,0⟩ ⟨10,1,5,w⟩=_
 have:Oe (JL yN [8,4]) (JL yS [8]) ⟨[3],0,0⟩ ⟨10,1,5,0⟩=[[10],[12]]:=by decide +kernel
 exact this
theorem nU (w:Int):Pq (qK w)=1:=by
 have h1:(BJ (JL yN [8,4]) ⟨[3],0,0⟩).length=2:=by decide +kernel
 have h2:(Bo (JL yS [8])).length=1:=by decide +kernel
 show (if (BJ (JL yN [8,4]) ⟨[3],0,0⟩).length=0 then 0 else (Bo (JL yS [8])).length)=1
 rw [h1,h2];rfl
theorem a5r:(NK (qK 20)).total=30:=by
 unfold NK Zf
 rw [ah,nU]
 show jw [[10],[12]] 2 1 20=30
 decide +kernel
theorem a8x:(NK (qK 5)).total=10:=by
 unfold NK Zf
 rw [ah,nU]
 show jw [[10],[12]] 2 1 5=10
 decide +kernel
theorem jr:AY env 12 [] (.p (.bool true)):=by
 have h1:=UD yN [8,4] rfl (by decide)
 have h2:=UD yS [8] rfl (by decide)
 have hl:=LZ (fZ (w:=20) (by decide))
 rw [ah] at hl
 have hb:=WT (fZ (w:=20) (by decide))
 have hb5:=WT (fZ (w:=5) (by decide))
 have hv:=Zc (fZ (w:=20) (by decide)) (NK (qK 20))
 rw [show wz (Jg (qK 20)) (Pq (qK 20)) (qK 20).Iq.miss (NK (qK 20))=0 from uY (fZ (w:=20) (by decide)).Ye] at hv
 have t1:=a5r
 have t2:=a8x
 generalize NK (qK 20)=A at *
 generalize NK (qK 5)=B at *
 obtain ⟨c1,tt1,r1,p1⟩:=A
 obtain ⟨c2,tt2,r2,p2⟩:=B
 simp only at t1 t2
 subst t1;subst t2
 refine AY.enter (AB (by decide)) Tryz.func12 rfl (by kernel_rfl) (by simp [Tryz.ntmps12]) ?_
 repeat' (first|(refine Af.IU 11 ?_;refine Af.ghost (A8.trans (A8.freeze 9 rfl rfl) (A8.freeze 10 rfl rfl)) ?_)|(refine Af.IU 13 ?_;refine Af.ghost (A8.freeze 12 rfl rfl) ?_)|(refine Af.IU 16 ?_;refine Af.ghost (A8.trans (A8.freeze 14 rfl rfl) (A8.freeze 15 rfl rfl)) ?_)|apply Ad.AA|apply Ad.ret|apply Af.nil|apply Af.one|(apply Af.take;rfl;rfl)|(apply Aa.fn;rfl;rfl;exact h1;intro _;rfl)|(apply Aa.fn;rfl;rfl;exact h2;intro _;rfl)|(apply Aa.fn;rfl;rfl;exact hl;intro _;rfl)|(apply Aa.fn;rfl;rfl;exact hb;intro _;rfl)|(apply Aa.fn;rfl;rfl;exact hv;intro _;rfl)|(apply Aa.fn;rfl;rfl;exact hb5;intro _;rfl)|(apply Aa.TF;rfl;rfl;rfl;decide;decide)|(apply Aa.assign;rfl)|(apply Aa.move;rfl)|(apply Aa.int;rfl;rfl;rfl)|(apply Aa.load;rfl;rfl)|(apply Aa.Bz;rfl;rfl)|(apply Aa.BH;rfl;rfl)|(apply Aa.AQ;rfl;rfl;rfl)|(apply Aa.alloc;rfl)|(apply Aa.Bj;rfl;rfl;rfl;trivial;rfl;rfl;exact Aj rfl;exact le_dec rfl)|(apply Aa.build;rfl;rfl;rfl;rfl;rfl)|(apply Aa.buildSlice;rfl;rfl;rfl;decide;rfl;rfl;rfl)|(apply Aa.extract;rfl;rfl))
 all_goals try (exfalso;omega)
 all_goals (refine Done.ret rfl (.refl _) (by exact PV.Ac rfl) Ah.nil (Nat.zero_le _) (Nat.le_refl _) ⟨?_,rfl,rfl⟩;try rfl)
end Go.Proofs.YtdabojnmoejilaaGreatDoor
namespace Go.Proofs.YtdabojnmoejilaaGreatDoor
open Go Go.Am Go.Vm Go.Tra Go.Hun
attribute [local irreducible] Aa Af Ar Ad BA AY CG AO AL Aw Vm.Done CW Bl
end Go.Proofs.YtdabojnmoejilaaGreatDoor
namespace Go.Proofs.YtdabojnmoejilaaGreatDoor
open Go Go.Am Go.Vm Go.Tra Go.Hun
attribute [local irreducible] Aa Af Ar Ad BA AY CG AO AL Aw Vm.Done CW Bl
theorem SV {rk:List FQ} {l:List VB}:∀ (n k:Nat),l.length-k=n→FD rk l k=0→∀ i j,k≤i→i<l.length→j<i→(gi l j).name≠(gi l i).name
 |0,k,h,_,i,j,h1,h2,_=>by omega
 |n+1,k,h,h0,i,j,h1,h2,h3=>by
  rw [FD,if_pos (by omega)] at h0
  split at h0
  ·exact absurd h0 (by decide)
  split at h0
  ·exact absurd h0 (by decide)
  rename_i h5
  split at h0
  ·rename_i h4;exact absurd h0 h4
  rcases Nat.lt_or_ge k i with h4|h4
  ·exact SV n (k+1) (by omega) h0 i j h4 h2 h3
  ·obtain rfl:k=i:=by omega
   intro he
   refine h5 (List.mem_map.2 ⟨gi l j,?_,he⟩)
   rw [List.mem_take_iff_getElem]
   refine ⟨j,by omega,?_⟩
   unfold gi
   rw [List.getElem?_eq_getElem (by omega)];rfl
theorem Gi.names {o:EN} (h:Gi o) {i j:Nat} (hi:i<o.Ap.length) (hj:j<o.Ap.length) (e:(gi o.Ap i).name=(gi o.Ap j).name):i=j:=by
 rcases Nat.lt_trichotomy i j with h1|h1|h1
 ·exact absurd e (SV _ 0 rfl h.dvs j i (Nat.zero_le _) hj h1)
 ·exact h1
 ·exact absurd e.symm (SV _ 0 rfl h.dvs i j (Nat.zero_le _) hi h1)
noncomputable def PO (q:Iu) (i:Nat):Nat→Nat
 |0=>KR q i
 |j+1=>open Classical in if q.reg.off / 2 ^ i % 2=1∧(gi q.tgt.Ap j).name=(gi q.BG.Ap i).name then PO q i j ||| 2 ^ j else PO q i j
theorem Vk {q:Iu} {i:Nat}:∀ j,(∀ a,a<j→¬ (q.reg.off / 2 ^ i % 2=1∧(gi q.tgt.Ap a).name=(gi q.BG.Ap i).name))→PO q i j=KR q i
 |0,_=>rfl
 |j+1,h=>by
  unfold PO
  rw [if_neg (h j (by omega))]
  exact Vk j fun a ha=>h a (by omega)
theorem iH {q:Iu} {i a:Nat} (hb:q.reg.off / 2 ^ i % 2=1) (ha:(gi q.tgt.Ap a).name=(gi q.BG.Ap i).name):∀ j,(∀ c,c<j→(gi q.tgt.Ap c).name=(gi q.BG.Ap i).name→c=a)→a<j→PO q i j=KR q i ||| 2 ^ a
 |0,_,h=>by omega
 |j+1,hu,h=>by
  unfold PO
  by_cases e:j=a
  ·subst e
   rw [if_pos ⟨hb,ha⟩,Vk j fun c hc h2=>by have:=hu c (by omega) h2.2;omega]
  ·rw [if_neg (fun h2=>e (hu j (by omega) h2.2))]
   exact iH hb ha j (fun c hc=>hu c (by omega)) (by omega)
theorem wK {q:Iu} (hk:Gi q.tgt) (i:Nat):PO q i q.tgt.Ap.length=KR q (i+1):=by
 conv=>rhs;unfold KR
 by_cases hb:q.reg.off / 2 ^ i % 2=1
 ·by_cases hex:∃ a,a<q.tgt.Ap.length∧(gi q.tgt.Ap a).name=(gi q.BG.Ap i).name
  ·obtain ⟨a,h1,h2⟩:=hex
   have hf:SG q i=(a:Int):=lQ (P:=fun k=>decide ((gi q.tgt.Ap k).name=(gi q.BG.Ap i).name)) (fun x y hx hy e1 e2=>hk.names hx hy ((of_decide_eq_true e1).trans (of_decide_eq_true e2).symm)) h1 (decide_eq_true h2)
   rw [if_pos ⟨hb,by omega⟩,hf,Int.toNat_natCast]
   exact iH hb h2 _ (fun c hc e=>hk.names hc h1 (e.trans h2.symm)) h1
  ·have hf:SG q i=-1:=dH (P:=fun k=>decide ((gi q.tgt.Ap k).name=(gi q.BG.Ap i).name)) (fun a ha=>decide_eq_false fun e=>hex ⟨a,ha,e⟩) _ (Nat.le_refl _)
   rw [if_neg (fun h=>by omega)]
   exact Vk _ fun a ha h=>hex ⟨a,ha,h.2⟩
 ·rw [if_neg (fun h=>hb h.1)]
  exact Vk _ fun a ha h=>hb h.1
theorem mM (q:Iu) (i:Nat):∀ j,j≤q.tgt.Ap.length→PO q i j<2 ^ q.tgt.Ap.length
 |0,_=>ZR q i
 |j+1,hj=>by
  have ih:=mM q i j (by omega)
  unfold PO
  split
  ·exact Nat.or_lt_two_pow ih (Nat.pow_lt_pow_right (by decide) (by omega))
  ·exact ih
theorem ug (t s:Nat):t &&& 2 ^ s=if t.testBit s then 2 ^ s else 0:=by
 apply Nat.eq_of_testBit_eq
 intro i
 rw [Nat.testBit_and,Nat.testBit_two_pow]
 by_cases h:s=i
 ·subst h
  cases t.testBit s<;>simp
 ·rw [decide_eq_false h,Bool.and_false]
  split
  ·rw [Nat.testBit_two_pow,decide_eq_false h]
  ·simp
theorem wE {q:Iu} (hk:Gi q.tgt) {l:List Int} {k a:Nat} (hkl:k<l.length) (hb:∀ j,j<k→gi l j<(Bo q.tgt).length) (ha:gi l k=(a:Int)) (hm:a<(Bo q.tgt).length) :
 gi l k∈l.take k↔(gi (Fv (Bo q.tgt) l q.tgt.Ap.length k) (gi (Bo q.tgt) a).d).testBit (gi (Bo q.tgt) a).s=true:=by
 have hp:=Kt (o:=q.tgt) (i:=a) hm
 rw [dP hp.1 k,dQ (by omega)]
 constructor
 ·rintro ⟨j,h1,h2⟩
  exact ⟨j,h1,by omega,by rw [h2,ha,Int.toNat_natCast]⟩
 ·rintro ⟨j,h1,h2,h3⟩
  have h4:=hb j h1
  have h5:=xO (jq q.tgt) (i:=(gi l j).toNat) (j:=a) (by omega) hm h3
  exact ⟨j,h1,by omega⟩
end Go.Proofs.YtdabojnmoejilaaGreatDoor
namespace Go.Proofs.YtdabojnmoejilaaGreatDoor
open Go Go.Am Go.Vm Go.Tra Go.Hun
attribute [local irreducible] Aa Af Ar Ad BA AY CG AO AL Aw Vm.Done CW Bl
theorem Oi (x:sD) (hx:x.Ok) (l:List Int) (hl9:l.length<9223372036854775808):AY env 10 [.agg x.enc,.lst 3 (cells l) l.length] (.p (.bool true)):=by
 have hkn:=jr
 have hfs:=kY x hx
 refine AY.enter (AB (by decide)) Tryz.func10 rfl (by kernel_rfl) (by simp [Tryz.ntmps10]) ?_
 by_cases hf:Uj x
 case neg =>
  rw [decide_eq_false hf] at hfs
  repeat' (first|apply Ad.assoc|apply Ad.AA|apply Ad.BL|apply Af.nil|apply Af.one|(apply Af.take;rfl;rfl)|(apply Af.drop;rfl;rfl;rfl)|(apply Aa.fn;rfl;rfl;exact hkn;intro _;rfl)|(apply Aa.fn;rfl;rfl;exact hfs;intro _;rfl)|(apply Aa.assign;rfl)|(apply Aa.move;rfl)|(apply Aa.load;rfl;rfl)|(apply Aa.Bz;rfl;rfl)|(apply Aa.AU;rfl;rfl)|(apply Aa.box;rfl;trivial)|(apply Aa.not;rfl)|(apply Ad.Bh;rfl))
  all_goals first|(exfalso;omega)|contradiction|((refine Done.ret rfl (.refl _) (by exact PV.Ac rfl) Ah.nil (Nat.zero_le _) (Nat.le_refl _) ⟨?_,rfl,rfl⟩;try rfl);try simp)
 rw [decide_eq_true hf] at hfs
 have hm:=lZ x hx hf
 have hq:=a4u x hx hf
 generalize mkQ x=q at *
 have hc:=V7 hq
 have hlc:=Wu q hq.k1 hq.k2 hq.rg
 have hls:=UF q.tgt hq.k2
 have d1:=hq.k1.Ap
 have d2:=hq.k2.Ap
 have c1:=hq.k1.BF
 have c2:=hq.k2.BF
 have o1:=hq.rg.off
 have hct:=JM q q.BG.BF.length
 rw [show FB q q.BG.BF.length=DN q from rfl] at hct
 have hld:=eX q.BG hq.k1 q.reg hq.rg hq.len
 have hdl:(BJ q.BG q.reg).length≤60:=(Hw hq.err).2.2.2.2.1
 have hpm:(Bo q.tgt).length≤120:=(Hw hq.err).2.2.2.2.2
 have hpl:∀ i,i<(Bo q.tgt).length→Ic q.tgt (gi (Bo q.tgt) i):=fun i hi=>Kt hi
 have hst:=hq.k2.stops
 repeat' (first|apply Ad.assoc|apply Ad.AA|apply Ad.Au|apply Ad.BL|apply Ad.Ai|apply Af.nil|apply Af.one|(apply Af.take;rfl;rfl)|(apply Aa.fn;rfl;rfl;exact hkn;intro _;rfl)|(apply Aa.fn;rfl;rfl;exact hfs;intro _;rfl)|(apply Aa.fn;rfl;rfl;exact hm;intro _;rfl)|(apply Aa.fn;rfl;rfl;exact hc;intro _;rfl)|(apply Aa.fn;rfl;rfl;exact hlc;intro _;rfl)|(apply Aa.fn;rfl;rfl;exact hls;intro _;rfl)|(apply Aa.DX q.tgt.Ap.length (0:Nat);rfl;rfl;rfl;rfl;rfl;rfl;rfl;omega;decide;decide;rfl)|(apply Aa.assign;rfl)|(apply Aa.move;rfl)|(apply Aa.int;rfl;rfl;rfl)|(apply Aa.load;rfl;rfl)|(apply Aa.AU;rfl;rfl)|(apply Aa.BH;rfl;rfl)|(apply Aa.AQ;rfl;rfl;rfl)|(apply Aa.box;rfl;trivial)|(apply Aa.alloc;rfl)|(apply Aa.Bj;rfl;rfl;rfl;trivial;rfl;rfl;exact Aj rfl;exact le_dec rfl)|(apply Aa.build;rfl;rfl;rfl;rfl;rfl)|(apply Aa.not;rfl)|(apply Aa.extract;rfl;rfl)|(apply Ad.Ae;rfl)|(intro _;try (exfalso;omega)))
 all_goals try (exfalso;omega)
 all_goals try contradiction
 all_goals try ((refine Done.ret rfl (.refl _) (by exact PV.Ac rfl) Ah.nil (Nat.zero_le _) (Nat.le_refl _) ⟨?_,rfl,rfl⟩;try rfl);done)
 rename_i b2u
 apply Ad.Ed ((DN q).length) [(1,_),(5,_),(6,_),(8,_),(9,_),(10,_)] [(0,_),(1,_),(2,_)] (fun k r=>(11,.p (.int .i64 (k:Int)))::r) (fun k r=>(3,.box 41 [.vec 2 q.tgt.Ap.length 0 q.tgt.Ap.length,.p (.int .u64 (Ey (DN q) k:Nat)),.p (.int .u64 0)])::r) 4
 ·first|omega|decide
 ·first|omega|decide
 ·repeat (first|exact Ak.nil|(refine Ak.eq rfl ?_ ?_;(first|exact PV.Ac rfl|(simp [PV.under,AP.under];done)))|refine Ak.cons trivial rfl (.of_eq (Aq (by simp<;>omega))) ?_)
 ·repeat (first|exact Ah.nil|(refine Ah.eq rfl (Aj rfl) ?_ ?_;(first|exact HB.Ac rfl|exact AP.Ag _ _|(simp [HB.under,AP.under,PV.under];done)))|(refine Ah.cons (Aj rfl) ?_ rfl ?_ ?_;(first|exact trivial|exact AP.Ag _ _|(simp [HB.under,AP.under,PV.under]));(first|exact Bg.refl _|exact Bg.vec (Bf.refl _) (by simp))))
 ·intro k hk
  obtain ⟨g1,g2⟩:=QL q q.BG.BF.length k hk
  rw [show FB q q.BG.BF.length=DN q from rfl] at g1 g2
  have ht:=VT q c2 k (by omega)
  have U7:=Jv (a:=(gi (DN q) k).toNat) (by omega)
  by_cases h0:gi (DN q) k<0
  all_goals have e1:Ey (DN q) (k+1)=if gi (DN q) k<0 then Ey (DN q) k else Ey (DN q) k ||| 2 ^ (gi (DN q) k).toNat:=rfl
  all_goals first|rw [if_pos h0] at e1|rw [if_neg h0] at e1
  all_goals try have ha:gi (DN q) k=((gi (DN q) k).toNat:Int):=by omega
  all_goals
   repeat' (first|apply Ad.assoc|apply Ad.AA|apply Ad.BI|apply Ad.region|apply Ad.Et|apply Ad.Au|apply Ad.Ai|apply AO.normal|apply AL.normal|apply Ad.skip|apply Af.nil|apply Ar.nil|apply Af.one|(apply Ar.bar;decide +kernel)|apply Ar.quiet|(apply Aa.load (r:=.p (.int .i64 ((gi (DN q) k).toNat:Int)));rfl;exact (congrArg (fun b=>some (PV.p (FV.int .i64 b))) ha))|(apply Aa.orU;rfl;rfl;exact ht;exact U7)|(apply Aa.assign;rfl)|(apply Aa.move;rfl)|(apply Aa.Bq;rfl;rfl;omega)|(apply Aa.int;rfl;rfl;rfl)|(apply Aa.AV;rfl;rfl;rfl;omega;rfl)|(apply Aa.load;rfl;rfl)|(apply Aa.BH;rfl;rfl)|(apply Aa.AQ;rfl;rfl;rfl)|(apply Aa.Bj;rfl;rfl;rfl;trivial;rfl;rfl;exact Aj rfl;exact le_dec rfl)|(apply Aa.LK;rfl;rfl;rfl;rfl;omega)|(apply Aa.KC;rfl;rfl;omega)|(apply Ad.Ae;rfl)|(apply Ad.cond_true;rfl)|(apply Ad.AZ;rfl)|(intro _;try (exfalso;omega)))
  all_goals try (exfalso;omega)
  all_goals
   refine Aw.normal ⟨by first|omega|decide,?_,?_⟩
   ·try (rw [e1])
    repeat (first|exact Ak.nil|refine Ak.same (by exact PV.Ac rfl) rfl ?_|refine Ak.cons trivial rfl (.of_eq (Aq (by simp<;>omega))) ?_)
   ·rw [e1]
    repeat (first|exact Ah.nil|(refine Ah.cons (Aj rfl) ?_ rfl ?_ ?_;(first|exact HB.Ac rfl|exact AP.Ag _ _|(simp [HB.under,AP.under,PV.under]));(first|exact Bg.refl _|exact Bg.vec (Bf.refl _) (by simp))))
 ·repeat' (first|apply Ad.assoc|apply Ad.AA|apply Ad.AX|apply Ad.Ai|apply AO.normal|apply AL.exit|apply Aw.exit|apply Af.nil|apply Af.one|(apply Aa.assign;rfl)|(apply Aa.move;rfl)|(apply Aa.int;rfl;rfl;rfl)|(apply Aa.BH;rfl;rfl)|(apply Ad.Ae;rfl)|(intro _;try (exfalso;omega)))
  all_goals try (exfalso;omega)
  apply Ad.Ed (q.BG.Ap.length) [(1,_),(5,_),(9,_),(10,_)] [(0,_),(1,_),(2,_)] (fun k r=>(12,.p (.int .i64 (k:Int)))::r) (fun k r=>(3,.box 41 [.vec 2 q.tgt.Ap.length 0 q.tgt.Ap.length,.p (.int .u64 (Ey (DN q) (DN q).length:Nat)),.p (.int .u64 (KR q k:Nat))])::r) 4
  ·first|omega|decide
  ·first|omega|decide
  ·repeat (first|exact Ak.nil|(refine Ak.eq rfl ?_ ?_;(first|exact PV.Ac rfl|(simp [PV.under,AP.under];done)))|refine Ak.cons trivial rfl (.of_eq (Aq (by simp<;>omega))) ?_)
  ·repeat (first|exact Ah.nil|(refine Ah.eq rfl (Aj rfl) ?_ ?_;(first|exact HB.Ac rfl|exact AP.Ag _ _|(simp [HB.under,AP.under,PV.under];done)))|(refine Ah.cons (Aj rfl) ?_ rfl ?_ ?_;(first|exact trivial|exact AP.Ag _ _|(simp [HB.under,AP.under,PV.under]));(first|exact Bg.refl _|exact Bg.vec (Bf.refl _) (by simp))))
  ·intro k hk
   have hq6:q.reg.off / 2 ^ k<18446744073709551616:=Nat.lt_of_le_of_lt (Nat.div_le_self _ _) o1
   have hm2:=Nat.mod_lt (q.reg.off / 2 ^ k) (show 0<2 by decide)
   have hend:=wK hq.k2 k
   repeat' (first|apply Ad.assoc|apply Ad.AA|apply Ad.Au|apply Ad.Ai|apply Ad.Ih|apply Af.nil|apply Af.one|(apply Aa.assign;rfl)|(apply Aa.move;rfl)|(apply Aa.int;rfl;rfl;rfl)|(apply Aa.load;rfl;rfl)|(apply Aa.BH;rfl;rfl)|(apply Aa.AQ;rfl;rfl;rfl)|(apply Ad.Ae;rfl)|(intro _;try (exfalso;omega)))
   all_goals try (exfalso;omega)
   apply Ad.Ed (q.tgt.Ap.length) [(1,_),(5,_),(9,_),(10,_),(12,_)] [(0,_),(1,_),(2,_)] (fun k_ r=>(13,.p (.int .i64 (k_:Int)))::r) (fun k_ r=>(3,.box 41 [.vec 2 q.tgt.Ap.length 0 q.tgt.Ap.length,.p (.int .u64 (Ey (DN q) (DN q).length:Nat)),.p (.int .u64 (PO q k k_:Nat))])::r) 4
   ·first|omega|decide
   ·first|omega|decide
   ·repeat (first|exact Ak.nil|(refine Ak.eq rfl ?_ ?_;(first|exact PV.Ac rfl|(simp [PV.under,AP.under];done)))|refine Ak.cons trivial rfl (.of_eq (Aq (by simp<;>omega))) ?_)
   ·repeat (first|exact Ah.nil|(refine Ah.eq rfl (Aj rfl) ?_ ?_;(first|exact HB.Ac rfl|exact AP.Ag _ _|(simp [HB.under,AP.under,PV.under];done)))|(refine Ah.cons (Aj rfl) ?_ rfl ?_ ?_;(first|exact trivial|exact AP.Ag _ _|(simp [HB.under,AP.under,PV.under]));(first|exact Bg.refl _|exact Bg.vec (Bf.refl _) (by simp))))
   ·intro j hj
    obtain ⟨b3,d3⟩:∃ b,decide ((gi q.tgt.Ap j).name=(gi q.BG.Ap k).name)=b:=⟨_,rfl⟩
    have ht:PO q k j<18446744073709551616:=Nat.lt_of_lt_of_le (mM q k j (by omega)) (Nat.le_trans (Nat.pow_le_pow_right (by decide) d2.2) (by decide))
    have U7:=Jv (a:=j) (by omega)
    have e1:PO q k (j+1)=if q.reg.off / 2 ^ k % 2=1∧b3=true then PO q k j ||| 2 ^ j else PO q k j:=by
     rw [PO,← d3]
     by_cases h8:q.reg.off / 2 ^ k % 2=1∧(gi q.tgt.Ap j).name=(gi q.BG.Ap k).name
     ·rw [if_pos h8,if_pos (And.intro h8.1 (decide_eq_true h8.2))]
     ·rw [if_neg h8,if_neg (fun h=>h8 (And.intro h.1 (of_decide_eq_true h.2)))]
    cases b3
    all_goals by_cases hbb:q.reg.off / 2 ^ k % 2=1
    all_goals simp only [hbb,Bool.false_eq_true,and_false,and_true,true_and,false_and,if_true,if_false] at e1
    all_goals
     repeat' (first|apply Ad.assoc|apply Ad.AA|apply Ad.BI|apply Ad.region|apply Ad.Au|apply Ad.Ai|apply AO.normal|apply AL.normal|apply Ad.skip|apply Af.nil|apply Ar.nil|apply Af.one|(apply Ar.bar;decide +kernel)|apply Ar.quiet|(apply Ar.Lr;rfl;rfl)|(apply Ar.drop;rfl;rfl;rfl)|(apply Ar.guard;rfl;rfl)|(apply Aa.dM;rfl;rfl;exact d3)|(apply Aa.orU;rfl;rfl;exact ht;exact U7)|(apply Aa.assign;rfl)|(apply Aa.move;rfl)|(apply Aa.Bq;rfl;rfl;omega)|(apply Aa.Q9;rfl;rfl;omega)|(apply Aa.int;rfl;rfl;rfl)|(apply Aa.AV;rfl;rfl;rfl;omega;rfl)|(apply Aa.load;rfl;rfl)|(apply Aa.Bz;rfl;rfl)|(apply Aa.AU;rfl;rfl)|(apply Aa.BH;rfl;rfl)|(apply Aa.AQ;rfl;rfl;rfl)|(apply Aa.DW;rfl;rfl)|(apply Aa.Bj;rfl;rfl;rfl;trivial;rfl;rfl;exact Aj rfl;exact le_dec rfl)|(apply Aa.LK;rfl;rfl;rfl;rfl;omega)|(apply Aa.KC;rfl;rfl;omega)|(apply Aa.NU;rfl;rfl;(simp only [IntKind.bits];omega))|(apply Ad.Ae;rfl)|(apply Ad.cond_true;rfl)|(apply Ad.cond_false;rfl)|(intro _;try (exfalso;omega)))
    all_goals try (exfalso;omega)
    all_goals
     refine Aw.normal ⟨by first|omega|decide,?_,?_⟩
     ·try (try rw [e1])
      repeat (first|exact Ak.nil|refine Ak.same (by exact PV.Ac rfl) rfl ?_|refine Ak.cons trivial rfl (.of_eq (Aq (by simp<;>omega))) ?_)
     ·try rw [e1]
      repeat (first|exact Ah.nil|(refine Ah.cons (Aj rfl) ?_ rfl ?_ ?_;(first|exact HB.Ac rfl|exact AP.Ag _ _|(simp [HB.under,AP.under,PV.under]));(first|exact Bg.refl _|exact Bg.vec (Bf.refl _) (by simp))))
   ·repeat' (first|apply Ad.assoc|apply Ad.AA|apply Ad.region|apply Ad.AX|apply AO.normal|apply AL.normal|apply AL.exit|apply Aw.exit|apply Af.nil|apply Af.one|(apply Aa.assign;rfl)|(apply Aa.move;rfl)|(apply Aa.Bq;rfl;rfl;omega)|(apply Aa.int;rfl;rfl;rfl)|(apply Aa.load;rfl;rfl)|(apply Aa.BH;rfl;rfl)|(apply Aa.AQ;rfl;rfl;rfl)|(apply Ad.Ae;rfl)|(intro _;try (exfalso;omega)))
    all_goals try (exfalso;omega)
    refine Aw.normal ⟨by first|omega|decide,?_,?_⟩
    ·try (try rw [← hend])
     repeat (first|exact Ak.nil|refine Ak.same (by exact PV.Ac rfl) rfl ?_|refine Ak.cons trivial rfl (.of_eq (Aq (by simp<;>omega))) ?_)
    ·try rw [← hend]
     repeat (first|exact Ah.nil|(refine Ah.cons (Aj rfl) ?_ rfl ?_ ?_;(first|exact HB.Ac rfl|exact AP.Ag _ _|(simp [HB.under,AP.under,PV.under]));(first|exact Bg.refl _|exact Bg.vec (Bf.refl _) (by simp))))
  ·by_cases hlen:l.length=(BJ q.BG q.reg).length
   case neg =>
    have hce:P8 q l=5:=by unfold P8;rw [if_pos hlen]
    have hca:=dG hq l (by omega) (by rw [hce];decide) 0 (.val (.slice none 0 0)) (.val (.slice none 0 0))
    rw [hce] at hca
    generalize BJ q.BG q.reg=dr at *
    repeat' (first|apply Ad.assoc|apply Ad.AA|apply Ad.AX|apply Ad.Ai|apply AO.normal|apply AL.exit|apply Aw.exit|apply Af.nil|apply Af.one|(apply Aa.fn;rfl;rfl;exact hld;intro _;rfl)|(apply Aa.assign;rfl)|(apply Aa.move;rfl)|(apply Aa.int;rfl;rfl;rfl)|(apply Aa.load;rfl;rfl)|(apply Aa.BH;rfl;rfl)|(apply Aa.AQ;rfl;rfl;rfl)|(apply Ad.Ae;rfl)|(intro _;try (exfalso;omega)))
    all_goals try (exfalso;omega)
    apply Ad.Ed (0) [(1,_),(5,_),(9,_),(10,_),(14,_)] [(1,_),(2,_),(3,_)] (fun k r=>(15,.p (.int .i64 (k:Int)))::r) (fun k r=>r) 4
    ·first|omega|decide
    ·first|omega|decide
    ·repeat (first|exact Ak.nil|(refine Ak.eq rfl ?_ ?_;(first|exact PV.Ac rfl|(simp [PV.under,AP.under];done)))|refine Ak.cons trivial rfl (.of_eq (Aq (by simp<;>omega))) ?_)
    ·repeat (first|exact Ah.nil|(refine Ah.eq rfl (Aj rfl) ?_ ?_;(first|exact HB.Ac rfl|exact AP.Ag _ _|(simp [HB.under,AP.under,PV.under];done)))|(refine Ah.cons (Aj rfl) ?_ rfl ?_ ?_;(first|exact trivial|exact AP.Ag _ _|(simp [HB.under,AP.under,PV.under]));(first|exact Bg.refl _|exact Bg.vec (Bf.refl _) (by simp))))
    ·intro k hk
     omega
    ·repeat' (first|apply Ad.assoc|apply Ad.AA|apply Ad.BL|apply Ad.AX|apply AO.normal|apply AL.exit|apply Aw.exit|apply Af.nil|apply Af.one|(apply Af.take;rfl;rfl)|(apply Af.drop;rfl;rfl;rfl)|(apply Af.guard;rfl;rfl)|(apply Aa.fn;rfl;rfl;exact hca;intro _;rfl)|(apply Aa.assign;rfl)|(apply Aa.move;rfl)|(apply Aa.int;rfl;rfl;rfl)|(apply Aa.load;rfl;rfl)|(apply Aa.Bz;rfl;rfl)|(apply Aa.AU;rfl;rfl)|(apply Aa.BH;rfl;rfl)|(apply Aa.vG;rfl;rfl)|(apply Aa.AQ;rfl;rfl;rfl)|(apply Aa.alloc;rfl)|(apply Aa.Bj;rfl;rfl;rfl;trivial;rfl;rfl;exact Aj rfl;exact le_dec rfl)|(apply Aa.build;rfl;rfl;rfl;rfl;rfl)|(apply Aa.extract;rfl;rfl)|(apply Ad.Bh;rfl)|(apply Ad.Az;rfl)|(intro _;try (exfalso;omega)))
     all_goals first|(exfalso;omega)|contradiction|((refine Done.ret rfl (.refl _) (by exact PV.Ac rfl) Ah.nil (Nat.zero_le _) (Nat.le_refl _) ⟨?_,rfl,rfl⟩;try rfl);done)|(refine Done.ret rfl (.refl _) (by exact PV.Ac rfl) Ah.nil (Nat.zero_le _) (Nat.le_refl _) ⟨?_,rfl,rfl⟩;refine PV.Jk ?_;simp;done)
   have hca:=Ur hq l (by omega) 0 (.val (.slice none 0 0)) (.val (.slice none 0 0))
   have hE:P8 q l=Og l (Bo q.tgt).length l.length l.length:=by unfold P8;rw [if_neg (fun h=>h hlen)]
   obtain ⟨E,hEE⟩:∃ E,E=P8 q l:=⟨_,rfl⟩
   unfold kC at hca
   rw [← hEE] at hca hE
   have eE:Enc.enc (a4b q l)=[.lst 39 (cells (Fv (Bo q.tgt) l q.tgt.Ap.length l.length)) (Fv (Bo q.tgt) l q.tgt.Ap.length l.length).length,.int .u64 (Ey (DN q) (DN q).length:Nat),.int .u64 (KR q q.BG.Ap.length:Nat)]:=rfl
   rw [eE] at hca
   clear eE hEE
   generalize BJ q.BG q.reg=dr at *
   repeat' (first|apply Ad.assoc|apply Ad.AA|apply Ad.Au|apply Ad.AX|apply Ad.Ai|apply AO.normal|apply AL.exit|apply Aw.exit|apply Af.nil|apply Af.one|(apply Aa.fn;rfl;rfl;exact hld;intro _;rfl)|(apply Aa.assign;rfl)|(apply Aa.move;rfl)|(apply Aa.int;rfl;rfl;rfl)|(apply Aa.load;rfl;rfl)|(apply Aa.BH;rfl;rfl)|(apply Aa.AQ;rfl;rfl;rfl)|(apply Ad.Ae;rfl)|(intro _;try (exfalso;omega)))
   all_goals try (exfalso;omega)
   refine Ad.D8 (fun s:List Nat×Nat×Int=>[(1,.p (.lst 3 (cells l) l.length)),(5,.ref 1 0),(9,.p (.lst 85 (cells (Bo q.tgt)) (Bo q.tgt).length)),(10,.ref 3 0),(14,.p (.int .i64 s.2.2)),(15,.p (.int .i64 (s.2.1:Int)))])
    (fun s=>[(1,.box 45 ((Enc.enc q).map .p)),(2,.vec 39 (cells s.1) q.tgt.Ap.length false),(3,.box 41 [.vec 2 q.tgt.Ap.length 0 q.tgt.Ap.length,.p (.int .u64 (Ey (DN q) (DN q).length:Nat)),.p (.int .u64 (KR q q.BG.Ap.length:Nat))])]) 4
    (fun s=>s.1.length=q.tgt.Ap.length∧s.2.1≤l.length∧((s.2.2=0∧s.1=Fv (Bo q.tgt) l q.tgt.Ap.length s.2.1∧Og l (Bo q.tgt).length l.length (l.length-s.2.1)=E∧∀ j,j<s.2.1→gi l j<(Bo q.tgt).length)∨(s.2.2=E∧E≠0))) (fun s=>l.length-s.2.1) (Fv (Bo q.tgt) l q.tgt.Ap.length 0,0,0) (by decide) ⟨GH _ _ _ _,Nat.zero_le _,.inl ⟨rfl,rfl,hE.symm,fun j hj=>absurd hj (Nat.not_lt_zero _)⟩⟩ ⟨by decide,?_,?_⟩ ?_
   ·repeat (first|exact Ak.nil|refine Ak.same (by exact PV.Ac rfl) rfl ?_|refine Ak.cons trivial rfl (.of_eq (Aq (by simp<;>omega))) ?_)
   ·repeat (first|exact Ah.nil|(refine Ah.cons (Aj rfl) ?_ rfl ?_ ?_;(first|exact HB.Ac rfl|exact AP.Ag _ _|(simp [HB.under,AP.under,PV.under]));(first|exact Bg.refl _|exact Bg.vec (Bf.refl _) (by simp))))
   rintro ⟨zs,k,w⟩ ⟨hz,hk,h⟩
   simp only at hz hk h ⊢
   rcases h with ⟨rfl,hzs,hi,hb⟩|⟨rfl,he⟩
   case inr =>
    rw [if_neg he] at hca
    repeat' (first|apply Ad.assoc|apply Ad.AA|apply Ad.BL|apply Ad.AX|apply AO.normal|apply AL.exit|apply Aw.exit|apply Af.nil|apply Af.one|(apply Af.take;rfl;rfl)|(apply Af.drop;rfl;rfl;rfl)|(apply Af.guard;rfl;rfl)|(apply Aa.fn;rfl;rfl;exact hca;intro _;rfl)|(apply Aa.assign;rfl)|(apply Aa.move;rfl)|(apply Aa.int;rfl;rfl;rfl)|(apply Aa.load;rfl;rfl)|(apply Aa.Bz;rfl;rfl)|(apply Aa.AU;rfl;rfl)|(apply Aa.BH;rfl;rfl)|(apply Aa.vG;rfl;rfl)|(apply Aa.AQ;rfl;rfl;rfl)|(apply Aa.alloc;rfl)|(apply Aa.Bj;rfl;rfl;rfl;trivial;rfl;rfl;exact Aj rfl;exact le_dec rfl)|(apply Aa.build;rfl;rfl;rfl;rfl;rfl)|(apply Aa.extract;rfl;rfl)|(apply Ad.Az;rfl)|(apply Ad.Ae;rfl)|(intro _;try (exfalso;omega)))
    all_goals try (exfalso;omega)
    all_goals try contradiction
    all_goals first|((refine Done.ret rfl (.refl _) (by exact PV.Ac rfl) Ah.nil (Nat.zero_le _) (Nat.le_refl _) ⟨?_,rfl,rfl⟩;try rfl);done)|(refine Done.ret rfl (.refl _) (by exact PV.Ac rfl) Ah.nil (Nat.zero_le _) (Nat.le_refl _) ⟨?_,rfl,rfl⟩;refine PV.Jk ?_;simp;done)
   subst hzs
   rcases Nat.eq_or_lt_of_le hk with hk9|hk9
   ·subst hk9
    rw [Nat.sub_self] at hi
    have hi9:E=0:=hi.symm
    rw [if_pos hi9] at hca
    have hcs:=GH (Bo q.tgt) l q.tgt.Ap.length l.length
    repeat' (first|apply Ad.assoc|apply Ad.AA|apply Ad.Au|apply Ad.AX|apply Ad.Ai|apply AO.normal|apply AL.exit|apply Aw.exit|apply Af.nil|apply Af.one|(apply Af.take;rfl;rfl)|(apply Af.drop;rfl;rfl;rfl)|(apply Af.guard;rfl;rfl)|(apply Aa.fn;rfl;rfl;exact hca;intro _;rfl)|(apply Aa.assign;rfl)|(apply Aa.move;rfl)|(apply Aa.int;rfl;rfl;rfl)|(apply Aa.load;rfl;rfl)|(apply Aa.AU;rfl;rfl)|(apply Aa.BH;rfl;rfl)|(apply Aa.lenV;rfl;rfl;rfl)|(apply Aa.AQ;rfl;rfl;rfl)|(apply Aa.alloc;rfl)|(apply Aa.Bj;rfl;rfl;rfl;trivial;rfl;rfl;exact Aj rfl;exact le_dec rfl)|(apply Aa.build;rfl;rfl;rfl;rfl;rfl)|(apply Aa.extract;rfl;rfl)|(apply Ad.Az;rfl)|(apply Ad.Ae;rfl)|(intro _;try (exfalso;omega)))
    all_goals try (exfalso;omega)
    apply Ad.Ed (q.tgt.Ap.length) [(10,_),(17,_)] [(2,_),(3,_),(4,_)] (fun k_ r=>(19,.p (.int .i64 (k_:Int)))::r) (fun k_ r=>r) 5
    ·first|omega|decide
    ·first|omega|decide
    ·repeat (first|exact Ak.nil|(refine Ak.eq rfl ?_ ?_;(first|exact PV.Ac rfl|(simp [PV.under,AP.under];done)))|refine Ak.cons trivial rfl (.of_eq (Aq (by simp<;>omega))) ?_)
    ·repeat (first|exact Ah.nil|(refine Ah.eq rfl (Aj rfl) ?_ ?_;(first|exact HB.Ac rfl|exact AP.Ag _ _|(simp [HB.under,AP.under,PV.under];done)))|(refine Ah.cons (Aj rfl) ?_ rfl ?_ ?_;(first|exact trivial|exact AP.Ag _ _|(simp [HB.under,AP.under,PV.under]));(first|exact Bg.refl _|exact Bg.vec (Bf.refl _) (by simp))))
    ·intro k hk
     repeat' (first|apply Ad.assoc|apply Ad.AA|apply Ad.BI|apply Ad.region|apply Ad.Au|apply Ad.Ai|apply AO.normal|apply AL.normal|apply Ad.skip|apply Af.nil|apply Ar.nil|apply Af.one|(apply Ar.bar;decide +kernel)|apply Ar.quiet|(apply Aa.assign;rfl)|(apply Aa.move;rfl)|(apply Aa.Bq;rfl;rfl;omega)|(apply Aa.int;rfl;rfl;rfl)|(apply Aa.AV;rfl;rfl;rfl;omega;rfl)|(apply Aa.Dk;rfl;rfl;omega;rfl)|(apply Aa.load;rfl;rfl)|(apply Aa.lenV;rfl;rfl;rfl)|(apply Aa.AQ;rfl;rfl;rfl)|(apply Aa.Df;rfl;rfl;rfl;rfl;omega)|(apply Ad.Ae;rfl)|(apply Ad.AZ;rfl)|(intro _;try (exfalso;omega)))
     all_goals try (exfalso;omega)
     refine Aw.normal ⟨by first|omega|decide,?_,?_⟩
     ·repeat (first|exact Ak.nil|refine Ak.same (by exact PV.Ac rfl) rfl ?_|refine Ak.cons trivial rfl (.of_eq (Aq (by simp<;>omega))) ?_)
     ·repeat (first|exact Ah.nil|(refine Ah.cons (Aj rfl) ?_ rfl ?_ ?_;(first|exact HB.Ac rfl|exact AP.Ag _ _|(simp [HB.under,AP.under,PV.under]));(first|exact Bg.refl _|exact Bg.vec (Bf.refl _) (by simp))))
    ·repeat' (first|apply Ad.assoc|apply Ad.AA|apply Ad.AX|apply AO.normal|apply AL.exit|apply Aw.exit|apply Ad.ret|apply Af.nil|apply Af.one|(apply Aa.assign;rfl)|(apply Aa.move;rfl)|(apply Aa.int;rfl;rfl;rfl)|(apply Aa.load;rfl;rfl)|(apply Aa.lenV;rfl;rfl;rfl)|(apply Aa.AQ;rfl;rfl;rfl)|(apply Ad.Ae;rfl)|(intro _;try (exfalso;omega)))
     all_goals first|(exfalso;omega)|contradiction|((refine Done.ret rfl (.refl _) (by exact PV.Ac rfl) Ah.nil (Nat.zero_le _) (Nat.le_refl _) ⟨?_,rfl,rfl⟩;try rfl);done)
   have hcs:=GH (Bo q.tgt) l q.tgt.Ap.length k
   have h64:=mW hq.k2 hb
   have hdk:∀ a:Nat,gi l k=(a:Int)→a<(Bo q.tgt).length→_:=fun a ha hm=>wE hq.k2 hk9 hb ha hm
   rcases fF hq.k2 hk9 hb with ⟨hr,e⟩|⟨hr,e⟩|⟨a,ha,ham,hmm,e⟩|⟨hr,e,e1⟩|⟨a,ha,ham,hmm,e,e1⟩
   all_goals rw [e] at hi
   all_goals try (have hg:=hpl a ham;have g3:=hst _ hg.1;have g4:=hg.1;have g5:=hg.2;have U7:=Jv (a:=(gi (Bo q.tgt) a).s) (by omega);have hdup:=hdk a ha ham;have hv:=QV (k:=.u64) (.inr (And.intro rfl (h64 (gi (Bo q.tgt) a).d))) U7;rw [ug] at hv;have hp0:0<2 ^ (gi (Bo q.tgt) a).s:=Nat.pow_pos (by decide))
   all_goals try rw [if_pos (hdup.1 hmm)] at hv
   all_goals try (have hnm:=mt hdup.2 hmm;rw [if_neg hnm] at hv)
   all_goals
    repeat' (first|apply Ad.assoc|apply Ad.AA|apply Ad.BI|apply Ad.region|apply Ad.Et|apply Ad.Au|apply Ad.AX|apply Ad.Ai|apply AO.normal|apply AL.normal|apply AL.exit|apply Af.nil|apply Ar.nil|apply Af.one|(apply Ar.bar;decide +kernel)|apply Ar.quiet|(apply Af.take;rfl;rfl)|(apply Af.drop;rfl;rfl;rfl)|(apply Af.guard;rfl;rfl)|(apply Aa.load (r:=.p (.int .i64 (a:Int)));rfl;exact (congrArg (fun b=>some (PV.p (FV.int .i64 b))) ha))|(apply Aa.int;rfl;rfl;exact hv)|(apply Aa.orU;rfl;rfl;exact h64 _;exact U7)|(apply Aa.D6 (y:=gi (Fv (Bo q.tgt) l q.tgt.Ap.length k) (gi (Bo q.tgt) a).d ||| 2 ^ (gi (Bo q.tgt) a).s);rfl;rfl;rfl;trivial;(first|rfl|(refine congrArg (fun t=>[PV.p (FV.int _ t)]) ?_;first|omega|(simp only [Int.natCast_add,Int.natCast_mul,Int.natCast_ediv,Int.natCast_emod]<;>omega)));rfl;rfl;decide;(first|omega|(simp only [List.length_set]<;>omega)))|(apply Aa.assign;rfl)|(apply Aa.move;rfl)|(apply Aa.Bq;rfl;rfl;omega)|(apply Aa.int;rfl;rfl;rfl)|(apply Aa.AV;rfl;rfl;rfl;omega;rfl)|(apply Aa.Dk;rfl;rfl;omega;rfl)|(apply Aa.load;rfl;rfl)|(apply Aa.Bz;rfl;rfl)|(apply Aa.AU;rfl;rfl)|(apply Aa.BH;rfl;rfl)|(apply Aa.AQ;rfl;rfl;rfl)|(apply Aa.DW;rfl;rfl)|(apply Aa.Df;rfl;rfl;rfl;rfl;omega)|(apply Aa.LK;rfl;rfl;rfl;rfl;omega)|(apply Aa.KC;rfl;rfl;omega)|(apply Ad.Bh;rfl)|(apply Ad.Az;rfl)|(apply Ad.Ae;rfl)|(intro _;try (exfalso;omega)))
   all_goals try (exfalso;omega)
   all_goals try contradiction
   ·refine Aw.normal ⟨(Fv (Bo q.tgt) l q.tgt.Ap.length k,k+1,3),⟨hz,(show k+1≤l.length by omega),.inr ⟨hi,by omega⟩⟩,by simp only;omega,⟨by omega,?_,?_⟩⟩
    ·repeat (first|exact Ak.nil|refine Ak.same (by exact PV.Ac rfl) rfl ?_|refine Ak.cons trivial rfl (.of_eq (Aq (by simp<;>omega))) ?_)
    ·repeat (first|exact Ah.nil|(refine Ah.cons (Aj rfl) ?_ rfl ?_ ?_;(first|exact HB.Ac rfl|exact AP.Ag _ _|(simp [HB.under,AP.under,PV.under]));(first|exact Bg.refl _|exact Bg.vec (Bf.refl _) (by simp))))
   ·refine Aw.normal ⟨(Fv (Bo q.tgt) l q.tgt.Ap.length k,k+1,3),⟨hz,(show k+1≤l.length by omega),.inr ⟨hi,by omega⟩⟩,by simp only;omega,⟨by omega,?_,?_⟩⟩
    ·repeat (first|exact Ak.nil|refine Ak.same (by exact PV.Ac rfl) rfl ?_|refine Ak.cons trivial rfl (.of_eq (Aq (by simp<;>omega))) ?_)
    ·repeat (first|exact Ah.nil|(refine Ah.cons (Aj rfl) ?_ rfl ?_ ?_;(first|exact HB.Ac rfl|exact AP.Ag _ _|(simp [HB.under,AP.under,PV.under]));(first|exact Bg.refl _|exact Bg.vec (Bf.refl _) (by simp))))
   ·refine Aw.normal ⟨((Fv (Bo q.tgt) l q.tgt.Ap.length k).set (gi (Bo q.tgt) a).d (gi (Fv (Bo q.tgt) l q.tgt.Ap.length k) (gi (Bo q.tgt) a).d ||| 2 ^ (gi (Bo q.tgt) a).s),k+1,9),⟨(by simp only [List.length_set];exact hcs),(show k+1≤l.length by omega),.inr ⟨hi,by omega⟩⟩,by simp only;omega,⟨by omega,?_,?_⟩⟩
    ·repeat (first|exact Ak.nil|refine Ak.same (by exact PV.Ac rfl) rfl ?_|refine Ak.cons trivial rfl (.of_eq (Aq (by simp<;>omega))) ?_)
    ·repeat (first|exact Ah.nil|(refine Ah.cons (Aj rfl) ?_ rfl ?_ ?_;(first|exact HB.Ac rfl|exact AP.Ag _ _|(simp [HB.under,AP.under,PV.under]));(first|exact Bg.refl _|exact Bg.vec (Bf.refl _) (by simp))))
   ·refine Aw.normal ⟨(Fv (Bo q.tgt) l q.tgt.Ap.length (k+1),k+1,0),⟨GH _ _ _ _,(show k+1≤l.length by omega),.inl ⟨rfl,rfl,hi,all_succ hb (by omega)⟩⟩,by simp only;omega,⟨by omega,?_,?_⟩⟩
    ·repeat (first|exact Ak.nil|refine Ak.same (by exact PV.Ac rfl) rfl ?_|refine Ak.cons trivial rfl (.of_eq (Aq (by simp<;>omega))) ?_)
    ·simp only
     rw [← e1]
     repeat (first|exact Ah.nil|(refine Ah.cons (Aj rfl) ?_ rfl ?_ ?_;(first|exact HB.Ac rfl|exact AP.Ag _ _|(simp [HB.under,AP.under,PV.under]));(first|exact Bg.refl _|exact Bg.vec (Bf.refl _) (by simp))))
   ·refine Aw.normal ⟨(Fv (Bo q.tgt) l q.tgt.Ap.length (k+1),k+1,0),⟨GH _ _ _ _,(show k+1≤l.length by omega),.inl ⟨rfl,rfl,hi,all_succ hb (by omega)⟩⟩,by simp only;omega,⟨by omega,?_,?_⟩⟩
    ·repeat (first|exact Ak.nil|refine Ak.same (by exact PV.Ac rfl) rfl ?_|refine Ak.cons trivial rfl (.of_eq (Aq (by simp<;>omega))) ?_)
    ·simp only
     rw [← e1]
     repeat (first|exact Ah.nil|(refine Ah.cons (Aj rfl) ?_ rfl ?_ ?_;(first|exact HB.Ac rfl|exact AP.Ag _ _|(simp [HB.under,AP.under,PV.under]));(first|exact Bg.refl _|exact Bg.vec (Bf.refl _) (by simp))))
end Go.Proofs.YtdabojnmoejilaaGreatDoor
namespace Go.Proofs.YtdabojnmoejilaaGreatDoor
open Go Go.Am Go.Vm
theorem MQ {n:Int} (h:(Lit.int .u8 n).wf=true):∃ m:Nat,m<256∧n=m:=by
 simp [Lit.wf,IntKind.min,IntKind.max,IntKind.signed,IntKind.bits] at h
 exact ⟨n.toNat,by omega,by omega⟩
theorem tZ {n:Int} (h:(Lit.int .i8 n).wf=true):-128≤n∧n≤127:=by
 simp [Lit.wf,IntKind.min,IntKind.max,IntKind.signed,IntKind.bits] at h
 omega
theorem PY {α β:Type} {R:β→α→Prop}:∀ {l:List α},(∀ x∈l,∃ y,R y x)→∃ r:List β,Gg R r l
 |[],_=>⟨[],.nil⟩
 |a::l,h=>by
  obtain ⟨y,hy⟩:=h a (by simp)
  obtain ⟨r,hr⟩:=PY (l:=l) (fun x hx=>h x (by simp [hx]))
  exact ⟨y::r,.cons hy hr⟩
theorem PX {α:Type} [Enc α] {p:α→Prop}:∀ {r:List α} {L:List (List FV)},Gg (fun a fs=>fs=Enc.enc a∧p a) r L→L.flatten=cells r∧L.length=r.length∧∀ i,i<r.length→p (gi r i)
 |_,_,.nil=>⟨rfl,rfl,fun i hi=>by simp at hi⟩
 |a::r,fs::L,.cons ⟨h1,h2⟩ t=>by
  obtain ⟨e1,e2,e3⟩:=PX t
  refine ⟨by rw [List.flatten_cons,e1,h1];rfl,by simp [e2],fun i hi=>?_⟩
  cases i with
  |zero=>exact h2
  |succ i=>exact e3 i (by simpa using hi)
section
variable {α β:Type} {R:α→β→Prop} {a b c d e:α} {r:List β}
theorem vS (h:Gg R [a] r):∃ x,r=[x]∧R a x:=by
 cases h with|cons h1 t=>cases t;exact ⟨_,rfl,h1⟩
theorem Xj (h:Gg R [a,b] r):∃ x y,r=[x,y]∧R a x∧R b y:=by
 cases h with|cons h1 t=>obtain ⟨x,rfl,h2⟩:=vS t;exact ⟨_,_,rfl,h1,h2⟩
theorem Xi (h:Gg R [a,b,c] r):∃ x y z,r=[x,y,z]∧R a x∧R b y∧R c z:=by
 cases h with|cons h1 t=>obtain ⟨x,y,rfl,h2,h3⟩:=Xj t;exact ⟨_,_,_,rfl,h1,h2,h3⟩
theorem Lu (h:Gg R [a,b,c,d] r):∃ x y z w,r=[x,y,z,w]∧R a x∧R b y∧R c z∧R d w:=by
 cases h with|cons h1 t=>obtain ⟨x,y,z,rfl,h2,h3,h4⟩:=Xi t;exact ⟨_,_,_,_,rfl,h1,h2,h3,h4⟩
theorem pJ (h:Gg R [a,b,c,d,e] r):∃ x y z w v,r=[x,y,z,w,v]∧R a x∧R b y∧R c z∧R d w∧R e v:=by
 cases h with|cons h1 t=>obtain ⟨x,y,z,w,rfl,h2,h3,h4,h5⟩:=Lu t;exact ⟨_,_,_,_,_,rfl,h1,h2,h3,h4,h5⟩
end
theorem iw {j:Nat} {fs:List FV} (h:EJ Tryz.prog (j+1) 4 fs):∃ b:Bool,fs=[.bool b]:=by
 simp only [EJ,Tryz.underlying4] at h
 exact h
theorem yM {j:Nat} {fs:List FV} (h:EJ Tryz.prog (j+2) 52 fs):∃ l:List Int,fs=[.lst 3 (cells l) l.length]∧l.length≤maxLen:=by
 simp only [EJ,Tryz.underlying52,Tryz.underlying3] at h
 obtain ⟨L,rfl,hl,hL⟩:=h
 obtain ⟨r,hr⟩:=PY (R:=fun (a:Int) fs=>fs=Enc.enc a∧True) (l:=L) (fun x hx=>by
  obtain ⟨n,hn,_⟩:=hL x hx
  exact ⟨n,hn,trivial⟩)
 obtain ⟨e1,e2,_⟩:=PX hr
 exact ⟨r,by rw [e1,e2],by omega⟩
theorem a9c {α:Type} {l:List α} (h:l.length=5):∃ a b c d e,l=[a,b,c,d,e]:=by
 match l,h with|[a,b,c,d,e],_=>exact ⟨a,b,c,d,e,rfl⟩
theorem ql {j:Nat} {fs:List FV} (h:EJ Tryz.prog (j+3) 150 fs):∃ x:FW,fs=x.enc∧x.Ok:=by
 simp only [EJ,Tryz.underlying150,Tryz.underlying5,Tryz.underlying64,Tryz.underlying27] at h
 obtain ⟨parts,rfl,hp⟩:=h
 obtain ⟨a,b,c,d,e,rfl,⟨n1,rfl,h1⟩,⟨n2,rfl,h2⟩,⟨n3,rfl,h3⟩,⟨n4,rfl,h4⟩,L,rfl,hl,hL⟩:=pJ hp
 obtain ⟨m1,q1,rfl⟩:=MQ h1
 obtain ⟨m2,q2,rfl⟩:=MQ h2
 obtain ⟨m4,q4,rfl⟩:=MQ h4
 obtain ⟨a,b,c,d,e,rfl⟩:=a9c hl
 obtain ⟨w0,rfl,g0⟩:=hL a (by simp)
 obtain ⟨w1,rfl,g1⟩:=hL b (by simp)
 obtain ⟨w2,rfl,g2⟩:=hL c (by simp)
 obtain ⟨w3,rfl,g3⟩:=hL d (by simp)
 obtain ⟨w4,rfl,g4⟩:=hL e (by simp)
 obtain ⟨v0,k0,rfl⟩:=MQ g0
 obtain ⟨v1,k1,rfl⟩:=MQ g1
 obtain ⟨v2,k2,rfl⟩:=MQ g2
 obtain ⟨v3,k3,rfl⟩:=MQ g3
 obtain ⟨v4,k4,rfl⟩:=MQ g4
 refine ⟨⟨m1,m2,n3,m4,[v0,v1,v2,v3,v4]⟩,rfl,q1,q2,tZ h3,q4,fun i=>?_⟩
 match i with
 |0=>exact k0
 |1=>exact k1
 |2=>exact k2
 |3=>exact k3
 |4=>exact k4
 |n+5=>simp [gi]
end Go.Proofs.YtdabojnmoejilaaGreatDoor
namespace Go.Proofs.YtdabojnmoejilaaGreatDoor
open Go Go.Am Go.Vm
theorem I7 {P:Program} {n:Nat} {t:TypeId} {fs:List FV} {sf:Array Field} (h:EJ P (n+1) t fs) (hu:P.underlying t=some (.struct sf)):∃ parts:List (List FV),fs=parts.flatten∧Gg (fun (fd:Field) x=>EJ P n fd.type x) sf.toList parts:=by
 unfold EJ at h;rw [hu] at h;exact h
theorem L6 {P:Program} {n:Nat} {t e:TypeId} {fs:List FV} {α:Type} [Enc α] {p:α→Prop} (h:EJ P (n+1) t fs) (hu:P.underlying t=some (.slice e)) (he:∀ x,EJ P n e x→∃ a:α,x=Enc.enc a∧p a):∃ l:List α,fs=[.lst e (cells l) l.length]∧l.length≤maxLen∧∀ i,i<l.length→p (gi l i):=by
 unfold EJ at h;rw [hu] at h
 obtain ⟨L,rfl,hl,hL⟩:=h
 obtain ⟨r,hr⟩:=PY (R:=fun (a:α) fs=>fs=Enc.enc a∧p a) (l:=L) (fun x hx=>he x (hL x hx))
 obtain ⟨e1,e2,e3⟩:=PX hr
 exact ⟨r,by rw [e1,e2],by omega,e3⟩
theorem F8 {j:Nat} {fs:List FV} (h:EJ Tryz.prog (j+1) 5 fs):∃ n:Nat,fs=[.int .u8 (n:Int)]∧n<256:=by
 simp only [EJ,Tryz.underlying5] at h
 obtain ⟨n,rfl,hn⟩:=h
 obtain ⟨m,q,rfl⟩:=MQ hn
 exact ⟨m,rfl,q⟩
theorem a4r {j:Nat} {fs:List FV} (h:EJ Tryz.prog (j+1) 64 fs):∃ n:Int,fs=[.int .i8 n]∧-128≤n∧n≤127:=by
 simp only [EJ,Tryz.underlying64] at h
 obtain ⟨n,rfl,hn⟩:=h
 exact ⟨n,rfl,tZ hn⟩
theorem wM {j:Nat} {fs:List FV} (h:EJ Tryz.prog (j+2) 72 fs):∃ x:mG,fs=Enc.enc x∧x.Ok:=by
 obtain ⟨parts,rfl,hp⟩:=I7 h Tryz.underlying72
 obtain ⟨a,b,c,d,rfl,h1,h2,h3,h4⟩:=Lu hp
 obtain ⟨m1,rfl,q1⟩:=F8 (j:=j) h1
 obtain ⟨m2,rfl,q2⟩:=F8 (j:=j) h2
 obtain ⟨m3,rfl,q3⟩:=F8 (j:=j) h3
 obtain ⟨m4,rfl,q4⟩:=F8 (j:=j) h4
 exact ⟨⟨m1,m2,m3,m4⟩,rfl,q1,q2,q3,q4⟩
theorem pV {j:Nat} {fs:List FV} (h:EJ Tryz.prog (j+4) 75 fs):∃ x:ru,fs=Enc.enc x∧x.Ok:=by
 obtain ⟨parts,rfl,hp⟩:=I7 h Tryz.underlying75
 obtain ⟨a,b,c,d,rfl,h1,h2,h3,h4⟩:=Lu hp
 obtain ⟨m1,rfl,q1⟩:=F8 (j:=j+2) h1
 obtain ⟨m2,rfl,q2⟩:=F8 (j:=j+2) h2
 obtain ⟨m3,rfl⟩:=iw (j:=j+2) h3
 obtain ⟨l,rfl,hl,hL⟩:=L6 (n:=j+2) (p:=mG.Ok) h4 Tryz.underlying73 (fun x hx=>wM hx)
 exact ⟨⟨m1,m2,m3,l⟩,rfl,q1,q2,by simp only [maxLen] at hl;simp only;omega,hL⟩
theorem tN {j:Nat} {fs:List FV} (h:EJ Tryz.prog (j+2) 153 fs):∃ x:xZ,fs=Enc.enc x∧x.Ok:=by
 obtain ⟨parts,rfl,hp⟩:=I7 h Tryz.underlying153
 obtain ⟨a,b,c,d,rfl,h1,h2,h3,h4⟩:=Lu hp
 obtain ⟨m1,rfl,q1⟩:=F8 (j:=j) h1
 obtain ⟨m2,rfl,q2⟩:=F8 (j:=j) h2
 obtain ⟨m3,rfl,q3⟩:=a4r (j:=j) h3
 obtain ⟨m4,rfl⟩:=iw (j:=j) h4
 exact ⟨⟨m1,m2,m3,m4⟩,rfl,q1,q2,q3⟩
theorem YG {j:Nat} {fs:List FV} (h:EJ Tryz.prog (j+6) 26 fs):∃ x:jW,fs=x.enc∧x.Ok:=by
 obtain ⟨parts,rfl,hp⟩:=I7 h Tryz.underlying26
 obtain ⟨a,b,c,rfl,h1,h2,h3⟩:=Xi hp
 obtain ⟨l1,rfl,n1,g1⟩:=L6 (n:=j+4) (p:=FW.Ok) h1 Tryz.underlying22 (fun x hx=>ql (j:=j+1) hx)
 obtain ⟨l2,rfl,n2,g2⟩:=L6 (n:=j+4) (p:=ru.Ok) h2 Tryz.underlying23 (fun x hx=>pV hx)
 obtain ⟨l3,rfl,n3,g3⟩:=L6 (n:=j+4) (p:=xZ.Ok) h3 Tryz.underlying24 (fun x hx=>tN (j:=j+2) hx)
 simp only [maxLen] at n1 n2 n3
 exact ⟨⟨l1,l2,l3⟩,rfl,g1,g2,g3,by simp only;omega,by simp only;omega,by simp only;omega⟩
end Go.Proofs.YtdabojnmoejilaaGreatDoor
namespace Go.Proofs.YtdabojnmoejilaaGreatDoor
open Go Go.Am Go.Vm
theorem a7g {α:Type} {L:List α} (h:L.length=5):∃ a b c d e,L=[a,b,c,d,e]:=by
 match L,h with
 |[a,b,c,d,e],_=>exact ⟨a,b,c,d,e,rfl⟩
theorem rX {j:Nat} {fs:List FV} (h:EJ Tryz.prog (j+2) 27 fs):∃ b:Nat→Nat,fs=xE b∧∀ i,b i<256:=by
 obtain ⟨L,rfl,hl,hL⟩:=EJ.array h Tryz.underlying27
 obtain ⟨a,b,c,d,e,rfl⟩:=a7g hl
 obtain ⟨m1,rfl,q1⟩:=F8 (j:=j) (hL a (by simp))
 obtain ⟨m2,rfl,q2⟩:=F8 (j:=j) (hL b (by simp))
 obtain ⟨m3,rfl,q3⟩:=F8 (j:=j) (hL c (by simp))
 obtain ⟨m4,rfl,q4⟩:=F8 (j:=j) (hL d (by simp))
 obtain ⟨m5,rfl,q5⟩:=F8 (j:=j) (hL e (by simp))
 exact ⟨fun i=>if i=0 then m1 else if i=1 then m2 else if i=2 then m3 else if i=3 then m4 else m5,rfl,fun i=>by simp only;split<;>(try split)<;>(try split)<;>(try split)<;>omega⟩
end Go.Proofs.YtdabojnmoejilaaGreatDoor
namespace Go.Proofs.YtdabojnmoejilaaGreatDoor
open Go Go.Am Go.Vm
theorem list4 {α:Type} {L:List α} (h:L.length=4):∃ a b c d,L=[a,b,c,d]:=by
 match L,h with
 |[a,b,c,d],_=>exact ⟨a,b,c,d,rfl⟩
theorem pX {j:Nat} {fs:List FV} (h:EJ Tryz.prog (j+2) 28 fs):∃ b:Nat→Nat,fs=[.int .u8 (b 0:Int),.int .u8 (b 1:Int),.int .u8 (b 2:Int),.int .u8 (b 3:Int)]∧∀ i,b i<256:=by
 obtain ⟨L,rfl,hl,hL⟩:=EJ.array h Tryz.underlying28
 obtain ⟨a,b,c,d,rfl⟩:=list4 hl
 obtain ⟨m1,rfl,q1⟩:=F8 (j:=j) (hL a (by simp))
 obtain ⟨m2,rfl,q2⟩:=F8 (j:=j) (hL b (by simp))
 obtain ⟨m3,rfl,q3⟩:=F8 (j:=j) (hL c (by simp))
 obtain ⟨m4,rfl,q4⟩:=F8 (j:=j) (hL d (by simp))
 exact ⟨fun i=>if i=0 then m1 else if i=1 then m2 else if i=2 then m3 else m4,rfl,fun i=>by simp only;split<;>(try split)<;>(try split)<;>omega⟩
theorem qo {j:Nat} {fs:List FV} (h:EJ Tryz.prog (j+7) 30 fs):∃ x:sD,fs=x.enc∧x.Ok:=by
 obtain ⟨parts,rfl,hp⟩:=I7 h Tryz.underlying30
 obtain ⟨a,b,c,d,rfl,h1,h2,h3,h4⟩:=Lu hp
 obtain ⟨x1,rfl,k1⟩:=YG (j:=j) h1
 obtain ⟨x2,rfl,k2⟩:=YG (j:=j) h2
 obtain ⟨b5,rfl,k3⟩:=rX (j:=j+4) h3
 obtain ⟨b4,rfl,k4⟩:=pX (j:=j+4) h4
 exact ⟨⟨x1,x2,b5,b4⟩,rfl,k1,k2,k3,k4⟩
end Go.Proofs.YtdabojnmoejilaaGreatDoor
