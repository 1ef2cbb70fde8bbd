/-
  Texts of a proof, merged (PieR, PieT, OrKa, Vm43, PieH, PieI, PieK, Vm44, Vm39, PieU, PieS, Vm35, TraA, PieN, PieO, RkQ, OrK, OrP, PieV, PieX, PieZ, PieY, PieFa, PieFo). Conditions: in each statement.
-/
import Derived.Test.YtnhdddmhkhdlhaaGreatDoorKFe
set_option linter.unusedSimpArgs false
set_option linter.unusedVariables false
set_option linter.unusedSectionVars false
set_option maxRecDepth 100000
set_option maxHeartbeats 8000000
namespace Go.Proofs.YtnhdddmhkhdlhaaGreatDoor
open Go Go.Am Go.Vm Go.Pie
attribute [local irreducible] rchk windsE stoE dvsE cplE shiftR tailH
structure NtR (o:Org) (z:Int) (n:Nte):Prop where
 d:0≤n.d∧n.d<o.divs.length
 k:(gi o.divs n.d.toNat).lo≤n.k∧n.k≤(gi o.divs n.d.toNat).hi
 r:0≤n.s∧n.s<n.e∧n.e≤z
theorem ntP_r {o:Org} (ho:OrgT o) {z:Int} (hz:0<z) (y:Sd8):NtR o z (ntP o z y):=by
 have hd:=ho.divs
 have e1:=Int.emod_nonneg (y.dv:Int) (show (o.divs.length:Int)≠0 by omega)
 have e2:=Int.emod_lt_of_pos (y.dv:Int) (show 0<(o.divs.length:Int) by omega)
 have e3:=Int.emod_nonneg (y.st:Int) (show z≠0 by omega)
 have e4:=Int.emod_lt_of_pos (y.st:Int) hz
 have hv:=ho.dv ((y.dv:Int) % (o.divs.length:Int)).toNat (by omega)
 refine ⟨⟨e1,e2⟩,?_,?_⟩
 ·show (gi o.divs ((y.dv:Int) % (o.divs.length:Int)).toNat).lo≤(gi o.divs ((y.dv:Int) % (o.divs.length:Int)).toNat).lo+(y.ky:Int) % ((gi o.divs ((y.dv:Int) % (o.divs.length:Int)).toNat).hi-(gi o.divs ((y.dv:Int) % (o.divs.length:Int)).toNat).lo+1)∧(gi o.divs ((y.dv:Int) % (o.divs.length:Int)).toNat).lo+(y.ky:Int) % ((gi o.divs ((y.dv:Int) % (o.divs.length:Int)).toNat).hi-(gi o.divs ((y.dv:Int) % (o.divs.length:Int)).toNat).lo+1)≤(gi o.divs ((y.dv:Int) % (o.divs.length:Int)).toNat).hi
  generalize gi o.divs ((y.dv:Int) % (o.divs.length:Int)).toNat=D at *
  have e5:=Int.emod_nonneg (y.ky:Int) (show D.hi-D.lo+1≠0 by omega)
  have e6:=Int.emod_lt_of_pos (y.ky:Int) (show 0<D.hi-D.lo+1 by omega)
  omega
 ·show 0≤(y.st:Int) % z∧(y.st:Int) % z<min z ((y.st:Int) % z+1+(y.lg:Int) % 8)∧min z ((y.st:Int) % z+1+(y.lg:Int) % 8)≤z
  omega
theorem ntsK_r {o:Org} (ho:OrgT o) {z:Int} (hz:0<z) (l:List Sd8):∀ k,∀ i,i<(ntsK o z l k).length→NtR o z (gi (ntsK o z l k) i)∧∀ j,j<i→ovl (gi (ntsK o z l k) j) (gi (ntsK o z l k) i)=false
 |0,i,hi=>by simp [ntsK] at hi
 |k+1,i,hi=>by
  have ih:=ntsK_r ho hz l k
  unfold ntsK at hi ⊢
  split at hi
  ·rename_i h1
   rw [if_pos h1]
   exact ih i hi
  ·rename_i h1
   rw [if_neg h1]
   rw [List.length_append] at hi
   have hi':i<(ntsK o z l k).length+1:=hi
   by_cases e:i<(ntsK o z l k).length
   ·obtain ⟨q1,q2⟩:=ih i e
    rw [gi_snoc,if_pos e]
    refine ⟨q1,fun j hj=>?_⟩
    rw [gi_snoc,if_pos (by omega)]
    exact q2 j hj
   ·obtain rfl:i=(ntsK o z l k).length:=by omega
    rw [gi_snoc,if_neg (by omega),if_pos rfl]
    refine ⟨ntP_r ho hz _,fun j hj=>?_⟩
    rw [gi_snoc,if_pos hj]
    have h2:=(any_take (l:=ntsK o z l k) (f:=fun m=>ovl m (ntP o z (gi l k))) (i:=(ntsK o z l k).length) (Nat.le_refl _)).1 (by rw [List.take_length];simpa using h1)
    exact h2 j hj
theorem lasK_rng {nb:Nat} (h:0<nb) (l:List Mrk):∀ k,-1≤lasK nb l k∧lasK nb l k<nb
 |0=>by simp only [lasK];omega
 |k+1=>by
  have:=lasK_rng h l k
  have e1:=Int.emod_nonneg ((gi l k).bar:Int) (show (nb:Int)≠0 by omega)
  have e2:=Int.emod_lt_of_pos ((gi l k).bar:Int) (show 0<(nb:Int) by omega)
  unfold lasK
  split<;>omega
theorem stgK_r (o:Org) {nb:Nat} (h:0<nb) (l:List Mrk):∀ k,k≤l.length→∀ i,i<(stgK o nb l k).length→(0≤(gi (stgK o nb l k) i).bar∧(gi (stgK o nb l k) i).bar≤lasK nb l k) ∧
 (0<i→(gi (stgK o nb l k) (i-1)).bar<(gi (stgK o nb l k) i).bar)∧∃ m,m<l.length∧(gi (stgK o nb l k) i).reg=drawnR o (gi l m).b
 |0,_,i,hi=>by simp [stgK] at hi
 |k+1,hk,i,hi=>by
  have ih:=stgK_r o h l k (by omega)
  have e1:=Int.emod_nonneg ((gi l k).bar:Int) (show (nb:Int)≠0 by omega)
  have q1:stgK o nb l (k+1)=if ((gi l k).bar:Int) % (nb:Int)>lasK nb l k then stgK o nb l k++[⟨((gi l k).bar:Int) % (nb:Int),drawnR o (gi l k).b⟩] else stgK o nb l k:=rfl
  have q2:lasK nb l (k+1)=if ((gi l k).bar:Int) % (nb:Int)>lasK nb l k then ((gi l k).bar:Int) % (nb:Int) else lasK nb l k:=rfl
  rw [q1] at hi
  rw [q1,q2]
  clear q1 q2
  by_cases h1:((gi l k).bar:Int) % (nb:Int)>lasK nb l k
  ·rw [if_pos h1] at hi
   rw [if_pos h1,if_pos h1]
   rw [List.length_append] at hi
   have hi':i<(stgK o nb l k).length+1:=hi
   by_cases e:i<(stgK o nb l k).length
   ·obtain ⟨q1,q2,q3⟩:=ih i e
    rw [gi_snoc,if_pos e]
    refine ⟨by omega,fun h0=>?_,q3⟩
    rw [gi_snoc,if_pos (by omega)]
    exact q2 h0
   ·obtain rfl:i=(stgK o nb l k).length:=by omega
    rw [gi_snoc,if_neg (by omega),if_pos rfl]
    refine ⟨⟨e1,Int.le_refl _⟩,fun h0=>?_,k,by omega,rfl⟩
    rw [gi_snoc,if_pos (by omega)]
    have:=(ih ((stgK o nb l k).length-1) (by omega)).1
    show _<((gi l k).bar:Int) % (nb:Int)
    omega
  ·rw [if_neg h1] at hi
   rw [if_neg h1,if_neg h1]
   exact ih i hi
theorem mkP_bars (x:PPl) {i:Nat} (h:i≤x.bars.length):gi (mkP x).bars i=bM x.bars i:=snocK_gi _ (by omega)
theorem mkP_blen (x:PPl):(mkP x).bars.length=x.bars.length+1:=snocK_len _ _
theorem mkP_fst (x:PPl):fstB (mkP x)=0:=mkP_bars x (Nat.zero_le _)
theorem mkP_end (x:PPl):endB (mkP x)=bM x.bars x.bars.length:=by
 unfold endB
 rw [mkP_blen]
 exact mkP_bars x (by omega)
theorem bM_succ (l:List UInt8) (i:Nat):bM l i<bM l (i+1):=by
 have:=Int.emod_nonneg ((gi l i).toNat:Int) (show (6:Int)≠0 by decide)
 show _<bM l i+1+((gi l i).toNat:Int) % 6
 omega
theorem mkP_k (x:PPl) (hx:x.Ok) (hf:pfits x):PceK (mkO x.org) (mkP x):=by
 have ho:=mkO_t x.org hx.org hf.1
 obtain ⟨_,⟨f1,f2⟩,f3,f4⟩:=hf
 have hz:0<bM x.bars x.bars.length:=by have:=(bM_rng x.bars x.bars.length).1;omega
 have hN:=ntsK_r ho hz x.notes x.notes.length
 have lN:=ntsK_len (mkO x.org) (bM x.bars x.bars.length) x.notes x.notes.length
 have hS:=stgK_r (mkO x.org) f1 x.sets x.sets.length (Nat.le_refl _)
 have lS:=stgK_len (mkO x.org) x.bars.length x.sets x.sets.length
 have hl:=lasK_rng f1 x.sets x.sets.length
 have eN:(mkP x).notes=ntsK (mkO x.org) (bM x.bars x.bars.length) x.notes x.notes.length:=rfl
 have eS:(mkP x).sets=stgK (mkO x.org) x.bars.length x.sets x.sets.length:=rfl
 have eL:=mkP_blen x
 refine pceK_of ⟨by omega,by rw [eN];omega,by rw [eS];omega,fun i hi=>?_⟩ (by omega) (fun i hi=>?_) (by rw [eN];omega) (fun i hi=>?_) (by rw [eS];omega) fun i hi=>?_
 ·rw [eS] at hi ⊢
  obtain ⟨_,_,m,hm,e⟩:=hS i hi
  rw [e]
  exact drawnR_ok _ ho _ (hx.sets m hm).2
 ·rw [mkP_bars x (by omega)]
  have:=bM_rng x.bars i
  refine ⟨by omega,fun h0=>?_⟩
  rw [mkP_bars x (by omega)]
  have:=bM_succ x.bars (i-1)
  rwa [show i-1+1=i by omega] at this
 ·obtain ⟨⟨q1,q2,q3⟩,q4⟩:=hN i (by rw [← eN];exact hi)
  exact ⟨q1,q2,by rw [mkP_fst,mkP_end];exact q3,q4⟩
 ·rw [eS] at hi ⊢
  obtain ⟨q1,q2,m,_,e⟩:=hS i hi
  refine ⟨by omega,q2,?_⟩
  rw [e]
  exact drawnR_reg _ _
theorem mkP_err (x:PPl) (hx:x.Ok) (hf:pfits x):pceE (mkO x.org) (mkP x)=0:=by
 unfold pceE
 rw [if_neg (fun h=>h (mkO_t x.org hx.org hf.1).ok)]
 exact (mkP_k x hx hf).err
end Go.Proofs.YtnhdddmhkhdlhaaGreatDoor
namespace Go.Proofs.YtnhdddmhkhdlhaaGreatDoor
open Go Go.Am Go.Vm Go.Pie
attribute [local irreducible] VVal VOps VOpsD VWp VCalls VFun VFunV QSeq QBlk QLoop Vm.Done DoneV DoneI
attribute [local irreducible] rchk windsE stoE dvsE cplE shiftR tailH
def lwR (r:Rgs) (p:Pce) (t:Int):Nat→Rgs
 |0=>r
 |k+1=>if gi p.bars (gi p.sets k).bar.toNat≤t then (gi p.sets k).reg else lwR r p t k
theorem lwR_wan (r:Rgs) (p:Pce) (t:Int):∀ k,lwR r p t k=if wanK p t k<0 then r else (gi p.sets (wanK p t k).toNat).reg
 |0=>by rw [if_pos (by simp [wanK])];rfl
 |k+1=>by
  unfold lwR wanK
  split
  ·rw [if_neg (by omega)];rfl
  ·exact lwR_wan r p t k
end Go.Proofs.YtnhdddmhkhdlhaaGreatDoor
namespace Go.Proofs.YtnhdddmhkhdlhaaGreatDoor
open Go Go.Am Go.Vm
attribute [local irreducible] VVal VOps VOpsD VWp VCalls VFun VFunV QSeq QBlk QLoop Vm.Done DoneV DoneI
structure Nts where
 lo:Nat
 hi:Nat
instance:Enc Nts:={ default:=⟨0,0⟩,enc:=fun x=>[.int .u64 (x.lo:Int),.int .u64 (x.hi:Int)],size:=2,len:=fun _=>rfl }
structure Nts.Ok (s:Nts):Prop where
 lo:s.lo<2 ^ 64
 hi:s.hi<2 ^ 64
def Nts.has (s:Nts) (n:Nat):Bool:=if n<64 then s.lo.testBit n else s.hi.testBit (n-64)
def withN (s:Nts) (n:Nat):Nts:=if n<64 then ⟨s.lo ||| 2 ^ n,s.hi⟩ else ⟨s.lo,s.hi ||| 2 ^ (n-64)⟩
def uniN (a b:Nts):Nts:=⟨a.lo ||| b.lo,a.hi ||| b.hi⟩
def witN (a b:Nts):Bool:=decide (a.lo ^^^ (a.lo &&& b.lo)=0)&&decide (a.hi ^^^ (a.hi &&& b.hi)=0)
def ofK (l:List Int):Nat→Nts
 |0=>⟨0,0⟩
 |k+1=>withN (ofK l k) (gi l k).toNat
def rngK (a:Nat):Nat→Nts
 |0=>⟨0,0⟩
 |k+1=>withN (rngK a k) (a+k)
theorem withN_ok {s:Nts} (h:s.Ok) {n:Nat} (hn:n<128):(withN s n).Ok:=by
 unfold withN
 split
 ·exact ⟨Nat.or_lt_two_pow h.lo (Nat.pow_lt_pow_right (by omega) (by omega)),h.hi⟩
 ·exact ⟨h.lo,Nat.or_lt_two_pow h.hi (Nat.pow_lt_pow_right (by omega) (by omega))⟩
theorem zeroN_ok:(⟨0,0⟩:Nts).Ok:=⟨by simp,by simp⟩
theorem ofK_ok {l:List Int} (h:∀ i,i<l.length→0≤gi l i∧gi l i≤127):∀ k,k≤l.length→(ofK l k).Ok
 |0,_=>zeroN_ok
 |k+1,hk=>withN_ok (ofK_ok h k (by omega)) (by have:=h k (by omega);omega)
section
variable {E:Env} {L:Vm.Frame} {H:Vm.Heap} {nx:Nat} {Q:PV→Heap→Nat→Prop} {w:Bool} {dst:Option Tmp} {ty:TypeId} {pos:String} {af:Array Edge} {gd:Option (Nat×Bool)}
theorem shl1 {t t2:TypeId} {x y:Operand} {k':IntKind} {n:Int} (m:Nat) (hx:vev E.Γ L x=some (.p (.int .u64 1))) (hy:vev E.Γ L y=some (.p (.int k' n))) (hn:n=m∧m<64) (q:Q (.p (.int .u64 ((2 ^ m:Nat):Int))) H nx) :
 VVal E w ⟨dst,.binOp .shl t x y t2,ty,pos,af,gd⟩ L H nx Q:=by
 obtain ⟨rfl,hn⟩:=hn
 exact VVal.shlOneU hx hy hn q
end
theorem isNote_spec (n:Int):VFun env 89 [.int .i64 n] (.p (.bool (decide (0≤n∧n≤127)))):=by
 refine VFun.enter (env_none (by decide)) Tryz.func89 rfl (by kernel_rfl) (by simp [Tryz.ntmps89]) ?_
 repeat' (first|apply VWp.rseq|apply VWp.ret|apply VOps.nil|apply VOps.one|(apply VOps.take;rfl;rfl)|(apply VOps.drop;rfl;rfl;rfl)|(apply VOps.guard;rfl;rfl)|(apply VVal.assign;rfl)|(apply VVal.move;rfl)|(apply VVal.int;rfl;rfl;rfl)|(apply VVal.pick_true;rfl;rfl)|(apply VVal.pick_false;rfl;rfl)|(intro _;try (exfalso;omega)))
 all_goals (refine Done.ret rfl (.refl _) (by exact PV.under_of rfl) HCov.nil (Nat.zero_le _) (Nat.le_refl _) ⟨?_,rfl,rfl⟩;refine PV.bool_eq ?_;simp;try omega)
theorem freeNts:eqFree Tryz.prog 93=true:=by kernel_rfl
theorem eqNts (a b c d:Nat):Vm.eqSt Tryz.prog 93 [.int .u64 (a:Int),.int .u64 (b:Int)] [.int .u64 (c:Int),.int .u64 (d:Int)]=some (decide (a=c)&&decide (b=d)):=by
 show some (decide ((a:Int)=c)&&(decide ((b:Int)=d)&&true))=_
 rw [Bool.and_true]
 congr 2
 ·by_cases h:a=c
  ·subst h;simp
  ·rw [decide_eq_false h,decide_eq_false (by omega)]
 ·by_cases h:b=d
  ·subst h;simp
  ·rw [decide_eq_false h,decide_eq_false (by omega)]
theorem with3_spec (s:Nts) (hs:s.Ok) (n:Nat) (hn:n<128):VFun env 90 [.agg (Enc.enc s),.int .i64 (n:Int)] (.p (.agg (Enc.enc (withN s n)))):=by
 have s1:=hs.lo
 have s2:=hs.hi
 unfold withN
 by_cases h:n<64
 ·have p1:2 ^ n<2 ^ 64:=Nat.pow_lt_pow_right (by omega) h
  rw [if_pos h]
  refine VFun.enter (env_none (by decide)) Tryz.func90 rfl (by kernel_rfl) (by simp [Tryz.ntmps90]) ?_
  repeat' (first|apply VWp.assoc|apply VWp.rseq|apply VWp.rseqD|apply VWp.ret|apply VOps.nil|apply VOpsD.nil|apply VOps.one|(apply VOpsD.bar;decide +kernel)|apply VOpsD.quiet|(apply shl1 n;rfl;rfl;omega)|(apply VVal.move;rfl)|(apply VVal.orU;rfl;rfl;omega;omega)|(apply VVal.int;rfl;rfl;rfl)|(apply VVal.load;rfl;rfl)|(apply VVal.fieldB;rfl;rfl;rfl)|(apply VVal.box;rfl;trivial)|(apply VVal.alloc;rfl)|(apply VVal.storeB;rfl;rfl;rfl;trivial;rfl;rfl;exact lt_dec rfl;exact le_dec rfl)|(apply VWp.condSeq_dec;rfl)|(intro _;try (exfalso;omega)))
  all_goals first|(exfalso;omega)|(refine Done.ret rfl (.refl _) (by exact PV.under_of rfl) HCov.nil (Nat.zero_le _) (Nat.le_refl _) ⟨?_,rfl,rfl⟩;try rfl)
 ·have p1:2 ^ (n-64)<2 ^ 64:=Nat.pow_lt_pow_right (by omega) (by omega)
  rw [if_neg h]
  refine VFun.enter (env_none (by decide)) Tryz.func90 rfl (by kernel_rfl) (by simp [Tryz.ntmps90]) ?_
  repeat' (first|apply VWp.assoc|apply VWp.rseq|apply VWp.rseqD|apply VWp.ret|apply VOps.nil|apply VOpsD.nil|apply VOps.one|(apply VOpsD.bar;decide +kernel)|apply VOpsD.quiet|(apply shl1 (n-64);rfl;rfl;omega)|(apply VVal.move;rfl)|(apply VVal.sub64;rfl;rfl;omega)|(apply VVal.orU;rfl;rfl;omega;omega)|(apply VVal.int;rfl;rfl;rfl)|(apply VVal.load;rfl;rfl)|(apply VVal.fieldB;rfl;rfl;rfl)|(apply VVal.box;rfl;trivial)|(apply VVal.alloc;rfl)|(apply VVal.storeB;rfl;rfl;rfl;trivial;rfl;rfl;exact lt_dec rfl;exact le_dec rfl)|(apply VWp.condSeq_dec;rfl)|(intro _;try (exfalso;omega)))
  all_goals first|(exfalso;omega)|(refine Done.ret rfl (.refl _) (by exact PV.under_of rfl) HCov.nil (Nat.zero_le _) (Nat.le_refl _) ⟨?_,rfl,rfl⟩;try rfl)
theorem ofN_spec (l:List Int) (hl:l.length<1000000) (h:∀ i,i<l.length→0≤gi l i∧gi l i≤127):VFun env 69 [.lst 3 (cells l) l.length] (.tup [.p (.agg (Enc.enc (ofK l l.length))),.p (.int .i64 0)]):=by
 refine VFun.enter (env_none (by decide)) Tryz.func69 rfl (by kernel_rfl) (by simp [Tryz.ntmps69]) ?_
 repeat' (first|apply VWp.assoc|apply VWp.rseq|apply VWp.blockSeq|apply VOps.nil|apply VOps.one|(apply VVal.assign;rfl)|(apply VVal.move;rfl)|(apply VVal.lenF;rfl;rfl)|(apply VVal.alloc;rfl))
 apply VWp.loopR (l.length) [(2,_),(4,_),(7,_),(8,_)] [(0,_)] (fun k r=>(9,.p (.int .i64 (k:Int)))::r) (fun k r=>(1,.box 93 ((Enc.enc (ofK l k)).map .p))::r) 2
 ·first|omega|decide
 ·first|omega|decide
 ·repeat (first|exact LCov.nil|(refine LCov.eq rfl ?_ ?_;(first|exact PV.under_of rfl|(simp [PV.under,PVs.under];done)))|refine LCov.cons trivial rfl (.of_eq (lst_len (by simp<;>omega))) ?_)
 ·repeat (first|exact HCov.nil|(refine HCov.eq rfl (lt_dec rfl) ?_ ?_;(first|exact HB.under_of rfl|exact PVs.under_pure _ _|(simp [HB.under,PVs.under,PV.under];done)))|(refine HCov.cons (lt_dec rfl) ?_ rfl ?_ ?_;(first|exact trivial|exact PVs.under_pure _ _|(simp [HB.under,PVs.under,PV.under]));(first|exact HLe.refl _|exact HLe.vec (FLes.refl _) (by simp))))
 ·intro k hk
  have h0:=h k hk
  have h1:=isNote_spec (gi l k)
  rw [decide_eq_true h0] at h1
  have h2:=with3_spec (ofK l k) (ofK_ok h k (by omega)) (gi l k).toNat (by omega)
  rw [Int.toNat_of_nonneg h0.1] at h2
  repeat' (first|apply VWp.assoc|apply VWp.rseq|apply VWp.region|apply VWp.skipSeq|apply VWp.blockSeq|apply QSeq.normal|apply QBlk.normal|apply VOps.nil|apply VOps.one|(apply VVal.fn;rfl;rfl;exact h1;intro _;rfl)|(apply VVal.fn;rfl;rfl;exact h2;intro _;rfl)|(apply VVal.assign;rfl)|(apply VVal.move;rfl)|(apply VVal.add64;rfl;rfl;omega)|(apply VVal.int;rfl;rfl;rfl)|(apply VVal.indexN;rfl;rfl;rfl;omega;rfl)|(apply VVal.load;rfl;rfl)|(apply VVal.storeB;rfl;rfl;rfl;trivial;rfl;rfl;exact lt_dec rfl;exact le_dec rfl)|(apply VVal.not;rfl)|(apply VWp.condSeq_false;rfl)|(apply VWp.condSeq_dec;rfl)|(intro _;try (exfalso;omega)))
  all_goals try (exfalso;omega)
  refine QLoop.normal ⟨by first|omega|decide,?_,?_⟩
  ·repeat (first|exact LCov.nil|refine LCov.same (by exact PV.under_of rfl) rfl ?_|refine LCov.cons trivial rfl (.of_eq (lst_len (by simp<;>omega))) ?_)
  ·repeat (first|exact HCov.nil|(refine HCov.cons (lt_dec rfl) ?_ rfl ?_ ?_;(first|exact HB.under_of rfl|exact PVs.under_pure _ _|(simp [HB.under,PVs.under,PV.under]));(first|exact HLe.refl _|exact HLe.vec (FLes.refl _) (by simp))))
 ·repeat' (first|apply VWp.rseq|apply VWp.exitSeq|apply QSeq.normal|apply QBlk.exit|apply QLoop.exit|apply VWp.ret|apply VOps.nil|apply VOps.one|(apply VVal.assign;rfl)|(apply VVal.int;rfl;rfl;rfl)|(apply VVal.load;rfl;rfl)|(apply VVal.storeB;rfl;rfl;rfl;trivial;rfl;rfl;exact lt_dec rfl;exact le_dec rfl)|(apply VWp.condSeq_dec;rfl)|(intro _;try (exfalso;omega)))
  all_goals first|(exfalso;omega)|(refine Done.ret rfl (.refl _) (by exact PV.under_of rfl) HCov.nil (Nat.zero_le _) (Nat.le_refl _) ⟨?_,rfl,rfl⟩;try rfl)
end Go.Proofs.YtnhdddmhkhdlhaaGreatDoor
namespace Go.Vm
open Go.Am
structure NilS where
instance:Enc NilS:={ default:=⟨⟩,enc:=fun _=>[.val (.slice none 0 0)],size:=1,len:=fun _=>rfl }
theorem nil_cells:∀ n:Nat,(cells (List.replicate n (⟨⟩:NilS))).map PV.p=List.replicate n (.p (.val (.slice none 0 0)))
 |0=>rfl
 |n+1=>by
  rw [List.replicate_succ,List.replicate_succ,← nil_cells n]
  rfl
theorem map_range_at {α:Type} (f:Nat→α) {n i:Nat} (h:i<n):((List.range n).map f)[i]?=some (f i):=by
 rw [List.getElem?_map,List.getElem?_range h];rfl
theorem map_range_set {α:Type} (f:Nat→α) (n i:Nat) (x:α):((List.range n).map f).set i x=(List.range n).map fun j=>if j=i then x else f j:=by
 apply List.ext_getElem?
 intro j
 rw [List.getElem?_set]
 by_cases h:j<n
 ·rw [map_range_at _ h,map_range_at _ h]
  by_cases e:i=j
  ·subst e
   rw [if_pos rfl,if_pos (by simpa using h),if_pos rfl]
  ·rw [if_neg e,if_neg (Ne.symm e)]
 ·have h1:((List.range n).map fun j=>if j=i then x else f j)[j]?=none:=List.getElem?_eq_none (by simp;omega)
  have h2:((List.range n).map f)[j]?=none:=List.getElem?_eq_none (by simp;omega)
  rw [h1,h2]
  split
  ·rw [if_neg (by simp;omega)]
  ·rfl
theorem map_range_congr {α:Type} {f g:Nat→α} {n:Nat} (h:∀ j,j<n→f j=g j):(List.range n).map f=(List.range n).map g:=List.map_congr_left fun j hj=>h j (List.mem_range.1 hj)
section
variable {E:Env} {L:Frame} {H:Heap} {nx:Nat}
theorem vseps1 {Γ:Nat→Option (List Value×TypeId)} {r:Operand} {y:PV} {b c:Nat} (hv:vev Γ L r=some y) (ho:vown H y=some c) (hne:b≠c):vseps Γ L H b [r]=true:=by
 simp only [vseps,hv,vsep,ho,Bool.and_true]
 cases hd:Nat.decEq b c with
 |isTrue e=>exact absurd e hne
 |isFalse _=>rfl
theorem Ghost.freezeCells (a s n:Nat) (f:Nat→List FV) (k:Nat→Nat) {e e':TypeId} {n':Nat} {z:Bool} (ha:hget H a=some (.vecp e' ((List.range n).map fun j=>.vec (s+j) (k j) 0 (k j)) n')) (hb:∀ j,j<n→hget H (s+j)=some (.vec e (f j) (k j) z)) (hne:∀ j,j<n→s+j≠a) :
 ∃ H',hget H' a=some (.vecp e' ((List.range n).map fun j=>.p (.lst e (f j) (k j))) n')∧Ghost E L H nx L H' nx:=by
 have key:∀ r,r≤n→∃ H',hget H' a=some (.vecp e' ((List.range n).map fun j=>if j<r then .p (.lst e (f j) (k j)) else .vec (s+j) (k j) 0 (k j)) n')∧(∀ j,r≤j→j<n→hget H' (s+j)=some (.vec e (f j) (k j) z))∧Ghost E L H nx L H' nx:=by
  intro r
  induction r with
  |zero=>intro _;exact ⟨H,by simpa using ha,fun j _ hj=>hb j hj,Ghost.refl⟩
  |succ r ih =>
   intro hr
   obtain ⟨H',h1,h2,h3⟩:=ih (by omega)
   have hk:((List.range n).map fun j=>if j<r then (.p (.lst e (f j) (k j)):PV) else .vec (s+j) (k j) 0 (k j))[r]?=some (.vec (s+r) (k r) 0 (k r)):=by
    rw [map_range_at _ (by omega),if_neg (Nat.lt_irrefl _)]
   have hg:=Ghost.freezeCellV (E:=E) (L:=L) (nx:=nx) a r h1 hk (h2 r (Nat.le_refl _) (by omega))
   refine ⟨_,?_,fun j hj1 hj2=>?_,h3.trans hg⟩
   ·rw [hget_hput,if_pos rfl,hget_hdel,if_neg (hne r (by omega)),h1]
    simp only [Option.map_some]
    rw [map_range_set]
    congr 2
    refine map_range_congr fun j hj=>?_
    by_cases e1:j=r
    ·rw [if_pos e1,if_pos (by omega),e1]
    ·rw [if_neg e1]
     by_cases e2:j<r
     ·rw [if_pos e2,if_pos (by omega)]
     ·rw [if_neg e2,if_neg (by omega)]
   ·rw [hget_hput,if_neg (Ne.symm (hne j hj2)),hget_hdel,if_neg (by omega)]
    exact h2 j (by omega) hj2
 obtain ⟨H',h1,_,h3⟩:=key n (Nat.le_refl _)
 refine ⟨H',?_,h3⟩
 rw [h1]
 congr 2
 exact map_range_congr fun j hj=>by rw [if_pos hj]
variable {Q:PV→Heap→Nat→Prop} {dst:Option Tmp} {ty:TypeId} {pos:String} {af:Array Edge} {gd:Option (Nat×Bool)}
theorem VVal.append2 {α:Type} {_:Enc α} {l:List α} (a1 a2:α) {s x:Operand} {sT xT e e2:TypeId} {xd:TypeDesc} {i:TypeInfo} {b b2 n:Nat} {xs:List FV} {z z2:Bool} (hs:vev E.Γ L s=some (.vec b n 0 n)) (hb:hget H b=some (.vec e (cells l) n z))
 (hx:vev E.Γ L x=some (.vec b2 2 0 2)) (hb2:hget H b2=some (.vec e2 xs 2 z2)) (hxs:xs=Enc.enc a1++Enc.enc a2) (hn:l.length=n) (hsT:E.P.underlying sT=some (.slice e)) (hxT:E.P.underlying xT=some xd) (hd:∀ k,xd≠.int k) (hi:E.P.info? e=some i)
 (hsz:Enc.size α=i.size) (hzs:zeroSized i=true) (h0:0<i.size) (hby:i.bytes<1000000) (hlen:l.length<900000) (q:Q (.vec b (l.length+2) 0 (l.length+2)) (hput H b (.vec e (cells (l++[a1,a2])) (l.length+2) z)) nx) :
 VVal E true ⟨dst,.call { callee:=.builtin .append,args:=#[s,x],argTypes:=#[sT,xT] },ty,pos,af,gd⟩ L H nx Q:=by
 subst hn
 have hroom:(l.length+2)*(i.bytes+1)≤room:=Nat.le_trans (Nat.mul_le_mul (by omega:l.length+2≤1000000) (by omega:i.bytes+1≤1000000)) (by decide)
 refine VVal.append (i:=i) hs hb (SlC.all hx hb2 (by rw [hxs,List.length_append,Enc.len,Enc.len,← hsz];omega)) hsT hxT hd hi hzs (by omega) hroom (by rw [cells_length,hsz]) h0 ?_
 have:cells (l++[a1,a2])=cells l++xs:=by rw [cells_append,hxs];simp [cells,encs]
 rw [← this]
 exact q
end
end Go.Vm
namespace Go.Proofs.YtnhdddmhkhdlhaaGreatDoor
open Go Go.Am Go.Vm Go.Pie
attribute [local irreducible] VVal VOps VOpsD VWp VCalls VFun VFunV QSeq QBlk QLoop Vm.Done DoneV DoneI
attribute [local irreducible] rchk windsE stoE dvsE cplE shiftR tailH
instance:Enc (List Int):={ default:=[],enc:=fun l=>[.lst 3 (cells l) l.length],size:=1,len:=fun _=>rfl }
def kdK (p:Pce) (L:List Int) (d:Nat):Nat→List Int
 |0=>[]
 |k+1=>if (gi p.notes (gi L k).toNat).d=(d:Int) then kdK p L d k++[(gi p.notes (gi L k).toNat).k] else kdK p L d k
theorem kdK_len (p:Pce) (L:List Int) (d:Nat):∀ k,(kdK p L d k).length≤k
 |0=>Nat.le_refl _
 |k+1=>by
  have:=kdK_len p L d k
  unfold kdK
  split
  ·simp;omega
  ·omega
theorem snd_mem {p:Pce} {t:Int}:∀ {k:Nat} {x:Int},x∈sndK p t k→0≤x∧x<k
 |0,x,h=>by cases h
 |k+1,x,h=>by
  unfold sndK at h
  split at h
  ·rcases List.mem_append.1 h with h|h
   ·have:=snd_mem h;omega
   ·rw [List.mem_singleton] at h;omega
  ·have:=snd_mem h;omega
theorem gi_mem' {l:List Int} {i:Nat} (h:i<l.length):gi l i∈l:=by
 unfold gi;rw [List.getElem?_eq_getElem h];exact List.getElem_mem h
theorem snd_gi {p:Pce} {t:Int} {i:Nat} (h:i<(snd p t).length):0≤gi (snd p t) i∧gi (snd p t) i<p.notes.length:=snd_mem (gi_mem' h)
theorem cells_lists:∀ l:List (List Int),cells l=l.map fun a=>FV.lst 3 (cells a) a.length
 |[]=>rfl
 |a::l=>by
  rw [List.map_cons,← cells_lists l]
  rfl
theorem OrgK.cmp {o:Org} (h:OrgK o) {i:Nat} (hi:i<o.divs.length):0≤(gi o.divs i).lo∧(gi o.divs i).hi≤127:=by
 have h0:=h.err
 unfold orgE at h0
 split at h0
 ·exact absurd h0 (by decide)
 split at h0
 ·exact absurd h0 (by decide)
 split at h0
 ·rename_i h1;exact absurd h0 h1
 split at h0
 ·exact absurd h0 (by decide)
 split at h0
 ·exact absurd h0 (by decide)
 split at h0
 ·rename_i h1;exact absurd h0 h1
 rename_i d3
 have d3:divsE o.ranks o.divs 0=0:=Decidable.byContradiction d3
 have:=divsE_all _ 0 rfl d3 i (Nat.zero_le _) hi
 unfold dvsE at this
 split at this
 ·rename_i h1;exact absurd this h1
 rename_i h1
 have h1:=Decidable.byContradiction h1
 unfold cmpE at h1
 split at h1
 ·exact absurd h1 (by decide)
 omega
def tlK (p:Pce) (L:List Int) (k:Nat) (j:Nat):HB:=.vec 3 (cells (kdK p L j k)) (kdK p L j k).length true
def kdV (p:Pce) (L:List Int) (nd k:Nat):HB:=.vecp 41 ((List.range nd).map fun j=>.vec (4+j) (kdK p L j k).length 0 (kdK p L j k).length) nd
theorem kdV_under {p:Pce} {L:List Int} {nd k:Nat} (h:nd≤8):(kdV p L nd k).under 12:=by
 show PVs.under 12 _
 have:∀ l:List Nat,(∀ j∈l,j<nd)→PVs.under 12 (l.map fun j=>PV.vec (4+j) (kdK p L j k).length 0 (kdK p L j k).length):=by
  intro l
  induction l with
  |nil=>intro _;trivial
  |cons a l ih=>exact fun hl=>⟨by show 4+a<12;have:=hl a (by simp);omega,ih fun j hj=>hl j (List.mem_cons_of_mem _ hj)⟩
 exact this _ fun j hj=>List.mem_range.1 hj
theorem kdK_rng {o:Org} {p:Pce} (ho:OrgK o) (h:PceK o p) {L:List Int} (hg:∀ i,i<L.length→0≤gi L i∧gi L i<p.notes.length) {d:Nat}:∀ k,k≤L.length→∀ i,i<(kdK p L d k).length→0≤gi (kdK p L d k) i∧gi (kdK p L d k) i≤127
 |0,_,i,hi=>by cases hi
 |k+1,hk,i,hi=>by
  have ih:=kdK_rng ho h hg (d:=d) k (by omega)
  unfold kdK at hi ⊢
  split
  ·rename_i hd
   rw [if_pos hd] at hi
   have hN:=h.note (gi L k).toNat (by have:=hg k (by omega);omega)
   have hc:=ho.cmp (i:=(gi p.notes (gi L k).toNat).d.toNat) (by have:=hN.d;omega)
   have hk2:=hN.k
   rcases Nat.lt_or_ge i (kdK p L d k).length with h1|h1
   ·rw [gi_left h1];exact ih i h1
   ·obtain rfl:i=(kdK p L d k).length:=by simp at hi;omega
    rw [gi_right];omega
  ·rename_i hd
   rw [if_neg hd] at hi
   exact ih i hi
noncomputable def keysR (o:Org) (p:Pce) (t:Int):List Nts:=snocK (fun d=>ofK (kdK p (snd p t) d (snd p t).length) (kdK p (snd p t) d (snd p t).length).length) o.divs.length
theorem Keys_spec {o:Org} {p:Pce} (ho:OrgK o) (h:PceK o p) (t:Int) (he:atE o p t=0):VFun env 30 [.agg (Enc.enc o),.agg (Enc.enc p),.int .i64 t] (.tup [.p (.lst 93 (cells (keysR o p t)) (keysR o p t).length),.p (.int .i64 0)]):=by
 have ha:=pieAt_spec o p ho.sm h.sm t
 rw [he] at ha
 have hs:=pieSnd_spec p h.sm t
 have d1:=ho.divs
 have hg:=fun i=>snd_gi (p:=p) (t:=t) (i:=i)
 have hsl:(snd p t).length≤1000:=Nat.le_trans (sndK_len p t _) h.notes
 have n1:=h.notes
 unfold keysR
 generalize snd p t=L at *
 refine VFun.enter (env_none (by decide)) Tryz.func30 rfl (by kernel_rfl) (by simp [Tryz.ntmps30]) ?_
 repeat' (first|(refine VOps.atOp 32 ?_;refine VOps.ghost (Ghost.freeze 31 rfl rfl) ?_)|apply VWp.assoc|apply VWp.rseq|apply VWp.skipSeq|apply VWp.blockSeq|apply VOps.nil|apply VOps.one|(apply VVal.fn;rfl;rfl;exact ha;intro _;rfl)|(apply VVal.fv;rfl;rfl;exact hs)|(apply VVal.makeSliceL o.divs.length (⟨⟩:NilS);rfl;rfl;rfl;rfl;rfl;rfl;rfl;omega;decide;decide;rfl)|(apply VVal.assign;rfl)|(apply VVal.move;rfl)|(apply VVal.int;rfl;rfl;rfl)|(apply VVal.load;rfl;rfl)|(apply VVal.lenF;rfl;rfl)|(apply VVal.fieldB;rfl;rfl;rfl)|(apply VVal.box;rfl;trivial)|(apply VWp.condSeq_false;rfl))
 all_goals try (exfalso;omega)
 all_goals try contradiction
 refine VWp.ghost (Ghost.openVec 2 rfl (by omega)) ?_
 refine VWp.ghost (H':=[(2,.vecp 41 ((cells (List.replicate o.divs.length (⟨⟩:NilS))).map .p) o.divs.length),(1,.box 45 ((Enc.enc p).map .p)),(0,.box 40 ((Enc.enc o).map .p))]++tailH 4 8 (fun _=>.vec 3 [] 0 true)) (Ghost.freshN (H:=[(2,.vecp 41 ((cells (List.replicate o.divs.length (⟨⟩:NilS))).map .p) o.divs.length),(1,.box 45 ((Enc.enc p).map .p)),(0,.box 40 ((Enc.enc o).map .p))]) 3 8 (hlt_cons (by decide) (hlt_cons (by decide) (hlt_cons (by decide) hlt_nil)))) ?_
 refine VWp.ghost (Ghost.useCells 2 4 (n:=o.divs.length) o.divs.length (fun j hj=>hget_skip (by omega) (hget_skip (by omega) (hget_skip (by omega) (hget_tail (by omega))))) (fun j hj=>by omega) ((show hget _ 2=some (HB.vecp 41 ((cells (List.replicate o.divs.length (⟨⟩:NilS))).map .p) o.divs.length) from rfl).trans (congrArg (fun l=>some (HB.vecp 41 l o.divs.length)) (nil_cells _))) (Nat.le_refl _)) ?_
 apply VWp.loopR (L.length) [(4,_),(9,_),(31,_),(32,_)] [] (fun k r=>(33,.p (.int .i64 (k:Int)))::r) (fun k _=>(2,kdV p L o.divs.length k)::(1,.box 45 ((Enc.enc p).map .p))::tailH 4 8 (tlK p L k)) 12
 ·first|omega|decide
 ·first|omega|decide
 ·repeat (first|exact LCov.nil|(refine LCov.eq rfl ?_ ?_;(first|exact PV.under_of rfl|(simp [PV.under,PVs.under];done)))|refine LCov.cons trivial rfl (.of_eq (lst_len (by simp<;>omega))) ?_)
 ·refine ⟨⟨lt_dec rfl,kdV_under d1.2,_,rfl,.of_eq ?_⟩,⟨lt_dec rfl,PVs.under_pure _ _,_,rfl,.refl _⟩,HCov.tail (fun j hj=>?_) (by omega) (fun j hj=>trivial)⟩
  ·unfold kdV
   rw [Nat.sub_self]
   simp only [List.replicate_zero,List.append_nil]
   rfl
  ·refine hget_put_ne (by omega) (hget_skip (by omega) (hget_skip (by omega) (hget_skip (by omega) ?_)))
   exact hget_tail hj
 ·intro k hk
  obtain ⟨g1,g2⟩:=hg k hk
  obtain ⟨m,hm⟩:∃ m:Nat,gi L k=(m:Int):=⟨(gi L k).toNat,by omega⟩
  have hm2:m<p.notes.length:=by omega
  have hN:=h.note m hm2
  obtain ⟨j,hj⟩:∃ j:Nat,(gi p.notes m).d=(j:Int):=⟨(gi p.notes m).d.toNat,by have:=hN.d;omega⟩
  have hjn:j<o.divs.length:=by have:=hN.d;omega
  have e1:∀ i,kdK p L i (k+1)=if i=j then kdK p L i k++[(gi p.notes m).k] else kdK p L i k:=fun i=>by
   show (if (gi p.notes (gi L k).toNat).d=(i:Int) then kdK p L i k++[(gi p.notes (gi L k).toNat).k] else kdK p L i k)=_
   rw [hm,Int.toNat_natCast,hj]
   by_cases e:i=j
   ·subst e;rw [if_pos rfl,if_pos rfl]
   ·rw [if_neg e,if_neg (by omega)]
  have hkl:=kdK_len p L j k
  have hgt:hget (tailH 4 8 (tlK p L k)) (4+j)=some (.vec 3 (cells (kdK p L j k)) (kdK p L j k).length true):=hget_tail (by omega)
  have hpt:∀ y,hput (tailH 4 8 (tlK p L k)) (4+j) y=tailH 4 8 (fun i=>if i=j then y else tlK p L k i):=fun y=>hput_tail (by omega)
  repeat' (first|(refine VOpsD.atIdx 11 ?_;apply VOpsD.weak [.tmp 43];decide +kernel;rfl;rfl;exact VOwn.vec (by (repeat (first|exact hgt|(refine hget_put_ne (by omega) ?_)|(refine hget_skip (by omega) ?_))));decide +kernel;exact vseps1 rfl rfl (by omega))|apply VWp.rseq|apply VWp.region|apply VWp.regionD|apply VWp.skipSeq|apply VWp.blockSeq|apply QSeq.normal|apply QBlk.normal|apply VOps.nil|apply VOpsD.nil|apply VOps.one|(apply VOpsD.bar;decide +kernel)|apply VOpsD.quiet|(apply VVal.indexN (l:=p.notes) (i:=m);rfl;exact congrArg (fun b=>some (PV.p (.int .i64 b))) hm;rfl;omega;rfl)|(apply VVal.indexQ (i:=j);rfl;rfl;exact congrArg (fun b=>some (PV.p (.int .i64 b))) hj;rfl;omega)|(apply VVal.loadQ;rfl;rfl;rfl;(show (List.map _ (List.range o.divs.length))[j*1]?=_;rw [Nat.mul_one];exact map_range_at _ hjn))|(apply VVal.append1X (l:=kdK p L j k) (a:=(gi p.notes m).k);rfl;((repeat (first|exact hgt|(refine hget_put_ne (by omega) ?_)|(refine hget_skip (by omega) ?_))));rfl;rfl;rfl;rfl;rfl;rfl;(intro _ h;cases h);rfl;rfl;rfl;decide;decide;omega;((repeat (first|exact hpt _|(apply hput_put_ne;omega)|(apply hput_skip;omega)))))|(apply VVal.storeQ;rfl;rfl;rfl;trivial;rfl;rfl;decide;(show j*1+1≤(List.map _ (List.range o.divs.length)).length;rw [List.length_map,List.length_range];omega))|(apply VVal.assign;rfl)|(apply VVal.move;rfl)|(apply VVal.add64;rfl;rfl;omega)|(apply VVal.int;rfl;rfl;rfl)|(apply VVal.indexN;rfl;rfl;rfl;omega;rfl)|(apply VVal.load;rfl;rfl)|(apply VVal.fieldB;rfl;rfl;rfl)|(apply VVal.alloc;rfl)|(apply VVal.storeB;rfl;rfl;rfl;trivial;rfl;rfl;exact lt_dec rfl;exact le_dec rfl)|(apply VVal.buildSlice;rfl;rfl;rfl;decide;rfl;rfl;rfl)|(apply VWp.condSeq_dec;rfl)|(intro _;try (exfalso;omega)))
  all_goals try (exfalso;omega)
  refine QLoop.normal ⟨by first|omega|decide,?_,?_⟩
  ·repeat (first|exact LCov.nil|refine LCov.same (by exact PV.under_of rfl) rfl ?_|refine LCov.cons trivial rfl (.of_eq (lst_len (by simp<;>omega))) ?_)
  ·refine ⟨⟨lt_dec rfl,kdV_under d1.2,_,rfl,.of_eq ?_⟩,⟨lt_dec rfl,PVs.under_pure _ _,_,rfl,.refl _⟩,HCov.tail (fun i hi=>?_) (by omega) (fun j hj=>trivial)⟩
   ·show HB.vecp 41 (List.set ((List.range o.divs.length).map fun j=>PV.vec (4+j) (kdK p L j k).length 0 (kdK p L j k).length) (j*1) (.vec (4+j) ((kdK p L j k).length+1) 0 ((kdK p L j k).length+1))) o.divs.length=kdV p L o.divs.length (k+1)
    unfold kdV
    rw [Nat.mul_one,map_range_set]
    congr 1
    refine map_range_congr fun i hi=>?_
    rw [e1 i]
    by_cases e:i=j
    ·subst e;rw [if_pos rfl,if_pos rfl];simp
    ·rw [if_neg e,if_neg e]
   ·repeat (first|(refine hget_put_ne (by omega) ?_)|(refine hget_skip (by omega) ?_))
    rw [hget_tail hi]
    unfold tlK
    rw [e1 i]
    by_cases e:i=j
    ·subst e;rw [if_pos rfl,if_pos rfl];simp
    ·rw [if_neg e,if_neg e]
 ·obtain ⟨H',q1,q2⟩:=Ghost.freezeCells (E:=env) (L:=(33,.p (.int .i64 (L.length:Int)))::_) (H:=(2,kdV p L o.divs.length L.length)::(1,.box 45 ((Enc.enc p).map .p))::tailH 4 8 (tlK p L L.length)) (nx:=12) 2 4 o.divs.length (fun j=>cells (kdK p L j L.length)) (fun j=>(kdK p L j L.length).length) (z:=true) rfl (fun j hj=>hget_skip (by omega) (hget_skip (by omega) (hget_tail (by omega)))) (fun j hj=>by omega)
  refine VWp.ghost q2 ?_
  obtain ⟨KD,hKD⟩:∃ KD,KD=(List.range o.divs.length).map fun j=>kdK p L j L.length:=⟨_,rfl⟩
  have hcl:cells KD=(List.range o.divs.length).map fun j=>FV.lst 3 (cells (kdK p L j L.length)) (kdK p L j L.length).length:=by
   rw [cells_lists,hKD,List.map_map];rfl
  have hKl:KD.length=o.divs.length:=by rw [hKD];simp
  have hKg:∀ d,d<o.divs.length→gi KD d=kdK p L d L.length:=fun d hd=>by
   unfold gi;rw [hKD,map_range_at _ hd];rfl
  refine VWp.ghost (Ghost.closeVec 2 (cells KD) q1 (by omega) (by rw [hcl,List.map_map];rfl)) ?_
  refine VWp.weaken (L0:=[(9,.vec 2 o.divs.length 0 o.divs.length),(32,.p (.int .i64 (L.length:Int))),(33,.p (.int .i64 (L.length:Int)))]) (H0:=[(2,.vec 41 (cells KD) o.divs.length false)]) (nx0:=12) (by decide) ⟨by decide,by repeat (first|exact LCov.nil|refine LCov.same (by exact PV.under_of rfl) rfl ?_|refine LCov.cons trivial rfl (.of_eq (lst_len (by simp<;>omega))) ?_),⟨⟨lt_dec rfl,trivial,_,by rw [hget_hput,if_pos rfl,q1];rfl,.refl _⟩,trivial⟩⟩ ?_
  repeat' (first|apply VWp.assoc|apply VWp.rseq|apply VWp.exitSeq|apply VWp.blockSeq|apply QSeq.normal|apply QBlk.exit|apply QLoop.exit|apply VOps.nil|apply VOps.one|(apply VVal.assign;rfl)|(apply VVal.move;rfl)|(apply VVal.int;rfl;rfl;rfl)|(apply VVal.lenV;rfl;rfl;rfl)|(apply VWp.condSeq_dec;rfl)|(intro _;try (exfalso;omega)))
  all_goals try (exfalso;omega)
  refine VWp.ghost (Ghost.adopt 13 93 rfl) ?_
  obtain ⟨F,hF⟩:∃ F:Nat→Nts,F=fun d=>ofK (kdK p L d L.length) (kdK p L d L.length).length:=⟨_,rfl⟩
  rw [← hF]
  apply VWp.loopR (o.divs.length) [(56,_),(57,_)] [(2,_)] (fun k r=>(58,.p (.int .i64 (k:Int)))::(13,.vec 12 (snocK F k).length 0 (snocK F k).length)::r) (fun k r=>(12,.vec 93 (cells (snocK F k)) (snocK F k).length true)::r) 13
  ·first|omega|decide
  ·first|omega|decide
  ·repeat (first|exact LCov.nil|(refine LCov.eq rfl ?_ ?_;(first|exact PV.under_of rfl|(simp [PV.under,PVs.under];done)))|refine LCov.cons trivial rfl (.of_eq (lst_len (by simp<;>omega))) ?_)
  ·repeat (first|exact HCov.nil|(refine HCov.eq rfl (lt_dec rfl) ?_ ?_;(first|exact HB.under_of rfl|exact PVs.under_pure _ _|(simp [HB.under,PVs.under,PV.under];done)))|(refine HCov.cons (lt_dec rfl) ?_ rfl ?_ ?_;(first|exact trivial|exact PVs.under_pure _ _|(simp [HB.under,PVs.under,PV.under]));(first|exact HLe.refl _|exact HLe.vec (FLes.refl _) (by simp))))
  ·intro k hk
   have hl:=snocK_len F k
   have e1:snocK F (k+1)=snocK F k++[F k]:=rfl
   have e2:(snocK F (k+1)).length=(snocK F k).length+1:=by rw [e1];simp
   have hk3:=kdK_len p L k L.length
   have hof:=ofN_spec (gi KD k) (by rw [hKg k hk];omega) (by
    rw [hKg k hk]
    exact kdK_rng ho h hg L.length (Nat.le_refl _))
   have hFk:Enc.enc (ofK (gi KD k) (gi KD k).length)=Enc.enc (F k):=by rw [hKg k hk,hF]
   rw [hFk] at hof
   repeat' (first|apply VWp.rseq|apply VWp.region|apply VWp.skipSeq|apply VWp.blockSeq|apply QSeq.normal|apply QBlk.normal|apply VOps.nil|apply VOps.one|(apply VVal.fn;rfl;rfl;exact hof;intro _;rfl)|(apply VVal.append1 (a:=F k);rfl;rfl;rfl;rfl;rfl;rfl;rfl;rfl;(intro _ h;cases h);rfl;rfl;rfl;decide;decide;(first|omega|(simp only [List.length_take,List.length_drop,List.length_append,List.length_singleton,List.length_cons,List.length_nil]<;>omega)))|(apply VVal.assign;rfl)|(apply VVal.move;rfl)|(apply VVal.add64;rfl;rfl;omega)|(apply VVal.int;rfl;rfl;rfl)|(apply VVal.loadVL;rfl;rfl;omega;rfl)|(apply VVal.load;rfl;rfl)|(apply VVal.alloc;rfl)|(apply VVal.storeB;rfl;rfl;rfl;trivial;rfl;rfl;exact lt_dec rfl;exact le_dec rfl)|(apply VVal.buildSlice;rfl;rfl;rfl;decide;rfl;rfl;rfl)|(apply VVal.indexVN;rfl;rfl;rfl;rfl;omega)|(apply VVal.extract;rfl;rfl)|(apply VWp.condSeq_dec;rfl)|(intro _;try (exfalso;omega)))
   all_goals try (exfalso;omega)
   refine QLoop.normal ⟨by first|omega|decide,?_,?_⟩
   ·try (first|rw [e2,e1]|rw [e2])
    repeat (first|exact LCov.nil|refine LCov.same (by exact PV.under_of rfl) rfl ?_|refine LCov.cons trivial rfl (.of_eq (lst_len (by simp<;>omega))) ?_)
   ·first|rw [e2,e1]|rw [e2]
    repeat (first|exact HCov.nil|(refine HCov.cons (lt_dec rfl) ?_ rfl ?_ ?_;(first|exact HB.under_of rfl|exact PVs.under_pure _ _|(simp [HB.under,PVs.under,PV.under]));(first|exact HLe.refl _|exact HLe.vec (FLes.refl _) (by simp))))
  ·repeat' (first|(refine VOps.atOp 6 ?_;refine VOps.ghost (Ghost.freeze 72 rfl rfl) ?_)|apply VWp.rseq|apply VWp.exitSeq|apply QSeq.normal|apply QBlk.exit|apply QLoop.exit|apply VWp.ret|apply VOps.nil|apply VOps.one|(apply VVal.assign;rfl)|(apply VVal.move;rfl)|(apply VVal.int;rfl;rfl;rfl)|(apply VWp.condSeq_dec;rfl)|(intro _;try (exfalso;omega)))
   all_goals first|(exfalso;omega)|(refine Done.ret rfl (.refl _) (by exact PV.under_of rfl) HCov.nil (Nat.zero_le _) (Nat.le_refl _) ⟨?_,rfl,rfl⟩;try rfl)
end Go.Proofs.YtnhdddmhkhdlhaaGreatDoor
namespace Go.Proofs.YtnhdddmhkhdlhaaGreatDoor
open Go Go.Am Go.Vm Go.Pie
attribute [local irreducible] VVal VOps VOpsD VWp VCalls VFun VFunV QSeq QBlk QLoop Vm.Done DoneV DoneI
attribute [local irreducible] rchk windsE stoE dvsE cplE shiftR tailH
instance:Enc Slc:={ default:=⟨0,0,[]⟩,enc:=fun x=>[.int .i64 x.s,.int .i64 x.e,.lst 3 (cells x.notes) x.notes.length],size:=3,len:=fun _=>rfl }
def zsK (p:Pce):Nat→List Int
 |0=>[fstB p,endB p]
 |k+1=>zsK p k++[(gi p.notes k).s,(gi p.notes k).e]
theorem zsK_len (p:Pce):∀ k,(zsK p k).length=2*k+2
 |0=>rfl
 |k+1=>by
  have:=zsK_len p k
  unfold zsK
  simp only [List.length_append,List.length_cons,List.length_nil]
  omega
def tksP (p:Pce):List Int:=Lib.compact ((zsK p p.notes.length).mergeSort fun x y=>decide (x≤y))
theorem compact_len (zs:List Int):(Lib.compact zs).length≤zs.length:=by
 unfold Lib.compact Lib.compactUpTo
 rw [List.length_map]
 exact Nat.le_trans (List.length_filter_le _ _) (by simp)
theorem tks_pos (p:Pce):0<(tksP p).length:=by
 have h0:fstB p∈tksP p:=by
  unfold tksP
  rw [compact_mem,List.mem_mergeSort]
  have:∀ k,fstB p∈zsK p k:=by
   intro k
   induction k with
   |zero=>simp [zsK]
   |succ k ih=>exact List.mem_append_left _ ih
  exact this _
 exact List.length_pos_of_mem h0
theorem rfs0:∀ (m:Mem) (F:Nat→Prop) (us:List Value),RFs m F [] us→us=[]:=fun m F us h=>by cases h;rfl
def sndL (p:Pce):List Slc:=strT (snd p) (tksP p)
theorem Slices_spec {o:Org} {p:Pce} (ho:OrgSm o) (hE:pceE o p=0) (h:PceK o p):VFun env 17 [.agg (Enc.enc o),.agg (Enc.enc p)] (.tup [.p (.lst 59 (cells (sndL p)) (sndL p).length),.p (.int .i64 0)]):=by
 have ha:=pieCheck_spec o p ho h.sm
 rw [hE] at ha
 have hen:=ends_spec p (by have:=h.bars;omega) h.sm.bars
 have n1:=h.notes
 have hsn:=pieSnd_spec p h.sm
 refine VFun.enter (env_none (by decide)) Tryz.func17 rfl (by kernel_rfl) (by simp [Tryz.ntmps17]) ?_
 repeat' (first|apply VWp.assoc|apply VWp.rseq|apply VWp.skipSeq|apply VWp.blockSeq|apply VOps.nil|apply VOps.one|(apply VVal.fn;rfl;rfl;exact ha;intro _;rfl)|(apply VVal.fn;rfl;rfl;exact hen;intro _;rfl)|(apply VVal.assign;rfl)|(apply VVal.move;rfl)|(apply VVal.int;rfl;rfl;rfl)|(apply VVal.load;rfl;rfl)|(apply VVal.lenF;rfl;rfl)|(apply VVal.fieldB;rfl;rfl;rfl)|(apply VVal.box;rfl;trivial)|(apply VVal.buildSlice;rfl;rfl;rfl;decide;rfl;rfl;rfl)|(apply VVal.extract;rfl;rfl)|(apply VWp.condSeq_false;rfl))
 all_goals try (exfalso;omega)
 all_goals try contradiction
 apply VWp.loopR (p.notes.length) [(3,_),(30,_),(31,_)] [(1,_)] (fun k r=>(32,.p (.int .i64 (k:Int)))::(9,.vec 2 (zsK p k).length 0 (zsK p k).length)::r) (fun k r=>(2,.vec 3 (cells (zsK p k)) (zsK p k).length false)::r) 3
 ·first|omega|decide
 ·first|omega|decide
 ·repeat (first|exact LCov.nil|(refine LCov.eq rfl ?_ ?_;(first|exact PV.under_of rfl|(simp [PV.under,PVs.under];done)))|refine LCov.cons trivial rfl (.of_eq (lst_len (by simp<;>omega))) ?_)
 ·repeat (first|exact HCov.nil|(refine HCov.eq rfl (lt_dec rfl) ?_ ?_;(first|exact HB.under_of rfl|exact PVs.under_pure _ _|(simp [HB.under,PVs.under,PV.under];done)))|(refine HCov.cons (lt_dec rfl) ?_ rfl ?_ ?_;(first|exact trivial|exact PVs.under_pure _ _|(simp [HB.under,PVs.under,PV.under]));(first|exact HLe.refl _|exact HLe.vec (FLes.refl _) (by simp))))
 ·intro k hk
  have hl:=zsK_len p k
  have e1:zsK p (k+1)=zsK p k++[(gi p.notes k).s,(gi p.notes k).e]:=rfl
  have e2:(zsK p (k+1)).length=(zsK p k).length+2:=by rw [e1];simp
  repeat' (first|apply VWp.rseq|apply VWp.region|apply VWp.skipSeq|apply VWp.blockSeq|apply QSeq.normal|apply QBlk.normal|apply VOps.nil|apply VOps.one|(apply VVal.append2 (l:=zsK p k) (gi p.notes k).s (gi p.notes k).e;rfl;rfl;rfl;rfl;rfl;rfl;rfl;rfl;(intro _ h;cases h);rfl;rfl;rfl;decide;decide;omega)|(apply VVal.assign;rfl)|(apply VVal.move;rfl)|(apply VVal.add64;rfl;rfl;omega)|(apply VVal.int;rfl;rfl;rfl)|(apply VVal.indexN;rfl;rfl;rfl;omega;rfl)|(apply VVal.load;rfl;rfl)|(apply VVal.fieldB;rfl;rfl;rfl)|(apply VVal.alloc;rfl)|(apply VVal.storeB;rfl;rfl;rfl;trivial;rfl;rfl;exact lt_dec rfl;exact le_dec rfl)|(apply VVal.buildSlice;rfl;rfl;rfl;decide;rfl;rfl;rfl)|(apply VWp.condSeq_dec;rfl)|(intro _;try (exfalso;omega)))
  all_goals try (exfalso;omega)
  refine QLoop.normal ⟨by first|omega|decide,?_,?_⟩
  ·try (first|rw [e2,e1]|rw [e2])
   repeat (first|exact LCov.nil|refine LCov.same (by exact PV.under_of rfl) rfl ?_|refine LCov.cons trivial rfl (.of_eq (lst_len (by simp<;>omega))) ?_)
  ·first|rw [e2,e1]|rw [e2]
   repeat (first|exact HCov.nil|(refine HCov.cons (lt_dec rfl) ?_ rfl ?_ ?_;(first|exact HB.under_of rfl|exact PVs.under_pure _ _|(simp [HB.under,PVs.under,PV.under]));(first|exact HLe.refl _|exact HLe.vec (FLes.refl _) (by simp))))
 ·have hl:=zsK_len p p.notes.length
  obtain ⟨zs,hzs⟩:∃ zs,zs=zsK p p.notes.length:=⟨_,rfl⟩
  have hcl:=compact_len ((zsK p p.notes.length).mergeSort fun x y=>decide (x≤y))
  have hml:((zsK p p.notes.length).mergeSort fun x y=>decide (x≤y)).length=(zsK p p.notes.length).length:=List.length_mergeSort _
  have htp:=tks_pos p
  have htc:((tksP p).length:Int)-1=(((tksP p).length-1:Nat):Int):=by omega
  rw [show Lib.compact ((zsK p p.notes.length).mergeSort fun x y=>decide (x≤y))=tksP p from rfl] at hcl
  repeat' (first|(refine VWp.at 14 ?_;refine VWp.ghost (Ghost.freeze 9 rfl rfl) ?_;first|apply VWp.rseq|apply VWp.rseqD)|apply VWp.assoc|apply VWp.rseq|apply VWp.exitSeq|apply VWp.blockSeq|apply QSeq.normal|apply QBlk.exit|apply QLoop.exit|apply VOps.nil|apply VOps.one|((refine VVal.inPut (Fn:=sortF) (zs':=(zsK p p.notes.length).mergeSort fun x y=>decide (x≤y)) sort_at rfl rfl rfl (rest:=[]) (rv:=[]) rfs0 rfl rfl (by omega) ?_ (by omega) ?_;(simp only [sortF];rw [if_pos (by omega)])))|((refine VVal.inCut (Fn:=compF) (zs:=(zsK p p.notes.length).mergeSort fun x y=>decide (x≤y)) (zs':=tksP p++List.replicate ((zsK p p.notes.length).length-(tksP p).length) 0) (k:=(tksP p).length) comp_at rfl rfl rfl (rest:=[]) (rv:=[]) rfs0 rfl hml (by omega) ?_ (by simp;omega) (by omega) ?_;(simp only [compF];rw [if_pos (by omega),hml];rfl);rw [List.take_left]))|(apply VVal.sliceTo (b:=(tksP p).length-1);rfl;exact congrArg (fun b=>some (PV.p (.int .i64 b))) htc;rfl;rfl;rfl;rfl;omega)|(apply VVal.assign;rfl)|(apply VVal.move;rfl)|(apply VVal.sub64;rfl;rfl;omega)|(apply VVal.int;rfl;rfl;rfl)|(apply VVal.lenF;rfl;rfl)|(apply VWp.condSeq_dec;rfl)|(intro _;try (exfalso;omega)))
  all_goals try (exfalso;omega)
  refine VWp.ghost (Ghost.adopt 12 59 rfl) ?_
  obtain ⟨F,hF⟩:∃ F:Nat→Slc,F=fun i=>⟨gi (tksP p) i,gi (tksP p) (i+1),snd p (gi (tksP p) i)⟩:=⟨_,rfl⟩
  have hR:sndL p=snocK F ((tksP p).length-1):=by rw [hF];rfl
  rw [hR]
  apply VWp.loopR ((tksP p).length-1) [(3,_),(9,_),(52,_),(53,_)] [(1,_)] (fun k r=>(54,.p (.int .i64 (k:Int)))::(12,.vec 4 (snocK F k).length 0 (snocK F k).length)::r) (fun k r=>(4,.vec 59 (cells (snocK F k)) (snocK F k).length true)::r) 5
  ·first|omega|decide
  ·first|omega|decide
  ·repeat (first|exact LCov.nil|(refine LCov.eq rfl ?_ ?_;(first|exact PV.under_of rfl|(simp [PV.under,PVs.under];done)))|refine LCov.cons trivial rfl (.of_eq (lst_len (by simp<;>omega))) ?_)
  ·repeat (first|exact HCov.nil|(refine HCov.eq rfl (lt_dec rfl) ?_ ?_;(first|exact HB.under_of rfl|exact PVs.under_pure _ _|(simp [HB.under,PVs.under,PV.under];done)))|(refine HCov.cons (lt_dec rfl) ?_ rfl ?_ ?_;(first|exact trivial|exact PVs.under_pure _ _|(simp [HB.under,PVs.under,PV.under]));(first|exact HLe.refl _|exact HLe.vec (FLes.refl _) (by simp))))
  ·intro k hk
   have hlF:=snocK_len F k
   have hFk:F k=⟨gi (tksP p) k,gi (tksP p) (k+1),snd p (gi (tksP p) k)⟩:=by rw [hF]
   have e1:snocK F (k+1)=snocK F k++[⟨gi (tksP p) k,gi (tksP p) (k+1),snd p (gi (tksP p) k)⟩]:=by rw [← hFk];rfl
   have e2:(snocK F (k+1)).length=(snocK F k).length+1:=by rw [e1];simp
   have hg:gi ((tksP p).take ((tksP p).length-1)) k=gi (tksP p) k:=gi_take hk
   have hk1:(k:Int)+1=((k+1:Nat):Int):=by omega
   have hs:=hsn (gi (tksP p) k)
   repeat' (first|(refine VOpsD.atIdx 10 ?_;refine VOpsD.ghost (Ghost.freeze 68 rfl rfl) ?_)|(refine VOpsD.atIdx 9 ?_;apply VOpsD.weakF [.tmp 64];decide +kernel;decide +kernel;rfl)|apply VWp.rseq|apply VWp.region|apply VWp.regionD|apply VWp.skipSeq|apply VWp.blockSeq|apply QSeq.normal|apply QBlk.normal|apply VOps.nil|apply VOpsD.nil|apply VOps.one|(apply VOpsD.bar;decide +kernel)|apply VOpsD.quiet|(apply VVal.fv;rfl;rfl;exact hs)|(apply VVal.indexN (l:=(tksP p).take ((tksP p).length-1)) (i:=k);rfl;rfl;rfl;(rw [List.length_take];omega);(rw [List.length_take];omega))|(apply VVal.load (r:=.p (.int .i64 (gi (tksP p) k)));rfl;exact (congrArg (fun b=>some (PV.p (FV.int .i64 b))) hg))|(apply VVal.indexN (l:=tksP p) (i:=k+1);rfl;exact congrArg (fun b=>some (PV.p (.int .i64 b))) hk1;rfl;omega;rfl)|(apply VVal.append1 (a:=(⟨gi (tksP p) k,gi (tksP p) (k+1),snd p (gi (tksP p) k)⟩:Slc));rfl;rfl;rfl;rfl;rfl;rfl;rfl;rfl;(intro _ h;cases h);rfl;rfl;rfl;decide;decide;(first|omega|(simp only [List.length_take,List.length_drop,List.length_append,List.length_singleton,List.length_cons,List.length_nil]<;>omega)))|(apply VVal.assign;rfl)|(apply VVal.move;rfl)|(apply VVal.add64;rfl;rfl;omega)|(apply VVal.int;rfl;rfl;rfl)|(apply VVal.load;rfl;rfl)|(apply VVal.build;rfl;rfl;rfl;rfl;rfl)|(apply VVal.buildSlice;rfl;rfl;rfl;decide;rfl;rfl;rfl)|(apply VWp.condSeq_dec;rfl)|(intro _;try (exfalso;omega)))
   all_goals try (exfalso;omega)
   refine QLoop.normal ⟨by first|omega|decide,?_,?_⟩
   ·try (first|rw [e2,e1]|rw [e2])
    repeat (first|exact LCov.nil|refine LCov.same (by exact PV.under_of rfl) rfl ?_|refine LCov.cons trivial rfl (.of_eq (lst_len (by simp<;>omega))) ?_)
   ·first|rw [e2,e1]|rw [e2]
    repeat (first|exact HCov.nil|(refine HCov.cons (lt_dec rfl) ?_ rfl ?_ ?_;(first|exact HB.under_of rfl|exact PVs.under_pure _ _|(simp [HB.under,PVs.under,PV.under]));(first|exact HLe.refl _|exact HLe.vec (FLes.refl _) (by simp))))
  ·repeat' (first|(refine VOps.atOp 4 ?_;refine VOps.ghost (Ghost.freeze 73 rfl rfl) ?_)|apply VWp.rseq|apply VWp.exitSeq|apply QSeq.normal|apply QBlk.exit|apply QLoop.exit|apply VWp.ret|apply VOps.nil|apply VOps.one|(apply VVal.assign;rfl)|(apply VVal.move;rfl)|(apply VVal.int;rfl;rfl;rfl)|(apply VWp.condSeq_dec;rfl)|(intro _;try (exfalso;omega)))
   all_goals first|(exfalso;omega)|(refine Done.ret rfl (.refl _) (by exact PV.under_of rfl) HCov.nil (Nat.zero_le _) (Nat.le_refl _) ⟨?_,rfl,rfl⟩;try rfl)
end Go.Proofs.YtnhdddmhkhdlhaaGreatDoor
namespace Go.Proofs.YtnhdddmhkhdlhaaGreatDoor
open Go Go.Am Go.Vm Go.Pie
attribute [local irreducible] VVal VOps VOpsD VWp VCalls VFun VFunV QSeq QBlk QLoop Vm.Done DoneV DoneI
attribute [local irreducible] rchk windsE stoE dvsE cplE shiftR tailH
theorem cloneB_spec (l:List Int) (h0:0<l.length) (h1:l.length<1000000):VFunV env 57 [.lst 3 (cells l) l.length] 3 (cells l) l.length false:=by
 refine VFunV.enter (env_none (by decide)) Tryz.func57 rfl (by kernel_rfl) (by simp [Tryz.ntmps57]) ?_
 repeat' (first|apply VWp.assoc|apply VWp.rseq|apply VWp.skipSeq|apply VWp.ret|apply VOps.nil|apply VOps.one|(apply VVal.eqNilF;rfl;rfl;rfl;exact h0)|(apply VVal.assign;rfl)|(apply VVal.move;rfl)|(apply VVal.buildSlice;rfl;rfl;rfl;decide;rfl;rfl;rfl)|(apply VVal.appendL0;rfl;rfl;rfl;(first|rfl|omega|(simp only [List.length_take,List.length_drop,List.length_append,List.length_singleton,List.length_cons,List.length_nil]<;>omega));rfl;rfl;(intro _ h;cases h);rfl;rfl;rfl;decide;decide;(first|omega|(simp only [List.length_take,List.length_drop,List.length_append,List.length_singleton,List.length_cons,List.length_nil]<;>omega)))|(apply VWp.condSeq_false;rfl))
 exact DoneV.ret rfl rfl rfl rfl
def ctN (p:Pce) (a z:Int):Nat→List Nte
 |0=>[]
 |k+1=>if (gi p.notes k).s<z∧(gi p.notes k).e>a then ctN p a z k++[⟨max (gi p.notes k).s a,min (gi p.notes k).e z,(gi p.notes k).d,(gi p.notes k).k⟩] else ctN p a z k
theorem ctN_len (p:Pce) (a z:Int):∀ k,(ctN p a z k).length≤k
 |0=>Nat.le_refl _
 |k+1=>by
  have:=ctN_len p a z k
  unfold ctN
  split
  ·simp;omega
  ·omega
def ctS0 (p:Pce) (f:Nat):List Stg:=if 0≤wan p (gi p.bars f)∧(gi p.sets (wan p (gi p.bars f)).toNat).bar<f then [⟨0,(gi p.sets (wan p (gi p.bars f)).toNat).reg⟩] else []
def ctS (p:Pce) (f t:Nat) (s0:List Stg):Nat→List Stg
 |0=>s0
 |k+1=>if (gi p.sets k).bar≥f∧(gi p.sets k).bar<t then ctS p f t s0 k++[⟨(gi p.sets k).bar-f,(gi p.sets k).reg⟩] else ctS p f t s0 k
theorem ctS0_len (p:Pce) (f:Nat):(ctS0 p f).length≤1:=by
 unfold ctS0
 split<;>simp
theorem ctS_len (p:Pce) (f t:Nat) (s0:List Stg):∀ k,(ctS p f t s0 k).length≤s0.length+k
 |0=>Nat.le_refl _
 |k+1=>by
  have:=ctS_len p f t s0 k
  unfold ctS
  split
  ·simp;omega
  ·omega
def ctB (p:Pce) (f t:Nat):List Int:=(p.bars.drop f).take (t+1-f)
def cutP (p:Pce) (f t:Nat):Pce:=⟨ctB p f t,ctN p (gi p.bars f) (gi p.bars t) p.notes.length,ctS p f t (ctS0 p f) p.sets.length⟩
theorem ctB_len {p:Pce} {f t:Nat} (h1:f<t) (h2:t<p.bars.length):(ctB p f t).length=t+1-f:=by
 unfold ctB;rw [List.length_take,List.length_drop];omega
theorem ctB_gi {p:Pce} {f t i:Nat} (h:i<t+1-f):gi (ctB p f t) i=gi p.bars (f+i):=by
 unfold ctB gi
 rw [List.getElem?_take_of_lt h,List.getElem?_drop]
def pceZ:List FV:=[.val (.slice none 0 0),.val (.slice none 0 0),.val (.slice none 0 0)]
theorem Cut_spec {o:Org} {p:Pce} (ho:OrgK o) (hE:pceE o p=0) (h:PceK o p) (f t:Nat) (h1:f<t) (h2:t<p.bars.length):VFun env 22 [.agg (Enc.enc o),.agg (Enc.enc p),.int .i64 (f:Int),.int .i64 (t:Int)] (.tup [.p (.agg (Enc.enc (cutP p f t))),.p (.int .i64 0)]):=by
 have ha:=pieCheck_spec o p ho.sm h.sm
 rw [hE] at ha
 have d1:=ho.divs
 have n1:=h.notes
 have n2:=h.bars
 have n3:=h.sets
 have hBl:=ctB_len h1 h2
 have hBf:gi (ctB p f t) 0=gi p.bars f:=ctB_gi (by omega)
 have hBt:gi (ctB p f t) (t+1-f-1)=gi p.bars t:=by rw [ctB_gi (by omega)];congr 1;omega
 have hcb:=cloneB_spec (ctB p f t) (by omega) (by omega)
 have hen:=ends_spec ⟨ctB p f t,[],[]⟩ (by show 0<(ctB p f t).length;omega) (by show (ctB p f t).length<_;omega)
 rw [show fstB ⟨ctB p f t,[],[]⟩=gi p.bars f from hBf,show endB ⟨ctB p f t,[],[]⟩=gi p.bars t by show gi (ctB p f t) ((ctB p f t).length-1)=_;rw [hBl,hBt]] at hen
 have hen:VFun env 53 [.agg [.lst 3 (cells (ctB p f t)) (t+1-f),.val (.slice none 0 0),.val (.slice none 0 0)]] (.tup [.p (.int .i64 (gi p.bars f)),.p (.int .i64 (gi p.bars t))]):=by
  refine VFun.le ?_ hen
  rw [show Enc.enc (⟨ctB p f t,[],[]⟩:Pce)=[.lst 3 (cells (ctB p f t)) (t+1-f),.lst 66 [] 0,.lst 74 [] 0] by show [FV.lst 3 (cells (ctB p f t)) (ctB p f t).length,_,_]=_;rw [hBl];rfl]
  exact .cons (.agg (.cons (.refl _) (.cons (.nil _) (.cons (.nil _) (.refl _))))) (.refl _)
 have hw:=pieWan_spec h (gi p.bars f)
 have hwr:=wanK_rng p (gi p.bars f) p.sets.length
 rw [show wanK p (gi p.bars f) p.sets.length=wan p (gi p.bars f) from rfl] at hwr
 have hcop:∀ i,i<p.sets.length→VFun env 59 [.agg (Enc.enc (gi p.sets i).reg)] (.p (.agg (Enc.enc (gi p.sets i).reg))):=fun i hi=>by
  have hl:=regE_len0 (h.set i hi).2.2
  exact pieCopied_spec _ (by omega) (by omega)
 have hBe:Enc.enc (cutP p f t)=[.lst 3 (cells (ctB p f t)) (t+1-f),.lst 66 (cells (ctN p (gi p.bars f) (gi p.bars t) p.notes.length)) (ctN p (gi p.bars f) (gi p.bars t) p.notes.length).length,.lst 74 (cells (ctS p f t (ctS0 p f) p.sets.length)) (ctS p f t (ctS0 p f) p.sets.length).length]:=by
  show [FV.lst 3 (cells (ctB p f t)) (ctB p f t).length,_,_]=_
  rw [hBl]
  rfl
 rw [hBl] at hcb
 rw [hBe]
 have hS0:=ctS0_len p f
 refine VFun.enter (env_none (by decide)) Tryz.func22 rfl (by kernel_rfl) (by simp [Tryz.ntmps22]) ?_
 repeat' (first|(refine VOps.atOp 49 ?_;refine VOps.ghost (Ghost.freeze 48 rfl rfl) ?_)|apply VWp.assoc|apply VWp.rseq|apply VWp.skipSeq|apply VWp.blockSeq|apply VOps.nil|apply VOps.one|(apply VOps.take;rfl;rfl)|(apply VOps.guard;rfl;rfl)|(apply VVal.fn;rfl;rfl;exact ha;intro _;rfl)|(apply VVal.fn;rfl;rfl;exact hen;intro _;rfl)|(apply VVal.fv;rfl;rfl;exact hcb)|(apply VVal.sliceFT;rfl;rfl;rfl;rfl;rfl;rfl;rfl;omega)|(apply VVal.assign;rfl)|(apply VVal.move;rfl)|(apply VVal.add64;rfl;rfl;omega)|(apply VVal.sub64;rfl;rfl;omega)|(apply VVal.int;rfl;rfl;rfl)|(apply VVal.load;rfl;rfl)|(apply VVal.pick_false;rfl;rfl)|(apply VVal.lenF;rfl;rfl)|(apply VVal.fieldB;rfl;rfl;rfl)|(apply VVal.box;rfl;trivial)|(apply VVal.alloc;rfl)|(apply VVal.storeB;rfl;rfl;rfl;trivial;rfl;rfl;exact lt_dec rfl;exact le_dec rfl)|(apply VVal.build;rfl;rfl;rfl;rfl;rfl)|(apply VVal.extract;rfl;rfl)|(apply VWp.condSeq_false;rfl)|(apply VWp.condSeq_dec;rfl)|(intro _;try (exfalso;omega)))
 all_goals try (exfalso;omega)
 all_goals try contradiction
 refine VWp.ghost (Ghost.adoptCell 4 1 66 rfl rfl) ?_
 refine VWp.ghost (Ghost.adoptCell 4 2 74 rfl rfl) ?_
 have hNl:=ctN_len p (gi p.bars f) (gi p.bars t)
 apply VWp.loopR (p.notes.length) [(2,_),(3,_),(5,_),(8,_),(12,_),(13,_),(11,_),(56,_),(57,_)] [(1,_),(2,_),(6,_)] (fun k r=>(58,.p (.int .i64 (k:Int)))::r) (fun k r=>(5,.vec 66 (cells (ctN p (gi p.bars f) (gi p.bars t) k)) (ctN p (gi p.bars f) (gi p.bars t) k).length true)::(4,.box 45 [.p (.lst 3 (cells (ctB p f t)) (t+1-f)),.vec 5 (ctN p (gi p.bars f) (gi p.bars t) k).length 0 (ctN p (gi p.bars f) (gi p.bars t) k).length,.vec 6 0 0 0])::r) 7
 ·first|omega|decide
 ·first|omega|decide
 ·repeat (first|exact LCov.nil|(refine LCov.eq rfl ?_ ?_;(first|exact PV.under_of rfl|(simp [PV.under,PVs.under];done)))|refine LCov.cons trivial rfl (.of_eq (lst_len (by simp<;>omega))) ?_)
 ·repeat (first|exact HCov.nil|(refine HCov.eq rfl (lt_dec rfl) ?_ ?_;(first|exact HB.under_of rfl|exact PVs.under_pure _ _|(simp [HB.under,PVs.under,PV.under];done)))|(refine HCov.cons (lt_dec rfl) ?_ rfl ?_ ?_;(first|exact trivial|exact PVs.under_pure _ _|(simp [HB.under,PVs.under,PV.under]));(first|exact HLe.refl _|exact HLe.vec (FLes.refl _) (by simp))))
 ·intro k hk
  have hl:=hNl k
  have e1:ctN p (gi p.bars f) (gi p.bars t) (k+1)=if (gi p.notes k).s<gi p.bars t∧(gi p.notes k).e>gi p.bars f then ctN p (gi p.bars f) (gi p.bars t) k++[⟨max (gi p.notes k).s (gi p.bars f),min (gi p.notes k).e (gi p.bars t),(gi p.notes k).d,(gi p.notes k).k⟩] else ctN p (gi p.bars f) (gi p.bars t) k:=rfl
  by_cases c:(gi p.notes k).s<gi p.bars t∧(gi p.notes k).e>gi p.bars f
  ·rw [if_pos c] at e1
   have e2:(ctN p (gi p.bars f) (gi p.bars t) (k+1)).length=(ctN p (gi p.bars f) (gi p.bars t) k).length+1:=by rw [e1];simp
   repeat' (first|apply VWp.rseq|apply VWp.region|apply VWp.skipSeq|apply VWp.blockSeq|apply QSeq.normal|apply QBlk.normal|apply VOps.nil|apply VOps.one|(apply VOps.take;rfl;rfl)|(apply VOps.guard;rfl;rfl)|(apply VVal.append1 (a:=(⟨max (gi p.notes k).s (gi p.bars f),min (gi p.notes k).e (gi p.bars t),(gi p.notes k).d,(gi p.notes k).k⟩:Nte));rfl;rfl;rfl;rfl;rfl;rfl;rfl;rfl;(intro _ h;cases h);rfl;rfl;rfl;decide;decide;(first|omega|(simp only [List.length_take,List.length_drop,List.length_append,List.length_singleton,List.length_cons,List.length_nil]<;>omega)))|(apply VVal.move;rfl)|(apply VVal.add64;rfl;rfl;omega)|(apply VVal.int;rfl;rfl;rfl)|(apply VVal.indexN;rfl;rfl;rfl;omega;rfl)|(apply VVal.load;rfl;rfl)|(apply VVal.pick_true;rfl;rfl)|(apply VVal.fieldB;rfl;rfl;rfl)|(apply VVal.alloc;rfl)|(apply VVal.storeB;rfl;rfl;rfl;trivial;rfl;rfl;exact lt_dec rfl;exact le_dec rfl)|(apply VVal.buildSlice;rfl;rfl;rfl;decide;rfl;rfl;rfl)|(apply VVal.maxI;rfl;rfl)|(apply VVal.minI;rfl;rfl)|(apply VWp.condSeq_dec;rfl)|(apply VWp.cond_dec;rfl)|(intro _;try (exfalso;omega)))
   all_goals try (exfalso;omega)
   refine QLoop.normal ⟨by first|omega|decide,?_,?_⟩
   ·try (rw [e2,e1])
    repeat (first|exact LCov.nil|refine LCov.same (by exact PV.under_of rfl) rfl ?_|refine LCov.cons trivial rfl (.of_eq (lst_len (by simp<;>omega))) ?_)
   ·rw [e2,e1]
    repeat (first|exact HCov.nil|(refine HCov.cons (lt_dec rfl) ?_ rfl ?_ ?_;(first|exact HB.under_of rfl|exact PVs.under_pure _ _|(simp [HB.under,PVs.under,PV.under]));(first|exact HLe.refl _|exact HLe.vec (FLes.refl _) (by simp))))
  ·rw [if_neg c] at e1
   repeat' (first|apply VWp.rseq|apply VWp.region|apply VWp.skipSeq|apply VWp.blockSeq|apply QSeq.normal|apply QBlk.normal|apply VWp.skip|apply VOps.nil|apply VOps.one|(apply VOps.take;rfl;rfl)|(apply VOps.drop;rfl;rfl;rfl)|(apply VOps.guard;rfl;rfl)|(apply VVal.move;rfl)|(apply VVal.add64;rfl;rfl;omega)|(apply VVal.int;rfl;rfl;rfl)|(apply VVal.indexN;rfl;rfl;rfl;omega;rfl)|(apply VVal.load;rfl;rfl)|(apply VVal.pick_true;rfl;rfl)|(apply VVal.pick_false;rfl;rfl)|(apply VVal.fieldB;rfl;rfl;rfl)|(apply VVal.alloc;rfl)|(apply VVal.storeB;rfl;rfl;rfl;trivial;rfl;rfl;exact lt_dec rfl;exact le_dec rfl)|(apply VWp.condSeq_dec;rfl)|(apply VWp.cond_false;rfl)|(apply VWp.cond_dec;rfl)|(intro _;try (exfalso;omega)))
   all_goals try (exfalso;omega)
   all_goals
    refine QLoop.normal ⟨by first|omega|decide,?_,?_⟩
    ·try (rw [e1])
     repeat (first|exact LCov.nil|refine LCov.same (by exact PV.under_of rfl) rfl ?_|refine LCov.cons trivial rfl (.of_eq (lst_len (by simp<;>omega))) ?_)
    ·rw [e1]
     repeat (first|exact HCov.nil|(refine HCov.cons (lt_dec rfl) ?_ rfl ?_ ?_;(first|exact HB.under_of rfl|exact PVs.under_pure _ _|(simp [HB.under,PVs.under,PV.under]));(first|exact HLe.refl _|exact HLe.vec (FLes.refl _) (by simp))))
 ·have hl:=hNl p.notes.length
  by_cases c:0≤wan p (gi p.bars f)∧(gi p.sets (wan p (gi p.bars f)).toNat).bar<f
  ·have hS:ctS0 p f=[⟨0,(gi p.sets (wan p (gi p.bars f)).toNat).reg⟩]:=by unfold ctS0;rw [if_pos c]
   rw [hS]
   have hb:wan p (gi p.bars f)=((wan p (gi p.bars f)).toNat:Int):=by omega
   have hc0:=hcop (wan p (gi p.bars f)).toNat (by omega)
   repeat' (first|apply VWp.assoc|apply VWp.rseq|apply VWp.rseqD|apply VWp.exitSeq|apply VWp.blockSeq|apply QSeq.normal|apply QBlk.exit|apply QLoop.exit|apply VOps.nil|apply VOpsD.nil|apply VOps.one|(apply VOpsD.bar;decide +kernel)|apply VOpsD.quiet|(apply VOps.take;rfl;rfl)|(apply VOps.guard;rfl;rfl)|(apply VVal.fn;rfl;rfl;exact hw;intro _;rfl)|(apply VVal.fn;rfl;rfl;exact hc0;intro _;rfl)|(apply VVal.indexN (l:=p.sets) (i:=(wan p (gi p.bars f)).toNat);rfl;exact congrArg (fun b=>some (PV.p (.int .i64 b))) hb;rfl;omega;rfl)|(apply VVal.append1 (l:=[]) (a:=(⟨0,(gi p.sets (wan p (gi p.bars f)).toNat).reg⟩:Stg));rfl;rfl;rfl;rfl;rfl;rfl;rfl;rfl;(intro _ h;cases h);rfl;rfl;rfl;decide;decide;(first|omega|(simp only [List.length_take,List.length_drop,List.length_append,List.length_singleton,List.length_cons,List.length_nil]<;>omega)))|(apply VVal.assign;rfl)|(apply VVal.move;rfl)|(apply VVal.int;rfl;rfl;rfl)|(apply VVal.load;rfl;rfl)|(apply VVal.pick_true;rfl;rfl)|(apply VVal.lenF;rfl;rfl)|(apply VVal.fieldB;rfl;rfl;rfl)|(apply VVal.fieldF;rfl;rfl)|(apply VVal.storeB;rfl;rfl;rfl;trivial;rfl;rfl;exact lt_dec rfl;exact le_dec rfl)|(apply VVal.build;rfl;rfl;rfl;rfl;rfl)|(apply VVal.buildSlice;rfl;rfl;rfl;decide;rfl;rfl;rfl)|(apply VWp.condSeq_dec;rfl)|(intro _;try (exfalso;omega)))
   all_goals try (exfalso;omega)
   apply VWp.loopR (p.sets.length) [(2,_),(3,_),(5,_),(8,_),(11,_),(118,_),(119,_)] [(1,_),(2,_),(5,_)] (fun k r=>(120,.p (.int .i64 (k:Int)))::r) (fun k r=>(6,.vec 74 (cells (ctS p f t [⟨0,(gi p.sets (wan p (gi p.bars f)).toNat).reg⟩] k)) (ctS p f t [⟨0,(gi p.sets (wan p (gi p.bars f)).toNat).reg⟩] k).length true)::(4,.box 45 [.p (.lst 3 (cells (ctB p f t)) (t+1-f)),.vec 5 (ctN p (gi p.bars f) (gi p.bars t) p.notes.length).length 0 (ctN p (gi p.bars f) (gi p.bars t) p.notes.length).length,.vec 6 (ctS p f t [⟨0,(gi p.sets (wan p (gi p.bars f)).toNat).reg⟩] k).length 0 (ctS p f t [⟨0,(gi p.sets (wan p (gi p.bars f)).toNat).reg⟩] k).length])::r) 7
   ·first|omega|decide
   ·first|omega|decide
   ·repeat (first|exact LCov.nil|(refine LCov.eq rfl ?_ ?_;(first|exact PV.under_of rfl|(simp [PV.under,PVs.under];done)))|refine LCov.cons trivial rfl (.of_eq (lst_len (by simp<;>omega))) ?_)
   ·repeat (first|exact HCov.nil|(refine HCov.eq rfl (lt_dec rfl) ?_ ?_;(first|exact HB.under_of rfl|exact PVs.under_pure _ _|(simp [HB.under,PVs.under,PV.under];done)))|(refine HCov.cons (lt_dec rfl) ?_ rfl ?_ ?_;(first|exact trivial|exact PVs.under_pure _ _|(simp [HB.under,PVs.under,PV.under]));(first|exact HLe.refl _|exact HLe.vec (FLes.refl _) (by simp))))
   ·intro k hk
    have hl2:=ctS_len p f t [⟨0,(gi p.sets (wan p (gi p.bars f)).toNat).reg⟩] k
    have hl3:([⟨0,(gi p.sets (wan p (gi p.bars f)).toNat).reg⟩]:List Stg).length≤1:=by simp
    have e1:ctS p f t [⟨0,(gi p.sets (wan p (gi p.bars f)).toNat).reg⟩] (k+1)=if (gi p.sets k).bar≥f∧(gi p.sets k).bar<t then ctS p f t [⟨0,(gi p.sets (wan p (gi p.bars f)).toNat).reg⟩] k++[⟨(gi p.sets k).bar-f,(gi p.sets k).reg⟩] else ctS p f t [⟨0,(gi p.sets (wan p (gi p.bars f)).toNat).reg⟩] k:=rfl
    have hck:=hcop k hk
    have hsk:=(h.set k hk).1
    by_cases d:(gi p.sets k).bar≥f∧(gi p.sets k).bar<t
    ·rw [if_pos d] at e1
     have e2:(ctS p f t [⟨0,(gi p.sets (wan p (gi p.bars f)).toNat).reg⟩] (k+1)).length=(ctS p f t [⟨0,(gi p.sets (wan p (gi p.bars f)).toNat).reg⟩] k).length+1:=by rw [e1];simp
     repeat' (first|apply VWp.rseq|apply VWp.region|apply VWp.regionD|apply VWp.skipSeq|apply VWp.blockSeq|apply QSeq.normal|apply QBlk.normal|apply VOps.nil|apply VOpsD.nil|apply VOps.one|(apply VOpsD.bar;decide +kernel)|apply VOpsD.quiet|(apply VOps.take;rfl;rfl)|(apply VOps.guard;rfl;rfl)|(apply VVal.fn;rfl;rfl;exact hck;intro _;rfl)|(apply VVal.append1 (a:=(⟨(gi p.sets k).bar-f,(gi p.sets k).reg⟩:Stg));rfl;rfl;rfl;rfl;rfl;rfl;rfl;rfl;(intro _ h;cases h);rfl;rfl;rfl;decide;decide;(first|omega|(simp only [List.length_take,List.length_drop,List.length_append,List.length_singleton,List.length_cons,List.length_nil]<;>omega)))|(apply VVal.move;rfl)|(apply VVal.add64;rfl;rfl;omega)|(apply VVal.sub64;rfl;rfl;omega)|(apply VVal.int;rfl;rfl;rfl)|(apply VVal.indexN;rfl;rfl;rfl;omega;rfl)|(apply VVal.load;rfl;rfl)|(apply VVal.pick_true;rfl;rfl)|(apply VVal.fieldB;rfl;rfl;rfl)|(apply VVal.alloc;rfl)|(apply VVal.storeB;rfl;rfl;rfl;trivial;rfl;rfl;exact lt_dec rfl;exact le_dec rfl)|(apply VVal.build;rfl;rfl;rfl;rfl;rfl)|(apply VVal.buildSlice;rfl;rfl;rfl;decide;rfl;rfl;rfl)|(apply VWp.condSeq_dec;rfl)|(apply VWp.cond_dec;rfl)|(intro _;try (exfalso;omega)))
     all_goals try (exfalso;omega)
     refine QLoop.normal ⟨by first|omega|decide,?_,?_⟩
     ·try (rw [e2,e1])
      repeat (first|exact LCov.nil|refine LCov.same (by exact PV.under_of rfl) rfl ?_|refine LCov.cons trivial rfl (.of_eq (lst_len (by simp<;>omega))) ?_)
     ·rw [e2,e1]
      repeat (first|exact HCov.nil|(refine HCov.cons (lt_dec rfl) ?_ rfl ?_ ?_;(first|exact HB.under_of rfl|exact PVs.under_pure _ _|(simp [HB.under,PVs.under,PV.under]));(first|exact HLe.refl _|exact HLe.vec (FLes.refl _) (by simp))))
    ·rw [if_neg d] at e1
     repeat' (first|apply VWp.rseq|apply VWp.region|apply VWp.skipSeq|apply VWp.blockSeq|apply QSeq.normal|apply QBlk.normal|apply VWp.skip|apply VOps.nil|apply VOps.one|(apply VOps.take;rfl;rfl)|(apply VOps.drop;rfl;rfl;rfl)|(apply VOps.guard;rfl;rfl)|(apply VVal.move;rfl)|(apply VVal.add64;rfl;rfl;omega)|(apply VVal.int;rfl;rfl;rfl)|(apply VVal.indexN;rfl;rfl;rfl;omega;rfl)|(apply VVal.load;rfl;rfl)|(apply VVal.pick_true;rfl;rfl)|(apply VVal.pick_false;rfl;rfl)|(apply VVal.fieldB;rfl;rfl;rfl)|(apply VVal.alloc;rfl)|(apply VVal.storeB;rfl;rfl;rfl;trivial;rfl;rfl;exact lt_dec rfl;exact le_dec rfl)|(apply VWp.condSeq_dec;rfl)|(apply VWp.cond_false;rfl)|(apply VWp.cond_dec;rfl)|(intro _;try (exfalso;omega)))
     all_goals try (exfalso;omega)
     all_goals
      refine QLoop.normal ⟨by first|omega|decide,?_,?_⟩
      ·try (rw [e1])
       repeat (first|exact LCov.nil|refine LCov.same (by exact PV.under_of rfl) rfl ?_|refine LCov.cons trivial rfl (.of_eq (lst_len (by simp<;>omega))) ?_)
      ·rw [e1]
       repeat (first|exact HCov.nil|(refine HCov.cons (lt_dec rfl) ?_ rfl ?_ ?_;(first|exact HB.under_of rfl|exact PVs.under_pure _ _|(simp [HB.under,PVs.under,PV.under]));(first|exact HLe.refl _|exact HLe.vec (FLes.refl _) (by simp))))
   ·repeat' (first|(refine VWp.at 24 ?_;refine VWp.ghost (Ghost.trans (Ghost.freezeCell 4 1 rfl rfl rfl) (Ghost.freezeCell 4 2 rfl rfl rfl)) ?_;first|apply VWp.rseq|apply VWp.rseqD)|apply VWp.rseq|apply VWp.exitSeq|apply QSeq.normal|apply QBlk.exit|apply QLoop.exit|apply VWp.ret|apply VOps.nil|apply VOps.one|(apply VVal.assign;rfl)|(apply VVal.int;rfl;rfl;rfl)|(apply VVal.load;rfl;rfl)|(apply VVal.storeB;rfl;rfl;rfl;trivial;rfl;rfl;exact lt_dec rfl;exact le_dec rfl)|(apply VWp.condSeq_dec;rfl)|(intro _;try (exfalso;omega)))
    all_goals first|(exfalso;omega)|(refine Done.ret rfl (.refl _) (by exact PV.under_of rfl) HCov.nil (Nat.zero_le _) (Nat.le_refl _) ⟨?_,rfl,rfl⟩;try rfl)
  ·have hS:ctS0 p f=[]:=by unfold ctS0;rw [if_neg c]
   rw [hS]
   by_cases c2:0≤wan p (gi p.bars f)
   ·have hb:wan p (gi p.bars f)=((wan p (gi p.bars f)).toNat:Int):=by omega
    repeat' (first|apply VWp.assoc|apply VWp.rseq|apply VWp.skipSeq|apply VWp.exitSeq|apply VWp.blockSeq|apply QSeq.normal|apply QBlk.exit|apply QLoop.exit|apply VOps.nil|apply VOps.one|(apply VOps.take;rfl;rfl)|(apply VOps.guard;rfl;rfl)|(apply VVal.fn;rfl;rfl;exact hw;intro _;rfl)|(apply VVal.indexN (l:=p.sets) (i:=(wan p (gi p.bars f)).toNat);rfl;exact congrArg (fun b=>some (PV.p (.int .i64 b))) hb;rfl;omega;rfl)|(apply VVal.assign;rfl)|(apply VVal.move;rfl)|(apply VVal.int;rfl;rfl;rfl)|(apply VVal.load;rfl;rfl)|(apply VVal.pick_true;rfl;rfl)|(apply VVal.lenF;rfl;rfl)|(apply VVal.fieldB;rfl;rfl;rfl)|(apply VVal.fieldF;rfl;rfl)|(apply VWp.condSeq_dec;rfl)|(intro _;try (exfalso;omega)))
    all_goals try (exfalso;omega)
    apply VWp.loopR (p.sets.length) [(2,_),(3,_),(5,_),(8,_),(11,_),(118,_),(119,_)] [(1,_),(2,_),(5,_)] (fun k r=>(120,.p (.int .i64 (k:Int)))::r) (fun k r=>(6,.vec 74 (cells (ctS p f t [] k)) (ctS p f t [] k).length true)::(4,.box 45 [.p (.lst 3 (cells (ctB p f t)) (t+1-f)),.vec 5 (ctN p (gi p.bars f) (gi p.bars t) p.notes.length).length 0 (ctN p (gi p.bars f) (gi p.bars t) p.notes.length).length,.vec 6 (ctS p f t [] k).length 0 (ctS p f t [] k).length])::r) 7
    ·first|omega|decide
    ·first|omega|decide
    ·repeat (first|exact LCov.nil|(refine LCov.eq rfl ?_ ?_;(first|exact PV.under_of rfl|(simp [PV.under,PVs.under];done)))|refine LCov.cons trivial rfl (.of_eq (lst_len (by simp<;>omega))) ?_)
    ·repeat (first|exact HCov.nil|(refine HCov.eq rfl (lt_dec rfl) ?_ ?_;(first|exact HB.under_of rfl|exact PVs.under_pure _ _|(simp [HB.under,PVs.under,PV.under];done)))|(refine HCov.cons (lt_dec rfl) ?_ rfl ?_ ?_;(first|exact trivial|exact PVs.under_pure _ _|(simp [HB.under,PVs.under,PV.under]));(first|exact HLe.refl _|exact HLe.vec (FLes.refl _) (by simp))))
    ·intro k hk
     have hl2:=ctS_len p f t [] k
     have hl3:([]:List Stg).length≤1:=by simp
     have e1:ctS p f t [] (k+1)=if (gi p.sets k).bar≥f∧(gi p.sets k).bar<t then ctS p f t [] k++[⟨(gi p.sets k).bar-f,(gi p.sets k).reg⟩] else ctS p f t [] k:=rfl
     have hck:=hcop k hk
     have hsk:=(h.set k hk).1
     by_cases d:(gi p.sets k).bar≥f∧(gi p.sets k).bar<t
     ·rw [if_pos d] at e1
      have e2:(ctS p f t [] (k+1)).length=(ctS p f t [] k).length+1:=by rw [e1];simp
      repeat' (first|apply VWp.rseq|apply VWp.region|apply VWp.regionD|apply VWp.skipSeq|apply VWp.blockSeq|apply QSeq.normal|apply QBlk.normal|apply VOps.nil|apply VOpsD.nil|apply VOps.one|(apply VOpsD.bar;decide +kernel)|apply VOpsD.quiet|(apply VOps.take;rfl;rfl)|(apply VOps.guard;rfl;rfl)|(apply VVal.fn;rfl;rfl;exact hck;intro _;rfl)|(apply VVal.append1 (a:=(⟨(gi p.sets k).bar-f,(gi p.sets k).reg⟩:Stg));rfl;rfl;rfl;rfl;rfl;rfl;rfl;rfl;(intro _ h;cases h);rfl;rfl;rfl;decide;decide;(first|omega|(simp only [List.length_take,List.length_drop,List.length_append,List.length_singleton,List.length_cons,List.length_nil]<;>omega)))|(apply VVal.move;rfl)|(apply VVal.add64;rfl;rfl;omega)|(apply VVal.sub64;rfl;rfl;omega)|(apply VVal.int;rfl;rfl;rfl)|(apply VVal.indexN;rfl;rfl;rfl;omega;rfl)|(apply VVal.load;rfl;rfl)|(apply VVal.pick_true;rfl;rfl)|(apply VVal.fieldB;rfl;rfl;rfl)|(apply VVal.alloc;rfl)|(apply VVal.storeB;rfl;rfl;rfl;trivial;rfl;rfl;exact lt_dec rfl;exact le_dec rfl)|(apply VVal.build;rfl;rfl;rfl;rfl;rfl)|(apply VVal.buildSlice;rfl;rfl;rfl;decide;rfl;rfl;rfl)|(apply VWp.condSeq_dec;rfl)|(apply VWp.cond_dec;rfl)|(intro _;try (exfalso;omega)))
      all_goals try (exfalso;omega)
      refine QLoop.normal ⟨by first|omega|decide,?_,?_⟩
      ·try (rw [e2,e1])
       repeat (first|exact LCov.nil|refine LCov.same (by exact PV.under_of rfl) rfl ?_|refine LCov.cons trivial rfl (.of_eq (lst_len (by simp<;>omega))) ?_)
      ·rw [e2,e1]
       repeat (first|exact HCov.nil|(refine HCov.cons (lt_dec rfl) ?_ rfl ?_ ?_;(first|exact HB.under_of rfl|exact PVs.under_pure _ _|(simp [HB.under,PVs.under,PV.under]));(first|exact HLe.refl _|exact HLe.vec (FLes.refl _) (by simp))))
     ·rw [if_neg d] at e1
      repeat' (first|apply VWp.rseq|apply VWp.region|apply VWp.skipSeq|apply VWp.blockSeq|apply QSeq.normal|apply QBlk.normal|apply VWp.skip|apply VOps.nil|apply VOps.one|(apply VOps.take;rfl;rfl)|(apply VOps.drop;rfl;rfl;rfl)|(apply VOps.guard;rfl;rfl)|(apply VVal.move;rfl)|(apply VVal.add64;rfl;rfl;omega)|(apply VVal.int;rfl;rfl;rfl)|(apply VVal.indexN;rfl;rfl;rfl;omega;rfl)|(apply VVal.load;rfl;rfl)|(apply VVal.pick_true;rfl;rfl)|(apply VVal.pick_false;rfl;rfl)|(apply VVal.fieldB;rfl;rfl;rfl)|(apply VVal.alloc;rfl)|(apply VVal.storeB;rfl;rfl;rfl;trivial;rfl;rfl;exact lt_dec rfl;exact le_dec rfl)|(apply VWp.condSeq_dec;rfl)|(apply VWp.cond_false;rfl)|(apply VWp.cond_dec;rfl)|(intro _;try (exfalso;omega)))
      all_goals try (exfalso;omega)
      all_goals
       refine QLoop.normal ⟨by first|omega|decide,?_,?_⟩
       ·try (rw [e1])
        repeat (first|exact LCov.nil|refine LCov.same (by exact PV.under_of rfl) rfl ?_|refine LCov.cons trivial rfl (.of_eq (lst_len (by simp<;>omega))) ?_)
       ·rw [e1]
        repeat (first|exact HCov.nil|(refine HCov.cons (lt_dec rfl) ?_ rfl ?_ ?_;(first|exact HB.under_of rfl|exact PVs.under_pure _ _|(simp [HB.under,PVs.under,PV.under]));(first|exact HLe.refl _|exact HLe.vec (FLes.refl _) (by simp))))
    ·repeat' (first|(refine VWp.at 24 ?_;refine VWp.ghost (Ghost.trans (Ghost.freezeCell 4 1 rfl rfl rfl) (Ghost.freezeCell 4 2 rfl rfl rfl)) ?_;first|apply VWp.rseq|apply VWp.rseqD)|apply VWp.rseq|apply VWp.exitSeq|apply QSeq.normal|apply QBlk.exit|apply QLoop.exit|apply VWp.ret|apply VOps.nil|apply VOps.one|(apply VVal.assign;rfl)|(apply VVal.int;rfl;rfl;rfl)|(apply VVal.load;rfl;rfl)|(apply VVal.storeB;rfl;rfl;rfl;trivial;rfl;rfl;exact lt_dec rfl;exact le_dec rfl)|(apply VWp.condSeq_dec;rfl)|(intro _;try (exfalso;omega)))
     all_goals first|(exfalso;omega)|(refine Done.ret rfl (.refl _) (by exact PV.under_of rfl) HCov.nil (Nat.zero_le _) (Nat.le_refl _) ⟨?_,rfl,rfl⟩;try rfl)
   ·repeat' (first|apply VWp.assoc|apply VWp.rseq|apply VWp.skipSeq|apply VWp.exitSeq|apply VWp.blockSeq|apply QSeq.normal|apply QBlk.exit|apply QLoop.exit|apply VOps.nil|apply VOps.one|(apply VOps.drop;rfl;rfl;rfl)|(apply VOps.guard;rfl;rfl)|(apply VVal.fn;rfl;rfl;exact hw;intro _;rfl)|(apply VVal.assign;rfl)|(apply VVal.move;rfl)|(apply VVal.int;rfl;rfl;rfl)|(apply VVal.load;rfl;rfl)|(apply VVal.pick_false;rfl;rfl)|(apply VVal.lenF;rfl;rfl)|(apply VVal.fieldB;rfl;rfl;rfl)|(apply VWp.condSeq_false;rfl)|(apply VWp.condSeq_dec;rfl)|(intro _;try (exfalso;omega)))
    all_goals try (exfalso;omega)
    apply VWp.loopR (p.sets.length) [(2,_),(3,_),(5,_),(8,_),(11,_),(118,_),(119,_)] [(1,_),(2,_),(5,_)] (fun k r=>(120,.p (.int .i64 (k:Int)))::r) (fun k r=>(6,.vec 74 (cells (ctS p f t [] k)) (ctS p f t [] k).length true)::(4,.box 45 [.p (.lst 3 (cells (ctB p f t)) (t+1-f)),.vec 5 (ctN p (gi p.bars f) (gi p.bars t) p.notes.length).length 0 (ctN p (gi p.bars f) (gi p.bars t) p.notes.length).length,.vec 6 (ctS p f t [] k).length 0 (ctS p f t [] k).length])::r) 7
    ·first|omega|decide
    ·first|omega|decide
    ·repeat (first|exact LCov.nil|(refine LCov.eq rfl ?_ ?_;(first|exact PV.under_of rfl|(simp [PV.under,PVs.under];done)))|refine LCov.cons trivial rfl (.of_eq (lst_len (by simp<;>omega))) ?_)
    ·repeat (first|exact HCov.nil|(refine HCov.eq rfl (lt_dec rfl) ?_ ?_;(first|exact HB.under_of rfl|exact PVs.under_pure _ _|(simp [HB.under,PVs.under,PV.under];done)))|(refine HCov.cons (lt_dec rfl) ?_ rfl ?_ ?_;(first|exact trivial|exact PVs.under_pure _ _|(simp [HB.under,PVs.under,PV.under]));(first|exact HLe.refl _|exact HLe.vec (FLes.refl _) (by simp))))
    ·intro k hk
     have hl2:=ctS_len p f t [] k
     have hl3:([]:List Stg).length≤1:=by simp
     have e1:ctS p f t [] (k+1)=if (gi p.sets k).bar≥f∧(gi p.sets k).bar<t then ctS p f t [] k++[⟨(gi p.sets k).bar-f,(gi p.sets k).reg⟩] else ctS p f t [] k:=rfl
     have hck:=hcop k hk
     have hsk:=(h.set k hk).1
     by_cases d:(gi p.sets k).bar≥f∧(gi p.sets k).bar<t
     ·rw [if_pos d] at e1
      have e2:(ctS p f t [] (k+1)).length=(ctS p f t [] k).length+1:=by rw [e1];simp
      repeat' (first|apply VWp.rseq|apply VWp.region|apply VWp.regionD|apply VWp.skipSeq|apply VWp.blockSeq|apply QSeq.normal|apply QBlk.normal|apply VOps.nil|apply VOpsD.nil|apply VOps.one|(apply VOpsD.bar;decide +kernel)|apply VOpsD.quiet|(apply VOps.take;rfl;rfl)|(apply VOps.guard;rfl;rfl)|(apply VVal.fn;rfl;rfl;exact hck;intro _;rfl)|(apply VVal.append1 (a:=(⟨(gi p.sets k).bar-f,(gi p.sets k).reg⟩:Stg));rfl;rfl;rfl;rfl;rfl;rfl;rfl;rfl;(intro _ h;cases h);rfl;rfl;rfl;decide;decide;(first|omega|(simp only [List.length_take,List.length_drop,List.length_append,List.length_singleton,List.length_cons,List.length_nil]<;>omega)))|(apply VVal.move;rfl)|(apply VVal.add64;rfl;rfl;omega)|(apply VVal.sub64;rfl;rfl;omega)|(apply VVal.int;rfl;rfl;rfl)|(apply VVal.indexN;rfl;rfl;rfl;omega;rfl)|(apply VVal.load;rfl;rfl)|(apply VVal.pick_true;rfl;rfl)|(apply VVal.fieldB;rfl;rfl;rfl)|(apply VVal.alloc;rfl)|(apply VVal.storeB;rfl;rfl;rfl;trivial;rfl;rfl;exact lt_dec rfl;exact le_dec rfl)|(apply VVal.build;rfl;rfl;rfl;rfl;rfl)|(apply VVal.buildSlice;rfl;rfl;rfl;decide;rfl;rfl;rfl)|(apply VWp.condSeq_dec;rfl)|(apply VWp.cond_dec;rfl)|(intro _;try (exfalso;omega)))
      all_goals try (exfalso;omega)
      refine QLoop.normal ⟨by first|omega|decide,?_,?_⟩
      ·try (rw [e2,e1])
       repeat (first|exact LCov.nil|refine LCov.same (by exact PV.under_of rfl) rfl ?_|refine LCov.cons trivial rfl (.of_eq (lst_len (by simp<;>omega))) ?_)
      ·rw [e2,e1]
       repeat (first|exact HCov.nil|(refine HCov.cons (lt_dec rfl) ?_ rfl ?_ ?_;(first|exact HB.under_of rfl|exact PVs.under_pure _ _|(simp [HB.under,PVs.under,PV.under]));(first|exact HLe.refl _|exact HLe.vec (FLes.refl _) (by simp))))
     ·rw [if_neg d] at e1
      repeat' (first|apply VWp.rseq|apply VWp.region|apply VWp.skipSeq|apply VWp.blockSeq|apply QSeq.normal|apply QBlk.normal|apply VWp.skip|apply VOps.nil|apply VOps.one|(apply VOps.take;rfl;rfl)|(apply VOps.drop;rfl;rfl;rfl)|(apply VOps.guard;rfl;rfl)|(apply VVal.move;rfl)|(apply VVal.add64;rfl;rfl;omega)|(apply VVal.int;rfl;rfl;rfl)|(apply VVal.indexN;rfl;rfl;rfl;omega;rfl)|(apply VVal.load;rfl;rfl)|(apply VVal.pick_true;rfl;rfl)|(apply VVal.pick_false;rfl;rfl)|(apply VVal.fieldB;rfl;rfl;rfl)|(apply VVal.alloc;rfl)|(apply VVal.storeB;rfl;rfl;rfl;trivial;rfl;rfl;exact lt_dec rfl;exact le_dec rfl)|(apply VWp.condSeq_dec;rfl)|(apply VWp.cond_false;rfl)|(apply VWp.cond_dec;rfl)|(intro _;try (exfalso;omega)))
      all_goals try (exfalso;omega)
      all_goals
       refine QLoop.normal ⟨by first|omega|decide,?_,?_⟩
       ·try (rw [e1])
        repeat (first|exact LCov.nil|refine LCov.same (by exact PV.under_of rfl) rfl ?_|refine LCov.cons trivial rfl (.of_eq (lst_len (by simp<;>omega))) ?_)
       ·rw [e1]
        repeat (first|exact HCov.nil|(refine HCov.cons (lt_dec rfl) ?_ rfl ?_ ?_;(first|exact HB.under_of rfl|exact PVs.under_pure _ _|(simp [HB.under,PVs.under,PV.under]));(first|exact HLe.refl _|exact HLe.vec (FLes.refl _) (by simp))))
    ·repeat' (first|(refine VWp.at 24 ?_;refine VWp.ghost (Ghost.trans (Ghost.freezeCell 4 1 rfl rfl rfl) (Ghost.freezeCell 4 2 rfl rfl rfl)) ?_;first|apply VWp.rseq|apply VWp.rseqD)|apply VWp.rseq|apply VWp.exitSeq|apply QSeq.normal|apply QBlk.exit|apply QLoop.exit|apply VWp.ret|apply VOps.nil|apply VOps.one|(apply VVal.assign;rfl)|(apply VVal.int;rfl;rfl;rfl)|(apply VVal.load;rfl;rfl)|(apply VVal.storeB;rfl;rfl;rfl;trivial;rfl;rfl;exact lt_dec rfl;exact le_dec rfl)|(apply VWp.condSeq_dec;rfl)|(intro _;try (exfalso;omega)))
     all_goals first|(exfalso;omega)|(refine Done.ret rfl (.refl _) (by exact PV.under_of rfl) HCov.nil (Nat.zero_le _) (Nat.le_refl _) ⟨?_,rfl,rfl⟩;try rfl)
end Go.Proofs.YtnhdddmhkhdlhaaGreatDoor
namespace Go.Vm
open Go.Am
variable {E:Env} {L:Frame} {H:Heap} {nx:Nat}
section
variable {Q:PV→Heap→Nat→Prop} {w:Bool} {dst:Option Tmp} {ty:TypeId} {pos:String} {af:Array Edge} {gd:Option (Nat×Bool)}
end
end Go.Vm
namespace Go.Vm
open Go.Am
section
variable {E:Env} {L:Frame} {H:Heap} {nx:Nat} {Q:PV→Heap→Nat→Prop} {w:Bool}
variable {dst:Option Tmp} {ty:TypeId} {pos:String} {af:Array Edge} {gd:Option (Nat×Bool)}
variable {bn:Nat} {ops:Array Oper} {op:Op} {l:List Oper} {i:Nat} {R:Frame→Heap→Nat→Prop}
def VOpsDt (E:Env) (bn d:Nat) (ops:Array Oper) (i:Nat) (l:List Oper) (L:Frame) (H:Heap) (nx:Nat) (Q:Frame→Heap→Nat→Prop):Prop :=
 ∀ (B:Base),B.nx=bn→∀ m F σ t,Ctx E.Γ m F σ H nx→RL m F (htag H) σ nx L t→tget t d=.slice emptyAt 0 0→B.to m F σ H nx →
  AOpsD E.P E.O E.G ops i l ⟨t,m⟩ fun s'=>∃ L' H' nx' F' σ',Q L' H' nx'∧Ctx E.Γ s'.m F' σ' H' nx'∧RL s'.m F' (htag H') σ' nx' L' s'.t∧B.to s'.m F' σ' H' nx'
end
end Go.Vm
namespace Go.Proofs.YtnhdddmhkhdlhaaGreatDoor
open Go Go.Am Go.Vm Go.Pie
attribute [local irreducible] VVal VOps VOpsD VWp VCalls VFun VFunV QSeq QBlk QLoop Vm.Done DoneV DoneI
attribute [local irreducible] rchk windsE stoE dvsE cplE shiftR tailH
def lkF (p:Pce) (L:List Int) (k d:Nat):Nts:=ofK (kdK p L d k) (kdK p L d k).length
end Go.Proofs.YtnhdddmhkhdlhaaGreatDoor
namespace Go.Proofs.YtnhdddmhkhdlhaaGreatDoor
open Go Go.Am Go.Vm Go.Pie
attribute [local irreducible] VVal VOps VOpsD VWp VCalls VFun VFunV QSeq QBlk QLoop Vm.Done DoneV DoneI
attribute [local irreducible] rchk windsE stoE dvsE cplE shiftR tailH
noncomputable instance (a b:Rgs):Decidable (a=b):=Classical.propDecidable _
noncomputable instance (a b:Stg):Decidable (a=b):=Classical.propDecidable _
noncomputable instance (a b:Pce):Decidable (a=b):=Classical.propDecidable _
theorem all_succP {α:Type} [Inhabited α] {a b:List α} {k:Nat} (hok:∀ i,i<k→gi a i=gi b i) (h:gi a k=gi b k):∀ i,i<k+1→gi a i=gi b i:=fun i hi=>by
 rcases Nat.lt_or_ge i k with h1|h1
 ·exact hok i h1
 ·obtain rfl:i=k:=by omega
  exact h
theorem seq64 (a b:List Nat) (ha:a.length<9223372036854775808) (hb:b.length<9223372036854775808):VFun env 65 [.lst 68 (cells a) a.length,.lst 68 (cells b) b.length] (.p (.bool (decide (a=b)))):=by
 by_cases hlen:a.length=b.length
 case neg =>
  rw [decide_eq_false (fun e=>hlen (by rw [e]))]
  refine VFun.enter (env_none (by decide)) Tryz.func65 rfl (by kernel_rfl) (by simp [Tryz.ntmps65]) ?_
  repeat' (first|apply VWp.assoc|apply VWp.rseq|apply VWp.retSeq|apply VOps.nil|apply VOps.one|(apply VVal.assign;rfl)|(apply VVal.move;rfl)|(apply VVal.int;rfl;rfl;rfl)|(apply VVal.lenF;rfl;rfl)|(apply VWp.condSeq_dec;rfl)|(intro _;try (exfalso;omega)))
  all_goals first|(exfalso;omega)|contradiction|(refine Done.ret rfl (.refl _) (by exact PV.under_of rfl) HCov.nil (Nat.zero_le _) (Nat.le_refl _) ⟨?_,rfl,rfl⟩;try rfl)
 refine VFun.enter (env_none (by decide)) Tryz.func65 rfl (by kernel_rfl) (by simp [Tryz.ntmps65]) ?_
 repeat' (first|apply VWp.assoc|apply VWp.rseq|apply VWp.skipSeq|apply VWp.blockSeq|apply VOps.nil|apply VOps.one|(apply VVal.assign;rfl)|(apply VVal.move;rfl)|(apply VVal.int;rfl;rfl;rfl)|(apply VVal.lenF;rfl;rfl)|(apply VWp.condSeq_dec;rfl)|(intro _;try (exfalso;omega)))
 all_goals try (exfalso;omega)
 apply VWp.loopRI (a.length) (fun k=>∀ i,i<k→gi a i=gi b i) [(0,_),(1,_),(12,_)] [] (fun k r=>(13,.p (.int .i64 (k:Int)))::r) (fun k r=>r) 0
 ·first|omega|decide
 ·first|omega|decide
 ·repeat (first|exact LCov.nil|(refine LCov.eq rfl ?_ ?_;(first|exact PV.under_of rfl|(simp [PV.under,PVs.under];done)))|refine LCov.cons trivial rfl (.of_eq (lst_len (by simp<;>omega))) ?_)
 ·repeat (first|exact HCov.nil|(refine HCov.eq rfl (lt_dec rfl) ?_ ?_;(first|exact HB.under_of rfl|exact PVs.under_pure _ _|(simp [HB.under,PVs.under,PV.under];done)))|(refine HCov.cons (lt_dec rfl) ?_ rfl ?_ ?_;(first|exact trivial|exact PVs.under_pure _ _|(simp [HB.under,PVs.under,PV.under]));(first|exact HLe.refl _|exact HLe.vec (FLes.refl _) (by simp))))
 ·first|(intro _ _;omega)|omega|trivial
 ·intro k hk hok
  by_cases h:gi a k=gi b k
  ·repeat' (first|apply VWp.rseq|apply VWp.rseqD|apply VWp.region|apply VWp.skipSeq|apply VWp.blockSeq|apply QSeq.normal|apply QBlk.normal|apply VWp.skip|apply VOps.nil|apply VOpsD.nil|apply VOps.one|(apply VOpsD.bar;decide +kernel)|apply VOpsD.quiet|(apply VVal.assign;rfl)|(apply VVal.move;rfl)|(apply VVal.add64;rfl;rfl;omega)|(apply VVal.int;rfl;rfl;rfl)|(apply VVal.indexN;rfl;rfl;rfl;omega;rfl)|(apply VVal.load;rfl;rfl)|(apply VWp.condSeq_dec;rfl)|(apply VWp.cond_dec;rfl)|(intro _;try (exfalso;omega)))
   all_goals try (exfalso;omega)
   all_goals try contradiction
   refine QLoop.normal ⟨(all_succP hok h),by first|omega|decide,?_,?_⟩
   ·repeat (first|exact LCov.nil|refine LCov.same (by exact PV.under_of rfl) rfl ?_|refine LCov.cons trivial rfl (.of_eq (lst_len (by simp<;>omega))) ?_)
   ·repeat (first|exact HCov.nil|(refine HCov.cons (lt_dec rfl) ?_ rfl ?_ ?_;(first|exact HB.under_of rfl|exact PVs.under_pure _ _|(simp [HB.under,PVs.under,PV.under]));(first|exact HLe.refl _|exact HLe.vec (FLes.refl _) (by simp))))
  ·rw [decide_eq_false (fun e=>h (by rw [e]))]
   repeat' (first|apply VWp.rseq|apply VWp.rseqD|apply VWp.skipSeq|apply VWp.blockSeq|apply QSeq.ret|apply QBlk.ret|apply QLoop.ret|apply VWp.ret|apply VOps.nil|apply VOpsD.nil|apply VOps.one|(apply VOpsD.bar;decide +kernel)|apply VOpsD.quiet|(apply VVal.assign;rfl)|(apply VVal.move;rfl)|(apply VVal.int;rfl;rfl;rfl)|(apply VVal.indexN;rfl;rfl;rfl;omega;rfl)|(apply VVal.load;rfl;rfl)|(apply VWp.condSeq_dec;rfl)|(apply VWp.cond_dec;rfl)|(intro _;try (exfalso;omega)))
   all_goals first|(exfalso;omega)|contradiction|(refine Done.ret rfl (.refl _) (by exact PV.under_of rfl) HCov.nil (Nat.zero_le _) (Nat.le_refl _) ⟨?_,rfl,rfl⟩;try rfl)
 ·intro hok
  rw [decide_eq_true (gi_ext hlen hok)]
  repeat' (first|apply VWp.rseq|apply VWp.exitSeq|apply QSeq.normal|apply QBlk.exit|apply QLoop.exit|apply VWp.ret|apply VOps.nil|apply VOps.one|(apply VVal.assign;rfl)|(apply VVal.int;rfl;rfl;rfl)|(apply VWp.condSeq_dec;rfl)|(intro _;try (exfalso;omega)))
  all_goals first|(exfalso;omega)|contradiction|(refine Done.ret rfl (.refl _) (by exact PV.under_of rfl) HCov.nil (Nat.zero_le _) (Nat.le_refl _) ⟨?_,rfl,rfl⟩;try rfl)
theorem freeNte:eqFree Tryz.prog 66=true:=by kernel_rfl
theorem eqNte (x y:Nte):Vm.eqSt Tryz.prog 66 (Enc.enc x) (Enc.enc y)=some (decide (x=y)):=by
 show some (decide (x.s=y.s)&&(decide (x.e=y.e)&&(decide (x.d=y.d)&&(decide (x.k=y.k)&&true))))=_
 by_cases h:x=y
 ·subst h;simp
 ·rw [decide_eq_false h]
  have:¬ (x.s=y.s∧x.e=y.e∧x.d=y.d∧x.k=y.k):=fun h'=>h (by cases x;cases y;simp_all)
  by_cases h1:x.s=y.s<;>by_cases h2:x.e=y.e<;>by_cases h3:x.d=y.d<;>simp_all
theorem seqNte (a b:List Nte) (ha:a.length<9223372036854775808) (hb:b.length<9223372036854775808):VFun env 60 [.lst 66 (cells a) a.length,.lst 66 (cells b) b.length] (.p (.bool (decide (a=b)))):=by
 by_cases hlen:a.length=b.length
 case neg =>
  rw [decide_eq_false (fun e=>hlen (by rw [e]))]
  refine VFun.enter (env_none (by decide)) Tryz.func60 rfl (by kernel_rfl) (by simp [Tryz.ntmps60]) ?_
  repeat' (first|apply VWp.assoc|apply VWp.rseq|apply VWp.retSeq|apply VOps.nil|apply VOps.one|(apply VVal.assign;rfl)|(apply VVal.move;rfl)|(apply VVal.int;rfl;rfl;rfl)|(apply VVal.lenF;rfl;rfl)|(apply VWp.condSeq_dec;rfl)|(intro _;try (exfalso;omega)))
  all_goals first|(exfalso;omega)|contradiction|(refine Done.ret rfl (.refl _) (by exact PV.under_of rfl) HCov.nil (Nat.zero_le _) (Nat.le_refl _) ⟨?_,rfl,rfl⟩;try rfl)
 refine VFun.enter (env_none (by decide)) Tryz.func60 rfl (by kernel_rfl) (by simp [Tryz.ntmps60]) ?_
 repeat' (first|apply VWp.assoc|apply VWp.rseq|apply VWp.skipSeq|apply VWp.blockSeq|apply VOps.nil|apply VOps.one|(apply VVal.assign;rfl)|(apply VVal.move;rfl)|(apply VVal.int;rfl;rfl;rfl)|(apply VVal.lenF;rfl;rfl)|(apply VWp.condSeq_dec;rfl)|(intro _;try (exfalso;omega)))
 all_goals try (exfalso;omega)
 apply VWp.loopRI (a.length) (fun k=>∀ i,i<k→gi a i=gi b i) [(0,_),(1,_),(12,_)] [] (fun k r=>(13,.p (.int .i64 (k:Int)))::r) (fun k r=>r) 0
 ·first|omega|decide
 ·first|omega|decide
 ·repeat (first|exact LCov.nil|(refine LCov.eq rfl ?_ ?_;(first|exact PV.under_of rfl|(simp [PV.under,PVs.under];done)))|refine LCov.cons trivial rfl (.of_eq (lst_len (by simp<;>omega))) ?_)
 ·repeat (first|exact HCov.nil|(refine HCov.eq rfl (lt_dec rfl) ?_ ?_;(first|exact HB.under_of rfl|exact PVs.under_pure _ _|(simp [HB.under,PVs.under,PV.under];done)))|(refine HCov.cons (lt_dec rfl) ?_ rfl ?_ ?_;(first|exact trivial|exact PVs.under_pure _ _|(simp [HB.under,PVs.under,PV.under]));(first|exact HLe.refl _|exact HLe.vec (FLes.refl _) (by simp))))
 ·first|(intro _ _;omega)|omega|trivial
 ·intro k hk hok
  have he:=eqNte (gi a k) (gi b k)
  by_cases h:gi a k=gi b k
  ·rw [decide_eq_true h] at he
   repeat' (first|apply VWp.rseq|apply VWp.rseqD|apply VWp.region|apply VWp.skipSeq|apply VWp.blockSeq|apply QSeq.normal|apply QBlk.normal|apply VWp.skip|apply VOps.nil|apply VOpsD.nil|apply VOps.one|(apply VOpsD.bar;decide +kernel)|apply VOpsD.quiet|(apply VVal.neSt1;rfl;rfl;exact freeNte;exact he)|(apply VVal.assign;rfl)|(apply VVal.move;rfl)|(apply VVal.add64;rfl;rfl;omega)|(apply VVal.int;rfl;rfl;rfl)|(apply VVal.indexN;rfl;rfl;rfl;omega;rfl)|(apply VVal.load;rfl;rfl)|(apply VWp.condSeq_dec;rfl)|(apply VWp.cond_false;rfl)|(intro _;try (exfalso;omega)))
   all_goals try (exfalso;omega)
   all_goals try contradiction
   refine QLoop.normal ⟨(all_succP hok h),by first|omega|decide,?_,?_⟩
   ·repeat (first|exact LCov.nil|refine LCov.same (by exact PV.under_of rfl) rfl ?_|refine LCov.cons trivial rfl (.of_eq (lst_len (by simp<;>omega))) ?_)
   ·repeat (first|exact HCov.nil|(refine HCov.cons (lt_dec rfl) ?_ rfl ?_ ?_;(first|exact HB.under_of rfl|exact PVs.under_pure _ _|(simp [HB.under,PVs.under,PV.under]));(first|exact HLe.refl _|exact HLe.vec (FLes.refl _) (by simp))))
  ·rw [decide_eq_false h] at he
   rw [decide_eq_false (fun e=>h (by rw [e]))]
   repeat' (first|apply VWp.rseq|apply VWp.rseqD|apply VWp.skipSeq|apply VWp.blockSeq|apply QSeq.ret|apply QBlk.ret|apply QLoop.ret|apply VWp.ret|apply VOps.nil|apply VOpsD.nil|apply VOps.one|(apply VOpsD.bar;decide +kernel)|apply VOpsD.quiet|(apply VVal.neSt1;rfl;rfl;exact freeNte;exact he)|(apply VVal.assign;rfl)|(apply VVal.move;rfl)|(apply VVal.int;rfl;rfl;rfl)|(apply VVal.indexN;rfl;rfl;rfl;omega;rfl)|(apply VVal.load;rfl;rfl)|(apply VWp.condSeq_dec;rfl)|(apply VWp.cond_true;rfl)|(intro _;try (exfalso;omega)))
   all_goals first|(exfalso;omega)|contradiction|(refine Done.ret rfl (.refl _) (by exact PV.under_of rfl) HCov.nil (Nat.zero_le _) (Nat.le_refl _) ⟨?_,rfl,rfl⟩;try rfl)
 ·intro hok
  rw [decide_eq_true (gi_ext hlen hok)]
  repeat' (first|apply VWp.rseq|apply VWp.exitSeq|apply QSeq.normal|apply QBlk.exit|apply QLoop.exit|apply VWp.ret|apply VOps.nil|apply VOps.one|(apply VVal.assign;rfl)|(apply VVal.int;rfl;rfl;rfl)|(apply VWp.condSeq_dec;rfl)|(intro _;try (exfalso;omega)))
  all_goals first|(exfalso;omega)|contradiction|(refine Done.ret rfl (.refl _) (by exact PV.under_of rfl) HCov.nil (Nat.zero_le _) (Nat.le_refl _) ⟨?_,rfl,rfl⟩;try rfl)
theorem rgs_dec {a b:Rgs}:(a=b)↔(a.stops=b.stops∧a.cp=b.cp∧a.off=b.off):=by
 constructor
 ·rintro rfl;exact ⟨rfl,rfl,rfl⟩
 ·rintro ⟨h1,h2,h3⟩;cases a;cases b;simp_all
theorem stg_dec {a b:Stg}:(a=b)↔(a.bar=b.bar∧a.reg=b.reg):=by
 constructor
 ·rintro rfl;exact ⟨rfl,rfl⟩
 ·rintro ⟨h1,h2⟩;cases a;cases b;simp_all
theorem pce_dec {a b:Pce}:(a=b)↔(a.bars=b.bars∧a.notes=b.notes∧a.sets=b.sets):=by
 constructor
 ·rintro rfl;exact ⟨rfl,rfl,rfl⟩
 ·rintro ⟨h1,h2,h3⟩;cases a;cases b;simp_all
theorem sameR_spec (a b:Rgs) (ha:a.stops.length<9223372036854775808) (hb:b.stops.length<9223372036854775808):VFun env 33 [.agg (Enc.enc a),.agg (Enc.enc b)] (.p (.bool (decide (a=b)))):=by
 have hs:=seq64 a.stops b.stops ha hb
 by_cases h1:a.stops=b.stops<;>by_cases h2:a.cp=b.cp<;>by_cases h3:a.off=b.off
 all_goals first|rw [decide_eq_true h1] at hs|rw [decide_eq_false h1] at hs
 all_goals first|rw [decide_eq_true (rgs_dec.2 ⟨h1,h2,h3⟩)]|rw [decide_eq_false (fun e=>by have:=rgs_dec.1 e;simp_all)]
 all_goals
  refine VFun.enter (env_none (by decide)) Tryz.func33 rfl (by kernel_rfl) (by simp [Tryz.ntmps33]) ?_
 all_goals
  repeat' (first|apply VWp.rseq|apply VWp.ret|apply VOps.nil|apply VOps.one|(apply VOps.take;rfl;rfl)|(apply VOps.drop;rfl;rfl;rfl)|(apply VOps.guard;rfl;rfl)|(apply VVal.fn;rfl;rfl;exact hs;intro _;rfl)|(apply VVal.assign;rfl)|(apply VVal.move;rfl)|(apply VVal.int;rfl;rfl;rfl)|(apply VVal.load;rfl;rfl)|(apply VVal.pick_true;rfl;rfl)|(apply VVal.pick_false;rfl;rfl)|(apply VVal.fieldB;rfl;rfl;rfl)|(apply VVal.box;rfl;trivial)|(intro _;try (exfalso;omega)))
 all_goals first|(exfalso;omega)|contradiction|(refine Done.ret rfl (.refl _) (by exact PV.under_of rfl) HCov.nil (Nat.zero_le _) (Nat.le_refl _) ⟨?_,rfl,rfl⟩;try rfl)
 all_goals exact PV.bool_eq (by simp;omega)
theorem eqStgP (x y:Stg) (hx:x.reg.Ok) (hy:y.reg.Ok):VRead env 64 ([.p (.agg (Enc.enc x)),.p (.agg (Enc.enc y))]++[]) [] 0 (.bool (decide (x=y))):=by
 have hs:=seq64 x.reg.stops y.reg.stops hx.len hy.len
 by_cases h1:x.bar=y.bar<;>by_cases h2:x.reg.stops=y.reg.stops<;>by_cases h3:x.reg.cp=y.reg.cp<;>by_cases h4:x.reg.off=y.reg.off
 all_goals first|rw [decide_eq_true h2] at hs|rw [decide_eq_false h2] at hs
 all_goals first|rw [decide_eq_true (stg_dec.2 ⟨h1,rgs_dec.2 ⟨h2,h3,h4⟩⟩)]|rw [decide_eq_false (fun e=>by have:=stg_dec.1 e;have:=rgs_dec.1 this.2;simp_all)]
 all_goals
  refine VRead.enter (env_none (by decide)) Tryz.func64 rfl (by kernel_rfl) (by simp [Tryz.ntmps64]) ?_
 all_goals
  repeat' (first|apply VWp.rseq|apply VWp.ret|apply VOps.nil|apply VOps.one|(apply VOps.take;rfl;rfl)|(apply VOps.drop;rfl;rfl;rfl)|(apply VOps.guard;rfl;rfl)|(apply VVal.fn;rfl;rfl;exact hs;intro _;rfl)|(apply VVal.assign;rfl)|(apply VVal.move;rfl)|(apply VVal.int;rfl;rfl;rfl)|(apply VVal.load;rfl;rfl)|(apply VVal.pick_true;rfl;rfl)|(apply VVal.pick_false;rfl;rfl)|(apply VVal.fieldB;rfl;rfl;rfl)|(apply VVal.box;rfl;trivial)|(intro _;try (exfalso;omega)))
 all_goals first|(exfalso;omega)|contradiction|(refine Done.ret rfl (.refl _) trivial ?_ (by omega) (Nat.le_refl _) ⟨?_,rfl,rfl⟩;repeat (first|exact HCov.nil|(refine HCov.cons (lt_dec rfl) ?_ rfl ?_ ?_;(first|exact HB.under_of rfl|exact PVs.under_pure _ _|(simp [HB.under,PVs.under,PV.under]));(first|exact HLe.refl _|exact HLe.vec (FLes.refl _) (by simp))));try rfl)
 all_goals exact PV.bool_eq (by simp;omega)
theorem eqfStg (g:Nat) (hg:g=62∨g=64) (a b:List Stg) (ha:a.length<9223372036854775808) (hb:b.length<9223372036854775808) (he:∀ i,i<a.length→i<b.length→VRead env g ([.p (.agg (Enc.enc (gi a i))),.p (.agg (Enc.enc (gi b i)))]++[]) [] 0 (.bool (decide (gi a i=gi b i)))) :
 VRead env 61 [.p (.lst 74 (cells a) a.length),.p (.lst 74 (cells b) b.length),.clo g [] []] [] 0 (.bool (decide (a=b))):=by
 rcases hg with rfl|rfl
 ·skip
  by_cases hlen:a.length=b.length
  case neg =>
   rw [decide_eq_false (fun e=>hlen (by rw [e]))]
   refine VRead.enter (env_none (by decide)) Tryz.func61 rfl (by kernel_rfl) (by simp [Tryz.ntmps61]) ?_
   repeat' (first|apply VWp.assoc|apply VWp.rseq|apply VWp.retSeq|apply VOps.nil|apply VOps.one|(apply VVal.assign;rfl)|(apply VVal.move;rfl)|(apply VVal.int;rfl;rfl;rfl)|(apply VVal.lenF;rfl;rfl)|(apply VWp.condSeq_dec;rfl)|(intro _;try (exfalso;omega)))
   all_goals first|(exfalso;omega)|contradiction|(refine Done.ret rfl (.refl _) trivial ?_ (by omega) (Nat.le_refl _) ⟨?_,rfl,rfl⟩;repeat (first|exact HCov.nil|(refine HCov.cons (lt_dec rfl) ?_ rfl ?_ ?_;(first|exact HB.under_of rfl|exact PVs.under_pure _ _|(simp [HB.under,PVs.under,PV.under]));(first|exact HLe.refl _|exact HLe.vec (FLes.refl _) (by simp))));try rfl)
  refine VRead.enter (env_none (by decide)) Tryz.func61 rfl (by kernel_rfl) (by simp [Tryz.ntmps61]) ?_
  repeat' (first|apply VWp.assoc|apply VWp.rseq|apply VWp.skipSeq|apply VWp.blockSeq|apply VOps.nil|apply VOps.one|(apply VVal.assign;rfl)|(apply VVal.move;rfl)|(apply VVal.int;rfl;rfl;rfl)|(apply VVal.lenF;rfl;rfl)|(apply VWp.condSeq_dec;rfl)|(intro _;try (exfalso;omega)))
  all_goals try (exfalso;omega)
  apply VWp.loopRI (a.length) (fun k=>∀ i,i<k→gi a i=gi b i) [(1,_),(2,_),(15,_),(16,_)] [] (fun k r=>(17,.p (.int .i64 (k:Int)))::r) (fun k r=>r) 0
  ·first|omega|decide
  ·first|omega|decide
  ·repeat (first|exact LCov.nil|(refine LCov.eq rfl ?_ ?_;(first|exact PV.under_of rfl|(simp [PV.under,PVs.under];done)))|refine LCov.cons trivial rfl (.of_eq (lst_len (by simp<;>omega))) ?_)
  ·repeat (first|exact HCov.nil|(refine HCov.eq rfl (lt_dec rfl) ?_ ?_;(first|exact HB.under_of rfl|exact PVs.under_pure _ _|(simp [HB.under,PVs.under,PV.under];done)))|(refine HCov.cons (lt_dec rfl) ?_ rfl ?_ ?_;(first|exact trivial|exact PVs.under_pure _ _|(simp [HB.under,PVs.under,PV.under]));(first|exact HLe.refl _|exact HLe.vec (FLes.refl _) (by simp))))
  ·first|(intro _ _;omega)|omega|trivial
  ·intro k hk hok
   have hc:=he k hk (by omega)
   by_cases h:gi a k=gi b k
   ·rw [decide_eq_true h] at hc
    repeat' (first|apply VWp.rseq|apply VWp.region|apply VWp.skipSeq|apply VWp.blockSeq|apply QSeq.normal|apply QBlk.normal|apply VWp.skip|apply VOps.nil|apply VOps.one|(apply VVal.read [] hc;rfl;rfl;exact .of_eq rfl;exact PVs.under_of rfl;exact HUnder_of rfl;(repeat (first|exact trivial|refine ⟨⟨_,rfl,.of_eq rfl⟩,?_⟩));decide;(intro _ hb;simp at hb<;>omega);rfl)|(apply VVal.assign;rfl)|(apply VVal.move;rfl)|(apply VVal.add64;rfl;rfl;omega)|(apply VVal.int;rfl;rfl;rfl)|(apply VVal.indexN;rfl;rfl;rfl;omega;rfl)|(apply VVal.load;rfl;rfl)|(apply VVal.alloc;rfl)|(apply VVal.storeB;rfl;rfl;rfl;trivial;rfl;rfl;exact lt_dec rfl;exact le_dec rfl)|(apply VVal.not;rfl)|(apply VWp.condSeq_dec;rfl)|(apply VWp.cond_false;rfl)|(intro _;try (exfalso;omega)))
    all_goals try (exfalso;omega)
    all_goals try contradiction
    refine QLoop.normal ⟨(all_succP hok h),by first|omega|decide,?_,?_⟩
    ·repeat (first|exact LCov.nil|refine LCov.same (by exact PV.under_of rfl) rfl ?_|refine LCov.cons trivial rfl (.of_eq (lst_len (by simp<;>omega))) ?_)
    ·repeat (first|exact HCov.nil|(refine HCov.cons (lt_dec rfl) ?_ rfl ?_ ?_;(first|exact HB.under_of rfl|exact PVs.under_pure _ _|(simp [HB.under,PVs.under,PV.under]));(first|exact HLe.refl _|exact HLe.vec (FLes.refl _) (by simp))))
   ·rw [decide_eq_false h] at hc
    rw [decide_eq_false (fun e=>h (by rw [e]))]
    repeat' (first|apply VWp.rseq|apply VWp.skipSeq|apply VWp.blockSeq|apply QSeq.ret|apply QBlk.ret|apply QLoop.ret|apply VWp.ret|apply VOps.nil|apply VOps.one|(apply VVal.read [] hc;rfl;rfl;exact .of_eq rfl;exact PVs.under_of rfl;exact HUnder_of rfl;(repeat (first|exact trivial|refine ⟨⟨_,rfl,.of_eq rfl⟩,?_⟩));decide;(intro _ hb;simp at hb<;>omega);rfl)|(apply VVal.assign;rfl)|(apply VVal.move;rfl)|(apply VVal.int;rfl;rfl;rfl)|(apply VVal.indexN;rfl;rfl;rfl;omega;rfl)|(apply VVal.load;rfl;rfl)|(apply VVal.alloc;rfl)|(apply VVal.storeB;rfl;rfl;rfl;trivial;rfl;rfl;exact lt_dec rfl;exact le_dec rfl)|(apply VVal.not;rfl)|(apply VWp.condSeq_dec;rfl)|(apply VWp.cond_true;rfl)|(intro _;try (exfalso;omega)))
    all_goals first|(exfalso;omega)|contradiction|(refine Done.ret rfl (.refl _) trivial ?_ (by omega) (Nat.le_refl _) ⟨?_,rfl,rfl⟩;repeat (first|exact HCov.nil|(refine HCov.cons (lt_dec rfl) ?_ rfl ?_ ?_;(first|exact HB.under_of rfl|exact PVs.under_pure _ _|(simp [HB.under,PVs.under,PV.under]));(first|exact HLe.refl _|exact HLe.vec (FLes.refl _) (by simp))));try rfl)
  ·intro hok
   rw [decide_eq_true (gi_ext hlen hok)]
   repeat' (first|apply VWp.rseq|apply VWp.exitSeq|apply QSeq.normal|apply QBlk.exit|apply QLoop.exit|apply VWp.ret|apply VOps.nil|apply VOps.one|(apply VVal.assign;rfl)|(apply VVal.int;rfl;rfl;rfl)|(apply VWp.condSeq_dec;rfl)|(intro _;try (exfalso;omega)))
   all_goals first|(exfalso;omega)|contradiction|(refine Done.ret rfl (.refl _) trivial ?_ (by omega) (Nat.le_refl _) ⟨?_,rfl,rfl⟩;repeat (first|exact HCov.nil|(refine HCov.cons (lt_dec rfl) ?_ rfl ?_ ?_;(first|exact HB.under_of rfl|exact PVs.under_pure _ _|(simp [HB.under,PVs.under,PV.under]));(first|exact HLe.refl _|exact HLe.vec (FLes.refl _) (by simp))));try rfl)
 ·skip
  by_cases hlen:a.length=b.length
  case neg =>
   rw [decide_eq_false (fun e=>hlen (by rw [e]))]
   refine VRead.enter (env_none (by decide)) Tryz.func61 rfl (by kernel_rfl) (by simp [Tryz.ntmps61]) ?_
   repeat' (first|apply VWp.assoc|apply VWp.rseq|apply VWp.retSeq|apply VOps.nil|apply VOps.one|(apply VVal.assign;rfl)|(apply VVal.move;rfl)|(apply VVal.int;rfl;rfl;rfl)|(apply VVal.lenF;rfl;rfl)|(apply VWp.condSeq_dec;rfl)|(intro _;try (exfalso;omega)))
   all_goals first|(exfalso;omega)|contradiction|(refine Done.ret rfl (.refl _) trivial ?_ (by omega) (Nat.le_refl _) ⟨?_,rfl,rfl⟩;repeat (first|exact HCov.nil|(refine HCov.cons (lt_dec rfl) ?_ rfl ?_ ?_;(first|exact HB.under_of rfl|exact PVs.under_pure _ _|(simp [HB.under,PVs.under,PV.under]));(first|exact HLe.refl _|exact HLe.vec (FLes.refl _) (by simp))));try rfl)
  refine VRead.enter (env_none (by decide)) Tryz.func61 rfl (by kernel_rfl) (by simp [Tryz.ntmps61]) ?_
  repeat' (first|apply VWp.assoc|apply VWp.rseq|apply VWp.skipSeq|apply VWp.blockSeq|apply VOps.nil|apply VOps.one|(apply VVal.assign;rfl)|(apply VVal.move;rfl)|(apply VVal.int;rfl;rfl;rfl)|(apply VVal.lenF;rfl;rfl)|(apply VWp.condSeq_dec;rfl)|(intro _;try (exfalso;omega)))
  all_goals try (exfalso;omega)
  apply VWp.loopRI (a.length) (fun k=>∀ i,i<k→gi a i=gi b i) [(1,_),(2,_),(15,_),(16,_)] [] (fun k r=>(17,.p (.int .i64 (k:Int)))::r) (fun k r=>r) 0
  ·first|omega|decide
  ·first|omega|decide
  ·repeat (first|exact LCov.nil|(refine LCov.eq rfl ?_ ?_;(first|exact PV.under_of rfl|(simp [PV.under,PVs.under];done)))|refine LCov.cons trivial rfl (.of_eq (lst_len (by simp<;>omega))) ?_)
  ·repeat (first|exact HCov.nil|(refine HCov.eq rfl (lt_dec rfl) ?_ ?_;(first|exact HB.under_of rfl|exact PVs.under_pure _ _|(simp [HB.under,PVs.under,PV.under];done)))|(refine HCov.cons (lt_dec rfl) ?_ rfl ?_ ?_;(first|exact trivial|exact PVs.under_pure _ _|(simp [HB.under,PVs.under,PV.under]));(first|exact HLe.refl _|exact HLe.vec (FLes.refl _) (by simp))))
  ·first|(intro _ _;omega)|omega|trivial
  ·intro k hk hok
   have hc:=he k hk (by omega)
   by_cases h:gi a k=gi b k
   ·rw [decide_eq_true h] at hc
    repeat' (first|apply VWp.rseq|apply VWp.region|apply VWp.skipSeq|apply VWp.blockSeq|apply QSeq.normal|apply QBlk.normal|apply VWp.skip|apply VOps.nil|apply VOps.one|(apply VVal.read [] hc;rfl;rfl;exact .of_eq rfl;exact PVs.under_of rfl;exact HUnder_of rfl;(repeat (first|exact trivial|refine ⟨⟨_,rfl,.of_eq rfl⟩,?_⟩));decide;(intro _ hb;simp at hb<;>omega);rfl)|(apply VVal.assign;rfl)|(apply VVal.move;rfl)|(apply VVal.add64;rfl;rfl;omega)|(apply VVal.int;rfl;rfl;rfl)|(apply VVal.indexN;rfl;rfl;rfl;omega;rfl)|(apply VVal.load;rfl;rfl)|(apply VVal.alloc;rfl)|(apply VVal.storeB;rfl;rfl;rfl;trivial;rfl;rfl;exact lt_dec rfl;exact le_dec rfl)|(apply VVal.not;rfl)|(apply VWp.condSeq_dec;rfl)|(apply VWp.cond_false;rfl)|(intro _;try (exfalso;omega)))
    all_goals try (exfalso;omega)
    all_goals try contradiction
    refine QLoop.normal ⟨(all_succP hok h),by first|omega|decide,?_,?_⟩
    ·repeat (first|exact LCov.nil|refine LCov.same (by exact PV.under_of rfl) rfl ?_|refine LCov.cons trivial rfl (.of_eq (lst_len (by simp<;>omega))) ?_)
    ·repeat (first|exact HCov.nil|(refine HCov.cons (lt_dec rfl) ?_ rfl ?_ ?_;(first|exact HB.under_of rfl|exact PVs.under_pure _ _|(simp [HB.under,PVs.under,PV.under]));(first|exact HLe.refl _|exact HLe.vec (FLes.refl _) (by simp))))
   ·rw [decide_eq_false h] at hc
    rw [decide_eq_false (fun e=>h (by rw [e]))]
    repeat' (first|apply VWp.rseq|apply VWp.skipSeq|apply VWp.blockSeq|apply QSeq.ret|apply QBlk.ret|apply QLoop.ret|apply VWp.ret|apply VOps.nil|apply VOps.one|(apply VVal.read [] hc;rfl;rfl;exact .of_eq rfl;exact PVs.under_of rfl;exact HUnder_of rfl;(repeat (first|exact trivial|refine ⟨⟨_,rfl,.of_eq rfl⟩,?_⟩));decide;(intro _ hb;simp at hb<;>omega);rfl)|(apply VVal.assign;rfl)|(apply VVal.move;rfl)|(apply VVal.int;rfl;rfl;rfl)|(apply VVal.indexN;rfl;rfl;rfl;omega;rfl)|(apply VVal.load;rfl;rfl)|(apply VVal.alloc;rfl)|(apply VVal.storeB;rfl;rfl;rfl;trivial;rfl;rfl;exact lt_dec rfl;exact le_dec rfl)|(apply VVal.not;rfl)|(apply VWp.condSeq_dec;rfl)|(apply VWp.cond_true;rfl)|(intro _;try (exfalso;omega)))
    all_goals first|(exfalso;omega)|contradiction|(refine Done.ret rfl (.refl _) trivial ?_ (by omega) (Nat.le_refl _) ⟨?_,rfl,rfl⟩;repeat (first|exact HCov.nil|(refine HCov.cons (lt_dec rfl) ?_ rfl ?_ ?_;(first|exact HB.under_of rfl|exact PVs.under_pure _ _|(simp [HB.under,PVs.under,PV.under]));(first|exact HLe.refl _|exact HLe.vec (FLes.refl _) (by simp))));try rfl)
  ·intro hok
   rw [decide_eq_true (gi_ext hlen hok)]
   repeat' (first|apply VWp.rseq|apply VWp.exitSeq|apply QSeq.normal|apply QBlk.exit|apply QLoop.exit|apply VWp.ret|apply VOps.nil|apply VOps.one|(apply VVal.assign;rfl)|(apply VVal.int;rfl;rfl;rfl)|(apply VWp.condSeq_dec;rfl)|(intro _;try (exfalso;omega)))
   all_goals first|(exfalso;omega)|contradiction|(refine Done.ret rfl (.refl _) trivial ?_ (by omega) (Nat.le_refl _) ⟨?_,rfl,rfl⟩;repeat (first|exact HCov.nil|(refine HCov.cons (lt_dec rfl) ?_ rfl ?_ ?_;(first|exact HB.under_of rfl|exact PVs.under_pure _ _|(simp [HB.under,PVs.under,PV.under]));(first|exact HLe.refl _|exact HLe.vec (FLes.refl _) (by simp))));try rfl)
theorem pequal_spec (x y:Pce) (hx:PceSm x) (hy:PceSm y):VFun env 26 [.agg (Enc.enc x),.agg (Enc.enc y)] (.p (.bool (decide (x=y)))):=by
 have a1:=hx.bars
 have a2:=hx.notes
 have a3:=hx.sets
 have b1:=hy.bars
 have b2:=hy.notes
 have b3:=hy.sets
 have s1:=seq_spec x.bars y.bars (by omega) (by omega)
 have s2:=seqNte x.notes y.notes (by omega) (by omega)
 have s3:=eqfStg _ (.inr rfl) x.sets y.sets (by omega) (by omega) (fun i h1 h2=>eqStgP _ _ (hx.reg i h1) (hy.reg i h2))
 by_cases h1:x.bars=y.bars<;>by_cases h2:x.notes=y.notes<;>by_cases h3:x.sets=y.sets
 all_goals first|rw [decide_eq_true h1] at s1|rw [decide_eq_false h1] at s1
 all_goals first|rw [decide_eq_true h2] at s2|rw [decide_eq_false h2] at s2
 all_goals first|rw [decide_eq_true h3] at s3|rw [decide_eq_false h3] at s3
 all_goals first|rw [decide_eq_true (pce_dec.2 ⟨h1,h2,h3⟩)]|rw [decide_eq_false (fun e=>by have:=pce_dec.1 e;simp_all)]
 all_goals
  refine VFun.enter (env_none (by decide)) Tryz.func26 rfl (by kernel_rfl) (by simp [Tryz.ntmps26]) ?_
 all_goals
  repeat' (first|apply VWp.rseq|apply VWp.ret|apply VOps.nil|apply VOps.one|(apply VOps.take;rfl;rfl)|(apply VOps.drop;rfl;rfl;rfl)|(apply VVal.fn;rfl;rfl;exact s1;intro _;rfl)|(apply VVal.fn;rfl;rfl;exact s2;intro _;rfl)|(apply VVal.read [] s3;rfl;rfl;exact .of_eq rfl;exact PVs.under_of rfl;exact HUnder_of rfl;(repeat (first|exact trivial|refine ⟨⟨_,rfl,.of_eq rfl⟩,?_⟩));decide;(intro _ hb;simp at hb<;>omega);rfl)|(apply VVal.assign;rfl)|(apply VVal.move;rfl)|(apply VVal.load;rfl;rfl)|(apply VVal.pick_true;rfl;rfl)|(apply VVal.pick_false;rfl;rfl)|(apply VVal.fieldB;rfl;rfl;rfl)|(apply VVal.box;rfl;trivial))
 all_goals first|(exfalso;omega)|contradiction|(refine Done.ret rfl (.refl _) (by exact PV.under_of rfl) HCov.nil (Nat.zero_le _) (Nat.le_refl _) ⟨?_,rfl,rfl⟩;try rfl)
end Go.Proofs.YtnhdddmhkhdlhaaGreatDoor
namespace Go.Vm
open Go.Am
variable {E:Env} {L:Frame} {H:Heap} {nx:Nat} {Q:PV→Heap→Nat→Prop} {w:Bool}
variable {dst:Option Tmp} {ty:TypeId} {pos:String} {af:Array Edge} {gd:Option (Nat×Bool)}
theorem VVal.sliceV {t:TypeId} {x:Operand} {lo hi:Option Operand} {e:TypeId} {cs:List FV} {b n off len a c sz:Nat} {z:Bool} {inf:TypeInfo} (hx:vev E.Γ L x=some (.vec b n off len)) (hb:hget H b=some (.vec e cs n z)) (hn:0<n) (ht:E.P.underlying t=some (.slice e)) (hi':E.P.info? e=some inf) (hsz:inf.size=sz)
 (hlo:match lo with|none=>a=0|some o=>∃ k,vev E.Γ L o=some (.p (.int k (a:Int)))) (hhi:match hi with|none=>c=len|some o=>∃ k,vev E.Γ L o=some (.p (.int k (c:Int)))) (hac:a≤c) (hcl:c≤len)
 (q:Q (.vec b n (off+a*sz) (c-a)) H nx):VVal E w ⟨dst,.slice t x lo hi none,ty,pos,af,gd⟩ L H nx Q :=
 VVal.quiet q fun m F σ tt h1 h2=>by
  have hblo:bnd 0 (lo.map (ev tt))=some a:=by
   cases lo with
   |none=>simp only at hlo;rw [hlo];rfl
   |some o =>
    obtain ⟨k,hk⟩:=hlo
    simp only [Option.map_some,vev_int h1 h2 hk,bnd]
    rw [if_pos (by omega)];simp
  have hbhi:bnd len (hi.map (ev tt))=some c:=by
   cases hi with
   |none=>simp only at hhi;rw [hhi];rfl
   |some o =>
    obtain ⟨k,hk⟩:=hhi
    simp only [Option.map_some,vev_int h1 h2 hk,bnd]
    rw [if_pos (by omega)];simp
  have hsub:=vev_vec h1 h2 hx hb
  obtain ⟨hlt,hr⟩:=h1.hp b _ hb
  rcases hr with ⟨r1,r2,r3⟩|⟨d,g,vs,r1,r2,r3,r4,r5,r6,r7⟩
  ·omega
  rw [r1] at hsub
  simp only [SubOf] at hsub
  refine ⟨.slice (some ⟨d,off+a*sz,none⟩) (c-a) g,fun _=>?_,.vec hlt rfl fun j hj=>?_⟩
  ·simp only [aval,aop,hsub,aslice,Option.isSome_none,Option.map_none,Bool.false_and,Bool.false_eq_true,if_false,ht,hi',hblo,hbhi,r4,hac,hcl,r2,and_self,if_true,Option.map_some,hsz]
  ·simp only [htag,hb,HB.tag,Option.map_some,Option.some.injEq,Tg.vec.injEq] at hj
   refine ⟨by omega,fun _=>?_⟩
   rw [r1];rfl
theorem put_cells {m:Mem} {F:Nat→Prop} {σ:Nat→Value} {b n off c g:Nat} {e:TypeId} {cs fs:List FV} {vs l:List Value} {z:Bool} (h1:Ctx E.Γ m F σ H nx) (hb:hget H b=some (.vec e cs n z)) (hn:0<n) (h4:σ b=.slice (some ⟨c,0,none⟩) n g) (r2:c<m.size) (r3:¬ F c) (r4:m.get c=.cells vs e g false) (r5:RFs m F cs vs) (r6:vs.all isCell=true)
 (hl:RFs m F fs l) (hc:l.all isCell=true) :
 Ctx E.Γ (m.put c (.cells (splice vs off l) e g false)) F (upd σ b (σ b)) (hput H b (.vec e (psplice cs off fs) n z)) nx∧Step m F σ H nx (m.put c (.cells (splice vs off l) e g false)) F (upd σ b (σ b)) (hput H b (.vec e (psplice cs off fs) n z)) nx:=by
 have hput':∀ d,c≠d→(m.put c (.cells (splice vs off l) e g false)).get d=m.get d:=fun d hd=>by rw [Mem.get_put,if_neg hd]
 exact h1.change (m':=m.put c (.cells (splice vs off l) e g false)) (x':=.vec e (psplice cs off fs) n z) (s':=σ b) hb (Nat.le_refl _) (fun _=>rfl) (Nat.le_refl _)
  (fun d _ hd=>hput' d fun e=>hd (by rw [h4,e];rfl)) (fun k k1 k2 k3=>by
   have:=k3 c (by rw [h4];rfl)
   simp only [Mem.put];omega) (fun d hd=>.inl hd) (by
   refine .inr ⟨c,g,splice vs off l,h4,r2,r3,by rw [Mem.get_put,if_pos rfl],?_,all_splice _ r6 hc,fun h=>by omega⟩
   exact (RFs.splice off r5 hl).mono (fun d hd=>⟨hd,hput' d fun e=>r3 (e▸hd)⟩))
def SlT (Γ:Nat→Option (List Value×TypeId)) (L:Frame) (H:Heap) (nx:Nat) (x:Operand) (sz n:Nat) (xs:List FV) (k:Nat):Prop :=
 ∀ m F σ t,Ctx Γ m F σ H nx→RL m F (htag H) σ nx L t→lenOf (ev t x)=some n∧∃ l,sliceCells m sz k (ev t x)=some l∧RFs m F xs l∧l.all isCell=true
theorem SlT.lst {Γ:Nat→Option (List Value×TypeId)} {x:Operand} {e:TypeId} {sz n k:Nat} {xs ys:List FV} (h:vev Γ L x=some (.p (.lst e xs n))) (hl:xs.length=n*sz) (hk:k≤n) (hy:ys=xs.take (k*sz)):SlT Γ L H nx x sz n ys k:=fun m F σ t h1 h2=>by
 subst hy
 have:=vev_rel h1 h2 h
 generalize ev t x=v at this
 cases this with
 |p h =>
  cases h with
  |nil=>obtain rfl:k=0:=by omega
        exact ⟨rfl,[],rfl,by rw [Nat.zero_mul,List.take_zero];exact .nil,rfl⟩
  |room=>obtain rfl:k=0:=by omega
         exact ⟨rfl,[],rfl,by rw [Nat.zero_mul,List.take_zero];exact .nil,rfl⟩
  |lst hF hm hw hr hc =>
   rename_i b o g vs ws ro
   refine ⟨rfl,ws.take (k*sz),?_,RFs.take _ hr,all_take hc _⟩
   have h3:=takeN_take (k:=k*sz) hw
   rw [hl,Nat.min_eq_left (Nat.mul_le_mul_right sz hk)] at h3
   simp only [sliceCells,if_pos hk,Mem.cellsAt,hm]
   simp only [agen,Option.getD_some,if_true]
   exact h3
theorem SlT.vec {Γ:Nat→Option (List Value×TypeId)} {x:Operand} {b n off len sz k:Nat} {e:TypeId} {cs ys:List FV} {z:Bool} (h:vev Γ L x=some (.vec b n off len)) (hb:hget H b=some (.vec e cs n z)) (hn:0<n) (hl:off+len*sz≤cs.length) (hk:k≤len) (hy:ys=(cs.drop off).take (k*sz)) :
 SlT Γ L H nx x sz len ys k:=fun m F σ t h1 h2=>by
 subst hy
 have hsub:=vev_vec h1 h2 h hb
 obtain ⟨_,hr⟩:=h1.hp b _ hb
 rcases hr with ⟨r1,r2,r3⟩|⟨c,g,vs,r1,r2,r3,r4,r5,r6,r7⟩
 ·omega
 ·rw [r1] at hsub
  simp only [SubOf] at hsub
  rw [hsub]
  have hlen:=r5.length
  have h0:=Nat.mul_le_mul_right sz hk
  have hle:k*sz≤(vs.drop off).length:=by rw [List.length_drop];omega
  refine ⟨rfl,(vs.drop off).take (k*sz),?_,RFs.take _ (RFs.drop off r5),all_take (all_drop r6 _) _⟩
  simp only [sliceCells,if_pos hk,Mem.cellsAt,r4]
  simp only [agen,Option.getD_some,if_true,takeN,if_pos hle]
theorem VVal.copy {d x:Operand} {dT xT e:TypeId} {i:TypeInfo} {b n off len k N:Nat} {cs xs:List FV} {z:Bool} (hd:vev E.Γ L d=some (.vec b n off len)) (hb:hget H b=some (.vec e cs n z)) (hn:0<n)
 (hdT:E.P.underlying dT=some (.slice e)) (hi:E.P.info? e=some i) (hsz:0<i.size) (hx:SlT E.Γ L H nx x i.size N xs k) (hk:k=min N len) (h0:0<k) (hxs:xs.length=k*i.size) (hl:off+k*i.size≤cs.length) (q:Q (.p (.int .i64 (k:Int))) (hput H b (.vec e (psplice cs off xs) n z)) nx) :
 VVal E true ⟨dst,.call { callee:=.builtin .copy,args:=#[d,x],argTypes:=#[dT,xT] },ty,pos,af,gd⟩ L H nx Q:=by
 intro m F σ t h1 h2
 have hsub:=vev_vec h1 h2 hd hb
 obtain ⟨hx1,l,hx2,hx3,hx4⟩:=hx m F σ t h1 h2
 obtain ⟨hlt,hr⟩:=h1.hp b _ hb
 rcases hr with ⟨r1,r2,r3⟩|⟨c,g,vs,r1,r2,r3,r4,r5,r6,r7⟩
 ·omega
 rw [r1] at hsub
 simp only [SubOf] at hsub
 have hlen:=hx3.length
 have hlen2:=r5.length
 obtain ⟨d1,d2⟩:=put_cells (E:=E) (off:=off) h1 hb hn r1 r2 r3 r4 r5 r6 hx3 hx4
 refine AVal.op (v:=.int .i64 (k:Int)) (m':=m.put c (.cells (splice vs off l) e g false)) (fun _=>?_) ⟨_,_,_,F,_,q,d1,.p (.int _ _),d2,fun h=>by cases h⟩
 have hk2:(k:Nat)=Nat.min N len:=hk
 have hp:=Nat.mul_pos h0 hsz
 simp only [aval,aop,acopy,List.map_toArray,List.map_cons,List.map_nil,List.getElem?_toArray,List.getElem?_cons_zero,List.getElem?_cons_succ,hsub,hdT,hx1,hi]
 rw [← hk2,if_neg (by omega),hx2]
 simp only [storeRow,r4,agen,Option.getD_some,beq_self_eq_true,Bool.true_and]
 rw [if_pos (by simp only [Bool.and_eq_true,decide_eq_true_eq];exact ⟨⟨by rw [← hlen,hxs,← hlen2];exact ⟨trivial,hl⟩,by rw [← hlen,hxs];exact hp⟩,hx4⟩)]
 rfl
def leftReg:Code→Option Nat
 | .region n _ _=>some n
 | .seq a b=>match leftReg a with
  |some n=>some n
  |none=>leftReg b
 | .block _ b=>leftReg b
 | .loop b=>leftReg b
 | .scope b=>leftReg b
 |_=>none
def loopAt (r:Nat):Code→Option Code
 | .loop b=>match leftReg b with
  |some n=>match Nat.beq n r with
   |true=>some (.loop b)
   |false=>loopAt r b
  |none=>loopAt r b
 | .seq a b=>match loopAt r a with
  |some c=>some c
  |none=>loopAt r b
 | .cond _ a b=>match loopAt r a with
  |some c=>some c
  |none=>loopAt r b
 | .block _ b=>loopAt r b
 | .scope b=>loopAt r b
 | .rangeFunc _ _ _ b=>loopAt r b
 |_=>none
def loopOf (fn:Func) (r:Nat):Code:=match fn.body with
 |some c=>match loopAt r c with
  |some c=>c
  |none=>.skip
 |none=>.skip
theorem psplice_eq {α:Type}:∀ (r cs:List α) (o:Nat),o+r.length≤cs.length→psplice cs o r=cs.take o++r++cs.drop (o+r.length)
 |[],cs,o,h=>by simp [psplice]
 |a::r,cs,o,h=>by
  simp only [List.length_cons] at h
  have ih:=psplice_eq r (cs.set o a) (o+1) (by simp;omega)
  simp only [psplice]
  rw [ih]
  have e1:(cs.set o a).take (o+1)=cs.take o++[a]:=by
   rw [List.take_succ_eq_append_getElem (by simp;omega)]
   rw [List.take_set_of_le (by omega)]
   simp
  have e2:(cs.set o a).drop (o+1+r.length)=cs.drop (o+(r.length+1)):=by
   rw [List.drop_set_of_lt (by omega)]
   congr 1
   omega
  rw [e1,e2]
  simp [Nat.add_assoc]
theorem psplice_many {α:Type} [Enc α] (l r:List α) (i:Nat) (h:i+r.length≤l.length):psplice (cells l) (i*Enc.size α) (cells r)=cells (l.take i++r++l.drop (i+r.length)):=by
 rw [psplice_eq _ _ _ (by rw [cells_length,cells_length,← Nat.add_mul];exact Nat.mul_le_mul_right _ h),cells_length,← Nat.add_mul,cells_take,cells_drop',← cells_append,← cells_append]
end Go.Vm
namespace Go.Proofs.YtnhdddmhkhdlhaaGreatDoor
open Go Go.Am Go.Vm
instance encLI:Enc (List Int):={ default:=[],enc:=fun l=>[.lst 3 (cells l) l.length],size:=1,len:=fun _=>rfl }
attribute [local irreducible] VVal VOps VOpsD VWp VCalls VFun VFunV QSeq QBlk QLoop Vm.Done DoneV DoneI
theorem bmul64_spec (n:Nat) (hn:n<4294967296):VFun env 136 [.int .u64 1,.int .u64 (n:Int)] (.tup [.p (.int .u64 0),.p (.int .u64 (n:Int))]):=by
 have e1:n &&& 4294967295=n:=by
  have:=Nat.and_two_pow_sub_one_eq_mod n 32
  rw [show (2 ^ 32-1:Nat)=4294967295 from rfl] at this
  rw [this]
  exact Nat.mod_eq_of_lt (by simpa using hn)
 have hA1:vint .and .u64 (n:Int) 4294967295=some (.int .u64 (n:Int)):=by
  have h0:=bits_and_u64_nat n 4294967295 (by omega) (by omega)
  rw [e1] at h0
  exact congrArg (fun x=>some (FV.int .u64 x)) h0
 have hA2:vint .mul .u64 1 (n:Int)=some (.int .u64 (n:Int)):=by
  simp only [vint,Int.one_mul];rw [wrap_u64 (by omega) (by omega)]
 have hZ:vint .mul .u64 0 (n:Int)=some (.int .u64 0):=by
  simp only [vint,Int.zero_mul];rfl
 have hS:∀ a:Int,0≤a→a<4294967296→(FV.int .u64 0)=if BinOp.shr=.shl then FV.int .u64 (IntKind.u64.wrap (a*2 ^ (min (32:Int).toNat IntKind.u64.bits))) else .int .u64 (a.fdiv (2 ^ (min (32:Int).toNat IntKind.u64.bits))):=fun a h0 h1=>by
  rw [if_neg (by decide)]
  have e3:(min (32:Int).toNat IntKind.u64.bits)=32:=rfl
  rw [e3,Int.fdiv_eq_ediv_of_nonneg _ (by decide)]
  have:a / 2 ^ 32=0:=by omega
  rw [this]
 have k1:vint .and .u64 1 4294967295=some (.int .u64 1):=rfl
 have k2:vint .and .u64 0 4294967295=some (.int .u64 0):=rfl
 have k3:vint .mul .u64 1 0=some (.int .u64 0):=rfl
 have k4:vint .mul .u64 0 0=some (.int .u64 0):=rfl
 have k5:vint .add .u64 0 0=some (.int .u64 0):=rfl
 refine VFun.enter (env_none (by decide)) Tryz.func136 rfl (by kernel_rfl) (by simp [Tryz.ntmps136]) ?_
 repeat' (first|apply VWp.rseq|apply VWp.ret|apply VOps.nil|apply VOps.one|(apply VVal.shift (r:=.int .u64 0);exact .inr rfl;rfl;rfl;decide;exact hS _ (by omega) (by omega))|(apply VVal.int;rfl;rfl;exact hA1)|(apply VVal.int;rfl;rfl;exact hA2)|(apply VVal.int;rfl;rfl;exact hZ)|(apply VVal.int;rfl;rfl;exact k1)|(apply VVal.int;rfl;rfl;exact k2)|(apply VVal.assign;rfl)|(apply VVal.move;rfl))
 (refine Done.ret rfl (.refl _) (by exact PV.under_of rfl) HCov.nil (Nat.zero_le _) (Nat.le_refl _) ⟨?_,rfl,rfl⟩;try rfl)
theorem bmul_spec (n:Nat) (hn:n<4294967296):VFun env 128 [.int .u64 1,.int .u64 (n:Int)] (.tup [.p (.int .u64 0),.p (.int .u64 (n:Int))]):=by
 have h:=bmul64_spec n hn
 refine VFun.enter (env_none (by decide)) Tryz.func128 rfl (by kernel_rfl) (by simp [Tryz.ntmps128]) ?_
 repeat' (first|apply VWp.rseq|apply VWp.skipSeq|apply VWp.ret|apply VOps.nil|apply VOps.one|(apply VVal.fn;rfl;rfl;exact h;intro _;rfl)|(apply VVal.assign;rfl)|(apply VVal.move;rfl)|(apply VVal.extract;rfl;rfl)|(apply VWp.condSeq_false;rfl))
 (refine Done.ret rfl (.refl _) (by exact PV.under_of rfl) HCov.nil (Nat.zero_le _) (Nat.le_refl _) ⟨?_,rfl,rfl⟩;try rfl)
def repS (n k:Nat) (v:Int):List Int:=List.replicate k v++List.replicate (n-k) 0
theorem repS_len (n k:Nat) (v:Int) (h:k≤n):(repS n k v).length=n:=by simp [repS];omega
theorem repS_all (n:Nat) (v:Int):repS n n v=List.replicate n v:=by simp [repS]
theorem repS_one (n:Nat) (v:Int) (h:0<n):psplice (cells (List.replicate n (0:Int))) 0 [FV.int .i64 v]=cells (repS n 1 v):=by
 have:=psplice_many (List.replicate n (0:Int)) [v] 0 (by simp;omega)
 rw [Nat.zero_mul] at this
 show psplice (cells (List.replicate n (0:Int))) 0 (cells [v])=_
 rw [this]
 congr 1
 simp [repS]
theorem repS_ok (n k:Nat) (v:Int) (h:k≤n):0+k*1≤(cells (repS n k v)).length:=by
 rw [cells_length,repS_len n k v h]
 show 0+k*1≤n*1
 omega
theorem repS_cut (n k:Nat) (v:Int) (h:k≤n):cells (List.replicate (min k (n-k)) v)=((cells (repS n k v)).drop 0).take (min k (n-k)*1):=by
 have:=cells_take (repS n k v) (min k (n-k))
 rw [List.drop_zero]
 refine Eq.trans ?_ this.symm
 congr 1
 unfold repS
 rw [List.take_append_of_le_length (by simp;omega),List.take_replicate]
 congr 1
 omega
theorem repS_xs (n k:Nat) (v:Int):(cells (List.replicate (min k (n-k)) v)).length=min k (n-k)*1:=by
 rw [cells_length,List.length_replicate];rfl
theorem repS_room (n k:Nat) (v:Int) (h:k≤n):0+k*1+min k (n-k)*1≤(cells (repS n k v)).length:=by
 rw [cells_length,repS_len n k v h]
 show _≤n*1
 omega
theorem repS_put (n k:Nat) (v:Int) (h:k≤n):psplice (cells (repS n k v)) (0+k*1) (cells (List.replicate (min k (n-k)) v))=cells (repS n (k+min k (n-k)) v):=by
 have:=psplice_many (repS n k v) (List.replicate (min k (n-k)) v) k (by rw [repS_len n k v h];simp;omega)
 rw [Nat.zero_add]
 refine Eq.trans this ?_
 congr 1
 unfold repS
 rw [List.take_append_of_le_length (by simp),List.take_replicate,Nat.min_self,List.length_replicate,List.drop_append,List.drop_of_length_le (by simp),List.length_replicate,List.nil_append,List.drop_replicate,List.replicate_append_replicate]
 congr 2
 omega
theorem repeat_spec (e:TypeId) (v:Int) (n:Nat) (h0:0<n) (hn:n<1000000):VFunV env 115 [.lst e [.int .i64 v] 1,.int .i64 (n:Int)] 3 (cells (List.replicate n v)) n false:=by
 have hm:=bmul_spec n (by omega)
 refine VFunV.enter (env_none (by decide)) Tryz.func115 rfl (by kernel_rfl) (by simp [Tryz.ntmps115]) ?_
 repeat' (first|apply VWp.assoc|apply VWp.rseq|apply VWp.skipSeq|apply VWp.blockSeq|apply VOps.nil|apply VOps.one|(apply VOps.take;rfl;rfl)|(apply VVal.fn;rfl;rfl;exact hm;intro _;rfl)|(apply VVal.makeSliceL n (0:Int);rfl;rfl;rfl;rfl;rfl;rfl;rfl;omega;decide;decide;rfl)|(apply VVal.copy (k:=1) (N:=1) (xs:=[.int .i64 v]);rfl;rfl;exact h0;rfl;rfl;decide;exact SlT.lst rfl rfl (Nat.le_refl 1) rfl;omega;decide;rfl;(rw [cells_length,List.length_replicate];show 0+1*1≤n*1;omega))|(apply VVal.assign;rfl)|(apply VVal.move;rfl)|(apply VVal.int;rfl;rfl;rfl)|(apply VVal.pick_false;rfl;rfl)|(apply VVal.lenF;rfl;rfl)|(apply VVal.extract;rfl;rfl)|(apply VVal.convI;rfl;rfl;rfl;rfl;omega)|(apply VVal.convU;rfl;rfl;rfl;rfl;omega)|(apply VWp.condSeq_false;rfl)|(apply VWp.condSeq_dec;rfl)|(intro _;try (exfalso;omega)))
 all_goals try (exfalso;omega)
 refine VWp.loopQ (fun k:Nat=>[(7,.vec 0 n 0 n),(8,.p (.int .i64 (k:Int)))]) (fun k=>[(0,.vec 3 (cells (repS n k v)) n false)]) 1 (fun k=>1≤k∧k≤n) (fun k=>n-k) 1 (by omega) ⟨by omega,by omega⟩ ⟨by omega,?_,?_⟩ ?_
 ·repeat (first|exact LCov.nil|refine LCov.same (by exact PV.under_of rfl) rfl ?_|refine LCov.cons trivial rfl (.of_eq (lst_len (by simp<;>omega))) ?_)
 ·have:=repS_one n v h0
  rw [this]
  repeat (first|exact HCov.nil|(refine HCov.cons (lt_dec rfl) ?_ rfl ?_ ?_;(first|exact HB.under_of rfl|exact PVs.under_pure _ _|(simp [HB.under,PVs.under,PV.under]));(first|exact HLe.refl _|exact HLe.vec (FLes.refl _) (by simp))))
 ·rintro k ⟨k1,k2⟩
  have hl:=repS_len n k v k2
  by_cases hk:k<n
  ·repeat' (first|apply VWp.assoc|apply VWp.rseq|apply VWp.regionD|apply VWp.skipSeq|apply QBlk.normal|apply VWp.blockQ|apply VOps.nil|apply VOpsD.nil|apply VOps.one|(apply VOpsD.bar;decide +kernel)|apply VOpsD.quiet|(apply VVal.sliceV (sz:=1) (a:=k) (c:=n);rfl;rfl;exact h0;rfl;rfl;rfl;exact ⟨_,rfl⟩;rfl;omega;exact Nat.le_refl _)|(apply VVal.sliceV (sz:=1) (a:=0) (c:=k);rfl;rfl;exact h0;rfl;rfl;rfl;rfl;exact ⟨_,rfl⟩;omega;exact k2)|(apply VVal.copy (k:=min k (n-k)) (N:=k) (xs:=cells (List.replicate (min k (n-k)) v));rfl;rfl;exact h0;rfl;rfl;decide;exact SlT.vec rfl rfl h0 (repS_ok n k v k2) (by omega) (repS_cut n k v k2);rfl;omega;exact repS_xs n k v;exact repS_room n k v k2)|(apply VVal.assign;rfl)|(apply VVal.move;rfl)|(apply VVal.add64;rfl;rfl;omega)|(apply VVal.int;rfl;rfl;rfl)|(apply VVal.lenV;rfl;rfl;rfl)|(apply VWp.condSeq_dec;rfl)|(intro _;try (exfalso;omega)))
   refine QLoop.normal ⟨k+min k (n-k),⟨by omega,by omega⟩,by omega,⟨by omega,?_,?_⟩⟩
   ·repeat (first|exact LCov.nil|refine LCov.same (by exact PV.under_of rfl) rfl ?_|refine LCov.cons trivial rfl (.of_eq (lst_len (by simp<;>omega))) ?_)
   ·rw [repS_put n k v k2]
    repeat (first|exact HCov.nil|(refine HCov.cons (lt_dec rfl) ?_ rfl ?_ ?_;(first|exact HB.under_of rfl|exact PVs.under_pure _ _|(simp [HB.under,PVs.under,PV.under]));(first|exact HLe.refl _|exact HLe.vec (FLes.refl _) (by simp))))
  ·obtain rfl:k=n:=by omega
   repeat' (first|apply VWp.assoc|apply VWp.rseq|apply VWp.exitSeq|apply QSeq.normal|apply QBlk.exit|apply QLoop.exit|apply VWp.ret|apply VOps.nil|apply VOps.one|(apply VVal.assign;rfl)|(apply VVal.move;rfl)|(apply VVal.int;rfl;rfl;rfl)|(apply VVal.lenV;rfl;rfl;rfl)|(apply VWp.condSeq_dec;rfl)|(intro _;try (exfalso;omega)))
   rw [repS_all]
   exact DoneV.ret rfl rfl rfl rfl
end Go.Proofs.YtnhdddmhkhdlhaaGreatDoor
namespace Go.Proofs.YtnhdddmhkhdlhaaGreatDoor
open Go Go.Am Go.Vm Go.Pie
attribute [local irreducible] VVal VOps VOpsD VWp VCalls VFun VFunV QSeq QBlk QLoop Vm.Done DoneV DoneI
attribute [local irreducible] rchk windsE stoE dvsE cplE shiftR tailH
def exR (c:UInt8):Rnk:=⟨[c],[102,108,117,116,101],⟨8,1⟩,36,List.replicate 25 1⟩
def exS (n feet sh:Int):Stp:=⟨[97],⟨feet,1⟩,[⟨36,48,[⟨n,sh⟩]⟩]⟩
def exD1:Dvs:=⟨[111,110,101],false,36,48,[exS 0 8 0]⟩
def exD2:Dvs:=⟨[116,119,111],false,36,48,[exS 1 4 12]⟩
def exO:Org:=⟨[101],[exR 114,exR 115],[exD1,exD2],[⟨[99],0,1,0,false⟩]⟩
def exG:Rgs:=⟨[1,0],0,0⟩
def exP:Pce:=⟨[0,4,8],[⟨0,6,0,40⟩,⟨4,8,0,43⟩],[⟨1,exG⟩]⟩
theorem exR_spec (c:UInt8):VFun env 93 [.str (bs [c])] (.p (.agg (Enc.enc (exR c)))):=by
 have hr:=repeat_spec 3 1 25 (by decide) (by decide)
 refine VFun.enter (env_none (by decide)) Tryz.func93 rfl (by kernel_rfl) (by simp [Tryz.ntmps93]) ?_
 repeat' (first|(refine VOps.atOp 6 ?_;refine VOps.ghost (Ghost.freeze 5 rfl rfl) ?_)|(refine VOps.atOp 7 ?_;refine VOps.ghost (Ghost.freeze 6 rfl rfl) ?_)|apply VWp.rseq|apply VWp.ret|apply VOps.nil|apply VOps.one|(apply VVal.fv;rfl;rfl;exact hr)|(apply VVal.move;rfl)|(apply VVal.alloc;rfl)|(apply VVal.storeB;rfl;rfl;rfl;trivial;rfl;rfl;exact lt_dec rfl;exact le_dec rfl)|(apply VVal.build;rfl;rfl;rfl;rfl;rfl)|(apply VVal.buildSlice;rfl;rfl;rfl;decide;rfl;rfl;rfl))
 all_goals first|(exfalso;omega)|(refine Done.ret rfl (.refl _) (by exact PV.under_of rfl) HCov.nil (Nat.zero_le _) (Nat.le_refl _) ⟨?_,rfl,rfl⟩;try rfl)
theorem exS_spec (n feet sh:Int):VFun env 92 [.int .i64 n,.int .i64 feet,.int .i64 sh] (.p (.lst 127 (cells [exS n feet sh]) 1)):=by
 refine VFun.enter (env_none (by decide)) Tryz.func92 rfl (by kernel_rfl) (by simp [Tryz.ntmps92]) ?_
 repeat' (first|(refine VOps.atOp 13 ?_;refine VOps.ghost (Ghost.freeze 12 rfl rfl) ?_)|(refine VOps.atOp 15 ?_;refine VOps.ghost (Ghost.freeze 14 rfl rfl) ?_)|(refine VOps.atOp 6 ?_;refine VOps.ghost (Ghost.freeze 16 rfl rfl) ?_)|apply VWp.rseq|apply VWp.ret|apply VOps.nil|apply VOps.one|(apply VVal.assign;rfl)|(apply VVal.move;rfl)|(apply VVal.build;rfl;rfl;rfl;rfl;rfl)|(apply VVal.buildSlice;rfl;rfl;rfl;decide;rfl;rfl;rfl))
 all_goals first|(exfalso;omega)|(refine Done.ret rfl (.refl _) (by exact PV.under_of rfl) HCov.nil (Nat.zero_le _) (Nat.le_refl _) ⟨?_,rfl,rfl⟩;try rfl)
theorem exO_spec:VFun env 72 [] (.p (.agg (Enc.enc exO))):=by
 have h1:=exR_spec 114
 have h2:=exR_spec 115
 have h3:=exS_spec 0 8 0
 have h4:=exS_spec 1 4 12
 refine VFun.enter (env_none (by decide)) Tryz.func72 rfl (by kernel_rfl) (by simp [Tryz.ntmps72]) ?_
 repeat' (first|(refine VOpsD.atIdx 14 ?_;refine VOpsD.ghost (Ghost.trans (Ghost.freeze 6 rfl rfl) (Ghost.trans (Ghost.freeze 15 rfl rfl) (Ghost.freeze 17 rfl rfl))) ?_)|apply VWp.rseq|apply VWp.rseqD|apply VWp.ret|apply VOps.nil|apply VOpsD.nil|apply VOps.one|(apply VOpsD.bar;decide +kernel)|apply VOpsD.quiet|(apply VVal.fn;rfl;rfl;exact h1;intro _;rfl)|(apply VVal.fn;rfl;rfl;exact h2;intro _;rfl)|(apply VVal.fn;rfl;rfl;exact h3;intro _;rfl)|(apply VVal.fn;rfl;rfl;exact h4;intro _;rfl)|(apply VVal.assign;rfl)|(apply VVal.move;rfl)|(apply VVal.load;rfl;rfl)|(apply VVal.alloc;rfl)|(apply VVal.storeB;rfl;rfl;rfl;trivial;rfl;rfl;exact lt_dec rfl;exact le_dec rfl)|(apply VVal.build;rfl;rfl;rfl;rfl;rfl)|(apply VVal.buildSlice;rfl;rfl;rfl;decide;rfl;rfl;rfl))
 all_goals first|(exfalso;omega)|(refine Done.ret rfl (.refl _) (by exact PV.under_of rfl) HCov.nil (Nat.zero_le _) (Nat.le_refl _) ⟨?_,rfl,rfl⟩;try rfl)
theorem exP_spec:VFun env 38 [] (.tup [.p (.agg (Enc.enc exO)),.p (.agg (Enc.enc exP))]):=by
 have h1:=exO_spec
 refine VFun.enter (env_none (by decide)) Tryz.func38 rfl (by kernel_rfl) (by simp [Tryz.ntmps38]) ?_
 repeat' (first|(refine VOps.atOp 4 ?_;refine VOps.ghost (Ghost.freeze 3 rfl rfl) ?_)|(refine VOpsD.atIdx 8 ?_;refine VOpsD.ghost (Ghost.trans (Ghost.freeze 6 rfl rfl) (Ghost.trans (Ghost.freeze 9 rfl rfl) (Ghost.freeze 12 rfl rfl))) ?_)|(refine VOpsD.atIdx 9 ?_;apply VOpsD.weak [.tmp 2];decide +kernel;rfl;rfl;(first|exact VOwn.ref rfl|exact VOwn.vec rfl|exact VOwn.eref rfl);decide +kernel;rfl)|apply VWp.rseq|apply VWp.rseqD|apply VWp.ret|apply VOps.nil|apply VOpsD.nil|apply VOps.one|(apply VOpsD.bar;decide +kernel)|apply VOpsD.quiet|(apply VVal.fn;rfl;rfl;exact h1;intro _;rfl)|(apply VVal.load;rfl;rfl)|(apply VVal.alloc;rfl)|(apply VVal.storeB;rfl;rfl;rfl;trivial;rfl;rfl;exact lt_dec rfl;exact le_dec rfl)|(apply VVal.build;rfl;rfl;rfl;rfl;rfl)|(apply VVal.buildSlice;rfl;rfl;rfl;decide;rfl;rfl;rfl))
 all_goals first|(exfalso;omega)|(refine Done.ret rfl (.refl _) (by exact PV.under_of rfl) HCov.nil (Nat.zero_le _) (Nat.le_refl _) ⟨?_,rfl,rfl⟩;try rfl)
end Go.Proofs.YtnhdddmhkhdlhaaGreatDoor
namespace Go.Proofs.YtnhdddmhkhdlhaaGreatDoor
open Go Go.Am Go.Vm Go.Pie
attribute [local irreducible] VVal VOps VOpsD VWp VCalls VFun VFunV QSeq QBlk QLoop Vm.Done DoneV DoneI
attribute [local irreducible] rchk windsE stoE dvsE cplE shiftR tailH
instance (c:Nat):Decidable (isL c):=by unfold isL;infer_instance
theorem nm_al (s:List UInt8) (h0:0<s.length) (h1:s.length≤32) (h:∀ i,i<s.length→isL (gi s i).toNat):nameOk s:=⟨h0,h1,h 0 h0,fun i _ hi=>.inl (h i hi)⟩
theorem lt2 {i:Nat} (h:i<2):i=0∨i=1:=by omega
theorem pk1 (n:Int) (h:n=8∨n=4):pchk ⟨n,1⟩=0:=pchk_ok.2 (by rcases h with rfl|rfl<;>decide +kernel)
theorem exR_ok {c:UInt8} (hc:isL c.toNat):rchk (exR c)=0:=by
 unfold rchk
 have h1:nameOk (exR c).name:=⟨by show 0<1;decide,by show 1≤32;decide,hc,fun i h1 h2=>by
  have:i<1:=h2
  omega⟩
 have h2:nameOk (exR c).tone:=nm_al [102,108,117,116,101] (by decide) (by decide) (by decide)
 have h3:pchk (exR c).feet=0:=pk1 8 (.inl rfl)
 have hw:(exR c).wind=List.replicate 25 1:=rfl
 rw [if_neg (by rintro (h|h);exact h h1;exact h h2),if_neg (fun h=>h h3),if_neg (by show ¬ ((36:Int)< -256∨(36:Int)>256);omega),hw,List.length_replicate,if_neg (by omega),if_neg (by omega)]
 unfold windsE
 rw [if_pos]
 intro j hj
 rw [List.length_replicate] at hj
 have:gi (List.replicate 25 (1:Int)) j=1:=by unfold gi;rw [List.getElem?_replicate,if_pos hj];rfl
 rw [this]
 decide
theorem exRk:∀ i,i<[exR 114,exR 115].length→rchk (gi [exR 114,exR 115] i)=0:=fun i hi=>by
 rcases lt2 hi with rfl|rfl
 ·exact exR_ok (c:=114) (by decide)
 ·exact exR_ok (c:=115) (by decide)
theorem exS_ok {n feet sh:Int} (h1:0≤n∧n<2) (h2:feet=8∨feet=4) (h3:-127≤sh∧sh≤127):stoE [exR 114,exR 115] 36 48 (exS n feet sh)=0:=by
 unfold stoE
 rw [plcE_zero exRk (by decide) (by decide),if_neg (fun h=>h rfl)]
 unfold stpE
 have e1:nameOk (exS n feet sh).name:=nm_al [97] (by decide) (by decide) (by decide)
 have e2:pchk (exS n feet sh).feet=0:=pk1 feet h2
 have es:(exS n feet sh).segs=[⟨36,48,[⟨n,sh⟩]⟩]:=rfl
 rw [if_neg (fun h=>h e1),if_neg (fun h=>h e2),es,if_neg (by simp),if_neg (by simp)]
 exact segsE_one (by simp) (drwE_one ⟨h1,h3⟩)
theorem exDv {nm:List UInt8} {s:Stp} (h:stoE [exR 114,exR 115] 36 48 s=0):dvsE [exR 114,exR 115] ⟨nm,false,36,48,[s]⟩=0:=by
 unfold dvsE
 rw [show cmpE 36 48=0 from cmpE_zero (by decide),if_neg (fun h=>h rfl),if_neg (by show ¬ ([s].length>60);simp)]
 exact stosE_zero (fun i hi=>by
  obtain rfl:i=0:=by
   have:i<1:=hi
   omega
  exact ⟨h,by simp⟩) _ 0 rfl
theorem exO_err:orgE exO=0:=by
 have eR:exO.ranks=[exR 114,exR 115]:=rfl
 have eD:exO.divs=[exD1,exD2]:=rfl
 have eC:exO.cpls=[⟨[99],0,1,0,false⟩]:=rfl
 have eN:exO.name=[101]:=rfl
 unfold orgE
 rw [eR,eD,eC,eN]
 have hr:rnkE [exR 114,exR 115] 0=0:=rnkE_zero (fun i hi=>⟨exRk i hi,by
  rcases lt2 hi with rfl|rfl
  ·simp
  ·show [115]∉[[114]];simp⟩) _ 0 rfl
 have hd:divsE [exR 114,exR 115] [exD1,exD2] 0=0:=divsE_zero (fun i hi=>by
  rcases lt2 hi with rfl|rfl
  ·exact ⟨nm_al [111,110,101] (by decide) (by decide) (by decide),by simp,exDv (exS_ok (by decide) (.inl rfl) (by decide))⟩
  ·exact ⟨nm_al [116,119,111] (by decide) (by decide) (by decide),by show [116,119,111]∉[[111,110,101]];simp,exDv (exS_ok (by decide) (.inr rfl) (by decide))⟩) _ 0 rfl
 rw [if_neg (fun h=>h (nm_al [101] (by decide) (by decide) (by decide))),if_neg (by simp),if_neg (fun h=>h hr),if_neg (by simp),if_neg (by simp),if_neg (fun h=>h hd)]
 unfold cplE
 rw [if_neg (by simp)]
 have hc:cpsE ([exD1,exD2].map fun d=>(⟨d.lo,d.hi⟩:Cps)) 0=0:=cpsE_zero (fun i hi=>by
  rcases lt2 hi with rfl|rfl
  ·exact cmpE_zero (by decide)
  ·exact cmpE_zero (by decide)) _ 0 rfl
 rw [if_neg (fun h=>h hc)]
 exact cplsE_zero (fun i hi=>by
  obtain rfl:i=0:=by
   have:i<1:=hi
   omega
  exact ⟨⟨nm_al [99] (by decide) (by decide) (by decide),by decide,by decide,by decide,by decide⟩,by simp⟩) _ 0 rfl
theorem exS_sm (n feet sh:Int):StpSm (exS n feet sh):=⟨by show 1<1000000;decide,by show 1<1000000;decide,fun i hi=>by
 obtain rfl:i=0:=by
  have:i<1:=hi
  omega
 exact ⟨by show 1<1000000;decide⟩⟩
theorem exR_sm (c:UInt8):RnkSm (exR c):=⟨by show 1<1000000;decide,by show 5<1000000;decide,by show (List.replicate 25 1).length<1000000;decide⟩
theorem exO_sm:OrgSm exO:=by
 refine ⟨by show 1<1000000;decide,by show 2<1000000;decide,by show 2<1000000;decide,by show 1<1000000;decide,fun i hi=>?_,fun i hi=>?_,fun i hi=>?_⟩
 ·rcases lt2 hi with rfl|rfl
  ·exact exR_sm 114
  ·exact exR_sm 115
 ·rcases lt2 hi with rfl|rfl
  ·refine ⟨by show 3<1000000;decide,by show 1<1000000;decide,fun j hj=>?_⟩
   obtain rfl:j=0:=by
    have:j<1:=hj
    omega
   exact exS_sm 0 8 0
  ·refine ⟨by show 3<1000000;decide,by show 1<1000000;decide,fun j hj=>?_⟩
   obtain rfl:j=0:=by
    have:j<1:=hj
    omega
   exact exS_sm 1 4 12
 ·obtain rfl:i=0:=by
   have:i<1:=hi
   omega
  show 1<1000000
  decide
theorem exO_k:OrgK exO:=orgK exO_sm exO_err
theorem exG_reg:regE exO exG=0:=by
 rw [regE_rest rfl (fun i hi=>by
  rcases lt2 hi with rfl|rfl
  ·rfl
  ·rfl)]
 rfl
theorem exP_sm:PceSm exP:=⟨by show 3<1000000;decide,by show 2<1000000;decide,by show 1<1000000;decide,fun i hi=>by
 obtain rfl:i=0:=by
  have:i<1:=hi
  omega
 exact ⟨fun j hj=>by
  rcases lt2 hj with rfl|rfl
  ·show 1<18446744073709551616;decide
  ·show 0<18446744073709551616;decide,by show 0<18446744073709551616;decide,by show 0<18446744073709551616;decide,by show 2<9223372036854775808;decide⟩⟩
theorem exP_k:PceK exO exP:=by
 refine pceK_of exP_sm ⟨by show 2≤3;decide,by show 3≤201;decide⟩ (fun i hi=>?_) (by show 2≤1000;decide) (fun i hi=>?_) (by show 1≤100;decide) fun i hi=>?_
 ·have:i=0∨i=1∨i=2:=by
   have:i<3:=hi
   omega
  rcases this with rfl|rfl|rfl
  ·exact ⟨by decide,fun h=>by omega⟩
  ·exact ⟨by decide,fun _=>by decide⟩
  ·exact ⟨by decide,fun _=>by decide⟩
 ·rcases lt2 hi with rfl|rfl
  ·exact ⟨by decide,by decide,by decide,fun j hj=>by omega⟩
  ·refine ⟨by decide,by decide,by decide,fun j hj=>?_⟩
   obtain rfl:j=0:=by omega
   decide
 ·obtain rfl:i=0:=by
   have:i<1:=hi
   omega
  exact ⟨by decide,fun h=>by omega,exG_reg⟩
theorem exP_err:pceE exO exP=0:=by unfold pceE;rw [if_neg (fun h=>h exO_err)];exact exP_k.err
theorem exP_at {t:Int} (h:0≤t∧t<8):atE exO exP t=0:=by
 unfold atE
 rw [if_neg (fun h=>h exP_err),if_neg]
 show ¬ (t<0∨t≥8)
 omega
theorem exP_tks:tksP exP=[0,4,6,8]:=by
 refine inc_ext (compact_inc (sort_pair _)) (by unfold Inc;simp) fun x=>?_
 unfold tksP
 rw [compact_mem,List.mem_mergeSort]
 have:zsK exP exP.notes.length=[0,8,0,6,4,8]:=rfl
 rw [this]
 simp only [List.mem_cons,List.not_mem_nil,or_false]
 omega
theorem exP_snd:sndL exP=[⟨0,4,[0]⟩,⟨4,6,[0,1]⟩,⟨6,8,[1]⟩]:=by
 unfold sndL
 rw [exP_tks]
 decide +kernel
theorem exP_cut:(cutP exP 1 2).notes=[⟨4,6,0,40⟩,⟨4,8,0,43⟩]:=by decide +kernel
theorem known_spec:VFun env 11 [] (.p (.bool true)):=by
 have h0:=exP_spec
 have hs:=Slices_spec exO_sm exP_err exP_k
 rw [exP_snd] at hs
 have h3:=Wanted_spec exO_k exP_k 3 (exP_at (by decide))
 rw [show wan exP 3=-1 from rfl] at h3
 have h4:=Wanted_spec exO_k exP_k 4 (exP_at (by decide))
 rw [show wan exP 4=0 from rfl,show wanR exO exP 4=exG from rfl] at h4
 have hc:=Cut_spec exO_k exP_err exP_k 1 2 (by decide) (by decide)
 have ec:=exP_cut
 generalize cutP exP 1 2=C at *
 obtain ⟨cb,cn,cs⟩:=C
 simp only at ec
 subst ec
 generalize wanR exO exP 3=W at *
 refine VFun.enter (env_none (by decide)) Tryz.func11 rfl (by kernel_rfl) (by simp [Tryz.ntmps11]) ?_
 repeat' (first|apply VWp.rseq|apply VWp.ret|apply VOps.nil|apply VOps.one|(apply VOps.take;rfl;rfl)|(apply VVal.fn;rfl;rfl;exact h0;intro _;rfl)|(apply VVal.fn;rfl;rfl;exact hs;intro _;rfl)|(apply VVal.fn;rfl;rfl;exact h3;intro _;rfl)|(apply VVal.fn;rfl;rfl;exact h4;intro _;rfl)|(apply VVal.fn;rfl;rfl;exact hc;intro _;rfl)|(apply VVal.indexF;rfl;rfl;rfl;decide;(first|decide|simp))|(apply VVal.assign;rfl)|(apply VVal.move;rfl)|(apply VVal.int;rfl;rfl;rfl)|(apply VVal.load;rfl;rfl)|(apply VVal.pick_true;rfl;rfl)|(apply VVal.lenF;rfl;rfl)|(apply VVal.fieldB;rfl;rfl;rfl)|(apply VVal.fieldF;rfl;rfl)|(apply VVal.alloc;rfl)|(apply VVal.storeB;rfl;rfl;rfl;trivial;rfl;rfl;exact lt_dec rfl;exact le_dec rfl)|(apply VVal.extract;rfl;rfl))
 all_goals try (exfalso;omega)
 all_goals (refine Done.ret rfl (.refl _) (by exact PV.under_of rfl) HCov.nil (Nat.zero_le _) (Nat.le_refl _) ⟨?_,rfl,rfl⟩;try rfl)
end Go.Proofs.YtnhdddmhkhdlhaaGreatDoor
namespace Go.Proofs.YtnhdddmhkhdlhaaGreatDoor
open Go Go.Am Go.Vm
theorem nat_u8 {n:Int} (h:(Lit.int .u8 n).wf=true):∃ m:Nat,m<256∧n=m:=by
 simp [Lit.wf,IntKind.min,IntKind.max,IntKind.signed,IntKind.bits] at h
 exact ⟨n.toNat,by omega,by omega⟩
theorem int_i8 {n:Int} (h:(Lit.int .i8 n).wf=true):-128≤n∧n≤127:=by
 simp [Lit.wf,IntKind.min,IntKind.max,IntKind.signed,IntKind.bits] at h
 omega
theorem map_choose {α β:Type} {R:β→α→Prop}:∀ {l:List α},(∀ x∈l,∃ y,R y x)→∃ r:List β,All2 R r l
 |[],_=>⟨[],.nil⟩
 |a::l,h=>by
  obtain ⟨y,hy⟩:=h a (by simp)
  obtain ⟨r,hr⟩:=map_choose (l:=l) (fun x hx=>h x (by simp [hx]))
  exact ⟨y::r,.cons hy hr⟩
theorem flat_cells {α:Type} [Enc α] {p:α→Prop}:∀ {r:List α} {L:List (List FV)},All2 (fun a fs=>fs=Enc.enc a∧p a) r L→L.flatten=cells r∧L.length=r.length∧∀ i,i<r.length→p (gi r i)
 |_,_,.nil=>⟨rfl,rfl,fun i hi=>by simp at hi⟩
 |a::r,fs::L,.cons ⟨h1,h2⟩ t=>by
  obtain ⟨e1,e2,e3⟩:=flat_cells t
  refine ⟨by rw [List.flatten_cons,e1,h1];rfl,by simp [e2],fun i hi=>?_⟩
  cases i with
  |zero=>exact h2
  |succ i=>exact e3 i (by simpa using hi)
section
variable {α β:Type} {R:α→β→Prop} {a b c d e:α} {r:List β}
theorem all2_one (h:All2 R [a] r):∃ x,r=[x]∧R a x:=by
 cases h with|cons h1 t=>cases t;exact ⟨_,rfl,h1⟩
theorem all2_two (h:All2 R [a,b] r):∃ x y,r=[x,y]∧R a x∧R b y:=by
 cases h with|cons h1 t=>obtain ⟨x,rfl,h2⟩:=all2_one t;exact ⟨_,_,rfl,h1,h2⟩
theorem all2_three (h:All2 R [a,b,c] r):∃ x y z,r=[x,y,z]∧R a x∧R b y∧R c z:=by
 cases h with|cons h1 t=>obtain ⟨x,y,rfl,h2,h3⟩:=all2_two t;exact ⟨_,_,_,rfl,h1,h2,h3⟩
theorem all2_four (h:All2 R [a,b,c,d] r):∃ x y z w,r=[x,y,z,w]∧R a x∧R b y∧R c z∧R d w:=by
 cases h with|cons h1 t=>obtain ⟨x,y,z,rfl,h2,h3,h4⟩:=all2_three t;exact ⟨_,_,_,_,rfl,h1,h2,h3,h4⟩
theorem all2_five (h:All2 R [a,b,c,d,e] r):∃ x y z w v,r=[x,y,z,w,v]∧R a x∧R b y∧R c z∧R d w∧R e v:=by
 cases h with|cons h1 t=>obtain ⟨x,y,z,w,rfl,h2,h3,h4,h5⟩:=all2_four t;exact ⟨_,_,_,_,_,rfl,h1,h2,h3,h4,h5⟩
end
theorem has_bool {j:Nat} {fs:List FV} (h:HasT Tryz.prog (j+1) 4 fs):∃ b:Bool,fs=[.bool b]:=by
 simp only [HasT,Tryz.underlying4] at h
 exact h
theorem len5 {α:Type} {l:List α} (h:l.length=5):∃ a b c d e,l=[a,b,c,d,e]:=by
 match l,h with|[a,b,c,d,e],_=>exact ⟨a,b,c,d,e,rfl⟩
theorem has_rplan {j:Nat} {fs:List FV} (h:HasT Tryz.prog (j+3) 166 fs):∃ x:RPlan,fs=x.enc∧x.Ok:=by
 simp only [HasT,Tryz.underlying166,Tryz.underlying5,Tryz.underlying76,Tryz.underlying115] at h
 obtain ⟨parts,rfl,hp⟩:=h
 obtain ⟨a,b,c,d,e,rfl,⟨n1,rfl,h1⟩,⟨n2,rfl,h2⟩,⟨n3,rfl,h3⟩,⟨n4,rfl,h4⟩,L,rfl,hl,hL⟩:=all2_five hp
 obtain ⟨m1,q1,rfl⟩:=nat_u8 h1
 obtain ⟨m2,q2,rfl⟩:=nat_u8 h2
 obtain ⟨m4,q4,rfl⟩:=nat_u8 h4
 obtain ⟨a,b,c,d,e,rfl⟩:=len5 hl
 obtain ⟨w0,rfl,g0⟩:=hL a (by simp)
 obtain ⟨w1,rfl,g1⟩:=hL b (by simp)
 obtain ⟨w2,rfl,g2⟩:=hL c (by simp)
 obtain ⟨w3,rfl,g3⟩:=hL d (by simp)
 obtain ⟨w4,rfl,g4⟩:=hL e (by simp)
 obtain ⟨v0,k0,rfl⟩:=nat_u8 g0
 obtain ⟨v1,k1,rfl⟩:=nat_u8 g1
 obtain ⟨v2,k2,rfl⟩:=nat_u8 g2
 obtain ⟨v3,k3,rfl⟩:=nat_u8 g3
 obtain ⟨v4,k4,rfl⟩:=nat_u8 g4
 refine ⟨⟨m1,m2,n3,m4,[v0,v1,v2,v3,v4]⟩,rfl,q1,q2,int_i8 h3,q4,fun i=>?_⟩
 match i with
 |0=>exact k0
 |1=>exact k1
 |2=>exact k2
 |3=>exact k3
 |4=>exact k4
 |n+5=>simp [gi]
end Go.Proofs.YtnhdddmhkhdlhaaGreatDoor
namespace Go.Proofs.YtnhdddmhkhdlhaaGreatDoor
open Go Go.Am Go.Vm
theorem hasT_struct {P:Program} {n:Nat} {t:TypeId} {fs:List FV} {sf:Array Field} (h:HasT P (n+1) t fs) (hu:P.underlying t=some (.struct sf)):∃ parts:List (List FV),fs=parts.flatten∧All2 (fun (fd:Field) x=>HasT P n fd.type x) sf.toList parts:=by
 unfold HasT at h;rw [hu] at h;exact h
theorem hasT_slice {P:Program} {n:Nat} {t e:TypeId} {fs:List FV} {α:Type} [Enc α] {p:α→Prop} (h:HasT P (n+1) t fs) (hu:P.underlying t=some (.slice e)) (he:∀ x,HasT P n e x→∃ a:α,x=Enc.enc a∧p a):∃ l:List α,fs=[.lst e (cells l) l.length]∧l.length≤maxLen∧∀ i,i<l.length→p (gi l i):=by
 unfold HasT at h;rw [hu] at h
 obtain ⟨L,rfl,hl,hL⟩:=h
 obtain ⟨r,hr⟩:=map_choose (R:=fun (a:α) fs=>fs=Enc.enc a∧p a) (l:=L) (fun x hx=>he x (hL x hx))
 obtain ⟨e1,e2,e3⟩:=flat_cells hr
 exact ⟨r,by rw [e1,e2],by omega,e3⟩
theorem has_u8 {j:Nat} {fs:List FV} (h:HasT Tryz.prog (j+1) 5 fs):∃ n:Nat,fs=[.int .u8 (n:Int)]∧n<256:=by
 simp only [HasT,Tryz.underlying5] at h
 obtain ⟨n,rfl,hn⟩:=h
 obtain ⟨m,q,rfl⟩:=nat_u8 hn
 exact ⟨m,rfl,q⟩
theorem has_i8 {j:Nat} {fs:List FV} (h:HasT Tryz.prog (j+1) 76 fs):∃ n:Int,fs=[.int .i8 n]∧-128≤n∧n≤127:=by
 simp only [HasT,Tryz.underlying76] at h
 obtain ⟨n,rfl,hn⟩:=h
 exact ⟨n,rfl,int_i8 hn⟩
theorem has_pull {j:Nat} {fs:List FV} (h:HasT Tryz.prog (j+2) 169 fs):∃ x:Pul,fs=Enc.enc x∧x.Ok:=by
 obtain ⟨parts,rfl,hp⟩:=hasT_struct h Tryz.underlying169
 obtain ⟨a,b,c,d,rfl,h1,h2,h3,h4⟩:=all2_four hp
 obtain ⟨m1,rfl,q1⟩:=has_u8 (j:=j) h1
 obtain ⟨m2,rfl,q2⟩:=has_u8 (j:=j) h2
 obtain ⟨m3,rfl,q3⟩:=has_u8 (j:=j) h3
 obtain ⟨m4,rfl,q4⟩:=has_u8 (j:=j) h4
 exact ⟨⟨m1,m2,m3,m4⟩,rfl,q1,q2,q3,q4⟩
theorem has_board {j:Nat} {fs:List FV} (h:HasT Tryz.prog (j+4) 163 fs):∃ x:Brd,fs=Enc.enc x∧x.Ok:=by
 obtain ⟨parts,rfl,hp⟩:=hasT_struct h Tryz.underlying163
 obtain ⟨a,b,c,d,rfl,h1,h2,h3,h4⟩:=all2_four hp
 obtain ⟨m1,rfl,q1⟩:=has_u8 (j:=j+2) h1
 obtain ⟨m2,rfl,q2⟩:=has_u8 (j:=j+2) h2
 obtain ⟨m3,rfl⟩:=has_bool (j:=j+2) h3
 obtain ⟨l,rfl,hl,hL⟩:=hasT_slice (n:=j+2) (p:=Pul.Ok) h4 Tryz.underlying161 (fun x hx=>has_pull hx)
 exact ⟨⟨m1,m2,m3,l⟩,rfl,q1,q2,by simp only [maxLen] at hl;simp only;omega,hL⟩
theorem has_link {j:Nat} {fs:List FV} (h:HasT Tryz.prog (j+2) 171 fs):∃ x:Lnk,fs=Enc.enc x∧x.Ok:=by
 obtain ⟨parts,rfl,hp⟩:=hasT_struct h Tryz.underlying171
 obtain ⟨a,b,c,d,rfl,h1,h2,h3,h4⟩:=all2_four hp
 obtain ⟨m1,rfl,q1⟩:=has_u8 (j:=j) h1
 obtain ⟨m2,rfl,q2⟩:=has_u8 (j:=j) h2
 obtain ⟨m3,rfl,q3⟩:=has_i8 (j:=j) h3
 obtain ⟨m4,rfl⟩:=has_bool (j:=j) h4
 exact ⟨⟨m1,m2,m3,m4⟩,rfl,q1,q2,q3⟩
theorem has_oplan {j:Nat} {fs:List FV} (h:HasT Tryz.prog (j+6) 26 fs):∃ x:OPl,fs=x.enc∧x.Ok:=by
 obtain ⟨parts,rfl,hp⟩:=hasT_struct h Tryz.underlying26
 obtain ⟨a,b,c,rfl,h1,h2,h3⟩:=all2_three hp
 obtain ⟨l1,rfl,n1,g1⟩:=hasT_slice (n:=j+4) (p:=RPlan.Ok) h1 Tryz.underlying22 (fun x hx=>has_rplan (j:=j+1) hx)
 obtain ⟨l2,rfl,n2,g2⟩:=hasT_slice (n:=j+4) (p:=Brd.Ok) h2 Tryz.underlying23 (fun x hx=>has_board hx)
 obtain ⟨l3,rfl,n3,g3⟩:=hasT_slice (n:=j+4) (p:=Lnk.Ok) h3 Tryz.underlying24 (fun x hx=>has_link (j:=j+2) hx)
 simp only [maxLen] at n1 n2 n3
 exact ⟨⟨l1,l2,l3⟩,rfl,g1,g2,g3,by simp only;omega,by simp only;omega,by simp only;omega⟩
end Go.Proofs.YtnhdddmhkhdlhaaGreatDoor
namespace Go.Proofs.YtnhdddmhkhdlhaaGreatDoor
open Go Go.Am Go.Vm
theorem list5 {α:Type} {L:List α} (h:L.length=5):∃ a b c d e,L=[a,b,c,d,e]:=by
 match L,h with
 |[a,b,c,d,e],_=>exact ⟨a,b,c,d,e,rfl⟩
theorem has_bits5 {j:Nat} {fs:List FV} (h:HasT Tryz.prog (j+2) 115 fs):∃ b:Nat→Nat,fs=bitsE b∧∀ i,b i<256:=by
 obtain ⟨L,rfl,hl,hL⟩:=HasT.array h Tryz.underlying115
 obtain ⟨a,b,c,d,e,rfl⟩:=list5 hl
 obtain ⟨m1,rfl,q1⟩:=has_u8 (j:=j) (hL a (by simp))
 obtain ⟨m2,rfl,q2⟩:=has_u8 (j:=j) (hL b (by simp))
 obtain ⟨m3,rfl,q3⟩:=has_u8 (j:=j) (hL c (by simp))
 obtain ⟨m4,rfl,q4⟩:=has_u8 (j:=j) (hL d (by simp))
 obtain ⟨m5,rfl,q5⟩:=has_u8 (j:=j) (hL e (by simp))
 exact ⟨fun i=>if i=0 then m1 else if i=1 then m2 else if i=2 then m3 else if i=3 then m4 else m5,rfl,fun i=>by simp only;split<;>(try split)<;>(try split)<;>(try split)<;>omega⟩
end Go.Proofs.YtnhdddmhkhdlhaaGreatDoor
namespace Go.Proofs.YtnhdddmhkhdlhaaGreatDoor
open Go Go.Am Go.Vm Go.Pie
attribute [local irreducible] VVal VOps VOpsD VWp VCalls VFun VFunV QSeq QBlk QLoop Vm.Done DoneV DoneI
attribute [local irreducible] rchk windsE stoE dvsE cplE shiftR tailH
theorem has_byte {j:Nat} {fs:List FV} (h:HasT Tryz.prog (j+1) 5 fs):∃ x:UInt8,fs=Enc.enc x∧True:=by
 obtain ⟨n,rfl,hn⟩:=has_u8 h
 refine ⟨UInt8.ofNat n,?_,trivial⟩
 show _=[FV.int .u8 (((UInt8.ofNat n).toNat:Nat):Int)]
 rw [UInt8.toNat_ofNat',Nat.mod_eq_of_lt hn]
def Sd8.Ok (y:Sd8):Prop:=y.st<256∧y.lg<256∧y.dv<256∧y.ky<256
def Mrk.Ok (y:Mrk):Prop:=y.bar<256∧∀ j,y.b j<256
theorem has_sound {j:Nat} {fs:List FV} (h:HasT Tryz.prog (j+2) 106 fs):∃ x:Sd8,fs=Enc.enc x∧x.Ok:=by
 obtain ⟨parts,rfl,hp⟩:=hasT_struct h Tryz.underlying106
 obtain ⟨a,b,c,d,rfl,h1,h2,h3,h4⟩:=all2_four hp
 obtain ⟨m1,rfl,q1⟩:=has_u8 (j:=j) h1
 obtain ⟨m2,rfl,q2⟩:=has_u8 (j:=j) h2
 obtain ⟨m3,rfl,q3⟩:=has_u8 (j:=j) h3
 obtain ⟨m4,rfl,q4⟩:=has_u8 (j:=j) h4
 exact ⟨⟨m1,m2,m3,m4⟩,rfl,q1,q2,q3,q4⟩
theorem has_mark {j:Nat} {fs:List FV} (h:HasT Tryz.prog (j+3) 117 fs):∃ x:Mrk,fs=Enc.enc x∧x.Ok:=by
 obtain ⟨parts,rfl,hp⟩:=hasT_struct h Tryz.underlying117
 obtain ⟨a,b,rfl,h1,h2⟩:=all2_two hp
 obtain ⟨m1,rfl,q1⟩:=has_u8 (j:=j+1) h1
 obtain ⟨b5,rfl,k3⟩:=has_bits5 (j:=j) h2
 exact ⟨⟨m1,b5⟩,rfl,q1,k3⟩
theorem has_pplan {j:Nat} {fs:List FV} (h:HasT Tryz.prog (j+7) 31 fs):∃ x:PPl,fs=x.enc∧x.Ok:=by
 obtain ⟨parts,rfl,hp⟩:=hasT_struct h Tryz.underlying31
 obtain ⟨a,b,c,d,rfl,h1,h2,h3,h4⟩:=all2_four hp
 obtain ⟨x1,rfl,k1⟩:=has_oplan (j:=j) h1
 obtain ⟨l2,rfl,n2,g2⟩:=hasT_slice (n:=j+5) (p:=fun _:UInt8=>True) h2 Tryz.underlying27 (fun x hx=>has_byte (j:=j+4) hx)
 obtain ⟨l3,rfl,n3,g3⟩:=hasT_slice (n:=j+5) (p:=Sd8.Ok) h3 Tryz.underlying28 (fun x hx=>has_sound (j:=j+3) hx)
 obtain ⟨l4,rfl,n4,g4⟩:=hasT_slice (n:=j+5) (p:=Mrk.Ok) h4 Tryz.underlying29 (fun x hx=>has_mark (j:=j+2) hx)
 simp only [maxLen] at n2 n3 n4
 exact ⟨⟨x1,l2,l3,l4⟩,rfl,k1,by simp only;omega,by simp only;omega,by simp only;omega,g3,g4⟩
noncomputable instance (a b:Nts):Decidable (a=b):=Classical.propDecidable _
theorem eqNtsD (x y:Nts):Vm.eqSt Tryz.prog 93 (Enc.enc x) (Enc.enc y)=some (decide (x=y)):=by
 show Vm.eqSt Tryz.prog 93 [.int .u64 (x.lo:Int),.int .u64 (x.hi:Int)] [.int .u64 (y.lo:Int),.int .u64 (y.hi:Int)]=_
 rw [eqNts]
 by_cases h:x=y
 ·subst h;simp
 ·rw [decide_eq_false h]
  have:¬ (x.lo=y.lo∧x.hi=y.hi):=fun h'=>h (by cases x;cases y;simp_all)
  by_cases h1:x.lo=y.lo<;>simp_all
theorem seqNts (a b:List Nts) (ha:a.length<9223372036854775808) (hb:b.length<9223372036854775808):VFun env 32 [.lst 93 (cells a) a.length,.lst 93 (cells b) b.length] (.p (.bool (decide (a=b)))):=by
 by_cases hlen:a.length=b.length
 case neg =>
  rw [decide_eq_false (fun e=>hlen (by rw [e]))]
  refine VFun.enter (env_none (by decide)) Tryz.func32 rfl (by kernel_rfl) (by simp [Tryz.ntmps32]) ?_
  repeat' (first|apply VWp.assoc|apply VWp.rseq|apply VWp.retSeq|apply VOps.nil|apply VOps.one|(apply VVal.assign;rfl)|(apply VVal.move;rfl)|(apply VVal.int;rfl;rfl;rfl)|(apply VVal.lenF;rfl;rfl)|(apply VWp.condSeq_dec;rfl)|(intro _;try (exfalso;omega)))
  all_goals first|(exfalso;omega)|contradiction|(refine Done.ret rfl (.refl _) (by exact PV.under_of rfl) HCov.nil (Nat.zero_le _) (Nat.le_refl _) ⟨?_,rfl,rfl⟩;try rfl)
 refine VFun.enter (env_none (by decide)) Tryz.func32 rfl (by kernel_rfl) (by simp [Tryz.ntmps32]) ?_
 repeat' (first|apply VWp.assoc|apply VWp.rseq|apply VWp.skipSeq|apply VWp.blockSeq|apply VOps.nil|apply VOps.one|(apply VVal.assign;rfl)|(apply VVal.move;rfl)|(apply VVal.int;rfl;rfl;rfl)|(apply VVal.lenF;rfl;rfl)|(apply VWp.condSeq_dec;rfl)|(intro _;try (exfalso;omega)))
 all_goals try (exfalso;omega)
 apply VWp.loopRI (a.length) (fun k=>∀ i,i<k→gi a i=gi b i) [(0,_),(1,_),(12,_)] [] (fun k r=>(13,.p (.int .i64 (k:Int)))::r) (fun k r=>r) 0
 ·first|omega|decide
 ·first|omega|decide
 ·repeat (first|exact LCov.nil|(refine LCov.eq rfl ?_ ?_;(first|exact PV.under_of rfl|(simp [PV.under,PVs.under];done)))|refine LCov.cons trivial rfl (.of_eq (lst_len (by simp<;>omega))) ?_)
 ·repeat (first|exact HCov.nil|(refine HCov.eq rfl (lt_dec rfl) ?_ ?_;(first|exact HB.under_of rfl|exact PVs.under_pure _ _|(simp [HB.under,PVs.under,PV.under];done)))|(refine HCov.cons (lt_dec rfl) ?_ rfl ?_ ?_;(first|exact trivial|exact PVs.under_pure _ _|(simp [HB.under,PVs.under,PV.under]));(first|exact HLe.refl _|exact HLe.vec (FLes.refl _) (by simp))))
 ·first|(intro _ _;omega)|omega|trivial
 ·intro k hk hok
  have he:=eqNtsD (gi a k) (gi b k)
  by_cases h:gi a k=gi b k
  ·rw [decide_eq_true h] at he
   repeat' (first|apply VWp.rseq|apply VWp.rseqD|apply VWp.region|apply VWp.skipSeq|apply VWp.blockSeq|apply QSeq.normal|apply QBlk.normal|apply VWp.skip|apply VOps.nil|apply VOpsD.nil|apply VOps.one|(apply VOpsD.bar;decide +kernel)|apply VOpsD.quiet|(apply VVal.neSt1;rfl;rfl;exact freeNts;exact he)|(apply VVal.assign;rfl)|(apply VVal.move;rfl)|(apply VVal.add64;rfl;rfl;omega)|(apply VVal.int;rfl;rfl;rfl)|(apply VVal.indexN;rfl;rfl;rfl;omega;rfl)|(apply VVal.load;rfl;rfl)|(apply VWp.condSeq_dec;rfl)|(apply VWp.cond_false;rfl)|(intro _;try (exfalso;omega)))
   all_goals try (exfalso;omega)
   all_goals try contradiction
   refine QLoop.normal ⟨(all_succP hok h),by first|omega|decide,?_,?_⟩
   ·repeat (first|exact LCov.nil|refine LCov.same (by exact PV.under_of rfl) rfl ?_|refine LCov.cons trivial rfl (.of_eq (lst_len (by simp<;>omega))) ?_)
   ·repeat (first|exact HCov.nil|(refine HCov.cons (lt_dec rfl) ?_ rfl ?_ ?_;(first|exact HB.under_of rfl|exact PVs.under_pure _ _|(simp [HB.under,PVs.under,PV.under]));(first|exact HLe.refl _|exact HLe.vec (FLes.refl _) (by simp))))
  ·rw [decide_eq_false h] at he
   rw [decide_eq_false (fun e=>h (by rw [e]))]
   repeat' (first|apply VWp.rseq|apply VWp.rseqD|apply VWp.skipSeq|apply VWp.blockSeq|apply QSeq.ret|apply QBlk.ret|apply QLoop.ret|apply VWp.ret|apply VOps.nil|apply VOpsD.nil|apply VOps.one|(apply VOpsD.bar;decide +kernel)|apply VOpsD.quiet|(apply VVal.neSt1;rfl;rfl;exact freeNts;exact he)|(apply VVal.assign;rfl)|(apply VVal.move;rfl)|(apply VVal.int;rfl;rfl;rfl)|(apply VVal.indexN;rfl;rfl;rfl;omega;rfl)|(apply VVal.load;rfl;rfl)|(apply VWp.condSeq_dec;rfl)|(apply VWp.cond_true;rfl)|(intro _;try (exfalso;omega)))
   all_goals first|(exfalso;omega)|contradiction|(refine Done.ret rfl (.refl _) (by exact PV.under_of rfl) HCov.nil (Nat.zero_le _) (Nat.le_refl _) ⟨?_,rfl,rfl⟩;try rfl)
 ·intro hok
  rw [decide_eq_true (gi_ext hlen hok)]
  repeat' (first|apply VWp.rseq|apply VWp.exitSeq|apply QSeq.normal|apply QBlk.exit|apply QLoop.exit|apply VWp.ret|apply VOps.nil|apply VOps.one|(apply VVal.assign;rfl)|(apply VVal.int;rfl;rfl;rfl)|(apply VWp.condSeq_dec;rfl)|(intro _;try (exfalso;omega)))
  all_goals first|(exfalso;omega)|contradiction|(refine Done.ret rfl (.refl _) (by exact PV.under_of rfl) HCov.nil (Nat.zero_le _) (Nat.le_refl _) ⟨?_,rfl,rfl⟩;try rfl)
end Go.Proofs.YtnhdddmhkhdlhaaGreatDoor
namespace Go.Proofs.YtnhdddmhkhdlhaaGreatDoor
open Go Go.Am Go.Vm Go.Pie
attribute [local irreducible] VVal VOps VOpsD VWp VCalls VFun VFunV QSeq QBlk QLoop Vm.Done DoneV DoneI
attribute [local irreducible] rchk windsE stoE dvsE cplE shiftR tailH
end Go.Proofs.YtnhdddmhkhdlhaaGreatDoor
namespace Go.Proofs.YtnhdddmhkhdlhaaGreatDoor
open Go Go.Am Go.Vm Go.Pie
attribute [local irreducible] VVal VOps VOpsD VWp VCalls VFun VFunV QSeq QBlk QLoop Vm.Done DoneV DoneI
attribute [local irreducible] rchk windsE stoE dvsE cplE shiftR tailH
theorem ctS0_ok {o:Org} {p:Pce} (h:PceK o p) (f:Nat):∀ i,i<(ctS0 p f).length→(gi (ctS0 p f) i).reg.Ok:=fun i hi=>by
 have hw:=wanK_rng p (gi p.bars f) p.sets.length
 rw [show wanK p (gi p.bars f) p.sets.length=wan p (gi p.bars f) from rfl] at hw
 unfold ctS0 at hi ⊢
 split
 ·rename_i c
  rw [if_pos c] at hi
  obtain rfl:i=0:=by
   have:i<1:=hi
   omega
  exact h.sm.reg _ (by omega)
 ·rename_i c
  rw [if_neg c] at hi
  exact absurd hi (Nat.not_lt_zero _)
theorem ctS_ok {o:Org} {p:Pce} (h:PceK o p) (f t:Nat) {s0:List Stg} (h0:∀ i,i<s0.length→(gi s0 i).reg.Ok):∀ k,k≤p.sets.length→∀ i,i<(ctS p f t s0 k).length→(gi (ctS p f t s0 k) i).reg.Ok
 |0,_,i,hi=>h0 i hi
 |k+1,hk,i,hi=>by
  have ih:=ctS_ok h f t h0 k (by omega)
  have e:ctS p f t s0 (k+1)=if (gi p.sets k).bar≥f∧(gi p.sets k).bar<t then ctS p f t s0 k++[⟨(gi p.sets k).bar-f,(gi p.sets k).reg⟩] else ctS p f t s0 k:=rfl
  rw [e] at hi ⊢
  split
  ·rename_i c
   rw [if_pos c,List.length_append] at hi
   have hi:i<(ctS p f t s0 k).length+1:=hi
   by_cases e:i<(ctS p f t s0 k).length
   ·rw [gi_left e];exact ih i e
   ·obtain rfl:i=(ctS p f t s0 k).length:=by omega
    rw [gi_right];exact h.sm.reg k (by omega)
  ·rename_i c
   rw [if_neg c] at hi
   exact ih i hi
theorem cutP_sm {o:Org} {p:Pce} (h:PceK o p) {f t:Nat} (h1:f<t) (h2:t<p.bars.length):PceSm (cutP p f t):=by
 have b:=h.bars
 have n:=h.notes
 have s:=h.sets
 have l1:=ctB_len h1 h2
 have l2:=ctN_len p (gi p.bars f) (gi p.bars t) p.notes.length
 have l3:=ctS_len p f t (ctS0 p f) p.sets.length
 have l4:=ctS0_len p f
 exact ⟨by show (ctB p f t).length<_;omega,by show (ctN p (gi p.bars f) (gi p.bars t) p.notes.length).length<_;omega,by show (ctS p f t (ctS0 p f) p.sets.length).length<_;omega,ctS_ok h f t (ctS0_ok h f) _ (Nat.le_refl _)⟩
end Go.Proofs.YtnhdddmhkhdlhaaGreatDoor
namespace Go.Proofs.YtnhdddmhkhdlhaaGreatDoor
open Go Go.Am Go.Vm Go.Pie
attribute [local irreducible] VVal VOps VOpsD VWp VCalls VFun VFunV QSeq QBlk QLoop Vm.Done DoneV DoneI
attribute [local irreducible] rchk windsE stoE dvsE cplE shiftR tailH
theorem sndK_iff (p:Pce) (t:Int) (x:Int):∀ k,x∈sndK p t k↔∃ i:Nat,i<k∧x=(i:Int)∧sndB p t i=true
 |0=>by simp [sndK]
 |k+1=>by
  have ih:=sndK_iff p t x k
  have e:sndK p t (k+1)=if sndB p t k=true then sndK p t k++[(k:Int)] else sndK p t k:=rfl
  rw [e]
  by_cases h:sndB p t k=true
  ·rw [if_pos h,List.mem_append,List.mem_singleton,ih]
   constructor
   ·rintro (⟨i,h1,h2⟩|h1)
    ·exact ⟨i,by omega,h2⟩
    ·exact ⟨k,by omega,h1,h⟩
   ·rintro ⟨i,h1,h2,h3⟩
    by_cases e:i=k
    ·subst e;exact .inr h2
    ·exact .inl ⟨i,by omega,h2,h3⟩
  ·rw [if_neg h,ih]
   constructor
   ·rintro ⟨i,h1,h2⟩;exact ⟨i,by omega,h2⟩
   ·rintro ⟨i,h1,h2,h3⟩
    by_cases e:i=k
    ·subst e;exact absurd h3 h
    ·exact ⟨i,by omega,h2,h3⟩
theorem sndK_same (p:Pce) (t u:Int):∀ k,(∀ i,i<k→sndB p t i=sndB p u i)→sndK p t k=sndK p u k
 |0,_=>rfl
 |k+1,h=>by
  have ih:=sndK_same p t u k fun i hi=>h i (by omega)
  have e:∀ t,sndK p t (k+1)=if sndB p t k=true then sndK p t k++[(k:Int)] else sndK p t k:=fun _=>rfl
  rw [e,e,h k (by omega),ih]
theorem snd_same {p:Pce} {t u:Int} (h:snd p t=snd p u) {i:Nat} (hi:i<p.notes.length):sndB p t i=sndB p u i:=by
 have h1:=sndK_iff p t (i:Int) p.notes.length
 have h2:=sndK_iff p u (i:Int) p.notes.length
 have h:sndK p t p.notes.length=sndK p u p.notes.length:=h
 rw [h] at h1
 rw [Bool.eq_iff_iff]
 constructor
 ·intro h3
  obtain ⟨j,_,e,h4⟩:=h2.1 (h1.2 ⟨i,hi,rfl,h3⟩)
  have:i=j:=by omega
  subst this;exact h4
 ·intro h3
  obtain ⟨j,_,e,h4⟩:=h1.1 (h2.2 ⟨i,hi,rfl,h3⟩)
  have:i=j:=by omega
  subst this;exact h4
theorem zsK_iff (p:Pce) (t:Int):∀ k,t∈zsK p k↔t=fstB p∨t=endB p∨∃ i,i<k∧(t=(gi p.notes i).s∨t=(gi p.notes i).e)
 |0=>by simp [zsK]
 |k+1=>by
  have ih:=zsK_iff p t k
  have e:zsK p (k+1)=zsK p k++[(gi p.notes k).s,(gi p.notes k).e]:=rfl
  rw [e,List.mem_append,ih]
  simp only [List.mem_cons,List.not_mem_nil,or_false]
  constructor
  ·rintro ((h|h|⟨i,h1,h2⟩)|h)
   ·exact .inl h
   ·exact .inr (.inl h)
   ·exact .inr (.inr ⟨i,by omega,h2⟩)
   ·exact .inr (.inr ⟨k,by omega,h⟩)
  ·rintro (h|h|⟨i,h1,h2⟩)
   ·exact .inl (.inl h)
   ·exact .inl (.inr (.inl h))
   ·by_cases e:i=k
    ·subst e;exact .inr h2
    ·exact .inl (.inr (.inr ⟨i,by omega,h2⟩))
theorem sndB_iff (p:Pce) (t:Int) (i:Nat):sndB p t i=true↔(gi p.notes i).s≤t∧t<(gi p.notes i).e:=by
 unfold sndB;simp
theorem PceK.ends {o:Org} {p:Pce} (h:PceK o p):fstB p<endB p:=h.lt (by have:=h.bars;omega) (by have:=h.bars;omega)
theorem sndL_law {o:Org} {p:Pce} (h:PceK o p):sndL p=lawW (fstB p) (snd p) (endB p-fstB p).toNat:=by
 have he:=h.ends
 obtain ⟨n,hn⟩:∃ n:Nat,(endB p-fstB p).toNat=n+1:=⟨(endB p-fstB p).toNat-1,by omega⟩
 rw [hn,lawW_eq]
 unfold sndL tksP
 rw [ticks_eq (fstB p) (n+1) (snd p) _ (by omega) fun t=>?_]
 rw [zsK_iff]
 have hnote:∀ i,i<p.notes.length→fstB p≤(gi p.notes i).s∧(gi p.notes i).s<(gi p.notes i).e∧(gi p.notes i).e≤endB p:=fun i hi=>(h.note i hi).r
 constructor
 ·rintro (h1|h1|⟨i,hi,h1⟩)
  ·exact .inr ⟨by omega,by omega,.inl h1⟩
  ·exact .inl (by omega)
  ·obtain ⟨q1,q2,q3⟩:=hnote i hi
   by_cases h2:t=fstB p+(n+1:Nat)
   ·exact .inl h2
   ·refine .inr ⟨by omega,by omega,?_⟩
    by_cases h3:t=fstB p
    ·exact .inl h3
    ·refine .inr fun h4=>?_
     have h5:=snd_same h4 hi
     rw [Bool.eq_iff_iff,sndB_iff,sndB_iff] at h5
     omega
 ·rintro (h1|⟨h1,h2,h3|h3⟩)
  ·exact .inr (.inl (by omega))
  ·exact .inl h3
  ·refine .inr (.inr (Classical.byContradiction fun h4=>h3 (sndK_same p t (t-1) _ fun i hi=>?_)))
   rw [Bool.eq_iff_iff,sndB_iff,sndB_iff]
   have h5:¬ (t=(gi p.notes i).s∨t=(gi p.notes i).e):=fun h5=>h4 ⟨i,hi,h5⟩
   omega
theorem lawW_last (a:Int) (S:Int→List Int):∀ n:Nat,(lawW a S n).length≤n∧(0<n→0<(lawW a S n).length)∧((lawW a S n).length≠0→(gi (lawW a S n) ((lawW a S n).length-1)).e=a+n)
 |0=>by simp [lawW]
 |n+1=>by
  obtain ⟨h1,h2,h3⟩:=lawW_last a S n
  have e:lawW a S (n+1)=stepW S (lawW a S n) (a+n):=rfl
  rw [e]
  unfold stepW
  split
  ·rename_i h
   rw [List.length_set]
   refine ⟨by omega,fun _=>by omega,fun _=>?_⟩
   rw [gi_set,if_pos ⟨rfl,by omega⟩,h3 h.1]
   show a+(n:Int)+1=_
   omega
  ·rw [List.length_append]
   refine ⟨by show _+1≤_;omega,fun _=>by show 0<_+1;omega,fun _=>?_⟩
   rw [show (lawW a S n).length+[(⟨a+n,a+n+1,S (a+n)⟩:Slc)].length-1=(lawW a S n).length from rfl,gi_right]
   show a+(n:Int)+1=_
   omega
theorem lawW_notes (a:Int) (S:Int→List Int) (hS:∀ t,(S t).length≤1000):∀ n i,i<(lawW a S n).length→(gi (lawW a S n) i).notes.length≤1000
 |0,i,h=>by simp [lawW] at h
 |n+1,i,h=>by
  have ih:=lawW_notes a S hS n
  have e:lawW a S (n+1)=stepW S (lawW a S n) (a+n):=rfl
  rw [e] at h ⊢
  unfold stepW at h ⊢
  split
  ·rename_i c
   rw [if_pos c,List.length_set] at h
   rw [gi_set]
   split
   ·exact ih _ (by omega)
   ·exact ih i h
  ·rename_i c
   rw [if_neg c,List.length_append] at h
   have h:i<(lawW a S n).length+1:=h
   by_cases e:i<(lawW a S n).length
   ·rw [gi_left e];exact ih i e
   ·obtain rfl:i=(lawW a S n).length:=by omega
    rw [gi_right];exact hS _
end Go.Proofs.YtnhdddmhkhdlhaaGreatDoor
namespace Go.Proofs.YtnhdddmhkhdlhaaGreatDoor
open Go Go.Am Go.Vm Go.Pie
attribute [local irreducible] VVal VOps VOpsD VWp VCalls VFun VFunV QSeq QBlk QLoop Vm.Done DoneV DoneI
attribute [local irreducible] rchk windsE stoE dvsE cplE shiftR tailH
def clipN (a z:Int) (n:Nte):Nte:=⟨max n.s a,min n.e z,n.d,n.k⟩
theorem ctN_succ (p:Pce) (a z:Int) (k:Nat):ctN p a z (k+1)=if (gi p.notes k).s<z∧(gi p.notes k).e>a then ctN p a z k++[clipN a z (gi p.notes k)] else ctN p a z k:=rfl
def ctC (p:Pce) (a z:Int) (m:Nat):Prop:=(gi p.notes m).s<z∧(gi p.notes m).e>a
theorem ctN_at (p:Pce) (a z:Int):∀ k i,i<(ctN p a z k).length→∃ m,m<k∧ctC p a z m∧gi (ctN p a z k) i=clipN a z (gi p.notes m)∧∀ j,j<i→∃ m',m'<m∧ctC p a z m'∧gi (ctN p a z k) j=clipN a z (gi p.notes m')
 |0,i,h=>absurd h (Nat.not_lt_zero _)
 |k+1,i,h=>by
  have ih:=ctN_at p a z k
  rw [ctN_succ] at h ⊢
  by_cases c:(gi p.notes k).s<z∧(gi p.notes k).e>a
  ·rw [if_pos c] at h ⊢
   rw [List.length_append] at h
   have h:i<(ctN p a z k).length+1:=h
   by_cases e:i<(ctN p a z k).length
   ·obtain ⟨m,h1,h2,h3,h4⟩:=ih i e
    refine ⟨m,by omega,h2,by rw [gi_left e];exact h3,fun j hj=>?_⟩
    obtain ⟨m',g1,g2,g3⟩:=h4 j hj
    exact ⟨m',g1,g2,by rw [gi_left (by omega)];exact g3⟩
   ·obtain rfl:i=(ctN p a z k).length:=by omega
    refine ⟨k,by omega,c,gi_right,fun j hj=>?_⟩
    obtain ⟨m,h1,h2,h3,h4⟩:=ih j hj
    exact ⟨m,h1,h2,by rw [gi_left hj];exact h3⟩
  ·rw [if_neg c] at h ⊢
   obtain ⟨m,h1,h2,h3,h4⟩:=ih i h
   exact ⟨m,by omega,h2,h3,h4⟩
theorem cutP_fst {p:Pce} {f t:Nat} (h1:f<t) (h2:t<p.bars.length):fstB (cutP p f t)=gi p.bars f:=by
 show gi (ctB p f t) 0=_
 rw [ctB_gi (by omega),Nat.add_zero]
theorem cutP_end {p:Pce} {f t:Nat} (h1:f<t) (h2:t<p.bars.length):endB (cutP p f t)=gi p.bars t:=by
 show gi (ctB p f t) ((ctB p f t).length-1)=_
 rw [ctB_len h1 h2,ctB_gi (by omega)]
 congr 1;omega
theorem wanK_step (p:Pce) (t:Int) (k:Nat):wanK p t (k+1)=if gi p.bars (gi p.sets k).bar.toNat≤t then (k:Int) else wanK p t k:=rfl
theorem wanK_cases (p:Pce) (t:Int):∀ k,(wanK p t k=-1∧∀ m,m<k→¬ gi p.bars (gi p.sets m).bar.toNat≤t)∨∃ i,i<k∧wanK p t k=(i:Int)∧gi p.bars (gi p.sets i).bar.toNat≤t∧∀ m,i<m→m<k→¬ gi p.bars (gi p.sets m).bar.toNat≤t
 |0=>.inl ⟨rfl,fun m h=>absurd h (Nat.not_lt_zero _)⟩
 |k+1=>by
  rw [wanK_step]
  by_cases c:gi p.bars (gi p.sets k).bar.toNat≤t
  ·rw [if_pos c]
   exact .inr ⟨k,by omega,rfl,c,fun m h1 h2=>by omega⟩
  ·rw [if_neg c]
   rcases wanK_cases p t k with ⟨h1,h2⟩|⟨i,h1,h2,h3,h4⟩
   ·refine .inl ⟨h1,fun m hm=>?_⟩
    by_cases e:m=k
    ·subst e;exact c
    ·exact h2 m (by omega)
   ·refine .inr ⟨i,by omega,h2,h3,fun m hm hm2=>?_⟩
    by_cases e:m=k
    ·subst e;exact c
    ·exact h4 m hm (by omega)
theorem ctS_succ (p:Pce) (f t:Nat) (s0:List Stg) (k:Nat):ctS p f t s0 (k+1)=if (gi p.sets k).bar≥f∧(gi p.sets k).bar<t then ctS p f t s0 k++[⟨(gi p.sets k).bar-f,(gi p.sets k).reg⟩] else ctS p f t s0 k:=rfl
theorem setsK_lt {o:Org} {p:Pce} (h:PceK o p):∀ (d i:Nat),i+d<p.sets.length→0<d→(gi p.sets i).bar<(gi p.sets (i+d)).bar
 |0,_,_,h0=>by omega
 |d+1,i,hd,_=>by
  have h1:=(h.set (i+(d+1)) hd).2.1 (by omega)
  rw [show i+(d+1)-1=i+d by omega] at h1
  rcases Nat.eq_zero_or_pos d with e|e
  ·subst e;simpa using h1
  ·have:=setsK_lt h d i (by omega) e
   omega
theorem PceK.slt {o:Org} {p:Pce} (h:PceK o p) {i j:Nat} (hij:i<j) (hj:j<p.sets.length):(gi p.sets i).bar<(gi p.sets j).bar:=by
 have:=setsK_lt h (j-i) i (by omega) (by omega)
 rwa [show i+(j-i)=j by omega] at this
theorem PceK.le {o:Org} {p:Pce} (h:PceK o p) {i j:Nat} (hij:i≤j) (hj:j<p.bars.length):gi p.bars i≤gi p.bars j:=by
 rcases Nat.lt_or_ge i j with h1|h1
 ·exact Int.le_of_lt (h.lt h1 hj)
 ·obtain rfl:i=j:=by omega
  exact Int.le_refl _
theorem PceK.bar_le {o:Org} {p:Pce} (h:PceK o p) {m n:Nat} (hm:m<p.sets.length) (hn:n<p.bars.length):gi p.bars (gi p.sets m).bar.toNat≤gi p.bars n↔(gi p.sets m).bar≤n:=by
 have h1:=(h.set m hm).1
 constructor
 ·intro h2
  refine Int.not_lt.1 fun h3=>?_
  have:=h.lt (i:=n) (j:=(gi p.sets m).bar.toNat) (by omega) (by omega)
  omega
 ·intro h2
  exact h.le (by omega) hn
theorem ctS0_cases {o:Org} {p:Pce} (h:PceK o p) {f:Nat} (hf:f<p.bars.length):(ctS0 p f=[]∧(∀ m,m<p.sets.length→(gi p.sets m).bar≥f)∨ctS0 p f=[]∧∃ i,i<p.sets.length∧(gi p.sets i).bar=f) ∨
 ∃ i,i<p.sets.length∧ctS0 p f=[⟨0,(gi p.sets i).reg⟩]∧(gi p.sets i).bar<f∧∀ m,i<m→m<p.sets.length→(gi p.sets m).bar>f:=by
 unfold ctS0 wan
 rcases wanK_cases p (gi p.bars f) p.sets.length with ⟨h1,h2⟩|⟨i,h1,h2,h3,h4⟩
 ·rw [h1,if_neg (by omega)]
  refine .inl (.inl ⟨rfl,fun m hm=>?_⟩)
  have:=h2 m hm
  rw [h.bar_le hm hf] at this
  omega
 ·rw [h2]
  simp only [Int.toNat_natCast]
  rw [h.bar_le h1 hf] at h3
  by_cases c:(gi p.sets i).bar<f
  ·rw [if_pos ⟨by omega,c⟩]
   refine .inr ⟨i,h1,rfl,c,fun m hm1 hm2=>?_⟩
   have:=h4 m hm1 hm2
   rw [h.bar_le hm2 hf] at this
   omega
  ·rw [if_neg (fun h=>c h.2)]
   exact .inl (.inr ⟨rfl,i,h1,by omega⟩)
structure CtS (o:Org) (p:Pce) (f t:Nat) (l:List Stg) (k:Nat):Prop where
 at_:∀ i,i<l.length→(0≤(gi l i).bar∧(gi l i).bar<(t:Int)-f)∧(0<i→(gi l (i-1)).bar<(gi l i).bar)∧regE o (gi l i).reg=0
 lo:∀ i,i<l.length→∀ m,k≤m→m<p.sets.length→(gi p.sets m).bar≥f→(gi l i).bar<(gi p.sets m).bar-f
theorem ctS_k {o:Org} {p:Pce} (h:PceK o p) {f t:Nat} (h1:f<t) (h2:t<p.bars.length):∀ k,k≤p.sets.length→CtS o p f t (ctS p f t (ctS0 p f) k) k
 |0,_=>by
  show CtS o p f t (ctS0 p f) 0
  rcases ctS0_cases h (show f<p.bars.length by omega) with (⟨e,_⟩|⟨e,_⟩)|⟨i,hi,e,h3,h4⟩
  ·rw [e];exact ⟨fun i hi=>absurd hi (Nat.not_lt_zero _),fun i hi=>absurd hi (Nat.not_lt_zero _)⟩
  ·rw [e];exact ⟨fun i hi=>absurd hi (Nat.not_lt_zero _),fun i hi=>absurd hi (Nat.not_lt_zero _)⟩
  ·rw [e]
   refine ⟨fun j hj=>?_,fun j hj m _ hm hb=>?_⟩
   ·obtain rfl:j=0:=by
     have:j<1:=hj
     omega
    exact ⟨⟨Int.le_refl _,by show (0:Int)<_;omega⟩,fun h=>by omega,(h.set i hi).2.2⟩
   ·obtain rfl:j=0:=by
     have:j<1:=hj
     omega
    show (0:Int)<_
    rcases Nat.lt_or_ge i m with h5|h5
    ·have:=h4 m h5 hm
     omega
    ·rcases Nat.lt_or_ge m i with h6|h6
     ·have:=h.slt h6 hi
      omega
     ·obtain rfl:m=i:=by omega
      omega
 |k+1,hk=>by
  obtain ⟨i1,i2⟩:=ctS_k h h1 h2 k (by omega)
  have hs:=h.set k (by omega)
  rw [ctS_succ]
  split
  ·rename_i c
   refine ⟨fun i hi=>?_,fun i hi m hm hm2 hb=>?_⟩
   ·rw [List.length_append] at hi
    have hi:i<(ctS p f t (ctS0 p f) k).length+1:=hi
    by_cases e:i<(ctS p f t (ctS0 p f) k).length
    ·rw [gi_left e,gi_left (show i-1<_ by omega)]
     exact i1 i e
    ·obtain rfl:i=(ctS p f t (ctS0 p f) k).length:=by omega
     rw [gi_right]
     refine ⟨⟨by show 0≤(gi p.sets k).bar-f;omega,by show (gi p.sets k).bar-f<_;omega⟩,fun h0=>?_,hs.2.2⟩
     rw [gi_left (by omega)]
     exact i2 _ (by omega) k (Nat.le_refl _) (by omega) c.1
   ·rw [List.length_append] at hi
    have hi:i<(ctS p f t (ctS0 p f) k).length+1:=hi
    by_cases e:i<(ctS p f t (ctS0 p f) k).length
    ·rw [gi_left e]
     exact i2 i e m (by omega) hm2 hb
    ·obtain rfl:i=(ctS p f t (ctS0 p f) k).length:=by omega
     rw [gi_right]
     show (gi p.sets k).bar-f<_
     have:=h.slt (show k<m by omega) hm2
     omega
  ·exact ⟨i1,fun i hi m hm hm2 hb=>i2 i hi m (by omega) hm2 hb⟩
theorem cutP_k {o:Org} {p:Pce} (h:PceK o p) {f t:Nat} (h1:f<t) (h2:t<p.bars.length) (hs:p.sets.length<100):PceK o (cutP p f t):=by
 have b:=h.bars
 have l1:=ctB_len h1 h2
 have l2:=ctN_len p (gi p.bars f) (gi p.bars t) p.notes.length
 have l3:=ctS_len p f t (ctS0 p f) p.sets.length
 have l4:=ctS0_len p f
 have hn:=h.notes
 have hft:=h.lt h1 h2
 refine pceK_of (cutP_sm h h1 h2) ⟨by show 2≤(ctB p f t).length;omega,by show (ctB p f t).length≤_;omega⟩ (fun i hi=>?_) (by show (ctN p (gi p.bars f) (gi p.bars t) p.notes.length).length≤_;omega) (fun i hi=>?_) (by show (ctS p f t (ctS0 p f) p.sets.length).length≤_;omega) (fun i hi=>?_)
 ·have hi:i<(ctB p f t).length:=hi
  rw [l1] at hi
  show (0≤gi (ctB p f t) i∧gi (ctB p f t) i≤100000)∧(0<i→gi (ctB p f t) (i-1)<gi (ctB p f t) i)
  rw [ctB_gi hi,ctB_gi (show i-1<_ by omega)]
  have hb:=h.bar (f+i) (by omega)
  exact ⟨hb.1,fun h0=>h.lt (by omega) (by omega)⟩
 ·obtain ⟨m,g1,g2,g3,g4⟩:=ctN_at p (gi p.bars f) (gi p.bars t) p.notes.length i hi
  have hm:=h.note m g1
  have g3:gi (cutP p f t).notes i=clipN (gi p.bars f) (gi p.bars t) (gi p.notes m):=g3
  obtain ⟨q1,q2⟩:=g2
  have q3:=hm.r
  refine ⟨by rw [g3];exact hm.d,by rw [g3];exact hm.k,?_,fun j hj=>?_⟩
  ·rw [g3,cutP_fst h1 h2,cutP_end h1 h2]
   show gi p.bars f≤max (gi p.notes m).s (gi p.bars f)∧max (gi p.notes m).s (gi p.bars f)<min (gi p.notes m).e (gi p.bars t)∧min (gi p.notes m).e (gi p.bars t)≤gi p.bars t
   omega
  ·obtain ⟨m',c1,c2,c3⟩:=g4 j hj
   have c3:gi (cutP p f t).notes j=clipN (gi p.bars f) (gi p.bars t) (gi p.notes m'):=c3
   rw [g3,c3]
   have c4:=hm.c m' c1
   unfold ovl clipN at *
   simp only [Bool.and_eq_false_iff,decide_eq_false_iff_not] at c4 ⊢
   omega
 ·have hc:=(ctS_k h h1 h2 p.sets.length (Nat.le_refl _)).at_ i hi
  refine ⟨⟨hc.1.1,?_⟩,hc.2⟩
  have:=hc.1.2
  show _<((ctB p f t).length:Int)-1
  rw [l1]
  show (gi (ctS p f t (ctS0 p f) p.sets.length) i).bar<_
  omega
def kdl (t:Int) (d:Nat) (l:List Nte):List Int:=(l.filter fun n=>(decide (n.s≤t)&&decide (t<n.e))&&decide (n.d=(d:Int))).map (·.k)
theorem kdl_app (t:Int) (d:Nat) (l r:List Nte):kdl t d (l++r)=kdl t d l++kdl t d r:=by unfold kdl;rw [List.filter_append,List.map_append]
theorem kdl_one (t:Int) (d:Nat) (n:Nte):kdl t d [n]=if n.s≤t∧t<n.e∧n.d=(d:Int) then [n.k] else []:=by
 unfold kdl
 by_cases h:n.s≤t∧t<n.e∧n.d=(d:Int)
 ·rw [if_pos h];simp [h]
 ·rw [if_neg h]
  have:((decide (n.s≤t)&&decide (t<n.e))&&decide (n.d=(d:Int)))=false:=by
   simp only [Bool.and_eq_false_iff,decide_eq_false_iff_not];omega
  simp [List.filter,this]
theorem kdK_left (p:Pce) (L:List Int) (x:Int) (d:Nat):∀ k,k≤L.length→kdK p (L++[x]) d k=kdK p L d k
 |0,_=>rfl
 |k+1,h=>by
  have e:∀ L,kdK p L d (k+1)=if (gi p.notes (gi L k).toNat).d=(d:Int) then kdK p L d k++[(gi p.notes (gi L k).toNat).k] else kdK p L d k:=fun _=>rfl
  rw [e,e,kdK_left p L x d k (by omega),gi_left (by omega)]
theorem kdK_kdl (p:Pce) (t:Int) (d:Nat):∀ k,k≤p.notes.length→kdK p (sndK p t k) d (sndK p t k).length=kdl t d (p.notes.take k)
 |0,_=>rfl
 |k+1,hk=>by
  have ih:=kdK_kdl p t d k (by omega)
  have e:sndK p t (k+1)=if sndB p t k=true then sndK p t k++[(k:Int)] else sndK p t k:=rfl
  rw [e,take_succ_gi (by omega),kdl_app,kdl_one,← ih]
  have hb:=sndB_iff p t k
  by_cases c:sndB p t k=true
  ·rw [if_pos c,List.length_append]
   show kdK p (sndK p t k++[(k:Int)]) d ((sndK p t k).length+1)=_
   have e2:∀ L j,kdK p L d (j+1)=if (gi p.notes (gi L j).toNat).d=(d:Int) then kdK p L d j++[(gi p.notes (gi L j).toNat).k] else kdK p L d j:=fun _ _=>rfl
   rw [e2,gi_right,kdK_left p _ _ d _ (Nat.le_refl _),Int.toNat_natCast]
   rw [hb] at c
   by_cases c2:(gi p.notes k).d=(d:Int)
   ·rw [if_pos c2,if_pos ⟨c.1,c.2,c2⟩]
   ·rw [if_neg c2,if_neg (fun h=>c2 h.2.2),List.append_nil]
  ·rw [if_neg c,if_neg (fun h=>c (hb.2 ⟨h.1,h.2.1⟩)),List.append_nil]
theorem kdl_cut (p:Pce) {a z t:Int} (h1:a≤t) (h2:t<z) (d:Nat):∀ k,k≤p.notes.length→kdl t d (ctN p a z k)=kdl t d (p.notes.take k)
 |0,_=>rfl
 |k+1,hk=>by
  have ih:=kdl_cut p h1 h2 d k (by omega)
  rw [take_succ_gi (by omega),kdl_app,← ih,ctN_succ,kdl_one]
  split
  ·rename_i c
   rw [kdl_app,kdl_one]
   congr 1
   show (if max (gi p.notes k).s a≤t∧t<min (gi p.notes k).e z∧(gi p.notes k).d=(d:Int) then [(gi p.notes k).k] else [])=_
   by_cases c2:(gi p.notes k).s≤t∧t<(gi p.notes k).e∧(gi p.notes k).d=(d:Int)
   ·rw [if_pos c2,if_pos (by omega)]
   ·rw [if_neg c2,if_neg (by omega)]
  ·rename_i c
   rw [if_neg (by omega),List.append_nil]
theorem keysR_kdl (o:Org) (p:Pce) (t:Int):keysR o p t=snocK (fun d=>ofK (kdl t d p.notes) (kdl t d p.notes).length) o.divs.length:=by
 unfold keysR snd
 refine snocK_congr fun d _=>?_
 rw [kdK_kdl p t d _ (Nat.le_refl _),List.take_length]
theorem keysR_cut (o:Org) (p:Pce) {f t:Nat} {u:Int} (h1:gi p.bars f≤u) (h2:u<gi p.bars t):keysR o (cutP p f t) u=keysR o p u:=by
 rw [keysR_kdl,keysR_kdl]
 refine snocK_congr fun d _=>?_
 have:=kdl_cut p h1 h2 d p.notes.length (Nat.le_refl _)
 rw [List.take_length] at this
 show ofK (kdl u d (ctN p (gi p.bars f) (gi p.bars t) p.notes.length)) (kdl u d (ctN p (gi p.bars f) (gi p.bars t) p.notes.length)).length=_
 rw [this]
def lwL (B:List Int) (u:Int) (r:Rgs) (S:List Stg):Rgs:=S.foldl (fun r s=>if gi B s.bar.toNat≤u then s.reg else r) r
theorem lwL_snoc (B:List Int) (u:Int) (r:Rgs) (S:List Stg) (s:Stg):lwL B u r (S++[s])=if gi B s.bar.toNat≤u then s.reg else lwL B u r S:=by
 unfold lwL;rw [List.foldl_append];rfl
theorem lwR_lwL (r:Rgs) (p:Pce) (u:Int):∀ k,k≤p.sets.length→lwR r p u k=lwL p.bars u r (p.sets.take k)
 |0,_=>rfl
 |k+1,hk=>by
  rw [take_succ_gi (by omega),lwL_snoc,← lwR_lwL r p u k (by omega)]
  rfl
theorem wanR_lwL (o:Org) (p:Pce) (u:Int):wanR o p u=lwL p.bars u (noneR o) p.sets:=by
 have h:=lwR_wan (noneR o) p u p.sets.length
 rw [lwR_lwL _ _ _ _ (Nat.le_refl _),List.take_length] at h
 exact h.symm
theorem ctS_low {p:Pce} {f t:Nat} {s0:List Stg}:∀ k,(∀ m,m<k→(gi p.sets m).bar<f)→ctS p f t s0 k=s0
 |0,_=>rfl
 |k+1,h=>by
  rw [ctS_succ,if_neg (fun c=>by have:=h k (by omega);omega)]
  exact ctS_low k fun m hm=>h m (by omega)
theorem wan_low {o:Org} {p:Pce} (h:PceK o p) {f t:Nat} {u:Int} (N:Rgs) (h1:f<t) (h2:t<p.bars.length) (hu:gi p.bars f≤u) {k:Nat} (hk:k≤p.sets.length) (ha:∀ m,m<k→(gi p.sets m).bar<f) (hb:∀ m,k≤m→m<p.sets.length→(gi p.sets m).bar>f) :
 lwL p.bars u N (p.sets.take k)=lwL (ctB p f t) u N (ctS p f t (ctS0 p f) k):=by
 rw [ctS_low k ha]
 rcases ctS0_cases h (show f<p.bars.length by omega) with (⟨e,h3⟩|⟨e,i,hi,h3⟩)|⟨i,hi,e,h3,h4⟩
 ·obtain rfl:k=0:=by
   refine Nat.eq_zero_of_not_pos fun h0=>?_
   have:=ha 0 h0
   have:=h3 0 (by omega)
   omega
  rw [e];rfl
 ·exfalso
  rcases Nat.lt_or_ge i k with h5|h5
  ·have:=ha i h5;omega
  ·have:=hb i h5 hi;omega
 ·obtain rfl:k=i+1:=by
   rcases Nat.lt_or_ge i k with h5|h5
   ·rcases Nat.lt_or_ge (i+1) k with h6|h6
    ·have:=ha (i+1) h6
     have:=h4 (i+1) (by omega) (by omega)
     omega
    ·omega
   ·have:=hb i h5 hi;omega
  rw [take_succ_gi hi,lwL_snoc,e]
  have hle:=(h.bar_le hi (show f<p.bars.length by omega)).2 (Int.le_of_lt h3)
  rw [if_pos (Int.le_trans hle hu)]
  show _=if gi (ctB p f t) 0≤u then _ else _
  rw [ctB_gi (by omega),Nat.add_zero,if_pos hu]
theorem wan_cut {o:Org} {p:Pce} (h:PceK o p) {f t:Nat} {u:Int} (N:Rgs) (h1:f<t) (h2:t<p.bars.length) (hu:gi p.bars f≤u) (hz:u<gi p.bars t):∀ k,k≤p.sets.length→(∀ m,m<k→(gi p.sets m).bar<f)∨lwL p.bars u N (p.sets.take k)=lwL (ctB p f t) u N (ctS p f t (ctS0 p f) k)
 |0,_=>.inl fun m hm=>absurd hm (Nat.not_lt_zero _)
 |k+1,hk=>by
  have ih:=wan_cut h N h1 h2 hu hz k (by omega)
  have hs:=(h.set k (by omega)).1
  by_cases c:(gi p.sets k).bar<f
  ·refine .inl fun m hm=>?_
   rcases Nat.lt_or_ge m k with h5|h5
   ·have:=h.slt h5 (show k<p.sets.length by omega)
    omega
   ·obtain rfl:m=k:=by omega
    exact c
  refine .inr ?_
  have heq:¬ gi p.bars (gi p.sets k).bar.toNat≤u→lwL p.bars u N (p.sets.take k)=lwL (ctB p f t) u N (ctS p f t (ctS0 p f) k):=fun hn=>by
   rcases ih with ih|ih
   ·refine wan_low h N h1 h2 hu (by omega) ih fun m hm hm2=>?_
    have hkf:(gi p.sets k).bar>f:=by
     rcases Int.lt_trichotomy (gi p.sets k).bar f with e|e|e
     ·omega
     ·exfalso;apply hn;rw [e,Int.toNat_natCast];exact hu
     ·exact e
    rcases Nat.lt_or_ge k m with h5|h5
    ·have:=h.slt h5 hm2
     omega
    ·obtain rfl:m=k:=by omega
     exact hkf
   ·exact ih
  rw [take_succ_gi (by omega),lwL_snoc,ctS_succ]
  by_cases c2:(gi p.sets k).bar<t
  ·rw [if_pos (show (gi p.sets k).bar≥f∧(gi p.sets k).bar<t from ⟨by omega,c2⟩),lwL_snoc]
   show _=if gi (ctB p f t) ((gi p.sets k).bar-f).toNat≤u then (gi p.sets k).reg else _
   rw [ctB_gi (by omega),show f+((gi p.sets k).bar-f).toNat=(gi p.sets k).bar.toNat by omega]
   by_cases c3:gi p.bars (gi p.sets k).bar.toNat≤u
   ·rw [if_pos c3,if_pos c3]
   ·rw [if_neg c3,if_neg c3];exact heq c3
  ·rw [if_neg (show ¬ ((gi p.sets k).bar≥f∧(gi p.sets k).bar<t) from fun h=>c2 h.2)]
   have:=h.le (i:=t) (j:=(gi p.sets k).bar.toNat) (by omega) (by omega)
   have c3:¬ gi p.bars (gi p.sets k).bar.toNat≤u:=by omega
   rw [if_neg c3];exact heq c3
theorem wanR_cut {o:Org} {p:Pce} (h:PceK o p) {f t:Nat} {u:Int} (h1:f<t) (h2:t<p.bars.length) (hu:gi p.bars f≤u) (hz:u<gi p.bars t):wanR o (cutP p f t) u=wanR o p u:=by
 rw [wanR_lwL,wanR_lwL]
 show lwL (ctB p f t) u (noneR o) (ctS p f t (ctS0 p f) p.sets.length)=_
 have hl:p.sets.take p.sets.length=p.sets:=List.take_length
 rcases wan_cut h (noneR o) h1 h2 hu hz p.sets.length (Nat.le_refl _) with h3|h3
 ·rw [← wan_low h (noneR o) h1 h2 hu (Nat.le_refl _) h3 fun m hm hm2=>by omega,hl]
 ·rw [← h3,hl]
theorem ctN_all {o:Org} {p:Pce} (h:PceK o p):∀ k,k≤p.notes.length→ctN p (fstB p) (endB p) k=p.notes.take k
 |0,_=>rfl
 |k+1,hk=>by
  have hr:=(h.note k (by omega)).r
  rw [ctN_succ,take_succ_gi (by omega),ctN_all h k (by omega),if_pos (by omega)]
  congr 1
  unfold clipN
  rw [show max (gi p.notes k).s (fstB p)=(gi p.notes k).s by omega,show min (gi p.notes k).e (endB p)=(gi p.notes k).e by omega]
theorem ctS_all {o:Org} {p:Pce} (h:PceK o p):∀ k,k≤p.sets.length→ctS p 0 (p.bars.length-1) [] k=p.sets.take k
 |0,_=>rfl
 |k+1,hk=>by
  have hr:=(h.set k (by omega)).1
  have hb:=h.bars
  rw [ctS_succ,take_succ_gi (by omega),ctS_all h k (by omega),if_pos (by omega)]
  congr 1
  rw [show (gi p.sets k).bar-((0:Nat):Int)=(gi p.sets k).bar by omega]
theorem cutP_all {o:Org} {p:Pce} (h:PceK o p):cutP p 0 (p.bars.length-1)=p:=by
 have hb:=h.bars
 have e0:ctS0 p 0=[]:=by
  rcases ctS0_cases h (show 0<p.bars.length by omega) with (⟨e,_⟩|⟨e,_⟩)|⟨i,hi,e,h3,h4⟩
  ·exact e
  ·exact e
  ·have:=(h.set i hi).1
   omega
 have e1:ctB p 0 (p.bars.length-1)=p.bars:=by
  unfold ctB
  rw [List.drop_zero,show p.bars.length-1+1-0=p.bars.length by omega,List.take_length]
 have e2:=ctN_all h p.notes.length (Nat.le_refl _)
 have e3:=ctS_all h p.sets.length (Nat.le_refl _)
 rw [List.take_length] at e2 e3
 unfold cutP
 rw [e0,e1,e3]
 show (⟨p.bars,ctN p (fstB p) (endB p) p.notes.length,p.sets⟩:Pce)=p
 rw [e2]
structure Folw (a z:Int) (l:List Slc):Prop where
 ne:0<l.length
 fst:(gi l 0).s=a
 lst:(gi l (l.length-1)).e=z
 nxt:∀ i,0<i→i<l.length→(gi l i).s=(gi l (i-1)).e∧(gi l i).notes≠(gi l (i-1)).notes
theorem lawW_folw (a:Int) (S:Int→List Int):∀ n,Folw a (a+(n+1:Nat)) (lawW a S (n+1))∧(gi (lawW a S (n+1)) ((lawW a S (n+1)).length-1)).notes=S (a+n)
 |0=>by
  have e:lawW a S (0+1)=[⟨a,a+1,S a⟩]:=by
   show stepW S [] (a+(0:Nat))=_
   unfold stepW
   rw [if_neg (fun h=>h.1 rfl)]
   simp
  rw [e]
  exact ⟨⟨by simp,rfl,rfl,fun i h1 h2=>by have:i<1:=h2;omega⟩,by simp [gi]⟩
 |n+1=>by
  obtain ⟨⟨h1,h2,h3,h4⟩,h5⟩:=lawW_folw a S n
  have e:lawW a S (n+1+1)=stepW S (lawW a S (n+1)) (a+(n+1:Nat)):=rfl
  rw [e]
  generalize lawW a S (n+1)=W at *
  unfold stepW
  split
  ·rename_i c
   refine ⟨⟨by rw [List.length_set];exact h1,?_,?_,fun i g1 g2=>?_⟩,?_⟩
   ·rw [gi_set]
    split
    ·rename_i c2;rw [← h2,← c2.1]
    ·exact h2
   ·rw [List.length_set,gi_set,if_pos ⟨rfl,by omega⟩,h3]
    show a+((n+1:Nat):Int)+1=_
    omega
   ·rw [List.length_set] at g2
    have q:=h4 i g1 g2
    rw [gi_set,gi_set,if_neg (show ¬ (W.length-1=i-1∧_) from fun c=>by omega)]
    split
    ·rename_i c2;rw [c2.1];exact q
    ·exact q
   ·rw [List.length_set,gi_set,if_pos ⟨rfl,by omega⟩]
    exact c.2
  ·rename_i c
   have c:¬ (gi W (W.length-1)).notes=S (a+(n+1:Nat)):=fun h=>c ⟨by omega,h⟩
   have hl:(W++[(⟨a+(n+1:Nat),a+(n+1:Nat)+1,S (a+(n+1:Nat))⟩:Slc)]).length-1=W.length:=by rw [List.length_append];rfl
   refine ⟨⟨by rw [List.length_append];omega,by rw [gi_left h1];exact h2,?_,fun i g1 g2=>?_⟩,?_⟩
   ·rw [hl,gi_right]
    show a+((n+1:Nat):Int)+1=_
    omega
   ·rw [List.length_append] at g2
    have g2:i<W.length+1:=g2
    by_cases e:i<W.length
    ·rw [gi_left e,gi_left (show i-1<_ by omega)]
     exact h4 i g1 e
    ·obtain rfl:i=W.length:=by omega
     rw [gi_right,gi_left (by omega)]
     exact ⟨h3.symm,fun h=>c h.symm⟩
   ·rw [hl,gi_right]
theorem sndL_folw {o:Org} {p:Pce} (h:PceK o p):Folw (fstB p) (endB p) (sndL p):=by
 have he:=h.ends
 rw [sndL_law h]
 obtain ⟨n,hn⟩:∃ n,(endB p-fstB p).toNat=n+1:=⟨(endB p-fstB p).toNat-1,by omega⟩
 rw [hn]
 have:=(lawW_folw (fstB p) (snd p) n).1
 rwa [show fstB p+((n+1:Nat):Int)=endB p by omega] at this
end Go.Proofs.YtnhdddmhkhdlhaaGreatDoor
namespace Go.Vm
open Go.Am
variable {E:Env} {L:Frame} {H:Heap} {nx:Nat} {Q:PV→Heap→Nat→Prop} {dst:Option Tmp} {ty:TypeId} {pos:String} {af:Array Edge} {gd:Option (Nat×Bool)} {w:Bool}
theorem VVal.remR {t t2:TypeId} {x y:Operand} {k:IntKind} {m c:Int} (n r:Nat) (hx:vev E.Γ L x=some (.p (.int k m))) (hy:vev E.Γ L y=some (.p (.int k c))) (hc:c=(n:Int)) (hn:0<n) (hr:m % (n:Int)=(r:Int)) (hm:0≤m) (q:Q (.p (.int k (r:Int))) H nx) :
 VVal E w ⟨dst,.binOp .rem t x y t2,ty,pos,af,gd⟩ L H nx Q:=VVal.remI hx hy hm (by omega) (by rw [hc,hr];exact q)
theorem VVal.remG {t t2:TypeId} {x y:Operand} {k:IntKind} {a c r:Int} (hx:vev E.Γ L x=some (.p (.int k a))) (hy:vev E.Γ L y=some (.p (.int k c))) (ha:0≤a) (hc:0<c) (hr:a % c=r) (q:Q (.p (.int k r)) H nx) :
 VVal E w ⟨dst,.binOp .rem t x y t2,ty,pos,af,gd⟩ L H nx Q:=VVal.remI hx hy ha hc (by rw [hr];exact q)
end Go.Vm
namespace Go.Proofs.YtnhdddmhkhdlhaaGreatDoor
open Go Go.Am Go.Vm Go.Pie
attribute [local irreducible] VVal VOps VOpsD VWp VCalls VFun VFunV QSeq QBlk QLoop Vm.Done DoneV DoneI
attribute [local irreducible] rchk windsE stoE dvsE cplE shiftR tailH
theorem sndL_notes {o:Org} {p:Pce} (h:PceK o p):∀ i,i<(sndL p).length→(gi (sndL p) i).notes.length≤1000:=by
 rw [sndL_law h]
 exact lawW_notes (fstB p) (snd p) (fun t=>Nat.le_trans (sndK_len p t _) h.notes) _
theorem sndL_len {o:Org} {p:Pce} (h:PceK o p):(sndL p).length≤100000:=by
 rw [sndL_law h]
 have:=(lawW_last (fstB p) (snd p) (endB p-fstB p).toNat).1
 have hb:=h.bars
 have hb0:=(h.bar 0 (by omega)).1
 have hb1:=(h.bar (p.bars.length-1) (by omega)).1
 have q0:0≤fstB p:=hb0.1
 have q1:endB p≤100000:=hb1.2
 omega
def twoI (a b:Int):List Int:=[a,b]
theorem pieceFollows_spec (x:PPl) (hx:x.Ok) (A B C:Nat) (hA:A<256) (hB:B<256) (hC:C<256):VFun env 8 [.agg x.enc,.agg [.int .u8 (A:Int),.int .u8 (B:Int)],.int .u8 (C:Int)] (.p (.bool true)):=by
 have hkn:=known_spec
 have hfit:=pfits_spec x hx
 by_cases hf:pfits x
 case neg =>
  rw [decide_eq_false hf] at hfit
  refine VFun.enter (env_none (by decide)) Tryz.func8 rfl (by kernel_rfl) (by simp [Tryz.ntmps8]) ?_
  repeat' (first|apply VWp.assoc|apply VWp.rseq|apply VWp.retSeq|apply VOps.nil|apply VOps.one|(apply VOps.take;rfl;rfl)|(apply VVal.fn;rfl;rfl;exact hkn;intro _;rfl)|(apply VVal.fn;rfl;rfl;exact hfit;intro _;rfl)|(apply VVal.assign;rfl)|(apply VVal.move;rfl)|(apply VVal.load;rfl;rfl)|(apply VVal.pick_false;rfl;rfl)|(apply VVal.box;rfl;trivial)|(apply VVal.not;rfl)|(apply VWp.condSeq_true;rfl))
  all_goals first|(exfalso;omega)|contradiction|(refine Done.ret rfl (.refl _) (by exact PV.under_of rfl) HCov.nil (Nat.zero_le _) (Nat.le_refl _) ⟨?_,rfl,rfl⟩;try rfl)
 rw [decide_eq_true hf] at hfit
 have hm:=make45_spec x hx hf
 have oT:=mkO_t x.org hx.org hf.1
 have pK:=mkP_k x hx hf
 have hE:=mkP_err x hx hf
 have hsl:(mkP x).sets.length<100:=by
  have:=stgK_len (mkO x.org) x.bars.length x.sets x.sets.length
  have h3:=hf.2.2.2
  show (stgK (mkO x.org) x.bars.length x.sets x.sets.length).length<_
  omega
 generalize mkO x.org=o at *
 generalize mkP x=p at *
 have oK:=oT.k
 have oS:=oK.sm
 have b2:=pK.bars
 have n1:=pK.notes
 obtain ⟨n,hn⟩:∃ n,n=p.bars.length-1:=⟨_,rfl⟩
 obtain ⟨f,hfe⟩:∃ f,f=A % n:=⟨_,rfl⟩
 have hfn:f<n:=by rw [hfe];exact Nat.mod_lt _ (by omega)
 obtain ⟨g,hge⟩:∃ g,g=B % (n-f):=⟨_,rfl⟩
 have hgn:g<n-f:=by rw [hge];exact Nat.mod_lt _ (by omega)
 obtain ⟨t,ht⟩:∃ t,t=f+1+g:=⟨_,rfl⟩
 have h1:f<t:=by omega
 have h2:t<p.bars.length:=by omega
 have hnI:(p.bars.length:Int)-1=(n:Int):=by omega
 have hnf:(p.bars.length:Int)-1-(f:Int)=((n-f:Nat):Int):=by omega
 have hfI:(A:Int) % (n:Int)=(f:Int):=by rw [hfe];rfl
 have hgI:(B:Int) % ((n-f:Nat):Int)=(g:Int):=by rw [hge];rfl
 have htI:(f:Int)+1+(g:Int)=(t:Int):=by omega
 have hft:=pK.lt h1 h2
 obtain ⟨r,hre⟩:∃ r,r=(C:Int) % (gi p.bars t-gi p.bars f):=⟨_,rfl⟩
 have hr0:0≤r:=by rw [hre];exact Int.emod_nonneg _ (by omega)
 have hr1:r<gi p.bars t-gi p.bars f:=by rw [hre];exact Int.emod_lt_of_pos _ (by omega)
 have hbf:=(pK.bar f (by omega)).1
 have hbt:=(pK.bar t (by omega)).1
 have hb0:=(pK.bar 0 (by omega)).1
 have cK:=cutP_k pK h1 h2 hsl
 have cE:pceE o (cutP p f t)=0:=by unfold pceE;rw [if_neg (fun h=>h oK.err)];exact cK.err
 have hcut:=Cut_spec oK hE pK f t h1 h2
 rw [← htI] at hcut
 have hall:=Cut_spec oK hE pK 0 (p.bars.length-1) (by omega) (by omega)
 rw [cutP_all pK,show ((p.bars.length-1:Nat):Int)=(p.bars.length:Int)-1 by omega] at hall
 have heq:=pequal_spec p p pK.sm pK.sm
 rw [decide_eq_true rfl] at heq
 have hl:=Slices_spec oS hE pK
 obtain ⟨fw1,fw2,fw3,fw4⟩:=sndL_folw pK
 have hN:=sndL_notes pK
 have hLl:=sndL_len pK
 have f0:fstB p=gi p.bars (nat_lit 0):=rfl
 have f1:endB p=gi p.bars n:=by rw [hn];rfl
 have tU:∀ k,k<2→gi p.bars f≤gi (twoI (gi p.bars f) (gi p.bars f+r)) k∧gi (twoI (gi p.bars f) (gi p.bars f+r)) k<gi p.bars t:=fun k hk=>by
  have:k=0∨k=1:=by omega
  rcases this with rfl|rfl
  ·show gi p.bars f≤gi p.bars f∧gi p.bars f<_
   omega
  ·show gi p.bars f≤gi p.bars f+r∧gi p.bars f+r<_
   omega
 have hat:∀ u,gi p.bars f≤u→u<gi p.bars t→atE o p u=0∧atE o (cutP p f t) u=0:=fun u q1 q2=>by
  have e1:=pK.le (i:=0) (j:=f) (by omega) (by omega)
  have e2:=pK.le (i:=t) (j:=n) (by omega) (by omega)
  have e3:fstB p=gi p.bars 0:=rfl
  constructor
  ·unfold atE;rw [if_neg (fun h=>h hE),if_neg (by omega)]
  ·unfold atE;rw [if_neg (fun h=>h cE),cutP_fst h1 h2,cutP_end h1 h2,if_neg (by omega)]
 have hKR:=fun u q1 q2=>keysR_cut o p (f:=f) (t:=t) (u:=u) q1 q2
 have hWR:=fun u q1 q2=>wanR_cut pK (f:=f) (t:=t) (u:=u) h1 h2 q1 q2
 have d1:=oK.divs
 have hrl:∀ u,(wanR o p u).stops.length<9223372036854775808:=fun u=>by
  have hwr:=wanK_rng p u p.sets.length
  rw [show wanK p u p.sets.length=wan p u from rfl] at hwr
  unfold wanR
  split
  ·show (List.replicate o.divs.length 0).length<_
   rw [List.length_replicate];omega
  ·exact (pK.sm.reg _ (by omega)).len
 have hkl:∀ u,(keysR o p u).length=o.divs.length:=fun u=>snocK_len _ _
 generalize sndL p=S at *
 have g0:(@gi Slc Enc.toInhabited S (Int.toNat 0)).s=gi p.bars (nat_lit 0):=fw2
 have g1:(@gi Slc Enc.toInhabited S (S.length-1)).e=gi p.bars n:=by rw [← f1];exact fw3
 have hS1:(S.length:Int)-1=((S.length-1:Nat):Int):=by omega
 generalize hc:cutP p f t=c at *
 refine VFun.enter (env_none (by decide)) Tryz.func8 rfl (by kernel_rfl) (by simp [Tryz.ntmps8]) ?_
 repeat' (first|apply VWp.assoc|apply VWp.rseq|apply VWp.rseqD|apply VWp.skipSeq|apply VWp.blockSeq|apply VOps.nil|apply VOpsD.nil|apply VOps.one|(apply VOpsD.bar;decide +kernel)|apply VOpsD.quiet|(apply VOps.take;rfl;rfl)|(apply VVal.fn;rfl;rfl;exact hkn;intro _;rfl)|(apply VVal.fn;rfl;rfl;exact hfit;intro _;rfl)|(apply VVal.fn;rfl;rfl;exact hm;intro _;rfl)|(apply VVal.fn;rfl;rfl;exact hcut;intro _;rfl)|(apply VVal.fn;rfl;rfl;exact hall;intro _;rfl)|(apply VVal.fn;rfl;rfl;exact heq;intro _;rfl)|(apply VVal.indexAB;rfl;rfl;rfl;rfl;rfl;decide)|(apply VVal.remR n f;rfl;rfl;exact hnI;omega;exact hfI;omega)|(apply VVal.remR (n-f) g;rfl;rfl;exact hnf;omega;exact hgI;omega)|(apply VVal.remG (r:=r);rfl;rfl;omega;omega;exact hre.symm)|(apply VVal.indexN (l:=p.bars) (i:=f);rfl;rfl;rfl;omega;rfl)|(apply VVal.indexN (l:=p.bars) (i:=t);rfl;exact congrArg (fun b=>some (PV.p (.int .i64 b))) htI;rfl;omega;rfl)|(apply VVal.assign;rfl)|(apply VVal.move;rfl)|(apply VVal.add64;rfl;rfl;omega)|(apply VVal.sub64;rfl;rfl;omega)|(apply VVal.int;rfl;rfl;rfl)|(apply VVal.load;rfl;rfl)|(apply VVal.pick_false;rfl;rfl)|(apply VVal.lenF;rfl;rfl)|(apply VVal.lenV;rfl;rfl;rfl)|(apply VVal.fieldB;rfl;rfl;rfl)|(apply VVal.box;rfl;trivial)|(apply VVal.alloc;rfl)|(apply VVal.storeB;rfl;rfl;rfl;trivial;rfl;rfl;exact lt_dec rfl;exact le_dec rfl)|(apply VVal.buildSlice;rfl;rfl;rfl;decide;rfl;rfl;rfl)|(apply VVal.not;rfl)|(apply VVal.extract;rfl;rfl)|(apply VVal.convI;rfl;rfl;rfl;rfl;omega)|(apply VWp.condSeq_false;rfl))
 all_goals try (exfalso;omega)
 all_goals try contradiction
 apply VWp.loopR (2) [(7,_),(8,_),(9,_),(12,_),(115,_),(116,_)] [(2,_),(3,_),(4,_),(6,_)] (fun k r=>(117,.p (.int .i64 (k:Int)))::r) (fun k r=>r) 7
 ·first|omega|decide
 ·first|omega|decide
 ·repeat (first|exact LCov.nil|(refine LCov.eq rfl ?_ ?_;(first|exact PV.under_of rfl|(simp [PV.under,PVs.under];done)))|refine LCov.cons trivial rfl (.of_eq (lst_len (by simp<;>omega))) ?_)
 ·repeat (first|exact HCov.nil|(refine HCov.eq rfl (lt_dec rfl) ?_ ?_;(first|exact HB.under_of rfl|exact PVs.under_pure _ _|(simp [HB.under,PVs.under,PV.under];done)))|(refine HCov.cons (lt_dec rfl) ?_ rfl ?_ ?_;(first|exact trivial|exact PVs.under_pure _ _|(simp [HB.under,PVs.under,PV.under]));(first|exact HLe.refl _|exact HLe.vec (FLes.refl _) (by simp))))
 ·intro k hk
  obtain ⟨u1,u2⟩:=tU k hk
  generalize hu:gi (twoI (gi p.bars f) (gi p.bars f+r)) k=u at *
  have e0:=hat u u1 u2
  have a1:=Keys_spec oK pK u e0.1
  have a2:=Keys_spec oK cK u e0.2
  have a3:=Wanted_spec oK pK u e0.1
  have a4:=Wanted_spec oK cK u e0.2
  rw [hKR u u1 u2] at a2
  rw [hWR u u1 u2] at a4
  have kl:=hkl u
  have rl:=hrl u
  generalize keysR o p u=KR at *
  generalize wanR o p u=W at *
  have a5:=seqNts KR KR (by omega) (by omega)
  have a6:=sameR_spec W W rl rl
  rw [decide_eq_true rfl] at a5 a6
  repeat' (first|apply VWp.rseq|apply VWp.region|apply VWp.skipSeq|apply VWp.blockSeq|apply QSeq.normal|apply QBlk.normal|apply VWp.skip|apply VOps.nil|apply VOps.one|(apply VOps.take;rfl;rfl)|(apply VVal.fn;rfl;rfl;exact a1;intro _;rfl)|(apply VVal.fn;rfl;rfl;exact a2;intro _;rfl)|(apply VVal.fn;rfl;rfl;exact a3;intro _;rfl)|(apply VVal.fn;rfl;rfl;exact a4;intro _;rfl)|(apply VVal.fn;rfl;rfl;exact a5;intro _;rfl)|(apply VVal.fn;rfl;rfl;exact a6;intro _;rfl)|(apply VVal.indexVN (l:=twoI (gi p.bars f) (gi p.bars f+r)) (i:=k);rfl;rfl;rfl;rfl;exact hk)|(apply VVal.loadVL (l:=twoI (gi p.bars f) (gi p.bars f+r)) (i:=k);rfl;rfl;exact hk;exact congrArg (fun b=>some (FV.int .i64 b)) hu)|(apply VVal.assign;rfl)|(apply VVal.move;rfl)|(apply VVal.add64;rfl;rfl;omega)|(apply VVal.int;rfl;rfl;rfl)|(apply VVal.load;rfl;rfl)|(apply VVal.pick_false;rfl;rfl)|(apply VVal.alloc;rfl)|(apply VVal.storeB;rfl;rfl;rfl;trivial;rfl;rfl;exact lt_dec rfl;exact le_dec rfl)|(apply VVal.not;rfl)|(apply VVal.extract;rfl;rfl)|(apply VWp.condSeq_dec;rfl)|(apply VWp.cond_false;rfl)|(intro _;try (exfalso;omega)))
  all_goals try (exfalso;omega)
  all_goals try contradiction
  refine QLoop.normal ⟨by first|omega|decide,?_,?_⟩
  ·repeat (first|exact LCov.nil|refine LCov.same (by exact PV.under_of rfl) rfl ?_|refine LCov.cons trivial rfl (.of_eq (lst_len (by simp<;>omega))) ?_)
  ·repeat (first|exact HCov.nil|(refine HCov.cons (lt_dec rfl) ?_ rfl ?_ ?_;(first|exact HB.under_of rfl|exact PVs.under_pure _ _|(simp [HB.under,PVs.under,PV.under]));(first|exact HLe.refl _|exact HLe.vec (FLes.refl _) (by simp))))
 ·have hSn:S.length≤100000:=hLl
  repeat' (first|apply VWp.assoc|apply VWp.rseq|apply VWp.rseqD|apply VWp.skipSeq|apply VWp.retSeq|apply VWp.exitSeq|apply VWp.blockSeq|apply QSeq.normal|apply QBlk.exit|apply QLoop.exit|apply VOps.nil|apply VOpsD.nil|apply VOps.one|(apply VOpsD.bar;decide +kernel)|(apply VOpsD.quietTake;rfl;rfl)|(apply VOpsD.drop;rfl;rfl;rfl)|(apply VOpsD.guard;rfl;rfl)|(apply VVal.fn;rfl;rfl;exact hl;intro _;rfl)|(apply VVal.indexN (l:=S) (i:=S.length-1);rfl;exact congrArg (fun b=>some (PV.p (.int .i64 b))) hS1;rfl;omega;rfl)|(apply VVal.indexN (l:=p.bars) (i:=n);rfl;exact congrArg (fun b=>some (PV.p (.int .i64 b))) hnI;rfl;omega;rfl)|(apply VVal.assign;rfl)|(apply VVal.move;rfl)|(apply VVal.sub64;rfl;rfl;omega)|(apply VVal.int;rfl;rfl;rfl)|(apply VVal.indexN;rfl;rfl;rfl;omega;rfl)|(apply VVal.indexE;rfl;rfl;rfl;omega;omega;rfl)|(apply VVal.load;rfl;rfl)|(apply VVal.pick_true;rfl;rfl)|(apply VVal.pick_false;rfl;rfl)|(apply VVal.lenF;rfl;rfl)|(apply VVal.fieldB;rfl;rfl;rfl)|(apply VVal.fieldF;rfl;rfl)|(apply VVal.extract;rfl;rfl)|(apply VWp.condSeq_true;rfl)|(apply VWp.condSeq_false;rfl)|(apply VWp.condSeq_dec;rfl)|(intro _;try (exfalso;omega)))
  all_goals try (exfalso;omega)
  all_goals try contradiction
  apply VWp.loopR (S.length-1) [(28,_)] [] (fun k r=>(30,.p (.int .i64 ((k+1:Nat):Int)))::r) (fun k r=>r) 4
  ·first|omega|decide
  ·first|omega|decide
  ·repeat (first|exact LCov.nil|(refine LCov.eq rfl ?_ ?_;(first|exact PV.under_of rfl|(simp [PV.under,PVs.under];done)))|refine LCov.cons trivial rfl (.of_eq (lst_len (by simp<;>omega))) ?_)
  ·repeat (first|exact HCov.nil|(refine HCov.eq rfl (lt_dec rfl) ?_ ?_;(first|exact HB.under_of rfl|exact PVs.under_pure _ _|(simp [HB.under,PVs.under,PV.under];done)))|(refine HCov.cons (lt_dec rfl) ?_ rfl ?_ ?_;(first|exact trivial|exact PVs.under_pure _ _|(simp [HB.under,PVs.under,PV.under]));(first|exact HLe.refl _|exact HLe.vec (FLes.refl _) (by simp))))
  ·intro k hk
   have q:=fw4 (k+1) (by omega) (by omega)
   have q1:(gi S (k+1)).s=(gi S k).e:=q.1
   have q2:(gi S (k+1)).notes≠(gi S k).notes:=q.2
   have m1:=hN (k+1) (by omega)
   have m2:=hN k (by omega)
   have a1:=seq_spec (gi S (k+1)).notes (gi S k).notes (by omega) (by omega)
   rw [decide_eq_false q2] at a1
   have hk1:((k+1:Nat):Int)-1=(k:Int):=by omega
   repeat' (first|apply VWp.assoc|apply VWp.rseq|apply VWp.rseqD|apply VWp.region|apply VWp.skipSeq|apply VWp.blockSeq|apply QSeq.normal|apply QBlk.normal|apply VWp.skip|apply VOps.nil|apply VOpsD.nil|apply VOps.one|(apply VOpsD.bar;decide +kernel)|apply VOpsD.quiet|(apply VOpsD.quietTake;rfl;rfl)|(apply VOpsD.guard;rfl;rfl)|(apply VVal.fn;rfl;rfl;exact a1;intro _;rfl)|(apply VVal.indexN (l:=S) (i:=k);rfl;exact congrArg (fun b=>some (PV.p (.int .i64 b))) hk1;rfl;omega;rfl)|(apply VVal.assign;rfl)|(apply VVal.move;rfl)|(apply VVal.add64;rfl;rfl;omega)|(apply VVal.sub64;rfl;rfl;omega)|(apply VVal.int;rfl;rfl;rfl)|(apply VVal.indexN;rfl;rfl;rfl;omega;rfl)|(apply VVal.load;rfl;rfl)|(apply VVal.pick_false;rfl;rfl)|(apply VVal.lenF;rfl;rfl)|(apply VVal.fieldF;rfl;rfl)|(apply VWp.condSeq_dec;rfl)|(apply VWp.cond_false;rfl)|(intro _;try (exfalso;omega)))
   all_goals try (exfalso;omega)
   all_goals try contradiction
   refine QLoop.normal ⟨by first|omega|decide,?_,?_⟩
   ·repeat (first|exact LCov.nil|refine LCov.same (by exact PV.under_of rfl) rfl ?_|refine LCov.cons trivial rfl (.of_eq (lst_len (by simp<;>omega))) ?_)
   ·repeat (first|exact HCov.nil|(refine HCov.cons (lt_dec rfl) ?_ rfl ?_ ?_;(first|exact HB.under_of rfl|exact PVs.under_pure _ _|(simp [HB.under,PVs.under,PV.under]));(first|exact HLe.refl _|exact HLe.vec (FLes.refl _) (by simp))))
  ·repeat' (first|apply VWp.assoc|apply VWp.rseq|apply VWp.exitSeq|apply QSeq.normal|apply QBlk.exit|apply QLoop.exit|apply VWp.ret|apply VOps.nil|apply VOps.one|(apply VVal.assign;rfl)|(apply VVal.move;rfl)|(apply VVal.int;rfl;rfl;rfl)|(apply VVal.lenF;rfl;rfl)|(apply VWp.condSeq_dec;rfl)|(intro _;try (exfalso;omega)))
   all_goals first|(exfalso;omega)|contradiction|(refine Done.ret rfl (.refl _) (by exact PV.under_of rfl) HCov.nil (Nat.zero_le _) (Nat.le_refl _) ⟨?_,rfl,rfl⟩;try rfl)
theorem has_u8x2 {j:Nat} {fs:List FV} (h:HasT Tryz.prog (j+2) 84 fs):∃ a b:Nat,fs=[.int .u8 (a:Int),.int .u8 (b:Int)]∧a<256∧b<256:=by
 obtain ⟨L,rfl,hl,hL⟩:=HasT.array h Tryz.underlying84
 obtain ⟨a,b,rfl⟩:∃ a b,L=[a,b]:=by
  match L,hl with
  |[a,b],_=>exact ⟨a,b,rfl⟩
 obtain ⟨x,rfl,q1⟩:=has_u8 (j:=j) (hL a (by simp))
 obtain ⟨y,rfl,q2⟩:=has_u8 (j:=j) (hL b (by simp))
 exact ⟨x,y,rfl,q1,q2⟩
end Go.Proofs.YtnhdddmhkhdlhaaGreatDoor
