/-
  Texts of a proof, merged (HanA, PieM, OrQd, PieR, HanB, HanC, HanD, HanE, HanF, Vm35, PieK). Conditions: in each statement.
-/
import Derived.Test.YtnjkoebfgcbbdaaGreatDoorKBl
set_option linter.unusedSimpArgs false
set_option linter.unusedVariables false
set_option linter.unusedSectionVars false
set_option maxRecDepth 100000
set_option maxHeartbeats 8000000
abbrev bd:=@Int.toNat_natCast
abbrev cP:=@List.nodup_cons
abbrev eV:=@List.Pairwise.map
abbrev gN:=@List.replicate_succ'
namespace Go.Proofs.YtnjkoebfgcbbdaaGreatDoor
open Go Go.Am Go.Vm Go.Pie
attribute [local irreducible] Aa Ai Ag Ad AO Ap Bc BK Bh Ah Vm.Done Bv AB
attribute [local irreducible] Ce Ba DX DJ En AZ CB
structure Zj where
 hn:Int
 hs:Int
 fn:Int
 fs:Int
instance:Enc Zj:={ default:=⟨0,0,0,0⟩,enc:=fun x=>[.int .i64 x.hn,.int .i64 x.hs,.int .i64 x.fn,.int .i64 x.fs],size:=4,len:=fun _=>rfl }
structure Zj.Ok (y:Zj):Prop where
 hn:0≤y.hn∧y.hn≤10
 fn:0≤y.fn∧y.fn≤10
 hs:0≤y.hs∧y.hs≤127
 fs:0≤y.fs∧y.fs≤127
noncomputable instance (y:Zj):Decidable y.Ok:=Classical.propDecidable _
def DT (s:Iq):List Int:=Ep s.lo s.hi
theorem Nb {p n:Nat}:n∈Gn p↔n<64∧p.testBit n=true:=by
 unfold Gn;simp
theorem Gz {s:Iq} {x:Int}:x∈DT s↔∃ n:Nat,n<128∧x=(n:Int)∧s.has n=true:=by
 unfold DT Ep;rw [bj,ba,ba];constructor
 ·rintro (⟨n,h,rfl⟩|⟨n,h,rfl⟩)
  ·obtain ⟨h1,h2⟩:=Nb.1 h
   exact ⟨n,by omega,rfl,by unfold Iq.has;grind⟩
  ·obtain ⟨h1,h2⟩:=Nb.1 h
   refine ⟨64+n,by omega,rfl,?_⟩;unfold Iq.has;grind
 ·rintro ⟨n,h1,rfl,h2⟩
  unfold Iq.has at h2;split at h2
  ·rename_i h;exact .inl ⟨n,Nb.2 ⟨h,h2⟩,rfl⟩
  ·rename_i h
   exact .inr ⟨n-64,Nb.2 ⟨by omega,h2⟩,by omega⟩
theorem iL (p:Nat):(Gn p).Pairwise (·<·):=List.Pairwise.filter _ List.pairwise_lt_range
theorem dQ (s:Iq):Inc (DT s):=by
 refine fp.2 ⟨?_,?_,?_⟩
 ·exact eV _ (fun a b h=>by omega) (iL _)
 ·exact eV _ (fun a b h=>by omega) (iL _)
 ·intro a ha b hb
  obtain ⟨n,h1,rfl⟩:=ba.1 ha;obtain ⟨k,h2,rfl⟩:=ba.1 hb;have:=(Nb.1 h1).1;omega
theorem uh (s:Iq):(DT s).length=(Gn s.lo).length+(Gn s.hi).length:=by simp [DT,Ep]
theorem YG (s:Iq):(DT s).length≤128:=by
 rw [uh];have:=KF s.lo;have:=KF s.hi;omega
theorem a3p {l:List Int} (h:Inc l):l.Nodup:=h.imp fun h=>by omega
theorem VH:∀ {l r:List Int},l.Nodup→(∀ x∈l,x∈r)→l.length≤r.length
 |[],_,_,_=>ao _
 |a::l,r,hn,h=>by
  obtain ⟨hn1,hn2⟩:=cP.1 hn;have h1:=VH (r:=r.erase a) hn2 fun x hx=>by
   grind
  grind
theorem N8 {l:List Int} (h:∀ i,i<l.length→0≤gi l i∧gi l i≤127) {x:Int}:x∈DT (dX l l.length)↔x∈l:=by
 rw [Gz];constructor
 ·rintro ⟨n,h1,rfl,h2⟩
  rw [lq h n h1 _ (ab _),cr] at h2;grind
 ·intro hx
  obtain ⟨i,hi,e⟩:=bR.1 hx;have hg:gi l i=x:=by unfold gi;grind
  have:=h i hi;refine ⟨x.toNat,by omega,by omega,?_⟩;rw [lq h _ (by omega) _ (ab _),cr];grind
theorem nU {l:List Int} (h:∀ i,i<l.length→0≤gi l i∧gi l i≤127) (hn:l.Nodup):(DT (dX l l.length)).length=l.length :=
 Nat.le_antisymm (VH (a3p (dQ _)) fun _ hx=>(N8 h).1 hx) (VH hn fun _ hx=>(N8 h).2 hx)
def wid (l:List Int):Int:=if l.length=0 then 0 else gi l (l.length-1)-gi l 0
theorem inc_le {l:List Int} (h:Inc l) {i j:Nat} (hij:i≤j) (hj:j<l.length):gi l i≤gi l j:=by
 rcases an i j with h1|h1
 ·have:=cT.1 h i j (by omega) hj h1
  unfold gi;grind
 grind
theorem a9p {l:List Int} (h:Inc l) {s:Int} (hs:0≤s):wid l≤s↔∀ x∈l,∀ y∈l,x-y≤s:=by
 unfold wid;split
 ·grind
 ·rename_i h0
  constructor
  ·intro hw x hx y hy
   obtain ⟨i,hi,rfl⟩:=bR.1 hx;obtain ⟨j,hj,rfl⟩:=bR.1 hy;have h1:=inc_le h (show i≤l.length-1 by omega) (by omega);have h2:=inc_le h (ao j) hj;have e1:gi l i=l[i]:=by unfold gi;grind
   have e2:gi l j=l[j]:=by unfold gi;grind
   omega
  ·intro hw
   exact hw _ (gi_mem' (by omega)) _ (gi_mem' (by omega))
end Go.Proofs.YtnjkoebfgcbbdaaGreatDoor
namespace Go.Vm
open Go.Am
variable {E:Env} {L:Frame} {H:Heap} {nx:Nat} {Q:PV→Heap→Nat→Prop} {dst:Option Tmp} {ty:TypeId} {pos:String} {af:Array Edge} {gd:Option (Nat×Bool)} {w:Bool}
theorem zf {a b:Nat} (h:a<2 ^ 64):a / b<2 ^ 64:=cq (gv _ _) h
theorem Aa.a1r {t t2:TypeId} {x y:Operand} {a b:Nat} (r:Nat) (hx:AU E.Γ L x=some (.p (.int .u64 (a:Int)))) (hy:AU E.Γ L y=some (.p (.int .u64 (b:Int)))) (he:a+b=r) (h:r<18446744073709551616) (q:Q (.p (.int .u64 (r:Int))) H nx) :
 Aa E w ⟨dst,.binOp .add t x y t2,ty,pos,af,gd⟩ L H nx Q:=Aa.b0o hx hy (by omega) (by grind)
theorem Aa.a6d {t t2:TypeId} {x y:Operand} {a b:Nat} (r:Nat) (hx:AU E.Γ L x=some (.p (.int .u64 (a:Int)))) (hy:AU E.Γ L y=some (.p (.int .u64 (b:Int)))) (he:a &&& b=r) (h:a<2 ^ 64) (h2:b<2 ^ 64) (q:Q (.p (.int .u64 (r:Int))) H nx) :
 Aa E w ⟨dst,.binOp .and t x y t2,ty,pos,af,gd⟩ L H nx Q:=Aa.b9d hx hy h h2 (by grind)
end Go.Vm
namespace Go.Proofs.YtnjkoebfgcbbdaaGreatDoor
open Go Go.Am Go.Vm Go.Pie
attribute [local irreducible] Aa Ai Ag Ad AO Ap Bc BK Bh Ah Vm.Done Bv AB
theorem iQ (x:Nat) (hx:x<18446744073709551616):Ap env 112 [.int .u64 (x:Int)] (.p (.int .i64 (((Gn x).length:Nat):Int))):=by
 obtain ⟨g1,g2,g3⟩:=(Pop.qw hx).2;have h1:=b3r hx;obtain ⟨A,hA⟩:∃ A,A=Pop.swA x:=⟨_,rfl⟩
 obtain ⟨B,hB⟩:∃ B,B=Pop.swB A:=⟨_,rfl⟩
 obtain ⟨C,hC⟩:∃ C,C=Pop.swC B:=⟨_,rfl⟩
 obtain ⟨D,hD⟩:∃ D,D=Pop.swD C:=⟨_,rfl⟩
 obtain ⟨F,hF⟩:∃ F,F=Pop.swE D:=⟨_,rfl⟩
 obtain ⟨G,hG⟩:∃ G,G=Pop.swF F:=⟨_,rfl⟩
 rw [← hA] at g1 g2 g3;rw [← hB] at g1 g3;rw [← hC] at g1;have m1:∀ a b:Nat,b<18446744073709551616→a &&& b<18446744073709551616:=fun a b h=>cq Nat.and_le_right h
 obtain ⟨a1,p1⟩:∃ a1,x / 2 ^ 1 &&& 6148914691236517205=a1:=⟨_,rfl⟩
 obtain ⟨a2,p2⟩:∃ a2,x &&& 6148914691236517205=a2:=⟨_,rfl⟩
 obtain ⟨b1,p3⟩:∃ b1,A / 2 ^ 2 &&& 3689348814741910323=b1:=⟨_,rfl⟩
 obtain ⟨b2,p4⟩:∃ b2,A &&& 3689348814741910323=b2:=⟨_,rfl⟩
 obtain ⟨c1,p5⟩:∃ c1,B / 2 ^ 4+B=c1:=⟨_,rfl⟩
 have e1:a1+a2=A:=by rw [← p1,← p2];exact hA.symm
 have e2:b1+b2=B:=by rw [← p3,← p4];exact hB.symm
 have e3:c1 &&& 1085102592571150095=C:=by rw [← p5];exact hC.symm
 have e4:C+C / 2 ^ 8=D:=hD.symm;have e5:D+D / 2 ^ 16=F:=hF.symm;have e6:F+F / 2 ^ 32=G:=hG.symm;have e7:G &&& 127=(Gn x).length:=by rw [← h1];unfold Pop.sw;rw [← hA,← hB,← hC,← hD,← hF,← hG]
 clear hA hB hC hD hF hG h1;obtain ⟨Z,hZ⟩:∃ Z,Z=(Gn x).length:=⟨_,rfl⟩
 rw [← hZ] at e7 ⊢;have e8:PV.p (.int .i64 ((G &&& 127:Nat):Int))=PV.p (.int .i64 (Z:Int)):=by rw [e7]
 refine Ap.enter (Af (by decide)) Tryz.func112 rfl (by kernel_rfl) (by simp [Tryz.ntmps112]) ?_
 repeat' (first|(apply Aa.a6d a1;rfl;rfl;exact p1;exact zf (by omega);exact Bj rfl)|(apply Aa.a6d a2;rfl;rfl;exact p2;omega;exact Bj rfl)|(apply Aa.a6d b1;rfl;rfl;exact p3;exact zf (by omega);exact Bj rfl)|(apply Aa.a6d b2;rfl;rfl;exact p4;omega;exact Bj rfl)|(apply Aa.c2d;rfl;rfl;exact ⟨by omega,Bj rfl⟩)|(apply Aa.a1r c1;rfl;rfl;exact p5;omega)|(apply Aa.a1r A;rfl;rfl;exact e1;omega)|(apply Aa.a1r B;rfl;rfl;exact e2;omega)|(apply Aa.a1r D;rfl;rfl;exact e4;omega)|(apply Aa.a1r F;rfl;rfl;exact e5;omega)|(apply Aa.a1r G;rfl;rfl;exact e6;omega)|(apply Aa.a6d C;rfl;rfl;exact e3;omega;exact Bj rfl)|refine go1 ?_|(apply Aa.Ia;rfl;rfl;rfl;rfl;omega)|(apply Aa.fH;rfl;rfl;(simp only [IntKind.bits];omega)))
 all_goals first|(exfalso;omega)|((refine Done.rt rfl rfl ⟨?_,rfl,rfl⟩;try rfl);exact e8;done)|(refine Done.rt rfl rfl ⟨?_,rfl,rfl⟩;try rfl)
theorem yL (s:Iq) (hs:s.Ok):Ap env 67 [.agg (Enc.enc s)] (.p (.int .i64 (((DT s).length:Nat):Int))):=by
 have h1:=iQ s.lo hs.lo;have h2:=iQ s.hi hs.hi;have b1:=KF s.lo;have b2:=KF s.hi;rw [uh];refine Ap.enter (Af (by decide)) Tryz.func67 rfl (by kernel_rfl) (by simp [Tryz.ntmps67]) ?_
 repeat' (first|(apply Aa.fn;rfl;rfl;exact h1;intro _;rfl)|(apply Aa.fn;rfl;rfl;exact h2;intro _;rfl)|refine Ij ?_|fail)
 all_goals first|(exfalso;omega)|(refine Done.rt rfl rfl ⟨?_,rfl,rfl⟩;try rfl)
theorem Y7 (l:List Int) (hl:l.length≤128) (h:∀ x∈l,0≤x∧x≤127):Ap env 106 [.lst 3 (cells l) l.length] (.p (.int .i64 (wid l))):=by
 unfold wid;by_cases h0:l.length=0
 ·rw [if_pos h0]
  refine Ap.enter (Af (by decide)) Tryz.func106 rfl (by kernel_rfl) (by simp [Tryz.ntmps106]) ?_
  repeat' (first|refine Eu ?_|(apply Ad.Ac;rfl)|(intro _;try (exfalso;omega)))
  all_goals first|(exfalso;omega)|(refine Done.rt rfl rfl ⟨?_,rfl,rfl⟩;try rfl)
 ·rw [if_neg h0]
  have h1:=h _ (gi_mem' (show l.length-1<l.length by omega));have h2:=h _ (gi_mem' (show 0<l.length by omega));have hn:(l.length:Int)-1=((l.length-1:Nat):Int):=by omega
  have hz:@gi Int Enc.toInhabited l (nat_lit 0)=gi l 0:=rfl;refine Ap.enter (Af (by decide)) Tryz.func106 rfl (by kernel_rfl) (by simp [Tryz.ntmps106]) ?_
  repeat' (first|(apply Aa.Aj (l:=l) (i:=l.length-1);rfl;exact congrArg (fun b=>some (PV.p (.int .i64 b))) hn;rfl;omega;rfl)|(apply Aa.Aj (l:=l) (i:=0);rfl;rfl;rfl;omega;rfl)|refine Ij ?_|(apply Aa.int;rfl;rfl;rfl)|(apply Ad.Ac;rfl)|(intro _;try (exfalso;omega)))
  all_goals first|(exfalso;omega)|(refine Done.rt rfl rfl ⟨?_,rfl,rfl⟩;try rfl)
def VJ (y:Zj) (l:List Int):Prop:=(l.length:Int)≤y.hn∧wid l≤y.hs
instance (y:Zj) (l:List Int):Decidable (VJ y l):=inferInstanceAs (Decidable (_∧_))
theorem a6e (y:Zj) (l:List Int) (hl:l.length≤128) (h:∀ x∈l,0≤x∧x≤127):Ap env 60 [.agg (Enc.enc y),.lst 3 (cells l) l.length] (.p (.bool (decide (VJ y l)))):=by
 have hw:=Y7 l hl h;by_cases h1:(l.length:Int)≤y.hn;all_goals by_cases h2:wid l≤y.hs
 all_goals first|rw [decide_eq_true (p:=VJ y l) ⟨h1,h2⟩]|rw [decide_eq_false (p:=VJ y l) (fun h=>h1 h.1)]|rw [decide_eq_false (p:=VJ y l) (fun h=>h2 h.2)]
 all_goals generalize wid l=W at *
 all_goals
  refine Ap.enter (Af (by decide)) Tryz.func60 rfl (by kernel_rfl) (by simp [Tryz.ntmps60]) ?_
 all_goals
  repeat' (first|(apply Aa.fn;rfl;rfl;exact hw;intro _;rfl)|refine fP ?_|(apply Ag.guard;rfl;rfl)|(apply Aa.int;rfl;rfl;rfl)|(intro _;try (exfalso;omega)))
 all_goals first|(exfalso;omega)|(refine Done.rt rfl rfl ⟨?_,rfl,rfl⟩;try rfl)
 all_goals first|exact PV.Je (decide_eq_true (by omega))|exact PV.Je (decide_eq_false (by omega))|exact PV.Je (by simp;omega)
attribute [local irreducible] Ce Ba DX DJ En AZ CB
structure Sd8 where
 st:Nat
 lg:Nat
 dv:Nat
 ky:Nat
instance:Enc Sd8:={ default:=⟨0,0,0,0⟩,enc:=fun x=>[.int .u8 (x.st:Int),.int .u8 (x.lg:Int),.int .u8 (x.dv:Int),.int .u8 (x.ky:Int)],size:=4,len:=fun _=>rfl }
structure Mrk where
 bar:Nat
 b:Nat→Nat
instance:Enc Mrk:={ default:=⟨0,fun _=>0⟩,enc:=fun x=>[.int .u8 (x.bar:Int),.int .u8 (x.b 0:Int),.int .u8 (x.b 1:Int),.int .u8 (x.b 2:Int),.int .u8 (x.b 3:Int),.int .u8 (x.b 4:Int)],size:=6,len:=fun _=>rfl }
structure dW where
 org:OPl
 bars:List UInt8
 notes:List Sd8
 sets:List Mrk
def dW.enc (x:dW):List FV:=[.lst 226 (cells x.org.ranks) x.org.ranks.length,.lst 211 (cells x.org.Ae) x.org.Ae.length,.lst 234 (cells x.org.links) x.org.links.length,
 .lst 5 (cells x.bars) x.bars.length,.lst 170 (cells x.notes) x.notes.length,.lst 176 (cells x.sets) x.sets.length]
structure dW.Ok (x:dW):Prop where
 org:x.org.Ok
 nb:x.bars.length<9223372036854775808
 nn:x.notes.length<9223372036854775808
 ns:x.sets.length<9223372036854775808
 notes:∀ i,i<x.notes.length→(gi x.notes i).st<256∧(gi x.notes i).lg<256∧(gi x.notes i).dv<256∧(gi x.notes i).ky<256
 sets:∀ i,i<x.sets.length→(gi x.sets i).bar<256∧∀ j,(gi x.sets i).b j<256
def OY (x:dW):Prop:=ZX x.org∧(0<x.bars.length∧x.bars.length≤4)∧x.notes.length≤8∧x.sets.length≤3
noncomputable instance (x:dW):Decidable (OY x):=Classical.propDecidable _
theorem xG (x:dW) (hx:x.Ok):Ap env 14 [.agg x.enc] (.p (.bool (decide (OY x)))):=by
 have h1:=a1z x.org hx.org;have b1:=hx.nb;have b2:=hx.nn;have b3:=hx.ns;by_cases c1:ZX x.org
 ·rw [decide_eq_true c1] at h1
  by_cases c2:(0<x.bars.length∧x.bars.length≤4)∧x.notes.length≤8∧x.sets.length≤3
  ·rw [decide_eq_true (p:=OY x) ⟨c1,c2⟩]
   refine Ap.enter (Af (by decide)) Tryz.func14 rfl (by kernel_rfl) (by simp [Tryz.ntmps14]) ?_
   repeat' (first|(apply Aa.fn;rfl;rfl;exact h1;intro _;rfl)|refine Ij ?_|(apply Ai.guard;rfl;rfl)|(apply Aa.int;rfl;rfl;rfl)|(intro _;try (exfalso;omega)))
   all_goals first|(exfalso;omega)|contradiction|(refine Done.rt rfl rfl ⟨?_,rfl,rfl⟩;try rfl)
   all_goals exact PV.Je (by simp;omega)
  ·rw [decide_eq_false (p:=OY x) (fun h=>c2 h.2)]
   refine Ap.enter (Af (by decide)) Tryz.func14 rfl (by kernel_rfl) (by simp [Tryz.ntmps14]) ?_
   repeat' (first|(apply Aa.fn;rfl;rfl;exact h1;intro _;rfl)|refine Ij ?_|(apply Ai.guard;rfl;rfl)|(apply Aa.int;rfl;rfl;rfl)|(intro _;try (exfalso;omega)))
   all_goals first|(exfalso;omega)|contradiction|(refine Done.rt rfl rfl ⟨?_,rfl,rfl⟩;try rfl)
   all_goals exact PV.Je (by simp;omega)
 ·rw [decide_eq_false c1] at h1
  rw [decide_eq_false (p:=OY x) (fun h=>c1 h.1)];refine Ap.enter (Af (by decide)) Tryz.func14 rfl (by kernel_rfl) (by simp [Tryz.ntmps14]) ?_
  repeat' (first|(apply Aa.fn;rfl;rfl;exact h1;intro _;rfl)|refine Ij ?_|fail)
  all_goals first|(exfalso;omega)|contradiction|(refine Done.rt rfl rfl ⟨?_,rfl,rfl⟩;try rfl)
def bM (l:List UInt8):Nat→Int
 |0=>0
 |i+1=>bM l i+1+((gi l i).toNat:Int) % 6
theorem kW (l:List UInt8):∀ i:Nat,(i:Int)≤bM l i∧bM l i≤6*i
 |0=>by simp [bM]
 |i+1=>by
  have:=kW l i;unfold bM;omega
def ntP (o:Ic) (z:Int) (y:Sd8):LH :=
 ⟨(y.st:Int) % z,min z ((y.st:Int) % z+1+(y.lg:Int) % 8),(y.dv:Int) % (o.Ae.length:Int),
  (gi o.Ae ((y.dv:Int) % (o.Ae.length:Int)).toNat).lo+(y.ky:Int) % ((gi o.Ae ((y.dv:Int) % (o.Ae.length:Int)).toNat).hi-(gi o.Ae ((y.dv:Int) % (o.Ae.length:Int)).toNat).lo+1)⟩
def Hz (o:Ic) (z:Int) (l:List Sd8):Nat→List LH
 |0=>[]
 |k+1=>if (Hz o z l k).any (fun m=>jo m (ntP o z (gi l k)))=true then Hz o z l k else Hz o z l k++[ntP o z (gi l k)]
theorem QJ (o:Ic) (z:Int) (l:List Sd8):∀ k,(Hz o z l k).length≤k
 |0=>ab _
 |k+1=>by
  have:=QJ o z l k;unfold Hz;grind
def OI (nb:Nat) (l:List Mrk):Nat→Int
 |0=>-1
 |k+1=>if ((gi l k).bar:Int) % (nb:Int)>OI nb l k then ((gi l k).bar:Int) % (nb:Int) else OI nb l k
noncomputable def Ji (o:Ic) (nb:Nat) (l:List Mrk):Nat→List yP
 |0=>[]
 |k+1=>if ((gi l k).bar:Int) % (nb:Int)>OI nb l k then Ji o nb l k++[⟨((gi l k).bar:Int) % (nb:Int),Qs o (gi l k).b⟩] else Ji o nb l k
theorem Ux (o:Ic) (nb:Nat) (l:List Mrk):∀ k,(Ji o nb l k).length≤k
 |0=>ab _
 |k+1=>by
  have:=Ux o nb l k;unfold Ji;grind
noncomputable def c1c (o:Ic) (x:dW):Fv:=⟨Bz (bM x.bars) (x.bars.length+1),Hz o (bM x.bars x.bars.length) x.notes x.notes.length,Ji o x.bars.length x.sets x.sets.length⟩
noncomputable def mkP (x:dW):Fv:=c1c (Zh x.org) x
theorem a5d (a b:LH):Ap env 73 [.agg (Enc.enc a),.agg (Enc.enc b)] (.p (.bool (jo a b))):=by
 unfold jo;by_cases h1:a.d=b.d
 case neg =>
  rw [decide_eq_false h1,dt];refine Ap.enter (Af (by decide)) Tryz.func73 rfl (by kernel_rfl) (by simp [Tryz.ntmps73]) ?_
  repeat' (first|refine Eu ?_|(apply Ai.guard;rfl;rfl)|(intro _;try (exfalso;omega)))
  all_goals first|(exfalso;omega)|contradiction|(refine Done.rt rfl rfl ⟨?_,rfl,rfl⟩;try rfl)
 by_cases h2:a.k=b.k
 case neg =>
  rw [decide_eq_true h1,decide_eq_false h2,dt,cy];refine Ap.enter (Af (by decide)) Tryz.func73 rfl (by kernel_rfl) (by simp [Tryz.ntmps73]) ?_
  repeat' (first|refine Eu ?_|(apply Ai.guard;rfl;rfl)|(intro _;try (exfalso;omega)))
  all_goals first|(exfalso;omega)|contradiction|(refine Done.rt rfl rfl ⟨?_,rfl,rfl⟩;try rfl)
 by_cases h3:a.s<b.e
 case neg =>
  rw [decide_eq_true h1,decide_eq_true h2,decide_eq_false h3,dt,cy];refine Ap.enter (Af (by decide)) Tryz.func73 rfl (by kernel_rfl) (by simp [Tryz.ntmps73]) ?_
  repeat' (first|refine Eu ?_|(apply Ai.guard;rfl;rfl)|(intro _;try (exfalso;omega)))
  all_goals first|(exfalso;omega)|contradiction|(refine Done.rt rfl rfl ⟨?_,rfl,rfl⟩;try rfl)
 rw [decide_eq_true h1,decide_eq_true h2,decide_eq_true h3,cy,cy,cy];refine Ap.enter (Af (by decide)) Tryz.func73 rfl (by kernel_rfl) (by simp [Tryz.ntmps73]) ?_
 repeat' (first|refine Eu ?_|(apply Ai.guard;rfl;rfl)|(intro _;try (exfalso;omega)))
 all_goals first|(exfalso;omega)|contradiction|(refine Done.rt rfl rfl ⟨?_,rfl,rfl⟩;try rfl)
theorem uZ (n m:LH):ER env 72 ([.p (.agg (Enc.enc m))]++[.ref 0 0]) [(0,a4r n)] 1 (.bool (jo m n)):=by
 have h:=a5d m n;refine ER.enter (Af (by decide)) Tryz.func72 rfl (by kernel_rfl) (by simp) ?_
 repeat' (first|(apply Aa.fn;rfl;rfl;exact h;intro _;rfl)|refine go1 ?_|fail)
 all_goals first|(exfalso;omega)|(refine Done.ret rfl (.refl _) trivial ?_ (by omega) (ab _) ⟨?_,rfl,rfl⟩;exact DR;try rfl)
theorem rG (x:dW) (hx:x.Ok) (hf:OY x):Ap env 29 [.agg x.enc] (.Eb [.p (.agg (Enc.enc (Zh x.org))),.p (.agg (Enc.enc (mkP x)))]):=by
 obtain ⟨f1,f2,f3,f4⟩:=hf;have hm:=qM x.org hx.org f1;have hT:=oz x.org hx.org f1;have hdr:=fun i (hi:i<x.sets.length)=>vZ (Zh x.org) hT (gi x.sets i).b (hx.sets i hi).2
 have hbr:=kW x.bars;unfold mkP c1c;generalize Zh x.org=o at *;have d1:=hT.Ae;have hsl:(Bz (bM x.bars) (x.bars.length+1)).length=x.bars.length+1:=Cm _ _;refine Ap.enter (Af (by decide)) Tryz.func29 rfl (by kernel_rfl) (by simp [Tryz.ntmps29]) ?_
 repeat' (first|(apply Aa.fn;rfl;rfl;exact hm;intro _;rfl)|refine go1 ?_|(apply Aa.build;rfl;rfl;rfl;rfl;rfl)|(apply Aa.buildSlice;rfl;rfl;rfl;decide;rfl;rfl;rfl))
 all_goals try (exfalso;omega)
 apply Ad.F5 (x.bars.length) [(1,_),(2,_),(3,_),(4,_),(5,_),(24,_),(25,_)] [(0,_),(1,_),(2,_),(3,_)] (fun k r=>(26,.p (.int .i64 (k:Int)))::r) (fun k r=>(4,.vec 3 (cells (Bz (bM x.bars) (k+1))) (Bz (bM x.bars) (k+1)).length false)::(5,.box 32 [.vec 4 (Bz (bM x.bars) (k+1)).length 0 (Bz (bM x.bars) (k+1)).length,.p (.val (.slice none 0 0)),.p (.val (.slice none 0 0))])::r) 6
 ·first|omega|decide
 ·first|omega|decide
 ·exact NI
 ·exact Px
 ·intro k hk
  have hl:(Bz (bM x.bars) (k+1)).length=k+1:=Cm _ _;have hg:gi (Bz (bM x.bars) (k+1)) k=bM x.bars k:=DW _ (by omega);have hb:=hbr k;have hu:=(gi x.bars k).toNat_lt;have e1:Bz (bM x.bars) (k+1+1)=Bz (bM x.bars) (k+1)++[bM x.bars k+1+((gi x.bars k).toNat:Int) % 6]:=rfl;have e2:(Bz (bM x.bars) (k+1+1)).length=(Bz (bM x.bars) (k+1)).length+1:=by rw [e1];simp
  repeat' (first|(apply Aa.Qj;rfl;rfl;(first|omega|(simp only [List.length_set]<;>omega));exact congrArg (fun b=>some (FV.int .i64 b)) (hg))|(apply Aa.CW (a:=(bM x.bars k+1+((gi x.bars k).toNat:Int) % 6));rfl;rfl;rfl;rfl;rfl;rfl;rfl;rfl;(intro _ h;cases h);rfl;rfl;rfl;decide;decide;(first|omega|(simp only [List.length_take,List.length_drop,List.length_append,List.length_singleton,List.length_cons,List.length_nil]<;>omega)))|(apply Aa.Aj;rfl;rfl;rfl;omega;rfl)|(apply Aa.D5;rfl;rfl;rfl;rfl;omega)|refine fP ?_|(apply Aa.int;rfl;rfl;rfl)|(apply Aa.buildSlice;rfl;rfl;rfl;decide;rfl;rfl;rfl)|(apply Aa.Ia;rfl;rfl;rfl;rfl;omega)|(apply Ad.Ac;rfl)|(intro _;try (exfalso;omega)))
  all_goals try (exfalso;omega)
  refine Ah.normal ⟨by first|omega|decide,?_,?_⟩
  ·try (rw [e2,e1])
   exact C9
  ·rw [e2,e1]
   exact DR
 ·have hg:gi (Bz (bM x.bars) (x.bars.length+1)) x.bars.length=bM x.bars x.bars.length:=DW _ (by omega)
  have hb:=hbr x.bars.length;have hlc:((Bz (bM x.bars) (x.bars.length+1)).length:Int)-1=(x.bars.length:Int):=by omega
  repeat' (first|(apply Aa.Qj;rfl;rfl;(first|omega|(simp only [List.length_set]<;>omega));exact congrArg (fun b=>some (FV.int .i64 b)) (hg))|(apply Aa.D5 (l:=Bz (bM x.bars) (x.bars.length+1)) (i:=x.bars.length);rfl;rfl;exact congrArg (fun b=>some (PV.p (.int .i64 b))) hlc;rfl;omega)|(apply Aa.lenV;rfl;rfl;rfl)|refine Ij ?_|(apply Aa.int;rfl;rfl;rfl)|(apply Ad.Ac;rfl)|(intro _;try (exfalso;omega)))
  all_goals try (exfalso;omega)
  refine Ad.ghost (Aw.EW 5 1 39 rfl rfl) ?_;refine Ad.ghost (Aw.EW 5 2 182 rfl rfl) ?_;obtain ⟨z,hz⟩:∃ z,z=bM x.bars x.bars.length:=⟨_,rfl⟩
  rw [← hz] at hb ⊢;apply Ad.F5 (x.notes.length) [(1,_),(2,_),(3,_),(4,_),(5,_),(8,_),(56,_),(57,_)] [(0,_),(1,_),(2,_),(3,_),(4,_),(7,_)] (fun k r=>(58,.p (.int .i64 (k:Int)))::r) (fun k r=>(6,.vec 39 (cells (Hz o z x.notes k)) (Hz o z x.notes k).length true)::(5,.box 32 [.vec 4 (Bz (bM x.bars) (x.bars.length+1)).length 0 (Bz (bM x.bars) (x.bars.length+1)).length,.vec 6 (Hz o z x.notes k).length 0 (Hz o z x.notes k).length,.vec 7 0 0 0])::r) 8
  ·first|omega|decide
  ·first|omega|decide
  ·exact NI
  ·exact Px
  ·intro k hk
   have hl2:=QJ o z x.notes k;obtain ⟨y1,y2,y3,y4⟩:=hx.notes k hk;have hd0:0≤((gi x.notes k).dv:Int) % (o.Ae.length:Int):=bB _ (by omega);have hd1:((gi x.notes k).dv:Int) % (o.Ae.length:Int)<(o.Ae.length:Int):=bx _ (by omega);have hdv:=hT.dv (((gi x.notes k).dv:Int) % (o.Ae.length:Int)).toNat (by omega);have hs0:0≤((gi x.notes k).st:Int) % z:=bB _ (by omega);have hs1:((gi x.notes k).st:Int) % z<z:=bx _ (by omega);have hk0:0≤((gi x.notes k).ky:Int) % ((gi o.Ae (((gi x.notes k).dv:Int) % (o.Ae.length:Int)).toNat).hi-(gi o.Ae (((gi x.notes k).dv:Int) % (o.Ae.length:Int)).toNat).lo+1):=bB _ (by omega);have hk1:((gi x.notes k).ky:Int) % ((gi o.Ae (((gi x.notes k).dv:Int) % (o.Ae.length:Int)).toNat).hi-(gi o.Ae (((gi x.notes k).dv:Int) % (o.Ae.length:Int)).toNat).lo+1)<(gi o.Ae (((gi x.notes k).dv:Int) % (o.Ae.length:Int)).toNat).hi-(gi o.Ae (((gi x.notes k).dv:Int) % (o.Ae.length:Int)).toNat).lo+1:=bx _ (by omega);have hany:=zB 72 (ntP o z (gi x.notes k)) (Hz o z x.notes k) true (fun m=>jo m (ntP o z (gi x.notes k))) (by omega) (fun m=>uZ (ntP o z (gi x.notes k)) m);have e1:Hz o z x.notes (k+1)=if (Hz o z x.notes k).any (fun m=>jo m (ntP o z (gi x.notes k)))=true then Hz o z x.notes k else Hz o z x.notes k++[ntP o z (gi x.notes k)]:=rfl
   by_cases hb:(Hz o z x.notes k).any (fun m=>jo m (ntP o z (gi x.notes k)))=true
   ·rw [if_pos hb] at e1
    rw [hb] at hany
    repeat' (first|(apply Aa.read [10,6] hany;rfl;rfl;exact .of_eq rfl;exact CU.Az rfl;exact Di rfl;(repeat (first|exact trivial|refine ⟨⟨_,rfl,.of_eq rfl⟩,?_⟩));decide;(intro _ hb;simp at hb<;>omega);rfl)|(apply Aa.makeFunc;rfl;rfl)|(apply Aa.Aj;rfl;rfl;rfl;omega;rfl)|(apply Aa.MK;rfl;rfl;rfl;omega;omega;rfl)|refine Ij ?_|(apply Aa.int;rfl;rfl;rfl)|(apply Aa.build;rfl;rfl;rfl;rfl;rfl)|(apply Aa.a6k;rfl;rfl)|(apply Aa.Ia;rfl;rfl;rfl;rfl;omega)|(apply Ad.Ac;rfl)|(apply Ad.cond_false;rfl)|(intro _;try (exfalso;omega)))
    all_goals try (exfalso;omega)
    refine Ah.normal ⟨by first|omega|decide,?_,?_⟩
    ·try (rw [e1])
     exact C9
    ·rw [e1]
     exact DR
   ·rw [if_neg hb] at e1
    have hb':(Hz o z x.notes k).any (fun m=>jo m (ntP o z (gi x.notes k)))=false:=by simpa using hb
    rw [hb'] at hany;have e2:(Hz o z x.notes (k+1)).length=(Hz o z x.notes k).length+1:=by rw [e1];simp
    repeat' (first|(apply Aa.read [10,6] hany;rfl;rfl;exact .of_eq rfl;exact CU.Az rfl;exact Di rfl;(repeat (first|exact trivial|refine ⟨⟨_,rfl,.of_eq rfl⟩,?_⟩));decide;(intro _ hb;simp at hb<;>omega);rfl)|(apply Aa.makeFunc;rfl;rfl)|(apply Aa.CW (a:=ntP o z (gi x.notes k));rfl;rfl;rfl;rfl;rfl;rfl;rfl;rfl;(intro _ h;cases h);rfl;rfl;rfl;decide;decide;(first|omega|(simp only [List.length_take,List.length_drop,List.length_append,List.length_singleton,List.length_cons,List.length_nil]<;>omega)))|(apply Aa.Aj;rfl;rfl;rfl;omega;rfl)|(apply Aa.MK;rfl;rfl;rfl;omega;omega;rfl)|refine Ij ?_|(apply Aa.int;rfl;rfl;rfl)|(apply Aa.build;rfl;rfl;rfl;rfl;rfl)|(apply Aa.buildSlice;rfl;rfl;rfl;decide;rfl;rfl;rfl)|(apply Aa.a6k;rfl;rfl)|(apply Aa.Ia;rfl;rfl;rfl;rfl;omega)|(apply Ad.Ac;rfl)|(apply Ad.cond_true;rfl)|(intro _;try (exfalso;omega)))
    all_goals try (exfalso;omega)
    refine Ah.normal ⟨by first|omega|decide,?_,?_⟩
    ·try (rw [e2,e1])
     exact C9
    ·rw [e2,e1]
     exact DR
  ·have hl2:=QJ o z x.notes x.notes.length
   repeat' (first|refine Eu ?_|(apply Ad.Ac;rfl)|(intro _;try (exfalso;omega)))
   all_goals try (exfalso;omega)
   apply Ad.F5 (x.sets.length) [(1,_),(2,_),(3,_),(4,_),(5,_),(119,_),(120,_)] [(0,_),(1,_),(2,_),(3,_),(4,_),(6,_)] (fun k r=>(121,.p (.int .i64 (k:Int)))::(14,.p (.int .i64 (OI x.bars.length x.sets k)))::r) (fun k r=>(7,.vec 182 (cells (Ji o x.bars.length x.sets k)) (Ji o x.bars.length x.sets k).length true)::(5,.box 32 [.vec 4 (Bz (bM x.bars) (x.bars.length+1)).length 0 (Bz (bM x.bars) (x.bars.length+1)).length,.vec 6 (Hz o z x.notes x.notes.length).length 0 (Hz o z x.notes x.notes.length).length,.vec 7 (Ji o x.bars.length x.sets k).length 0 (Ji o x.bars.length x.sets k).length])::r) 8
   ·first|omega|decide
   ·first|omega|decide
   ·exact NI
   ·exact Px
   ·intro k hk
    have hl3:=Ux o x.bars.length x.sets k;have hy:=(hx.sets k hk).1;have hdk:=hdr k hk;have hb0:0≤((gi x.sets k).bar:Int) % (x.bars.length:Int):=bB _ (by omega);have hb1:((gi x.sets k).bar:Int) % (x.bars.length:Int)<(x.bars.length:Int):=bx _ (by omega);have e1:Ji o x.bars.length x.sets (k+1)=if ((gi x.sets k).bar:Int) % (x.bars.length:Int)>OI x.bars.length x.sets k then Ji o x.bars.length x.sets k++[⟨((gi x.sets k).bar:Int) % (x.bars.length:Int),Qs o (gi x.sets k).b⟩] else Ji o x.bars.length x.sets k:=rfl
    have e3:OI x.bars.length x.sets (k+1)=if ((gi x.sets k).bar:Int) % (x.bars.length:Int)>OI x.bars.length x.sets k then ((gi x.sets k).bar:Int) % (x.bars.length:Int) else OI x.bars.length x.sets k:=rfl
    by_cases hc:((gi x.sets k).bar:Int) % (x.bars.length:Int)>OI x.bars.length x.sets k
    ·rw [if_pos hc] at e1 e3
     have e2:(Ji o x.bars.length x.sets (k+1)).length=(Ji o x.bars.length x.sets k).length+1:=by rw [e1];simp
     repeat' (first|(apply Aa.fn;rfl;rfl;exact hdk;intro _;rfl)|(apply Aa.CW (a:=(⟨((gi x.sets k).bar:Int) % (x.bars.length:Int),Qs o (gi x.sets k).b⟩:yP));rfl;rfl;rfl;rfl;rfl;rfl;rfl;rfl;(intro _ h;cases h);rfl;rfl;rfl;decide;decide;(first|omega|(simp only [List.length_take,List.length_drop,List.length_append,List.length_singleton,List.length_cons,List.length_nil]<;>omega)))|(apply Aa.Aj;rfl;rfl;rfl;omega;rfl)|refine fP ?_|(apply Aa.int;rfl;rfl;rfl)|(apply Aa.build;rfl;rfl;rfl;rfl;rfl)|(apply Aa.buildSlice;rfl;rfl;rfl;decide;rfl;rfl;rfl)|(apply Aa.Ia;rfl;rfl;rfl;rfl;omega)|(apply Ad.Ac;rfl)|(apply Ad.Aq;rfl)|(intro _;try (exfalso;omega)))
     all_goals try (exfalso;omega)
     refine Ah.normal ⟨by first|omega|decide,?_,?_⟩
     ·try (first|rw [e2,e1]|rw [e3])
      exact C9
     ·first|rw [e2,e1]|rw [e3]
      exact DR
    ·rw [if_neg hc] at e1 e3
     repeat' (first|(apply Aa.Aj;rfl;rfl;rfl;omega;rfl)|refine Eu ?_|(apply Aa.Ia;rfl;rfl;rfl;rfl;omega)|(apply Ad.Ac;rfl)|(apply Ad.Aq;rfl)|(intro _;try (exfalso;omega)))
     all_goals try (exfalso;omega)
     refine Ah.normal ⟨by first|omega|decide,?_,?_⟩
     ·try (first|rw [e1]|rw [e3])
      exact C9
     ·first|rw [e1]|rw [e3]
      exact DR
   ·have hl3:=Ux o x.bars.length x.sets x.sets.length
    have hsl':(Bz (bM x.bars) (x.bars.length+1)).length=x.bars.length+1:=hsl
    repeat' (first|(refine Ad.at 27 ?_;refine Ad.ghost (Aw.trans (Aw.Dn 5 0 rfl rfl rfl) (Aw.trans (Aw.Dn 5 1 rfl rfl rfl) (Aw.Dn 5 2 rfl rfl rfl))) ?_;first|apply Ad.BD|apply Ad.Cj)|(refine Ag.atIdx 2 ?_;apply Ag.weak [.tmp 5];decide +kernel;rfl;rfl;(first|exact NG.ref rfl|exact NG.vec rfl|exact NG.Fj rfl);decide +kernel;rfl)|apply Ad.BD|apply Ad.Fa|apply BK.normal|apply Bh.exit|apply Ah.exit|apply Ad.ret|apply Ai.nil|apply Ag.nil|apply Ai.one|(apply Ag.bar;decide +kernel)|apply Ag.quiet|(apply Aa.int;rfl;rfl;rfl)|(apply Aa.load;rfl;rfl)|(apply Aa.FT;rfl;rfl;rfl;trivial;rfl;rfl;exact Bj rfl;exact le_dec rfl)|(apply Ad.Ac;rfl)|(intro _;try (exfalso;omega)))
    all_goals first|(exfalso;omega)|(refine Done.rt rfl rfl ⟨?_,rfl,rfl⟩;try rfl)
end Go.Proofs.YtnjkoebfgcbbdaaGreatDoor
namespace Go.Proofs.YtnjkoebfgcbbdaaGreatDoor
open Go Go.Am Go.Vm
theorem ZG (x n:Nat):(x &&& (2 ^ n-1)) / 2 ^ n=0 :=by simp
theorem a1v (o:Ic) (ho:xH o) (b:Nat→Nat) (hb:∀ i,b i<256):(Qs o b).Ok:=by
 have r2:=ho.Ae;have l:=Cm (He o b) o.Ae.length;refine ⟨fun i hi=>?_,?_,?_,?_⟩
 ·have hi:i<(Bz (He o b) o.Ae.length).length:=hi
  rw [l] at hi;show gi (Bz (He o b) o.Ae.length) i<_;rw [DW _ hi];have:=hb (i % 3);have:He o b i≤b (i % 3):=fi;omega
 ·have:=hb 3
  have:b 3 &&& (2 ^ o.I8.length-1)≤b 3:=fi;show b 3 &&& (2 ^ o.I8.length-1)<_;omega
 ·have:=hb 4
  have:b 4 &&& (2 ^ o.Ae.length-1)≤b 4:=fi;show b 4 &&& (2 ^ o.Ae.length-1)<_;omega
 ·show (Bz (He o b) o.Ae.length).length<_
  omega
theorem xO (o:Ic) (b:Nat→Nat):VQ o (Qs o b)=0:=by
 have l:=Cm (He o b) o.Ae.length;rw [iE (show (Bz (He o b) o.Ae.length).length=_ from l) fun i hi=>?_]
 ·rw [if_neg]
  intro h;rcases h with h|h
  ·exact h (ZG _ _)
  ·exact h (ZG _ _)
 ·have hi:i<(Bz (He o b) o.Ae.length).length:=hi
  rw [l] at hi;show gi (Bz (He o b) o.Ae.length) i / _=0;rw [DW _ hi];exact ZG _ _
open Go.Pie
attribute [local irreducible] Ce Ba DX DJ En AZ CB
structure NtR (o:Ic) (z:Int) (n:LH):Prop where
 d:0≤n.d∧n.d<o.Ae.length
 k:(gi o.Ae n.d.toNat).lo≤n.k∧n.k≤(gi o.Ae n.d.toNat).hi
 r:0≤n.s∧n.s<n.e∧n.e≤z
theorem c1f {o:Ic} (ho:xH o) {z:Int} (hz:0<z) (y:Sd8):NtR o z (ntP o z y):=by
 have hd:=ho.Ae;have e1:=bB (y.dv:Int) (show (o.Ae.length:Int)≠0 by omega);have e2:=bx (y.dv:Int) (show 0<(o.Ae.length:Int) by omega);have e3:=bB (y.st:Int) (show z≠0 by omega);have e4:=bx (y.st:Int) hz;have hv:=ho.dv ((y.dv:Int) % (o.Ae.length:Int)).toNat (by omega);refine ⟨⟨e1,e2⟩,?_,?_⟩
 ·show (gi o.Ae ((y.dv:Int) % (o.Ae.length:Int)).toNat).lo≤(gi o.Ae ((y.dv:Int) % (o.Ae.length:Int)).toNat).lo+(y.ky:Int) % ((gi o.Ae ((y.dv:Int) % (o.Ae.length:Int)).toNat).hi-(gi o.Ae ((y.dv:Int) % (o.Ae.length:Int)).toNat).lo+1)∧(gi o.Ae ((y.dv:Int) % (o.Ae.length:Int)).toNat).lo+(y.ky:Int) % ((gi o.Ae ((y.dv:Int) % (o.Ae.length:Int)).toNat).hi-(gi o.Ae ((y.dv:Int) % (o.Ae.length:Int)).toNat).lo+1)≤(gi o.Ae ((y.dv:Int) % (o.Ae.length:Int)).toNat).hi
  generalize gi o.Ae ((y.dv:Int) % (o.Ae.length:Int)).toNat=D at *;have e5:=bB (y.ky:Int) (show D.hi-D.lo+1≠0 by omega);have e6:=bx (y.ky:Int) (show 0<D.hi-D.lo+1 by omega);omega
 ·show 0≤(y.st:Int) % z∧(y.st:Int) % z<min z ((y.st:Int) % z+1+(y.lg:Int) % 8)∧min z ((y.st:Int) % z+1+(y.lg:Int) % 8)≤z
  omega
theorem a9h {o:Ic} (ho:xH o) {z:Int} (hz:0<z) (l:List Sd8):∀ k,∀ i,i<(Hz o z l k).length→NtR o z (gi (Hz o z l k) i)∧∀ j,j<i→jo (gi (Hz o z l k) j) (gi (Hz o z l k) i)=false
 |0,i,hi=>by contradiction
 |k+1,i,hi=>by
  have ih:=a9h ho hz l k;unfold Hz at hi ⊢;split at hi
  ·grind
  ·rename_i h1
   rw [if_neg h1];rw [ar] at hi;have hi':i<(Hz o z l k).length+1:=hi;by_cases e:i<(Hz o z l k).length
   ·obtain ⟨q1,q2⟩:=ih i e
    rw [Ie,if_pos e];refine ⟨q1,fun j hj=>?_⟩;rw [Ie,if_pos (by omega)];grind
   ·obtain rfl:i=(Hz o z l k).length:=by omega
    rw [Ie,if_neg (by omega),if_pos rfl];refine ⟨c1f ho hz _,fun j hj=>?_⟩;rw [Ie,if_pos hj];have h2:=(dM (l:=Hz o z l k) (f:=fun m=>jo m (ntP o z (gi l k))) (i:=(Hz o z l k).length) (ab _)).1 (by grind);grind
theorem rU {nb:Nat} (h:0<nb) (l:List Mrk):∀ k,-1≤OI nb l k∧OI nb l k<nb
 |0=>by simp only [OI];omega
 |k+1=>by
  have:=rU h l k;have e2:=bx ((gi l k).bar:Int) (show 0<(nb:Int) by omega);unfold OI;split<;>omega
theorem b0u (o:Ic) {nb:Nat} (h:0<nb) (l:List Mrk):∀ k,k≤l.length→∀ i,i<(Ji o nb l k).length→(0≤(gi (Ji o nb l k) i).bar∧(gi (Ji o nb l k) i).bar≤OI nb l k) ∧
 (0<i→(gi (Ji o nb l k) (i-1)).bar<(gi (Ji o nb l k) i).bar)∧∃ m,m<l.length∧(gi (Ji o nb l k) i).reg=Qs o (gi l m).b
 |0,_,i,hi=>by contradiction
 |k+1,hk,i,hi=>by
  have ih:=b0u o h l k (by omega);have e1:=bB ((gi l k).bar:Int) (show (nb:Int)≠0 by omega);have q1:Ji o nb l (k+1)=if ((gi l k).bar:Int) % (nb:Int)>OI nb l k then Ji o nb l k++[⟨((gi l k).bar:Int) % (nb:Int),Qs o (gi l k).b⟩] else Ji o nb l k:=rfl
  have q2:OI nb l (k+1)=if ((gi l k).bar:Int) % (nb:Int)>OI nb l k then ((gi l k).bar:Int) % (nb:Int) else OI nb l k:=rfl
  rw [q1] at hi;rw [q1,q2];by_cases h1:((gi l k).bar:Int) % (nb:Int)>OI nb l k
  ·rw [if_pos h1] at hi
   rw [if_pos h1,if_pos h1];rw [ar] at hi;have hi':i<(Ji o nb l k).length+1:=hi;by_cases e:i<(Ji o nb l k).length
   ·obtain ⟨q1,q2,q3⟩:=ih i e
    rw [Ie,if_pos e];refine ⟨by omega,fun h0=>?_,q3⟩;rw [Ie,if_pos (by omega)];exact q2 h0
   ·obtain rfl:i=(Ji o nb l k).length:=by omega
    rw [Ie,if_neg (by omega),if_pos rfl];refine ⟨⟨e1,bb _⟩,fun h0=>?_,k,by omega,rfl⟩;rw [Ie,if_pos (by omega)];have:=(ih ((Ji o nb l k).length-1) (by omega)).1;show _<((gi l k).bar:Int) % (nb:Int);omega
  ·rw [if_neg h1] at hi
   rw [if_neg h1,if_neg h1];exact ih i hi
theorem Us (x:dW) {i:Nat} (h:i≤x.bars.length):gi (mkP x).bars i=bM x.bars i:=DW _ (by omega)
theorem qX (x:dW):(mkP x).bars.length=x.bars.length+1:=Cm _ _
theorem b1x (x:dW):Pq (mkP x)=0:=Us x (ao _)
theorem b4o (x:dW):Qm (mkP x)=bM x.bars x.bars.length:=by
 unfold Qm;rw [qX];exact Us x (by omega)
theorem b2u (l:List UInt8) (i:Nat):bM l i<bM l (i+1):=by
 show _<bM l i+1+((gi l i).toNat:Int) % 6;omega
theorem b6g (x:dW) (hx:x.Ok) (hf:OY x):xk (Zh x.org) (mkP x):=by
 have ho:=oz x.org hx.org hf.1;obtain ⟨_,⟨f1,f2⟩,f3,f4⟩:=hf;have hz:0<bM x.bars x.bars.length:=by have:=(kW x.bars x.bars.length).1;omega
 have hN:=a9h ho hz x.notes x.notes.length;have lN:=QJ (Zh x.org) (bM x.bars x.bars.length) x.notes x.notes.length;have hS:=b0u (Zh x.org) f1 x.sets x.sets.length (ab _);have lS:=Ux (Zh x.org) x.bars.length x.sets x.sets.length;have hl:=rU f1 x.sets x.sets.length;have eN:(mkP x).notes=Hz (Zh x.org) (bM x.bars x.bars.length) x.notes x.notes.length:=rfl;have eS:(mkP x).sets=Ji (Zh x.org) x.bars.length x.sets x.sets.length:=rfl;have eL:=qX x;refine zJ ⟨by omega,by grind,by grind,fun i hi=>?_⟩ (by omega) (fun i hi=>?_) (by grind) (fun i hi=>?_) (by grind) fun i hi=>?_
 ·rw [eS] at hi ⊢
  obtain ⟨_,_,m,hm,e⟩:=hS i hi;rw [e];exact a1v _ ho _ (hx.sets m hm).2
 ·rw [Us x (by omega)]
  have:=kW x.bars i;refine ⟨by omega,fun h0=>?_⟩;rw [Us x (by omega)];have:=b2u x.bars (i-1)
  rwa [show i-1+1=i by omega] at this
 ·obtain ⟨⟨q1,q2,q3⟩,q4⟩:=hN i (by rw [← eN];exact hi)
  exact ⟨q1,q2,by rw [b1x,b4o];exact q3,q4⟩
 ·rw [eS] at hi ⊢
  obtain ⟨q1,q2,m,_,e⟩:=hS i hi;refine ⟨by omega,q2,?_⟩;rw [e];exact xO _ _
theorem b1i (x:dW) (hx:x.Ok) (hf:OY x):Yi (Zh x.org) (mkP x)=0:=by
 unfold Yi;rw [if_neg (fun h=>h (oz x.org hx.org hf.1).ok)];exact (b6g x hx hf).err
attribute [local irreducible] Aa Ai Ag Ad AO Ap Bc BK Bh Ah Vm.Done Bv AB
structure Qu where
 o:Ic
 p:Fv
 y:Zj
instance:Enc Qu:={ default:=⟨default,default,default⟩,enc:=fun x=>Enc.enc x.o++(Enc.enc x.p++Enc.enc x.y),size:=11,len:=fun x=>by rw [ar,ar,Enc.len,Enc.len,Enc.len];rfl }
structure IK (q:Qu):Prop where
 o:a4q q.o
 e:Yi q.o q.p=0
 p:xk q.o q.p
 y:q.y.Ok
def Ed (q:Qu) (i:Nat):Bool:=(gi q.o.Ae (gi q.p.notes i).d.toNat).QK
def YP (q:Qu) (N:List Int):Prop:=∀ i,i<N.length→0≤gi N i∧gi N i<q.p.notes.length
theorem Tj (q:Qu) (hq:IK q) (i:Nat) (hi:i<q.p.notes.length):ER env 85 ([.p (.agg (Enc.enc q)),.p (.int .i64 (i:Int))]++[]) [] 0 (.bool (Ed q i)):=by
 have hN:=hq.p.note i hi;obtain ⟨j,hj⟩:∃ j:Nat,(gi q.p.notes i).d=(j:Int):=⟨(gi q.p.notes i).d.toNat,by have:=hN.d;omega⟩
 have hjn:j<q.o.Ae.length:=by have:=hN.d;omega
 have hb:Ed q i=(gi q.o.Ae j).QK:=by unfold Ed;grind
 rw [hb];refine ER.enter (Af (by decide)) Tryz.func85 rfl (by kernel_rfl) (by simp) ?_
 repeat' (first|(apply Aa.Aj (l:=q.p.notes) (i:=i);rfl;rfl;rfl;omega;rfl)|(apply Aa.Aj (l:=q.o.Ae) (i:=j);rfl;exact congrArg (fun b=>some (PV.p (.int .i64 b))) hj;rfl;omega;rfl)|refine Ij ?_|fail)
 all_goals first|(exfalso;omega)|(refine Done.ret rfl (.refl _) trivial ?_ (by omega) (ab _) ⟨?_,rfl,rfl⟩;exact DR;try rfl)
def hasB (l:List Int) (h:Int) (i:Nat):Bool:=decide (gi l i=h)
def lhB (l:List Int) (h:Int):Heap:=[(0,.box 28 [.p (.lst 3 (cells l) l.length)]),(1,.box 3 [.p (.int .i64 h)])]
theorem vX (l:List Int) (h:Int) (i:Nat) (hi:i<l.length):ER env 124 ([.p (.int .i64 (i:Int))]++[.ref 0 0,.ref 1 0]) (lhB l h) 2 (.bool (hasB l h i)):=by
 unfold lhB hasB;refine ER.enter (Af (by decide)) Tryz.func124 rfl (by kernel_rfl) (by simp [Tryz.ntmps124]) ?_
 repeat' (first|(apply Aa.Aj;rfl;rfl;rfl;omega;rfl)|refine Eu ?_|fail)
 all_goals first|(exfalso;omega)|(refine Done.ret rfl (.refl _) trivial ?_ (by omega) (ab _) ⟨?_,rfl,rfl⟩;exact DR;try rfl)
def Yh (p:Fv) (N:List Int) (is:Nat→Bool) (d:Nat):Nat→List Int
 |0=>[]
 |k+1=>if is (gi N k).toNat=true∧(gi p.notes (gi N k).toNat).d=(d:Int) then Yh p N is d k++[(gi p.notes (gi N k).toNat).k] else Yh p N is d k
theorem Gu (p:Fv) (N:List Int) (is:Nat→Bool) (d k:Nat):Yh p N is d (k+1)=if is (gi N k).toNat=true∧(gi p.notes (gi N k).toNat).d=(d:Int) then Yh p N is d k++[(gi p.notes (gi N k).toNat).k] else Yh p N is d k:=rfl
def dU (p:Fv) (N:List Int) (is:Nat→Bool) (k d:Nat):Iq:=dX (Yh p N is d k) (Yh p N is d k).length
theorem ofK_left' (l:List Int) (x:Int):∀ k,k≤l.length→dX (l++[x]) k=dX l k
 |0,_=>rfl
 |k+1,h=>by
  show Gf (dX (l++[x]) k) (gi (l++[x]) k).toNat=Gf (dX l k) (gi l k).toNat;rw [ofK_left' l x k (by omega),Q8 (by omega)]
theorem ofK_snoc' (l:List Int) (x:Int):dX (l++[x]) (l++[x]).length=Gf (dX l l.length) x.toNat:=by
 rw [ar];show Gf (dX (l++[x]) l.length) (gi (l++[x]) l.length).toNat=_;rw [ofK_left' l x _ (ab _),Uw]
theorem qK (p:Fv) (N:List Int) (is:Nat→Bool) (k d:Nat):dU p N is (k+1) d=if is (gi N k).toNat=true∧(gi p.notes (gi N k).toNat).d=(d:Int) then Gf (dU p N is k d) (gi p.notes (gi N k).toNat).k.toNat else dU p N is k d:=by
 unfold dU;rw [Gu];split
 ·exact ofK_snoc' _ _
 ·rfl
theorem ZI (p:Fv) (N:List Int) (is:Nat→Bool):∀ n,List.replicate n (⟨0,0⟩:Iq)=Bz (dU p N is 0) n
 |0=>rfl
 |n+1=>by
  rw [gN,ZI p N is n];rfl
theorem zM {p:Fv} {N:List Int} {is:Nat→Bool} {k n j:Nat} (hj:j<n) (hi:is (gi N k).toNat=true) (h:(gi p.notes (gi N k).toNat).d=(j:Int)):(Bz (dU p N is k) n).set j (Gf (gi (Bz (dU p N is k) n) j) (gi p.notes (gi N k).toNat).k.toNat)=Bz (dU p N is (k+1)) n:=by
 refine JF (by rw [cL,Cm,Cm]) fun i hi'=>?_
 rw [cL,Cm] at hi';rw [GI,DW _ hi',DW _ hi',DW _ hj,Cm,qK];grind
theorem uz {p:Fv} {N:List Int} {is:Nat→Bool} {k n:Nat} (hi:is (gi N k).toNat=false):Bz (dU p N is (k+1)) n=Bz (dU p N is k) n:=P8 fun d _=>by
 rw [qK,if_neg (fun h=>by grind)]
theorem Ro {q:Qu} (hq:IK q) {N:List Int} (hN:YP q N) {is:Nat→Bool} {d:Nat}:∀ k,k≤N.length→∀ i,i<(Yh q.p N is d k).length→0≤gi (Yh q.p N is d k) i∧gi (Yh q.p N is d k) i≤127
 |0,_,i,hi=>absurd hi (aM _)
 |k+1,hk,i,hi=>by
  have ih:=Ro hq hN (is:=is) (d:=d) k (by omega);rw [Gu] at hi ⊢;split
  ·rename_i c
   rw [if_pos c,ar] at hi;have hi:i<(Yh q.p N is d k).length+1:=hi;by_cases e:i<(Yh q.p N is d k).length
   ·rw [Q8 e];grind
   ·obtain rfl:i=(Yh q.p N is d k).length:=by omega
    rw [Uw];have hn:=hN k (by omega);have hh:=hq.p.note (gi N k).toNat (by omega);have h1:=hq.o.cmp (i:=(gi q.p.notes (gi N k).toNat).d.toNat) (by have:=hh.d;omega);have:=hh.k;omega
  grind
theorem ql (a:Iq) (n:Nat):dS a (Gf ⟨0,0⟩ n)=Gf a n:=by
 unfold dS Gf;split<;>simp
def UQ (q:Qu) (N:List Int) (is:Nat→Bool):List Iq:=Bz (dU q.p N is N.length) q.o.Ae.length
theorem wJ (q:Qu) (hq:IK q) (N:List Int) (hN:YP q N) (hNl:N.length≤1000):ER env 62 [.p (.agg (Enc.enc q)),.p (.lst 3 (cells N) N.length),.clo 85 [.p (.agg (Enc.enc q))] []] [] 0 (.lst 84 (cells (UQ q N (Ed q))) (UQ q N (Ed q)).length):=by
 have his:=fun m hm=>Tj q hq m hm
 generalize hIs:Ed q=is at *;have n1:=hq.p.notes;have d1:=hq.o.Ae;have hV0:=ZI q.p N is q.o.Ae.length;have hKl:(UQ q N is).length=q.o.Ae.length:=Cm _ _;rw [hKl];unfold UQ;refine ER.enter (Af (by decide)) Tryz.func62 rfl (by kernel_rfl) (by simp [Tryz.ntmps62]) ?_
 repeat' (first|(apply Aa.NY q.o.Ae.length (⟨0,0⟩:Iq);rfl;rfl;rfl;rfl;rfl;rfl;rfl;omega;decide;decide;rfl)|refine go1 ?_|fail)
 all_goals try (exfalso;omega)
 rw [hV0];apply Ad.F5 (N.length) [(2,_),(3,_),(7,_),(18,_),(19,_)] [(0,_)] (fun k r=>(20,.p (.int .i64 (k:Int)))::r) (fun k r=>(1,.vec 84 (cells (Bz (dU q.p N is k) q.o.Ae.length)) q.o.Ae.length false)::r) 2
 ·first|omega|decide
 ·first|omega|decide
 ·exact NI
 ·exact Px
 ·intro k hk
  obtain ⟨g1,g2⟩:=hN k hk;obtain ⟨m,hm⟩:∃ m:Nat,gi N k=(m:Int):=⟨(gi N k).toNat,by omega⟩
  have hm2:m<q.p.notes.length:=by omega
  have hc:=his m hm2;rw [← hm] at hc;cases hi:is m with
  |false =>
   have e1:=uz (p:=q.p) (N:=N) (is:=is) (k:=k) (n:=q.o.Ae.length) (by rw [hm,bd];exact hi);rw [hi] at hc
   repeat' (first|(apply Aa.read [] hc;rfl;rfl;exact .of_eq rfl;exact CU.Az rfl;exact Di rfl;(repeat (first|exact trivial|refine ⟨⟨_,rfl,.of_eq rfl⟩,?_⟩));decide;(intro _ hb;simp at hb<;>omega);rfl)|(apply Aa.Aj;rfl;rfl;rfl;omega;rfl)|refine go1 ?_|(apply Aa.int;rfl;rfl;rfl)|(apply Ad.Ac;rfl)|(apply Ad.cond_false;rfl)|(intro _;try (exfalso;omega)))
   all_goals try (exfalso;omega)
   all_goals try contradiction
   refine Ah.normal ⟨by first|omega|decide,?_,?_⟩
   ·try (rw [e1])
    exact C9
   ·rw [e1]
    exact DR
  |true =>
   have hNt:=hq.p.note m hm2;obtain ⟨j,hj⟩:∃ j:Nat,(gi q.p.notes m).d=(j:Int):=⟨(gi q.p.notes m).d.toNat,by have:=hNt.d;omega⟩
   have hjn:j<q.o.Ae.length:=by have:=hNt.d;omega
   have hcm:=hq.o.cmp (i:=j) hjn;have hk2:=hNt.k;rw [hj,bd] at hk2;obtain ⟨z,hz⟩:∃ z:Nat,(gi q.p.notes m).k=(z:Int):=⟨(gi q.p.notes m).k.toNat,by omega⟩
   have hz2:z<128:=by omega
   have e1:=zM (p:=q.p) (N:=N) (is:=is) (k:=k) hjn (by rw [hm,bd];exact hi) (by rw [hm,bd];exact hj);rw [hm,bd,hz,bd,← ql] at e1;have hsl:(Bz (dU q.p N is k) q.o.Ae.length).length=q.o.Ae.length:=Cm _ _;have hok:(gi (Bz (dU q.p N is k) q.o.Ae.length) j).Ok:=by
    rw [DW _ hjn];exact ah (Ro hq hN k (by omega)) _ (ab _)
   have hof:=qc [(gi q.p.notes m).k] (by simp) (fun i hi=>by
    have:i=0:=by simpa using hi
    subst this;show 0≤(gi q.p.notes m).k∧(gi q.p.notes m).k≤127;omega)
   have hoe:dX [(gi q.p.notes m).k] [(gi q.p.notes m).k].length=Gf ⟨0,0⟩ z:=by
    show Gf ⟨0,0⟩ ((gi q.p.notes m).k).toNat=_;rw [hz,bd]
   rw [hoe] at hof;have hun:=QE (gi (Bz (dU q.p N is k) q.o.Ae.length) j) (Gf ⟨0,0⟩ z) hok (Zo Vs hz2);rw [hi] at hc;generalize Bz (dU q.p N is k) q.o.Ae.length=V at *;generalize hW:(Gf ⟨0,0⟩ z:Iq)=W at *
   repeat' (first|(refine Ai.IL 37 ?_;refine Ai.ghost (Aw.freeze 36 rfl rfl) ?_)|apply Ad.BD|apply Ad.region|apply Ad.Fz|apply Ad.FN|apply Ad.E8|apply BK.normal|apply Bh.normal|apply Ai.nil|apply Ag.nil|apply Ai.one|(apply Ag.bar;decide +kernel)|apply Ag.quiet|(apply Aa.read [] hc;rfl;rfl;exact .of_eq rfl;exact CU.Az rfl;exact Di rfl;(repeat (first|exact trivial|refine ⟨⟨_,rfl,.of_eq rfl⟩,?_⟩));decide;(intro _ hb;simp at hb<;>omega);rfl)|(apply Aa.fn;rfl;rfl;exact hof;intro _;rfl)|(apply Aa.fn;rfl;rfl;exact hun;intro _;rfl)|(apply Aa.Aj (l:=q.p.notes) (i:=m);rfl;exact congrArg (fun b=>some (PV.p (.int .i64 b))) hm;rfl;omega;rfl)|(apply Aa.D5 (l:=V) (i:=j);rfl;rfl;exact congrArg (fun b=>some (PV.p (.int .i64 b))) hj;rfl;omega)|(apply Aa.Qj (l:=V) (i:=j);rfl;rfl;omega;rfl)|(apply Aa.KC (l:=V) (i:=j) (y:=dS (gi V j) W);rfl;rfl;rfl;trivial;rfl;rfl;rfl;decide;omega)|(apply Aa.assign;rfl)|(apply Aa.move;rfl)|(apply Aa.Nl;rfl;rfl;omega)|(apply Aa.int;rfl;rfl;rfl)|(apply Aa.Aj;rfl;rfl;rfl;omega;rfl)|(apply Aa.load;rfl;rfl)|(apply Aa.Ih;rfl;rfl;rfl)|(apply Aa.alloc;rfl)|(apply Aa.FT;rfl;rfl;rfl;trivial;rfl;rfl;exact Bj rfl;exact le_dec rfl)|(apply Aa.buildSlice;rfl;rfl;rfl;decide;rfl;rfl;rfl)|(apply Aa.extract;rfl;rfl)|(apply Ad.Ac;rfl)|(apply Ad.cond_true;rfl)|(intro _;try (exfalso;omega)))
   all_goals try (exfalso;omega)
   all_goals try contradiction
   refine Ah.normal ⟨by first|omega|decide,?_,?_⟩
   ·try (rw [← e1])
    exact C9
   ·rw [← e1]
    exact DR
 ·repeat' (first|(refine Ad.at 10 ?_;refine Ad.ghost (Aw.freeze 7 rfl rfl) ?_;first|apply Ad.BD|apply Ad.Cj)|apply Ad.BD|refine go0 ?_|(apply Ad.Ac;rfl)|(intro _;try (exfalso;omega)))
  all_goals first|(exfalso;omega)|(refine Done.ret rfl (.refl _) trivial ?_ (by omega) (ab _) ⟨?_,rfl,rfl⟩;exact DR;try rfl)
theorem vO (q:Qu) (hq:IK q) (N:List Int) (hN:YP q N) (hNl:N.length≤1000) (l:List Int) (h:Int) (hl:l.length=q.p.notes.length):ER env 62 [.p (.agg (Enc.enc q)),.p (.lst 3 (cells N) N.length),.clo 124 [] [.ref 0 0,.ref 1 0]] (lhB l h) 2 (.lst 84 (cells (UQ q N (hasB l h))) (UQ q N (hasB l h)).length):=by
 have his:=fun m (hm:m<q.p.notes.length)=>vX l h m (by omega)
 generalize hIs:hasB l h=is at *;unfold lhB at *;have n1:=hq.p.notes;have d1:=hq.o.Ae;have hV0:=ZI q.p N is q.o.Ae.length;have hKl:(UQ q N is).length=q.o.Ae.length:=Cm _ _;rw [hKl];unfold UQ;refine ER.enter (Af (by decide)) Tryz.func62 rfl (by kernel_rfl) (by simp [Tryz.ntmps62]) ?_
 repeat' (first|(apply Aa.NY q.o.Ae.length (⟨0,0⟩:Iq);rfl;rfl;rfl;rfl;rfl;rfl;rfl;omega;decide;decide;rfl)|refine go1 ?_|fail)
 all_goals try (exfalso;omega)
 rw [hV0];apply Ad.F5 (N.length) [(2,_),(3,_),(7,_),(18,_),(19,_)] [(0,_),(1,_),(2,_)] (fun k r=>(20,.p (.int .i64 (k:Int)))::r) (fun k r=>(3,.vec 84 (cells (Bz (dU q.p N is k) q.o.Ae.length)) q.o.Ae.length false)::r) 4
 ·first|omega|decide
 ·first|omega|decide
 ·exact NI
 ·exact Px
 ·intro k hk
  obtain ⟨g1,g2⟩:=hN k hk;obtain ⟨m,hm⟩:∃ m:Nat,gi N k=(m:Int):=⟨(gi N k).toNat,by omega⟩
  have hm2:m<q.p.notes.length:=by omega
  have hc:=his m hm2;rw [← hm] at hc;cases hi:is m with
  |false =>
   have e1:=uz (p:=q.p) (N:=N) (is:=is) (k:=k) (n:=q.o.Ae.length) (by rw [hm,bd];exact hi);rw [hi] at hc
   repeat' (first|(apply Aa.read [0,1] hc;rfl;rfl;exact .of_eq rfl;exact CU.Az rfl;exact Di rfl;(repeat (first|exact trivial|refine ⟨⟨_,rfl,.of_eq rfl⟩,?_⟩));decide;(intro _ hb;simp at hb<;>omega);rfl)|(apply Aa.Aj;rfl;rfl;rfl;omega;rfl)|refine go1 ?_|(apply Aa.int;rfl;rfl;rfl)|(apply Ad.Ac;rfl)|(apply Ad.cond_false;rfl)|(intro _;try (exfalso;omega)))
   all_goals try (exfalso;omega)
   all_goals try contradiction
   refine Ah.normal ⟨by first|omega|decide,?_,?_⟩
   ·try (rw [e1])
    exact C9
   ·rw [e1]
    exact DR
  |true =>
   have hNt:=hq.p.note m hm2;obtain ⟨j,hj⟩:∃ j:Nat,(gi q.p.notes m).d=(j:Int):=⟨(gi q.p.notes m).d.toNat,by have:=hNt.d;omega⟩
   have hjn:j<q.o.Ae.length:=by have:=hNt.d;omega
   have hcm:=hq.o.cmp (i:=j) hjn;have hk2:=hNt.k;rw [hj,bd] at hk2;obtain ⟨z,hz⟩:∃ z:Nat,(gi q.p.notes m).k=(z:Int):=⟨(gi q.p.notes m).k.toNat,by omega⟩
   have hz2:z<128:=by omega
   have e1:=zM (p:=q.p) (N:=N) (is:=is) (k:=k) hjn (by rw [hm,bd];exact hi) (by rw [hm,bd];exact hj);rw [hm,bd,hz,bd,← ql] at e1;have hsl:(Bz (dU q.p N is k) q.o.Ae.length).length=q.o.Ae.length:=Cm _ _;have hok:(gi (Bz (dU q.p N is k) q.o.Ae.length) j).Ok:=by
    rw [DW _ hjn];exact ah (Ro hq hN k (by omega)) _ (ab _)
   have hof:=qc [(gi q.p.notes m).k] (by simp) (fun i hi=>by
    have:i=0:=by simpa using hi
    subst this;show 0≤(gi q.p.notes m).k∧(gi q.p.notes m).k≤127;omega)
   have hoe:dX [(gi q.p.notes m).k] [(gi q.p.notes m).k].length=Gf ⟨0,0⟩ z:=by
    show Gf ⟨0,0⟩ ((gi q.p.notes m).k).toNat=_;rw [hz,bd]
   rw [hoe] at hof;have hun:=QE (gi (Bz (dU q.p N is k) q.o.Ae.length) j) (Gf ⟨0,0⟩ z) hok (Zo Vs hz2);rw [hi] at hc;generalize Bz (dU q.p N is k) q.o.Ae.length=V at *;generalize hW:(Gf ⟨0,0⟩ z:Iq)=W at *
   repeat' (first|(refine Ai.IL 37 ?_;refine Ai.ghost (Aw.freeze 36 rfl rfl) ?_)|apply Ad.BD|apply Ad.region|apply Ad.Fz|apply Ad.FN|apply Ad.E8|apply BK.normal|apply Bh.normal|apply Ai.nil|apply Ag.nil|apply Ai.one|(apply Ag.bar;decide +kernel)|apply Ag.quiet|(apply Aa.read [0,1] hc;rfl;rfl;exact .of_eq rfl;exact CU.Az rfl;exact Di rfl;(repeat (first|exact trivial|refine ⟨⟨_,rfl,.of_eq rfl⟩,?_⟩));decide;(intro _ hb;simp at hb<;>omega);rfl)|(apply Aa.fn;rfl;rfl;exact hof;intro _;rfl)|(apply Aa.fn;rfl;rfl;exact hun;intro _;rfl)|(apply Aa.Aj (l:=q.p.notes) (i:=m);rfl;exact congrArg (fun b=>some (PV.p (.int .i64 b))) hm;rfl;omega;rfl)|(apply Aa.D5 (l:=V) (i:=j);rfl;rfl;exact congrArg (fun b=>some (PV.p (.int .i64 b))) hj;rfl;omega)|(apply Aa.Qj (l:=V) (i:=j);rfl;rfl;omega;rfl)|(apply Aa.KC (l:=V) (i:=j) (y:=dS (gi V j) W);rfl;rfl;rfl;trivial;rfl;rfl;rfl;decide;omega)|(apply Aa.assign;rfl)|(apply Aa.move;rfl)|(apply Aa.Nl;rfl;rfl;omega)|(apply Aa.int;rfl;rfl;rfl)|(apply Aa.Aj;rfl;rfl;rfl;omega;rfl)|(apply Aa.load;rfl;rfl)|(apply Aa.Ih;rfl;rfl;rfl)|(apply Aa.alloc;rfl)|(apply Aa.FT;rfl;rfl;rfl;trivial;rfl;rfl;exact Bj rfl;exact le_dec rfl)|(apply Aa.buildSlice;rfl;rfl;rfl;decide;rfl;rfl;rfl)|(apply Aa.extract;rfl;rfl)|(apply Ad.Ac;rfl)|(apply Ad.cond_true;rfl)|(intro _;try (exfalso;omega)))
   all_goals try (exfalso;omega)
   all_goals try contradiction
   refine Ah.normal ⟨by first|omega|decide,?_,?_⟩
   ·try (rw [← e1])
    exact C9
   ·rw [← e1]
    exact DR
 ·repeat' (first|(refine Ad.at 10 ?_;refine Ad.ghost (Aw.freeze 7 rfl rfl) ?_;first|apply Ad.BD|apply Ad.Cj)|apply Ad.BD|refine go0 ?_|(apply Ad.Ac;rfl)|(intro _;try (exfalso;omega)))
  all_goals first|(exfalso;omega)|(refine Done.ret rfl (.refl _) trivial ?_ (by omega) (ab _) ⟨?_,rfl,rfl⟩;exact DR;try rfl)
attribute [local irreducible] Pv
def a8h (y:Zj):Int:=if 0≤y.hn∧y.hn≤10 then if 0≤y.fn∧y.fn≤10 then if 0≤y.hs∧y.hs≤127 then if 0≤y.fs∧y.fs≤127 then 0 else 3 else 3 else 3 else 3
theorem nH {y:Zj} (h:y.Ok):a8h y=0:=by
 unfold a8h;rw [if_pos h.hn,if_pos h.fn,if_pos h.hs,if_pos h.fs]
theorem Lu (y:Zj):Ap env 32 [.agg (Enc.enc y)] (.p (.int .i64 (a8h y))):=by
 by_cases h1:0≤y.hn∧y.hn≤10;all_goals by_cases h2:0≤y.fn∧y.fn≤10
 all_goals by_cases h3:0≤y.hs∧y.hs≤127
 all_goals by_cases h4:0≤y.fs∧y.fs≤127
 all_goals unfold a8h
 all_goals first|rw [if_pos h1]|rw [if_neg h1]
 all_goals try first|rw [if_pos h2]|rw [if_neg h2]
 all_goals try first|rw [if_pos h3]|rw [if_neg h3]
 all_goals try first|rw [if_pos h4]|rw [if_neg h4]
 all_goals
  refine Ap.enter (Af (by decide)) Tryz.func32 rfl (by kernel_rfl) (by simp [Tryz.ntmps32]) ?_
 all_goals
  repeat' (first|(apply Aa.b7w;rfl;rfl;rfl;rfl;rfl;decide;rfl)|refine Ij ?_|(apply Ai.guard;rfl;rfl)|(apply Aa.b8e;rfl;rfl;rfl;rfl;rfl)|(apply Ad.a8t 2)|(apply Pv.zero)|(apply Pv.succ)|(apply Ah.again)|(apply Aa.int;rfl;rfl;rfl)|(apply Ad.AX;rfl)|(apply Ad.Ak;rfl)|(apply Ad.cond_true;rfl)|(apply Ad.Aq;rfl)|(intro _;try (exfalso;omega)))
 all_goals first|(exfalso;omega)|(refine Done.rt rfl rfl ⟨?_,rfl,rfl⟩;try rfl)
theorem a6q (y:Zj) (hy:y.Ok) (s:Iq) (hs:s.Ok):Ap env 25 [.agg (Enc.enc y),.agg (Enc.enc s)] (.Eb [.p (.bool (decide (VJ y (DT s)))),.p (.int .i64 0)]):=by
 have hc:=Lu y;have e0:=nH hy;rw [e0] at hc;have hm:=XV hs.lo hs.hi;have hr:∀ x∈DT s,0≤x∧x≤127:=fun x hx=>by
  obtain ⟨n,h1,rfl,_⟩:=Gz.1 hx;omega
 have h1:=a6e y (DT s) (YG s) hr;have hm:Bc env 61 [.agg (Enc.enc s)] 3 (cells (DT s)) (DT s).length _:=hm;generalize DT s=M at *;refine Ap.enter (Af (by decide)) Tryz.func25 rfl (by kernel_rfl) (by simp [Tryz.ntmps25]) ?_
 repeat' (first|(refine Ag.IL 15 ?_;refine Ag.ghost (Aw.freeze 14 rfl rfl) ?_)|apply Ad.assoc|apply Ad.BD|apply Ad.Cj|apply Ad.FN|apply Ad.ret|apply Ai.nil|apply Ag.nil|apply Ai.one|(apply Ag.bar;decide +kernel)|apply Ag.quiet|(apply Aa.fn;rfl;rfl;exact hc;intro _;rfl)|(apply Aa.fv;rfl;rfl;exact hm)|(apply Aa.fn;rfl;rfl;exact h1;intro _;rfl)|(apply Aa.assign;rfl)|(apply Aa.move;rfl)|(apply Aa.int;rfl;rfl;rfl)|(apply Aa.load;rfl;rfl)|(apply Aa.box;rfl;trivial)|(apply Ad.Ak;rfl))
 all_goals first|(exfalso;omega)|(refine Done.rt rfl rfl ⟨?_,rfl,rfl⟩;try rfl)
def Pj (l:List Iq):Nat→Iq
 |0=>⟨0,0⟩
 |k+1=>dS (Pj l k) (gi l k)
def bD (l:List Iq):Nat→Int
 |0=>0
 |k+1=>bD l k+((DT (gi l k)).length:Int)
def XB (y:Zj) (l:List Iq):Prop:=bD l l.length≤y.fn∧wid (DT (Pj l l.length))≤y.fs
instance (y:Zj) (l:List Iq):Decidable (XB y l):=inferInstanceAs (Decidable (_∧_))
theorem kG {l:List Iq} (h:∀ i,i<l.length→(gi l i).Ok):∀ k,k≤l.length→(Pj l k).Ok
 |0,_=>Vs
 |k+1,hk=>b3j (kG h k (by omega)) (h k (by omega))
theorem Zf (l:List Iq):∀ k,0≤bD l k∧bD l k≤128*k
 |0=>⟨bb _,bb _⟩
 |k+1=>by
  have:=Zf l k;have:=YG (gi l k);show 0≤bD l k+((DT (gi l k)).length:Int)∧bD l k+((DT (gi l k)).length:Int)≤128*((k+1:Nat):Int);omega
theorem wV (y:Zj) (l:List Iq) (hl:l.length≤1000) (h:∀ i,i<l.length→(gi l i).Ok):Ap env 68 [.agg (Enc.enc y),.lst 84 (cells l) l.length] (.p (.bool (decide (XB y l)))):=by
 have hU:=kG h l.length (ab _);have hm:Bc env 61 [.agg (Enc.enc (Pj l l.length))] 3 (cells (DT (Pj l l.length))) (DT (Pj l l.length)).length _:=XV hU.lo hU.hi;have hw:=Y7 (DT (Pj l l.length)) (YG _) fun x hx=>by
  obtain ⟨n,h1,rfl,_⟩:=Gz.1 hx;omega
 have hn:=Zf l l.length;refine Ap.enter (Af (by decide)) Tryz.func68 rfl (by kernel_rfl) (by simp [Tryz.ntmps68]) ?_
 repeat' (first|refine go1 ?_|fail)
 apply Ad.F5 (l.length) [(2,_),(5,_),(9,_),(10,_)] [(0,_)] (fun k r=>(11,.p (.int .i64 (k:Int)))::(6,.p (.int .i64 (bD l k)))::r) (fun k r=>(1,.box 84 ((Enc.enc (Pj l k)).map .p))::r) 2
 ·first|omega|decide
 ·first|omega|decide
 ·exact NI
 ·exact Px
 ·intro k hk
  have hu:=QE (Pj l k) (gi l k) (kG h k (by omega)) (h k hk);have hc:=yL (gi l k) (h k hk);have hr:=Zf l k;have hl:=YG (gi l k)
  repeat' (first|(apply Aa.fn;rfl;rfl;exact hu;intro _;rfl)|(apply Aa.fn;rfl;rfl;exact hc;intro _;rfl)|(apply Aa.Aj;rfl;rfl;rfl;omega;rfl)|refine go1 ?_|(apply Aa.int;rfl;rfl;rfl)|(apply Ad.Ac;rfl)|(intro _;try (exfalso;omega)))
  all_goals try (exfalso;omega)
  refine Ah.normal ⟨by first|omega|decide,?_,?_⟩
  ·exact C9
  ·exact DR
 ·have e:decide (XB y l)=(decide (bD l l.length≤y.fn)&&decide (wid (DT (Pj l l.length))≤y.fs)):=by
   unfold XB;exact Bool.decide_and _ _
  rw [e];generalize DT (Pj l l.length)=M at *;generalize bD l l.length=C at *;generalize wid M=W at *;by_cases h1:C≤y.fn
  ·rw [decide_eq_true h1,cy]
   repeat' (first|(refine Ag.IL 30 ?_;refine Ag.ghost (Aw.freeze 29 rfl rfl) ?_)|apply Ad.BD|apply Ad.Cj|apply Ad.Fa|apply BK.normal|apply Bh.exit|apply Ah.exit|apply Ad.ret|apply Ai.nil|apply Ag.nil|apply Ai.one|(apply Ag.bar;decide +kernel)|apply Ag.quiet|(apply Ag.WJ;rfl;rfl)|(apply Ag.guard;rfl;rfl)|(apply Aa.fv;rfl;rfl;exact hm)|(apply Aa.fn;rfl;rfl;exact hw;intro _;rfl)|(apply Aa.assign;rfl)|(apply Aa.move;rfl)|(apply Aa.int;rfl;rfl;rfl)|(apply Aa.load;rfl;rfl)|(apply Aa.KG;rfl;rfl)|(apply Aa.Ih;rfl;rfl;rfl)|(apply Ad.Ac;rfl)|(intro _;try (exfalso;omega)))
   all_goals first|(exfalso;omega)|(refine Done.rt rfl rfl ⟨?_,rfl,rfl⟩;try rfl)
  ·rw [decide_eq_false h1,dt]
   repeat' (first|refine Eu ?_|(apply Ag.guard;rfl;rfl)|(apply Ad.Ac;rfl)|(intro _;try (exfalso;omega)))
   all_goals first|(exfalso;omega)|(refine Done.rt rfl rfl ⟨?_,rfl,rfl⟩;try rfl)
theorem y9 (y:Zj) (hy:y.Ok) (l:List Iq) (hl:l.length≤1000) (h:∀ i,i<l.length→(gi l i).Ok):Ap env 161 [.agg (Enc.enc y),.lst 84 (cells l) l.length] (.Eb [.p (.bool (decide (XB y l))),.p (.int .i64 0)]):=by
 have hc:=Lu y;have e0:=nH hy;rw [e0] at hc;have hf:=wV y l hl h;refine Ap.enter (Af (by decide)) Tryz.func161 rfl (by kernel_rfl) (by simp) ?_
 repeat' (first|(apply Aa.fn;rfl;rfl;exact hc;intro _;rfl)|(apply Aa.fn;rfl;rfl;exact hf;intro _;rfl)|refine go1 ?_|(apply Aa.int;rfl;rfl;rfl)|(apply Ad.Ak;rfl))
 all_goals first|(omega)|(refine Done.rt rfl rfl ⟨?_,rfl,rfl⟩;try rfl)
theorem b0r:env.O 147=some (Za (AP Tryz.prog 8 Ej) (Bl Tryz.prog 8 Ej) Tryz.f147.ntmps QA):=by
 rfl
theorem a1q (s:Iq) (hs:s.Ok) {e:TypeId}:b5g env 147 Tryz.f147 (Enc.enc s) e (FP s.lo s.hi):=by
 intro Fo hFo m F c vs hc hr hF;cases hFo;cases hr with|cons a0 t =>
 cases t with|cons a1 t =>
 cases t;cases a0;cases a1;refine ⟨notKey s.lo s.hi,fun m' F' σ' H' nx' hsame Yu=>⟨m',?_⟩⟩;refine a7z (kr:=(notKey s.lo s.hi,FP s.lo s.hi)) (kJ Yu) ?_;have q1:=(hsame c hF).trans hc;have b1:=hs.lo;have b2:=hs.hi;unfold QA;simp only [q1];rw [if_pos ⟨⟨by omega,by omega⟩,by omega,by omega⟩];rfl
theorem b4u {L:Vm.Frame} {H:Vm.Heap} {nx:Nat} {Q:PV→Vm.Heap→Nat→Prop} {dst:Option Tmp} {ty:TypeId} {pos:String} {af:Array Edge} {gd:Option (Nat×Bool)} {fo:Operand} {args:Array Operand} {aT:Array TypeId} {fs cs xs:List PV} {c:Code}
 (hf:AU env.Γ L fo=some (.clo 108 fs cs)) (ha:evs env.Γ L args.toList=some xs) (hb:Tryz.f108.body=some c) (hn:(fs++xs++cs).length≤Tryz.f108.ntmps)
 (h:Ad env nx c (Ci 0 (fs++xs++cs)) H nx (AB env.P Tryz.f108.results.toList Q)):Aa env true ⟨dst,.call { callee:=.value fo,args:=args,argTypes:=aT },ty,pos,af,gd⟩ L H nx Q:=by
 have h0:(match Tryz.f108.body with|some c=>IJ env.G Tryz.f108 c|none=>false)=true:=by kernel_rfl
 rw [hb] at h0;exact Aa.inline rfl hf ha (Af (by decide)) Tryz.func108 hb h0 hn h
theorem vS (s:Iq) (hs:s.Ok):Ap env 125 [.agg (Enc.enc s)] (.Eb [.p (.int .i64 (gi (DT s) 0)),.p (.bool (decide (DT s≠[])))]):=by
 refine Ap.enter (Af (by decide)) Tryz.func125 rfl (by kernel_rfl) (by simp [Tryz.ntmps125]) ?_
 repeat' (first|(apply b4u;rfl;rfl;rfl;exact le_dec rfl)|(apply Aa.makeFunc;rfl;rfl)|refine go1 ?_|(apply AB.ret;rfl))
 all_goals try (exfalso;omega)
 refine Ad.xw (DT s).length (fun k=>[.int .i64 (gi (DT s) k)]) (fun k=>[Go.encZ (gi (DT s) k)]) [(2,.ref 1 0),(3,.ref 2 0)]
  (fun k=>[(1,.box 3 [.p (.int .i64 0)]),(2,.box 4 [.p (.bool false)])]) 3 (fun k=>k=0)
  rfl rfl Tryz.func147 rfl b0r ?_ (fun _ _=>rfl) (fun _ _=>rfl) (fun k _ m F=>.cons (.int _ _) .nil) (by omega) ⟨by omega,?_,?_⟩ ?_ (a1q s hs) rfl ?_ ?_
 ·unfold FP DT
  refine ge (by simp) fun i h1 h2=>?_
  simp only [List.getElem_map,List.getElem_range];unfold gi;rw [bk] at h1;rw [ai h1];rfl
 ·exact C9
 ·exact DR
 ·exact C9
 ·rintro k hk rfl
  have h0:DT s≠[]:=fun e=>by rw [e] at hk;simp at hk
  rw [decide_eq_true h0]
  repeat' (first|refine go1 ?_|fail)
  refine ⟨rfl,?_⟩
  repeat' (first|refine go1 ?_|apply Ad.KO)
  refine ⟨by omega,[(1,.box 3 [.p (.int .i64 (gi (DT s) 0))]),(2,.box 4 [.p (.bool true)])],?_,?_⟩
  ·exact DR
  ·repeat' (first|apply BK.ret|apply Bh.ret)
   all_goals first|(exfalso;omega)|(refine Done.rt rfl rfl ⟨?_,rfl,rfl⟩;try rfl)
 ·intro h
  have h0:DT s=[]:=av.1 h;rw [h0]
  repeat' (first|refine go1 ?_|fail)
  all_goals first|(exfalso;omega)|(refine Done.rt rfl rfl ⟨?_,rfl,rfl⟩;try rfl)
structure VF where
 d:Int
 k:Int
deriving DecidableEq
instance:Enc VF:={ default:=⟨0,0⟩,enc:=fun x=>[.int .i64 x.d,.int .i64 x.k],size:=2,len:=fun _=>rfl }
def hcK (y:Zj) (K:List Iq):Nat→Bool×Int
 |0=>(true,0)
 |k+1=>if DT (gi K k)=[] then hcK y K k else ((hcK y K k).1&&decide ((hcK y K k).2=0)&&decide (VJ y (DT (gi K k))),(hcK y K k).2+1)
theorem a0q (y:Zj) (K:List Iq):∀ k,0≤(hcK y K k).2∧(hcK y K k).2≤k
 |0=>⟨bb _,bb _⟩
 |k+1=>by
  have:=a0q y K k;unfold hcK;grind
def Ru (p:Fv) (N l:List Int) (h:Int):Nat→Bool×VF
 |0=>(false,⟨0,0⟩)
 |k+1=>if gi l (gi N k).toNat=h∧((Ru p N l h k).1=false∨(gi p.notes (gi N k).toNat).k<(Ru p N l h k).2.k) then (true,⟨(gi p.notes (gi N k).toNat).d,(gi p.notes (gi N k).toNat).k⟩) else Ru p N l h k
def Yq (q:Qu) (N l:List Int) (h:Int):Bool:=(hcK q.y (UQ q N (hasB l h)) (UQ q N (hasB l h)).length).1
theorem YV (q:Qu) (N:List Int) (is:Nat→Bool):(UQ q N is).length=q.o.Ae.length:=Cm _ _
theorem a9l {q:Qu} (hq:IK q) {N:List Int} (hN:YP q N) (is:Nat→Bool) {d:Nat} (hd:d<q.o.Ae.length):(gi (UQ q N is) d).Ok:=by
 unfold UQ;rw [DW _ hd];exact ah (Ro hq hN _ (ab _)) _ (ab _)
theorem Rh (q:Qu) (hq:IK q) (s:mD) (hN:YP q s.notes) (hNl:s.notes.length≤1000) (l:List Int) (h:Int) (hl:l.length=q.p.notes.length):Ap env 86 [.agg (Enc.enc q),.agg (Enc.enc s),.lst 3 (cells l) l.length,.int .i64 h]
 (.Eb [.p (.agg (Enc.enc (Ru q.p s.notes l h s.notes.length).2)),.p (.bool (Ru q.p s.notes l h s.notes.length).1),.p (.bool (Yq q s.notes l h))]):=by
 have n1:=hq.p.notes;have d1:=hq.o.Ae;have hk:=vO q hq s.notes hN hNl l h hl;have hKl:=YV q s.notes (hasB l h);have hKo:=fun d hd=>a9l hq hN (hasB l h) (d:=d) hd
 rw [← hKl] at hKo;unfold Yq;generalize UQ q s.notes (hasB l h)=K at *;refine Ap.enter (Af (by decide)) Tryz.func86 rfl (by kernel_rfl) (by simp [Tryz.ntmps86]) ?_
 repeat' (first|(apply Aa.read [2,3] hk;rfl;rfl;exact .of_eq rfl;exact CU.Az rfl;exact Di rfl;(repeat (first|exact trivial|refine ⟨⟨_,rfl,.of_eq rfl⟩,?_⟩));decide;(intro _ hb;simp at hb<;>omega);rfl)|(apply Aa.makeFunc;rfl;rfl)|refine go1 ?_|fail)
 all_goals try (exfalso;omega)
 apply Ad.F5 (K.length) [(4,_),(5,_),(6,_),(7,_),(8,_),(9,_),(25,_),(26,_)] [(0,_),(1,_),(2,_),(3,_),(4,_)] (fun k r=>(27,.p (.int .i64 (k:Int)))::(10,.p (.bool (hcK q.y K k).1))::(11,.p (.int .i64 (hcK q.y K k).2))::r) (fun k r=>r) 5
 ·first|omega|decide
 ·first|omega|decide
 ·exact NI
 ·exact Px
 ·intro k hk
  have hle:=vS (gi K k) (hKo k hk);have hon:=a6q q.y hq.y (gi K k) (hKo k hk);have hr:=a0q q.y K k;have e1:hcK q.y K (k+1)=if DT (gi K k)=[] then hcK q.y K k else ((hcK q.y K k).1&&decide ((hcK q.y K k).2=0)&&decide (VJ q.y (DT (gi K k))),(hcK q.y K k).2+1):=rfl
  rw [e1];clear e1;generalize hcK q.y K k=r at *;obtain ⟨c,n⟩:=r;by_cases h0:DT (gi K k)=[]
  ·rw [if_pos h0]
   rw [decide_eq_false (fun e=>e h0)] at hle;generalize gi (DT (gi K k)) 0=z at *
   repeat' (first|(apply Aa.fn;rfl;rfl;exact hle;intro _;rfl)|(apply Aa.Aj;rfl;rfl;rfl;omega;rfl)|refine Ij ?_|(apply Aa.int;rfl;rfl;rfl)|(apply Ad.AX;rfl)|(apply Ad.Ac;rfl)|(intro _;try (exfalso;omega)))
   all_goals try (exfalso;omega)
   refine Ah.normal ⟨by first|omega|decide,?_,?_⟩
   ·exact C9
   ·exact DR
  ·rw [if_neg h0]
   rw [decide_eq_true h0] at hle;generalize gi (DT (gi K k)) 0=z at *;generalize decide (VJ q.y (DT (gi K k)))=w at *;cases c;all_goals by_cases hn:n=0
   all_goals cases w
   all_goals first|rw [decide_eq_true hn]|rw [decide_eq_false hn]
   all_goals
    repeat' (first|(apply Aa.fn;rfl;rfl;exact hle;intro _;rfl)|(apply Aa.fn;rfl;rfl;exact hon;intro _;rfl)|(apply Aa.Aj;rfl;rfl;rfl;omega;rfl)|refine Ij ?_|(apply Ai.guard;rfl;rfl)|(apply Aa.int;rfl;rfl;rfl)|(apply Ad.Ak;rfl)|(apply Ad.Ac;rfl)|(intro _;try (exfalso;omega)))
   all_goals try (exfalso;omega)
   all_goals try contradiction
   all_goals
    refine Ah.normal ⟨by first|omega|decide,?_,?_⟩
    ·exact C9
    ·exact DR
 ·repeat' (first|refine Eu ?_|(apply Ad.Ac;rfl)|(intro _;try (exfalso;omega)))
  all_goals try (exfalso;omega)
  apply Ad.F5 (s.notes.length) [(4,_),(6,_),(7,_),(8,_),(10,_),(57,_),(58,_)] [(0,_),(1,_),(2,_),(3,_)] (fun k r=>(59,.p (.int .i64 (k:Int)))::(9,.p (.bool (Ru q.p s.notes l h k).1))::r) (fun k r=>(4,.box 120 ((Enc.enc (Ru q.p s.notes l h k).2).map .p))::r) 5
  ·first|omega|decide
  ·first|omega|decide
  ·exact NI
  ·exact Px
  ·intro k hk
   obtain ⟨g1,g2⟩:=hN k hk;obtain ⟨m,hm⟩:∃ m:Nat,gi s.notes k=(m:Int):=⟨(gi s.notes k).toNat,by omega⟩
   have hm2:m<q.p.notes.length:=by omega
   have e1:Ru q.p s.notes l h (k+1)=if gi l (gi s.notes k).toNat=h∧((Ru q.p s.notes l h k).1=false∨(gi q.p.notes (gi s.notes k).toNat).k<(Ru q.p s.notes l h k).2.k) then (true,⟨(gi q.p.notes (gi s.notes k).toNat).d,(gi q.p.notes (gi s.notes k).toNat).k⟩) else Ru q.p s.notes l h k:=rfl
   rw [hm,bd] at e1;rw [e1];clear e1;generalize Ru q.p s.notes l h k=r at *;obtain ⟨c,a⟩:=r;by_cases h1:gi l m=h;all_goals cases c
   all_goals by_cases h2:(gi q.p.notes m).k<a.k
   all_goals first|rw [if_pos (And.intro h1 (Or.inl rfl))]|rw [if_pos (And.intro h1 (Or.inr h2))]|rw [if_neg (fun e=>h1 e.1)]|rw [if_neg (fun e=>e.2.elim (fun e=>nomatch e) h2)]
   all_goals
    repeat' (first|(apply Aa.Aj (l:=q.p.notes) (i:=m);rfl;exact congrArg (fun b=>some (PV.p (.int .i64 b))) hm;rfl;omega;rfl)|(apply Aa.Aj (l:=l) (i:=m);rfl;exact congrArg (fun b=>some (PV.p (.int .i64 b))) hm;rfl;omega;rfl)|(apply Aa.Aj;rfl;rfl;rfl;omega;rfl)|refine fP ?_|(apply Ag.guard;rfl;rfl)|(apply Ag.Xc;rfl;rfl)|(apply Aa.int;rfl;rfl;rfl)|(apply Aa.build;rfl;rfl;rfl;rfl;rfl)|(apply Ad.Ac;rfl)|(apply Ad.cond_true;rfl)|(apply Ad.cond_false;rfl)|(apply Ad.Aq;rfl)|(intro _;try (exfalso;omega)))
   all_goals try (exfalso;omega)
   all_goals try contradiction
   all_goals
    refine Ah.normal ⟨by first|omega|decide,?_,?_⟩
    ·exact C9
    ·exact DR
  ·repeat' (first|refine Eu ?_|(apply Ad.Ac;rfl)|(intro _;try (exfalso;omega)))
   all_goals first|(exfalso;omega)|(refine Done.rt rfl rfl ⟨?_,rfl,rfl⟩;try rfl)
end Go.Proofs.YtnjkoebfgcbbdaaGreatDoor
namespace Go.Vm
open Go.Am
variable {E:Env} {L:Frame} {H:Heap} {nx:Nat} {Q:PV→Heap→Nat→Prop} {dst:Option Tmp} {ty:TypeId} {pos:String} {af:Array Edge} {gd:Option (Nat×Bool)} {w:Bool}
theorem Aa.Z4 {fo:Operand} {args:Array Operand} {aT:Array TypeId} {g:FuncId} {fs cs aa ac:List PV} {x:FV} (hc:ER E g ac [] 0 x) (hf:AU E.Γ L fo=some (.clo g fs cs)) (ha:evs E.Γ L args.toList=some aa)
 (hle:OG (fs++aa++cs) (CU.rn (rho [] nx) ac)) (hu:CU.under 0 ac) (q:Q (.p x) H nx):Aa E w ⟨dst,.call { callee:=.value fo,args:=args,argTypes:=aT },ty,pos,af,gd⟩ L H nx Q :=
 Aa.cZ (ns:=[]) (Hc:=[]) hf ha hle hu trivial trivial cA (by simp) (fun _=>rfl) hc
  (fun r H' nx' h=>by
   obtain ⟨h1,h2,h3⟩:=h;subst h1;subst h2;subst h3;rw [QT];exact q)
end Go.Vm
namespace Go.Proofs.YtnjkoebfgcbbdaaGreatDoor
open Go Go.Am Go.Vm Go.Pie
attribute [local irreducible] Aa Ai Ag Ad AO Ap Bc BK Bh Ah Vm.Done Bv AB Pv
attribute [local irreducible] Ce Ba DX DJ En AZ CB
def jJ (q:Qu) (N:List Int):Bool:=decide (XB q.y (UQ q N (Ed q)))
def Lr (q:Qu) (N l:List Int):Bool:=Yq q N l 0&&Yq q N l 1&&jJ q N
theorem yJ (q:Qu) (hq:IK q) (s:mD) (hN:YP q s.notes) (hNl:s.notes.length≤1000):Ap env 128 [.agg (Enc.enc q),.agg (Enc.enc s)] (.p (.bool (jJ q s.notes))):=by
 have d1:=hq.o.Ae;have hk:=wJ q hq s.notes hN hNl;have hKl:=YV q s.notes (Ed q);have hKo:=fun d hd=>a9l hq hN (Ed q) (d:=d) hd
 rw [← hKl] at hKo;have hf:=y9 q.y hq.y (UQ q s.notes (Ed q)) (by omega) hKo;unfold jJ;generalize UQ q s.notes (Ed q)=K at *;refine Ap.enter (Af (by decide)) Tryz.func128 rfl (by kernel_rfl) (by simp [Tryz.ntmps128]) ?_
 repeat' (first|(apply Aa.fn;rfl;rfl;exact hf;intro _;rfl)|(apply Aa.Z4 hk;rfl;rfl;exact .of_eq rfl;exact CU.Az rfl)|(apply Aa.makeFunc;rfl;rfl)|refine Ij ?_|fail)
 all_goals first|(exfalso;omega)|(refine Done.rt rfl rfl ⟨?_,rfl,rfl⟩;try rfl)
theorem fJ (q:Qu) (hq:IK q) (s:mD) (hN:YP q s.notes) (hNl:s.notes.length≤1000) (l:List Int) (hl:l.length=q.p.notes.length):Ap env 90 [.agg (Enc.enc q),.agg (Enc.enc s),.lst 3 (cells l) l.length] (.p (.bool (Lr q s.notes l))):=by
 have h0:=Rh q hq s hN hNl l 0 hl;have h1:=Rh q hq s hN hNl l 1 hl;have hf:=yJ q hq s hN hNl;unfold Lr;generalize Yq q s.notes l 0=c0 at *;generalize Yq q s.notes l 1=c1 at *;generalize jJ q s.notes=c2 at *;generalize Ru q.p s.notes l 0 s.notes.length=a0 at *;generalize Ru q.p s.notes l 1 s.notes.length=a1 at *;cases c0<;>cases c1<;>cases c2
 all_goals
  refine Ap.enter (Af (by decide)) Tryz.func90 rfl (by kernel_rfl) (by simp [Tryz.ntmps90]) ?_
 all_goals
  repeat' (first|(apply Aa.fn;rfl;rfl;exact h0;intro _;rfl)|(apply Aa.fn;rfl;rfl;exact h1;intro _;rfl)|(apply Aa.fn;rfl;rfl;exact hf;intro _;rfl)|refine Ij ?_|fail)
 all_goals first|(exfalso;omega)|contradiction|(refine Done.rt rfl rfl ⟨?_,rfl,rfl⟩;try rfl)
def tH (q:Qu):HB:=.box 36 ((Enc.enc q).map .p)
def slB (s:mD):HB:=.box 81 ((Enc.enc s).map .p)
theorem fM (q:Qu) (hq:IK q) (s:mD) (hN:YP q s.notes) (hNl:s.notes.length≤1000) (l:List Int) (hl:l.length=q.p.notes.length):ER env 89 ([.p (.lst 3 (cells l) l.length)]++[.ref 0 0,.ref 1 0]) [(0,tH q),(1,slB s)] 2 (.bool (!Lr q s.notes l)):=by
 have hp:=fJ q hq s hN hNl l hl;unfold tH slB;generalize Lr q s.notes l=c at *;refine ER.enter (Af (by decide)) Tryz.func89 rfl (by kernel_rfl) (by simp [Tryz.ntmps89]) ?_
 repeat' (first|(apply Aa.fn;rfl;rfl;exact hp;intro _;rfl)|refine go1 ?_|fail)
 all_goals first|(exfalso;omega)|(refine Done.ret rfl (.refl _) trivial ?_ (by omega) (ab _) ⟨?_,rfl,rfl⟩;exact DR;try rfl)
end Go.Proofs.YtnjkoebfgcbbdaaGreatDoor
namespace Go.Vm
open Go.Am
variable {E:Env} {L:Frame} {H:Heap} {nx:Nat} {Q:PV→Heap→Nat→Prop} {w:Bool}
variable {dst:Option Tmp} {ty:TypeId} {pos:String} {af:Array Edge} {gd:Option (Nat×Bool)}
theorem Aa.lT {t:TypeId} {x:Operand} {lo hi:Option Operand} {e:TypeId} {cs:List FV} {b n off len a c sz:Nat} {z:Bool} {inf:TypeInfo} (hx:AU E.Γ L x=some (.vec b n off len)) (hb:hget H b=some (.vec e cs n z)) (hn:0<n) (ht:E.P.underlying t=some (.slice e)) (hi':E.P.info? e=some inf) (hsz:inf.size=sz)
 (hlo:match lo with|none=>a=0|some o=>∃ k,AU E.Γ L o=some (.p (.int k (a:Int)))) (hhi:match hi with|none=>c=len|some o=>∃ k,AU E.Γ L o=some (.p (.int k (c:Int)))) (hac:a≤c) (hcl:c≤len)
 (q:Q (.vec b n (off+a*sz) (c-a)) H nx):Aa E w ⟨dst,.slice t x lo hi none,ty,pos,af,gd⟩ L H nx Q :=
 Aa.quiet q fun m F σ tt h1 h2=>by
  have a8l:bnd 0 (lo.map (ev tt))=some a:=by
   cases lo with
   |none=>rw [hlo];rfl
   |some o =>
    obtain ⟨k,hk⟩:=hlo;simp only [Option.map_some,CO h1 h2 hk,bnd];rfl
  have b7g:bnd len (hi.map (ev tt))=some c:=by
   cases hi with
   |none=>rw [hhi];rfl
   |some o =>
    obtain ⟨k,hk⟩:=hhi;simp only [Option.map_some,CO h1 h2 hk,bnd];rfl
  have hsub:=JH h1 h2 hx hb;obtain ⟨hlt,hr⟩:=h1.hp b _ hb;rcases hr with ⟨r1,r2,r3⟩|⟨d,g,vs,r1,r2,r3,r4,r5,r6,r7⟩
  ·omega
  rw [r1] at hsub;simp only [FZ] at hsub;refine ⟨.slice (some ⟨d,off+a*sz,none⟩) (c-a) g,fun _=>?_,.vec hlt rfl fun j hj=>?_⟩
  ·simp only [BR,Fq,hsub,aslice,Option.isSome_none,Option.map_none,Bool.false_and,Bool.false_eq_true,if_false,ht,hi',a8l,b7g,r4,hac,hcl,r2,and_self,if_true,Option.map_some,hsz]
  ·simp only [htag,hb,HB.tag,Option.map_some,Option.some.injEq,Tg.vec.injEq] at hj
   refine ⟨by omega,fun _=>?_⟩;rw [r1];rfl
theorem a3n {m:Mem} {F:Nat→Prop} {σ:Nat→Value} {b n off c g:Nat} {e:TypeId} {cs fs:List FV} {vs l:List Value} {z:Bool} (h1:Ctx E.Γ m F σ H nx) (hb:hget H b=some (.vec e cs n z)) (hn:0<n) (h4:σ b=.slice (some ⟨c,0,none⟩) n g) (r2:c<m.size) (r3:¬ F c) (r4:m.get c=.cells vs e g false) (r5:Df m F cs vs) (r6:vs.all BH=true)
 (hl:Df m F fs l) (hc:l.all BH=true) :
 Ctx E.Γ (m.put c (.cells (splice vs off l) e g false)) F (upd σ b (σ b)) (hput H b (.vec e (Dh cs off fs) n z)) nx∧Step m F σ H nx (m.put c (.cells (splice vs off l) e g false)) F (upd σ b (σ b)) (hput H b (.vec e (Dh cs off fs) n z)) nx:=by
 have hput':∀ d,c≠d→(m.put c (.cells (splice vs off l) e g false)).get d=m.get d:=fun d hd=>by rw [Mem.get_put,if_neg hd]
 exact h1.change (m':=m.put c (.cells (splice vs off l) e g false)) (x':=.vec e (Dh cs off fs) n z) (s':=σ b) hb (ab _) (fun _=>rfl) (ab _)
  (fun d _ hd=>hput' d fun e=>hd (by rw [h4,e];rfl)) (fun k k1 k2 k3=>by
   have:=k3 c (by rw [h4];rfl);simp only [Mem.put];omega) (fun d hd=>.inl hd) (by
   refine .inr ⟨c,g,splice vs off l,h4,r2,r3,by rw [Mem.get_put,if_pos rfl],?_,Ls _ r6 hc,fun h=>by omega⟩;exact (Df.splice off r5 hl).mono (fun d hd=>⟨hd,hput' d fun e=>r3 (e▸hd)⟩))
def SlT (Γ:Nat→Option (List Value×TypeId)) (L:Frame) (H:Heap) (nx:Nat) (x:Operand) (sz n:Nat) (xs:List FV) (k:Nat):Prop :=
 ∀ m F σ t,Ctx Γ m F σ H nx→RL m F (htag H) σ nx L t→lenOf (ev t x)=some n∧∃ l,BX m sz k (ev t x)=some l∧Df m F xs l∧l.all BH=true
theorem Aa.clear {d:Operand} {dT e:TypeId} {i:TypeInfo} {b n off len:Nat} {cs:List FV} {z:Bool} {zs:List Value} (hd:AU E.Γ L d=some (.vec b n off len)) (hb:hget H b=some (.vec e cs n z)) (hn:0<n) (h0:0<len)
 (hdT:E.P.underlying dT=some (.slice e)) (hi:E.P.info? e=some i) (hz:BN E.P e=some zs) (hzl:zs.length=i.size∧0<i.size) (hl:off+len*i.size≤cs.length) (q:Q (.Eb []) (hput H b (.vec e (Dh cs off ((AA zs len).map HY)) n z)) nx) :
 Aa E true ⟨none,.call { callee:=.builtin .clear,args:=#[d],argTypes:=#[dT] },ty,pos,af,gd⟩ L H nx Q:=by
 intro m F σ t h1 h2;have hsub:=JH h1 h2 hd hb;obtain ⟨hlt,hr⟩:=h1.hp b _ hb;rcases hr with ⟨r1,r2,r3⟩|⟨c,g,vs,r1,r2,r3,r4,r5,r6,r7⟩
 ·omega
 simp only [FZ] at hsub;have hpl:zs.all Am.plainCell=true:=by
  obtain ⟨_,zv,_,_,_,h⟩:=BF hz;exact h
 have hx3:Df m F ((AA zs len).map HY) (AA zs len):=IE (Jw hpl len);have hx4:(AA zs len).all BH=true:=CY (Jw hpl len);have hlen2:=r5.length;have hrl:=ED zs len;obtain ⟨d1,d2⟩:=a3n (E:=E) (off:=off) h1 hb hn r1 r2 r3 r4 r5 r6 hx3 hx4;refine Gp.op (v:=.tuple #[]) (m':=m.put c (.cells (splice vs off (AA zs len)) e g false)) (fun _=>?_) ⟨_,_,_,F,_,q,d1,.Eb .nil,d2,fun h=>by cases h⟩;have hp:=dC h0 hzl.2;simp only [BR,Fq,WZ,List.map_toArray,List.map_cons,List.map_nil,List.getElem?_toArray,List.getElem?_cons_zero,hsub,hdT,hi,hz];simp only [GH,r4,Pg,Option.getD_some,beq_self_eq_true,Bool.true_and];grind
def QY:Code→Option Nat
 | .region n _ _=>some n
 | .seq a b=>match QY a with
  |some n=>some n
  |none=>QY b
 | .block _ b=>QY b
 | .loop b=>QY b
 | .scope b=>QY b
 |_=>none
def MH (r:Nat):Code→Option Code
 | .loop b=>match QY b with
  |some n=>match Nat.beq n r with
   |true=>some (.loop b)
   |false=>MH r b
  |none=>MH r b
 | .seq a b=>match MH r a with
  |some c=>some c
  |none=>MH r b
 | .cond _ a b=>match MH r a with
  |some c=>some c
  |none=>MH r b
 | .block _ b=>MH r b
 | .scope b=>MH r b
 | .rangeFunc _ _ _ b=>MH r b
 |_=>none
def c5q (fn:Func) (r:Nat):Code:=match fn.body with
 |some c=>match MH r c with
  |some c=>c
  |none=>.skip
 |none=>.skip
end Go.Vm
namespace Go.Proofs.YtnjkoebfgcbbdaaGreatDoor
open Go Go.Am Go.Vm Go.Pie
attribute [local irreducible] Aa Ai Ag Ad AO Ap Bc BK Bh Ah Vm.Done Bv AB
attribute [local irreducible] Ce Ba DX DJ En AZ CB
theorem Xm (l:List Int) (h0:0<l.length) (h1:l.length<1000000):Bc env 75 [.lst 3 (cells l) l.length] 3 (cells l) l.length false:=by
 refine Bc.enter (Af (by decide)) Tryz.func75 rfl (by kernel_rfl) (by simp [Tryz.ntmps75]) ?_
 repeat' (first|(apply Aa.a8w;rfl;rfl;rfl;exact h0)|(apply Aa.Vl;rfl;rfl;rfl;(first|rfl|omega|(simp only [List.length_take,List.length_drop,List.length_append,List.length_singleton,List.length_cons,List.length_nil]<;>omega));rfl;rfl;(intro _ h;cases h);rfl;rfl;rfl;decide;decide;(first|omega|(simp only [List.length_take,List.length_drop,List.length_append,List.length_singleton,List.length_cons,List.length_nil]<;>omega)))|refine go1 ?_|(apply Aa.buildSlice;rfl;rfl;rfl;decide;rfl;rfl;rfl)|(apply Ad.Ak;rfl))
 exact Bv.ret rfl rfl rfl rfl
def ctN (p:Fv) (a z:Int):Nat→List LH
 |0=>[]
 |k+1=>if (gi p.notes k).s<z∧(gi p.notes k).e>a then ctN p a z k++[⟨max (gi p.notes k).s a,min (gi p.notes k).e z,(gi p.notes k).d,(gi p.notes k).k⟩] else ctN p a z k
def c6i (p:Fv) (f:Nat):List yP:=if 0≤wan p (gi p.bars f)∧(gi p.sets (wan p (gi p.bars f)).toNat).bar<f then [⟨0,(gi p.sets (wan p (gi p.bars f)).toNat).reg⟩] else []
def ctS (p:Fv) (f t:Nat) (s0:List yP):Nat→List yP
 |0=>s0
 |k+1=>if (gi p.sets k).bar≥f∧(gi p.sets k).bar<t then ctS p f t s0 k++[⟨(gi p.sets k).bar-f,(gi p.sets k).reg⟩] else ctS p f t s0 k
def ctB (p:Fv) (f t:Nat):List Int:=(p.bars.drop f).take (t+1-f)
def d1c (p:Fv) (f t:Nat):Fv:=⟨ctB p f t,ctN p (gi p.bars f) (gi p.bars t) p.notes.length,ctS p f t (c6i p f) p.sets.length⟩
def c9y:List FV:=[.val (.slice none 0 0),.val (.slice none 0 0),.val (.slice none 0 0)]
end Go.Proofs.YtnjkoebfgcbbdaaGreatDoor
