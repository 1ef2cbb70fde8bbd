/-
  Texts of a proof, merged (HanA, PieM, OrQd, PieR, HanB, HanC, HanD, HanE, HanF, Vm35, PieK). Conditions: in each statement.
-/
import Derived.Test.YtnjkoebfgcbbdaaGreatDoorKLl
set_option linter.unusedSimpArgs false
set_option linter.unusedVariables false
set_option linter.unusedSectionVars false
set_option maxRecDepth 100000
set_option maxHeartbeats 8000000
abbrev ba:=@Int.toNat_natCast
abbrev cU:=@List.nodup_cons
abbrev eI:=@List.Pairwise.map
abbrev gN:=@List.replicate_succ'
namespace Go.Proofs.YtnjkoebfgcbbdaaGreatDoor
open Go Go.Am Go.Vm Go.Pie
attribute [local irreducible] Aa Aj Ah Ad AP Ap Bd BL Bf Ag Vm.Done BA AB
attribute [local irreducible] Ce Ba DV DN En AZ CB
structure bY where
 hn:Int
 hs:Int
 fn:Int
 fs:Int
instance:Enc bY:={ default:=⟨0,0,0,0⟩,enc:=fun x=>[.int .i64 x.hn,.int .i64 x.hs,.int .i64 x.fn,.int .i64 x.fs],size:=4,len:=fun _=>rfl }
structure bY.Ok (y:bY):Prop where
 hn:0≤y.hn∧y.hn≤10
 fn:0≤y.fn∧y.fn≤10
 hs:0≤y.hs∧y.hs≤127
 fs:0≤y.fs∧y.fs≤127
noncomputable instance (y:bY):Decidable y.Ok:=Classical.propDecidable _
def Ea (s:Jk):List Int:=Em s.lo s.hi
theorem Nh {p n:Nat}:n∈Gi p↔n<64∧p.testBit n=true:=by
 unfold Gi;simp
theorem ZN {s:Jk} {x:Int}:x∈Ea s↔∃ n:Nat,n<128∧x=(n:Int)∧s.has n=true:=by
 unfold Ea Em;rw [bk,aR,aR];constructor
 ·rintro (⟨n,h,rfl⟩|⟨n,h,rfl⟩)
  ·obtain ⟨h1,h2⟩:=Nh.1 h
   exact ⟨n,by omega,rfl,by unfold Jk.has;grind⟩
  ·obtain ⟨h1,h2⟩:=Nh.1 h
   refine ⟨64+n,by omega,rfl,?_⟩;unfold Jk.has;grind
 ·rintro ⟨n,h1,rfl,h2⟩
  unfold Jk.has at h2;split at h2
  ·rename_i h;exact .inl ⟨n,Nh.2 ⟨h,h2⟩,rfl⟩
  ·rename_i h
   exact .inr ⟨n-64,Nh.2 ⟨by omega,h2⟩,by omega⟩
theorem jg (p:Nat):(Gi p).Pairwise (·<·):=List.Pairwise.filter _ List.pairwise_lt_range
theorem YV (s:Jk):Inc (Ea s):=by
 refine gM.2 ⟨?_,?_,?_⟩
 ·exact eI _ (fun a b h=>by omega) (jg _)
 ·exact eI _ (fun a b h=>by omega) (jg _)
 ·intro a ha b hb
  obtain ⟨n,h1,rfl⟩:=aR.1 ha;obtain ⟨k,h2,rfl⟩:=aR.1 hb;have:=(Nh.1 h1).1;omega
theorem qR (s:Jk):(Ea s).length=(Gi s.lo).length+(Gi s.hi).length:=by simp [Ea,Em]
theorem YD (s:Jk):(Ea s).length≤128:=by
 rw [qR];have:=KG s.lo;have:=KG s.hi;omega
theorem a1v {l:List Int} (h:Inc l):l.Nodup:=h.imp fun h=>by omega
theorem iC:∀ {l r:List Int},l.Nodup→(∀ x∈l,x∈r)→l.length≤r.length
 |[],_,_,_=>an _
 |a::l,r,hn,h=>by
  obtain ⟨hn1,hn2⟩:=cU.1 hn;have h1:=iC (r:=r.erase a) hn2 fun x hx=>by
   grind
  grind
theorem Uj {l:List Int} (h:∀ i,i<l.length→0≤gi l i∧gi l i≤127) {x:Int}:x∈Ea (SE l l.length)↔x∈l:=by
 rw [ZN];constructor
 ·rintro ⟨n,h1,rfl,h2⟩
  rw [lY h n h1 _ (ab _),co] at h2;grind
 ·intro hx
  obtain ⟨i,hi,e⟩:=bL.1 hx;have hg:gi l i=x:=by unfold gi;grind
  have:=h i hi;refine ⟨x.toNat,by omega,by omega,?_⟩;rw [lY h _ (by omega) _ (ab _),co];grind
def wid (l:List Int):Int:=if l.length=0 then 0 else gi l (l.length-1)-gi l 0
theorem inc_le {l:List Int} (h:Inc l) {i j:Nat} (hij:i≤j) (hj:j<l.length):gi l i≤gi l j:=by
 rcases aq i j with h1|h1
 ·have:=ed.1 h i j (by omega) hj h1
  unfold gi;grind
 grind
theorem a8b {l:List Int} (h:Inc l) {s:Int} (hs:0≤s):wid l≤s↔∀ x∈l,∀ y∈l,x-y≤s:=by
 unfold wid;split
 ·grind
 ·rename_i h0
  constructor
  ·intro hw x hx y hy
   obtain ⟨i,hi,rfl⟩:=bL.1 hx;obtain ⟨j,hj,rfl⟩:=bL.1 hy;have h1:=inc_le h (show i≤l.length-1 by omega) (by omega);have h2:=inc_le h (an j) hj;have e1:gi l i=l[i]:=by unfold gi;grind
   have e2:gi l j=l[j]:=by unfold gi;grind
   omega
  ·intro hw
   exact hw _ (gi_mem' (by omega)) _ (gi_mem' (by omega))
end Go.Proofs.YtnjkoebfgcbbdaaGreatDoor
namespace Go.Vm
open Go.Am
variable {E:Env} {L:Frame} {H:Heap} {nx:Nat} {Q:PV→Heap→Nat→Prop} {dst:Option Tmp} {ty:TypeId} {pos:String} {af:Array Edge} {gd:Option (Nat×Bool)} {w:Bool}
theorem zY {a b:Nat} (h:a<2 ^ 64):a / b<2 ^ 64:=cx (Nat.div_le_self _ _) h
theorem Aa.a2p {t t2:TypeId} {x y:Operand} {a b:Nat} (r:Nat) (hx:AU E.Γ L x=some (.p (.int .u64 (a:Int)))) (hy:AU E.Γ L y=some (.p (.int .u64 (b:Int)))) (he:a+b=r) (h:r<18446744073709551616) (q:Q (.p (.int .u64 (r:Int))) H nx) :
 Aa E w ⟨dst,.binOp .add t x y t2,ty,pos,af,gd⟩ L H nx Q:=Aa.a8t hx hy (by omega) (by grind)
theorem Aa.a4x {t t2:TypeId} {x y:Operand} {a b:Nat} (r:Nat) (hx:AU E.Γ L x=some (.p (.int .u64 (a:Int)))) (hy:AU E.Γ L y=some (.p (.int .u64 (b:Int)))) (he:a &&& b=r) (h:a<2 ^ 64) (h2:b<2 ^ 64) (q:Q (.p (.int .u64 (r:Int))) H nx) :
 Aa E w ⟨dst,.binOp .and t x y t2,ty,pos,af,gd⟩ L H nx Q:=Aa.c0u hx hy h h2 (by grind)
end Go.Vm
namespace Go.Proofs.YtnjkoebfgcbbdaaGreatDoor
open Go Go.Am Go.Vm Go.Pie
attribute [local irreducible] Aa Aj Ah Ad AP Ap Bd BL Bf Ag Vm.Done BA AB
theorem fV (x:Nat) (hx:x<18446744073709551616):Ap env 112 [.int .u64 (x:Int)] (.p (.int .i64 (((Gi x).length:Nat):Int))):=by
 obtain ⟨g1,g2,g3⟩:=(Pop.nJ hx).2;have h1:=b1w hx;obtain ⟨A,hA⟩:∃ A,A=Pop.swA x:=⟨_,rfl⟩
 obtain ⟨B,hB⟩:∃ B,B=Pop.swB A:=⟨_,rfl⟩
 obtain ⟨C,hC⟩:∃ C,C=Pop.swC B:=⟨_,rfl⟩
 obtain ⟨D,hD⟩:∃ D,D=Pop.swD C:=⟨_,rfl⟩
 obtain ⟨F,hF⟩:∃ F,F=Pop.swE D:=⟨_,rfl⟩
 obtain ⟨G,hG⟩:∃ G,G=Pop.swF F:=⟨_,rfl⟩
 rw [← hA] at g1 g2 g3;rw [← hB] at g1 g3;rw [← hC] at g1;have m1:∀ a b:Nat,b<18446744073709551616→a &&& b<18446744073709551616:=fun a b h=>cx Nat.and_le_right h
 obtain ⟨a1,p1⟩:∃ a1,x / 2 ^ 1 &&& 6148914691236517205=a1:=⟨_,rfl⟩
 obtain ⟨a2,p2⟩:∃ a2,x &&& 6148914691236517205=a2:=⟨_,rfl⟩
 obtain ⟨b1,p3⟩:∃ b1,A / 2 ^ 2 &&& 3689348814741910323=b1:=⟨_,rfl⟩
 obtain ⟨b2,p4⟩:∃ b2,A &&& 3689348814741910323=b2:=⟨_,rfl⟩
 obtain ⟨c1,p5⟩:∃ c1,B / 2 ^ 4+B=c1:=⟨_,rfl⟩
 have e1:a1+a2=A:=by rw [← p1,← p2];exact hA.symm
 have e2:b1+b2=B:=by rw [← p3,← p4];exact hB.symm
 have e3:c1 &&& 1085102592571150095=C:=by rw [← p5];exact hC.symm
 have e4:C+C / 2 ^ 8=D:=hD.symm;have e5:D+D / 2 ^ 16=F:=hF.symm;have e6:F+F / 2 ^ 32=G:=hG.symm;have e7:G &&& 127=(Gi x).length:=by rw [← h1];unfold Pop.sw;rw [← hA,← hB,← hC,← hD,← hF,← hG]
 clear hA hB hC hD hF hG h1;obtain ⟨Z,hZ⟩:∃ Z,Z=(Gi x).length:=⟨_,rfl⟩
 rw [← hZ] at e7 ⊢;have e8:PV.p (.int .i64 ((G &&& 127:Nat):Int))=PV.p (.int .i64 (Z:Int)):=by rw [e7]
 refine Ap.enter (Ae (by decide)) Tryz.func112 rfl (by kernel_rfl) (by simp [Tryz.ntmps112]) ?_
 repeat' (first|(apply Aa.a4x a1;rfl;rfl;exact p1;exact zY (by omega);exact Bj rfl)|(apply Aa.a4x a2;rfl;rfl;exact p2;omega;exact Bj rfl)|(apply Aa.a4x b1;rfl;rfl;exact p3;exact zY (by omega);exact Bj rfl)|(apply Aa.a4x b2;rfl;rfl;exact p4;omega;exact Bj rfl)|(apply Aa.c0k;rfl;rfl;exact ⟨by omega,Bj rfl⟩)|(apply Aa.a2p c1;rfl;rfl;exact p5;omega)|(apply Aa.a2p A;rfl;rfl;exact e1;omega)|(apply Aa.a2p B;rfl;rfl;exact e2;omega)|(apply Aa.a2p D;rfl;rfl;exact e4;omega)|(apply Aa.a2p F;rfl;rfl;exact e5;omega)|(apply Aa.a2p G;rfl;rfl;exact e6;omega)|(apply Aa.a4x C;rfl;rfl;exact e3;omega;exact Bj rfl)|refine go2 ?_|(apply Aa.Hw;rfl;rfl;rfl;rfl;omega)|(apply Aa.jK;rfl;rfl;(simp only [IntKind.bits];omega)))
 all_goals first|(exfalso;omega)|((refine Done.rt rfl rfl ⟨?_,rfl,rfl⟩;try rfl);exact e8;done)|(refine Done.rt rfl rfl ⟨?_,rfl,rfl⟩;try rfl)
theorem uJ (s:Jk) (hs:s.Ok):Ap env 67 [.agg (Enc.enc s)] (.p (.int .i64 (((Ea s).length:Nat):Int))):=by
 have h1:=fV s.lo hs.lo;have h2:=fV s.hi hs.hi;have b1:=KG s.lo;have b2:=KG s.hi;rw [qR];refine Ap.enter (Ae (by decide)) Tryz.func67 rfl (by kernel_rfl) (by simp [Tryz.ntmps67]) ?_
 repeat' (first|(apply Aa.fn;rfl;rfl;exact h1;intro _;rfl)|(apply Aa.fn;rfl;rfl;exact h2;intro _;rfl)|refine go2 ?_|fail)
 all_goals first|(exfalso;omega)|(refine Done.rt rfl rfl ⟨?_,rfl,rfl⟩;try rfl)
theorem Y6 (l:List Int) (hl:l.length≤128) (h:∀ x∈l,0≤x∧x≤127):Ap env 106 [.lst 3 (cells l) l.length] (.p (.int .i64 (wid l))):=by
 unfold wid;by_cases h0:l.length=0
 ·rw [if_pos h0]
  refine Ap.enter (Ae (by decide)) Tryz.func106 rfl (by kernel_rfl) (by simp [Tryz.ntmps106]) ?_
  repeat' (first|refine IG ?_|(apply Ad.Ac;rfl)|(intro _;try (exfalso;omega)))
  all_goals first|(exfalso;omega)|(refine Done.rt rfl rfl ⟨?_,rfl,rfl⟩;try rfl)
 ·rw [if_neg h0]
  have h1:=h _ (gi_mem' (show l.length-1<l.length by omega));have h2:=h _ (gi_mem' (show 0<l.length by omega));have hn:(l.length:Int)-1=((l.length-1:Nat):Int):=by omega
  have hz:@gi Int Enc.toInhabited l (nat_lit 0)=gi l 0:=rfl;refine Ap.enter (Ae (by decide)) Tryz.func106 rfl (by kernel_rfl) (by simp [Tryz.ntmps106]) ?_
  repeat' (first|(apply Aa.Ak (l:=l) (i:=l.length-1);rfl;exact congrArg (fun b=>some (PV.p (.int .i64 b))) hn;rfl;omega;rfl)|(apply Aa.Ak (l:=l) (i:=0);rfl;rfl;rfl;omega;rfl)|refine IE ?_|(apply Aa.int;rfl;rfl;rfl)|(apply Ad.Ac;rfl)|(intro _;try (exfalso;omega)))
  all_goals first|(exfalso;omega)|(refine Done.rt rfl rfl ⟨?_,rfl,rfl⟩;try rfl)
def WH (y:bY) (l:List Int):Prop:=(l.length:Int)≤y.hn∧wid l≤y.hs
instance (y:bY) (l:List Int):Decidable (WH y l):=inferInstanceAs (Decidable (_∧_))
theorem a9g (y:bY) (l:List Int) (hl:l.length≤128) (h:∀ x∈l,0≤x∧x≤127):Ap env 60 [.agg (Enc.enc y),.lst 3 (cells l) l.length] (.p (.bool (decide (WH y l)))):=by
 have hw:=Y6 l hl h;by_cases h1:(l.length:Int)≤y.hn;all_goals by_cases h2:wid l≤y.hs
 all_goals first|rw [decide_eq_true (p:=WH y l) ⟨h1,h2⟩]|rw [decide_eq_false (p:=WH y l) (fun h=>h1 h.1)]|rw [decide_eq_false (p:=WH y l) (fun h=>h2 h.2)]
 all_goals generalize wid l=W at *
 all_goals
  refine Ap.enter (Ae (by decide)) Tryz.func60 rfl (by kernel_rfl) (by simp [Tryz.ntmps60]) ?_
 all_goals
  repeat' (first|(apply Aa.fn;rfl;rfl;exact hw;intro _;rfl)|refine IE ?_|(apply Ah.guard;rfl;rfl)|(apply Aa.int;rfl;rfl;rfl)|(intro _;try (exfalso;omega)))
 all_goals first|(exfalso;omega)|(refine Done.rt rfl rfl ⟨?_,rfl,rfl⟩;try rfl)
 all_goals first|exact PV.I8 (decide_eq_true (by omega))|exact PV.I8 (decide_eq_false (by omega))|exact PV.I8 (by simp;omega)
attribute [local irreducible] Ce Ba DV DN En AZ CB
structure Sd8 where
 st:Nat
 lg:Nat
 dv:Nat
 ky:Nat
instance:Enc Sd8:={ default:=⟨0,0,0,0⟩,enc:=fun x=>[.int .u8 (x.st:Int),.int .u8 (x.lg:Int),.int .u8 (x.dv:Int),.int .u8 (x.ky:Int)],size:=4,len:=fun _=>rfl }
structure Mrk where
 bar:Nat
 b:Nat→Nat
instance:Enc Mrk:={ default:=⟨0,fun _=>0⟩,enc:=fun x=>[.int .u8 (x.bar:Int),.int .u8 (x.b 0:Int),.int .u8 (x.b 1:Int),.int .u8 (x.b 2:Int),.int .u8 (x.b 3:Int),.int .u8 (x.b 4:Int)],size:=6,len:=fun _=>rfl }
structure bZ where
 org:OPl
 bars:List UInt8
 notes:List Sd8
 sets:List Mrk
def bZ.enc (x:bZ):List FV:=[.lst 226 (cells x.org.ranks) x.org.ranks.length,.lst 211 (cells x.org.Af) x.org.Af.length,.lst 234 (cells x.org.links) x.org.links.length,
 .lst 5 (cells x.bars) x.bars.length,.lst 170 (cells x.notes) x.notes.length,.lst 176 (cells x.sets) x.sets.length]
structure bZ.Ok (x:bZ):Prop where
 org:x.org.Ok
 nb:x.bars.length<9223372036854775808
 nn:x.notes.length<9223372036854775808
 ns:x.sets.length<9223372036854775808
 notes:∀ i,i<x.notes.length→(gi x.notes i).st<256∧(gi x.notes i).lg<256∧(gi x.notes i).dv<256∧(gi x.notes i).ky<256
 sets:∀ i,i<x.sets.length→(gi x.sets i).bar<256∧∀ j,(gi x.sets i).b j<256
def OW (x:bZ):Prop:=ZC x.org∧(0<x.bars.length∧x.bars.length≤4)∧x.notes.length≤8∧x.sets.length≤3
noncomputable instance (x:bZ):Decidable (OW x):=Classical.propDecidable _
theorem xZ (x:bZ) (hx:x.Ok):Ap env 14 [.agg x.enc] (.p (.bool (decide (OW x)))):=by
 have h1:=a1e x.org hx.org;have b1:=hx.nb;have b2:=hx.nn;have b3:=hx.ns;by_cases c1:ZC x.org
 ·rw [decide_eq_true c1] at h1
  by_cases c2:(0<x.bars.length∧x.bars.length≤4)∧x.notes.length≤8∧x.sets.length≤3
  ·rw [decide_eq_true (p:=OW x) ⟨c1,c2⟩]
   refine Ap.enter (Ae (by decide)) Tryz.func14 rfl (by kernel_rfl) (by simp [Tryz.ntmps14]) ?_
   repeat' (first|(apply Aa.fn;rfl;rfl;exact h1;intro _;rfl)|refine IE ?_|(apply Aj.guard;rfl;rfl)|(apply Aa.int;rfl;rfl;rfl)|(intro _;try (exfalso;omega)))
   all_goals first|(exfalso;omega)|contradiction|(refine Done.rt rfl rfl ⟨?_,rfl,rfl⟩;try rfl)
   all_goals exact PV.I8 (by simp;omega)
  ·rw [decide_eq_false (p:=OW x) (fun h=>c2 h.2)]
   refine Ap.enter (Ae (by decide)) Tryz.func14 rfl (by kernel_rfl) (by simp [Tryz.ntmps14]) ?_
   repeat' (first|(apply Aa.fn;rfl;rfl;exact h1;intro _;rfl)|refine IE ?_|(apply Aj.guard;rfl;rfl)|(apply Aa.int;rfl;rfl;rfl)|(intro _;try (exfalso;omega)))
   all_goals first|(exfalso;omega)|contradiction|(refine Done.rt rfl rfl ⟨?_,rfl,rfl⟩;try rfl)
   all_goals exact PV.I8 (by simp;omega)
 ·rw [decide_eq_false c1] at h1
  rw [decide_eq_false (p:=OW x) (fun h=>c1 h.1)];refine Ap.enter (Ae (by decide)) Tryz.func14 rfl (by kernel_rfl) (by simp [Tryz.ntmps14]) ?_
  repeat' (first|(apply Aa.fn;rfl;rfl;exact h1;intro _;rfl)|refine IE ?_|fail)
  all_goals first|(exfalso;omega)|contradiction|(refine Done.rt rfl rfl ⟨?_,rfl,rfl⟩;try rfl)
def bM (l:List UInt8):Nat→Int
 |0=>0
 |i+1=>bM l i+1+((gi l i).toNat:Int) % 6
theorem kX (l:List UInt8):∀ i:Nat,(i:Int)≤bM l i∧bM l i≤6*i
 |0=>by simp [bM]
 |i+1=>by
  have:=kX l i;unfold bM;omega
def ntP (o:Ia) (z:Int) (y:Sd8):LW :=
 ⟨(y.st:Int) % z,min z ((y.st:Int) % z+1+(y.lg:Int) % 8),(y.dv:Int) % (o.Af.length:Int),
  (gi o.Af ((y.dv:Int) % (o.Af.length:Int)).toNat).lo+(y.ky:Int) % ((gi o.Af ((y.dv:Int) % (o.Af.length:Int)).toNat).hi-(gi o.Af ((y.dv:Int) % (o.Af.length:Int)).toNat).lo+1)⟩
def Hg (o:Ia) (z:Int) (l:List Sd8):Nat→List LW
 |0=>[]
 |k+1=>if (Hg o z l k).any (fun m=>kW m (ntP o z (gi l k)))=true then Hg o z l k else Hg o z l k++[ntP o z (gi l k)]
theorem P5 (o:Ia) (z:Int) (l:List Sd8):∀ k,(Hg o z l k).length≤k
 |0=>ab _
 |k+1=>by
  have:=P5 o z l k;unfold Hg;grind
def NV (nb:Nat) (l:List Mrk):Nat→Int
 |0=>-1
 |k+1=>if ((gi l k).bar:Int) % (nb:Int)>NV nb l k then ((gi l k).bar:Int) % (nb:Int) else NV nb l k
noncomputable def Jh (o:Ia) (nb:Nat) (l:List Mrk):Nat→List vH
 |0=>[]
 |k+1=>if ((gi l k).bar:Int) % (nb:Int)>NV nb l k then Jh o nb l k++[⟨((gi l k).bar:Int) % (nb:Int),Qk o (gi l k).b⟩] else Jh o nb l k
theorem UU (o:Ia) (nb:Nat) (l:List Mrk):∀ k,(Jh o nb l k).length≤k
 |0=>ab _
 |k+1=>by
  have:=UU o nb l k;unfold Jh;grind
noncomputable def b9c (o:Ia) (x:bZ):F7:=⟨Bv (bM x.bars) (x.bars.length+1),Hg o (bM x.bars x.bars.length) x.notes x.notes.length,Jh o x.bars.length x.sets x.sets.length⟩
noncomputable def mkP (x:bZ):F7:=b9c (aC x.org) x
theorem a8f (a b:LW):Ap env 73 [.agg (Enc.enc a),.agg (Enc.enc b)] (.p (.bool (kW a b))):=by
 unfold kW;by_cases h1:a.d=b.d
 case neg =>
  rw [decide_eq_false h1,ew];refine Ap.enter (Ae (by decide)) Tryz.func73 rfl (by kernel_rfl) (by simp [Tryz.ntmps73]) ?_
  repeat' (first|refine O8 ?_|(apply Aj.guard;rfl;rfl)|(intro _;try (exfalso;omega)))
  all_goals first|(exfalso;omega)|contradiction|(refine Done.rt rfl rfl ⟨?_,rfl,rfl⟩;try rfl)
 by_cases h2:a.k=b.k
 case neg =>
  rw [decide_eq_true h1,decide_eq_false h2,ew,cS];refine Ap.enter (Ae (by decide)) Tryz.func73 rfl (by kernel_rfl) (by simp [Tryz.ntmps73]) ?_
  repeat' (first|refine O8 ?_|(apply Aj.guard;rfl;rfl)|(intro _;try (exfalso;omega)))
  all_goals first|(exfalso;omega)|contradiction|(refine Done.rt rfl rfl ⟨?_,rfl,rfl⟩;try rfl)
 by_cases h3:a.s<b.e
 case neg =>
  rw [decide_eq_true h1,decide_eq_true h2,decide_eq_false h3,ew,cS];refine Ap.enter (Ae (by decide)) Tryz.func73 rfl (by kernel_rfl) (by simp [Tryz.ntmps73]) ?_
  repeat' (first|refine O8 ?_|(apply Aj.guard;rfl;rfl)|(intro _;try (exfalso;omega)))
  all_goals first|(exfalso;omega)|contradiction|(refine Done.rt rfl rfl ⟨?_,rfl,rfl⟩;try rfl)
 rw [decide_eq_true h1,decide_eq_true h2,decide_eq_true h3,cS,cS,cS];refine Ap.enter (Ae (by decide)) Tryz.func73 rfl (by kernel_rfl) (by simp [Tryz.ntmps73]) ?_
 repeat' (first|refine O8 ?_|(apply Aj.guard;rfl;rfl)|(intro _;try (exfalso;omega)))
 all_goals first|(exfalso;omega)|contradiction|(refine Done.rt rfl rfl ⟨?_,rfl,rfl⟩;try rfl)
theorem wV (n m:LW):Eh env 72 ([.p (.agg (Enc.enc m))]++[.ref 0 0]) [(0,a1x n)] 1 (.bool (kW m n)):=by
 have h:=a8f m n;refine Eh.enter (Ae (by decide)) Tryz.func72 rfl (by kernel_rfl) (by simp) ?_
 repeat' (first|(apply Aa.fn;rfl;rfl;exact h;intro _;rfl)|refine go2 ?_|fail)
 all_goals first|(exfalso;omega)|(refine Done.ret rfl (.refl _) trivial ?_ (by omega) (ab _) ⟨?_,rfl,rfl⟩;exact DT;try rfl)
theorem pq (x:bZ) (hx:x.Ok) (hf:OW x):Ap env 29 [.agg x.enc] (.D9 [.p (.agg (Enc.enc (aC x.org))),.p (.agg (Enc.enc (mkP x)))]):=by
 obtain ⟨f1,f2,f3,f4⟩:=hf;have hm:=oU x.org hx.org f1;have hT:=qQ x.org hx.org f1;have hdr:=fun i (hi:i<x.sets.length)=>wI (aC x.org) hT (gi x.sets i).b (hx.sets i hi).2
 have hbr:=kX x.bars;unfold mkP b9c;generalize aC x.org=o at *;have d1:=hT.Af;have hsl:(Bv (bM x.bars) (x.bars.length+1)).length=x.bars.length+1:=Cj _ _;refine Ap.enter (Ae (by decide)) Tryz.func29 rfl (by kernel_rfl) (by simp [Tryz.ntmps29]) ?_
 repeat' (first|(apply Aa.fn;rfl;rfl;exact hm;intro _;rfl)|refine go2 ?_|(apply Aa.build;rfl;rfl;rfl;rfl;rfl)|(apply Aa.buildSlice;rfl;rfl;rfl;decide;rfl;rfl;rfl))
 all_goals try (exfalso;omega)
 apply Ad.Fq (x.bars.length) [(1,_),(2,_),(3,_),(4,_),(5,_),(24,_),(25,_)] [(0,_),(1,_),(2,_),(3,_)] (fun k r=>(26,.p (.int .i64 (k:Int)))::r) (fun k r=>(4,.vec 3 (cells (Bv (bM x.bars) (k+1))) (Bv (bM x.bars) (k+1)).length false)::(5,.box 32 [.vec 4 (Bv (bM x.bars) (k+1)).length 0 (Bv (bM x.bars) (k+1)).length,.p (.val (.slice none 0 0)),.p (.val (.slice none 0 0))])::r) 6
 ·first|omega|decide
 ·first|omega|decide
 ·exact Nl
 ·exact O7
 ·intro k hk
  have hl:(Bv (bM x.bars) (k+1)).length=k+1:=Cj _ _;have hg:gi (Bv (bM x.bars) (k+1)) k=bM x.bars k:=D7 _ (by omega);have hb:=hbr k;have hu:=(gi x.bars k).toNat_lt;have e1:Bv (bM x.bars) (k+1+1)=Bv (bM x.bars) (k+1)++[bM x.bars k+1+((gi x.bars k).toNat:Int) % 6]:=rfl;have e2:(Bv (bM x.bars) (k+1+1)).length=(Bv (bM x.bars) (k+1)).length+1:=by rw [e1];simp
  repeat' (first|(apply Aa.PO;rfl;rfl;(first|omega|(simp only [List.length_set]<;>omega));exact congrArg (fun b=>some (FV.int .i64 b)) (hg))|(apply Aa.Dc (a:=(bM x.bars k+1+((gi x.bars k).toNat:Int) % 6));rfl;rfl;rfl;rfl;rfl;rfl;rfl;rfl;(intro _ h;cases h);rfl;rfl;rfl;decide;decide;(first|omega|(simp only [List.length_take,List.length_drop,List.length_append,List.length_singleton,List.length_cons,List.length_nil]<;>omega)))|(apply Aa.Ak;rfl;rfl;rfl;omega;rfl)|(apply Aa.D5;rfl;rfl;rfl;rfl;omega)|refine IE ?_|(apply Aa.int;rfl;rfl;rfl)|(apply Aa.buildSlice;rfl;rfl;rfl;decide;rfl;rfl;rfl)|(apply Aa.Hw;rfl;rfl;rfl;rfl;omega)|(apply Ad.Ac;rfl)|(intro _;try (exfalso;omega)))
  all_goals try (exfalso;omega)
  refine Ag.normal ⟨by first|omega|decide,?_,?_⟩
  ·try (rw [e2,e1])
   exact C9
  ·rw [e2,e1]
   exact DT
 ·have hg:gi (Bv (bM x.bars) (x.bars.length+1)) x.bars.length=bM x.bars x.bars.length:=D7 _ (by omega)
  have hb:=hbr x.bars.length;have hlc:((Bv (bM x.bars) (x.bars.length+1)).length:Int)-1=(x.bars.length:Int):=by omega
  repeat' (first|(apply Aa.PO;rfl;rfl;(first|omega|(simp only [List.length_set]<;>omega));exact congrArg (fun b=>some (FV.int .i64 b)) (hg))|(apply Aa.D5 (l:=Bv (bM x.bars) (x.bars.length+1)) (i:=x.bars.length);rfl;rfl;exact congrArg (fun b=>some (PV.p (.int .i64 b))) hlc;rfl;omega)|(apply Aa.lenV;rfl;rfl;rfl)|refine IE ?_|(apply Aa.int;rfl;rfl;rfl)|(apply Ad.Ac;rfl)|(intro _;try (exfalso;omega)))
  all_goals try (exfalso;omega)
  refine Ad.ghost (Aw.EU 5 1 39 rfl rfl) ?_;refine Ad.ghost (Aw.EU 5 2 182 rfl rfl) ?_;obtain ⟨z,hz⟩:∃ z,z=bM x.bars x.bars.length:=⟨_,rfl⟩
  rw [← hz] at hb ⊢;apply Ad.Fq (x.notes.length) [(1,_),(2,_),(3,_),(4,_),(5,_),(8,_),(56,_),(57,_)] [(0,_),(1,_),(2,_),(3,_),(4,_),(7,_)] (fun k r=>(58,.p (.int .i64 (k:Int)))::r) (fun k r=>(6,.vec 39 (cells (Hg o z x.notes k)) (Hg o z x.notes k).length true)::(5,.box 32 [.vec 4 (Bv (bM x.bars) (x.bars.length+1)).length 0 (Bv (bM x.bars) (x.bars.length+1)).length,.vec 6 (Hg o z x.notes k).length 0 (Hg o z x.notes k).length,.vec 7 0 0 0])::r) 8
  ·first|omega|decide
  ·first|omega|decide
  ·exact Nl
  ·exact O7
  ·intro k hk
   have hl2:=P5 o z x.notes k;obtain ⟨y1,y2,y3,y4⟩:=hx.notes k hk;have hd0:0≤((gi x.notes k).dv:Int) % (o.Af.length:Int):=bz _ (by omega);have hd1:((gi x.notes k).dv:Int) % (o.Af.length:Int)<(o.Af.length:Int):=bw _ (by omega);have hdv:=hT.dv (((gi x.notes k).dv:Int) % (o.Af.length:Int)).toNat (by omega);have hs0:0≤((gi x.notes k).st:Int) % z:=bz _ (by omega);have hs1:((gi x.notes k).st:Int) % z<z:=bw _ (by omega);have hk0:0≤((gi x.notes k).ky:Int) % ((gi o.Af (((gi x.notes k).dv:Int) % (o.Af.length:Int)).toNat).hi-(gi o.Af (((gi x.notes k).dv:Int) % (o.Af.length:Int)).toNat).lo+1):=bz _ (by omega);have hk1:((gi x.notes k).ky:Int) % ((gi o.Af (((gi x.notes k).dv:Int) % (o.Af.length:Int)).toNat).hi-(gi o.Af (((gi x.notes k).dv:Int) % (o.Af.length:Int)).toNat).lo+1)<(gi o.Af (((gi x.notes k).dv:Int) % (o.Af.length:Int)).toNat).hi-(gi o.Af (((gi x.notes k).dv:Int) % (o.Af.length:Int)).toNat).lo+1:=bw _ (by omega);have hany:=yE 72 (ntP o z (gi x.notes k)) (Hg o z x.notes k) true (fun m=>kW m (ntP o z (gi x.notes k))) (by omega) (fun m=>wV (ntP o z (gi x.notes k)) m);have e1:Hg o z x.notes (k+1)=if (Hg o z x.notes k).any (fun m=>kW m (ntP o z (gi x.notes k)))=true then Hg o z x.notes k else Hg o z x.notes k++[ntP o z (gi x.notes k)]:=rfl
   by_cases hb:(Hg o z x.notes k).any (fun m=>kW m (ntP o z (gi x.notes k)))=true
   ·rw [if_pos hb] at e1
    rw [hb] at hany
    repeat' (first|(apply Aa.read [10,6] hany;rfl;rfl;exact .of_eq rfl;exact CS.Az rfl;exact CX rfl;(repeat (first|exact trivial|refine ⟨⟨_,rfl,.of_eq rfl⟩,?_⟩));decide;(intro _ hb;simp at hb<;>omega);rfl)|(apply Aa.makeFunc;rfl;rfl)|(apply Aa.Ak;rfl;rfl;rfl;omega;rfl)|(apply Aa.NJ;rfl;rfl;rfl;omega;omega;rfl)|refine IE ?_|(apply Aa.int;rfl;rfl;rfl)|(apply Aa.build;rfl;rfl;rfl;rfl;rfl)|(apply Aa.b6m;rfl;rfl)|(apply Aa.Hw;rfl;rfl;rfl;rfl;omega)|(apply Ad.Ac;rfl)|(apply Ad.cond_false;rfl)|(intro _;try (exfalso;omega)))
    all_goals try (exfalso;omega)
    refine Ag.normal ⟨by first|omega|decide,?_,?_⟩
    ·try (rw [e1])
     exact C9
    ·rw [e1]
     exact DT
   ·rw [if_neg hb] at e1
    have hb':(Hg o z x.notes k).any (fun m=>kW m (ntP o z (gi x.notes k)))=false:=by simpa using hb
    rw [hb'] at hany;have e2:(Hg o z x.notes (k+1)).length=(Hg o z x.notes k).length+1:=by rw [e1];simp
    repeat' (first|(apply Aa.read [10,6] hany;rfl;rfl;exact .of_eq rfl;exact CS.Az rfl;exact CX rfl;(repeat (first|exact trivial|refine ⟨⟨_,rfl,.of_eq rfl⟩,?_⟩));decide;(intro _ hb;simp at hb<;>omega);rfl)|(apply Aa.makeFunc;rfl;rfl)|(apply Aa.Dc (a:=ntP o z (gi x.notes k));rfl;rfl;rfl;rfl;rfl;rfl;rfl;rfl;(intro _ h;cases h);rfl;rfl;rfl;decide;decide;(first|omega|(simp only [List.length_take,List.length_drop,List.length_append,List.length_singleton,List.length_cons,List.length_nil]<;>omega)))|(apply Aa.Ak;rfl;rfl;rfl;omega;rfl)|(apply Aa.NJ;rfl;rfl;rfl;omega;omega;rfl)|refine IE ?_|(apply Aa.int;rfl;rfl;rfl)|(apply Aa.build;rfl;rfl;rfl;rfl;rfl)|(apply Aa.buildSlice;rfl;rfl;rfl;decide;rfl;rfl;rfl)|(apply Aa.b6m;rfl;rfl)|(apply Aa.Hw;rfl;rfl;rfl;rfl;omega)|(apply Ad.Ac;rfl)|(apply Ad.cond_true;rfl)|(intro _;try (exfalso;omega)))
    all_goals try (exfalso;omega)
    refine Ag.normal ⟨by first|omega|decide,?_,?_⟩
    ·try (rw [e2,e1])
     exact C9
    ·rw [e2,e1]
     exact DT
  ·have hl2:=P5 o z x.notes x.notes.length
   repeat' (first|refine IG ?_|(apply Ad.Ac;rfl)|(intro _;try (exfalso;omega)))
   all_goals try (exfalso;omega)
   apply Ad.Fq (x.sets.length) [(1,_),(2,_),(3,_),(4,_),(5,_),(119,_),(120,_)] [(0,_),(1,_),(2,_),(3,_),(4,_),(6,_)] (fun k r=>(121,.p (.int .i64 (k:Int)))::(14,.p (.int .i64 (NV x.bars.length x.sets k)))::r) (fun k r=>(7,.vec 182 (cells (Jh o x.bars.length x.sets k)) (Jh o x.bars.length x.sets k).length true)::(5,.box 32 [.vec 4 (Bv (bM x.bars) (x.bars.length+1)).length 0 (Bv (bM x.bars) (x.bars.length+1)).length,.vec 6 (Hg o z x.notes x.notes.length).length 0 (Hg o z x.notes x.notes.length).length,.vec 7 (Jh o x.bars.length x.sets k).length 0 (Jh o x.bars.length x.sets k).length])::r) 8
   ·first|omega|decide
   ·first|omega|decide
   ·exact Nl
   ·exact O7
   ·intro k hk
    have hl3:=UU o x.bars.length x.sets k;have hy:=(hx.sets k hk).1;have hdk:=hdr k hk;have hb0:0≤((gi x.sets k).bar:Int) % (x.bars.length:Int):=bz _ (by omega);have hb1:((gi x.sets k).bar:Int) % (x.bars.length:Int)<(x.bars.length:Int):=bw _ (by omega);have e1:Jh o x.bars.length x.sets (k+1)=if ((gi x.sets k).bar:Int) % (x.bars.length:Int)>NV x.bars.length x.sets k then Jh o x.bars.length x.sets k++[⟨((gi x.sets k).bar:Int) % (x.bars.length:Int),Qk o (gi x.sets k).b⟩] else Jh o x.bars.length x.sets k:=rfl
    have e3:NV x.bars.length x.sets (k+1)=if ((gi x.sets k).bar:Int) % (x.bars.length:Int)>NV x.bars.length x.sets k then ((gi x.sets k).bar:Int) % (x.bars.length:Int) else NV x.bars.length x.sets k:=rfl
    by_cases hc:((gi x.sets k).bar:Int) % (x.bars.length:Int)>NV x.bars.length x.sets k
    ·rw [if_pos hc] at e1 e3
     have e2:(Jh o x.bars.length x.sets (k+1)).length=(Jh o x.bars.length x.sets k).length+1:=by rw [e1];simp
     repeat' (first|(apply Aa.fn;rfl;rfl;exact hdk;intro _;rfl)|(apply Aa.Dc (a:=(⟨((gi x.sets k).bar:Int) % (x.bars.length:Int),Qk o (gi x.sets k).b⟩:vH));rfl;rfl;rfl;rfl;rfl;rfl;rfl;rfl;(intro _ h;cases h);rfl;rfl;rfl;decide;decide;(first|omega|(simp only [List.length_take,List.length_drop,List.length_append,List.length_singleton,List.length_cons,List.length_nil]<;>omega)))|(apply Aa.Ak;rfl;rfl;rfl;omega;rfl)|refine IE ?_|(apply Aa.int;rfl;rfl;rfl)|(apply Aa.build;rfl;rfl;rfl;rfl;rfl)|(apply Aa.buildSlice;rfl;rfl;rfl;decide;rfl;rfl;rfl)|(apply Aa.Hw;rfl;rfl;rfl;rfl;omega)|(apply Ad.Ac;rfl)|(apply Ad.Ar;rfl)|(intro _;try (exfalso;omega)))
     all_goals try (exfalso;omega)
     refine Ag.normal ⟨by first|omega|decide,?_,?_⟩
     ·try (first|rw [e2,e1]|rw [e3])
      exact C9
     ·first|rw [e2,e1]|rw [e3]
      exact DT
    ·rw [if_neg hc] at e1 e3
     repeat' (first|(apply Aa.Ak;rfl;rfl;rfl;omega;rfl)|refine IG ?_|(apply Aa.Hw;rfl;rfl;rfl;rfl;omega)|(apply Ad.Ac;rfl)|(apply Ad.Ar;rfl)|(intro _;try (exfalso;omega)))
     all_goals try (exfalso;omega)
     refine Ag.normal ⟨by first|omega|decide,?_,?_⟩
     ·try (first|rw [e1]|rw [e3])
      exact C9
     ·first|rw [e1]|rw [e3]
      exact DT
   ·have hl3:=UU o x.bars.length x.sets x.sets.length
    have hsl':(Bv (bM x.bars) (x.bars.length+1)).length=x.bars.length+1:=hsl
    repeat' (first|(refine Ad.at 27 ?_;refine Ad.ghost (Aw.trans (Aw.Dn 5 0 rfl rfl rfl) (Aw.trans (Aw.Dn 5 1 rfl rfl rfl) (Aw.Dn 5 2 rfl rfl rfl))) ?_;first|apply Ad.Bz|apply Ad.Cm)|(refine Ah.atIdx 2 ?_;apply Ah.weak [.tmp 5];decide +kernel;rfl;rfl;(first|exact UK.ref rfl|exact UK.vec rfl|exact UK.FB rfl);decide +kernel;rfl)|apply Ad.Bz|apply Ad.EN|apply BL.normal|apply Bf.exit|apply Ag.exit|apply Ad.ret|apply Aj.nil|apply Ah.nil|apply Aj.one|(apply Ah.bar;decide +kernel)|apply Ah.quiet|(apply Aa.int;rfl;rfl;rfl)|(apply Aa.load;rfl;rfl)|(apply Aa.FI;rfl;rfl;rfl;trivial;rfl;rfl;exact Bj rfl;exact le_dec rfl)|(apply Ad.Ac;rfl)|(intro _;try (exfalso;omega)))
    all_goals first|(exfalso;omega)|(refine Done.rt rfl rfl ⟨?_,rfl,rfl⟩;try rfl)
end Go.Proofs.YtnjkoebfgcbbdaaGreatDoor
namespace Go.Proofs.YtnjkoebfgcbbdaaGreatDoor
open Go Go.Am Go.Vm
theorem YM (x n:Nat):(x &&& (2 ^ n-1)) / 2 ^ n=0 :=by simp
theorem a2i (o:Ia) (ho:wB o) (b:Nat→Nat) (hb:∀ i,b i<256):(Qk o b).Ok:=by
 have r2:=ho.Af;have l:=Cj (G5 o b) o.Af.length;refine ⟨fun i hi=>?_,?_,?_,?_⟩
 ·have hi:i<(Bv (G5 o b) o.Af.length).length:=hi
  rw [l] at hi;show gi (Bv (G5 o b) o.Af.length) i<_;rw [D7 _ hi];have:=hb (i % 3);have:G5 o b i≤b (i % 3):=fh;omega
 ·have:=hb 3
  have:b 3 &&& (2 ^ o.II.length-1)≤b 3:=fh;show b 3 &&& (2 ^ o.II.length-1)<_;omega
 ·have:=hb 4
  have:b 4 &&& (2 ^ o.Af.length-1)≤b 4:=fh;show b 4 &&& (2 ^ o.Af.length-1)<_;omega
 ·show (Bv (G5 o b) o.Af.length).length<_
  omega
theorem wJ (o:Ia) (b:Nat→Nat):Wx o (Qk o b)=0:=by
 have l:=Cj (G5 o b) o.Af.length;rw [iW (show (Bv (G5 o b) o.Af.length).length=_ from l) fun i hi=>?_]
 ·rw [if_neg]
  intro h;rcases h with h|h
  ·exact h (YM _ _)
  ·exact h (YM _ _)
 ·have hi:i<(Bv (G5 o b) o.Af.length).length:=hi
  rw [l] at hi;show gi (Bv (G5 o b) o.Af.length) i / _=0;rw [D7 _ hi];exact YM _ _
open Go.Pie
attribute [local irreducible] Ce Ba DV DN En AZ CB
structure NtR (o:Ia) (z:Int) (n:LW):Prop where
 d:0≤n.d∧n.d<o.Af.length
 k:(gi o.Af n.d.toNat).lo≤n.k∧n.k≤(gi o.Af n.d.toNat).hi
 r:0≤n.s∧n.s<n.e∧n.e≤z
theorem b9b {o:Ia} (ho:wB o) {z:Int} (hz:0<z) (y:Sd8):NtR o z (ntP o z y):=by
 have hd:=ho.Af;have e1:=bz (y.dv:Int) (show (o.Af.length:Int)≠0 by omega);have e2:=bw (y.dv:Int) (show 0<(o.Af.length:Int) by omega);have e3:=bz (y.st:Int) (show z≠0 by omega);have e4:=bw (y.st:Int) hz;have hv:=ho.dv ((y.dv:Int) % (o.Af.length:Int)).toNat (by omega);refine ⟨⟨e1,e2⟩,?_,?_⟩
 ·show (gi o.Af ((y.dv:Int) % (o.Af.length:Int)).toNat).lo≤(gi o.Af ((y.dv:Int) % (o.Af.length:Int)).toNat).lo+(y.ky:Int) % ((gi o.Af ((y.dv:Int) % (o.Af.length:Int)).toNat).hi-(gi o.Af ((y.dv:Int) % (o.Af.length:Int)).toNat).lo+1)∧(gi o.Af ((y.dv:Int) % (o.Af.length:Int)).toNat).lo+(y.ky:Int) % ((gi o.Af ((y.dv:Int) % (o.Af.length:Int)).toNat).hi-(gi o.Af ((y.dv:Int) % (o.Af.length:Int)).toNat).lo+1)≤(gi o.Af ((y.dv:Int) % (o.Af.length:Int)).toNat).hi
  generalize gi o.Af ((y.dv:Int) % (o.Af.length:Int)).toNat=D at *;have e5:=bz (y.ky:Int) (show D.hi-D.lo+1≠0 by omega);have e6:=bw (y.ky:Int) (show 0<D.hi-D.lo+1 by omega);omega
 ·show 0≤(y.st:Int) % z∧(y.st:Int) % z<min z ((y.st:Int) % z+1+(y.lg:Int) % 8)∧min z ((y.st:Int) % z+1+(y.lg:Int) % 8)≤z
  omega
theorem a8l {o:Ia} (ho:wB o) {z:Int} (hz:0<z) (l:List Sd8):∀ k,∀ i,i<(Hg o z l k).length→NtR o z (gi (Hg o z l k) i)∧∀ j,j<i→kW (gi (Hg o z l k) j) (gi (Hg o z l k) i)=false
 |0,i,hi=>by contradiction
 |k+1,i,hi=>by
  have ih:=a8l ho hz l k;unfold Hg at hi ⊢;split at hi
  ·grind
  ·rename_i h1
   rw [if_neg h1];rw [aw] at hi;have hi':i<(Hg o z l k).length+1:=hi;by_cases e:i<(Hg o z l k).length
   ·obtain ⟨q1,q2⟩:=ih i e
    rw [H9,if_pos e];refine ⟨q1,fun j hj=>?_⟩;rw [H9,if_pos (by omega)];grind
   ·obtain rfl:i=(Hg o z l k).length:=by omega
    rw [H9,if_neg (by omega),if_pos rfl];refine ⟨b9b ho hz _,fun j hj=>?_⟩;rw [H9,if_pos hj];have h2:=(Zh (l:=Hg o z l k) (f:=fun m=>kW m (ntP o z (gi l k))) (i:=(Hg o z l k).length) (ab _)).1 (by grind);grind
theorem qh {nb:Nat} (h:0<nb) (l:List Mrk):∀ k,-1≤NV nb l k∧NV nb l k<nb
 |0=>by simp only [NV];omega
 |k+1=>by
  have:=qh h l k;have e2:=bw ((gi l k).bar:Int) (show 0<(nb:Int) by omega);unfold NV;split<;>omega
theorem a3y (o:Ia) {nb:Nat} (h:0<nb) (l:List Mrk):∀ k,k≤l.length→∀ i,i<(Jh o nb l k).length→(0≤(gi (Jh o nb l k) i).bar∧(gi (Jh o nb l k) i).bar≤NV nb l k) ∧
 (0<i→(gi (Jh o nb l k) (i-1)).bar<(gi (Jh o nb l k) i).bar)∧∃ m,m<l.length∧(gi (Jh o nb l k) i).reg=Qk o (gi l m).b
 |0,_,i,hi=>by contradiction
 |k+1,hk,i,hi=>by
  have ih:=a3y o h l k (by omega);have e1:=bz ((gi l k).bar:Int) (show (nb:Int)≠0 by omega);have q1:Jh o nb l (k+1)=if ((gi l k).bar:Int) % (nb:Int)>NV nb l k then Jh o nb l k++[⟨((gi l k).bar:Int) % (nb:Int),Qk o (gi l k).b⟩] else Jh o nb l k:=rfl
  have q2:NV nb l (k+1)=if ((gi l k).bar:Int) % (nb:Int)>NV nb l k then ((gi l k).bar:Int) % (nb:Int) else NV nb l k:=rfl
  rw [q1] at hi;rw [q1,q2];by_cases h1:((gi l k).bar:Int) % (nb:Int)>NV nb l k
  ·rw [if_pos h1] at hi
   rw [if_pos h1,if_pos h1];rw [aw] at hi;have hi':i<(Jh o nb l k).length+1:=hi;by_cases e:i<(Jh o nb l k).length
   ·obtain ⟨q1,q2,q3⟩:=ih i e
    rw [H9,if_pos e];refine ⟨by omega,fun h0=>?_,q3⟩;rw [H9,if_pos (by omega)];exact q2 h0
   ·obtain rfl:i=(Jh o nb l k).length:=by omega
    rw [H9,if_neg (by omega),if_pos rfl];refine ⟨⟨e1,bc _⟩,fun h0=>?_,k,by omega,rfl⟩;rw [H9,if_pos (by omega)];have:=(ih ((Jh o nb l k).length-1) (by omega)).1;show _<((gi l k).bar:Int) % (nb:Int);omega
  ·rw [if_neg h1] at hi
   rw [if_neg h1,if_neg h1];exact ih i hi
theorem UD (x:bZ) {i:Nat} (h:i≤x.bars.length):gi (mkP x).bars i=bM x.bars i:=D7 _ (by omega)
theorem qO (x:bZ):(mkP x).bars.length=x.bars.length+1:=Cj _ _
theorem b1a (x:bZ):O6 (mkP x)=0:=UD x (an _)
theorem b2x (x:bZ):Pn (mkP x)=bM x.bars x.bars.length:=by
 unfold Pn;rw [qO];exact UD x (by omega)
theorem b3d (l:List UInt8) (i:Nat):bM l i<bM l (i+1):=by
 show _<bM l i+1+((gi l i).toNat:Int) % 6;omega
theorem b4k (x:bZ) (hx:x.Ok) (hf:OW x):xq (aC x.org) (mkP x):=by
 have ho:=qQ x.org hx.org hf.1;obtain ⟨_,⟨f1,f2⟩,f3,f4⟩:=hf;have hz:0<bM x.bars x.bars.length:=by have:=(kX x.bars x.bars.length).1;omega
 have hN:=a8l ho hz x.notes x.notes.length;have lN:=P5 (aC x.org) (bM x.bars x.bars.length) x.notes x.notes.length;have hS:=a3y (aC x.org) f1 x.sets x.sets.length (ab _);have lS:=UU (aC x.org) x.bars.length x.sets x.sets.length;have hl:=qh f1 x.sets x.sets.length;have eN:(mkP x).notes=Hg (aC x.org) (bM x.bars x.bars.length) x.notes x.notes.length:=rfl;have eS:(mkP x).sets=Jh (aC x.org) x.bars.length x.sets x.sets.length:=rfl;have eL:=qO x;refine yH ⟨by omega,by grind,by grind,fun i hi=>?_⟩ (by omega) (fun i hi=>?_) (by grind) (fun i hi=>?_) (by grind) fun i hi=>?_
 ·rw [eS] at hi ⊢
  obtain ⟨_,_,m,hm,e⟩:=hS i hi;rw [e];exact a2i _ ho _ (hx.sets m hm).2
 ·rw [UD x (by omega)]
  have:=kX x.bars i;refine ⟨by omega,fun h0=>?_⟩;rw [UD x (by omega)];have:=b3d x.bars (i-1)
  rwa [show i-1+1=i by omega] at this
 ·obtain ⟨⟨q1,q2,q3⟩,q4⟩:=hN i (by rw [← eN];exact hi)
  exact ⟨q1,q2,by rw [b1a,b2x];exact q3,q4⟩
 ·rw [eS] at hi ⊢
  obtain ⟨q1,q2,m,_,e⟩:=hS i hi;refine ⟨by omega,q2,?_⟩;rw [e];exact wJ _ _
theorem b0k (x:bZ) (hx:x.Ok) (hf:OW x):XV (aC x.org) (mkP x)=0:=by
 unfold XV;rw [if_neg (fun h=>h (qQ x.org hx.org hf.1).ok)];exact (b4k x hx hf).err
attribute [local irreducible] Aa Aj Ah Ad AP Ap Bd BL Bf Ag Vm.Done BA AB
structure Qu where
 o:Ia
 p:F7
 y:bY
instance:Enc Qu:={ default:=⟨default,default,default⟩,enc:=fun x=>Enc.enc x.o++(Enc.enc x.p++Enc.enc x.y),size:=11,len:=fun x=>by rw [aw,aw,Enc.len,Enc.len,Enc.len];rfl }
structure Jy (q:Qu):Prop where
 o:a3p q.o
 e:XV q.o q.p=0
 p:xq q.o q.p
 y:q.y.Ok
def GR (q:Qu) (i:Nat):Bool:=(gi q.o.Af (gi q.p.notes i).d.toNat).W9
def dH (q:Qu) (N:List Int):Prop:=∀ i,i<N.length→0≤gi N i∧gi N i<q.p.notes.length
theorem Nz (q:Qu) (hq:Jy q) (i:Nat) (hi:i<q.p.notes.length):Eh env 85 ([.p (.agg (Enc.enc q)),.p (.int .i64 (i:Int))]++[]) [] 0 (.bool (GR q i)):=by
 have hN:=hq.p.note i hi;obtain ⟨j,hj⟩:∃ j:Nat,(gi q.p.notes i).d=(j:Int):=⟨(gi q.p.notes i).d.toNat,by have:=hN.d;omega⟩
 have hjn:j<q.o.Af.length:=by have:=hN.d;omega
 have hb:GR q i=(gi q.o.Af j).W9:=by unfold GR;grind
 rw [hb];refine Eh.enter (Ae (by decide)) Tryz.func85 rfl (by kernel_rfl) (by simp) ?_
 repeat' (first|(apply Aa.Ak (l:=q.p.notes) (i:=i);rfl;rfl;rfl;omega;rfl)|(apply Aa.Ak (l:=q.o.Af) (i:=j);rfl;exact congrArg (fun b=>some (PV.p (.int .i64 b))) hj;rfl;omega;rfl)|refine go2 ?_|fail)
 all_goals first|(exfalso;omega)|(refine Done.ret rfl (.refl _) trivial ?_ (by omega) (ab _) ⟨?_,rfl,rfl⟩;exact DT;try rfl)
def hasB (l:List Int) (h:Int) (i:Nat):Bool:=decide (gi l i=h)
def lhB (l:List Int) (h:Int):Heap:=[(0,.box 28 [.p (.lst 3 (cells l) l.length)]),(1,.box 3 [.p (.int .i64 h)])]
theorem vw (l:List Int) (h:Int) (i:Nat) (hi:i<l.length):Eh env 124 ([.p (.int .i64 (i:Int))]++[.ref 0 0,.ref 1 0]) (lhB l h) 2 (.bool (hasB l h i)):=by
 unfold lhB hasB;refine Eh.enter (Ae (by decide)) Tryz.func124 rfl (by kernel_rfl) (by simp [Tryz.ntmps124]) ?_
 repeat' (first|(apply Aa.Ak;rfl;rfl;rfl;omega;rfl)|refine IG ?_|fail)
 all_goals first|(exfalso;omega)|(refine Done.ret rfl (.refl _) trivial ?_ (by omega) (ab _) ⟨?_,rfl,rfl⟩;exact DT;try rfl)
def tq (p:F7) (N:List Int) (is:Nat→Bool) (d:Nat):Nat→List Int
 |0=>[]
 |k+1=>if is (gi N k).toNat=true∧(gi p.notes (gi N k).toNat).d=(d:Int) then tq p N is d k++[(gi p.notes (gi N k).toNat).k] else tq p N is d k
theorem Qi (p:F7) (N:List Int) (is:Nat→Bool) (d k:Nat):tq p N is d (k+1)=if is (gi N k).toNat=true∧(gi p.notes (gi N k).toNat).d=(d:Int) then tq p N is d k++[(gi p.notes (gi N k).toNat).k] else tq p N is d k:=rfl
def bW (p:F7) (N:List Int) (is:Nat→Bool) (k d:Nat):Jk:=SE (tq p N is d k) (tq p N is d k).length
theorem ofK_left' (l:List Int) (x:Int):∀ k,k≤l.length→SE (l++[x]) k=SE l k
 |0,_=>rfl
 |k+1,h=>by
  show FW (SE (l++[x]) k) (gi (l++[x]) k).toNat=FW (SE l k) (gi l k).toNat;rw [ofK_left' l x k (by omega),UR (by omega)]
theorem ofK_snoc' (l:List Int) (x:Int):SE (l++[x]) (l++[x]).length=FW (SE l l.length) x.toNat:=by
 rw [aw];show FW (SE (l++[x]) l.length) (gi (l++[x]) l.length).toNat=_;rw [ofK_left' l x _ (ab _),aB]
theorem qg (p:F7) (N:List Int) (is:Nat→Bool) (k d:Nat):bW p N is (k+1) d=if is (gi N k).toNat=true∧(gi p.notes (gi N k).toNat).d=(d:Int) then FW (bW p N is k d) (gi p.notes (gi N k).toNat).k.toNat else bW p N is k d:=by
 unfold bW;rw [Qi];split
 ·exact ofK_snoc' _ _
 ·rfl
theorem YI (p:F7) (N:List Int) (is:Nat→Bool):∀ n,List.replicate n (⟨0,0⟩:Jk)=Bv (bW p N is 0) n
 |0=>rfl
 |n+1=>by
  rw [gN,YI p N is n];rfl
theorem zB {p:F7} {N:List Int} {is:Nat→Bool} {k n j:Nat} (hj:j<n) (hi:is (gi N k).toNat=true) (h:(gi p.notes (gi N k).toNat).d=(j:Int)):(Bv (bW p N is k) n).set j (FW (gi (Bv (bW p N is k) n) j) (gi p.notes (gi N k).toNat).k.toNat)=Bv (bW p N is (k+1)) n:=by
 refine Kt (by rw [cH,Cj,Cj]) fun i hi'=>?_
 rw [cH,Cj] at hi';rw [Gm,D7 _ hi',D7 _ hi',D7 _ hj,Cj,qg];grind
theorem pK {p:F7} {N:List Int} {is:Nat→Bool} {k n:Nat} (hi:is (gi N k).toNat=false):Bv (bW p N is (k+1)) n=Bv (bW p N is k) n:=Ql fun d _=>by
 rw [qg,if_neg (fun h=>by grind)]
theorem U4 {q:Qu} (hq:Jy q) {N:List Int} (hN:dH q N) {is:Nat→Bool} {d:Nat}:∀ k,k≤N.length→∀ i,i<(tq q.p N is d k).length→0≤gi (tq q.p N is d k) i∧gi (tq q.p N is d k) i≤127
 |0,_,i,hi=>absurd hi (bo _)
 |k+1,hk,i,hi=>by
  have ih:=U4 hq hN (is:=is) (d:=d) k (by omega);rw [Qi] at hi ⊢;split
  ·rename_i c
   rw [if_pos c,aw] at hi;have hi:i<(tq q.p N is d k).length+1:=hi;by_cases e:i<(tq q.p N is d k).length
   ·rw [UR e];grind
   ·obtain rfl:i=(tq q.p N is d k).length:=by omega
    rw [aB];have hn:=hN k (by omega);have hh:=hq.p.note (gi N k).toNat (by omega);have h1:=hq.o.cmp (i:=(gi q.p.notes (gi N k).toNat).d.toNat) (by have:=hh.d;omega);have:=hh.k;omega
  grind
theorem sK (a:Jk) (n:Nat):uV a (FW ⟨0,0⟩ n)=FW a n:=by
 unfold uV FW;split<;>simp
def cu (q:Qu) (N:List Int) (is:Nat→Bool):List Jk:=Bv (bW q.p N is N.length) q.o.Af.length
theorem vK (q:Qu) (hq:Jy q) (N:List Int) (hN:dH q N) (hNl:N.length≤1000):Eh env 62 [.p (.agg (Enc.enc q)),.p (.lst 3 (cells N) N.length),.clo 85 [.p (.agg (Enc.enc q))] []] [] 0 (.lst 84 (cells (cu q N (GR q))) (cu q N (GR q)).length):=by
 have his:=fun m hm=>Nz q hq m hm
 generalize hIs:GR q=is at *;have n1:=hq.p.notes;have d1:=hq.o.Af;have hV0:=YI q.p N is q.o.Af.length;have hKl:(cu q N is).length=q.o.Af.length:=Cj _ _;rw [hKl];unfold cu;refine Eh.enter (Ae (by decide)) Tryz.func62 rfl (by kernel_rfl) (by simp [Tryz.ntmps62]) ?_
 repeat' (first|(apply Aa.OB q.o.Af.length (⟨0,0⟩:Jk);rfl;rfl;rfl;rfl;rfl;rfl;rfl;omega;decide;decide;rfl)|refine go2 ?_|fail)
 all_goals try (exfalso;omega)
 rw [hV0];apply Ad.Fq (N.length) [(2,_),(3,_),(7,_),(18,_),(19,_)] [(0,_)] (fun k r=>(20,.p (.int .i64 (k:Int)))::r) (fun k r=>(1,.vec 84 (cells (Bv (bW q.p N is k) q.o.Af.length)) q.o.Af.length false)::r) 2
 ·first|omega|decide
 ·first|omega|decide
 ·exact Nl
 ·exact O7
 ·intro k hk
  obtain ⟨g1,g2⟩:=hN k hk;obtain ⟨m,hm⟩:∃ m:Nat,gi N k=(m:Int):=⟨(gi N k).toNat,by omega⟩
  have hm2:m<q.p.notes.length:=by omega
  have hc:=his m hm2;rw [← hm] at hc;cases hi:is m with
  |false =>
   have e1:=pK (p:=q.p) (N:=N) (is:=is) (k:=k) (n:=q.o.Af.length) (by rw [hm,ba];exact hi);rw [hi] at hc
   repeat' (first|(apply Aa.read [] hc;rfl;rfl;exact .of_eq rfl;exact CS.Az rfl;exact CX rfl;(repeat (first|exact trivial|refine ⟨⟨_,rfl,.of_eq rfl⟩,?_⟩));decide;(intro _ hb;simp at hb<;>omega);rfl)|(apply Aa.Ak;rfl;rfl;rfl;omega;rfl)|refine go2 ?_|(apply Aa.int;rfl;rfl;rfl)|(apply Ad.Ac;rfl)|(apply Ad.cond_false;rfl)|(intro _;try (exfalso;omega)))
   all_goals try (exfalso;omega)
   all_goals try contradiction
   refine Ag.normal ⟨by first|omega|decide,?_,?_⟩
   ·try (rw [e1])
    exact C9
   ·rw [e1]
    exact DT
  |true =>
   have hNt:=hq.p.note m hm2;obtain ⟨j,hj⟩:∃ j:Nat,(gi q.p.notes m).d=(j:Int):=⟨(gi q.p.notes m).d.toNat,by have:=hNt.d;omega⟩
   have hjn:j<q.o.Af.length:=by have:=hNt.d;omega
   have hcm:=hq.o.cmp (i:=j) hjn;have hk2:=hNt.k;rw [hj,ba] at hk2;obtain ⟨z,hz⟩:∃ z:Nat,(gi q.p.notes m).k=(z:Int):=⟨(gi q.p.notes m).k.toNat,by omega⟩
   have hz2:z<128:=by omega
   have e1:=zB (p:=q.p) (N:=N) (is:=is) (k:=k) hjn (by rw [hm,ba];exact hi) (by rw [hm,ba];exact hj);rw [hm,ba,hz,ba,← sK] at e1;have hsl:(Bv (bW q.p N is k) q.o.Af.length).length=q.o.Af.length:=Cj _ _;have hok:(gi (Bv (bW q.p N is k) q.o.Af.length) j).Ok:=by
    rw [D7 _ hjn];exact SC (U4 hq hN k (by omega)) _ (ab _)
   have hof:=Ud [(gi q.p.notes m).k] (by simp) (fun i hi=>by
    have:i=0:=by simpa using hi
    subst this;show 0≤(gi q.p.notes m).k∧(gi q.p.notes m).k≤127;omega)
   have hoe:SE [(gi q.p.notes m).k] [(gi q.p.notes m).k].length=FW ⟨0,0⟩ z:=by
    show FW ⟨0,0⟩ ((gi q.p.notes m).k).toNat=_;rw [hz,ba]
   rw [hoe] at hof;have hun:=Pq (gi (Bv (bW q.p N is k) q.o.Af.length) j) (FW ⟨0,0⟩ z) hok (ak TN hz2);rw [hi] at hc;generalize Bv (bW q.p N is k) q.o.Af.length=V at *;generalize hW:(FW ⟨0,0⟩ z:Jk)=W at *
   repeat' (first|(refine Aj.HY 37 ?_;refine Aj.ghost (Aw.freeze 36 rfl rfl) ?_)|apply Ad.Bz|apply Ad.region|apply Ad.Fg|apply Ad.Gg|apply Ad.Fz|apply BL.normal|apply Bf.normal|apply Aj.nil|apply Ah.nil|apply Aj.one|(apply Ah.bar;decide +kernel)|apply Ah.quiet|(apply Aa.read [] hc;rfl;rfl;exact .of_eq rfl;exact CS.Az rfl;exact CX rfl;(repeat (first|exact trivial|refine ⟨⟨_,rfl,.of_eq rfl⟩,?_⟩));decide;(intro _ hb;simp at hb<;>omega);rfl)|(apply Aa.fn;rfl;rfl;exact hof;intro _;rfl)|(apply Aa.fn;rfl;rfl;exact hun;intro _;rfl)|(apply Aa.Ak (l:=q.p.notes) (i:=m);rfl;exact congrArg (fun b=>some (PV.p (.int .i64 b))) hm;rfl;omega;rfl)|(apply Aa.D5 (l:=V) (i:=j);rfl;rfl;exact congrArg (fun b=>some (PV.p (.int .i64 b))) hj;rfl;omega)|(apply Aa.PO (l:=V) (i:=j);rfl;rfl;omega;rfl)|(apply Aa.Ko (l:=V) (i:=j) (y:=uV (gi V j) W);rfl;rfl;rfl;trivial;rfl;rfl;rfl;decide;omega)|(apply Aa.assign;rfl)|(apply Aa.move;rfl)|(apply Aa.LQ;rfl;rfl;omega)|(apply Aa.int;rfl;rfl;rfl)|(apply Aa.Ak;rfl;rfl;rfl;omega;rfl)|(apply Aa.load;rfl;rfl)|(apply Aa.Ij;rfl;rfl;rfl)|(apply Aa.alloc;rfl)|(apply Aa.FI;rfl;rfl;rfl;trivial;rfl;rfl;exact Bj rfl;exact le_dec rfl)|(apply Aa.buildSlice;rfl;rfl;rfl;decide;rfl;rfl;rfl)|(apply Aa.extract;rfl;rfl)|(apply Ad.Ac;rfl)|(apply Ad.cond_true;rfl)|(intro _;try (exfalso;omega)))
   all_goals try (exfalso;omega)
   all_goals try contradiction
   refine Ag.normal ⟨by first|omega|decide,?_,?_⟩
   ·try (rw [← e1])
    exact C9
   ·rw [← e1]
    exact DT
 ·repeat' (first|(refine Ad.at 10 ?_;refine Ad.ghost (Aw.freeze 7 rfl rfl) ?_;first|apply Ad.Bz|apply Ad.Cm)|apply Ad.Bz|refine go0 ?_|(apply Ad.Ac;rfl)|(intro _;try (exfalso;omega)))
  all_goals first|(exfalso;omega)|(refine Done.ret rfl (.refl _) trivial ?_ (by omega) (ab _) ⟨?_,rfl,rfl⟩;exact DT;try rfl)
theorem xE (q:Qu) (hq:Jy q) (N:List Int) (hN:dH q N) (hNl:N.length≤1000) (l:List Int) (h:Int) (hl:l.length=q.p.notes.length):Eh env 62 [.p (.agg (Enc.enc q)),.p (.lst 3 (cells N) N.length),.clo 124 [] [.ref 0 0,.ref 1 0]] (lhB l h) 2 (.lst 84 (cells (cu q N (hasB l h))) (cu q N (hasB l h)).length):=by
 have his:=fun m (hm:m<q.p.notes.length)=>vw l h m (by omega)
 generalize hIs:hasB l h=is at *;unfold lhB at *;have n1:=hq.p.notes;have d1:=hq.o.Af;have hV0:=YI q.p N is q.o.Af.length;have hKl:(cu q N is).length=q.o.Af.length:=Cj _ _;rw [hKl];unfold cu;refine Eh.enter (Ae (by decide)) Tryz.func62 rfl (by kernel_rfl) (by simp [Tryz.ntmps62]) ?_
 repeat' (first|(apply Aa.OB q.o.Af.length (⟨0,0⟩:Jk);rfl;rfl;rfl;rfl;rfl;rfl;rfl;omega;decide;decide;rfl)|refine go2 ?_|fail)
 all_goals try (exfalso;omega)
 rw [hV0];apply Ad.Fq (N.length) [(2,_),(3,_),(7,_),(18,_),(19,_)] [(0,_),(1,_),(2,_)] (fun k r=>(20,.p (.int .i64 (k:Int)))::r) (fun k r=>(3,.vec 84 (cells (Bv (bW q.p N is k) q.o.Af.length)) q.o.Af.length false)::r) 4
 ·first|omega|decide
 ·first|omega|decide
 ·exact Nl
 ·exact O7
 ·intro k hk
  obtain ⟨g1,g2⟩:=hN k hk;obtain ⟨m,hm⟩:∃ m:Nat,gi N k=(m:Int):=⟨(gi N k).toNat,by omega⟩
  have hm2:m<q.p.notes.length:=by omega
  have hc:=his m hm2;rw [← hm] at hc;cases hi:is m with
  |false =>
   have e1:=pK (p:=q.p) (N:=N) (is:=is) (k:=k) (n:=q.o.Af.length) (by rw [hm,ba];exact hi);rw [hi] at hc
   repeat' (first|(apply Aa.read [0,1] hc;rfl;rfl;exact .of_eq rfl;exact CS.Az rfl;exact CX rfl;(repeat (first|exact trivial|refine ⟨⟨_,rfl,.of_eq rfl⟩,?_⟩));decide;(intro _ hb;simp at hb<;>omega);rfl)|(apply Aa.Ak;rfl;rfl;rfl;omega;rfl)|refine go2 ?_|(apply Aa.int;rfl;rfl;rfl)|(apply Ad.Ac;rfl)|(apply Ad.cond_false;rfl)|(intro _;try (exfalso;omega)))
   all_goals try (exfalso;omega)
   all_goals try contradiction
   refine Ag.normal ⟨by first|omega|decide,?_,?_⟩
   ·try (rw [e1])
    exact C9
   ·rw [e1]
    exact DT
  |true =>
   have hNt:=hq.p.note m hm2;obtain ⟨j,hj⟩:∃ j:Nat,(gi q.p.notes m).d=(j:Int):=⟨(gi q.p.notes m).d.toNat,by have:=hNt.d;omega⟩
   have hjn:j<q.o.Af.length:=by have:=hNt.d;omega
   have hcm:=hq.o.cmp (i:=j) hjn;have hk2:=hNt.k;rw [hj,ba] at hk2;obtain ⟨z,hz⟩:∃ z:Nat,(gi q.p.notes m).k=(z:Int):=⟨(gi q.p.notes m).k.toNat,by omega⟩
   have hz2:z<128:=by omega
   have e1:=zB (p:=q.p) (N:=N) (is:=is) (k:=k) hjn (by rw [hm,ba];exact hi) (by rw [hm,ba];exact hj);rw [hm,ba,hz,ba,← sK] at e1;have hsl:(Bv (bW q.p N is k) q.o.Af.length).length=q.o.Af.length:=Cj _ _;have hok:(gi (Bv (bW q.p N is k) q.o.Af.length) j).Ok:=by
    rw [D7 _ hjn];exact SC (U4 hq hN k (by omega)) _ (ab _)
   have hof:=Ud [(gi q.p.notes m).k] (by simp) (fun i hi=>by
    have:i=0:=by simpa using hi
    subst this;show 0≤(gi q.p.notes m).k∧(gi q.p.notes m).k≤127;omega)
   have hoe:SE [(gi q.p.notes m).k] [(gi q.p.notes m).k].length=FW ⟨0,0⟩ z:=by
    show FW ⟨0,0⟩ ((gi q.p.notes m).k).toNat=_;rw [hz,ba]
   rw [hoe] at hof;have hun:=Pq (gi (Bv (bW q.p N is k) q.o.Af.length) j) (FW ⟨0,0⟩ z) hok (ak TN hz2);rw [hi] at hc;generalize Bv (bW q.p N is k) q.o.Af.length=V at *;generalize hW:(FW ⟨0,0⟩ z:Jk)=W at *
   repeat' (first|(refine Aj.HY 37 ?_;refine Aj.ghost (Aw.freeze 36 rfl rfl) ?_)|apply Ad.Bz|apply Ad.region|apply Ad.Fg|apply Ad.Gg|apply Ad.Fz|apply BL.normal|apply Bf.normal|apply Aj.nil|apply Ah.nil|apply Aj.one|(apply Ah.bar;decide +kernel)|apply Ah.quiet|(apply Aa.read [0,1] hc;rfl;rfl;exact .of_eq rfl;exact CS.Az rfl;exact CX rfl;(repeat (first|exact trivial|refine ⟨⟨_,rfl,.of_eq rfl⟩,?_⟩));decide;(intro _ hb;simp at hb<;>omega);rfl)|(apply Aa.fn;rfl;rfl;exact hof;intro _;rfl)|(apply Aa.fn;rfl;rfl;exact hun;intro _;rfl)|(apply Aa.Ak (l:=q.p.notes) (i:=m);rfl;exact congrArg (fun b=>some (PV.p (.int .i64 b))) hm;rfl;omega;rfl)|(apply Aa.D5 (l:=V) (i:=j);rfl;rfl;exact congrArg (fun b=>some (PV.p (.int .i64 b))) hj;rfl;omega)|(apply Aa.PO (l:=V) (i:=j);rfl;rfl;omega;rfl)|(apply Aa.Ko (l:=V) (i:=j) (y:=uV (gi V j) W);rfl;rfl;rfl;trivial;rfl;rfl;rfl;decide;omega)|(apply Aa.assign;rfl)|(apply Aa.move;rfl)|(apply Aa.LQ;rfl;rfl;omega)|(apply Aa.int;rfl;rfl;rfl)|(apply Aa.Ak;rfl;rfl;rfl;omega;rfl)|(apply Aa.load;rfl;rfl)|(apply Aa.Ij;rfl;rfl;rfl)|(apply Aa.alloc;rfl)|(apply Aa.FI;rfl;rfl;rfl;trivial;rfl;rfl;exact Bj rfl;exact le_dec rfl)|(apply Aa.buildSlice;rfl;rfl;rfl;decide;rfl;rfl;rfl)|(apply Aa.extract;rfl;rfl)|(apply Ad.Ac;rfl)|(apply Ad.cond_true;rfl)|(intro _;try (exfalso;omega)))
   all_goals try (exfalso;omega)
   all_goals try contradiction
   refine Ag.normal ⟨by first|omega|decide,?_,?_⟩
   ·try (rw [← e1])
    exact C9
   ·rw [← e1]
    exact DT
 ·repeat' (first|(refine Ad.at 10 ?_;refine Ad.ghost (Aw.freeze 7 rfl rfl) ?_;first|apply Ad.Bz|apply Ad.Cm)|apply Ad.Bz|refine go0 ?_|(apply Ad.Ac;rfl)|(intro _;try (exfalso;omega)))
  all_goals first|(exfalso;omega)|(refine Done.ret rfl (.refl _) trivial ?_ (by omega) (ab _) ⟨?_,rfl,rfl⟩;exact DT;try rfl)
attribute [local irreducible] OT
def a8u (y:bY):Int:=if 0≤y.hn∧y.hn≤10 then if 0≤y.fn∧y.fn≤10 then if 0≤y.hs∧y.hs≤127 then if 0≤y.fs∧y.fs≤127 then 0 else 3 else 3 else 3 else 3
theorem jB {y:bY} (h:y.Ok):a8u y=0:=by
 unfold a8u;rw [if_pos h.hn,if_pos h.fn,if_pos h.hs,if_pos h.fs]
theorem KL (y:bY):Ap env 32 [.agg (Enc.enc y)] (.p (.int .i64 (a8u y))):=by
 by_cases h1:0≤y.hn∧y.hn≤10;all_goals by_cases h2:0≤y.fn∧y.fn≤10
 all_goals by_cases h3:0≤y.hs∧y.hs≤127
 all_goals by_cases h4:0≤y.fs∧y.fs≤127
 all_goals unfold a8u
 all_goals first|rw [if_pos h1]|rw [if_neg h1]
 all_goals try first|rw [if_pos h2]|rw [if_neg h2]
 all_goals try first|rw [if_pos h3]|rw [if_neg h3]
 all_goals try first|rw [if_pos h4]|rw [if_neg h4]
 all_goals
  refine Ap.enter (Ae (by decide)) Tryz.func32 rfl (by kernel_rfl) (by simp [Tryz.ntmps32]) ?_
 all_goals
  repeat' (first|(apply Aa.b7n;rfl;rfl;rfl;rfl;rfl;decide;rfl)|refine IE ?_|(apply Aj.guard;rfl;rfl)|(apply Aa.b5y;rfl;rfl;rfl;rfl;rfl)|(apply Ad.zW 2)|(apply OT.zero)|(apply OT.succ)|(apply Ag.again)|(apply Aa.int;rfl;rfl;rfl)|(apply Ad.AV;rfl)|(apply Ad.Ai;rfl)|(apply Ad.cond_true;rfl)|(apply Ad.Ar;rfl)|(intro _;try (exfalso;omega)))
 all_goals first|(exfalso;omega)|(refine Done.rt rfl rfl ⟨?_,rfl,rfl⟩;try rfl)
theorem Zv (y:bY) (hy:y.Ok) (s:Jk) (hs:s.Ok):Ap env 25 [.agg (Enc.enc y),.agg (Enc.enc s)] (.D9 [.p (.bool (decide (WH y (Ea s)))),.p (.int .i64 0)]):=by
 have hc:=KL y;have e0:=jB hy;rw [e0] at hc;have hm:=Xy hs.lo hs.hi;have hr:∀ x∈Ea s,0≤x∧x≤127:=fun x hx=>by
  obtain ⟨n,h1,rfl,_⟩:=ZN.1 hx;omega
 have h1:=a9g y (Ea s) (YD s) hr;have hm:Bd env 61 [.agg (Enc.enc s)] 3 (cells (Ea s)) (Ea s).length _:=hm;generalize Ea s=M at *;refine Ap.enter (Ae (by decide)) Tryz.func25 rfl (by kernel_rfl) (by simp [Tryz.ntmps25]) ?_
 repeat' (first|(refine Ah.HY 15 ?_;refine Ah.ghost (Aw.freeze 14 rfl rfl) ?_)|apply Ad.assoc|apply Ad.Bz|apply Ad.Cm|apply Ad.Gg|apply Ad.ret|apply Aj.nil|apply Ah.nil|apply Aj.one|(apply Ah.bar;decide +kernel)|apply Ah.quiet|(apply Aa.fn;rfl;rfl;exact hc;intro _;rfl)|(apply Aa.fv;rfl;rfl;exact hm)|(apply Aa.fn;rfl;rfl;exact h1;intro _;rfl)|(apply Aa.assign;rfl)|(apply Aa.move;rfl)|(apply Aa.int;rfl;rfl;rfl)|(apply Aa.load;rfl;rfl)|(apply Aa.box;rfl;trivial)|(apply Ad.Ai;rfl))
 all_goals first|(exfalso;omega)|(refine Done.rt rfl rfl ⟨?_,rfl,rfl⟩;try rfl)
def aH (l:List Jk):Nat→Jk
 |0=>⟨0,0⟩
 |k+1=>uV (aH l k) (gi l k)
def jQ (l:List Jk):Nat→Int
 |0=>0
 |k+1=>jQ l k+((Ea (gi l k)).length:Int)
def iL (y:bY) (l:List Jk):Prop:=jQ l l.length≤y.fn∧wid (Ea (aH l l.length))≤y.fs
instance (y:bY) (l:List Jk):Decidable (iL y l):=inferInstanceAs (Decidable (_∧_))
theorem jW {l:List Jk} (h:∀ i,i<l.length→(gi l i).Ok):∀ k,k≤l.length→(aH l k).Ok
 |0,_=>TN
 |k+1,hk=>b1u (jW h k (by omega)) (h k (by omega))
theorem aZ (l:List Jk):∀ k,0≤jQ l k∧jQ l k≤128*k
 |0=>⟨bc _,bc _⟩
 |k+1=>by
  have:=aZ l k;have:=YD (gi l k);show 0≤jQ l k+((Ea (gi l k)).length:Int)∧jQ l k+((Ea (gi l k)).length:Int)≤128*((k+1:Nat):Int);omega
theorem vU (y:bY) (l:List Jk) (hl:l.length≤1000) (h:∀ i,i<l.length→(gi l i).Ok):Ap env 68 [.agg (Enc.enc y),.lst 84 (cells l) l.length] (.p (.bool (decide (iL y l)))):=by
 have hU:=jW h l.length (ab _);have hm:Bd env 61 [.agg (Enc.enc (aH l l.length))] 3 (cells (Ea (aH l l.length))) (Ea (aH l l.length)).length _:=Xy hU.lo hU.hi;have hw:=Y6 (Ea (aH l l.length)) (YD _) fun x hx=>by
  obtain ⟨n,h1,rfl,_⟩:=ZN.1 hx;omega
 have hn:=aZ l l.length;refine Ap.enter (Ae (by decide)) Tryz.func68 rfl (by kernel_rfl) (by simp [Tryz.ntmps68]) ?_
 repeat' (first|refine go2 ?_|fail)
 apply Ad.Fq (l.length) [(2,_),(5,_),(9,_),(10,_)] [(0,_)] (fun k r=>(11,.p (.int .i64 (k:Int)))::(6,.p (.int .i64 (jQ l k)))::r) (fun k r=>(1,.box 84 ((Enc.enc (aH l k)).map .p))::r) 2
 ·first|omega|decide
 ·first|omega|decide
 ·exact Nl
 ·exact O7
 ·intro k hk
  have hu:=Pq (aH l k) (gi l k) (jW h k (by omega)) (h k hk);have hc:=uJ (gi l k) (h k hk);have hr:=aZ l k;have hl:=YD (gi l k)
  repeat' (first|(apply Aa.fn;rfl;rfl;exact hu;intro _;rfl)|(apply Aa.fn;rfl;rfl;exact hc;intro _;rfl)|(apply Aa.Ak;rfl;rfl;rfl;omega;rfl)|refine go2 ?_|(apply Aa.int;rfl;rfl;rfl)|(apply Ad.Ac;rfl)|(intro _;try (exfalso;omega)))
  all_goals try (exfalso;omega)
  refine Ag.normal ⟨by first|omega|decide,?_,?_⟩
  ·exact C9
  ·exact DT
 ·have e:decide (iL y l)=(decide (jQ l l.length≤y.fn)&&decide (wid (Ea (aH l l.length))≤y.fs)):=by
   unfold iL;exact Bool.decide_and _ _
  rw [e];generalize Ea (aH l l.length)=M at *;generalize jQ l l.length=C at *;generalize wid M=W at *;by_cases h1:C≤y.fn
  ·rw [decide_eq_true h1,cS]
   repeat' (first|(refine Ah.HY 30 ?_;refine Ah.ghost (Aw.freeze 29 rfl rfl) ?_)|apply Ad.Bz|apply Ad.Cm|apply Ad.EN|apply BL.normal|apply Bf.exit|apply Ag.exit|apply Ad.ret|apply Aj.nil|apply Ah.nil|apply Aj.one|(apply Ah.bar;decide +kernel)|apply Ah.quiet|(apply Ah.WG;rfl;rfl)|(apply Ah.guard;rfl;rfl)|(apply Aa.fv;rfl;rfl;exact hm)|(apply Aa.fn;rfl;rfl;exact hw;intro _;rfl)|(apply Aa.assign;rfl)|(apply Aa.move;rfl)|(apply Aa.int;rfl;rfl;rfl)|(apply Aa.load;rfl;rfl)|(apply Aa.Na;rfl;rfl)|(apply Aa.Ij;rfl;rfl;rfl)|(apply Ad.Ac;rfl)|(intro _;try (exfalso;omega)))
   all_goals first|(exfalso;omega)|(refine Done.rt rfl rfl ⟨?_,rfl,rfl⟩;try rfl)
  ·rw [decide_eq_false h1,ew]
   repeat' (first|refine O8 ?_|(apply Ah.guard;rfl;rfl)|(apply Ad.Ac;rfl)|(intro _;try (exfalso;omega)))
   all_goals first|(exfalso;omega)|(refine Done.rt rfl rfl ⟨?_,rfl,rfl⟩;try rfl)
theorem xY (y:bY) (hy:y.Ok) (l:List Jk) (hl:l.length≤1000) (h:∀ i,i<l.length→(gi l i).Ok):Ap env 161 [.agg (Enc.enc y),.lst 84 (cells l) l.length] (.D9 [.p (.bool (decide (iL y l))),.p (.int .i64 0)]):=by
 have hc:=KL y;have e0:=jB hy;rw [e0] at hc;have hf:=vU y l hl h;refine Ap.enter (Ae (by decide)) Tryz.func161 rfl (by kernel_rfl) (by simp) ?_
 repeat' (first|(apply Aa.fn;rfl;rfl;exact hc;intro _;rfl)|(apply Aa.fn;rfl;rfl;exact hf;intro _;rfl)|refine go2 ?_|(apply Aa.int;rfl;rfl;rfl)|(apply Ad.Ai;rfl))
 all_goals first|(omega)|(refine Done.rt rfl rfl ⟨?_,rfl,rfl⟩;try rfl)
theorem a8j:env.O 147=some (bG (AO Tryz.prog 8 Ed) (Bl Tryz.prog 8 Ed) Tryz.f147.ntmps PN):=by
 rfl
theorem a1z (s:Jk) (hs:s.Ok) {e:TypeId}:b4d env 147 Tryz.f147 (Enc.enc s) e (FM s.lo s.hi):=by
 intro Fo hFo m F c vs hc hr hF;cases hFo;cases hr with|cons a0 t =>
 cases t with|cons a1 t =>
 cases t;cases a0;cases a1;refine ⟨notKey s.lo s.hi,fun m' F' σ' H' nx' hsame X6=>⟨m',?_⟩⟩;refine a8e (kr:=(notKey s.lo s.hi,FM s.lo s.hi)) (kH X6) ?_;have q1:=(hsame c hF).trans hc;have b1:=hs.lo;have b2:=hs.hi;unfold PN;simp only [q1];rw [if_pos ⟨⟨by omega,by omega⟩,by omega,by omega⟩];rfl
theorem b0l {L:Vm.Frame} {H:Vm.Heap} {nx:Nat} {Q:PV→Vm.Heap→Nat→Prop} {dst:Option Tmp} {ty:TypeId} {pos:String} {af:Array Edge} {gd:Option (Nat×Bool)} {fo:Operand} {args:Array Operand} {aT:Array TypeId} {fs cs xs:List PV} {c:Code}
 (hf:AU env.Γ L fo=some (.clo 108 fs cs)) (ha:evs env.Γ L args.toList=some xs) (hb:Tryz.f108.body=some c) (hn:(fs++xs++cs).length≤Tryz.f108.ntmps)
 (h:Ad env nx c (Ci 0 (fs++xs++cs)) H nx (AB env.P Tryz.f108.results.toList Q)):Aa env true ⟨dst,.call { callee:=.value fo,args:=args,argTypes:=aT },ty,pos,af,gd⟩ L H nx Q:=by
 have h0:(match Tryz.f108.body with|some c=>Iz env.G Tryz.f108 c|none=>false)=true:=by kernel_rfl
 rw [hb] at h0;exact Aa.inline rfl hf ha (Ae (by decide)) Tryz.func108 hb h0 hn h
theorem xW (s:Jk) (hs:s.Ok):Ap env 125 [.agg (Enc.enc s)] (.D9 [.p (.int .i64 (gi (Ea s) 0)),.p (.bool (decide (Ea s≠[])))]):=by
 refine Ap.enter (Ae (by decide)) Tryz.func125 rfl (by kernel_rfl) (by simp [Tryz.ntmps125]) ?_
 repeat' (first|(apply b0l;rfl;rfl;rfl;exact le_dec rfl)|(apply Aa.makeFunc;rfl;rfl)|refine go2 ?_|(apply AB.ret;rfl))
 all_goals try (exfalso;omega)
 refine Ad.uT (Ea s).length (fun k=>[.int .i64 (gi (Ea s) k)]) (fun k=>[Go.encZ (gi (Ea s) k)]) [(2,.ref 1 0),(3,.ref 2 0)]
  (fun k=>[(1,.box 3 [.p (.int .i64 0)]),(2,.box 4 [.p (.bool false)])]) 3 (fun k=>k=0)
  rfl rfl Tryz.func147 rfl a8j ?_ (fun _ _=>rfl) (fun _ _=>rfl) (fun k _ m F=>.cons (.int _ _) .nil) (by omega) ⟨by omega,?_,?_⟩ ?_ (a1z s hs) rfl ?_ ?_
 ·unfold FM Ea
  refine ge (by simp) fun i h1 h2=>?_
  simp only [List.getElem_map,List.getElem_range];unfold gi;rw [bh] at h1;rw [ai h1];rfl
 ·exact C9
 ·exact DT
 ·exact C9
 ·rintro k hk rfl
  have h0:Ea s≠[]:=fun e=>by rw [e] at hk;simp at hk
  rw [decide_eq_true h0]
  repeat' (first|refine go2 ?_|fail)
  refine ⟨rfl,?_⟩
  repeat' (first|refine go2 ?_|apply Ad.Hq)
  refine ⟨by omega,[(1,.box 3 [.p (.int .i64 (gi (Ea s) 0))]),(2,.box 4 [.p (.bool true)])],?_,?_⟩
  ·exact DT
  ·repeat' (first|apply BL.ret|apply Bf.ret)
   all_goals first|(exfalso;omega)|(refine Done.rt rfl rfl ⟨?_,rfl,rfl⟩;try rfl)
 ·intro h
  have h0:Ea s=[]:=ar.1 h;rw [h0]
  repeat' (first|refine go2 ?_|fail)
  all_goals first|(exfalso;omega)|(refine Done.rt rfl rfl ⟨?_,rfl,rfl⟩;try rfl)
structure Wp where
 d:Int
 k:Int
deriving DecidableEq
instance:Enc Wp:={ default:=⟨0,0⟩,enc:=fun x=>[.int .i64 x.d,.int .i64 x.k],size:=2,len:=fun _=>rfl }
def hcK (y:bY) (K:List Jk):Nat→Bool×Int
 |0=>(true,0)
 |k+1=>if Ea (gi K k)=[] then hcK y K k else ((hcK y K k).1&&decide ((hcK y K k).2=0)&&decide (WH y (Ea (gi K k))),(hcK y K k).2+1)
theorem zJ (y:bY) (K:List Jk):∀ k,0≤(hcK y K k).2∧(hcK y K k).2≤k
 |0=>⟨bc _,bc _⟩
 |k+1=>by
  have:=zJ y K k;unfold hcK;grind
def TG (p:F7) (N l:List Int) (h:Int):Nat→Bool×Wp
 |0=>(false,⟨0,0⟩)
 |k+1=>if gi l (gi N k).toNat=h∧((TG p N l h k).1=false∨(gi p.notes (gi N k).toNat).k<(TG p N l h k).2.k) then (true,⟨(gi p.notes (gi N k).toNat).d,(gi p.notes (gi N k).toNat).k⟩) else TG p N l h k
def Vb (q:Qu) (N l:List Int) (h:Int):Bool:=(hcK q.y (cu q N (hasB l h)) (cu q N (hasB l h)).length).1
theorem lM (q:Qu) (N:List Int) (is:Nat→Bool):(cu q N is).length=q.o.Af.length:=Cj _ _
theorem a7x {q:Qu} (hq:Jy q) {N:List Int} (hN:dH q N) (is:Nat→Bool) {d:Nat} (hd:d<q.o.Af.length):(gi (cu q N is) d).Ok:=by
 unfold cu;rw [D7 _ hd];exact SC (U4 hq hN _ (ab _)) _ (ab _)
theorem KD (q:Qu) (hq:Jy q) (s:iT) (hN:dH q s.notes) (hNl:s.notes.length≤1000) (l:List Int) (h:Int) (hl:l.length=q.p.notes.length):Ap env 86 [.agg (Enc.enc q),.agg (Enc.enc s),.lst 3 (cells l) l.length,.int .i64 h]
 (.D9 [.p (.agg (Enc.enc (TG q.p s.notes l h s.notes.length).2)),.p (.bool (TG q.p s.notes l h s.notes.length).1),.p (.bool (Vb q s.notes l h))]):=by
 have n1:=hq.p.notes;have d1:=hq.o.Af;have hk:=xE q hq s.notes hN hNl l h hl;have hKl:=lM q s.notes (hasB l h);have hKo:=fun d hd=>a7x hq hN (hasB l h) (d:=d) hd
 rw [← hKl] at hKo;unfold Vb;generalize cu q s.notes (hasB l h)=K at *;refine Ap.enter (Ae (by decide)) Tryz.func86 rfl (by kernel_rfl) (by simp [Tryz.ntmps86]) ?_
 repeat' (first|(apply Aa.read [2,3] hk;rfl;rfl;exact .of_eq rfl;exact CS.Az rfl;exact CX rfl;(repeat (first|exact trivial|refine ⟨⟨_,rfl,.of_eq rfl⟩,?_⟩));decide;(intro _ hb;simp at hb<;>omega);rfl)|(apply Aa.makeFunc;rfl;rfl)|refine go2 ?_|fail)
 all_goals try (exfalso;omega)
 apply Ad.Fq (K.length) [(4,_),(5,_),(6,_),(7,_),(8,_),(9,_),(25,_),(26,_)] [(0,_),(1,_),(2,_),(3,_),(4,_)] (fun k r=>(27,.p (.int .i64 (k:Int)))::(10,.p (.bool (hcK q.y K k).1))::(11,.p (.int .i64 (hcK q.y K k).2))::r) (fun k r=>r) 5
 ·first|omega|decide
 ·first|omega|decide
 ·exact Nl
 ·exact O7
 ·intro k hk
  have hle:=xW (gi K k) (hKo k hk);have hon:=Zv q.y hq.y (gi K k) (hKo k hk);have hr:=zJ q.y K k;have e1:hcK q.y K (k+1)=if Ea (gi K k)=[] then hcK q.y K k else ((hcK q.y K k).1&&decide ((hcK q.y K k).2=0)&&decide (WH q.y (Ea (gi K k))),(hcK q.y K k).2+1):=rfl
  rw [e1];clear e1;generalize hcK q.y K k=r at *;obtain ⟨c,n⟩:=r;by_cases h0:Ea (gi K k)=[]
  ·rw [if_pos h0]
   rw [decide_eq_false (fun e=>e h0)] at hle;generalize gi (Ea (gi K k)) 0=z at *
   repeat' (first|(apply Aa.fn;rfl;rfl;exact hle;intro _;rfl)|(apply Aa.Ak;rfl;rfl;rfl;omega;rfl)|refine go2 ?_|(apply Aa.int;rfl;rfl;rfl)|(apply Ad.AV;rfl)|(apply Ad.Ac;rfl)|(intro _;try (exfalso;omega)))
   all_goals try (exfalso;omega)
   refine Ag.normal ⟨by first|omega|decide,?_,?_⟩
   ·exact C9
   ·exact DT
  ·rw [if_neg h0]
   rw [decide_eq_true h0] at hle;generalize gi (Ea (gi K k)) 0=z at *;generalize decide (WH q.y (Ea (gi K k)))=w at *;cases c;all_goals by_cases hn:n=0
   all_goals cases w
   all_goals first|rw [decide_eq_true hn]|rw [decide_eq_false hn]
   all_goals
    repeat' (first|(apply Aa.fn;rfl;rfl;exact hle;intro _;rfl)|(apply Aa.fn;rfl;rfl;exact hon;intro _;rfl)|(apply Aa.Ak;rfl;rfl;rfl;omega;rfl)|refine IE ?_|(apply Aj.guard;rfl;rfl)|(apply Aa.int;rfl;rfl;rfl)|(apply Ad.Ai;rfl)|(apply Ad.Ac;rfl)|(intro _;try (exfalso;omega)))
   all_goals try (exfalso;omega)
   all_goals try contradiction
   all_goals
    refine Ag.normal ⟨by first|omega|decide,?_,?_⟩
    ·exact C9
    ·exact DT
 ·repeat' (first|refine IG ?_|(apply Ad.Ac;rfl)|(intro _;try (exfalso;omega)))
  all_goals try (exfalso;omega)
  apply Ad.Fq (s.notes.length) [(4,_),(6,_),(7,_),(8,_),(10,_),(57,_),(58,_)] [(0,_),(1,_),(2,_),(3,_)] (fun k r=>(59,.p (.int .i64 (k:Int)))::(9,.p (.bool (TG q.p s.notes l h k).1))::r) (fun k r=>(4,.box 120 ((Enc.enc (TG q.p s.notes l h k).2).map .p))::r) 5
  ·first|omega|decide
  ·first|omega|decide
  ·exact Nl
  ·exact O7
  ·intro k hk
   obtain ⟨g1,g2⟩:=hN k hk;obtain ⟨m,hm⟩:∃ m:Nat,gi s.notes k=(m:Int):=⟨(gi s.notes k).toNat,by omega⟩
   have hm2:m<q.p.notes.length:=by omega
   have e1:TG q.p s.notes l h (k+1)=if gi l (gi s.notes k).toNat=h∧((TG q.p s.notes l h k).1=false∨(gi q.p.notes (gi s.notes k).toNat).k<(TG q.p s.notes l h k).2.k) then (true,⟨(gi q.p.notes (gi s.notes k).toNat).d,(gi q.p.notes (gi s.notes k).toNat).k⟩) else TG q.p s.notes l h k:=rfl
   rw [hm,ba] at e1;rw [e1];clear e1;generalize TG q.p s.notes l h k=r at *;obtain ⟨c,a⟩:=r;by_cases h1:gi l m=h;all_goals cases c
   all_goals by_cases h2:(gi q.p.notes m).k<a.k
   all_goals first|rw [if_pos (And.intro h1 (Or.inl rfl))]|rw [if_pos (And.intro h1 (Or.inr h2))]|rw [if_neg (fun e=>h1 e.1)]|rw [if_neg (fun e=>e.2.elim (fun e=>nomatch e) h2)]
   all_goals
    repeat' (first|(apply Aa.Ak (l:=q.p.notes) (i:=m);rfl;exact congrArg (fun b=>some (PV.p (.int .i64 b))) hm;rfl;omega;rfl)|(apply Aa.Ak (l:=l) (i:=m);rfl;exact congrArg (fun b=>some (PV.p (.int .i64 b))) hm;rfl;omega;rfl)|(apply Aa.Ak;rfl;rfl;rfl;omega;rfl)|refine IE ?_|(apply Ah.guard;rfl;rfl)|(apply Ah.ZI;rfl;rfl)|(apply Aa.int;rfl;rfl;rfl)|(apply Aa.build;rfl;rfl;rfl;rfl;rfl)|(apply Ad.Ac;rfl)|(apply Ad.cond_true;rfl)|(apply Ad.cond_false;rfl)|(apply Ad.Ar;rfl)|(intro _;try (exfalso;omega)))
   all_goals try (exfalso;omega)
   all_goals try contradiction
   all_goals
    refine Ag.normal ⟨by first|omega|decide,?_,?_⟩
    ·exact C9
    ·exact DT
  ·repeat' (first|refine IG ?_|(apply Ad.Ac;rfl)|(intro _;try (exfalso;omega)))
   all_goals first|(exfalso;omega)|(refine Done.rt rfl rfl ⟨?_,rfl,rfl⟩;try rfl)
end Go.Proofs.YtnjkoebfgcbbdaaGreatDoor
namespace Go.Vm
open Go.Am
variable {E:Env} {L:Frame} {H:Heap} {nx:Nat} {Q:PV→Heap→Nat→Prop} {dst:Option Tmp} {ty:TypeId} {pos:String} {af:Array Edge} {gd:Option (Nat×Bool)} {w:Bool}
theorem Aa.UF {fo:Operand} {args:Array Operand} {aT:Array TypeId} {g:FuncId} {fs cs aa ac:List PV} {x:FV} (hc:Eh E g ac [] 0 x) (hf:AU E.Γ L fo=some (.clo g fs cs)) (ha:evs E.Γ L args.toList=some aa)
 (hle:Oe (fs++aa++cs) (CS.rn (rho [] nx) ac)) (hu:CS.under 0 ac) (q:Q (.p x) H nx):Aa E w ⟨dst,.call { callee:=.value fo,args:=args,argTypes:=aT },ty,pos,af,gd⟩ L H nx Q :=
 Aa.ZL (ns:=[]) (Hc:=[]) hf ha hle hu trivial trivial cC (by simp) (fun _=>rfl) hc
  (fun r H' nx' h=>by
   obtain ⟨h1,h2,h3⟩:=h;subst h1;subst h2;subst h3;rw [Q5];exact q)
end Go.Vm
namespace Go.Proofs.YtnjkoebfgcbbdaaGreatDoor
open Go Go.Am Go.Vm Go.Pie
attribute [local irreducible] Aa Aj Ah Ad AP Ap Bd BL Bf Ag Vm.Done BA AB OT
attribute [local irreducible] Ce Ba DV DN En AZ CB
def yD (q:Qu) (N:List Int):Bool:=decide (iL q.y (cu q N (GR q)))
def IW (q:Qu) (N l:List Int):Bool:=Vb q N l 0&&Vb q N l 1&&yD q N
theorem wR (q:Qu) (hq:Jy q) (s:iT) (hN:dH q s.notes) (hNl:s.notes.length≤1000):Ap env 128 [.agg (Enc.enc q),.agg (Enc.enc s)] (.p (.bool (yD q s.notes))):=by
 have d1:=hq.o.Af;have hk:=vK q hq s.notes hN hNl;have hKl:=lM q s.notes (GR q);have hKo:=fun d hd=>a7x hq hN (GR q) (d:=d) hd
 rw [← hKl] at hKo;have hf:=xY q.y hq.y (cu q s.notes (GR q)) (by omega) hKo;unfold yD;generalize cu q s.notes (GR q)=K at *;refine Ap.enter (Ae (by decide)) Tryz.func128 rfl (by kernel_rfl) (by simp [Tryz.ntmps128]) ?_
 repeat' (first|(apply Aa.fn;rfl;rfl;exact hf;intro _;rfl)|(apply Aa.UF hk;rfl;rfl;exact .of_eq rfl;exact CS.Az rfl)|(apply Aa.makeFunc;rfl;rfl)|refine go2 ?_|fail)
 all_goals first|(exfalso;omega)|(refine Done.rt rfl rfl ⟨?_,rfl,rfl⟩;try rfl)
theorem RG (q:Qu) (hq:Jy q) (s:iT) (hN:dH q s.notes) (hNl:s.notes.length≤1000) (l:List Int) (hl:l.length=q.p.notes.length):Ap env 90 [.agg (Enc.enc q),.agg (Enc.enc s),.lst 3 (cells l) l.length] (.p (.bool (IW q s.notes l))):=by
 have h0:=KD q hq s hN hNl l 0 hl;have h1:=KD q hq s hN hNl l 1 hl;have hf:=wR q hq s hN hNl;unfold IW;generalize Vb q s.notes l 0=c0 at *;generalize Vb q s.notes l 1=c1 at *;generalize yD q s.notes=c2 at *;generalize TG q.p s.notes l 0 s.notes.length=a0 at *;generalize TG q.p s.notes l 1 s.notes.length=a1 at *;cases c0<;>cases c1<;>cases c2
 all_goals
  refine Ap.enter (Ae (by decide)) Tryz.func90 rfl (by kernel_rfl) (by simp [Tryz.ntmps90]) ?_
 all_goals
  repeat' (first|(apply Aa.fn;rfl;rfl;exact h0;intro _;rfl)|(apply Aa.fn;rfl;rfl;exact h1;intro _;rfl)|(apply Aa.fn;rfl;rfl;exact hf;intro _;rfl)|refine IE ?_|fail)
 all_goals first|(exfalso;omega)|contradiction|(refine Done.rt rfl rfl ⟨?_,rfl,rfl⟩;try rfl)
def dG (q:Qu):HB:=.box 36 ((Enc.enc q).map .p)
def slB (s:iT):HB:=.box 81 ((Enc.enc s).map .p)
theorem dA (q:Qu) (hq:Jy q) (s:iT) (hN:dH q s.notes) (hNl:s.notes.length≤1000) (l:List Int) (hl:l.length=q.p.notes.length):Eh env 89 ([.p (.lst 3 (cells l) l.length)]++[.ref 0 0,.ref 1 0]) [(0,dG q),(1,slB s)] 2 (.bool (!IW q s.notes l)):=by
 have hp:=RG q hq s hN hNl l hl;unfold dG slB;generalize IW q s.notes l=c at *;refine Eh.enter (Ae (by decide)) Tryz.func89 rfl (by kernel_rfl) (by simp [Tryz.ntmps89]) ?_
 repeat' (first|(apply Aa.fn;rfl;rfl;exact hp;intro _;rfl)|refine go2 ?_|fail)
 all_goals first|(exfalso;omega)|(refine Done.ret rfl (.refl _) trivial ?_ (by omega) (ab _) ⟨?_,rfl,rfl⟩;exact DT;try rfl)
theorem Zi (q:Qu) (hq:Jy q) (s:iT) (hN:dH q s.notes) (hNl:s.notes.length≤1000) (l:List Int) (hl:l.length=q.p.notes.length):Eh env 98 ([.p (.agg (Enc.enc s))]++[.ref 0 0,.ref 1 0]) [(0,dG q),(1,.box 28 [.p (.lst 3 (cells l) l.length)])] 2 (.bool (!IW q s.notes l)):=by
 have hp:=RG q hq s hN hNl l hl;unfold dG;generalize IW q s.notes l=c at *;refine Eh.enter (Ae (by decide)) Tryz.func98 rfl (by kernel_rfl) (by simp [Tryz.ntmps98]) ?_
 repeat' (first|(apply Aa.fn;rfl;rfl;exact hp;intro _;rfl)|refine go2 ?_|fail)
 all_goals first|(exfalso;omega)|(refine Done.ret rfl (.refl _) trivial ?_ (by omega) (ab _) ⟨?_,rfl,rfl⟩;exact DT;try rfl)
end Go.Proofs.YtnjkoebfgcbbdaaGreatDoor
namespace Go.Vm
open Go.Am
variable {E:Env} {L:Frame} {H:Heap} {nx:Nat} {Q:PV→Heap→Nat→Prop} {w:Bool}
variable {dst:Option Tmp} {ty:TypeId} {pos:String} {af:Array Edge} {gd:Option (Nat×Bool)}
theorem Aa.jy {t:TypeId} {x:Operand} {lo hi:Option Operand} {e:TypeId} {cs:List FV} {b n off len a c sz:Nat} {z:Bool} {inf:TypeInfo} (hx:AU E.Γ L x=some (.vec b n off len)) (hb:hget H b=some (.vec e cs n z)) (hn:0<n) (ht:E.P.underlying t=some (.slice e)) (hi':E.P.info? e=some inf) (hsz:inf.size=sz)
 (hlo:match lo with|none=>a=0|some o=>∃ k,AU E.Γ L o=some (.p (.int k (a:Int)))) (hhi:match hi with|none=>c=len|some o=>∃ k,AU E.Γ L o=some (.p (.int k (c:Int)))) (hac:a≤c) (hcl:c≤len)
 (q:Q (.vec b n (off+a*sz) (c-a)) H nx):Aa E w ⟨dst,.slice t x lo hi none,ty,pos,af,gd⟩ L H nx Q :=
 Aa.quiet q fun m F σ tt h1 h2=>by
  have a9e:bnd 0 (lo.map (ev tt))=some a:=by
   cases lo with
   |none=>rw [hlo];rfl
   |some o =>
    obtain ⟨k,hk⟩:=hlo;simp only [Option.map_some,CO h1 h2 hk,bnd];rfl
  have b7b:bnd len (hi.map (ev tt))=some c:=by
   cases hi with
   |none=>rw [hhi];rfl
   |some o =>
    obtain ⟨k,hk⟩:=hhi;simp only [Option.map_some,CO h1 h2 hk,bnd];rfl
  have hsub:=JG h1 h2 hx hb;obtain ⟨hlt,hr⟩:=h1.hp b _ hb;rcases hr with ⟨r1,r2,r3⟩|⟨d,g,vs,r1,r2,r3,r4,r5,r6,r7⟩
  ·omega
  rw [r1] at hsub;simp only [FY] at hsub;refine ⟨.slice (some ⟨d,off+a*sz,none⟩) (c-a) g,fun _=>?_,.vec hlt rfl fun j hj=>?_⟩
  ·simp only [BU,Fe,hsub,aslice,Option.isSome_none,Option.map_none,Bool.false_and,Bool.false_eq_true,if_false,ht,hi',a9e,b7b,r4,hac,hcl,r2,and_self,if_true,Option.map_some,hsz]
  ·simp only [htag,hb,HB.tag,Option.map_some,Option.some.injEq,Tg.vec.injEq] at hj
   refine ⟨by omega,fun _=>?_⟩;rw [r1];rfl
theorem a2j {m:Mem} {F:Nat→Prop} {σ:Nat→Value} {b n off c g:Nat} {e:TypeId} {cs fs:List FV} {vs l:List Value} {z:Bool} (h1:Ctx E.Γ m F σ H nx) (hb:hget H b=some (.vec e cs n z)) (hn:0<n) (h4:σ b=.slice (some ⟨c,0,none⟩) n g) (r2:c<m.size) (r3:¬ F c) (r4:m.get c=.cells vs e g false) (r5:Dh m F cs vs) (r6:vs.all BI=true)
 (hl:Dh m F fs l) (hc:l.all BI=true) :
 Ctx E.Γ (m.put c (.cells (splice vs off l) e g false)) F (upd σ b (σ b)) (hput H b (.vec e (Di cs off fs) n z)) nx∧Step m F σ H nx (m.put c (.cells (splice vs off l) e g false)) F (upd σ b (σ b)) (hput H b (.vec e (Di cs off fs) n z)) nx:=by
 have hput':∀ d,c≠d→(m.put c (.cells (splice vs off l) e g false)).get d=m.get d:=fun d hd=>by rw [Mem.get_put,if_neg hd]
 exact h1.change (m':=m.put c (.cells (splice vs off l) e g false)) (x':=.vec e (Di cs off fs) n z) (s':=σ b) hb (ab _) (fun _=>rfl) (ab _)
  (fun d _ hd=>hput' d fun e=>hd (by rw [h4,e];rfl)) (fun k k1 k2 k3=>by
   have:=k3 c (by rw [h4];rfl);simp only [Mem.put];omega) (fun d hd=>.inl hd) (by
   refine .inr ⟨c,g,splice vs off l,h4,r2,r3,by rw [Mem.get_put,if_pos rfl],?_,Ld _ r6 hc,fun h=>by omega⟩;exact (Dh.splice off r5 hl).mono (fun d hd=>⟨hd,hput' d fun e=>r3 (e▸hd)⟩))
def SlT (Γ:Nat→Option (List Value×TypeId)) (L:Frame) (H:Heap) (nx:Nat) (x:Operand) (sz n:Nat) (xs:List FV) (k:Nat):Prop :=
 ∀ m F σ t,Ctx Γ m F σ H nx→RL m F (htag H) σ nx L t→lenOf (ev t x)=some n∧∃ l,BX m sz k (ev t x)=some l∧Dh m F xs l∧l.all BI=true
theorem Aa.clear {d:Operand} {dT e:TypeId} {i:TypeInfo} {b n off len:Nat} {cs:List FV} {z:Bool} {zs:List Value} (hd:AU E.Γ L d=some (.vec b n off len)) (hb:hget H b=some (.vec e cs n z)) (hn:0<n) (h0:0<len)
 (hdT:E.P.underlying dT=some (.slice e)) (hi:E.P.info? e=some i) (hz:BO E.P e=some zs) (hzl:zs.length=i.size∧0<i.size) (hl:off+len*i.size≤cs.length) (q:Q (.D9 []) (hput H b (.vec e (Di cs off ((AA zs len).map G7)) n z)) nx) :
 Aa E true ⟨none,.call { callee:=.builtin .clear,args:=#[d],argTypes:=#[dT] },ty,pos,af,gd⟩ L H nx Q:=by
 intro m F σ t h1 h2;have hsub:=JG h1 h2 hd hb;obtain ⟨hlt,hr⟩:=h1.hp b _ hb;rcases hr with ⟨r1,r2,r3⟩|⟨c,g,vs,r1,r2,r3,r4,r5,r6,r7⟩
 ·omega
 simp only [FY] at hsub;have hpl:zs.all Am.plainCell=true:=by
  obtain ⟨_,zv,_,_,_,h⟩:=BG hz;exact h
 have hx3:Dh m F ((AA zs len).map G7) (AA zs len):=Io (Jo hpl len);have hx4:(AA zs len).all BI=true:=CW (Jo hpl len);have hlen2:=r5.length;have hrl:=Ew zs len;obtain ⟨d1,d2⟩:=a2j (E:=E) (off:=off) h1 hb hn r1 r2 r3 r4 r5 r6 hx3 hx4;refine Gl.op (v:=.tuple #[]) (m':=m.put c (.cells (splice vs off (AA zs len)) e g false)) (fun _=>?_) ⟨_,_,_,F,_,q,d1,.D9 .nil,d2,fun h=>by cases h⟩;have hp:=dp h0 hzl.2;simp only [BU,Fe,VL,List.map_toArray,List.map_cons,List.map_nil,List.getElem?_toArray,List.getElem?_cons_zero,hsub,hdT,hi,hz];simp only [GI,r4,OZ,Option.getD_some,beq_self_eq_true,Bool.true_and];grind
def QT:Code→Option Nat
 | .region n _ _=>some n
 | .seq a b=>match QT a with
  |some n=>some n
  |none=>QT b
 | .block _ b=>QT b
 | .loop b=>QT b
 | .scope b=>QT b
 |_=>none
def MB (r:Nat):Code→Option Code
 | .loop b=>match QT b with
  |some n=>match Nat.beq n r with
   |true=>some (.loop b)
   |false=>MB r b
  |none=>MB r b
 | .seq a b=>match MB r a with
  |some c=>some c
  |none=>MB r b
 | .cond _ a b=>match MB r a with
  |some c=>some c
  |none=>MB r b
 | .block _ b=>MB r b
 | .scope b=>MB r b
 | .rangeFunc _ _ _ b=>MB r b
 |_=>none
def c3x (fn:Func) (r:Nat):Code:=match fn.body with
 |some c=>match MB r c with
  |some c=>c
  |none=>.skip
 |none=>.skip
end Go.Vm
namespace Go.Proofs.YtnjkoebfgcbbdaaGreatDoor
open Go Go.Am Go.Vm Go.Pie
attribute [local irreducible] Aa Aj Ah Ad AP Ap Bd BL Bf Ag Vm.Done BA AB
attribute [local irreducible] Ce Ba DV DN En AZ CB
theorem XI (l:List Int) (h0:0<l.length) (h1:l.length<1000000):Bd env 75 [.lst 3 (cells l) l.length] 3 (cells l) l.length false:=by
 refine Bd.enter (Ae (by decide)) Tryz.func75 rfl (by kernel_rfl) (by simp [Tryz.ntmps75]) ?_
 repeat' (first|(apply Aa.a7m;rfl;rfl;rfl;exact h0)|(apply Aa.UM;rfl;rfl;rfl;(first|rfl|omega|(simp only [List.length_take,List.length_drop,List.length_append,List.length_singleton,List.length_cons,List.length_nil]<;>omega));rfl;rfl;(intro _ h;cases h);rfl;rfl;rfl;decide;decide;(first|omega|(simp only [List.length_take,List.length_drop,List.length_append,List.length_singleton,List.length_cons,List.length_nil]<;>omega)))|refine go2 ?_|(apply Aa.buildSlice;rfl;rfl;rfl;decide;rfl;rfl;rfl)|(apply Ad.Ai;rfl))
 exact BA.ret rfl rfl rfl rfl
def ctN (p:F7) (a z:Int):Nat→List LW
 |0=>[]
 |k+1=>if (gi p.notes k).s<z∧(gi p.notes k).e>a then ctN p a z k++[⟨max (gi p.notes k).s a,min (gi p.notes k).e z,(gi p.notes k).d,(gi p.notes k).k⟩] else ctN p a z k
def c4s (p:F7) (f:Nat):List vH:=if 0≤wan p (gi p.bars f)∧(gi p.sets (wan p (gi p.bars f)).toNat).bar<f then [⟨0,(gi p.sets (wan p (gi p.bars f)).toNat).reg⟩] else []
def ctS (p:F7) (f t:Nat) (s0:List vH):Nat→List vH
 |0=>s0
 |k+1=>if (gi p.sets k).bar≥f∧(gi p.sets k).bar<t then ctS p f t s0 k++[⟨(gi p.sets k).bar-f,(gi p.sets k).reg⟩] else ctS p f t s0 k
def ctB (p:F7) (f t:Nat):List Int:=(p.bars.drop f).take (t+1-f)
def c8f (p:F7) (f t:Nat):F7:=⟨ctB p f t,ctN p (gi p.bars f) (gi p.bars t) p.notes.length,ctS p f t (c4s p f) p.sets.length⟩
def c8a:List FV:=[.val (.slice none 0 0),.val (.slice none 0 0),.val (.slice none 0 0)]
end Go.Proofs.YtnjkoebfgcbbdaaGreatDoor
