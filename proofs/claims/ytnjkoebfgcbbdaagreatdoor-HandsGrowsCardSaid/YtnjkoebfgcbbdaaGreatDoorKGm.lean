/-
  Texts of a proof, merged (HanA, PieM, OrQd, PieR, HanB, HanC, HanD, HanE, HanF, Vm35, PieK). Conditions: in each statement.
-/
import Derived.Test.YtnjkoebfgcbbdaaGreatDoorKGl
set_option linter.unusedSimpArgs false
set_option linter.unusedVariables false
set_option linter.unusedSectionVars false
set_option maxRecDepth 100000
set_option maxHeartbeats 8000000
abbrev aR:=@Int.toNat_natCast
abbrev gF:=@List.replicate_succ'
namespace Go.Proofs.YtnjkoebfgcbbdaaGreatDoor
open Go Go.Am Go.Vm Go.Pie
attribute [local irreducible] Aa Ai Ag Ad AP Ak Bf BM Bq Ah Vm.Done BD AB
attribute [local irreducible] Ci Ba DV DN Eo AZ CG
structure VK where
 hn:Int
 hs:Int
 fn:Int
 fs:Int
instance:Enc VK:={ default:=⟨0,0,0,0⟩,enc:=fun x=>[.int .i64 x.hn,.int .i64 x.hs,.int .i64 x.fn,.int .i64 x.fs],size:=4,len:=fun _=>rfl }
structure VK.Ok (y:VK):Prop where
 hn:0≤y.hn∧y.hn≤10
 fn:0≤y.fn∧y.fn≤10
 hs:0≤y.hs∧y.hs≤127
 fs:0≤y.fs∧y.fs≤127
noncomputable instance (y:VK):Decidable y.Ok:=Classical.propDecidable _
def Fv (s:JZ):List Int:=Ed s.lo s.hi
theorem QO {p n:Nat}:n∈GU p↔n<64∧p.testBit n=true:=by
 unfold GU;simp
theorem pX {s:JZ} {x:Int}:x∈Fv s↔∃ n:Nat,n<128∧x=(n:Int)∧s.has n=true:=by
 unfold Fv Ed;rw [bm,bb,bb];constructor
 ·rintro (⟨n,h,rfl⟩|⟨n,h,rfl⟩)
  ·obtain ⟨h1,h2⟩:=QO.1 h
   exact ⟨n,by omega,rfl,by unfold JZ.has;grind⟩
  ·obtain ⟨h1,h2⟩:=QO.1 h
   refine ⟨64+n,by omega,rfl,?_⟩;unfold JZ.has;grind
 ·rintro ⟨n,h1,rfl,h2⟩
  unfold JZ.has at h2;split at h2
  ·rename_i h;exact .inl ⟨n,QO.2 ⟨h,h2⟩,rfl⟩
  ·rename_i h
   exact .inr ⟨n-64,QO.2 ⟨by omega,h2⟩,by omega⟩
theorem mZ (s:JZ):(Fv s).length=(GU s.lo).length+(GU s.hi).length:=by simp [Fv,Ed]
theorem Yo (s:JZ):(Fv s).length≤128:=by
 rw [mZ];have:=KF s.lo;have:=KF s.hi;omega
def wid (l:List Int):Int:=if l.length=0 then 0 else gi l (l.length-1)-gi l 0
end Go.Proofs.YtnjkoebfgcbbdaaGreatDoor
namespace Go.Vm
open Go.Am
variable {E:Env} {L:Frame} {H:Heap} {nx:Nat} {Q:PV→Heap→Nat→Prop} {dst:Option Tmp} {ty:TypeId} {pos:String} {af:Array Edge} {gd:Option (Nat×Bool)} {w:Bool}
theorem yA {a b:Nat} (h:a<2 ^ 64):a / b<2 ^ 64:=cn (Nat.div_le_self _ _) h
theorem Aa.zY {t t2:TypeId} {x y:Operand} {a b:Nat} (r:Nat) (hx:AU E.Γ L x=some (.p (.int .u64 (a:Int)))) (hy:AU E.Γ L y=some (.p (.int .u64 (b:Int)))) (he:a+b=r) (h:r<18446744073709551616) (q:Q (.p (.int .u64 (r:Int))) H nx) :
 Aa E w ⟨dst,.binOp .add t x y t2,ty,pos,af,gd⟩ L H nx Q:=Aa.a6n hx hy (by omega) (by grind)
theorem Aa.a3n {t t2:TypeId} {x y:Operand} {a b:Nat} (r:Nat) (hx:AU E.Γ L x=some (.p (.int .u64 (a:Int)))) (hy:AU E.Γ L y=some (.p (.int .u64 (b:Int)))) (he:a &&& b=r) (h:a<2 ^ 64) (h2:b<2 ^ 64) (q:Q (.p (.int .u64 (r:Int))) H nx) :
 Aa E w ⟨dst,.binOp .and t x y t2,ty,pos,af,gd⟩ L H nx Q:=Aa.b7s hx hy h h2 (by grind)
end Go.Vm
namespace Go.Proofs.YtnjkoebfgcbbdaaGreatDoor
open Go Go.Am Go.Vm Go.Pie
attribute [local irreducible] Aa Ai Ag Ad AP Ak Bf BM Bq Ah Vm.Done BD AB
theorem dZ (x:Nat) (hx:x<18446744073709551616):Ak env 112 [.int .u64 (x:Int)] (.p (.int .i64 (((GU x).length:Nat):Int))):=by
 obtain ⟨g1,g2,g3⟩:=(Pop.qg hx).2;have h1:=a9u hx;obtain ⟨A,hA⟩:∃ A,A=Pop.swA x:=⟨_,rfl⟩
 obtain ⟨B,hB⟩:∃ B,B=Pop.swB A:=⟨_,rfl⟩
 obtain ⟨C,hC⟩:∃ C,C=Pop.swC B:=⟨_,rfl⟩
 obtain ⟨D,hD⟩:∃ D,D=Pop.swD C:=⟨_,rfl⟩
 obtain ⟨F,hF⟩:∃ F,F=Pop.swE D:=⟨_,rfl⟩
 obtain ⟨G,hG⟩:∃ G,G=Pop.swF F:=⟨_,rfl⟩
 rw [← hA] at g1 g2 g3;rw [← hB] at g1 g3;rw [← hC] at g1;have m1:∀ a b:Nat,b<18446744073709551616→a &&& b<18446744073709551616:=fun a b h=>cn Nat.and_le_right h
 obtain ⟨a1,p1⟩:∃ a1,x / 2 ^ 1 &&& 6148914691236517205=a1:=⟨_,rfl⟩
 obtain ⟨a2,p2⟩:∃ a2,x &&& 6148914691236517205=a2:=⟨_,rfl⟩
 obtain ⟨b1,p3⟩:∃ b1,A / 2 ^ 2 &&& 3689348814741910323=b1:=⟨_,rfl⟩
 obtain ⟨b2,p4⟩:∃ b2,A &&& 3689348814741910323=b2:=⟨_,rfl⟩
 obtain ⟨c1,p5⟩:∃ c1,B / 2 ^ 4+B=c1:=⟨_,rfl⟩
 have e1:a1+a2=A:=by rw [← p1,← p2];exact hA.symm
 have e2:b1+b2=B:=by rw [← p3,← p4];exact hB.symm
 have e3:c1 &&& 1085102592571150095=C:=by rw [← p5];exact hC.symm
 have e4:C+C / 2 ^ 8=D:=hD.symm;have e5:D+D / 2 ^ 16=F:=hF.symm;have e6:F+F / 2 ^ 32=G:=hG.symm;have e7:G &&& 127=(GU x).length:=by rw [← h1];unfold Pop.sw;rw [← hA,← hB,← hC,← hD,← hF,← hG]
 clear hA hB hC hD hF hG h1;obtain ⟨Z,hZ⟩:∃ Z,Z=(GU x).length:=⟨_,rfl⟩
 rw [← hZ] at e7 ⊢;have e8:PV.p (.int .i64 ((G &&& 127:Nat):Int))=PV.p (.int .i64 (Z:Int)):=by rw [e7]
 refine Ak.enter (Ae (by decide)) Tryz.func112 rfl (by kernel_rfl) (by simp [Tryz.ntmps112]) ?_
 repeat' (first|(apply Aa.a3n a1;rfl;rfl;exact p1;exact yA (by omega);exact Bh rfl)|(apply Aa.a3n a2;rfl;rfl;exact p2;omega;exact Bh rfl)|(apply Aa.a3n b1;rfl;rfl;exact p3;exact yA (by omega);exact Bh rfl)|(apply Aa.a3n b2;rfl;rfl;exact p4;omega;exact Bh rfl)|(apply Aa.b9k;rfl;rfl;exact ⟨by omega,Bh rfl⟩)|(apply Aa.zY c1;rfl;rfl;exact p5;omega)|(apply Aa.zY A;rfl;rfl;exact e1;omega)|(apply Aa.zY B;rfl;rfl;exact e2;omega)|(apply Aa.zY D;rfl;rfl;exact e4;omega)|(apply Aa.zY F;rfl;rfl;exact e5;omega)|(apply Aa.zY G;rfl;rfl;exact e6;omega)|(apply Aa.a3n C;rfl;rfl;exact e3;omega;exact Bh rfl)|refine go1 ?_|(apply Aa.Gh;rfl;rfl;rfl;rfl;omega)|(apply Aa.jJ;rfl;rfl;(simp only [IntKind.bits];omega)))
 all_goals first|(exfalso;omega)|((refine Done.rt rfl rfl ⟨?_,rfl,rfl⟩;try rfl);exact e8;done)|(refine Done.rt rfl rfl ⟨?_,rfl,rfl⟩;try rfl)
theorem rZ (s:JZ) (hs:s.Ok):Ak env 67 [.agg (Enc.enc s)] (.p (.int .i64 (((Fv s).length:Nat):Int))):=by
 have h1:=dZ s.lo hs.lo;have h2:=dZ s.hi hs.hi;have b1:=KF s.lo;have b2:=KF s.hi;rw [mZ];refine Ak.enter (Ae (by decide)) Tryz.func67 rfl (by kernel_rfl) (by simp [Tryz.ntmps67]) ?_
 repeat' (first|(apply Aa.fn;rfl;rfl;exact h1;intro _;rfl)|(apply Aa.fn;rfl;rfl;exact h2;intro _;rfl)|refine FT ?_|fail)
 all_goals first|(exfalso;omega)|(refine Done.rt rfl rfl ⟨?_,rfl,rfl⟩;try rfl)
theorem Y5 (l:List Int) (hl:l.length≤128) (h:∀ x∈l,0≤x∧x≤127):Ak env 106 [.lst 3 (cells l) l.length] (.p (.int .i64 (wid l))):=by
 unfold wid;by_cases h0:l.length=0
 ·rw [if_pos h0]
  refine Ak.enter (Ae (by decide)) Tryz.func106 rfl (by kernel_rfl) (by simp [Tryz.ntmps106]) ?_
  repeat' (first|refine go2 ?_|(apply Ad.Ac;rfl)|(intro _;try (exfalso;omega)))
  all_goals first|(exfalso;omega)|(refine Done.rt rfl rfl ⟨?_,rfl,rfl⟩;try rfl)
 ·rw [if_neg h0]
  have h1:=h _ (gi_mem' (show l.length-1<l.length by omega));have h2:=h _ (gi_mem' (show 0<l.length by omega));have hn:(l.length:Int)-1=((l.length-1:Nat):Int):=by omega
  have hz:@gi Int Enc.toInhabited l (nat_lit 0)=gi l 0:=rfl;refine Ak.enter (Ae (by decide)) Tryz.func106 rfl (by kernel_rfl) (by simp [Tryz.ntmps106]) ?_
  repeat' (first|(apply Aa.Ap (l:=l) (i:=l.length-1);rfl;exact congrArg (fun b=>some (PV.p (.int .i64 b))) hn;rfl;omega;rfl)|(apply Aa.Ap (l:=l) (i:=0);rfl;rfl;rfl;omega;rfl)|refine FT ?_|(apply Aa.int;rfl;rfl;rfl)|(apply Ad.Ac;rfl)|(intro _;try (exfalso;omega)))
  all_goals first|(exfalso;omega)|(refine Done.rt rfl rfl ⟨?_,rfl,rfl⟩;try rfl)
def iU (y:VK) (l:List Int):Prop:=(l.length:Int)≤y.hn∧wid l≤y.hs
instance (y:VK) (l:List Int):Decidable (iU y l):=inferInstanceAs (Decidable (_∧_))
theorem a6w (y:VK) (l:List Int) (hl:l.length≤128) (h:∀ x∈l,0≤x∧x≤127):Ak env 60 [.agg (Enc.enc y),.lst 3 (cells l) l.length] (.p (.bool (decide (iU y l)))):=by
 have hw:=Y5 l hl h;by_cases h1:(l.length:Int)≤y.hn;all_goals by_cases h2:wid l≤y.hs
 all_goals first|rw [decide_eq_true (p:=iU y l) ⟨h1,h2⟩]|rw [decide_eq_false (p:=iU y l) (fun h=>h1 h.1)]|rw [decide_eq_false (p:=iU y l) (fun h=>h2 h.2)]
 all_goals generalize wid l=W at *
 all_goals
  refine Ak.enter (Ae (by decide)) Tryz.func60 rfl (by kernel_rfl) (by simp [Tryz.ntmps60]) ?_
 all_goals
  repeat' (first|(apply Aa.fn;rfl;rfl;exact hw;intro _;rfl)|refine FT ?_|(apply Ag.guard;rfl;rfl)|(apply Aa.int;rfl;rfl;rfl)|(intro _;try (exfalso;omega)))
 all_goals first|(exfalso;omega)|(refine Done.rt rfl rfl ⟨?_,rfl,rfl⟩;try rfl)
 all_goals first|exact PV.FB (decide_eq_true (by omega))|exact PV.FB (decide_eq_false (by omega))|exact PV.FB (by simp;omega)
attribute [local irreducible] Ci Ba DV DN Eo AZ CG
structure Sd8 where
 st:Nat
 lg:Nat
 dv:Nat
 ky:Nat
instance:Enc Sd8:={ default:=⟨0,0,0,0⟩,enc:=fun x=>[.int .u8 (x.st:Int),.int .u8 (x.lg:Int),.int .u8 (x.dv:Int),.int .u8 (x.ky:Int)],size:=4,len:=fun _=>rfl }
structure Mrk where
 bar:Nat
 b:Nat→Nat
instance:Enc Mrk:={ default:=⟨0,fun _=>0⟩,enc:=fun x=>[.int .u8 (x.bar:Int),.int .u8 (x.b 0:Int),.int .u8 (x.b 1:Int),.int .u8 (x.b 2:Int),.int .u8 (x.b 3:Int),.int .u8 (x.b 4:Int)],size:=6,len:=fun _=>rfl }
structure bD where
 org:OPl
 bars:List UInt8
 notes:List Sd8
 sets:List Mrk
def bD.enc (x:bD):List FV:=[.lst 226 (cells x.org.ranks) x.org.ranks.length,.lst 211 (cells x.org.Af) x.org.Af.length,.lst 234 (cells x.org.links) x.org.links.length,
 .lst 5 (cells x.bars) x.bars.length,.lst 170 (cells x.notes) x.notes.length,.lst 176 (cells x.sets) x.sets.length]
structure bD.Ok (x:bD):Prop where
 org:x.org.Ok
 nb:x.bars.length<9223372036854775808
 nn:x.notes.length<9223372036854775808
 ns:x.sets.length<9223372036854775808
 notes:∀ i,i<x.notes.length→(gi x.notes i).st<256∧(gi x.notes i).lg<256∧(gi x.notes i).dv<256∧(gi x.notes i).ky<256
 sets:∀ i,i<x.sets.length→(gi x.sets i).bar<256∧∀ j,(gi x.sets i).b j<256
def OL (x:bD):Prop:=Zb x.org∧(0<x.bars.length∧x.bars.length≤4)∧x.notes.length≤8∧x.sets.length≤3
noncomputable instance (x:bD):Decidable (OL x):=Classical.propDecidable _
theorem wH (x:bD) (hx:x.Ok):Ak env 14 [.agg x.enc] (.p (.bool (decide (OL x)))):=by
 have h1:=a1v x.org hx.org;have b1:=hx.nb;have b2:=hx.nn;have b3:=hx.ns;by_cases c1:Zb x.org
 ·rw [decide_eq_true c1] at h1
  by_cases c2:(0<x.bars.length∧x.bars.length≤4)∧x.notes.length≤8∧x.sets.length≤3
  ·rw [decide_eq_true (p:=OL x) ⟨c1,c2⟩]
   refine Ak.enter (Ae (by decide)) Tryz.func14 rfl (by kernel_rfl) (by simp [Tryz.ntmps14]) ?_
   repeat' (first|(apply Aa.fn;rfl;rfl;exact h1;intro _;rfl)|refine FT ?_|(apply Ai.guard;rfl;rfl)|(apply Aa.int;rfl;rfl;rfl)|(intro _;try (exfalso;omega)))
   all_goals first|(exfalso;omega)|contradiction|(refine Done.rt rfl rfl ⟨?_,rfl,rfl⟩;try rfl)
   all_goals exact PV.FB (by simp;omega)
  ·rw [decide_eq_false (p:=OL x) (fun h=>c2 h.2)]
   refine Ak.enter (Ae (by decide)) Tryz.func14 rfl (by kernel_rfl) (by simp [Tryz.ntmps14]) ?_
   repeat' (first|(apply Aa.fn;rfl;rfl;exact h1;intro _;rfl)|refine FT ?_|(apply Ai.guard;rfl;rfl)|(apply Aa.int;rfl;rfl;rfl)|(intro _;try (exfalso;omega)))
   all_goals first|(exfalso;omega)|contradiction|(refine Done.rt rfl rfl ⟨?_,rfl,rfl⟩;try rfl)
   all_goals exact PV.FB (by simp;omega)
 ·rw [decide_eq_false c1] at h1
  rw [decide_eq_false (p:=OL x) (fun h=>c1 h.1)];refine Ak.enter (Ae (by decide)) Tryz.func14 rfl (by kernel_rfl) (by simp [Tryz.ntmps14]) ?_
  repeat' (first|(apply Aa.fn;rfl;rfl;exact h1;intro _;rfl)|refine FT ?_|fail)
  all_goals first|(exfalso;omega)|contradiction|(refine Done.rt rfl rfl ⟨?_,rfl,rfl⟩;try rfl)
def bM (l:List UInt8):Nat→Int
 |0=>0
 |i+1=>bM l i+1+((gi l i).toNat:Int) % 6
theorem jq (l:List UInt8):∀ i:Nat,(i:Int)≤bM l i∧bM l i≤6*i
 |0=>by simp [bM]
 |i+1=>by
  have:=jq l i;unfold bM;omega
def ntP (o:He) (z:Int) (y:Sd8):LW :=
 ⟨(y.st:Int) % z,min z ((y.st:Int) % z+1+(y.lg:Int) % 8),(y.dv:Int) % (o.Af.length:Int),
  (gi o.Af ((y.dv:Int) % (o.Af.length:Int)).toNat).lo+(y.ky:Int) % ((gi o.Af ((y.dv:Int) % (o.Af.length:Int)).toNat).hi-(gi o.Af ((y.dv:Int) % (o.Af.length:Int)).toNat).lo+1)⟩
def H6 (o:He) (z:Int) (l:List Sd8):Nat→List LW
 |0=>[]
 |k+1=>if (H6 o z l k).any (fun m=>lu m (ntP o z (gi l k)))=true then H6 o z l k else H6 o z l k++[ntP o z (gi l k)]
theorem Qh (o:He) (z:Int) (l:List Sd8):∀ k,(H6 o z l k).length≤k
 |0=>ab _
 |k+1=>by
  have:=Qh o z l k;unfold H6;grind
def NH (nb:Nat) (l:List Mrk):Nat→Int
 |0=>-1
 |k+1=>if ((gi l k).bar:Int) % (nb:Int)>NH nb l k then ((gi l k).bar:Int) % (nb:Int) else NH nb l k
noncomputable def Jf (o:He) (nb:Nat) (l:List Mrk):Nat→List vC
 |0=>[]
 |k+1=>if ((gi l k).bar:Int) % (nb:Int)>NH nb l k then Jf o nb l k++[⟨((gi l k).bar:Int) % (nb:Int),O9 o (gi l k).b⟩] else Jf o nb l k
theorem Uy (o:He) (nb:Nat) (l:List Mrk):∀ k,(Jf o nb l k).length≤k
 |0=>ab _
 |k+1=>by
  have:=Uy o nb l k;unfold Jf;grind
noncomputable def b7h (o:He) (x:bD):F7:=⟨Bv (bM x.bars) (x.bars.length+1),H6 o (bM x.bars x.bars.length) x.notes x.notes.length,Jf o x.bars.length x.sets x.sets.length⟩
noncomputable def mkP (x:bD):F7:=b7h (YF x.org) x
theorem a7s (a b:LW):Ak env 73 [.agg (Enc.enc a),.agg (Enc.enc b)] (.p (.bool (lu a b))):=by
 unfold lu;by_cases h1:a.d=b.d
 case neg =>
  rw [decide_eq_false h1,er];refine Ak.enter (Ae (by decide)) Tryz.func73 rfl (by kernel_rfl) (by simp [Tryz.ntmps73]) ?_
  repeat' (first|refine JA ?_|(apply Ai.guard;rfl;rfl)|(intro _;try (exfalso;omega)))
  all_goals first|(exfalso;omega)|contradiction|(refine Done.rt rfl rfl ⟨?_,rfl,rfl⟩;try rfl)
 by_cases h2:a.k=b.k
 case neg =>
  rw [decide_eq_true h1,decide_eq_false h2,er,cR];refine Ak.enter (Ae (by decide)) Tryz.func73 rfl (by kernel_rfl) (by simp [Tryz.ntmps73]) ?_
  repeat' (first|refine JA ?_|(apply Ai.guard;rfl;rfl)|(intro _;try (exfalso;omega)))
  all_goals first|(exfalso;omega)|contradiction|(refine Done.rt rfl rfl ⟨?_,rfl,rfl⟩;try rfl)
 by_cases h3:a.s<b.e
 case neg =>
  rw [decide_eq_true h1,decide_eq_true h2,decide_eq_false h3,er,cR];refine Ak.enter (Ae (by decide)) Tryz.func73 rfl (by kernel_rfl) (by simp [Tryz.ntmps73]) ?_
  repeat' (first|refine JA ?_|(apply Ai.guard;rfl;rfl)|(intro _;try (exfalso;omega)))
  all_goals first|(exfalso;omega)|contradiction|(refine Done.rt rfl rfl ⟨?_,rfl,rfl⟩;try rfl)
 rw [decide_eq_true h1,decide_eq_true h2,decide_eq_true h3,cR,cR,cR];refine Ak.enter (Ae (by decide)) Tryz.func73 rfl (by kernel_rfl) (by simp [Tryz.ntmps73]) ?_
 repeat' (first|refine JA ?_|(apply Ai.guard;rfl;rfl)|(intro _;try (exfalso;omega)))
 all_goals first|(exfalso;omega)|contradiction|(refine Done.rt rfl rfl ⟨?_,rfl,rfl⟩;try rfl)
theorem sZ (n m:LW):Eb env 72 ([.p (.agg (Enc.enc m))]++[.ref 0 0]) [(0,a2d n)] 1 (.bool (lu m n)):=by
 have h:=a7s m n;refine Eb.enter (Ae (by decide)) Tryz.func72 rfl (by kernel_rfl) (by simp) ?_
 repeat' (first|(apply Aa.fn;rfl;rfl;exact h;intro _;rfl)|refine go1 ?_|fail)
 all_goals first|(exfalso;omega)|(refine Done.ret rfl (.refl _) trivial ?_ (by omega) (ab _) ⟨?_,rfl,rfl⟩;exact Eh;try rfl)
theorem pU (x:bD) (hx:x.Ok) (hf:OL x):Ak env 29 [.agg x.enc] (.DX [.p (.agg (Enc.enc (YF x.org))),.p (.agg (Enc.enc (mkP x)))]):=by
 obtain ⟨f1,f2,f3,f4⟩:=hf;have hm:=nT x.org hx.org f1;have hT:=pY x.org hx.org f1;have hdr:=fun i (hi:i<x.sets.length)=>uT (YF x.org) hT (gi x.sets i).b (hx.sets i hi).2
 have hbr:=jq x.bars;unfold mkP b7h;generalize YF x.org=o at *;have d1:=hT.Af;have hsl:(Bv (bM x.bars) (x.bars.length+1)).length=x.bars.length+1:=Cj _ _;refine Ak.enter (Ae (by decide)) Tryz.func29 rfl (by kernel_rfl) (by simp [Tryz.ntmps29]) ?_
 repeat' (first|(apply Aa.fn;rfl;rfl;exact hm;intro _;rfl)|refine go1 ?_|(apply Aa.build;rfl;rfl;rfl;rfl;rfl)|(apply Aa.buildSlice;rfl;rfl;rfl;decide;rfl;rfl;rfl))
 all_goals try (exfalso;omega)
 apply Ad.Jj (x.bars.length) [(1,_),(2,_),(3,_),(4,_),(5,_),(24,_),(25,_)] [(0,_),(1,_),(2,_),(3,_)] (fun k r=>(26,.p (.int .i64 (k:Int)))::r) (fun k r=>(4,.vec 3 (cells (Bv (bM x.bars) (k+1))) (Bv (bM x.bars) (k+1)).length false)::(5,.box 32 [.vec 4 (Bv (bM x.bars) (k+1)).length 0 (Bv (bM x.bars) (k+1)).length,.p (.val (.slice none 0 0)),.p (.val (.slice none 0 0))])::r) 6
 ·first|omega|decide
 ·first|omega|decide
 ·exact RH
 ·exact U0
 ·intro k hk
  have hl:(Bv (bM x.bars) (k+1)).length=k+1:=Cj _ _;have hg:gi (Bv (bM x.bars) (k+1)) k=bM x.bars k:=Ej _ (by omega);have hb:=hbr k;have hu:=(gi x.bars k).toNat_lt;have e1:Bv (bM x.bars) (k+1+1)=Bv (bM x.bars) (k+1)++[bM x.bars k+1+((gi x.bars k).toNat:Int) % 6]:=rfl;have e2:(Bv (bM x.bars) (k+1+1)).length=(Bv (bM x.bars) (k+1)).length+1:=by rw [e1];simp
  repeat' (first|(apply Aa.Pm;rfl;rfl;(first|omega|(simp only [List.length_set]<;>omega));exact congrArg (fun b=>some (FV.int .i64 b)) (hg))|(apply Aa.Dw (a:=(bM x.bars k+1+((gi x.bars k).toNat:Int) % 6));rfl;rfl;rfl;rfl;rfl;rfl;rfl;rfl;(intro _ h;cases h);rfl;rfl;rfl;decide;decide;(first|omega|(simp only [List.length_take,List.length_drop,List.length_append,List.length_singleton,List.length_cons,List.length_nil]<;>omega)))|(apply Aa.Ap;rfl;rfl;rfl;omega;rfl)|(apply Aa.DU;rfl;rfl;rfl;rfl;omega)|refine FT ?_|(apply Aa.int;rfl;rfl;rfl)|(apply Aa.buildSlice;rfl;rfl;rfl;decide;rfl;rfl;rfl)|(apply Aa.Gh;rfl;rfl;rfl;rfl;omega)|(apply Ad.Ac;rfl)|(intro _;try (exfalso;omega)))
  all_goals try (exfalso;omega)
  refine Ah.normal ⟨by first|omega|decide,?_,?_⟩
  ·try (rw [e2,e1])
   exact Dl
  ·rw [e2,e1]
   exact Eh
 ·have hg:gi (Bv (bM x.bars) (x.bars.length+1)) x.bars.length=bM x.bars x.bars.length:=Ej _ (by omega)
  have hb:=hbr x.bars.length;have hlc:((Bv (bM x.bars) (x.bars.length+1)).length:Int)-1=(x.bars.length:Int):=by omega
  repeat' (first|(apply Aa.Pm;rfl;rfl;(first|omega|(simp only [List.length_set]<;>omega));exact congrArg (fun b=>some (FV.int .i64 b)) (hg))|(apply Aa.DU (l:=Bv (bM x.bars) (x.bars.length+1)) (i:=x.bars.length);rfl;rfl;exact congrArg (fun b=>some (PV.p (.int .i64 b))) hlc;rfl;omega)|(apply Aa.lenV;rfl;rfl;rfl)|refine FT ?_|(apply Aa.int;rfl;rfl;rfl)|(apply Ad.Ac;rfl)|(intro _;try (exfalso;omega)))
  all_goals try (exfalso;omega)
  refine Ad.ghost (Aw.EP 5 1 39 rfl rfl) ?_;refine Ad.ghost (Aw.EP 5 2 182 rfl rfl) ?_;obtain ⟨z,hz⟩:∃ z,z=bM x.bars x.bars.length:=⟨_,rfl⟩
  rw [← hz] at hb ⊢;apply Ad.Jj (x.notes.length) [(1,_),(2,_),(3,_),(4,_),(5,_),(8,_),(56,_),(57,_)] [(0,_),(1,_),(2,_),(3,_),(4,_),(7,_)] (fun k r=>(58,.p (.int .i64 (k:Int)))::r) (fun k r=>(6,.vec 39 (cells (H6 o z x.notes k)) (H6 o z x.notes k).length true)::(5,.box 32 [.vec 4 (Bv (bM x.bars) (x.bars.length+1)).length 0 (Bv (bM x.bars) (x.bars.length+1)).length,.vec 6 (H6 o z x.notes k).length 0 (H6 o z x.notes k).length,.vec 7 0 0 0])::r) 8
  ·first|omega|decide
  ·first|omega|decide
  ·exact RH
  ·exact U0
  ·intro k hk
   have hl2:=Qh o z x.notes k;obtain ⟨y1,y2,y3,y4⟩:=hx.notes k hk;have hd0:0≤((gi x.notes k).dv:Int) % (o.Af.length:Int):=bx _ (by omega);have hd1:((gi x.notes k).dv:Int) % (o.Af.length:Int)<(o.Af.length:Int):=bv _ (by omega);have hdv:=hT.dv (((gi x.notes k).dv:Int) % (o.Af.length:Int)).toNat (by omega);have hs0:0≤((gi x.notes k).st:Int) % z:=bx _ (by omega);have hs1:((gi x.notes k).st:Int) % z<z:=bv _ (by omega);have hk0:0≤((gi x.notes k).ky:Int) % ((gi o.Af (((gi x.notes k).dv:Int) % (o.Af.length:Int)).toNat).hi-(gi o.Af (((gi x.notes k).dv:Int) % (o.Af.length:Int)).toNat).lo+1):=bx _ (by omega);have hk1:((gi x.notes k).ky:Int) % ((gi o.Af (((gi x.notes k).dv:Int) % (o.Af.length:Int)).toNat).hi-(gi o.Af (((gi x.notes k).dv:Int) % (o.Af.length:Int)).toNat).lo+1)<(gi o.Af (((gi x.notes k).dv:Int) % (o.Af.length:Int)).toNat).hi-(gi o.Af (((gi x.notes k).dv:Int) % (o.Af.length:Int)).toNat).lo+1:=bv _ (by omega);have hany:=yx 72 (ntP o z (gi x.notes k)) (H6 o z x.notes k) true (fun m=>lu m (ntP o z (gi x.notes k))) (by omega) (fun m=>sZ (ntP o z (gi x.notes k)) m);have e1:H6 o z x.notes (k+1)=if (H6 o z x.notes k).any (fun m=>lu m (ntP o z (gi x.notes k)))=true then H6 o z x.notes k else H6 o z x.notes k++[ntP o z (gi x.notes k)]:=rfl
   by_cases hb:(H6 o z x.notes k).any (fun m=>lu m (ntP o z (gi x.notes k)))=true
   ·rw [if_pos hb] at e1
    rw [hb] at hany
    repeat' (first|(apply Aa.read [10,6] hany;rfl;rfl;exact .of_eq rfl;exact CS.Az rfl;exact CY rfl;(repeat (first|exact trivial|refine ⟨⟨_,rfl,.of_eq rfl⟩,?_⟩));decide;(intro _ hb;simp at hb<;>omega);rfl)|(apply Aa.makeFunc;rfl;rfl)|(apply Aa.Ap;rfl;rfl;rfl;omega;rfl)|(apply Aa.Oa;rfl;rfl;rfl;omega;omega;rfl)|refine FT ?_|(apply Aa.int;rfl;rfl;rfl)|(apply Aa.build;rfl;rfl;rfl;rfl;rfl)|(apply Aa.b4w;rfl;rfl)|(apply Aa.Gh;rfl;rfl;rfl;rfl;omega)|(apply Ad.Ac;rfl)|(apply Ad.cond_false;rfl)|(intro _;try (exfalso;omega)))
    all_goals try (exfalso;omega)
    refine Ah.normal ⟨by first|omega|decide,?_,?_⟩
    ·try (rw [e1])
     exact Dl
    ·rw [e1]
     exact Eh
   ·rw [if_neg hb] at e1
    have hb':(H6 o z x.notes k).any (fun m=>lu m (ntP o z (gi x.notes k)))=false:=by simpa using hb
    rw [hb'] at hany;have e2:(H6 o z x.notes (k+1)).length=(H6 o z x.notes k).length+1:=by rw [e1];simp
    repeat' (first|(apply Aa.read [10,6] hany;rfl;rfl;exact .of_eq rfl;exact CS.Az rfl;exact CY rfl;(repeat (first|exact trivial|refine ⟨⟨_,rfl,.of_eq rfl⟩,?_⟩));decide;(intro _ hb;simp at hb<;>omega);rfl)|(apply Aa.makeFunc;rfl;rfl)|(apply Aa.Dw (a:=ntP o z (gi x.notes k));rfl;rfl;rfl;rfl;rfl;rfl;rfl;rfl;(intro _ h;cases h);rfl;rfl;rfl;decide;decide;(first|omega|(simp only [List.length_take,List.length_drop,List.length_append,List.length_singleton,List.length_cons,List.length_nil]<;>omega)))|(apply Aa.Ap;rfl;rfl;rfl;omega;rfl)|(apply Aa.Oa;rfl;rfl;rfl;omega;omega;rfl)|refine FT ?_|(apply Aa.int;rfl;rfl;rfl)|(apply Aa.build;rfl;rfl;rfl;rfl;rfl)|(apply Aa.buildSlice;rfl;rfl;rfl;decide;rfl;rfl;rfl)|(apply Aa.b4w;rfl;rfl)|(apply Aa.Gh;rfl;rfl;rfl;rfl;omega)|(apply Ad.Ac;rfl)|(apply Ad.cond_true;rfl)|(intro _;try (exfalso;omega)))
    all_goals try (exfalso;omega)
    refine Ah.normal ⟨by first|omega|decide,?_,?_⟩
    ·try (rw [e2,e1])
     exact Dl
    ·rw [e2,e1]
     exact Eh
  ·have hl2:=Qh o z x.notes x.notes.length
   repeat' (first|refine JA ?_|(apply Ad.Ac;rfl)|(intro _;try (exfalso;omega)))
   all_goals try (exfalso;omega)
   apply Ad.Jj (x.sets.length) [(1,_),(2,_),(3,_),(4,_),(5,_),(119,_),(120,_)] [(0,_),(1,_),(2,_),(3,_),(4,_),(6,_)] (fun k r=>(121,.p (.int .i64 (k:Int)))::(14,.p (.int .i64 (NH x.bars.length x.sets k)))::r) (fun k r=>(7,.vec 182 (cells (Jf o x.bars.length x.sets k)) (Jf o x.bars.length x.sets k).length true)::(5,.box 32 [.vec 4 (Bv (bM x.bars) (x.bars.length+1)).length 0 (Bv (bM x.bars) (x.bars.length+1)).length,.vec 6 (H6 o z x.notes x.notes.length).length 0 (H6 o z x.notes x.notes.length).length,.vec 7 (Jf o x.bars.length x.sets k).length 0 (Jf o x.bars.length x.sets k).length])::r) 8
   ·first|omega|decide
   ·first|omega|decide
   ·exact RH
   ·exact U0
   ·intro k hk
    have hl3:=Uy o x.bars.length x.sets k;have hy:=(hx.sets k hk).1;have hdk:=hdr k hk;have hb0:0≤((gi x.sets k).bar:Int) % (x.bars.length:Int):=bx _ (by omega);have hb1:((gi x.sets k).bar:Int) % (x.bars.length:Int)<(x.bars.length:Int):=bv _ (by omega);have e1:Jf o x.bars.length x.sets (k+1)=if ((gi x.sets k).bar:Int) % (x.bars.length:Int)>NH x.bars.length x.sets k then Jf o x.bars.length x.sets k++[⟨((gi x.sets k).bar:Int) % (x.bars.length:Int),O9 o (gi x.sets k).b⟩] else Jf o x.bars.length x.sets k:=rfl
    have e3:NH x.bars.length x.sets (k+1)=if ((gi x.sets k).bar:Int) % (x.bars.length:Int)>NH x.bars.length x.sets k then ((gi x.sets k).bar:Int) % (x.bars.length:Int) else NH x.bars.length x.sets k:=rfl
    by_cases hc:((gi x.sets k).bar:Int) % (x.bars.length:Int)>NH x.bars.length x.sets k
    ·rw [if_pos hc] at e1 e3
     have e2:(Jf o x.bars.length x.sets (k+1)).length=(Jf o x.bars.length x.sets k).length+1:=by rw [e1];simp
     repeat' (first|(apply Aa.fn;rfl;rfl;exact hdk;intro _;rfl)|(apply Aa.Dw (a:=(⟨((gi x.sets k).bar:Int) % (x.bars.length:Int),O9 o (gi x.sets k).b⟩:vC));rfl;rfl;rfl;rfl;rfl;rfl;rfl;rfl;(intro _ h;cases h);rfl;rfl;rfl;decide;decide;(first|omega|(simp only [List.length_take,List.length_drop,List.length_append,List.length_singleton,List.length_cons,List.length_nil]<;>omega)))|(apply Aa.Ap;rfl;rfl;rfl;omega;rfl)|refine FT ?_|(apply Aa.int;rfl;rfl;rfl)|(apply Aa.build;rfl;rfl;rfl;rfl;rfl)|(apply Aa.buildSlice;rfl;rfl;rfl;decide;rfl;rfl;rfl)|(apply Aa.Gh;rfl;rfl;rfl;rfl;omega)|(apply Ad.Ac;rfl)|(apply Ad.Au;rfl)|(intro _;try (exfalso;omega)))
     all_goals try (exfalso;omega)
     refine Ah.normal ⟨by first|omega|decide,?_,?_⟩
     ·try (first|rw [e2,e1]|rw [e3])
      exact Dl
     ·first|rw [e2,e1]|rw [e3]
      exact Eh
    ·rw [if_neg hc] at e1 e3
     repeat' (first|(apply Aa.Ap;rfl;rfl;rfl;omega;rfl)|refine JA ?_|(apply Aa.Gh;rfl;rfl;rfl;rfl;omega)|(apply Ad.Ac;rfl)|(apply Ad.Au;rfl)|(intro _;try (exfalso;omega)))
     all_goals try (exfalso;omega)
     refine Ah.normal ⟨by first|omega|decide,?_,?_⟩
     ·try (first|rw [e1]|rw [e3])
      exact Dl
     ·first|rw [e1]|rw [e3]
      exact Eh
   ·have hl3:=Uy o x.bars.length x.sets x.sets.length
    have hsl':(Bv (bM x.bars) (x.bars.length+1)).length=x.bars.length+1:=hsl
    repeat' (first|(refine Ad.at 27 ?_;refine Ad.ghost (Aw.trans (Aw.Dk 5 0 rfl rfl rfl) (Aw.trans (Aw.Dk 5 1 rfl rfl rfl) (Aw.Dk 5 2 rfl rfl rfl))) ?_;first|apply Ad.BL|apply Ad.CO)|(refine Ag.atIdx 2 ?_;apply Ag.weak [.tmp 5];decide +kernel;rfl;rfl;(first|exact Ll.ref rfl|exact Ll.vec rfl|exact Ll.EZ rfl);decide +kernel;rfl)|apply Ad.BL|apply Ad.Gi|apply BM.normal|apply Bq.exit|apply Ah.exit|apply Ad.ret|apply Ai.nil|apply Ag.nil|apply Ai.one|(apply Ag.bar;decide +kernel)|apply Ag.quiet|(apply Aa.int;rfl;rfl;rfl)|(apply Aa.load;rfl;rfl)|(apply Aa.FD;rfl;rfl;rfl;trivial;rfl;rfl;exact Bh rfl;exact le_dec rfl)|(apply Ad.Ac;rfl)|(intro _;try (exfalso;omega)))
    all_goals first|(exfalso;omega)|(refine Done.rt rfl rfl ⟨?_,rfl,rfl⟩;try rfl)
end Go.Proofs.YtnjkoebfgcbbdaaGreatDoor
namespace Go.Proofs.YtnjkoebfgcbbdaaGreatDoor
open Go Go.Am Go.Vm
theorem aG (x n:Nat):(x &&& (2 ^ n-1)) / 2 ^ n=0 :=by simp
theorem a0h (o:He) (ho:uV o) (b:Nat→Nat) (hb:∀ i,b i<256):(O9 o b).Ok:=by
 have r2:=ho.Af;have l:=Cj (G9 o b) o.Af.length;refine ⟨fun i hi=>?_,?_,?_,?_⟩
 ·have hi:i<(Bv (G9 o b) o.Af.length).length:=hi
  rw [l] at hi;show gi (Bv (G9 o b) o.Af.length) i<_;rw [Ej _ hi];have:=hb (i % 3);have:G9 o b i≤b (i % 3):=fa;omega
 ·have:=hb 3
  have:b 3 &&& (2 ^ o.IK.length-1)≤b 3:=fa;show b 3 &&& (2 ^ o.IK.length-1)<_;omega
 ·have:=hb 4
  have:b 4 &&& (2 ^ o.Af.length-1)≤b 4:=fa;show b 4 &&& (2 ^ o.Af.length-1)<_;omega
 ·show (Bv (G9 o b) o.Af.length).length<_
  omega
theorem xH (o:He) (b:Nat→Nat):Vo o (O9 o b)=0:=by
 have l:=Cj (G9 o b) o.Af.length;rw [eU (show (Bv (G9 o b) o.Af.length).length=_ from l) fun i hi=>?_]
 ·rw [if_neg]
  intro h;rcases h with h|h
  ·exact h (aG _ _)
  ·exact h (aG _ _)
 ·have hi:i<(Bv (G9 o b) o.Af.length).length:=hi
  rw [l] at hi;show gi (Bv (G9 o b) o.Af.length) i / _=0;rw [Ej _ hi];exact aG _ _
open Go.Pie
attribute [local irreducible] Ci Ba DV DN Eo AZ CG
structure NtR (o:He) (z:Int) (n:LW):Prop where
 d:0≤n.d∧n.d<o.Af.length
 k:(gi o.Af n.d.toNat).lo≤n.k∧n.k≤(gi o.Af n.d.toNat).hi
 r:0≤n.s∧n.s<n.e∧n.e≤z
theorem c0n {o:He} (ho:uV o) {z:Int} (hz:0<z) (y:Sd8):NtR o z (ntP o z y):=by
 have hd:=ho.Af;have e1:=bx (y.dv:Int) (show (o.Af.length:Int)≠0 by omega);have e2:=bv (y.dv:Int) (show 0<(o.Af.length:Int) by omega);have e3:=bx (y.st:Int) (show z≠0 by omega);have e4:=bv (y.st:Int) hz;have hv:=ho.dv ((y.dv:Int) % (o.Af.length:Int)).toNat (by omega);refine ⟨⟨e1,e2⟩,?_,?_⟩
 ·show (gi o.Af ((y.dv:Int) % (o.Af.length:Int)).toNat).lo≤(gi o.Af ((y.dv:Int) % (o.Af.length:Int)).toNat).lo+(y.ky:Int) % ((gi o.Af ((y.dv:Int) % (o.Af.length:Int)).toNat).hi-(gi o.Af ((y.dv:Int) % (o.Af.length:Int)).toNat).lo+1)∧(gi o.Af ((y.dv:Int) % (o.Af.length:Int)).toNat).lo+(y.ky:Int) % ((gi o.Af ((y.dv:Int) % (o.Af.length:Int)).toNat).hi-(gi o.Af ((y.dv:Int) % (o.Af.length:Int)).toNat).lo+1)≤(gi o.Af ((y.dv:Int) % (o.Af.length:Int)).toNat).hi
  generalize gi o.Af ((y.dv:Int) % (o.Af.length:Int)).toNat=D at *;have e5:=bx (y.ky:Int) (show D.hi-D.lo+1≠0 by omega);have e6:=bv (y.ky:Int) (show 0<D.hi-D.lo+1 by omega);omega
 ·show 0≤(y.st:Int) % z∧(y.st:Int) % z<min z ((y.st:Int) % z+1+(y.lg:Int) % 8)∧min z ((y.st:Int) % z+1+(y.lg:Int) % 8)≤z
  omega
theorem a7x {o:He} (ho:uV o) {z:Int} (hz:0<z) (l:List Sd8):∀ k,∀ i,i<(H6 o z l k).length→NtR o z (gi (H6 o z l k) i)∧∀ j,j<i→lu (gi (H6 o z l k) j) (gi (H6 o z l k) i)=false
 |0,i,hi=>by contradiction
 |k+1,i,hi=>by
  have ih:=a7x ho hz l k;unfold H6 at hi ⊢;split at hi
  ·grind
  ·rename_i h1
   rw [if_neg h1];rw [aE] at hi;have hi':i<(H6 o z l k).length+1:=hi;by_cases e:i<(H6 o z l k).length
   ·obtain ⟨q1,q2⟩:=ih i e
    rw [Ie,if_pos e];refine ⟨q1,fun j hj=>?_⟩;rw [Ie,if_pos (by omega)];grind
   ·obtain rfl:i=(H6 o z l k).length:=by omega
    rw [Ie,if_neg (by omega),if_pos rfl];refine ⟨c0n ho hz _,fun j hj=>?_⟩;rw [Ie,if_pos hj];have h2:=(Y9 (l:=H6 o z l k) (f:=fun m=>lu m (ntP o z (gi l k))) (i:=(H6 o z l k).length) (ab _)).1 (by grind);grind
theorem nU {nb:Nat} (h:0<nb) (l:List Mrk):∀ k,-1≤NH nb l k∧NH nb l k<nb
 |0=>by simp only [NH];omega
 |k+1=>by
  have:=nU h l k;have e2:=bv ((gi l k).bar:Int) (show 0<(nb:Int) by omega);unfold NH;split<;>omega
theorem a3d (o:He) {nb:Nat} (h:0<nb) (l:List Mrk):∀ k,k≤l.length→∀ i,i<(Jf o nb l k).length→(0≤(gi (Jf o nb l k) i).bar∧(gi (Jf o nb l k) i).bar≤NH nb l k) ∧
 (0<i→(gi (Jf o nb l k) (i-1)).bar<(gi (Jf o nb l k) i).bar)∧∃ m,m<l.length∧(gi (Jf o nb l k) i).reg=O9 o (gi l m).b
 |0,_,i,hi=>by contradiction
 |k+1,hk,i,hi=>by
  have ih:=a3d o h l k (by omega);have e1:=bx ((gi l k).bar:Int) (show (nb:Int)≠0 by omega);have q1:Jf o nb l (k+1)=if ((gi l k).bar:Int) % (nb:Int)>NH nb l k then Jf o nb l k++[⟨((gi l k).bar:Int) % (nb:Int),O9 o (gi l k).b⟩] else Jf o nb l k:=rfl
  have q2:NH nb l (k+1)=if ((gi l k).bar:Int) % (nb:Int)>NH nb l k then ((gi l k).bar:Int) % (nb:Int) else NH nb l k:=rfl
  rw [q1] at hi;rw [q1,q2];by_cases h1:((gi l k).bar:Int) % (nb:Int)>NH nb l k
  ·rw [if_pos h1] at hi
   rw [if_pos h1,if_pos h1];rw [aE] at hi;have hi':i<(Jf o nb l k).length+1:=hi;by_cases e:i<(Jf o nb l k).length
   ·obtain ⟨q1,q2,q3⟩:=ih i e
    rw [Ie,if_pos e];refine ⟨by omega,fun h0=>?_,q3⟩;rw [Ie,if_pos (by omega)];exact q2 h0
   ·obtain rfl:i=(Jf o nb l k).length:=by omega
    rw [Ie,if_neg (by omega),if_pos rfl];refine ⟨⟨e1,bh _⟩,fun h0=>?_,k,by omega,rfl⟩;rw [Ie,if_pos (by omega)];have:=(ih ((Jf o nb l k).length-1) (by omega)).1;show _<((gi l k).bar:Int) % (nb:Int);omega
  ·rw [if_neg h1] at hi
   rw [if_neg h1,if_neg h1];exact ih i hi
theorem TG (x:bD) {i:Nat} (h:i≤x.bars.length):gi (mkP x).bars i=bM x.bars i:=Ej _ (by omega)
theorem nR (x:bD):(mkP x).bars.length=x.bars.length+1:=Cj _ _
theorem b0b (x:bD):OU (mkP x)=0:=TG x (ao _)
theorem b1m (x:bD):Qd (mkP x)=bM x.bars x.bars.length:=by
 unfold Qd;rw [nR];exact TG x (by omega)
theorem a9m (l:List UInt8) (i:Nat):bM l i<bM l (i+1):=by
 show _<bM l i+1+((gi l i).toNat:Int) % 6;omega
theorem b2w (x:bD) (hx:x.Ok) (hf:OL x):um (YF x.org) (mkP x):=by
 have ho:=pY x.org hx.org hf.1;obtain ⟨_,⟨f1,f2⟩,f3,f4⟩:=hf;have hz:0<bM x.bars x.bars.length:=by have:=(jq x.bars x.bars.length).1;omega
 have hN:=a7x ho hz x.notes x.notes.length;have lN:=Qh (YF x.org) (bM x.bars x.bars.length) x.notes x.notes.length;have hS:=a3d (YF x.org) f1 x.sets x.sets.length (ab _);have lS:=Uy (YF x.org) x.bars.length x.sets x.sets.length;have hl:=nU f1 x.sets x.sets.length;have eN:(mkP x).notes=H6 (YF x.org) (bM x.bars x.bars.length) x.notes x.notes.length:=rfl;have eS:(mkP x).sets=Jf (YF x.org) x.bars.length x.sets x.sets.length:=rfl;have eL:=nR x;refine yT ⟨by omega,by grind,by grind,fun i hi=>?_⟩ (by omega) (fun i hi=>?_) (by grind) (fun i hi=>?_) (by grind) fun i hi=>?_
 ·rw [eS] at hi ⊢
  obtain ⟨_,_,m,hm,e⟩:=hS i hi;rw [e];exact a0h _ ho _ (hx.sets m hm).2
 ·rw [TG x (by omega)]
  have:=jq x.bars i;refine ⟨by omega,fun h0=>?_⟩;rw [TG x (by omega)];have:=a9m x.bars (i-1)
  rwa [show i-1+1=i by omega] at this
 ·obtain ⟨⟨q1,q2,q3⟩,q4⟩:=hN i (by rw [← eN];exact hi)
  exact ⟨q1,q2,by rw [b0b,b1m];exact q3,q4⟩
 ·rw [eS] at hi ⊢
  obtain ⟨q1,q2,m,_,e⟩:=hS i hi;refine ⟨by omega,q2,?_⟩;rw [e];exact xH _ _
theorem b0s (x:bD) (hx:x.Ok) (hf:OL x):XJ (YF x.org) (mkP x)=0:=by
 unfold XJ;rw [if_neg (fun h=>h (pY x.org hx.org hf.1).ok)];exact (b2w x hx hf).err
attribute [local irreducible] Aa Ai Ag Ad AP Ak Bf BM Bq Ah Vm.Done BD AB
structure Qu where
 o:He
 p:F7
 y:VK
instance:Enc Qu:={ default:=⟨default,default,default⟩,enc:=fun x=>Enc.enc x.o++(Enc.enc x.p++Enc.enc x.y),size:=11,len:=fun x=>by rw [aE,aE,Enc.len,Enc.len,Enc.len];rfl }
structure JV (q:Qu):Prop where
 o:a1i q.o
 e:XJ q.o q.p=0
 p:um q.o q.p
 y:q.y.Ok
def GZ (q:Qu) (i:Nat):Bool:=(gi q.o.Af (gi q.p.notes i).d.toNat).WJ
def mW (q:Qu) (N:List Int):Prop:=∀ i,i<N.length→0≤gi N i∧gi N i<q.p.notes.length
theorem N7 (q:Qu) (hq:JV q) (i:Nat) (hi:i<q.p.notes.length):Eb env 85 ([.p (.agg (Enc.enc q)),.p (.int .i64 (i:Int))]++[]) [] 0 (.bool (GZ q i)):=by
 have hN:=hq.p.note i hi;obtain ⟨j,hj⟩:∃ j:Nat,(gi q.p.notes i).d=(j:Int):=⟨(gi q.p.notes i).d.toNat,by have:=hN.d;omega⟩
 have hjn:j<q.o.Af.length:=by have:=hN.d;omega
 have hb:GZ q i=(gi q.o.Af j).WJ:=by unfold GZ;grind
 rw [hb];refine Eb.enter (Ae (by decide)) Tryz.func85 rfl (by kernel_rfl) (by simp) ?_
 repeat' (first|(apply Aa.Ap (l:=q.p.notes) (i:=i);rfl;rfl;rfl;omega;rfl)|(apply Aa.Ap (l:=q.o.Af) (i:=j);rfl;exact congrArg (fun b=>some (PV.p (.int .i64 b))) hj;rfl;omega;rfl)|refine FT ?_|fail)
 all_goals first|(exfalso;omega)|(refine Done.ret rfl (.refl _) trivial ?_ (by omega) (ab _) ⟨?_,rfl,rfl⟩;exact Eh;try rfl)
def hasB (l:List Int) (h:Int) (i:Nat):Bool:=decide (gi l i=h)
def lhB (l:List Int) (h:Int):Heap:=[(0,.box 28 [.p (.lst 3 (cells l) l.length)]),(1,.box 3 [.p (.int .i64 h)])]
theorem uf (l:List Int) (h:Int) (i:Nat) (hi:i<l.length):Eb env 124 ([.p (.int .i64 (i:Int))]++[.ref 0 0,.ref 1 0]) (lhB l h) 2 (.bool (hasB l h i)):=by
 unfold lhB hasB;refine Eb.enter (Ae (by decide)) Tryz.func124 rfl (by kernel_rfl) (by simp [Tryz.ntmps124]) ?_
 repeat' (first|(apply Aa.Ap;rfl;rfl;rfl;omega;rfl)|refine JA ?_|fail)
 all_goals first|(exfalso;omega)|(refine Done.ret rfl (.refl _) trivial ?_ (by omega) (ab _) ⟨?_,rfl,rfl⟩;exact Eh;try rfl)
def uh (p:F7) (N:List Int) (is:Nat→Bool) (d:Nat):Nat→List Int
 |0=>[]
 |k+1=>if is (gi N k).toNat=true∧(gi p.notes (gi N k).toNat).d=(d:Int) then uh p N is d k++[(gi p.notes (gi N k).toNat).k] else uh p N is d k
theorem TP (p:F7) (N:List Int) (is:Nat→Bool) (d k:Nat):uh p N is d (k+1)=if is (gi N k).toNat=true∧(gi p.notes (gi N k).toNat).d=(d:Int) then uh p N is d k++[(gi p.notes (gi N k).toNat).k] else uh p N is d k:=rfl
def bC (p:F7) (N:List Int) (is:Nat→Bool) (k d:Nat):JZ:=qF (uh p N is d k) (uh p N is d k).length
theorem ofK_left' (l:List Int) (x:Int):∀ k,k≤l.length→qF (l++[x]) k=qF l k
 |0,_=>rfl
 |k+1,h=>by
  show GR (qF (l++[x]) k) (gi (l++[x]) k).toNat=GR (qF l k) (gi l k).toNat;rw [ofK_left' l x k (by omega),Ue (by omega)]
theorem ofK_snoc' (l:List Int) (x:Int):qF (l++[x]) (l++[x]).length=GR (qF l l.length) x.toNat:=by
 rw [aE];show GR (qF (l++[x]) l.length) (gi (l++[x]) l.length).toNat=_;rw [ofK_left' l x _ (ab _),aP]
theorem qX (p:F7) (N:List Int) (is:Nat→Bool) (k d:Nat):bC p N is (k+1) d=if is (gi N k).toNat=true∧(gi p.notes (gi N k).toNat).d=(d:Int) then GR (bC p N is k d) (gi p.notes (gi N k).toNat).k.toNat else bC p N is k d:=by
 unfold bC;rw [TP];split
 ·exact ofK_snoc' _ _
 ·rfl
theorem aN (p:F7) (N:List Int) (is:Nat→Bool):∀ n,List.replicate n (⟨0,0⟩:JZ)=Bv (bC p N is 0) n
 |0=>rfl
 |n+1=>by
  rw [gF,aN p N is n];rfl
theorem zl {p:F7} {N:List Int} {is:Nat→Bool} {k n j:Nat} (hj:j<n) (hi:is (gi N k).toNat=true) (h:(gi p.notes (gi N k).toNat).d=(j:Int)):(Bv (bC p N is k) n).set j (GR (gi (Bv (bC p N is k) n) j) (gi p.notes (gi N k).toNat).k.toNat)=Bv (bC p N is (k+1)) n:=by
 refine Ku (by rw [cG,Cj,Cj]) fun i hi'=>?_
 rw [cG,Cj] at hi';rw [GX,Ej _ hi',Ej _ hi',Ej _ hj,Cj,qX];grind
theorem mQ {p:F7} {N:List Int} {is:Nat→Bool} {k n:Nat} (hi:is (gi N k).toNat=false):Bv (bC p N is (k+1)) n=Bv (bC p N is k) n:=Qo fun d _=>by
 rw [qX,if_neg (fun h=>by grind)]
theorem X7 {q:Qu} (hq:JV q) {N:List Int} (hN:mW q N) {is:Nat→Bool} {d:Nat}:∀ k,k≤N.length→∀ i,i<(uh q.p N is d k).length→0≤gi (uh q.p N is d k) i∧gi (uh q.p N is d k) i≤127
 |0,_,i,hi=>absurd hi (bB _)
 |k+1,hk,i,hi=>by
  have ih:=X7 hq hN (is:=is) (d:=d) k (by omega);rw [TP] at hi ⊢;split
  ·rename_i c
   rw [if_pos c,aE] at hi;have hi:i<(uh q.p N is d k).length+1:=hi;by_cases e:i<(uh q.p N is d k).length
   ·rw [Ue e];grind
   ·obtain rfl:i=(uh q.p N is d k).length:=by omega
    rw [aP];have hn:=hN k (by omega);have hh:=hq.p.note (gi N k).toNat (by omega);have h1:=hq.o.cmp (i:=(gi q.p.notes (gi N k).toNat).d.toNat) (by have:=hh.d;omega);have:=hh.k;omega
  grind
theorem qV (a:JZ) (n:Nat):sH a (GR ⟨0,0⟩ n)=GR a n:=by
 unfold sH GR;split<;>simp
def kZ (q:Qu) (N:List Int) (is:Nat→Bool):List JZ:=Bv (bC q.p N is N.length) q.o.Af.length
theorem wL (q:Qu) (hq:JV q) (N:List Int) (hN:mW q N) (hNl:N.length≤1000):Eb env 62 [.p (.agg (Enc.enc q)),.p (.lst 3 (cells N) N.length),.clo 85 [.p (.agg (Enc.enc q))] []] [] 0 (.lst 84 (cells (kZ q N (GZ q))) (kZ q N (GZ q)).length):=by
 have his:=fun m hm=>N7 q hq m hm
 generalize hIs:GZ q=is at *;have n1:=hq.p.notes;have d1:=hq.o.Af;have hV0:=aN q.p N is q.o.Af.length;have hKl:(kZ q N is).length=q.o.Af.length:=Cj _ _;rw [hKl];unfold kZ;refine Eb.enter (Ae (by decide)) Tryz.func62 rfl (by kernel_rfl) (by simp [Tryz.ntmps62]) ?_
 repeat' (first|(apply Aa.NQ q.o.Af.length (⟨0,0⟩:JZ);rfl;rfl;rfl;rfl;rfl;rfl;rfl;omega;decide;decide;rfl)|refine go1 ?_|fail)
 all_goals try (exfalso;omega)
 rw [hV0];apply Ad.Jj (N.length) [(2,_),(3,_),(7,_),(18,_),(19,_)] [(0,_)] (fun k r=>(20,.p (.int .i64 (k:Int)))::r) (fun k r=>(1,.vec 84 (cells (Bv (bC q.p N is k) q.o.Af.length)) q.o.Af.length false)::r) 2
 ·first|omega|decide
 ·first|omega|decide
 ·exact RH
 ·exact U0
 ·intro k hk
  obtain ⟨g1,g2⟩:=hN k hk;obtain ⟨m,hm⟩:∃ m:Nat,gi N k=(m:Int):=⟨(gi N k).toNat,by omega⟩
  have hm2:m<q.p.notes.length:=by omega
  have hc:=his m hm2;rw [← hm] at hc;cases hi:is m with
  |false =>
   have e1:=mQ (p:=q.p) (N:=N) (is:=is) (k:=k) (n:=q.o.Af.length) (by rw [hm,aR];exact hi);rw [hi] at hc
   repeat' (first|(apply Aa.read [] hc;rfl;rfl;exact .of_eq rfl;exact CS.Az rfl;exact CY rfl;(repeat (first|exact trivial|refine ⟨⟨_,rfl,.of_eq rfl⟩,?_⟩));decide;(intro _ hb;simp at hb<;>omega);rfl)|(apply Aa.Ap;rfl;rfl;rfl;omega;rfl)|refine go1 ?_|(apply Aa.int;rfl;rfl;rfl)|(apply Ad.Ac;rfl)|(apply Ad.cond_false;rfl)|(intro _;try (exfalso;omega)))
   all_goals try (exfalso;omega)
   all_goals try contradiction
   refine Ah.normal ⟨by first|omega|decide,?_,?_⟩
   ·try (rw [e1])
    exact Dl
   ·rw [e1]
    exact Eh
  |true =>
   have hNt:=hq.p.note m hm2;obtain ⟨j,hj⟩:∃ j:Nat,(gi q.p.notes m).d=(j:Int):=⟨(gi q.p.notes m).d.toNat,by have:=hNt.d;omega⟩
   have hjn:j<q.o.Af.length:=by have:=hNt.d;omega
   have hcm:=hq.o.cmp (i:=j) hjn;have hk2:=hNt.k;rw [hj,aR] at hk2;obtain ⟨z,hz⟩:∃ z:Nat,(gi q.p.notes m).k=(z:Int):=⟨(gi q.p.notes m).k.toNat,by omega⟩
   have hz2:z<128:=by omega
   have e1:=zl (p:=q.p) (N:=N) (is:=is) (k:=k) hjn (by rw [hm,aR];exact hi) (by rw [hm,aR];exact hj);rw [hm,aR,hz,aR,← qV] at e1;have hsl:(Bv (bC q.p N is k) q.o.Af.length).length=q.o.Af.length:=Cj _ _;have hok:(gi (Bv (bC q.p N is k) q.o.Af.length) j).Ok:=by
    rw [Ej _ hjn];exact ZM (X7 hq hN k (by omega)) _ (ab _)
   have hof:=mY [(gi q.p.notes m).k] (by simp) (fun i hi=>by
    have:i=0:=by simpa using hi
    subst this;show 0≤(gi q.p.notes m).k∧(gi q.p.notes m).k≤127;omega)
   have hoe:qF [(gi q.p.notes m).k] [(gi q.p.notes m).k].length=GR ⟨0,0⟩ z:=by
    show GR ⟨0,0⟩ ((gi q.p.notes m).k).toNat=_;rw [hz,aR]
   rw [hoe] at hof;have hun:=Pv (gi (Bv (bC q.p N is k) q.o.Af.length) j) (GR ⟨0,0⟩ z) hok (YS TM hz2);rw [hi] at hc;generalize Bv (bC q.p N is k) q.o.Af.length=V at *;generalize hW:(GR ⟨0,0⟩ z:JZ)=W at *
   repeat' (first|(refine Ai.Je 37 ?_;refine Ai.ghost (Aw.freeze 36 rfl rfl) ?_)|apply Ad.BL|apply Ad.region|apply Ad.Fe|apply Ad.G5|apply Ad.FP|apply BM.normal|apply Bq.normal|apply Ai.nil|apply Ag.nil|apply Ai.one|(apply Ag.bar;decide +kernel)|apply Ag.quiet|(apply Aa.read [] hc;rfl;rfl;exact .of_eq rfl;exact CS.Az rfl;exact CY rfl;(repeat (first|exact trivial|refine ⟨⟨_,rfl,.of_eq rfl⟩,?_⟩));decide;(intro _ hb;simp at hb<;>omega);rfl)|(apply Aa.fn;rfl;rfl;exact hof;intro _;rfl)|(apply Aa.fn;rfl;rfl;exact hun;intro _;rfl)|(apply Aa.Ap (l:=q.p.notes) (i:=m);rfl;exact congrArg (fun b=>some (PV.p (.int .i64 b))) hm;rfl;omega;rfl)|(apply Aa.DU (l:=V) (i:=j);rfl;rfl;exact congrArg (fun b=>some (PV.p (.int .i64 b))) hj;rfl;omega)|(apply Aa.Pm (l:=V) (i:=j);rfl;rfl;omega;rfl)|(apply Aa.Kz (l:=V) (i:=j) (y:=sH (gi V j) W);rfl;rfl;rfl;trivial;rfl;rfl;rfl;decide;omega)|(apply Aa.assign;rfl)|(apply Aa.move;rfl)|(apply Aa.LV;rfl;rfl;omega)|(apply Aa.int;rfl;rfl;rfl)|(apply Aa.Ap;rfl;rfl;rfl;omega;rfl)|(apply Aa.load;rfl;rfl)|(apply Aa.Ii;rfl;rfl;rfl)|(apply Aa.alloc;rfl)|(apply Aa.FD;rfl;rfl;rfl;trivial;rfl;rfl;exact Bh rfl;exact le_dec rfl)|(apply Aa.buildSlice;rfl;rfl;rfl;decide;rfl;rfl;rfl)|(apply Aa.extract;rfl;rfl)|(apply Ad.Ac;rfl)|(apply Ad.cond_true;rfl)|(intro _;try (exfalso;omega)))
   all_goals try (exfalso;omega)
   all_goals try contradiction
   refine Ah.normal ⟨by first|omega|decide,?_,?_⟩
   ·try (rw [← e1])
    exact Dl
   ·rw [← e1]
    exact Eh
 ·repeat' (first|(refine Ad.at 10 ?_;refine Ad.ghost (Aw.freeze 7 rfl rfl) ?_;first|apply Ad.BL|apply Ad.CO)|apply Ad.BL|refine go0 ?_|(apply Ad.Ac;rfl)|(intro _;try (exfalso;omega)))
  all_goals first|(exfalso;omega)|(refine Done.ret rfl (.refl _) trivial ?_ (by omega) (ab _) ⟨?_,rfl,rfl⟩;exact Eh;try rfl)
theorem vF (q:Qu) (hq:JV q) (N:List Int) (hN:mW q N) (hNl:N.length≤1000) (l:List Int) (h:Int) (hl:l.length=q.p.notes.length):Eb env 62 [.p (.agg (Enc.enc q)),.p (.lst 3 (cells N) N.length),.clo 124 [] [.ref 0 0,.ref 1 0]] (lhB l h) 2 (.lst 84 (cells (kZ q N (hasB l h))) (kZ q N (hasB l h)).length):=by
 have his:=fun m (hm:m<q.p.notes.length)=>uf l h m (by omega)
 generalize hIs:hasB l h=is at *;unfold lhB at *;have n1:=hq.p.notes;have d1:=hq.o.Af;have hV0:=aN q.p N is q.o.Af.length;have hKl:(kZ q N is).length=q.o.Af.length:=Cj _ _;rw [hKl];unfold kZ;refine Eb.enter (Ae (by decide)) Tryz.func62 rfl (by kernel_rfl) (by simp [Tryz.ntmps62]) ?_
 repeat' (first|(apply Aa.NQ q.o.Af.length (⟨0,0⟩:JZ);rfl;rfl;rfl;rfl;rfl;rfl;rfl;omega;decide;decide;rfl)|refine go1 ?_|fail)
 all_goals try (exfalso;omega)
 rw [hV0];apply Ad.Jj (N.length) [(2,_),(3,_),(7,_),(18,_),(19,_)] [(0,_),(1,_),(2,_)] (fun k r=>(20,.p (.int .i64 (k:Int)))::r) (fun k r=>(3,.vec 84 (cells (Bv (bC q.p N is k) q.o.Af.length)) q.o.Af.length false)::r) 4
 ·first|omega|decide
 ·first|omega|decide
 ·exact RH
 ·exact U0
 ·intro k hk
  obtain ⟨g1,g2⟩:=hN k hk;obtain ⟨m,hm⟩:∃ m:Nat,gi N k=(m:Int):=⟨(gi N k).toNat,by omega⟩
  have hm2:m<q.p.notes.length:=by omega
  have hc:=his m hm2;rw [← hm] at hc;cases hi:is m with
  |false =>
   have e1:=mQ (p:=q.p) (N:=N) (is:=is) (k:=k) (n:=q.o.Af.length) (by rw [hm,aR];exact hi);rw [hi] at hc
   repeat' (first|(apply Aa.read [0,1] hc;rfl;rfl;exact .of_eq rfl;exact CS.Az rfl;exact CY rfl;(repeat (first|exact trivial|refine ⟨⟨_,rfl,.of_eq rfl⟩,?_⟩));decide;(intro _ hb;simp at hb<;>omega);rfl)|(apply Aa.Ap;rfl;rfl;rfl;omega;rfl)|refine go1 ?_|(apply Aa.int;rfl;rfl;rfl)|(apply Ad.Ac;rfl)|(apply Ad.cond_false;rfl)|(intro _;try (exfalso;omega)))
   all_goals try (exfalso;omega)
   all_goals try contradiction
   refine Ah.normal ⟨by first|omega|decide,?_,?_⟩
   ·try (rw [e1])
    exact Dl
   ·rw [e1]
    exact Eh
  |true =>
   have hNt:=hq.p.note m hm2;obtain ⟨j,hj⟩:∃ j:Nat,(gi q.p.notes m).d=(j:Int):=⟨(gi q.p.notes m).d.toNat,by have:=hNt.d;omega⟩
   have hjn:j<q.o.Af.length:=by have:=hNt.d;omega
   have hcm:=hq.o.cmp (i:=j) hjn;have hk2:=hNt.k;rw [hj,aR] at hk2;obtain ⟨z,hz⟩:∃ z:Nat,(gi q.p.notes m).k=(z:Int):=⟨(gi q.p.notes m).k.toNat,by omega⟩
   have hz2:z<128:=by omega
   have e1:=zl (p:=q.p) (N:=N) (is:=is) (k:=k) hjn (by rw [hm,aR];exact hi) (by rw [hm,aR];exact hj);rw [hm,aR,hz,aR,← qV] at e1;have hsl:(Bv (bC q.p N is k) q.o.Af.length).length=q.o.Af.length:=Cj _ _;have hok:(gi (Bv (bC q.p N is k) q.o.Af.length) j).Ok:=by
    rw [Ej _ hjn];exact ZM (X7 hq hN k (by omega)) _ (ab _)
   have hof:=mY [(gi q.p.notes m).k] (by simp) (fun i hi=>by
    have:i=0:=by simpa using hi
    subst this;show 0≤(gi q.p.notes m).k∧(gi q.p.notes m).k≤127;omega)
   have hoe:qF [(gi q.p.notes m).k] [(gi q.p.notes m).k].length=GR ⟨0,0⟩ z:=by
    show GR ⟨0,0⟩ ((gi q.p.notes m).k).toNat=_;rw [hz,aR]
   rw [hoe] at hof;have hun:=Pv (gi (Bv (bC q.p N is k) q.o.Af.length) j) (GR ⟨0,0⟩ z) hok (YS TM hz2);rw [hi] at hc;generalize Bv (bC q.p N is k) q.o.Af.length=V at *;generalize hW:(GR ⟨0,0⟩ z:JZ)=W at *
   repeat' (first|(refine Ai.Je 37 ?_;refine Ai.ghost (Aw.freeze 36 rfl rfl) ?_)|apply Ad.BL|apply Ad.region|apply Ad.Fe|apply Ad.G5|apply Ad.FP|apply BM.normal|apply Bq.normal|apply Ai.nil|apply Ag.nil|apply Ai.one|(apply Ag.bar;decide +kernel)|apply Ag.quiet|(apply Aa.read [0,1] hc;rfl;rfl;exact .of_eq rfl;exact CS.Az rfl;exact CY rfl;(repeat (first|exact trivial|refine ⟨⟨_,rfl,.of_eq rfl⟩,?_⟩));decide;(intro _ hb;simp at hb<;>omega);rfl)|(apply Aa.fn;rfl;rfl;exact hof;intro _;rfl)|(apply Aa.fn;rfl;rfl;exact hun;intro _;rfl)|(apply Aa.Ap (l:=q.p.notes) (i:=m);rfl;exact congrArg (fun b=>some (PV.p (.int .i64 b))) hm;rfl;omega;rfl)|(apply Aa.DU (l:=V) (i:=j);rfl;rfl;exact congrArg (fun b=>some (PV.p (.int .i64 b))) hj;rfl;omega)|(apply Aa.Pm (l:=V) (i:=j);rfl;rfl;omega;rfl)|(apply Aa.Kz (l:=V) (i:=j) (y:=sH (gi V j) W);rfl;rfl;rfl;trivial;rfl;rfl;rfl;decide;omega)|(apply Aa.assign;rfl)|(apply Aa.move;rfl)|(apply Aa.LV;rfl;rfl;omega)|(apply Aa.int;rfl;rfl;rfl)|(apply Aa.Ap;rfl;rfl;rfl;omega;rfl)|(apply Aa.load;rfl;rfl)|(apply Aa.Ii;rfl;rfl;rfl)|(apply Aa.alloc;rfl)|(apply Aa.FD;rfl;rfl;rfl;trivial;rfl;rfl;exact Bh rfl;exact le_dec rfl)|(apply Aa.buildSlice;rfl;rfl;rfl;decide;rfl;rfl;rfl)|(apply Aa.extract;rfl;rfl)|(apply Ad.Ac;rfl)|(apply Ad.cond_true;rfl)|(intro _;try (exfalso;omega)))
   all_goals try (exfalso;omega)
   all_goals try contradiction
   refine Ah.normal ⟨by first|omega|decide,?_,?_⟩
   ·try (rw [← e1])
    exact Dl
   ·rw [← e1]
    exact Eh
 ·repeat' (first|(refine Ad.at 10 ?_;refine Ad.ghost (Aw.freeze 7 rfl rfl) ?_;first|apply Ad.BL|apply Ad.CO)|apply Ad.BL|refine go0 ?_|(apply Ad.Ac;rfl)|(intro _;try (exfalso;omega)))
  all_goals first|(exfalso;omega)|(refine Done.ret rfl (.refl _) trivial ?_ (by omega) (ab _) ⟨?_,rfl,rfl⟩;exact Eh;try rfl)
attribute [local irreducible] Q7
def a3u (y:VK):Int:=if 0≤y.hn∧y.hn≤10 then if 0≤y.fn∧y.fn≤10 then if 0≤y.hs∧y.hs≤127 then if 0≤y.fs∧y.fs≤127 then 0 else 3 else 3 else 3 else 3
theorem jd {y:VK} (h:y.Ok):a3u y=0:=by
 unfold a3u;rw [if_pos h.hn,if_pos h.fn,if_pos h.hs,if_pos h.fs]
theorem KP (y:VK):Ak env 32 [.agg (Enc.enc y)] (.p (.int .i64 (a3u y))):=by
 by_cases h1:0≤y.hn∧y.hn≤10;all_goals by_cases h2:0≤y.fn∧y.fn≤10
 all_goals by_cases h3:0≤y.hs∧y.hs≤127
 all_goals by_cases h4:0≤y.fs∧y.fs≤127
 all_goals unfold a3u
 all_goals first|rw [if_pos h1]|rw [if_neg h1]
 all_goals try first|rw [if_pos h2]|rw [if_neg h2]
 all_goals try first|rw [if_pos h3]|rw [if_neg h3]
 all_goals try first|rw [if_pos h4]|rw [if_neg h4]
 all_goals
  refine Ak.enter (Ae (by decide)) Tryz.func32 rfl (by kernel_rfl) (by simp [Tryz.ntmps32]) ?_
 all_goals
  repeat' (first|(apply Aa.b5t;rfl;rfl;rfl;rfl;rfl;decide;rfl)|refine FT ?_|(apply Ai.guard;rfl;rfl)|(apply Aa.b6b;rfl;rfl;rfl;rfl;rfl)|(apply Ad.b2t 2)|(apply Q7.zero)|(apply Q7.succ)|(apply Ah.again)|(apply Aa.int;rfl;rfl;rfl)|(apply Ad.AX;rfl)|(apply Ad.Aj;rfl)|(apply Ad.cond_true;rfl)|(apply Ad.Au;rfl)|(intro _;try (exfalso;omega)))
 all_goals first|(exfalso;omega)|(refine Done.rt rfl rfl ⟨?_,rfl,rfl⟩;try rfl)
theorem a2z (y:VK) (hy:y.Ok) (s:JZ) (hs:s.Ok):Ak env 25 [.agg (Enc.enc y),.agg (Enc.enc s)] (.DX [.p (.bool (decide (iU y (Fv s)))),.p (.int .i64 0)]):=by
 have hc:=KP y;have e0:=jd hy;rw [e0] at hc;have hm:=Xr hs.lo hs.hi;have hr:∀ x∈Fv s,0≤x∧x≤127:=fun x hx=>by
  obtain ⟨n,h1,rfl,_⟩:=pX.1 hx;omega
 have h1:=a6w y (Fv s) (Yo s) hr;have hm:Bf env 61 [.agg (Enc.enc s)] 3 (cells (Fv s)) (Fv s).length _:=hm;generalize Fv s=M at *;refine Ak.enter (Ae (by decide)) Tryz.func25 rfl (by kernel_rfl) (by simp [Tryz.ntmps25]) ?_
 repeat' (first|(refine Ag.Je 15 ?_;refine Ag.ghost (Aw.freeze 14 rfl rfl) ?_)|apply Ad.assoc|apply Ad.BL|apply Ad.CO|apply Ad.G5|apply Ad.ret|apply Ai.nil|apply Ag.nil|apply Ai.one|(apply Ag.bar;decide +kernel)|apply Ag.quiet|(apply Aa.fn;rfl;rfl;exact hc;intro _;rfl)|(apply Aa.fv;rfl;rfl;exact hm)|(apply Aa.fn;rfl;rfl;exact h1;intro _;rfl)|(apply Aa.assign;rfl)|(apply Aa.move;rfl)|(apply Aa.int;rfl;rfl;rfl)|(apply Aa.load;rfl;rfl)|(apply Aa.box;rfl;trivial)|(apply Ad.Aj;rfl))
 all_goals first|(exfalso;omega)|(refine Done.rt rfl rfl ⟨?_,rfl,rfl⟩;try rfl)
def Zg (l:List JZ):Nat→JZ
 |0=>⟨0,0⟩
 |k+1=>sH (Zg l k) (gi l k)
def jV (l:List JZ):Nat→Int
 |0=>0
 |k+1=>jV l k+((Fv (gi l k)).length:Int)
def Zd (y:VK) (l:List JZ):Prop:=jV l l.length≤y.fn∧wid (Fv (Zg l l.length))≤y.fs
instance (y:VK) (l:List JZ):Decidable (Zd y l):=inferInstanceAs (Decidable (_∧_))
theorem lC {l:List JZ} (h:∀ i,i<l.length→(gi l i).Ok):∀ k,k≤l.length→(Zg l k).Ok
 |0,_=>TM
 |k+1,hk=>b0y (lC h k (by omega)) (h k (by omega))
theorem ZF (l:List JZ):∀ k,0≤jV l k∧jV l k≤128*k
 |0=>⟨bh _,bh _⟩
 |k+1=>by
  have:=ZF l k;have:=Yo (gi l k);show 0≤jV l k+((Fv (gi l k)).length:Int)∧jV l k+((Fv (gi l k)).length:Int)≤128*((k+1:Nat):Int);omega
theorem uU (y:VK) (l:List JZ) (hl:l.length≤1000) (h:∀ i,i<l.length→(gi l i).Ok):Ak env 68 [.agg (Enc.enc y),.lst 84 (cells l) l.length] (.p (.bool (decide (Zd y l)))):=by
 have hU:=lC h l.length (ab _);have hm:Bf env 61 [.agg (Enc.enc (Zg l l.length))] 3 (cells (Fv (Zg l l.length))) (Fv (Zg l l.length)).length _:=Xr hU.lo hU.hi;have hw:=Y5 (Fv (Zg l l.length)) (Yo _) fun x hx=>by
  obtain ⟨n,h1,rfl,_⟩:=pX.1 hx;omega
 have hn:=ZF l l.length;refine Ak.enter (Ae (by decide)) Tryz.func68 rfl (by kernel_rfl) (by simp [Tryz.ntmps68]) ?_
 repeat' (first|refine go1 ?_|fail)
 apply Ad.Jj (l.length) [(2,_),(5,_),(9,_),(10,_)] [(0,_)] (fun k r=>(11,.p (.int .i64 (k:Int)))::(6,.p (.int .i64 (jV l k)))::r) (fun k r=>(1,.box 84 ((Enc.enc (Zg l k)).map .p))::r) 2
 ·first|omega|decide
 ·first|omega|decide
 ·exact RH
 ·exact U0
 ·intro k hk
  have hu:=Pv (Zg l k) (gi l k) (lC h k (by omega)) (h k hk);have hc:=rZ (gi l k) (h k hk);have hr:=ZF l k;have hl:=Yo (gi l k)
  repeat' (first|(apply Aa.fn;rfl;rfl;exact hu;intro _;rfl)|(apply Aa.fn;rfl;rfl;exact hc;intro _;rfl)|(apply Aa.Ap;rfl;rfl;rfl;omega;rfl)|refine go1 ?_|(apply Aa.int;rfl;rfl;rfl)|(apply Ad.Ac;rfl)|(intro _;try (exfalso;omega)))
  all_goals try (exfalso;omega)
  refine Ah.normal ⟨by first|omega|decide,?_,?_⟩
  ·exact Dl
  ·exact Eh
 ·have e:decide (Zd y l)=(decide (jV l l.length≤y.fn)&&decide (wid (Fv (Zg l l.length))≤y.fs)):=by
   unfold Zd;exact Bool.decide_and _ _
  rw [e];generalize Fv (Zg l l.length)=M at *;generalize jV l l.length=C at *;generalize wid M=W at *;by_cases h1:C≤y.fn
  ·rw [decide_eq_true h1,cR]
   repeat' (first|(refine Ag.Je 30 ?_;refine Ag.ghost (Aw.freeze 29 rfl rfl) ?_)|apply Ad.BL|apply Ad.CO|apply Ad.Gi|apply BM.normal|apply Bq.exit|apply Ah.exit|apply Ad.ret|apply Ai.nil|apply Ag.nil|apply Ai.one|(apply Ag.bar;decide +kernel)|apply Ag.quiet|(apply Ag.V8;rfl;rfl)|(apply Ag.guard;rfl;rfl)|(apply Aa.fv;rfl;rfl;exact hm)|(apply Aa.fn;rfl;rfl;exact hw;intro _;rfl)|(apply Aa.assign;rfl)|(apply Aa.move;rfl)|(apply Aa.int;rfl;rfl;rfl)|(apply Aa.load;rfl;rfl)|(apply Aa.IC;rfl;rfl)|(apply Aa.Ii;rfl;rfl;rfl)|(apply Ad.Ac;rfl)|(intro _;try (exfalso;omega)))
   all_goals first|(exfalso;omega)|(refine Done.rt rfl rfl ⟨?_,rfl,rfl⟩;try rfl)
  ·rw [decide_eq_false h1,er]
   repeat' (first|refine JA ?_|(apply Ag.guard;rfl;rfl)|(apply Ad.Ac;rfl)|(intro _;try (exfalso;omega)))
   all_goals first|(exfalso;omega)|(refine Done.rt rfl rfl ⟨?_,rfl,rfl⟩;try rfl)
theorem xC (y:VK) (hy:y.Ok) (l:List JZ) (hl:l.length≤1000) (h:∀ i,i<l.length→(gi l i).Ok):Ak env 161 [.agg (Enc.enc y),.lst 84 (cells l) l.length] (.DX [.p (.bool (decide (Zd y l))),.p (.int .i64 0)]):=by
 have hc:=KP y;have e0:=jd hy;rw [e0] at hc;have hf:=uU y l hl h;refine Ak.enter (Ae (by decide)) Tryz.func161 rfl (by kernel_rfl) (by simp) ?_
 repeat' (first|(apply Aa.fn;rfl;rfl;exact hc;intro _;rfl)|(apply Aa.fn;rfl;rfl;exact hf;intro _;rfl)|refine go1 ?_|(apply Aa.int;rfl;rfl;rfl)|(apply Ad.Aj;rfl))
 all_goals first|(omega)|(refine Done.rt rfl rfl ⟨?_,rfl,rfl⟩;try rfl)
theorem a8i:env.O 147=some (ZG (AO Tryz.prog 8 Ea) (Bj Tryz.prog 8 Ea) Tryz.f147.ntmps O4):=by
 rfl
theorem a1g (s:JZ) (hs:s.Ok) {e:TypeId}:b3i env 147 Tryz.f147 (Enc.enc s) e (FK s.lo s.hi):=by
 intro Fo hFo m F c vs hc hr hF;cases hFo;cases hr with|cons a0 t =>
 cases t with|cons a1 t =>
 cases t;cases a0;cases a1;refine ⟨notKey s.lo s.hi,fun m' F' σ' H' nx' hsame XO=>⟨m',?_⟩⟩;refine a6a (kr:=(notKey s.lo s.hi,FK s.lo s.hi)) (jP XO) ?_;have q1:=(hsame c hF).trans hc;have b1:=hs.lo;have b2:=hs.hi;unfold O4;simp only [q1];rw [if_pos ⟨⟨by omega,by omega⟩,by omega,by omega⟩];rfl
theorem b1k {L:Vm.Frame} {H:Vm.Heap} {nx:Nat} {Q:PV→Vm.Heap→Nat→Prop} {dst:Option Tmp} {ty:TypeId} {pos:String} {af:Array Edge} {gd:Option (Nat×Bool)} {fo:Operand} {args:Array Operand} {aT:Array TypeId} {fs cs xs:List PV} {c:Code}
 (hf:AU env.Γ L fo=some (.clo 108 fs cs)) (ha:evs env.Γ L args.toList=some xs) (hb:Tryz.f108.body=some c) (hn:(fs++xs++cs).length≤Tryz.f108.ntmps)
 (h:Ad env nx c (Ce 0 (fs++xs++cs)) H nx (AB env.P Tryz.f108.results.toList Q)):Aa env true ⟨dst,.call { callee:=.value fo,args:=args,argTypes:=aT },ty,pos,af,gd⟩ L H nx Q:=by
 have h0:(match Tryz.f108.body with|some c=>II env.G Tryz.f108 c|none=>false)=true:=by kernel_rfl
 rw [hb] at h0;exact Aa.inline rfl hf ha (Ae (by decide)) Tryz.func108 hb h0 hn h
theorem uS (s:JZ) (hs:s.Ok):Ak env 125 [.agg (Enc.enc s)] (.DX [.p (.int .i64 (gi (Fv s) 0)),.p (.bool (decide (Fv s≠[])))]):=by
 refine Ak.enter (Ae (by decide)) Tryz.func125 rfl (by kernel_rfl) (by simp [Tryz.ntmps125]) ?_
 repeat' (first|(apply b1k;rfl;rfl;rfl;exact le_dec rfl)|(apply Aa.makeFunc;rfl;rfl)|refine go1 ?_|(apply AB.ret;rfl))
 all_goals try (exfalso;omega)
 refine Ad.sK (Fv s).length (fun k=>[.int .i64 (gi (Fv s) k)]) (fun k=>[Go.encZ (gi (Fv s) k)]) [(2,.ref 1 0),(3,.ref 2 0)]
  (fun k=>[(1,.box 3 [.p (.int .i64 0)]),(2,.box 4 [.p (.bool false)])]) 3 (fun k=>k=0)
  rfl rfl Tryz.func147 rfl a8i ?_ (fun _ _=>rfl) (fun _ _=>rfl) (fun k _ m F=>.cons (.int _ _) .nil) (by omega) ⟨by omega,?_,?_⟩ ?_ (a1g s hs) rfl ?_ ?_
 ·unfold FK Fv
  refine fW (by simp) fun i h1 h2=>?_
  simp only [List.getElem_map,List.getElem_range];unfold gi;rw [bd] at h1;rw [ai h1];rfl
 ·exact Dl
 ·exact Eh
 ·exact Dl
 ·rintro k hk rfl
  have h0:Fv s≠[]:=fun e=>by rw [e] at hk;simp at hk
  rw [decide_eq_true h0]
  repeat' (first|refine go1 ?_|fail)
  refine ⟨rfl,?_⟩
  repeat' (first|refine go1 ?_|apply Ad.MB)
  refine ⟨by omega,[(1,.box 3 [.p (.int .i64 (gi (Fv s) 0))]),(2,.box 4 [.p (.bool true)])],?_,?_⟩
  ·exact Eh
  ·repeat' (first|apply BM.ret|apply Bq.ret)
   all_goals first|(exfalso;omega)|(refine Done.rt rfl rfl ⟨?_,rfl,rfl⟩;try rfl)
 ·intro h
  have h0:Fv s=[]:=ar.1 h;rw [h0]
  repeat' (first|refine go1 ?_|fail)
  all_goals first|(exfalso;omega)|(refine Done.rt rfl rfl ⟨?_,rfl,rfl⟩;try rfl)
structure Vh where
 d:Int
 k:Int
deriving DecidableEq
instance:Enc Vh:={ default:=⟨0,0⟩,enc:=fun x=>[.int .i64 x.d,.int .i64 x.k],size:=2,len:=fun _=>rfl }
def hcK (y:VK) (K:List JZ):Nat→Bool×Int
 |0=>(true,0)
 |k+1=>if Fv (gi K k)=[] then hcK y K k else ((hcK y K k).1&&decide ((hcK y K k).2=0)&&decide (iU y (Fv (gi K k))),(hcK y K k).2+1)
theorem zx (y:VK) (K:List JZ):∀ k,0≤(hcK y K k).2∧(hcK y K k).2≤k
 |0=>⟨bh _,bh _⟩
 |k+1=>by
  have:=zx y K k;unfold hcK;grind
def U1 (p:F7) (N l:List Int) (h:Int):Nat→Bool×Vh
 |0=>(false,⟨0,0⟩)
 |k+1=>if gi l (gi N k).toNat=h∧((U1 p N l h k).1=false∨(gi p.notes (gi N k).toNat).k<(U1 p N l h k).2.k) then (true,⟨(gi p.notes (gi N k).toNat).d,(gi p.notes (gi N k).toNat).k⟩) else U1 p N l h k
def kC (q:Qu) (N l:List Int) (h:Int):Bool:=(hcK q.y (kZ q N (hasB l h)) (kZ q N (hasB l h)).length).1
theorem xY (q:Qu) (N:List Int) (is:Nat→Bool):(kZ q N is).length=q.o.Af.length:=Cj _ _
theorem a7a {q:Qu} (hq:JV q) {N:List Int} (hN:mW q N) (is:Nat→Bool) {d:Nat} (hd:d<q.o.Af.length):(gi (kZ q N is) d).Ok:=by
 unfold kZ;rw [Ej _ hd];exact ZM (X7 hq hN _ (ab _)) _ (ab _)
theorem QI (q:Qu) (hq:JV q) (s:eG) (hN:mW q s.notes) (hNl:s.notes.length≤1000) (l:List Int) (h:Int) (hl:l.length=q.p.notes.length):Ak env 86 [.agg (Enc.enc q),.agg (Enc.enc s),.lst 3 (cells l) l.length,.int .i64 h]
 (.DX [.p (.agg (Enc.enc (U1 q.p s.notes l h s.notes.length).2)),.p (.bool (U1 q.p s.notes l h s.notes.length).1),.p (.bool (kC q s.notes l h))]):=by
 have n1:=hq.p.notes;have d1:=hq.o.Af;have hk:=vF q hq s.notes hN hNl l h hl;have hKl:=xY q s.notes (hasB l h);have hKo:=fun d hd=>a7a hq hN (hasB l h) (d:=d) hd
 rw [← hKl] at hKo;unfold kC;generalize kZ q s.notes (hasB l h)=K at *;refine Ak.enter (Ae (by decide)) Tryz.func86 rfl (by kernel_rfl) (by simp [Tryz.ntmps86]) ?_
 repeat' (first|(apply Aa.read [2,3] hk;rfl;rfl;exact .of_eq rfl;exact CS.Az rfl;exact CY rfl;(repeat (first|exact trivial|refine ⟨⟨_,rfl,.of_eq rfl⟩,?_⟩));decide;(intro _ hb;simp at hb<;>omega);rfl)|(apply Aa.makeFunc;rfl;rfl)|refine go1 ?_|fail)
 all_goals try (exfalso;omega)
 apply Ad.Jj (K.length) [(4,_),(5,_),(6,_),(7,_),(8,_),(9,_),(25,_),(26,_)] [(0,_),(1,_),(2,_),(3,_),(4,_)] (fun k r=>(27,.p (.int .i64 (k:Int)))::(10,.p (.bool (hcK q.y K k).1))::(11,.p (.int .i64 (hcK q.y K k).2))::r) (fun k r=>r) 5
 ·first|omega|decide
 ·first|omega|decide
 ·exact RH
 ·exact U0
 ·intro k hk
  have hle:=uS (gi K k) (hKo k hk);have hon:=a2z q.y hq.y (gi K k) (hKo k hk);have hr:=zx q.y K k;have e1:hcK q.y K (k+1)=if Fv (gi K k)=[] then hcK q.y K k else ((hcK q.y K k).1&&decide ((hcK q.y K k).2=0)&&decide (iU q.y (Fv (gi K k))),(hcK q.y K k).2+1):=rfl
  rw [e1];clear e1;generalize hcK q.y K k=r at *;obtain ⟨c,n⟩:=r;by_cases h0:Fv (gi K k)=[]
  ·rw [if_pos h0]
   rw [decide_eq_false (fun e=>e h0)] at hle;generalize gi (Fv (gi K k)) 0=z at *
   repeat' (first|(apply Aa.fn;rfl;rfl;exact hle;intro _;rfl)|(apply Aa.Ap;rfl;rfl;rfl;omega;rfl)|refine FT ?_|(apply Aa.int;rfl;rfl;rfl)|(apply Ad.AX;rfl)|(apply Ad.Ac;rfl)|(intro _;try (exfalso;omega)))
   all_goals try (exfalso;omega)
   refine Ah.normal ⟨by first|omega|decide,?_,?_⟩
   ·exact Dl
   ·exact Eh
  ·rw [if_neg h0]
   rw [decide_eq_true h0] at hle;generalize gi (Fv (gi K k)) 0=z at *;generalize decide (iU q.y (Fv (gi K k)))=w at *;cases c;all_goals by_cases hn:n=0
   all_goals cases w
   all_goals first|rw [decide_eq_true hn]|rw [decide_eq_false hn]
   all_goals
    repeat' (first|(apply Aa.fn;rfl;rfl;exact hle;intro _;rfl)|(apply Aa.fn;rfl;rfl;exact hon;intro _;rfl)|(apply Aa.Ap;rfl;rfl;rfl;omega;rfl)|refine FT ?_|(apply Ai.guard;rfl;rfl)|(apply Aa.int;rfl;rfl;rfl)|(apply Ad.Aj;rfl)|(apply Ad.Ac;rfl)|(intro _;try (exfalso;omega)))
   all_goals try (exfalso;omega)
   all_goals try contradiction
   all_goals
    refine Ah.normal ⟨by first|omega|decide,?_,?_⟩
    ·exact Dl
    ·exact Eh
 ·repeat' (first|refine JA ?_|(apply Ad.Ac;rfl)|(intro _;try (exfalso;omega)))
  all_goals try (exfalso;omega)
  apply Ad.Jj (s.notes.length) [(4,_),(6,_),(7,_),(8,_),(10,_),(57,_),(58,_)] [(0,_),(1,_),(2,_),(3,_)] (fun k r=>(59,.p (.int .i64 (k:Int)))::(9,.p (.bool (U1 q.p s.notes l h k).1))::r) (fun k r=>(4,.box 120 ((Enc.enc (U1 q.p s.notes l h k).2).map .p))::r) 5
  ·first|omega|decide
  ·first|omega|decide
  ·exact RH
  ·exact U0
  ·intro k hk
   obtain ⟨g1,g2⟩:=hN k hk;obtain ⟨m,hm⟩:∃ m:Nat,gi s.notes k=(m:Int):=⟨(gi s.notes k).toNat,by omega⟩
   have hm2:m<q.p.notes.length:=by omega
   have e1:U1 q.p s.notes l h (k+1)=if gi l (gi s.notes k).toNat=h∧((U1 q.p s.notes l h k).1=false∨(gi q.p.notes (gi s.notes k).toNat).k<(U1 q.p s.notes l h k).2.k) then (true,⟨(gi q.p.notes (gi s.notes k).toNat).d,(gi q.p.notes (gi s.notes k).toNat).k⟩) else U1 q.p s.notes l h k:=rfl
   rw [hm,aR] at e1;rw [e1];clear e1;generalize U1 q.p s.notes l h k=r at *;obtain ⟨c,a⟩:=r;by_cases h1:gi l m=h;all_goals cases c
   all_goals by_cases h2:(gi q.p.notes m).k<a.k
   all_goals first|rw [if_pos (And.intro h1 (Or.inl rfl))]|rw [if_pos (And.intro h1 (Or.inr h2))]|rw [if_neg (fun e=>h1 e.1)]|rw [if_neg (fun e=>e.2.elim (fun e=>nomatch e) h2)]
   all_goals
    repeat' (first|(apply Aa.Ap (l:=q.p.notes) (i:=m);rfl;exact congrArg (fun b=>some (PV.p (.int .i64 b))) hm;rfl;omega;rfl)|(apply Aa.Ap (l:=l) (i:=m);rfl;exact congrArg (fun b=>some (PV.p (.int .i64 b))) hm;rfl;omega;rfl)|(apply Aa.Ap;rfl;rfl;rfl;omega;rfl)|refine FT ?_|(apply Ag.guard;rfl;rfl)|(apply Ag.Yz;rfl;rfl)|(apply Aa.int;rfl;rfl;rfl)|(apply Aa.build;rfl;rfl;rfl;rfl;rfl)|(apply Ad.Ac;rfl)|(apply Ad.cond_true;rfl)|(apply Ad.cond_false;rfl)|(apply Ad.Au;rfl)|(intro _;try (exfalso;omega)))
   all_goals try (exfalso;omega)
   all_goals try contradiction
   all_goals
    refine Ah.normal ⟨by first|omega|decide,?_,?_⟩
    ·exact Dl
    ·exact Eh
  ·repeat' (first|refine JA ?_|(apply Ad.Ac;rfl)|(intro _;try (exfalso;omega)))
   all_goals first|(exfalso;omega)|(refine Done.rt rfl rfl ⟨?_,rfl,rfl⟩;try rfl)
end Go.Proofs.YtnjkoebfgcbbdaaGreatDoor
namespace Go.Vm
open Go.Am
variable {E:Env} {L:Frame} {H:Heap} {nx:Nat} {Q:PV→Heap→Nat→Prop} {dst:Option Tmp} {ty:TypeId} {pos:String} {af:Array Edge} {gd:Option (Nat×Bool)} {w:Bool}
theorem Aa.TN {fo:Operand} {args:Array Operand} {aT:Array TypeId} {g:FuncId} {fs cs aa ac:List PV} {x:FV} (hc:Eb E g ac [] 0 x) (hf:AU E.Γ L fo=some (.clo g fs cs)) (ha:evs E.Γ L args.toList=some aa)
 (hle:NV (fs++aa++cs) (CS.rn (rho [] nx) ac)) (hu:CS.under 0 ac) (q:Q (.p x) H nx):Aa E w ⟨dst,.call { callee:=.value fo,args:=args,argTypes:=aT },ty,pos,af,gd⟩ L H nx Q :=
 Aa.Zj (ns:=[]) (Hc:=[]) hf ha hle hu trivial trivial cA (by simp) (fun _=>rfl) hc
  (fun r H' nx' h=>by
   obtain ⟨h1,h2,h3⟩:=h;subst h1;subst h2;subst h3;rw [QB];exact q)
end Go.Vm
namespace Go.Proofs.YtnjkoebfgcbbdaaGreatDoor
open Go Go.Am Go.Vm Go.Pie
attribute [local irreducible] Aa Ai Ag Ad AP Ak Bf BM Bq Ah Vm.Done BD AB Q7
attribute [local irreducible] Ci Ba DV DN Eo AZ CG
def yM (q:Qu) (N:List Int):Bool:=decide (Zd q.y (kZ q N (GZ q)))
def H7 (q:Qu) (N l:List Int):Bool:=kC q N l 0&&kC q N l 1&&yM q N
theorem tN (q:Qu) (hq:JV q) (s:eG) (hN:mW q s.notes) (hNl:s.notes.length≤1000):Ak env 128 [.agg (Enc.enc q),.agg (Enc.enc s)] (.p (.bool (yM q s.notes))):=by
 have d1:=hq.o.Af;have hk:=wL q hq s.notes hN hNl;have hKl:=xY q s.notes (GZ q);have hKo:=fun d hd=>a7a hq hN (GZ q) (d:=d) hd
 rw [← hKl] at hKo;have hf:=xC q.y hq.y (kZ q s.notes (GZ q)) (by omega) hKo;unfold yM;generalize kZ q s.notes (GZ q)=K at *;refine Ak.enter (Ae (by decide)) Tryz.func128 rfl (by kernel_rfl) (by simp [Tryz.ntmps128]) ?_
 repeat' (first|(apply Aa.fn;rfl;rfl;exact hf;intro _;rfl)|(apply Aa.TN hk;rfl;rfl;exact .of_eq rfl;exact CS.Az rfl)|(apply Aa.makeFunc;rfl;rfl)|refine FT ?_|fail)
 all_goals first|(exfalso;omega)|(refine Done.rt rfl rfl ⟨?_,rfl,rfl⟩;try rfl)
theorem Rw (q:Qu) (hq:JV q) (s:eG) (hN:mW q s.notes) (hNl:s.notes.length≤1000) (l:List Int) (hl:l.length=q.p.notes.length):Ak env 90 [.agg (Enc.enc q),.agg (Enc.enc s),.lst 3 (cells l) l.length] (.p (.bool (H7 q s.notes l))):=by
 have h0:=QI q hq s hN hNl l 0 hl;have h1:=QI q hq s hN hNl l 1 hl;have hf:=tN q hq s hN hNl;unfold H7;generalize kC q s.notes l 0=c0 at *;generalize kC q s.notes l 1=c1 at *;generalize yM q s.notes=c2 at *;generalize U1 q.p s.notes l 0 s.notes.length=a0 at *;generalize U1 q.p s.notes l 1 s.notes.length=a1 at *;cases c0<;>cases c1<;>cases c2
 all_goals
  refine Ak.enter (Ae (by decide)) Tryz.func90 rfl (by kernel_rfl) (by simp [Tryz.ntmps90]) ?_
 all_goals
  repeat' (first|(apply Aa.fn;rfl;rfl;exact h0;intro _;rfl)|(apply Aa.fn;rfl;rfl;exact h1;intro _;rfl)|(apply Aa.fn;rfl;rfl;exact hf;intro _;rfl)|refine FT ?_|fail)
 all_goals first|(exfalso;omega)|contradiction|(refine Done.rt rfl rfl ⟨?_,rfl,rfl⟩;try rfl)
def bP (q:Qu):HB:=.box 36 ((Enc.enc q).map .p)
def slB (s:eG):HB:=.box 81 ((Enc.enc s).map .p)
theorem bU (q:Qu) (hq:JV q) (s:eG) (hN:mW q s.notes) (hNl:s.notes.length≤1000) (l:List Int) (hl:l.length=q.p.notes.length):Eb env 89 ([.p (.lst 3 (cells l) l.length)]++[.ref 0 0,.ref 1 0]) [(0,bP q),(1,slB s)] 2 (.bool (!H7 q s.notes l)):=by
 have hp:=Rw q hq s hN hNl l hl;unfold bP slB;generalize H7 q s.notes l=c at *;refine Eb.enter (Ae (by decide)) Tryz.func89 rfl (by kernel_rfl) (by simp [Tryz.ntmps89]) ?_
 repeat' (first|(apply Aa.fn;rfl;rfl;exact hp;intro _;rfl)|refine go1 ?_|fail)
 all_goals first|(exfalso;omega)|(refine Done.ret rfl (.refl _) trivial ?_ (by omega) (ab _) ⟨?_,rfl,rfl⟩;exact Eh;try rfl)
theorem ZR (q:Qu) (hq:JV q) (s:eG) (hN:mW q s.notes) (hNl:s.notes.length≤1000) (l:List Int) (hl:l.length=q.p.notes.length):Eb env 98 ([.p (.agg (Enc.enc s))]++[.ref 0 0,.ref 1 0]) [(0,bP q),(1,.box 28 [.p (.lst 3 (cells l) l.length)])] 2 (.bool (!H7 q s.notes l)):=by
 have hp:=Rw q hq s hN hNl l hl;unfold bP;generalize H7 q s.notes l=c at *;refine Eb.enter (Ae (by decide)) Tryz.func98 rfl (by kernel_rfl) (by simp [Tryz.ntmps98]) ?_
 repeat' (first|(apply Aa.fn;rfl;rfl;exact hp;intro _;rfl)|refine go1 ?_|fail)
 all_goals first|(exfalso;omega)|(refine Done.ret rfl (.refl _) trivial ?_ (by omega) (ab _) ⟨?_,rfl,rfl⟩;exact Eh;try rfl)
end Go.Proofs.YtnjkoebfgcbbdaaGreatDoor
namespace Go.Vm
open Go.Am
variable {E:Env} {L:Frame} {H:Heap} {nx:Nat} {Q:PV→Heap→Nat→Prop} {w:Bool}
variable {dst:Option Tmp} {ty:TypeId} {pos:String} {af:Array Edge} {gd:Option (Nat×Bool)}
theorem Aa.jf {t:TypeId} {x:Operand} {lo hi:Option Operand} {e:TypeId} {cs:List FV} {b n off len a c sz:Nat} {z:Bool} {inf:TypeInfo} (hx:AU E.Γ L x=some (.vec b n off len)) (hb:hget H b=some (.vec e cs n z)) (hn:0<n) (ht:E.P.underlying t=some (.slice e)) (hi':E.P.info? e=some inf) (hsz:inf.size=sz)
 (hlo:match lo with|none=>a=0|some o=>∃ k,AU E.Γ L o=some (.p (.int k (a:Int)))) (hhi:match hi with|none=>c=len|some o=>∃ k,AU E.Γ L o=some (.p (.int k (c:Int)))) (hac:a≤c) (hcl:c≤len)
 (q:Q (.vec b n (off+a*sz) (c-a)) H nx):Aa E w ⟨dst,.slice t x lo hi none,ty,pos,af,gd⟩ L H nx Q :=
 Aa.quiet q fun m F σ tt h1 h2=>by
  have a4r:bnd 0 (lo.map (ev tt))=some a:=by
   cases lo with
   |none=>rw [hlo];rfl
   |some o =>
    obtain ⟨k,hk⟩:=hlo;simp only [Option.map_some,CJ h1 h2 hk,bnd];rfl
  have b4j:bnd len (hi.map (ev tt))=some c:=by
   cases hi with
   |none=>rw [hhi];rfl
   |some o =>
    obtain ⟨k,hk⟩:=hhi;simp only [Option.map_some,CJ h1 h2 hk,bnd];rfl
  have hsub:=JF h1 h2 hx hb;obtain ⟨hlt,hr⟩:=h1.hp b _ hb;rcases hr with ⟨r1,r2,r3⟩|⟨d,g,vs,r1,r2,r3,r4,r5,r6,r7⟩
  ·omega
  rw [r1] at hsub;simp only [FU] at hsub;refine ⟨.slice (some ⟨d,off+a*sz,none⟩) (c-a) g,fun _=>?_,.vec hlt rfl fun j hj=>?_⟩
  ·simp only [BU,Fb,hsub,aslice,Option.isSome_none,Option.map_none,Bool.false_and,Bool.false_eq_true,if_false,ht,hi',a4r,b4j,r4,hac,hcl,r2,and_self,if_true,Option.map_some,hsz]
  ·simp only [htag,hb,HB.tag,Option.map_some,Option.some.injEq,Tg.vec.injEq] at hj
   refine ⟨by omega,fun _=>?_⟩;rw [r1];rfl
theorem a1a {m:Mem} {F:Nat→Prop} {σ:Nat→Value} {b n off c g:Nat} {e:TypeId} {cs fs:List FV} {vs l:List Value} {z:Bool} (h1:Ctx E.Γ m F σ H nx) (hb:hget H b=some (.vec e cs n z)) (hn:0<n) (h4:σ b=.slice (some ⟨c,0,none⟩) n g) (r2:c<m.size) (r3:¬ F c) (r4:m.get c=.cells vs e g false) (r5:Dc m F cs vs) (r6:vs.all BI=true)
 (hl:Dc m F fs l) (hc:l.all BI=true) :
 Ctx E.Γ (m.put c (.cells (splice vs off l) e g false)) F (upd σ b (σ b)) (hput H b (.vec e (Df cs off fs) n z)) nx∧Step m F σ H nx (m.put c (.cells (splice vs off l) e g false)) F (upd σ b (σ b)) (hput H b (.vec e (Df cs off fs) n z)) nx:=by
 have hput':∀ d,c≠d→(m.put c (.cells (splice vs off l) e g false)).get d=m.get d:=fun d hd=>by rw [Mem.get_put,if_neg hd]
 exact h1.change (m':=m.put c (.cells (splice vs off l) e g false)) (x':=.vec e (Df cs off fs) n z) (s':=σ b) hb (ab _) (fun _=>rfl) (ab _)
  (fun d _ hd=>hput' d fun e=>hd (by rw [h4,e];rfl)) (fun k k1 k2 k3=>by
   have:=k3 c (by rw [h4];rfl);simp only [Mem.put];omega) (fun d hd=>.inl hd) (by
   refine .inr ⟨c,g,splice vs off l,h4,r2,r3,by rw [Mem.get_put,if_pos rfl],?_,KO _ r6 hc,fun h=>by omega⟩;exact (Dc.splice off r5 hl).mono (fun d hd=>⟨hd,hput' d fun e=>r3 (e▸hd)⟩))
def SlT (Γ:Nat→Option (List Value×TypeId)) (L:Frame) (H:Heap) (nx:Nat) (x:Operand) (sz n:Nat) (xs:List FV) (k:Nat):Prop :=
 ∀ m F σ t,Ctx Γ m F σ H nx→RL m F (htag H) σ nx L t→lenOf (ev t x)=some n∧∃ l,BX m sz k (ev t x)=some l∧Dc m F xs l∧l.all BI=true
theorem Aa.clear {d:Operand} {dT e:TypeId} {i:TypeInfo} {b n off len:Nat} {cs:List FV} {z:Bool} {zs:List Value} (hd:AU E.Γ L d=some (.vec b n off len)) (hb:hget H b=some (.vec e cs n z)) (hn:0<n) (h0:0<len)
 (hdT:E.P.underlying dT=some (.slice e)) (hi:E.P.info? e=some i) (hz:BO E.P e=some zs) (hzl:zs.length=i.size∧0<i.size) (hl:off+len*i.size≤cs.length) (q:Q (.DX []) (hput H b (.vec e (Df cs off ((AA zs len).map Hl)) n z)) nx) :
 Aa E true ⟨none,.call { callee:=.builtin .clear,args:=#[d],argTypes:=#[dT] },ty,pos,af,gd⟩ L H nx Q:=by
 intro m F σ t h1 h2;have hsub:=JF h1 h2 hd hb;obtain ⟨hlt,hr⟩:=h1.hp b _ hb;rcases hr with ⟨r1,r2,r3⟩|⟨c,g,vs,r1,r2,r3,r4,r5,r6,r7⟩
 ·omega
 simp only [FU] at hsub;have hpl:zs.all Am.plainCell=true:=by
  obtain ⟨_,zv,_,_,_,h⟩:=BF hz;exact h
 have hx3:Dc m F ((AA zs len).map Hl) (AA zs len):=Iy (Jk hpl len);have hx4:(AA zs len).all BI=true:=CX (Jk hpl len);have hlen2:=r5.length;have hrl:=Es zs len;obtain ⟨d1,d2⟩:=a1a (E:=E) (off:=off) h1 hb hn r1 r2 r3 r4 r5 r6 hx3 hx4;refine Gj.op (v:=.tuple #[]) (m':=m.put c (.cells (splice vs off (AA zs len)) e g false)) (fun _=>?_) ⟨_,_,_,F,_,q,d1,.DX .nil,d2,fun h=>by cases h⟩;have hp:=dp h0 hzl.2;simp only [BU,Fb,VT,List.map_toArray,List.map_cons,List.map_nil,List.getElem?_toArray,List.getElem?_cons_zero,hsub,hdT,hi,hz];simp only [GN,r4,OX,Option.getD_some,beq_self_eq_true,Bool.true_and];grind
def QK:Code→Option Nat
 | .region n _ _=>some n
 | .seq a b=>match QK a with
  |some n=>some n
  |none=>QK b
 | .block _ b=>QK b
 | .loop b=>QK b
 | .scope b=>QK b
 |_=>none
def MH (r:Nat):Code→Option Code
 | .loop b=>match QK b with
  |some n=>match Nat.beq n r with
   |true=>some (.loop b)
   |false=>MH r b
  |none=>MH r b
 | .seq a b=>match MH r a with
  |some c=>some c
  |none=>MH r b
 | .cond _ a b=>match MH r a with
  |some c=>some c
  |none=>MH r b
 | .block _ b=>MH r b
 | .scope b=>MH r b
 | .rangeFunc _ _ _ b=>MH r b
 |_=>none
def c1s (fn:Func) (r:Nat):Code:=match fn.body with
 |some c=>match MH r c with
  |some c=>c
  |none=>.skip
 |none=>.skip
end Go.Vm
namespace Go.Proofs.YtnjkoebfgcbbdaaGreatDoor
open Go Go.Am Go.Vm Go.Pie
attribute [local irreducible] Aa Ai Ag Ad AP Ak Bf BM Bq Ah Vm.Done BD AB
attribute [local irreducible] Ci Ba DV DN Eo AZ CG
theorem WE (l:List Int) (h0:0<l.length) (h1:l.length<1000000):Bf env 75 [.lst 3 (cells l) l.length] 3 (cells l) l.length false:=by
 refine Bf.enter (Ae (by decide)) Tryz.func75 rfl (by kernel_rfl) (by simp [Tryz.ntmps75]) ?_
 repeat' (first|(apply Aa.a6j;rfl;rfl;rfl;exact h0)|(apply Aa.TK;rfl;rfl;rfl;(first|rfl|omega|(simp only [List.length_take,List.length_drop,List.length_append,List.length_singleton,List.length_cons,List.length_nil]<;>omega));rfl;rfl;(intro _ h;cases h);rfl;rfl;rfl;decide;decide;(first|omega|(simp only [List.length_take,List.length_drop,List.length_append,List.length_singleton,List.length_cons,List.length_nil]<;>omega)))|refine go1 ?_|(apply Aa.buildSlice;rfl;rfl;rfl;decide;rfl;rfl;rfl)|(apply Ad.Aj;rfl))
 exact BD.ret rfl rfl rfl rfl
def ctN (p:F7) (a z:Int):Nat→List LW
 |0=>[]
 |k+1=>if (gi p.notes k).s<z∧(gi p.notes k).e>a then ctN p a z k++[⟨max (gi p.notes k).s a,min (gi p.notes k).e z,(gi p.notes k).d,(gi p.notes k).k⟩] else ctN p a z k
def c3l (p:F7) (f:Nat):List vC:=if 0≤wan p (gi p.bars f)∧(gi p.sets (wan p (gi p.bars f)).toNat).bar<f then [⟨0,(gi p.sets (wan p (gi p.bars f)).toNat).reg⟩] else []
def ctS (p:F7) (f t:Nat) (s0:List vC):Nat→List vC
 |0=>s0
 |k+1=>if (gi p.sets k).bar≥f∧(gi p.sets k).bar<t then ctS p f t s0 k++[⟨(gi p.sets k).bar-f,(gi p.sets k).reg⟩] else ctS p f t s0 k
def ctB (p:F7) (f t:Nat):List Int:=(p.bars.drop f).take (t+1-f)
def c9k (p:F7) (f t:Nat):F7:=⟨ctB p f t,ctN p (gi p.bars f) (gi p.bars t) p.notes.length,ctS p f t (c3l p f) p.sets.length⟩
def c7v:List FV:=[.val (.slice none 0 0),.val (.slice none 0 0),.val (.slice none 0 0)]
end Go.Proofs.YtnjkoebfgcbbdaaGreatDoor
