/-
  Texts of a proof, merged (HanA, PieM, OrQd, PieR, HanB, HanC, HanD, HanE, HanF, Vm35, PieK). Conditions: in each statement.
-/
import Derived.Test.YtnjkoebfgcbbdaaGreatDoorKCl
set_option linter.unusedSimpArgs false
set_option linter.unusedVariables false
set_option linter.unusedSectionVars false
set_option maxRecDepth 100000
set_option maxHeartbeats 8000000
abbrev bb:=@Int.toNat_natCast
abbrev gF:=@List.replicate_succ'
namespace Go.Proofs.YtnjkoebfgcbbdaaGreatDoor
open Go Go.Am Go.Vm Go.Pie
attribute [local irreducible] Aa Ah Af Ad Az Ai Ba Bq Bd Aj Vm.Done Bg AB
attribute [local irreducible] BR A8 DJ Dx DX AV Cc
structure Zc where
 hn:Int
 hs:Int
 fn:Int
 fs:Int
instance:Enc Zc:={ default:=⟨0,0,0,0⟩,enc:=fun x=>[.int .i64 x.hn,.int .i64 x.hs,.int .i64 x.fn,.int .i64 x.fs],size:=4,len:=fun _=>rfl }
structure Zc.Ok (y:Zc):Prop where
 hn:0≤y.hn∧y.hn≤10
 fn:0≤y.fn∧y.fn≤10
 hs:0≤y.hs∧y.hs≤127
 fs:0≤y.fs∧y.fs≤127
noncomputable instance (y:Zc):Decidable y.Ok:=Classical.propDecidable _
def F8 (s:KA):List Int:=Eu s.lo s.hi
theorem Rl {p n:Nat}:n∈GY p↔n<64∧p.testBit n=true:=by
 unfold GY;simp
theorem nK {s:KA} {x:Int}:x∈F8 s↔∃ n:Nat,n<128∧x=(n:Int)∧s.has n=true:=by
 unfold F8 Eu;rw [bq,be,be];constructor
 ·rintro (⟨n,h,rfl⟩|⟨n,h,rfl⟩)
  ·obtain ⟨h1,h2⟩:=Rl.1 h
   exact ⟨n,by omega,rfl,by unfold KA.has;grind⟩
  ·obtain ⟨h1,h2⟩:=Rl.1 h
   refine ⟨64+n,by omega,rfl,?_⟩;unfold KA.has;grind
 ·rintro ⟨n,h1,rfl,h2⟩
  unfold KA.has at h2;split at h2
  ·rename_i h;exact .inl ⟨n,Rl.2 ⟨h,h2⟩,rfl⟩
  ·rename_i h
   exact .inr ⟨n-64,Rl.2 ⟨by omega,h2⟩,by omega⟩
theorem nU (s:KA):(F8 s).length=(GY s.lo).length+(GY s.hi).length:=by simp [F8,Eu]
theorem Yv (s:KA):(F8 s).length≤128:=by
 rw [nU];have:=KT s.lo;have:=KT s.hi;omega
def wid (l:List Int):Int:=if l.length=0 then 0 else gi l (l.length-1)-gi l 0
end Go.Proofs.YtnjkoebfgcbbdaaGreatDoor
namespace Go.Vm
open Go.Am
variable {E:Env} {L:Frame} {H:Heap} {nx:Nat} {Q:PV→Heap→Nat→Prop} {dst:Option Tmp} {ty:TypeId} {pos:String} {af:Array Edge} {gd:Option (Nat×Bool)} {w:Bool}
theorem zV {a b:Nat} (h:a<2 ^ 64):a / b<2 ^ 64:=cr (Nat.div_le_self _ _) h
theorem Aa.a0o {t t2:TypeId} {x y:Operand} {a b:Nat} (r:Nat) (hx:AU E.Γ L x=some (.p (.int .u64 (a:Int)))) (hy:AU E.Γ L y=some (.p (.int .u64 (b:Int)))) (he:a+b=r) (h:r<18446744073709551616) (q:Q (.p (.int .u64 (r:Int))) H nx) :
 Aa E w ⟨dst,.binOp .add t x y t2,ty,pos,af,gd⟩ L H nx Q:=Aa.a4b hx hy (by omega) (by grind)
theorem Aa.a7s {t t2:TypeId} {x y:Operand} {a b:Nat} (r:Nat) (hx:AU E.Γ L x=some (.p (.int .u64 (a:Int)))) (hy:AU E.Γ L y=some (.p (.int .u64 (b:Int)))) (he:a &&& b=r) (h:a<2 ^ 64) (h2:b<2 ^ 64) (q:Q (.p (.int .u64 (r:Int))) H nx) :
 Aa E w ⟨dst,.binOp .and t x y t2,ty,pos,af,gd⟩ L H nx Q:=Aa.b8y hx hy h h2 (by grind)
end Go.Vm
namespace Go.Proofs.YtnjkoebfgcbbdaaGreatDoor
open Go Go.Am Go.Vm Go.Pie
attribute [local irreducible] Aa Ah Af Ad Az Ai Ba Bq Bd Aj Vm.Done Bg AB
theorem iJ (x:Nat) (hx:x<18446744073709551616):Ai env 112 [.int .u64 (x:Int)] (.p (.int .i64 (((GY x).length:Nat):Int))):=by
 obtain ⟨g1,g2,g3⟩:=(Pop.oG hx).2;have h1:=b2i hx;obtain ⟨A,hA⟩:∃ A,A=Pop.swA x:=⟨_,rfl⟩
 obtain ⟨B,hB⟩:∃ B,B=Pop.swB A:=⟨_,rfl⟩
 obtain ⟨C,hC⟩:∃ C,C=Pop.swC B:=⟨_,rfl⟩
 obtain ⟨D,hD⟩:∃ D,D=Pop.swD C:=⟨_,rfl⟩
 obtain ⟨F,hF⟩:∃ F,F=Pop.swE D:=⟨_,rfl⟩
 obtain ⟨G,hG⟩:∃ G,G=Pop.swF F:=⟨_,rfl⟩
 rw [← hA] at g1 g2 g3;rw [← hB] at g1 g3;rw [← hC] at g1;have m1:∀ a b:Nat,b<18446744073709551616→a &&& b<18446744073709551616:=fun a b h=>cr Nat.and_le_right h
 obtain ⟨a1,p1⟩:∃ a1,x / 2 ^ 1 &&& 6148914691236517205=a1:=⟨_,rfl⟩
 obtain ⟨a2,p2⟩:∃ a2,x &&& 6148914691236517205=a2:=⟨_,rfl⟩
 obtain ⟨b1,p3⟩:∃ b1,A / 2 ^ 2 &&& 3689348814741910323=b1:=⟨_,rfl⟩
 obtain ⟨b2,p4⟩:∃ b2,A &&& 3689348814741910323=b2:=⟨_,rfl⟩
 obtain ⟨c1,p5⟩:∃ c1,B / 2 ^ 4+B=c1:=⟨_,rfl⟩
 have e1:a1+a2=A:=by rw [← p1,← p2];exact hA.symm
 have e2:b1+b2=B:=by rw [← p3,← p4];exact hB.symm
 have e3:c1 &&& 1085102592571150095=C:=by rw [← p5];exact hC.symm
 have e4:C+C / 2 ^ 8=D:=hD.symm;have e5:D+D / 2 ^ 16=F:=hF.symm;have e6:F+F / 2 ^ 32=G:=hG.symm;have e7:G &&& 127=(GY x).length:=by rw [← h1];unfold Pop.sw;rw [← hA,← hB,← hC,← hD,← hF,← hG]
 clear hA hB hC hD hF hG h1;obtain ⟨Z,hZ⟩:∃ Z,Z=(GY x).length:=⟨_,rfl⟩
 rw [← hZ] at e7 ⊢;have e8:PV.p (.int .i64 ((G &&& 127:Nat):Int))=PV.p (.int .i64 (Z:Int)):=by rw [e7]
 refine Ai.enter (Ae (by decide)) Tryz.func112 rfl (by kernel_rfl) (by simp [Tryz.ntmps112]) ?_
 repeat' (first|(apply Aa.a7s a1;rfl;rfl;exact p1;exact zV (by omega);exact AY rfl)|(apply Aa.a7s a2;rfl;rfl;exact p2;omega;exact AY rfl)|(apply Aa.a7s b1;rfl;rfl;exact p3;exact zV (by omega);exact AY rfl)|(apply Aa.a7s b2;rfl;rfl;exact p4;omega;exact AY rfl)|(apply Aa.c1e;rfl;rfl;exact ⟨by omega,AY rfl⟩)|(apply Aa.a0o c1;rfl;rfl;exact p5;omega)|(apply Aa.a0o A;rfl;rfl;exact e1;omega)|(apply Aa.a0o B;rfl;rfl;exact e2;omega)|(apply Aa.a0o D;rfl;rfl;exact e4;omega)|(apply Aa.a0o F;rfl;rfl;exact e5;omega)|(apply Aa.a0o G;rfl;rfl;exact e6;omega)|(apply Aa.a7s C;rfl;rfl;exact e3;omega;exact AY rfl)|refine Cb ?_|(apply Aa.Ea;rfl;rfl;rfl;rfl;omega)|(apply Aa.lD;rfl;rfl;(simp only [IntKind.bits];omega)))
 all_goals first|(exfalso;omega)|((refine Done.rt rfl rfl ⟨?_,rfl,rfl⟩;try rfl);exact e8;done)|(refine Done.rt rfl rfl ⟨?_,rfl,rfl⟩;try rfl)
theorem vV (s:KA) (hs:s.Ok):Ai env 67 [.agg (Enc.enc s)] (.p (.int .i64 (((F8 s).length:Nat):Int))):=by
 have h1:=iJ s.lo hs.lo;have h2:=iJ s.hi hs.hi;have b1:=KT s.lo;have b2:=KT s.hi;rw [nU];refine Ai.enter (Ae (by decide)) Tryz.func67 rfl (by kernel_rfl) (by simp [Tryz.ntmps67]) ?_
 repeat' (first|(apply Aa.fn;rfl;rfl;exact h1;intro _;rfl)|(apply Aa.fn;rfl;rfl;exact h2;intro _;rfl)|refine Cb ?_|fail)
 all_goals first|(exfalso;omega)|(refine Done.rt rfl rfl ⟨?_,rfl,rfl⟩;try rfl)
theorem Ze (l:List Int) (hl:l.length≤128) (h:∀ x∈l,0≤x∧x≤127):Ai env 106 [.lst 3 (cells l) l.length] (.p (.int .i64 (wid l))):=by
 unfold wid;by_cases h0:l.length=0
 ·rw [if_pos h0]
  refine Ai.enter (Ae (by decide)) Tryz.func106 rfl (by kernel_rfl) (by simp [Tryz.ntmps106]) ?_
  repeat' (first|refine go2 ?_|(apply Ad.Ac;rfl)|(intro _;try (exfalso;omega)))
  all_goals first|(exfalso;omega)|(refine Done.rt rfl rfl ⟨?_,rfl,rfl⟩;try rfl)
 ·rw [if_neg h0]
  have h1:=h _ (gi_mem' (show l.length-1<l.length by omega));have h2:=h _ (gi_mem' (show 0<l.length by omega));have hn:(l.length:Int)-1=((l.length-1:Nat):Int):=by omega
  have hz:@gi Int Enc.toInhabited l (nat_lit 0)=gi l 0:=rfl;refine Ai.enter (Ae (by decide)) Tryz.func106 rfl (by kernel_rfl) (by simp [Tryz.ntmps106]) ?_
  repeat' (first|(apply Aa.Ap (l:=l) (i:=l.length-1);rfl;exact congrArg (fun b=>some (PV.p (.int .i64 b))) hn;rfl;omega;rfl)|(apply Aa.Ap (l:=l) (i:=0);rfl;rfl;rfl;omega;rfl)|refine Cb ?_|(apply Aa.int;rfl;rfl;rfl)|(apply Ad.Ac;rfl)|(intro _;try (exfalso;omega)))
  all_goals first|(exfalso;omega)|(refine Done.rt rfl rfl ⟨?_,rfl,rfl⟩;try rfl)
def lI (y:Zc) (l:List Int):Prop:=(l.length:Int)≤y.hn∧wid l≤y.hs
instance (y:Zc) (l:List Int):Decidable (lI y l):=inferInstanceAs (Decidable (_∧_))
theorem a6h (y:Zc) (l:List Int) (hl:l.length≤128) (h:∀ x∈l,0≤x∧x≤127):Ai env 60 [.agg (Enc.enc y),.lst 3 (cells l) l.length] (.p (.bool (decide (lI y l)))):=by
 have hw:=Ze l hl h;by_cases h1:(l.length:Int)≤y.hn;all_goals by_cases h2:wid l≤y.hs
 all_goals first|rw [decide_eq_true (p:=lI y l) ⟨h1,h2⟩]|rw [decide_eq_false (p:=lI y l) (fun h=>h1 h.1)]|rw [decide_eq_false (p:=lI y l) (fun h=>h2 h.2)]
 all_goals generalize wid l=W at *
 all_goals
  refine Ai.enter (Ae (by decide)) Tryz.func60 rfl (by kernel_rfl) (by simp [Tryz.ntmps60]) ?_
 all_goals
  repeat' (first|(apply Aa.fn;rfl;rfl;exact hw;intro _;rfl)|refine Cb ?_|(apply Af.guard;rfl;rfl)|(apply Aa.int;rfl;rfl;rfl)|(intro _;try (exfalso;omega)))
 all_goals first|(exfalso;omega)|(refine Done.rt rfl rfl ⟨?_,rfl,rfl⟩;try rfl)
 all_goals first|exact PV.FZ (decide_eq_true (by omega))|exact PV.FZ (decide_eq_false (by omega))|exact PV.FZ (by simp;omega)
attribute [local irreducible] BR A8 DJ Dx DX AV Cc
structure Sd8 where
 st:Nat
 lg:Nat
 dv:Nat
 ky:Nat
instance:Enc Sd8:={ default:=⟨0,0,0,0⟩,enc:=fun x=>[.int .u8 (x.st:Int),.int .u8 (x.lg:Int),.int .u8 (x.dv:Int),.int .u8 (x.ky:Int)],size:=4,len:=fun _=>rfl }
structure Mrk where
 bar:Nat
 b:Nat→Nat
instance:Enc Mrk:={ default:=⟨0,fun _=>0⟩,enc:=fun x=>[.int .u8 (x.bar:Int),.int .u8 (x.b 0:Int),.int .u8 (x.b 1:Int),.int .u8 (x.b 2:Int),.int .u8 (x.b 3:Int),.int .u8 (x.b 4:Int)],size:=6,len:=fun _=>rfl }
structure mJ where
 org:OPl
 bars:List UInt8
 notes:List Sd8
 sets:List Mrk
def mJ.enc (x:mJ):List FV:=[.lst 226 (cells x.org.ranks) x.org.ranks.length,.lst 211 (cells x.org.Ag) x.org.Ag.length,.lst 234 (cells x.org.links) x.org.links.length,
 .lst 5 (cells x.bars) x.bars.length,.lst 170 (cells x.notes) x.notes.length,.lst 176 (cells x.sets) x.sets.length]
structure mJ.Ok (x:mJ):Prop where
 org:x.org.Ok
 nb:x.bars.length<9223372036854775808
 nn:x.notes.length<9223372036854775808
 ns:x.sets.length<9223372036854775808
 notes:∀ i,i<x.notes.length→(gi x.notes i).st<256∧(gi x.notes i).lg<256∧(gi x.notes i).dv<256∧(gi x.notes i).ky<256
 sets:∀ i,i<x.sets.length→(gi x.sets i).bar<256∧∀ j,(gi x.sets i).b j<256
def Xh (x:mJ):Prop:=aJ x.org∧(0<x.bars.length∧x.bars.length≤4)∧x.notes.length≤8∧x.sets.length≤3
noncomputable instance (x:mJ):Decidable (Xh x):=Classical.propDecidable _
theorem wE (x:mJ) (hx:x.Ok):Ai env 14 [.agg x.enc] (.p (.bool (decide (Xh x)))):=by
 have h1:=a1u x.org hx.org;have b1:=hx.nb;have b2:=hx.nn;have b3:=hx.ns;by_cases c1:aJ x.org
 ·rw [decide_eq_true c1] at h1
  by_cases c2:(0<x.bars.length∧x.bars.length≤4)∧x.notes.length≤8∧x.sets.length≤3
  ·rw [decide_eq_true (p:=Xh x) ⟨c1,c2⟩]
   refine Ai.enter (Ae (by decide)) Tryz.func14 rfl (by kernel_rfl) (by simp [Tryz.ntmps14]) ?_
   repeat' (first|(apply Aa.fn;rfl;rfl;exact h1;intro _;rfl)|refine Cb ?_|(apply Ah.guard;rfl;rfl)|(apply Aa.int;rfl;rfl;rfl)|(intro _;try (exfalso;omega)))
   all_goals first|(exfalso;omega)|contradiction|(refine Done.rt rfl rfl ⟨?_,rfl,rfl⟩;try rfl)
   all_goals exact PV.FZ (by simp;omega)
  ·rw [decide_eq_false (p:=Xh x) (fun h=>c2 h.2)]
   refine Ai.enter (Ae (by decide)) Tryz.func14 rfl (by kernel_rfl) (by simp [Tryz.ntmps14]) ?_
   repeat' (first|(apply Aa.fn;rfl;rfl;exact h1;intro _;rfl)|refine Cb ?_|(apply Ah.guard;rfl;rfl)|(apply Aa.int;rfl;rfl;rfl)|(intro _;try (exfalso;omega)))
   all_goals first|(exfalso;omega)|contradiction|(refine Done.rt rfl rfl ⟨?_,rfl,rfl⟩;try rfl)
   all_goals exact PV.FZ (by simp;omega)
 ·rw [decide_eq_false c1] at h1
  rw [decide_eq_false (p:=Xh x) (fun h=>c1 h.1)];refine Ai.enter (Ae (by decide)) Tryz.func14 rfl (by kernel_rfl) (by simp [Tryz.ntmps14]) ?_
  repeat' (first|(apply Aa.fn;rfl;rfl;exact h1;intro _;rfl)|refine Cb ?_|fail)
  all_goals first|(exfalso;omega)|contradiction|(refine Done.rt rfl rfl ⟨?_,rfl,rfl⟩;try rfl)
def bM (l:List UInt8):Nat→Int
 |0=>0
 |i+1=>bM l i+1+((gi l i).toNat:Int) % 6
theorem lu (l:List UInt8):∀ i:Nat,(i:Int)≤bM l i∧bM l i≤6*i
 |0=>by simp [bM]
 |i+1=>by
  have:=lu l i;unfold bM;omega
def ntP (o:Ho) (z:Int) (y:Sd8):GI :=
 ⟨(y.st:Int) % z,min z ((y.st:Int) % z+1+(y.lg:Int) % 8),(y.dv:Int) % (o.Ag.length:Int),
  (gi o.Ag ((y.dv:Int) % (o.Ag.length:Int)).toNat).lo+(y.ky:Int) % ((gi o.Ag ((y.dv:Int) % (o.Ag.length:Int)).toNat).hi-(gi o.Ag ((y.dv:Int) % (o.Ag.length:Int)).toNat).lo+1)⟩
def Ig (o:Ho) (z:Int) (l:List Sd8):Nat→List GI
 |0=>[]
 |k+1=>if (Ig o z l k).any (fun m=>kL m (ntP o z (gi l k)))=true then Ig o z l k else Ig o z l k++[ntP o z (gi l k)]
theorem UF (o:Ho) (z:Int) (l:List Sd8):∀ k,(Ig o z l k).length≤k
 |0=>ab _
 |k+1=>by
  have:=UF o z l k;unfold Ig;grind
def OM (nb:Nat) (l:List Mrk):Nat→Int
 |0=>-1
 |k+1=>if ((gi l k).bar:Int) % (nb:Int)>OM nb l k then ((gi l k).bar:Int) % (nb:Int) else OM nb l k
noncomputable def Jk (o:Ho) (nb:Nat) (l:List Mrk):Nat→List Ny
 |0=>[]
 |k+1=>if ((gi l k).bar:Int) % (nb:Int)>OM nb l k then Jk o nb l k++[⟨((gi l k).bar:Int) % (nb:Int),Qg o (gi l k).b⟩] else Jk o nb l k
theorem Ve (o:Ho) (nb:Nat) (l:List Mrk):∀ k,(Jk o nb l k).length≤k
 |0=>ab _
 |k+1=>by
  have:=Ve o nb l k;unfold Jk;grind
noncomputable def b8z (o:Ho) (x:mJ):Ef:=⟨BD (bM x.bars) (x.bars.length+1),Ig o (bM x.bars x.bars.length) x.notes x.notes.length,Jk o x.bars.length x.sets x.sets.length⟩
noncomputable def mkP (x:mJ):Ef:=b8z (lq x.org) x
theorem a6e (a b:GI):Ai env 73 [.agg (Enc.enc a),.agg (Enc.enc b)] (.p (.bool (kL a b))):=by
 unfold kL;by_cases h1:a.d=b.d
 case neg =>
  rw [decide_eq_false h1,er];refine Ai.enter (Ae (by decide)) Tryz.func73 rfl (by kernel_rfl) (by simp [Tryz.ntmps73]) ?_
  repeat' (first|refine go2 ?_|(apply Ah.guard;rfl;rfl)|(intro _;try (exfalso;omega)))
  all_goals first|(exfalso;omega)|contradiction|(refine Done.rt rfl rfl ⟨?_,rfl,rfl⟩;try rfl)
 by_cases h2:a.k=b.k
 case neg =>
  rw [decide_eq_true h1,decide_eq_false h2,er,cQ];refine Ai.enter (Ae (by decide)) Tryz.func73 rfl (by kernel_rfl) (by simp [Tryz.ntmps73]) ?_
  repeat' (first|refine go2 ?_|(apply Ah.guard;rfl;rfl)|(intro _;try (exfalso;omega)))
  all_goals first|(exfalso;omega)|contradiction|(refine Done.rt rfl rfl ⟨?_,rfl,rfl⟩;try rfl)
 by_cases h3:a.s<b.e
 case neg =>
  rw [decide_eq_true h1,decide_eq_true h2,decide_eq_false h3,er,cQ];refine Ai.enter (Ae (by decide)) Tryz.func73 rfl (by kernel_rfl) (by simp [Tryz.ntmps73]) ?_
  repeat' (first|refine go2 ?_|(apply Ah.guard;rfl;rfl)|(intro _;try (exfalso;omega)))
  all_goals first|(exfalso;omega)|contradiction|(refine Done.rt rfl rfl ⟨?_,rfl,rfl⟩;try rfl)
 rw [decide_eq_true h1,decide_eq_true h2,decide_eq_true h3,cQ,cQ,cQ];refine Ai.enter (Ae (by decide)) Tryz.func73 rfl (by kernel_rfl) (by simp [Tryz.ntmps73]) ?_
 repeat' (first|refine go2 ?_|(apply Ah.guard;rfl;rfl)|(intro _;try (exfalso;omega)))
 all_goals first|(exfalso;omega)|contradiction|(refine Done.rt rfl rfl ⟨?_,rfl,rfl⟩;try rfl)
theorem xH (n m:GI):EZ env 72 ([.p (.agg (Enc.enc m))]++[.ref 0 0]) [(0,a2n n)] 1 (.bool (kL m n)):=by
 have h:=a6e m n;refine EZ.enter (Ae (by decide)) Tryz.func72 rfl (by kernel_rfl) (by simp) ?_
 repeat' (first|(apply Aa.fn;rfl;rfl;exact h;intro _;rfl)|refine Cb ?_|fail)
 all_goals first|(exfalso;omega)|(refine Done.ret rfl (.refl _) trivial ?_ (by omega) (ab _) ⟨?_,rfl,rfl⟩;exact Ey;try rfl)
theorem og (x:mJ) (hx:x.Ok) (hf:Xh x):Ai env 29 [.agg x.enc] (.Eb [.p (.agg (Enc.enc (lq x.org))),.p (.agg (Enc.enc (mkP x)))]):=by
 obtain ⟨f1,f2,f3,f4⟩:=hf;have hm:=oL x.org hx.org f1;have hT:=a5x x.org hx.org f1;have hdr:=fun i (hi:i<x.sets.length)=>wC (lq x.org) hT (gi x.sets i).b (hx.sets i hi).2
 have hbr:=lu x.bars;unfold mkP b8z;generalize lq x.org=o at *;have d1:=hT.Ag;have hsl:(BD (bM x.bars) (x.bars.length+1)).length=x.bars.length+1:=CP _ _;refine Ai.enter (Ae (by decide)) Tryz.func29 rfl (by kernel_rfl) (by simp [Tryz.ntmps29]) ?_
 repeat' (first|(apply Aa.fn;rfl;rfl;exact hm;intro _;rfl)|refine Cb ?_|(apply Aa.build;rfl;rfl;rfl;rfl;rfl)|(apply Aa.buildSlice;rfl;rfl;rfl;decide;rfl;rfl;rfl))
 all_goals try (exfalso;omega)
 apply Ad.Je (x.bars.length) [(1,_),(2,_),(3,_),(4,_),(5,_),(24,_),(25,_)] [(0,_),(1,_),(2,_),(3,_)] (fun k r=>(26,.p (.int .i64 (k:Int)))::r) (fun k r=>(4,.vec 3 (cells (BD (bM x.bars) (k+1))) (BD (bM x.bars) (k+1)).length false)::(5,.box 32 [.vec 4 (BD (bM x.bars) (k+1)).length 0 (BD (bM x.bars) (k+1)).length,.p (.val (.slice none 0 0)),.p (.val (.slice none 0 0))])::r) 6
 ·first|omega|decide
 ·first|omega|decide
 ·exact SS
 ·exact Ws
 ·intro k hk
  have hl:(BD (bM x.bars) (k+1)).length=k+1:=CP _ _;have hg:gi (BD (bM x.bars) (k+1)) k=bM x.bars k:=EC _ (by omega);have hb:=hbr k;have hu:=(gi x.bars k).toNat_lt;have e1:BD (bM x.bars) (k+1+1)=BD (bM x.bars) (k+1)++[bM x.bars k+1+((gi x.bars k).toNat:Int) % 6]:=rfl;have e2:(BD (bM x.bars) (k+1+1)).length=(BD (bM x.bars) (k+1)).length+1:=by rw [e1];simp
  repeat' (first|(apply Aa.Oo;rfl;rfl;(first|omega|(simp only [List.length_set]<;>omega));exact congrArg (fun b=>some (FV.int .i64 b)) (hg))|(apply Aa.Dk (a:=(bM x.bars k+1+((gi x.bars k).toNat:Int) % 6));rfl;rfl;rfl;rfl;rfl;rfl;rfl;rfl;(intro _ h;cases h);rfl;rfl;rfl;decide;decide;(first|omega|(simp only [List.length_take,List.length_drop,List.length_append,List.length_singleton,List.length_cons,List.length_nil]<;>omega)))|(apply Aa.Ap;rfl;rfl;rfl;omega;rfl)|(apply Aa.Di;rfl;rfl;rfl;rfl;omega)|refine Cb ?_|(apply Aa.int;rfl;rfl;rfl)|(apply Aa.buildSlice;rfl;rfl;rfl;decide;rfl;rfl;rfl)|(apply Aa.Ea;rfl;rfl;rfl;rfl;omega)|(apply Ad.Ac;rfl)|(intro _;try (exfalso;omega)))
  all_goals try (exfalso;omega)
  refine Aj.normal ⟨by first|omega|decide,?_,?_⟩
  ·try (rw [e2,e1])
   exact Dy
  ·rw [e2,e1]
   exact Ey
 ·have hg:gi (BD (bM x.bars) (x.bars.length+1)) x.bars.length=bM x.bars x.bars.length:=EC _ (by omega)
  have hb:=hbr x.bars.length;have hlc:((BD (bM x.bars) (x.bars.length+1)).length:Int)-1=(x.bars.length:Int):=by omega
  repeat' (first|(apply Aa.Oo;rfl;rfl;(first|omega|(simp only [List.length_set]<;>omega));exact congrArg (fun b=>some (FV.int .i64 b)) (hg))|(apply Aa.Di (l:=BD (bM x.bars) (x.bars.length+1)) (i:=x.bars.length);rfl;rfl;exact congrArg (fun b=>some (PV.p (.int .i64 b))) hlc;rfl;omega)|(apply Aa.lenV;rfl;rfl;rfl)|refine Cb ?_|(apply Aa.int;rfl;rfl;rfl)|(apply Ad.Ac;rfl)|(intro _;try (exfalso;omega)))
  all_goals try (exfalso;omega)
  refine Ad.ghost (Ar.EO 5 1 39 rfl rfl) ?_;refine Ad.ghost (Ar.EO 5 2 182 rfl rfl) ?_;obtain ⟨z,hz⟩:∃ z,z=bM x.bars x.bars.length:=⟨_,rfl⟩
  rw [← hz] at hb ⊢;apply Ad.Je (x.notes.length) [(1,_),(2,_),(3,_),(4,_),(5,_),(8,_),(56,_),(57,_)] [(0,_),(1,_),(2,_),(3,_),(4,_),(7,_)] (fun k r=>(58,.p (.int .i64 (k:Int)))::r) (fun k r=>(6,.vec 39 (cells (Ig o z x.notes k)) (Ig o z x.notes k).length true)::(5,.box 32 [.vec 4 (BD (bM x.bars) (x.bars.length+1)).length 0 (BD (bM x.bars) (x.bars.length+1)).length,.vec 6 (Ig o z x.notes k).length 0 (Ig o z x.notes k).length,.vec 7 0 0 0])::r) 8
  ·first|omega|decide
  ·first|omega|decide
  ·exact SS
  ·exact Ws
  ·intro k hk
   have hl2:=UF o z x.notes k;obtain ⟨y1,y2,y3,y4⟩:=hx.notes k hk;have hd0:0≤((gi x.notes k).dv:Int) % (o.Ag.length:Int):=bA _ (by omega);have hd1:((gi x.notes k).dv:Int) % (o.Ag.length:Int)<(o.Ag.length:Int):=bx _ (by omega);have hdv:=hT.dv (((gi x.notes k).dv:Int) % (o.Ag.length:Int)).toNat (by omega);have hs0:0≤((gi x.notes k).st:Int) % z:=bA _ (by omega);have hs1:((gi x.notes k).st:Int) % z<z:=bx _ (by omega);have hk0:0≤((gi x.notes k).ky:Int) % ((gi o.Ag (((gi x.notes k).dv:Int) % (o.Ag.length:Int)).toNat).hi-(gi o.Ag (((gi x.notes k).dv:Int) % (o.Ag.length:Int)).toNat).lo+1):=bA _ (by omega);have hk1:((gi x.notes k).ky:Int) % ((gi o.Ag (((gi x.notes k).dv:Int) % (o.Ag.length:Int)).toNat).hi-(gi o.Ag (((gi x.notes k).dv:Int) % (o.Ag.length:Int)).toNat).lo+1)<(gi o.Ag (((gi x.notes k).dv:Int) % (o.Ag.length:Int)).toNat).hi-(gi o.Ag (((gi x.notes k).dv:Int) % (o.Ag.length:Int)).toNat).lo+1:=bx _ (by omega);have hany:=zl 72 (ntP o z (gi x.notes k)) (Ig o z x.notes k) true (fun m=>kL m (ntP o z (gi x.notes k))) (by omega) (fun m=>xH (ntP o z (gi x.notes k)) m);have e1:Ig o z x.notes (k+1)=if (Ig o z x.notes k).any (fun m=>kL m (ntP o z (gi x.notes k)))=true then Ig o z x.notes k else Ig o z x.notes k++[ntP o z (gi x.notes k)]:=rfl
   by_cases hb:(Ig o z x.notes k).any (fun m=>kL m (ntP o z (gi x.notes k)))=true
   ·rw [if_pos hb] at e1
    rw [hb] at hany
    repeat' (first|(apply Aa.read [10,6] hany;rfl;rfl;exact .of_eq rfl;exact C9.AA rfl;exact Dn rfl;(repeat (first|exact trivial|refine ⟨⟨_,rfl,.of_eq rfl⟩,?_⟩));decide;(intro _ hb;simp at hb<;>omega);rfl)|(apply Aa.makeFunc;rfl;rfl)|(apply Aa.Ap;rfl;rfl;rfl;omega;rfl)|(apply Aa.OH;rfl;rfl;rfl;omega;omega;rfl)|refine Cb ?_|(apply Aa.int;rfl;rfl;rfl)|(apply Aa.build;rfl;rfl;rfl;rfl;rfl)|(apply Aa.b6i;rfl;rfl)|(apply Aa.Ea;rfl;rfl;rfl;rfl;omega)|(apply Ad.Ac;rfl)|(apply Ad.cond_false;rfl)|(intro _;try (exfalso;omega)))
    all_goals try (exfalso;omega)
    refine Aj.normal ⟨by first|omega|decide,?_,?_⟩
    ·try (rw [e1])
     exact Dy
    ·rw [e1]
     exact Ey
   ·rw [if_neg hb] at e1
    have hb':(Ig o z x.notes k).any (fun m=>kL m (ntP o z (gi x.notes k)))=false:=by simpa using hb
    rw [hb'] at hany;have e2:(Ig o z x.notes (k+1)).length=(Ig o z x.notes k).length+1:=by rw [e1];simp
    repeat' (first|(apply Aa.read [10,6] hany;rfl;rfl;exact .of_eq rfl;exact C9.AA rfl;exact Dn rfl;(repeat (first|exact trivial|refine ⟨⟨_,rfl,.of_eq rfl⟩,?_⟩));decide;(intro _ hb;simp at hb<;>omega);rfl)|(apply Aa.makeFunc;rfl;rfl)|(apply Aa.Dk (a:=ntP o z (gi x.notes k));rfl;rfl;rfl;rfl;rfl;rfl;rfl;rfl;(intro _ h;cases h);rfl;rfl;rfl;decide;decide;(first|omega|(simp only [List.length_take,List.length_drop,List.length_append,List.length_singleton,List.length_cons,List.length_nil]<;>omega)))|(apply Aa.Ap;rfl;rfl;rfl;omega;rfl)|(apply Aa.OH;rfl;rfl;rfl;omega;omega;rfl)|refine Cb ?_|(apply Aa.int;rfl;rfl;rfl)|(apply Aa.build;rfl;rfl;rfl;rfl;rfl)|(apply Aa.buildSlice;rfl;rfl;rfl;decide;rfl;rfl;rfl)|(apply Aa.b6i;rfl;rfl)|(apply Aa.Ea;rfl;rfl;rfl;rfl;omega)|(apply Ad.Ac;rfl)|(apply Ad.cond_true;rfl)|(intro _;try (exfalso;omega)))
    all_goals try (exfalso;omega)
    refine Aj.normal ⟨by first|omega|decide,?_,?_⟩
    ·try (rw [e2,e1])
     exact Dy
    ·rw [e2,e1]
     exact Ey
  ·have hl2:=UF o z x.notes x.notes.length
   repeat' (first|refine go2 ?_|(apply Ad.Ac;rfl)|(intro _;try (exfalso;omega)))
   all_goals try (exfalso;omega)
   apply Ad.Je (x.sets.length) [(1,_),(2,_),(3,_),(4,_),(5,_),(119,_),(120,_)] [(0,_),(1,_),(2,_),(3,_),(4,_),(6,_)] (fun k r=>(121,.p (.int .i64 (k:Int)))::(14,.p (.int .i64 (OM x.bars.length x.sets k)))::r) (fun k r=>(7,.vec 182 (cells (Jk o x.bars.length x.sets k)) (Jk o x.bars.length x.sets k).length true)::(5,.box 32 [.vec 4 (BD (bM x.bars) (x.bars.length+1)).length 0 (BD (bM x.bars) (x.bars.length+1)).length,.vec 6 (Ig o z x.notes x.notes.length).length 0 (Ig o z x.notes x.notes.length).length,.vec 7 (Jk o x.bars.length x.sets k).length 0 (Jk o x.bars.length x.sets k).length])::r) 8
   ·first|omega|decide
   ·first|omega|decide
   ·exact SS
   ·exact Ws
   ·intro k hk
    have hl3:=Ve o x.bars.length x.sets k;have hy:=(hx.sets k hk).1;have hdk:=hdr k hk;have hb0:0≤((gi x.sets k).bar:Int) % (x.bars.length:Int):=bA _ (by omega);have hb1:((gi x.sets k).bar:Int) % (x.bars.length:Int)<(x.bars.length:Int):=bx _ (by omega);have e1:Jk o x.bars.length x.sets (k+1)=if ((gi x.sets k).bar:Int) % (x.bars.length:Int)>OM x.bars.length x.sets k then Jk o x.bars.length x.sets k++[⟨((gi x.sets k).bar:Int) % (x.bars.length:Int),Qg o (gi x.sets k).b⟩] else Jk o x.bars.length x.sets k:=rfl
    have e3:OM x.bars.length x.sets (k+1)=if ((gi x.sets k).bar:Int) % (x.bars.length:Int)>OM x.bars.length x.sets k then ((gi x.sets k).bar:Int) % (x.bars.length:Int) else OM x.bars.length x.sets k:=rfl
    by_cases hc:((gi x.sets k).bar:Int) % (x.bars.length:Int)>OM x.bars.length x.sets k
    ·rw [if_pos hc] at e1 e3
     have e2:(Jk o x.bars.length x.sets (k+1)).length=(Jk o x.bars.length x.sets k).length+1:=by rw [e1];simp
     repeat' (first|(apply Aa.fn;rfl;rfl;exact hdk;intro _;rfl)|(apply Aa.Dk (a:=(⟨((gi x.sets k).bar:Int) % (x.bars.length:Int),Qg o (gi x.sets k).b⟩:Ny));rfl;rfl;rfl;rfl;rfl;rfl;rfl;rfl;(intro _ h;cases h);rfl;rfl;rfl;decide;decide;(first|omega|(simp only [List.length_take,List.length_drop,List.length_append,List.length_singleton,List.length_cons,List.length_nil]<;>omega)))|(apply Aa.Ap;rfl;rfl;rfl;omega;rfl)|refine Cb ?_|(apply Aa.int;rfl;rfl;rfl)|(apply Aa.build;rfl;rfl;rfl;rfl;rfl)|(apply Aa.buildSlice;rfl;rfl;rfl;decide;rfl;rfl;rfl)|(apply Aa.Ea;rfl;rfl;rfl;rfl;omega)|(apply Ad.Ac;rfl)|(apply Ad.Aq;rfl)|(intro _;try (exfalso;omega)))
     all_goals try (exfalso;omega)
     refine Aj.normal ⟨by first|omega|decide,?_,?_⟩
     ·try (first|rw [e2,e1]|rw [e3])
      exact Dy
     ·first|rw [e2,e1]|rw [e3]
      exact Ey
    ·rw [if_neg hc] at e1 e3
     repeat' (first|(apply Aa.Ap;rfl;rfl;rfl;omega;rfl)|refine go2 ?_|(apply Aa.Ea;rfl;rfl;rfl;rfl;omega)|(apply Ad.Ac;rfl)|(apply Ad.Aq;rfl)|(intro _;try (exfalso;omega)))
     all_goals try (exfalso;omega)
     refine Aj.normal ⟨by first|omega|decide,?_,?_⟩
     ·try (first|rw [e1]|rw [e3])
      exact Dy
     ·first|rw [e1]|rw [e3]
      exact Ey
   ·have hl3:=Ve o x.bars.length x.sets x.sets.length
    have hsl':(BD (bM x.bars) (x.bars.length+1)).length=x.bars.length+1:=hsl
    repeat' (first|(refine Ad.at 27 ?_;refine Ad.ghost (Ar.trans (Ar.BI 5 0 rfl rfl rfl) (Ar.trans (Ar.BI 5 1 rfl rfl rfl) (Ar.BI 5 2 rfl rfl rfl))) ?_;first|apply Ad.Bf|apply Ad.Bl)|(refine Af.atIdx 2 ?_;apply Af.weak [.tmp 5];decide +kernel;rfl;rfl;(first|exact UL.ref rfl|exact UL.vec rfl|exact UL.EH rfl);decide +kernel;rfl)|apply Ad.Bf|apply Ad.Gw|apply Bq.normal|apply Bd.exit|apply Aj.exit|apply Ad.ret|apply Ah.nil|apply Af.nil|apply Ah.one|(apply Af.bar;decide +kernel)|apply Af.quiet|(apply Aa.int;rfl;rfl;rfl)|(apply Aa.load;rfl;rfl)|(apply Aa.Dz;rfl;rfl;rfl;trivial;rfl;rfl;exact AY rfl;exact le_dec rfl)|(apply Ad.Ac;rfl)|(intro _;try (exfalso;omega)))
    all_goals first|(exfalso;omega)|(refine Done.rt rfl rfl ⟨?_,rfl,rfl⟩;try rfl)
end Go.Proofs.YtnjkoebfgcbbdaaGreatDoor
namespace Go.Proofs.YtnjkoebfgcbbdaaGreatDoor
open Go Go.Am Go.Vm
theorem Y7 (x n:Nat):(x &&& (2 ^ n-1)) / 2 ^ n=0 :=by simp
theorem zW (o:Ho) (ho:jJ o) (b:Nat→Nat) (hb:∀ i,b i<256):(Qg o b).Ok:=by
 have r2:=ho.Ag;have l:=CP (Hz o b) o.Ag.length;refine ⟨fun i hi=>?_,?_,?_,?_⟩
 ·have hi:i<(BD (Hz o b) o.Ag.length).length:=hi
  rw [l] at hi;show gi (BD (Hz o b) o.Ag.length) i<_;rw [EC _ hi];have:=hb (i % 3);have:Hz o b i≤b (i % 3):=fc;omega
 ·have:=hb 3
  have:b 3 &&& (2 ^ o.Io.length-1)≤b 3:=fc;show b 3 &&& (2 ^ o.Io.length-1)<_;omega
 ·have:=hb 4
  have:b 4 &&& (2 ^ o.Ag.length-1)≤b 4:=fc;show b 4 &&& (2 ^ o.Ag.length-1)<_;omega
 ·show (BD (Hz o b) o.Ag.length).length<_
  omega
theorem wG (o:Ho) (b:Nat→Nat):VZ o (Qg o b)=0:=by
 have l:=CP (Hz o b) o.Ag.length;rw [fH (show (BD (Hz o b) o.Ag.length).length=_ from l) fun i hi=>?_]
 ·rw [if_neg]
  intro h;rcases h with h|h
  ·exact h (Y7 _ _)
  ·exact h (Y7 _ _)
 ·have hi:i<(BD (Hz o b) o.Ag.length).length:=hi
  rw [l] at hi;show gi (BD (Hz o b) o.Ag.length) i / _=0;rw [EC _ hi];exact Y7 _ _
open Go.Pie
attribute [local irreducible] BR A8 DJ Dx DX AV Cc
structure NtR (o:Ho) (z:Int) (n:GI):Prop where
 d:0≤n.d∧n.d<o.Ag.length
 k:(gi o.Ag n.d.toNat).lo≤n.k∧n.k≤(gi o.Ag n.d.toNat).hi
 r:0≤n.s∧n.s<n.e∧n.e≤z
theorem c1w {o:Ho} (ho:jJ o) {z:Int} (hz:0<z) (y:Sd8):NtR o z (ntP o z y):=by
 have hd:=ho.Ag;have e1:=bA (y.dv:Int) (show (o.Ag.length:Int)≠0 by omega);have e2:=bx (y.dv:Int) (show 0<(o.Ag.length:Int) by omega);have e3:=bA (y.st:Int) (show z≠0 by omega);have e4:=bx (y.st:Int) hz;have hv:=ho.dv ((y.dv:Int) % (o.Ag.length:Int)).toNat (by omega);refine ⟨⟨e1,e2⟩,?_,?_⟩
 ·show (gi o.Ag ((y.dv:Int) % (o.Ag.length:Int)).toNat).lo≤(gi o.Ag ((y.dv:Int) % (o.Ag.length:Int)).toNat).lo+(y.ky:Int) % ((gi o.Ag ((y.dv:Int) % (o.Ag.length:Int)).toNat).hi-(gi o.Ag ((y.dv:Int) % (o.Ag.length:Int)).toNat).lo+1)∧(gi o.Ag ((y.dv:Int) % (o.Ag.length:Int)).toNat).lo+(y.ky:Int) % ((gi o.Ag ((y.dv:Int) % (o.Ag.length:Int)).toNat).hi-(gi o.Ag ((y.dv:Int) % (o.Ag.length:Int)).toNat).lo+1)≤(gi o.Ag ((y.dv:Int) % (o.Ag.length:Int)).toNat).hi
  generalize gi o.Ag ((y.dv:Int) % (o.Ag.length:Int)).toNat=D at *;have e5:=bA (y.ky:Int) (show D.hi-D.lo+1≠0 by omega);have e6:=bx (y.ky:Int) (show 0<D.hi-D.lo+1 by omega);omega
 ·show 0≤(y.st:Int) % z∧(y.st:Int) % z<min z ((y.st:Int) % z+1+(y.lg:Int) % 8)∧min z ((y.st:Int) % z+1+(y.lg:Int) % 8)≤z
  omega
theorem a5n {o:Ho} (ho:jJ o) {z:Int} (hz:0<z) (l:List Sd8):∀ k,∀ i,i<(Ig o z l k).length→NtR o z (gi (Ig o z l k) i)∧∀ j,j<i→kL (gi (Ig o z l k) j) (gi (Ig o z l k) i)=false
 |0,i,hi=>by contradiction
 |k+1,i,hi=>by
  have ih:=a5n ho hz l k;unfold Ig at hi ⊢;split at hi
  ·grind
  ·rename_i h1
   rw [if_neg h1];rw [az] at hi;have hi':i<(Ig o z l k).length+1:=hi;by_cases e:i<(Ig o z l k).length
   ·obtain ⟨q1,q2⟩:=ih i e
    rw [Ik,if_pos e];refine ⟨q1,fun j hj=>?_⟩;rw [Ik,if_pos (by omega)];grind
   ·obtain rfl:i=(Ig o z l k).length:=by omega
    rw [Ik,if_neg (by omega),if_pos rfl];refine ⟨c1w ho hz _,fun j hj=>?_⟩;rw [Ik,if_pos hj];have h2:=(ZY (l:=Ig o z l k) (f:=fun m=>kL m (ntP o z (gi l k))) (i:=(Ig o z l k).length) (ab _)).1 (by grind);grind
theorem qQ {nb:Nat} (h:0<nb) (l:List Mrk):∀ k,-1≤OM nb l k∧OM nb l k<nb
 |0=>by simp only [OM];omega
 |k+1=>by
  have:=qQ h l k;have e2:=bx ((gi l k).bar:Int) (show 0<(nb:Int) by omega);unfold OM;split<;>omega
theorem a4e (o:Ho) {nb:Nat} (h:0<nb) (l:List Mrk):∀ k,k≤l.length→∀ i,i<(Jk o nb l k).length→(0≤(gi (Jk o nb l k) i).bar∧(gi (Jk o nb l k) i).bar≤OM nb l k) ∧
 (0<i→(gi (Jk o nb l k) (i-1)).bar<(gi (Jk o nb l k) i).bar)∧∃ m,m<l.length∧(gi (Jk o nb l k) i).reg=Qg o (gi l m).b
 |0,_,i,hi=>by contradiction
 |k+1,hk,i,hi=>by
  have ih:=a4e o h l k (by omega);have e1:=bA ((gi l k).bar:Int) (show (nb:Int)≠0 by omega);have q1:Jk o nb l (k+1)=if ((gi l k).bar:Int) % (nb:Int)>OM nb l k then Jk o nb l k++[⟨((gi l k).bar:Int) % (nb:Int),Qg o (gi l k).b⟩] else Jk o nb l k:=rfl
  have q2:OM nb l (k+1)=if ((gi l k).bar:Int) % (nb:Int)>OM nb l k then ((gi l k).bar:Int) % (nb:Int) else OM nb l k:=rfl
  rw [q1] at hi;rw [q1,q2];by_cases h1:((gi l k).bar:Int) % (nb:Int)>OM nb l k
  ·rw [if_pos h1] at hi
   rw [if_pos h1,if_pos h1];rw [az] at hi;have hi':i<(Jk o nb l k).length+1:=hi;by_cases e:i<(Jk o nb l k).length
   ·obtain ⟨q1,q2,q3⟩:=ih i e
    rw [Ik,if_pos e];refine ⟨by omega,fun h0=>?_,q3⟩;rw [Ik,if_pos (by omega)];exact q2 h0
   ·obtain rfl:i=(Jk o nb l k).length:=by omega
    rw [Ik,if_neg (by omega),if_pos rfl];refine ⟨⟨e1,bj _⟩,fun h0=>?_,k,by omega,rfl⟩;rw [Ik,if_pos (by omega)];have:=(ih ((Jk o nb l k).length-1) (by omega)).1;show _<((gi l k).bar:Int) % (nb:Int);omega
  ·rw [if_neg h1] at hi
   rw [if_neg h1,if_neg h1];exact ih i hi
theorem U5 (x:mJ) {i:Nat} (h:i≤x.bars.length):gi (mkP x).bars i=bM x.bars i:=EC _ (by omega)
theorem qV (x:mJ):(mkP x).bars.length=x.bars.length+1:=CP _ _
theorem b3l (x:mJ):OX (mkP x)=0:=U5 x (aq _)
theorem b3k (x:mJ):PD (mkP x)=bM x.bars x.bars.length:=by
 unfold PD;rw [qV];exact U5 x (by omega)
theorem b1p (l:List UInt8) (i:Nat):bM l i<bM l (i+1):=by
 show _<bM l i+1+((gi l i).toNat:Int) % 6;omega
theorem b8o (x:mJ) (hx:x.Ok) (hf:Xh x):jA (lq x.org) (mkP x):=by
 have ho:=a5x x.org hx.org hf.1;obtain ⟨_,⟨f1,f2⟩,f3,f4⟩:=hf;have hz:0<bM x.bars x.bars.length:=by have:=(lu x.bars x.bars.length).1;omega
 have hN:=a5n ho hz x.notes x.notes.length;have lN:=UF (lq x.org) (bM x.bars x.bars.length) x.notes x.notes.length;have hS:=a4e (lq x.org) f1 x.sets x.sets.length (ab _);have lS:=Ve (lq x.org) x.bars.length x.sets x.sets.length;have hl:=qQ f1 x.sets x.sets.length;have eN:(mkP x).notes=Ig (lq x.org) (bM x.bars x.bars.length) x.notes x.notes.length:=rfl;have eS:(mkP x).sets=Jk (lq x.org) x.bars.length x.sets x.sets.length:=rfl;have eL:=qV x;refine yO ⟨by omega,by grind,by grind,fun i hi=>?_⟩ (by omega) (fun i hi=>?_) (by grind) (fun i hi=>?_) (by grind) fun i hi=>?_
 ·rw [eS] at hi ⊢
  obtain ⟨_,_,m,hm,e⟩:=hS i hi;rw [e];exact zW _ ho _ (hx.sets m hm).2
 ·rw [U5 x (by omega)]
  have:=lu x.bars i;refine ⟨by omega,fun h0=>?_⟩;rw [U5 x (by omega)];have:=b1p x.bars (i-1)
  rwa [show i-1+1=i by omega] at this
 ·obtain ⟨⟨q1,q2,q3⟩,q4⟩:=hN i (by rw [← eN];exact hi)
  exact ⟨q1,q2,by rw [b3l,b3k];exact q3,q4⟩
 ·rw [eS] at hi ⊢
  obtain ⟨q1,q2,m,_,e⟩:=hS i hi;refine ⟨by omega,q2,?_⟩;rw [e];exact wG _ _
attribute [local irreducible] Aa Ah Af Ad Az Ai Ba Bq Bd Aj Vm.Done Bg AB
structure Qu where
 o:Ho
 p:Ef
 y:Zc
instance:Enc Qu:={ default:=⟨default,default,default⟩,enc:=fun x=>Enc.enc x.o++(Enc.enc x.p++Enc.enc x.y),size:=11,len:=fun x=>by rw [az,az,Enc.len,Enc.len,Enc.len];rfl }
structure Na (q:Qu):Prop where
 o:tC q.o
 e:VB q.o q.p=0
 p:jA q.o q.p
 y:q.y.Ok
def IK (q:Qu) (i:Nat):Bool:=(gi q.o.Ag (gi q.p.notes i).d.toNat).Xb
def tJ (q:Qu) (N:List Int):Prop:=∀ i,i<N.length→0≤gi N i∧gi N i<q.p.notes.length
theorem Td (q:Qu) (hq:Na q) (i:Nat) (hi:i<q.p.notes.length):EZ env 85 ([.p (.agg (Enc.enc q)),.p (.int .i64 (i:Int))]++[]) [] 0 (.bool (IK q i)):=by
 have hN:=hq.p.note i hi;obtain ⟨j,hj⟩:∃ j:Nat,(gi q.p.notes i).d=(j:Int):=⟨(gi q.p.notes i).d.toNat,by have:=hN.d;omega⟩
 have hjn:j<q.o.Ag.length:=by have:=hN.d;omega
 have hb:IK q i=(gi q.o.Ag j).Xb:=by unfold IK;grind
 rw [hb];refine EZ.enter (Ae (by decide)) Tryz.func85 rfl (by kernel_rfl) (by simp) ?_
 repeat' (first|(apply Aa.Ap (l:=q.p.notes) (i:=i);rfl;rfl;rfl;omega;rfl)|(apply Aa.Ap (l:=q.o.Ag) (i:=j);rfl;exact congrArg (fun b=>some (PV.p (.int .i64 b))) hj;rfl;omega;rfl)|refine Cb ?_|fail)
 all_goals first|(exfalso;omega)|(refine Done.ret rfl (.refl _) trivial ?_ (by omega) (ab _) ⟨?_,rfl,rfl⟩;exact Ey;try rfl)
def hasB (l:List Int) (h:Int) (i:Nat):Bool:=decide (gi l i=h)
def lhB (l:List Int) (h:Int):Heap:=[(0,.box 28 [.p (.lst 3 (cells l) l.length)]),(1,.box 3 [.p (.int .i64 h)])]
theorem xM (l:List Int) (h:Int) (i:Nat) (hi:i<l.length):EZ env 124 ([.p (.int .i64 (i:Int))]++[.ref 0 0,.ref 1 0]) (lhB l h) 2 (.bool (hasB l h i)):=by
 unfold lhB hasB;refine EZ.enter (Ae (by decide)) Tryz.func124 rfl (by kernel_rfl) (by simp [Tryz.ntmps124]) ?_
 repeat' (first|(apply Aa.Ap;rfl;rfl;rfl;omega;rfl)|refine go2 ?_|fail)
 all_goals first|(exfalso;omega)|(refine Done.ret rfl (.refl _) trivial ?_ (by omega) (ab _) ⟨?_,rfl,rfl⟩;exact Ey;try rfl)
def uS (p:Ef) (N:List Int) (is:Nat→Bool) (d:Nat):Nat→List Int
 |0=>[]
 |k+1=>if is (gi N k).toNat=true∧(gi p.notes (gi N k).toNat).d=(d:Int) then uS p N is d k++[(gi p.notes (gi N k).toNat).k] else uS p N is d k
theorem Ui (p:Ef) (N:List Int) (is:Nat→Bool) (d k:Nat):uS p N is d (k+1)=if is (gi N k).toNat=true∧(gi p.notes (gi N k).toNat).d=(d:Int) then uS p N is d k++[(gi p.notes (gi N k).toNat).k] else uS p N is d k:=rfl
def bQ (p:Ef) (N:List Int) (is:Nat→Bool) (k d:Nat):KA:=oP (uS p N is d k) (uS p N is d k).length
theorem ofK_left' (l:List Int) (x:Int):∀ k,k≤l.length→oP (l++[x]) k=oP l k
 |0,_=>rfl
 |k+1,h=>by
  show Hg (oP (l++[x]) k) (gi (l++[x]) k).toNat=Hg (oP l k) (gi l k).toNat;rw [ofK_left' l x k (by omega),NZ (by omega)]
theorem ofK_snoc' (l:List Int) (x:Int):oP (l++[x]) (l++[x]).length=Hg (oP l l.length) x.toNat:=by
 rw [az];show Hg (oP (l++[x]) l.length) (gi (l++[x]) l.length).toNat=_;rw [ofK_left' l x _ (ab _),Qm]
theorem qL (p:Ef) (N:List Int) (is:Nat→Bool) (k d:Nat):bQ p N is (k+1) d=if is (gi N k).toNat=true∧(gi p.notes (gi N k).toNat).d=(d:Int) then Hg (bQ p N is k d) (gi p.notes (gi N k).toNat).k.toNat else bQ p N is k d:=by
 unfold bQ;rw [Ui];split
 ·exact ofK_snoc' _ _
 ·rfl
theorem aF (p:Ef) (N:List Int) (is:Nat→Bool):∀ n,List.replicate n (⟨0,0⟩:KA)=BD (bQ p N is 0) n
 |0=>rfl
 |n+1=>by
  rw [gF,aF p N is n];rfl
theorem yX {p:Ef} {N:List Int} {is:Nat→Bool} {k n j:Nat} (hj:j<n) (hi:is (gi N k).toNat=true) (h:(gi p.notes (gi N k).toNat).d=(j:Int)):(BD (bQ p N is k) n).set j (Hg (gi (BD (bQ p N is k) n) j) (gi p.notes (gi N k).toNat).k.toNat)=BD (bQ p N is (k+1)) n:=by
 refine KO (by rw [bo,CP,CP]) fun i hi'=>?_
 rw [bo,CP] at hi';rw [Gt,EC _ hi',EC _ hi',EC _ hj,CP,qL];grind
theorem qN {p:Ef} {N:List Int} {is:Nat→Bool} {k n:Nat} (hi:is (gi N k).toNat=false):BD (bQ p N is (k+1)) n=BD (bQ p N is k) n:=P6 fun d _=>by
 rw [qL,if_neg (fun h=>by grind)]
theorem Yq {q:Qu} (hq:Na q) {N:List Int} (hN:tJ q N) {is:Nat→Bool} {d:Nat}:∀ k,k≤N.length→∀ i,i<(uS q.p N is d k).length→0≤gi (uS q.p N is d k) i∧gi (uS q.p N is d k) i≤127
 |0,_,i,hi=>absurd hi (bL _)
 |k+1,hk,i,hi=>by
  have ih:=Yq hq hN (is:=is) (d:=d) k (by omega);rw [Ui] at hi ⊢;split
  ·rename_i c
   rw [if_pos c,az] at hi;have hi:i<(uS q.p N is d k).length+1:=hi;by_cases e:i<(uS q.p N is d k).length
   ·rw [NZ e];grind
   ·obtain rfl:i=(uS q.p N is d k).length:=by omega
    rw [Qm];have hn:=hN k (by omega);have hh:=hq.p.note (gi N k).toNat (by omega);have h1:=hq.o.cmp (i:=(gi q.p.notes (gi N k).toNat).d.toNat) (by have:=hh.d;omega);have:=hh.k;omega
  grind
theorem o8 (a:KA) (n:Nat):tY a (Hg ⟨0,0⟩ n)=Hg a n:=by
 unfold tY Hg;split<;>simp
def jv (q:Qu) (N:List Int) (is:Nat→Bool):List KA:=BD (bQ q.p N is N.length) q.o.Ag.length
theorem wX (q:Qu) (hq:Na q) (N:List Int) (hN:tJ q N) (hNl:N.length≤1000):EZ env 62 [.p (.agg (Enc.enc q)),.p (.lst 3 (cells N) N.length),.clo 85 [.p (.agg (Enc.enc q))] []] [] 0 (.lst 84 (cells (jv q N (IK q))) (jv q N (IK q)).length):=by
 have his:=fun m hm=>Td q hq m hm
 generalize hIs:IK q=is at *;have n1:=hq.p.notes;have d1:=hq.o.Ag;have hV0:=aF q.p N is q.o.Ag.length;have hKl:(jv q N is).length=q.o.Ag.length:=CP _ _;rw [hKl];unfold jv;refine EZ.enter (Ae (by decide)) Tryz.func62 rfl (by kernel_rfl) (by simp [Tryz.ntmps62]) ?_
 repeat' (first|(apply Aa.Jt q.o.Ag.length (⟨0,0⟩:KA);rfl;rfl;rfl;rfl;rfl;rfl;rfl;omega;decide;decide;rfl)|refine Cb ?_|fail)
 all_goals try (exfalso;omega)
 rw [hV0];apply Ad.Je (N.length) [(2,_),(3,_),(7,_),(18,_),(19,_)] [(0,_)] (fun k r=>(20,.p (.int .i64 (k:Int)))::r) (fun k r=>(1,.vec 84 (cells (BD (bQ q.p N is k) q.o.Ag.length)) q.o.Ag.length false)::r) 2
 ·first|omega|decide
 ·first|omega|decide
 ·exact SS
 ·exact Ws
 ·intro k hk
  obtain ⟨g1,g2⟩:=hN k hk;obtain ⟨m,hm⟩:∃ m:Nat,gi N k=(m:Int):=⟨(gi N k).toNat,by omega⟩
  have hm2:m<q.p.notes.length:=by omega
  have hc:=his m hm2;rw [← hm] at hc;cases hi:is m with
  |false =>
   have e1:=qN (p:=q.p) (N:=N) (is:=is) (k:=k) (n:=q.o.Ag.length) (by rw [hm,bb];exact hi);rw [hi] at hc
   repeat' (first|(apply Aa.read [] hc;rfl;rfl;exact .of_eq rfl;exact C9.AA rfl;exact Dn rfl;(repeat (first|exact trivial|refine ⟨⟨_,rfl,.of_eq rfl⟩,?_⟩));decide;(intro _ hb;simp at hb<;>omega);rfl)|(apply Aa.Ap;rfl;rfl;rfl;omega;rfl)|refine Cb ?_|(apply Aa.int;rfl;rfl;rfl)|(apply Ad.Ac;rfl)|(apply Ad.cond_false;rfl)|(intro _;try (exfalso;omega)))
   all_goals try (exfalso;omega)
   all_goals try contradiction
   refine Aj.normal ⟨by first|omega|decide,?_,?_⟩
   ·try (rw [e1])
    exact Dy
   ·rw [e1]
    exact Ey
  |true =>
   have hNt:=hq.p.note m hm2;obtain ⟨j,hj⟩:∃ j:Nat,(gi q.p.notes m).d=(j:Int):=⟨(gi q.p.notes m).d.toNat,by have:=hNt.d;omega⟩
   have hjn:j<q.o.Ag.length:=by have:=hNt.d;omega
   have hcm:=hq.o.cmp (i:=j) hjn;have hk2:=hNt.k;rw [hj,bb] at hk2;obtain ⟨z,hz⟩:∃ z:Nat,(gi q.p.notes m).k=(z:Int):=⟨(gi q.p.notes m).k.toNat,by omega⟩
   have hz2:z<128:=by omega
   have e1:=yX (p:=q.p) (N:=N) (is:=is) (k:=k) hjn (by rw [hm,bb];exact hi) (by rw [hm,bb];exact hj);rw [hm,bb,hz,bb,← o8] at e1;have hsl:(BD (bQ q.p N is k) q.o.Ag.length).length=q.o.Ag.length:=CP _ _;have hok:(gi (BD (bQ q.p N is k) q.o.Ag.length) j).Ok:=by
    rw [EC _ hjn];exact Zo (Yq hq hN k (by omega)) _ (ab _)
   have hof:=oJ [(gi q.p.notes m).k] (by simp) (fun i hi=>by
    have:i=0:=by simpa using hi
    subst this;show 0≤(gi q.p.notes m).k∧(gi q.p.notes m).k≤127;omega)
   have hoe:oP [(gi q.p.notes m).k] [(gi q.p.notes m).k].length=Hg ⟨0,0⟩ z:=by
    show Hg ⟨0,0⟩ ((gi q.p.notes m).k).toNat=_;rw [hz,bb]
   rw [hoe] at hof;have hun:=PU (gi (BD (bQ q.p N is k) q.o.Ag.length) j) (Hg ⟨0,0⟩ z) hok (aG Vg hz2);rw [hi] at hc;generalize BD (bQ q.p N is k) q.o.Ag.length=V at *;generalize hW:(Hg ⟨0,0⟩ z:KA)=W at *
   repeat' (first|(refine Ah.Gz 37 ?_;refine Ah.ghost (Ar.freeze 36 rfl rfl) ?_)|apply Ad.Bf|apply Ad.region|apply Ad.Dq|apply Ad.CO|apply Ad.CW|apply Bq.normal|apply Bd.normal|apply Ah.nil|apply Af.nil|apply Ah.one|(apply Af.bar;decide +kernel)|apply Af.quiet|(apply Aa.read [] hc;rfl;rfl;exact .of_eq rfl;exact C9.AA rfl;exact Dn rfl;(repeat (first|exact trivial|refine ⟨⟨_,rfl,.of_eq rfl⟩,?_⟩));decide;(intro _ hb;simp at hb<;>omega);rfl)|(apply Aa.fn;rfl;rfl;exact hof;intro _;rfl)|(apply Aa.fn;rfl;rfl;exact hun;intro _;rfl)|(apply Aa.Ap (l:=q.p.notes) (i:=m);rfl;exact congrArg (fun b=>some (PV.p (.int .i64 b))) hm;rfl;omega;rfl)|(apply Aa.Di (l:=V) (i:=j);rfl;rfl;exact congrArg (fun b=>some (PV.p (.int .i64 b))) hj;rfl;omega)|(apply Aa.Oo (l:=V) (i:=j);rfl;rfl;omega;rfl)|(apply Aa.JQ (l:=V) (i:=j) (y:=tY (gi V j) W);rfl;rfl;rfl;trivial;rfl;rfl;rfl;decide;omega)|(apply Aa.assign;rfl)|(apply Aa.move;rfl)|(apply Aa.Jl;rfl;rfl;omega)|(apply Aa.int;rfl;rfl;rfl)|(apply Aa.Ap;rfl;rfl;rfl;omega;rfl)|(apply Aa.load;rfl;rfl)|(apply Aa.D8;rfl;rfl;rfl)|(apply Aa.alloc;rfl)|(apply Aa.Dz;rfl;rfl;rfl;trivial;rfl;rfl;exact AY rfl;exact le_dec rfl)|(apply Aa.buildSlice;rfl;rfl;rfl;decide;rfl;rfl;rfl)|(apply Aa.extract;rfl;rfl)|(apply Ad.Ac;rfl)|(apply Ad.cond_true;rfl)|(intro _;try (exfalso;omega)))
   all_goals try (exfalso;omega)
   all_goals try contradiction
   refine Aj.normal ⟨by first|omega|decide,?_,?_⟩
   ·try (rw [← e1])
    exact Dy
   ·rw [← e1]
    exact Ey
 ·repeat' (first|(refine Ad.at 10 ?_;refine Ad.ghost (Ar.freeze 7 rfl rfl) ?_;first|apply Ad.Bf|apply Ad.Bl)|apply Ad.Bf|refine go0 ?_|(apply Ad.Ac;rfl)|(intro _;try (exfalso;omega)))
  all_goals first|(exfalso;omega)|(refine Done.ret rfl (.refl _) trivial ?_ (by omega) (ab _) ⟨?_,rfl,rfl⟩;exact Ey;try rfl)
theorem vX (q:Qu) (hq:Na q) (N:List Int) (hN:tJ q N) (hNl:N.length≤1000) (l:List Int) (h:Int) (hl:l.length=q.p.notes.length):EZ env 62 [.p (.agg (Enc.enc q)),.p (.lst 3 (cells N) N.length),.clo 124 [] [.ref 0 0,.ref 1 0]] (lhB l h) 2 (.lst 84 (cells (jv q N (hasB l h))) (jv q N (hasB l h)).length):=by
 have his:=fun m (hm:m<q.p.notes.length)=>xM l h m (by omega)
 generalize hIs:hasB l h=is at *;unfold lhB at *;have n1:=hq.p.notes;have d1:=hq.o.Ag;have hV0:=aF q.p N is q.o.Ag.length;have hKl:(jv q N is).length=q.o.Ag.length:=CP _ _;rw [hKl];unfold jv;refine EZ.enter (Ae (by decide)) Tryz.func62 rfl (by kernel_rfl) (by simp [Tryz.ntmps62]) ?_
 repeat' (first|(apply Aa.Jt q.o.Ag.length (⟨0,0⟩:KA);rfl;rfl;rfl;rfl;rfl;rfl;rfl;omega;decide;decide;rfl)|refine Cb ?_|fail)
 all_goals try (exfalso;omega)
 rw [hV0];apply Ad.Je (N.length) [(2,_),(3,_),(7,_),(18,_),(19,_)] [(0,_),(1,_),(2,_)] (fun k r=>(20,.p (.int .i64 (k:Int)))::r) (fun k r=>(3,.vec 84 (cells (BD (bQ q.p N is k) q.o.Ag.length)) q.o.Ag.length false)::r) 4
 ·first|omega|decide
 ·first|omega|decide
 ·exact SS
 ·exact Ws
 ·intro k hk
  obtain ⟨g1,g2⟩:=hN k hk;obtain ⟨m,hm⟩:∃ m:Nat,gi N k=(m:Int):=⟨(gi N k).toNat,by omega⟩
  have hm2:m<q.p.notes.length:=by omega
  have hc:=his m hm2;rw [← hm] at hc;cases hi:is m with
  |false =>
   have e1:=qN (p:=q.p) (N:=N) (is:=is) (k:=k) (n:=q.o.Ag.length) (by rw [hm,bb];exact hi);rw [hi] at hc
   repeat' (first|(apply Aa.read [0,1] hc;rfl;rfl;exact .of_eq rfl;exact C9.AA rfl;exact Dn rfl;(repeat (first|exact trivial|refine ⟨⟨_,rfl,.of_eq rfl⟩,?_⟩));decide;(intro _ hb;simp at hb<;>omega);rfl)|(apply Aa.Ap;rfl;rfl;rfl;omega;rfl)|refine Cb ?_|(apply Aa.int;rfl;rfl;rfl)|(apply Ad.Ac;rfl)|(apply Ad.cond_false;rfl)|(intro _;try (exfalso;omega)))
   all_goals try (exfalso;omega)
   all_goals try contradiction
   refine Aj.normal ⟨by first|omega|decide,?_,?_⟩
   ·try (rw [e1])
    exact Dy
   ·rw [e1]
    exact Ey
  |true =>
   have hNt:=hq.p.note m hm2;obtain ⟨j,hj⟩:∃ j:Nat,(gi q.p.notes m).d=(j:Int):=⟨(gi q.p.notes m).d.toNat,by have:=hNt.d;omega⟩
   have hjn:j<q.o.Ag.length:=by have:=hNt.d;omega
   have hcm:=hq.o.cmp (i:=j) hjn;have hk2:=hNt.k;rw [hj,bb] at hk2;obtain ⟨z,hz⟩:∃ z:Nat,(gi q.p.notes m).k=(z:Int):=⟨(gi q.p.notes m).k.toNat,by omega⟩
   have hz2:z<128:=by omega
   have e1:=yX (p:=q.p) (N:=N) (is:=is) (k:=k) hjn (by rw [hm,bb];exact hi) (by rw [hm,bb];exact hj);rw [hm,bb,hz,bb,← o8] at e1;have hsl:(BD (bQ q.p N is k) q.o.Ag.length).length=q.o.Ag.length:=CP _ _;have hok:(gi (BD (bQ q.p N is k) q.o.Ag.length) j).Ok:=by
    rw [EC _ hjn];exact Zo (Yq hq hN k (by omega)) _ (ab _)
   have hof:=oJ [(gi q.p.notes m).k] (by simp) (fun i hi=>by
    have:i=0:=by simpa using hi
    subst this;show 0≤(gi q.p.notes m).k∧(gi q.p.notes m).k≤127;omega)
   have hoe:oP [(gi q.p.notes m).k] [(gi q.p.notes m).k].length=Hg ⟨0,0⟩ z:=by
    show Hg ⟨0,0⟩ ((gi q.p.notes m).k).toNat=_;rw [hz,bb]
   rw [hoe] at hof;have hun:=PU (gi (BD (bQ q.p N is k) q.o.Ag.length) j) (Hg ⟨0,0⟩ z) hok (aG Vg hz2);rw [hi] at hc;generalize BD (bQ q.p N is k) q.o.Ag.length=V at *;generalize hW:(Hg ⟨0,0⟩ z:KA)=W at *
   repeat' (first|(refine Ah.Gz 37 ?_;refine Ah.ghost (Ar.freeze 36 rfl rfl) ?_)|apply Ad.Bf|apply Ad.region|apply Ad.Dq|apply Ad.CO|apply Ad.CW|apply Bq.normal|apply Bd.normal|apply Ah.nil|apply Af.nil|apply Ah.one|(apply Af.bar;decide +kernel)|apply Af.quiet|(apply Aa.read [0,1] hc;rfl;rfl;exact .of_eq rfl;exact C9.AA rfl;exact Dn rfl;(repeat (first|exact trivial|refine ⟨⟨_,rfl,.of_eq rfl⟩,?_⟩));decide;(intro _ hb;simp at hb<;>omega);rfl)|(apply Aa.fn;rfl;rfl;exact hof;intro _;rfl)|(apply Aa.fn;rfl;rfl;exact hun;intro _;rfl)|(apply Aa.Ap (l:=q.p.notes) (i:=m);rfl;exact congrArg (fun b=>some (PV.p (.int .i64 b))) hm;rfl;omega;rfl)|(apply Aa.Di (l:=V) (i:=j);rfl;rfl;exact congrArg (fun b=>some (PV.p (.int .i64 b))) hj;rfl;omega)|(apply Aa.Oo (l:=V) (i:=j);rfl;rfl;omega;rfl)|(apply Aa.JQ (l:=V) (i:=j) (y:=tY (gi V j) W);rfl;rfl;rfl;trivial;rfl;rfl;rfl;decide;omega)|(apply Aa.assign;rfl)|(apply Aa.move;rfl)|(apply Aa.Jl;rfl;rfl;omega)|(apply Aa.int;rfl;rfl;rfl)|(apply Aa.Ap;rfl;rfl;rfl;omega;rfl)|(apply Aa.load;rfl;rfl)|(apply Aa.D8;rfl;rfl;rfl)|(apply Aa.alloc;rfl)|(apply Aa.Dz;rfl;rfl;rfl;trivial;rfl;rfl;exact AY rfl;exact le_dec rfl)|(apply Aa.buildSlice;rfl;rfl;rfl;decide;rfl;rfl;rfl)|(apply Aa.extract;rfl;rfl)|(apply Ad.Ac;rfl)|(apply Ad.cond_true;rfl)|(intro _;try (exfalso;omega)))
   all_goals try (exfalso;omega)
   all_goals try contradiction
   refine Aj.normal ⟨by first|omega|decide,?_,?_⟩
   ·try (rw [← e1])
    exact Dy
   ·rw [← e1]
    exact Ey
 ·repeat' (first|(refine Ad.at 10 ?_;refine Ad.ghost (Ar.freeze 7 rfl rfl) ?_;first|apply Ad.Bf|apply Ad.Bl)|apply Ad.Bf|refine go0 ?_|(apply Ad.Ac;rfl)|(intro _;try (exfalso;omega)))
  all_goals first|(exfalso;omega)|(refine Done.ret rfl (.refl _) trivial ?_ (by omega) (ab _) ⟨?_,rfl,rfl⟩;exact Ey;try rfl)
attribute [local irreducible] RN
def oU (y:Zc):Int:=if 0≤y.hn∧y.hn≤10 then if 0≤y.fn∧y.fn≤10 then if 0≤y.hs∧y.hs≤127 then if 0≤y.fs∧y.fs≤127 then 0 else 3 else 3 else 3 else 3
theorem kH {y:Zc} (h:y.Ok):oU y=0:=by
 unfold oU;rw [if_pos h.hn,if_pos h.fn,if_pos h.hs,if_pos h.fs]
theorem Ji (y:Zc):Ai env 32 [.agg (Enc.enc y)] (.p (.int .i64 (oU y))):=by
 by_cases h1:0≤y.hn∧y.hn≤10;all_goals by_cases h2:0≤y.fn∧y.fn≤10
 all_goals by_cases h3:0≤y.hs∧y.hs≤127
 all_goals by_cases h4:0≤y.fs∧y.fs≤127
 all_goals unfold oU
 all_goals first|rw [if_pos h1]|rw [if_neg h1]
 all_goals try first|rw [if_pos h2]|rw [if_neg h2]
 all_goals try first|rw [if_pos h3]|rw [if_neg h3]
 all_goals try first|rw [if_pos h4]|rw [if_neg h4]
 all_goals
  refine Ai.enter (Ae (by decide)) Tryz.func32 rfl (by kernel_rfl) (by simp [Tryz.ntmps32]) ?_
 all_goals
  repeat' (first|(apply Aa.b6x;rfl;rfl;rfl;rfl;rfl;decide;rfl)|refine Cb ?_|(apply Ah.guard;rfl;rfl)|(apply Aa.b5l;rfl;rfl;rfl;rfl;rfl)|(apply Ad.b3w 2)|(apply RN.zero)|(apply RN.succ)|(apply Aj.again)|(apply Aa.int;rfl;rfl;rfl)|(apply Ad.AX;rfl)|(apply Ad.Ak;rfl)|(apply Ad.cond_true;rfl)|(apply Ad.Aq;rfl)|(intro _;try (exfalso;omega)))
 all_goals first|(exfalso;omega)|(refine Done.rt rfl rfl ⟨?_,rfl,rfl⟩;try rfl)
theorem a7r (y:Zc) (hy:y.Ok) (s:KA) (hs:s.Ok):Ai env 25 [.agg (Enc.enc y),.agg (Enc.enc s)] (.Eb [.p (.bool (decide (lI y (F8 s)))),.p (.int .i64 0)]):=by
 have hc:=Ji y;have e0:=kH hy;rw [e0] at hc;have hm:=XH hs.lo hs.hi;have hr:∀ x∈F8 s,0≤x∧x≤127:=fun x hx=>by
  obtain ⟨n,h1,rfl,_⟩:=nK.1 hx;omega
 have h1:=a6h y (F8 s) (Yv s) hr;have hm:Ba env 61 [.agg (Enc.enc s)] 3 (cells (F8 s)) (F8 s).length _:=hm;generalize F8 s=M at *;refine Ai.enter (Ae (by decide)) Tryz.func25 rfl (by kernel_rfl) (by simp [Tryz.ntmps25]) ?_
 repeat' (first|(refine Af.Gz 15 ?_;refine Af.ghost (Ar.freeze 14 rfl rfl) ?_)|apply Ad.assoc|apply Ad.Bf|apply Ad.Bl|apply Ad.CO|apply Ad.ret|apply Ah.nil|apply Af.nil|apply Ah.one|(apply Af.bar;decide +kernel)|apply Af.quiet|(apply Aa.fn;rfl;rfl;exact hc;intro _;rfl)|(apply Aa.fv;rfl;rfl;exact hm)|(apply Aa.fn;rfl;rfl;exact h1;intro _;rfl)|(apply Aa.assign;rfl)|(apply Aa.move;rfl)|(apply Aa.int;rfl;rfl;rfl)|(apply Aa.load;rfl;rfl)|(apply Aa.box;rfl;trivial)|(apply Ad.Ak;rfl))
 all_goals first|(exfalso;omega)|(refine Done.rt rfl rfl ⟨?_,rfl,rfl⟩;try rfl)
def bF (l:List KA):Nat→KA
 |0=>⟨0,0⟩
 |k+1=>tY (bF l k) (gi l k)
def lJ (l:List KA):Nat→Int
 |0=>0
 |k+1=>lJ l k+((F8 (gi l k)).length:Int)
def iP (y:Zc) (l:List KA):Prop:=lJ l l.length≤y.fn∧wid (F8 (bF l l.length))≤y.fs
instance (y:Zc) (l:List KA):Decidable (iP y l):=inferInstanceAs (Decidable (_∧_))
theorem kJ {l:List KA} (h:∀ i,i<l.length→(gi l i).Ok):∀ k,k≤l.length→(bF l k).Ok
 |0,_=>Vg
 |k+1,hk=>b0w (kJ h k (by omega)) (h k (by omega))
theorem aC (l:List KA):∀ k,0≤lJ l k∧lJ l k≤128*k
 |0=>⟨bj _,bj _⟩
 |k+1=>by
  have:=aC l k;have:=Yv (gi l k);show 0≤lJ l k+((F8 (gi l k)).length:Int)∧lJ l k+((F8 (gi l k)).length:Int)≤128*((k+1:Nat):Int);omega
theorem wS (y:Zc) (l:List KA) (hl:l.length≤1000) (h:∀ i,i<l.length→(gi l i).Ok):Ai env 68 [.agg (Enc.enc y),.lst 84 (cells l) l.length] (.p (.bool (decide (iP y l)))):=by
 have hU:=kJ h l.length (ab _);have hm:Ba env 61 [.agg (Enc.enc (bF l l.length))] 3 (cells (F8 (bF l l.length))) (F8 (bF l l.length)).length _:=XH hU.lo hU.hi;have hw:=Ze (F8 (bF l l.length)) (Yv _) fun x hx=>by
  obtain ⟨n,h1,rfl,_⟩:=nK.1 hx;omega
 have hn:=aC l l.length;refine Ai.enter (Ae (by decide)) Tryz.func68 rfl (by kernel_rfl) (by simp [Tryz.ntmps68]) ?_
 repeat' (first|refine Cb ?_|fail)
 apply Ad.Je (l.length) [(2,_),(5,_),(9,_),(10,_)] [(0,_)] (fun k r=>(11,.p (.int .i64 (k:Int)))::(6,.p (.int .i64 (lJ l k)))::r) (fun k r=>(1,.box 84 ((Enc.enc (bF l k)).map .p))::r) 2
 ·first|omega|decide
 ·first|omega|decide
 ·exact SS
 ·exact Ws
 ·intro k hk
  have hu:=PU (bF l k) (gi l k) (kJ h k (by omega)) (h k hk);have hc:=vV (gi l k) (h k hk);have hr:=aC l k;have hl:=Yv (gi l k)
  repeat' (first|(apply Aa.fn;rfl;rfl;exact hu;intro _;rfl)|(apply Aa.fn;rfl;rfl;exact hc;intro _;rfl)|(apply Aa.Ap;rfl;rfl;rfl;omega;rfl)|refine Cb ?_|(apply Aa.int;rfl;rfl;rfl)|(apply Ad.Ac;rfl)|(intro _;try (exfalso;omega)))
  all_goals try (exfalso;omega)
  refine Aj.normal ⟨by first|omega|decide,?_,?_⟩
  ·exact Dy
  ·exact Ey
 ·have e:decide (iP y l)=(decide (lJ l l.length≤y.fn)&&decide (wid (F8 (bF l l.length))≤y.fs)):=by
   unfold iP;exact Bool.decide_and _ _
  rw [e];generalize F8 (bF l l.length)=M at *;generalize lJ l l.length=C at *;generalize wid M=W at *;by_cases h1:C≤y.fn
  ·rw [decide_eq_true h1,cQ]
   repeat' (first|(refine Af.Gz 30 ?_;refine Af.ghost (Ar.freeze 29 rfl rfl) ?_)|apply Ad.Bf|apply Ad.Bl|apply Ad.Gw|apply Bq.normal|apply Bd.exit|apply Aj.exit|apply Ad.ret|apply Ah.nil|apply Af.nil|apply Ah.one|(apply Af.bar;decide +kernel)|apply Af.quiet|(apply Af.VR;rfl;rfl)|(apply Af.guard;rfl;rfl)|(apply Aa.fv;rfl;rfl;exact hm)|(apply Aa.fn;rfl;rfl;exact hw;intro _;rfl)|(apply Aa.assign;rfl)|(apply Aa.move;rfl)|(apply Aa.int;rfl;rfl;rfl)|(apply Aa.load;rfl;rfl)|(apply Aa.ND;rfl;rfl)|(apply Aa.D8;rfl;rfl;rfl)|(apply Ad.Ac;rfl)|(intro _;try (exfalso;omega)))
   all_goals first|(exfalso;omega)|(refine Done.rt rfl rfl ⟨?_,rfl,rfl⟩;try rfl)
  ·rw [decide_eq_false h1,er]
   repeat' (first|refine go2 ?_|(apply Af.guard;rfl;rfl)|(apply Ad.Ac;rfl)|(intro _;try (exfalso;omega)))
   all_goals first|(exfalso;omega)|(refine Done.rt rfl rfl ⟨?_,rfl,rfl⟩;try rfl)
theorem xA (y:Zc) (hy:y.Ok) (l:List KA) (hl:l.length≤1000) (h:∀ i,i<l.length→(gi l i).Ok):Ai env 161 [.agg (Enc.enc y),.lst 84 (cells l) l.length] (.Eb [.p (.bool (decide (iP y l))),.p (.int .i64 0)]):=by
 have hc:=Ji y;have e0:=kH hy;rw [e0] at hc;have hf:=wS y l hl h;refine Ai.enter (Ae (by decide)) Tryz.func161 rfl (by kernel_rfl) (by simp) ?_
 repeat' (first|(apply Aa.fn;rfl;rfl;exact hc;intro _;rfl)|(apply Aa.fn;rfl;rfl;exact hf;intro _;rfl)|refine Cb ?_|(apply Aa.int;rfl;rfl;rfl)|(apply Ad.Ak;rfl))
 all_goals first|(omega)|(refine Done.rt rfl rfl ⟨?_,rfl,rfl⟩;try rfl)
theorem a4k:env.O 147=some (Zk (AP Tryz.prog 8 Es) (Bv Tryz.prog 8 Es) Tryz.f147.ntmps QK):=by
 rfl
theorem a2g (s:KA) (hs:s.Ok) {e:TypeId}:b4o env 147 Tryz.f147 (Enc.enc s) e (F5 s.lo s.hi):=by
 intro Fo hFo m F c vs hc hr hF;cases hFo;cases hr with|cons a0 t =>
 cases t with|cons a1 t =>
 cases t;cases a0;cases a1;refine ⟨notKey s.lo s.hi,fun m' F' σ' H' nx' hsame XT=>⟨m',?_⟩⟩;refine a4o (kr:=(notKey s.lo s.hi,F5 s.lo s.hi)) (jR XT) ?_;have q1:=(hsame c hF).trans hc;have b1:=hs.lo;have b2:=hs.hi;unfold QK;simp only [q1];rw [if_pos ⟨⟨by omega,by omega⟩,by omega,by omega⟩];rfl
theorem b2w {L:Vm.Frame} {H:Vm.Heap} {nx:Nat} {Q:PV→Vm.Heap→Nat→Prop} {dst:Option Tmp} {ty:TypeId} {pos:String} {af:Array Edge} {gd:Option (Nat×Bool)} {fo:Operand} {args:Array Operand} {aT:Array TypeId} {fs cs xs:List PV} {c:Code}
 (hf:AU env.Γ L fo=some (.clo 108 fs cs)) (ha:evs env.Γ L args.toList=some xs) (hb:Tryz.f108.body=some c) (hn:(fs++xs++cs).length≤Tryz.f108.ntmps)
 (h:Ad env nx c (CG 0 (fs++xs++cs)) H nx (AB env.P Tryz.f108.results.toList Q)):Aa env true ⟨dst,.call { callee:=.value fo,args:=args,argTypes:=aT },ty,pos,af,gd⟩ L H nx Q:=by
 have h0:(match Tryz.f108.body with|some c=>IL env.G Tryz.f108 c|none=>false)=true:=by kernel_rfl
 rw [hb] at h0;exact Aa.inline rfl hf ha (Ae (by decide)) Tryz.func108 hb h0 hn h
theorem ug (s:KA) (hs:s.Ok):Ai env 125 [.agg (Enc.enc s)] (.Eb [.p (.int .i64 (gi (F8 s) 0)),.p (.bool (decide (F8 s≠[])))]):=by
 refine Ai.enter (Ae (by decide)) Tryz.func125 rfl (by kernel_rfl) (by simp [Tryz.ntmps125]) ?_
 repeat' (first|(apply b2w;rfl;rfl;rfl;exact le_dec rfl)|(apply Aa.makeFunc;rfl;rfl)|refine Cb ?_|(apply AB.ret;rfl))
 all_goals try (exfalso;omega)
 refine Ad.x9 (F8 s).length (fun k=>[.int .i64 (gi (F8 s) k)]) (fun k=>[Go.encZ (gi (F8 s) k)]) [(2,.ref 1 0),(3,.ref 2 0)]
  (fun k=>[(1,.box 3 [.p (.int .i64 0)]),(2,.box 4 [.p (.bool false)])]) 3 (fun k=>k=0)
  rfl rfl Tryz.func147 rfl a4k ?_ (fun _ _=>rfl) (fun _ _=>rfl) (fun k _ m F=>.cons (.int _ _) .nil) (by omega) ⟨by omega,?_,?_⟩ ?_ (a2g s hs) rfl ?_ ?_
 ·unfold F5 F8
  refine fX (by simp) fun i h1 h2=>?_
  simp only [List.getElem_map,List.getElem_range];unfold gi;rw [bc] at h1;rw [ai h1];rfl
 ·exact Dy
 ·exact Ey
 ·exact Dy
 ·rintro k hk rfl
  have h0:F8 s≠[]:=fun e=>by rw [e] at hk;simp at hk
  rw [decide_eq_true h0]
  repeat' (first|refine Cb ?_|fail)
  refine ⟨rfl,?_⟩
  repeat' (first|refine Cb ?_|apply Ad.J9)
  refine ⟨by omega,[(1,.box 3 [.p (.int .i64 (gi (F8 s) 0))]),(2,.box 4 [.p (.bool true)])],?_,?_⟩
  ·exact Ey
  ·repeat' (first|apply Bq.ret|apply Bd.ret)
   all_goals first|(exfalso;omega)|(refine Done.rt rfl rfl ⟨?_,rfl,rfl⟩;try rfl)
 ·intro h
  have h0:F8 s=[]:=ar.1 h;rw [h0]
  repeat' (first|refine Cb ?_|fail)
  all_goals first|(exfalso;omega)|(refine Done.rt rfl rfl ⟨?_,rfl,rfl⟩;try rfl)
structure V7 where
 d:Int
 k:Int
deriving DecidableEq
instance:Enc V7:={ default:=⟨0,0⟩,enc:=fun x=>[.int .i64 x.d,.int .i64 x.k],size:=2,len:=fun _=>rfl }
def hcK (y:Zc) (K:List KA):Nat→Bool×Int
 |0=>(true,0)
 |k+1=>if F8 (gi K k)=[] then hcK y K k else ((hcK y K k).1&&decide ((hcK y K k).2=0)&&decide (lI y (F8 (gi K k))),(hcK y K k).2+1)
theorem yU (y:Zc) (K:List KA):∀ k,0≤(hcK y K k).2∧(hcK y K k).2≤k
 |0=>⟨bj _,bj _⟩
 |k+1=>by
  have:=yU y K k;unfold hcK;grind
def Vh (p:Ef) (N l:List Int) (h:Int):Nat→Bool×V7
 |0=>(false,⟨0,0⟩)
 |k+1=>if gi l (gi N k).toNat=h∧((Vh p N l h k).1=false∨(gi p.notes (gi N k).toNat).k<(Vh p N l h k).2.k) then (true,⟨(gi p.notes (gi N k).toNat).d,(gi p.notes (gi N k).toNat).k⟩) else Vh p N l h k
def je (q:Qu) (N l:List Int) (h:Int):Bool:=(hcK q.y (jv q N (hasB l h)) (jv q N (hasB l h)).length).1
theorem zQ (q:Qu) (N:List Int) (is:Nat→Bool):(jv q N is).length=q.o.Ag.length:=CP _ _
theorem a7g {q:Qu} (hq:Na q) {N:List Int} (hN:tJ q N) (is:Nat→Bool) {d:Nat} (hd:d<q.o.Ag.length):(gi (jv q N is) d).Ok:=by
 unfold jv;rw [EC _ hd];exact Zo (Yq hq hN _ (ab _)) _ (ab _)
theorem QT (q:Qu) (hq:Na q) (s:kW) (hN:tJ q s.notes) (hNl:s.notes.length≤1000) (l:List Int) (h:Int) (hl:l.length=q.p.notes.length):Ai env 86 [.agg (Enc.enc q),.agg (Enc.enc s),.lst 3 (cells l) l.length,.int .i64 h]
 (.Eb [.p (.agg (Enc.enc (Vh q.p s.notes l h s.notes.length).2)),.p (.bool (Vh q.p s.notes l h s.notes.length).1),.p (.bool (je q s.notes l h))]):=by
 have n1:=hq.p.notes;have d1:=hq.o.Ag;have hk:=vX q hq s.notes hN hNl l h hl;have hKl:=zQ q s.notes (hasB l h);have hKo:=fun d hd=>a7g hq hN (hasB l h) (d:=d) hd
 rw [← hKl] at hKo;unfold je;generalize jv q s.notes (hasB l h)=K at *;refine Ai.enter (Ae (by decide)) Tryz.func86 rfl (by kernel_rfl) (by simp [Tryz.ntmps86]) ?_
 repeat' (first|(apply Aa.read [2,3] hk;rfl;rfl;exact .of_eq rfl;exact C9.AA rfl;exact Dn rfl;(repeat (first|exact trivial|refine ⟨⟨_,rfl,.of_eq rfl⟩,?_⟩));decide;(intro _ hb;simp at hb<;>omega);rfl)|(apply Aa.makeFunc;rfl;rfl)|refine Cb ?_|fail)
 all_goals try (exfalso;omega)
 apply Ad.Je (K.length) [(4,_),(5,_),(6,_),(7,_),(8,_),(9,_),(25,_),(26,_)] [(0,_),(1,_),(2,_),(3,_),(4,_)] (fun k r=>(27,.p (.int .i64 (k:Int)))::(10,.p (.bool (hcK q.y K k).1))::(11,.p (.int .i64 (hcK q.y K k).2))::r) (fun k r=>r) 5
 ·first|omega|decide
 ·first|omega|decide
 ·exact SS
 ·exact Ws
 ·intro k hk
  have hle:=ug (gi K k) (hKo k hk);have hon:=a7r q.y hq.y (gi K k) (hKo k hk);have hr:=yU q.y K k;have e1:hcK q.y K (k+1)=if F8 (gi K k)=[] then hcK q.y K k else ((hcK q.y K k).1&&decide ((hcK q.y K k).2=0)&&decide (lI q.y (F8 (gi K k))),(hcK q.y K k).2+1):=rfl
  rw [e1];clear e1;generalize hcK q.y K k=r at *;obtain ⟨c,n⟩:=r;by_cases h0:F8 (gi K k)=[]
  ·rw [if_pos h0]
   rw [decide_eq_false (fun e=>e h0)] at hle;generalize gi (F8 (gi K k)) 0=z at *
   repeat' (first|(apply Aa.fn;rfl;rfl;exact hle;intro _;rfl)|(apply Aa.Ap;rfl;rfl;rfl;omega;rfl)|refine Cb ?_|(apply Aa.int;rfl;rfl;rfl)|(apply Ad.AX;rfl)|(apply Ad.Ac;rfl)|(intro _;try (exfalso;omega)))
   all_goals try (exfalso;omega)
   refine Aj.normal ⟨by first|omega|decide,?_,?_⟩
   ·exact Dy
   ·exact Ey
  ·rw [if_neg h0]
   rw [decide_eq_true h0] at hle;generalize gi (F8 (gi K k)) 0=z at *;generalize decide (lI q.y (F8 (gi K k)))=w at *;cases c;all_goals by_cases hn:n=0
   all_goals cases w
   all_goals first|rw [decide_eq_true hn]|rw [decide_eq_false hn]
   all_goals
    repeat' (first|(apply Aa.fn;rfl;rfl;exact hle;intro _;rfl)|(apply Aa.fn;rfl;rfl;exact hon;intro _;rfl)|(apply Aa.Ap;rfl;rfl;rfl;omega;rfl)|refine Cb ?_|(apply Ah.guard;rfl;rfl)|(apply Aa.int;rfl;rfl;rfl)|(apply Ad.Ak;rfl)|(apply Ad.Ac;rfl)|(intro _;try (exfalso;omega)))
   all_goals try (exfalso;omega)
   all_goals try contradiction
   all_goals
    refine Aj.normal ⟨by first|omega|decide,?_,?_⟩
    ·exact Dy
    ·exact Ey
 ·repeat' (first|refine go2 ?_|(apply Ad.Ac;rfl)|(intro _;try (exfalso;omega)))
  all_goals try (exfalso;omega)
  apply Ad.Je (s.notes.length) [(4,_),(6,_),(7,_),(8,_),(10,_),(57,_),(58,_)] [(0,_),(1,_),(2,_),(3,_)] (fun k r=>(59,.p (.int .i64 (k:Int)))::(9,.p (.bool (Vh q.p s.notes l h k).1))::r) (fun k r=>(4,.box 120 ((Enc.enc (Vh q.p s.notes l h k).2).map .p))::r) 5
  ·first|omega|decide
  ·first|omega|decide
  ·exact SS
  ·exact Ws
  ·intro k hk
   obtain ⟨g1,g2⟩:=hN k hk;obtain ⟨m,hm⟩:∃ m:Nat,gi s.notes k=(m:Int):=⟨(gi s.notes k).toNat,by omega⟩
   have hm2:m<q.p.notes.length:=by omega
   have e1:Vh q.p s.notes l h (k+1)=if gi l (gi s.notes k).toNat=h∧((Vh q.p s.notes l h k).1=false∨(gi q.p.notes (gi s.notes k).toNat).k<(Vh q.p s.notes l h k).2.k) then (true,⟨(gi q.p.notes (gi s.notes k).toNat).d,(gi q.p.notes (gi s.notes k).toNat).k⟩) else Vh q.p s.notes l h k:=rfl
   rw [hm,bb] at e1;rw [e1];clear e1;generalize Vh q.p s.notes l h k=r at *;obtain ⟨c,a⟩:=r;by_cases h1:gi l m=h;all_goals cases c
   all_goals by_cases h2:(gi q.p.notes m).k<a.k
   all_goals first|rw [if_pos (And.intro h1 (Or.inl rfl))]|rw [if_pos (And.intro h1 (Or.inr h2))]|rw [if_neg (fun e=>h1 e.1)]|rw [if_neg (fun e=>e.2.elim (fun e=>nomatch e) h2)]
   all_goals
    repeat' (first|(apply Aa.Ap (l:=q.p.notes) (i:=m);rfl;exact congrArg (fun b=>some (PV.p (.int .i64 b))) hm;rfl;omega;rfl)|(apply Aa.Ap (l:=l) (i:=m);rfl;exact congrArg (fun b=>some (PV.p (.int .i64 b))) hm;rfl;omega;rfl)|(apply Aa.Ap;rfl;rfl;rfl;omega;rfl)|refine Cb ?_|(apply Af.guard;rfl;rfl)|(apply Af.Zu;rfl;rfl)|(apply Aa.int;rfl;rfl;rfl)|(apply Aa.build;rfl;rfl;rfl;rfl;rfl)|(apply Ad.Ac;rfl)|(apply Ad.cond_true;rfl)|(apply Ad.cond_false;rfl)|(apply Ad.Aq;rfl)|(intro _;try (exfalso;omega)))
   all_goals try (exfalso;omega)
   all_goals try contradiction
   all_goals
    refine Aj.normal ⟨by first|omega|decide,?_,?_⟩
    ·exact Dy
    ·exact Ey
  ·repeat' (first|refine go2 ?_|(apply Ad.Ac;rfl)|(intro _;try (exfalso;omega)))
   all_goals first|(exfalso;omega)|(refine Done.rt rfl rfl ⟨?_,rfl,rfl⟩;try rfl)
end Go.Proofs.YtnjkoebfgcbbdaaGreatDoor
namespace Go.Vm
open Go.Am
variable {E:Env} {L:Frame} {H:Heap} {nx:Nat} {Q:PV→Heap→Nat→Prop} {dst:Option Tmp} {ty:TypeId} {pos:String} {af:Array Edge} {gd:Option (Nat×Bool)} {w:Bool}
theorem Aa.ZI {fo:Operand} {args:Array Operand} {aT:Array TypeId} {g:FuncId} {fs cs aa ac:List PV} {x:FV} (hc:EZ E g ac [] 0 x) (hf:AU E.Γ L fo=some (.clo g fs cs)) (ha:evs E.Γ L args.toList=some aa)
 (hle:OY (fs++aa++cs) (C9.rn (rho [] nx) ac)) (hu:C9.under 0 ac) (q:Q (.p x) H nx):Aa E w ⟨dst,.call { callee:=.value fo,args:=args,argTypes:=aT },ty,pos,af,gd⟩ L H nx Q :=
 Aa.ZW (ns:=[]) (Hc:=[]) hf ha hle hu trivial trivial cB (by simp) (fun _=>rfl) hc
  (fun r H' nx' h=>by
   obtain ⟨h1,h2,h3⟩:=h;subst h1;subst h2;subst h3;rw [Rt];exact q)
end Go.Vm
namespace Go.Proofs.YtnjkoebfgcbbdaaGreatDoor
open Go Go.Am Go.Vm Go.Pie
attribute [local irreducible] Aa Ah Af Ad Az Ai Ba Bq Bd Aj Vm.Done Bg AB RN
attribute [local irreducible] BR A8 DJ Dx DX AV Cc
def zu (q:Qu) (N:List Int):Bool:=decide (iP q.y (jv q N (IK q)))
def Po (q:Qu) (N l:List Int):Bool:=je q N l 0&&je q N l 1&&zu q N
theorem wK (q:Qu) (hq:Na q) (s:kW) (hN:tJ q s.notes) (hNl:s.notes.length≤1000):Ai env 128 [.agg (Enc.enc q),.agg (Enc.enc s)] (.p (.bool (zu q s.notes))):=by
 have d1:=hq.o.Ag;have hk:=wX q hq s.notes hN hNl;have hKl:=zQ q s.notes (IK q);have hKo:=fun d hd=>a7g hq hN (IK q) (d:=d) hd
 rw [← hKl] at hKo;have hf:=xA q.y hq.y (jv q s.notes (IK q)) (by omega) hKo;unfold zu;generalize jv q s.notes (IK q)=K at *;refine Ai.enter (Ae (by decide)) Tryz.func128 rfl (by kernel_rfl) (by simp [Tryz.ntmps128]) ?_
 repeat' (first|(apply Aa.fn;rfl;rfl;exact hf;intro _;rfl)|(apply Aa.ZI hk;rfl;rfl;exact .of_eq rfl;exact C9.AA rfl)|(apply Aa.makeFunc;rfl;rfl)|refine Cb ?_|fail)
 all_goals first|(exfalso;omega)|(refine Done.rt rfl rfl ⟨?_,rfl,rfl⟩;try rfl)
theorem dG (q:Qu) (hq:Na q) (s:kW) (hN:tJ q s.notes) (hNl:s.notes.length≤1000) (l:List Int) (hl:l.length=q.p.notes.length):Ai env 90 [.agg (Enc.enc q),.agg (Enc.enc s),.lst 3 (cells l) l.length] (.p (.bool (Po q s.notes l))):=by
 have h0:=QT q hq s hN hNl l 0 hl;have h1:=QT q hq s hN hNl l 1 hl;have hf:=wK q hq s hN hNl;unfold Po;generalize je q s.notes l 0=c0 at *;generalize je q s.notes l 1=c1 at *;generalize zu q s.notes=c2 at *;generalize Vh q.p s.notes l 0 s.notes.length=a0 at *;generalize Vh q.p s.notes l 1 s.notes.length=a1 at *;cases c0<;>cases c1<;>cases c2
 all_goals
  refine Ai.enter (Ae (by decide)) Tryz.func90 rfl (by kernel_rfl) (by simp [Tryz.ntmps90]) ?_
 all_goals
  repeat' (first|(apply Aa.fn;rfl;rfl;exact h0;intro _;rfl)|(apply Aa.fn;rfl;rfl;exact h1;intro _;rfl)|(apply Aa.fn;rfl;rfl;exact hf;intro _;rfl)|refine Cb ?_|fail)
 all_goals first|(exfalso;omega)|contradiction|(refine Done.rt rfl rfl ⟨?_,rfl,rfl⟩;try rfl)
def mV (q:Qu):HB:=.box 36 ((Enc.enc q).map .p)
def slB (s:kW):HB:=.box 81 ((Enc.enc s).map .p)
theorem cZ (q:Qu) (hq:Na q) (s:kW) (hN:tJ q s.notes) (hNl:s.notes.length≤1000) (l:List Int) (hl:l.length=q.p.notes.length):EZ env 89 ([.p (.lst 3 (cells l) l.length)]++[.ref 0 0,.ref 1 0]) [(0,mV q),(1,slB s)] 2 (.bool (!Po q s.notes l)):=by
 have hp:=dG q hq s hN hNl l hl;unfold mV slB;generalize Po q s.notes l=c at *;refine EZ.enter (Ae (by decide)) Tryz.func89 rfl (by kernel_rfl) (by simp [Tryz.ntmps89]) ?_
 repeat' (first|(apply Aa.fn;rfl;rfl;exact hp;intro _;rfl)|refine Cb ?_|fail)
 all_goals first|(exfalso;omega)|(refine Done.ret rfl (.refl _) trivial ?_ (by omega) (ab _) ⟨?_,rfl,rfl⟩;exact Ey;try rfl)
end Go.Proofs.YtnjkoebfgcbbdaaGreatDoor
namespace Go.Vm
open Go.Am
variable {E:Env} {L:Frame} {H:Heap} {nx:Nat} {Q:PV→Heap→Nat→Prop} {w:Bool}
variable {dst:Option Tmp} {ty:TypeId} {pos:String} {af:Array Edge} {gd:Option (Nat×Bool)}
theorem Aa.ji {t:TypeId} {x:Operand} {lo hi:Option Operand} {e:TypeId} {cs:List FV} {b n off len a c sz:Nat} {z:Bool} {inf:TypeInfo} (hx:AU E.Γ L x=some (.vec b n off len)) (hb:hget H b=some (.vec e cs n z)) (hn:0<n) (ht:E.P.underlying t=some (.slice e)) (hi':E.P.info? e=some inf) (hsz:inf.size=sz)
 (hlo:match lo with|none=>a=0|some o=>∃ k,AU E.Γ L o=some (.p (.int k (a:Int)))) (hhi:match hi with|none=>c=len|some o=>∃ k,AU E.Γ L o=some (.p (.int k (c:Int)))) (hac:a≤c) (hcl:c≤len)
 (q:Q (.vec b n (off+a*sz) (c-a)) H nx):Aa E w ⟨dst,.slice t x lo hi none,ty,pos,af,gd⟩ L H nx Q :=
 Aa.quiet q fun m F σ tt h1 h2=>by
  have a4m:bnd 0 (lo.map (ev tt))=some a:=by
   cases lo with
   |none=>rw [hlo];rfl
   |some o =>
    obtain ⟨k,hk⟩:=hlo;simp only [Option.map_some,CV h1 h2 hk,bnd];rfl
  have b6c:bnd len (hi.map (ev tt))=some c:=by
   cases hi with
   |none=>rw [hhi];rfl
   |some o =>
    obtain ⟨k,hk⟩:=hhi;simp only [Option.map_some,CV h1 h2 hk,bnd];rfl
  have hsub:=JK h1 h2 hx hb;obtain ⟨hlt,hr⟩:=h1.hp b _ hb;rcases hr with ⟨r1,r2,r3⟩|⟨d,g,vs,r1,r2,r3,r4,r5,r6,r7⟩
  ·omega
  rw [r1] at hsub;simp only [Gg] at hsub;refine ⟨.slice (some ⟨d,off+a*sz,none⟩) (c-a) g,fun _=>?_,.vec hlt rfl fun j hj=>?_⟩
  ·simp only [BO,FB,hsub,aslice,Option.isSome_none,Option.map_none,Bool.false_and,Bool.false_eq_true,if_false,ht,hi',a4m,b6c,r4,hac,hcl,r2,and_self,if_true,Option.map_some,hsz]
  ·simp only [htag,hb,HB.tag,Option.map_some,Option.some.injEq,Tg.vec.injEq] at hj
   refine ⟨by omega,fun _=>?_⟩;rw [r1];rfl
theorem a0x {m:Mem} {F:Nat→Prop} {σ:Nat→Value} {b n off c g:Nat} {e:TypeId} {cs fs:List FV} {vs l:List Value} {z:Bool} (h1:Ctx E.Γ m F σ H nx) (hb:hget H b=some (.vec e cs n z)) (hn:0<n) (h4:σ b=.slice (some ⟨c,0,none⟩) n g) (r2:c<m.size) (r3:¬ F c) (r4:m.get c=.cells vs e g false) (r5:Dj m F cs vs) (r6:vs.all BK=true)
 (hl:Dj m F fs l) (hc:l.all BK=true) :
 Ctx E.Γ (m.put c (.cells (splice vs off l) e g false)) F (upd σ b (σ b)) (hput H b (.vec e (CJ cs off fs) n z)) nx∧Step m F σ H nx (m.put c (.cells (splice vs off l) e g false)) F (upd σ b (σ b)) (hput H b (.vec e (CJ cs off fs) n z)) nx:=by
 have hput':∀ d,c≠d→(m.put c (.cells (splice vs off l) e g false)).get d=m.get d:=fun d hd=>by rw [Mem.get_put,if_neg hd]
 exact h1.change (m':=m.put c (.cells (splice vs off l) e g false)) (x':=.vec e (CJ cs off fs) n z) (s':=σ b) hb (ab _) (fun _=>rfl) (ab _)
  (fun d _ hd=>hput' d fun e=>hd (by rw [h4,e];rfl)) (fun k k1 k2 k3=>by
   have:=k3 c (by rw [h4];rfl);simp only [Mem.put];omega) (fun d hd=>.inl hd) (by
   refine .inr ⟨c,g,splice vs off l,h4,r2,r3,by rw [Mem.get_put,if_pos rfl],?_,JB _ r6 hc,fun h=>by omega⟩;exact (Dj.splice off r5 hl).mono (fun d hd=>⟨hd,hput' d fun e=>r3 (e▸hd)⟩))
def SlT (Γ:Nat→Option (List Value×TypeId)) (L:Frame) (H:Heap) (nx:Nat) (x:Operand) (sz n:Nat) (xs:List FV) (k:Nat):Prop :=
 ∀ m F σ t,Ctx Γ m F σ H nx→RL m F (htag H) σ nx L t→lenOf (ev t x)=some n∧∃ l,Ci m sz k (ev t x)=some l∧Dj m F xs l∧l.all BK=true
theorem Aa.clear {d:Operand} {dT e:TypeId} {i:TypeInfo} {b n off len:Nat} {cs:List FV} {z:Bool} {zs:List Value} (hd:AU E.Γ L d=some (.vec b n off len)) (hb:hget H b=some (.vec e cs n z)) (hn:0<n) (h0:0<len)
 (hdT:E.P.underlying dT=some (.slice e)) (hi:E.P.info? e=some i) (hz:BQ E.P e=some zs) (hzl:zs.length=i.size∧0<i.size) (hl:off+len*i.size≤cs.length) (q:Q (.Eb []) (hput H b (.vec e (CJ cs off ((AL zs len).map H9)) n z)) nx) :
 Aa E true ⟨none,.call { callee:=.builtin .clear,args:=#[d],argTypes:=#[dT] },ty,pos,af,gd⟩ L H nx Q:=by
 intro m F σ t h1 h2;have hsub:=JK h1 h2 hd hb;obtain ⟨hlt,hr⟩:=h1.hp b _ hb;rcases hr with ⟨r1,r2,r3⟩|⟨c,g,vs,r1,r2,r3,r4,r5,r6,r7⟩
 ·omega
 simp only [Gg] at hsub;have hpl:zs.all Am.plainCell=true:=by
  obtain ⟨_,zv,_,_,_,h⟩:=BH hz;exact h
 have hx3:Dj m F ((AL zs len).map H9) (AL zs len):=IE (JH hpl len);have hx4:(AL zs len).all BK=true:=Dh (JH hpl len);have hlen2:=r5.length;have hrl:=EJ zs len;obtain ⟨d1,d2⟩:=a0x (E:=E) (off:=off) h1 hb hn r1 r2 r3 r4 r5 r6 hx3 hx4;refine Gs.op (v:=.tuple #[]) (m':=m.put c (.cells (splice vs off (AL zs len)) e g false)) (fun _=>?_) ⟨_,_,_,F,_,q,d1,.Eb .nil,d2,fun h=>by cases h⟩;have hp:=dm h0 hzl.2;simp only [BO,FB,V9,List.map_toArray,List.map_cons,List.map_nil,List.getElem?_toArray,List.getElem?_cons_zero,hsub,hdT,hi,hz];simp only [F9,r4,Oh,Option.getD_some,beq_self_eq_true,Bool.true_and];grind
def Ru:Code→Option Nat
 | .region n _ _=>some n
 | .seq a b=>match Ru a with
  |some n=>some n
  |none=>Ru b
 | .block _ b=>Ru b
 | .loop b=>Ru b
 | .scope b=>Ru b
 |_=>none
def MQ (r:Nat):Code→Option Code
 | .loop b=>match Ru b with
  |some n=>match Nat.beq n r with
   |true=>some (.loop b)
   |false=>MQ r b
  |none=>MQ r b
 | .seq a b=>match MQ r a with
  |some c=>some c
  |none=>MQ r b
 | .cond _ a b=>match MQ r a with
  |some c=>some c
  |none=>MQ r b
 | .block _ b=>MQ r b
 | .scope b=>MQ r b
 | .rangeFunc _ _ _ b=>MQ r b
 |_=>none
def c5r (fn:Func) (r:Nat):Code:=match fn.body with
 |some c=>match MQ r c with
  |some c=>c
  |none=>.skip
 |none=>.skip
end Go.Vm
namespace Go.Proofs.YtnjkoebfgcbbdaaGreatDoor
open Go Go.Am Go.Vm Go.Pie
attribute [local irreducible] Aa Ah Af Ad Az Ai Ba Bq Bd Aj Vm.Done Bg AB
attribute [local irreducible] BR A8 DJ Dx DX AV Cc
theorem J4 (l:List Int) (h0:0<l.length) (h1:l.length<1000000):Ba env 75 [.lst 3 (cells l) l.length] 3 (cells l) l.length false:=by
 refine Ba.enter (Ae (by decide)) Tryz.func75 rfl (by kernel_rfl) (by simp [Tryz.ntmps75]) ?_
 repeat' (first|(apply Aa.TW;rfl;rfl;rfl;exact h0)|(apply Aa.FM;rfl;rfl;rfl;(first|rfl|omega|(simp only [List.length_take,List.length_drop,List.length_append,List.length_singleton,List.length_cons,List.length_nil]<;>omega));rfl;rfl;(intro _ h;cases h);rfl;rfl;rfl;decide;decide;(first|omega|(simp only [List.length_take,List.length_drop,List.length_append,List.length_singleton,List.length_cons,List.length_nil]<;>omega)))|refine Cb ?_|(apply Aa.buildSlice;rfl;rfl;rfl;decide;rfl;rfl;rfl)|(apply Ad.Ak;rfl))
 exact Bg.ret rfl rfl rfl rfl
def ctN (p:Ef) (a z:Int):Nat→List GI
 |0=>[]
 |k+1=>if (gi p.notes k).s<z∧(gi p.notes k).e>a then ctN p a z k++[⟨max (gi p.notes k).s a,min (gi p.notes k).e z,(gi p.notes k).d,(gi p.notes k).k⟩] else ctN p a z k
def c3p (p:Ef) (f:Nat):List Ny:=if 0≤wan p (gi p.bars f)∧(gi p.sets (wan p (gi p.bars f)).toNat).bar<f then [⟨0,(gi p.sets (wan p (gi p.bars f)).toNat).reg⟩] else []
def ctS (p:Ef) (f t:Nat) (s0:List Ny):Nat→List Ny
 |0=>s0
 |k+1=>if (gi p.sets k).bar≥f∧(gi p.sets k).bar<t then ctS p f t s0 k++[⟨(gi p.sets k).bar-f,(gi p.sets k).reg⟩] else ctS p f t s0 k
def ctB (p:Ef) (f t:Nat):List Int:=(p.bars.drop f).take (t+1-f)
def c7j (p:Ef) (f t:Nat):Ef:=⟨ctB p f t,ctN p (gi p.bars f) (gi p.bars t) p.notes.length,ctS p f t (c3p p f) p.sets.length⟩
def c7l:List FV:=[.val (.slice none 0 0),.val (.slice none 0 0),.val (.slice none 0 0)]
end Go.Proofs.YtnjkoebfgcbbdaaGreatDoor
