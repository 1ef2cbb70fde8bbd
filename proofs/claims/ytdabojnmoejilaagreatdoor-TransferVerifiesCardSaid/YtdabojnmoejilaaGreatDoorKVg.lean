/-
  Texts of a proof, merged (HunF, CarL, RkQ, OrK, OrP, TraU, CarM). Conditions: in each statement.
-/
import Derived.Test.YtdabojnmoejilaaGreatDoorKVf
set_option linter.unusedSimpArgs false
set_option linter.unusedVariables false
set_option linter.unusedSectionVars false
set_option maxRecDepth 100000
set_option maxHeartbeats 8000000
namespace Go.Hun
open Go Go.Am Go.Vm
def wE (f:Nat→ZQ→ZQ) (t:Nat) (es:ZQ):Nat→ZQ
 |0=>es
 |k+1=>if t.testBit k then wE f t es k else f (t ||| 2 ^ k) (wE f t es k)
def uD (l:List (List Int)) (skip:Int) (m n:Nat):Nat→Nat→ZQ→ZQ
 |0,_,es=>es
 |r+1,t,es=>if (qN es ((n-(r+1):Nat):Int) (t:Int)).isSome then es else
   wE (uD l skip m n r) t (uD l skip m n r t es) m++[((((n-(r+1):Nat):Int),(t:Int)),Zm l skip m n (r+1) t)]
def b0l (l:List (List Int)) (skip:Int) (m n:Nat) (es:ZQ):Prop :=
 ∀ (r t:Nat) v,r≤n→qN es ((n-r:Nat):Int) (t:Int)=some v→v=Zm l skip m n r t
theorem kG {f:Nat→Int} {B:Int}:∀ n,(∀ i,i<n→0≤f i∧f i≤B)→0≤Dy f n∧Dy f n≤n*B
 |0,_=>by simp [Dy]
 |n+1,h=>by
  have h1:=kG n fun i hi=>h i (by omega)
  have h2:=h n (by omega)
  have h3:((n+1:Nat):Int)*B=n*B+B:=by rw [Int.natCast_add,Int.add_mul];simp
  rw [h3]
  simp only [Dy]
  omega
def qP (cols:List Int):Nat→Nat
 |0=>0
 |k+1=>if gi cols k<0 then qP cols k else qP cols k ||| 2 ^ (gi cols k).toNat
end Go.Hun
namespace Go.Proofs.YtdabojnmoejilaaGreatDoor
open Go Go.Am Go.Vm Go.Tra Go.Hun
attribute [local irreducible] Aa Ag Ak Ae BH AZ CW AO AL Az Vm.Done Di Bv
structure a3a (l:List (List Int)) (n m:Nat) (b:Na):Prop where
 lC:b.cols.length=n
 lU:b.rows.length=n
 lV:b.BD.length=m
 tot:-1000000000000≤b.total∧b.total≤1000000000000
 rC:∀ r,r<n→-1≤gi b.cols r∧gi b.cols r<m
 rU:∀ r,r<n→0≤gi b.rows r∧gi b.rows r≤1000000000
 rV:∀ k,k<m→-1000000000≤gi b.BD k∧gi b.BD k≤0
theorem fJ {q:Ri} (h:Z5 q):a3a (Es q) (Es q).length (I4 q) (Lm q):=by
 have hP:=iW h.LC.LC
 have hB:=h.LC.B9
 have hn:=h.LC.n60
 have hm:=h.LC.pq
 have hrow:=h.LC.LC.rng
 have hsk:=h.LC.LC.skip
 refine ⟨hP.lC,hP.lU,hP.lV,?_,hP.part.rng,fun r hr=>?_,fun k hk=>?_⟩
 ·show -1000000000000≤ZJ _ _ _ _∧ZJ _ _ _ _≤1000000000000
  rw [hP.tot]
  have:=kG (f:=Xy (Es q) q.DV.miss fun r=>gi (Xm (Es q) (Es q).length (I4 q) q.DV.miss) r) (B:=101000000) (Es q).length fun i hi=>by
   unfold Xy
   have h1:-1≤gi (Xm (Es q) (Es q).length (I4 q) q.DV.miss) i∧gi (Xm (Es q) (Es q).length (I4 q) q.DV.miss) i<(I4 q:Int):=hP.part.rng i hi
   by_cases hc:gi (Xm (Es q) (Es q).length (I4 q) q.DV.miss) i<0
   ·rw [if_pos hc];exact hsk
   ·rw [if_neg hc];exact hrow i (gi (Xm (Es q) (Es q).length (I4 q) q.DV.miss) i).toNat hi (by omega)
  omega
 ·have:=hP.a4k r hr
  exact ⟨this.1,by have:=this.2;show gi (o7 _ _ _ _) r≤_;omega⟩
 ·have:=hP.a0x k hk
  exact ⟨by have:=this.1;show _≤gi (qw _ _ _ _) k;omega,this.2⟩
theorem a1u {a n i:Nat} (hn:0<n) (hi:i=a % n):EO .rem .i64 (a:Int) (n:Int)=some (.int .i64 (i:Int)):=by
 simp only [EO]
 rw [if_neg (by omega),Int.tmod_eq_emod_of_nonneg (by omega),hi]
 simp
theorem Nb (x:qC) (hx:x.Ok) (kd a:Nat) (hkd:kd<256) (ha:a<256) (d:Int) (hd:-128≤d∧d≤127):AZ env 5 [.agg x.enc,.agg [.int .u8 kd,.int .u8 a,.int .i8 d]] (.p (.bool true)):=by
 have hkn:=iK
 have hfs:=jQ x hx
 refine AZ.enter (AB (by decide)) Tryz.func5 rfl (by kernel_rfl) (by simp [Tryz.ntmps5]) ?_
 by_cases hf:Ti x
 case neg =>
  rw [decide_eq_false hf] at hfs
  repeat' (first|apply Ae.assoc|apply Ae.AA|apply Ae.BU|apply Ag.nil|apply Ag.one|(apply Ag.take;rfl;rfl)|(apply Aa.fn;rfl;rfl;exact hkn;intro _;rfl)|(apply Aa.fn;rfl;rfl;exact hfs;intro _;rfl)|(apply Aa.assign;rfl)|(apply Aa.move;rfl)|(apply Aa.load;rfl;rfl)|(apply Aa.AQ;rfl;rfl)|(apply Aa.box;rfl;trivial)|(apply Aa.not;rfl)|(apply Ae.Bg;rfl))
  all_goals first|(exfalso;omega)|contradiction|((refine Done.ret rfl (.refl _) (by first|exact trivial|exact ⟨trivial,trivial,trivial⟩|exact ⟨trivial,trivial,trivial,trivial⟩) Aj.nil (Nat.zero_le _) (Nat.le_refl _) ⟨?_,rfl,rfl⟩;try rfl);try simp)
 rw [decide_eq_true hf] at hfs
 have hm:=iy x hx hf
 have hq:=a1h x hx hf
 have hS:ShS (mkQ x).BF (mkQ x).tgt:=a4u (Ym x.BF hx.BF hf.1) (Ym x.tgt hx.tgt hf.2)
 generalize mkQ x=q at *
 have hb:=Pq hq
 have hll:=Zn q hq.k1 hq.k2 hq.DV hS hq.rg hq.len
 rw [show KA q.BF q.tgt q.reg q.DV=Es q from rfl] at hll
 have b1:=hq.LC.n60
 have b2:=hq.LC.pq
 have hB:=fJ hq
 generalize Lm q=b at *
 have k1:=hB.lC
 have k2:=hB.lU
 have k3:=hB.lV
 have k4:=hB.tot
 have hk5:kd % 5=0∨kd % 5=1∨kd % 5=2∨kd % 5=3∨kd % 5=4:=by omega
 rcases hk5 with hk5|hk5|hk5|hk5|hk5
 ·skip
  have hv:=EK 52 hq.LC b
  have hw:=Eh hq b
  skip
  repeat' (first|(refine Ae.at 20 ?_;refine Ae.ghost (((AX.Bh 3 0 rfl rfl rfl).trans (AX.Bh 3 2 rfl rfl rfl)).trans (AX.Bh 3 3 rfl rfl rfl)) ?_;first|apply Ae.AA|apply Ae.BA)|(refine Ak.atIdx 3 ?_;apply Ak.weak [.tmp 6,.tmp 6];decide +kernel;rfl;rfl;(first|exact DK.ref rfl|exact DK.vec rfl|exact DK.Dx rfl);decide +kernel;rfl)|(refine Ak.atIdx 7 ?_;apply Ak.weak [.tmp 6];decide +kernel;rfl;rfl;(first|exact DK.ref rfl|exact DK.vec rfl|exact DK.Dx rfl);decide +kernel;rfl)|apply Ae.assoc|apply Ae.AA|apply Ae.BA|apply Ae.Aq|apply Ae.Ai|apply AO.normal|apply AL.normal|apply Ae.ret|apply Ae.skip|apply Ag.nil|apply Ak.nil|apply Ag.one|(apply Ak.bar;decide +kernel)|apply Ak.quiet|(apply Ag.take;rfl;rfl)|(apply Aa.fn;rfl;rfl;exact hkn;intro _;rfl)|(apply Aa.fn;rfl;rfl;exact hfs;intro _;rfl)|(apply Aa.fn;rfl;rfl;exact hm;intro _;rfl)|(apply Aa.fn;rfl;rfl;exact hb;intro _;rfl)|(apply Aa.fn;rfl;rfl;exact hll;intro _;rfl)|(apply Aa.fn;rfl;rfl;exact hv;intro _;rfl)|(apply Aa.fn;rfl;rfl;exact hw;intro _;rfl)|(apply Aa.CS (r:=b.cols);rfl;rfl;rfl;rfl;rfl;rfl;(intro _ h;cases h);rfl;rfl;rfl;decide;decide;omega)|(apply Aa.CS (r:=b.rows);rfl;rfl;rfl;rfl;rfl;rfl;(intro _ h;cases h);rfl;rfl;rfl;decide;decide;omega)|(apply Aa.CS (r:=b.BD);rfl;rfl;rfl;rfl;rfl;rfl;(intro _ h;cases h);rfl;rfl;rfl;decide;decide;omega)|(apply Aa.assign;rfl)|(apply Aa.move;rfl)|(apply Aa.Jk;rfl;rfl;omega;omega)|(apply Aa.int;rfl;rfl;rfl)|(apply Aa.load;rfl;rfl)|(apply Aa.AQ;rfl;rfl)|(apply Aa.AP;rfl;rfl;rfl)|(apply Aa.box;rfl;trivial)|(apply Aa.alloc;rfl)|(apply Aa.Bj;rfl;rfl;rfl;trivial;rfl;rfl;exact Ac rfl;exact le_dec rfl)|(apply Aa.build;rfl;rfl;rfl;rfl;rfl)|(apply Aa.buildSlice;rfl;rfl;rfl;decide;rfl;rfl;rfl)|(apply Aa.not;rfl)|(apply Aa.extract;rfl;rfl)|(apply Ae.Ar;rfl)|(apply Ae.AY;rfl)|(intro _;try (exfalso;omega)))
  all_goals try (exfalso;omega)
  all_goals try contradiction
  all_goals first|((refine Done.ret rfl (.refl _) (by first|exact trivial|exact ⟨trivial,trivial,trivial⟩|exact ⟨trivial,trivial,trivial,trivial⟩) Aj.nil (Nat.zero_le _) (Nat.le_refl _) ⟨?_,rfl,rfl⟩;try rfl);done)|(refine Done.ret rfl (.refl _) (by first|exact trivial|exact ⟨trivial,trivial,trivial⟩|exact ⟨trivial,trivial,trivial,trivial⟩) Aj.nil (Nat.zero_le _) (Nat.le_refl _) ⟨?_,rfl,rfl⟩;refine PV.Gp ?_;simp;done)
 ·by_cases h0:b.cols.length=0
  case pos =>
   have hv:=EK 52 hq.LC b
   have hw:=Eh hq b
   skip
   repeat' (first|(refine Ae.at 20 ?_;refine Ae.ghost (((AX.Bh 3 0 rfl rfl rfl).trans (AX.Bh 3 2 rfl rfl rfl)).trans (AX.Bh 3 3 rfl rfl rfl)) ?_;first|apply Ae.AA|apply Ae.BA)|(refine Ak.atIdx 3 ?_;apply Ak.weak [.tmp 6,.tmp 6];decide +kernel;rfl;rfl;(first|exact DK.ref rfl|exact DK.vec rfl|exact DK.Dx rfl);decide +kernel;rfl)|(refine Ak.atIdx 7 ?_;apply Ak.weak [.tmp 6];decide +kernel;rfl;rfl;(first|exact DK.ref rfl|exact DK.vec rfl|exact DK.Dx rfl);decide +kernel;rfl)|apply Ae.assoc|apply Ae.AA|apply Ae.BA|apply Ae.Aq|apply Ae.Ai|apply AO.normal|apply AL.normal|apply Ae.ret|apply Ae.skip|apply Ag.nil|apply Ak.nil|apply Ag.one|(apply Ak.bar;decide +kernel)|apply Ak.quiet|(apply Ag.take;rfl;rfl)|(apply Aa.fn;rfl;rfl;exact hkn;intro _;rfl)|(apply Aa.fn;rfl;rfl;exact hfs;intro _;rfl)|(apply Aa.fn;rfl;rfl;exact hm;intro _;rfl)|(apply Aa.fn;rfl;rfl;exact hb;intro _;rfl)|(apply Aa.fn;rfl;rfl;exact hll;intro _;rfl)|(apply Aa.fn;rfl;rfl;exact hv;intro _;rfl)|(apply Aa.fn;rfl;rfl;exact hw;intro _;rfl)|(apply Aa.CS (r:=b.cols);rfl;rfl;rfl;rfl;rfl;rfl;(intro _ h;cases h);rfl;rfl;rfl;decide;decide;omega)|(apply Aa.CS (r:=b.rows);rfl;rfl;rfl;rfl;rfl;rfl;(intro _ h;cases h);rfl;rfl;rfl;decide;decide;omega)|(apply Aa.CS (r:=b.BD);rfl;rfl;rfl;rfl;rfl;rfl;(intro _ h;cases h);rfl;rfl;rfl;decide;decide;omega)|(apply Aa.assign;rfl)|(apply Aa.move;rfl)|(apply Aa.Jk;rfl;rfl;omega;omega)|(apply Aa.int;rfl;rfl;rfl)|(apply Aa.load;rfl;rfl)|(apply Aa.AQ;rfl;rfl)|(apply Aa.lenV;rfl;rfl;rfl)|(apply Aa.AP;rfl;rfl;rfl)|(apply Aa.box;rfl;trivial)|(apply Aa.alloc;rfl)|(apply Aa.Bj;rfl;rfl;rfl;trivial;rfl;rfl;exact Ac rfl;exact le_dec rfl)|(apply Aa.build;rfl;rfl;rfl;rfl;rfl)|(apply Aa.buildSlice;rfl;rfl;rfl;decide;rfl;rfl;rfl)|(apply Aa.not;rfl)|(apply Aa.extract;rfl;rfl)|(apply Ae.Ar;rfl)|(apply Ae.AY;rfl)|(intro _;try (exfalso;omega)))
   all_goals try (exfalso;omega)
   all_goals try contradiction
   all_goals first|((refine Done.ret rfl (.refl _) (by first|exact trivial|exact ⟨trivial,trivial,trivial⟩|exact ⟨trivial,trivial,trivial,trivial⟩) Aj.nil (Nat.zero_le _) (Nat.le_refl _) ⟨?_,rfl,rfl⟩;try rfl);done)|(refine Done.ret rfl (.refl _) (by first|exact trivial|exact ⟨trivial,trivial,trivial⟩|exact ⟨trivial,trivial,trivial,trivial⟩) Aj.nil (Nat.zero_le _) (Nat.le_refl _) ⟨?_,rfl,rfl⟩;refine PV.Gp ?_;simp;done)
  case neg =>
   obtain ⟨ix,hix⟩:∃ ix,ix=a % b.cols.length:=⟨_,rfl⟩
   have hil:ix<b.cols.length:=by rw [hix];exact Nat.mod_lt _ (by omega)
   have hrm:=a1u (a:=a) (n:=b.cols.length) (by omega) hix
   have eE:Enc.enc ({ b with cols:=b.cols.set ix (d) }:Na)=[.lst 3 (cells (b.cols.set ix (d))) b.cols.length,.int .i64 b.total,.lst 3 (cells b.rows) b.rows.length,.lst 3 (cells b.BD) b.BD.length]:=by
    show [FV.lst 3 (cells (b.cols.set ix (d))) (b.cols.set ix (d)).length,.int .i64 b.total,.lst 3 (cells b.rows) b.rows.length,.lst 3 (cells b.BD) b.BD.length]=_
    rw [List.length_set]
   have hv:=EK 52 hq.LC { b with cols:=b.cols.set ix (d) }
   have hw:=Eh hq { b with cols:=b.cols.set ix (d) }
   rw [eE] at hv hw
   repeat' (first|(refine Ae.at 20 ?_;refine Ae.ghost (((AX.Bh 3 0 rfl rfl rfl).trans (AX.Bh 3 2 rfl rfl rfl)).trans (AX.Bh 3 3 rfl rfl rfl)) ?_;first|apply Ae.AA|apply Ae.BA)|(refine Ak.atIdx 3 ?_;apply Ak.weak [.tmp 6,.tmp 6];decide +kernel;rfl;rfl;(first|exact DK.ref rfl|exact DK.vec rfl|exact DK.Dx rfl);decide +kernel;rfl)|(refine Ak.atIdx 7 ?_;apply Ak.weak [.tmp 6];decide +kernel;rfl;rfl;(first|exact DK.ref rfl|exact DK.vec rfl|exact DK.Dx rfl);decide +kernel;rfl)|apply Ae.assoc|apply Ae.AA|apply Ae.BA|apply Ae.EZ|apply Ae.Aq|apply Ae.Ai|apply AO.normal|apply AL.normal|apply Ae.ret|apply Ag.nil|apply Ak.nil|apply Ag.one|(apply Ak.bar;decide +kernel)|apply Ak.quiet|(apply Ag.take;rfl;rfl)|(apply Aa.fn;rfl;rfl;exact hkn;intro _;rfl)|(apply Aa.fn;rfl;rfl;exact hfs;intro _;rfl)|(apply Aa.fn;rfl;rfl;exact hm;intro _;rfl)|(apply Aa.fn;rfl;rfl;exact hb;intro _;rfl)|(apply Aa.fn;rfl;rfl;exact hll;intro _;rfl)|(apply Aa.fn;rfl;rfl;exact hv;intro _;rfl)|(apply Aa.fn;rfl;rfl;exact hw;intro _;rfl)|(apply Aa.int;rfl;rfl;exact hrm)|(apply Aa.DT (y:=d);rfl;rfl;rfl;trivial;(first|rfl|(refine congrArg (fun t=>[PV.p (FV.int _ t)]) ?_;first|omega|(simp only [Int.natCast_add,Int.natCast_mul,Int.natCast_ediv,Int.natCast_emod]<;>omega)));rfl;rfl;decide;(first|omega|(simp only [List.length_set]<;>omega)))|(apply Aa.CS (r:=b.cols);rfl;rfl;rfl;rfl;rfl;rfl;(intro _ h;cases h);rfl;rfl;rfl;decide;decide;omega)|(apply Aa.CS (r:=b.rows);rfl;rfl;rfl;rfl;rfl;rfl;(intro _ h;cases h);rfl;rfl;rfl;decide;decide;omega)|(apply Aa.CS (r:=b.BD);rfl;rfl;rfl;rfl;rfl;rfl;(intro _ h;cases h);rfl;rfl;rfl;decide;decide;omega)|(apply Aa.assign;rfl)|(apply Aa.move;rfl)|(apply Aa.Jk;rfl;rfl;omega;omega)|(apply Aa.int;rfl;rfl;rfl)|(apply Aa.load;rfl;rfl)|(apply Aa.AQ;rfl;rfl)|(apply Aa.lenV;rfl;rfl;rfl)|(apply Aa.AP;rfl;rfl;rfl)|(apply Aa.box;rfl;trivial)|(apply Aa.alloc;rfl)|(apply Aa.Bj;rfl;rfl;rfl;trivial;rfl;rfl;exact Ac rfl;exact le_dec rfl)|(apply Aa.build;rfl;rfl;rfl;rfl;rfl)|(apply Aa.buildSlice;rfl;rfl;rfl;decide;rfl;rfl;rfl)|(apply Aa.Dc;rfl;rfl;rfl;rfl;omega)|(apply Aa.not;rfl)|(apply Aa.extract;rfl;rfl)|(apply Aa.Hr;rfl;rfl;rfl;rfl;omega)|(apply Ae.Ar;rfl)|(apply Ae.AY;rfl)|(intro _;try (exfalso;omega)))
   all_goals try (exfalso;omega)
   all_goals try contradiction
   all_goals first|((refine Done.ret rfl (.refl _) (by first|exact trivial|exact ⟨trivial,trivial,trivial⟩|exact ⟨trivial,trivial,trivial,trivial⟩) Aj.nil (Nat.zero_le _) (Nat.le_refl _) ⟨?_,rfl,rfl⟩;try rfl);done)|(refine Done.ret rfl (.refl _) (by first|exact trivial|exact ⟨trivial,trivial,trivial⟩|exact ⟨trivial,trivial,trivial,trivial⟩) Aj.nil (Nat.zero_le _) (Nat.le_refl _) ⟨?_,rfl,rfl⟩;refine PV.Gp ?_;simp;done)
 ·skip
  have hv:=EK 52 hq.LC { b with total:=b.total+d }
  have hw:=Eh hq { b with total:=b.total+d }
  skip
  repeat' (first|(refine Ae.at 20 ?_;refine Ae.ghost (((AX.Bh 3 0 rfl rfl rfl).trans (AX.Bh 3 2 rfl rfl rfl)).trans (AX.Bh 3 3 rfl rfl rfl)) ?_;first|apply Ae.AA|apply Ae.BA)|(refine Ak.atIdx 3 ?_;apply Ak.weak [.tmp 6,.tmp 6];decide +kernel;rfl;rfl;(first|exact DK.ref rfl|exact DK.vec rfl|exact DK.Dx rfl);decide +kernel;rfl)|(refine Ak.atIdx 7 ?_;apply Ak.weak [.tmp 6];decide +kernel;rfl;rfl;(first|exact DK.ref rfl|exact DK.vec rfl|exact DK.Dx rfl);decide +kernel;rfl)|apply Ae.assoc|apply Ae.AA|apply Ae.BA|apply Ae.region|apply Ae.Aq|apply Ae.Ai|apply AO.normal|apply AL.normal|apply Ae.ret|apply Ag.nil|apply Ak.nil|apply Ag.one|(apply Ak.bar;decide +kernel)|apply Ak.quiet|(apply Ag.take;rfl;rfl)|(apply Aa.fn;rfl;rfl;exact hkn;intro _;rfl)|(apply Aa.fn;rfl;rfl;exact hfs;intro _;rfl)|(apply Aa.fn;rfl;rfl;exact hm;intro _;rfl)|(apply Aa.fn;rfl;rfl;exact hb;intro _;rfl)|(apply Aa.fn;rfl;rfl;exact hll;intro _;rfl)|(apply Aa.fn;rfl;rfl;exact hv;intro _;rfl)|(apply Aa.fn;rfl;rfl;exact hw;intro _;rfl)|(apply Aa.CS (r:=b.cols);rfl;rfl;rfl;rfl;rfl;rfl;(intro _ h;cases h);rfl;rfl;rfl;decide;decide;omega)|(apply Aa.CS (r:=b.rows);rfl;rfl;rfl;rfl;rfl;rfl;(intro _ h;cases h);rfl;rfl;rfl;decide;decide;omega)|(apply Aa.CS (r:=b.BD);rfl;rfl;rfl;rfl;rfl;rfl;(intro _ h;cases h);rfl;rfl;rfl;decide;decide;omega)|(apply Aa.assign;rfl)|(apply Aa.move;rfl)|(apply Aa.Bz;rfl;rfl;omega)|(apply Aa.Jk;rfl;rfl;omega;omega)|(apply Aa.int;rfl;rfl;rfl)|(apply Aa.load;rfl;rfl)|(apply Aa.AQ;rfl;rfl)|(apply Aa.AP;rfl;rfl;rfl)|(apply Aa.box;rfl;trivial)|(apply Aa.alloc;rfl)|(apply Aa.Bj;rfl;rfl;rfl;trivial;rfl;rfl;exact Ac rfl;exact le_dec rfl)|(apply Aa.build;rfl;rfl;rfl;rfl;rfl)|(apply Aa.buildSlice;rfl;rfl;rfl;decide;rfl;rfl;rfl)|(apply Aa.not;rfl)|(apply Aa.extract;rfl;rfl)|(apply Aa.Hr;rfl;rfl;rfl;rfl;omega)|(apply Ae.Ar;rfl)|(apply Ae.AY;rfl)|(intro _;try (exfalso;omega)))
  all_goals try (exfalso;omega)
  all_goals try contradiction
  all_goals first|((refine Done.ret rfl (.refl _) (by first|exact trivial|exact ⟨trivial,trivial,trivial⟩|exact ⟨trivial,trivial,trivial,trivial⟩) Aj.nil (Nat.zero_le _) (Nat.le_refl _) ⟨?_,rfl,rfl⟩;try rfl);done)|(refine Done.ret rfl (.refl _) (by first|exact trivial|exact ⟨trivial,trivial,trivial⟩|exact ⟨trivial,trivial,trivial,trivial⟩) Aj.nil (Nat.zero_le _) (Nat.le_refl _) ⟨?_,rfl,rfl⟩;refine PV.Gp ?_;simp;done)
 ·by_cases h0:b.rows.length=0
  case pos =>
   have hv:=EK 52 hq.LC b
   have hw:=Eh hq b
   skip
   repeat' (first|(refine Ae.at 20 ?_;refine Ae.ghost (((AX.Bh 3 0 rfl rfl rfl).trans (AX.Bh 3 2 rfl rfl rfl)).trans (AX.Bh 3 3 rfl rfl rfl)) ?_;first|apply Ae.AA|apply Ae.BA)|(refine Ak.atIdx 3 ?_;apply Ak.weak [.tmp 6,.tmp 6];decide +kernel;rfl;rfl;(first|exact DK.ref rfl|exact DK.vec rfl|exact DK.Dx rfl);decide +kernel;rfl)|(refine Ak.atIdx 7 ?_;apply Ak.weak [.tmp 6];decide +kernel;rfl;rfl;(first|exact DK.ref rfl|exact DK.vec rfl|exact DK.Dx rfl);decide +kernel;rfl)|apply Ae.assoc|apply Ae.AA|apply Ae.BA|apply Ae.Aq|apply Ae.Ai|apply AO.normal|apply AL.normal|apply Ae.ret|apply Ae.skip|apply Ag.nil|apply Ak.nil|apply Ag.one|(apply Ak.bar;decide +kernel)|apply Ak.quiet|(apply Ag.take;rfl;rfl)|(apply Aa.fn;rfl;rfl;exact hkn;intro _;rfl)|(apply Aa.fn;rfl;rfl;exact hfs;intro _;rfl)|(apply Aa.fn;rfl;rfl;exact hm;intro _;rfl)|(apply Aa.fn;rfl;rfl;exact hb;intro _;rfl)|(apply Aa.fn;rfl;rfl;exact hll;intro _;rfl)|(apply Aa.fn;rfl;rfl;exact hv;intro _;rfl)|(apply Aa.fn;rfl;rfl;exact hw;intro _;rfl)|(apply Aa.CS (r:=b.cols);rfl;rfl;rfl;rfl;rfl;rfl;(intro _ h;cases h);rfl;rfl;rfl;decide;decide;omega)|(apply Aa.CS (r:=b.rows);rfl;rfl;rfl;rfl;rfl;rfl;(intro _ h;cases h);rfl;rfl;rfl;decide;decide;omega)|(apply Aa.CS (r:=b.BD);rfl;rfl;rfl;rfl;rfl;rfl;(intro _ h;cases h);rfl;rfl;rfl;decide;decide;omega)|(apply Aa.assign;rfl)|(apply Aa.move;rfl)|(apply Aa.Jk;rfl;rfl;omega;omega)|(apply Aa.int;rfl;rfl;rfl)|(apply Aa.load;rfl;rfl)|(apply Aa.AQ;rfl;rfl)|(apply Aa.lenV;rfl;rfl;rfl)|(apply Aa.AP;rfl;rfl;rfl)|(apply Aa.box;rfl;trivial)|(apply Aa.alloc;rfl)|(apply Aa.Bj;rfl;rfl;rfl;trivial;rfl;rfl;exact Ac rfl;exact le_dec rfl)|(apply Aa.build;rfl;rfl;rfl;rfl;rfl)|(apply Aa.buildSlice;rfl;rfl;rfl;decide;rfl;rfl;rfl)|(apply Aa.not;rfl)|(apply Aa.extract;rfl;rfl)|(apply Ae.Ar;rfl)|(apply Ae.AY;rfl)|(intro _;try (exfalso;omega)))
   all_goals try (exfalso;omega)
   all_goals try contradiction
   all_goals first|((refine Done.ret rfl (.refl _) (by first|exact trivial|exact ⟨trivial,trivial,trivial⟩|exact ⟨trivial,trivial,trivial,trivial⟩) Aj.nil (Nat.zero_le _) (Nat.le_refl _) ⟨?_,rfl,rfl⟩;try rfl);done)|(refine Done.ret rfl (.refl _) (by first|exact trivial|exact ⟨trivial,trivial,trivial⟩|exact ⟨trivial,trivial,trivial,trivial⟩) Aj.nil (Nat.zero_le _) (Nat.le_refl _) ⟨?_,rfl,rfl⟩;refine PV.Gp ?_;simp;done)
  case neg =>
   obtain ⟨ix,hix⟩:∃ ix,ix=a % b.rows.length:=⟨_,rfl⟩
   have hil:ix<b.rows.length:=by rw [hix];exact Nat.mod_lt _ (by omega)
   have hrm:=a1u (a:=a) (n:=b.rows.length) (by omega) hix
   have hbd:=hB.rU ix (by omega)
   have eE:Enc.enc ({ b with rows:=b.rows.set ix (gi b.rows ix+d) }:Na)=[.lst 3 (cells b.cols) b.cols.length,.int .i64 b.total,.lst 3 (cells (b.rows.set ix (gi b.rows ix+d))) b.rows.length,.lst 3 (cells b.BD) b.BD.length]:=by
    show [FV.lst 3 (cells b.cols) b.cols.length,.int .i64 b.total,.lst 3 (cells (b.rows.set ix (gi b.rows ix+d))) (b.rows.set ix (gi b.rows ix+d)).length,.lst 3 (cells b.BD) b.BD.length]=_
    rw [List.length_set]
   have hv:=EK 52 hq.LC { b with rows:=b.rows.set ix (gi b.rows ix+d) }
   have hw:=Eh hq { b with rows:=b.rows.set ix (gi b.rows ix+d) }
   rw [eE] at hv hw
   repeat' (first|(refine Ae.at 20 ?_;refine Ae.ghost (((AX.Bh 3 0 rfl rfl rfl).trans (AX.Bh 3 2 rfl rfl rfl)).trans (AX.Bh 3 3 rfl rfl rfl)) ?_;first|apply Ae.AA|apply Ae.BA)|(refine Ak.atIdx 3 ?_;apply Ak.weak [.tmp 6,.tmp 6];decide +kernel;rfl;rfl;(first|exact DK.ref rfl|exact DK.vec rfl|exact DK.Dx rfl);decide +kernel;rfl)|(refine Ak.atIdx 7 ?_;apply Ak.weak [.tmp 6];decide +kernel;rfl;rfl;(first|exact DK.ref rfl|exact DK.vec rfl|exact DK.Dx rfl);decide +kernel;rfl)|apply Ae.assoc|apply Ae.AA|apply Ae.BA|apply Ae.EZ|apply Ae.Aq|apply Ae.Ai|apply AO.normal|apply AL.normal|apply Ae.ret|apply Ag.nil|apply Ak.nil|apply Ag.one|(apply Ak.bar;decide +kernel)|apply Ak.quiet|(apply Ag.take;rfl;rfl)|(apply Aa.fn;rfl;rfl;exact hkn;intro _;rfl)|(apply Aa.fn;rfl;rfl;exact hfs;intro _;rfl)|(apply Aa.fn;rfl;rfl;exact hm;intro _;rfl)|(apply Aa.fn;rfl;rfl;exact hb;intro _;rfl)|(apply Aa.fn;rfl;rfl;exact hll;intro _;rfl)|(apply Aa.fn;rfl;rfl;exact hv;intro _;rfl)|(apply Aa.fn;rfl;rfl;exact hw;intro _;rfl)|(apply Aa.int;rfl;rfl;exact hrm)|(apply Aa.DT (y:=gi b.rows ix+d);rfl;rfl;rfl;trivial;(first|rfl|(refine congrArg (fun t=>[PV.p (FV.int _ t)]) ?_;first|omega|(simp only [Int.natCast_add,Int.natCast_mul,Int.natCast_ediv,Int.natCast_emod]<;>omega)));rfl;rfl;decide;(first|omega|(simp only [List.length_set]<;>omega)))|(apply Aa.CS (r:=b.cols);rfl;rfl;rfl;rfl;rfl;rfl;(intro _ h;cases h);rfl;rfl;rfl;decide;decide;omega)|(apply Aa.CS (r:=b.rows);rfl;rfl;rfl;rfl;rfl;rfl;(intro _ h;cases h);rfl;rfl;rfl;decide;decide;omega)|(apply Aa.CS (r:=b.BD);rfl;rfl;rfl;rfl;rfl;rfl;(intro _ h;cases h);rfl;rfl;rfl;decide;decide;omega)|(apply Aa.assign;rfl)|(apply Aa.move;rfl)|(apply Aa.Bz;rfl;rfl;omega)|(apply Aa.Jk;rfl;rfl;omega;omega)|(apply Aa.int;rfl;rfl;rfl)|(apply Aa.Dl;rfl;rfl;omega;rfl)|(apply Aa.load;rfl;rfl)|(apply Aa.AQ;rfl;rfl)|(apply Aa.lenV;rfl;rfl;rfl)|(apply Aa.AP;rfl;rfl;rfl)|(apply Aa.box;rfl;trivial)|(apply Aa.alloc;rfl)|(apply Aa.Bj;rfl;rfl;rfl;trivial;rfl;rfl;exact Ac rfl;exact le_dec rfl)|(apply Aa.build;rfl;rfl;rfl;rfl;rfl)|(apply Aa.buildSlice;rfl;rfl;rfl;decide;rfl;rfl;rfl)|(apply Aa.Dc;rfl;rfl;rfl;rfl;omega)|(apply Aa.not;rfl)|(apply Aa.extract;rfl;rfl)|(apply Aa.Hr;rfl;rfl;rfl;rfl;omega)|(apply Ae.Ar;rfl)|(apply Ae.AY;rfl)|(intro _;try (exfalso;omega)))
   all_goals try (exfalso;omega)
   all_goals try contradiction
   all_goals first|((refine Done.ret rfl (.refl _) (by first|exact trivial|exact ⟨trivial,trivial,trivial⟩|exact ⟨trivial,trivial,trivial,trivial⟩) Aj.nil (Nat.zero_le _) (Nat.le_refl _) ⟨?_,rfl,rfl⟩;try rfl);done)|(refine Done.ret rfl (.refl _) (by first|exact trivial|exact ⟨trivial,trivial,trivial⟩|exact ⟨trivial,trivial,trivial,trivial⟩) Aj.nil (Nat.zero_le _) (Nat.le_refl _) ⟨?_,rfl,rfl⟩;refine PV.Gp ?_;simp;done)
 ·by_cases h0:b.BD.length=0
  case pos =>
   have hv:=EK 52 hq.LC b
   have hw:=Eh hq b
   skip
   repeat' (first|(refine Ae.at 20 ?_;refine Ae.ghost (((AX.Bh 3 0 rfl rfl rfl).trans (AX.Bh 3 2 rfl rfl rfl)).trans (AX.Bh 3 3 rfl rfl rfl)) ?_;first|apply Ae.AA|apply Ae.BA)|(refine Ak.atIdx 3 ?_;apply Ak.weak [.tmp 6,.tmp 6];decide +kernel;rfl;rfl;(first|exact DK.ref rfl|exact DK.vec rfl|exact DK.Dx rfl);decide +kernel;rfl)|(refine Ak.atIdx 7 ?_;apply Ak.weak [.tmp 6];decide +kernel;rfl;rfl;(first|exact DK.ref rfl|exact DK.vec rfl|exact DK.Dx rfl);decide +kernel;rfl)|apply Ae.assoc|apply Ae.AA|apply Ae.BA|apply Ae.Aq|apply Ae.Ai|apply AO.normal|apply AL.normal|apply Ae.ret|apply Ae.skip|apply Ag.nil|apply Ak.nil|apply Ag.one|(apply Ak.bar;decide +kernel)|apply Ak.quiet|(apply Ag.take;rfl;rfl)|(apply Aa.fn;rfl;rfl;exact hkn;intro _;rfl)|(apply Aa.fn;rfl;rfl;exact hfs;intro _;rfl)|(apply Aa.fn;rfl;rfl;exact hm;intro _;rfl)|(apply Aa.fn;rfl;rfl;exact hb;intro _;rfl)|(apply Aa.fn;rfl;rfl;exact hll;intro _;rfl)|(apply Aa.fn;rfl;rfl;exact hv;intro _;rfl)|(apply Aa.fn;rfl;rfl;exact hw;intro _;rfl)|(apply Aa.CS (r:=b.cols);rfl;rfl;rfl;rfl;rfl;rfl;(intro _ h;cases h);rfl;rfl;rfl;decide;decide;omega)|(apply Aa.CS (r:=b.rows);rfl;rfl;rfl;rfl;rfl;rfl;(intro _ h;cases h);rfl;rfl;rfl;decide;decide;omega)|(apply Aa.CS (r:=b.BD);rfl;rfl;rfl;rfl;rfl;rfl;(intro _ h;cases h);rfl;rfl;rfl;decide;decide;omega)|(apply Aa.assign;rfl)|(apply Aa.move;rfl)|(apply Aa.Jk;rfl;rfl;omega;omega)|(apply Aa.int;rfl;rfl;rfl)|(apply Aa.load;rfl;rfl)|(apply Aa.AQ;rfl;rfl)|(apply Aa.lenV;rfl;rfl;rfl)|(apply Aa.AP;rfl;rfl;rfl)|(apply Aa.box;rfl;trivial)|(apply Aa.alloc;rfl)|(apply Aa.Bj;rfl;rfl;rfl;trivial;rfl;rfl;exact Ac rfl;exact le_dec rfl)|(apply Aa.build;rfl;rfl;rfl;rfl;rfl)|(apply Aa.buildSlice;rfl;rfl;rfl;decide;rfl;rfl;rfl)|(apply Aa.not;rfl)|(apply Aa.extract;rfl;rfl)|(apply Ae.Ar;rfl)|(apply Ae.AY;rfl)|(intro _;try (exfalso;omega)))
   all_goals try (exfalso;omega)
   all_goals try contradiction
   all_goals first|((refine Done.ret rfl (.refl _) (by first|exact trivial|exact ⟨trivial,trivial,trivial⟩|exact ⟨trivial,trivial,trivial,trivial⟩) Aj.nil (Nat.zero_le _) (Nat.le_refl _) ⟨?_,rfl,rfl⟩;try rfl);done)|(refine Done.ret rfl (.refl _) (by first|exact trivial|exact ⟨trivial,trivial,trivial⟩|exact ⟨trivial,trivial,trivial,trivial⟩) Aj.nil (Nat.zero_le _) (Nat.le_refl _) ⟨?_,rfl,rfl⟩;refine PV.Gp ?_;simp;done)
  case neg =>
   obtain ⟨ix,hix⟩:∃ ix,ix=a % b.BD.length:=⟨_,rfl⟩
   have hil:ix<b.BD.length:=by rw [hix];exact Nat.mod_lt _ (by omega)
   have hrm:=a1u (a:=a) (n:=b.BD.length) (by omega) hix
   have hbd:=hB.rV ix (by omega)
   have eE:Enc.enc ({ b with BD:=b.BD.set ix (gi b.BD ix+d) }:Na)=[.lst 3 (cells b.cols) b.cols.length,.int .i64 b.total,.lst 3 (cells b.rows) b.rows.length,.lst 3 (cells (b.BD.set ix (gi b.BD ix+d))) b.BD.length]:=by
    show [FV.lst 3 (cells b.cols) b.cols.length,.int .i64 b.total,.lst 3 (cells b.rows) b.rows.length,.lst 3 (cells (b.BD.set ix (gi b.BD ix+d))) (b.BD.set ix (gi b.BD ix+d)).length]=_
    rw [List.length_set]
   have hv:=EK 52 hq.LC { b with BD:=b.BD.set ix (gi b.BD ix+d) }
   have hw:=Eh hq { b with BD:=b.BD.set ix (gi b.BD ix+d) }
   rw [eE] at hv hw
   repeat' (first|(refine Ae.at 20 ?_;refine Ae.ghost (((AX.Bh 3 0 rfl rfl rfl).trans (AX.Bh 3 2 rfl rfl rfl)).trans (AX.Bh 3 3 rfl rfl rfl)) ?_;first|apply Ae.AA|apply Ae.BA)|(refine Ak.atIdx 3 ?_;apply Ak.weak [.tmp 6,.tmp 6];decide +kernel;rfl;rfl;(first|exact DK.ref rfl|exact DK.vec rfl|exact DK.Dx rfl);decide +kernel;rfl)|(refine Ak.atIdx 7 ?_;apply Ak.weak [.tmp 6];decide +kernel;rfl;rfl;(first|exact DK.ref rfl|exact DK.vec rfl|exact DK.Dx rfl);decide +kernel;rfl)|apply Ae.assoc|apply Ae.AA|apply Ae.BA|apply Ae.EZ|apply Ae.Aq|apply Ae.Ai|apply AO.normal|apply AL.normal|apply Ae.ret|apply Ag.nil|apply Ak.nil|apply Ag.one|(apply Ak.bar;decide +kernel)|apply Ak.quiet|(apply Ag.take;rfl;rfl)|(apply Aa.fn;rfl;rfl;exact hkn;intro _;rfl)|(apply Aa.fn;rfl;rfl;exact hfs;intro _;rfl)|(apply Aa.fn;rfl;rfl;exact hm;intro _;rfl)|(apply Aa.fn;rfl;rfl;exact hb;intro _;rfl)|(apply Aa.fn;rfl;rfl;exact hll;intro _;rfl)|(apply Aa.fn;rfl;rfl;exact hv;intro _;rfl)|(apply Aa.fn;rfl;rfl;exact hw;intro _;rfl)|(apply Aa.int;rfl;rfl;exact hrm)|(apply Aa.DT (y:=gi b.BD ix+d);rfl;rfl;rfl;trivial;(first|rfl|(refine congrArg (fun t=>[PV.p (FV.int _ t)]) ?_;first|omega|(simp only [Int.natCast_add,Int.natCast_mul,Int.natCast_ediv,Int.natCast_emod]<;>omega)));rfl;rfl;decide;(first|omega|(simp only [List.length_set]<;>omega)))|(apply Aa.CS (r:=b.cols);rfl;rfl;rfl;rfl;rfl;rfl;(intro _ h;cases h);rfl;rfl;rfl;decide;decide;omega)|(apply Aa.CS (r:=b.rows);rfl;rfl;rfl;rfl;rfl;rfl;(intro _ h;cases h);rfl;rfl;rfl;decide;decide;omega)|(apply Aa.CS (r:=b.BD);rfl;rfl;rfl;rfl;rfl;rfl;(intro _ h;cases h);rfl;rfl;rfl;decide;decide;omega)|(apply Aa.assign;rfl)|(apply Aa.move;rfl)|(apply Aa.Bz;rfl;rfl;omega)|(apply Aa.Jk;rfl;rfl;omega;omega)|(apply Aa.int;rfl;rfl;rfl)|(apply Aa.Dl;rfl;rfl;omega;rfl)|(apply Aa.load;rfl;rfl)|(apply Aa.AQ;rfl;rfl)|(apply Aa.lenV;rfl;rfl;rfl)|(apply Aa.AP;rfl;rfl;rfl)|(apply Aa.box;rfl;trivial)|(apply Aa.alloc;rfl)|(apply Aa.Bj;rfl;rfl;rfl;trivial;rfl;rfl;exact Ac rfl;exact le_dec rfl)|(apply Aa.build;rfl;rfl;rfl;rfl;rfl)|(apply Aa.buildSlice;rfl;rfl;rfl;decide;rfl;rfl;rfl)|(apply Aa.Dc;rfl;rfl;rfl;rfl;omega)|(apply Aa.not;rfl)|(apply Aa.extract;rfl;rfl)|(apply Aa.Hr;rfl;rfl;rfl;rfl;omega)|(apply Ae.Ar;rfl)|(apply Ae.AY;rfl)|(intro _;try (exfalso;omega)))
   all_goals try (exfalso;omega)
   all_goals try contradiction
   all_goals first|((refine Done.ret rfl (.refl _) (by first|exact trivial|exact ⟨trivial,trivial,trivial⟩|exact ⟨trivial,trivial,trivial,trivial⟩) Aj.nil (Nat.zero_le _) (Nat.le_refl _) ⟨?_,rfl,rfl⟩;try rfl);done)|(refine Done.ret rfl (.refl _) (by first|exact trivial|exact ⟨trivial,trivial,trivial⟩|exact ⟨trivial,trivial,trivial,trivial⟩) Aj.nil (Nat.zero_le _) (Nat.le_refl _) ⟨?_,rfl,rfl⟩;refine PV.Gp ?_;simp;done)
end Go.Proofs.YtdabojnmoejilaaGreatDoor
namespace Go.Proofs.YtdabojnmoejilaaGreatDoor
open Go Go.Am Go.Vm
theorem LU {n:Int} (h:(Lit.int .u8 n).wf=true):∃ m:Nat,m<256∧n=m:=by
 simp [Lit.wf,IntKind.min,IntKind.max,IntKind.signed,IntKind.bits] at h
 exact ⟨n.toNat,by omega,by omega⟩
theorem uT {n:Int} (h:(Lit.int .i8 n).wf=true):-128≤n∧n≤127:=by
 simp [Lit.wf,IntKind.min,IntKind.max,IntKind.signed,IntKind.bits] at h
 omega
theorem V6 {α β:Type} {R:β→α→Prop}:∀ {l:List α},(∀ x∈l,∃ y,R y x)→∃ r:List β,Gn R r l
 |[],_=>⟨[],.nil⟩
 |a::l,h=>by
  obtain ⟨y,hy⟩:=h a (by simp)
  obtain ⟨r,hr⟩:=V6 (l:=l) (fun x hx=>h x (by simp [hx]))
  exact ⟨y::r,.cons hy hr⟩
theorem WX {α:Type} [Enc α] {p:α→Prop}:∀ {r:List α} {L:List (List FV)},Gn (fun a fs=>fs=Enc.enc a∧p a) r L→L.flatten=cells r∧L.length=r.length∧∀ i,i<r.length→p (gi r i)
 |_,_,.nil=>⟨rfl,rfl,fun i hi=>by simp at hi⟩
 |a::r,fs::L,.cons ⟨h1,h2⟩ t=>by
  obtain ⟨e1,e2,e3⟩:=WX t
  refine ⟨by rw [List.flatten_cons,e1,h1];rfl,by simp [e2],fun i hi=>?_⟩
  cases i with
  |zero=>exact h2
  |succ i=>exact e3 i (by simpa using hi)
section
variable {α β:Type} {R:α→β→Prop} {a b c d e:α} {r:List β}
theorem vP (h:Gn R [a] r):∃ x,r=[x]∧R a x:=by
 cases h with|cons h1 t=>cases t;exact ⟨_,rfl,h1⟩
theorem VK (h:Gn R [a,b] r):∃ x y,r=[x,y]∧R a x∧R b y:=by
 cases h with|cons h1 t=>obtain ⟨x,rfl,h2⟩:=vP t;exact ⟨_,_,rfl,h1,h2⟩
theorem PW (h:Gn R [a,b,c] r):∃ x y z,r=[x,y,z]∧R a x∧R b y∧R c z:=by
 cases h with|cons h1 t=>obtain ⟨x,y,rfl,h2,h3⟩:=VK t;exact ⟨_,_,_,rfl,h1,h2,h3⟩
theorem Lp (h:Gn R [a,b,c,d] r):∃ x y z w,r=[x,y,z,w]∧R a x∧R b y∧R c z∧R d w:=by
 cases h with|cons h1 t=>obtain ⟨x,y,z,rfl,h2,h3,h4⟩:=PW t;exact ⟨_,_,_,_,rfl,h1,h2,h3,h4⟩
theorem ng (h:Gn R [a,b,c,d,e] r):∃ x y z w v,r=[x,y,z,w,v]∧R a x∧R b y∧R c z∧R d w∧R e v:=by
 cases h with|cons h1 t=>obtain ⟨x,y,z,w,rfl,h2,h3,h4,h5⟩:=Lp t;exact ⟨_,_,_,_,_,rfl,h1,h2,h3,h4,h5⟩
end
theorem cZ {j:Nat} {fs:List FV} (h:EN Tryz.prog (j+1) 4 fs):∃ b:Bool,fs=[.bool b]:=by
 simp only [EN,Tryz.underlying4] at h
 exact h
theorem a5y {α:Type} {l:List α} (h:l.length=5):∃ a b c d e,l=[a,b,c,d,e]:=by
 match l,h with|[a,b,c,d,e],_=>exact ⟨a,b,c,d,e,rfl⟩
theorem ql {j:Nat} {fs:List FV} (h:EN Tryz.prog (j+3) 150 fs):∃ x:Gg,fs=x.enc∧x.Ok:=by
 simp only [EN,Tryz.underlying150,Tryz.underlying5,Tryz.underlying64,Tryz.underlying27] at h
 obtain ⟨parts,rfl,hp⟩:=h
 obtain ⟨a,b,c,d,e,rfl,⟨n1,rfl,h1⟩,⟨n2,rfl,h2⟩,⟨n3,rfl,h3⟩,⟨n4,rfl,h4⟩,L,rfl,hl,hL⟩:=ng hp
 obtain ⟨m1,q1,rfl⟩:=LU h1
 obtain ⟨m2,q2,rfl⟩:=LU h2
 obtain ⟨m4,q4,rfl⟩:=LU h4
 obtain ⟨a,b,c,d,e,rfl⟩:=a5y hl
 obtain ⟨w0,rfl,g0⟩:=hL a (by simp)
 obtain ⟨w1,rfl,g1⟩:=hL b (by simp)
 obtain ⟨w2,rfl,g2⟩:=hL c (by simp)
 obtain ⟨w3,rfl,g3⟩:=hL d (by simp)
 obtain ⟨w4,rfl,g4⟩:=hL e (by simp)
 obtain ⟨v0,k0,rfl⟩:=LU g0
 obtain ⟨v1,k1,rfl⟩:=LU g1
 obtain ⟨v2,k2,rfl⟩:=LU g2
 obtain ⟨v3,k3,rfl⟩:=LU g3
 obtain ⟨v4,k4,rfl⟩:=LU g4
 refine ⟨⟨m1,m2,n3,m4,[v0,v1,v2,v3,v4]⟩,rfl,q1,q2,uT h3,q4,fun i=>?_⟩
 match i with
 |0=>exact k0
 |1=>exact k1
 |2=>exact k2
 |3=>exact k3
 |4=>exact k4
 |n+5=>simp [gi]
end Go.Proofs.YtdabojnmoejilaaGreatDoor
namespace Go.Proofs.YtdabojnmoejilaaGreatDoor
open Go Go.Am Go.Vm
theorem Hw {P:Program} {n:Nat} {t:TypeId} {fs:List FV} {sf:Array Field} (h:EN P (n+1) t fs) (hu:P.underlying t=some (.struct sf)):∃ parts:List (List FV),fs=parts.flatten∧Gn (fun (fd:Field) x=>EN P n fd.type x) sf.toList parts:=by
 unfold EN at h;rw [hu] at h;exact h
theorem LM {P:Program} {n:Nat} {t e:TypeId} {fs:List FV} {α:Type} [Enc α] {p:α→Prop} (h:EN P (n+1) t fs) (hu:P.underlying t=some (.slice e)) (he:∀ x,EN P n e x→∃ a:α,x=Enc.enc a∧p a):∃ l:List α,fs=[.lst e (cells l) l.length]∧l.length≤maxLen∧∀ i,i<l.length→p (gi l i):=by
 unfold EN at h;rw [hu] at h
 obtain ⟨L,rfl,hl,hL⟩:=h
 obtain ⟨r,hr⟩:=V6 (R:=fun (a:α) fs=>fs=Enc.enc a∧p a) (l:=L) (fun x hx=>he x (hL x hx))
 obtain ⟨e1,e2,e3⟩:=WX hr
 exact ⟨r,by rw [e1,e2],by omega,e3⟩
theorem FB {j:Nat} {fs:List FV} (h:EN Tryz.prog (j+1) 5 fs):∃ n:Nat,fs=[.int .u8 (n:Int)]∧n<256:=by
 simp only [EN,Tryz.underlying5] at h
 obtain ⟨n,rfl,hn⟩:=h
 obtain ⟨m,q,rfl⟩:=LU hn
 exact ⟨m,rfl,q⟩
theorem qM {j:Nat} {fs:List FV} (h:EN Tryz.prog (j+1) 64 fs):∃ n:Int,fs=[.int .i8 n]∧-128≤n∧n≤127:=by
 simp only [EN,Tryz.underlying64] at h
 obtain ⟨n,rfl,hn⟩:=h
 exact ⟨n,rfl,uT hn⟩
theorem sN {j:Nat} {fs:List FV} (h:EN Tryz.prog (j+2) 72 fs):∃ x:ni,fs=Enc.enc x∧x.Ok:=by
 obtain ⟨parts,rfl,hp⟩:=Hw h Tryz.underlying72
 obtain ⟨a,b,c,d,rfl,h1,h2,h3,h4⟩:=Lp hp
 obtain ⟨m1,rfl,q1⟩:=FB (j:=j) h1
 obtain ⟨m2,rfl,q2⟩:=FB (j:=j) h2
 obtain ⟨m3,rfl,q3⟩:=FB (j:=j) h3
 obtain ⟨m4,rfl,q4⟩:=FB (j:=j) h4
 exact ⟨⟨m1,m2,m3,m4⟩,rfl,q1,q2,q3,q4⟩
theorem qm {j:Nat} {fs:List FV} (h:EN Tryz.prog (j+4) 75 fs):∃ x:nT,fs=Enc.enc x∧x.Ok:=by
 obtain ⟨parts,rfl,hp⟩:=Hw h Tryz.underlying75
 obtain ⟨a,b,c,d,rfl,h1,h2,h3,h4⟩:=Lp hp
 obtain ⟨m1,rfl,q1⟩:=FB (j:=j+2) h1
 obtain ⟨m2,rfl,q2⟩:=FB (j:=j+2) h2
 obtain ⟨m3,rfl⟩:=cZ (j:=j+2) h3
 obtain ⟨l,rfl,hl,hL⟩:=LM (n:=j+2) (p:=ni.Ok) h4 Tryz.underlying73 (fun x hx=>sN hx)
 exact ⟨⟨m1,m2,m3,l⟩,rfl,q1,q2,by simp only [maxLen] at hl;simp only;omega,hL⟩
theorem uf {j:Nat} {fs:List FV} (h:EN Tryz.prog (j+2) 153 fs):∃ x:sZ,fs=Enc.enc x∧x.Ok:=by
 obtain ⟨parts,rfl,hp⟩:=Hw h Tryz.underlying153
 obtain ⟨a,b,c,d,rfl,h1,h2,h3,h4⟩:=Lp hp
 obtain ⟨m1,rfl,q1⟩:=FB (j:=j) h1
 obtain ⟨m2,rfl,q2⟩:=FB (j:=j) h2
 obtain ⟨m3,rfl,q3⟩:=qM (j:=j) h3
 obtain ⟨m4,rfl⟩:=cZ (j:=j) h4
 exact ⟨⟨m1,m2,m3,m4⟩,rfl,q1,q2,q3⟩
theorem XZ {j:Nat} {fs:List FV} (h:EN Tryz.prog (j+6) 26 fs):∃ x:nO,fs=x.enc∧x.Ok:=by
 obtain ⟨parts,rfl,hp⟩:=Hw h Tryz.underlying26
 obtain ⟨a,b,c,rfl,h1,h2,h3⟩:=PW hp
 obtain ⟨l1,rfl,n1,g1⟩:=LM (n:=j+4) (p:=Gg.Ok) h1 Tryz.underlying22 (fun x hx=>ql (j:=j+1) hx)
 obtain ⟨l2,rfl,n2,g2⟩:=LM (n:=j+4) (p:=nT.Ok) h2 Tryz.underlying23 (fun x hx=>qm hx)
 obtain ⟨l3,rfl,n3,g3⟩:=LM (n:=j+4) (p:=sZ.Ok) h3 Tryz.underlying24 (fun x hx=>uf (j:=j+2) hx)
 simp only [maxLen] at n1 n2 n3
 exact ⟨⟨l1,l2,l3⟩,rfl,g1,g2,g3,by simp only;omega,by simp only;omega,by simp only;omega⟩
end Go.Proofs.YtdabojnmoejilaaGreatDoor
namespace Go.Proofs.YtdabojnmoejilaaGreatDoor
open Go Go.Am Go.Vm
theorem a4l {α:Type} {L:List α} (h:L.length=5):∃ a b c d e,L=[a,b,c,d,e]:=by
 match L,h with
 |[a,b,c,d,e],_=>exact ⟨a,b,c,d,e,rfl⟩
theorem pK {j:Nat} {fs:List FV} (h:EN Tryz.prog (j+2) 27 fs):∃ b:Nat→Nat,fs=rM b∧∀ i,b i<256:=by
 obtain ⟨L,rfl,hl,hL⟩:=EN.array h Tryz.underlying27
 obtain ⟨a,b,c,d,e,rfl⟩:=a4l hl
 obtain ⟨m1,rfl,q1⟩:=FB (j:=j) (hL a (by simp))
 obtain ⟨m2,rfl,q2⟩:=FB (j:=j) (hL b (by simp))
 obtain ⟨m3,rfl,q3⟩:=FB (j:=j) (hL c (by simp))
 obtain ⟨m4,rfl,q4⟩:=FB (j:=j) (hL d (by simp))
 obtain ⟨m5,rfl,q5⟩:=FB (j:=j) (hL e (by simp))
 exact ⟨fun i=>if i=0 then m1 else if i=1 then m2 else if i=2 then m3 else if i=3 then m4 else m5,rfl,fun i=>by simp only;split<;>(try split)<;>(try split)<;>(try split)<;>omega⟩
end Go.Proofs.YtdabojnmoejilaaGreatDoor
namespace Go.Proofs.YtdabojnmoejilaaGreatDoor
open Go Go.Am Go.Vm
theorem list4 {α:Type} {L:List α} (h:L.length=4):∃ a b c d,L=[a,b,c,d]:=by
 match L,h with
 |[a,b,c,d],_=>exact ⟨a,b,c,d,rfl⟩
theorem mX {j:Nat} {fs:List FV} (h:EN Tryz.prog (j+2) 28 fs):∃ b:Nat→Nat,fs=[.int .u8 (b 0:Int),.int .u8 (b 1:Int),.int .u8 (b 2:Int),.int .u8 (b 3:Int)]∧∀ i,b i<256:=by
 obtain ⟨L,rfl,hl,hL⟩:=EN.array h Tryz.underlying28
 obtain ⟨a,b,c,d,rfl⟩:=list4 hl
 obtain ⟨m1,rfl,q1⟩:=FB (j:=j) (hL a (by simp))
 obtain ⟨m2,rfl,q2⟩:=FB (j:=j) (hL b (by simp))
 obtain ⟨m3,rfl,q3⟩:=FB (j:=j) (hL c (by simp))
 obtain ⟨m4,rfl,q4⟩:=FB (j:=j) (hL d (by simp))
 exact ⟨fun i=>if i=0 then m1 else if i=1 then m2 else if i=2 then m3 else m4,rfl,fun i=>by simp only;split<;>(try split)<;>(try split)<;>omega⟩
theorem oL {j:Nat} {fs:List FV} (h:EN Tryz.prog (j+7) 30 fs):∃ x:qC,fs=x.enc∧x.Ok:=by
 obtain ⟨parts,rfl,hp⟩:=Hw h Tryz.underlying30
 obtain ⟨a,b,c,d,rfl,h1,h2,h3,h4⟩:=Lp hp
 obtain ⟨x1,rfl,k1⟩:=XZ (j:=j) h1
 obtain ⟨x2,rfl,k2⟩:=XZ (j:=j) h2
 obtain ⟨b5,rfl,k3⟩:=pK (j:=j+4) h3
 obtain ⟨b4,rfl,k4⟩:=mX (j:=j+4) h4
 exact ⟨⟨x1,x2,b5,b4⟩,rfl,k1,k2,k3,k4⟩
end Go.Proofs.YtdabojnmoejilaaGreatDoor
namespace Go.Proofs.YtdabojnmoejilaaGreatDoor
open Go Go.Am Go.Vm
theorem o9 {j:Nat} {fs:List FV} (h:EN Tryz.prog (j+2) 66 fs):∃ (k a:Nat) (d:Int),fs=[.int .u8 (k:Int),.int .u8 (a:Int),.int .i8 d]∧k<256∧a<256∧-128≤d∧d≤127:=by
 obtain ⟨parts,rfl,hp⟩:=Hw h Tryz.underlying66
 obtain ⟨a,b,c,rfl,h1,h2,h3⟩:=PW hp
 obtain ⟨m1,rfl,q1⟩:=FB (j:=j) h1
 obtain ⟨m2,rfl,q2⟩:=FB (j:=j) h2
 obtain ⟨m3,rfl,q3⟩:=qM (j:=j) h3
 exact ⟨m1,m2,m3,rfl,q1,q2,q3⟩
end Go.Proofs.YtdabojnmoejilaaGreatDoor
