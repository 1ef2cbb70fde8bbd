/-
  Texts of a proof, merged (IntB, FraA, RkB, RkC, OrA, OrB, RkA, RkD, RkE, RkF, RkG, RkH, RkI). Conditions: in each statement.
-/
import Derived.Test.YtnjkoebfgcbbdaaGreatDoorKLh
set_option linter.unusedSimpArgs false
set_option linter.unusedVariables false
set_option linter.unusedSectionVars false
set_option maxRecDepth 100000
set_option maxHeartbeats 8000000
abbrev dx:=@Int.toNat_of_nonneg
abbrev dE:=@Int.natCast_mul
abbrev en:=@Nat.pow_lt_pow_iff_right
abbrev fu:=@Nat.pow_lt_pow_left
abbrev fI:=@Nat.mul_lt_mul_of_lt_of_le
abbrev gz:=@Nat.mul_one
abbrev ie:=@Nat.le_of_lt
namespace Go.Proofs.YtnjkoebfgcbbdaaGreatDoor
section
open Go Go.Am Go.Vm
attribute [local irreducible] Aa Aj Ah Ad AP Ap Bd BL Bf Ag Vm.Done BA AB
theorem a4m {L:Vm.Frame} {H:Vm.Heap} {nx:Nat} {Q:PV→Vm.Heap→Nat→Prop} {dst:Option Tmp} {ty:TypeId} {pos:String} {af:Array Edge} {gd:Option (Nat×Bool)} {fo:Operand} {args:Array Operand} {aT:Array TypeId} {fs cs xs:List PV} {c:Code}
 (hf:AU env.Γ L fo=some (.clo 104 fs cs)) (ha:evs env.Γ L args.toList=some xs) (hb:Tryz.f104.body=some c) (hn:(fs++xs++cs).length≤Tryz.f104.ntmps)
 (h:Ad env nx c (Ci 0 (fs++xs++cs)) H nx (AB env.P Tryz.f104.results.toList Q)):Aa env true ⟨dst,.call { callee:=.value fo,args:=args,argTypes:=aT },ty,pos,af,gd⟩ L H nx Q:=by
 have h0:(match Tryz.f104.body with|some c=>Iz env.G Tryz.f104 c|none=>false)=true:=by kernel_rfl
 rw [hb] at h0;exact Aa.inline rfl hf ha (Ae (by decide)) Tryz.func104 hb h0 hn h
theorem a8a {L:Vm.Frame} {H:Vm.Heap} {nx:Nat} {Q:PV→Vm.Heap→Nat→Prop} {dst:Option Tmp} {ty:TypeId} {pos:String} {af:Array Edge} {gd:Option (Nat×Bool)} {fo:Operand} {args:Array Operand} {aT:Array TypeId} {fs cs xs:List PV} {c:Code}
 (hf:AU env.Γ L fo=some (.clo 103 fs cs)) (ha:evs env.Γ L args.toList=some xs) (hb:Tryz.f103.body=some c) (hn:(fs++xs++cs).length≤Tryz.f103.ntmps)
 (h:Ad env nx c (Ci 0 (fs++xs++cs)) H nx (AB env.P Tryz.f103.results.toList Q)):Aa env true ⟨dst,.call { callee:=.value fo,args:=args,argTypes:=aT },ty,pos,af,gd⟩ L H nx Q:=by
 have h0:(match Tryz.f103.body with|some c=>Iz env.G Tryz.f103 c|none=>false)=true:=by kernel_rfl
 rw [hb] at h0;exact Aa.inline rfl hf ha (Ae (by decide)) Tryz.func103 hb h0 hn h
theorem qV {L:Vm.Frame} {H:Vm.Heap} {nx:Nat} {Q:PV→Vm.Heap→Nat→Prop} {dst:Option Tmp} {ty:TypeId} {pos:String} {af:Array Edge} {gd:Option (Nat×Bool)} {fo:Operand} {args:Array Operand} {aT:Array TypeId} {fs cs xs:List PV} {c:Code}
 (hf:AU env.Γ L fo=some (.clo 144 fs cs)) (ha:evs env.Γ L args.toList=some xs) (hb:Tryz.f144.body=some c) (hn:(fs++xs++cs).length≤Tryz.f144.ntmps)
 (h:Ad env nx c (Ci 0 (fs++xs++cs)) H nx (AB env.P Tryz.f144.results.toList Q)):Aa env true ⟨dst,.call { callee:=.value fo,args:=args,argTypes:=aT },ty,pos,af,gd⟩ L H nx Q:=by
 have h0:(match Tryz.f144.body with|some c=>Iz env.G Tryz.f144 c|none=>false)=true:=by kernel_rfl
 rw [hb] at h0;exact Aa.inline rfl hf ha (Ae (by decide)) Tryz.func144 hb h0 hn h
theorem ny (n:Nat):¬ (List.take 1 (Lib.decDigits n)=[45]):=fun h=>by
 have h1:=Num.J3 n 45 (fk (by rw [h];simp));grind
theorem b2q (n:Nat):0<(Lib.decDigits n).length:=by rw [Lib.decDigits_length];exact Lib.nDigits_pos n
theorem b2t {a b:Nat} (h:Lib.decDigits a=Lib.decDigits b):a=b:=by
 have h1:Lib.nDigits a=Lib.nDigits b:=by rw [← Lib.decDigits_length,← Lib.decDigits_length,h]
 rw [Num.Ey,Num.Ey,h1] at h;have:=congrArg Num.parse h;rw [Num.Ua,Num.Ua,bq (by rw [← h1];exact Lib.lt_pow_nDigits a),bq (Lib.lt_pow_nDigits b)] at this;omega
theorem qG (a:Nat):Lib.decDigits a=[48]↔a=0:=by
 have:Lib.decDigits 0=[48]:=by rw [Lib.decDigits_one (by decide)];rfl
 rw [← this];exact ⟨b2t,fun h=>by rw [h]⟩
theorem a0l (n:Nat):Num.parse (Lib.decDigits n)=n:=by
 rw [Num.Ey,Num.Ua,bq (Lib.lt_pow_nDigits n)]
theorem a6x (n:Nat):Ap env 54 [.str (bs (Lib.decDigits n)),.str (bs [45])] (.D9 [st (Lib.decDigits n),.p (.bool false)]):=by
 refine Ap.enter (Ae (by decide)) Tryz.func54 rfl (by kernel_rfl) (by simp) ?_;have h1:=ny n;have h2:=b2q n
 repeat' (first|(apply a4m;rfl;rfl;rfl;exact le_dec rfl)|(apply qV;rfl;rfl;rfl;exact le_dec rfl)|(apply Aa.LG;rfl;rfl)|refine O8 ?_|(apply AB.ret;rfl)|(apply Aj.guard;rfl;rfl)|(apply Aa.eqS;rfl;rfl)|(apply Aa.pO;rfl;rfl;rfl;omega)|(apply Aa.wG;rfl;rfl;rfl;omega)|(apply Ad.AV;rfl)|(apply Ad.QS;rfl)|(intro _))
 ·refine Done.rt rfl rfl ⟨?_,rfl,rfl⟩
  rfl
 ·grind
 grind
theorem cut_spec' (n:Nat):Ap env 54 [.str (bs (Lib.decDigits n)),.str ⟨#[45]⟩] (.D9 [st (Lib.decDigits n),.p (.bool false)]):=a6x n
theorem Td (n:Nat) (hn:Lib.nDigits n<900000):Ap env 92 [.str (bs (Lib.decDigits n))] (.D9 [lst 82 (Num.toL n),.p (.bool false)]):=by
 refine Ap.enter (Ae (by decide)) Tryz.func92 rfl (by kernel_rfl) (by simp) ?_
 repeat' (first|(apply Aa.fn;rfl;rfl;exact cut_spec' n;intro _;rfl)|(apply Aa.fn;rfl;rfl;exact a3b n hn;intro _;rfl)|refine go2 ?_|fail)
 ·refine Done.rt rfl rfl ⟨?_,rfl,rfl⟩
  rfl
theorem XA (n:Nat) (hn:(Num.toL n).length<1000000):Ap env 93 [.lst 82 (cells (Num.toL n)) (Num.toL n).length,.bool false] (st (Lib.decDigits n)):=by
 refine Ap.enter (Ae (by decide)) Tryz.func93 rfl (by kernel_rfl) (by simp) ?_;have ht:=qC (Num.toL n) (Num.L9 n) (by omega);rw [Num.fH] at ht
 repeat' (first|(apply Aa.fn;rfl;rfl;exact ht;intro _;rfl)|refine IE ?_|(apply Ad.Ai;rfl))
 ·refine Done.rt rfl rfl ⟨?_,rfl,rfl⟩
  rfl
theorem Yh (n:Int) (h:-9223372036854775808≤n∧n≤9223372036854775807):Ap env 18 [.int .i64 n] (st (Lib.itoa n)):=by
 refine Ap.enter (Ae (by decide)) Tryz.func18 rfl (by kernel_rfl) (by simp) ?_
 repeat' (first|(apply Aa.fn;rfl;rfl;exact a5p n h;intro _;rfl)|refine go2 ?_|fail)
 ·refine Done.rt rfl rfl ⟨?_,rfl,rfl⟩
  rfl
theorem a5e (n:Nat):Lib.itoa (n:Int)=Lib.decDigits n:=by rfl
theorem NU (n g:Nat) (hg:g≤18):Ap env 91 [.str (bs (Lib.decDigits n)),.int .i64 (g:Int)] (.D9 [.p (.int .i64 ((if Lib.nDigits n≤g then n else 0:Nat):Int)),.p (.bool (decide (Lib.nDigits n≤g)))]):=by
 refine Ap.enter (Ae (by decide)) Tryz.func91 rfl (by kernel_rfl) (by simp) ?_;have hl:=Lib.decDigits_length n;by_cases hng:Lib.nDigits n≤g
 ·rw [if_pos hng,decide_eq_true hng]
  obtain ⟨d,hd⟩:∃ d,d=Lib.decDigits n:=⟨_,rfl⟩
  have hc:=cut_spec' n;rw [← hd] at hl hc ⊢;have hdig:∀ i,i<d.length→48≤(gi d i).toNat∧(gi d i).toNat≤57:=fun i hi=>qN (p:=fun c=>48≤c.toNat∧c.toNat≤57) (by rw [hd];exact Num.J3 n) i hi
  have hpv:∀ j,j≤d.length→Num.parse (d.take j)<1000000000000000000:=fun j hj=>by
   have h1:=Num.sN (d.take j) (fun c hc=>by
    have hm:=fk hc;rw [hd] at hm;exact Num.J3 n c hm)
   rw [ax,cI hj] at h1;have h2:10 ^ j≤10 ^ 18:=az (by decide) (by omega);omega
  repeat' (first|(apply Aa.fn;rfl;rfl;exact hc;intro _;rfl)|(apply Aa.lenV;rfl;rfl;rfl)|(apply Aa.LG;rfl;rfl)|refine go2 ?_|(apply Aa.int;rfl;rfl;rfl)|(apply Aa.toBytes;rfl;rfl;rfl;rfl;rfl;rfl;omega)|(apply Ad.Ac;rfl)|(intro _;try (exfalso;omega)))
  refine Ad.DJ (fun j:Nat=>[(7,.p (.bool false)),(8,.p (.int .i64 ((Num.parse (d.take j):Nat):Int))),(21,.vec 0 d.length 0 d.length),(22,.p (.int .i64 d.length)),(23,.p (.int .i64 (j:Int)))])
   (fun _=>[(0,.vec 5 (cells d) d.length false)]) 1 (fun j=>j≤d.length) (fun j=>d.length-j) 0 (by omega) (by omega) ⟨ab _,?_,?_⟩ ?_
  ·exact C9
  ·exact DT
  intro j hj;have hv:=hpv j hj;by_cases hlj:j<d.length
  ·have hd2:=hdig j hlj
   have hv2:=hpv (j+1) hlj;rw [Num.parse_snoc' d j hlj] at hv2
   repeat' (first|(apply Aa.D5;rfl;rfl;rfl;rfl;omega)|refine IG ?_|(apply Aa.Hw;rfl;rfl;rfl;rfl;omega)|(apply Ad.Ac;rfl)|(intro _;try (exfalso;omega)))
   refine Ag.normal ⟨j+1,by omega,by omega,⟨by omega,?_,?_⟩⟩
   ·rw [Num.parse_snoc' d j hlj,Int.natCast_add,dE];exact C9
   ·exact DT
  ·have hjp:j=d.length:=by omega
   subst hjp
   repeat' (first|refine IG ?_|(apply Ad.Ai;rfl)|(apply Ad.Ac;rfl)|(intro _;try (exfalso;omega)))
   ·refine Done.rt rfl rfl ⟨?_,rfl,rfl⟩
    rw [co,hd,a0l]
 ·rw [if_neg hng,decide_eq_false hng]
  repeat' (first|(apply Aa.fn;rfl;rfl;exact cut_spec' n;intro _;rfl)|(apply Aa.LG;rfl;rfl)|refine go2 ?_|(apply Aa.int;rfl;rfl;rfl)|(apply Ad.Ac;rfl)|(intro _;try (exfalso;omega)))
  ·refine Done.rt rfl rfl ⟨?_,rfl,rfl⟩
   rfl
end
section
open Go Go.Am Go.Vm
attribute [local irreducible] Aa Aj Ah Ad AP Ap Bd BL Bf Ag Vm.Done BA AB
theorem toL_short {x K:Nat} (h:x<10 ^ K) (hK:K<900000):(Num.toL x).length<200000:=by
 have h1:x<Num.B9 ^ (K / 9+1):=by
  refine ag h ?_;rw [show Num.B9 ^ (K / 9+1)=10 ^ (9*(K / 9+1)) by rw [dq]];exact az (by decide) (by omega)
 have:=Num.toL_len_le x (K / 9+1) h1;omega
theorem b0g (e i:Nat):e &&& 2 ^ i=if e / 2 ^ i % 2=1 then 2 ^ i else 0:=by
 apply Nat.eq_of_testBit_eq;grind
theorem ZB (n e:Nat) (he:e≤6000) (hne:e*Lib.nDigits n≤24000) (hn:Lib.nDigits n<100000):Ap env 195 [.str (bs (Lib.decDigits n)),.int .i64 (e:Int)] (.D9 [st (Lib.decDigits (n ^ e)),.p (.int .i64 0)]):=by
 refine Ap.enter (Ae (by decide)) Tryz.func195 rfl (by kernel_rfl) (by simp [Tryz.ntmps195]) ?_;have hlt:=Lib.lt_pow_nDigits n;have hnl:=toL_short hlt (by omega);obtain ⟨K,hK⟩:∃ K:Nat,K=24000:=⟨_,rfl⟩
 rw [← hK] at hne;have xu:∀ k,k≤e→(Num.toL (n ^ k)).length<200000:=fun k hk=>by
  refine toL_short (K:=K) ?_ (by omega);have h1:n ^ k≤(10 ^ Lib.nDigits n) ^ k:=Nat.pow_le_pow_left (ie hlt) k;rw [← dq] at h1;rcases bm k with h0|h0
  ·rw [h0,ej];exact Nat.one_lt_pow (by omega) (by decide)
  ·have h2:n ^ k<(10 ^ Lib.nDigits n) ^ k:=fu hlt (by omega)
   rw [← dq] at h2;refine ag h2 (az (by decide) ?_);have:=bX (Lib.nDigits n) hk;rw [dc (Lib.nDigits n) e] at this;omega
 have htx:=qC (Num.toL n) (Num.L9 n) (by omega);rw [Num.fH] at htx;have hdl:=Lib.decDigits_length n;have hmul:(e:Int)*((Lib.decDigits n).length:Int)≤24000:=by rw [hK] at hne;rw [hdl];exact_mod_cast hne
 have c6h:(0:Int)≤(e:Int)*((Lib.decDigits n).length:Int):=by rw [hdl,← dE];omega
 repeat' (first|(apply Aa.fn;rfl;rfl;exact Td n (by omega);intro _;rfl)|(apply Aa.fn;rfl;rfl;exact htx;intro _;rfl)|(apply Aa.LG;rfl;rfl)|refine IE ?_|(apply Aa.int;rfl;rfl;rfl)|(apply Aa.buildSlice;rfl;rfl;rfl;decide;rfl;rfl;rfl)|(apply Ad.Ac;rfl)|(intro _;try (exfalso;omega)))
 refine Ad.ghost (Aw.freeze 8 rfl rfl) ?_;have one:Num.toL 1=[1]:=by rw [Num.toL_pos (by decide),show 1 / Num.B9=0 by decide,Num.toL_zero];rfl
 have e14:e / 2 ^ 14=0:=eV (by omega);refine Ad.DJ (fun b:Nat=>[(1,.p (.int .i64 (e:Int))),(6,lst 82 (Num.toL n)),(7,.p (.bool false)),(8,lst 82 (Num.toL (n ^ (e / 2 ^ b)))),(9,.p (.int .i64 ((2 ^ b / 2:Nat):Int)))]) (fun _=>[]) 1 (fun b=>b≤14) (fun b=>b) 14 (by omega) (by omega) ⟨ab _,?_,?_⟩ ?_
 ·rw [e14,ej,one];exact C9
 ·exact BJ.nil
 intro b hb;rcases bm b with hb0|hb0
 ·subst hb0
  have hlen:=xu e (ab _);have hs:=XA (n ^ e) (by omega);rw [ej,Nat.div_one]
  repeat' (first|(apply Aa.fn;rfl;rfl;exact hs;intro _;rfl)|refine IE ?_|(apply Aa.int;rfl;rfl;rfl)|(apply Ad.Ai;rfl))
  ·(refine Done.rt rfl rfl ⟨?_,rfl,rfl⟩;try rfl)
 ·obtain ⟨i,rfl⟩:∃ i,b=i+1:=⟨b-1,by omega⟩
  have hp1:2 ^ (i+1) / 2=2 ^ i:=by rw [bO,Nat.mul_div_cancel _ (by decide)]
  have hp0:0<2 ^ i:=cW (by decide);have c8q:2 ^ i≤2 ^ 13:=az (by decide) (by omega);rw [hp1];have hle:e / 2 ^ (i+1)≤e:=Nat.div_le_self _ _;have h1:=Tq (Num.toL (n ^ (e / 2 ^ (i+1)))) (Num.toL (n ^ (e / 2 ^ (i+1)))) (Num.L9 _) (Num.L9 _) (by have:=xu _ hle;omega) (by have:=xu _ hle;omega);rw [Num.UL] at h1;have hle2:e / 2 ^ (i+1)+e / 2 ^ (i+1)≤e:=by
   have h2:e / 2 ^ (i+1)*2 ^ (i+1)≤e:=Nat.div_mul_le_self _ _;have h3:e / 2 ^ (i+1)*2≤e / 2 ^ (i+1)*2 ^ (i+1):=bX _ (by rw [bO];omega);omega
  have h2:=Tq (Num.toL (n ^ (e / 2 ^ (i+1))*n ^ (e / 2 ^ (i+1)))) (Num.toL n) (Num.L9 _) (Num.L9 _) (by rw [← cy];have:=xu _ hle2;omega) (by omega);rw [Num.UL,Num.UL] at h2;have hbit:=Num.b2a n e i;have hand:=b0g e i;by_cases hb1:e / 2 ^ i % 2=1
  ·rw [if_pos hb1] at hbit hand
   repeat' (first|(apply Aa.fn;rfl;rfl;exact h1;intro _;rfl)|(apply Aa.fn;rfl;rfl;exact h2;intro _;rfl)|refine IE ?_|(apply Aa.int;rfl;rfl;rfl)|(apply Aa.jK;rfl;rfl;(simp only [IntKind.bits];omega))|(apply Ad.Ac;rfl)|(apply Ad.Ar;rfl)|(intro _;try (exfalso;omega)))
   all_goals try (exfalso;rename_i hx;rw [hand] at hx;omega)
   refine Ag.normal ⟨i,by omega,by omega,⟨by omega,?_,?_⟩⟩
   ·rw [← hbit];exact C9
   ·exact BJ.nil
  ·rw [if_neg hb1,gz] at hbit
   rw [if_neg hb1] at hand
   repeat' (first|(apply Aa.fn;rfl;rfl;exact h1;intro _;rfl)|refine IE ?_|(apply Aa.int;rfl;rfl;rfl)|(apply Aa.jK;rfl;rfl;(simp only [IntKind.bits];omega))|(apply Ad.Ac;rfl)|(apply Ad.Ar;rfl)|(intro _;try (exfalso;omega)))
   all_goals try (exfalso;rename_i hx;rw [hand] at hx;omega)
   refine Ag.normal ⟨i,by omega,by omega,⟨by omega,?_,?_⟩⟩
   ·rw [← hbit];exact C9
   ·exact BJ.nil
theorem nG (a b:Nat) (ha:Lib.nDigits a<400000) (hb:Lib.nDigits b<400000):Ap env 196 [.str (bs (Lib.decDigits a)),.str (bs (Lib.decDigits b))] (st (Lib.decDigits (a*b))):=by
 refine Ap.enter (Ae (by decide)) Tryz.func196 rfl (by kernel_rfl) (by simp) ?_;have qa:=NU a 9 (by decide);have qb:=NU b 9 (by decide);have la:=Lib.lt_pow_nDigits a;have lb:=Lib.lt_pow_nDigits b;have hla:=toL_short la (by omega);have hlb:=toL_short lb (by omega);have ht:=Tq (Num.toL a) (Num.toL b) (Num.L9 _) (Num.L9 _) (by omega) (by omega);rw [Num.UL,Num.UL] at ht;have hlab:(Num.toL (a*b)).length<200000:=toL_short (K:=Lib.nDigits a+Lib.nDigits b) (by
  rw [cy];exact fI la (ie lb) (cW (by decide))) (by omega)
 have hs:=XA (a*b) (by omega);by_cases h9:Lib.nDigits a≤9∧Lib.nDigits b≤9
 ·rw [if_pos h9.1,decide_eq_true h9.1] at qa
  rw [if_pos h9.2,decide_eq_true h9.2] at qb;have ha9:a<1000000000:=ag la (az (n:=10) (by decide) h9.1);have hb9:b<1000000000:=ag lb (az (n:=10) (by decide) h9.2);have hab:a*b≤999999999*999999999:=cP (by omega) (by omega);have c8j:(a:Int)*(b:Int)=((a*b:Nat):Int):=(dE a b).symm;have ho:=Yh ((a:Int)*(b:Int)) (by omega)
  repeat' (first|(apply Aa.fn;rfl;rfl;exact qa;intro _;rfl)|(apply Aa.fn;rfl;rfl;exact qb;intro _;rfl)|(apply Aa.fn;rfl;rfl;exact ho;intro _;rfl)|refine go2 ?_|(apply Ad.AV;rfl))
  ·refine Done.rt rfl rfl ⟨?_,rfl,rfl⟩
   rfl
 ·repeat' (first|(apply Aa.fn;rfl;rfl;exact qa;intro _;rfl)|(apply Aa.fn;rfl;rfl;exact qb;intro _;rfl)|(apply Aa.fn;rfl;rfl;exact Td a (by omega);intro _;rfl)|(apply Aa.fn;rfl;rfl;exact Td b (by omega);intro _;rfl)|(apply Aa.fn;rfl;rfl;exact ht;intro _;rfl)|(apply Aa.fn;rfl;rfl;exact hs;intro _;rfl)|refine go2 ?_|(apply Aa.neB;rfl;rfl;rfl)|(apply Ad.Ac;rfl)|(intro _;try (exfalso;omega)))
  all_goals (refine Done.rt rfl rfl ⟨?_,rfl,rfl⟩;try rfl)
theorem gJ (n:Nat):Ap env 53 [.str (bs (Lib.decDigits n))] (.p (.int .i64 (if n=0 then 0 else 1))):=by
 refine Ap.enter (Ae (by decide)) Tryz.func53 rfl (by kernel_rfl) (by simp) ?_;have h1:=ny n;have h3:=qG n
 repeat' (first|(apply a8a;rfl;rfl;rfl;exact le_dec rfl)|(apply qV;rfl;rfl;rfl;exact le_dec rfl)|(apply Aa.LG;rfl;rfl)|refine O8 ?_|(apply AB.ret;rfl)|(apply Aj.guard;rfl;rfl)|(apply Aa.eqS;rfl;rfl)|(apply Aa.pO;rfl;rfl;rfl;omega)|(apply Ad.cond_false;rfl)|(apply Ad.Ar;rfl)|(intro _))
 all_goals first
  |(exfalso;simp_all;done)
  |(exfalso;simp_all;omega)
  |((refine Done.rt rfl rfl ⟨?_,rfl,rfl⟩;try rfl);grind)
theorem Y1:∀ (a b:List UInt8),-1≤Lib.compareBytes a b∧Lib.compareBytes a b≤1
 |[],[]=>by simp [Lib.compareBytes]
 |[],_::_=>by simp [Lib.compareBytes]
 |_::_,[]=>by simp [Lib.compareBytes]
 |a::as',b::bs'=>by
  simp only [Lib.compareBytes];have:=Y1 as' bs';omega
def dN (a b:Nat):Int:=if a<b then -1 else if b<a then 1 else 0
theorem b0u {a b:Nat} (h:Lib.nDigits a=Lib.nDigits b):Lib.compareBytes (Lib.decDigits a) (Lib.decDigits b)=dN a b:=by
 rw [Num.Ey,Num.Ey,← h];exact Num.b4c _ _ _ (Lib.lt_pow_nDigits a) (by rw [h];exact Lib.lt_pow_nDigits b)
theorem jk (a b:Nat) (ha:Lib.nDigits a<400000) (hb:Lib.nDigits b<400000):Ap env 22 [.str (bs (Lib.decDigits a)),.str (bs (Lib.decDigits b))] (.p (.int .i64 (dN a b))):=by
 refine Ap.enter (Ae (by decide)) Tryz.func22 rfl (by kernel_rfl) (by simp) ?_;have sa:=gJ a;have sb:=gJ b;have hla:=Lib.decDigits_length a;have hlb:=Lib.decDigits_length b;have hcb:=Y1 (Lib.decDigits a) (Lib.decDigits b);have z1:Lib.nDigits 0=1:=Lib.nDigits_small (by decide);by_cases ha0:a=0<;>by_cases hb0:b=0
 ·rw [if_pos ha0] at sa
  rw [if_pos hb0] at sb;have heq:Lib.nDigits a=Lib.nDigits b:=by grind
  repeat' (first|(apply Aa.fn;rfl;rfl;exact sa;intro _;rfl)|(apply Aa.fn;rfl;rfl;exact sb;intro _;rfl)|(apply Aa.fn;rfl;rfl;exact cut_spec' a;intro _;rfl)|(apply Aa.fn;rfl;rfl;exact cut_spec' b;intro _;rfl)|(apply Aa.fn;rfl;rfl;exact Xg _ _;intro _;rfl)|(apply Aa.LG;rfl;rfl)|refine go2 ?_|(apply Aa.int;rfl;rfl;rfl)|(apply Ad.cond_false;rfl)|(apply Ad.Ar;rfl)|(intro _;try (exfalso;omega)))
  all_goals first
   |(exfalso;omega)
   |((refine Done.rt rfl rfl ⟨?_,rfl,rfl⟩;try rfl);refine PV.int_eq ?_;simp [dN,ha0,hb0];done)
 ·rw [if_pos ha0] at sa
  rw [if_neg hb0] at sb
  repeat' (first|(apply Aa.fn;rfl;rfl;exact sa;intro _;rfl)|(apply Aa.fn;rfl;rfl;exact sb;intro _;rfl)|refine go2 ?_|(apply Aa.int;rfl;rfl;rfl)|(apply Ad.cond_true;rfl))
  all_goals first
   |(exfalso;omega)
   |((refine Done.rt rfl rfl ⟨?_,rfl,rfl⟩;try rfl);refine PV.int_eq ?_;unfold dN;rw [if_pos (by omega)];done)
 ·rw [if_neg ha0] at sa
  rw [if_pos hb0] at sb
  repeat' (first|(apply Aa.fn;rfl;rfl;exact sa;intro _;rfl)|(apply Aa.fn;rfl;rfl;exact sb;intro _;rfl)|refine go2 ?_|(apply Aa.int;rfl;rfl;rfl)|(apply Ad.cond_true;rfl)|(apply Ad.cond_false;rfl))
  all_goals first
   |(exfalso;omega)
   |((refine Done.rt rfl rfl ⟨?_,rfl,rfl⟩;try rfl);refine PV.int_eq ?_;unfold dN;rw [if_neg (by omega),if_pos (by omega)];done)
 ·rw [if_neg ha0] at sa
  rw [if_neg hb0] at sb;have hm1:Lib.nDigits a<Lib.nDigits b→a<b:=Num.ND;have hm2:Lib.nDigits b<Lib.nDigits a→b<a:=Num.ND
  repeat' (first|(apply Aa.fn;rfl;rfl;exact sa;intro _;rfl)|(apply Aa.fn;rfl;rfl;exact sb;intro _;rfl)|(apply Aa.fn;rfl;rfl;exact cut_spec' a;intro _;rfl)|(apply Aa.fn;rfl;rfl;exact cut_spec' b;intro _;rfl)|(apply Aa.fn;rfl;rfl;exact Xg _ _;intro _;rfl)|(apply Aa.LG;rfl;rfl)|refine go2 ?_|(apply Aa.int;rfl;rfl;rfl)|(apply Aa.neg;rfl;omega)|(apply Ad.cond_false;rfl)|(apply Ad.Ar;rfl)|(intro _;try (exfalso;omega)))
  ·(refine Done.rt rfl rfl ⟨?_,rfl,rfl⟩;try rfl)
   refine PV.int_eq ?_;have:=hm1 (by omega);unfold dN;rw [if_pos this]
  ·(refine Done.rt rfl rfl ⟨?_,rfl,rfl⟩;try rfl)
   refine PV.int_eq ?_;have:=hm2 (by omega);unfold dN;rw [if_neg (by omega),if_pos this]
  ·(refine Done.rt rfl rfl ⟨?_,rfl,rfl⟩;try rfl)
   refine PV.int_eq ?_;rw [Int.one_mul,b0u (by omega)]
end
end Go.Proofs.YtnjkoebfgcbbdaaGreatDoor
namespace Go.Vm
open Go.Am
theorem Ut {n:Int} (h0:n<0) (h:-18446744073709551616≤n):IntKind.u64.wrap n=n+18446744073709551616:=by
 have e:IntKind.u64.wrap n=n % 2^64:=by
  rfl
 omega
section
variable {E:Env} {L:Frame} {H:Heap} {nx:Nat} {Q:PV→Heap→Nat→Prop} {w:Bool}
variable {dst:Option Tmp} {ty:TypeId} {pos:String} {af:Array Edge} {gd:Option (Nat×Bool)}
theorem Aa.b5b {s d:TypeId} {x:Operand} {k':IntKind} {n:Int} {sd:TypeDesc} (hx:AU E.Γ L x=some (.p (.int k' n))) (hs:E.P.underlying s=some sd) (hns:ng sd=true) (hd:E.P.underlying d=some (.int .u64)) (hn:n<0∧-18446744073709551616≤n) (q:Q (.p (.int .u64 (n+18446744073709551616))) H nx) :
 Aa E w ⟨dst,.convert s d x,ty,pos,af,gd⟩ L H nx Q:=Aa.YA hx hs hns hd (by rw [Ut hn.1 hn.2];exact q)
theorem Aa.c3h {t:TypeId} {x:Operand} {a:Int} (hx:AU E.Γ L x=some (.p (.int .u64 a))) (h:0<a∧a<18446744073709551616) (q:Q (.p (.int .u64 (18446744073709551616-a))) H nx):Aa E w ⟨dst,.unOp .neg t x,ty,pos,af,gd⟩ L H nx Q :=
 Aa.quiet q fun m F σ tt c1 c2=>by
  refine ⟨.int .u64 (18446744073709551616-a),fun _=>?_,.p (.int _ _)⟩;have hd:Dt E.P (Op.unary .neg (.int .u64 a))=some (.int .u64 (18446744073709551616-a)):=by
   simp only [Op.unary,Op.intArith,Int.zero_sub,Ut (n:=-a) (by omega) (by omega)];rw [show -a+18446744073709551616=18446744073709551616-a by omega];rfl
  simp only [BU,Fe,CO c1 c2 hx];rw [show plain (Value.int IntKind.u64 a)=true from rfl];simp only [if_true,Kz hd rfl,Option.map_some]
theorem Aa.makeFunc {f:FuncId} {fs cs:Array Operand} {pf pc:List PV} (hf:evs E.Γ L fs.toList=some pf) (hc:evs E.Γ L cs.toList=some pc) (q:Q (.clo f pf pc) H nx):Aa E w ⟨dst,.makeFunc (.func f) fs cs,ty,pos,af,gd⟩ L H nx Q :=
 Aa.quiet q fun m F σ tt c1 c2=>by
  refine ⟨.func (.func f) (fs.toList.map (ev tt)).toArray (cs.toList.map (ev tt)).toArray,fun _=>?_,.clo (Qy c1 c2 hf) (Qy c1 c2 hc)⟩;simp only [BU,Fe,Option.map_some,← Array.toList_map,Array.toArray_toList]
end
end Go.Vm
namespace Go.Proofs.YtnjkoebfgcbbdaaGreatDoor
open Go Go.Am Go.Vm
attribute [local irreducible] Aa Aj Ah Ad AP Ap Bd BL Bf Ag Vm.Done BA AB
structure KJ where
 num:Int
 den:Int
instance:Enc KJ:={ default:=⟨0,0⟩,enc:=fun x=>[.int .i64 x.num,.int .i64 x.den],size:=2,len:=fun _=>rfl }
theorem Z8 (n:Int) (h:-9223372036854775808≤n∧n<9223372036854775808):Ap env 198 [.int .i64 n] (.p (.int .u64 ((n.natAbs:Nat):Int))):=by
 refine Ap.enter (Ae (by decide)) Tryz.func198 rfl (by kernel_rfl) (by simp [Tryz.ntmps198]) ?_
 repeat' (first|refine go2 ?_|(apply Aa.b5b;rfl;rfl;rfl;rfl;omega)|(apply Aa.c3h;rfl;omega)|(apply Aa.int;rfl;rfl;rfl)|(apply Aa.oh;rfl;rfl;rfl;rfl;omega)|(apply Ad.Ac;rfl)|(intro _;try (exfalso;omega)))
 all_goals (refine Done.rt rfl rfl ⟨?_,rfl,rfl⟩;refine PV.int_eq ?_;omega)
theorem a7h (a b:Nat) (ha:a<18446744073709551616) (hb:b<18446744073709551616):Ap env 197 [.int .u64 (a:Int),.int .u64 (b:Int)] (.p (.int .u64 ((Nat.gcd a b:Nat):Int))):=by
 refine Ap.enter (Ae (by decide)) Tryz.func197 rfl (by kernel_rfl) (by simp) ?_
 repeat' (first|refine go2 ?_|fail)
 refine Ad.DJ (fun s:Nat×Nat=>[(0,.p (.int .u64 (s.1:Int))),(1,.p (.int .u64 (s.2:Int)))]) (fun _=>[]) 0 (fun s=>s.1<18446744073709551616∧s.2<18446744073709551616∧Nat.gcd s.1 s.2=Nat.gcd a b) (fun s=>s.2) (a,b) (ab _) ⟨ha,hb,rfl⟩ ⟨ab _,?_,trivial⟩ ?_
 ·exact C9
 rintro ⟨x,y⟩ ⟨hx,hy,hg⟩;have hmod:0<y→x % y<y:=fun h=>bb _ h
 repeat' (first|refine IG ?_|apply Ad.Hq|(apply Ad.Ac;rfl)|(intro _))
 ·rename_i h1
  have hy0:0<y:=by omega
  refine Ag.normal ⟨(y,x % y),⟨hy,by omega,?_⟩,hmod hy0,⟨ab _,?_,trivial⟩⟩
  ·rw [← hg,Nat.gcd_comm x y,Nat.gcd_rec y x,Nat.gcd_comm]
  ·exact C9
 ·rename_i h1
  refine Done.rt rfl rfl ⟨?_,rfl,rfl⟩;simp_all
def fOk (x:KJ):Prop:=0<x.den∧x.den≤1000000∧-1000000≤x.num∧x.num≤1000000∧Nat.gcd x.num.natAbs x.den.toNat=1
instance (x:KJ):Decidable (fOk x):=by unfold fOk;infer_instance
def b1v (x:KJ):Int:=if fOk x then 0 else 2
theorem qE (x:KJ):Ap env 178 [.agg (Enc.enc x)] (.p (.int .i64 (b1v x))):=by
 refine Ap.enter (Ae (by decide)) Tryz.func178 rfl (by kernel_rfl) (by simp [Tryz.ntmps178]) ?_;have hd:0<x.den→((x.den.toNat:Nat):Int)=x.den:=fun h=>dx (Int.le_of_lt h)
 have hg:0<x.den→x.den≤1000000→-1000000≤x.num→x.num≤1000000→Ap env 197 [.int .u64 ((x.num.natAbs:Nat):Int),.int .u64 x.den] (.p (.int .u64 ((Nat.gcd x.num.natAbs x.den.toNat:Nat):Int))):=fun h1 h2 h3 h4=>by
  have:=a7h x.num.natAbs x.den.toNat (by omega) (by omega)
  rwa [hd h1] at this
 repeat' (first|(apply Aa.fn;rfl;rfl;exact Z8 _ (by omega);intro _;rfl)|(apply Aa.fn;rfl;rfl;exact hg (by omega) (by omega) (by omega) (by omega);intro _;rfl)|refine IE ?_|(apply Ah.guard;rfl;rfl)|(apply Aa.int;rfl;rfl;rfl)|(apply Aa.oh;rfl;rfl;rfl;rfl;omega)|(apply Ad.AV;rfl)|(apply Ad.Ac;rfl)|(intro _;try (exfalso;omega)))
 all_goals (refine Done.rt rfl rfl ⟨?_,rfl,rfl⟩;refine PV.int_eq ?_;unfold b1v;first|(rw [if_neg (show ¬ fOk x from fun h=>by unfold fOk at h;omega)];done)|(rw [if_pos (show fOk x from by unfold fOk;omega)];done))
def pOk (x:KJ):Prop:=fOk x∧0<x.num∧x.num≤128*x.den∧x.den≤128
instance (x:KJ):Decidable (pOk x):=by unfold pOk;infer_instance
def Ri (x:KJ):Int:=if ¬ fOk x then 2 else if x.num≤0∨x.num>128*x.den then 3 else if x.den>128 then 4 else 0
theorem TQ {x:KJ}:Ri x=0↔pOk x:=by
 unfold Ri pOk;grind
theorem LK (x:KJ):Ap env 154 [.agg (Enc.enc x)] (.p (.int .i64 (Ri x))):=by
 have hc:=qE x;refine Ap.enter (Ae (by decide)) Tryz.func154 rfl (by kernel_rfl) (by simp [Tryz.ntmps154]) ?_;by_cases h1:fOk x
 ·rw [show b1v x=0 from if_pos h1] at hc
  have h1':=h1;obtain ⟨h2,h3,h4,h5,-⟩:=h1';have e:Ri x=if x.num≤0∨x.num>128*x.den then 3 else if x.den>128 then 4 else 0:=by unfold Ri;rw [if_neg (Classical.not_not.2 h1)]
  rw [e]
  repeat' (first|(apply Aa.fn;rfl;rfl;exact hc;intro _;rfl)|refine IE ?_|(apply Aj.guard;rfl;rfl)|(apply Aa.int;rfl;rfl;rfl)|(apply Ad.cond_true;rfl)|(apply Ad.cond_false;rfl)|(apply Ad.Ar;rfl)|(intro _;try (exfalso;omega)))
  all_goals first|(exfalso;omega)|(rw [if_pos (by omega)];(refine Done.rt rfl rfl ⟨?_,rfl,rfl⟩;try rfl);done)|(rw [if_neg (by omega),if_pos (by omega)];(refine Done.rt rfl rfl ⟨?_,rfl,rfl⟩;try rfl);done)|(rw [if_neg (by omega),if_neg (by omega)];(refine Done.rt rfl rfl ⟨?_,rfl,rfl⟩;try rfl);done)
 ·rw [show b1v x=2 from if_neg h1] at hc
  rw [show Ri x=2 from if_pos h1]
  repeat' (first|(apply Aa.fn;rfl;rfl;exact hc;intro _;rfl)|refine go2 ?_|(apply Aa.int;rfl;rfl;rfl)|(apply Ad.cond_true;rfl))
  all_goals (refine Done.rt rfl rfl ⟨?_,rfl,rfl⟩;try rfl)
def bothR (x y:KJ):Int:=if Ri x≠0 then Ri x else Ri y
theorem xw (x y:KJ):Ap env 176 [.agg (Enc.enc x),.agg (Enc.enc y)] (.p (.int .i64 (bothR x y))):=by
 have h1:=LK x;have h2:=LK y;unfold bothR;refine Ap.enter (Ae (by decide)) Tryz.func176 rfl (by kernel_rfl) (by simp) ?_
 repeat' (first|(apply Aa.fn;rfl;rfl;exact h1;intro _;rfl)|(apply Aa.fn;rfl;rfl;exact h2;intro _;rfl)|refine go2 ?_|(apply Aa.int;rfl;rfl;rfl)|(apply Ad.Ac;rfl)|(intro _))
 all_goals first|(rw [if_pos (by assumption)];(refine Done.rt rfl rfl ⟨?_,rfl,rfl⟩;try rfl);done)|(rw [if_neg (by omega)];(refine Done.rt rfl rfl ⟨?_,rfl,rfl⟩;try rfl);done)
def sh1 (den:Nat):Nat→Nat→Int→Nat×Int
 |0,num,n=>(num,n)
 |f+1,num,n=>if num<den then sh1 den f (num*2) (n-12) else (num,n)
def sh2 (num:Nat):Nat→Nat→Int→Nat×Int
 |0,den,n=>(den,n)
 |f+1,den,n=>if 2*den≤num then sh2 num f (den*2) (n+12) else (den,n)
def sh3 (p:Nat):Nat→Nat→Int→Int
 |0,l,n=>n
 |f+1,l,n=>if l<p then sh3 p f (l*4) (n+1) else n
def shN (num den:Nat):Int :=
 let a:=sh1 den 30 num 0
 let b:=sh2 a.1 30 den a.2
 sh3 (a.1 ^ 24) 30 (b.1 ^ 24*2) b.2
def shz (x y:KJ):Int:=shN (y.num*x.den).toNat (y.den*x.num).toNat
theorem a5b (a b:Nat):dN a b>0↔b<a:=by
 unfold dN;omega
theorem zu {n k:Nat} (hk:0<k) (h:n<10 ^ k):Lib.nDigits n≤k:=by
 rcases bm n with h0|h0
 ·subst h0;rw [Lib.nDigits_small (by decide)];omega
 ·have h1:=Num.Gh n (by omega)
  have h2:10 ^ (Lib.nDigits n-1)<10 ^ k:=cx h1 h;have h3:=(en (a:=10) (by decide)).1 h2;omega
theorem wX {n k e:Nat} (hk:0<k) (h:n<10 ^ k) (he:e≤100):Lib.nDigits (n ^ e)≤k*100:=by
 rcases bm e with h0|h0
 ·subst h0;rw [ej,Lib.nDigits_small (by decide)];omega
 ·refine zu (by omega) ?_
  have h1:n ^ e<(10 ^ k) ^ e:=fu h (by omega);rw [← dq] at h1;exact ag h1 (az (by decide) (bX _ he))
theorem a7n {a b j k:Nat} (ha:Lib.nDigits a≤j) (hb:Lib.nDigits b≤k):Lib.nDigits (a*b)≤j+k:=by
 have h1:=Lib.lt_pow_nDigits a;have h2:=Lib.lt_pow_nDigits b;have hp:=Lib.nDigits_pos a;refine zu (by omega) ?_;rw [cy];have h3:a<10 ^ j:=ag h1 (az (by decide) ha);have h4:b<10 ^ k:=ag h2 (az (by decide) hb);exact fI h3 (ie h4) (cW (by decide))
theorem vW (x y:KJ) (hx:pOk x) (hy:pOk y):Ap env 177 [.agg (Enc.enc x),.agg (Enc.enc y)] (.p (.int .i64 (shz x y))):=by
 obtain ⟨⟨f1,-⟩,f2,f3,f4⟩:=hx;obtain ⟨⟨g1,-⟩,g2,g3,g4⟩:=hy;obtain ⟨xn,hxn⟩:∃ k:Nat,x.num=k:=⟨x.num.toNat,by omega⟩
 obtain ⟨xd,hxd⟩:∃ k:Nat,x.den=k:=⟨x.den.toNat,by omega⟩
 obtain ⟨yn,hyn⟩:∃ k:Nat,y.num=k:=⟨y.num.toNat,by omega⟩
 obtain ⟨yd,hyd⟩:∃ k:Nat,y.den=k:=⟨y.den.toNat,by omega⟩
 have b1:yn*xd≤16384*128:=cP (by omega) (by omega);have b2:yd*xn≤128*16384:=cP (by omega) (by omega);have p1:0<yn*xd:=dp (by omega) (by omega);have p2:0<yd*xn:=dp (by omega) (by omega);have c1:y.num*x.den=((yn*xd:Nat):Int):=by rw [hyn,hxd,dE]
 have c2:y.den*x.num=((yd*xn:Nat):Int):=by rw [hyd,hxn,dE]
 have e:shz x y=shN (yn*xd) (yd*xn):=by unfold shz;rw [c1,c2];rfl
 rw [e];generalize yn*xd=num at *;generalize yd*xn=den at *;have z1:-9223372036854775808≤y.num*x.den∧y.num*x.den<9223372036854775808:=by omega
 have z2:-9223372036854775808≤y.den*x.num∧y.den*x.num<9223372036854775808:=by omega
 refine Ap.enter (Ae (by decide)) Tryz.func177 rfl (by kernel_rfl) (by simp [Tryz.ntmps177]) ?_
 repeat' (first|refine go2 ?_|fail)
 refine Ad.DJ (fun s:Nat×Nat=>[(5,.p (.int .i64 (s.2:Int))),(6,.p (.int .i64 (den:Int))),(7,.p (.int .i64 (-(12*(s.1:Int)))))]) (fun _=>[]) 0 (fun s=>s.1≤22∧s.2=num*2 ^ s.1∧s.2≤4194304∧sh1 den (30-s.1) s.2 (-(12*(s.1:Int)))=sh1 den 30 num 0) (fun s=>30-s.1) (0,num) (by omega) ⟨by omega,by simp,by simp only;omega,by simp⟩ ⟨by omega,?_,?_⟩ ?_
 ·simp only [c1,c2];exact C9
 ·exact BJ.nil
 rintro ⟨i,m⟩ ⟨hi,hm,hm2,hs⟩;simp only at hi hm hm2 hs;have xu:∀ a b c:Nat,0<a→a*2 ^ b≤c→2 ^ b≤c:=fun a b c ha h=>am (Nat.le_mul_of_pos_left _ ha) h
 have h21:∀ b:Nat,2 ^ b≤2 ^ 21→b≤21:=fun b h=>(Nat.pow_le_pow_iff_right (by decide)).1 h
 have c6v:0<m:=by rw [hm];exact dp p1 (cW (by decide))
 repeat' (first|refine IG ?_|(apply Ad.Ac;rfl)|(intro _;try (exfalso;omega)))
 ·rename_i a1
  simp only at a1;have hi2:i≤20:=by
   have h1:num*2 ^ i<den:=by rw [← hm];omega
   have h2:2 ^ i<2 ^ 21:=cx (xu _ _ _ p1 (ab _)) (by omega);have:=(en (a:=2) (by decide)).1 h2;omega
  have e7:-(12*((i+1:Nat):Int))=-(12*(i:Int))-12:=by omega
  refine Ag.normal ⟨(i+1,m*2),⟨by simp only;omega,by simp only;rw [hm,bO,cR],by simp only;omega,?_⟩,by simp only;omega,⟨by omega,?_,?_⟩⟩
  ·simp only
   rw [← hs,show 30-i=(30-(i+1))+1 by omega,e7]
   conv=>rhs;rw [sh1]
   rw [if_pos (by omega)]
  ·simp only [e7];exact C9
  ·exact BJ.nil
 ·rename_i a1
  simp only at a1;have hs1:sh1 den 30 num 0=(m,-(12*(i:Int))):=by
   rw [← hs];cases 30-i with
   |zero=>rfl
   |succ f=>rw [sh1,if_neg (by omega)]
  refine Ad.DJ (fun s:Nat×Nat=>[(5,.p (.int .i64 (m:Int))),(6,.p (.int .i64 (s.2:Int))),(7,.p (.int .i64 (-(12*(i:Int))+12*(s.1:Int))))]) (fun _=>[]) 0 (fun s=>s.1≤22∧s.2=den*2 ^ s.1∧s.2≤4194304∧sh2 m (30-s.1) s.2 (-(12*(i:Int))+12*(s.1:Int))=sh2 m 30 den (-(12*(i:Int)))) (fun s=>30-s.1) (0,den) (by omega) ⟨by omega,by simp,by simp only;omega,by simp⟩ ⟨by omega,?_,?_⟩ ?_
  ·have e7:-(12*(i:Int))+12*((0:Nat):Int)=-(12*(i:Int)):=by omega
   simp only [e7];exact C9
  ·exact BJ.nil
  rintro ⟨j,d⟩ ⟨hj,hd,hd2,ht⟩;simp only at hj hd hd2 ht;have b8s:0<d:=by rw [hd];exact dp p2 (cW (by decide))
  by_cases hdm:2*d≤m
  ·repeat' (first|refine IG ?_|(apply Ad.Ac;rfl)|(intro _;try (exfalso;omega)))
   all_goals try (exfalso;omega)
   have hj2:j≤21:=by
    have h1:den*2 ^ j≤2 ^ 21:=by rw [← hd];omega
    exact h21 _ (xu _ _ _ p2 h1)
   have e7:-(12*(i:Int))+12*((j+1:Nat):Int)=-(12*(i:Int))+12*(j:Int)+12:=by omega
   refine Ag.normal ⟨(j+1,d*2),⟨by simp only;omega,by simp only;rw [hd,bO,cR],by simp only;omega,?_⟩,by simp only;omega,⟨by omega,?_,?_⟩⟩
   ·simp only
    rw [← ht,show 30-j=(30-(j+1))+1 by omega,e7]
    conv=>rhs;rw [sh2]
    rw [if_pos hdm]
   ·simp only [e7];exact C9
   ·exact BJ.nil
  ·have hs2:sh2 m 30 den (-(12*(i:Int)))=(d,-(12*(i:Int))+12*(j:Int)):=by
    rw [← ht];cases 30-j with
    |zero=>rfl
    |succ f=>rw [sh2,if_neg hdm]
   have hR:shN num den=sh3 (m ^ 24) 30 (d ^ 24*2) (-(12*(i:Int))+12*(j:Int)):=by
    unfold shN;rw [hs1];simp only;rw [hs2]
   rw [hR];have om:=Yh (m:Int) (by omega);have od:=Yh (d:Int) (by omega);rw [a5e] at om od;have nm:Lib.nDigits m≤7:=zu (by decide) (by omega);have nd:Lib.nDigits d≤7:=zu (by decide) (by omega);have pm:=ZB m 24 (by decide) (by omega) (by omega);have pd:=ZB d 24 (by decide) (by omega) (by omega);have np:Lib.nDigits (m ^ 24)≤700:=wX (k:=7) (by decide) (by omega) (by decide);have nq:Lib.nDigits (d ^ 24)≤700:=wX (k:=7) (by decide) (by omega) (by decide);have n2:Lib.nDigits 2=1:=Lib.nDigits_small (by decide);have n4:Lib.nDigits 4=1:=Lib.nDigits_small (by decide);have q2:=nG (d ^ 24) 2 (by omega) (by omega);rw [show Lib.decDigits 2=[50] by decide +kernel] at q2;have hpq:m ^ 24<2 ^ 24*d ^ 24:=by
    rw [← Nat.mul_pow];exact fu (by omega) (by decide)
   have c6r:0<d ^ 24:=cW b8s;generalize m ^ 24=p at *;generalize d ^ 24=q at *
   repeat' (first|(apply Aa.fn;rfl;rfl;exact om;intro _;rfl)|(apply Aa.fn;rfl;rfl;exact od;intro _;rfl)|(apply Aa.fn;rfl;rfl;exact pm;intro _;rfl)|(apply Aa.fn;rfl;rfl;exact pd;intro _;rfl)|(apply Aa.fn;rfl;rfl;exact q2;intro _;rfl)|refine go2 ?_|(apply Aa.int;rfl;rfl;rfl)|(apply Ad.Ac;rfl)|(intro _;try (exfalso;omega)))
   all_goals try (exfalso;omega)
   generalize hn0:-(12*(i:Int))+12*(j:Int)=n0 at *;have c8m:-1000≤n0∧n0≤1000:=by omega
   refine Ad.DJ (fun k:Nat=>[(8,st (Lib.decDigits p)),(12,st (Lib.decDigits (q*2*4 ^ k))),(7,.p (.int .i64 (n0+(k:Int))))]) (fun _=>[]) 0 (fun k=>k≤20∧sh3 p (30-k) (q*2*4 ^ k) (n0+(k:Int))=sh3 p 30 (q*2) n0) (fun k=>30-k) 0 (by omega) ⟨by omega,by simp⟩ ⟨by omega,?_,?_⟩ ?_
   ·have e7:n0+((0:Nat):Int)=n0:=by omega
    rw [e7,ej,gz];exact C9
   ·exact BJ.nil
   rintro k ⟨hk,hs⟩;have nl:Lib.nDigits (q*2*4 ^ k)≤1000:=by
    have h1:=a7n (a:=q) (b:=2) (j:=700) (k:=1) (by omega) (by omega);have h2:Lib.nDigits (4 ^ k)≤100:=wX (n:=4) (k:=1) (by decide) (by decide) (by omega);have h3:=a7n h1 h2;omega
   have cc:=jk p (q*2*4 ^ k) (by omega) (by omega);have q4:=nG (q*2*4 ^ k) 4 (by omega) (by omega);rw [show Lib.decDigits 4=[52] by decide +kernel] at q4;have hcp:=a5b p (q*2*4 ^ k);by_cases hlt:q*2*4 ^ k<p
   ·have hc:=hcp.2 hlt
    have hk2:k≤12:=by
     have h1:q*(2*4 ^ k)<q*2 ^ 24:=by rw [← cR,dc q (2 ^ 24)];omega
     have h2:=Nat.lt_of_mul_lt_mul_left h1;have h3:2*4 ^ k=2 ^ (1+2*k):=by rw [cy,dq,Nat.pow_one]
     rw [h3] at h2;have:=(en (a:=2) (by decide)).1 h2;omega
    have e7:n0+((k+1:Nat):Int)=n0+(k:Int)+1:=by omega
    repeat' (first|(apply Aa.fn;rfl;rfl;exact cc;intro _;rfl)|(apply Aa.fn;rfl;rfl;exact q4;intro _;rfl)|refine go2 ?_|(apply Aa.int;rfl;rfl;rfl)|(apply Ad.Ac;rfl)|(intro _;try (exfalso;omega)))
    all_goals try (exfalso;omega)
    refine Ag.normal ⟨k+1,⟨by omega,?_⟩,by omega,⟨by omega,?_,?_⟩⟩
    ·rw [← hs,show 30-k=(30-(k+1))+1 by omega,e7]
     conv=>rhs;rw [sh3]
     rw [if_pos hlt,bO,cR (q*2)]
    ·rw [e7,bO,← cR];exact C9
    ·exact BJ.nil
   ·have hc:¬ dN p (q*2*4 ^ k)>0:=fun h=>hlt (hcp.1 h)
    have hR3:sh3 p 30 (q*2) n0=n0+(k:Int):=by
     rw [← hs];cases 30-k with
     |zero=>rfl
     |succ f=>rw [sh3,if_neg hlt]
    rw [hR3]
    repeat' (first|(apply Aa.fn;rfl;rfl;exact cc;intro _;rfl)|refine go2 ?_|(apply Aa.int;rfl;rfl;rfl)|(apply Ad.Ac;rfl)|(intro _;try (exfalso;omega)))
    all_goals first|(exfalso;omega)|(refine Done.rt rfl rfl ⟨?_,rfl,rfl⟩;try rfl)
def AZ (x y:KJ):Int×Int:=if bothR x y≠0 then (0,bothR x y) else (shz x y,0)
theorem a6y {x y:KJ}:bothR x y=0↔pOk x∧pOk y:=by
 unfold bothR;rw [← TQ,← TQ];omega
theorem XL (x y:KJ):Ap env 152 [.agg (Enc.enc x),.agg (Enc.enc y)] (.D9 [.p (.int .i64 (AZ x y).1),.p (.int .i64 (AZ x y).2)]):=by
 have hb:=xw x y;by_cases h:bothR x y=0
 ·rw [h] at hb
  have ok:=a6y.1 h;have hs:=vW x y ok.1 ok.2;rw [show AZ x y=(shz x y,0) from if_neg (fun h'=>h' h)];refine Ap.enter (Ae (by decide)) Tryz.func152 rfl (by kernel_rfl) (by simp [Tryz.ntmps152]) ?_
  repeat' (first|(apply Aa.fn;rfl;rfl;exact hb;intro _;rfl)|(apply Aa.fn;rfl;rfl;exact hs;intro _;rfl)|refine go2 ?_|(apply Aa.int;rfl;rfl;rfl)|(apply Ad.Ai;rfl))
  all_goals first|(exfalso;omega)|(refine Done.rt rfl rfl ⟨?_,rfl,rfl⟩;try rfl)
 ·rw [show AZ x y=(0,bothR x y) from if_pos h]
  refine Ap.enter (Ae (by decide)) Tryz.func152 rfl (by kernel_rfl) (by simp [Tryz.ntmps152]) ?_
  repeat' (first|(apply Aa.fn;rfl;rfl;exact hb;intro _;rfl)|refine go2 ?_|(apply Aa.int;rfl;rfl;rfl)|(apply Ad.Ac;rfl)|(intro _;try (exfalso;omega)))
  all_goals first|(exfalso;omega)|(refine Done.rt rfl rfl ⟨?_,rfl,rfl⟩;try rfl)
structure Hr where
 name:List UInt8
 JQ:List UInt8
 Eb:KJ
 first:Int
 EX:List Int
instance:Enc Hr:={ default:=⟨[],[],⟨0,0⟩,0,[]⟩,enc:=fun r=>[.str (bs r.name),.str (bs r.JQ),.int .i64 r.Eb.num,.int .i64 r.Eb.den,.int .i64 r.first,.lst 3 (cells r.EX) r.EX.length],size:=6,len:=fun _=>rfl }
theorem PV.I8 {a b:Bool} (h:a=b):PV.p (.bool a)=PV.p (.bool b) :=by grind
def jA (x:Int):Prop:=x<0∨x>1000000
instance (x:Int):Decidable (jA x):=by unfold jA;infer_instance
theorem a9u (x:Int):Ap env 180 [.int .i64 x] (.p (.bool (decide (jA x)))):=by
 refine Ap.enter (Ae (by decide)) Tryz.func180 rfl (by kernel_rfl) (by simp) ?_
 repeat' (first|refine O8 ?_|(apply Aj.guard;rfl;rfl)|(intro _))
 all_goals (refine Done.rt rfl rfl ⟨?_,rfl,rfl⟩;refine PV.I8 ?_;first|(refine decide_eq_decide.2 ⟨fun h=>by unfold jA;omega,fun h=>by unfold jA at h;omega⟩)|(symm;apply decide_eq_true;unfold jA;omega))
def okW (l:List Int):Prop:=∀ i,i<l.length→¬ jA (gi l i)
noncomputable instance (l:List Int):Decidable (okW l):=Classical.propDecidable _
noncomputable def Ba (l:List Int):Int:=if okW l then 0 else 3
theorem b5o {L:Vm.Frame} {H:Vm.Heap} {nx:Nat} {Q:PV→Vm.Heap→Nat→Prop} {dst:Option Tmp} {ty:TypeId} {pos:String} {af:Array Edge} {gd:Option (Nat×Bool)} {fo:Operand} {args:Array Operand} {aT:Array TypeId} {fs cs xs:List PV} {c:Code}
 (hf:AU env.Γ L fo=some (.clo 179 fs cs)) (ha:evs env.Γ L args.toList=some xs) (hb:Tryz.f179.body=some c) (hn:(fs++xs++cs).length≤Tryz.f179.ntmps)
 (h:Ad env nx c (Ci 0 (fs++xs++cs)) H nx (AB env.P Tryz.f179.results.toList Q)):Aa env true ⟨dst,.call { callee:=.value fo,args:=args,argTypes:=aT },ty,pos,af,gd⟩ L H nx Q:=by
 have h0:(match Tryz.f179.body with|some c=>Iz env.G Tryz.f179 c|none=>false)=true:=by kernel_rfl
 rw [hb] at h0;exact Aa.inline rfl hf ha (Ae (by decide)) Tryz.func179 hb h0 hn h
theorem b6h {L:Vm.Frame} {H:Vm.Heap} {nx:Nat} {Q:PV→Vm.Heap→Nat→Prop} {dst:Option Tmp} {ty:TypeId} {pos:String} {af:Array Edge} {gd:Option (Nat×Bool)} {fo:Operand} {args:Array Operand} {aT:Array TypeId} {fs cs xs:List PV} {c:Code}
 (hf:AU env.Γ L fo=some (.clo 160 fs cs)) (ha:evs env.Γ L args.toList=some xs) (hb:Tryz.f160.body=some c) (hn:(fs++xs++cs).length≤Tryz.f160.ntmps)
 (h:Ad env nx c (Ci 0 (fs++xs++cs)) H nx (AB env.P Tryz.f160.results.toList Q)):Aa env true ⟨dst,.call { callee:=.value fo,args:=args,argTypes:=aT },ty,pos,af,gd⟩ L H nx Q:=by
 have h0:(match Tryz.f160.body with|some c=>Iz env.G Tryz.f160 c|none=>false)=true:=by kernel_rfl
 rw [hb] at h0;exact Aa.inline rfl hf ha (Ae (by decide)) Tryz.func160 hb h0 hn h
theorem xP (l:List Int) (hl:l.length<9223372036854775808):Ap env 156 [.lst 3 (cells l) l.length] (.p (.int .i64 (Ba l))):=by
 refine Ap.enter (Ae (by decide)) Tryz.func156 rfl (by kernel_rfl) (by simp) ?_
 repeat' (first|(apply b5o;rfl;rfl;rfl;exact le_dec rfl)|(apply b6h;rfl;rfl;rfl;exact le_dec rfl)|refine go2 ?_|fail)
 refine Ad.DJ (fun k:Nat=>[(0,lst 3 l),(1,.clo 180 [] []),(7,.p (.int .i64 (l.length:Int))),(8,.p (.int .i64 (k:Int)))]) (fun _=>[]) 0 (fun k=>k≤l.length∧∀ i,i<k→¬ jA (gi l i)) (fun k=>l.length-k) 0 (by omega) ⟨by omega,fun i hi=>by omega⟩ ⟨by omega,?_,?_⟩ ?_
 ·exact C9
 ·exact BJ.nil
 rintro k ⟨hk,hok⟩;have hw:=a9u (gi l k)
 repeat' (first|(apply Aa.fn;rfl;rfl;exact hw;intro _;rfl)|(apply Aa.Ak;rfl;rfl;rfl;omega;rfl)|refine go2 ?_|(apply AB.ret;rfl)|(apply Aa.int;rfl;rfl;rfl)|(apply Ad.AV;rfl)|(apply Ad.Ai;rfl)|(apply Ad.Ac;rfl)|(apply Ad.Ar;rfl)|(intro _))
 ·rename_i a1 a2
  rw [show Ba l=3 from if_neg (fun h=>h k (by omega) a2)]
  (refine Done.rt rfl rfl ⟨?_,rfl,rfl⟩;try rfl)
 ·rename_i a1 a2
  refine Ag.normal ⟨k+1,⟨by omega,fun i hi=>?_⟩,by omega,⟨by omega,?_,?_⟩⟩
  ·grind
  ·exact C9
  ·exact BJ.nil
 ·rename_i a1
  rw [show Ba l=0 from if_pos (fun i hi=>hok i (by omega))]
  (refine Done.rt rfl rfl ⟨?_,rfl,rfl⟩;try rfl)
def rG (c:Nat):Prop:=(65≤c∧c≤90)∨(97≤c∧c≤122)
instance (c:Nat):Decidable (rG c):=by unfold rG;infer_instance
def nmC (c:Nat):Prop:=rG c∨(48≤c∧c≤57)∨c=95
theorem Xo (c:Nat) (hc:c<256):Ap env 153 [.int .u8 (c:Int)] (.p (.bool (decide (rG c)))):=by
 refine Ap.enter (Ae (by decide)) Tryz.func153 rfl (by kernel_rfl) (by simp) ?_
 repeat' (first|refine O8 ?_|(apply Aj.guard;rfl;rfl)|(intro _))
 all_goals (refine Done.rt rfl rfl ⟨?_,rfl,rfl⟩;refine PV.I8 ?_;first|(refine decide_eq_decide.2 ⟨fun h=>by unfold rG;omega,fun h=>by unfold rG at h;omega⟩)|(symm;apply decide_eq_true;unfold rG;omega)|(symm;apply decide_eq_false;unfold rG;omega))
def DF (s:List UInt8):Prop:=0<s.length∧s.length≤32∧rG (gi s 0).toNat∧∀ i,1≤i→i<s.length→nmC (gi s i).toNat
noncomputable instance (s:List UInt8):Decidable (DF s):=Classical.propDecidable _
theorem Ir (s:List UInt8) (hs:s.length<9223372036854775808):Ap env 117 [.str (bs s)] (.p (.bool (decide (DF s)))):=by
 have hl0:=Xo (gi s 0).toNat (gi s 0).toNat_lt;by_cases hz:s=[]
 ·subst hz
  rw [decide_eq_false (show ¬ DF [] from fun h=>absurd h.1 (by decide))];refine Ap.enter (Ae (by decide)) Tryz.func117 rfl (by kernel_rfl) (by simp) ?_
  repeat' (first|refine IE ?_|(apply Aa.eqS;rfl;rfl)|(apply Ad.AV;rfl))
  all_goals first|(refine Done.rt rfl rfl ⟨?_,rfl,rfl⟩;try rfl)|contradiction
 ·have hpos:0<s.length:=gR.2 hz
  refine Ap.enter (Ae (by decide)) Tryz.func117 rfl (by kernel_rfl) (by simp) ?_;by_cases h32:s.length≤32
  ·by_cases hL:rG (gi s 0).toNat
   ·rw [decide_eq_true hL] at hl0
    repeat' (first|(apply Aa.fn;rfl;rfl;exact hl0;intro _;rfl)|(apply Aa.Us (i:=0);rfl;rfl;rfl;omega)|(apply Aa.LG;rfl;rfl)|refine IE ?_|(apply Aj.guard;rfl;rfl)|(apply Aa.int;rfl;rfl;rfl)|(apply Aa.eqS;rfl;rfl)|(apply Ad.AV;rfl)|(apply Ad.Ai;rfl)|(intro _;try (exfalso;omega)))
    all_goals try (exfalso;omega)
    all_goals try contradiction
    refine Ad.DJ (fun k:Nat=>[(0,st s),(3,.p (.int .i64 (k:Int)))]) (fun _=>[]) 0 (fun k=>1≤k∧k≤s.length∧∀ i,1≤i→i<k→nmC (gi s i).toNat) (fun k=>s.length-k) 1 (by omega) ⟨by omega,by omega,fun i h1 h2=>by omega⟩ ⟨by omega,?_,?_⟩ ?_
    ·exact C9
    ·exact BJ.nil
    rintro k ⟨hk1,hk2,hok⟩;have hlk:=Xo (gi s k).toNat (gi s k).toNat_lt;have hc256:=(gi s k).toNat_lt;have hnext:nmC (gi s k).toNat→∀ i,1≤i→i<k+1→nmC (gi s i).toNat:=fun h i h1 h2=>by
     rcases aq i k with h3|h3
     ·exact hok i h1 h3
     ·obtain rfl:i=k:=by omega
      exact h
    have hbad:k<s.length→¬ nmC (gi s k).toNat→decide (DF s)=false:=fun h1 h2=>decide_eq_false fun h=>h2 (h.2.2.2 k hk1 h1)
    by_cases hkl:k<s.length
    ·by_cases hLk:rG (gi s k).toNat
     ·rw [decide_eq_true hLk] at hlk
      repeat' (first|(apply Aa.fn;rfl;rfl;exact hlk;intro _;rfl)|(apply Aa.LG;rfl;rfl)|(apply Aa.Us;rfl;rfl;rfl;omega)|refine IE ?_|(apply Aa.int;rfl;rfl;rfl)|(apply Ad.Ac;rfl)|(apply Ad.cond_false;rfl)|(intro _;try (exfalso;omega)))
      all_goals try (exfalso;omega)
      refine Ag.normal ⟨k+1,⟨by omega,by omega,hnext (.inl hLk)⟩,by omega,⟨by omega,?_,?_⟩⟩
      ·exact C9
      ·exact BJ.nil
     ·rw [decide_eq_false hLk] at hlk
      have hn1:nmC (gi s k).toNat↔(48≤(gi s k).toNat∧(gi s k).toNat≤57)∨(gi s k).toNat=95:=⟨fun h=>h.resolve_left hLk,fun h=>.inr h⟩
      repeat' (first|(apply Aa.fn;rfl;rfl;exact hlk;intro _;rfl)|(apply Aa.LG;rfl;rfl)|(apply Aa.Us;rfl;rfl;rfl;omega)|refine IE ?_|(apply Aj.guard;rfl;rfl)|(apply Aa.int;rfl;rfl;rfl)|(apply Ad.Ac;rfl)|(apply Ad.cond_false;rfl)|(apply Ad.Ar;rfl)|(intro _;try (exfalso;omega)))
      all_goals try (exfalso;omega)
      all_goals first
       |(rw [hbad hkl (fun h=>by have:=hn1.1 h;omega)];(refine Done.rt rfl rfl ⟨?_,rfl,rfl⟩;try rfl);done)
       |(refine Ag.normal ⟨k+1,⟨by omega,by omega,hnext (hn1.2 (by omega))⟩,by omega,⟨by omega,?_,BJ.nil⟩⟩;exact C9)
    ·obtain rfl:k=s.length:=by omega
     rw [decide_eq_true (show DF s from ⟨hpos,h32,hL,fun i h1 h2=>hok i h1 h2⟩)]
     repeat' (first|(apply Aa.LG;rfl;rfl)|refine IG ?_|(apply Ad.Ac;rfl)|(intro _;try (exfalso;omega)))
     all_goals first|(exfalso;omega)|(refine Done.rt rfl rfl ⟨?_,rfl,rfl⟩;try rfl)
   ·rw [decide_eq_false (show ¬ DF s from fun h=>hL h.2.2.1)]
    rw [decide_eq_false hL] at hl0
    repeat' (first|(apply Aa.fn;rfl;rfl;exact hl0;intro _;rfl)|(apply Aa.Us (i:=0);rfl;rfl;rfl;omega)|(apply Aa.LG;rfl;rfl)|refine IE ?_|(apply Aj.guard;rfl;rfl)|(apply Aa.int;rfl;rfl;rfl)|(apply Aa.eqS;rfl;rfl)|(apply Ad.AV;rfl)|(intro _;try (exfalso;omega)))
    all_goals first|(exfalso;omega)|contradiction|(refine Done.rt rfl rfl ⟨?_,rfl,rfl⟩;try rfl)
  ·rw [decide_eq_false (show ¬ DF s from fun h=>h32 h.2.1)]
   repeat' (first|(apply Aa.LG;rfl;rfl)|refine O8 ?_|(apply Aj.guard;rfl;rfl)|(apply Aa.eqS;rfl;rfl)|(apply Ad.AV;rfl)|(intro _;try (exfalso;omega)))
   all_goals first|(exfalso;omega)|contradiction|(refine Done.rt rfl rfl ⟨?_,rfl,rfl⟩;try rfl)
noncomputable def Ce (r:Hr):Int:=if ¬ DF r.name∨¬ DF r.JQ then 8 else if Ri r.Eb≠0 then Ri r.Eb else if r.first< -256∨r.first>256 then 3 else if r.EX.length=0 then 13 else if r.EX.length>128 then 4 else Ba r.EX
def PK (n:Int):Prop:=-256≤n∧n≤256
instance (n:Int):Decidable (PK n):=by unfold PK;infer_instance
theorem xK (n:Int):Ap env 155 [.int .i64 n] (.p (.bool (decide (PK n)))):=by
 refine Ap.enter (Ae (by decide)) Tryz.func155 rfl (by kernel_rfl) (by simp) ?_
 repeat' (first|refine O8 ?_|(apply Aj.guard;rfl;rfl)|(intro _))
 all_goals (refine Done.rt rfl rfl ⟨?_,rfl,rfl⟩;refine PV.I8 ?_;first|(refine decide_eq_decide.2 ⟨fun h=>by unfold PK;omega,fun h=>by unfold PK at h;omega⟩)|(symm;apply decide_eq_false;unfold PK;omega))
theorem Xf (r:Hr) (h1:r.name.length<9223372036854775808) (h2:r.JQ.length<9223372036854775808) (h3:r.EX.length<9223372036854775808):Ap env 118 [.agg (Enc.enc r)] (.p (.int .i64 (Ce r))):=by
 have n1:=Ir r.name h1;have n2:=Ir r.JQ h2;have p1:=LK r.Eb;have f1:=xK r.first;have w1:=xP r.EX h3;unfold Ce;refine Ap.enter (Ae (by decide)) Tryz.func118 rfl (by kernel_rfl) (by simp [Tryz.ntmps118]) ?_;by_cases a1:DF r.name
 ·rw [decide_eq_true a1] at n1
  by_cases a2:DF r.JQ
  ·rw [decide_eq_true a2] at n2
   rw [if_neg (fun h=>h.elim (fun h=>h a1) (fun h=>h a2))];by_cases a3:PK r.first
   ·rw [decide_eq_true a3] at f1
    unfold PK at a3
    repeat' (first|(apply Aa.fn;rfl;rfl;exact n1;intro _;rfl)|(apply Aa.fn;rfl;rfl;exact n2;intro _;rfl)|(apply Aa.fn;rfl;rfl;exact p1;intro _;rfl)|(apply Aa.fn;rfl;rfl;exact f1;intro _;rfl)|(apply Aa.fn;rfl;rfl;exact w1;intro _;rfl)|refine IE ?_|(apply Aa.int;rfl;rfl;rfl)|(apply Ad.Ai;rfl)|(apply Ad.Ac;rfl)|(apply Ad.cond_false;rfl)|(apply Ad.Ar;rfl)|(intro _;try (exfalso;omega)))
    all_goals first
     |(rw [if_pos (by assumption)];(refine Done.rt rfl rfl ⟨?_,rfl,rfl⟩;try rfl);done)
     |(rw [if_neg (by assumption),if_neg (by omega),if_pos (by omega)];(refine Done.rt rfl rfl ⟨?_,rfl,rfl⟩;try rfl);done)
     |(rw [if_neg (by assumption),if_neg (by omega),if_neg (by omega),if_pos (by omega)];(refine Done.rt rfl rfl ⟨?_,rfl,rfl⟩;try rfl);done)
     |(rw [if_neg (by assumption),if_neg (by omega),if_neg (by omega),if_neg (by omega)];(refine Done.rt rfl rfl ⟨?_,rfl,rfl⟩;try rfl);done)
   ·rw [decide_eq_false a3] at f1
    unfold PK at a3
    repeat' (first|(apply Aa.fn;rfl;rfl;exact n1;intro _;rfl)|(apply Aa.fn;rfl;rfl;exact n2;intro _;rfl)|(apply Aa.fn;rfl;rfl;exact p1;intro _;rfl)|(apply Aa.fn;rfl;rfl;exact f1;intro _;rfl)|refine IE ?_|(apply Aa.int;rfl;rfl;rfl)|(apply Ad.Ai;rfl)|(apply Ad.Ac;rfl)|(apply Ad.cond_true;rfl)|(intro _;try (exfalso;omega)))
    all_goals first
     |(rw [if_pos (by assumption)];(refine Done.rt rfl rfl ⟨?_,rfl,rfl⟩;try rfl);done)
     |(rw [if_neg (by assumption),if_pos (by omega)];(refine Done.rt rfl rfl ⟨?_,rfl,rfl⟩;try rfl);done)
  ·rw [decide_eq_false a2] at n2
   rw [if_pos (.inr a2)]
   repeat' (first|(apply Aa.fn;rfl;rfl;exact n1;intro _;rfl)|(apply Aa.fn;rfl;rfl;exact n2;intro _;rfl)|refine IE ?_|(apply Ad.AV;rfl))
   all_goals (refine Done.rt rfl rfl ⟨?_,rfl,rfl⟩;try rfl)
 ·rw [decide_eq_false a1] at n1
  rw [if_pos (.inl a1)]
  repeat' (first|(apply Aa.fn;rfl;rfl;exact n1;intro _;rfl)|refine IE ?_|(apply Ad.AV;rfl))
  all_goals (refine Done.rt rfl rfl ⟨?_,rfl,rfl⟩;try rfl)
end Go.Proofs.YtnjkoebfgcbbdaaGreatDoor
namespace Go.Proofs.YtnjkoebfgcbbdaaGreatDoor
open Go Go.Am Go.Vm
structure sZ where
 rank:Int
 shift:Int
instance:Enc sZ:={ default:=⟨0,0⟩,enc:=fun x=>[.int .i64 x.rank,.int .i64 x.shift],size:=2,len:=fun _=>rfl }
structure Seg where
 lo:Int
 hi:Int
 draws:List sZ
instance:Enc Seg:={ default:=⟨0,0,[]⟩,enc:=fun x=>[.int .i64 x.lo,.int .i64 x.hi,.lst 270 (cells x.draws) x.draws.length],size:=3,len:=fun _=>rfl }
structure Stp where
 name:List UInt8
 Eb:KJ
 I7:List Seg
instance:Enc Stp:={ default:=⟨[],⟨0,0⟩,[]⟩,enc:=fun x=>[.str (bs x.name),.int .i64 x.Eb.num,.int .i64 x.Eb.den,.lst 273 (cells x.I7) x.I7.length],size:=4,len:=fun _=>rfl }
structure mX where
 name:List UInt8
 W9:Bool
 lo:Int
 hi:Int
 stops:List Stp
instance:Enc mX:={ default:=⟨[],false,0,0,[]⟩,enc:=fun x=>[.str (bs x.name),.bool x.W9,.int .i64 x.lo,.int .i64 x.hi,.lst 229 (cells x.stops) x.stops.length],size:=5,len:=fun _=>rfl }
structure mW where
 name:List UInt8
 VD:Int
 tgt:Int
 shift:Int
 through:Bool
instance:Enc mW:={ default:=⟨[],0,0,0,false⟩,enc:=fun x=>[.str (bs x.name),.int .i64 x.VD,.int .i64 x.tgt,.int .i64 x.shift,.bool x.through],size:=5,len:=fun _=>rfl }
structure Ia where
 name:List UInt8
 ranks:List Hr
 Af:List mX
 II:List mW
instance:Enc Ia:={ default:=⟨[],[],[],[]⟩,enc:=fun x=>[.str (bs x.name),.lst 113 (cells x.ranks) x.ranks.length,.lst 118 (cells x.Af) x.Af.length,.lst 236 (cells x.II) x.II.length],size:=4,len:=fun _=>rfl }
structure mY where
 lo:Int
 hi:Int
instance:Enc mY:={ default:=⟨0,0⟩,enc:=fun x=>[.int .i64 x.lo,.int .i64 x.hi],size:=2,len:=fun _=>rfl }
noncomputable instance (a b:sZ):Decidable (a=b):=Classical.propDecidable _
noncomputable instance (a:sZ) (l:List sZ):Decidable (a∈l):=Classical.propDecidable _
noncomputable instance (a:List UInt8) (l:List (List UInt8)):Decidable (a∈l):=Classical.propDecidable _
def X3 (lo hi:Int):Int:=if lo<0∨hi>127 then 3 else if lo>hi then 23 else 0
noncomputable def Rw (n:Nat) (l:List sZ) (k:Nat):Int :=
 if k<l.length then
  if (gi l k).rank<0∨(gi l k).rank≥n then 10 else if (gi l k).shift< -127∨(gi l k).shift>127 then 3 else if gi l k∈l.take k then 9 else Rw n l (k+1)
 else 0
termination_by l.length-k
noncomputable def Ze (n:Nat) (l:List sZ):Int:=if l.length>8 then 4 else Rw n l 0
noncomputable def Nv (n:Nat) (lo hi:Int) (l:List Seg) (k:Nat):Int :=
 if k<l.length then
  if min (gi l k).lo (gi l k).hi<lo∨max (gi l k).lo (gi l k).hi>hi then 23 else if (gi l k).lo>(gi l k).hi∨0<k∧(gi l k).lo≤(gi l (k-1)).hi then 6
  else if Ze n (gi l k).draws≠0 then Ze n (gi l k).draws else Nv n lo hi l (k+1)
 else 0
termination_by l.length-k
noncomputable def b7g (n:Nat) (lo hi:Int) (s:Stp):Int :=
 if ¬ DF s.name then 8 else if Ri s.Eb≠0 then Ri s.Eb else if s.I7.length=0 then 13 else if s.I7.length>12 then 4 else Nv n lo hi s.I7 0
noncomputable def dV (l:List Hr) (k:Nat):Int :=
 if k<l.length then if Ce (gi l k)≠0 then Ce (gi l k) else dV l (k+1) else 0
termination_by l.length-k
noncomputable def qP (l:List Hr) (lo hi:Int):Int:=if l.length>60 then 4 else if dV l 0≠0 then dV l 0 else X3 lo hi
noncomputable def DV (rk:List Hr) (lo hi:Int) (s:Stp):Int:=if qP rk lo hi≠0 then qP rk lo hi else b7g rk.length lo hi s
noncomputable def PI (l:List Hr) (k:Nat):Int :=
 if k<l.length then if Ce (gi l k)≠0 then Ce (gi l k) else if (gi l k).name∈(l.take k).map Hr.name then 9 else PI l (k+1) else 0
termination_by l.length-k
noncomputable def RX (rk:List Hr) (lo hi:Int) (l:List Stp) (k:Nat):Int :=
 if k<l.length then if DV rk lo hi (gi l k)≠0 then DV rk lo hi (gi l k) else if (gi l k).name∈(l.take k).map Stp.name then 9 else RX rk lo hi l (k+1) else 0
termination_by l.length-k
noncomputable def DN (rk:List Hr) (d:mX):Int:=if X3 d.lo d.hi≠0 then X3 d.lo d.hi else if d.stops.length>60 then 4 else RX rk d.lo d.hi d.stops 0
noncomputable def GL (rk:List Hr) (l:List mX) (k:Nat):Int :=
 if k<l.length then if ¬ DF (gi l k).name then 8 else if (gi l k).name∈(l.take k).map mX.name then 9 else if DN rk (gi l k)≠0 then DN rk (gi l k) else GL rk l (k+1) else 0
termination_by l.length-k
noncomputable def RU (n:Nat) (l:List mW) (k:Nat):Int :=
 if k<l.length then
  if ¬ DF (gi l k).name then 8 else if (gi l k).name∈(l.take k).map mW.name then 9
  else if (gi l k).VD<0∨(gi l k).VD≥n∨(gi l k).tgt<0∨(gi l k).tgt≥n then 10
  else if (gi l k).shift< -127∨(gi l k).shift>127 then 3 else if (gi l k).VD=(gi l k).tgt∧(gi l k).shift=0 then 7 else RU n l (k+1)
 else 0
termination_by l.length-k
noncomputable def Tt (l:List mY) (k:Nat):Int:=if k<l.length then if X3 (gi l k).lo (gi l k).hi≠0 then 23 else Tt l (k+1) else 0
termination_by l.length-k
noncomputable def En (ks:List mY) (l:List mW):Int:=if ks.length>8∨l.length>40 then 4 else if Tt ks 0≠0 then Tt ks 0 else RU ks.length l 0
noncomputable def V3 (o:Ia):Int :=
 if ¬ DF o.name then 8 else if o.ranks.length>60 then 4 else if PI o.ranks 0≠0 then PI o.ranks 0 else if o.Af.length=0 then 13 else if o.Af.length>8 then 4
 else if GL o.ranks o.Af 0≠0 then GL o.ranks o.Af 0 else En (o.Af.map fun d=>⟨d.lo,d.hi⟩) o.II
structure c1n (x:Seg):Prop where
 draws:x.draws.length<1000000
structure nT (x:Stp):Prop where
 name:x.name.length<1000000
 I7:x.I7.length<1000000
 all:∀ i,i<x.I7.length→c1n (gi x.I7 i)
structure b3f (x:mX):Prop where
 name:x.name.length<1000000
 stops:x.stops.length<1000000
 all:∀ i,i<x.stops.length→nT (gi x.stops i)
structure gX (r:Hr):Prop where
 name:r.name.length<1000000
 JQ:r.JQ.length<1000000
 EX:r.EX.length<1000000
structure TW (o:Ia):Prop where
 name:o.name.length<1000000
 ranks:o.ranks.length<1000000
 Af:o.Af.length<1000000
 II:o.II.length<1000000
 rk:∀ i,i<o.ranks.length→gX (gi o.ranks i)
 dv:∀ i,i<o.Af.length→b3f (gi o.Af i)
 cp:∀ i,i<o.II.length→(gi o.II i).name.length<1000000
theorem gX.len {r:Hr} (h:gX r):r.name.length<9223372036854775808∧r.JQ.length<9223372036854775808∧r.EX.length<9223372036854775808:=⟨by have:=h.name;omega,by have:=h.JQ;omega,by have:=h.EX;omega⟩
theorem iI {l:List Hr} (h:∀ i,i<l.length→Ce (gi l i)=0):∀ n k,l.length-k=n→dV l k=0
 |0,k,hk=>by rw [dV,if_neg (by omega)]
 |n+1,k,hk=>by
  rw [dV,if_pos (by omega),if_neg (fun h'=>h' (h k (by omega)))];exact iI h n (k+1) (by omega)
theorem Vy {l:List Hr} (h:∀ i,i<l.length→Ce (gi l i)=0∧(gi l i).name∉(l.take i).map Hr.name):∀ n k,l.length-k=n→PI l k=0
 |0,k,hk=>by rw [PI,if_neg (by omega)]
 |n+1,k,hk=>by
  obtain ⟨h1,h2⟩:=h k (by omega);rw [PI,if_pos (by omega),if_neg (fun h'=>h' h1),if_neg h2];exact Vy h n (k+1) (by omega)
theorem SQ {rk:List Hr} {lo hi:Int} {l:List Stp} (h:∀ i,i<l.length→DV rk lo hi (gi l i)=0∧(gi l i).name∉(l.take i).map Stp.name):∀ n k,l.length-k=n→RX rk lo hi l k=0
 |0,k,hk=>by rw [RX,if_neg (by omega)]
 |n+1,k,hk=>by
  obtain ⟨h1,h2⟩:=h k (by omega);rw [RX,if_pos (by omega),if_neg (fun h'=>h' h1),if_neg h2];exact SQ h n (k+1) (by omega)
theorem Tm {rk:List Hr} {l:List mX} (h:∀ i,i<l.length→DF (gi l i).name∧(gi l i).name∉(l.take i).map mX.name∧DN rk (gi l i)=0):∀ n k,l.length-k=n→GL rk l k=0
 |0,k,hk=>by rw [GL,if_neg (by omega)]
 |n+1,k,hk=>by
  obtain ⟨h1,h2,h3⟩:=h k (by omega);rw [GL,if_pos (by omega),if_neg (fun h'=>h' h1),if_neg h2,if_neg (fun h'=>h' h3)];exact Tm h n (k+1) (by omega)
theorem Vu {l:List mY} (h:∀ i,i<l.length→X3 (gi l i).lo (gi l i).hi=0):∀ n k,l.length-k=n→Tt l k=0
 |0,k,hk=>by rw [Tt,if_neg (by omega)]
 |n+1,k,hk=>by
  rw [Tt,if_pos (by omega),if_neg (fun h'=>h' (h k (by omega)))];exact Vu h n (k+1) (by omega)
structure a7z (n:Nat) (c:mW):Prop where
 name:DF c.name
 VD:0≤c.VD∧c.VD<n
 tgt:0≤c.tgt∧c.tgt<n
 shift:-127≤c.shift∧c.shift≤127
 form:¬ (c.VD=c.tgt∧c.shift=0)
theorem SX {m:Nat} {l:List mW} (h:∀ i,i<l.length→a7z m (gi l i)∧(gi l i).name∉(l.take i).map mW.name):∀ n k,l.length-k=n→RU m l k=0
 |0,k,hk=>by rw [RU,if_neg (by omega)]
 |n+1,k,hk=>by
  obtain ⟨⟨h1,h2,h3,h4,h5⟩,h6⟩:=h k (by omega);rw [RU,if_pos (by omega),if_neg (fun h'=>h' h1),if_neg h6,if_neg (by omega),if_neg (by omega),if_neg h5];exact SX h n (k+1) (by omega)
structure WW (n:Nat) (d:sZ):Prop where
 rank:0≤d.rank∧d.rank<n
 shift:-127≤d.shift∧d.shift≤127
theorem Sv {m:Nat} {l:List sZ} (h:∀ i,i<l.length→WW m (gi l i)∧gi l i∉l.take i):∀ n k,l.length-k=n→Rw m l k=0
 |0,k,hk=>by rw [Rw,if_neg (by omega)]
 |n+1,k,hk=>by
  obtain ⟨⟨h1,h2⟩,h3⟩:=h k (by omega);rw [Rw,if_pos (by omega),if_neg (by omega),if_neg (by omega),if_neg h3];exact Sv h n (k+1) (by omega)
theorem JO {m:Nat} {d:sZ} (h:WW m d):Ze m [d]=0:=by
 exact Sv (fun i hi=>by
  obtain rfl:i=0:=by grind
  exact ⟨h,by simp⟩) _ 0 rfl
theorem a4t {m:Nat} {d e:sZ} (h:WW m d) (h':WW m e) (hn:e≠d):Ze m [d,e]=0:=by
 refine Sv (fun i hi=>?_) _ 0 rfl;have:i=0∨i=1:=by grind
 rcases this with rfl|rfl
 ·exact ⟨h,by simp⟩
 ·exact ⟨h',by simpa [gi] using hn⟩
theorem Vw {lo hi:Int} (h:0≤lo∧lo≤hi∧hi≤127):X3 lo hi=0:=by
 unfold X3;omega
theorem a1f {l:List Hr} {lo hi:Int} (h:∀ i,i<l.length→Ce (gi l i)=0) (hl:l.length≤60) (hc:0≤lo∧lo≤hi∧hi≤127):qP l lo hi=0:=by
 unfold qP;rw [if_neg (by omega),if_neg (fun h'=>h' (iI h _ 0 rfl)),Vw hc]
structure b9t (n:Nat) (lo hi:Int) (g:Seg):Prop where
 pl:lo≤g.lo∧g.lo≤g.hi∧g.hi≤hi
 draws:Ze n g.draws=0
theorem SG {m:Nat} {lo hi:Int} {l:List Seg} (h:∀ i,i<l.length→b9t m lo hi (gi l i)∧(0<i→(gi l (i-1)).hi<(gi l i).lo)):∀ n k,l.length-k=n→Nv m lo hi l k=0
 |0,k,hk=>by rw [Nv,if_neg (by omega)]
 |n+1,k,hk=>by
  obtain ⟨⟨h1,h2⟩,h3⟩:=h k (by omega);rw [Nv,if_pos (by omega),if_neg (by omega),if_neg (fun h'=>by
   omega),if_neg (fun h'=>h' h2)]
  exact SG h n (k+1) (by omega)
theorem Ns {n:Nat} {lo hi:Int} {s:Seg} (h1:lo≤s.lo∧s.lo≤s.hi∧s.hi≤hi) (h2:Ze n s.draws=0):Nv n lo hi [s] 0=0 :=
 SG (fun i hi=>by
  obtain rfl:i=0:=by grind
  exact ⟨⟨h1,h2⟩,fun h=>by omega⟩) _ 0 rfl
theorem iJ {n:Nat} {lo hi:Int} {s t:Seg} (h1:lo≤s.lo∧s.lo≤s.hi∧s.hi<t.lo∧t.lo≤t.hi∧t.hi≤hi) (h2:Ze n s.draws=0) (h3:Ze n t.draws=0):Nv n lo hi [s,t] 0=0 :=
 SG (fun i hi=>by
  have:i=0∨i=1:=by grind
  rcases this with rfl|rfl
  ·exact ⟨⟨⟨h1.1,h1.2.1,show s.hi≤_ by omega⟩,h2⟩,fun h=>by omega⟩
  ·exact ⟨⟨⟨show lo≤t.lo by omega,h1.2.2.2⟩,h3⟩,fun _=>h1.2.2.1⟩) _ 0 rfl
def N9 (c:UInt8) (i:Int):List UInt8:=[c,UInt8.ofNat (48+i).toNat]
theorem b1f {c:UInt8} {i j:Nat} (hi:i<10) (hj:j<10) (h:N9 c i=N9 c j):i=j:=by
 simp only [N9,List.cons.injEq,and_true,true_and] at h;have:=congrArg UInt8.toNat h;rw [UInt8.toNat_ofNat',UInt8.toNat_ofNat'] at this;omega
theorem uI {c:UInt8} (hc:rG c.toNat) {i:Nat} (hi:i<10):DF (N9 c i):=by
 refine ⟨by simp [N9],by simp [N9],hc,fun j h1 h2=>?_⟩;obtain rfl:j=1:=by simp [N9] at h2;omega
 have e:(gi (N9 c i) 1).toNat=48+i:=by
  show (UInt8.ofNat (48+(i:Int)).toNat).toNat=_;rw [UInt8.toNat_ofNat'];omega
 right;omega
theorem jE {α:Type} [Inhabited α] {f:α→List UInt8} {c:UInt8} {l:List α} (hl:l.length≤10) (h:∀ i,i<l.length→f (gi l i)=N9 c i) {k:Nat} (hk:k<l.length):f (gi l k)∉(l.take k).map f:=by
 intro hm;rw [aR] at hm;obtain ⟨a,ha,he⟩:=hm;obtain ⟨j,hj,e⟩:=dr ha;rw [ax] at hj;have e2:a=gi l j:=by
  rw [← e,List.getElem_take];simp [gi,List.getElem?_eq_getElem (show j<l.length by omega)]
 rw [e2,h j (by omega),h k hk] at he;have:=b1f (by omega) (by omega) he;omega
attribute [local irreducible] Aa Aj Ah Ad AP Ap Bd BL Bf Ag Vm.Done BA AB OT
end Go.Proofs.YtnjkoebfgcbbdaaGreatDoor
namespace Go.Proofs.YtnjkoebfgcbbdaaGreatDoor
open Go Go.Am Go.Vm
attribute [local irreducible] Aa Aj Ah Ad AP Ap Bd BL Bf Ag Vm.Done BA AB
attribute [local irreducible] Ce Ba shz AZ
def c2z (r:Hr):Prop:=r.name.length<9223372036854775808∧r.JQ.length<9223372036854775808∧r.EX.length<9223372036854775808
noncomputable def X9 (r:Hr) (n:Int):Int:=if Ce r≠0 then Ce r else if n<0∨n≥r.EX.length then 10 else 0
def Lj:FV:=.agg [.str ⟨#[]⟩,.str ⟨#[]⟩,.int .i64 0,.int .i64 0,.int .i64 0,.val (.slice none 0 0)]
def b1t (r:Hr) (n:Int) (w:List Int):FV×Int:=if w.length>128 then (Lj,4) else if ¬ PK n then (Lj,3) else (.agg (Enc.enc { r with first:=n,EX:=w }),0)
noncomputable def c2y (r:Hr) (k:Int):Int×Bool×Int:=if X9 r k≠0 then (0,false,X9 r k) else if (AZ r.Eb ⟨8,1⟩).2≠0∨r.first+k+(AZ r.Eb ⟨8,1⟩).1<0∨r.first+k+(AZ r.Eb ⟨8,1⟩).1>127 then (0,false,(AZ r.Eb ⟨8,1⟩).2) else (r.first+k+(AZ r.Eb ⟨8,1⟩).1,true,0)
noncomputable def c2o (r:Hr) (n:Int):Int×Bool×Int:=if Ce r≠0 then (0,false,Ce r) else if n<r.first∨n≥r.first+r.EX.length then (0,false,0) else (n-r.first,true,0)
noncomputable def c5l (r:Hr) (w:List Int):FV×Int:=if Ce r≠0 then (Lj,Ce r) else if Ba w≠0 then (Lj,Ba w) else b1t r (r.first-w.length) (w++r.EX)
noncomputable def c3c (r:Hr) (f:KJ):FV×Int:=if Ce r≠0 then (Lj,Ce r) else if (AZ f r.Eb).2≠0 then (Lj,(AZ f r.Eb).2) else if PK (r.first-(AZ f r.Eb).1) then (.agg (Enc.enc { r with first:=r.first-(AZ f r.Eb).1,Eb:=f }),0) else (Lj,3)
attribute [local irreducible] X9
noncomputable def c7x (r:Hr) (n:Int):Int×Int:=if X9 r n≠0 then (0,X9 r n) else (r.first+n,0)
noncomputable def c8u (r:Hr) (n:Int):Int×Int:=if X9 r n≠0 then (0,X9 r n) else (gi r.EX n.toNat,0)
noncomputable def c7f (r:Hr) (w:List Int):FV×Int:=if Ce r≠0 then (Lj,Ce r) else if Ba w≠0 then (Lj,Ba w) else b1t r r.first (r.EX++w)
def b9p (l:List Int):Nat→Int
 |0=>0
 |k+1=>b9p l k+gi l k
noncomputable def c7s (r:Hr):Int×Int:=if Ce r≠0 then (0,Ce r) else (b9p r.EX r.EX.length,0)
def Rq:List KJ:=[⟨8,1⟩,⟨4,1⟩,⟨16,1⟩,⟨2,1⟩,⟨8,3⟩,⟨8,5⟩,⟨4,3⟩,⟨1,1⟩,⟨32,1⟩,⟨16,3⟩,⟨16,5⟩,⟨32,3⟩,⟨8,7⟩,⟨2,3⟩,⟨1,2⟩,⟨64,1⟩]
theorem a2x (n:Nat) (hn:n<256):Ap env 150 [.int .u8 (n:Int)] (.p (.agg (Enc.enc (gi Rq (n % 16))))):=by
 refine Ap.enter (Ae (by decide)) Tryz.func150 rfl (by kernel_rfl) (by simp [Tryz.ntmps150]) ?_;have hlt:n % 16<16:=bb _ (by decide)
 repeat' (first|(refine Aj.HY 22 ?_;refine Aj.ghost (Aw.freeze 19 rfl rfl) ?_)|apply Ad.Bz|apply Ad.ret|apply Aj.nil|apply Aj.one|(apply Aa.Ak (l:=Rq) (i:=n % 16);rfl;rfl;rfl;exact hlt;rfl)|(apply Aa.move;rfl)|(apply Aa.vF;rfl;rfl;omega;omega)|(apply Aa.load;rfl;rfl)|(apply Aa.alloc;rfl)|(apply Aa.FI;rfl;rfl;rfl;trivial;rfl;rfl;exact Bj rfl;exact le_dec rfl)|(apply Aa.build;rfl;rfl;rfl;rfl;rfl)|(apply Aa.buildSlice;rfl;rfl;rfl;decide;rfl;rfl;rfl))
 all_goals (refine Done.rt rfl rfl ⟨?_,rfl,rfl⟩;try rfl)
end Go.Proofs.YtnjkoebfgcbbdaaGreatDoor
namespace Go.Proofs.YtnjkoebfgcbbdaaGreatDoor
open Go Go.Am Go.Vm
attribute [local irreducible] Aa Aj Ah Ad AP Ap Bd BL Bf Ag Vm.Done BA AB
theorem yc {r:Hr} (h1:DF r.name) (h2:DF r.JQ) (h3:pOk r.Eb) (h4:-256≤r.first∧r.first≤256) (h5:0<r.EX.length∧r.EX.length≤128) (h6:okW r.EX):Ce r=0:=by
 unfold Ce;rw [if_neg (fun h=>h.elim (fun h=>h h1) (fun h=>h h2)),if_neg (fun h=>h (TQ.2 h3)),if_neg (by omega),if_neg (by omega),if_neg (by omega)];exact if_pos h6
theorem a2e:DF [79,112,101,110]:=by
 refine ⟨by decide,by decide,by decide,fun i h1 h2=>?_⟩;have:i=1∨i=2∨i=3:=by grind
 rcases this with rfl|rfl|rfl<;>exact .inl (by decide)
def c9z (f first:Int) (n:Nat):Hr:=⟨[82,111,119],[79,112,101,110],⟨f,1⟩,first,List.replicate n 1⟩
def c3t:Hr:=⟨[82,111,119],[79,112,101,110],⟨8,1⟩,24,List.replicate 12 0++List.replicate 61 1⟩
attribute [local irreducible] Ce Ba shz AZ X9 c2o c2y c5l c3c
end Go.Proofs.YtnjkoebfgcbbdaaGreatDoor
namespace Go.Proofs.YtnjkoebfgcbbdaaGreatDoor
open Go Go.Am Go.Vm
attribute [local irreducible] Aa Aj Ah Ad AP Ap Bd BL Bf Ag Vm.Done BA AB
instance encStr:Enc (List UInt8):={ default:=[],enc:=fun s=>[.str (bs s)],size:=1,len:=fun _=>rfl }
structure GK where
 JQ:Nat
 Eb:Nat
 first:Int
 pipes:Nat
 EX:List Nat
def GK.enc (x:GK):List FV:=[.int .u8 (x.JQ:Int),.int .u8 (x.Eb:Int),.int .i8 x.first,.int .u8 (x.pipes:Int),.int .u8 ((gi x.EX 0:Nat):Int),.int .u8 ((gi x.EX 1:Nat):Int),.int .u8 ((gi x.EX 2:Nat):Int),.int .u8 ((gi x.EX 3:Nat):Int),.int .u8 ((gi x.EX 4:Nat):Int)]
structure GK.Ok (x:GK):Prop where
 JQ:x.JQ<256
 Eb:x.Eb<256
 first:-128≤x.first∧x.first≤127
 pipes:x.pipes<256
 EX:∀ i,gi x.EX i<256
def UE:List (List UInt8):=[[79,112,101,110],[70,108,117,116,101],[82,101,101,100]]
def IV (x:GK):Nat→List Int
 |0=>[]
 |k+1=>IV x k++[((gi x.EX (k % 5):Nat):Int)]
theorem F8 (x:GK):∀ k,(IV x k).length=k
 |0=>rfl
 |k+1=>by simp [IV,F8 x k]
def Wi (x:GK) (i:Int):Hr:=⟨[82,UInt8.ofNat (48+i % 10).toNat],gi UE (x.JQ % 3),gi Rq (x.Eb % 16),x.first,IV x (1+x.pipes % 25)⟩
theorem a0g (x:GK) (hx:x.Ok) (i:Int) (hi:0≤i∧i≤1000):Ap env 114 [.agg x.enc,.int .i64 i] (.p (.agg (Enc.enc (Wi x i)))):=by
 obtain ⟨h1,h2,h3,h4,h5⟩:=hx;have hf:=a2x x.Eb h2;have hlt:x.JQ % 3<3:=bb _ (by decide);refine Ap.enter (Ae (by decide)) Tryz.func114 rfl (by kernel_rfl) (by simp [Tryz.ntmps114]) ?_
 repeat' (first|(refine Ah.HY 18 ?_;refine Ah.ghost (Aw.freeze 14 rfl rfl) ?_)|apply Ad.assoc|apply Ad.Bz|apply Ad.Cm|apply Ad.Fz|apply Aj.nil|apply Ah.nil|apply Aj.one|(apply Ah.bar;decide +kernel)|apply Ah.quiet|(apply Aa.fn;rfl;rfl;exact hf;intro _;rfl)|(apply Aa.H8;rfl;rfl;rfl;rfl;rfl;omega)|(apply Aa.Ak (l:=UE) (i:=x.JQ % 3);rfl;rfl;rfl;exact hlt;rfl)|(apply Aa.assign;rfl)|(apply Aa.move;rfl)|(apply Aa.LQ;rfl;rfl;omega)|(apply Aa.vF;rfl;rfl;omega;omega)|(apply Aa.load;rfl;rfl)|(apply Aa.Ij;rfl;rfl;rfl)|(apply Aa.box;rfl;trivial)|(apply Aa.alloc;rfl)|(apply Aa.FI;rfl;rfl;rfl;trivial;rfl;rfl;exact Bj rfl;exact le_dec rfl)|(apply Aa.build;rfl;rfl;rfl;rfl;rfl)|(apply Aa.buildSlice;rfl;rfl;rfl;decide;rfl;rfl;rfl)|(apply Aa.X0;rfl;rfl;(first|omega|(simp only [List.length_take,List.length_drop,List.length_append,List.length_singleton,List.length_cons,List.length_nil]<;>omega)))|(apply Aa.Hw;rfl;rfl;rfl;rfl;omega)|(apply Aa.Nj;rfl;rfl;rfl;rfl;omega))
 refine Ad.ghost (Aw.EU 4 5 3 rfl rfl) ?_;refine Ad.DJ (fun k:Nat=>[(2,.ref 0 0),(4,.ref 1 0),(5,.ref 4 0),(6,.p (.int .i64 (k:Int)))]) (fun k=>[(5,.vec 3 (cells (IV x k)) (IV x k).length true),(4,.box 113 [.p (.str (bs [82,UInt8.ofNat (48+i % 10).toNat])),.p (.str (bs (gi UE (x.JQ % 3)))),.p (.int .i64 (gi Rq (x.Eb % 16)).num),.p (.int .i64 (gi Rq (x.Eb % 16)).den),.p (.int .i64 x.first),.vec 5 (IV x k).length 0 (IV x k).length]),(1,.box 113 [.p (.str ⟨#[]⟩),.p (.str ⟨#[]⟩),.p (.int .i64 0),.p (.int .i64 0),.p (.int .i64 0),.p (.val (.slice none 0 0))]),(0,.box 226 (x.enc.map .p))]) 6 (fun k=>k≤1+x.pipes % 25) (fun k=>1+x.pipes % 25-k) 0 (by omega) (by omega) ⟨by omega,?_,?_⟩ ?_
 ·exact C9
 ·exact DT
 intro k hk;have hl:=F8 x k;have hw:=h5 (k % 5);have e1:IV x (k+1)=IV x k++[((gi x.EX (k % 5):Nat):Int)]:=rfl;have e2:(IV x (k+1)).length=(IV x k).length+1:=by rw [e1];simp
 have hr:(x.enc.map PV.p)[4+((k:Int) % 5).toNat*1]?=some (.p (.int .u8 ((gi x.EX (k % 5):Nat):Int))):=by
  have e0:((k:Int) % 5).toNat=k % 5:=by omega
  rw [e0];have:k % 5<5:=bb _ (by decide);generalize k % 5=n at this
  match n,this with
  |0,_=>rfl
  |1,_=>rfl
  |2,_=>rfl
  |3,_=>rfl
  |4,_=>rfl
 repeat' (first|(refine Ad.at 6 ?_;refine Ad.ghost (Aw.Dn 4 5 rfl rfl rfl) ?_;first|apply Ad.Bz|apply Ad.Cm)|(apply Aa.a9j;rfl;rfl;rfl;exact hr)|(apply Aa.UC;rfl;rfl;rfl;rfl;rfl;omega)|(apply Aa.Dc;rfl;rfl;rfl;rfl;rfl;rfl;rfl;rfl;(intro _ h;cases h);rfl;rfl;rfl;decide;decide;(first|omega|(simp only [List.length_take,List.length_drop,List.length_append,List.length_singleton,List.length_cons,List.length_nil]<;>omega)))|refine go1 ?_|apply Ad.Bz|apply Ad.region|apply Ad.Fg|(apply Aa.int;rfl;rfl;rfl)|(apply Aa.buildSlice;rfl;rfl;rfl;decide;rfl;rfl;rfl)|(apply Aa.Hw;rfl;rfl;rfl;rfl;omega)|(apply Ad.Ac;rfl)|(intro _;try (exfalso;omega)))
 ·refine Ag.normal ⟨k+1,by omega,by omega,⟨by omega,?_,?_⟩⟩
  ·exact C9
  ·rw [e2,e1];exact DT
 ·obtain rfl:k=1+x.pipes % 25:=by omega
  refine Done.rt rfl rfl ⟨?_,rfl,rfl⟩;rfl
end Go.Proofs.YtnjkoebfgcbbdaaGreatDoor
