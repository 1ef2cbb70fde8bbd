/-
  Texts of a proof, merged (IntB, FraA, RkB, RkC, OrA, OrB, RkA, RkD, RkE, RkF, RkG, RkH, RkI). Conditions: in each statement.
-/
import Derived.Test.YtnjkoebfgcbbdaaGreatDoorKCh
set_option linter.unusedSimpArgs false
set_option linter.unusedVariables false
set_option linter.unusedSectionVars false
set_option maxRecDepth 100000
set_option maxHeartbeats 8000000
abbrev du:=@Int.toNat_of_nonneg
abbrev dC:=@Int.natCast_mul
abbrev em:=@Nat.pow_lt_pow_iff_right
abbrev fq:=@Nat.pow_lt_pow_left
abbrev fx:=@Nat.mul_lt_mul_of_lt_of_le
abbrev gk:=@Nat.le_of_lt
abbrev gz:=@Nat.mul_one
namespace Go.Proofs.YtnjkoebfgcbbdaaGreatDoor
section
open Go Go.Am Go.Vm
attribute [local irreducible] Aa Ah Af Ad Az Ai Ba Bq Bd Aj Vm.Done Bg AB
theorem a8g {L:Vm.Frame} {H:Vm.Heap} {nx:Nat} {Q:PV→Vm.Heap→Nat→Prop} {dst:Option Tmp} {ty:TypeId} {pos:String} {af:Array Edge} {gd:Option (Nat×Bool)} {fo:Operand} {args:Array Operand} {aT:Array TypeId} {fs cs xs:List PV} {c:Code}
 (hf:AU env.Γ L fo=some (.clo 104 fs cs)) (ha:evs env.Γ L args.toList=some xs) (hb:Tryz.f104.body=some c) (hn:(fs++xs++cs).length≤Tryz.f104.ntmps)
 (h:Ad env nx c (CG 0 (fs++xs++cs)) H nx (AB env.P Tryz.f104.results.toList Q)):Aa env true ⟨dst,.call { callee:=.value fo,args:=args,argTypes:=aT },ty,pos,af,gd⟩ L H nx Q:=by
 have h0:(match Tryz.f104.body with|some c=>IL env.G Tryz.f104 c|none=>false)=true:=by kernel_rfl
 rw [hb] at h0;exact Aa.inline rfl hf ha (Ae (by decide)) Tryz.func104 hb h0 hn h
theorem a7x {L:Vm.Frame} {H:Vm.Heap} {nx:Nat} {Q:PV→Vm.Heap→Nat→Prop} {dst:Option Tmp} {ty:TypeId} {pos:String} {af:Array Edge} {gd:Option (Nat×Bool)} {fo:Operand} {args:Array Operand} {aT:Array TypeId} {fs cs xs:List PV} {c:Code}
 (hf:AU env.Γ L fo=some (.clo 103 fs cs)) (ha:evs env.Γ L args.toList=some xs) (hb:Tryz.f103.body=some c) (hn:(fs++xs++cs).length≤Tryz.f103.ntmps)
 (h:Ad env nx c (CG 0 (fs++xs++cs)) H nx (AB env.P Tryz.f103.results.toList Q)):Aa env true ⟨dst,.call { callee:=.value fo,args:=args,argTypes:=aT },ty,pos,af,gd⟩ L H nx Q:=by
 have h0:(match Tryz.f103.body with|some c=>IL env.G Tryz.f103 c|none=>false)=true:=by kernel_rfl
 rw [hb] at h0;exact Aa.inline rfl hf ha (Ae (by decide)) Tryz.func103 hb h0 hn h
theorem oI {L:Vm.Frame} {H:Vm.Heap} {nx:Nat} {Q:PV→Vm.Heap→Nat→Prop} {dst:Option Tmp} {ty:TypeId} {pos:String} {af:Array Edge} {gd:Option (Nat×Bool)} {fo:Operand} {args:Array Operand} {aT:Array TypeId} {fs cs xs:List PV} {c:Code}
 (hf:AU env.Γ L fo=some (.clo 144 fs cs)) (ha:evs env.Γ L args.toList=some xs) (hb:Tryz.f144.body=some c) (hn:(fs++xs++cs).length≤Tryz.f144.ntmps)
 (h:Ad env nx c (CG 0 (fs++xs++cs)) H nx (AB env.P Tryz.f144.results.toList Q)):Aa env true ⟨dst,.call { callee:=.value fo,args:=args,argTypes:=aT },ty,pos,af,gd⟩ L H nx Q:=by
 have h0:(match Tryz.f144.body with|some c=>IL env.G Tryz.f144 c|none=>false)=true:=by kernel_rfl
 rw [hb] at h0;exact Aa.inline rfl hf ha (Ae (by decide)) Tryz.func144 hb h0 hn h
theorem su (n:Nat):¬ (List.take 1 (Lib.decDigits n)=[45]):=fun h=>by
 have h1:=Num.Ko n 45 (fi (by rw [h];simp));grind
theorem b0d (n:Nat):0<(Lib.decDigits n).length:=by rw [Lib.decDigits_length];exact Lib.nDigits_pos n
theorem b1v {a b:Nat} (h:Lib.decDigits a=Lib.decDigits b):a=b:=by
 have h1:Lib.nDigits a=Lib.nDigits b:=by rw [← Lib.decDigits_length,← Lib.decDigits_length,h]
 rw [Num.EL,Num.EL,h1] at h;have:=congrArg Num.parse h;rw [Num.UQ,Num.UQ,bt (by rw [← h1];exact Lib.lt_pow_nDigits a),bt (Lib.lt_pow_nDigits b)] at this;omega
theorem a8n (a:Nat):Lib.decDigits a=[48]↔a=0:=by
 have:Lib.decDigits 0=[48]:=by rw [Lib.decDigits_one (by decide)];rfl
 rw [← this];exact ⟨b1v,fun h=>by rw [h]⟩
theorem a1i (n:Nat):Num.parse (Lib.decDigits n)=n:=by
 rw [Num.EL,Num.UQ,bt (Lib.lt_pow_nDigits n)]
theorem a4z (n:Nat):Ai env 54 [.str (bs (Lib.decDigits n)),.str (bs [45])] (.Eb [st (Lib.decDigits n),.p (.bool false)]):=by
 refine Ai.enter (Ae (by decide)) Tryz.func54 rfl (by kernel_rfl) (by simp) ?_;have h1:=su n;have h2:=b0d n
 repeat' (first|(apply a8g;rfl;rfl;rfl;exact le_dec rfl)|(apply oI;rfl;rfl;rfl;exact le_dec rfl)|(apply Aa.MH;rfl;rfl)|refine go2 ?_|(apply AB.ret;rfl)|(apply Ah.guard;rfl;rfl)|(apply Aa.eqS;rfl;rfl)|(apply Aa.nZ;rfl;rfl;rfl;omega)|(apply Aa.wQ;rfl;rfl;rfl;omega)|(apply Ad.AX;rfl)|(apply Ad.JO;rfl)|(intro _))
 ·refine Done.rt rfl rfl ⟨?_,rfl,rfl⟩
  rfl
 ·grind
 grind
theorem cut_spec' (n:Nat):Ai env 54 [.str (bs (Lib.decDigits n)),.str ⟨#[45]⟩] (.Eb [st (Lib.decDigits n),.p (.bool false)]):=a4z n
theorem Tt (n:Nat) (hn:Lib.nDigits n<900000):Ai env 92 [.str (bs (Lib.decDigits n))] (.Eb [lst 82 (Num.toL n),.p (.bool false)]):=by
 refine Ai.enter (Ae (by decide)) Tryz.func92 rfl (by kernel_rfl) (by simp) ?_
 repeat' (first|(apply Aa.fn;rfl;rfl;exact cut_spec' n;intro _;rfl)|(apply Aa.fn;rfl;rfl;exact zY n hn;intro _;rfl)|refine Cb ?_|fail)
 ·refine Done.rt rfl rfl ⟨?_,rfl,rfl⟩
  rfl
theorem XC (n:Nat) (hn:(Num.toL n).length<1000000):Ai env 93 [.lst 82 (cells (Num.toL n)) (Num.toL n).length,.bool false] (st (Lib.decDigits n)):=by
 refine Ai.enter (Ae (by decide)) Tryz.func93 rfl (by kernel_rfl) (by simp) ?_;have ht:=pG (Num.toL n) (Num.L9 n) (by omega);rw [Num.dU] at ht
 repeat' (first|(apply Aa.fn;rfl;rfl;exact ht;intro _;rfl)|refine Cb ?_|(apply Ad.Ak;rfl))
 ·refine Done.rt rfl rfl ⟨?_,rfl,rfl⟩
  rfl
theorem YE (n:Int) (h:-9223372036854775808≤n∧n≤9223372036854775807):Ai env 18 [.int .i64 n] (st (Lib.itoa n)):=by
 refine Ai.enter (Ae (by decide)) Tryz.func18 rfl (by kernel_rfl) (by simp) ?_
 repeat' (first|(apply Aa.fn;rfl;rfl;exact a5e n h;intro _;rfl)|refine Cb ?_|fail)
 ·refine Done.rt rfl rfl ⟨?_,rfl,rfl⟩
  rfl
theorem a7c (n:Nat):Lib.itoa (n:Int)=Lib.decDigits n:=by rfl
theorem Ot (n g:Nat) (hg:g≤18):Ai env 91 [.str (bs (Lib.decDigits n)),.int .i64 (g:Int)] (.Eb [.p (.int .i64 ((if Lib.nDigits n≤g then n else 0:Nat):Int)),.p (.bool (decide (Lib.nDigits n≤g)))]):=by
 refine Ai.enter (Ae (by decide)) Tryz.func91 rfl (by kernel_rfl) (by simp) ?_;have hl:=Lib.decDigits_length n;by_cases hng:Lib.nDigits n≤g
 ·rw [if_pos hng,decide_eq_true hng]
  obtain ⟨d,hd⟩:∃ d,d=Lib.decDigits n:=⟨_,rfl⟩
  have hc:=cut_spec' n;rw [← hd] at hl hc ⊢;have hdig:∀ i,i<d.length→48≤(gi d i).toNat∧(gi d i).toNat≤57:=fun i hi=>mO (p:=fun c=>48≤c.toNat∧c.toNat≤57) (by rw [hd];exact Num.Ko n) i hi
  have hpv:∀ j,j≤d.length→Num.parse (d.take j)<1000000000000000000:=fun j hj=>by
   have h1:=Num.rO (d.take j) (fun c hc=>by
    have hm:=fi hc;rw [hd] at hm;exact Num.Ko n c hm)
   rw [aw,ck hj] at h1;have h2:10 ^ j≤10 ^ 18:=aE (by decide) (by omega);omega
  repeat' (first|(apply Aa.fn;rfl;rfl;exact hc;intro _;rfl)|(apply Aa.lenV;rfl;rfl;rfl)|(apply Aa.MH;rfl;rfl)|refine Cb ?_|(apply Aa.int;rfl;rfl;rfl)|(apply Aa.toBytes;rfl;rfl;rfl;rfl;rfl;rfl;omega)|(apply Ad.Ac;rfl)|(intro _;try (exfalso;omega)))
  refine Ad.D6 (fun j:Nat=>[(7,.p (.bool false)),(8,.p (.int .i64 ((Num.parse (d.take j):Nat):Int))),(21,.vec 0 d.length 0 d.length),(22,.p (.int .i64 d.length)),(23,.p (.int .i64 (j:Int)))])
   (fun _=>[(0,.vec 5 (cells d) d.length false)]) 1 (fun j=>j≤d.length) (fun j=>d.length-j) 0 (by omega) (by omega) ⟨ab _,?_,?_⟩ ?_
  ·exact Dy
  ·exact Ey
  intro j hj;have hv:=hpv j hj;by_cases hlj:j<d.length
  ·have hd2:=hdig j hlj
   have hv2:=hpv (j+1) hlj;rw [Num.parse_snoc' d j hlj] at hv2
   repeat' (first|(apply Aa.Di;rfl;rfl;rfl;rfl;omega)|refine go2 ?_|(apply Aa.Ea;rfl;rfl;rfl;rfl;omega)|(apply Ad.Ac;rfl)|(intro _;try (exfalso;omega)))
   refine Aj.normal ⟨j+1,by omega,by omega,⟨by omega,?_,?_⟩⟩
   ·rw [Num.parse_snoc' d j hlj,Int.natCast_add,dC];exact Dy
   ·exact Ey
  ·have hjp:j=d.length:=by omega
   subst hjp
   repeat' (first|refine go2 ?_|(apply Ad.Ak;rfl)|(apply Ad.Ac;rfl)|(intro _;try (exfalso;omega)))
   ·refine Done.rt rfl rfl ⟨?_,rfl,rfl⟩
    rw [cC,hd,a1i]
 ·rw [if_neg hng,decide_eq_false hng]
  repeat' (first|(apply Aa.fn;rfl;rfl;exact cut_spec' n;intro _;rfl)|(apply Aa.MH;rfl;rfl)|refine Cb ?_|(apply Aa.int;rfl;rfl;rfl)|(apply Ad.Ac;rfl)|(intro _;try (exfalso;omega)))
  ·refine Done.rt rfl rfl ⟨?_,rfl,rfl⟩
   rfl
end
section
open Go Go.Am Go.Vm
attribute [local irreducible] Aa Ah Af Ad Az Ai Ba Bq Bd Aj Vm.Done Bg AB
theorem toL_short {x K:Nat} (h:x<10 ^ K) (hK:K<900000):(Num.toL x).length<200000:=by
 have h1:x<Num.B9 ^ (K / 9+1):=by
  refine ag h ?_;rw [show Num.B9 ^ (K / 9+1)=10 ^ (9*(K / 9+1)) by rw [dp]];exact aE (by decide) (by omega)
 have:=Num.toL_len_le x (K / 9+1) h1;omega
theorem b1i (e i:Nat):e &&& 2 ^ i=if e / 2 ^ i % 2=1 then 2 ^ i else 0:=by
 apply Nat.eq_of_testBit_eq;grind
theorem Y2 (n e:Nat) (he:e≤6000) (hne:e*Lib.nDigits n≤24000) (hn:Lib.nDigits n<100000):Ai env 195 [.str (bs (Lib.decDigits n)),.int .i64 (e:Int)] (.Eb [st (Lib.decDigits (n ^ e)),.p (.int .i64 0)]):=by
 refine Ai.enter (Ae (by decide)) Tryz.func195 rfl (by kernel_rfl) (by simp [Tryz.ntmps195]) ?_;have hlt:=Lib.lt_pow_nDigits n;have hnl:=toL_short hlt (by omega);obtain ⟨K,hK⟩:∃ K:Nat,K=24000:=⟨_,rfl⟩
 rw [← hK] at hne;have yc:∀ k,k≤e→(Num.toL (n ^ k)).length<200000:=fun k hk=>by
  refine toL_short (K:=K) ?_ (by omega);have h1:n ^ k≤(10 ^ Lib.nDigits n) ^ k:=Nat.pow_le_pow_left (gk hlt) k;rw [← dp] at h1;rcases am k with h0|h0
  ·rw [h0,eh];exact Nat.one_lt_pow (by omega) (by decide)
  ·have h2:n ^ k<(10 ^ Lib.nDigits n) ^ k:=fq hlt (by omega)
   rw [← dp] at h2;refine ag h2 (aE (by decide) ?_);have:=bX (Lib.nDigits n) hk;rw [cY (Lib.nDigits n) e] at this;omega
 have htx:=pG (Num.toL n) (Num.L9 n) (by omega);rw [Num.dU] at htx;have hdl:=Lib.decDigits_length n;have hmul:(e:Int)*((Lib.decDigits n).length:Int)≤24000:=by rw [hK] at hne;rw [hdl];exact_mod_cast hne
 have c6y:(0:Int)≤(e:Int)*((Lib.decDigits n).length:Int):=by rw [hdl,← dC];omega
 repeat' (first|(apply Aa.fn;rfl;rfl;exact Tt n (by omega);intro _;rfl)|(apply Aa.fn;rfl;rfl;exact htx;intro _;rfl)|(apply Aa.MH;rfl;rfl)|refine Cb ?_|(apply Aa.int;rfl;rfl;rfl)|(apply Aa.buildSlice;rfl;rfl;rfl;decide;rfl;rfl;rfl)|(apply Ad.Ac;rfl)|(intro _;try (exfalso;omega)))
 refine Ad.ghost (Ar.freeze 8 rfl rfl) ?_;have one:Num.toL 1=[1]:=by rw [Num.toL_pos (by decide),show 1 / Num.B9=0 by decide,Num.toL_zero];rfl
 have e14:e / 2 ^ 14=0:=eM (by omega);refine Ad.D6 (fun b:Nat=>[(1,.p (.int .i64 (e:Int))),(6,lst 82 (Num.toL n)),(7,.p (.bool false)),(8,lst 82 (Num.toL (n ^ (e / 2 ^ b)))),(9,.p (.int .i64 ((2 ^ b / 2:Nat):Int)))]) (fun _=>[]) 1 (fun b=>b≤14) (fun b=>b) 14 (by omega) (by omega) ⟨ab _,?_,?_⟩ ?_
 ·rw [e14,eh,one];exact Dy
 ·exact BG.nil
 intro b hb;rcases am b with hb0|hb0
 ·subst hb0
  have hlen:=yc e (ab _);have hs:=XC (n ^ e) (by omega);rw [eh,Nat.div_one]
  repeat' (first|(apply Aa.fn;rfl;rfl;exact hs;intro _;rfl)|refine Cb ?_|(apply Aa.int;rfl;rfl;rfl)|(apply Ad.Ak;rfl))
  ·(refine Done.rt rfl rfl ⟨?_,rfl,rfl⟩;try rfl)
 ·obtain ⟨i,rfl⟩:∃ i,b=i+1:=⟨b-1,by omega⟩
  have hp1:2 ^ (i+1) / 2=2 ^ i:=by rw [bR,Nat.mul_div_cancel _ (by decide)]
  have hp0:0<2 ^ i:=cV (by decide);have c8p:2 ^ i≤2 ^ 13:=aE (by decide) (by omega);rw [hp1];have hle:e / 2 ^ (i+1)≤e:=Nat.div_le_self _ _;have h1:=TJ (Num.toL (n ^ (e / 2 ^ (i+1)))) (Num.toL (n ^ (e / 2 ^ (i+1)))) (Num.L9 _) (Num.L9 _) (by have:=yc _ hle;omega) (by have:=yc _ hle;omega);rw [Num.UE] at h1;have hle2:e / 2 ^ (i+1)+e / 2 ^ (i+1)≤e:=by
   have h2:e / 2 ^ (i+1)*2 ^ (i+1)≤e:=Nat.div_mul_le_self _ _;have h3:e / 2 ^ (i+1)*2≤e / 2 ^ (i+1)*2 ^ (i+1):=bX _ (by rw [bR];omega);omega
  have h2:=TJ (Num.toL (n ^ (e / 2 ^ (i+1))*n ^ (e / 2 ^ (i+1)))) (Num.toL n) (Num.L9 _) (Num.L9 _) (by rw [← cv];have:=yc _ hle2;omega) (by omega);rw [Num.UE,Num.UE] at h2;have hbit:=Num.b0o n e i;have hand:=b1i e i;by_cases hb1:e / 2 ^ i % 2=1
  ·rw [if_pos hb1] at hbit hand
   repeat' (first|(apply Aa.fn;rfl;rfl;exact h1;intro _;rfl)|(apply Aa.fn;rfl;rfl;exact h2;intro _;rfl)|refine Cb ?_|(apply Aa.int;rfl;rfl;rfl)|(apply Aa.lD;rfl;rfl;(simp only [IntKind.bits];omega))|(apply Ad.Ac;rfl)|(apply Ad.Aq;rfl)|(intro _;try (exfalso;omega)))
   all_goals try (exfalso;rename_i hx;rw [hand] at hx;omega)
   refine Aj.normal ⟨i,by omega,by omega,⟨by omega,?_,?_⟩⟩
   ·rw [← hbit];exact Dy
   ·exact BG.nil
  ·rw [if_neg hb1,gz] at hbit
   rw [if_neg hb1] at hand
   repeat' (first|(apply Aa.fn;rfl;rfl;exact h1;intro _;rfl)|refine Cb ?_|(apply Aa.int;rfl;rfl;rfl)|(apply Aa.lD;rfl;rfl;(simp only [IntKind.bits];omega))|(apply Ad.Ac;rfl)|(apply Ad.Aq;rfl)|(intro _;try (exfalso;omega)))
   all_goals try (exfalso;rename_i hx;rw [hand] at hx;omega)
   refine Aj.normal ⟨i,by omega,by omega,⟨by omega,?_,?_⟩⟩
   ·rw [← hbit];exact Dy
   ·exact BG.nil
theorem oM (a b:Nat) (ha:Lib.nDigits a<400000) (hb:Lib.nDigits b<400000):Ai env 196 [.str (bs (Lib.decDigits a)),.str (bs (Lib.decDigits b))] (st (Lib.decDigits (a*b))):=by
 refine Ai.enter (Ae (by decide)) Tryz.func196 rfl (by kernel_rfl) (by simp) ?_;have qa:=Ot a 9 (by decide);have qb:=Ot b 9 (by decide);have la:=Lib.lt_pow_nDigits a;have lb:=Lib.lt_pow_nDigits b;have hla:=toL_short la (by omega);have hlb:=toL_short lb (by omega);have ht:=TJ (Num.toL a) (Num.toL b) (Num.L9 _) (Num.L9 _) (by omega) (by omega);rw [Num.UE,Num.UE] at ht;have hlab:(Num.toL (a*b)).length<200000:=toL_short (K:=Lib.nDigits a+Lib.nDigits b) (by
  rw [cv];exact fx la (gk lb) (cV (by decide))) (by omega)
 have hs:=XC (a*b) (by omega);by_cases h9:Lib.nDigits a≤9∧Lib.nDigits b≤9
 ·rw [if_pos h9.1,decide_eq_true h9.1] at qa
  rw [if_pos h9.2,decide_eq_true h9.2] at qb;have ha9:a<1000000000:=ag la (aE (n:=10) (by decide) h9.1);have hb9:b<1000000000:=ag lb (aE (n:=10) (by decide) h9.2);have hab:a*b≤999999999*999999999:=cM (by omega) (by omega);have c8d:(a:Int)*(b:Int)=((a*b:Nat):Int):=(dC a b).symm;have ho:=YE ((a:Int)*(b:Int)) (by omega)
  repeat' (first|(apply Aa.fn;rfl;rfl;exact qa;intro _;rfl)|(apply Aa.fn;rfl;rfl;exact qb;intro _;rfl)|(apply Aa.fn;rfl;rfl;exact ho;intro _;rfl)|refine Cb ?_|(apply Ad.AX;rfl))
  ·refine Done.rt rfl rfl ⟨?_,rfl,rfl⟩
   rfl
 ·repeat' (first|(apply Aa.fn;rfl;rfl;exact qa;intro _;rfl)|(apply Aa.fn;rfl;rfl;exact qb;intro _;rfl)|(apply Aa.fn;rfl;rfl;exact Tt a (by omega);intro _;rfl)|(apply Aa.fn;rfl;rfl;exact Tt b (by omega);intro _;rfl)|(apply Aa.fn;rfl;rfl;exact ht;intro _;rfl)|(apply Aa.fn;rfl;rfl;exact hs;intro _;rfl)|refine Cb ?_|(apply Aa.neB;rfl;rfl;rfl)|(apply Ad.Ac;rfl)|(intro _;try (exfalso;omega)))
  all_goals (refine Done.rt rfl rfl ⟨?_,rfl,rfl⟩;try rfl)
theorem iE (n:Nat):Ai env 53 [.str (bs (Lib.decDigits n))] (.p (.int .i64 (if n=0 then 0 else 1))):=by
 refine Ai.enter (Ae (by decide)) Tryz.func53 rfl (by kernel_rfl) (by simp) ?_;have h1:=su n;have h3:=a8n n
 repeat' (first|(apply a7x;rfl;rfl;rfl;exact le_dec rfl)|(apply oI;rfl;rfl;rfl;exact le_dec rfl)|(apply Aa.MH;rfl;rfl)|refine go2 ?_|(apply AB.ret;rfl)|(apply Ah.guard;rfl;rfl)|(apply Aa.eqS;rfl;rfl)|(apply Aa.nZ;rfl;rfl;rfl;omega)|(apply Ad.cond_false;rfl)|(apply Ad.Aq;rfl)|(intro _))
 all_goals first
  |(exfalso;simp_all;done)
  |(exfalso;simp_all;omega)
  |((refine Done.rt rfl rfl ⟨?_,rfl,rfl⟩;try rfl);grind)
theorem aX:∀ (a b:List UInt8),-1≤Lib.compareBytes a b∧Lib.compareBytes a b≤1
 |[],[]=>by simp [Lib.compareBytes]
 |[],_::_=>by simp [Lib.compareBytes]
 |_::_,[]=>by simp [Lib.compareBytes]
 |a::as',b::bs'=>by
  simp only [Lib.compareBytes];have:=aX as' bs';omega
def dH (a b:Nat):Int:=if a<b then -1 else if b<a then 1 else 0
theorem b1l {a b:Nat} (h:Lib.nDigits a=Lib.nDigits b):Lib.compareBytes (Lib.decDigits a) (Lib.decDigits b)=dH a b:=by
 rw [Num.EL,Num.EL,← h];exact Num.b4w _ _ _ (Lib.lt_pow_nDigits a) (by rw [h];exact Lib.lt_pow_nDigits b)
theorem mF (a b:Nat) (ha:Lib.nDigits a<400000) (hb:Lib.nDigits b<400000):Ai env 22 [.str (bs (Lib.decDigits a)),.str (bs (Lib.decDigits b))] (.p (.int .i64 (dH a b))):=by
 refine Ai.enter (Ae (by decide)) Tryz.func22 rfl (by kernel_rfl) (by simp) ?_;have sa:=iE a;have sb:=iE b;have hla:=Lib.decDigits_length a;have hlb:=Lib.decDigits_length b;have hcb:=aX (Lib.decDigits a) (Lib.decDigits b);have z1:Lib.nDigits 0=1:=Lib.nDigits_small (by decide);by_cases ha0:a=0<;>by_cases hb0:b=0
 ·rw [if_pos ha0] at sa
  rw [if_pos hb0] at sb;have heq:Lib.nDigits a=Lib.nDigits b:=by grind
  repeat' (first|(apply Aa.fn;rfl;rfl;exact sa;intro _;rfl)|(apply Aa.fn;rfl;rfl;exact sb;intro _;rfl)|(apply Aa.fn;rfl;rfl;exact cut_spec' a;intro _;rfl)|(apply Aa.fn;rfl;rfl;exact cut_spec' b;intro _;rfl)|(apply Aa.fn;rfl;rfl;exact WY _ _;intro _;rfl)|(apply Aa.MH;rfl;rfl)|refine Cb ?_|(apply Aa.int;rfl;rfl;rfl)|(apply Ad.cond_false;rfl)|(apply Ad.Aq;rfl)|(intro _;try (exfalso;omega)))
  all_goals first
   |(exfalso;omega)
   |((refine Done.rt rfl rfl ⟨?_,rfl,rfl⟩;try rfl);refine PV.int_eq ?_;simp [dH,ha0,hb0];done)
 ·rw [if_pos ha0] at sa
  rw [if_neg hb0] at sb
  repeat' (first|(apply Aa.fn;rfl;rfl;exact sa;intro _;rfl)|(apply Aa.fn;rfl;rfl;exact sb;intro _;rfl)|refine Cb ?_|(apply Aa.int;rfl;rfl;rfl)|(apply Ad.cond_true;rfl))
  all_goals first
   |(exfalso;omega)
   |((refine Done.rt rfl rfl ⟨?_,rfl,rfl⟩;try rfl);refine PV.int_eq ?_;unfold dH;rw [if_pos (by omega)];done)
 ·rw [if_neg ha0] at sa
  rw [if_pos hb0] at sb
  repeat' (first|(apply Aa.fn;rfl;rfl;exact sa;intro _;rfl)|(apply Aa.fn;rfl;rfl;exact sb;intro _;rfl)|refine Cb ?_|(apply Aa.int;rfl;rfl;rfl)|(apply Ad.cond_true;rfl)|(apply Ad.cond_false;rfl))
  all_goals first
   |(exfalso;omega)
   |((refine Done.rt rfl rfl ⟨?_,rfl,rfl⟩;try rfl);refine PV.int_eq ?_;unfold dH;rw [if_neg (by omega),if_pos (by omega)];done)
 ·rw [if_neg ha0] at sa
  rw [if_neg hb0] at sb;have hm1:Lib.nDigits a<Lib.nDigits b→a<b:=Num.O6;have hm2:Lib.nDigits b<Lib.nDigits a→b<a:=Num.O6
  repeat' (first|(apply Aa.fn;rfl;rfl;exact sa;intro _;rfl)|(apply Aa.fn;rfl;rfl;exact sb;intro _;rfl)|(apply Aa.fn;rfl;rfl;exact cut_spec' a;intro _;rfl)|(apply Aa.fn;rfl;rfl;exact cut_spec' b;intro _;rfl)|(apply Aa.fn;rfl;rfl;exact WY _ _;intro _;rfl)|(apply Aa.MH;rfl;rfl)|refine Cb ?_|(apply Aa.int;rfl;rfl;rfl)|(apply Aa.neg;rfl;omega)|(apply Ad.cond_false;rfl)|(apply Ad.Aq;rfl)|(intro _;try (exfalso;omega)))
  ·(refine Done.rt rfl rfl ⟨?_,rfl,rfl⟩;try rfl)
   refine PV.int_eq ?_;have:=hm1 (by omega);unfold dH;rw [if_pos this]
  ·(refine Done.rt rfl rfl ⟨?_,rfl,rfl⟩;try rfl)
   refine PV.int_eq ?_;have:=hm2 (by omega);unfold dH;rw [if_neg (by omega),if_pos this]
  ·(refine Done.rt rfl rfl ⟨?_,rfl,rfl⟩;try rfl)
   refine PV.int_eq ?_;rw [Int.one_mul,b1l (by omega)]
end
end Go.Proofs.YtnjkoebfgcbbdaaGreatDoor
namespace Go.Vm
open Go.Am
theorem Uf {n:Int} (h0:n<0) (h:-18446744073709551616≤n):IntKind.u64.wrap n=n+18446744073709551616:=by
 have e:IntKind.u64.wrap n=n % 2^64:=by
  rfl
 omega
section
variable {E:Env} {L:Frame} {H:Heap} {nx:Nat} {Q:PV→Heap→Nat→Prop} {w:Bool}
variable {dst:Option Tmp} {ty:TypeId} {pos:String} {af:Array Edge} {gd:Option (Nat×Bool)}
theorem Aa.b7i {s d:TypeId} {x:Operand} {k':IntKind} {n:Int} {sd:TypeDesc} (hx:AU E.Γ L x=some (.p (.int k' n))) (hs:E.P.underlying s=some sd) (hns:oq sd=true) (hd:E.P.underlying d=some (.int .u64)) (hn:n<0∧-18446744073709551616≤n) (q:Q (.p (.int .u64 (n+18446744073709551616))) H nx) :
 Aa E w ⟨dst,.convert s d x,ty,pos,af,gd⟩ L H nx Q:=Aa.Yo hx hs hns hd (by rw [Uf hn.1 hn.2];exact q)
theorem Aa.c4y {t:TypeId} {x:Operand} {a:Int} (hx:AU E.Γ L x=some (.p (.int .u64 a))) (h:0<a∧a<18446744073709551616) (q:Q (.p (.int .u64 (18446744073709551616-a))) H nx):Aa E w ⟨dst,.unOp .neg t x,ty,pos,af,gd⟩ L H nx Q :=
 Aa.quiet q fun m F σ tt c1 c2=>by
  refine ⟨.int .u64 (18446744073709551616-a),fun _=>?_,.p (.int _ _)⟩;have hd:DF E.P (Op.unary .neg (.int .u64 a))=some (.int .u64 (18446744073709551616-a)):=by
   simp only [Op.unary,Op.intArith,Int.zero_sub,Uf (n:=-a) (by omega) (by omega)];rw [show -a+18446744073709551616=18446744073709551616-a by omega];rfl
  simp only [BO,FB,CV c1 c2 hx];rw [show plain (Value.int IntKind.u64 a)=true from rfl];simp only [if_true,KI hd rfl,Option.map_some]
theorem Aa.makeFunc {f:FuncId} {fs cs:Array Operand} {pf pc:List PV} (hf:evs E.Γ L fs.toList=some pf) (hc:evs E.Γ L cs.toList=some pc) (q:Q (.clo f pf pc) H nx):Aa E w ⟨dst,.makeFunc (.func f) fs cs,ty,pos,af,gd⟩ L H nx Q :=
 Aa.quiet q fun m F σ tt c1 c2=>by
  refine ⟨.func (.func f) (fs.toList.map (ev tt)).toArray (cs.toList.map (ev tt)).toArray,fun _=>?_,.clo (Rn c1 c2 hf) (Rn c1 c2 hc)⟩;simp only [BO,FB,Option.map_some,← Array.toList_map,Array.toArray_toList]
end
end Go.Vm
namespace Go.Proofs.YtnjkoebfgcbbdaaGreatDoor
open Go Go.Am Go.Vm
attribute [local irreducible] Aa Ah Af Ad Az Ai Ba Bq Bd Aj Vm.Done Bg AB
structure LK where
 num:Int
 den:Int
instance:Enc LK:={ default:=⟨0,0⟩,enc:=fun x=>[.int .i64 x.num,.int .i64 x.den],size:=2,len:=fun _=>rfl }
theorem bC (n:Int) (h:-9223372036854775808≤n∧n<9223372036854775808):Ai env 198 [.int .i64 n] (.p (.int .u64 ((n.natAbs:Nat):Int))):=by
 refine Ai.enter (Ae (by decide)) Tryz.func198 rfl (by kernel_rfl) (by simp [Tryz.ntmps198]) ?_
 repeat' (first|refine Cb ?_|(apply Aa.b7i;rfl;rfl;rfl;rfl;omega)|(apply Aa.c4y;rfl;omega)|(apply Aa.int;rfl;rfl;rfl)|(apply Aa.rE;rfl;rfl;rfl;rfl;omega)|(apply Ad.Ac;rfl)|(intro _;try (exfalso;omega)))
 all_goals (refine Done.rt rfl rfl ⟨?_,rfl,rfl⟩;refine PV.int_eq ?_;omega)
theorem a4y (a b:Nat) (ha:a<18446744073709551616) (hb:b<18446744073709551616):Ai env 197 [.int .u64 (a:Int),.int .u64 (b:Int)] (.p (.int .u64 ((Nat.gcd a b:Nat):Int))):=by
 refine Ai.enter (Ae (by decide)) Tryz.func197 rfl (by kernel_rfl) (by simp) ?_
 repeat' (first|refine Cb ?_|fail)
 refine Ad.D6 (fun s:Nat×Nat=>[(0,.p (.int .u64 (s.1:Int))),(1,.p (.int .u64 (s.2:Int)))]) (fun _=>[]) 0 (fun s=>s.1<18446744073709551616∧s.2<18446744073709551616∧Nat.gcd s.1 s.2=Nat.gcd a b) (fun s=>s.2) (a,b) (ab _) ⟨ha,hb,rfl⟩ ⟨ab _,?_,trivial⟩ ?_
 ·exact Dy
 rintro ⟨x,y⟩ ⟨hx,hy,hg⟩;have hmod:0<y→x % y<y:=fun h=>ao _ h
 repeat' (first|refine go2 ?_|apply Ad.J9|(apply Ad.Ac;rfl)|(intro _))
 ·rename_i h1
  have hy0:0<y:=by omega
  refine Aj.normal ⟨(y,x % y),⟨hy,by omega,?_⟩,hmod hy0,⟨ab _,?_,trivial⟩⟩
  ·rw [← hg,Nat.gcd_comm x y,Nat.gcd_rec y x,Nat.gcd_comm]
  ·exact Dy
 ·rename_i h1
  refine Done.rt rfl rfl ⟨?_,rfl,rfl⟩;simp_all
def fOk (x:LK):Prop:=0<x.den∧x.den≤1000000∧-1000000≤x.num∧x.num≤1000000∧Nat.gcd x.num.natAbs x.den.toNat=1
instance (x:LK):Decidable (fOk x):=by unfold fOk;infer_instance
def b2v (x:LK):Int:=if fOk x then 0 else 2
theorem ny (x:LK):Ai env 178 [.agg (Enc.enc x)] (.p (.int .i64 (b2v x))):=by
 refine Ai.enter (Ae (by decide)) Tryz.func178 rfl (by kernel_rfl) (by simp [Tryz.ntmps178]) ?_;have hd:0<x.den→((x.den.toNat:Nat):Int)=x.den:=fun h=>du (Int.le_of_lt h)
 have hg:0<x.den→x.den≤1000000→-1000000≤x.num→x.num≤1000000→Ai env 197 [.int .u64 ((x.num.natAbs:Nat):Int),.int .u64 x.den] (.p (.int .u64 ((Nat.gcd x.num.natAbs x.den.toNat:Nat):Int))):=fun h1 h2 h3 h4=>by
  have:=a4y x.num.natAbs x.den.toNat (by omega) (by omega)
  rwa [hd h1] at this
 repeat' (first|(apply Aa.fn;rfl;rfl;exact bC _ (by omega);intro _;rfl)|(apply Aa.fn;rfl;rfl;exact hg (by omega) (by omega) (by omega) (by omega);intro _;rfl)|refine Cb ?_|(apply Af.guard;rfl;rfl)|(apply Aa.int;rfl;rfl;rfl)|(apply Aa.rE;rfl;rfl;rfl;rfl;omega)|(apply Ad.AX;rfl)|(apply Ad.Ac;rfl)|(intro _;try (exfalso;omega)))
 all_goals (refine Done.rt rfl rfl ⟨?_,rfl,rfl⟩;refine PV.int_eq ?_;unfold b2v;first|(rw [if_neg (show ¬ fOk x from fun h=>by unfold fOk at h;omega)];done)|(rw [if_pos (show fOk x from by unfold fOk;omega)];done))
def pOk (x:LK):Prop:=fOk x∧0<x.num∧x.num≤128*x.den∧x.den≤128
instance (x:LK):Decidable (pOk x):=by unfold pOk;infer_instance
def RJ (x:LK):Int:=if ¬ fOk x then 2 else if x.num≤0∨x.num>128*x.den then 3 else if x.den>128 then 4 else 0
theorem Va {x:LK}:RJ x=0↔pOk x:=by
 unfold RJ pOk;grind
theorem MO (x:LK):Ai env 154 [.agg (Enc.enc x)] (.p (.int .i64 (RJ x))):=by
 have hc:=ny x;refine Ai.enter (Ae (by decide)) Tryz.func154 rfl (by kernel_rfl) (by simp [Tryz.ntmps154]) ?_;by_cases h1:fOk x
 ·rw [show b2v x=0 from if_pos h1] at hc
  have h1':=h1;obtain ⟨h2,h3,h4,h5,-⟩:=h1';have e:RJ x=if x.num≤0∨x.num>128*x.den then 3 else if x.den>128 then 4 else 0:=by unfold RJ;rw [if_neg (Classical.not_not.2 h1)]
  rw [e]
  repeat' (first|(apply Aa.fn;rfl;rfl;exact hc;intro _;rfl)|refine Cb ?_|(apply Ah.guard;rfl;rfl)|(apply Aa.int;rfl;rfl;rfl)|(apply Ad.cond_true;rfl)|(apply Ad.cond_false;rfl)|(apply Ad.Aq;rfl)|(intro _;try (exfalso;omega)))
  all_goals first|(exfalso;omega)|(rw [if_pos (by omega)];(refine Done.rt rfl rfl ⟨?_,rfl,rfl⟩;try rfl);done)|(rw [if_neg (by omega),if_pos (by omega)];(refine Done.rt rfl rfl ⟨?_,rfl,rfl⟩;try rfl);done)|(rw [if_neg (by omega),if_neg (by omega)];(refine Done.rt rfl rfl ⟨?_,rfl,rfl⟩;try rfl);done)
 ·rw [show b2v x=2 from if_neg h1] at hc
  rw [show RJ x=2 from if_pos h1]
  repeat' (first|(apply Aa.fn;rfl;rfl;exact hc;intro _;rfl)|refine Cb ?_|(apply Aa.int;rfl;rfl;rfl)|(apply Ad.cond_true;rfl))
  all_goals (refine Done.rt rfl rfl ⟨?_,rfl,rfl⟩;try rfl)
def bothR (x y:LK):Int:=if RJ x≠0 then RJ x else RJ y
theorem uV (x y:LK):Ai env 176 [.agg (Enc.enc x),.agg (Enc.enc y)] (.p (.int .i64 (bothR x y))):=by
 have h1:=MO x;have h2:=MO y;unfold bothR;refine Ai.enter (Ae (by decide)) Tryz.func176 rfl (by kernel_rfl) (by simp) ?_
 repeat' (first|(apply Aa.fn;rfl;rfl;exact h1;intro _;rfl)|(apply Aa.fn;rfl;rfl;exact h2;intro _;rfl)|refine Cb ?_|(apply Aa.int;rfl;rfl;rfl)|(apply Ad.Ac;rfl)|(intro _))
 all_goals first|(rw [if_pos (by assumption)];(refine Done.rt rfl rfl ⟨?_,rfl,rfl⟩;try rfl);done)|(rw [if_neg (by omega)];(refine Done.rt rfl rfl ⟨?_,rfl,rfl⟩;try rfl);done)
def sh1 (den:Nat):Nat→Nat→Int→Nat×Int
 |0,num,n=>(num,n)
 |f+1,num,n=>if num<den then sh1 den f (num*2) (n-12) else (num,n)
def sh2 (num:Nat):Nat→Nat→Int→Nat×Int
 |0,den,n=>(den,n)
 |f+1,den,n=>if 2*den≤num then sh2 num f (den*2) (n+12) else (den,n)
def sh3 (p:Nat):Nat→Nat→Int→Int
 |0,l,n=>n
 |f+1,l,n=>if l<p then sh3 p f (l*4) (n+1) else n
def shN (num den:Nat):Int :=
 let a:=sh1 den 30 num 0
 let b:=sh2 a.1 30 den a.2
 sh3 (a.1 ^ 24) 30 (b.1 ^ 24*2) b.2
def shz (x y:LK):Int:=shN (y.num*x.den).toNat (y.den*x.num).toNat
theorem a5w (a b:Nat):dH a b>0↔b<a:=by
 unfold dH;omega
theorem yF {n k:Nat} (hk:0<k) (h:n<10 ^ k):Lib.nDigits n≤k:=by
 rcases am n with h0|h0
 ·subst h0;rw [Lib.nDigits_small (by decide)];omega
 ·have h1:=Num.Gy n (by omega)
  have h2:10 ^ (Lib.nDigits n-1)<10 ^ k:=cr h1 h;have h3:=(em (a:=10) (by decide)).1 h2;omega
theorem wL {n k e:Nat} (hk:0<k) (h:n<10 ^ k) (he:e≤100):Lib.nDigits (n ^ e)≤k*100:=by
 rcases am e with h0|h0
 ·subst h0;rw [eh,Lib.nDigits_small (by decide)];omega
 ·refine yF (by omega) ?_
  have h1:n ^ e<(10 ^ k) ^ e:=fq h (by omega);rw [← dp] at h1;exact ag h1 (aE (by decide) (bX _ he))
theorem a5a {a b j k:Nat} (ha:Lib.nDigits a≤j) (hb:Lib.nDigits b≤k):Lib.nDigits (a*b)≤j+k:=by
 have h1:=Lib.lt_pow_nDigits a;have h2:=Lib.lt_pow_nDigits b;have hp:=Lib.nDigits_pos a;refine yF (by omega) ?_;rw [cv];have h3:a<10 ^ j:=ag h1 (aE (by decide) ha);have h4:b<10 ^ k:=ag h2 (aE (by decide) hb);exact fx h3 (gk h4) (cV (by decide))
theorem uM (x y:LK) (hx:pOk x) (hy:pOk y):Ai env 177 [.agg (Enc.enc x),.agg (Enc.enc y)] (.p (.int .i64 (shz x y))):=by
 obtain ⟨⟨f1,-⟩,f2,f3,f4⟩:=hx;obtain ⟨⟨g1,-⟩,g2,g3,g4⟩:=hy;obtain ⟨xn,hxn⟩:∃ k:Nat,x.num=k:=⟨x.num.toNat,by omega⟩
 obtain ⟨xd,hxd⟩:∃ k:Nat,x.den=k:=⟨x.den.toNat,by omega⟩
 obtain ⟨yn,hyn⟩:∃ k:Nat,y.num=k:=⟨y.num.toNat,by omega⟩
 obtain ⟨yd,hyd⟩:∃ k:Nat,y.den=k:=⟨y.den.toNat,by omega⟩
 have b1:yn*xd≤16384*128:=cM (by omega) (by omega);have b2:yd*xn≤128*16384:=cM (by omega) (by omega);have p1:0<yn*xd:=dm (by omega) (by omega);have p2:0<yd*xn:=dm (by omega) (by omega);have c1:y.num*x.den=((yn*xd:Nat):Int):=by rw [hyn,hxd,dC]
 have c2:y.den*x.num=((yd*xn:Nat):Int):=by rw [hyd,hxn,dC]
 have e:shz x y=shN (yn*xd) (yd*xn):=by unfold shz;rw [c1,c2];rfl
 rw [e];generalize yn*xd=num at *;generalize yd*xn=den at *;have z1:-9223372036854775808≤y.num*x.den∧y.num*x.den<9223372036854775808:=by omega
 have z2:-9223372036854775808≤y.den*x.num∧y.den*x.num<9223372036854775808:=by omega
 refine Ai.enter (Ae (by decide)) Tryz.func177 rfl (by kernel_rfl) (by simp [Tryz.ntmps177]) ?_
 repeat' (first|refine Cb ?_|fail)
 refine Ad.D6 (fun s:Nat×Nat=>[(5,.p (.int .i64 (s.2:Int))),(6,.p (.int .i64 (den:Int))),(7,.p (.int .i64 (-(12*(s.1:Int)))))]) (fun _=>[]) 0 (fun s=>s.1≤22∧s.2=num*2 ^ s.1∧s.2≤4194304∧sh1 den (30-s.1) s.2 (-(12*(s.1:Int)))=sh1 den 30 num 0) (fun s=>30-s.1) (0,num) (by omega) ⟨by omega,by simp,by simp only;omega,by simp⟩ ⟨by omega,?_,?_⟩ ?_
 ·simp only [c1,c2];exact Dy
 ·exact BG.nil
 rintro ⟨i,m⟩ ⟨hi,hm,hm2,hs⟩;simp only at hi hm hm2 hs;have yc:∀ a b c:Nat,0<a→a*2 ^ b≤c→2 ^ b≤c:=fun a b c ha h=>an (Nat.le_mul_of_pos_left _ ha) h
 have h21:∀ b:Nat,2 ^ b≤2 ^ 21→b≤21:=fun b h=>(Nat.pow_le_pow_iff_right (by decide)).1 h
 have c6m:0<m:=by rw [hm];exact dm p1 (cV (by decide))
 repeat' (first|refine go2 ?_|(apply Ad.Ac;rfl)|(intro _;try (exfalso;omega)))
 ·rename_i a1
  simp only at a1;have hi2:i≤20:=by
   have h1:num*2 ^ i<den:=by rw [← hm];omega
   have h2:2 ^ i<2 ^ 21:=cr (yc _ _ _ p1 (ab _)) (by omega);have:=(em (a:=2) (by decide)).1 h2;omega
  have e7:-(12*((i+1:Nat):Int))=-(12*(i:Int))-12:=by omega
  refine Aj.normal ⟨(i+1,m*2),⟨by simp only;omega,by simp only;rw [hm,bR,cP],by simp only;omega,?_⟩,by simp only;omega,⟨by omega,?_,?_⟩⟩
  ·simp only
   rw [← hs,show 30-i=(30-(i+1))+1 by omega,e7]
   conv=>rhs;rw [sh1]
   rw [if_pos (by omega)]
  ·simp only [e7];exact Dy
  ·exact BG.nil
 ·rename_i a1
  simp only at a1;have hs1:sh1 den 30 num 0=(m,-(12*(i:Int))):=by
   rw [← hs];cases 30-i with
   |zero=>rfl
   |succ f=>rw [sh1,if_neg (by omega)]
  refine Ad.D6 (fun s:Nat×Nat=>[(5,.p (.int .i64 (m:Int))),(6,.p (.int .i64 (s.2:Int))),(7,.p (.int .i64 (-(12*(i:Int))+12*(s.1:Int))))]) (fun _=>[]) 0 (fun s=>s.1≤22∧s.2=den*2 ^ s.1∧s.2≤4194304∧sh2 m (30-s.1) s.2 (-(12*(i:Int))+12*(s.1:Int))=sh2 m 30 den (-(12*(i:Int)))) (fun s=>30-s.1) (0,den) (by omega) ⟨by omega,by simp,by simp only;omega,by simp⟩ ⟨by omega,?_,?_⟩ ?_
  ·have e7:-(12*(i:Int))+12*((0:Nat):Int)=-(12*(i:Int)):=by omega
   simp only [e7];exact Dy
  ·exact BG.nil
  rintro ⟨j,d⟩ ⟨hj,hd,hd2,ht⟩;simp only at hj hd hd2 ht;have c1u:0<d:=by rw [hd];exact dm p2 (cV (by decide))
  by_cases hdm:2*d≤m
  ·repeat' (first|refine go2 ?_|(apply Ad.Ac;rfl)|(intro _;try (exfalso;omega)))
   all_goals try (exfalso;omega)
   have hj2:j≤21:=by
    have h1:den*2 ^ j≤2 ^ 21:=by rw [← hd];omega
    exact h21 _ (yc _ _ _ p2 h1)
   have e7:-(12*(i:Int))+12*((j+1:Nat):Int)=-(12*(i:Int))+12*(j:Int)+12:=by omega
   refine Aj.normal ⟨(j+1,d*2),⟨by simp only;omega,by simp only;rw [hd,bR,cP],by simp only;omega,?_⟩,by simp only;omega,⟨by omega,?_,?_⟩⟩
   ·simp only
    rw [← ht,show 30-j=(30-(j+1))+1 by omega,e7]
    conv=>rhs;rw [sh2]
    rw [if_pos hdm]
   ·simp only [e7];exact Dy
   ·exact BG.nil
  ·have hs2:sh2 m 30 den (-(12*(i:Int)))=(d,-(12*(i:Int))+12*(j:Int)):=by
    rw [← ht];cases 30-j with
    |zero=>rfl
    |succ f=>rw [sh2,if_neg hdm]
   have hR:shN num den=sh3 (m ^ 24) 30 (d ^ 24*2) (-(12*(i:Int))+12*(j:Int)):=by
    unfold shN;rw [hs1];simp only;rw [hs2]
   rw [hR];have om:=YE (m:Int) (by omega);have od:=YE (d:Int) (by omega);rw [a7c] at om od;have nm:Lib.nDigits m≤7:=yF (by decide) (by omega);have nd:Lib.nDigits d≤7:=yF (by decide) (by omega);have pm:=Y2 m 24 (by decide) (by omega) (by omega);have pd:=Y2 d 24 (by decide) (by omega) (by omega);have np:Lib.nDigits (m ^ 24)≤700:=wL (k:=7) (by decide) (by omega) (by decide);have nq:Lib.nDigits (d ^ 24)≤700:=wL (k:=7) (by decide) (by omega) (by decide);have n2:Lib.nDigits 2=1:=Lib.nDigits_small (by decide);have n4:Lib.nDigits 4=1:=Lib.nDigits_small (by decide);have q2:=oM (d ^ 24) 2 (by omega) (by omega);rw [show Lib.decDigits 2=[50] by decide +kernel] at q2;have hpq:m ^ 24<2 ^ 24*d ^ 24:=by
    rw [← Nat.mul_pow];exact fq (by omega) (by decide)
   have c6p:0<d ^ 24:=cV c1u;generalize m ^ 24=p at *;generalize d ^ 24=q at *
   repeat' (first|(apply Aa.fn;rfl;rfl;exact om;intro _;rfl)|(apply Aa.fn;rfl;rfl;exact od;intro _;rfl)|(apply Aa.fn;rfl;rfl;exact pm;intro _;rfl)|(apply Aa.fn;rfl;rfl;exact pd;intro _;rfl)|(apply Aa.fn;rfl;rfl;exact q2;intro _;rfl)|refine Cb ?_|(apply Aa.int;rfl;rfl;rfl)|(apply Ad.Ac;rfl)|(intro _;try (exfalso;omega)))
   all_goals try (exfalso;omega)
   generalize hn0:-(12*(i:Int))+12*(j:Int)=n0 at *;have d0t:-1000≤n0∧n0≤1000:=by omega
   refine Ad.D6 (fun k:Nat=>[(8,st (Lib.decDigits p)),(12,st (Lib.decDigits (q*2*4 ^ k))),(7,.p (.int .i64 (n0+(k:Int))))]) (fun _=>[]) 0 (fun k=>k≤20∧sh3 p (30-k) (q*2*4 ^ k) (n0+(k:Int))=sh3 p 30 (q*2) n0) (fun k=>30-k) 0 (by omega) ⟨by omega,by simp⟩ ⟨by omega,?_,?_⟩ ?_
   ·have e7:n0+((0:Nat):Int)=n0:=by omega
    rw [e7,eh,gz];exact Dy
   ·exact BG.nil
   rintro k ⟨hk,hs⟩;have nl:Lib.nDigits (q*2*4 ^ k)≤1000:=by
    have h1:=a5a (a:=q) (b:=2) (j:=700) (k:=1) (by omega) (by omega);have h2:Lib.nDigits (4 ^ k)≤100:=wL (n:=4) (k:=1) (by decide) (by decide) (by omega);have h3:=a5a h1 h2;omega
   have cc:=mF p (q*2*4 ^ k) (by omega) (by omega);have q4:=oM (q*2*4 ^ k) 4 (by omega) (by omega);rw [show Lib.decDigits 4=[52] by decide +kernel] at q4;have hcp:=a5w p (q*2*4 ^ k);by_cases hlt:q*2*4 ^ k<p
   ·have hc:=hcp.2 hlt
    have hk2:k≤12:=by
     have h1:q*(2*4 ^ k)<q*2 ^ 24:=by rw [← cP,cY q (2 ^ 24)];omega
     have h2:=Nat.lt_of_mul_lt_mul_left h1;have h3:2*4 ^ k=2 ^ (1+2*k):=by rw [cv,dp,Nat.pow_one]
     rw [h3] at h2;have:=(em (a:=2) (by decide)).1 h2;omega
    have e7:n0+((k+1:Nat):Int)=n0+(k:Int)+1:=by omega
    repeat' (first|(apply Aa.fn;rfl;rfl;exact cc;intro _;rfl)|(apply Aa.fn;rfl;rfl;exact q4;intro _;rfl)|refine Cb ?_|(apply Aa.int;rfl;rfl;rfl)|(apply Ad.Ac;rfl)|(intro _;try (exfalso;omega)))
    all_goals try (exfalso;omega)
    refine Aj.normal ⟨k+1,⟨by omega,?_⟩,by omega,⟨by omega,?_,?_⟩⟩
    ·rw [← hs,show 30-k=(30-(k+1))+1 by omega,e7]
     conv=>rhs;rw [sh3]
     rw [if_pos hlt,bR,cP (q*2)]
    ·rw [e7,bR,← cP];exact Dy
    ·exact BG.nil
   ·have hc:¬ dH p (q*2*4 ^ k)>0:=fun h=>hlt (hcp.1 h)
    have hR3:sh3 p 30 (q*2) n0=n0+(k:Int):=by
     rw [← hs];cases 30-k with
     |zero=>rfl
     |succ f=>rw [sh3,if_neg hlt]
    rw [hR3]
    repeat' (first|(apply Aa.fn;rfl;rfl;exact cc;intro _;rfl)|refine Cb ?_|(apply Aa.int;rfl;rfl;rfl)|(apply Ad.Ac;rfl)|(intro _;try (exfalso;omega)))
    all_goals first|(exfalso;omega)|(refine Done.rt rfl rfl ⟨?_,rfl,rfl⟩;try rfl)
def AV (x y:LK):Int×Int:=if bothR x y≠0 then (0,bothR x y) else (shz x y,0)
theorem a7n {x y:LK}:bothR x y=0↔pOk x∧pOk y:=by
 unfold bothR;rw [← Va,← Va];omega
theorem Xd (x y:LK):Ai env 152 [.agg (Enc.enc x),.agg (Enc.enc y)] (.Eb [.p (.int .i64 (AV x y).1),.p (.int .i64 (AV x y).2)]):=by
 have hb:=uV x y;by_cases h:bothR x y=0
 ·rw [h] at hb
  have ok:=a7n.1 h;have hs:=uM x y ok.1 ok.2;rw [show AV x y=(shz x y,0) from if_neg (fun h'=>h' h)];refine Ai.enter (Ae (by decide)) Tryz.func152 rfl (by kernel_rfl) (by simp [Tryz.ntmps152]) ?_
  repeat' (first|(apply Aa.fn;rfl;rfl;exact hb;intro _;rfl)|(apply Aa.fn;rfl;rfl;exact hs;intro _;rfl)|refine Cb ?_|(apply Aa.int;rfl;rfl;rfl)|(apply Ad.Ak;rfl))
  all_goals first|(exfalso;omega)|(refine Done.rt rfl rfl ⟨?_,rfl,rfl⟩;try rfl)
 ·rw [show AV x y=(0,bothR x y) from if_pos h]
  refine Ai.enter (Ae (by decide)) Tryz.func152 rfl (by kernel_rfl) (by simp [Tryz.ntmps152]) ?_
  repeat' (first|(apply Aa.fn;rfl;rfl;exact hb;intro _;rfl)|refine Cb ?_|(apply Aa.int;rfl;rfl;rfl)|(apply Ad.Ac;rfl)|(intro _;try (exfalso;omega)))
  all_goals first|(exfalso;omega)|(refine Done.rt rfl rfl ⟨?_,rfl,rfl⟩;try rfl)
structure Hw where
 name:List UInt8
 JY:List UInt8
 Ej:LK
 first:Int
 Fj:List Int
instance:Enc Hw:={ default:=⟨[],[],⟨0,0⟩,0,[]⟩,enc:=fun r=>[.str (bs r.name),.str (bs r.JY),.int .i64 r.Ej.num,.int .i64 r.Ej.den,.int .i64 r.first,.lst 3 (cells r.Fj) r.Fj.length],size:=6,len:=fun _=>rfl }
theorem PV.FZ {a b:Bool} (h:a=b):PV.p (.bool a)=PV.p (.bool b) :=by grind
def jV (x:Int):Prop:=x<0∨x>1000000
instance (x:Int):Decidable (jV x):=by unfold jV;infer_instance
theorem b1d (x:Int):Ai env 180 [.int .i64 x] (.p (.bool (decide (jV x)))):=by
 refine Ai.enter (Ae (by decide)) Tryz.func180 rfl (by kernel_rfl) (by simp) ?_
 repeat' (first|refine go2 ?_|(apply Ah.guard;rfl;rfl)|(intro _))
 all_goals (refine Done.rt rfl rfl ⟨?_,rfl,rfl⟩;refine PV.FZ ?_;first|(refine decide_eq_decide.2 ⟨fun h=>by unfold jV;omega,fun h=>by unfold jV at h;omega⟩)|(symm;apply decide_eq_true;unfold jV;omega))
def okW (l:List Int):Prop:=∀ i,i<l.length→¬ jV (gi l i)
noncomputable instance (l:List Int):Decidable (okW l):=Classical.propDecidable _
noncomputable def A8 (l:List Int):Int:=if okW l then 0 else 3
theorem b5t {L:Vm.Frame} {H:Vm.Heap} {nx:Nat} {Q:PV→Vm.Heap→Nat→Prop} {dst:Option Tmp} {ty:TypeId} {pos:String} {af:Array Edge} {gd:Option (Nat×Bool)} {fo:Operand} {args:Array Operand} {aT:Array TypeId} {fs cs xs:List PV} {c:Code}
 (hf:AU env.Γ L fo=some (.clo 179 fs cs)) (ha:evs env.Γ L args.toList=some xs) (hb:Tryz.f179.body=some c) (hn:(fs++xs++cs).length≤Tryz.f179.ntmps)
 (h:Ad env nx c (CG 0 (fs++xs++cs)) H nx (AB env.P Tryz.f179.results.toList Q)):Aa env true ⟨dst,.call { callee:=.value fo,args:=args,argTypes:=aT },ty,pos,af,gd⟩ L H nx Q:=by
 have h0:(match Tryz.f179.body with|some c=>IL env.G Tryz.f179 c|none=>false)=true:=by kernel_rfl
 rw [hb] at h0;exact Aa.inline rfl hf ha (Ae (by decide)) Tryz.func179 hb h0 hn h
theorem b5q {L:Vm.Frame} {H:Vm.Heap} {nx:Nat} {Q:PV→Vm.Heap→Nat→Prop} {dst:Option Tmp} {ty:TypeId} {pos:String} {af:Array Edge} {gd:Option (Nat×Bool)} {fo:Operand} {args:Array Operand} {aT:Array TypeId} {fs cs xs:List PV} {c:Code}
 (hf:AU env.Γ L fo=some (.clo 160 fs cs)) (ha:evs env.Γ L args.toList=some xs) (hb:Tryz.f160.body=some c) (hn:(fs++xs++cs).length≤Tryz.f160.ntmps)
 (h:Ad env nx c (CG 0 (fs++xs++cs)) H nx (AB env.P Tryz.f160.results.toList Q)):Aa env true ⟨dst,.call { callee:=.value fo,args:=args,argTypes:=aT },ty,pos,af,gd⟩ L H nx Q:=by
 have h0:(match Tryz.f160.body with|some c=>IL env.G Tryz.f160 c|none=>false)=true:=by kernel_rfl
 rw [hb] at h0;exact Aa.inline rfl hf ha (Ae (by decide)) Tryz.func160 hb h0 hn h
theorem wI (l:List Int) (hl:l.length<9223372036854775808):Ai env 156 [.lst 3 (cells l) l.length] (.p (.int .i64 (A8 l))):=by
 refine Ai.enter (Ae (by decide)) Tryz.func156 rfl (by kernel_rfl) (by simp) ?_
 repeat' (first|(apply b5t;rfl;rfl;rfl;exact le_dec rfl)|(apply b5q;rfl;rfl;rfl;exact le_dec rfl)|refine Cb ?_|fail)
 refine Ad.D6 (fun k:Nat=>[(0,lst 3 l),(1,.clo 180 [] []),(7,.p (.int .i64 (l.length:Int))),(8,.p (.int .i64 (k:Int)))]) (fun _=>[]) 0 (fun k=>k≤l.length∧∀ i,i<k→¬ jV (gi l i)) (fun k=>l.length-k) 0 (by omega) ⟨by omega,fun i hi=>by omega⟩ ⟨by omega,?_,?_⟩ ?_
 ·exact Dy
 ·exact BG.nil
 rintro k ⟨hk,hok⟩;have hw:=b1d (gi l k)
 repeat' (first|(apply Aa.fn;rfl;rfl;exact hw;intro _;rfl)|(apply Aa.Ap;rfl;rfl;rfl;omega;rfl)|refine Cb ?_|(apply AB.ret;rfl)|(apply Aa.int;rfl;rfl;rfl)|(apply Ad.AX;rfl)|(apply Ad.Ak;rfl)|(apply Ad.Ac;rfl)|(apply Ad.Aq;rfl)|(intro _))
 ·rename_i a1 a2
  rw [show A8 l=3 from if_neg (fun h=>h k (by omega) a2)]
  (refine Done.rt rfl rfl ⟨?_,rfl,rfl⟩;try rfl)
 ·rename_i a1 a2
  refine Aj.normal ⟨k+1,⟨by omega,fun i hi=>?_⟩,by omega,⟨by omega,?_,?_⟩⟩
  ·grind
  ·exact Dy
  ·exact BG.nil
 ·rename_i a1
  rw [show A8 l=0 from if_pos (fun i hi=>hok i (by omega))]
  (refine Done.rt rfl rfl ⟨?_,rfl,rfl⟩;try rfl)
def sS (c:Nat):Prop:=(65≤c∧c≤90)∨(97≤c∧c≤122)
instance (c:Nat):Decidable (sS c):=by unfold sS;infer_instance
def nmC (c:Nat):Prop:=sS c∨(48≤c∧c≤57)∨c=95
theorem WZ (c:Nat) (hc:c<256):Ai env 153 [.int .u8 (c:Int)] (.p (.bool (decide (sS c)))):=by
 refine Ai.enter (Ae (by decide)) Tryz.func153 rfl (by kernel_rfl) (by simp) ?_
 repeat' (first|refine go2 ?_|(apply Ah.guard;rfl;rfl)|(intro _))
 all_goals (refine Done.rt rfl rfl ⟨?_,rfl,rfl⟩;refine PV.FZ ?_;first|(refine decide_eq_decide.2 ⟨fun h=>by unfold sS;omega,fun h=>by unfold sS at h;omega⟩)|(symm;apply decide_eq_true;unfold sS;omega)|(symm;apply decide_eq_false;unfold sS;omega))
def DV (s:List UInt8):Prop:=0<s.length∧s.length≤32∧sS (gi s 0).toNat∧∀ i,1≤i→i<s.length→nmC (gi s i).toNat
noncomputable instance (s:List UInt8):Decidable (DV s):=Classical.propDecidable _
theorem IJ (s:List UInt8) (hs:s.length<9223372036854775808):Ai env 117 [.str (bs s)] (.p (.bool (decide (DV s)))):=by
 have hl0:=WZ (gi s 0).toNat (gi s 0).toNat_lt;by_cases hz:s=[]
 ·subst hz
  rw [decide_eq_false (show ¬ DV [] from fun h=>absurd h.1 (by decide))];refine Ai.enter (Ae (by decide)) Tryz.func117 rfl (by kernel_rfl) (by simp) ?_
  repeat' (first|refine Cb ?_|(apply Aa.eqS;rfl;rfl)|(apply Ad.AX;rfl))
  all_goals first|(refine Done.rt rfl rfl ⟨?_,rfl,rfl⟩;try rfl)|contradiction
 ·have hpos:0<s.length:=gM.2 hz
  refine Ai.enter (Ae (by decide)) Tryz.func117 rfl (by kernel_rfl) (by simp) ?_;by_cases h32:s.length≤32
  ·by_cases hL:sS (gi s 0).toNat
   ·rw [decide_eq_true hL] at hl0
    repeat' (first|(apply Aa.fn;rfl;rfl;exact hl0;intro _;rfl)|(apply Aa.U4 (i:=0);rfl;rfl;rfl;omega)|(apply Aa.MH;rfl;rfl)|refine Cb ?_|(apply Ah.guard;rfl;rfl)|(apply Aa.int;rfl;rfl;rfl)|(apply Aa.eqS;rfl;rfl)|(apply Ad.AX;rfl)|(apply Ad.Ak;rfl)|(intro _;try (exfalso;omega)))
    all_goals try (exfalso;omega)
    all_goals try contradiction
    refine Ad.D6 (fun k:Nat=>[(0,st s),(3,.p (.int .i64 (k:Int)))]) (fun _=>[]) 0 (fun k=>1≤k∧k≤s.length∧∀ i,1≤i→i<k→nmC (gi s i).toNat) (fun k=>s.length-k) 1 (by omega) ⟨by omega,by omega,fun i h1 h2=>by omega⟩ ⟨by omega,?_,?_⟩ ?_
    ·exact Dy
    ·exact BG.nil
    rintro k ⟨hk1,hk2,hok⟩;have hlk:=WZ (gi s k).toNat (gi s k).toNat_lt;have hc256:=(gi s k).toNat_lt;have hnext:nmC (gi s k).toNat→∀ i,1≤i→i<k+1→nmC (gi s i).toNat:=fun h i h1 h2=>by
     rcases ax i k with h3|h3
     ·exact hok i h1 h3
     ·obtain rfl:i=k:=by omega
      exact h
    have hbad:k<s.length→¬ nmC (gi s k).toNat→decide (DV s)=false:=fun h1 h2=>decide_eq_false fun h=>h2 (h.2.2.2 k hk1 h1)
    by_cases hkl:k<s.length
    ·by_cases hLk:sS (gi s k).toNat
     ·rw [decide_eq_true hLk] at hlk
      repeat' (first|(apply Aa.fn;rfl;rfl;exact hlk;intro _;rfl)|(apply Aa.MH;rfl;rfl)|(apply Aa.U4;rfl;rfl;rfl;omega)|refine Cb ?_|(apply Aa.int;rfl;rfl;rfl)|(apply Ad.Ac;rfl)|(apply Ad.cond_false;rfl)|(intro _;try (exfalso;omega)))
      all_goals try (exfalso;omega)
      refine Aj.normal ⟨k+1,⟨by omega,by omega,hnext (.inl hLk)⟩,by omega,⟨by omega,?_,?_⟩⟩
      ·exact Dy
      ·exact BG.nil
     ·rw [decide_eq_false hLk] at hlk
      have hn1:nmC (gi s k).toNat↔(48≤(gi s k).toNat∧(gi s k).toNat≤57)∨(gi s k).toNat=95:=⟨fun h=>h.resolve_left hLk,fun h=>.inr h⟩
      repeat' (first|(apply Aa.fn;rfl;rfl;exact hlk;intro _;rfl)|(apply Aa.MH;rfl;rfl)|(apply Aa.U4;rfl;rfl;rfl;omega)|refine Cb ?_|(apply Ah.guard;rfl;rfl)|(apply Aa.int;rfl;rfl;rfl)|(apply Ad.Ac;rfl)|(apply Ad.cond_false;rfl)|(apply Ad.Aq;rfl)|(intro _;try (exfalso;omega)))
      all_goals try (exfalso;omega)
      all_goals first
       |(rw [hbad hkl (fun h=>by have:=hn1.1 h;omega)];(refine Done.rt rfl rfl ⟨?_,rfl,rfl⟩;try rfl);done)
       |(refine Aj.normal ⟨k+1,⟨by omega,by omega,hnext (hn1.2 (by omega))⟩,by omega,⟨by omega,?_,BG.nil⟩⟩;exact Dy)
    ·obtain rfl:k=s.length:=by omega
     rw [decide_eq_true (show DV s from ⟨hpos,h32,hL,fun i h1 h2=>hok i h1 h2⟩)]
     repeat' (first|(apply Aa.MH;rfl;rfl)|refine go2 ?_|(apply Ad.Ac;rfl)|(intro _;try (exfalso;omega)))
     all_goals first|(exfalso;omega)|(refine Done.rt rfl rfl ⟨?_,rfl,rfl⟩;try rfl)
   ·rw [decide_eq_false (show ¬ DV s from fun h=>hL h.2.2.1)]
    rw [decide_eq_false hL] at hl0
    repeat' (first|(apply Aa.fn;rfl;rfl;exact hl0;intro _;rfl)|(apply Aa.U4 (i:=0);rfl;rfl;rfl;omega)|(apply Aa.MH;rfl;rfl)|refine Cb ?_|(apply Ah.guard;rfl;rfl)|(apply Aa.int;rfl;rfl;rfl)|(apply Aa.eqS;rfl;rfl)|(apply Ad.AX;rfl)|(intro _;try (exfalso;omega)))
    all_goals first|(exfalso;omega)|contradiction|(refine Done.rt rfl rfl ⟨?_,rfl,rfl⟩;try rfl)
  ·rw [decide_eq_false (show ¬ DV s from fun h=>h32 h.2.1)]
   repeat' (first|(apply Aa.MH;rfl;rfl)|refine go2 ?_|(apply Ah.guard;rfl;rfl)|(apply Aa.eqS;rfl;rfl)|(apply Ad.AX;rfl)|(intro _;try (exfalso;omega)))
   all_goals first|(exfalso;omega)|contradiction|(refine Done.rt rfl rfl ⟨?_,rfl,rfl⟩;try rfl)
noncomputable def BR (r:Hw):Int:=if ¬ DV r.name∨¬ DV r.JY then 8 else if RJ r.Ej≠0 then RJ r.Ej else if r.first< -256∨r.first>256 then 3 else if r.Fj.length=0 then 13 else if r.Fj.length>128 then 4 else A8 r.Fj
def QJ (n:Int):Prop:=-256≤n∧n≤256
instance (n:Int):Decidable (QJ n):=by unfold QJ;infer_instance
theorem wJ (n:Int):Ai env 155 [.int .i64 n] (.p (.bool (decide (QJ n)))):=by
 refine Ai.enter (Ae (by decide)) Tryz.func155 rfl (by kernel_rfl) (by simp) ?_
 repeat' (first|refine go2 ?_|(apply Ah.guard;rfl;rfl)|(intro _))
 all_goals (refine Done.rt rfl rfl ⟨?_,rfl,rfl⟩;refine PV.FZ ?_;first|(refine decide_eq_decide.2 ⟨fun h=>by unfold QJ;omega,fun h=>by unfold QJ at h;omega⟩)|(symm;apply decide_eq_false;unfold QJ;omega))
theorem XK (r:Hw) (h1:r.name.length<9223372036854775808) (h2:r.JY.length<9223372036854775808) (h3:r.Fj.length<9223372036854775808):Ai env 118 [.agg (Enc.enc r)] (.p (.int .i64 (BR r))):=by
 have n1:=IJ r.name h1;have n2:=IJ r.JY h2;have p1:=MO r.Ej;have f1:=wJ r.first;have w1:=wI r.Fj h3;unfold BR;refine Ai.enter (Ae (by decide)) Tryz.func118 rfl (by kernel_rfl) (by simp [Tryz.ntmps118]) ?_;by_cases a1:DV r.name
 ·rw [decide_eq_true a1] at n1
  by_cases a2:DV r.JY
  ·rw [decide_eq_true a2] at n2
   rw [if_neg (fun h=>h.elim (fun h=>h a1) (fun h=>h a2))];by_cases a3:QJ r.first
   ·rw [decide_eq_true a3] at f1
    unfold QJ at a3
    repeat' (first|(apply Aa.fn;rfl;rfl;exact n1;intro _;rfl)|(apply Aa.fn;rfl;rfl;exact n2;intro _;rfl)|(apply Aa.fn;rfl;rfl;exact p1;intro _;rfl)|(apply Aa.fn;rfl;rfl;exact f1;intro _;rfl)|(apply Aa.fn;rfl;rfl;exact w1;intro _;rfl)|refine Cb ?_|(apply Aa.int;rfl;rfl;rfl)|(apply Ad.Ak;rfl)|(apply Ad.Ac;rfl)|(apply Ad.cond_false;rfl)|(apply Ad.Aq;rfl)|(intro _;try (exfalso;omega)))
    all_goals first
     |(rw [if_pos (by assumption)];(refine Done.rt rfl rfl ⟨?_,rfl,rfl⟩;try rfl);done)
     |(rw [if_neg (by assumption),if_neg (by omega),if_pos (by omega)];(refine Done.rt rfl rfl ⟨?_,rfl,rfl⟩;try rfl);done)
     |(rw [if_neg (by assumption),if_neg (by omega),if_neg (by omega),if_pos (by omega)];(refine Done.rt rfl rfl ⟨?_,rfl,rfl⟩;try rfl);done)
     |(rw [if_neg (by assumption),if_neg (by omega),if_neg (by omega),if_neg (by omega)];(refine Done.rt rfl rfl ⟨?_,rfl,rfl⟩;try rfl);done)
   ·rw [decide_eq_false a3] at f1
    unfold QJ at a3
    repeat' (first|(apply Aa.fn;rfl;rfl;exact n1;intro _;rfl)|(apply Aa.fn;rfl;rfl;exact n2;intro _;rfl)|(apply Aa.fn;rfl;rfl;exact p1;intro _;rfl)|(apply Aa.fn;rfl;rfl;exact f1;intro _;rfl)|refine Cb ?_|(apply Aa.int;rfl;rfl;rfl)|(apply Ad.Ak;rfl)|(apply Ad.Ac;rfl)|(apply Ad.cond_true;rfl)|(intro _;try (exfalso;omega)))
    all_goals first
     |(rw [if_pos (by assumption)];(refine Done.rt rfl rfl ⟨?_,rfl,rfl⟩;try rfl);done)
     |(rw [if_neg (by assumption),if_pos (by omega)];(refine Done.rt rfl rfl ⟨?_,rfl,rfl⟩;try rfl);done)
  ·rw [decide_eq_false a2] at n2
   rw [if_pos (.inr a2)]
   repeat' (first|(apply Aa.fn;rfl;rfl;exact n1;intro _;rfl)|(apply Aa.fn;rfl;rfl;exact n2;intro _;rfl)|refine Cb ?_|(apply Ad.AX;rfl))
   all_goals (refine Done.rt rfl rfl ⟨?_,rfl,rfl⟩;try rfl)
 ·rw [decide_eq_false a1] at n1
  rw [if_pos (.inl a1)]
  repeat' (first|(apply Aa.fn;rfl;rfl;exact n1;intro _;rfl)|refine Cb ?_|(apply Ad.AX;rfl))
  all_goals (refine Done.rt rfl rfl ⟨?_,rfl,rfl⟩;try rfl)
end Go.Proofs.YtnjkoebfgcbbdaaGreatDoor
namespace Go.Proofs.YtnjkoebfgcbbdaaGreatDoor
open Go Go.Am Go.Vm
structure tH where
 rank:Int
 shift:Int
instance:Enc tH:={ default:=⟨0,0⟩,enc:=fun x=>[.int .i64 x.rank,.int .i64 x.shift],size:=2,len:=fun _=>rfl }
structure Seg where
 lo:Int
 hi:Int
 draws:List tH
instance:Enc Seg:={ default:=⟨0,0,[]⟩,enc:=fun x=>[.int .i64 x.lo,.int .i64 x.hi,.lst 270 (cells x.draws) x.draws.length],size:=3,len:=fun _=>rfl }
structure Stp where
 name:List UInt8
 Ej:LK
 IW:List Seg
instance:Enc Stp:={ default:=⟨[],⟨0,0⟩,[]⟩,enc:=fun x=>[.str (bs x.name),.int .i64 x.Ej.num,.int .i64 x.Ej.den,.lst 273 (cells x.IW) x.IW.length],size:=4,len:=fun _=>rfl }
structure iW where
 name:List UInt8
 Xb:Bool
 lo:Int
 hi:Int
 stops:List Stp
instance:Enc iW:={ default:=⟨[],false,0,0,[]⟩,enc:=fun x=>[.str (bs x.name),.bool x.Xb,.int .i64 x.lo,.int .i64 x.hi,.lst 229 (cells x.stops) x.stops.length],size:=5,len:=fun _=>rfl }
structure lM where
 name:List UInt8
 Wn:Int
 tgt:Int
 shift:Int
 through:Bool
instance:Enc lM:={ default:=⟨[],0,0,0,false⟩,enc:=fun x=>[.str (bs x.name),.int .i64 x.Wn,.int .i64 x.tgt,.int .i64 x.shift,.bool x.through],size:=5,len:=fun _=>rfl }
structure Ho where
 name:List UInt8
 ranks:List Hw
 Ag:List iW
 Io:List lM
instance:Enc Ho:={ default:=⟨[],[],[],[]⟩,enc:=fun x=>[.str (bs x.name),.lst 113 (cells x.ranks) x.ranks.length,.lst 118 (cells x.Ag) x.Ag.length,.lst 236 (cells x.Io) x.Io.length],size:=4,len:=fun _=>rfl }
structure lC where
 lo:Int
 hi:Int
instance:Enc lC:={ default:=⟨0,0⟩,enc:=fun x=>[.int .i64 x.lo,.int .i64 x.hi],size:=2,len:=fun _=>rfl }
noncomputable instance (a b:tH):Decidable (a=b):=Classical.propDecidable _
noncomputable instance (a:tH) (l:List tH):Decidable (a∈l):=Classical.propDecidable _
noncomputable instance (a:List UInt8) (l:List (List UInt8)):Decidable (a∈l):=Classical.propDecidable _
def XY (lo hi:Int):Int:=if lo<0∨hi>127 then 3 else if lo>hi then 23 else 0
noncomputable def Si (n:Nat) (l:List tH) (k:Nat):Int :=
 if k<l.length then
  if (gi l k).rank<0∨(gi l k).rank≥n then 10 else if (gi l k).shift< -127∨(gi l k).shift>127 then 3 else if gi l k∈l.take k then 9 else Si n l (k+1)
 else 0
termination_by l.length-k
noncomputable def ay (n:Nat) (l:List tH):Int:=if l.length>8 then 4 else Si n l 0
noncomputable def NU (n:Nat) (lo hi:Int) (l:List Seg) (k:Nat):Int :=
 if k<l.length then
  if min (gi l k).lo (gi l k).hi<lo∨max (gi l k).lo (gi l k).hi>hi then 23 else if (gi l k).lo>(gi l k).hi∨0<k∧(gi l k).lo≤(gi l (k-1)).hi then 6
  else if ay n (gi l k).draws≠0 then ay n (gi l k).draws else NU n lo hi l (k+1)
 else 0
termination_by l.length-k
noncomputable def b6l (n:Nat) (lo hi:Int) (s:Stp):Int :=
 if ¬ DV s.name then 8 else if RJ s.Ej≠0 then RJ s.Ej else if s.IW.length=0 then 13 else if s.IW.length>12 then 4 else NU n lo hi s.IW 0
noncomputable def bW (l:List Hw) (k:Nat):Int :=
 if k<l.length then if BR (gi l k)≠0 then BR (gi l k) else bW l (k+1) else 0
termination_by l.length-k
noncomputable def qI (l:List Hw) (lo hi:Int):Int:=if l.length>60 then 4 else if bW l 0≠0 then bW l 0 else XY lo hi
noncomputable def DJ (rk:List Hw) (lo hi:Int) (s:Stp):Int:=if qI rk lo hi≠0 then qI rk lo hi else b6l rk.length lo hi s
noncomputable def QA (l:List Hw) (k:Nat):Int :=
 if k<l.length then if BR (gi l k)≠0 then BR (gi l k) else if (gi l k).name∈(l.take k).map Hw.name then 9 else QA l (k+1) else 0
termination_by l.length-k
noncomputable def SH (rk:List Hw) (lo hi:Int) (l:List Stp) (k:Nat):Int :=
 if k<l.length then if DJ rk lo hi (gi l k)≠0 then DJ rk lo hi (gi l k) else if (gi l k).name∈(l.take k).map Stp.name then 9 else SH rk lo hi l (k+1) else 0
termination_by l.length-k
noncomputable def Dx (rk:List Hw) (d:iW):Int:=if XY d.lo d.hi≠0 then XY d.lo d.hi else if d.stops.length>60 then 4 else SH rk d.lo d.hi d.stops 0
noncomputable def GK (rk:List Hw) (l:List iW) (k:Nat):Int :=
 if k<l.length then if ¬ DV (gi l k).name then 8 else if (gi l k).name∈(l.take k).map iW.name then 9 else if Dx rk (gi l k)≠0 then Dx rk (gi l k) else GK rk l (k+1) else 0
termination_by l.length-k
noncomputable def SK (n:Nat) (l:List lM) (k:Nat):Int :=
 if k<l.length then
  if ¬ DV (gi l k).name then 8 else if (gi l k).name∈(l.take k).map lM.name then 9
  else if (gi l k).Wn<0∨(gi l k).Wn≥n∨(gi l k).tgt<0∨(gi l k).tgt≥n then 10
  else if (gi l k).shift< -127∨(gi l k).shift>127 then 3 else if (gi l k).Wn=(gi l k).tgt∧(gi l k).shift=0 then 7 else SK n l (k+1)
 else 0
termination_by l.length-k
noncomputable def TD (l:List lC) (k:Nat):Int:=if k<l.length then if XY (gi l k).lo (gi l k).hi≠0 then 23 else TD l (k+1) else 0
termination_by l.length-k
noncomputable def DX (ks:List lC) (l:List lM):Int:=if ks.length>8∨l.length>40 then 4 else if TD ks 0≠0 then TD ks 0 else SK ks.length l 0
noncomputable def V6 (o:Ho):Int :=
 if ¬ DV o.name then 8 else if o.ranks.length>60 then 4 else if QA o.ranks 0≠0 then QA o.ranks 0 else if o.Ag.length=0 then 13 else if o.Ag.length>8 then 4
 else if GK o.ranks o.Ag 0≠0 then GK o.ranks o.Ag 0 else DX (o.Ag.map fun d=>⟨d.lo,d.hi⟩) o.Io
structure b9a (x:Seg):Prop where
 draws:x.draws.length<1000000
structure nS (x:Stp):Prop where
 name:x.name.length<1000000
 IW:x.IW.length<1000000
 all:∀ i,i<x.IW.length→b9a (gi x.IW i)
structure b3y (x:iW):Prop where
 name:x.name.length<1000000
 stops:x.stops.length<1000000
 all:∀ i,i<x.stops.length→nS (gi x.stops i)
structure fG (r:Hw):Prop where
 name:r.name.length<1000000
 JY:r.JY.length<1000000
 Fj:r.Fj.length<1000000
structure LQ (o:Ho):Prop where
 name:o.name.length<1000000
 ranks:o.ranks.length<1000000
 Ag:o.Ag.length<1000000
 Io:o.Io.length<1000000
 rk:∀ i,i<o.ranks.length→fG (gi o.ranks i)
 dv:∀ i,i<o.Ag.length→b3y (gi o.Ag i)
 cp:∀ i,i<o.Io.length→(gi o.Io i).name.length<1000000
theorem fG.len {r:Hw} (h:fG r):r.name.length<9223372036854775808∧r.JY.length<9223372036854775808∧r.Fj.length<9223372036854775808:=⟨by have:=h.name;omega,by have:=h.JY;omega,by have:=h.Fj;omega⟩
theorem fZ {l:List Hw} (h:∀ i,i<l.length→BR (gi l i)=0):∀ n k,l.length-k=n→bW l k=0
 |0,k,hk=>by rw [bW,if_neg (by omega)]
 |n+1,k,hk=>by
  rw [bW,if_pos (by omega),if_neg (fun h'=>h' (h k (by omega)))];exact fZ h n (k+1) (by omega)
theorem Vo {l:List Hw} (h:∀ i,i<l.length→BR (gi l i)=0∧(gi l i).name∉(l.take i).map Hw.name):∀ n k,l.length-k=n→QA l k=0
 |0,k,hk=>by rw [QA,if_neg (by omega)]
 |n+1,k,hk=>by
  obtain ⟨h1,h2⟩:=h k (by omega);rw [QA,if_pos (by omega),if_neg (fun h'=>h' h1),if_neg h2];exact Vo h n (k+1) (by omega)
theorem SX {rk:List Hw} {lo hi:Int} {l:List Stp} (h:∀ i,i<l.length→DJ rk lo hi (gi l i)=0∧(gi l i).name∉(l.take i).map Stp.name):∀ n k,l.length-k=n→SH rk lo hi l k=0
 |0,k,hk=>by rw [SH,if_neg (by omega)]
 |n+1,k,hk=>by
  obtain ⟨h1,h2⟩:=h k (by omega);rw [SH,if_pos (by omega),if_neg (fun h'=>h' h1),if_neg h2];exact SX h n (k+1) (by omega)
theorem TU {rk:List Hw} {l:List iW} (h:∀ i,i<l.length→DV (gi l i).name∧(gi l i).name∉(l.take i).map iW.name∧Dx rk (gi l i)=0):∀ n k,l.length-k=n→GK rk l k=0
 |0,k,hk=>by rw [GK,if_neg (by omega)]
 |n+1,k,hk=>by
  obtain ⟨h1,h2,h3⟩:=h k (by omega);rw [GK,if_pos (by omega),if_neg (fun h'=>h' h1),if_neg h2,if_neg (fun h'=>h' h3)];exact TU h n (k+1) (by omega)
theorem V8 {l:List lC} (h:∀ i,i<l.length→XY (gi l i).lo (gi l i).hi=0):∀ n k,l.length-k=n→TD l k=0
 |0,k,hk=>by rw [TD,if_neg (by omega)]
 |n+1,k,hk=>by
  rw [TD,if_pos (by omega),if_neg (fun h'=>h' (h k (by omega)))];exact V8 h n (k+1) (by omega)
structure a9a (n:Nat) (c:lM):Prop where
 name:DV c.name
 Wn:0≤c.Wn∧c.Wn<n
 tgt:0≤c.tgt∧c.tgt<n
 shift:-127≤c.shift∧c.shift≤127
 form:¬ (c.Wn=c.tgt∧c.shift=0)
theorem SL {m:Nat} {l:List lM} (h:∀ i,i<l.length→a9a m (gi l i)∧(gi l i).name∉(l.take i).map lM.name):∀ n k,l.length-k=n→SK m l k=0
 |0,k,hk=>by rw [SK,if_neg (by omega)]
 |n+1,k,hk=>by
  obtain ⟨⟨h1,h2,h3,h4,h5⟩,h6⟩:=h k (by omega);rw [SK,if_pos (by omega),if_neg (fun h'=>h' h1),if_neg h6,if_neg (by omega),if_neg (by omega),if_neg h5];exact SL h n (k+1) (by omega)
structure Xx (n:Nat) (d:tH):Prop where
 rank:0≤d.rank∧d.rank<n
 shift:-127≤d.shift∧d.shift≤127
theorem TV {m:Nat} {l:List tH} (h:∀ i,i<l.length→Xx m (gi l i)∧gi l i∉l.take i):∀ n k,l.length-k=n→Si m l k=0
 |0,k,hk=>by rw [Si,if_neg (by omega)]
 |n+1,k,hk=>by
  obtain ⟨⟨h1,h2⟩,h3⟩:=h k (by omega);rw [Si,if_pos (by omega),if_neg (by omega),if_neg (by omega),if_neg h3];exact TV h n (k+1) (by omega)
theorem JU {m:Nat} {d:tH} (h:Xx m d):ay m [d]=0:=by
 exact TV (fun i hi=>by
  obtain rfl:i=0:=by grind
  exact ⟨h,by simp⟩) _ 0 rfl
theorem a6f {m:Nat} {d e:tH} (h:Xx m d) (h':Xx m e) (hn:e≠d):ay m [d,e]=0:=by
 refine TV (fun i hi=>?_) _ 0 rfl;have:i=0∨i=1:=by grind
 rcases this with rfl|rfl
 ·exact ⟨h,by simp⟩
 ·exact ⟨h',by simpa [gi] using hn⟩
theorem Vy {lo hi:Int} (h:0≤lo∧lo≤hi∧hi≤127):XY lo hi=0:=by
 unfold XY;omega
theorem a0z {l:List Hw} {lo hi:Int} (h:∀ i,i<l.length→BR (gi l i)=0) (hl:l.length≤60) (hc:0≤lo∧lo≤hi∧hi≤127):qI l lo hi=0:=by
 unfold qI;rw [if_neg (by omega),if_neg (fun h'=>h' (fZ h _ 0 rfl)),Vy hc]
structure c1y (n:Nat) (lo hi:Int) (g:Seg):Prop where
 pl:lo≤g.lo∧g.lo≤g.hi∧g.hi≤hi
 draws:ay n g.draws=0
theorem SV {m:Nat} {lo hi:Int} {l:List Seg} (h:∀ i,i<l.length→c1y m lo hi (gi l i)∧(0<i→(gi l (i-1)).hi<(gi l i).lo)):∀ n k,l.length-k=n→NU m lo hi l k=0
 |0,k,hk=>by rw [NU,if_neg (by omega)]
 |n+1,k,hk=>by
  obtain ⟨⟨h1,h2⟩,h3⟩:=h k (by omega);rw [NU,if_pos (by omega),if_neg (by omega),if_neg (fun h'=>by
   omega),if_neg (fun h'=>h' h2)]
  exact SV h n (k+1) (by omega)
theorem NS {n:Nat} {lo hi:Int} {s:Seg} (h1:lo≤s.lo∧s.lo≤s.hi∧s.hi≤hi) (h2:ay n s.draws=0):NU n lo hi [s] 0=0 :=
 SV (fun i hi=>by
  obtain rfl:i=0:=by grind
  exact ⟨⟨h1,h2⟩,fun h=>by omega⟩) _ 0 rfl
theorem gJ {n:Nat} {lo hi:Int} {s t:Seg} (h1:lo≤s.lo∧s.lo≤s.hi∧s.hi<t.lo∧t.lo≤t.hi∧t.hi≤hi) (h2:ay n s.draws=0) (h3:ay n t.draws=0):NU n lo hi [s,t] 0=0 :=
 SV (fun i hi=>by
  have:i=0∨i=1:=by grind
  rcases this with rfl|rfl
  ·exact ⟨⟨⟨h1.1,h1.2.1,show s.hi≤_ by omega⟩,h2⟩,fun h=>by omega⟩
  ·exact ⟨⟨⟨show lo≤t.lo by omega,h1.2.2.2⟩,h3⟩,fun _=>h1.2.2.1⟩) _ 0 rfl
def OA (c:UInt8) (i:Int):List UInt8:=[c,UInt8.ofNat (48+i).toNat]
theorem b2o {c:UInt8} {i j:Nat} (hi:i<10) (hj:j<10) (h:OA c i=OA c j):i=j:=by
 simp only [OA,List.cons.injEq,and_true,true_and] at h;have:=congrArg UInt8.toNat h;rw [UInt8.toNat_ofNat',UInt8.toNat_ofNat'] at this;omega
theorem vO {c:UInt8} (hc:sS c.toNat) {i:Nat} (hi:i<10):DV (OA c i):=by
 refine ⟨by simp [OA],by simp [OA],hc,fun j h1 h2=>?_⟩;obtain rfl:j=1:=by simp [OA] at h2;omega
 have e:(gi (OA c i) 1).toNat=48+i:=by
  show (UInt8.ofNat (48+(i:Int)).toNat).toNat=_;rw [UInt8.toNat_ofNat'];omega
 right;omega
theorem jE {α:Type} [Inhabited α] {f:α→List UInt8} {c:UInt8} {l:List α} (hl:l.length≤10) (h:∀ i,i<l.length→f (gi l i)=OA c i) {k:Nat} (hk:k<l.length):f (gi l k)∉(l.take k).map f:=by
 intro hm;rw [be] at hm;obtain ⟨a,ha,he⟩:=hm;obtain ⟨j,hj,e⟩:=dq ha;rw [aw] at hj;have e2:a=gi l j:=by
  rw [← e,List.getElem_take];simp [gi,List.getElem?_eq_getElem (show j<l.length by omega)]
 rw [e2,h j (by omega),h k hk] at he;have:=b2o (by omega) (by omega) he;omega
attribute [local irreducible] Aa Ah Af Ad Az Ai Ba Bq Bd Aj Vm.Done Bg AB RN
end Go.Proofs.YtnjkoebfgcbbdaaGreatDoor
namespace Go.Proofs.YtnjkoebfgcbbdaaGreatDoor
open Go Go.Am Go.Vm
attribute [local irreducible] Aa Ah Af Ad Az Ai Ba Bq Bd Aj Vm.Done Bg AB
attribute [local irreducible] BR A8 shz AV
def c2z (r:Hw):Prop:=r.name.length<9223372036854775808∧r.JY.length<9223372036854775808∧r.Fj.length<9223372036854775808
noncomputable def X6 (r:Hw) (n:Int):Int:=if BR r≠0 then BR r else if n<0∨n≥r.Fj.length then 10 else 0
def LW:FV:=.agg [.str ⟨#[]⟩,.str ⟨#[]⟩,.int .i64 0,.int .i64 0,.int .i64 0,.val (.slice none 0 0)]
def b1j (r:Hw) (n:Int) (w:List Int):FV×Int:=if w.length>128 then (LW,4) else if ¬ QJ n then (LW,3) else (.agg (Enc.enc { r with first:=n,Fj:=w }),0)
noncomputable def c5m (r:Hw) (k:Int):Int×Bool×Int:=if X6 r k≠0 then (0,false,X6 r k) else if (AV r.Ej ⟨8,1⟩).2≠0∨r.first+k+(AV r.Ej ⟨8,1⟩).1<0∨r.first+k+(AV r.Ej ⟨8,1⟩).1>127 then (0,false,(AV r.Ej ⟨8,1⟩).2) else (r.first+k+(AV r.Ej ⟨8,1⟩).1,true,0)
noncomputable def c3z (r:Hw) (n:Int):Int×Bool×Int:=if BR r≠0 then (0,false,BR r) else if n<r.first∨n≥r.first+r.Fj.length then (0,false,0) else (n-r.first,true,0)
noncomputable def c5z (r:Hw) (w:List Int):FV×Int:=if BR r≠0 then (LW,BR r) else if A8 w≠0 then (LW,A8 w) else b1j r (r.first-w.length) (w++r.Fj)
noncomputable def c5d (r:Hw) (f:LK):FV×Int:=if BR r≠0 then (LW,BR r) else if (AV f r.Ej).2≠0 then (LW,(AV f r.Ej).2) else if QJ (r.first-(AV f r.Ej).1) then (.agg (Enc.enc { r with first:=r.first-(AV f r.Ej).1,Ej:=f }),0) else (LW,3)
attribute [local irreducible] X6
noncomputable def c8b (r:Hw) (n:Int):Int×Int:=if X6 r n≠0 then (0,X6 r n) else (r.first+n,0)
noncomputable def c9v (r:Hw) (n:Int):Int×Int:=if X6 r n≠0 then (0,X6 r n) else (gi r.Fj n.toNat,0)
noncomputable def d0m (r:Hw) (w:List Int):FV×Int:=if BR r≠0 then (LW,BR r) else if A8 w≠0 then (LW,A8 w) else b1j r r.first (r.Fj++w)
def b9t (l:List Int):Nat→Int
 |0=>0
 |k+1=>b9t l k+gi l k
noncomputable def d0l (r:Hw):Int×Int:=if BR r≠0 then (0,BR r) else (b9t r.Fj r.Fj.length,0)
def SA:List LK:=[⟨8,1⟩,⟨4,1⟩,⟨16,1⟩,⟨2,1⟩,⟨8,3⟩,⟨8,5⟩,⟨4,3⟩,⟨1,1⟩,⟨32,1⟩,⟨16,3⟩,⟨16,5⟩,⟨32,3⟩,⟨8,7⟩,⟨2,3⟩,⟨1,2⟩,⟨64,1⟩]
theorem a0m (n:Nat) (hn:n<256):Ai env 150 [.int .u8 (n:Int)] (.p (.agg (Enc.enc (gi SA (n % 16))))):=by
 refine Ai.enter (Ae (by decide)) Tryz.func150 rfl (by kernel_rfl) (by simp [Tryz.ntmps150]) ?_;have hlt:n % 16<16:=ao _ (by decide)
 repeat' (first|(refine Ah.Gz 22 ?_;refine Ah.ghost (Ar.freeze 19 rfl rfl) ?_)|apply Ad.Bf|apply Ad.ret|apply Ah.nil|apply Ah.one|(apply Aa.Ap (l:=SA) (i:=n % 16);rfl;rfl;rfl;exact hlt;rfl)|(apply Aa.move;rfl)|(apply Aa.KL;rfl;rfl;omega;omega)|(apply Aa.load;rfl;rfl)|(apply Aa.alloc;rfl)|(apply Aa.Dz;rfl;rfl;rfl;trivial;rfl;rfl;exact AY rfl;exact le_dec rfl)|(apply Aa.build;rfl;rfl;rfl;rfl;rfl)|(apply Aa.buildSlice;rfl;rfl;rfl;decide;rfl;rfl;rfl))
 all_goals (refine Done.rt rfl rfl ⟨?_,rfl,rfl⟩;try rfl)
end Go.Proofs.YtnjkoebfgcbbdaaGreatDoor
namespace Go.Proofs.YtnjkoebfgcbbdaaGreatDoor
open Go Go.Am Go.Vm
attribute [local irreducible] Aa Ah Af Ad Az Ai Ba Bq Bd Aj Vm.Done Bg AB
theorem xg {r:Hw} (h1:DV r.name) (h2:DV r.JY) (h3:pOk r.Ej) (h4:-256≤r.first∧r.first≤256) (h5:0<r.Fj.length∧r.Fj.length≤128) (h6:okW r.Fj):BR r=0:=by
 unfold BR;rw [if_neg (fun h=>h.elim (fun h=>h h1) (fun h=>h h2)),if_neg (fun h=>h (Va.2 h3)),if_neg (by omega),if_neg (by omega),if_neg (by omega)];exact if_pos h6
theorem a1t:DV [79,112,101,110]:=by
 refine ⟨by decide,by decide,by decide,fun i h1 h2=>?_⟩;have:i=1∨i=2∨i=3:=by grind
 rcases this with rfl|rfl|rfl<;>exact .inl (by decide)
def c7o (f first:Int) (n:Nat):Hw:=⟨[82,111,119],[79,112,101,110],⟨f,1⟩,first,List.replicate n 1⟩
def c4o:Hw:=⟨[82,111,119],[79,112,101,110],⟨8,1⟩,24,List.replicate 12 0++List.replicate 61 1⟩
attribute [local irreducible] BR A8 shz AV X6 c3z c5m c5z c5d
end Go.Proofs.YtnjkoebfgcbbdaaGreatDoor
namespace Go.Proofs.YtnjkoebfgcbbdaaGreatDoor
open Go Go.Am Go.Vm
attribute [local irreducible] Aa Ah Af Ad Az Ai Ba Bq Bd Aj Vm.Done Bg AB
instance encStr:Enc (List UInt8):={ default:=[],enc:=fun s=>[.str (bs s)],size:=1,len:=fun _=>rfl }
structure G6 where
 JY:Nat
 Ej:Nat
 first:Int
 pipes:Nat
 Fj:List Nat
def G6.enc (x:G6):List FV:=[.int .u8 (x.JY:Int),.int .u8 (x.Ej:Int),.int .i8 x.first,.int .u8 (x.pipes:Int),.int .u8 ((gi x.Fj 0:Nat):Int),.int .u8 ((gi x.Fj 1:Nat):Int),.int .u8 ((gi x.Fj 2:Nat):Int),.int .u8 ((gi x.Fj 3:Nat):Int),.int .u8 ((gi x.Fj 4:Nat):Int)]
structure G6.Ok (x:G6):Prop where
 JY:x.JY<256
 Ej:x.Ej<256
 first:-128≤x.first∧x.first≤127
 pipes:x.pipes<256
 Fj:∀ i,gi x.Fj i<256
def UZ:List (List UInt8):=[[79,112,101,110],[70,108,117,116,101],[82,101,101,100]]
def I4 (x:G6):Nat→List Int
 |0=>[]
 |k+1=>I4 x k++[((gi x.Fj (k % 5):Nat):Int)]
theorem Gm (x:G6):∀ k,(I4 x k).length=k
 |0=>rfl
 |k+1=>by simp [I4,Gm x k]
def VI (x:G6) (i:Int):Hw:=⟨[82,UInt8.ofNat (48+i % 10).toNat],gi UZ (x.JY % 3),gi SA (x.Ej % 16),x.first,I4 x (1+x.pipes % 25)⟩
theorem a2b (x:G6) (hx:x.Ok) (i:Int) (hi:0≤i∧i≤1000):Ai env 114 [.agg x.enc,.int .i64 i] (.p (.agg (Enc.enc (VI x i)))):=by
 obtain ⟨h1,h2,h3,h4,h5⟩:=hx;have hf:=a0m x.Ej h2;have hlt:x.JY % 3<3:=ao _ (by decide);refine Ai.enter (Ae (by decide)) Tryz.func114 rfl (by kernel_rfl) (by simp [Tryz.ntmps114]) ?_
 repeat' (first|(refine Af.Gz 18 ?_;refine Af.ghost (Ar.freeze 14 rfl rfl) ?_)|apply Ad.assoc|apply Ad.Bf|apply Ad.Bl|apply Ad.CW|apply Ah.nil|apply Af.nil|apply Ah.one|(apply Af.bar;decide +kernel)|apply Af.quiet|(apply Aa.fn;rfl;rfl;exact hf;intro _;rfl)|(apply Aa.Il;rfl;rfl;rfl;rfl;rfl;omega)|(apply Aa.Ap (l:=UZ) (i:=x.JY % 3);rfl;rfl;rfl;exact hlt;rfl)|(apply Aa.assign;rfl)|(apply Aa.move;rfl)|(apply Aa.Jl;rfl;rfl;omega)|(apply Aa.KL;rfl;rfl;omega;omega)|(apply Aa.load;rfl;rfl)|(apply Aa.D8;rfl;rfl;rfl)|(apply Aa.box;rfl;trivial)|(apply Aa.alloc;rfl)|(apply Aa.Dz;rfl;rfl;rfl;trivial;rfl;rfl;exact AY rfl;exact le_dec rfl)|(apply Aa.build;rfl;rfl;rfl;rfl;rfl)|(apply Aa.buildSlice;rfl;rfl;rfl;decide;rfl;rfl;rfl)|(apply Aa.X9;rfl;rfl;(first|omega|(simp only [List.length_take,List.length_drop,List.length_append,List.length_singleton,List.length_cons,List.length_nil]<;>omega)))|(apply Aa.Ea;rfl;rfl;rfl;rfl;omega)|(apply Aa.Nb;rfl;rfl;rfl;rfl;omega))
 refine Ad.ghost (Ar.EO 4 5 3 rfl rfl) ?_;refine Ad.D6 (fun k:Nat=>[(2,.ref 0 0),(4,.ref 1 0),(5,.ref 4 0),(6,.p (.int .i64 (k:Int)))]) (fun k=>[(5,.vec 3 (cells (I4 x k)) (I4 x k).length true),(4,.box 113 [.p (.str (bs [82,UInt8.ofNat (48+i % 10).toNat])),.p (.str (bs (gi UZ (x.JY % 3)))),.p (.int .i64 (gi SA (x.Ej % 16)).num),.p (.int .i64 (gi SA (x.Ej % 16)).den),.p (.int .i64 x.first),.vec 5 (I4 x k).length 0 (I4 x k).length]),(1,.box 113 [.p (.str ⟨#[]⟩),.p (.str ⟨#[]⟩),.p (.int .i64 0),.p (.int .i64 0),.p (.int .i64 0),.p (.val (.slice none 0 0))]),(0,.box 226 (x.enc.map .p))]) 6 (fun k=>k≤1+x.pipes % 25) (fun k=>1+x.pipes % 25-k) 0 (by omega) (by omega) ⟨by omega,?_,?_⟩ ?_
 ·exact Dy
 ·exact Ey
 intro k hk;have hl:=Gm x k;have hw:=h5 (k % 5);have e1:I4 x (k+1)=I4 x k++[((gi x.Fj (k % 5):Nat):Int)]:=rfl;have e2:(I4 x (k+1)).length=(I4 x k).length+1:=by rw [e1];simp
 have hr:(x.enc.map PV.p)[4+((k:Int) % 5).toNat*1]?=some (.p (.int .u8 ((gi x.Fj (k % 5):Nat):Int))):=by
  have e0:((k:Int) % 5).toNat=k % 5:=by omega
  rw [e0];have:k % 5<5:=ao _ (by decide);generalize k % 5=n at this
  match n,this with
  |0,_=>rfl
  |1,_=>rfl
  |2,_=>rfl
  |3,_=>rfl
  |4,_=>rfl
 repeat' (first|(refine Ad.at 6 ?_;refine Ad.ghost (Ar.BI 4 5 rfl rfl rfl) ?_;first|apply Ad.Bf|apply Ad.Bl)|(apply Aa.a6v;rfl;rfl;rfl;exact hr)|(apply Aa.UG;rfl;rfl;rfl;rfl;rfl;omega)|(apply Aa.Dk;rfl;rfl;rfl;rfl;rfl;rfl;rfl;rfl;(intro _ h;cases h);rfl;rfl;rfl;decide;decide;(first|omega|(simp only [List.length_take,List.length_drop,List.length_append,List.length_singleton,List.length_cons,List.length_nil]<;>omega)))|refine go1 ?_|apply Ad.Bf|apply Ad.region|apply Ad.Dq|(apply Aa.int;rfl;rfl;rfl)|(apply Aa.buildSlice;rfl;rfl;rfl;decide;rfl;rfl;rfl)|(apply Aa.Ea;rfl;rfl;rfl;rfl;omega)|(apply Ad.Ac;rfl)|(intro _;try (exfalso;omega)))
 ·refine Aj.normal ⟨k+1,by omega,by omega,⟨by omega,?_,?_⟩⟩
  ·exact Dy
  ·rw [e2,e1];exact Ey
 ·obtain rfl:k=1+x.pipes % 25:=by omega
  refine Done.rt rfl rfl ⟨?_,rfl,rfl⟩;rfl
end Go.Proofs.YtnjkoebfgcbbdaaGreatDoor
