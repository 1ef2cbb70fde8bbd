/-
  Texts of a proof, merged (IntB, FraA, RkB, RkC, OrA, OrB, RkA, RkD, RkE, RkF, RkG, RkH, RkI). Conditions: in each statement.
-/
import Derived.Test.YtnjkoebfgcbbdaaGreatDoorKGh
set_option linter.unusedSimpArgs false
set_option linter.unusedVariables false
set_option linter.unusedSectionVars false
set_option maxRecDepth 100000
set_option maxHeartbeats 8000000
abbrev dx:=@Int.toNat_of_nonneg
abbrev dE:=@Int.natCast_mul
abbrev em:=@Nat.pow_lt_pow_iff_right
abbrev fm:=@Nat.pow_lt_pow_left
abbrev fu:=@Nat.mul_lt_mul_of_lt_of_le
abbrev gw:=@Nat.mul_one
abbrev gS:=@Nat.le_of_lt
namespace Go.Proofs.YtnjkoebfgcbbdaaGreatDoor
section
open Go Go.Am Go.Vm
attribute [local irreducible] Aa Ai Ag Ad AP Ak Bf BM Bq Ah Vm.Done BD AB
theorem a7k {L:Vm.Frame} {H:Vm.Heap} {nx:Nat} {Q:PV→Vm.Heap→Nat→Prop} {dst:Option Tmp} {ty:TypeId} {pos:String} {af:Array Edge} {gd:Option (Nat×Bool)} {fo:Operand} {args:Array Operand} {aT:Array TypeId} {fs cs xs:List PV} {c:Code}
 (hf:AU env.Γ L fo=some (.clo 104 fs cs)) (ha:evs env.Γ L args.toList=some xs) (hb:Tryz.f104.body=some c) (hn:(fs++xs++cs).length≤Tryz.f104.ntmps)
 (h:Ad env nx c (Ce 0 (fs++xs++cs)) H nx (AB env.P Tryz.f104.results.toList Q)):Aa env true ⟨dst,.call { callee:=.value fo,args:=args,argTypes:=aT },ty,pos,af,gd⟩ L H nx Q:=by
 have h0:(match Tryz.f104.body with|some c=>II env.G Tryz.f104 c|none=>false)=true:=by kernel_rfl
 rw [hb] at h0;exact Aa.inline rfl hf ha (Ae (by decide)) Tryz.func104 hb h0 hn h
theorem a5j {L:Vm.Frame} {H:Vm.Heap} {nx:Nat} {Q:PV→Vm.Heap→Nat→Prop} {dst:Option Tmp} {ty:TypeId} {pos:String} {af:Array Edge} {gd:Option (Nat×Bool)} {fo:Operand} {args:Array Operand} {aT:Array TypeId} {fs cs xs:List PV} {c:Code}
 (hf:AU env.Γ L fo=some (.clo 103 fs cs)) (ha:evs env.Γ L args.toList=some xs) (hb:Tryz.f103.body=some c) (hn:(fs++xs++cs).length≤Tryz.f103.ntmps)
 (h:Ad env nx c (Ce 0 (fs++xs++cs)) H nx (AB env.P Tryz.f103.results.toList Q)):Aa env true ⟨dst,.call { callee:=.value fo,args:=args,argTypes:=aT },ty,pos,af,gd⟩ L H nx Q:=by
 have h0:(match Tryz.f103.body with|some c=>II env.G Tryz.f103 c|none=>false)=true:=by kernel_rfl
 rw [hb] at h0;exact Aa.inline rfl hf ha (Ae (by decide)) Tryz.func103 hb h0 hn h
theorem oP {L:Vm.Frame} {H:Vm.Heap} {nx:Nat} {Q:PV→Vm.Heap→Nat→Prop} {dst:Option Tmp} {ty:TypeId} {pos:String} {af:Array Edge} {gd:Option (Nat×Bool)} {fo:Operand} {args:Array Operand} {aT:Array TypeId} {fs cs xs:List PV} {c:Code}
 (hf:AU env.Γ L fo=some (.clo 144 fs cs)) (ha:evs env.Γ L args.toList=some xs) (hb:Tryz.f144.body=some c) (hn:(fs++xs++cs).length≤Tryz.f144.ntmps)
 (h:Ad env nx c (Ce 0 (fs++xs++cs)) H nx (AB env.P Tryz.f144.results.toList Q)):Aa env true ⟨dst,.call { callee:=.value fo,args:=args,argTypes:=aT },ty,pos,af,gd⟩ L H nx Q:=by
 have h0:(match Tryz.f144.body with|some c=>II env.G Tryz.f144 c|none=>false)=true:=by kernel_rfl
 rw [hb] at h0;exact Aa.inline rfl hf ha (Ae (by decide)) Tryz.func144 hb h0 hn h
theorem nC (n:Nat):¬ (List.take 1 (Lib.decDigits n)=[45]):=fun h=>by
 have h1:=Num.JX n 45 (fe (by rw [h];simp));grind
theorem b0e (n:Nat):0<(Lib.decDigits n).length:=by rw [Lib.decDigits_length];exact Lib.nDigits_pos n
theorem b0c {a b:Nat} (h:Lib.decDigits a=Lib.decDigits b):a=b:=by
 have h1:Lib.nDigits a=Lib.nDigits b:=by rw [← Lib.decDigits_length,← Lib.decDigits_length,h]
 rw [Num.Et,Num.Et,h1] at h;have:=congrArg Num.parse h;rw [Num.UY,Num.UY,bp (by rw [← h1];exact Lib.lt_pow_nDigits a),bp (Lib.lt_pow_nDigits b)] at this;omega
theorem a5z (a:Nat):Lib.decDigits a=[48]↔a=0:=by
 have:Lib.decDigits 0=[48]:=by rw [Lib.decDigits_one (by decide)];rfl
 rw [← this];exact ⟨b0c,fun h=>by rw [h]⟩
theorem zK (n:Nat):Num.parse (Lib.decDigits n)=n:=by
 rw [Num.Et,Num.UY,bp (Lib.lt_pow_nDigits n)]
theorem a2y (n:Nat):Ak env 54 [.str (bs (Lib.decDigits n)),.str (bs [45])] (.DX [st (Lib.decDigits n),.p (.bool false)]):=by
 refine Ak.enter (Ae (by decide)) Tryz.func54 rfl (by kernel_rfl) (by simp) ?_;have h1:=nC n;have h2:=b0e n
 repeat' (first|(apply a7k;rfl;rfl;rfl;exact le_dec rfl)|(apply oP;rfl;rfl;rfl;exact le_dec rfl)|(apply Aa.LX;rfl;rfl)|refine JA ?_|(apply AB.ret;rfl)|(apply Ai.guard;rfl;rfl)|(apply Aa.eqS;rfl;rfl)|(apply Aa.nG;rfl;rfl;rfl;omega)|(apply Aa.uK;rfl;rfl;rfl;omega)|(apply Ad.AX;rfl)|(apply Ad.QL;rfl)|(intro _))
 ·refine Done.rt rfl rfl ⟨?_,rfl,rfl⟩
  rfl
 ·grind
 grind
theorem cut_spec' (n:Nat):Ak env 54 [.str (bs (Lib.decDigits n)),.str ⟨#[45]⟩] (.DX [st (Lib.decDigits n),.p (.bool false)]):=a2y n
theorem Tq (n:Nat) (hn:Lib.nDigits n<900000):Ak env 92 [.str (bs (Lib.decDigits n))] (.DX [lst 82 (Num.toL n),.p (.bool false)]):=by
 refine Ak.enter (Ae (by decide)) Tryz.func92 rfl (by kernel_rfl) (by simp) ?_
 repeat' (first|(apply Aa.fn;rfl;rfl;exact cut_spec' n;intro _;rfl)|(apply Aa.fn;rfl;rfl;exact zM n hn;intro _;rfl)|refine go1 ?_|fail)
 ·refine Done.rt rfl rfl ⟨?_,rfl,rfl⟩
  rfl
theorem WG (n:Nat) (hn:(Num.toL n).length<1000000):Ak env 93 [.lst 82 (cells (Num.toL n)) (Num.toL n).length,.bool false] (st (Lib.decDigits n)):=by
 refine Ak.enter (Ae (by decide)) Tryz.func93 rfl (by kernel_rfl) (by simp) ?_;have ht:=ni (Num.toL n) (Num.Md n) (by omega);rw [Num.dR] at ht
 repeat' (first|(apply Aa.fn;rfl;rfl;exact ht;intro _;rfl)|refine FT ?_|(apply Ad.Aj;rfl))
 ·refine Done.rt rfl rfl ⟨?_,rfl,rfl⟩
  rfl
theorem Yr (n:Int) (h:-9223372036854775808≤n∧n≤9223372036854775807):Ak env 18 [.int .i64 n] (st (Lib.itoa n)):=by
 refine Ak.enter (Ae (by decide)) Tryz.func18 rfl (by kernel_rfl) (by simp) ?_
 repeat' (first|(apply Aa.fn;rfl;rfl;exact a6h n h;intro _;rfl)|refine go1 ?_|fail)
 ·refine Done.rt rfl rfl ⟨?_,rfl,rfl⟩
  rfl
theorem a8c (n:Nat):Lib.itoa (n:Int)=Lib.decDigits n:=by rfl
theorem NZ (n g:Nat) (hg:g≤18):Ak env 91 [.str (bs (Lib.decDigits n)),.int .i64 (g:Int)] (.DX [.p (.int .i64 ((if Lib.nDigits n≤g then n else 0:Nat):Int)),.p (.bool (decide (Lib.nDigits n≤g)))]):=by
 refine Ak.enter (Ae (by decide)) Tryz.func91 rfl (by kernel_rfl) (by simp) ?_;have hl:=Lib.decDigits_length n;by_cases hng:Lib.nDigits n≤g
 ·rw [if_pos hng,decide_eq_true hng]
  obtain ⟨d,hd⟩:∃ d,d=Lib.decDigits n:=⟨_,rfl⟩
  have hc:=cut_spec' n;rw [← hd] at hl hc ⊢;have hdig:∀ i,i<d.length→48≤(gi d i).toNat∧(gi d i).toNat≤57:=fun i hi=>oI (p:=fun c=>48≤c.toNat∧c.toNat≤57) (by rw [hd];exact Num.JX n) i hi
  have hpv:∀ j,j≤d.length→Num.parse (d.take j)<1000000000000000000:=fun j hj=>by
   have h1:=Num.qL (d.take j) (fun c hc=>by
    have hm:=fe hc;rw [hd] at hm;exact Num.JX n c hm)
   rw [aw,cH hj] at h1;have h2:10 ^ j≤10 ^ 18:=ax (by decide) (by omega);omega
  repeat' (first|(apply Aa.fn;rfl;rfl;exact hc;intro _;rfl)|(apply Aa.lenV;rfl;rfl;rfl)|(apply Aa.LX;rfl;rfl)|refine go1 ?_|(apply Aa.int;rfl;rfl;rfl)|(apply Aa.toBytes;rfl;rfl;rfl;rfl;rfl;rfl;omega)|(apply Ad.Ac;rfl)|(intro _;try (exfalso;omega)))
  refine Ad.DK (fun j:Nat=>[(7,.p (.bool false)),(8,.p (.int .i64 ((Num.parse (d.take j):Nat):Int))),(21,.vec 0 d.length 0 d.length),(22,.p (.int .i64 d.length)),(23,.p (.int .i64 (j:Int)))])
   (fun _=>[(0,.vec 5 (cells d) d.length false)]) 1 (fun j=>j≤d.length) (fun j=>d.length-j) 0 (by omega) (by omega) ⟨ab _,?_,?_⟩ ?_
  ·exact Dl
  ·exact Eh
  intro j hj;have hv:=hpv j hj;by_cases hlj:j<d.length
  ·have hd2:=hdig j hlj
   have hv2:=hpv (j+1) hlj;rw [Num.parse_snoc' d j hlj] at hv2
   repeat' (first|(apply Aa.DU;rfl;rfl;rfl;rfl;omega)|refine go2 ?_|(apply Aa.Gh;rfl;rfl;rfl;rfl;omega)|(apply Ad.Ac;rfl)|(intro _;try (exfalso;omega)))
   refine Ah.normal ⟨j+1,by omega,by omega,⟨by omega,?_,?_⟩⟩
   ·rw [Num.parse_snoc' d j hlj,Int.natCast_add,dE];exact Dl
   ·exact Eh
  ·have hjp:j=d.length:=by omega
   subst hjp
   repeat' (first|refine go2 ?_|(apply Ad.Aj;rfl)|(apply Ad.Ac;rfl)|(intro _;try (exfalso;omega)))
   ·refine Done.rt rfl rfl ⟨?_,rfl,rfl⟩
    rw [cB,hd,zK]
 ·rw [if_neg hng,decide_eq_false hng]
  repeat' (first|(apply Aa.fn;rfl;rfl;exact cut_spec' n;intro _;rfl)|(apply Aa.LX;rfl;rfl)|refine go1 ?_|(apply Aa.int;rfl;rfl;rfl)|(apply Ad.Ac;rfl)|(intro _;try (exfalso;omega)))
  ·refine Done.rt rfl rfl ⟨?_,rfl,rfl⟩
   rfl
end
section
open Go Go.Am Go.Vm
attribute [local irreducible] Aa Ai Ag Ad AP Ak Bf BM Bq Ah Vm.Done BD AB
theorem toL_short {x K:Nat} (h:x<10 ^ K) (hK:K<900000):(Num.toL x).length<200000:=by
 have h1:x<Num.B9 ^ (K / 9+1):=by
  refine ag h ?_;rw [show Num.B9 ^ (K / 9+1)=10 ^ (9*(K / 9+1)) by rw [dq]];exact ax (by decide) (by omega)
 have:=Num.toL_len_le x (K / 9+1) h1;omega
theorem a9q (e i:Nat):e &&& 2 ^ i=if e / 2 ^ i % 2=1 then 2 ^ i else 0:=by
 apply Nat.eq_of_testBit_eq;grind
theorem Zx (n e:Nat) (he:e≤6000) (hne:e*Lib.nDigits n≤24000) (hn:Lib.nDigits n<100000):Ak env 195 [.str (bs (Lib.decDigits n)),.int .i64 (e:Int)] (.DX [st (Lib.decDigits (n ^ e)),.p (.int .i64 0)]):=by
 refine Ak.enter (Ae (by decide)) Tryz.func195 rfl (by kernel_rfl) (by simp [Tryz.ntmps195]) ?_;have hlt:=Lib.lt_pow_nDigits n;have hnl:=toL_short hlt (by omega);obtain ⟨K,hK⟩:∃ K:Nat,K=24000:=⟨_,rfl⟩
 rw [← hK] at hne;have sG:∀ k,k≤e→(Num.toL (n ^ k)).length<200000:=fun k hk=>by
  refine toL_short (K:=K) ?_ (by omega);have h1:n ^ k≤(10 ^ Lib.nDigits n) ^ k:=Nat.pow_le_pow_left (gS hlt) k;rw [← dq] at h1;rcases bl k with h0|h0
  ·rw [h0,eh];exact Nat.one_lt_pow (by omega) (by decide)
  ·have h2:n ^ k<(10 ^ Lib.nDigits n) ^ k:=fm hlt (by omega)
   rw [← dq] at h2;refine ag h2 (ax (by decide) ?_);have:=bR (Lib.nDigits n) hk;rw [dc (Lib.nDigits n) e] at this;omega
 have htx:=ni (Num.toL n) (Num.Md n) (by omega);rw [Num.dR] at htx;have hdl:=Lib.decDigits_length n;have hmul:(e:Int)*((Lib.decDigits n).length:Int)≤24000:=by rw [hK] at hne;rw [hdl];exact_mod_cast hne
 have c6c:(0:Int)≤(e:Int)*((Lib.decDigits n).length:Int):=by rw [hdl,← dE];omega
 repeat' (first|(apply Aa.fn;rfl;rfl;exact Tq n (by omega);intro _;rfl)|(apply Aa.fn;rfl;rfl;exact htx;intro _;rfl)|(apply Aa.LX;rfl;rfl)|refine FT ?_|(apply Aa.int;rfl;rfl;rfl)|(apply Aa.buildSlice;rfl;rfl;rfl;decide;rfl;rfl;rfl)|(apply Ad.Ac;rfl)|(intro _;try (exfalso;omega)))
 refine Ad.ghost (Aw.freeze 8 rfl rfl) ?_;have one:Num.toL 1=[1]:=by rw [Num.toL_pos (by decide),show 1 / Num.B9=0 by decide,Num.toL_zero];rfl
 have e14:e / 2 ^ 14=0:=eQ (by omega);refine Ad.DK (fun b:Nat=>[(1,.p (.int .i64 (e:Int))),(6,lst 82 (Num.toL n)),(7,.p (.bool false)),(8,lst 82 (Num.toL (n ^ (e / 2 ^ b)))),(9,.p (.int .i64 ((2 ^ b / 2:Nat):Int)))]) (fun _=>[]) 1 (fun b=>b≤14) (fun b=>b) 14 (by omega) (by omega) ⟨ab _,?_,?_⟩ ?_
 ·rw [e14,eh,one];exact Dl
 ·exact BH.nil
 intro b hb;rcases bl b with hb0|hb0
 ·subst hb0
  have hlen:=sG e (ab _);have hs:=WG (n ^ e) (by omega);rw [eh,Nat.div_one]
  repeat' (first|(apply Aa.fn;rfl;rfl;exact hs;intro _;rfl)|refine FT ?_|(apply Aa.int;rfl;rfl;rfl)|(apply Ad.Aj;rfl))
  ·(refine Done.rt rfl rfl ⟨?_,rfl,rfl⟩;try rfl)
 ·obtain ⟨i,rfl⟩:∃ i,b=i+1:=⟨b-1,by omega⟩
  have hp1:2 ^ (i+1) / 2=2 ^ i:=by rw [bN,Nat.mul_div_cancel _ (by decide)]
  have hp0:0<2 ^ i:=cW (by decide);have c8x:2 ^ i≤2 ^ 13:=ax (by decide) (by omega);rw [hp1];have hle:e / 2 ^ (i+1)≤e:=Nat.div_le_self _ _;have h1:=Sz (Num.toL (n ^ (e / 2 ^ (i+1)))) (Num.toL (n ^ (e / 2 ^ (i+1)))) (Num.Md _) (Num.Md _) (by have:=sG _ hle;omega) (by have:=sG _ hle;omega);rw [Num.TY] at h1;have hle2:e / 2 ^ (i+1)+e / 2 ^ (i+1)≤e:=by
   have h2:e / 2 ^ (i+1)*2 ^ (i+1)≤e:=Nat.div_mul_le_self _ _;have h3:e / 2 ^ (i+1)*2≤e / 2 ^ (i+1)*2 ^ (i+1):=bR _ (by rw [bN];omega);omega
  have h2:=Sz (Num.toL (n ^ (e / 2 ^ (i+1))*n ^ (e / 2 ^ (i+1)))) (Num.toL n) (Num.Md _) (Num.Md _) (by rw [← cv];have:=sG _ hle2;omega) (by omega);rw [Num.TY,Num.TY] at h2;have hbit:=Num.b0j n e i;have hand:=a9q e i;by_cases hb1:e / 2 ^ i % 2=1
  ·rw [if_pos hb1] at hbit hand
   repeat' (first|(apply Aa.fn;rfl;rfl;exact h1;intro _;rfl)|(apply Aa.fn;rfl;rfl;exact h2;intro _;rfl)|refine go1 ?_|(apply Aa.int;rfl;rfl;rfl)|(apply Aa.jJ;rfl;rfl;(simp only [IntKind.bits];omega))|(apply Ad.Ac;rfl)|(apply Ad.Au;rfl)|(intro _;try (exfalso;omega)))
   all_goals try (exfalso;rename_i hx;rw [hand] at hx;omega)
   refine Ah.normal ⟨i,by omega,by omega,⟨by omega,?_,?_⟩⟩
   ·rw [← hbit];exact Dl
   ·exact BH.nil
  ·rw [if_neg hb1,gw] at hbit
   rw [if_neg hb1] at hand
   repeat' (first|(apply Aa.fn;rfl;rfl;exact h1;intro _;rfl)|refine go1 ?_|(apply Aa.int;rfl;rfl;rfl)|(apply Aa.jJ;rfl;rfl;(simp only [IntKind.bits];omega))|(apply Ad.Ac;rfl)|(apply Ad.Au;rfl)|(intro _;try (exfalso;omega)))
   all_goals try (exfalso;rename_i hx;rw [hand] at hx;omega)
   refine Ah.normal ⟨i,by omega,by omega,⟨by omega,?_,?_⟩⟩
   ·rw [← hbit];exact Dl
   ·exact BH.nil
theorem qG (a b:Nat) (ha:Lib.nDigits a<400000) (hb:Lib.nDigits b<400000):Ak env 196 [.str (bs (Lib.decDigits a)),.str (bs (Lib.decDigits b))] (st (Lib.decDigits (a*b))):=by
 refine Ak.enter (Ae (by decide)) Tryz.func196 rfl (by kernel_rfl) (by simp) ?_;have qa:=NZ a 9 (by decide);have qb:=NZ b 9 (by decide);have la:=Lib.lt_pow_nDigits a;have lb:=Lib.lt_pow_nDigits b;have hla:=toL_short la (by omega);have hlb:=toL_short lb (by omega);have ht:=Sz (Num.toL a) (Num.toL b) (Num.Md _) (Num.Md _) (by omega) (by omega);rw [Num.TY,Num.TY] at ht;have hlab:(Num.toL (a*b)).length<200000:=toL_short (K:=Lib.nDigits a+Lib.nDigits b) (by
  rw [cv];exact fu la (gS lb) (cW (by decide))) (by omega)
 have hs:=WG (a*b) (by omega);by_cases h9:Lib.nDigits a≤9∧Lib.nDigits b≤9
 ·rw [if_pos h9.1,decide_eq_true h9.1] at qa
  rw [if_pos h9.2,decide_eq_true h9.2] at qb;have ha9:a<1000000000:=ag la (ax (n:=10) (by decide) h9.1);have hb9:b<1000000000:=ag lb (ax (n:=10) (by decide) h9.2);have hab:a*b≤999999999*999999999:=cN (by omega) (by omega);have c8w:(a:Int)*(b:Int)=((a*b:Nat):Int):=(dE a b).symm;have ho:=Yr ((a:Int)*(b:Int)) (by omega)
  repeat' (first|(apply Aa.fn;rfl;rfl;exact qa;intro _;rfl)|(apply Aa.fn;rfl;rfl;exact qb;intro _;rfl)|(apply Aa.fn;rfl;rfl;exact ho;intro _;rfl)|refine FT ?_|(apply Ad.AX;rfl))
  ·refine Done.rt rfl rfl ⟨?_,rfl,rfl⟩
   rfl
 ·repeat' (first|(apply Aa.fn;rfl;rfl;exact qa;intro _;rfl)|(apply Aa.fn;rfl;rfl;exact qb;intro _;rfl)|(apply Aa.fn;rfl;rfl;exact Tq a (by omega);intro _;rfl)|(apply Aa.fn;rfl;rfl;exact Tq b (by omega);intro _;rfl)|(apply Aa.fn;rfl;rfl;exact ht;intro _;rfl)|(apply Aa.fn;rfl;rfl;exact hs;intro _;rfl)|refine go1 ?_|(apply Aa.neB;rfl;rfl;rfl)|(apply Ad.Ac;rfl)|(intro _;try (exfalso;omega)))
  all_goals (refine Done.rt rfl rfl ⟨?_,rfl,rfl⟩;try rfl)
theorem dG (n:Nat):Ak env 53 [.str (bs (Lib.decDigits n))] (.p (.int .i64 (if n=0 then 0 else 1))):=by
 refine Ak.enter (Ae (by decide)) Tryz.func53 rfl (by kernel_rfl) (by simp) ?_;have h1:=nC n;have h3:=a5z n
 repeat' (first|(apply a5j;rfl;rfl;rfl;exact le_dec rfl)|(apply oP;rfl;rfl;rfl;exact le_dec rfl)|(apply Aa.LX;rfl;rfl)|refine JA ?_|(apply AB.ret;rfl)|(apply Ai.guard;rfl;rfl)|(apply Aa.eqS;rfl;rfl)|(apply Aa.nG;rfl;rfl;rfl;omega)|(apply Ad.cond_false;rfl)|(apply Ad.Au;rfl)|(intro _))
 all_goals first
  |(exfalso;simp_all;done)
  |(exfalso;simp_all;omega)
  |((refine Done.rt rfl rfl ⟨?_,rfl,rfl⟩;try rfl);grind)
theorem YA:∀ (a b:List UInt8),-1≤Lib.compareBytes a b∧Lib.compareBytes a b≤1
 |[],[]=>by simp [Lib.compareBytes]
 |[],_::_=>by simp [Lib.compareBytes]
 |_::_,[]=>by simp [Lib.compareBytes]
 |a::as',b::bs'=>by
  simp only [Lib.compareBytes];have:=YA as' bs';omega
def Vf (a b:Nat):Int:=if a<b then -1 else if b<a then 1 else 0
theorem b1q {a b:Nat} (h:Lib.nDigits a=Lib.nDigits b):Lib.compareBytes (Lib.decDigits a) (Lib.decDigits b)=Vf a b:=by
 rw [Num.Et,Num.Et,← h];exact Num.b3t _ _ _ (Lib.lt_pow_nDigits a) (by rw [h];exact Lib.lt_pow_nDigits b)
theorem UW (a b:Nat) (ha:Lib.nDigits a<400000) (hb:Lib.nDigits b<400000):Ak env 22 [.str (bs (Lib.decDigits a)),.str (bs (Lib.decDigits b))] (.p (.int .i64 (Vf a b))):=by
 refine Ak.enter (Ae (by decide)) Tryz.func22 rfl (by kernel_rfl) (by simp) ?_;have sa:=dG a;have sb:=dG b;have hla:=Lib.decDigits_length a;have hlb:=Lib.decDigits_length b;have hcb:=YA (Lib.decDigits a) (Lib.decDigits b);have z1:Lib.nDigits 0=1:=Lib.nDigits_small (by decide);by_cases ha0:a=0<;>by_cases hb0:b=0
 ·rw [if_pos ha0] at sa
  rw [if_pos hb0] at sb;have heq:Lib.nDigits a=Lib.nDigits b:=by grind
  repeat' (first|(apply Aa.fn;rfl;rfl;exact sa;intro _;rfl)|(apply Aa.fn;rfl;rfl;exact sb;intro _;rfl)|(apply Aa.fn;rfl;rfl;exact cut_spec' a;intro _;rfl)|(apply Aa.fn;rfl;rfl;exact cut_spec' b;intro _;rfl)|(apply Aa.fn;rfl;rfl;exact WU _ _;intro _;rfl)|(apply Aa.LX;rfl;rfl)|refine FT ?_|(apply Aa.int;rfl;rfl;rfl)|(apply Ad.cond_false;rfl)|(apply Ad.Au;rfl)|(intro _;try (exfalso;omega)))
  all_goals first
   |(exfalso;omega)
   |((refine Done.rt rfl rfl ⟨?_,rfl,rfl⟩;try rfl);refine PV.int_eq ?_;simp [Vf,ha0,hb0];done)
 ·rw [if_pos ha0] at sa
  rw [if_neg hb0] at sb
  repeat' (first|(apply Aa.fn;rfl;rfl;exact sa;intro _;rfl)|(apply Aa.fn;rfl;rfl;exact sb;intro _;rfl)|refine go1 ?_|(apply Aa.int;rfl;rfl;rfl)|(apply Ad.cond_true;rfl))
  all_goals first
   |(exfalso;omega)
   |((refine Done.rt rfl rfl ⟨?_,rfl,rfl⟩;try rfl);refine PV.int_eq ?_;unfold Vf;rw [if_pos (by omega)];done)
 ·rw [if_neg ha0] at sa
  rw [if_pos hb0] at sb
  repeat' (first|(apply Aa.fn;rfl;rfl;exact sa;intro _;rfl)|(apply Aa.fn;rfl;rfl;exact sb;intro _;rfl)|refine go1 ?_|(apply Aa.int;rfl;rfl;rfl)|(apply Ad.cond_true;rfl)|(apply Ad.cond_false;rfl))
  all_goals first
   |(exfalso;omega)
   |((refine Done.rt rfl rfl ⟨?_,rfl,rfl⟩;try rfl);refine PV.int_eq ?_;unfold Vf;rw [if_neg (by omega),if_pos (by omega)];done)
 ·rw [if_neg ha0] at sa
  rw [if_neg hb0] at sb;have hm1:Lib.nDigits a<Lib.nDigits b→a<b:=Num.N8;have hm2:Lib.nDigits b<Lib.nDigits a→b<a:=Num.N8
  repeat' (first|(apply Aa.fn;rfl;rfl;exact sa;intro _;rfl)|(apply Aa.fn;rfl;rfl;exact sb;intro _;rfl)|(apply Aa.fn;rfl;rfl;exact cut_spec' a;intro _;rfl)|(apply Aa.fn;rfl;rfl;exact cut_spec' b;intro _;rfl)|(apply Aa.fn;rfl;rfl;exact WU _ _;intro _;rfl)|(apply Aa.LX;rfl;rfl)|refine FT ?_|(apply Aa.int;rfl;rfl;rfl)|(apply Aa.neg;rfl;omega)|(apply Ad.cond_false;rfl)|(apply Ad.Au;rfl)|(intro _;try (exfalso;omega)))
  ·(refine Done.rt rfl rfl ⟨?_,rfl,rfl⟩;try rfl)
   refine PV.int_eq ?_;have:=hm1 (by omega);unfold Vf;rw [if_pos this]
  ·(refine Done.rt rfl rfl ⟨?_,rfl,rfl⟩;try rfl)
   refine PV.int_eq ?_;have:=hm2 (by omega);unfold Vf;rw [if_neg (by omega),if_pos this]
  ·(refine Done.rt rfl rfl ⟨?_,rfl,rfl⟩;try rfl)
   refine PV.int_eq ?_;rw [Int.one_mul,b1q (by omega)]
end
end Go.Proofs.YtnjkoebfgcbbdaaGreatDoor
namespace Go.Vm
open Go.Am
theorem TT {n:Int} (h0:n<0) (h:-18446744073709551616≤n):IntKind.u64.wrap n=n+18446744073709551616:=by
 have e:IntKind.u64.wrap n=n % 2^64:=by
  rfl
 omega
section
variable {E:Env} {L:Frame} {H:Heap} {nx:Nat} {Q:PV→Heap→Nat→Prop} {w:Bool}
variable {dst:Option Tmp} {ty:TypeId} {pos:String} {af:Array Edge} {gd:Option (Nat×Bool)}
theorem Aa.b4s {s d:TypeId} {x:Operand} {k':IntKind} {n:Int} {sd:TypeDesc} (hx:AU E.Γ L x=some (.p (.int k' n))) (hs:E.P.underlying s=some sd) (hns:qZ sd=true) (hd:E.P.underlying d=some (.int .u64)) (hn:n<0∧-18446744073709551616≤n) (q:Q (.p (.int .u64 (n+18446744073709551616))) H nx) :
 Aa E w ⟨dst,.convert s d x,ty,pos,af,gd⟩ L H nx Q:=Aa.Yc hx hs hns hd (by rw [TT hn.1 hn.2];exact q)
theorem Aa.c4s {t:TypeId} {x:Operand} {a:Int} (hx:AU E.Γ L x=some (.p (.int .u64 a))) (h:0<a∧a<18446744073709551616) (q:Q (.p (.int .u64 (18446744073709551616-a))) H nx):Aa E w ⟨dst,.unOp .neg t x,ty,pos,af,gd⟩ L H nx Q :=
 Aa.quiet q fun m F σ tt c1 c2=>by
  refine ⟨.int .u64 (18446744073709551616-a),fun _=>?_,.p (.int _ _)⟩;have hd:Dq E.P (Op.unary .neg (.int .u64 a))=some (.int .u64 (18446744073709551616-a)):=by
   simp only [Op.unary,Op.intArith,Int.zero_sub,TT (n:=-a) (by omega) (by omega)];rw [show -a+18446744073709551616=18446744073709551616-a by omega];rfl
  simp only [BU,Fb,CJ c1 c2 hx];rw [show plain (Value.int IntKind.u64 a)=true from rfl];simp only [if_true,Ky hd rfl,Option.map_some]
theorem Aa.makeFunc {f:FuncId} {fs cs:Array Operand} {pf pc:List PV} (hf:evs E.Γ L fs.toList=some pf) (hc:evs E.Γ L cs.toList=some pc) (q:Q (.clo f pf pc) H nx):Aa E w ⟨dst,.makeFunc (.func f) fs cs,ty,pos,af,gd⟩ L H nx Q :=
 Aa.quiet q fun m F σ tt c1 c2=>by
  refine ⟨.func (.func f) (fs.toList.map (ev tt)).toArray (cs.toList.map (ev tt)).toArray,fun _=>?_,.clo (QJ c1 c2 hf) (QJ c1 c2 hc)⟩;simp only [BU,Fb,Option.map_some,← Array.toList_map,Array.toArray_toList]
end
end Go.Vm
namespace Go.Proofs.YtnjkoebfgcbbdaaGreatDoor
open Go Go.Am Go.Vm
attribute [local irreducible] Aa Ai Ag Ad AP Ak Bf BM Bq Ah Vm.Done BD AB
structure KI where
 num:Int
 den:Int
instance:Enc KI:={ default:=⟨0,0⟩,enc:=fun x=>[.int .i64 x.num,.int .i64 x.den],size:=2,len:=fun _=>rfl }
theorem Za (n:Int) (h:-9223372036854775808≤n∧n<9223372036854775808):Ak env 198 [.int .i64 n] (.p (.int .u64 ((n.natAbs:Nat):Int))):=by
 refine Ak.enter (Ae (by decide)) Tryz.func198 rfl (by kernel_rfl) (by simp [Tryz.ntmps198]) ?_
 repeat' (first|refine go1 ?_|(apply Aa.b4s;rfl;rfl;rfl;rfl;omega)|(apply Aa.c4s;rfl;omega)|(apply Aa.int;rfl;rfl;rfl)|(apply Aa.ou;rfl;rfl;rfl;rfl;omega)|(apply Ad.Ac;rfl)|(intro _;try (exfalso;omega)))
 all_goals (refine Done.rt rfl rfl ⟨?_,rfl,rfl⟩;refine PV.int_eq ?_;omega)
theorem a5n (a b:Nat) (ha:a<18446744073709551616) (hb:b<18446744073709551616):Ak env 197 [.int .u64 (a:Int),.int .u64 (b:Int)] (.p (.int .u64 ((Nat.gcd a b:Nat):Int))):=by
 refine Ak.enter (Ae (by decide)) Tryz.func197 rfl (by kernel_rfl) (by simp) ?_
 repeat' (first|refine go1 ?_|fail)
 refine Ad.DK (fun s:Nat×Nat=>[(0,.p (.int .u64 (s.1:Int))),(1,.p (.int .u64 (s.2:Int)))]) (fun _=>[]) 0 (fun s=>s.1<18446744073709551616∧s.2<18446744073709551616∧Nat.gcd s.1 s.2=Nat.gcd a b) (fun s=>s.2) (a,b) (ab _) ⟨ha,hb,rfl⟩ ⟨ab _,?_,trivial⟩ ?_
 ·exact Dl
 rintro ⟨x,y⟩ ⟨hx,hy,hg⟩;have hmod:0<y→x % y<y:=fun h=>ba _ h
 repeat' (first|refine go2 ?_|apply Ad.MB|(apply Ad.Ac;rfl)|(intro _))
 ·rename_i h1
  have hy0:0<y:=by omega
  refine Ah.normal ⟨(y,x % y),⟨hy,by omega,?_⟩,hmod hy0,⟨ab _,?_,trivial⟩⟩
  ·rw [← hg,Nat.gcd_comm x y,Nat.gcd_rec y x,Nat.gcd_comm]
  ·exact Dl
 ·rename_i h1
  refine Done.rt rfl rfl ⟨?_,rfl,rfl⟩;simp_all
def fOk (x:KI):Prop:=0<x.den∧x.den≤1000000∧-1000000≤x.num∧x.num≤1000000∧Nat.gcd x.num.natAbs x.den.toNat=1
instance (x:KI):Decidable (fOk x):=by unfold fOk;infer_instance
def b2i (x:KI):Int:=if fOk x then 0 else 2
theorem oG (x:KI):Ak env 178 [.agg (Enc.enc x)] (.p (.int .i64 (b2i x))):=by
 refine Ak.enter (Ae (by decide)) Tryz.func178 rfl (by kernel_rfl) (by simp [Tryz.ntmps178]) ?_;have hd:0<x.den→((x.den.toNat:Nat):Int)=x.den:=fun h=>dx (Int.le_of_lt h)
 have hg:0<x.den→x.den≤1000000→-1000000≤x.num→x.num≤1000000→Ak env 197 [.int .u64 ((x.num.natAbs:Nat):Int),.int .u64 x.den] (.p (.int .u64 ((Nat.gcd x.num.natAbs x.den.toNat:Nat):Int))):=fun h1 h2 h3 h4=>by
  have:=a5n x.num.natAbs x.den.toNat (by omega) (by omega)
  rwa [hd h1] at this
 repeat' (first|(apply Aa.fn;rfl;rfl;exact Za _ (by omega);intro _;rfl)|(apply Aa.fn;rfl;rfl;exact hg (by omega) (by omega) (by omega) (by omega);intro _;rfl)|refine FT ?_|(apply Ag.guard;rfl;rfl)|(apply Aa.int;rfl;rfl;rfl)|(apply Aa.ou;rfl;rfl;rfl;rfl;omega)|(apply Ad.AX;rfl)|(apply Ad.Ac;rfl)|(intro _;try (exfalso;omega)))
 all_goals (refine Done.rt rfl rfl ⟨?_,rfl,rfl⟩;refine PV.int_eq ?_;unfold b2i;first|(rw [if_neg (show ¬ fOk x from fun h=>by unfold fOk at h;omega)];done)|(rw [if_pos (show fOk x from by unfold fOk;omega)];done))
def pOk (x:KI):Prop:=fOk x∧0<x.num∧x.num≤128*x.den∧x.den≤128
instance (x:KI):Decidable (pOk x):=by unfold pOk;infer_instance
def Rh (x:KI):Int:=if ¬ fOk x then 2 else if x.num≤0∨x.num>128*x.den then 3 else if x.den>128 then 4 else 0
theorem TI {x:KI}:Rh x=0↔pOk x:=by
 unfold Rh pOk;grind
theorem LK (x:KI):Ak env 154 [.agg (Enc.enc x)] (.p (.int .i64 (Rh x))):=by
 have hc:=oG x;refine Ak.enter (Ae (by decide)) Tryz.func154 rfl (by kernel_rfl) (by simp [Tryz.ntmps154]) ?_;by_cases h1:fOk x
 ·rw [show b2i x=0 from if_pos h1] at hc
  have h1':=h1;obtain ⟨h2,h3,h4,h5,-⟩:=h1';have e:Rh x=if x.num≤0∨x.num>128*x.den then 3 else if x.den>128 then 4 else 0:=by unfold Rh;rw [if_neg (Classical.not_not.2 h1)]
  rw [e]
  repeat' (first|(apply Aa.fn;rfl;rfl;exact hc;intro _;rfl)|refine FT ?_|(apply Ai.guard;rfl;rfl)|(apply Aa.int;rfl;rfl;rfl)|(apply Ad.cond_true;rfl)|(apply Ad.cond_false;rfl)|(apply Ad.Au;rfl)|(intro _;try (exfalso;omega)))
  all_goals first|(exfalso;omega)|(rw [if_pos (by omega)];(refine Done.rt rfl rfl ⟨?_,rfl,rfl⟩;try rfl);done)|(rw [if_neg (by omega),if_pos (by omega)];(refine Done.rt rfl rfl ⟨?_,rfl,rfl⟩;try rfl);done)|(rw [if_neg (by omega),if_neg (by omega)];(refine Done.rt rfl rfl ⟨?_,rfl,rfl⟩;try rfl);done)
 ·rw [show b2i x=2 from if_neg h1] at hc
  rw [show Rh x=2 from if_pos h1]
  repeat' (first|(apply Aa.fn;rfl;rfl;exact hc;intro _;rfl)|refine go1 ?_|(apply Aa.int;rfl;rfl;rfl)|(apply Ad.cond_true;rfl))
  all_goals (refine Done.rt rfl rfl ⟨?_,rfl,rfl⟩;try rfl)
def bothR (x y:KI):Int:=if Rh x≠0 then Rh x else Rh y
theorem wE (x y:KI):Ak env 176 [.agg (Enc.enc x),.agg (Enc.enc y)] (.p (.int .i64 (bothR x y))):=by
 have h1:=LK x;have h2:=LK y;unfold bothR;refine Ak.enter (Ae (by decide)) Tryz.func176 rfl (by kernel_rfl) (by simp) ?_
 repeat' (first|(apply Aa.fn;rfl;rfl;exact h1;intro _;rfl)|(apply Aa.fn;rfl;rfl;exact h2;intro _;rfl)|refine go1 ?_|(apply Aa.int;rfl;rfl;rfl)|(apply Ad.Ac;rfl)|(intro _))
 all_goals first|(rw [if_pos (by assumption)];(refine Done.rt rfl rfl ⟨?_,rfl,rfl⟩;try rfl);done)|(rw [if_neg (by omega)];(refine Done.rt rfl rfl ⟨?_,rfl,rfl⟩;try rfl);done)
def sh1 (den:Nat):Nat→Nat→Int→Nat×Int
 |0,num,n=>(num,n)
 |f+1,num,n=>if num<den then sh1 den f (num*2) (n-12) else (num,n)
def sh2 (num:Nat):Nat→Nat→Int→Nat×Int
 |0,den,n=>(den,n)
 |f+1,den,n=>if 2*den≤num then sh2 num f (den*2) (n+12) else (den,n)
def sh3 (p:Nat):Nat→Nat→Int→Int
 |0,l,n=>n
 |f+1,l,n=>if l<p then sh3 p f (l*4) (n+1) else n
def shN (num den:Nat):Int :=
 let a:=sh1 den 30 num 0
 let b:=sh2 a.1 30 den a.2
 sh3 (a.1 ^ 24) 30 (b.1 ^ 24*2) b.2
def shz (x y:KI):Int:=shN (y.num*x.den).toNat (y.den*x.num).toNat
theorem a3t (a b:Nat):Vf a b>0↔b<a:=by
 unfold Vf;omega
theorem zG {n k:Nat} (hk:0<k) (h:n<10 ^ k):Lib.nDigits n≤k:=by
 rcases bl n with h0|h0
 ·subst h0;rw [Lib.nDigits_small (by decide)];omega
 ·have h1:=Num.Gg n (by omega)
  have h2:10 ^ (Lib.nDigits n-1)<10 ^ k:=cn h1 h;have h3:=(em (a:=10) (by decide)).1 h2;omega
theorem wP {n k e:Nat} (hk:0<k) (h:n<10 ^ k) (he:e≤100):Lib.nDigits (n ^ e)≤k*100:=by
 rcases bl e with h0|h0
 ·subst h0;rw [eh,Lib.nDigits_small (by decide)];omega
 ·refine zG (by omega) ?_
  have h1:n ^ e<(10 ^ k) ^ e:=fm h (by omega);rw [← dq] at h1;exact ag h1 (ax (by decide) (bR _ he))
theorem a6i {a b j k:Nat} (ha:Lib.nDigits a≤j) (hb:Lib.nDigits b≤k):Lib.nDigits (a*b)≤j+k:=by
 have h1:=Lib.lt_pow_nDigits a;have h2:=Lib.lt_pow_nDigits b;have hp:=Lib.nDigits_pos a;refine zG (by omega) ?_;rw [cv];have h3:a<10 ^ j:=ag h1 (ax (by decide) ha);have h4:b<10 ^ k:=ag h2 (ax (by decide) hb);exact fu h3 (gS h4) (cW (by decide))
theorem vO (x y:KI) (hx:pOk x) (hy:pOk y):Ak env 177 [.agg (Enc.enc x),.agg (Enc.enc y)] (.p (.int .i64 (shz x y))):=by
 obtain ⟨⟨f1,-⟩,f2,f3,f4⟩:=hx;obtain ⟨⟨g1,-⟩,g2,g3,g4⟩:=hy;obtain ⟨xn,hxn⟩:∃ k:Nat,x.num=k:=⟨x.num.toNat,by omega⟩
 obtain ⟨xd,hxd⟩:∃ k:Nat,x.den=k:=⟨x.den.toNat,by omega⟩
 obtain ⟨yn,hyn⟩:∃ k:Nat,y.num=k:=⟨y.num.toNat,by omega⟩
 obtain ⟨yd,hyd⟩:∃ k:Nat,y.den=k:=⟨y.den.toNat,by omega⟩
 have b1:yn*xd≤16384*128:=cN (by omega) (by omega);have b2:yd*xn≤128*16384:=cN (by omega) (by omega);have p1:0<yn*xd:=dp (by omega) (by omega);have p2:0<yd*xn:=dp (by omega) (by omega);have c1:y.num*x.den=((yn*xd:Nat):Int):=by rw [hyn,hxd,dE]
 have c2:y.den*x.num=((yd*xn:Nat):Int):=by rw [hyd,hxn,dE]
 have e:shz x y=shN (yn*xd) (yd*xn):=by unfold shz;rw [c1,c2];rfl
 rw [e];generalize yn*xd=num at *;generalize yd*xn=den at *;have z1:-9223372036854775808≤y.num*x.den∧y.num*x.den<9223372036854775808:=by omega
 have z2:-9223372036854775808≤y.den*x.num∧y.den*x.num<9223372036854775808:=by omega
 refine Ak.enter (Ae (by decide)) Tryz.func177 rfl (by kernel_rfl) (by simp [Tryz.ntmps177]) ?_
 repeat' (first|refine FT ?_|fail)
 refine Ad.DK (fun s:Nat×Nat=>[(5,.p (.int .i64 (s.2:Int))),(6,.p (.int .i64 (den:Int))),(7,.p (.int .i64 (-(12*(s.1:Int)))))]) (fun _=>[]) 0 (fun s=>s.1≤22∧s.2=num*2 ^ s.1∧s.2≤4194304∧sh1 den (30-s.1) s.2 (-(12*(s.1:Int)))=sh1 den 30 num 0) (fun s=>30-s.1) (0,num) (by omega) ⟨by omega,by simp,by simp only;omega,by simp⟩ ⟨by omega,?_,?_⟩ ?_
 ·simp only [c1,c2];exact Dl
 ·exact BH.nil
 rintro ⟨i,m⟩ ⟨hi,hm,hm2,hs⟩;simp only at hi hm hm2 hs;have sG:∀ a b c:Nat,0<a→a*2 ^ b≤c→2 ^ b≤c:=fun a b c ha h=>am (Nat.le_mul_of_pos_left _ ha) h
 have h21:∀ b:Nat,2 ^ b≤2 ^ 21→b≤21:=fun b h=>(Nat.pow_le_pow_iff_right (by decide)).1 h
 have c4x:0<m:=by rw [hm];exact dp p1 (cW (by decide))
 repeat' (first|refine go2 ?_|(apply Ad.Ac;rfl)|(intro _;try (exfalso;omega)))
 ·rename_i a1
  simp only at a1;have hi2:i≤20:=by
   have h1:num*2 ^ i<den:=by rw [← hm];omega
   have h2:2 ^ i<2 ^ 21:=cn (sG _ _ _ p1 (ab _)) (by omega);have:=(em (a:=2) (by decide)).1 h2;omega
  have e7:-(12*((i+1:Nat):Int))=-(12*(i:Int))-12:=by omega
  refine Ah.normal ⟨(i+1,m*2),⟨by simp only;omega,by simp only;rw [hm,bN,cQ],by simp only;omega,?_⟩,by simp only;omega,⟨by omega,?_,?_⟩⟩
  ·simp only
   rw [← hs,show 30-i=(30-(i+1))+1 by omega,e7]
   conv=>rhs;rw [sh1]
   rw [if_pos (by omega)]
  ·simp only [e7];exact Dl
  ·exact BH.nil
 ·rename_i a1
  simp only at a1;have hs1:sh1 den 30 num 0=(m,-(12*(i:Int))):=by
   rw [← hs];cases 30-i with
   |zero=>rfl
   |succ f=>rw [sh1,if_neg (by omega)]
  refine Ad.DK (fun s:Nat×Nat=>[(5,.p (.int .i64 (m:Int))),(6,.p (.int .i64 (s.2:Int))),(7,.p (.int .i64 (-(12*(i:Int))+12*(s.1:Int))))]) (fun _=>[]) 0 (fun s=>s.1≤22∧s.2=den*2 ^ s.1∧s.2≤4194304∧sh2 m (30-s.1) s.2 (-(12*(i:Int))+12*(s.1:Int))=sh2 m 30 den (-(12*(i:Int)))) (fun s=>30-s.1) (0,den) (by omega) ⟨by omega,by simp,by simp only;omega,by simp⟩ ⟨by omega,?_,?_⟩ ?_
  ·have e7:-(12*(i:Int))+12*((0:Nat):Int)=-(12*(i:Int)):=by omega
   simp only [e7];exact Dl
  ·exact BH.nil
  rintro ⟨j,d⟩ ⟨hj,hd,hd2,ht⟩;simp only at hj hd hd2 ht;have c0r:0<d:=by rw [hd];exact dp p2 (cW (by decide))
  by_cases hdm:2*d≤m
  ·repeat' (first|refine go2 ?_|(apply Ad.Ac;rfl)|(intro _;try (exfalso;omega)))
   all_goals try (exfalso;omega)
   have hj2:j≤21:=by
    have h1:den*2 ^ j≤2 ^ 21:=by rw [← hd];omega
    exact h21 _ (sG _ _ _ p2 h1)
   have e7:-(12*(i:Int))+12*((j+1:Nat):Int)=-(12*(i:Int))+12*(j:Int)+12:=by omega
   refine Ah.normal ⟨(j+1,d*2),⟨by simp only;omega,by simp only;rw [hd,bN,cQ],by simp only;omega,?_⟩,by simp only;omega,⟨by omega,?_,?_⟩⟩
   ·simp only
    rw [← ht,show 30-j=(30-(j+1))+1 by omega,e7]
    conv=>rhs;rw [sh2]
    rw [if_pos hdm]
   ·simp only [e7];exact Dl
   ·exact BH.nil
  ·have hs2:sh2 m 30 den (-(12*(i:Int)))=(d,-(12*(i:Int))+12*(j:Int)):=by
    rw [← ht];cases 30-j with
    |zero=>rfl
    |succ f=>rw [sh2,if_neg hdm]
   have hR:shN num den=sh3 (m ^ 24) 30 (d ^ 24*2) (-(12*(i:Int))+12*(j:Int)):=by
    unfold shN;rw [hs1];simp only;rw [hs2]
   rw [hR];have om:=Yr (m:Int) (by omega);have od:=Yr (d:Int) (by omega);rw [a8c] at om od;have nm:Lib.nDigits m≤7:=zG (by decide) (by omega);have nd:Lib.nDigits d≤7:=zG (by decide) (by omega);have pm:=Zx m 24 (by decide) (by omega) (by omega);have pd:=Zx d 24 (by decide) (by omega) (by omega);have np:Lib.nDigits (m ^ 24)≤700:=wP (k:=7) (by decide) (by omega) (by decide);have nq:Lib.nDigits (d ^ 24)≤700:=wP (k:=7) (by decide) (by omega) (by decide);have n2:Lib.nDigits 2=1:=Lib.nDigits_small (by decide);have n4:Lib.nDigits 4=1:=Lib.nDigits_small (by decide);have q2:=qG (d ^ 24) 2 (by omega) (by omega);rw [show Lib.decDigits 2=[50] by decide +kernel] at q2;have hpq:m ^ 24<2 ^ 24*d ^ 24:=by
    rw [← Nat.mul_pow];exact fm (by omega) (by decide)
   have c5f:0<d ^ 24:=cW c0r;generalize m ^ 24=p at *;generalize d ^ 24=q at *
   repeat' (first|(apply Aa.fn;rfl;rfl;exact om;intro _;rfl)|(apply Aa.fn;rfl;rfl;exact od;intro _;rfl)|(apply Aa.fn;rfl;rfl;exact pm;intro _;rfl)|(apply Aa.fn;rfl;rfl;exact pd;intro _;rfl)|(apply Aa.fn;rfl;rfl;exact q2;intro _;rfl)|refine FT ?_|(apply Aa.int;rfl;rfl;rfl)|(apply Ad.Ac;rfl)|(intro _;try (exfalso;omega)))
   all_goals try (exfalso;omega)
   generalize hn0:-(12*(i:Int))+12*(j:Int)=n0 at *;have c7t:-1000≤n0∧n0≤1000:=by omega
   refine Ad.DK (fun k:Nat=>[(8,st (Lib.decDigits p)),(12,st (Lib.decDigits (q*2*4 ^ k))),(7,.p (.int .i64 (n0+(k:Int))))]) (fun _=>[]) 0 (fun k=>k≤20∧sh3 p (30-k) (q*2*4 ^ k) (n0+(k:Int))=sh3 p 30 (q*2) n0) (fun k=>30-k) 0 (by omega) ⟨by omega,by simp⟩ ⟨by omega,?_,?_⟩ ?_
   ·have e7:n0+((0:Nat):Int)=n0:=by omega
    rw [e7,eh,gw];exact Dl
   ·exact BH.nil
   rintro k ⟨hk,hs⟩;have nl:Lib.nDigits (q*2*4 ^ k)≤1000:=by
    have h1:=a6i (a:=q) (b:=2) (j:=700) (k:=1) (by omega) (by omega);have h2:Lib.nDigits (4 ^ k)≤100:=wP (n:=4) (k:=1) (by decide) (by decide) (by omega);have h3:=a6i h1 h2;omega
   have cc:=UW p (q*2*4 ^ k) (by omega) (by omega);have q4:=qG (q*2*4 ^ k) 4 (by omega) (by omega);rw [show Lib.decDigits 4=[52] by decide +kernel] at q4;have hcp:=a3t p (q*2*4 ^ k);by_cases hlt:q*2*4 ^ k<p
   ·have hc:=hcp.2 hlt
    have hk2:k≤12:=by
     have h1:q*(2*4 ^ k)<q*2 ^ 24:=by rw [← cQ,dc q (2 ^ 24)];omega
     have h2:=Nat.lt_of_mul_lt_mul_left h1;have h3:2*4 ^ k=2 ^ (1+2*k):=by rw [cv,dq,Nat.pow_one]
     rw [h3] at h2;have:=(em (a:=2) (by decide)).1 h2;omega
    have e7:n0+((k+1:Nat):Int)=n0+(k:Int)+1:=by omega
    repeat' (first|(apply Aa.fn;rfl;rfl;exact cc;intro _;rfl)|(apply Aa.fn;rfl;rfl;exact q4;intro _;rfl)|refine go1 ?_|(apply Aa.int;rfl;rfl;rfl)|(apply Ad.Ac;rfl)|(intro _;try (exfalso;omega)))
    all_goals try (exfalso;omega)
    refine Ah.normal ⟨k+1,⟨by omega,?_⟩,by omega,⟨by omega,?_,?_⟩⟩
    ·rw [← hs,show 30-k=(30-(k+1))+1 by omega,e7]
     conv=>rhs;rw [sh3]
     rw [if_pos hlt,bN,cQ (q*2)]
    ·rw [e7,bN,← cQ];exact Dl
    ·exact BH.nil
   ·have hc:¬ Vf p (q*2*4 ^ k)>0:=fun h=>hlt (hcp.1 h)
    have hR3:sh3 p 30 (q*2) n0=n0+(k:Int):=by
     rw [← hs];cases 30-k with
     |zero=>rfl
     |succ f=>rw [sh3,if_neg hlt]
    rw [hR3]
    repeat' (first|(apply Aa.fn;rfl;rfl;exact cc;intro _;rfl)|refine FT ?_|(apply Aa.int;rfl;rfl;rfl)|(apply Ad.Ac;rfl)|(intro _;try (exfalso;omega)))
    all_goals first|(exfalso;omega)|(refine Done.rt rfl rfl ⟨?_,rfl,rfl⟩;try rfl)
def AZ (x y:KI):Int×Int:=if bothR x y≠0 then (0,bothR x y) else (shz x y,0)
theorem a5q {x y:KI}:bothR x y=0↔pOk x∧pOk y:=by
 unfold bothR;rw [← TI,← TI];omega
theorem WR (x y:KI):Ak env 152 [.agg (Enc.enc x),.agg (Enc.enc y)] (.DX [.p (.int .i64 (AZ x y).1),.p (.int .i64 (AZ x y).2)]):=by
 have hb:=wE x y;by_cases h:bothR x y=0
 ·rw [h] at hb
  have ok:=a5q.1 h;have hs:=vO x y ok.1 ok.2;rw [show AZ x y=(shz x y,0) from if_neg (fun h'=>h' h)];refine Ak.enter (Ae (by decide)) Tryz.func152 rfl (by kernel_rfl) (by simp [Tryz.ntmps152]) ?_
  repeat' (first|(apply Aa.fn;rfl;rfl;exact hb;intro _;rfl)|(apply Aa.fn;rfl;rfl;exact hs;intro _;rfl)|refine go1 ?_|(apply Aa.int;rfl;rfl;rfl)|(apply Ad.Aj;rfl))
  all_goals first|(exfalso;omega)|(refine Done.rt rfl rfl ⟨?_,rfl,rfl⟩;try rfl)
 ·rw [show AZ x y=(0,bothR x y) from if_pos h]
  refine Ak.enter (Ae (by decide)) Tryz.func152 rfl (by kernel_rfl) (by simp [Tryz.ntmps152]) ?_
  repeat' (first|(apply Aa.fn;rfl;rfl;exact hb;intro _;rfl)|refine go1 ?_|(apply Aa.int;rfl;rfl;rfl)|(apply Ad.Ac;rfl)|(intro _;try (exfalso;omega)))
  all_goals first|(exfalso;omega)|(refine Done.rt rfl rfl ⟨?_,rfl,rfl⟩;try rfl)
structure Ho where
 name:List UInt8
 JJ:List UInt8
 D5:KI
 first:Int
 EU:List Int
instance:Enc Ho:={ default:=⟨[],[],⟨0,0⟩,0,[]⟩,enc:=fun r=>[.str (bs r.name),.str (bs r.JJ),.int .i64 r.D5.num,.int .i64 r.D5.den,.int .i64 r.first,.lst 3 (cells r.EU) r.EU.length],size:=6,len:=fun _=>rfl }
theorem PV.FB {a b:Bool} (h:a=b):PV.p (.bool a)=PV.p (.bool b) :=by grind
def kK (x:Int):Prop:=x<0∨x>1000000
instance (x:Int):Decidable (kK x):=by unfold kK;infer_instance
theorem b2g (x:Int):Ak env 180 [.int .i64 x] (.p (.bool (decide (kK x)))):=by
 refine Ak.enter (Ae (by decide)) Tryz.func180 rfl (by kernel_rfl) (by simp) ?_
 repeat' (first|refine JA ?_|(apply Ai.guard;rfl;rfl)|(intro _))
 all_goals (refine Done.rt rfl rfl ⟨?_,rfl,rfl⟩;refine PV.FB ?_;first|(refine decide_eq_decide.2 ⟨fun h=>by unfold kK;omega,fun h=>by unfold kK at h;omega⟩)|(symm;apply decide_eq_true;unfold kK;omega))
def okW (l:List Int):Prop:=∀ i,i<l.length→¬ kK (gi l i)
noncomputable instance (l:List Int):Decidable (okW l):=Classical.propDecidable _
noncomputable def Ba (l:List Int):Int:=if okW l then 0 else 3
theorem b4p {L:Vm.Frame} {H:Vm.Heap} {nx:Nat} {Q:PV→Vm.Heap→Nat→Prop} {dst:Option Tmp} {ty:TypeId} {pos:String} {af:Array Edge} {gd:Option (Nat×Bool)} {fo:Operand} {args:Array Operand} {aT:Array TypeId} {fs cs xs:List PV} {c:Code}
 (hf:AU env.Γ L fo=some (.clo 179 fs cs)) (ha:evs env.Γ L args.toList=some xs) (hb:Tryz.f179.body=some c) (hn:(fs++xs++cs).length≤Tryz.f179.ntmps)
 (h:Ad env nx c (Ce 0 (fs++xs++cs)) H nx (AB env.P Tryz.f179.results.toList Q)):Aa env true ⟨dst,.call { callee:=.value fo,args:=args,argTypes:=aT },ty,pos,af,gd⟩ L H nx Q:=by
 have h0:(match Tryz.f179.body with|some c=>II env.G Tryz.f179 c|none=>false)=true:=by kernel_rfl
 rw [hb] at h0;exact Aa.inline rfl hf ha (Ae (by decide)) Tryz.func179 hb h0 hn h
theorem b5h {L:Vm.Frame} {H:Vm.Heap} {nx:Nat} {Q:PV→Vm.Heap→Nat→Prop} {dst:Option Tmp} {ty:TypeId} {pos:String} {af:Array Edge} {gd:Option (Nat×Bool)} {fo:Operand} {args:Array Operand} {aT:Array TypeId} {fs cs xs:List PV} {c:Code}
 (hf:AU env.Γ L fo=some (.clo 160 fs cs)) (ha:evs env.Γ L args.toList=some xs) (hb:Tryz.f160.body=some c) (hn:(fs++xs++cs).length≤Tryz.f160.ntmps)
 (h:Ad env nx c (Ce 0 (fs++xs++cs)) H nx (AB env.P Tryz.f160.results.toList Q)):Aa env true ⟨dst,.call { callee:=.value fo,args:=args,argTypes:=aT },ty,pos,af,gd⟩ L H nx Q:=by
 have h0:(match Tryz.f160.body with|some c=>II env.G Tryz.f160 c|none=>false)=true:=by kernel_rfl
 rw [hb] at h0;exact Aa.inline rfl hf ha (Ae (by decide)) Tryz.func160 hb h0 hn h
theorem uH (l:List Int) (hl:l.length<9223372036854775808):Ak env 156 [.lst 3 (cells l) l.length] (.p (.int .i64 (Ba l))):=by
 refine Ak.enter (Ae (by decide)) Tryz.func156 rfl (by kernel_rfl) (by simp) ?_
 repeat' (first|(apply b4p;rfl;rfl;rfl;exact le_dec rfl)|(apply b5h;rfl;rfl;rfl;exact le_dec rfl)|refine go1 ?_|fail)
 refine Ad.DK (fun k:Nat=>[(0,lst 3 l),(1,.clo 180 [] []),(7,.p (.int .i64 (l.length:Int))),(8,.p (.int .i64 (k:Int)))]) (fun _=>[]) 0 (fun k=>k≤l.length∧∀ i,i<k→¬ kK (gi l i)) (fun k=>l.length-k) 0 (by omega) ⟨by omega,fun i hi=>by omega⟩ ⟨by omega,?_,?_⟩ ?_
 ·exact Dl
 ·exact BH.nil
 rintro k ⟨hk,hok⟩;have hw:=b2g (gi l k)
 repeat' (first|(apply Aa.fn;rfl;rfl;exact hw;intro _;rfl)|(apply Aa.Ap;rfl;rfl;rfl;omega;rfl)|refine FT ?_|(apply AB.ret;rfl)|(apply Aa.int;rfl;rfl;rfl)|(apply Ad.AX;rfl)|(apply Ad.Aj;rfl)|(apply Ad.Ac;rfl)|(apply Ad.Au;rfl)|(intro _))
 ·rename_i a1 a2
  rw [show Ba l=3 from if_neg (fun h=>h k (by omega) a2)]
  (refine Done.rt rfl rfl ⟨?_,rfl,rfl⟩;try rfl)
 ·rename_i a1 a2
  refine Ah.normal ⟨k+1,⟨by omega,fun i hi=>?_⟩,by omega,⟨by omega,?_,?_⟩⟩
  ·grind
  ·exact Dl
  ·exact BH.nil
 ·rename_i a1
  rw [show Ba l=0 from if_pos (fun i hi=>hok i (by omega))]
  (refine Done.rt rfl rfl ⟨?_,rfl,rfl⟩;try rfl)
def oV (c:Nat):Prop:=(65≤c∧c≤90)∨(97≤c∧c≤122)
instance (c:Nat):Decidable (oV c):=by unfold oV;infer_instance
def nmC (c:Nat):Prop:=oV c∨(48≤c∧c≤57)∨c=95
theorem Xj (c:Nat) (hc:c<256):Ak env 153 [.int .u8 (c:Int)] (.p (.bool (decide (oV c)))):=by
 refine Ak.enter (Ae (by decide)) Tryz.func153 rfl (by kernel_rfl) (by simp) ?_
 repeat' (first|refine JA ?_|(apply Ai.guard;rfl;rfl)|(intro _))
 all_goals (refine Done.rt rfl rfl ⟨?_,rfl,rfl⟩;refine PV.FB ?_;first|(refine decide_eq_decide.2 ⟨fun h=>by unfold oV;omega,fun h=>by unfold oV at h;omega⟩)|(symm;apply decide_eq_true;unfold oV;omega)|(symm;apply decide_eq_false;unfold oV;omega))
def Dy (s:List UInt8):Prop:=0<s.length∧s.length≤32∧oV (gi s 0).toNat∧∀ i,1≤i→i<s.length→nmC (gi s i).toNat
noncomputable instance (s:List UInt8):Decidable (Dy s):=Classical.propDecidable _
theorem Iu (s:List UInt8) (hs:s.length<9223372036854775808):Ak env 117 [.str (bs s)] (.p (.bool (decide (Dy s)))):=by
 have hl0:=Xj (gi s 0).toNat (gi s 0).toNat_lt;by_cases hz:s=[]
 ·subst hz
  rw [decide_eq_false (show ¬ Dy [] from fun h=>absurd h.1 (by decide))];refine Ak.enter (Ae (by decide)) Tryz.func117 rfl (by kernel_rfl) (by simp) ?_
  repeat' (first|refine FT ?_|(apply Aa.eqS;rfl;rfl)|(apply Ad.AX;rfl))
  all_goals first|(refine Done.rt rfl rfl ⟨?_,rfl,rfl⟩;try rfl)|contradiction
 ·have hpos:0<s.length:=gM.2 hz
  refine Ak.enter (Ae (by decide)) Tryz.func117 rfl (by kernel_rfl) (by simp) ?_;by_cases h32:s.length≤32
  ·by_cases hL:oV (gi s 0).toNat
   ·rw [decide_eq_true hL] at hl0
    repeat' (first|(apply Aa.fn;rfl;rfl;exact hl0;intro _;rfl)|(apply Aa.Uk (i:=0);rfl;rfl;rfl;omega)|(apply Aa.LX;rfl;rfl)|refine FT ?_|(apply Ai.guard;rfl;rfl)|(apply Aa.int;rfl;rfl;rfl)|(apply Aa.eqS;rfl;rfl)|(apply Ad.AX;rfl)|(apply Ad.Aj;rfl)|(intro _;try (exfalso;omega)))
    all_goals try (exfalso;omega)
    all_goals try contradiction
    refine Ad.DK (fun k:Nat=>[(0,st s),(3,.p (.int .i64 (k:Int)))]) (fun _=>[]) 0 (fun k=>1≤k∧k≤s.length∧∀ i,1≤i→i<k→nmC (gi s i).toNat) (fun k=>s.length-k) 1 (by omega) ⟨by omega,by omega,fun i h1 h2=>by omega⟩ ⟨by omega,?_,?_⟩ ?_
    ·exact Dl
    ·exact BH.nil
    rintro k ⟨hk1,hk2,hok⟩;have hlk:=Xj (gi s k).toNat (gi s k).toNat_lt;have hc256:=(gi s k).toNat_lt;have hnext:nmC (gi s k).toNat→∀ i,1≤i→i<k+1→nmC (gi s i).toNat:=fun h i h1 h2=>by
     rcases aq i k with h3|h3
     ·exact hok i h1 h3
     ·obtain rfl:i=k:=by omega
      exact h
    have hbad:k<s.length→¬ nmC (gi s k).toNat→decide (Dy s)=false:=fun h1 h2=>decide_eq_false fun h=>h2 (h.2.2.2 k hk1 h1)
    by_cases hkl:k<s.length
    ·by_cases hLk:oV (gi s k).toNat
     ·rw [decide_eq_true hLk] at hlk
      repeat' (first|(apply Aa.fn;rfl;rfl;exact hlk;intro _;rfl)|(apply Aa.LX;rfl;rfl)|(apply Aa.Uk;rfl;rfl;rfl;omega)|refine FT ?_|(apply Aa.int;rfl;rfl;rfl)|(apply Ad.Ac;rfl)|(apply Ad.cond_false;rfl)|(intro _;try (exfalso;omega)))
      all_goals try (exfalso;omega)
      refine Ah.normal ⟨k+1,⟨by omega,by omega,hnext (.inl hLk)⟩,by omega,⟨by omega,?_,?_⟩⟩
      ·exact Dl
      ·exact BH.nil
     ·rw [decide_eq_false hLk] at hlk
      have hn1:nmC (gi s k).toNat↔(48≤(gi s k).toNat∧(gi s k).toNat≤57)∨(gi s k).toNat=95:=⟨fun h=>h.resolve_left hLk,fun h=>.inr h⟩
      repeat' (first|(apply Aa.fn;rfl;rfl;exact hlk;intro _;rfl)|(apply Aa.LX;rfl;rfl)|(apply Aa.Uk;rfl;rfl;rfl;omega)|refine FT ?_|(apply Ai.guard;rfl;rfl)|(apply Aa.int;rfl;rfl;rfl)|(apply Ad.Ac;rfl)|(apply Ad.cond_false;rfl)|(apply Ad.Au;rfl)|(intro _;try (exfalso;omega)))
      all_goals try (exfalso;omega)
      all_goals first
       |(rw [hbad hkl (fun h=>by have:=hn1.1 h;omega)];(refine Done.rt rfl rfl ⟨?_,rfl,rfl⟩;try rfl);done)
       |(refine Ah.normal ⟨k+1,⟨by omega,by omega,hnext (hn1.2 (by omega))⟩,by omega,⟨by omega,?_,BH.nil⟩⟩;exact Dl)
    ·obtain rfl:k=s.length:=by omega
     rw [decide_eq_true (show Dy s from ⟨hpos,h32,hL,fun i h1 h2=>hok i h1 h2⟩)]
     repeat' (first|(apply Aa.LX;rfl;rfl)|refine go2 ?_|(apply Ad.Ac;rfl)|(intro _;try (exfalso;omega)))
     all_goals first|(exfalso;omega)|(refine Done.rt rfl rfl ⟨?_,rfl,rfl⟩;try rfl)
   ·rw [decide_eq_false (show ¬ Dy s from fun h=>hL h.2.2.1)]
    rw [decide_eq_false hL] at hl0
    repeat' (first|(apply Aa.fn;rfl;rfl;exact hl0;intro _;rfl)|(apply Aa.Uk (i:=0);rfl;rfl;rfl;omega)|(apply Aa.LX;rfl;rfl)|refine FT ?_|(apply Ai.guard;rfl;rfl)|(apply Aa.int;rfl;rfl;rfl)|(apply Aa.eqS;rfl;rfl)|(apply Ad.AX;rfl)|(intro _;try (exfalso;omega)))
    all_goals first|(exfalso;omega)|contradiction|(refine Done.rt rfl rfl ⟨?_,rfl,rfl⟩;try rfl)
  ·rw [decide_eq_false (show ¬ Dy s from fun h=>h32 h.2.1)]
   repeat' (first|(apply Aa.LX;rfl;rfl)|refine JA ?_|(apply Ai.guard;rfl;rfl)|(apply Aa.eqS;rfl;rfl)|(apply Ad.AX;rfl)|(intro _;try (exfalso;omega)))
   all_goals first|(exfalso;omega)|contradiction|(refine Done.rt rfl rfl ⟨?_,rfl,rfl⟩;try rfl)
noncomputable def Ci (r:Ho):Int:=if ¬ Dy r.name∨¬ Dy r.JJ then 8 else if Rh r.D5≠0 then Rh r.D5 else if r.first< -256∨r.first>256 then 3 else if r.EU.length=0 then 13 else if r.EU.length>128 then 4 else Ba r.EU
def Qg (n:Int):Prop:=-256≤n∧n≤256
instance (n:Int):Decidable (Qg n):=by unfold Qg;infer_instance
theorem sN (n:Int):Ak env 155 [.int .i64 n] (.p (.bool (decide (Qg n)))):=by
 refine Ak.enter (Ae (by decide)) Tryz.func155 rfl (by kernel_rfl) (by simp) ?_
 repeat' (first|refine JA ?_|(apply Ai.guard;rfl;rfl)|(intro _))
 all_goals (refine Done.rt rfl rfl ⟨?_,rfl,rfl⟩;refine PV.FB ?_;first|(refine decide_eq_decide.2 ⟨fun h=>by unfold Qg;omega,fun h=>by unfold Qg at h;omega⟩)|(symm;apply decide_eq_false;unfold Qg;omega))
theorem Ws (r:Ho) (h1:r.name.length<9223372036854775808) (h2:r.JJ.length<9223372036854775808) (h3:r.EU.length<9223372036854775808):Ak env 118 [.agg (Enc.enc r)] (.p (.int .i64 (Ci r))):=by
 have n1:=Iu r.name h1;have n2:=Iu r.JJ h2;have p1:=LK r.D5;have f1:=sN r.first;have w1:=uH r.EU h3;unfold Ci;refine Ak.enter (Ae (by decide)) Tryz.func118 rfl (by kernel_rfl) (by simp [Tryz.ntmps118]) ?_;by_cases a1:Dy r.name
 ·rw [decide_eq_true a1] at n1
  by_cases a2:Dy r.JJ
  ·rw [decide_eq_true a2] at n2
   rw [if_neg (fun h=>h.elim (fun h=>h a1) (fun h=>h a2))];by_cases a3:Qg r.first
   ·rw [decide_eq_true a3] at f1
    unfold Qg at a3
    repeat' (first|(apply Aa.fn;rfl;rfl;exact n1;intro _;rfl)|(apply Aa.fn;rfl;rfl;exact n2;intro _;rfl)|(apply Aa.fn;rfl;rfl;exact p1;intro _;rfl)|(apply Aa.fn;rfl;rfl;exact f1;intro _;rfl)|(apply Aa.fn;rfl;rfl;exact w1;intro _;rfl)|refine FT ?_|(apply Aa.int;rfl;rfl;rfl)|(apply Ad.Aj;rfl)|(apply Ad.Ac;rfl)|(apply Ad.cond_false;rfl)|(apply Ad.Au;rfl)|(intro _;try (exfalso;omega)))
    all_goals first
     |(rw [if_pos (by assumption)];(refine Done.rt rfl rfl ⟨?_,rfl,rfl⟩;try rfl);done)
     |(rw [if_neg (by assumption),if_neg (by omega),if_pos (by omega)];(refine Done.rt rfl rfl ⟨?_,rfl,rfl⟩;try rfl);done)
     |(rw [if_neg (by assumption),if_neg (by omega),if_neg (by omega),if_pos (by omega)];(refine Done.rt rfl rfl ⟨?_,rfl,rfl⟩;try rfl);done)
     |(rw [if_neg (by assumption),if_neg (by omega),if_neg (by omega),if_neg (by omega)];(refine Done.rt rfl rfl ⟨?_,rfl,rfl⟩;try rfl);done)
   ·rw [decide_eq_false a3] at f1
    unfold Qg at a3
    repeat' (first|(apply Aa.fn;rfl;rfl;exact n1;intro _;rfl)|(apply Aa.fn;rfl;rfl;exact n2;intro _;rfl)|(apply Aa.fn;rfl;rfl;exact p1;intro _;rfl)|(apply Aa.fn;rfl;rfl;exact f1;intro _;rfl)|refine FT ?_|(apply Aa.int;rfl;rfl;rfl)|(apply Ad.Aj;rfl)|(apply Ad.Ac;rfl)|(apply Ad.cond_true;rfl)|(intro _;try (exfalso;omega)))
    all_goals first
     |(rw [if_pos (by assumption)];(refine Done.rt rfl rfl ⟨?_,rfl,rfl⟩;try rfl);done)
     |(rw [if_neg (by assumption),if_pos (by omega)];(refine Done.rt rfl rfl ⟨?_,rfl,rfl⟩;try rfl);done)
  ·rw [decide_eq_false a2] at n2
   rw [if_pos (.inr a2)]
   repeat' (first|(apply Aa.fn;rfl;rfl;exact n1;intro _;rfl)|(apply Aa.fn;rfl;rfl;exact n2;intro _;rfl)|refine FT ?_|(apply Ad.AX;rfl))
   all_goals (refine Done.rt rfl rfl ⟨?_,rfl,rfl⟩;try rfl)
 ·rw [decide_eq_false a1] at n1
  rw [if_pos (.inl a1)]
  repeat' (first|(apply Aa.fn;rfl;rfl;exact n1;intro _;rfl)|refine FT ?_|(apply Ad.AX;rfl))
  all_goals (refine Done.rt rfl rfl ⟨?_,rfl,rfl⟩;try rfl)
end Go.Proofs.YtnjkoebfgcbbdaaGreatDoor
namespace Go.Proofs.YtnjkoebfgcbbdaaGreatDoor
open Go Go.Am Go.Vm
structure rV where
 rank:Int
 shift:Int
instance:Enc rV:={ default:=⟨0,0⟩,enc:=fun x=>[.int .i64 x.rank,.int .i64 x.shift],size:=2,len:=fun _=>rfl }
structure Seg where
 lo:Int
 hi:Int
 draws:List rV
instance:Enc Seg:={ default:=⟨0,0,[]⟩,enc:=fun x=>[.int .i64 x.lo,.int .i64 x.hi,.lst 270 (cells x.draws) x.draws.length],size:=3,len:=fun _=>rfl }
structure Stp where
 name:List UInt8
 D5:KI
 IX:List Seg
instance:Enc Stp:={ default:=⟨[],⟨0,0⟩,[]⟩,enc:=fun x=>[.str (bs x.name),.int .i64 x.D5.num,.int .i64 x.D5.den,.lst 273 (cells x.IX) x.IX.length],size:=4,len:=fun _=>rfl }
structure lT where
 name:List UInt8
 WJ:Bool
 lo:Int
 hi:Int
 stops:List Stp
instance:Enc lT:={ default:=⟨[],false,0,0,[]⟩,enc:=fun x=>[.str (bs x.name),.bool x.WJ,.int .i64 x.lo,.int .i64 x.hi,.lst 229 (cells x.stops) x.stops.length],size:=5,len:=fun _=>rfl }
structure lQ where
 name:List UInt8
 VY:Int
 tgt:Int
 shift:Int
 through:Bool
instance:Enc lQ:={ default:=⟨[],0,0,0,false⟩,enc:=fun x=>[.str (bs x.name),.int .i64 x.VY,.int .i64 x.tgt,.int .i64 x.shift,.bool x.through],size:=5,len:=fun _=>rfl }
structure He where
 name:List UInt8
 ranks:List Ho
 Af:List lT
 IK:List lQ
instance:Enc He:={ default:=⟨[],[],[],[]⟩,enc:=fun x=>[.str (bs x.name),.lst 113 (cells x.ranks) x.ranks.length,.lst 118 (cells x.Af) x.Af.length,.lst 236 (cells x.IK) x.IK.length],size:=4,len:=fun _=>rfl }
structure lM where
 lo:Int
 hi:Int
instance:Enc lM:={ default:=⟨0,0⟩,enc:=fun x=>[.int .i64 x.lo,.int .i64 x.hi],size:=2,len:=fun _=>rfl }
noncomputable instance (a b:rV):Decidable (a=b):=Classical.propDecidable _
noncomputable instance (a:rV) (l:List rV):Decidable (a∈l):=Classical.propDecidable _
noncomputable instance (a:List UInt8) (l:List (List UInt8)):Decidable (a∈l):=Classical.propDecidable _
def XM (lo hi:Int):Int:=if lo<0∨hi>127 then 3 else if lo>hi then 23 else 0
noncomputable def RG (n:Nat) (l:List rV) (k:Nat):Int :=
 if k<l.length then
  if (gi l k).rank<0∨(gi l k).rank≥n then 10 else if (gi l k).shift< -127∨(gi l k).shift>127 then 3 else if gi l k∈l.take k then 9 else RG n l (k+1)
 else 0
termination_by l.length-k
noncomputable def Y4 (n:Nat) (l:List rV):Int:=if l.length>8 then 4 else RG n l 0
noncomputable def MW (n:Nat) (lo hi:Int) (l:List Seg) (k:Nat):Int :=
 if k<l.length then
  if min (gi l k).lo (gi l k).hi<lo∨max (gi l k).lo (gi l k).hi>hi then 23 else if (gi l k).lo>(gi l k).hi∨0<k∧(gi l k).lo≤(gi l (k-1)).hi then 6
  else if Y4 n (gi l k).draws≠0 then Y4 n (gi l k).draws else MW n lo hi l (k+1)
 else 0
termination_by l.length-k
noncomputable def b6q (n:Nat) (lo hi:Int) (s:Stp):Int :=
 if ¬ Dy s.name then 8 else if Rh s.D5≠0 then Rh s.D5 else if s.IX.length=0 then 13 else if s.IX.length>12 then 4 else MW n lo hi s.IX 0
noncomputable def cu (l:List Ho) (k:Nat):Int :=
 if k<l.length then if Ci (gi l k)≠0 then Ci (gi l k) else cu l (k+1) else 0
termination_by l.length-k
noncomputable def ql (l:List Ho) (lo hi:Int):Int:=if l.length>60 then 4 else if cu l 0≠0 then cu l 0 else XM lo hi
noncomputable def DV (rk:List Ho) (lo hi:Int) (s:Stp):Int:=if ql rk lo hi≠0 then ql rk lo hi else b6q rk.length lo hi s
noncomputable def P6 (l:List Ho) (k:Nat):Int :=
 if k<l.length then if Ci (gi l k)≠0 then Ci (gi l k) else if (gi l k).name∈(l.take k).map Ho.name then 9 else P6 l (k+1) else 0
termination_by l.length-k
noncomputable def Rz (rk:List Ho) (lo hi:Int) (l:List Stp) (k:Nat):Int :=
 if k<l.length then if DV rk lo hi (gi l k)≠0 then DV rk lo hi (gi l k) else if (gi l k).name∈(l.take k).map Stp.name then 9 else Rz rk lo hi l (k+1) else 0
termination_by l.length-k
noncomputable def DN (rk:List Ho) (d:lT):Int:=if XM d.lo d.hi≠0 then XM d.lo d.hi else if d.stops.length>60 then 4 else Rz rk d.lo d.hi d.stops 0
noncomputable def GI (rk:List Ho) (l:List lT) (k:Nat):Int :=
 if k<l.length then if ¬ Dy (gi l k).name then 8 else if (gi l k).name∈(l.take k).map lT.name then 9 else if DN rk (gi l k)≠0 then DN rk (gi l k) else GI rk l (k+1) else 0
termination_by l.length-k
noncomputable def Ry (n:Nat) (l:List lQ) (k:Nat):Int :=
 if k<l.length then
  if ¬ Dy (gi l k).name then 8 else if (gi l k).name∈(l.take k).map lQ.name then 9
  else if (gi l k).VY<0∨(gi l k).VY≥n∨(gi l k).tgt<0∨(gi l k).tgt≥n then 10
  else if (gi l k).shift< -127∨(gi l k).shift>127 then 3 else if (gi l k).VY=(gi l k).tgt∧(gi l k).shift=0 then 7 else Ry n l (k+1)
 else 0
termination_by l.length-k
noncomputable def Tn (l:List lM) (k:Nat):Int:=if k<l.length then if XM (gi l k).lo (gi l k).hi≠0 then 23 else Tn l (k+1) else 0
termination_by l.length-k
noncomputable def Eo (ks:List lM) (l:List lQ):Int:=if ks.length>8∨l.length>40 then 4 else if Tn ks 0≠0 then Tn ks 0 else Ry ks.length l 0
noncomputable def Vs (o:He):Int :=
 if ¬ Dy o.name then 8 else if o.ranks.length>60 then 4 else if P6 o.ranks 0≠0 then P6 o.ranks 0 else if o.Af.length=0 then 13 else if o.Af.length>8 then 4
 else if GI o.ranks o.Af 0≠0 then GI o.ranks o.Af 0 else Eo (o.Af.map fun d=>⟨d.lo,d.hi⟩) o.IK
structure b8k (x:Seg):Prop where
 draws:x.draws.length<1000000
structure oD (x:Stp):Prop where
 name:x.name.length<1000000
 IX:x.IX.length<1000000
 all:∀ i,i<x.IX.length→b8k (gi x.IX i)
structure b2x (x:lT):Prop where
 name:x.name.length<1000000
 stops:x.stops.length<1000000
 all:∀ i,i<x.stops.length→oD (gi x.stops i)
structure dU (r:Ho):Prop where
 name:r.name.length<1000000
 JJ:r.JJ.length<1000000
 EU:r.EU.length<1000000
structure UF (o:He):Prop where
 name:o.name.length<1000000
 ranks:o.ranks.length<1000000
 Af:o.Af.length<1000000
 IK:o.IK.length<1000000
 rk:∀ i,i<o.ranks.length→dU (gi o.ranks i)
 dv:∀ i,i<o.Af.length→b2x (gi o.Af i)
 cp:∀ i,i<o.IK.length→(gi o.IK i).name.length<1000000
theorem dU.len {r:Ho} (h:dU r):r.name.length<9223372036854775808∧r.JJ.length<9223372036854775808∧r.EU.length<9223372036854775808:=⟨by have:=h.name;omega,by have:=h.JJ;omega,by have:=h.EU;omega⟩
theorem dK {l:List Ho} (h:∀ i,i<l.length→Ci (gi l i)=0):∀ n k,l.length-k=n→cu l k=0
 |0,k,hk=>by rw [cu,if_neg (by omega)]
 |n+1,k,hk=>by
  rw [cu,if_pos (by omega),if_neg (fun h'=>h' (h k (by omega)))];exact dK h n (k+1) (by omega)
theorem VI {l:List Ho} (h:∀ i,i<l.length→Ci (gi l i)=0∧(gi l i).name∉(l.take i).map Ho.name):∀ n k,l.length-k=n→P6 l k=0
 |0,k,hk=>by rw [P6,if_neg (by omega)]
 |n+1,k,hk=>by
  obtain ⟨h1,h2⟩:=h k (by omega);rw [P6,if_pos (by omega),if_neg (fun h'=>h' h1),if_neg h2];exact VI h n (k+1) (by omega)
theorem Tv {rk:List Ho} {lo hi:Int} {l:List Stp} (h:∀ i,i<l.length→DV rk lo hi (gi l i)=0∧(gi l i).name∉(l.take i).map Stp.name):∀ n k,l.length-k=n→Rz rk lo hi l k=0
 |0,k,hk=>by rw [Rz,if_neg (by omega)]
 |n+1,k,hk=>by
  obtain ⟨h1,h2⟩:=h k (by omega);rw [Rz,if_pos (by omega),if_neg (fun h'=>h' h1),if_neg h2];exact Tv h n (k+1) (by omega)
theorem Tf {rk:List Ho} {l:List lT} (h:∀ i,i<l.length→Dy (gi l i).name∧(gi l i).name∉(l.take i).map lT.name∧DN rk (gi l i)=0):∀ n k,l.length-k=n→GI rk l k=0
 |0,k,hk=>by rw [GI,if_neg (by omega)]
 |n+1,k,hk=>by
  obtain ⟨h1,h2,h3⟩:=h k (by omega);rw [GI,if_pos (by omega),if_neg (fun h'=>h' h1),if_neg h2,if_neg (fun h'=>h' h3)];exact Tf h n (k+1) (by omega)
theorem VD {l:List lM} (h:∀ i,i<l.length→XM (gi l i).lo (gi l i).hi=0):∀ n k,l.length-k=n→Tn l k=0
 |0,k,hk=>by rw [Tn,if_neg (by omega)]
 |n+1,k,hk=>by
  rw [Tn,if_pos (by omega),if_neg (fun h'=>h' (h k (by omega)))];exact VD h n (k+1) (by omega)
structure a3p (n:Nat) (c:lQ):Prop where
 name:Dy c.name
 VY:0≤c.VY∧c.VY<n
 tgt:0≤c.tgt∧c.tgt<n
 shift:-127≤c.shift∧c.shift≤127
 form:¬ (c.VY=c.tgt∧c.shift=0)
theorem S9 {m:Nat} {l:List lQ} (h:∀ i,i<l.length→a3p m (gi l i)∧(gi l i).name∉(l.take i).map lQ.name):∀ n k,l.length-k=n→Ry m l k=0
 |0,k,hk=>by rw [Ry,if_neg (by omega)]
 |n+1,k,hk=>by
  obtain ⟨⟨h1,h2,h3,h4,h5⟩,h6⟩:=h k (by omega);rw [Ry,if_pos (by omega),if_neg (fun h'=>h' h1),if_neg h6,if_neg (by omega),if_neg (by omega),if_neg h5];exact S9 h n (k+1) (by omega)
structure Xf (n:Nat) (d:rV):Prop where
 rank:0≤d.rank∧d.rank<n
 shift:-127≤d.shift∧d.shift≤127
theorem Tj {m:Nat} {l:List rV} (h:∀ i,i<l.length→Xf m (gi l i)∧gi l i∉l.take i):∀ n k,l.length-k=n→RG m l k=0
 |0,k,hk=>by rw [RG,if_neg (by omega)]
 |n+1,k,hk=>by
  obtain ⟨⟨h1,h2⟩,h3⟩:=h k (by omega);rw [RG,if_pos (by omega),if_neg (by omega),if_neg (by omega),if_neg h3];exact Tj h n (k+1) (by omega)
theorem JI {m:Nat} {d:rV} (h:Xf m d):Y4 m [d]=0:=by
 exact Tj (fun i hi=>by
  obtain rfl:i=0:=by grind
  exact ⟨h,by simp⟩) _ 0 rfl
theorem a7c {m:Nat} {d e:rV} (h:Xf m d) (h':Xf m e) (hn:e≠d):Y4 m [d,e]=0:=by
 refine Tj (fun i hi=>?_) _ 0 rfl;have:i=0∨i=1:=by grind
 rcases this with rfl|rfl
 ·exact ⟨h,by simp⟩
 ·exact ⟨h',by simpa [gi] using hn⟩
theorem Vx {lo hi:Int} (h:0≤lo∧lo≤hi∧hi≤127):XM lo hi=0:=by
 unfold XM;omega
theorem a1s {l:List Ho} {lo hi:Int} (h:∀ i,i<l.length→Ci (gi l i)=0) (hl:l.length≤60) (hc:0≤lo∧lo≤hi∧hi≤127):ql l lo hi=0:=by
 unfold ql;rw [if_neg (by omega),if_neg (fun h'=>h' (dK h _ 0 rfl)),Vx hc]
structure b7o (n:Nat) (lo hi:Int) (g:Seg):Prop where
 pl:lo≤g.lo∧g.lo≤g.hi∧g.hi≤hi
 draws:Y4 n g.draws=0
theorem Sr {m:Nat} {lo hi:Int} {l:List Seg} (h:∀ i,i<l.length→b7o m lo hi (gi l i)∧(0<i→(gi l (i-1)).hi<(gi l i).lo)):∀ n k,l.length-k=n→MW m lo hi l k=0
 |0,k,hk=>by rw [MW,if_neg (by omega)]
 |n+1,k,hk=>by
  obtain ⟨⟨h1,h2⟩,h3⟩:=h k (by omega);rw [MW,if_pos (by omega),if_neg (by omega),if_neg (fun h'=>by
   omega),if_neg (fun h'=>h' h2)]
  exact Sr h n (k+1) (by omega)
theorem Nh {n:Nat} {lo hi:Int} {s:Seg} (h1:lo≤s.lo∧s.lo≤s.hi∧s.hi≤hi) (h2:Y4 n s.draws=0):MW n lo hi [s] 0=0 :=
 Sr (fun i hi=>by
  obtain rfl:i=0:=by grind
  exact ⟨⟨h1,h2⟩,fun h=>by omega⟩) _ 0 rfl
theorem fU {n:Nat} {lo hi:Int} {s t:Seg} (h1:lo≤s.lo∧s.lo≤s.hi∧s.hi<t.lo∧t.lo≤t.hi∧t.hi≤hi) (h2:Y4 n s.draws=0) (h3:Y4 n t.draws=0):MW n lo hi [s,t] 0=0 :=
 Sr (fun i hi=>by
  have:i=0∨i=1:=by grind
  rcases this with rfl|rfl
  ·exact ⟨⟨⟨h1.1,h1.2.1,show s.hi≤_ by omega⟩,h2⟩,fun h=>by omega⟩
  ·exact ⟨⟨⟨show lo≤t.lo by omega,h1.2.2.2⟩,h3⟩,fun _=>h1.2.2.1⟩) _ 0 rfl
def Oz (c:UInt8) (i:Int):List UInt8:=[c,UInt8.ofNat (48+i).toNat]
theorem b1h {c:UInt8} {i j:Nat} (hi:i<10) (hj:j<10) (h:Oz c i=Oz c j):i=j:=by
 simp only [Oz,List.cons.injEq,and_true,true_and] at h;have:=congrArg UInt8.toNat h;rw [UInt8.toNat_ofNat',UInt8.toNat_ofNat'] at this;omega
theorem sJ {c:UInt8} (hc:oV c.toNat) {i:Nat} (hi:i<10):Dy (Oz c i):=by
 refine ⟨by simp [Oz],by simp [Oz],hc,fun j h1 h2=>?_⟩;obtain rfl:j=1:=by simp [Oz] at h2;omega
 have e:(gi (Oz c i) 1).toNat=48+i:=by
  show (UInt8.ofNat (48+(i:Int)).toNat).toNat=_;rw [UInt8.toNat_ofNat'];omega
 right;omega
theorem iP {α:Type} [Inhabited α] {f:α→List UInt8} {c:UInt8} {l:List α} (hl:l.length≤10) (h:∀ i,i<l.length→f (gi l i)=Oz c i) {k:Nat} (hk:k<l.length):f (gi l k)∉(l.take k).map f:=by
 intro hm;rw [bb] at hm;obtain ⟨a,ha,he⟩:=hm;obtain ⟨j,hj,e⟩:=dr ha;rw [aw] at hj;have e2:a=gi l j:=by
  rw [← e,List.getElem_take];simp [gi,List.getElem?_eq_getElem (show j<l.length by omega)]
 rw [e2,h j (by omega),h k hk] at he;have:=b1h (by omega) (by omega) he;omega
attribute [local irreducible] Aa Ai Ag Ad AP Ak Bf BM Bq Ah Vm.Done BD AB Q7
end Go.Proofs.YtnjkoebfgcbbdaaGreatDoor
namespace Go.Proofs.YtnjkoebfgcbbdaaGreatDoor
open Go Go.Am Go.Vm
attribute [local irreducible] Aa Ai Ag Ad AP Ak Bf BM Bq Ah Vm.Done BD AB
attribute [local irreducible] Ci Ba shz AZ
def c3f (r:Ho):Prop:=r.name.length<9223372036854775808∧r.JJ.length<9223372036854775808∧r.EU.length<9223372036854775808
noncomputable def XU (r:Ho) (n:Int):Int:=if Ci r≠0 then Ci r else if n<0∨n≥r.EU.length then 10 else 0
def KW:FV:=.agg [.str ⟨#[]⟩,.str ⟨#[]⟩,.int .i64 0,.int .i64 0,.int .i64 0,.val (.slice none 0 0)]
def b1f (r:Ho) (n:Int) (w:List Int):FV×Int:=if w.length>128 then (KW,4) else if ¬ Qg n then (KW,3) else (.agg (Enc.enc { r with first:=n,EU:=w }),0)
noncomputable def c3v (r:Ho) (k:Int):Int×Bool×Int:=if XU r k≠0 then (0,false,XU r k) else if (AZ r.D5 ⟨8,1⟩).2≠0∨r.first+k+(AZ r.D5 ⟨8,1⟩).1<0∨r.first+k+(AZ r.D5 ⟨8,1⟩).1>127 then (0,false,(AZ r.D5 ⟨8,1⟩).2) else (r.first+k+(AZ r.D5 ⟨8,1⟩).1,true,0)
noncomputable def c4m (r:Ho) (n:Int):Int×Bool×Int:=if Ci r≠0 then (0,false,Ci r) else if n<r.first∨n≥r.first+r.EU.length then (0,false,0) else (n-r.first,true,0)
noncomputable def c3g (r:Ho) (w:List Int):FV×Int:=if Ci r≠0 then (KW,Ci r) else if Ba w≠0 then (KW,Ba w) else b1f r (r.first-w.length) (w++r.EU)
noncomputable def c3t (r:Ho) (f:KI):FV×Int:=if Ci r≠0 then (KW,Ci r) else if (AZ f r.D5).2≠0 then (KW,(AZ f r.D5).2) else if Qg (r.first-(AZ f r.D5).1) then (.agg (Enc.enc { r with first:=r.first-(AZ f r.D5).1,D5:=f }),0) else (KW,3)
attribute [local irreducible] XU
noncomputable def c8k (r:Ho) (n:Int):Int×Int:=if XU r n≠0 then (0,XU r n) else (r.first+n,0)
noncomputable def c6i (r:Ho) (n:Int):Int×Int:=if XU r n≠0 then (0,XU r n) else (gi r.EU n.toNat,0)
noncomputable def c6m (r:Ho) (w:List Int):FV×Int:=if Ci r≠0 then (KW,Ci r) else if Ba w≠0 then (KW,Ba w) else b1f r r.first (r.EU++w)
def b8i (l:List Int):Nat→Int
 |0=>0
 |k+1=>b8i l k+gi l k
noncomputable def c6z (r:Ho):Int×Int:=if Ci r≠0 then (0,Ci r) else (b8i r.EU r.EU.length,0)
def Rt:List KI:=[⟨8,1⟩,⟨4,1⟩,⟨16,1⟩,⟨2,1⟩,⟨8,3⟩,⟨8,5⟩,⟨4,3⟩,⟨1,1⟩,⟨32,1⟩,⟨16,3⟩,⟨16,5⟩,⟨32,3⟩,⟨8,7⟩,⟨2,3⟩,⟨1,2⟩,⟨64,1⟩]
theorem a0z (n:Nat) (hn:n<256):Ak env 150 [.int .u8 (n:Int)] (.p (.agg (Enc.enc (gi Rt (n % 16))))):=by
 refine Ak.enter (Ae (by decide)) Tryz.func150 rfl (by kernel_rfl) (by simp [Tryz.ntmps150]) ?_;have hlt:n % 16<16:=ba _ (by decide)
 repeat' (first|(refine Ai.Je 22 ?_;refine Ai.ghost (Aw.freeze 19 rfl rfl) ?_)|apply Ad.BL|apply Ad.ret|apply Ai.nil|apply Ai.one|(apply Aa.Ap (l:=Rt) (i:=n % 16);rfl;rfl;rfl;exact hlt;rfl)|(apply Aa.move;rfl)|(apply Aa.bJ;rfl;rfl;omega;omega)|(apply Aa.load;rfl;rfl)|(apply Aa.alloc;rfl)|(apply Aa.FD;rfl;rfl;rfl;trivial;rfl;rfl;exact Bh rfl;exact le_dec rfl)|(apply Aa.build;rfl;rfl;rfl;rfl;rfl)|(apply Aa.buildSlice;rfl;rfl;rfl;decide;rfl;rfl;rfl))
 all_goals (refine Done.rt rfl rfl ⟨?_,rfl,rfl⟩;try rfl)
end Go.Proofs.YtnjkoebfgcbbdaaGreatDoor
namespace Go.Proofs.YtnjkoebfgcbbdaaGreatDoor
open Go Go.Am Go.Vm
attribute [local irreducible] Aa Ai Ag Ad AP Ak Bf BM Bq Ah Vm.Done BD AB
theorem tq {r:Ho} (h1:Dy r.name) (h2:Dy r.JJ) (h3:pOk r.D5) (h4:-256≤r.first∧r.first≤256) (h5:0<r.EU.length∧r.EU.length≤128) (h6:okW r.EU):Ci r=0:=by
 unfold Ci;rw [if_neg (fun h=>h.elim (fun h=>h h1) (fun h=>h h2)),if_neg (fun h=>h (TI.2 h3)),if_neg (by omega),if_neg (by omega),if_neg (by omega)];exact if_pos h6
theorem zV:Dy [79,112,101,110]:=by
 refine ⟨by decide,by decide,by decide,fun i h1 h2=>?_⟩;have:i=1∨i=2∨i=3:=by grind
 rcases this with rfl|rfl|rfl<;>exact .inl (by decide)
def c6g (f first:Int) (n:Nat):Ho:=⟨[82,111,119],[79,112,101,110],⟨f,1⟩,first,List.replicate n 1⟩
def c4g:Ho:=⟨[82,111,119],[79,112,101,110],⟨8,1⟩,24,List.replicate 12 0++List.replicate 61 1⟩
attribute [local irreducible] Ci Ba shz AZ XU c4m c3v c3g c3t
end Go.Proofs.YtnjkoebfgcbbdaaGreatDoor
namespace Go.Proofs.YtnjkoebfgcbbdaaGreatDoor
open Go Go.Am Go.Vm
attribute [local irreducible] Aa Ai Ag Ad AP Ak Bf BM Bq Ah Vm.Done BD AB
instance encStr:Enc (List UInt8):={ default:=[],enc:=fun s=>[.str (bs s)],size:=1,len:=fun _=>rfl }
structure GK where
 JJ:Nat
 D5:Nat
 first:Int
 pipes:Nat
 EU:List Nat
def GK.enc (x:GK):List FV:=[.int .u8 (x.JJ:Int),.int .u8 (x.D5:Int),.int .i8 x.first,.int .u8 (x.pipes:Int),.int .u8 ((gi x.EU 0:Nat):Int),.int .u8 ((gi x.EU 1:Nat):Int),.int .u8 ((gi x.EU 2:Nat):Int),.int .u8 ((gi x.EU 3:Nat):Int),.int .u8 ((gi x.EU 4:Nat):Int)]
structure GK.Ok (x:GK):Prop where
 JJ:x.JJ<256
 D5:x.D5<256
 first:-128≤x.first∧x.first≤127
 pipes:x.pipes<256
 EU:∀ i,gi x.EU i<256
def TB:List (List UInt8):=[[79,112,101,110],[70,108,117,116,101],[82,101,101,100]]
def IY (x:GK):Nat→List Int
 |0=>[]
 |k+1=>IY x k++[((gi x.EU (k % 5):Nat):Int)]
theorem F5 (x:GK):∀ k,(IY x k).length=k
 |0=>rfl
 |k+1=>by simp [IY,F5 x k]
def U3 (x:GK) (i:Int):Ho:=⟨[82,UInt8.ofNat (48+i % 10).toNat],gi TB (x.JJ % 3),gi Rt (x.D5 % 16),x.first,IY x (1+x.pipes % 25)⟩
theorem a0r (x:GK) (hx:x.Ok) (i:Int) (hi:0≤i∧i≤1000):Ak env 114 [.agg x.enc,.int .i64 i] (.p (.agg (Enc.enc (U3 x i)))):=by
 obtain ⟨h1,h2,h3,h4,h5⟩:=hx;have hf:=a0z x.D5 h2;have hlt:x.JJ % 3<3:=ba _ (by decide);refine Ak.enter (Ae (by decide)) Tryz.func114 rfl (by kernel_rfl) (by simp [Tryz.ntmps114]) ?_
 repeat' (first|(refine Ag.Je 18 ?_;refine Ag.ghost (Aw.freeze 14 rfl rfl) ?_)|apply Ad.assoc|apply Ad.BL|apply Ad.CO|apply Ad.FP|apply Ai.nil|apply Ag.nil|apply Ai.one|(apply Ag.bar;decide +kernel)|apply Ag.quiet|(apply Aa.fn;rfl;rfl;exact hf;intro _;rfl)|(apply Aa.Ig;rfl;rfl;rfl;rfl;rfl;omega)|(apply Aa.Ap (l:=TB) (i:=x.JJ % 3);rfl;rfl;rfl;exact hlt;rfl)|(apply Aa.assign;rfl)|(apply Aa.move;rfl)|(apply Aa.LV;rfl;rfl;omega)|(apply Aa.bJ;rfl;rfl;omega;omega)|(apply Aa.load;rfl;rfl)|(apply Aa.Ii;rfl;rfl;rfl)|(apply Aa.box;rfl;trivial)|(apply Aa.alloc;rfl)|(apply Aa.FD;rfl;rfl;rfl;trivial;rfl;rfl;exact Bh rfl;exact le_dec rfl)|(apply Aa.build;rfl;rfl;rfl;rfl;rfl)|(apply Aa.buildSlice;rfl;rfl;rfl;decide;rfl;rfl;rfl)|(apply Aa.XE;rfl;rfl;(first|omega|(simp only [List.length_take,List.length_drop,List.length_append,List.length_singleton,List.length_cons,List.length_nil]<;>omega)))|(apply Aa.Gh;rfl;rfl;rfl;rfl;omega)|(apply Aa.Nc;rfl;rfl;rfl;rfl;omega))
 refine Ad.ghost (Aw.EP 4 5 3 rfl rfl) ?_;refine Ad.DK (fun k:Nat=>[(2,.ref 0 0),(4,.ref 1 0),(5,.ref 4 0),(6,.p (.int .i64 (k:Int)))]) (fun k=>[(5,.vec 3 (cells (IY x k)) (IY x k).length true),(4,.box 113 [.p (.str (bs [82,UInt8.ofNat (48+i % 10).toNat])),.p (.str (bs (gi TB (x.JJ % 3)))),.p (.int .i64 (gi Rt (x.D5 % 16)).num),.p (.int .i64 (gi Rt (x.D5 % 16)).den),.p (.int .i64 x.first),.vec 5 (IY x k).length 0 (IY x k).length]),(1,.box 113 [.p (.str ⟨#[]⟩),.p (.str ⟨#[]⟩),.p (.int .i64 0),.p (.int .i64 0),.p (.int .i64 0),.p (.val (.slice none 0 0))]),(0,.box 226 (x.enc.map .p))]) 6 (fun k=>k≤1+x.pipes % 25) (fun k=>1+x.pipes % 25-k) 0 (by omega) (by omega) ⟨by omega,?_,?_⟩ ?_
 ·exact Dl
 ·exact Eh
 intro k hk;have hl:=F5 x k;have hw:=h5 (k % 5);have e1:IY x (k+1)=IY x k++[((gi x.EU (k % 5):Nat):Int)]:=rfl;have e2:(IY x (k+1)).length=(IY x k).length+1:=by rw [e1];simp
 have hr:(x.enc.map PV.p)[4+((k:Int) % 5).toNat*1]?=some (.p (.int .u8 ((gi x.EU (k % 5):Nat):Int))):=by
  have e0:((k:Int) % 5).toNat=k % 5:=by omega
  rw [e0];have:k % 5<5:=ba _ (by decide);generalize k % 5=n at this
  match n,this with
  |0,_=>rfl
  |1,_=>rfl
  |2,_=>rfl
  |3,_=>rfl
  |4,_=>rfl
 repeat' (first|(refine Ad.at 6 ?_;refine Ad.ghost (Aw.Dk 4 5 rfl rfl rfl) ?_;first|apply Ad.BL|apply Ad.CO)|(apply Aa.a3q;rfl;rfl;rfl;exact hr)|(apply Aa.LZ;rfl;rfl;rfl;rfl;rfl;omega)|(apply Aa.Dw;rfl;rfl;rfl;rfl;rfl;rfl;rfl;rfl;(intro _ h;cases h);rfl;rfl;rfl;decide;decide;(first|omega|(simp only [List.length_take,List.length_drop,List.length_append,List.length_singleton,List.length_cons,List.length_nil]<;>omega)))|refine Zm ?_|apply Ad.BL|apply Ad.region|apply Ad.Fe|(apply Aa.int;rfl;rfl;rfl)|(apply Aa.buildSlice;rfl;rfl;rfl;decide;rfl;rfl;rfl)|(apply Aa.Gh;rfl;rfl;rfl;rfl;omega)|(apply Ad.Ac;rfl)|(intro _;try (exfalso;omega)))
 ·refine Ah.normal ⟨k+1,by omega,by omega,⟨by omega,?_,?_⟩⟩
  ·exact Dl
  ·rw [e2,e1];exact Eh
 ·obtain rfl:k=1+x.pipes % 25:=by omega
  refine Done.rt rfl rfl ⟨?_,rfl,rfl⟩;rfl
end Go.Proofs.YtnjkoebfgcbbdaaGreatDoor
