/-
  Texts of a proof, merged (IntB, FraA, RkB, RkC, OrA, OrB, RkA, RkD, RkE, RkF, RkG, RkH, RkI). Conditions: in each statement.
-/
import Derived.Test.YtnjkoebfgcbbdaaGreatDoorKBh
set_option linter.unusedSimpArgs false
set_option linter.unusedVariables false
set_option linter.unusedSectionVars false
set_option maxRecDepth 100000
set_option maxHeartbeats 8000000
abbrev cx:=@Int.toNat_of_nonneg
abbrev en:=@Int.natCast_mul
abbrev eJ:=@Nat.pow_lt_pow_iff_right
abbrev fx:=@Nat.pow_lt_pow_left
abbrev fN:=@Nat.mul_lt_mul_of_lt_of_le
abbrev gv:=@Nat.div_le_self
abbrev gA:=@Nat.mul_one
abbrev ie:=@Nat.le_of_lt
namespace Go.Proofs.YtnjkoebfgcbbdaaGreatDoor
section
open Go Go.Am Go.Vm
attribute [local irreducible] Aa Ai Ag Ad AO Ap Bc BK Bh Ah Vm.Done Bv AB
theorem a9s {L:Vm.Frame} {H:Vm.Heap} {nx:Nat} {Q:PV→Vm.Heap→Nat→Prop} {dst:Option Tmp} {ty:TypeId} {pos:String} {af:Array Edge} {gd:Option (Nat×Bool)} {fo:Operand} {args:Array Operand} {aT:Array TypeId} {fs cs xs:List PV} {c:Code}
 (hf:AU env.Γ L fo=some (.clo 104 fs cs)) (ha:evs env.Γ L args.toList=some xs) (hb:Tryz.f104.body=some c) (hn:(fs++xs++cs).length≤Tryz.f104.ntmps)
 (h:Ad env nx c (Ci 0 (fs++xs++cs)) H nx (AB env.P Tryz.f104.results.toList Q)):Aa env true ⟨dst,.call { callee:=.value fo,args:=args,argTypes:=aT },ty,pos,af,gd⟩ L H nx Q:=by
 have h0:(match Tryz.f104.body with|some c=>IJ env.G Tryz.f104 c|none=>false)=true:=by kernel_rfl
 rw [hb] at h0;exact Aa.inline rfl hf ha (Af (by decide)) Tryz.func104 hb h0 hn h
theorem a7s {L:Vm.Frame} {H:Vm.Heap} {nx:Nat} {Q:PV→Vm.Heap→Nat→Prop} {dst:Option Tmp} {ty:TypeId} {pos:String} {af:Array Edge} {gd:Option (Nat×Bool)} {fo:Operand} {args:Array Operand} {aT:Array TypeId} {fs cs xs:List PV} {c:Code}
 (hf:AU env.Γ L fo=some (.clo 103 fs cs)) (ha:evs env.Γ L args.toList=some xs) (hb:Tryz.f103.body=some c) (hn:(fs++xs++cs).length≤Tryz.f103.ntmps)
 (h:Ad env nx c (Ci 0 (fs++xs++cs)) H nx (AB env.P Tryz.f103.results.toList Q)):Aa env true ⟨dst,.call { callee:=.value fo,args:=args,argTypes:=aT },ty,pos,af,gd⟩ L H nx Q:=by
 have h0:(match Tryz.f103.body with|some c=>IJ env.G Tryz.f103 c|none=>false)=true:=by kernel_rfl
 rw [hb] at h0;exact Aa.inline rfl hf ha (Af (by decide)) Tryz.func103 hb h0 hn h
theorem qY {L:Vm.Frame} {H:Vm.Heap} {nx:Nat} {Q:PV→Vm.Heap→Nat→Prop} {dst:Option Tmp} {ty:TypeId} {pos:String} {af:Array Edge} {gd:Option (Nat×Bool)} {fo:Operand} {args:Array Operand} {aT:Array TypeId} {fs cs xs:List PV} {c:Code}
 (hf:AU env.Γ L fo=some (.clo 144 fs cs)) (ha:evs env.Γ L args.toList=some xs) (hb:Tryz.f144.body=some c) (hn:(fs++xs++cs).length≤Tryz.f144.ntmps)
 (h:Ad env nx c (Ci 0 (fs++xs++cs)) H nx (AB env.P Tryz.f144.results.toList Q)):Aa env true ⟨dst,.call { callee:=.value fo,args:=args,argTypes:=aT },ty,pos,af,gd⟩ L H nx Q:=by
 have h0:(match Tryz.f144.body with|some c=>IJ env.G Tryz.f144 c|none=>false)=true:=by kernel_rfl
 rw [hb] at h0;exact Aa.inline rfl hf ha (Af (by decide)) Tryz.func144 hb h0 hn h
theorem oU (n:Nat):¬ (List.take 1 (Lib.decDigits n)=[45]):=fun h=>by
 have h1:=Num.J4 n 45 (fm (by rw [h];simp));grind
theorem b2s (n:Nat):0<(Lib.decDigits n).length:=by rw [Lib.decDigits_length];exact Lib.nDigits_pos n
theorem b1r {a b:Nat} (h:Lib.decDigits a=Lib.decDigits b):a=b:=by
 have h1:Lib.nDigits a=Lib.nDigits b:=by rw [← Lib.decDigits_length,← Lib.decDigits_length,h]
 rw [Num.Ey,Num.Ey,h1] at h;have:=congrArg Num.parse h;rw [Num.UW,Num.UW,br (by rw [← h1];exact Lib.lt_pow_nDigits a),br (Lib.lt_pow_nDigits b)] at this;omega
theorem a6b (a:Nat):Lib.decDigits a=[48]↔a=0:=by
 have:Lib.decDigits 0=[48]:=by rw [Lib.decDigits_one (by decide)];rfl
 rw [← this];exact ⟨b1r,fun h=>by rw [h]⟩
theorem a3g (n:Nat):Num.parse (Lib.decDigits n)=n:=by
 rw [Num.Ey,Num.UW,br (Lib.lt_pow_nDigits n)]
theorem a8r (n:Nat):Ap env 54 [.str (bs (Lib.decDigits n)),.str (bs [45])] (.Eb [st (Lib.decDigits n),.p (.bool false)]):=by
 refine Ap.enter (Af (by decide)) Tryz.func54 rfl (by kernel_rfl) (by simp) ?_;have h1:=oU n;have h2:=b2s n
 repeat' (first|(apply a9s;rfl;rfl;rfl;exact le_dec rfl)|(apply qY;rfl;rfl;rfl;exact le_dec rfl)|(apply Aa.Me;rfl;rfl)|refine Eu ?_|(apply AB.ret;rfl)|(apply Ai.guard;rfl;rfl)|(apply Aa.eqS;rfl;rfl)|(apply Aa.pF;rfl;rfl;rfl;omega)|(apply Aa.uU;rfl;rfl;rfl;omega)|(apply Ad.AX;rfl)|(apply Ad.LP;rfl)|(intro _))
 ·refine Done.rt rfl rfl ⟨?_,rfl,rfl⟩
  rfl
 ·grind
 grind
theorem cut_spec' (n:Nat):Ap env 54 [.str (bs (Lib.decDigits n)),.str ⟨#[45]⟩] (.Eb [st (Lib.decDigits n),.p (.bool false)]):=a8r n
theorem Ua (n:Nat) (hn:Lib.nDigits n<900000):Ap env 92 [.str (bs (Lib.decDigits n))] (.Eb [lst 82 (Num.toL n),.p (.bool false)]):=by
 refine Ap.enter (Af (by decide)) Tryz.func92 rfl (by kernel_rfl) (by simp) ?_
 repeat' (first|(apply Aa.fn;rfl;rfl;exact cut_spec' n;intro _;rfl)|(apply Aa.fn;rfl;rfl;exact a3w n hn;intro _;rfl)|refine go1 ?_|fail)
 ·refine Done.rt rfl rfl ⟨?_,rfl,rfl⟩
  rfl
theorem Xt (n:Nat) (hn:(Num.toL n).length<1000000):Ap env 93 [.lst 82 (cells (Num.toL n)) (Num.toL n).length,.bool false] (st (Lib.decDigits n)):=by
 refine Ap.enter (Af (by decide)) Tryz.func93 rfl (by kernel_rfl) (by simp) ?_;have ht:=sH (Num.toL n) (Num.L9 n) (by omega);rw [Num.iM] at ht
 repeat' (first|(apply Aa.fn;rfl;rfl;exact ht;intro _;rfl)|refine Ij ?_|(apply Ad.Ak;rfl))
 ·refine Done.rt rfl rfl ⟨?_,rfl,rfl⟩
  rfl
theorem Uf (n:Int) (h:-9223372036854775808≤n∧n≤9223372036854775807):Ap env 18 [.int .i64 n] (st (Lib.itoa n)):=by
 refine Ap.enter (Af (by decide)) Tryz.func18 rfl (by kernel_rfl) (by simp) ?_
 repeat' (first|(apply Aa.fn;rfl;rfl;exact a6z n h;intro _;rfl)|refine go1 ?_|fail)
 ·refine Done.rt rfl rfl ⟨?_,rfl,rfl⟩
  rfl
theorem a8n (n:Nat):Lib.itoa (n:Int)=Lib.decDigits n:=by rfl
theorem Oe (n g:Nat) (hg:g≤18):Ap env 91 [.str (bs (Lib.decDigits n)),.int .i64 (g:Int)] (.Eb [.p (.int .i64 ((if Lib.nDigits n≤g then n else 0:Nat):Int)),.p (.bool (decide (Lib.nDigits n≤g)))]):=by
 refine Ap.enter (Af (by decide)) Tryz.func91 rfl (by kernel_rfl) (by simp) ?_;have hl:=Lib.decDigits_length n;by_cases hng:Lib.nDigits n≤g
 ·rw [if_pos hng,decide_eq_true hng]
  obtain ⟨d,hd⟩:∃ d,d=Lib.decDigits n:=⟨_,rfl⟩
  have hc:=cut_spec' n;rw [← hd] at hl hc ⊢;have hdig:∀ i,i<d.length→48≤(gi d i).toNat∧(gi d i).toNat≤57:=fun i hi=>oN (p:=fun c=>48≤c.toNat∧c.toNat≤57) (by rw [hd];exact Num.J4 n) i hi
  have hpv:∀ j,j≤d.length→Num.parse (d.take j)<1000000000000000000:=fun j hj=>by
   have h1:=Num.qR (d.take j) (fun c hc=>by
    have hm:=fm hc;rw [hd] at hm;exact Num.J4 n c hm)
   rw [az,cM hj] at h1;have h2:10 ^ j≤10 ^ 18:=aw (by decide) (by omega);omega
  repeat' (first|(apply Aa.fn;rfl;rfl;exact hc;intro _;rfl)|(apply Aa.lenV;rfl;rfl;rfl)|(apply Aa.Me;rfl;rfl)|refine go1 ?_|(apply Aa.int;rfl;rfl;rfl)|(apply Aa.toBytes;rfl;rfl;rfl;rfl;rfl;rfl;omega)|(apply Ad.Ac;rfl)|(intro _;try (exfalso;omega)))
  refine Ad.DL (fun j:Nat=>[(7,.p (.bool false)),(8,.p (.int .i64 ((Num.parse (d.take j):Nat):Int))),(21,.vec 0 d.length 0 d.length),(22,.p (.int .i64 d.length)),(23,.p (.int .i64 (j:Int)))])
   (fun _=>[(0,.vec 5 (cells d) d.length false)]) 1 (fun j=>j≤d.length) (fun j=>d.length-j) 0 (by omega) (by omega) ⟨ab _,?_,?_⟩ ?_
  ·exact C9
  ·exact DR
  intro j hj;have hv:=hpv j hj;by_cases hlj:j<d.length
  ·have hd2:=hdig j hlj
   have hv2:=hpv (j+1) hlj;rw [Num.parse_snoc' d j hlj] at hv2
   repeat' (first|(apply Aa.D5;rfl;rfl;rfl;rfl;omega)|refine Eu ?_|(apply Aa.Ia;rfl;rfl;rfl;rfl;omega)|(apply Ad.Ac;rfl)|(intro _;try (exfalso;omega)))
   refine Ah.normal ⟨j+1,by omega,by omega,⟨by omega,?_,?_⟩⟩
   ·rw [Num.parse_snoc' d j hlj,Int.natCast_add,en];exact C9
   ·exact DR
  ·have hjp:j=d.length:=by omega
   subst hjp
   repeat' (first|refine Eu ?_|(apply Ad.Ak;rfl)|(apply Ad.Ac;rfl)|(intro _;try (exfalso;omega)))
   ·refine Done.rt rfl rfl ⟨?_,rfl,rfl⟩
    rw [cr,hd,a3g]
 ·rw [if_neg hng,decide_eq_false hng]
  repeat' (first|(apply Aa.fn;rfl;rfl;exact cut_spec' n;intro _;rfl)|(apply Aa.Me;rfl;rfl)|refine go1 ?_|(apply Aa.int;rfl;rfl;rfl)|(apply Ad.Ac;rfl)|(intro _;try (exfalso;omega)))
  ·refine Done.rt rfl rfl ⟨?_,rfl,rfl⟩
   rfl
end
section
open Go Go.Am Go.Vm
attribute [local irreducible] Aa Ai Ag Ad AO Ap Bc BK Bh Ah Vm.Done Bv AB
theorem toL_short {x K:Nat} (h:x<10 ^ K) (hK:K<900000):(Num.toL x).length<200000:=by
 have h1:x<Num.B9 ^ (K / 9+1):=by
  refine ag h ?_;rw [show Num.B9 ^ (K / 9+1)=10 ^ (9*(K / 9+1)) by rw [dE]];exact aw (by decide) (by omega)
 have:=Num.toL_len_le x (K / 9+1) h1;omega
theorem b4s (e i:Nat):e &&& 2 ^ i=if e / 2 ^ i % 2=1 then 2 ^ i else 0:=by
 apply Nat.eq_of_testBit_eq;grind
theorem Zy (n e:Nat) (he:e≤6000) (hne:e*Lib.nDigits n≤24000) (hn:Lib.nDigits n<100000):Ap env 195 [.str (bs (Lib.decDigits n)),.int .i64 (e:Int)] (.Eb [st (Lib.decDigits (n ^ e)),.p (.int .i64 0)]):=by
 refine Ap.enter (Af (by decide)) Tryz.func195 rfl (by kernel_rfl) (by simp [Tryz.ntmps195]) ?_;have hlt:=Lib.lt_pow_nDigits n;have hnl:=toL_short hlt (by omega);obtain ⟨K,hK⟩:∃ K:Nat,K=24000:=⟨_,rfl⟩
 rw [← hK] at hne;have vV:∀ k,k≤e→(Num.toL (n ^ k)).length<200000:=fun k hk=>by
  refine toL_short (K:=K) ?_ (by omega);have h1:n ^ k≤(10 ^ Lib.nDigits n) ^ k:=Nat.pow_le_pow_left (ie hlt) k;rw [← dE] at h1;rcases bo k with h0|h0
  ·rw [h0,ez];exact Nat.one_lt_pow (by omega) (by decide)
  ·have h2:n ^ k<(10 ^ Lib.nDigits n) ^ k:=fx hlt (by omega)
   rw [← dE] at h2;refine ag h2 (aw (by decide) ?_);have:=cb (Lib.nDigits n) hk;rw [dd (Lib.nDigits n) e] at this;omega
 have htx:=sH (Num.toL n) (Num.L9 n) (by omega);rw [Num.iM] at htx;have hdl:=Lib.decDigits_length n;have hmul:(e:Int)*((Lib.decDigits n).length:Int)≤24000:=by rw [hK] at hne;rw [hdl];exact_mod_cast hne
 have c8h:(0:Int)≤(e:Int)*((Lib.decDigits n).length:Int):=by rw [hdl,← en];omega
 repeat' (first|(apply Aa.fn;rfl;rfl;exact Ua n (by omega);intro _;rfl)|(apply Aa.fn;rfl;rfl;exact htx;intro _;rfl)|(apply Aa.Me;rfl;rfl)|refine Ij ?_|(apply Aa.int;rfl;rfl;rfl)|(apply Aa.buildSlice;rfl;rfl;rfl;decide;rfl;rfl;rfl)|(apply Ad.Ac;rfl)|(intro _;try (exfalso;omega)))
 refine Ad.ghost (Aw.freeze 8 rfl rfl) ?_;have one:Num.toL 1=[1]:=by rw [Num.toL_pos (by decide),show 1 / Num.B9=0 by decide,Num.toL_zero];rfl
 have e14:e / 2 ^ 14=0:=dc (by omega);refine Ad.DL (fun b:Nat=>[(1,.p (.int .i64 (e:Int))),(6,lst 82 (Num.toL n)),(7,.p (.bool false)),(8,lst 82 (Num.toL (n ^ (e / 2 ^ b)))),(9,.p (.int .i64 ((2 ^ b / 2:Nat):Int)))]) (fun _=>[]) 1 (fun b=>b≤14) (fun b=>b) 14 (by omega) (by omega) ⟨ab _,?_,?_⟩ ?_
 ·rw [e14,ez,one];exact C9
 ·exact BI.nil
 intro b hb;rcases bo b with hb0|hb0
 ·subst hb0
  have hlen:=vV e (ab _);have hs:=Xt (n ^ e) (by omega);rw [ez,Nat.div_one]
  repeat' (first|(apply Aa.fn;rfl;rfl;exact hs;intro _;rfl)|refine Ij ?_|(apply Aa.int;rfl;rfl;rfl)|(apply Ad.Ak;rfl))
  ·(refine Done.rt rfl rfl ⟨?_,rfl,rfl⟩;try rfl)
 ·obtain ⟨i,rfl⟩:∃ i,b=i+1:=⟨b-1,by omega⟩
  have hp1:2 ^ (i+1) / 2=2 ^ i:=by rw [bA,Nat.mul_div_cancel _ (by decide)]
  have hp0:0<2 ^ i:=dm (by decide);have c9o:2 ^ i≤2 ^ 13:=aw (by decide) (by omega);rw [hp1];have hle:e / 2 ^ (i+1)≤e:=gv _ _;have h1:=Tv (Num.toL (n ^ (e / 2 ^ (i+1)))) (Num.toL (n ^ (e / 2 ^ (i+1)))) (Num.L9 _) (Num.L9 _) (by have:=vV _ hle;omega) (by have:=vV _ hle;omega);rw [Num.UZ] at h1;have hle2:e / 2 ^ (i+1)+e / 2 ^ (i+1)≤e:=by
   have h2:e / 2 ^ (i+1)*2 ^ (i+1)≤e:=Nat.div_mul_le_self _ _;have h3:e / 2 ^ (i+1)*2≤e / 2 ^ (i+1)*2 ^ (i+1):=cb _ (by rw [bA];omega);omega
  have h2:=Tv (Num.toL (n ^ (e / 2 ^ (i+1))*n ^ (e / 2 ^ (i+1)))) (Num.toL n) (Num.L9 _) (Num.L9 _) (by rw [← cC];have:=vV _ hle2;omega) (by omega);rw [Num.UZ,Num.UZ] at h2;have hbit:=Num.b3f n e i;have hand:=b4s e i;by_cases hb1:e / 2 ^ i % 2=1
  ·rw [if_pos hb1] at hbit hand
   repeat' (first|(apply Aa.fn;rfl;rfl;exact h1;intro _;rfl)|(apply Aa.fn;rfl;rfl;exact h2;intro _;rfl)|refine go1 ?_|(apply Aa.int;rfl;rfl;rfl)|(apply Aa.fH;rfl;rfl;(simp only [IntKind.bits];omega))|(apply Ad.Ac;rfl)|(apply Ad.Aq;rfl)|(intro _;try (exfalso;omega)))
   all_goals try (exfalso;rename_i hx;rw [hand] at hx;omega)
   refine Ah.normal ⟨i,by omega,by omega,⟨by omega,?_,?_⟩⟩
   ·rw [← hbit];exact C9
   ·exact BI.nil
  ·rw [if_neg hb1,gA] at hbit
   rw [if_neg hb1] at hand
   repeat' (first|(apply Aa.fn;rfl;rfl;exact h1;intro _;rfl)|refine go1 ?_|(apply Aa.int;rfl;rfl;rfl)|(apply Aa.fH;rfl;rfl;(simp only [IntKind.bits];omega))|(apply Ad.Ac;rfl)|(apply Ad.Aq;rfl)|(intro _;try (exfalso;omega)))
   all_goals try (exfalso;rename_i hx;rw [hand] at hx;omega)
   refine Ah.normal ⟨i,by omega,by omega,⟨by omega,?_,?_⟩⟩
   ·rw [← hbit];exact C9
   ·exact BI.nil
theorem qE (a b:Nat) (ha:Lib.nDigits a<400000) (hb:Lib.nDigits b<400000):Ap env 196 [.str (bs (Lib.decDigits a)),.str (bs (Lib.decDigits b))] (st (Lib.decDigits (a*b))):=by
 refine Ap.enter (Af (by decide)) Tryz.func196 rfl (by kernel_rfl) (by simp) ?_;have qa:=Oe a 9 (by decide);have qb:=Oe b 9 (by decide);have la:=Lib.lt_pow_nDigits a;have lb:=Lib.lt_pow_nDigits b;have hla:=toL_short la (by omega);have hlb:=toL_short lb (by omega);have ht:=Tv (Num.toL a) (Num.toL b) (Num.L9 _) (Num.L9 _) (by omega) (by omega);rw [Num.UZ,Num.UZ] at ht;have hlab:(Num.toL (a*b)).length<200000:=toL_short (K:=Lib.nDigits a+Lib.nDigits b) (by
  rw [cC];exact fN la (ie lb) (dm (by decide))) (by omega)
 have hs:=Xt (a*b) (by omega);by_cases h9:Lib.nDigits a≤9∧Lib.nDigits b≤9
 ·rw [if_pos h9.1,decide_eq_true h9.1] at qa
  rw [if_pos h9.2,decide_eq_true h9.2] at qb;have ha9:a<1000000000:=ag la (aw (n:=10) (by decide) h9.1);have hb9:b<1000000000:=ag lb (aw (n:=10) (by decide) h9.2);have hab:a*b≤999999999*999999999:=cV (by omega) (by omega);have d0y:(a:Int)*(b:Int)=((a*b:Nat):Int):=(en a b).symm;have ho:=Uf ((a:Int)*(b:Int)) (by omega)
  repeat' (first|(apply Aa.fn;rfl;rfl;exact qa;intro _;rfl)|(apply Aa.fn;rfl;rfl;exact qb;intro _;rfl)|(apply Aa.fn;rfl;rfl;exact ho;intro _;rfl)|refine Ij ?_|(apply Ad.AX;rfl))
  ·refine Done.rt rfl rfl ⟨?_,rfl,rfl⟩
   rfl
 ·repeat' (first|(apply Aa.fn;rfl;rfl;exact qa;intro _;rfl)|(apply Aa.fn;rfl;rfl;exact qb;intro _;rfl)|(apply Aa.fn;rfl;rfl;exact Ua a (by omega);intro _;rfl)|(apply Aa.fn;rfl;rfl;exact Ua b (by omega);intro _;rfl)|(apply Aa.fn;rfl;rfl;exact ht;intro _;rfl)|(apply Aa.fn;rfl;rfl;exact hs;intro _;rfl)|refine go1 ?_|(apply Aa.neB;rfl;rfl;rfl)|(apply Ad.Ac;rfl)|(intro _;try (exfalso;omega)))
  all_goals (refine Done.rt rfl rfl ⟨?_,rfl,rfl⟩;try rfl)
theorem jr (n:Nat):Ap env 53 [.str (bs (Lib.decDigits n))] (.p (.int .i64 (if n=0 then 0 else 1))):=by
 refine Ap.enter (Af (by decide)) Tryz.func53 rfl (by kernel_rfl) (by simp) ?_;have h1:=oU n;have h3:=a6b n
 repeat' (first|(apply a7s;rfl;rfl;rfl;exact le_dec rfl)|(apply qY;rfl;rfl;rfl;exact le_dec rfl)|(apply Aa.Me;rfl;rfl)|refine Eu ?_|(apply AB.ret;rfl)|(apply Ai.guard;rfl;rfl)|(apply Aa.eqS;rfl;rfl)|(apply Aa.pF;rfl;rfl;rfl;omega)|(apply Ad.cond_false;rfl)|(apply Ad.Aq;rfl)|(intro _))
 all_goals first
  |(exfalso;simp_all;done)
  |(exfalso;simp_all;omega)
  |((refine Done.rt rfl rfl ⟨?_,rfl,rfl⟩;try rfl);grind)
theorem ZE:∀ (a b:List UInt8),-1≤Lib.compareBytes a b∧Lib.compareBytes a b≤1
 |[],[]=>by simp [Lib.compareBytes]
 |[],_::_=>by simp [Lib.compareBytes]
 |_::_,[]=>by simp [Lib.compareBytes]
 |a::as',b::bs'=>by
  simp only [Lib.compareBytes];have:=ZE as' bs';omega
def eY (a b:Nat):Int:=if a<b then -1 else if b<a then 1 else 0
theorem b2o {a b:Nat} (h:Lib.nDigits a=Lib.nDigits b):Lib.compareBytes (Lib.decDigits a) (Lib.decDigits b)=eY a b:=by
 rw [Num.Ey,Num.Ey,← h];exact Num.b5s _ _ _ (Lib.lt_pow_nDigits a) (by rw [h];exact Lib.lt_pow_nDigits b)
theorem ny (a b:Nat) (ha:Lib.nDigits a<400000) (hb:Lib.nDigits b<400000):Ap env 22 [.str (bs (Lib.decDigits a)),.str (bs (Lib.decDigits b))] (.p (.int .i64 (eY a b))):=by
 refine Ap.enter (Af (by decide)) Tryz.func22 rfl (by kernel_rfl) (by simp) ?_;have sa:=jr a;have sb:=jr b;have hla:=Lib.decDigits_length a;have hlb:=Lib.decDigits_length b;have hcb:=ZE (Lib.decDigits a) (Lib.decDigits b);have z1:Lib.nDigits 0=1:=Lib.nDigits_small (by decide);by_cases ha0:a=0<;>by_cases hb0:b=0
 ·rw [if_pos ha0] at sa
  rw [if_pos hb0] at sb;have heq:Lib.nDigits a=Lib.nDigits b:=by grind
  repeat' (first|(apply Aa.fn;rfl;rfl;exact sa;intro _;rfl)|(apply Aa.fn;rfl;rfl;exact sb;intro _;rfl)|(apply Aa.fn;rfl;rfl;exact cut_spec' a;intro _;rfl)|(apply Aa.fn;rfl;rfl;exact cut_spec' b;intro _;rfl)|(apply Aa.fn;rfl;rfl;exact Xa _ _;intro _;rfl)|(apply Aa.Me;rfl;rfl)|refine Ij ?_|(apply Aa.int;rfl;rfl;rfl)|(apply Ad.cond_false;rfl)|(apply Ad.Aq;rfl)|(intro _;try (exfalso;omega)))
  all_goals first
   |(exfalso;omega)
   |((refine Done.rt rfl rfl ⟨?_,rfl,rfl⟩;try rfl);refine PV.int_eq ?_;simp [eY,ha0,hb0];done)
 ·rw [if_pos ha0] at sa
  rw [if_neg hb0] at sb
  repeat' (first|(apply Aa.fn;rfl;rfl;exact sa;intro _;rfl)|(apply Aa.fn;rfl;rfl;exact sb;intro _;rfl)|refine go1 ?_|(apply Aa.int;rfl;rfl;rfl)|(apply Ad.cond_true;rfl))
  all_goals first
   |(exfalso;omega)
   |((refine Done.rt rfl rfl ⟨?_,rfl,rfl⟩;try rfl);refine PV.int_eq ?_;unfold eY;rw [if_pos (by omega)];done)
 ·rw [if_neg ha0] at sa
  rw [if_pos hb0] at sb
  repeat' (first|(apply Aa.fn;rfl;rfl;exact sa;intro _;rfl)|(apply Aa.fn;rfl;rfl;exact sb;intro _;rfl)|refine go1 ?_|(apply Aa.int;rfl;rfl;rfl)|(apply Ad.cond_true;rfl)|(apply Ad.cond_false;rfl))
  all_goals first
   |(exfalso;omega)
   |((refine Done.rt rfl rfl ⟨?_,rfl,rfl⟩;try rfl);refine PV.int_eq ?_;unfold eY;rw [if_neg (by omega),if_pos (by omega)];done)
 ·rw [if_neg ha0] at sa
  rw [if_neg hb0] at sb;have hm1:Lib.nDigits a<Lib.nDigits b→a<b:=Num.NV;have hm2:Lib.nDigits b<Lib.nDigits a→b<a:=Num.NV
  repeat' (first|(apply Aa.fn;rfl;rfl;exact sa;intro _;rfl)|(apply Aa.fn;rfl;rfl;exact sb;intro _;rfl)|(apply Aa.fn;rfl;rfl;exact cut_spec' a;intro _;rfl)|(apply Aa.fn;rfl;rfl;exact cut_spec' b;intro _;rfl)|(apply Aa.fn;rfl;rfl;exact Xa _ _;intro _;rfl)|(apply Aa.Me;rfl;rfl)|refine Ij ?_|(apply Aa.int;rfl;rfl;rfl)|(apply Aa.neg;rfl;omega)|(apply Ad.cond_false;rfl)|(apply Ad.Aq;rfl)|(intro _;try (exfalso;omega)))
  ·(refine Done.rt rfl rfl ⟨?_,rfl,rfl⟩;try rfl)
   refine PV.int_eq ?_;have:=hm1 (by omega);unfold eY;rw [if_pos this]
  ·(refine Done.rt rfl rfl ⟨?_,rfl,rfl⟩;try rfl)
   refine PV.int_eq ?_;have:=hm2 (by omega);unfold eY;rw [if_neg (by omega),if_pos this]
  ·(refine Done.rt rfl rfl ⟨?_,rfl,rfl⟩;try rfl)
   refine PV.int_eq ?_;rw [Int.one_mul,b2o (by omega)]
end
end Go.Proofs.YtnjkoebfgcbbdaaGreatDoor
namespace Go.Vm
open Go.Am
theorem Uz {n:Int} (h0:n<0) (h:-18446744073709551616≤n):IntKind.u64.wrap n=n+18446744073709551616:=by
 have e:IntKind.u64.wrap n=n % 2^64:=by
  rfl
 omega
section
variable {E:Env} {L:Frame} {H:Heap} {nx:Nat} {Q:PV→Heap→Nat→Prop} {w:Bool}
variable {dst:Option Tmp} {ty:TypeId} {pos:String} {af:Array Edge} {gd:Option (Nat×Bool)}
theorem Aa.b6k {s d:TypeId} {x:Operand} {k':IntKind} {n:Int} {sd:TypeDesc} (hx:AU E.Γ L x=some (.p (.int k' n))) (hs:E.P.underlying s=some sd) (hns:qZ sd=true) (hd:E.P.underlying d=some (.int .u64)) (hn:n<0∧-18446744073709551616≤n) (q:Q (.p (.int .u64 (n+18446744073709551616))) H nx) :
 Aa E w ⟨dst,.convert s d x,ty,pos,af,gd⟩ L H nx Q:=Aa.YS hx hs hns hd (by rw [Uz hn.1 hn.2];exact q)
theorem Aa.c5p {t:TypeId} {x:Operand} {a:Int} (hx:AU E.Γ L x=some (.p (.int .u64 a))) (h:0<a∧a<18446744073709551616) (q:Q (.p (.int .u64 (18446744073709551616-a))) H nx):Aa E w ⟨dst,.unOp .neg t x,ty,pos,af,gd⟩ L H nx Q :=
 Aa.quiet q fun m F σ tt c1 c2=>by
  refine ⟨.int .u64 (18446744073709551616-a),fun _=>?_,.p (.int _ _)⟩;have hd:Dt E.P (Op.unary .neg (.int .u64 a))=some (.int .u64 (18446744073709551616-a)):=by
   simp only [Op.unary,Op.intArith,Int.zero_sub,Uz (n:=-a) (by omega) (by omega)];rw [show -a+18446744073709551616=18446744073709551616-a by omega];rfl
  simp only [BR,Fq,CO c1 c2 hx];rw [show plain (Value.int IntKind.u64 a)=true from rfl];simp only [if_true,KD hd rfl,Option.map_some]
theorem Aa.makeFunc {f:FuncId} {fs cs:Array Operand} {pf pc:List PV} (hf:evs E.Γ L fs.toList=some pf) (hc:evs E.Γ L cs.toList=some pc) (q:Q (.clo f pf pc) H nx):Aa E w ⟨dst,.makeFunc (.func f) fs cs,ty,pos,af,gd⟩ L H nx Q :=
 Aa.quiet q fun m F σ tt c1 c2=>by
  refine ⟨.func (.func f) (fs.toList.map (ev tt)).toArray (cs.toList.map (ev tt)).toArray,fun _=>?_,.clo (QS c1 c2 hf) (QS c1 c2 hc)⟩;simp only [BR,Fq,Option.map_some,← Array.toList_map,Array.toArray_toList]
end
end Go.Vm
namespace Go.Proofs.YtnjkoebfgcbbdaaGreatDoor
open Go Go.Am Go.Vm
attribute [local irreducible] Aa Ai Ag Ad AO Ap Bc BK Bh Ah Vm.Done Bv AB
structure LD where
 num:Int
 den:Int
instance:Enc LD:={ default:=⟨0,0⟩,enc:=fun x=>[.int .i64 x.num,.int .i64 x.den],size:=2,len:=fun _=>rfl }
theorem aH (n:Int) (h:-9223372036854775808≤n∧n<9223372036854775808):Ap env 198 [.int .i64 n] (.p (.int .u64 ((n.natAbs:Nat):Int))):=by
 refine Ap.enter (Af (by decide)) Tryz.func198 rfl (by kernel_rfl) (by simp [Tryz.ntmps198]) ?_
 repeat' (first|refine go1 ?_|(apply Aa.b6k;rfl;rfl;rfl;rfl;omega)|(apply Aa.c5p;rfl;omega)|(apply Aa.int;rfl;rfl;rfl)|(apply Aa.qU;rfl;rfl;rfl;rfl;omega)|(apply Ad.Ac;rfl)|(intro _;try (exfalso;omega)))
 all_goals (refine Done.rt rfl rfl ⟨?_,rfl,rfl⟩;refine PV.int_eq ?_;omega)
theorem a7o (a b:Nat) (ha:a<18446744073709551616) (hb:b<18446744073709551616):Ap env 197 [.int .u64 (a:Int),.int .u64 (b:Int)] (.p (.int .u64 ((Nat.gcd a b:Nat):Int))):=by
 refine Ap.enter (Af (by decide)) Tryz.func197 rfl (by kernel_rfl) (by simp) ?_
 repeat' (first|refine go1 ?_|fail)
 refine Ad.DL (fun s:Nat×Nat=>[(0,.p (.int .u64 (s.1:Int))),(1,.p (.int .u64 (s.2:Int)))]) (fun _=>[]) 0 (fun s=>s.1<18446744073709551616∧s.2<18446744073709551616∧Nat.gcd s.1 s.2=Nat.gcd a b) (fun s=>s.2) (a,b) (ab _) ⟨ha,hb,rfl⟩ ⟨ab _,?_,trivial⟩ ?_
 ·exact C9
 rintro ⟨x,y⟩ ⟨hx,hy,hg⟩;have hmod:0<y→x % y<y:=fun h=>bc _ h
 repeat' (first|refine Eu ?_|apply Ad.KO|(apply Ad.Ac;rfl)|(intro _))
 ·rename_i h1
  have hy0:0<y:=by omega
  refine Ah.normal ⟨(y,x % y),⟨hy,by omega,?_⟩,hmod hy0,⟨ab _,?_,trivial⟩⟩
  ·rw [← hg,Nat.gcd_comm x y,Nat.gcd_rec y x,Nat.gcd_comm]
  ·exact C9
 ·rename_i h1
  refine Done.rt rfl rfl ⟨?_,rfl,rfl⟩;simp_all
def fOk (x:LD):Prop:=0<x.den∧x.den≤1000000∧-1000000≤x.num∧x.num≤1000000∧Nat.gcd x.num.natAbs x.den.toNat=1
instance (x:LD):Decidable (fOk x):=by unfold fOk;infer_instance
def b3s (x:LD):Int:=if fOk x then 0 else 2
theorem qA (x:LD):Ap env 178 [.agg (Enc.enc x)] (.p (.int .i64 (b3s x))):=by
 refine Ap.enter (Af (by decide)) Tryz.func178 rfl (by kernel_rfl) (by simp [Tryz.ntmps178]) ?_;have hd:0<x.den→((x.den.toNat:Nat):Int)=x.den:=fun h=>cx (Int.le_of_lt h)
 have hg:0<x.den→x.den≤1000000→-1000000≤x.num→x.num≤1000000→Ap env 197 [.int .u64 ((x.num.natAbs:Nat):Int),.int .u64 x.den] (.p (.int .u64 ((Nat.gcd x.num.natAbs x.den.toNat:Nat):Int))):=fun h1 h2 h3 h4=>by
  have:=a7o x.num.natAbs x.den.toNat (by omega) (by omega)
  rwa [hd h1] at this
 repeat' (first|(apply Aa.fn;rfl;rfl;exact aH _ (by omega);intro _;rfl)|(apply Aa.fn;rfl;rfl;exact hg (by omega) (by omega) (by omega) (by omega);intro _;rfl)|refine fP ?_|(apply Ag.guard;rfl;rfl)|(apply Aa.int;rfl;rfl;rfl)|(apply Aa.qU;rfl;rfl;rfl;rfl;omega)|(apply Ad.AX;rfl)|(apply Ad.Ac;rfl)|(intro _;try (exfalso;omega)))
 all_goals (refine Done.rt rfl rfl ⟨?_,rfl,rfl⟩;refine PV.int_eq ?_;unfold b3s;first|(rw [if_neg (show ¬ fOk x from fun h=>by unfold fOk at h;omega)];done)|(rw [if_pos (show fOk x from by unfold fOk;omega)];done))
def pOk (x:LD):Prop:=fOk x∧0<x.num∧x.num≤128*x.den∧x.den≤128
instance (x:LD):Decidable (pOk x):=by unfold pOk;infer_instance
def RN (x:LD):Int:=if ¬ fOk x then 2 else if x.num≤0∨x.num>128*x.den then 3 else if x.den>128 then 4 else 0
theorem Ut {x:LD}:RN x=0↔pOk x:=by
 unfold RN pOk;grind
theorem MF (x:LD):Ap env 154 [.agg (Enc.enc x)] (.p (.int .i64 (RN x))):=by
 have hc:=qA x;refine Ap.enter (Af (by decide)) Tryz.func154 rfl (by kernel_rfl) (by simp [Tryz.ntmps154]) ?_;by_cases h1:fOk x
 ·rw [show b3s x=0 from if_pos h1] at hc
  have h1':=h1;obtain ⟨h2,h3,h4,h5,-⟩:=h1';have e:RN x=if x.num≤0∨x.num>128*x.den then 3 else if x.den>128 then 4 else 0:=by unfold RN;rw [if_neg (Classical.not_not.2 h1)]
  rw [e]
  repeat' (first|(apply Aa.fn;rfl;rfl;exact hc;intro _;rfl)|refine Ij ?_|(apply Ai.guard;rfl;rfl)|(apply Aa.int;rfl;rfl;rfl)|(apply Ad.cond_true;rfl)|(apply Ad.cond_false;rfl)|(apply Ad.Aq;rfl)|(intro _;try (exfalso;omega)))
  all_goals first|(exfalso;omega)|(rw [if_pos (by omega)];(refine Done.rt rfl rfl ⟨?_,rfl,rfl⟩;try rfl);done)|(rw [if_neg (by omega),if_pos (by omega)];(refine Done.rt rfl rfl ⟨?_,rfl,rfl⟩;try rfl);done)|(rw [if_neg (by omega),if_neg (by omega)];(refine Done.rt rfl rfl ⟨?_,rfl,rfl⟩;try rfl);done)
 ·rw [show b3s x=2 from if_neg h1] at hc
  rw [show RN x=2 from if_pos h1]
  repeat' (first|(apply Aa.fn;rfl;rfl;exact hc;intro _;rfl)|refine go1 ?_|(apply Aa.int;rfl;rfl;rfl)|(apply Ad.cond_true;rfl))
  all_goals (refine Done.rt rfl rfl ⟨?_,rfl,rfl⟩;try rfl)
def bothR (x y:LD):Int:=if RN x≠0 then RN x else RN y
theorem wR (x y:LD):Ap env 176 [.agg (Enc.enc x),.agg (Enc.enc y)] (.p (.int .i64 (bothR x y))):=by
 have h1:=MF x;have h2:=MF y;unfold bothR;refine Ap.enter (Af (by decide)) Tryz.func176 rfl (by kernel_rfl) (by simp) ?_
 repeat' (first|(apply Aa.fn;rfl;rfl;exact h1;intro _;rfl)|(apply Aa.fn;rfl;rfl;exact h2;intro _;rfl)|refine go1 ?_|(apply Aa.int;rfl;rfl;rfl)|(apply Ad.Ac;rfl)|(intro _))
 all_goals first|(rw [if_pos (by assumption)];(refine Done.rt rfl rfl ⟨?_,rfl,rfl⟩;try rfl);done)|(rw [if_neg (by omega)];(refine Done.rt rfl rfl ⟨?_,rfl,rfl⟩;try rfl);done)
def sh1 (den:Nat):Nat→Nat→Int→Nat×Int
 |0,num,n=>(num,n)
 |f+1,num,n=>if num<den then sh1 den f (num*2) (n-12) else (num,n)
def sh2 (num:Nat):Nat→Nat→Int→Nat×Int
 |0,den,n=>(den,n)
 |f+1,den,n=>if 2*den≤num then sh2 num f (den*2) (n+12) else (den,n)
def sh3 (p:Nat):Nat→Nat→Int→Int
 |0,l,n=>n
 |f+1,l,n=>if l<p then sh3 p f (l*4) (n+1) else n
def shN (num den:Nat):Int :=
 let a:=sh1 den 30 num 0
 let b:=sh2 a.1 30 den a.2
 sh3 (a.1 ^ 24) 30 (b.1 ^ 24*2) b.2
def shz (x y:LD):Int:=shN (y.num*x.den).toNat (y.den*x.num).toNat
theorem a5i (a b:Nat):eY a b>0↔b<a:=by
 unfold eY;omega
theorem a0r {n k:Nat} (hk:0<k) (h:n<10 ^ k):Lib.nDigits n≤k:=by
 rcases bo n with h0|h0
 ·subst h0;rw [Lib.nDigits_small (by decide)];omega
 ·have h1:=Num.Gm n (by omega)
  have h2:10 ^ (Lib.nDigits n-1)<10 ^ k:=cq h1 h;have h3:=(eJ (a:=10) (by decide)).1 h2;omega
theorem wI {n k e:Nat} (hk:0<k) (h:n<10 ^ k) (he:e≤100):Lib.nDigits (n ^ e)≤k*100:=by
 rcases bo e with h0|h0
 ·subst h0;rw [ez,Lib.nDigits_small (by decide)];omega
 ·refine a0r (by omega) ?_
  have h1:n ^ e<(10 ^ k) ^ e:=fx h (by omega);rw [← dE] at h1;exact ag h1 (aw (by decide) (cb _ he))
theorem a8q {a b j k:Nat} (ha:Lib.nDigits a≤j) (hb:Lib.nDigits b≤k):Lib.nDigits (a*b)≤j+k:=by
 have h1:=Lib.lt_pow_nDigits a;have h2:=Lib.lt_pow_nDigits b;have hp:=Lib.nDigits_pos a;refine a0r (by omega) ?_;rw [cC];have h3:a<10 ^ j:=ag h1 (aw (by decide) ha);have h4:b<10 ^ k:=ag h2 (aw (by decide) hb);exact fN h3 (ie h4) (dm (by decide))
theorem vG (x y:LD) (hx:pOk x) (hy:pOk y):Ap env 177 [.agg (Enc.enc x),.agg (Enc.enc y)] (.p (.int .i64 (shz x y))):=by
 obtain ⟨⟨f1,-⟩,f2,f3,f4⟩:=hx;obtain ⟨⟨g1,-⟩,g2,g3,g4⟩:=hy;obtain ⟨xn,hxn⟩:∃ k:Nat,x.num=k:=⟨x.num.toNat,by omega⟩
 obtain ⟨xd,hxd⟩:∃ k:Nat,x.den=k:=⟨x.den.toNat,by omega⟩
 obtain ⟨yn,hyn⟩:∃ k:Nat,y.num=k:=⟨y.num.toNat,by omega⟩
 obtain ⟨yd,hyd⟩:∃ k:Nat,y.den=k:=⟨y.den.toNat,by omega⟩
 have b1:yn*xd≤16384*128:=cV (by omega) (by omega);have b2:yd*xn≤128*16384:=cV (by omega) (by omega);have p1:0<yn*xd:=dC (by omega) (by omega);have p2:0<yd*xn:=dC (by omega) (by omega);have c1:y.num*x.den=((yn*xd:Nat):Int):=by rw [hyn,hxd,en]
 have c2:y.den*x.num=((yd*xn:Nat):Int):=by rw [hyd,hxn,en]
 have e:shz x y=shN (yn*xd) (yd*xn):=by unfold shz;rw [c1,c2];rfl
 rw [e];generalize yn*xd=num at *;generalize yd*xn=den at *;have z1:-9223372036854775808≤y.num*x.den∧y.num*x.den<9223372036854775808:=by omega
 have z2:-9223372036854775808≤y.den*x.num∧y.den*x.num<9223372036854775808:=by omega
 refine Ap.enter (Af (by decide)) Tryz.func177 rfl (by kernel_rfl) (by simp [Tryz.ntmps177]) ?_
 repeat' (first|refine Ij ?_|fail)
 refine Ad.DL (fun s:Nat×Nat=>[(5,.p (.int .i64 (s.2:Int))),(6,.p (.int .i64 (den:Int))),(7,.p (.int .i64 (-(12*(s.1:Int)))))]) (fun _=>[]) 0 (fun s=>s.1≤22∧s.2=num*2 ^ s.1∧s.2≤4194304∧sh1 den (30-s.1) s.2 (-(12*(s.1:Int)))=sh1 den 30 num 0) (fun s=>30-s.1) (0,num) (by omega) ⟨by omega,by simp,by simp only;omega,by simp⟩ ⟨by omega,?_,?_⟩ ?_
 ·simp only [c1,c2];exact C9
 ·exact BI.nil
 rintro ⟨i,m⟩ ⟨hi,hm,hm2,hs⟩;simp only at hi hm hm2 hs;have vV:∀ a b c:Nat,0<a→a*2 ^ b≤c→2 ^ b≤c:=fun a b c ha h=>am (Nat.le_mul_of_pos_left _ ha) h
 have h21:∀ b:Nat,2 ^ b≤2 ^ 21→b≤21:=fun b h=>(Nat.pow_le_pow_iff_right (by decide)).1 h
 have c8j:0<m:=by rw [hm];exact dC p1 (dm (by decide))
 repeat' (first|refine Eu ?_|(apply Ad.Ac;rfl)|(intro _;try (exfalso;omega)))
 ·rename_i a1
  simp only at a1;have hi2:i≤20:=by
   have h1:num*2 ^ i<den:=by rw [← hm];omega
   have h2:2 ^ i<2 ^ 21:=cq (vV _ _ _ p1 (ab _)) (by omega);have:=(eJ (a:=2) (by decide)).1 h2;omega
  have e7:-(12*((i+1:Nat):Int))=-(12*(i:Int))-12:=by omega
  refine Ah.normal ⟨(i+1,m*2),⟨by simp only;omega,by simp only;rw [hm,bA,df],by simp only;omega,?_⟩,by simp only;omega,⟨by omega,?_,?_⟩⟩
  ·simp only
   rw [← hs,show 30-i=(30-(i+1))+1 by omega,e7]
   conv=>rhs;rw [sh1]
   rw [if_pos (by omega)]
  ·simp only [e7];exact C9
  ·exact BI.nil
 ·rename_i a1
  simp only at a1;have hs1:sh1 den 30 num 0=(m,-(12*(i:Int))):=by
   rw [← hs];cases 30-i with
   |zero=>rfl
   |succ f=>rw [sh1,if_neg (by omega)]
  refine Ad.DL (fun s:Nat×Nat=>[(5,.p (.int .i64 (m:Int))),(6,.p (.int .i64 (s.2:Int))),(7,.p (.int .i64 (-(12*(i:Int))+12*(s.1:Int))))]) (fun _=>[]) 0 (fun s=>s.1≤22∧s.2=den*2 ^ s.1∧s.2≤4194304∧sh2 m (30-s.1) s.2 (-(12*(i:Int))+12*(s.1:Int))=sh2 m 30 den (-(12*(i:Int)))) (fun s=>30-s.1) (0,den) (by omega) ⟨by omega,by simp,by simp only;omega,by simp⟩ ⟨by omega,?_,?_⟩ ?_
  ·have e7:-(12*(i:Int))+12*((0:Nat):Int)=-(12*(i:Int)):=by omega
   simp only [e7];exact C9
  ·exact BI.nil
  rintro ⟨j,d⟩ ⟨hj,hd,hd2,ht⟩;simp only at hj hd hd2 ht;have c0z:0<d:=by rw [hd];exact dC p2 (dm (by decide))
  by_cases hdm:2*d≤m
  ·repeat' (first|refine Eu ?_|(apply Ad.Ac;rfl)|(intro _;try (exfalso;omega)))
   all_goals try (exfalso;omega)
   have hj2:j≤21:=by
    have h1:den*2 ^ j≤2 ^ 21:=by rw [← hd];omega
    exact h21 _ (vV _ _ _ p2 h1)
   have e7:-(12*(i:Int))+12*((j+1:Nat):Int)=-(12*(i:Int))+12*(j:Int)+12:=by omega
   refine Ah.normal ⟨(j+1,d*2),⟨by simp only;omega,by simp only;rw [hd,bA,df],by simp only;omega,?_⟩,by simp only;omega,⟨by omega,?_,?_⟩⟩
   ·simp only
    rw [← ht,show 30-j=(30-(j+1))+1 by omega,e7]
    conv=>rhs;rw [sh2]
    rw [if_pos hdm]
   ·simp only [e7];exact C9
   ·exact BI.nil
  ·have hs2:sh2 m 30 den (-(12*(i:Int)))=(d,-(12*(i:Int))+12*(j:Int)):=by
    rw [← ht];cases 30-j with
    |zero=>rfl
    |succ f=>rw [sh2,if_neg hdm]
   have hR:shN num den=sh3 (m ^ 24) 30 (d ^ 24*2) (-(12*(i:Int))+12*(j:Int)):=by
    unfold shN;rw [hs1];simp only;rw [hs2]
   rw [hR];have om:=Uf (m:Int) (by omega);have od:=Uf (d:Int) (by omega);rw [a8n] at om od;have nm:Lib.nDigits m≤7:=a0r (by decide) (by omega);have nd:Lib.nDigits d≤7:=a0r (by decide) (by omega);have pm:=Zy m 24 (by decide) (by omega) (by omega);have pd:=Zy d 24 (by decide) (by omega) (by omega);have np:Lib.nDigits (m ^ 24)≤700:=wI (k:=7) (by decide) (by omega) (by decide);have nq:Lib.nDigits (d ^ 24)≤700:=wI (k:=7) (by decide) (by omega) (by decide);have n2:Lib.nDigits 2=1:=Lib.nDigits_small (by decide);have n4:Lib.nDigits 4=1:=Lib.nDigits_small (by decide);have q2:=qE (d ^ 24) 2 (by omega) (by omega);rw [show Lib.decDigits 2=[50] by decide +kernel] at q2;have hpq:m ^ 24<2 ^ 24*d ^ 24:=by
    rw [← Nat.mul_pow];exact fx (by omega) (by decide)
   have c8f:0<d ^ 24:=dm c0z;generalize m ^ 24=p at *;generalize d ^ 24=q at *
   repeat' (first|(apply Aa.fn;rfl;rfl;exact om;intro _;rfl)|(apply Aa.fn;rfl;rfl;exact od;intro _;rfl)|(apply Aa.fn;rfl;rfl;exact pm;intro _;rfl)|(apply Aa.fn;rfl;rfl;exact pd;intro _;rfl)|(apply Aa.fn;rfl;rfl;exact q2;intro _;rfl)|refine Ij ?_|(apply Aa.int;rfl;rfl;rfl)|(apply Ad.Ac;rfl)|(intro _;try (exfalso;omega)))
   all_goals try (exfalso;omega)
   generalize hn0:-(12*(i:Int))+12*(j:Int)=n0 at *;have d1w:-1000≤n0∧n0≤1000:=by omega
   refine Ad.DL (fun k:Nat=>[(8,st (Lib.decDigits p)),(12,st (Lib.decDigits (q*2*4 ^ k))),(7,.p (.int .i64 (n0+(k:Int))))]) (fun _=>[]) 0 (fun k=>k≤20∧sh3 p (30-k) (q*2*4 ^ k) (n0+(k:Int))=sh3 p 30 (q*2) n0) (fun k=>30-k) 0 (by omega) ⟨by omega,by simp⟩ ⟨by omega,?_,?_⟩ ?_
   ·have e7:n0+((0:Nat):Int)=n0:=by omega
    rw [e7,ez,gA];exact C9
   ·exact BI.nil
   rintro k ⟨hk,hs⟩;have nl:Lib.nDigits (q*2*4 ^ k)≤1000:=by
    have h1:=a8q (a:=q) (b:=2) (j:=700) (k:=1) (by omega) (by omega);have h2:Lib.nDigits (4 ^ k)≤100:=wI (n:=4) (k:=1) (by decide) (by decide) (by omega);have h3:=a8q h1 h2;omega
   have cc:=ny p (q*2*4 ^ k) (by omega) (by omega);have q4:=qE (q*2*4 ^ k) 4 (by omega) (by omega);rw [show Lib.decDigits 4=[52] by decide +kernel] at q4;have hcp:=a5i p (q*2*4 ^ k);by_cases hlt:q*2*4 ^ k<p
   ·have hc:=hcp.2 hlt
    have hk2:k≤12:=by
     have h1:q*(2*4 ^ k)<q*2 ^ 24:=by rw [← df,dd q (2 ^ 24)];omega
     have h2:=Nat.lt_of_mul_lt_mul_left h1;have h3:2*4 ^ k=2 ^ (1+2*k):=by rw [cC,dE,Nat.pow_one]
     rw [h3] at h2;have:=(eJ (a:=2) (by decide)).1 h2;omega
    have e7:n0+((k+1:Nat):Int)=n0+(k:Int)+1:=by omega
    repeat' (first|(apply Aa.fn;rfl;rfl;exact cc;intro _;rfl)|(apply Aa.fn;rfl;rfl;exact q4;intro _;rfl)|refine go1 ?_|(apply Aa.int;rfl;rfl;rfl)|(apply Ad.Ac;rfl)|(intro _;try (exfalso;omega)))
    all_goals try (exfalso;omega)
    refine Ah.normal ⟨k+1,⟨by omega,?_⟩,by omega,⟨by omega,?_,?_⟩⟩
    ·rw [← hs,show 30-k=(30-(k+1))+1 by omega,e7]
     conv=>rhs;rw [sh3]
     rw [if_pos hlt,bA,df (q*2)]
    ·rw [e7,bA,← df];exact C9
    ·exact BI.nil
   ·have hc:¬ eY p (q*2*4 ^ k)>0:=fun h=>hlt (hcp.1 h)
    have hR3:sh3 p 30 (q*2) n0=n0+(k:Int):=by
     rw [← hs];cases 30-k with
     |zero=>rfl
     |succ f=>rw [sh3,if_neg hlt]
    rw [hR3]
    repeat' (first|(apply Aa.fn;rfl;rfl;exact cc;intro _;rfl)|refine Ij ?_|(apply Aa.int;rfl;rfl;rfl)|(apply Ad.Ac;rfl)|(intro _;try (exfalso;omega)))
    all_goals first|(exfalso;omega)|(refine Done.rt rfl rfl ⟨?_,rfl,rfl⟩;try rfl)
def AZ (x y:LD):Int×Int:=if bothR x y≠0 then (0,bothR x y) else (shz x y,0)
theorem a6f {x y:LD}:bothR x y=0↔pOk x∧pOk y:=by
 unfold bothR;rw [← Ut,← Ut];omega
theorem Xp (x y:LD):Ap env 152 [.agg (Enc.enc x),.agg (Enc.enc y)] (.Eb [.p (.int .i64 (AZ x y).1),.p (.int .i64 (AZ x y).2)]):=by
 have hb:=wR x y;by_cases h:bothR x y=0
 ·rw [h] at hb
  have ok:=a6f.1 h;have hs:=vG x y ok.1 ok.2;rw [show AZ x y=(shz x y,0) from if_neg (fun h'=>h' h)];refine Ap.enter (Af (by decide)) Tryz.func152 rfl (by kernel_rfl) (by simp [Tryz.ntmps152]) ?_
  repeat' (first|(apply Aa.fn;rfl;rfl;exact hb;intro _;rfl)|(apply Aa.fn;rfl;rfl;exact hs;intro _;rfl)|refine go1 ?_|(apply Aa.int;rfl;rfl;rfl)|(apply Ad.Ak;rfl))
  all_goals first|(exfalso;omega)|(refine Done.rt rfl rfl ⟨?_,rfl,rfl⟩;try rfl)
 ·rw [show AZ x y=(0,bothR x y) from if_pos h]
  refine Ap.enter (Af (by decide)) Tryz.func152 rfl (by kernel_rfl) (by simp [Tryz.ntmps152]) ?_
  repeat' (first|(apply Aa.fn;rfl;rfl;exact hb;intro _;rfl)|refine go1 ?_|(apply Aa.int;rfl;rfl;rfl)|(apply Ad.Ac;rfl)|(intro _;try (exfalso;omega)))
  all_goals first|(exfalso;omega)|(refine Done.rt rfl rfl ⟨?_,rfl,rfl⟩;try rfl)
structure Hu where
 name:List UInt8
 JO:List UInt8
 Ec:LD
 first:Int
 E5:List Int
instance:Enc Hu:={ default:=⟨[],[],⟨0,0⟩,0,[]⟩,enc:=fun r=>[.str (bs r.name),.str (bs r.JO),.int .i64 r.Ec.num,.int .i64 r.Ec.den,.int .i64 r.first,.lst 3 (cells r.E5) r.E5.length],size:=6,len:=fun _=>rfl }
theorem PV.Je {a b:Bool} (h:a=b):PV.p (.bool a)=PV.p (.bool b) :=by grind
def kM (x:Int):Prop:=x<0∨x>1000000
instance (x:Int):Decidable (kM x):=by unfold kM;infer_instance
theorem b3i (x:Int):Ap env 180 [.int .i64 x] (.p (.bool (decide (kM x)))):=by
 refine Ap.enter (Af (by decide)) Tryz.func180 rfl (by kernel_rfl) (by simp) ?_
 repeat' (first|refine Eu ?_|(apply Ai.guard;rfl;rfl)|(intro _))
 all_goals (refine Done.rt rfl rfl ⟨?_,rfl,rfl⟩;refine PV.Je ?_;first|(refine decide_eq_decide.2 ⟨fun h=>by unfold kM;omega,fun h=>by unfold kM at h;omega⟩)|(symm;apply decide_eq_true;unfold kM;omega))
def okW (l:List Int):Prop:=∀ i,i<l.length→¬ kM (gi l i)
noncomputable instance (l:List Int):Decidable (okW l):=Classical.propDecidable _
noncomputable def Ba (l:List Int):Int:=if okW l then 0 else 3
theorem b7m {L:Vm.Frame} {H:Vm.Heap} {nx:Nat} {Q:PV→Vm.Heap→Nat→Prop} {dst:Option Tmp} {ty:TypeId} {pos:String} {af:Array Edge} {gd:Option (Nat×Bool)} {fo:Operand} {args:Array Operand} {aT:Array TypeId} {fs cs xs:List PV} {c:Code}
 (hf:AU env.Γ L fo=some (.clo 179 fs cs)) (ha:evs env.Γ L args.toList=some xs) (hb:Tryz.f179.body=some c) (hn:(fs++xs++cs).length≤Tryz.f179.ntmps)
 (h:Ad env nx c (Ci 0 (fs++xs++cs)) H nx (AB env.P Tryz.f179.results.toList Q)):Aa env true ⟨dst,.call { callee:=.value fo,args:=args,argTypes:=aT },ty,pos,af,gd⟩ L H nx Q:=by
 have h0:(match Tryz.f179.body with|some c=>IJ env.G Tryz.f179 c|none=>false)=true:=by kernel_rfl
 rw [hb] at h0;exact Aa.inline rfl hf ha (Af (by decide)) Tryz.func179 hb h0 hn h
theorem b7n {L:Vm.Frame} {H:Vm.Heap} {nx:Nat} {Q:PV→Vm.Heap→Nat→Prop} {dst:Option Tmp} {ty:TypeId} {pos:String} {af:Array Edge} {gd:Option (Nat×Bool)} {fo:Operand} {args:Array Operand} {aT:Array TypeId} {fs cs xs:List PV} {c:Code}
 (hf:AU env.Γ L fo=some (.clo 160 fs cs)) (ha:evs env.Γ L args.toList=some xs) (hb:Tryz.f160.body=some c) (hn:(fs++xs++cs).length≤Tryz.f160.ntmps)
 (h:Ad env nx c (Ci 0 (fs++xs++cs)) H nx (AB env.P Tryz.f160.results.toList Q)):Aa env true ⟨dst,.call { callee:=.value fo,args:=args,argTypes:=aT },ty,pos,af,gd⟩ L H nx Q:=by
 have h0:(match Tryz.f160.body with|some c=>IJ env.G Tryz.f160 c|none=>false)=true:=by kernel_rfl
 rw [hb] at h0;exact Aa.inline rfl hf ha (Af (by decide)) Tryz.func160 hb h0 hn h
theorem uP (l:List Int) (hl:l.length<9223372036854775808):Ap env 156 [.lst 3 (cells l) l.length] (.p (.int .i64 (Ba l))):=by
 refine Ap.enter (Af (by decide)) Tryz.func156 rfl (by kernel_rfl) (by simp) ?_
 repeat' (first|(apply b7m;rfl;rfl;rfl;exact le_dec rfl)|(apply b7n;rfl;rfl;rfl;exact le_dec rfl)|refine go1 ?_|fail)
 refine Ad.DL (fun k:Nat=>[(0,lst 3 l),(1,.clo 180 [] []),(7,.p (.int .i64 (l.length:Int))),(8,.p (.int .i64 (k:Int)))]) (fun _=>[]) 0 (fun k=>k≤l.length∧∀ i,i<k→¬ kM (gi l i)) (fun k=>l.length-k) 0 (by omega) ⟨by omega,fun i hi=>by omega⟩ ⟨by omega,?_,?_⟩ ?_
 ·exact C9
 ·exact BI.nil
 rintro k ⟨hk,hok⟩;have hw:=b3i (gi l k)
 repeat' (first|(apply Aa.fn;rfl;rfl;exact hw;intro _;rfl)|(apply Aa.Aj;rfl;rfl;rfl;omega;rfl)|refine Ij ?_|(apply AB.ret;rfl)|(apply Aa.int;rfl;rfl;rfl)|(apply Ad.AX;rfl)|(apply Ad.Ak;rfl)|(apply Ad.Ac;rfl)|(apply Ad.Aq;rfl)|(intro _))
 ·rename_i a1 a2
  rw [show Ba l=3 from if_neg (fun h=>h k (by omega) a2)]
  (refine Done.rt rfl rfl ⟨?_,rfl,rfl⟩;try rfl)
 ·rename_i a1 a2
  refine Ah.normal ⟨k+1,⟨by omega,fun i hi=>?_⟩,by omega,⟨by omega,?_,?_⟩⟩
  ·grind
  ·exact C9
  ·exact BI.nil
 ·rename_i a1
  rw [show Ba l=0 from if_pos (fun i hi=>hok i (by omega))]
  (refine Done.rt rfl rfl ⟨?_,rfl,rfl⟩;try rfl)
def rD (c:Nat):Prop:=(65≤c∧c≤90)∨(97≤c∧c≤122)
instance (c:Nat):Decidable (rD c):=by unfold rD;infer_instance
def nmC (c:Nat):Prop:=rD c∨(48≤c∧c≤57)∨c=95
theorem X6 (c:Nat) (hc:c<256):Ap env 153 [.int .u8 (c:Int)] (.p (.bool (decide (rD c)))):=by
 refine Ap.enter (Af (by decide)) Tryz.func153 rfl (by kernel_rfl) (by simp) ?_
 repeat' (first|refine Eu ?_|(apply Ai.guard;rfl;rfl)|(intro _))
 all_goals (refine Done.rt rfl rfl ⟨?_,rfl,rfl⟩;refine PV.Je ?_;first|(refine decide_eq_decide.2 ⟨fun h=>by unfold rD;omega,fun h=>by unfold rD at h;omega⟩)|(symm;apply decide_eq_true;unfold rD;omega)|(symm;apply decide_eq_false;unfold rD;omega))
def DF (s:List UInt8):Prop:=0<s.length∧s.length≤32∧rD (gi s 0).toNat∧∀ i,1≤i→i<s.length→nmC (gi s i).toNat
noncomputable instance (s:List UInt8):Decidable (DF s):=Classical.propDecidable _
theorem IC (s:List UInt8) (hs:s.length<9223372036854775808):Ap env 117 [.str (bs s)] (.p (.bool (decide (DF s)))):=by
 have hl0:=X6 (gi s 0).toNat (gi s 0).toNat_lt;by_cases hz:s=[]
 ·subst hz
  rw [decide_eq_false (show ¬ DF [] from fun h=>absurd h.1 (by decide))];refine Ap.enter (Af (by decide)) Tryz.func117 rfl (by kernel_rfl) (by simp) ?_
  repeat' (first|refine Ij ?_|(apply Aa.eqS;rfl;rfl)|(apply Ad.AX;rfl))
  all_goals first|(refine Done.rt rfl rfl ⟨?_,rfl,rfl⟩;try rfl)|contradiction
 ·have hpos:0<s.length:=gR.2 hz
  refine Ap.enter (Af (by decide)) Tryz.func117 rfl (by kernel_rfl) (by simp) ?_;by_cases h32:s.length≤32
  ·by_cases hL:rD (gi s 0).toNat
   ·rw [decide_eq_true hL] at hl0
    repeat' (first|(apply Aa.fn;rfl;rfl;exact hl0;intro _;rfl)|(apply Aa.Vj (i:=0);rfl;rfl;rfl;omega)|(apply Aa.Me;rfl;rfl)|refine Ij ?_|(apply Ai.guard;rfl;rfl)|(apply Aa.int;rfl;rfl;rfl)|(apply Aa.eqS;rfl;rfl)|(apply Ad.AX;rfl)|(apply Ad.Ak;rfl)|(intro _;try (exfalso;omega)))
    all_goals try (exfalso;omega)
    all_goals try contradiction
    refine Ad.DL (fun k:Nat=>[(0,st s),(3,.p (.int .i64 (k:Int)))]) (fun _=>[]) 0 (fun k=>1≤k∧k≤s.length∧∀ i,1≤i→i<k→nmC (gi s i).toNat) (fun k=>s.length-k) 1 (by omega) ⟨by omega,by omega,fun i h1 h2=>by omega⟩ ⟨by omega,?_,?_⟩ ?_
    ·exact C9
    ·exact BI.nil
    rintro k ⟨hk1,hk2,hok⟩;have hlk:=X6 (gi s k).toNat (gi s k).toNat_lt;have hc256:=(gi s k).toNat_lt;have hnext:nmC (gi s k).toNat→∀ i,1≤i→i<k+1→nmC (gi s i).toNat:=fun h i h1 h2=>by
     rcases an i k with h3|h3
     ·exact hok i h1 h3
     ·obtain rfl:i=k:=by omega
      exact h
    have hbad:k<s.length→¬ nmC (gi s k).toNat→decide (DF s)=false:=fun h1 h2=>decide_eq_false fun h=>h2 (h.2.2.2 k hk1 h1)
    by_cases hkl:k<s.length
    ·by_cases hLk:rD (gi s k).toNat
     ·rw [decide_eq_true hLk] at hlk
      repeat' (first|(apply Aa.fn;rfl;rfl;exact hlk;intro _;rfl)|(apply Aa.Me;rfl;rfl)|(apply Aa.Vj;rfl;rfl;rfl;omega)|refine Ij ?_|(apply Aa.int;rfl;rfl;rfl)|(apply Ad.Ac;rfl)|(apply Ad.cond_false;rfl)|(intro _;try (exfalso;omega)))
      all_goals try (exfalso;omega)
      refine Ah.normal ⟨k+1,⟨by omega,by omega,hnext (.inl hLk)⟩,by omega,⟨by omega,?_,?_⟩⟩
      ·exact C9
      ·exact BI.nil
     ·rw [decide_eq_false hLk] at hlk
      have hn1:nmC (gi s k).toNat↔(48≤(gi s k).toNat∧(gi s k).toNat≤57)∨(gi s k).toNat=95:=⟨fun h=>h.resolve_left hLk,fun h=>.inr h⟩
      repeat' (first|(apply Aa.fn;rfl;rfl;exact hlk;intro _;rfl)|(apply Aa.Me;rfl;rfl)|(apply Aa.Vj;rfl;rfl;rfl;omega)|refine Ij ?_|(apply Ai.guard;rfl;rfl)|(apply Aa.int;rfl;rfl;rfl)|(apply Ad.Ac;rfl)|(apply Ad.cond_false;rfl)|(apply Ad.Aq;rfl)|(intro _;try (exfalso;omega)))
      all_goals try (exfalso;omega)
      all_goals first
       |(rw [hbad hkl (fun h=>by have:=hn1.1 h;omega)];(refine Done.rt rfl rfl ⟨?_,rfl,rfl⟩;try rfl);done)
       |(refine Ah.normal ⟨k+1,⟨by omega,by omega,hnext (hn1.2 (by omega))⟩,by omega,⟨by omega,?_,BI.nil⟩⟩;exact C9)
    ·obtain rfl:k=s.length:=by omega
     rw [decide_eq_true (show DF s from ⟨hpos,h32,hL,fun i h1 h2=>hok i h1 h2⟩)]
     repeat' (first|(apply Aa.Me;rfl;rfl)|refine Eu ?_|(apply Ad.Ac;rfl)|(intro _;try (exfalso;omega)))
     all_goals first|(exfalso;omega)|(refine Done.rt rfl rfl ⟨?_,rfl,rfl⟩;try rfl)
   ·rw [decide_eq_false (show ¬ DF s from fun h=>hL h.2.2.1)]
    rw [decide_eq_false hL] at hl0
    repeat' (first|(apply Aa.fn;rfl;rfl;exact hl0;intro _;rfl)|(apply Aa.Vj (i:=0);rfl;rfl;rfl;omega)|(apply Aa.Me;rfl;rfl)|refine Ij ?_|(apply Ai.guard;rfl;rfl)|(apply Aa.int;rfl;rfl;rfl)|(apply Aa.eqS;rfl;rfl)|(apply Ad.AX;rfl)|(intro _;try (exfalso;omega)))
    all_goals first|(exfalso;omega)|contradiction|(refine Done.rt rfl rfl ⟨?_,rfl,rfl⟩;try rfl)
  ·rw [decide_eq_false (show ¬ DF s from fun h=>h32 h.2.1)]
   repeat' (first|(apply Aa.Me;rfl;rfl)|refine Eu ?_|(apply Ai.guard;rfl;rfl)|(apply Aa.eqS;rfl;rfl)|(apply Ad.AX;rfl)|(intro _;try (exfalso;omega)))
   all_goals first|(exfalso;omega)|contradiction|(refine Done.rt rfl rfl ⟨?_,rfl,rfl⟩;try rfl)
noncomputable def Ce (r:Hu):Int:=if ¬ DF r.name∨¬ DF r.JO then 8 else if RN r.Ec≠0 then RN r.Ec else if r.first< -256∨r.first>256 then 3 else if r.E5.length=0 then 13 else if r.E5.length>128 then 4 else Ba r.E5
def Qo (n:Int):Prop:=-256≤n∧n≤256
instance (n:Int):Decidable (Qo n):=by unfold Qo;infer_instance
theorem uN (n:Int):Ap env 155 [.int .i64 n] (.p (.bool (decide (Qo n)))):=by
 refine Ap.enter (Af (by decide)) Tryz.func155 rfl (by kernel_rfl) (by simp) ?_
 repeat' (first|refine Eu ?_|(apply Ai.guard;rfl;rfl)|(intro _))
 all_goals (refine Done.rt rfl rfl ⟨?_,rfl,rfl⟩;refine PV.Je ?_;first|(refine decide_eq_decide.2 ⟨fun h=>by unfold Qo;omega,fun h=>by unfold Qo at h;omega⟩)|(symm;apply decide_eq_false;unfold Qo;omega))
theorem Xl (r:Hu) (h1:r.name.length<9223372036854775808) (h2:r.JO.length<9223372036854775808) (h3:r.E5.length<9223372036854775808):Ap env 118 [.agg (Enc.enc r)] (.p (.int .i64 (Ce r))):=by
 have n1:=IC r.name h1;have n2:=IC r.JO h2;have p1:=MF r.Ec;have f1:=uN r.first;have w1:=uP r.E5 h3;unfold Ce;refine Ap.enter (Af (by decide)) Tryz.func118 rfl (by kernel_rfl) (by simp [Tryz.ntmps118]) ?_;by_cases a1:DF r.name
 ·rw [decide_eq_true a1] at n1
  by_cases a2:DF r.JO
  ·rw [decide_eq_true a2] at n2
   rw [if_neg (fun h=>h.elim (fun h=>h a1) (fun h=>h a2))];by_cases a3:Qo r.first
   ·rw [decide_eq_true a3] at f1
    unfold Qo at a3
    repeat' (first|(apply Aa.fn;rfl;rfl;exact n1;intro _;rfl)|(apply Aa.fn;rfl;rfl;exact n2;intro _;rfl)|(apply Aa.fn;rfl;rfl;exact p1;intro _;rfl)|(apply Aa.fn;rfl;rfl;exact f1;intro _;rfl)|(apply Aa.fn;rfl;rfl;exact w1;intro _;rfl)|refine Ij ?_|(apply Aa.int;rfl;rfl;rfl)|(apply Ad.Ak;rfl)|(apply Ad.Ac;rfl)|(apply Ad.cond_false;rfl)|(apply Ad.Aq;rfl)|(intro _;try (exfalso;omega)))
    all_goals first
     |(rw [if_pos (by assumption)];(refine Done.rt rfl rfl ⟨?_,rfl,rfl⟩;try rfl);done)
     |(rw [if_neg (by assumption),if_neg (by omega),if_pos (by omega)];(refine Done.rt rfl rfl ⟨?_,rfl,rfl⟩;try rfl);done)
     |(rw [if_neg (by assumption),if_neg (by omega),if_neg (by omega),if_pos (by omega)];(refine Done.rt rfl rfl ⟨?_,rfl,rfl⟩;try rfl);done)
     |(rw [if_neg (by assumption),if_neg (by omega),if_neg (by omega),if_neg (by omega)];(refine Done.rt rfl rfl ⟨?_,rfl,rfl⟩;try rfl);done)
   ·rw [decide_eq_false a3] at f1
    unfold Qo at a3
    repeat' (first|(apply Aa.fn;rfl;rfl;exact n1;intro _;rfl)|(apply Aa.fn;rfl;rfl;exact n2;intro _;rfl)|(apply Aa.fn;rfl;rfl;exact p1;intro _;rfl)|(apply Aa.fn;rfl;rfl;exact f1;intro _;rfl)|refine Ij ?_|(apply Aa.int;rfl;rfl;rfl)|(apply Ad.Ak;rfl)|(apply Ad.Ac;rfl)|(apply Ad.cond_true;rfl)|(intro _;try (exfalso;omega)))
    all_goals first
     |(rw [if_pos (by assumption)];(refine Done.rt rfl rfl ⟨?_,rfl,rfl⟩;try rfl);done)
     |(rw [if_neg (by assumption),if_pos (by omega)];(refine Done.rt rfl rfl ⟨?_,rfl,rfl⟩;try rfl);done)
  ·rw [decide_eq_false a2] at n2
   rw [if_pos (.inr a2)]
   repeat' (first|(apply Aa.fn;rfl;rfl;exact n1;intro _;rfl)|(apply Aa.fn;rfl;rfl;exact n2;intro _;rfl)|refine Ij ?_|(apply Ad.AX;rfl))
   all_goals (refine Done.rt rfl rfl ⟨?_,rfl,rfl⟩;try rfl)
 ·rw [decide_eq_false a1] at n1
  rw [if_pos (.inl a1)]
  repeat' (first|(apply Aa.fn;rfl;rfl;exact n1;intro _;rfl)|refine Ij ?_|(apply Ad.AX;rfl))
  all_goals (refine Done.rt rfl rfl ⟨?_,rfl,rfl⟩;try rfl)
end Go.Proofs.YtnjkoebfgcbbdaaGreatDoor
namespace Go.Proofs.YtnjkoebfgcbbdaaGreatDoor
open Go Go.Am Go.Vm
structure uK where
 rank:Int
 shift:Int
instance:Enc uK:={ default:=⟨0,0⟩,enc:=fun x=>[.int .i64 x.rank,.int .i64 x.shift],size:=2,len:=fun _=>rfl }
structure Seg where
 lo:Int
 hi:Int
 draws:List uK
instance:Enc Seg:={ default:=⟨0,0,[]⟩,enc:=fun x=>[.int .i64 x.lo,.int .i64 x.hi,.lst 270 (cells x.draws) x.draws.length],size:=3,len:=fun _=>rfl }
structure Stp where
 name:List UInt8
 Ec:LD
 I9:List Seg
instance:Enc Stp:={ default:=⟨[],⟨0,0⟩,[]⟩,enc:=fun x=>[.str (bs x.name),.int .i64 x.Ec.num,.int .i64 x.Ec.den,.lst 273 (cells x.I9) x.I9.length],size:=4,len:=fun _=>rfl }
structure oh where
 name:List UInt8
 QK:Bool
 lo:Int
 hi:Int
 stops:List Stp
instance:Enc oh:={ default:=⟨[],false,0,0,[]⟩,enc:=fun x=>[.str (bs x.name),.bool x.QK,.int .i64 x.lo,.int .i64 x.hi,.lst 229 (cells x.stops) x.stops.length],size:=5,len:=fun _=>rfl }
structure nZ where
 name:List UInt8
 VX:Int
 tgt:Int
 shift:Int
 through:Bool
instance:Enc nZ:={ default:=⟨[],0,0,0,false⟩,enc:=fun x=>[.str (bs x.name),.int .i64 x.VX,.int .i64 x.tgt,.int .i64 x.shift,.bool x.through],size:=5,len:=fun _=>rfl }
structure Ic where
 name:List UInt8
 ranks:List Hu
 Ae:List oh
 I8:List nZ
instance:Enc Ic:={ default:=⟨[],[],[],[]⟩,enc:=fun x=>[.str (bs x.name),.lst 113 (cells x.ranks) x.ranks.length,.lst 118 (cells x.Ae) x.Ae.length,.lst 236 (cells x.I8) x.I8.length],size:=4,len:=fun _=>rfl }
structure oq where
 lo:Int
 hi:Int
instance:Enc oq:={ default:=⟨0,0⟩,enc:=fun x=>[.int .i64 x.lo,.int .i64 x.hi],size:=2,len:=fun _=>rfl }
noncomputable instance (a b:uK):Decidable (a=b):=Classical.propDecidable _
noncomputable instance (a:uK) (l:List uK):Decidable (a∈l):=Classical.propDecidable _
noncomputable instance (a:List UInt8) (l:List (List UInt8)):Decidable (a∈l):=Classical.propDecidable _
def Yn (lo hi:Int):Int:=if lo<0∨hi>127 then 3 else if lo>hi then 23 else 0
noncomputable def Sm (n:Nat) (l:List uK) (k:Nat):Int :=
 if k<l.length then
  if (gi l k).rank<0∨(gi l k).rank≥n then 10 else if (gi l k).shift< -127∨(gi l k).shift>127 then 3 else if gi l k∈l.take k then 9 else Sm n l (k+1)
 else 0
termination_by l.length-k
noncomputable def Zk (n:Nat) (l:List uK):Int:=if l.length>8 then 4 else Sm n l 0
noncomputable def MP (n:Nat) (lo hi:Int) (l:List Seg) (k:Nat):Int :=
 if k<l.length then
  if min (gi l k).lo (gi l k).hi<lo∨max (gi l k).lo (gi l k).hi>hi then 23 else if (gi l k).lo>(gi l k).hi∨0<k∧(gi l k).lo≤(gi l (k-1)).hi then 6
  else if Zk n (gi l k).draws≠0 then Zk n (gi l k).draws else MP n lo hi l (k+1)
 else 0
termination_by l.length-k
noncomputable def b7i (n:Nat) (lo hi:Int) (s:Stp):Int :=
 if ¬ DF s.name then 8 else if RN s.Ec≠0 then RN s.Ec else if s.I9.length=0 then 13 else if s.I9.length>12 then 4 else MP n lo hi s.I9 0
noncomputable def eG (l:List Hu) (k:Nat):Int :=
 if k<l.length then if Ce (gi l k)≠0 then Ce (gi l k) else eG l (k+1) else 0
termination_by l.length-k
noncomputable def uF (l:List Hu) (lo hi:Int):Int:=if l.length>60 then 4 else if eG l 0≠0 then eG l 0 else Yn lo hi
noncomputable def DX (rk:List Hu) (lo hi:Int) (s:Stp):Int:=if uF rk lo hi≠0 then uF rk lo hi else b7i rk.length lo hi s
noncomputable def Qd (l:List Hu) (k:Nat):Int :=
 if k<l.length then if Ce (gi l k)≠0 then Ce (gi l k) else if (gi l k).name∈(l.take k).map Hu.name then 9 else Qd l (k+1) else 0
termination_by l.length-k
noncomputable def Sr (rk:List Hu) (lo hi:Int) (l:List Stp) (k:Nat):Int :=
 if k<l.length then if DX rk lo hi (gi l k)≠0 then DX rk lo hi (gi l k) else if (gi l k).name∈(l.take k).map Stp.name then 9 else Sr rk lo hi l (k+1) else 0
termination_by l.length-k
noncomputable def DJ (rk:List Hu) (d:oh):Int:=if Yn d.lo d.hi≠0 then Yn d.lo d.hi else if d.stops.length>60 then 4 else Sr rk d.lo d.hi d.stops 0
noncomputable def Gt (rk:List Hu) (l:List oh) (k:Nat):Int :=
 if k<l.length then if ¬ DF (gi l k).name then 8 else if (gi l k).name∈(l.take k).map oh.name then 9 else if DJ rk (gi l k)≠0 then DJ rk (gi l k) else Gt rk l (k+1) else 0
termination_by l.length-k
noncomputable def Sj (n:Nat) (l:List nZ) (k:Nat):Int :=
 if k<l.length then
  if ¬ DF (gi l k).name then 8 else if (gi l k).name∈(l.take k).map nZ.name then 9
  else if (gi l k).VX<0∨(gi l k).VX≥n∨(gi l k).tgt<0∨(gi l k).tgt≥n then 10
  else if (gi l k).shift< -127∨(gi l k).shift>127 then 3 else if (gi l k).VX=(gi l k).tgt∧(gi l k).shift=0 then 7 else Sj n l (k+1)
 else 0
termination_by l.length-k
noncomputable def TN (l:List oq) (k:Nat):Int:=if k<l.length then if Yn (gi l k).lo (gi l k).hi≠0 then 23 else TN l (k+1) else 0
termination_by l.length-k
noncomputable def En (ks:List oq) (l:List nZ):Int:=if ks.length>8∨l.length>40 then 4 else if TN ks 0≠0 then TN ks 0 else Sj ks.length l 0
noncomputable def WU (o:Ic):Int :=
 if ¬ DF o.name then 8 else if o.ranks.length>60 then 4 else if Qd o.ranks 0≠0 then Qd o.ranks 0 else if o.Ae.length=0 then 13 else if o.Ae.length>8 then 4
 else if Gt o.ranks o.Ae 0≠0 then Gt o.ranks o.Ae 0 else En (o.Ae.map fun d=>⟨d.lo,d.hi⟩) o.I8
structure c3f (x:Seg):Prop where
 draws:x.draws.length<1000000
structure uI (x:Stp):Prop where
 name:x.name.length<1000000
 I9:x.I9.length<1000000
 all:∀ i,i<x.I9.length→c3f (gi x.I9 i)
structure b5y (x:oh):Prop where
 name:x.name.length<1000000
 stops:x.stops.length<1000000
 all:∀ i,i<x.stops.length→uI (gi x.stops i)
structure jA (r:Hu):Prop where
 name:r.name.length<1000000
 JO:r.JO.length<1000000
 E5:r.E5.length<1000000
structure Vh (o:Ic):Prop where
 name:o.name.length<1000000
 ranks:o.ranks.length<1000000
 Ae:o.Ae.length<1000000
 I8:o.I8.length<1000000
 rk:∀ i,i<o.ranks.length→jA (gi o.ranks i)
 dv:∀ i,i<o.Ae.length→b5y (gi o.Ae i)
 cp:∀ i,i<o.I8.length→(gi o.I8 i).name.length<1000000
theorem jA.len {r:Hu} (h:jA r):r.name.length<9223372036854775808∧r.JO.length<9223372036854775808∧r.E5.length<9223372036854775808:=⟨by have:=h.name;omega,by have:=h.JO;omega,by have:=h.E5;omega⟩
theorem gW {l:List Hu} (h:∀ i,i<l.length→Ce (gi l i)=0):∀ n k,l.length-k=n→eG l k=0
 |0,k,hk=>by rw [eG,if_neg (by omega)]
 |n+1,k,hk=>by
  rw [eG,if_pos (by omega),if_neg (fun h'=>h' (h k (by omega)))];exact gW h n (k+1) (by omega)
theorem WM {l:List Hu} (h:∀ i,i<l.length→Ce (gi l i)=0∧(gi l i).name∉(l.take i).map Hu.name):∀ n k,l.length-k=n→Qd l k=0
 |0,k,hk=>by rw [Qd,if_neg (by omega)]
 |n+1,k,hk=>by
  obtain ⟨h1,h2⟩:=h k (by omega);rw [Qd,if_pos (by omega),if_neg (fun h'=>h' h1),if_neg h2];exact WM h n (k+1) (by omega)
theorem TU {rk:List Hu} {lo hi:Int} {l:List Stp} (h:∀ i,i<l.length→DX rk lo hi (gi l i)=0∧(gi l i).name∉(l.take i).map Stp.name):∀ n k,l.length-k=n→Sr rk lo hi l k=0
 |0,k,hk=>by rw [Sr,if_neg (by omega)]
 |n+1,k,hk=>by
  obtain ⟨h1,h2⟩:=h k (by omega);rw [Sr,if_pos (by omega),if_neg (fun h'=>h' h1),if_neg h2];exact TU h n (k+1) (by omega)
theorem TV {rk:List Hu} {l:List oh} (h:∀ i,i<l.length→DF (gi l i).name∧(gi l i).name∉(l.take i).map oh.name∧DJ rk (gi l i)=0):∀ n k,l.length-k=n→Gt rk l k=0
 |0,k,hk=>by rw [Gt,if_neg (by omega)]
 |n+1,k,hk=>by
  obtain ⟨h1,h2,h3⟩:=h k (by omega);rw [Gt,if_pos (by omega),if_neg (fun h'=>h' h1),if_neg h2,if_neg (fun h'=>h' h3)];exact TV h n (k+1) (by omega)
theorem VI {l:List oq} (h:∀ i,i<l.length→Yn (gi l i).lo (gi l i).hi=0):∀ n k,l.length-k=n→TN l k=0
 |0,k,hk=>by rw [TN,if_neg (by omega)]
 |n+1,k,hk=>by
  rw [TN,if_pos (by omega),if_neg (fun h'=>h' (h k (by omega)))];exact VI h n (k+1) (by omega)
structure a5r (n:Nat) (c:nZ):Prop where
 name:DF c.name
 VX:0≤c.VX∧c.VX<n
 tgt:0≤c.tgt∧c.tgt<n
 shift:-127≤c.shift∧c.shift≤127
 form:¬ (c.VX=c.tgt∧c.shift=0)
theorem Ti {m:Nat} {l:List nZ} (h:∀ i,i<l.length→a5r m (gi l i)∧(gi l i).name∉(l.take i).map nZ.name):∀ n k,l.length-k=n→Sj m l k=0
 |0,k,hk=>by rw [Sj,if_neg (by omega)]
 |n+1,k,hk=>by
  obtain ⟨⟨h1,h2,h3,h4,h5⟩,h6⟩:=h k (by omega);rw [Sj,if_pos (by omega),if_neg (fun h'=>h' h1),if_neg h6,if_neg (by omega),if_neg (by omega),if_neg h5];exact Ti h n (k+1) (by omega)
structure Xi (n:Nat) (d:uK):Prop where
 rank:0≤d.rank∧d.rank<n
 shift:-127≤d.shift∧d.shift≤127
theorem Ub {m:Nat} {l:List uK} (h:∀ i,i<l.length→Xi m (gi l i)∧gi l i∉l.take i):∀ n k,l.length-k=n→Sm m l k=0
 |0,k,hk=>by rw [Sm,if_neg (by omega)]
 |n+1,k,hk=>by
  obtain ⟨⟨h1,h2⟩,h3⟩:=h k (by omega);rw [Sm,if_pos (by omega),if_neg (by omega),if_neg (by omega),if_neg h3];exact Ub h n (k+1) (by omega)
theorem JW {m:Nat} {d:uK} (h:Xi m d):Zk m [d]=0:=by
 exact Ub (fun i hi=>by
  obtain rfl:i=0:=by grind
  exact ⟨h,by simp⟩) _ 0 rfl
theorem a7v {m:Nat} {d e:uK} (h:Xi m d) (h':Xi m e) (hn:e≠d):Zk m [d,e]=0:=by
 refine Ub (fun i hi=>?_) _ 0 rfl;have:i=0∨i=1:=by grind
 rcases this with rfl|rfl
 ·exact ⟨h,by simp⟩
 ·exact ⟨h',by simpa [gi] using hn⟩
theorem Wx {lo hi:Int} (h:0≤lo∧lo≤hi∧hi≤127):Yn lo hi=0:=by
 unfold Yn;omega
theorem a1x {l:List Hu} {lo hi:Int} (h:∀ i,i<l.length→Ce (gi l i)=0) (hl:l.length≤60) (hc:0≤lo∧lo≤hi∧hi≤127):uF l lo hi=0:=by
 unfold uF;rw [if_neg (by omega),if_neg (fun h'=>h' (gW h _ 0 rfl)),Wx hc]
structure c3p (n:Nat) (lo hi:Int) (g:Seg):Prop where
 pl:lo≤g.lo∧g.lo≤g.hi∧g.hi≤hi
 draws:Zk n g.draws=0
theorem Tt {m:Nat} {lo hi:Int} {l:List Seg} (h:∀ i,i<l.length→c3p m lo hi (gi l i)∧(0<i→(gi l (i-1)).hi<(gi l i).lo)):∀ n k,l.length-k=n→MP m lo hi l k=0
 |0,k,hk=>by rw [MP,if_neg (by omega)]
 |n+1,k,hk=>by
  obtain ⟨⟨h1,h2⟩,h3⟩:=h k (by omega);rw [MP,if_pos (by omega),if_neg (by omega),if_neg (fun h'=>by
   omega),if_neg (fun h'=>h' h2)]
  exact Tt h n (k+1) (by omega)
theorem MR {n:Nat} {lo hi:Int} {s:Seg} (h1:lo≤s.lo∧s.lo≤s.hi∧s.hi≤hi) (h2:Zk n s.draws=0):MP n lo hi [s] 0=0 :=
 Tt (fun i hi=>by
  obtain rfl:i=0:=by grind
  exact ⟨⟨h1,h2⟩,fun h=>by omega⟩) _ 0 rfl
theorem jP {n:Nat} {lo hi:Int} {s t:Seg} (h1:lo≤s.lo∧s.lo≤s.hi∧s.hi<t.lo∧t.lo≤t.hi∧t.hi≤hi) (h2:Zk n s.draws=0) (h3:Zk n t.draws=0):MP n lo hi [s,t] 0=0 :=
 Tt (fun i hi=>by
  have:i=0∨i=1:=by grind
  rcases this with rfl|rfl
  ·exact ⟨⟨⟨h1.1,h1.2.1,show s.hi≤_ by omega⟩,h2⟩,fun h=>by omega⟩
  ·exact ⟨⟨⟨show lo≤t.lo by omega,h1.2.2.2⟩,h3⟩,fun _=>h1.2.2.1⟩) _ 0 rfl
def Ox (c:UInt8) (i:Int):List UInt8:=[c,UInt8.ofNat (48+i).toNat]
theorem b4i {c:UInt8} {i j:Nat} (hi:i<10) (hj:j<10) (h:Ox c i=Ox c j):i=j:=by
 simp only [Ox,List.cons.injEq,and_true,true_and] at h;have:=congrArg UInt8.toNat h;rw [UInt8.toNat_ofNat',UInt8.toNat_ofNat'] at this;omega
theorem wP {c:UInt8} (hc:rD c.toNat) {i:Nat} (hi:i<10):DF (Ox c i):=by
 refine ⟨by simp [Ox],by simp [Ox],hc,fun j h1 h2=>?_⟩;obtain rfl:j=1:=by simp [Ox] at h2;omega
 have e:(gi (Ox c i) 1).toNat=48+i:=by
  show (UInt8.ofNat (48+(i:Int)).toNat).toNat=_;rw [UInt8.toNat_ofNat'];omega
 right;omega
theorem lW {α:Type} [Inhabited α] {f:α→List UInt8} {c:UInt8} {l:List α} (hl:l.length≤10) (h:∀ i,i<l.length→f (gi l i)=Ox c i) {k:Nat} (hk:k<l.length):f (gi l k)∉(l.take k).map f:=by
 intro hm;rw [ba] at hm;obtain ⟨a,ha,he⟩:=hm;obtain ⟨j,hj,e⟩:=ed ha;rw [az] at hj;have e2:a=gi l j:=by
  rw [← e,List.getElem_take];simp [gi,List.getElem?_eq_getElem (show j<l.length by omega)]
 rw [e2,h j (by omega),h k hk] at he;have:=b4i (by omega) (by omega) he;omega
attribute [local irreducible] Aa Ai Ag Ad AO Ap Bc BK Bh Ah Vm.Done Bv AB Pv
end Go.Proofs.YtnjkoebfgcbbdaaGreatDoor
namespace Go.Proofs.YtnjkoebfgcbbdaaGreatDoor
open Go Go.Am Go.Vm
attribute [local irreducible] Aa Ai Ag Ad AO Ap Bc BK Bh Ah Vm.Done Bv AB
attribute [local irreducible] Ce Ba shz AZ
def c6y (r:Hu):Prop:=r.name.length<9223372036854775808∧r.JO.length<9223372036854775808∧r.E5.length<9223372036854775808
noncomputable def Yd (r:Hu) (n:Int):Int:=if Ce r≠0 then Ce r else if n<0∨n≥r.E5.length then 10 else 0
def Lc:FV:=.agg [.str ⟨#[]⟩,.str ⟨#[]⟩,.int .i64 0,.int .i64 0,.int .i64 0,.val (.slice none 0 0)]
def b2t (r:Hu) (n:Int) (w:List Int):FV×Int:=if w.length>128 then (Lc,4) else if ¬ Qo n then (Lc,3) else (.agg (Enc.enc { r with first:=n,E5:=w }),0)
noncomputable def c7k (r:Hu) (k:Int):Int×Bool×Int:=if Yd r k≠0 then (0,false,Yd r k) else if (AZ r.Ec ⟨8,1⟩).2≠0∨r.first+k+(AZ r.Ec ⟨8,1⟩).1<0∨r.first+k+(AZ r.Ec ⟨8,1⟩).1>127 then (0,false,(AZ r.Ec ⟨8,1⟩).2) else (r.first+k+(AZ r.Ec ⟨8,1⟩).1,true,0)
noncomputable def c5s (r:Hu) (n:Int):Int×Bool×Int:=if Ce r≠0 then (0,false,Ce r) else if n<r.first∨n≥r.first+r.E5.length then (0,false,0) else (n-r.first,true,0)
noncomputable def c4w (r:Hu) (w:List Int):FV×Int:=if Ce r≠0 then (Lc,Ce r) else if Ba w≠0 then (Lc,Ba w) else b2t r (r.first-w.length) (w++r.E5)
noncomputable def c4m (r:Hu) (f:LD):FV×Int:=if Ce r≠0 then (Lc,Ce r) else if (AZ f r.Ec).2≠0 then (Lc,(AZ f r.Ec).2) else if Qo (r.first-(AZ f r.Ec).1) then (.agg (Enc.enc { r with first:=r.first-(AZ f r.Ec).1,Ec:=f }),0) else (Lc,3)
attribute [local irreducible] Yd
noncomputable def d1l (r:Hu) (n:Int):Int×Int:=if Yd r n≠0 then (0,Yd r n) else (r.first+n,0)
noncomputable def c9v (r:Hu) (n:Int):Int×Int:=if Yd r n≠0 then (0,Yd r n) else (gi r.E5 n.toNat,0)
noncomputable def d1v (r:Hu) (w:List Int):FV×Int:=if Ce r≠0 then (Lc,Ce r) else if Ba w≠0 then (Lc,Ba w) else b2t r r.first (r.E5++w)
def c1p (l:List Int):Nat→Int
 |0=>0
 |k+1=>c1p l k+gi l k
noncomputable def d1h (r:Hu):Int×Int:=if Ce r≠0 then (0,Ce r) else (c1p r.E5 r.E5.length,0)
def Sl:List LD:=[⟨8,1⟩,⟨4,1⟩,⟨16,1⟩,⟨2,1⟩,⟨8,3⟩,⟨8,5⟩,⟨4,3⟩,⟨1,1⟩,⟨32,1⟩,⟨16,3⟩,⟨16,5⟩,⟨32,3⟩,⟨8,7⟩,⟨2,3⟩,⟨1,2⟩,⟨64,1⟩]
theorem a2y (n:Nat) (hn:n<256):Ap env 150 [.int .u8 (n:Int)] (.p (.agg (Enc.enc (gi Sl (n % 16))))):=by
 refine Ap.enter (Af (by decide)) Tryz.func150 rfl (by kernel_rfl) (by simp [Tryz.ntmps150]) ?_;have hlt:n % 16<16:=bc _ (by decide)
 repeat' (first|(refine Ai.IL 22 ?_;refine Ai.ghost (Aw.freeze 19 rfl rfl) ?_)|apply Ad.BD|apply Ad.ret|apply Ai.nil|apply Ai.one|(apply Aa.Aj (l:=Sl) (i:=n % 16);rfl;rfl;rfl;exact hlt;rfl)|(apply Aa.move;rfl)|(apply Aa.uf;rfl;rfl;omega;omega)|(apply Aa.load;rfl;rfl)|(apply Aa.alloc;rfl)|(apply Aa.FT;rfl;rfl;rfl;trivial;rfl;rfl;exact Bj rfl;exact le_dec rfl)|(apply Aa.build;rfl;rfl;rfl;rfl;rfl)|(apply Aa.buildSlice;rfl;rfl;rfl;decide;rfl;rfl;rfl))
 all_goals (refine Done.rt rfl rfl ⟨?_,rfl,rfl⟩;try rfl)
end Go.Proofs.YtnjkoebfgcbbdaaGreatDoor
namespace Go.Proofs.YtnjkoebfgcbbdaaGreatDoor
open Go Go.Am Go.Vm
attribute [local irreducible] Aa Ai Ag Ad AO Ap Bc BK Bh Ah Vm.Done Bv AB
theorem wU {r:Hu} (h1:DF r.name) (h2:DF r.JO) (h3:pOk r.Ec) (h4:-256≤r.first∧r.first≤256) (h5:0<r.E5.length∧r.E5.length≤128) (h6:okW r.E5):Ce r=0:=by
 unfold Ce;rw [if_neg (fun h=>h.elim (fun h=>h h1) (fun h=>h h2)),if_neg (fun h=>h (Ut.2 h3)),if_neg (by omega),if_neg (by omega),if_neg (by omega)];exact if_pos h6
theorem a2m:DF [79,112,101,110]:=by
 refine ⟨by decide,by decide,by decide,fun i h1 h2=>?_⟩;have:i=1∨i=2∨i=3:=by grind
 rcases this with rfl|rfl|rfl<;>exact .inl (by decide)
def c8u (f first:Int) (n:Nat):Hu:=⟨[82,111,119],[79,112,101,110],⟨f,1⟩,first,List.replicate n 1⟩
def c6k:Hu:=⟨[82,111,119],[79,112,101,110],⟨8,1⟩,24,List.replicate 12 0++List.replicate 61 1⟩
attribute [local irreducible] Ce Ba shz AZ Yd c5s c7k c4w c4m
end Go.Proofs.YtnjkoebfgcbbdaaGreatDoor
namespace Go.Proofs.YtnjkoebfgcbbdaaGreatDoor
open Go Go.Am Go.Vm
attribute [local irreducible] Aa Ai Ag Ad AO Ap Bc BK Bh Ah Vm.Done Bv AB
instance encStr:Enc (List UInt8):={ default:=[],enc:=fun s=>[.str (bs s)],size:=1,len:=fun _=>rfl }
structure GR where
 JO:Nat
 Ec:Nat
 first:Int
 pipes:Nat
 E5:List Nat
def GR.enc (x:GR):List FV:=[.int .u8 (x.JO:Int),.int .u8 (x.Ec:Int),.int .i8 x.first,.int .u8 (x.pipes:Int),.int .u8 ((gi x.E5 0:Nat):Int),.int .u8 ((gi x.E5 1:Nat):Int),.int .u8 ((gi x.E5 2:Nat):Int),.int .u8 ((gi x.E5 3:Nat):Int),.int .u8 ((gi x.E5 4:Nat):Int)]
structure GR.Ok (x:GR):Prop where
 JO:x.JO<256
 Ec:x.Ec<256
 first:-128≤x.first∧x.first≤127
 pipes:x.pipes<256
 E5:∀ i,gi x.E5 i<256
def Vu:List (List UInt8):=[[79,112,101,110],[70,108,117,116,101],[82,101,101,100]]
def Jb (x:GR):Nat→List Int
 |0=>[]
 |k+1=>Jb x k++[((gi x.E5 (k % 5):Nat):Int)]
theorem Gh (x:GR):∀ k,(Jb x k).length=k
 |0=>rfl
 |k+1=>by simp [Jb,Gh x k]
def WY (x:GR) (i:Int):Hu:=⟨[82,UInt8.ofNat (48+i % 10).toNat],gi Vu (x.JO % 3),gi Sl (x.Ec % 16),x.first,Jb x (1+x.pipes % 25)⟩
theorem a3f (x:GR) (hx:x.Ok) (i:Int) (hi:0≤i∧i≤1000):Ap env 114 [.agg x.enc,.int .i64 i] (.p (.agg (Enc.enc (WY x i)))):=by
 obtain ⟨h1,h2,h3,h4,h5⟩:=hx;have hf:=a2y x.Ec h2;have hlt:x.JO % 3<3:=bc _ (by decide);refine Ap.enter (Af (by decide)) Tryz.func114 rfl (by kernel_rfl) (by simp [Tryz.ntmps114]) ?_
 repeat' (first|(refine Ag.IL 18 ?_;refine Ag.ghost (Aw.freeze 14 rfl rfl) ?_)|apply Ad.assoc|apply Ad.BD|apply Ad.Cj|apply Ad.E8|apply Ai.nil|apply Ag.nil|apply Ai.one|(apply Ag.bar;decide +kernel)|apply Ag.quiet|(apply Aa.fn;rfl;rfl;exact hf;intro _;rfl)|(apply Aa.Ig;rfl;rfl;rfl;rfl;rfl;omega)|(apply Aa.Aj (l:=Vu) (i:=x.JO % 3);rfl;rfl;rfl;exact hlt;rfl)|(apply Aa.assign;rfl)|(apply Aa.move;rfl)|(apply Aa.Nl;rfl;rfl;omega)|(apply Aa.uf;rfl;rfl;omega;omega)|(apply Aa.load;rfl;rfl)|(apply Aa.Ih;rfl;rfl;rfl)|(apply Aa.box;rfl;trivial)|(apply Aa.alloc;rfl)|(apply Aa.FT;rfl;rfl;rfl;trivial;rfl;rfl;exact Bj rfl;exact le_dec rfl)|(apply Aa.build;rfl;rfl;rfl;rfl;rfl)|(apply Aa.buildSlice;rfl;rfl;rfl;decide;rfl;rfl;rfl)|(apply Aa.Yx;rfl;rfl;(first|omega|(simp only [List.length_take,List.length_drop,List.length_append,List.length_singleton,List.length_cons,List.length_nil]<;>omega)))|(apply Aa.Ia;rfl;rfl;rfl;rfl;omega)|(apply Aa.Nw;rfl;rfl;rfl;rfl;omega))
 refine Ad.ghost (Aw.EW 4 5 3 rfl rfl) ?_;refine Ad.DL (fun k:Nat=>[(2,.ref 0 0),(4,.ref 1 0),(5,.ref 4 0),(6,.p (.int .i64 (k:Int)))]) (fun k=>[(5,.vec 3 (cells (Jb x k)) (Jb x k).length true),(4,.box 113 [.p (.str (bs [82,UInt8.ofNat (48+i % 10).toNat])),.p (.str (bs (gi Vu (x.JO % 3)))),.p (.int .i64 (gi Sl (x.Ec % 16)).num),.p (.int .i64 (gi Sl (x.Ec % 16)).den),.p (.int .i64 x.first),.vec 5 (Jb x k).length 0 (Jb x k).length]),(1,.box 113 [.p (.str ⟨#[]⟩),.p (.str ⟨#[]⟩),.p (.int .i64 0),.p (.int .i64 0),.p (.int .i64 0),.p (.val (.slice none 0 0))]),(0,.box 226 (x.enc.map .p))]) 6 (fun k=>k≤1+x.pipes % 25) (fun k=>1+x.pipes % 25-k) 0 (by omega) (by omega) ⟨by omega,?_,?_⟩ ?_
 ·exact C9
 ·exact DR
 intro k hk;have hl:=Gh x k;have hw:=h5 (k % 5);have e1:Jb x (k+1)=Jb x k++[((gi x.E5 (k % 5):Nat):Int)]:=rfl;have e2:(Jb x (k+1)).length=(Jb x k).length+1:=by rw [e1];simp
 have hr:(x.enc.map PV.p)[4+((k:Int) % 5).toNat*1]?=some (.p (.int .u8 ((gi x.E5 (k % 5):Nat):Int))):=by
  have e0:((k:Int) % 5).toNat=k % 5:=by omega
  rw [e0];have:k % 5<5:=bc _ (by decide);generalize k % 5=n at this
  match n,this with
  |0,_=>rfl
  |1,_=>rfl
  |2,_=>rfl
  |3,_=>rfl
  |4,_=>rfl
 repeat' (first|(refine Ad.at 6 ?_;refine Ad.ghost (Aw.Dn 4 5 rfl rfl rfl) ?_;first|apply Ad.BD|apply Ad.Cj)|(apply Aa.b0b;rfl;rfl;rfl;exact hr)|(apply Aa.Vd;rfl;rfl;rfl;rfl;rfl;omega)|(apply Aa.CW;rfl;rfl;rfl;rfl;rfl;rfl;rfl;rfl;(intro _ h;cases h);rfl;rfl;rfl;decide;decide;(first|omega|(simp only [List.length_take,List.length_drop,List.length_append,List.length_singleton,List.length_cons,List.length_nil]<;>omega)))|refine go2 ?_|apply Ad.BD|apply Ad.region|apply Ad.Fz|(apply Aa.int;rfl;rfl;rfl)|(apply Aa.buildSlice;rfl;rfl;rfl;decide;rfl;rfl;rfl)|(apply Aa.Ia;rfl;rfl;rfl;rfl;omega)|(apply Ad.Ac;rfl)|(intro _;try (exfalso;omega)))
 ·refine Ah.normal ⟨k+1,by omega,by omega,⟨by omega,?_,?_⟩⟩
  ·exact C9
  ·rw [e2,e1];exact DR
 ·obtain rfl:k=1+x.pipes % 25:=by omega
  refine Done.rt rfl rfl ⟨?_,rfl,rfl⟩;rfl
end Go.Proofs.YtnjkoebfgcbbdaaGreatDoor
