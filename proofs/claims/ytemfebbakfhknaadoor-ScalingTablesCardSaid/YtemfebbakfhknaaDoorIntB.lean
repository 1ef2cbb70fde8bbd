/-
  The layer of integers: what Of, Power, Mul and Compare compute of numbers that are not negative. Conditions: in each statement.
-/
import Derived.Test.YtemfebbakfhknaaDoorIntA
set_option linter.unusedSimpArgs false
set_option linter.unusedVariables false
namespace Go.Proofs.YtemfebbakfhknaaDoor
open Go Go.Am Go.Vm
attribute [local irreducible] VVal VOps VOpsD VWp VCalls VFun VFunV QSeq QBlk QLoop Vm.Done DoneV DoneI
theorem inl_CutP {L:Vm.Frame} {H:Vm.Heap} {nx:Nat} {Q:PV→Vm.Heap→Nat→Prop} {dst:Option Tmp} {ty:TypeId} {pos:String} {af:Array Edge} {gd:Option (Nat×Bool)} {fo:Operand} {args:Array Operand} {aT:Array TypeId} {fs cs xs:List PV} {c:Code}
 (hf:vev env.Γ L fo=some (.clo 42 fs cs)) (ha:evs env.Γ L args.toList=some xs) (hb:Tryd.f42.body=some c) (hn:(fs++xs++cs).length≤Tryd.f42.ntmps)
 (h:VWp env nx c (argFrame 0 (fs++xs++cs)) H nx (DoneI env.P Tryd.f42.results.toList Q)):VVal env true ⟨dst,.call { callee:=.value fo,args:=args,argTypes:=aT },ty,pos,af,gd⟩ L H nx Q:=by
 have h0:(match Tryd.f42.body with|some c=>fnOk env.G Tryd.f42 c|none=>false)=true:=by kernel_rfl
 rw [hb] at h0
 exact VVal.inline rfl hf ha (env_none (by decide)) Tryd.func42 hb h0 hn h
theorem inl_CutS {L:Vm.Frame} {H:Vm.Heap} {nx:Nat} {Q:PV→Vm.Heap→Nat→Prop} {dst:Option Tmp} {ty:TypeId} {pos:String} {af:Array Edge} {gd:Option (Nat×Bool)} {fo:Operand} {args:Array Operand} {aT:Array TypeId} {fs cs xs:List PV} {c:Code}
 (hf:vev env.Γ L fo=some (.clo 52 fs cs)) (ha:evs env.Γ L args.toList=some xs) (hb:Tryd.f52.body=some c) (hn:(fs++xs++cs).length≤Tryd.f52.ntmps)
 (h:VWp env nx c (argFrame 0 (fs++xs++cs)) H nx (DoneI env.P Tryd.f52.results.toList Q)):VVal env true ⟨dst,.call { callee:=.value fo,args:=args,argTypes:=aT },ty,pos,af,gd⟩ L H nx Q:=by
 have h0:(match Tryd.f52.body with|some c=>fnOk env.G Tryd.f52 c|none=>false)=true:=by kernel_rfl
 rw [hb] at h0
 exact VVal.inline rfl hf ha (env_none (by decide)) Tryd.func52 hb h0 hn h
theorem inl_HasP {L:Vm.Frame} {H:Vm.Heap} {nx:Nat} {Q:PV→Vm.Heap→Nat→Prop} {dst:Option Tmp} {ty:TypeId} {pos:String} {af:Array Edge} {gd:Option (Nat×Bool)} {fo:Operand} {args:Array Operand} {aT:Array TypeId} {fs cs xs:List PV} {c:Code}
 (hf:vev env.Γ L fo=some (.clo 51 fs cs)) (ha:evs env.Γ L args.toList=some xs) (hb:Tryd.f51.body=some c) (hn:(fs++xs++cs).length≤Tryd.f51.ntmps)
 (h:VWp env nx c (argFrame 0 (fs++xs++cs)) H nx (DoneI env.P Tryd.f51.results.toList Q)):VVal env true ⟨dst,.call { callee:=.value fo,args:=args,argTypes:=aT },ty,pos,af,gd⟩ L H nx Q:=by
 have h0:(match Tryd.f51.body with|some c=>fnOk env.G Tryd.f51 c|none=>false)=true:=by kernel_rfl
 rw [hb] at h0
 exact VVal.inline rfl hf ha (env_none (by decide)) Tryd.func51 hb h0 hn h
theorem inl_HasS {L:Vm.Frame} {H:Vm.Heap} {nx:Nat} {Q:PV→Vm.Heap→Nat→Prop} {dst:Option Tmp} {ty:TypeId} {pos:String} {af:Array Edge} {gd:Option (Nat×Bool)} {fo:Operand} {args:Array Operand} {aT:Array TypeId} {fs cs xs:List PV} {c:Code}
 (hf:vev env.Γ L fo=some (.clo 58 fs cs)) (ha:evs env.Γ L args.toList=some xs) (hb:Tryd.f58.body=some c) (hn:(fs++xs++cs).length≤Tryd.f58.ntmps)
 (h:VWp env nx c (argFrame 0 (fs++xs++cs)) H nx (DoneI env.P Tryd.f58.results.toList Q)):VVal env true ⟨dst,.call { callee:=.value fo,args:=args,argTypes:=aT },ty,pos,af,gd⟩ L H nx Q:=by
 have h0:(match Tryd.f58.body with|some c=>fnOk env.G Tryd.f58 c|none=>false)=true:=by kernel_rfl
 rw [hb] at h0
 exact VVal.inline rfl hf ha (env_none (by decide)) Tryd.func58 hb h0 hn h
theorem inl_Sign {L:Vm.Frame} {H:Vm.Heap} {nx:Nat} {Q:PV→Vm.Heap→Nat→Prop} {dst:Option Tmp} {ty:TypeId} {pos:String} {af:Array Edge} {gd:Option (Nat×Bool)} {fo:Operand} {args:Array Operand} {aT:Array TypeId} {fs cs xs:List PV} {c:Code}
 (hf:vev env.Γ L fo=some (.clo 41 fs cs)) (ha:evs env.Γ L args.toList=some xs) (hb:Tryd.f41.body=some c) (hn:(fs++xs++cs).length≤Tryd.f41.ntmps)
 (h:VWp env nx c (argFrame 0 (fs++xs++cs)) H nx (DoneI env.P Tryd.f41.results.toList Q)):VVal env true ⟨dst,.call { callee:=.value fo,args:=args,argTypes:=aT },ty,pos,af,gd⟩ L H nx Q:=by
 have h0:(match Tryd.f41.body with|some c=>fnOk env.G Tryd.f41 c|none=>false)=true:=by kernel_rfl
 rw [hb] at h0
 exact VVal.inline rfl hf ha (env_none (by decide)) Tryd.func41 hb h0 hn h
theorem no_minus (n:Nat):¬ (List.take 1 (Lib.decDigits n)=[45]):=fun h=>by
 have h1:=Num.decDigits_digit n 45 (List.mem_of_mem_take (by rw [h];simp))
 have:(45:UInt8).toNat=45:=rfl
 omega
theorem dec_pos (n:Nat):0<(Lib.decDigits n).length:=by rw [Lib.decDigits_length];exact Lib.nDigits_pos n
theorem dec_inj {a b:Nat} (h:Lib.decDigits a=Lib.decDigits b):a=b:=by
 have h1:Lib.nDigits a=Lib.nDigits b:=by rw [← Lib.decDigits_length,← Lib.decDigits_length,h]
 rw [Num.decDigits_D,Num.decDigits_D,h1] at h
 have:=congrArg Num.parse h
 rw [Num.parse_D,Num.parse_D,Nat.mod_eq_of_lt (by rw [← h1];exact Lib.lt_pow_nDigits a),Nat.mod_eq_of_lt (Lib.lt_pow_nDigits b)] at this
 exact this
theorem dec_zero (a:Nat):Lib.decDigits a=[48]↔a=0:=by
 have:Lib.decDigits 0=[48]:=by rw [Lib.decDigits_one (by decide)];rfl
 rw [← this]
 exact ⟨dec_inj,fun h=>by rw [h]⟩
theorem parse_dec (n:Nat):Num.parse (Lib.decDigits n)=n:=by
 rw [Num.decDigits_D,Num.parse_D,Nat.mod_eq_of_lt (Lib.lt_pow_nDigits n)]
set_option maxRecDepth 100000 in
theorem cut_spec (n:Nat):VFun env 42 [.str (bs (Lib.decDigits n)),.str (bs [45])] (.tup [st (Lib.decDigits n),.p (.bool false)]):=by
 refine VFun.enter (env_none (by decide)) Tryd.func42 rfl (by kernel_rfl) (by simp [Tryd.ntmps42]) ?_
 have h1:=no_minus n
 have h2:=dec_pos n
 repeat' (first
  |apply VWp.assoc
  |apply VWp.rseq
  |apply VWp.skipSeq
  |apply VWp.retSeq
  |(apply DoneI.ret;rfl)
  |apply VWp.ret
  |apply VOps.nil
  |apply VOps.one
  |(apply VOps.take;rfl;rfl)
  |(apply VOps.drop;rfl;rfl;rfl)
  |(apply VOps.guard;rfl;rfl)
  |(apply inl_CutS;rfl;rfl;rfl;exact le_dec rfl)
  |(apply inl_HasS;rfl;rfl;rfl;exact le_dec rfl)
  |(apply VVal.assign;rfl)
  |(apply VVal.move;rfl)
  |(apply VVal.int;rfl;rfl;rfl)
  |(apply VVal.pick_true;rfl;rfl)
  |(apply VVal.pick_false;rfl;rfl)
  |(apply VVal.lenSt;rfl;rfl)
  |(apply VVal.eqS;rfl;rfl)
  |(apply VVal.sliceSto;rfl;rfl;rfl;omega)
  |(apply VVal.sliceSfrom;rfl;rfl;rfl;omega)
  |(apply VVal.not;rfl)
  |(apply VVal.extract;rfl;rfl)
  |(apply VWp.condSeq_true;rfl)
  |(apply VWp.condSeq;rfl)
  |(intro _;try (exfalso;omega)))
 ·refine Done.ret rfl (.refl _) (by first|exact trivial|exact ⟨trivial,trivial,trivial⟩|exact ⟨trivial,trivial,trivial,trivial⟩) HCov.nil (Nat.zero_le _) (Nat.le_refl _) ⟨?_,rfl,rfl⟩
  rfl
 ·exfalso;simp_all
 ·exfalso;simp_all;omega
theorem cut_spec' (n:Nat):VFun env 42 [.str (bs (Lib.decDigits n)),.str ⟨#[45]⟩] (.tup [st (Lib.decDigits n),.p (.bool false)]):=cut_spec n
set_option maxRecDepth 100000 in
theorem split_spec (n:Nat) (hn:Lib.nDigits n<900000):VFun env 48 [.str (bs (Lib.decDigits n))] (.tup [lst 64 (Num.toL n),.p (.bool false)]):=by
 refine VFun.enter (env_none (by decide)) Tryd.func48 rfl (by kernel_rfl) (by simp [Tryd.ntmps48]) ?_
 repeat' (first
  |apply VWp.rseq
  |apply VWp.ret
  |apply VOps.nil
  |apply VOps.one
  |(apply VVal.fn;rfl;rfl;exact cut_spec' n;intro _;rfl)
  |(apply VVal.fn;rfl;rfl;exact long_spec n hn;intro _;rfl)
  |(apply VVal.assign;rfl)
  |(apply VVal.move;rfl)
  |(apply VVal.extract;rfl;rfl))
 ·refine Done.ret rfl (.refl _) (by first|exact trivial|exact ⟨trivial,trivial,trivial⟩|exact ⟨trivial,trivial,trivial,trivial⟩) HCov.nil (Nat.zero_le _) (Nat.le_refl _) ⟨?_,rfl,rfl⟩
  rfl
set_option maxRecDepth 100000 in
theorem signed_spec (n:Nat) (hn:(Num.toL n).length<1000000):VFun env 49 [.lst 64 (cells (Num.toL n)) (Num.toL n).length,.bool false] (st (Lib.decDigits n)):=by
 refine VFun.enter (env_none (by decide)) Tryd.func49 rfl (by kernel_rfl) (by simp [Tryd.ntmps49]) ?_
 have ht:=text_fun (Num.toL n) (Num.lim_toL n) (by omega)
 rw [Num.textL_toL] at ht
 repeat' (first
  |apply VWp.assoc
  |apply VWp.rseq
  |apply VWp.skipSeq
  |apply VWp.ret
  |apply VOps.nil
  |apply VOps.one
  |(apply VOps.drop;rfl;rfl;rfl)
  |(apply VVal.fn;rfl;rfl;exact ht;intro _;rfl)
  |(apply VVal.assign;rfl)
  |(apply VVal.move;rfl)
  |(apply VVal.pick_false;rfl;rfl)
  |(apply VWp.condSeq_false;rfl))
 ·refine Done.ret rfl (.refl _) (by first|exact trivial|exact ⟨trivial,trivial,trivial⟩|exact ⟨trivial,trivial,trivial,trivial⟩) HCov.nil (Nat.zero_le _) (Nat.le_refl _) ⟨?_,rfl,rfl⟩
  rfl
set_option maxRecDepth 100000 in
theorem of_spec (n:Int) (h:-9223372036854775808≤n∧n≤9223372036854775807):VFun env 45 [.int .i64 n] (st (Lib.itoa n)):=by
 refine VFun.enter (env_none (by decide)) Tryd.func45 rfl (by kernel_rfl) (by simp [Tryd.ntmps45]) ?_
 repeat' (first
  |apply VWp.rseq
  |apply VWp.ret
  |apply VOps.nil
  |apply VOps.one
  |(apply VVal.fn;rfl;rfl;exact itoa_fun n h;intro _;rfl)
  |(apply VVal.assign;rfl)
  |(apply VVal.move;rfl))
 ·refine Done.ret rfl (.refl _) (by first|exact trivial|exact ⟨trivial,trivial,trivial⟩|exact ⟨trivial,trivial,trivial,trivial⟩) HCov.nil (Nat.zero_le _) (Nat.le_refl _) ⟨?_,rfl,rfl⟩
  rfl
theorem itoa_nat (n:Nat):Lib.itoa (n:Int)=Lib.decDigits n:=by simp [Lib.itoa]
set_option maxRecDepth 100000 in
theorem quick_spec (n g:Nat) (hg:g≤18):VFun env 47 [.str (bs (Lib.decDigits n)),.int .i64 (g:Int)] (.tup [.p (.int .i64 ((if Lib.nDigits n≤g then n else 0:Nat):Int)),.p (.bool (decide (Lib.nDigits n≤g)))]):=by
 refine VFun.enter (env_none (by decide)) Tryd.func47 rfl (by kernel_rfl) (by simp [Tryd.ntmps47]) ?_
 have hl:=Lib.decDigits_length n
 by_cases hng:Lib.nDigits n≤g
 ·rw [if_pos hng,decide_eq_true hng]
  obtain ⟨d,hd⟩:∃ d,d=Lib.decDigits n:=⟨_,rfl⟩
  have hc:=cut_spec' n
  rw [← hd] at hl hc ⊢
  have hdig:∀ i,i<d.length→48≤(gi d i).toNat∧(gi d i).toNat≤57:=fun i hi=>gi_bound (p:=fun c=>48≤c.toNat∧c.toNat≤57) (by rw [hd];exact Num.decDigits_digit n) i hi
  have hpv:∀ j,j≤d.length→Num.parse (d.take j)<1000000000000000000:=fun j hj=>by
   have h1:=Num.parse_lt (d.take j) (fun c hc=>by
    have hm:=List.mem_of_mem_take hc
    rw [hd] at hm
    exact Num.decDigits_digit n c hm)
   rw [List.length_take,Nat.min_eq_left hj] at h1
   have h2:10 ^ j≤10 ^ 18:=Nat.pow_le_pow_right (by decide) (by omega)
   exact Nat.lt_of_lt_of_le h1 h2
  repeat' (first
   |apply VWp.assoc
   |apply VWp.rseq
   |apply VWp.skipSeq
   |apply VWp.blockSeq
   |apply VOps.nil
   |apply VOps.one
   |(apply VVal.fn;rfl;rfl;exact hc;intro _;rfl)
   |(apply VVal.assign;rfl)
   |(apply VVal.move;rfl)
   |(apply VVal.int;rfl;rfl;rfl)
   |(apply VVal.lenV;rfl;rfl;rfl)
   |(apply VVal.lenSt;rfl;rfl)
   |(apply VVal.toBytes;rfl;rfl;rfl;rfl;rfl;rfl;omega)
   |(apply VVal.extract;rfl;rfl)
   |(apply VWp.condSeq_dec;rfl)
   |(intro _;try (exfalso;omega)))
  refine VWp.loopQ (fun j:Nat=>[(7,.p (.bool false)),(8,.p (.int .i64 ((Num.parse (d.take j):Nat):Int))),(21,.vec 0 d.length 0 d.length),(22,.p (.int .i64 d.length)),(23,.p (.int .i64 (j:Int)))])
   (fun _=>[(0,.vec 5 (cells d) d.length false)]) 1 (fun j=>j≤d.length) (fun j=>d.length-j) 0 (by omega) (by omega) ⟨Nat.le_refl _,?_,?_⟩ ?_
  ·repeat (first|exact LCov.nil|refine LCov.same trivial rfl ?_|refine LCov.same (lt_dec rfl) rfl ?_|refine LCov.same ⟨trivial,lt_dec rfl,lt_dec rfl,lt_dec rfl,trivial⟩ rfl ?_|refine LCov.same ⟨trivial,lt_dec rfl,lt_dec rfl,trivial⟩ rfl ?_|refine LCov.same ⟨trivial,trivial⟩ rfl ?_|refine LCov.cons trivial rfl (.of_eq (lst_len (by simp<;>omega))) ?_)
  ·repeat (first|exact HCov.nil|(refine HCov.cons (lt_dec rfl) ?_ rfl ?_ ?_;(first|exact trivial|exact PVs.under_pure _ _|(simp [HB.under,PVs.under,PV.under]));(first|exact HLe.refl _|exact HLe.vec (FLes.refl _) (by simp))))
  intro j hj
  have hv:=hpv j hj
  by_cases hlj:j<d.length
  ·have hd2:=hdig j hlj
   have hv2:=hpv (j+1) hlj
   rw [Num.parse_snoc' d j hlj] at hv2
   repeat' (first
    |apply VWp.rseq
    |apply VWp.region
    |apply VWp.skipSeq
    |apply VWp.blockSeq
    |apply QSeq.normal
    |apply QBlk.normal
    |apply VOps.nil
    |apply VOps.one
    |(apply VVal.assign;rfl)
    |(apply VVal.move;rfl)
    |(apply VVal.add64;rfl;rfl;omega)
    |(apply VVal.mul64;rfl;rfl;omega)
    |(apply VVal.subBN (c:=48);rfl;rfl;omega)
    |(apply VVal.int;rfl;rfl;rfl)
    |(apply VVal.loadVL;rfl;rfl;omega;rfl)
    |(apply VVal.indexVN;rfl;rfl;rfl;rfl;omega)
    |(apply VVal.convI;rfl;rfl;rfl;rfl;omega)
    |(apply VWp.condSeq_dec;rfl)
    |(intro _;try (exfalso;omega)))
   refine QLoop.normal ⟨j+1,by omega,by omega,⟨by omega,?_,?_⟩⟩
   ·rw [Num.parse_snoc' d j hlj,Int.natCast_add,Int.natCast_mul];repeat (first|exact LCov.nil|refine LCov.same trivial rfl ?_|refine LCov.same (lt_dec rfl) rfl ?_|refine LCov.same ⟨trivial,lt_dec rfl,lt_dec rfl,lt_dec rfl,trivial⟩ rfl ?_|refine LCov.same ⟨trivial,lt_dec rfl,lt_dec rfl,trivial⟩ rfl ?_|refine LCov.same ⟨trivial,trivial⟩ rfl ?_|refine LCov.cons trivial rfl (.of_eq (lst_len (by simp<;>omega))) ?_)
   ·repeat (first|exact HCov.nil|(refine HCov.cons (lt_dec rfl) ?_ rfl ?_ ?_;(first|exact trivial|exact PVs.under_pure _ _|(simp [HB.under,PVs.under,PV.under]));(first|exact HLe.refl _|exact HLe.vec (FLes.refl _) (by simp))))
  ·have hjp:j=d.length:=by omega
   subst hjp
   repeat' (first
    |apply VWp.assoc
    |apply VWp.rseq
    |apply VWp.skipSeq
    |apply VWp.exitSeq
    |apply QSeq.normal
    |apply QBlk.exit
    |apply QLoop.exit
    |apply VWp.ret
    |apply VOps.nil
    |apply VOps.one
    |(apply VVal.assign;rfl)
    |(apply VVal.move;rfl)
    |(apply VVal.int;rfl;rfl;rfl)
    |(apply VWp.condSeq_false;rfl)
    |(apply VWp.condSeq_dec;rfl)
    |(intro _;try (exfalso;omega)))
   ·refine Done.ret rfl (.refl _) (by first|exact trivial|exact ⟨trivial,trivial,trivial⟩|exact ⟨trivial,trivial,trivial,trivial⟩) HCov.nil (Nat.zero_le _) (Nat.le_refl _) ⟨?_,rfl,rfl⟩
    rw [List.take_length,hd,parse_dec]
 ·rw [if_neg hng,decide_eq_false hng]
  repeat' (first
   |apply VWp.assoc
   |apply VWp.rseq
   |apply VWp.retSeq
   |apply VOps.nil
   |apply VOps.one
   |(apply VVal.fn;rfl;rfl;exact cut_spec' n;intro _;rfl)
   |(apply VVal.assign;rfl)
   |(apply VVal.move;rfl)
   |(apply VVal.int;rfl;rfl;rfl)
   |(apply VVal.lenSt;rfl;rfl)
   |(apply VVal.extract;rfl;rfl)
   |(apply VWp.condSeq_dec;rfl)
   |(intro _;try (exfalso;omega)))
  ·refine Done.ret rfl (.refl _) (by first|exact trivial|exact ⟨trivial,trivial,trivial⟩|exact ⟨trivial,trivial,trivial,trivial⟩) HCov.nil (Nat.zero_le _) (Nat.le_refl _) ⟨?_,rfl,rfl⟩
   rfl
end Go.Proofs.YtemfebbakfhknaaDoor
set_option linter.unusedSimpArgs false
set_option linter.unusedVariables false
namespace Go.Proofs.YtemfebbakfhknaaDoor
open Go Go.Am Go.Vm
attribute [local irreducible] VVal VOps VOpsD VWp VCalls VFun VFunV QSeq QBlk QLoop Vm.Done DoneV DoneI
theorem toL_short {x K:Nat} (h:x<10 ^ K) (hK:K<900000):(Num.toL x).length<200000:=by
 have h1:x<Num.B9 ^ (K / 9+1):=by
  refine Nat.lt_of_lt_of_le h ?_
  rw [show Num.B9 ^ (K / 9+1)=10 ^ (9*(K / 9+1)) by rw [Nat.pow_mul]]
  exact Nat.pow_le_pow_right (by decide) (by omega)
 have:=Num.toL_len_le x (K / 9+1) h1
 omega
theorem and_bit (e i:Nat):e &&& 2 ^ i=if e / 2 ^ i % 2=1 then 2 ^ i else 0:=by
 apply Nat.eq_of_testBit_eq
 intro j
 have hi:e.testBit i=decide (e / 2 ^ i % 2=1):=Nat.testBit_eq_decide_div_mod_eq
 rw [Nat.testBit_and,Nat.testBit_two_pow]
 by_cases hij:i=j
 ·subst hij
  rw [hi]
  by_cases h:e / 2 ^ i % 2=1
  ·rw [if_pos h,Nat.testBit_two_pow];simp [h]
  ·rw [if_neg h];simp [h]
 ·by_cases h:e / 2 ^ i % 2=1
  ·rw [if_pos h,Nat.testBit_two_pow];simp [hij]
  ·rw [if_neg h];simp [hij]
set_option maxRecDepth 100000 in
set_option maxHeartbeats 1000000 in
theorem power_spec (n e:Nat) (he:e≤6000) (hne:e*Lib.nDigits n≤24000) (hn:Lib.nDigits n<100000):VFun env 44 [.str (bs (Lib.decDigits n)),.int .i64 (e:Int)] (.tup [st (Lib.decDigits (n ^ e)),.p (.int .i64 0)]):=by
 refine VFun.enter (env_none (by decide)) Tryd.func44 rfl (by kernel_rfl) (by simp [Tryd.ntmps44]) ?_
 have hlt:=Lib.lt_pow_nDigits n
 have hnl:=toL_short hlt (by omega)
 obtain ⟨K,hK⟩:∃ K:Nat,K=24000:=⟨_,rfl⟩
 rw [← hK] at hne
 have hpow:∀ k,k≤e→(Num.toL (n ^ k)).length<200000:=fun k hk=>by
  refine toL_short (K:=K) ?_ (by omega)
  have h1:n ^ k≤(10 ^ Lib.nDigits n) ^ k:=Nat.pow_le_pow_left (Nat.le_of_lt hlt) k
  rw [← Nat.pow_mul] at h1
  rcases Nat.eq_zero_or_pos k with h0|h0
  ·rw [h0,Nat.pow_zero];exact Nat.one_lt_pow (by omega) (by decide)
  ·have h2:n ^ k<(10 ^ Lib.nDigits n) ^ k:=Nat.pow_lt_pow_left hlt (by omega)
   rw [← Nat.pow_mul] at h2
   refine Nat.lt_of_lt_of_le h2 (Nat.pow_le_pow_right (by decide) ?_)
   have:=Nat.mul_le_mul_left (Lib.nDigits n) hk
   rw [Nat.mul_comm (Lib.nDigits n) e] at this
   omega
 have htx:=text_fun (Num.toL n) (Num.lim_toL n) (by omega)
 rw [Num.textL_toL] at htx
 have hdl:=Lib.decDigits_length n
 have hmul:(e:Int)*((Lib.decDigits n).length:Int)≤24000:=by rw [hK] at hne;rw [hdl];exact_mod_cast hne
 have hmul0:(0:Int)≤(e:Int)*((Lib.decDigits n).length:Int):=by rw [hdl,← Int.natCast_mul];omega
 repeat' (first
  |apply VWp.assoc
  |apply VWp.rseq
  |apply VWp.skipSeq
  |apply VWp.blockSeq
  |apply VOps.nil
  |apply VOps.one
  |(apply VOps.take;rfl;rfl)
  |(apply VVal.fn;rfl;rfl;exact split_spec n (by omega);intro _;rfl)
  |(apply VVal.fn;rfl;rfl;exact htx;intro _;rfl)
  |(apply VVal.assign;rfl)
  |(apply VVal.move;rfl)
  |(apply VVal.mul64;rfl;rfl;omega)
  |(apply VVal.int;rfl;rfl;rfl)
  |(apply VVal.pick_false;rfl;rfl)
  |(apply VVal.buildSlice;rfl;rfl;rfl;decide;rfl;rfl;rfl)
  |(apply VVal.lenSt;rfl;rfl)
  |(apply VVal.extract;rfl;rfl)
  |(apply VWp.condSeq_dec;rfl)
  |(intro _;try (exfalso;omega)))
 refine VWp.ghost (Ghost.freeze 8 rfl rfl) ?_
 have one:Num.toL 1=[1]:=by rw [Num.toL_pos (by decide),show 1 / Num.B9=0 by decide,Num.toL_zero];rfl
 have e14:e / 2 ^ 14=0:=Nat.div_eq_of_lt (by omega)
 refine VWp.loopQ (fun b:Nat=>[(1,.p (.int .i64 (e:Int))),(6,lst 64 (Num.toL n)),(7,.p (.bool false)),(8,lst 64 (Num.toL (n ^ (e / 2 ^ b)))),(9,.p (.int .i64 ((2 ^ b / 2:Nat):Int)))]) (fun _=>[]) 1 (fun b=>b≤14) (fun b=>b) 14 (by omega) (by omega) ⟨Nat.le_refl _,?_,?_⟩ ?_
 ·rw [e14,Nat.pow_zero,one];repeat (first|exact LCov.nil|refine LCov.same trivial rfl ?_|refine LCov.same (lt_dec rfl) rfl ?_|refine LCov.same ⟨trivial,lt_dec rfl,lt_dec rfl,lt_dec rfl,trivial⟩ rfl ?_|refine LCov.same ⟨trivial,lt_dec rfl,lt_dec rfl,trivial⟩ rfl ?_|refine LCov.same ⟨trivial,trivial⟩ rfl ?_|refine LCov.cons trivial rfl (.of_eq (lst_len (by simp<;>omega))) ?_)
 ·exact HCov.nil
 intro b hb
 rcases Nat.eq_zero_or_pos b with hb0|hb0
 ·subst hb0
  have hlen:=hpow e (Nat.le_refl _)
  have hs:=signed_spec (n ^ e) (by omega)
  rw [Nat.pow_zero,Nat.div_one]
  repeat' (first
   |apply VWp.assoc
   |apply VWp.rseq
   |apply VWp.exitSeq
   |apply QSeq.normal
   |apply QBlk.exit
   |apply QLoop.exit
   |apply VWp.ret
   |apply VOps.nil
   |apply VOps.one
   |(apply VOps.drop;rfl;rfl;rfl)
   |(apply VVal.fn;rfl;rfl;exact hs;intro _;rfl)
   |(apply VVal.assign;rfl)
   |(apply VVal.move;rfl)
   |(apply VVal.int;rfl;rfl;rfl)
   |(apply VVal.pick_false;rfl;rfl)
   |(apply VWp.condSeq_false;rfl))
  ·(refine Done.ret rfl (.refl _) (by first|exact trivial|exact ⟨trivial,trivial,trivial⟩|exact ⟨trivial,trivial,trivial,trivial⟩) HCov.nil (Nat.zero_le _) (Nat.le_refl _) ⟨?_,rfl,rfl⟩;try rfl)
 ·obtain ⟨i,rfl⟩:∃ i,b=i+1:=⟨b-1,by omega⟩
  have hp1:2 ^ (i+1) / 2=2 ^ i:=by rw [Nat.pow_succ,Nat.mul_div_cancel _ (by decide)]
  have hp0:0<2 ^ i:=Nat.pow_pos (by decide)
  have hp14:2 ^ i≤2 ^ 13:=Nat.pow_le_pow_right (by decide) (by omega)
  rw [hp1]
  have hle:e / 2 ^ (i+1)≤e:=Nat.div_le_self _ _
  have h1:=times_spec (Num.toL (n ^ (e / 2 ^ (i+1)))) (Num.toL (n ^ (e / 2 ^ (i+1)))) (Num.lim_toL _) (Num.lim_toL _) (by have:=hpow _ hle;omega) (by have:=hpow _ hle;omega)
  rw [Num.val_toL] at h1
  have hle2:e / 2 ^ (i+1)+e / 2 ^ (i+1)≤e:=by
   have h2:e / 2 ^ (i+1)*2 ^ (i+1)≤e:=Nat.div_mul_le_self _ _
   have h3:e / 2 ^ (i+1)*2≤e / 2 ^ (i+1)*2 ^ (i+1):=Nat.mul_le_mul_left _ (by rw [Nat.pow_succ];omega)
   omega
  have h2:=times_spec (Num.toL (n ^ (e / 2 ^ (i+1))*n ^ (e / 2 ^ (i+1)))) (Num.toL n) (Num.lim_toL _) (Num.lim_toL _) (by rw [← Nat.pow_add];have:=hpow _ hle2;omega) (by omega)
  rw [Num.val_toL,Num.val_toL] at h2
  have hbit:=Num.pow_bit n e i
  have hand:=and_bit e i
  by_cases hb1:e / 2 ^ i % 2=1
  ·rw [if_pos hb1] at hbit hand
   repeat' (first
    |apply VWp.assoc
    |apply VWp.rseq
    |apply VWp.region
    |apply VWp.skipSeq
    |apply VWp.blockSeq
    |apply QSeq.normal
    |apply QBlk.normal
    |apply VOps.nil
    |apply VOps.one
    |(apply VVal.fn;rfl;rfl;exact h1;intro _;rfl)
    |(apply VVal.fn;rfl;rfl;exact h2;intro _;rfl)
    |(apply VVal.assign;rfl)
    |(apply VVal.move;rfl)
    |(apply VVal.andI;rfl;rfl;omega)
    |(apply VVal.int;rfl;rfl;rfl)
    |(apply VVal.shrN;rfl;rfl;(simp only [IntKind.bits];omega))
    |(apply VWp.condSeq_dec;rfl)
    |(apply VWp.cond_dec;rfl)
    |(intro _;try (exfalso;omega)))
   all_goals try (exfalso;rename_i hx;rw [hand] at hx;omega)
   refine QLoop.normal ⟨i,by omega,by omega,⟨by omega,?_,?_⟩⟩
   ·rw [← hbit];repeat (first|exact LCov.nil|refine LCov.same trivial rfl ?_|refine LCov.same (lt_dec rfl) rfl ?_|refine LCov.same ⟨trivial,lt_dec rfl,lt_dec rfl,lt_dec rfl,trivial⟩ rfl ?_|refine LCov.same ⟨trivial,lt_dec rfl,lt_dec rfl,trivial⟩ rfl ?_|refine LCov.same ⟨trivial,trivial⟩ rfl ?_|refine LCov.cons trivial rfl (.of_eq (lst_len (by simp<;>omega))) ?_)
   ·exact HCov.nil
  ·rw [if_neg hb1,Nat.mul_one] at hbit
   rw [if_neg hb1] at hand
   repeat' (first
    |apply VWp.assoc
    |apply VWp.rseq
    |apply VWp.region
    |apply VWp.skipSeq
    |apply VWp.blockSeq
    |apply QSeq.normal
    |apply QBlk.normal
    |apply VWp.skip
    |apply VOps.nil
    |apply VOps.one
    |(apply VVal.fn;rfl;rfl;exact h1;intro _;rfl)
    |(apply VVal.assign;rfl)
    |(apply VVal.move;rfl)
    |(apply VVal.andI;rfl;rfl;omega)
    |(apply VVal.int;rfl;rfl;rfl)
    |(apply VVal.shrN;rfl;rfl;(simp only [IntKind.bits];omega))
    |(apply VWp.condSeq_dec;rfl)
    |(apply VWp.cond_dec;rfl)
    |(intro _;try (exfalso;omega)))
   all_goals try (exfalso;rename_i hx;rw [hand] at hx;omega)
   refine QLoop.normal ⟨i,by omega,by omega,⟨by omega,?_,?_⟩⟩
   ·rw [← hbit];repeat (first|exact LCov.nil|refine LCov.same trivial rfl ?_|refine LCov.same (lt_dec rfl) rfl ?_|refine LCov.same ⟨trivial,lt_dec rfl,lt_dec rfl,lt_dec rfl,trivial⟩ rfl ?_|refine LCov.same ⟨trivial,lt_dec rfl,lt_dec rfl,trivial⟩ rfl ?_|refine LCov.same ⟨trivial,trivial⟩ rfl ?_|refine LCov.cons trivial rfl (.of_eq (lst_len (by simp<;>omega))) ?_)
   ·exact HCov.nil
set_option maxRecDepth 100000 in
theorem mul_spec (a b:Nat) (ha:Lib.nDigits a<400000) (hb:Lib.nDigits b<400000):VFun env 39 [.str (bs (Lib.decDigits a)),.str (bs (Lib.decDigits b))] (st (Lib.decDigits (a*b))):=by
 refine VFun.enter (env_none (by decide)) Tryd.func39 rfl (by kernel_rfl) (by simp [Tryd.ntmps39]) ?_
 have qa:=quick_spec a 9 (by decide)
 have qb:=quick_spec b 9 (by decide)
 have la:=Lib.lt_pow_nDigits a
 have lb:=Lib.lt_pow_nDigits b
 have hla:=toL_short la (by omega)
 have hlb:=toL_short lb (by omega)
 have ht:=times_spec (Num.toL a) (Num.toL b) (Num.lim_toL _) (Num.lim_toL _) (by omega) (by omega)
 rw [Num.val_toL,Num.val_toL] at ht
 have hlab:(Num.toL (a*b)).length<200000:=toL_short (K:=Lib.nDigits a+Lib.nDigits b) (by
  rw [Nat.pow_add]
  exact Nat.mul_lt_mul_of_lt_of_le la (Nat.le_of_lt lb) (Nat.pow_pos (by decide))) (by omega)
 have hs:=signed_spec (a*b) (by omega)
 by_cases h9:Lib.nDigits a≤9∧Lib.nDigits b≤9
 ·rw [if_pos h9.1,decide_eq_true h9.1] at qa
  rw [if_pos h9.2,decide_eq_true h9.2] at qb
  have ha9:a<1000000000:=Nat.lt_of_lt_of_le la (Nat.pow_le_pow_right (n:=10) (by decide) h9.1)
  have hb9:b<1000000000:=Nat.lt_of_lt_of_le lb (Nat.pow_le_pow_right (n:=10) (by decide) h9.2)
  have hab:a*b≤999999999*999999999:=Nat.mul_le_mul (by omega) (by omega)
  have habI:(a:Int)*(b:Int)=((a*b:Nat):Int):=(Int.natCast_mul a b).symm
  have ho:=of_spec ((a:Int)*(b:Int)) (by rw [habI];omega)
  have h2:-9223372036854775808≤(a:Int)*(b:Int)∧(a:Int)*(b:Int)<9223372036854775808:=by rw [habI];omega
  repeat' (first
   |apply VWp.assoc
   |apply VWp.rseq
   |apply VWp.retSeq
   |apply VOps.nil
   |apply VOps.one
   |(apply VVal.fn;rfl;rfl;exact qa;intro _;rfl)
   |(apply VVal.fn;rfl;rfl;exact qb;intro _;rfl)
   |(apply VVal.fn;rfl;rfl;exact ho;intro _;rfl)
   |(apply VVal.assign;rfl)
   |(apply VVal.move;rfl)
   |(apply VVal.mul64;rfl;rfl;omega)
   |(apply VVal.extract;rfl;rfl)
   |(apply VWp.condSeq_true;rfl))
  ·refine Done.ret rfl (.refl _) (by first|exact trivial|exact ⟨trivial,trivial,trivial⟩|exact ⟨trivial,trivial,trivial,trivial⟩) HCov.nil (Nat.zero_le _) (Nat.le_refl _) ⟨?_,rfl,rfl⟩
   rw [habI,itoa_nat]
 ·repeat' (first
   |apply VWp.assoc
   |apply VWp.rseq
   |apply VWp.skipSeq
   |apply VWp.ret
   |apply VOps.nil
   |apply VOps.one
   |(apply VVal.fn;rfl;rfl;exact qa;intro _;rfl)
   |(apply VVal.fn;rfl;rfl;exact qb;intro _;rfl)
   |(apply VVal.fn;rfl;rfl;exact split_spec a (by omega);intro _;rfl)
   |(apply VVal.fn;rfl;rfl;exact split_spec b (by omega);intro _;rfl)
   |(apply VVal.fn;rfl;rfl;exact ht;intro _;rfl)
   |(apply VVal.fn;rfl;rfl;exact hs;intro _;rfl)
   |(apply VVal.assign;rfl)
   |(apply VVal.move;rfl)
   |(apply VVal.neB;rfl;rfl;rfl)
   |(apply VVal.extract;rfl;rfl)
   |(apply VWp.condSeq_dec;rfl)
   |(intro _;try (exfalso;omega)))
  all_goals (refine Done.ret rfl (.refl _) (by first|exact trivial|exact ⟨trivial,trivial,trivial⟩|exact ⟨trivial,trivial,trivial,trivial⟩) HCov.nil (Nat.zero_le _) (Nat.le_refl _) ⟨?_,rfl,rfl⟩;try rfl)
theorem cut_spec2 (n:Nat) (l:List UInt8) (h:l=Lib.decDigits n):VFun env 42 [.str (bs l),.str ⟨#[45]⟩] (.tup [st l,.p (.bool false)]):=by subst h;exact cut_spec n
set_option maxRecDepth 100000 in
theorem sign_spec (n:Nat):VFun env 41 [.str (bs (Lib.decDigits n))] (.p (.int .i64 (if n=0 then 0 else 1))):=by
 refine VFun.enter (env_none (by decide)) Tryd.func41 rfl (by kernel_rfl) (by simp [Tryd.ntmps41]) ?_
 have h1:=no_minus n
 have h2:=dec_pos n
 have h3:=dec_zero n
 repeat' (first
  |apply VWp.rseq
  |apply VWp.blockSeq
  |apply QSeq.normal
  |apply QSeq.ret
  |(apply DoneI.ret;rfl)
  |apply QBlk.normal
  |apply QBlk.ret
  |apply VWp.ret
  |apply VWp.skip
  |apply VOps.nil
  |apply VOps.one
  |(apply VOps.take;rfl;rfl)
  |(apply VOps.drop;rfl;rfl;rfl)
  |(apply VOps.guard;rfl;rfl)
  |(apply inl_HasP;rfl;rfl;rfl;exact le_dec rfl)
  |(apply inl_HasS;rfl;rfl;rfl;exact le_dec rfl)
  |(apply VVal.assign;rfl)
  |(apply VVal.move;rfl)
  |(apply VVal.int;rfl;rfl;rfl)
  |(apply VVal.pick_true;rfl;rfl)
  |(apply VVal.pick_false;rfl;rfl)
  |(apply VVal.lenSt;rfl;rfl)
  |(apply VVal.eqS;rfl;rfl)
  |(apply VVal.sliceSto;rfl;rfl;rfl;omega)
  |(apply VWp.cond_false;rfl)
  |(apply VWp.cond_dec;rfl)
  |(intro _;try (exfalso;omega)))
 all_goals first
  |(exfalso;simp_all;done)
  |(exfalso;simp_all;omega)
  |((refine Done.ret rfl (.refl _) (by first|exact trivial|exact ⟨trivial,trivial,trivial⟩|exact ⟨trivial,trivial,trivial,trivial⟩) HCov.nil (Nat.zero_le _) (Nat.le_refl _) ⟨?_,rfl,rfl⟩;try rfl);refine PV.int_eq ?_;first|(rw [if_pos (h3.1 (by assumption))];done)|(rw [if_neg (fun e=>by have:=h3.2 e;contradiction)];done))
theorem cmpB_bound:∀ (a b:List UInt8),-1≤Lib.compareBytes a b∧Lib.compareBytes a b≤1
 |[],[]=>by simp [Lib.compareBytes]
 |[],_::_=>by simp [Lib.compareBytes]
 |_::_,[]=>by simp [Lib.compareBytes]
 |a::as',b::bs'=>by
  simp only [Lib.compareBytes]
  have:=cmpB_bound as' bs'
  split
  ·omega
  ·split
   ·omega
   ·exact this
def cmpI (a b:Nat):Int:=if a<b then -1 else if b<a then 1 else 0
theorem cmp_dec {a b:Nat} (h:Lib.nDigits a=Lib.nDigits b):Lib.compareBytes (Lib.decDigits a) (Lib.decDigits b)=cmpI a b:=by
 rw [Num.decDigits_D,Num.decDigits_D,← h]
 exact Num.cmp_D _ _ _ (Lib.lt_pow_nDigits a) (by rw [h];exact Lib.lt_pow_nDigits b)
set_option maxRecDepth 100000 in
theorem compare_spec (a b:Nat) (ha:Lib.nDigits a<400000) (hb:Lib.nDigits b<400000):VFun env 33 [.str (bs (Lib.decDigits a)),.str (bs (Lib.decDigits b))] (.p (.int .i64 (cmpI a b))):=by
 refine VFun.enter (env_none (by decide)) Tryd.func33 rfl (by kernel_rfl) (by simp [Tryd.ntmps33]) ?_
 have sa:=sign_spec a
 have sb:=sign_spec b
 have hla:=Lib.decDigits_length a
 have hlb:=Lib.decDigits_length b
 have hcb:=cmpB_bound (Lib.decDigits a) (Lib.decDigits b)
 have z1:Lib.nDigits 0=1:=Lib.nDigits_small (by decide)
 by_cases ha0:a=0<;>by_cases hb0:b=0
 ·rw [if_pos ha0] at sa
  rw [if_pos hb0] at sb
  have heq:Lib.nDigits a=Lib.nDigits b:=by rw [ha0,hb0]
  repeat' (first
   |apply VWp.rseq
   |apply VWp.blockSeq
   |apply QSeq.normal
   |apply QBlk.normal
   |apply VWp.ret
   |apply VWp.skip
   |apply VOps.nil
   |apply VOps.one
   |(apply VVal.fn;rfl;rfl;exact sa;intro _;rfl)
   |(apply VVal.fn;rfl;rfl;exact sb;intro _;rfl)
   |(apply VVal.fn;rfl;rfl;exact cut_spec' a;intro _;rfl)
   |(apply VVal.fn;rfl;rfl;exact cut_spec' b;intro _;rfl)
   |(apply VVal.fn;rfl;rfl;exact compare_fun _ _;intro _;rfl)
   |(apply VVal.assign;rfl)
   |(apply VVal.move;rfl)
   |(apply VVal.mul64;rfl;rfl;omega)
   |(apply VVal.int;rfl;rfl;rfl)
   |(apply VVal.lenSt;rfl;rfl)
   |(apply VVal.extract;rfl;rfl)
   |(apply VWp.cond_false;rfl)
   |(apply VWp.cond_dec;rfl)
   |(intro _;try (exfalso;omega)))
  all_goals first
   |(exfalso;omega)
   |((refine Done.ret rfl (.refl _) (by first|exact trivial|exact ⟨trivial,trivial,trivial⟩|exact ⟨trivial,trivial,trivial,trivial⟩) HCov.nil (Nat.zero_le _) (Nat.le_refl _) ⟨?_,rfl,rfl⟩;try rfl);refine PV.int_eq ?_;simp [cmpI,ha0,hb0];done)
 ·rw [if_pos ha0] at sa
  rw [if_neg hb0] at sb
  repeat' (first
   |apply VWp.rseq
   |apply VWp.blockSeq
   |apply QSeq.ret
   |apply QBlk.ret
   |apply VWp.ret
   |apply VOps.nil
   |apply VOps.one
   |(apply VVal.fn;rfl;rfl;exact sa;intro _;rfl)
   |(apply VVal.fn;rfl;rfl;exact sb;intro _;rfl)
   |(apply VVal.assign;rfl)
   |(apply VVal.move;rfl)
   |(apply VVal.int;rfl;rfl;rfl)
   |(apply VWp.cond_true;rfl))
  all_goals first
   |(exfalso;omega)
   |((refine Done.ret rfl (.refl _) (by first|exact trivial|exact ⟨trivial,trivial,trivial⟩|exact ⟨trivial,trivial,trivial,trivial⟩) HCov.nil (Nat.zero_le _) (Nat.le_refl _) ⟨?_,rfl,rfl⟩;try rfl);refine PV.int_eq ?_;unfold cmpI;rw [if_pos (by omega)];done)
 ·rw [if_neg ha0] at sa
  rw [if_pos hb0] at sb
  repeat' (first
   |apply VWp.rseq
   |apply VWp.blockSeq
   |apply QSeq.ret
   |apply QBlk.ret
   |apply VWp.ret
   |apply VOps.nil
   |apply VOps.one
   |(apply VVal.fn;rfl;rfl;exact sa;intro _;rfl)
   |(apply VVal.fn;rfl;rfl;exact sb;intro _;rfl)
   |(apply VVal.assign;rfl)
   |(apply VVal.move;rfl)
   |(apply VVal.int;rfl;rfl;rfl)
   |(apply VWp.cond_true;rfl)
   |(apply VWp.cond_false;rfl))
  all_goals first
   |(exfalso;omega)
   |((refine Done.ret rfl (.refl _) (by first|exact trivial|exact ⟨trivial,trivial,trivial⟩|exact ⟨trivial,trivial,trivial,trivial⟩) HCov.nil (Nat.zero_le _) (Nat.le_refl _) ⟨?_,rfl,rfl⟩;try rfl);refine PV.int_eq ?_;unfold cmpI;rw [if_neg (by omega),if_pos (by omega)];done)
 ·rw [if_neg ha0] at sa
  rw [if_neg hb0] at sb
  have hm1:Lib.nDigits a<Lib.nDigits b→a<b:=Num.nDigits_mono
  have hm2:Lib.nDigits b<Lib.nDigits a→b<a:=Num.nDigits_mono
  repeat' (first
   |apply VWp.rseq
   |apply VWp.blockSeq
   |apply QSeq.normal
   |apply QSeq.ret
   |apply QBlk.normal
   |apply QBlk.ret
   |apply VWp.ret
   |apply VWp.skip
   |apply VOps.nil
   |apply VOps.one
   |(apply VVal.fn;rfl;rfl;exact sa;intro _;rfl)
   |(apply VVal.fn;rfl;rfl;exact sb;intro _;rfl)
   |(apply VVal.fn;rfl;rfl;exact cut_spec' a;intro _;rfl)
   |(apply VVal.fn;rfl;rfl;exact cut_spec' b;intro _;rfl)
   |(apply VVal.fn;rfl;rfl;exact compare_fun _ _;intro _;rfl)
   |(apply VVal.assign;rfl)
   |(apply VVal.move;rfl)
   |(apply VVal.mul64;rfl;rfl;omega)
   |(apply VVal.int;rfl;rfl;rfl)
   |(apply VVal.lenSt;rfl;rfl)
   |(apply VVal.neg;rfl;omega)
   |(apply VVal.extract;rfl;rfl)
   |(apply VWp.cond_false;rfl)
   |(apply VWp.cond_dec;rfl)
   |(intro _;try (exfalso;omega)))
  ·(refine Done.ret rfl (.refl _) (by first|exact trivial|exact ⟨trivial,trivial,trivial⟩|exact ⟨trivial,trivial,trivial,trivial⟩) HCov.nil (Nat.zero_le _) (Nat.le_refl _) ⟨?_,rfl,rfl⟩;try rfl)
   refine PV.int_eq ?_
   have:=hm1 (by omega)
   unfold cmpI;rw [if_pos this]
  ·(refine Done.ret rfl (.refl _) (by first|exact trivial|exact ⟨trivial,trivial,trivial⟩|exact ⟨trivial,trivial,trivial,trivial⟩) HCov.nil (Nat.zero_le _) (Nat.le_refl _) ⟨?_,rfl,rfl⟩;try rfl)
   refine PV.int_eq ?_
   have:=hm2 (by omega)
   unfold cmpI;rw [if_neg (by omega),if_pos this]
  ·(refine Done.ret rfl (.refl _) (by first|exact trivial|exact ⟨trivial,trivial,trivial⟩|exact ⟨trivial,trivial,trivial,trivial⟩) HCov.nil (Nat.zero_le _) (Nat.le_refl _) ⟨?_,rfl,rfl⟩;try rfl)
   refine PV.int_eq ?_
   rw [Int.one_mul,cmp_dec (by omega)]
end Go.Proofs.YtemfebbakfhknaaDoor
