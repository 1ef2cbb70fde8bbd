/-
  Texts of a proof, merged (OrC, OrD, OrE, OrN, Vm31, Ori, Vm29, Vm36, Vm32, Vm33, Vm34, Vm37, TraF, Vm35, TraG, TraH, TraQ, TraA, TraI, HunA, HunB). Conditions: in each statement.
-/
import Derived.Sort.Grow
import Derived.Test.YtdabojnmoejilaaGreatDoorKVd
set_option linter.unusedSimpArgs false
set_option linter.unusedVariables false
set_option linter.unusedSectionVars false
set_option maxRecDepth 100000
set_option maxHeartbeats 8000000
namespace Go.Proofs.YtdabojnmoejilaaGreatDoor
open Go Go.Am Go.Vm
attribute [local irreducible] Aa Ag Ak Ae BH AZ CW AO AL Az Vm.Done Di Bv
attribute [local irreducible] D8 DW
theorem VZ (lo hi:Int):AZ env 89 [.agg [.int .i64 lo,.int .i64 hi]] (.p (.int .i64 (UG lo hi))):=by
 unfold UG
 refine AZ.enter (AB (by decide)) Tryz.func89 rfl (by kernel_rfl) (by simp [Tryz.ntmps89]) ?_
 repeat' (first|apply Ae.AA|apply Ae.Ai|apply AO.normal|apply AO.ret|apply AL.normal|apply AL.ret|apply Ae.ret|apply Ae.skip|apply Ag.nil|apply Ag.one|(apply Ag.take;rfl;rfl)|(apply Ag.drop;rfl;rfl;rfl)|(apply Ag.guard;rfl;rfl)|(apply Aa.assign;rfl)|(apply Aa.move;rfl)|(apply Aa.int;rfl;rfl;rfl)|(apply Aa.load;rfl;rfl)|(apply Aa.BJ;rfl;rfl)|(apply Aa.AQ;rfl;rfl)|(apply Aa.AP;rfl;rfl;rfl)|(apply Aa.box;rfl;trivial)|(apply Ae.cond_true;rfl)|(apply Ae.AY;rfl)|(intro _;try (exfalso;omega)))
 all_goals first
  |(rw [if_pos (by omega)];(refine Done.ret rfl (.refl _) (by first|exact trivial|exact ⟨trivial,trivial,trivial⟩|exact ⟨trivial,trivial,trivial,trivial⟩) Aj.nil (Nat.zero_le _) (Nat.le_refl _) ⟨?_,rfl,rfl⟩;try rfl);done)
  |(rw [if_neg (by omega),if_pos (by omega)];(refine Done.ret rfl (.refl _) (by first|exact trivial|exact ⟨trivial,trivial,trivial⟩|exact ⟨trivial,trivial,trivial,trivial⟩) Aj.nil (Nat.zero_le _) (Nat.le_refl _) ⟨?_,rfl,rfl⟩;try rfl);done)
  |(rw [if_neg (by omega),if_neg (by omega)];(refine Done.ret rfl (.refl _) (by first|exact trivial|exact ⟨trivial,trivial,trivial⟩|exact ⟨trivial,trivial,trivial,trivial⟩) Aj.nil (Nat.zero_le _) (Nat.le_refl _) ⟨?_,rfl,rfl⟩;try rfl);done)
theorem bY:U7 Tryz.prog 133=true:=by kernel_rfl
theorem a1v (x y:bF):Vm.Zp Tryz.prog 133 (Enc.enc x) (Enc.enc y)=some (decide (x=y)):=by
 show some (decide (x.rank=y.rank)&&(decide (x.shift=y.shift)&&true))=_
 by_cases h:x=y
 ·subst h;simp
 ·rw [decide_eq_false h]
  have:¬ (x.rank=y.rank∧x.shift=y.shift):=fun h'=>h (by cases x;cases y;simp_all)
  by_cases h1:x.rank=y.rank<;>simp_all
theorem Wx {α:Type} [Inhabited α] {a:α} {l:List α}:a∈l↔∃ i,i<l.length∧gi l i=a:=by
 constructor
 ·intro h
  obtain ⟨i,hi,e⟩:=List.getElem_of_mem h
  exact ⟨i,hi,by simp [gi,List.getElem?_eq_getElem hi,e]⟩
 ·rintro ⟨i,hi,e⟩
  rw [← e]
  simp only [gi,List.getElem?_eq_getElem hi,Option.getD_some]
  exact List.getElem_mem hi
theorem Zg {α:Type} [Inhabited α] {l:List α} {i k:Nat} (h:i<k):gi (l.take k) i=gi l i:=by simp [gi,List.getElem?_take,h]
theorem DL {α:Type} [Inhabited α] {l:List α} {k:Nat} (hk:k<l.length):l.take (k+1)=l.take k++[gi l k]:=by
 rw [List.take_succ_eq_append_getElem hk];simp [gi,List.getElem?_eq_getElem hk]
theorem yj {L:Vm.Frame} {H:Vm.Heap} {nx:Nat} {Q:PV→Vm.Heap→Nat→Prop} {dst:Option Tmp} {ty:TypeId} {pos:String} {af:Array Edge} {gd:Option (Nat×Bool)} {fo:Operand} {args:Array Operand} {aT:Array TypeId} {fs cs xs:List PV} {c:Code}
 (hf:BG env.Γ L fo=some (.clo 136 fs cs)) (ha:evs env.Γ L args.toList=some xs) (hb:Tryz.f136.body=some c) (hn:(fs++xs++cs).length≤Tryz.f136.ntmps)
 (h:Ae env nx c (CQ 0 (fs++xs++cs)) H nx (Bv env.P Tryz.f136.results.toList Q)):Aa env true ⟨dst,.call { callee:=.value fo,args:=args,argTypes:=aT },ty,pos,af,gd⟩ L H nx Q:=by
 have h0:(match Tryz.f136.body with|some c=>H6 env.G Tryz.f136 c|none=>false)=true:=by kernel_rfl
 rw [hb] at h0
 exact Aa.inline rfl hf ha (AB (by decide)) Tryz.func136 hb h0 hn h
theorem Xr (l:List bF) (d:bF) (hl:l.length<1000000):AZ env 124 [.lst 133 (cells l) l.length,.agg (Enc.enc d)] (.p (.bool (decide (d∈l)))):=by
 refine AZ.enter (AB (by decide)) Tryz.func124 rfl (by kernel_rfl) (by simp [Tryz.ntmps124]) ?_
 repeat' (first|apply Ae.assoc|apply Ae.AA|apply Ae.Ai|apply Ag.nil|apply Ag.one|(apply yj;rfl;rfl;rfl;exact le_dec rfl)|(apply Aa.assign;rfl)|(apply Aa.move;rfl)|(apply Aa.load;rfl;rfl)|(apply Aa.BL;rfl;rfl)|(apply Aa.box;rfl;trivial))
 refine Ae.Ec (fun k:Nat=>[(0,lst 133 l),(3,.ref 1 0),(7,.p (.int .i64 (l.length:Int))),(8,.p (.int .i64 (k:Int)))]) (fun _=>[(1,.box 133 ((Enc.enc d).map .p)),(0,.box 133 ((Enc.enc d).map .p))]) 2 (fun k=>k≤l.length∧∀ i,i<k→d≠gi l i) (fun k=>l.length-k) 0 (by omega) ⟨by omega,fun i hi=>by omega⟩ ⟨by omega,?_,?_⟩ ?_
 ·repeat (first|exact Ad.nil|refine Ad.same trivial rfl ?_|refine Ad.same (Ac rfl) rfl ?_|refine Ad.same ⟨trivial,Ac rfl,Ac rfl,Ac rfl,trivial⟩ rfl ?_|refine Ad.same ⟨trivial,Ac rfl,Ac rfl,trivial⟩ rfl ?_|refine Ad.same ⟨trivial,trivial⟩ rfl ?_|refine Ad.cons trivial rfl (.of_eq (Au (by simp<;>omega))) ?_)
 ·repeat (first|exact Aj.nil|(refine Aj.cons (Ac rfl) ?_ rfl ?_ ?_;(first|exact trivial|exact AV.Ah _ _|(simp [HB.under,AV.under,PV.under]));(first|exact Bq.refl _|exact Bq.vec (Bl.refl _) (by simp))))
 rintro k ⟨hk,hok⟩
 have he:=a1v d (gi l k)
 by_cases hd:d=gi l k
 ·rw [decide_eq_true hd] at he
  repeat' (first|apply Ae.AA|apply Ae.BA|apply Ae.Aq|apply Ae.A8|apply Ae.Ai|apply AO.normal|apply AO.ret|(apply Bv.ret;rfl)|apply AL.ret|apply AL.exit|apply Az.ret|apply Az.exit|apply Ae.ret|apply Ag.nil|apply Ak.nil|apply Ag.one|(apply Ak.bar;decide +kernel)|apply Ak.quiet|(apply Aa.zG;rfl;rfl;exact bY;exact he)|(apply Aa.assign;rfl)|(apply Aa.move;rfl)|(apply Aa.int;rfl;rfl;rfl)|(apply Aa.AU;rfl;rfl;rfl;omega;rfl)|(apply Aa.load;rfl;rfl)|(apply Ae.Af;rfl)|(apply Ae.cond_true;rfl)|(intro _;try (exfalso;omega)))
  ·rename_i a1
   rw [decide_eq_true (Wx.2 ⟨k,by omega,hd.symm⟩)]
   refine Done.ret rfl (.refl _) (by first|exact trivial|exact ⟨trivial,trivial,trivial⟩|exact ⟨trivial,trivial,trivial,trivial⟩) Aj.nil (Nat.zero_le _) (Nat.le_refl _) ⟨?_,rfl,rfl⟩
   refine PV.Gp ?_
   simp
  ·rename_i a1
   rw [decide_eq_false (fun h=>by obtain ⟨i,h1,h2⟩:=Wx.1 h;exact hok i (by omega) h2.symm)]
   (refine Done.ret rfl (.refl _) (by first|exact trivial|exact ⟨trivial,trivial,trivial⟩|exact ⟨trivial,trivial,trivial,trivial⟩) Aj.nil (Nat.zero_le _) (Nat.le_refl _) ⟨?_,rfl,rfl⟩;try rfl)
 ·rw [decide_eq_false hd] at he
  repeat' (first|apply Ae.AA|apply Ae.BA|apply Ae.region|apply Ae.Aq|apply Ae.A8|apply Ae.Ai|apply AO.normal|(apply Bv.ret;rfl)|apply AL.normal|apply AL.exit|apply Az.exit|apply Ae.ret|apply Ae.skip|apply Ag.nil|apply Ak.nil|apply Ag.one|(apply Ak.bar;decide +kernel)|apply Ak.quiet|(apply Aa.zG;rfl;rfl;exact bY;exact he)|(apply Aa.assign;rfl)|(apply Aa.move;rfl)|(apply Aa.Bz;rfl;rfl;omega)|(apply Aa.int;rfl;rfl;rfl)|(apply Aa.AU;rfl;rfl;rfl;omega;rfl)|(apply Aa.load;rfl;rfl)|(apply Ae.Af;rfl)|(apply Ae.cond_false;rfl)|(intro _;try (exfalso;omega)))
  ·rename_i a1
   refine Az.normal ⟨k+1,⟨by omega,fun i hi=>?_⟩,by omega,⟨by omega,?_,?_⟩⟩
   ·rcases Nat.lt_or_ge i k with h|h
    ·exact hok i h
    ·obtain rfl:i=k:=by omega
     exact hd
   ·repeat (first|exact Ad.nil|refine Ad.same trivial rfl ?_|refine Ad.same (Ac rfl) rfl ?_|refine Ad.same ⟨trivial,Ac rfl,Ac rfl,Ac rfl,trivial⟩ rfl ?_|refine Ad.same ⟨trivial,Ac rfl,Ac rfl,trivial⟩ rfl ?_|refine Ad.same ⟨trivial,trivial⟩ rfl ?_|refine Ad.cons trivial rfl (.of_eq (Au (by simp<;>omega))) ?_)
   ·repeat (first|exact Aj.nil|(refine Aj.cons (Ac rfl) ?_ rfl ?_ ?_;(first|exact trivial|exact AV.Ah _ _|(simp [HB.under,AV.under,PV.under]));(first|exact Bq.refl _|exact Bq.vec (Bl.refl _) (by simp))))
  ·rename_i a1
   rw [decide_eq_false (fun h=>by obtain ⟨i,h1,h2⟩:=Wx.1 h;exact hok i (by omega) h2.symm)]
   (refine Done.ret rfl (.refl _) (by first|exact trivial|exact ⟨trivial,trivial,trivial⟩|exact ⟨trivial,trivial,trivial,trivial⟩) Aj.nil (Nat.zero_le _) (Nat.le_refl _) ⟨?_,rfl,rfl⟩;try rfl)
def oz (rk:List FT) (lo hi:Int):List FV:=[.lst 131 (cells rk) rk.length,.int .i64 lo,.int .i64 hi]
theorem jv (rk:List FT) (lo hi:Int) (l:List bF) (hl:l.length<1000000) (hr:rk.length<1000000):AZ env 109 [.agg (oz rk lo hi),.lst 133 (cells l) l.length] (.p (.int .i64 (O9 rk.length l))):=by
 unfold O9
 refine AZ.enter (AB (by decide)) Tryz.func109 rfl (by kernel_rfl) (by simp [Tryz.ntmps109]) ?_
 repeat' (first|apply Ae.assoc|apply Ae.AA|apply Ae.Aq|apply Ae.BU|apply Ae.Ai|apply Ag.nil|apply Ag.one|(apply Aa.assign;rfl)|(apply Aa.move;rfl)|(apply Aa.int;rfl;rfl;rfl)|(apply Aa.BL;rfl;rfl)|(apply Aa.box;rfl;trivial)|(apply Ae.Af;rfl)|(intro _;try (exfalso;omega)))
 ·rw [if_pos (by omega)];(refine Done.ret rfl (.refl _) (by first|exact trivial|exact ⟨trivial,trivial,trivial⟩|exact ⟨trivial,trivial,trivial,trivial⟩) Aj.nil (Nat.zero_le _) (Nat.le_refl _) ⟨?_,rfl,rfl⟩;try rfl)
 rw [if_neg (by omega)]
 refine Ae.Ec (fun k:Nat=>[(1,lst 133 l),(2,.ref 0 0),(10,lst 133 l),(11,.p (.int .i64 (l.length:Int))),(12,.p (.int .i64 (k:Int)))]) (fun _=>[(0,.box 186 ((oz rk lo hi).map .p))]) 1 (fun k=>k≤l.length∧MR rk.length l k=MR rk.length l 0) (fun k=>l.length-k) 0 (by omega) ⟨by omega,rfl⟩ ⟨by omega,?_,?_⟩ ?_
 ·repeat (first|exact Ad.nil|refine Ad.same trivial rfl ?_|refine Ad.same (Ac rfl) rfl ?_|refine Ad.same ⟨trivial,Ac rfl,Ac rfl,Ac rfl,trivial⟩ rfl ?_|refine Ad.same ⟨trivial,Ac rfl,Ac rfl,trivial⟩ rfl ?_|refine Ad.same ⟨trivial,trivial⟩ rfl ?_|refine Ad.cons trivial rfl (.of_eq (Au (by simp<;>omega))) ?_)
 ·repeat (first|exact Aj.nil|(refine Aj.cons (Ac rfl) ?_ rfl ?_ ?_;(first|exact trivial|exact AV.Ah _ _|(simp [HB.under,AV.under,PV.under]));(first|exact Bq.refl _|exact Bq.vec (Bl.refl _) (by simp))))
 rintro k ⟨hk,hE⟩
 have hc:=Xr (l.take k) (gi l k) (by rw [List.length_take];omega)
 rw [List.length_take,Nat.min_eq_left (by omega)] at hc
 rw [← hE]
 by_cases hkl:k<l.length
 ·rw [MR,if_pos hkl]
  generalize hg:decide (gi l k∈l.take k)=g at *
  cases g
  all_goals
   repeat' (first|apply Ae.AA|apply Ae.BA|apply Ae.region|apply Ae.Aq|apply Ae.Ai|apply AO.normal|apply AO.ret|apply AL.normal|apply AL.ret|apply Az.ret|apply Ae.ret|apply Ae.skip|apply Ae.IE|apply Ag.nil|apply Ak.nil|apply Ag.one|(apply Ak.bar;decide +kernel)|apply Ak.quiet|(apply Ag.take;rfl;rfl)|(apply Ag.drop;rfl;rfl;rfl)|(apply Ag.guard;rfl;rfl)|(apply Aa.fn;rfl;rfl;exact hc;intro _;rfl)|(apply Aa.sliceTo;rfl;rfl;rfl;rfl;rfl;rfl;omega)|(apply Aa.assign;rfl)|(apply Aa.move;rfl)|(apply Aa.Bz;rfl;rfl;omega)|(apply Aa.int;rfl;rfl;rfl)|(apply Aa.AU;rfl;rfl;rfl;omega;rfl)|(apply Aa.load;rfl;rfl)|(apply Aa.BJ;rfl;rfl)|(apply Aa.AQ;rfl;rfl)|(apply Aa.BL;rfl;rfl)|(apply Aa.AP;rfl;rfl;rfl)|(apply Aa.alloc;rfl)|(apply Aa.Bj;rfl;rfl;rfl;trivial;rfl;rfl;exact Ac rfl;exact le_dec rfl)|(apply Ae.Af;rfl)|(apply Ae.cond_true;rfl)|(apply Ae.cond_false;rfl)|(apply Ae.AY;rfl)|(intro _;try (exfalso;omega)))
  all_goals try (exfalso;omega)
  all_goals first
   |(rw [if_pos (by omega)];(refine Done.ret rfl (.refl _) (by first|exact trivial|exact ⟨trivial,trivial,trivial⟩|exact ⟨trivial,trivial,trivial,trivial⟩) Aj.nil (Nat.zero_le _) (Nat.le_refl _) ⟨?_,rfl,rfl⟩;try rfl);done)
   |(rw [if_neg (by omega),if_pos (by omega)];(refine Done.ret rfl (.refl _) (by first|exact trivial|exact ⟨trivial,trivial,trivial⟩|exact ⟨trivial,trivial,trivial,trivial⟩) Aj.nil (Nat.zero_le _) (Nat.le_refl _) ⟨?_,rfl,rfl⟩;try rfl);done)
   |(rw [if_neg (by omega),if_neg (by omega),if_pos (of_decide_eq_true hg)];(refine Done.ret rfl (.refl _) (by first|exact trivial|exact ⟨trivial,trivial,trivial⟩|exact ⟨trivial,trivial,trivial,trivial⟩) Aj.nil (Nat.zero_le _) (Nat.le_refl _) ⟨?_,rfl,rfl⟩;try rfl);done)
   |(rw [if_neg (by omega),if_neg (by omega),if_neg (of_decide_eq_false hg)]
     refine Az.normal ⟨k+1,⟨by omega,?_⟩,by omega,⟨by omega,?_,?_⟩⟩
     ·first|rfl|(refine Eq.trans ?_ hE;symm;(conv=>lhs;rw [MR]);rw [if_pos hkl,if_neg (by omega),if_neg (by omega),if_neg (of_decide_eq_false hg)])
     ·repeat (first|exact Ad.nil|refine Ad.same trivial rfl ?_|refine Ad.same (Ac rfl) rfl ?_|refine Ad.same ⟨trivial,Ac rfl,Ac rfl,Ac rfl,trivial⟩ rfl ?_|refine Ad.same ⟨trivial,Ac rfl,Ac rfl,trivial⟩ rfl ?_|refine Ad.same ⟨trivial,trivial⟩ rfl ?_|refine Ad.cons trivial rfl (.of_eq (Au (by simp<;>omega))) ?_)
     ·repeat (first|exact Aj.nil|(refine Aj.cons (Ac rfl) ?_ rfl ?_ ?_;(first|exact trivial|exact AV.Ah _ _|(simp [HB.under,AV.under,PV.under]));(first|exact Bq.refl _|exact Bq.vec (Bl.refl _) (by simp)))))
 ·rw [MR,if_neg hkl]
  repeat' (first|apply Ae.AA|apply Ae.A8|apply AO.normal|apply AL.exit|apply Az.exit|apply Ae.ret|apply Ag.nil|apply Ag.one|(apply Aa.assign;rfl)|(apply Aa.int;rfl;rfl;rfl)|(apply Ae.Af;rfl)|(intro _;try (exfalso;omega)))
  all_goals first|(exfalso;omega)|(refine Done.ret rfl (.refl _) (by first|exact trivial|exact ⟨trivial,trivial,trivial⟩|exact ⟨trivial,trivial,trivial,trivial⟩) Aj.nil (Nat.zero_le _) (Nat.le_refl _) ⟨?_,rfl,rfl⟩;try rfl)
theorem je (rk:List FT) (lo hi:Int) (hr:rk.length<1000000) (hs:∀ i,i<rk.length→Vk (gi rk i)):AZ env 108 [.agg (oz rk lo hi)] (.p (.int .i64 (bV rk lo hi))):=by
 have hcm:=VZ lo hi
 unfold bV
 refine AZ.enter (AB (by decide)) Tryz.func108 rfl (by kernel_rfl) (by simp [Tryz.ntmps108]) ?_
 repeat' (first|apply Ae.assoc|apply Ae.AA|apply Ae.Aq|apply Ae.BU|apply Ae.Ai|apply Ag.nil|apply Ag.one|(apply Aa.assign;rfl)|(apply Aa.move;rfl)|(apply Aa.int;rfl;rfl;rfl)|(apply Aa.load;rfl;rfl)|(apply Aa.BL;rfl;rfl)|(apply Aa.AP;rfl;rfl;rfl)|(apply Aa.box;rfl;trivial)|(apply Ae.Af;rfl)|(intro _;try (exfalso;omega)))
 ·rw [if_pos (by omega)];(refine Done.ret rfl (.refl _) (by first|exact trivial|exact ⟨trivial,trivial,trivial⟩|exact ⟨trivial,trivial,trivial,trivial⟩) Aj.nil (Nat.zero_le _) (Nat.le_refl _) ⟨?_,rfl,rfl⟩;try rfl)
 rw [if_neg (by omega)]
 refine Ae.Ec (fun k:Nat=>[(1,.ref 0 0),(11,lst 131 rk),(12,.p (.int .i64 (rk.length:Int))),(13,.p (.int .i64 (k:Int)))]) (fun _=>[(0,.box 186 ((oz rk lo hi).map .p))]) 1 (fun k=>k≤rk.length∧VL rk k=VL rk 0) (fun k=>rk.length-k) 0 (by omega) ⟨by omega,rfl⟩ ⟨by omega,?_,?_⟩ ?_
 ·repeat (first|exact Ad.nil|refine Ad.same trivial rfl ?_|refine Ad.same (Ac rfl) rfl ?_|refine Ad.same ⟨trivial,Ac rfl,Ac rfl,Ac rfl,trivial⟩ rfl ?_|refine Ad.same ⟨trivial,Ac rfl,Ac rfl,trivial⟩ rfl ?_|refine Ad.same ⟨trivial,trivial⟩ rfl ?_|refine Ad.cons trivial rfl (.of_eq (Au (by simp<;>omega))) ?_)
 ·repeat (first|exact Aj.nil|(refine Aj.cons (Ac rfl) ?_ rfl ?_ ?_;(first|exact trivial|exact AV.Ah _ _|(simp [HB.under,AV.under,PV.under]));(first|exact Bq.refl _|exact Bq.vec (Bl.refl _) (by simp))))
 rintro k ⟨hk,hE⟩
 rw [← hE]
 by_cases hkl:k<rk.length
 ·have hsm:=(hs k hkl).len
  have hc:=Ui (gi rk k) hsm.1 hsm.2.1 hsm.2.2
  rw [VL,if_pos hkl]
  by_cases h0:D8 (gi rk k)=0
  ·rw [h0] at hc ⊢
   rw [if_neg (by decide)]
   repeat' (first|apply Ae.AA|apply Ae.region|apply Ae.Aq|apply Ae.Ai|apply AO.normal|apply AL.normal|apply Ae.skip|apply Ag.nil|apply Ag.one|(apply Aa.fn;rfl;rfl;exact hc;intro _;rfl)|(apply Aa.assign;rfl)|(apply Aa.move;rfl)|(apply Aa.Bz;rfl;rfl;omega)|(apply Aa.int;rfl;rfl;rfl)|(apply Aa.AU;rfl;rfl;rfl;omega;rfl)|(apply Aa.load;rfl;rfl)|(apply Aa.alloc;rfl)|(apply Aa.Bj;rfl;rfl;rfl;trivial;rfl;rfl;exact Ac rfl;exact le_dec rfl)|(apply Ae.Af;rfl)|(apply Ae.cond_false;rfl)|(intro _;try (exfalso;omega)))
   all_goals try (exfalso;omega)
   refine Az.normal ⟨k+1,⟨by omega,?_⟩,by omega,⟨by omega,?_,?_⟩⟩
   ·first|rfl|(refine Eq.trans ?_ hE;symm;(conv=>lhs;rw [VL]);rw [if_pos hkl,if_neg (fun h=>h h0)])
   ·repeat (first|exact Ad.nil|refine Ad.same trivial rfl ?_|refine Ad.same (Ac rfl) rfl ?_|refine Ad.same ⟨trivial,Ac rfl,Ac rfl,Ac rfl,trivial⟩ rfl ?_|refine Ad.same ⟨trivial,Ac rfl,Ac rfl,trivial⟩ rfl ?_|refine Ad.same ⟨trivial,trivial⟩ rfl ?_|refine Ad.cons trivial rfl (.of_eq (Au (by simp<;>omega))) ?_)
   ·repeat (first|exact Aj.nil|(refine Aj.cons (Ac rfl) ?_ rfl ?_ ?_;(first|exact trivial|exact AV.Ah _ _|(simp [HB.under,AV.under,PV.under]));(first|exact Bq.refl _|exact Bq.vec (Bl.refl _) (by simp))))
  ·rw [if_pos h0,if_pos h0]
   repeat' (first|apply Ae.AA|apply Ae.Aq|apply Ae.Ai|apply AO.ret|apply AL.ret|apply Az.ret|apply Ae.ret|apply Ag.nil|apply Ag.one|(apply Aa.fn;rfl;rfl;exact hc;intro _;rfl)|(apply Aa.assign;rfl)|(apply Aa.move;rfl)|(apply Aa.int;rfl;rfl;rfl)|(apply Aa.AU;rfl;rfl;rfl;omega;rfl)|(apply Aa.load;rfl;rfl)|(apply Aa.alloc;rfl)|(apply Aa.Bj;rfl;rfl;rfl;trivial;rfl;rfl;exact Ac rfl;exact le_dec rfl)|(apply Ae.Af;rfl)|(apply Ae.AY;rfl)|(intro _;try (exfalso;omega)))
   all_goals first|(exfalso;omega)|(refine Done.ret rfl (.refl _) (by first|exact trivial|exact ⟨trivial,trivial,trivial⟩|exact ⟨trivial,trivial,trivial,trivial⟩) Aj.nil (Nat.zero_le _) (Nat.le_refl _) ⟨?_,rfl,rfl⟩;try rfl)
 ·rw [VL,if_neg hkl,if_neg (by decide)]
  repeat' (first|apply Ae.AA|apply Ae.A8|apply AO.normal|apply AL.exit|apply Az.exit|apply Ae.ret|apply Ag.nil|apply Ag.one|(apply Aa.fn;rfl;rfl;exact hcm;intro _;rfl)|(apply Aa.assign;rfl)|(apply Aa.int;rfl;rfl;rfl)|(apply Aa.load;rfl;rfl)|(apply Aa.AP;rfl;rfl;rfl)|(apply Ae.Af;rfl)|(intro _;try (exfalso;omega)))
  all_goals first|(exfalso;omega)|(refine Done.ret rfl (.refl _) (by first|exact trivial|exact ⟨trivial,trivial,trivial⟩|exact ⟨trivial,trivial,trivial,trivial⟩) Aj.nil (Nat.zero_le _) (Nat.le_refl _) ⟨?_,rfl,rfl⟩;try rfl)
theorem nC (rk:List FT) (lo hi:Int) (s:Stp) (hr:rk.length<1000000) (hs:∀ i,i<rk.length→Vk (gi rk i)) (hS:X5 s):AZ env 90 [.agg (oz rk lo hi),.agg (Enc.enc s)] (.p (.int .i64 (Jp rk lo hi s))):=by
 obtain ⟨q1,q2,q3⟩:=hS
 have hp:=je rk lo hi hr hs
 have hn:=Hu s.name (by omega)
 have hf:=Kt s.Du
 unfold Jp wL
 refine AZ.enter (AB (by decide)) Tryz.func90 rfl (by kernel_rfl) (by simp [Tryz.ntmps90]) ?_
 by_cases h0:bV rk lo hi=0
 case neg =>
  rw [if_pos h0]
  repeat' (first|apply Ae.assoc|apply Ae.AA|apply Ae.BU|apply Ag.nil|apply Ag.one|(apply Aa.fn;rfl;rfl;exact hp;intro _;rfl)|(apply Aa.assign;rfl)|(apply Aa.move;rfl)|(apply Aa.int;rfl;rfl;rfl)|(apply Aa.load;rfl;rfl)|(apply Aa.box;rfl;trivial)|(apply Ae.Af;rfl)|(intro _;try (exfalso;omega)))
  all_goals first|(exfalso;omega)|(refine Done.ret rfl (.refl _) (by first|exact trivial|exact ⟨trivial,trivial,trivial⟩|exact ⟨trivial,trivial,trivial,trivial⟩) Aj.nil (Nat.zero_le _) (Nat.le_refl _) ⟨?_,rfl,rfl⟩;try rfl)
 rw [h0] at hp ⊢
 rw [if_neg (by decide)]
 by_cases h1:C9 s.name
 case neg =>
  rw [if_pos h1]
  rw [decide_eq_false h1] at hn
  repeat' (first|apply Ae.assoc|apply Ae.AA|apply Ae.Aq|apply Ae.BU|apply Ag.nil|apply Ag.one|(apply Aa.fn;rfl;rfl;exact hp;intro _;rfl)|(apply Aa.fn;rfl;rfl;exact hn;intro _;rfl)|(apply Aa.assign;rfl)|(apply Aa.move;rfl)|(apply Aa.int;rfl;rfl;rfl)|(apply Aa.load;rfl;rfl)|(apply Aa.AP;rfl;rfl;rfl)|(apply Aa.box;rfl;trivial)|(apply Aa.not;rfl)|(apply Ae.Bg;rfl)|(apply Ae.Ar;rfl))
  all_goals first|contradiction|(exfalso;omega)|(refine Done.ret rfl (.refl _) (by first|exact trivial|exact ⟨trivial,trivial,trivial⟩|exact ⟨trivial,trivial,trivial,trivial⟩) Aj.nil (Nat.zero_le _) (Nat.le_refl _) ⟨?_,rfl,rfl⟩;try rfl)
 rw [if_neg (fun h=>h h1)]
 rw [decide_eq_true h1] at hn
 by_cases h2:OJ s.Du=0
 case neg =>
  rw [if_pos h2]
  repeat' (first|apply Ae.assoc|apply Ae.AA|apply Ae.Aq|apply Ae.BU|apply Ag.nil|apply Ag.one|(apply Aa.fn;rfl;rfl;exact hp;intro _;rfl)|(apply Aa.fn;rfl;rfl;exact hn;intro _;rfl)|(apply Aa.fn;rfl;rfl;exact hf;intro _;rfl)|(apply Aa.assign;rfl)|(apply Aa.move;rfl)|(apply Aa.int;rfl;rfl;rfl)|(apply Aa.load;rfl;rfl)|(apply Aa.AP;rfl;rfl;rfl)|(apply Aa.box;rfl;trivial)|(apply Aa.not;rfl)|(apply Ae.Ar;rfl)|(apply Ae.Af;rfl)|(intro _;try (exfalso;omega)))
  all_goals first|contradiction|(exfalso;omega)|(refine Done.ret rfl (.refl _) (by first|exact trivial|exact ⟨trivial,trivial,trivial⟩|exact ⟨trivial,trivial,trivial,trivial⟩) Aj.nil (Nat.zero_le _) (Nat.le_refl _) ⟨?_,rfl,rfl⟩;try rfl)
 rw [if_neg (fun h=>h h2)]
 rw [h2] at hf
 repeat' (first|apply Ae.assoc|apply Ae.AA|apply Ae.Aq|apply Ae.Ai|apply AO.normal|apply AO.ret|apply AL.normal|apply AL.ret|apply Ae.ret|apply Ae.skip|apply Ag.nil|apply Ag.one|(apply Aa.fn;rfl;rfl;exact hp;intro _;rfl)|(apply Aa.fn;rfl;rfl;exact hn;intro _;rfl)|(apply Aa.fn;rfl;rfl;exact hf;intro _;rfl)|(apply Aa.assign;rfl)|(apply Aa.move;rfl)|(apply Aa.int;rfl;rfl;rfl)|(apply Aa.load;rfl;rfl)|(apply Aa.BL;rfl;rfl)|(apply Aa.AP;rfl;rfl;rfl)|(apply Aa.box;rfl;trivial)|(apply Aa.not;rfl)|(apply Ae.Ar;rfl)|(apply Ae.AY;rfl)|(intro _;try (exfalso;omega)))
 all_goals try contradiction
 all_goals try (exfalso;omega)
 ·rw [if_pos (by omega)];(refine Done.ret rfl (.refl _) (by first|exact trivial|exact ⟨trivial,trivial,trivial⟩|exact ⟨trivial,trivial,trivial,trivial⟩) Aj.nil (Nat.zero_le _) (Nat.le_refl _) ⟨?_,rfl,rfl⟩;try rfl)
 ·rw [if_neg (by omega),if_pos (by omega)];(refine Done.ret rfl (.refl _) (by first|exact trivial|exact ⟨trivial,trivial,trivial⟩|exact ⟨trivial,trivial,trivial,trivial⟩) Aj.nil (Nat.zero_le _) (Nat.le_refl _) ⟨?_,rfl,rfl⟩;try rfl)
 rw [if_neg (by omega),if_neg (by omega)]
 refine Ae.Ec (fun k:Nat=>[(2,.ref 0 0),(3,.ref 1 0),(36,lst 136 s.Ez),(37,.p (.int .i64 (s.Ez.length:Int))),(38,.p (.int .i64 (k:Int)))]) (fun _=>[(1,.box 122 ((Enc.enc s).map .p)),(0,.box 186 ((oz rk lo hi).map .p))]) 2 (fun k=>k≤s.Ez.length∧JK rk.length lo hi s.Ez k=JK rk.length lo hi s.Ez 0) (fun k=>s.Ez.length-k) 0 (by omega) ⟨by omega,rfl⟩ ⟨by omega,?_,?_⟩ ?_
 ·repeat (first|exact Ad.nil|refine Ad.same trivial rfl ?_|refine Ad.same (Ac rfl) rfl ?_|refine Ad.same ⟨trivial,Ac rfl,Ac rfl,Ac rfl,trivial⟩ rfl ?_|refine Ad.same ⟨trivial,Ac rfl,Ac rfl,trivial⟩ rfl ?_|refine Ad.same ⟨trivial,trivial⟩ rfl ?_|refine Ad.cons trivial rfl (.of_eq (Au (by simp<;>omega))) ?_)
 ·repeat (first|exact Aj.nil|(refine Aj.cons (Ac rfl) ?_ rfl ?_ ?_;(first|exact trivial|exact AV.Ah _ _|(simp [HB.under,AV.under,PV.under]));(first|exact Bq.refl _|exact Bq.vec (Bl.refl _) (by simp))))
 rintro k ⟨hk,hE⟩
 rw [← hE]
 by_cases hkl:k<s.Ez.length
 ·have hsm:=(q3 k hkl).draws
  have hd:=jv rk lo hi (gi s.Ez k).draws hsm hr
  rw [JK,if_pos hkl]
  have hk1:((k:Int)-1).toNat=k-1:=by omega
  have hkc:0<k→((k-1:Nat):Int)=(k:Int)-1:=fun h=>by omega
  generalize hD:O9 rk.length (gi s.Ez k).draws=D at *
  repeat' (first|apply Ae.AA|apply Ae.BA|apply Ae.region|apply Ae.Aq|apply Ae.Ai|apply AO.normal|apply AO.ret|apply AL.normal|apply AL.ret|apply Az.ret|apply Ae.ret|apply Ae.skip|apply Ag.nil|apply Ak.nil|apply Ag.one|(apply Ak.bar;decide +kernel)|apply Ak.quiet|(apply Ag.take;rfl;rfl)|(apply Ak.Yz;rfl;rfl)|(apply Ag.drop;rfl;rfl;rfl)|(apply Ak.drop;rfl;rfl;rfl)|(apply Ag.guard;rfl;rfl)|(apply Ak.guard;rfl;rfl)|(apply Ak.lI;rfl;rfl)|(apply Aa.fn;rfl;rfl;exact hd;intro _;rfl)|(apply Aa.assign;rfl)|(apply Aa.move;rfl)|(apply Aa.Bz;rfl;rfl;omega)|(apply Aa.Ir;rfl;rfl;omega)|(apply Aa.int;rfl;rfl;rfl)|(apply Aa.AU;rfl;rfl;rfl;omega;rfl)|(apply Aa.uw;rfl;rfl;rfl;omega;omega;rfl)|(apply Aa.load;rfl;rfl)|(apply Aa.BJ;rfl;rfl)|(apply Aa.AQ;rfl;rfl)|(apply Aa.AP;rfl;rfl;rfl)|(apply Aa.DC;rfl;rfl)|(apply Aa.alloc;rfl)|(apply Aa.Bj;rfl;rfl;rfl;trivial;rfl;rfl;exact Ac rfl;exact le_dec rfl)|(apply Aa.Xk;rfl;rfl)|(apply Aa.a7k;rfl;rfl)|(apply Ae.Af;rfl)|(apply Ae.cond_true;rfl)|(apply Ae.cond_false;rfl)|(apply Ae.AY;rfl)|(intro _;try (exfalso;omega)))
  all_goals try (exfalso;omega)
  all_goals first
   |(rw [if_pos (by omega)];(refine Done.ret rfl (.refl _) (by first|exact trivial|exact ⟨trivial,trivial,trivial⟩|exact ⟨trivial,trivial,trivial,trivial⟩) Aj.nil (Nat.zero_le _) (Nat.le_refl _) ⟨?_,rfl,rfl⟩;try rfl);done)
   |(rw [if_neg (by omega),if_pos (by omega)];(refine Done.ret rfl (.refl _) (by first|exact trivial|exact ⟨trivial,trivial,trivial⟩|exact ⟨trivial,trivial,trivial,trivial⟩) Aj.nil (Nat.zero_le _) (Nat.le_refl _) ⟨?_,rfl,rfl⟩;try rfl);done)
   |(rw [if_neg (by omega),if_neg (by omega),if_pos (by omega)];(refine Done.ret rfl (.refl _) (by first|exact trivial|exact ⟨trivial,trivial,trivial⟩|exact ⟨trivial,trivial,trivial,trivial⟩) Aj.nil (Nat.zero_le _) (Nat.le_refl _) ⟨?_,rfl,rfl⟩;try rfl);done)
   |(rw [if_neg (by omega),if_neg (by omega),if_neg (by omega)]
     refine Az.normal ⟨k+1,⟨by omega,?_⟩,by omega,⟨by omega,?_,?_⟩⟩
     ·first|rfl|(refine Eq.trans ?_ hE;symm;(conv=>lhs;rw [JK]);rw [if_pos hkl,if_neg (by omega),if_neg (by omega),if_neg (by omega)])
     ·repeat (first|exact Ad.nil|refine Ad.same trivial rfl ?_|refine Ad.same (Ac rfl) rfl ?_|refine Ad.same ⟨trivial,Ac rfl,Ac rfl,Ac rfl,trivial⟩ rfl ?_|refine Ad.same ⟨trivial,Ac rfl,Ac rfl,trivial⟩ rfl ?_|refine Ad.same ⟨trivial,trivial⟩ rfl ?_|refine Ad.cons trivial rfl (.of_eq (Au (by simp<;>omega))) ?_)
     ·repeat (first|exact Aj.nil|(refine Aj.cons (Ac rfl) ?_ rfl ?_ ?_;(first|exact trivial|exact AV.Ah _ _|(simp [HB.under,AV.under,PV.under]));(first|exact Bq.refl _|exact Bq.vec (Bl.refl _) (by simp)))))
 ·rw [JK,if_neg hkl]
  repeat' (first|apply Ae.AA|apply Ae.A8|apply AO.normal|apply AL.exit|apply Az.exit|apply Ae.ret|apply Ag.nil|apply Ag.one|(apply Aa.assign;rfl)|(apply Aa.int;rfl;rfl;rfl)|(apply Ae.Af;rfl)|(intro _;try (exfalso;omega)))
  all_goals first|(exfalso;omega)|(refine Done.ret rfl (.refl _) (by first|exact trivial|exact ⟨trivial,trivial,trivial⟩|exact ⟨trivial,trivial,trivial,trivial⟩) Aj.nil (Nat.zero_le _) (Nat.le_refl _) ⟨?_,rfl,rfl⟩;try rfl)
end Go.Proofs.YtdabojnmoejilaaGreatDoor
namespace Go.Proofs.YtdabojnmoejilaaGreatDoor
open Go Go.Am Go.Vm
attribute [local irreducible] Aa Ag Ak Ae BH AZ CW AO AL Az Vm.Done Di Bv
attribute [local irreducible] D8 DW
theorem yE {L:Vm.Frame} {H:Vm.Heap} {nx:Nat} {Q:PV→Vm.Heap→Nat→Prop} {dst:Option Tmp} {ty:TypeId} {pos:String} {af:Array Edge} {gd:Option (Nat×Bool)} {fo:Operand} {args:Array Operand} {aT:Array TypeId} {fs cs xs:List PV} {c:Code}
 (hf:BG env.Γ L fo=some (.clo 91 fs cs)) (ha:evs env.Γ L args.toList=some xs) (hb:Tryz.f91.body=some c) (hn:(fs++xs++cs).length≤Tryz.f91.ntmps)
 (h:Ae env nx c (CQ 0 (fs++xs++cs)) H nx (Bv env.P Tryz.f91.results.toList Q)):Aa env true ⟨dst,.call { callee:=.value fo,args:=args,argTypes:=aT },ty,pos,af,gd⟩ L H nx Q:=by
 have h0:(match Tryz.f91.body with|some c=>H6 env.G Tryz.f91 c|none=>false)=true:=by kernel_rfl
 rw [hb] at h0
 exact Aa.inline rfl hf ha (AB (by decide)) Tryz.func91 hb h0 hn h
theorem xJ {L:Vm.Frame} {H:Vm.Heap} {nx:Nat} {Q:PV→Vm.Heap→Nat→Prop} {dst:Option Tmp} {ty:TypeId} {pos:String} {af:Array Edge} {gd:Option (Nat×Bool)} {fo:Operand} {args:Array Operand} {aT:Array TypeId} {fs cs xs:List PV} {c:Code}
 (hf:BG env.Γ L fo=some (.clo 94 fs cs)) (ha:evs env.Γ L args.toList=some xs) (hb:Tryz.f94.body=some c) (hn:(fs++xs++cs).length≤Tryz.f94.ntmps)
 (h:Ae env nx c (CQ 0 (fs++xs++cs)) H nx (Bv env.P Tryz.f94.results.toList Q)):Aa env true ⟨dst,.call { callee:=.value fo,args:=args,argTypes:=aT },ty,pos,af,gd⟩ L H nx Q:=by
 have h0:(match Tryz.f94.body with|some c=>H6 env.G Tryz.f94 c|none=>false)=true:=by kernel_rfl
 rw [hb] at h0
 exact Aa.inline rfl hf ha (AB (by decide)) Tryz.func94 hb h0 hn h
theorem kW {L:Vm.Frame} {H:Vm.Heap} {nx:Nat} {Q:PV→Vm.Heap→Nat→Prop} {dst:Option Tmp} {ty:TypeId} {pos:String} {af:Array Edge} {gd:Option (Nat×Bool)} {fo:Operand} {args:Array Operand} {aT:Array TypeId} {fs cs xs:List PV} {c:Code}
 (hf:BG env.Γ L fo=some (.clo 92 fs cs)) (ha:evs env.Γ L args.toList=some xs) (hb:Tryz.f92.body=some c) (hn:(fs++xs++cs).length≤Tryz.f92.ntmps)
 (h:Ae env nx c (CQ 0 (fs++xs++cs)) H nx (Bv env.P Tryz.f92.results.toList Q)):Aa env true ⟨dst,.call { callee:=.value fo,args:=args,argTypes:=aT },ty,pos,af,gd⟩ L H nx Q:=by
 have h0:(match Tryz.f92.body with|some c=>H6 env.G Tryz.f92 c|none=>false)=true:=by kernel_rfl
 rw [hb] at h0
 exact Aa.inline rfl hf ha (AB (by decide)) Tryz.func92 hb h0 hn h
theorem ZH (ks:List ZT) (l:List ZR) (hk0:ks.length<1000000) (hl:l.length<1000000) (hn0:∀ i,i<l.length→(gi l i).name.length<1000000):AZ env 61 [.lst 94 (cells ks) ks.length,.lst 147 (cells l) l.length] (.p (.int .i64 (SV ks l))):=by
 unfold SV
 refine AZ.enter (AB (by decide)) Tryz.func61 rfl (by kernel_rfl) (by simp [Tryz.ntmps61]) ?_
 by_cases h0:ks.length>8∨l.length>40
 ·rw [if_pos h0]
  repeat' (first|apply Ae.assoc|apply Ae.AA|apply Ae.BU|apply Ag.nil|apply Ag.one|(apply Ag.take;rfl;rfl)|(apply Ag.drop;rfl;rfl;rfl)|(apply Ag.guard;rfl;rfl)|(apply Aa.assign;rfl)|(apply Aa.move;rfl)|(apply Aa.int;rfl;rfl;rfl)|(apply Aa.BJ;rfl;rfl)|(apply Aa.AQ;rfl;rfl)|(apply Aa.BL;rfl;rfl)|(apply Ae.Bg;rfl)|(apply Ae.Af;rfl)|(intro _;try (exfalso;omega)))
  all_goals first|(exfalso;omega)|(refine Done.ret rfl (.refl _) (by first|exact trivial|exact ⟨trivial,trivial,trivial⟩|exact ⟨trivial,trivial,trivial,trivial⟩) Aj.nil (Nat.zero_le _) (Nat.le_refl _) ⟨?_,rfl,rfl⟩;try rfl)
 rw [if_neg h0]
 repeat' (first|apply Ae.assoc|apply Ae.AA|apply Ae.Aq|apply Ae.Ai|apply Ag.nil|apply Ag.one|(apply Ag.take;rfl;rfl)|(apply Ag.guard;rfl;rfl)|(apply Aa.assign;rfl)|(apply Aa.move;rfl)|(apply Aa.int;rfl;rfl;rfl)|(apply Aa.AQ;rfl;rfl)|(apply Aa.BL;rfl;rfl)|(apply Ae.Af;rfl)|(intro _;try (exfalso;omega)))
 all_goals try (exfalso;omega)
 refine Ae.Ec (fun k:Nat=>[(0,lst 94 ks),(1,lst 147 l),(17,lst 94 ks),(18,.p (.int .i64 (ks.length:Int))),(19,.p (.int .i64 (k:Int)))]) (fun _=>[]) 0 (fun k=>k≤ks.length∧P8 ks k=P8 ks 0) (fun k=>ks.length-k) 0 (by omega) ⟨by omega,rfl⟩ ⟨by omega,?_,Aj.nil⟩ ?_
 ·repeat (first|exact Ad.nil|refine Ad.same trivial rfl ?_|refine Ad.same (Ac rfl) rfl ?_|refine Ad.same ⟨trivial,Ac rfl,trivial⟩ rfl ?_|refine Ad.same ⟨trivial,Ac rfl,Ac rfl,trivial⟩ rfl ?_|refine Ad.same ⟨trivial,Ac rfl,Ac rfl,Ac rfl,trivial⟩ rfl ?_|refine Ad.same ⟨trivial,Ac rfl,Ac rfl,Ac rfl,Ac rfl,trivial⟩ rfl ?_|refine Ad.same ⟨trivial,trivial⟩ rfl ?_|refine Ad.cons trivial rfl (.of_eq (Au (by simp<;>omega))) ?_)
 rintro k ⟨hk,hE⟩
 by_cases hkl:k<ks.length
 ·have hc:=VZ (gi ks k).lo (gi ks k).hi
  by_cases h1:UG (gi ks k).lo (gi ks k).hi=0
  ·rw [h1] at hc
   repeat' (first|apply Ae.AA|apply Ae.region|apply Ae.Aq|apply Ae.Ai|apply AO.normal|apply AL.normal|apply Ae.skip|apply Ag.nil|apply Ag.one|(apply Aa.fn;rfl;rfl;exact hc;intro _;rfl)|(apply Aa.move;rfl)|(apply Aa.Bz;rfl;rfl;omega)|(apply Aa.int;rfl;rfl;rfl)|(apply Aa.AU;rfl;rfl;rfl;omega;rfl)|(apply Aa.load;rfl;rfl)|(apply Aa.alloc;rfl)|(apply Aa.Bj;rfl;rfl;rfl;trivial;rfl;rfl;exact Ac rfl;exact le_dec rfl)|(apply Ae.Af;rfl)|(apply Ae.cond_false;rfl)|(intro _;try (exfalso;omega)))
   all_goals try (exfalso;omega)
   all_goals try contradiction
   refine Az.normal ⟨k+1,⟨by omega,?_⟩,by omega,⟨by omega,?_,Aj.nil⟩⟩
   ·first|rfl|(refine Eq.trans ?_ hE;symm;(conv=>lhs;rw [P8]);rw [if_pos hkl,if_neg (fun h=>h h1)])
   ·repeat (first|exact Ad.nil|refine Ad.same trivial rfl ?_|refine Ad.same (Ac rfl) rfl ?_|refine Ad.same ⟨trivial,Ac rfl,trivial⟩ rfl ?_|refine Ad.same ⟨trivial,Ac rfl,Ac rfl,trivial⟩ rfl ?_|refine Ad.same ⟨trivial,Ac rfl,Ac rfl,Ac rfl,trivial⟩ rfl ?_|refine Ad.same ⟨trivial,Ac rfl,Ac rfl,Ac rfl,Ac rfl,trivial⟩ rfl ?_|refine Ad.same ⟨trivial,trivial⟩ rfl ?_|refine Ad.cons trivial rfl (.of_eq (Au (by simp<;>omega))) ?_)
  ·have e:P8 ks 0=23:=by rw [← hE,P8,if_pos hkl,if_pos h1]
   rw [if_pos (by rw [e];decide),e]
   repeat' (first|apply Ae.AA|apply Ae.Aq|apply Ae.Ai|apply AO.ret|apply AL.ret|apply Az.ret|apply Ae.ret|apply Ag.nil|apply Ag.one|(apply Aa.fn;rfl;rfl;exact hc;intro _;rfl)|(apply Aa.assign;rfl)|(apply Aa.int;rfl;rfl;rfl)|(apply Aa.AU;rfl;rfl;rfl;omega;rfl)|(apply Aa.load;rfl;rfl)|(apply Aa.alloc;rfl)|(apply Aa.Bj;rfl;rfl;rfl;trivial;rfl;rfl;exact Ac rfl;exact le_dec rfl)|(apply Ae.Af;rfl)|(apply Ae.AY;rfl)|(intro _;try (exfalso;omega)))
   all_goals first|(exfalso;omega)|contradiction|(refine Done.ret rfl (.refl _) (by first|exact trivial|exact ⟨trivial,trivial,trivial⟩|exact ⟨trivial,trivial,trivial,trivial⟩) Aj.nil (Nat.zero_le _) (Nat.le_refl _) ⟨?_,rfl,rfl⟩;try rfl)
 obtain rfl:k=ks.length:=by omega
 have e:P8 ks 0=0:=by rw [← hE,P8,if_neg (by omega)]
 rw [if_neg (fun h=>h e)]
 repeat' (first|apply Ae.assoc|apply Ae.AA|apply Ae.A8|apply Ae.Ai|apply AO.normal|apply AL.exit|apply Az.exit|apply Ag.nil|apply Ag.one|(apply Aa.move;rfl)|(apply Aa.int;rfl;rfl;rfl)|(apply Aa.BL;rfl;rfl)|(apply Ae.Af;rfl)|(intro _;try (exfalso;omega)))
 all_goals try (exfalso;omega)
 refine Ae.Ec (fun k:Nat=>[(0,lst 94 ks),(1,lst 147 l),(27,lst 147 l),(28,.p (.int .i64 (l.length:Int))),(29,.p (.int .i64 (k:Int)))]) (fun _=>[]) 0 (fun k=>k≤l.length∧Nz ks.length l k=Nz ks.length l 0) (fun k=>l.length-k) 0 (by omega) ⟨by omega,rfl⟩ ⟨by omega,?_,Aj.nil⟩ ?_
 ·repeat (first|exact Ad.nil|refine Ad.same trivial rfl ?_|refine Ad.same (Ac rfl) rfl ?_|refine Ad.same ⟨trivial,Ac rfl,trivial⟩ rfl ?_|refine Ad.same ⟨trivial,Ac rfl,Ac rfl,trivial⟩ rfl ?_|refine Ad.same ⟨trivial,Ac rfl,Ac rfl,Ac rfl,trivial⟩ rfl ?_|refine Ad.same ⟨trivial,Ac rfl,Ac rfl,Ac rfl,Ac rfl,trivial⟩ rfl ?_|refine Ad.same ⟨trivial,trivial⟩ rfl ?_|refine Ad.cons trivial rfl (.of_eq (Au (by simp<;>omega))) ?_)
 rintro k ⟨hk,hE⟩
 rw [← hE]
 by_cases hkl:k<l.length
 case neg =>
  rw [Nz,if_neg hkl]
  repeat' (first|apply Ae.AA|apply Ae.A8|apply AO.normal|apply AL.exit|apply Az.exit|apply Ae.ret|apply Ag.nil|apply Ag.one|(apply Aa.assign;rfl)|(apply Aa.int;rfl;rfl;rfl)|(apply Ae.Af;rfl)|(intro _;try (exfalso;omega)))
  all_goals first|(exfalso;omega)|(refine Done.ret rfl (.refl _) (by first|exact trivial|exact ⟨trivial,trivial,trivial⟩|exact ⟨trivial,trivial,trivial,trivial⟩) Aj.nil (Nat.zero_le _) (Nat.le_refl _) ⟨?_,rfl,rfl⟩;try rfl)
 rw [Nz,if_pos hkl]
 have hN:=Hu (gi l k).name (by have:=hn0 k hkl;omega)
 by_cases h1:C9 (gi l k).name
 case neg =>
  rw [if_pos h1]
  rw [decide_eq_false h1] at hN
  repeat' (first|apply Ae.AA|apply Ae.Aq|apply Ae.Ai|apply AO.ret|apply AL.ret|apply Az.ret|apply Ae.ret|apply Ae.IE|apply Ag.nil|apply Ag.one|(apply Aa.fn;rfl;rfl;exact hN;intro _;rfl)|(apply Aa.assign;rfl)|(apply Aa.move;rfl)|(apply Aa.int;rfl;rfl;rfl)|(apply Aa.AU;rfl;rfl;rfl;omega;rfl)|(apply Aa.load;rfl;rfl)|(apply Aa.AP;rfl;rfl;rfl)|(apply Aa.alloc;rfl)|(apply Aa.Bj;rfl;rfl;rfl;trivial;rfl;rfl;exact Ac rfl;exact le_dec rfl)|(apply Aa.not;rfl)|(apply Ae.Af;rfl)|(apply Ae.cond_true;rfl)|(intro _;try (exfalso;omega)))
  all_goals first|(exfalso;omega)|contradiction|(refine Done.ret rfl (.refl _) (by first|exact trivial|exact ⟨trivial,trivial,trivial⟩|exact ⟨trivial,trivial,trivial,trivial⟩) Aj.nil (Nat.zero_le _) (Nat.le_refl _) ⟨?_,rfl,rfl⟩;try rfl)
 rw [if_neg (fun h=>h h1)]
 rw [decide_eq_true h1] at hN
 have hT:(gi l k).name∈(l.take k).map ZR.name↔∃ j,j<k∧(gi l j).name=(gi l k).name:=by
  rw [List.mem_map]
  constructor
  ·rintro ⟨a,ha,e⟩
   obtain ⟨j,h1,h2⟩:=Wx.1 ha
   rw [List.length_take] at h1
   rw [Zg (by omega)] at h2
   exact ⟨j,by omega,by rw [h2,e]⟩
  ·rintro ⟨j,hj,e⟩
   exact ⟨gi l j,Wx.2 ⟨j,by rw [List.length_take];omega,Zg hj⟩,e⟩
 repeat' (first|apply Ae.assoc|apply Ae.AA|apply Ae.Aq|apply Ae.Ai|apply Ae.IE|apply Ag.nil|apply Ag.one|(apply Aa.fn;rfl;rfl;exact hN;intro _;rfl)|(apply yE;rfl;rfl;rfl;exact le_dec rfl)|(apply xJ;rfl;rfl;rfl;exact le_dec rfl)|(apply Aa.makeFunc;rfl;rfl)|(apply Aa.sliceTo;rfl;rfl;rfl;rfl;rfl;rfl;omega)|(apply Aa.assign;rfl)|(apply Aa.move;rfl)|(apply Aa.int;rfl;rfl;rfl)|(apply Aa.AU;rfl;rfl;rfl;omega;rfl)|(apply Aa.load;rfl;rfl)|(apply Aa.BL;rfl;rfl)|(apply Aa.AP;rfl;rfl;rfl)|(apply Aa.alloc;rfl)|(apply Aa.Bj;rfl;rfl;rfl;trivial;rfl;rfl;exact Ac rfl;exact le_dec rfl)|(apply Aa.not;rfl)|(apply Ae.Af;rfl)|(apply Ae.cond_false;rfl)|(intro _;try (exfalso;omega)))
 all_goals try (exfalso;omega)
 all_goals try contradiction
 refine Ae.Ec (fun j:Nat=>[(0,.p (.lst 147 (cells (l.take k)) k)),(1,.clo 92 [] [.ref 0 0]),(7,.p (.int .i64 (k:Int))),(8,.p (.int .i64 (j:Int)))]) (fun _=>[(0,.box 147 ((Enc.enc (gi l k)).map .p))]) 1 (fun j=>j≤k∧∀ i,i<j→(gi l i).name≠(gi l k).name) (fun j=>k-j) 0 (by omega) ⟨by omega,fun i hi=>by omega⟩ ⟨by omega,?_,?_⟩ ?_
 ·repeat (first|exact Ad.nil|refine Ad.same trivial rfl ?_|refine Ad.same (Ac rfl) rfl ?_|refine Ad.same ⟨trivial,Ac rfl,trivial⟩ rfl ?_|refine Ad.same ⟨trivial,Ac rfl,Ac rfl,trivial⟩ rfl ?_|refine Ad.same ⟨trivial,Ac rfl,Ac rfl,Ac rfl,trivial⟩ rfl ?_|refine Ad.same ⟨trivial,Ac rfl,Ac rfl,Ac rfl,Ac rfl,trivial⟩ rfl ?_|refine Ad.same ⟨trivial,trivial⟩ rfl ?_|refine Ad.cons trivial rfl (.of_eq (Au (by simp<;>omega))) ?_)
 ·repeat (first|exact Aj.nil|(refine Aj.cons (Ac rfl) ?_ rfl ?_ ?_;(first|exact trivial|exact AV.Ah _ _|(simp [HB.under,AV.under,PV.under]));(first|exact Bq.refl _|exact Bq.vec (Bl.refl _) (by simp))))
 rintro j ⟨hj,hok⟩
 by_cases hjk:j<k
 ·have hgt:gi (l.take k) j=gi l j:=Zg hjk
  have hlt:(l.take k).length=k:=by rw [List.length_take];omega
  generalize hg:decide ((gi l j).name=(gi l k).name)=g at *
  have hg2:decide ((gi (l.take k) j).name=(gi l k).name)=g:=by rw [hgt];exact hg
  cases g
  ·repeat' (first|apply Ae.AA|apply Ae.region|apply Ae.Aq|apply Ae.Ai|apply AO.normal|(apply Bv.ret;rfl)|apply AL.normal|apply Ae.ret|apply Ae.skip|apply Ag.nil|apply Ag.one|(apply kW;rfl;rfl;rfl;exact le_dec rfl)|(apply Aa.a2z;rfl;rfl;exact hg2)|(apply Aa.AU (l:=l.take k) (i:=j);rfl;rfl;rfl;omega;exact hlt)|(apply Aa.assign;rfl)|(apply Aa.move;rfl)|(apply Aa.Bz;rfl;rfl;omega)|(apply Aa.int;rfl;rfl;rfl)|(apply Aa.load;rfl;rfl)|(apply Aa.AP;rfl;rfl;rfl)|(apply Aa.box;rfl;trivial)|(apply Ae.Af;rfl)|(apply Ae.cond_false;rfl)|(intro _;try (exfalso;omega)))
   all_goals try (exfalso;omega)
   refine Az.normal ⟨j+1,⟨by omega,fun i hi=>?_⟩,by omega,⟨by omega,?_,?_⟩⟩
   ·rcases Nat.lt_or_ge i j with h|h
    ·exact hok i h
    ·obtain rfl:i=j:=by omega
     exact of_decide_eq_false hg
   ·repeat (first|exact Ad.nil|refine Ad.same trivial rfl ?_|refine Ad.same (Ac rfl) rfl ?_|refine Ad.same ⟨trivial,Ac rfl,trivial⟩ rfl ?_|refine Ad.same ⟨trivial,Ac rfl,Ac rfl,trivial⟩ rfl ?_|refine Ad.same ⟨trivial,Ac rfl,Ac rfl,Ac rfl,trivial⟩ rfl ?_|refine Ad.same ⟨trivial,Ac rfl,Ac rfl,Ac rfl,Ac rfl,trivial⟩ rfl ?_|refine Ad.same ⟨trivial,trivial⟩ rfl ?_|refine Ad.cons trivial rfl (.of_eq (Au (by simp<;>omega))) ?_)
   ·repeat (first|exact Aj.nil|(refine Aj.cons (Ac rfl) ?_ rfl ?_ ?_;(first|exact trivial|exact AV.Ah _ _|(simp [HB.under,AV.under,PV.under]));(first|exact Bq.refl _|exact Bq.vec (Bl.refl _) (by simp))))
  ·rw [if_pos (hT.2 ⟨j,hjk,of_decide_eq_true hg⟩)]
   repeat' (first|apply Ae.AA|apply Ae.Aq|apply Ae.Ai|apply AO.ret|(apply Bv.ret;rfl)|apply AL.ret|apply Az.ret|apply Ae.ret|apply Ag.nil|apply Ag.one|(apply kW;rfl;rfl;rfl;exact le_dec rfl)|(apply Aa.a2z;rfl;rfl;exact hg2)|(apply Aa.AU (l:=l.take k) (i:=j);rfl;rfl;rfl;omega;exact hlt)|(apply Aa.assign;rfl)|(apply Aa.move;rfl)|(apply Aa.int;rfl;rfl;rfl)|(apply Aa.load;rfl;rfl)|(apply Aa.AP;rfl;rfl;rfl)|(apply Aa.box;rfl;trivial)|(apply Ae.Af;rfl)|(apply Ae.cond_true;rfl)|(intro _;try (exfalso;omega)))
   all_goals first|(exfalso;omega)|contradiction|(refine Done.ret rfl (.refl _) (by first|exact trivial|exact ⟨trivial,trivial,trivial⟩|exact ⟨trivial,trivial,trivial,trivial⟩) Aj.nil (Nat.zero_le _) (Nat.le_refl _) ⟨?_,rfl,rfl⟩;try rfl)
 obtain rfl:j=k:=by omega
 rw [if_neg (fun h=>by obtain ⟨i,h1,h2⟩:=hT.1 h;exact hok i h1 h2)]
 repeat' (first|apply Ae.AA|apply Ae.region|apply Ae.A8|apply AO.normal|apply AO.ret|(apply Bv.ret;rfl)|apply AL.normal|apply AL.ret|apply AL.exit|apply Az.ret|apply Az.exit|apply Ae.ret|apply Ae.skip|apply Ag.nil|apply Ag.one|(apply Ag.take;rfl;rfl)|(apply Ag.drop;rfl;rfl;rfl)|(apply Ag.guard;rfl;rfl)|(apply Aa.assign;rfl)|(apply Aa.move;rfl)|(apply Aa.Bz;rfl;rfl;omega)|(apply Aa.int;rfl;rfl;rfl)|(apply Aa.load;rfl;rfl)|(apply Aa.BJ;rfl;rfl)|(apply Aa.AQ;rfl;rfl)|(apply Aa.BL;rfl;rfl)|(apply Aa.AP;rfl;rfl;rfl)|(apply Ae.Af;rfl)|(apply Ae.cond_true;rfl)|(apply Ae.cond_false;rfl)|(apply Ae.AY;rfl)|(intro _;try (exfalso;omega)))
 all_goals try (exfalso;omega)
 all_goals try contradiction
 all_goals first
  |(rw [if_pos (by omega)];(refine Done.ret rfl (.refl _) (by first|exact trivial|exact ⟨trivial,trivial,trivial⟩|exact ⟨trivial,trivial,trivial,trivial⟩) Aj.nil (Nat.zero_le _) (Nat.le_refl _) ⟨?_,rfl,rfl⟩;try rfl);done)
  |(rw [if_neg (by omega),if_pos (by omega)];(refine Done.ret rfl (.refl _) (by first|exact trivial|exact ⟨trivial,trivial,trivial⟩|exact ⟨trivial,trivial,trivial,trivial⟩) Aj.nil (Nat.zero_le _) (Nat.le_refl _) ⟨?_,rfl,rfl⟩;try rfl);done)
  |(rw [if_neg (by omega),if_neg (by omega),if_pos (by omega)];(refine Done.ret rfl (.refl _) (by first|exact trivial|exact ⟨trivial,trivial,trivial⟩|exact ⟨trivial,trivial,trivial,trivial⟩) Aj.nil (Nat.zero_le _) (Nat.le_refl _) ⟨?_,rfl,rfl⟩;try rfl);done)
  |(rw [if_neg (by omega),if_neg (by omega),if_neg (by omega)]
    refine Az.normal ⟨j+1,⟨by omega,?_⟩,by omega,⟨by omega,?_,Aj.nil⟩⟩
    ·first|rfl|(refine Eq.trans ?_ hE;symm;(conv=>lhs;rw [Nz]);rw [if_pos hkl,if_neg (fun h=>h h1),if_neg (fun h=>by obtain ⟨i,h1,h2⟩:=hT.1 h;exact hok i h1 h2),if_neg (by omega),if_neg (by omega),if_neg (by omega)])
    ·repeat (first|exact Ad.nil|refine Ad.same trivial rfl ?_|refine Ad.same (Ac rfl) rfl ?_|refine Ad.same ⟨trivial,Ac rfl,trivial⟩ rfl ?_|refine Ad.same ⟨trivial,Ac rfl,Ac rfl,trivial⟩ rfl ?_|refine Ad.same ⟨trivial,Ac rfl,Ac rfl,Ac rfl,trivial⟩ rfl ?_|refine Ad.same ⟨trivial,Ac rfl,Ac rfl,Ac rfl,Ac rfl,trivial⟩ rfl ?_|refine Ad.same ⟨trivial,trivial⟩ rfl ?_|refine Ad.cons trivial rfl (.of_eq (Au (by simp<;>omega))) ?_))
end Go.Proofs.YtdabojnmoejilaaGreatDoor
namespace Go.Proofs.YtdabojnmoejilaaGreatDoor
open Go Go.Am Go.Vm
attribute [local irreducible] Aa Ag Ak Ae BH AZ CW AO AL Az Vm.Done Di Bv
attribute [local irreducible] D8 DW Jp KJ SV
theorem P7 {α:Type} [Inhabited α] (f:α→List UInt8) {l:List α} {k:Nat} (hk:k<l.length):(l.take (k+1)).map f=(l.take k).map f++[f (gi l k)]:=by
 rw [DL hk,List.map_append];rfl
theorem PS {L:Vm.Frame} {H:Vm.Heap} {nx:Nat} {Q:PV→Vm.Heap→Nat→Prop} {dst:Option Tmp} {ty:TypeId} {pos:String} {af:Array Edge} {gd:Option (Nat×Bool)} {fo:Operand} {args:Array Operand} {aT:Array TypeId} {fs cs xs:List PV} {c:Code}
 (hf:BG env.Γ L fo=some (.clo 59 fs cs)) (ha:evs env.Γ L args.toList=some xs) (hb:Tryz.f59.body=some c) (hn:(fs++xs++cs).length≤Tryz.f59.ntmps)
 (h:Ae env nx c (CQ 0 (fs++xs++cs)) H nx (Bv env.P Tryz.f59.results.toList Q)):Aa env true ⟨dst,.call { callee:=.value fo,args:=args,argTypes:=aT },ty,pos,af,gd⟩ L H nx Q:=by
 have h0:(match Tryz.f59.body with|some c=>H6 env.G Tryz.f59 c|none=>false)=true:=by kernel_rfl
 rw [hb] at h0
 exact Aa.inline rfl hf ha (AB (by decide)) Tryz.func59 hb h0 hn h
theorem Xl (o:EY) (d:Yl) (ho:OX o) (hd:wC d):AZ env 60 [.agg (Enc.enc o),.agg (Enc.enc d)] (.p (.int .i64 (KJ o.ranks d))):=by
 have hc:=VZ d.lo d.hi
 obtain ⟨d1,d2,d3⟩:=hd
 unfold KJ
 refine AZ.enter (AB (by decide)) Tryz.func60 rfl (by kernel_rfl) (by simp [Tryz.ntmps60]) ?_
 by_cases h0:UG d.lo d.hi=0
 case neg =>
  rw [if_pos h0]
  repeat' (first|apply Ae.assoc|apply Ae.AA|apply Ae.BU|apply Ag.nil|apply Ag.one|(apply Aa.fn;rfl;rfl;exact hc;intro _;rfl)|(apply Aa.assign;rfl)|(apply Aa.move;rfl)|(apply Aa.int;rfl;rfl;rfl)|(apply Aa.load;rfl;rfl)|(apply Aa.AP;rfl;rfl;rfl)|(apply Aa.box;rfl;trivial)|(apply Ae.Af;rfl)|(intro _;try (exfalso;omega)))
  all_goals first|(exfalso;omega)|(refine Done.ret rfl (.refl _) (by first|exact trivial|exact ⟨trivial,trivial,trivial⟩|exact ⟨trivial,trivial,trivial,trivial⟩) Aj.nil (Nat.zero_le _) (Nat.le_refl _) ⟨?_,rfl,rfl⟩;try rfl)
 rw [h0] at hc ⊢
 rw [if_neg (by decide)]
 repeat' (first|apply Ae.assoc|apply Ae.AA|apply Ae.Aq|apply Ae.BU|apply Ae.Ai|apply Ag.nil|apply Ag.one|(apply Aa.fn;rfl;rfl;exact hc;intro _;rfl)|(apply Aa.makeMap)|(apply Aa.assign;rfl)|(apply Aa.move;rfl)|(apply Aa.int;rfl;rfl;rfl)|(apply Aa.load;rfl;rfl)|(apply Aa.BL;rfl;rfl)|(apply Aa.AP;rfl;rfl;rfl)|(apply Aa.box;rfl;trivial)|(apply Ae.Ar;rfl)|(apply Ae.Af;rfl)|(intro _;try (exfalso;omega)))
 all_goals try contradiction
 ·rw [if_pos (by omega)];(refine Done.ret rfl (.refl _) (by first|exact trivial|exact ⟨trivial,trivial,trivial⟩|exact ⟨trivial,trivial,trivial,trivial⟩) Aj.nil (Nat.zero_le _) (Nat.le_refl _) ⟨?_,rfl,rfl⟩;try rfl)
 rw [if_neg (by omega)]
 refine Ae.Ec (fun k:Nat=>[(2,.ref 0 0),(3,.ref 1 0),(6,.mref 2),(23,lst 122 d.stops),(24,.p (.int .i64 (d.stops.length:Int))),(25,.p (.int .i64 (k:Int)))]) (fun k=>[(2,.map (Xu ((d.stops.take k).map Stp.name))),(1,.box 97 ((Enc.enc d).map .p)),(0,.box 37 ((Enc.enc o).map .p))]) 3 (fun k=>k≤d.stops.length∧MX o.ranks d.lo d.hi d.stops k=MX o.ranks d.lo d.hi d.stops 0) (fun k=>d.stops.length-k) 0 (by omega) ⟨by omega,rfl⟩ ⟨by omega,?_,?_⟩ ?_
 ·repeat (first|exact Ad.nil|refine Ad.same trivial rfl ?_|refine Ad.same (Ac rfl) rfl ?_|refine Ad.same ⟨trivial,Ac rfl,Ac rfl,Ac rfl,trivial⟩ rfl ?_|refine Ad.same ⟨trivial,Ac rfl,Ac rfl,trivial⟩ rfl ?_|refine Ad.same ⟨trivial,trivial⟩ rfl ?_|refine Ad.cons trivial rfl (.of_eq (Au (by simp<;>omega))) ?_)
 ·repeat (first|exact Aj.nil|(refine Aj.cons (Ac rfl) ?_ rfl ?_ ?_;(first|exact trivial|exact AV.Ah _ _|(simp [HB.under,AV.under,PV.under]));(first|exact Bq.refl _|exact Bq.vec (Bl.refl _) (by simp))))
 rintro k ⟨hk,hE⟩
 rw [← hE]
 by_cases hkl:k<d.stops.length
 case neg =>
  rw [MX,if_neg hkl]
  repeat' (first|apply Ae.AA|apply Ae.A8|apply AO.normal|apply AL.exit|apply Az.exit|apply Ae.ret|apply Ag.nil|apply Ag.one|(apply Aa.assign;rfl)|(apply Aa.int;rfl;rfl;rfl)|(apply Ae.Af;rfl)|(intro _;try (exfalso;omega)))
  all_goals first|(exfalso;omega)|(refine Done.ret rfl (.refl _) (by first|exact trivial|exact ⟨trivial,trivial,trivial⟩|exact ⟨trivial,trivial,trivial,trivial⟩) Aj.nil (Nat.zero_le _) (Nat.le_refl _) ⟨?_,rfl,rfl⟩;try rfl)
 rw [MX,if_pos hkl]
 have hst:=nC o.ranks d.lo d.hi (gi d.stops k) ho.ranks ho.rk (d3 k hkl)
 by_cases h1:Jp o.ranks d.lo d.hi (gi d.stops k)=0
 case neg =>
  rw [if_pos h1]
  repeat' (first|apply Ae.assoc|apply Ae.AA|apply Ae.Aq|apply Ae.BU|apply Ae.Ai|apply AO.ret|apply AL.ret|apply Az.ret|apply Ag.nil|apply Ag.one|(apply Aa.fn;rfl;rfl;exact hst;intro _;rfl)|(apply Aa.assign;rfl)|(apply Aa.move;rfl)|(apply Aa.int;rfl;rfl;rfl)|(apply Aa.AU;rfl;rfl;rfl;omega;rfl)|(apply Aa.load;rfl;rfl)|(apply Aa.AP;rfl;rfl;rfl)|(apply Aa.alloc;rfl)|(apply Aa.Bj;rfl;rfl;rfl;trivial;rfl;rfl;exact Ac rfl;exact le_dec rfl)|(apply Aa.build;rfl;rfl;rfl;rfl;rfl)|(apply Ae.Af;rfl)|(intro _;try (exfalso;omega)))
  all_goals first|(exfalso;omega)|contradiction|(refine Done.ret rfl (.refl _) (by first|exact trivial|exact ⟨trivial,trivial,trivial⟩|exact ⟨trivial,trivial,trivial,trivial⟩) Aj.nil (Nat.zero_le _) (Nat.le_refl _) ⟨?_,rfl,rfl⟩;try rfl)
 rw [h1] at hst ⊢
 rw [if_neg (by decide)]
 by_cases h2:(gi d.stops k).name∈(d.stops.take k).map Stp.name
 ·rw [if_pos h2]
  repeat' (first|apply Ae.assoc|apply Ae.AA|apply Ae.Aq|apply Ae.BU|apply Ae.Ai|apply AO.ret|(apply Bv.ret;rfl)|apply AL.ret|apply Az.ret|apply Ae.ret|apply Ag.nil|apply Ag.one|(apply Aa.fn;rfl;rfl;exact hst;intro _;rfl)|(apply PS;rfl;rfl;rfl;exact le_dec rfl)|(apply Aa.IK;rfl;rfl;rfl;rfl;rfl;rfl)|(apply Aa.assign;rfl)|(apply Aa.move;rfl)|(apply Aa.int;rfl;rfl;rfl)|(apply Aa.AU;rfl;rfl;rfl;omega;rfl)|(apply Aa.load;rfl;rfl)|(apply Aa.AP;rfl;rfl;rfl)|(apply Aa.alloc;rfl)|(apply Aa.Bj;rfl;rfl;rfl;trivial;rfl;rfl;exact Ac rfl;exact le_dec rfl)|(apply Aa.build;rfl;rfl;rfl;rfl;rfl)|(apply Ae.Ar;rfl)|(apply Ae.Af;rfl)|(apply Ae.cond_true;rfl)|(intro _;try (exfalso;omega)))
  all_goals first|(exfalso;omega)|contradiction|(refine Done.ret rfl (.refl _) (by first|exact trivial|exact ⟨trivial,trivial,trivial⟩|exact ⟨trivial,trivial,trivial,trivial⟩) Aj.nil (Nat.zero_le _) (Nat.le_refl _) ⟨?_,rfl,rfl⟩;try rfl)
 ·rw [if_neg h2]
  repeat' (first|apply Ae.assoc|apply Ae.AA|apply Ae.region|apply Ae.Aq|apply Ae.BU|apply Ae.Ai|apply AO.normal|apply AO.ret|(apply Bv.ret;rfl)|apply AL.normal|apply AL.ret|apply Az.ret|apply Ae.ret|apply Ae.skip|apply Ag.nil|apply Ag.one|(apply Aa.fn;rfl;rfl;exact hst;intro _;rfl)|(apply PS;rfl;rfl;rfl;exact le_dec rfl)|(apply Aa.IK;rfl;rfl;rfl;rfl;rfl;rfl)|(apply Aa.Y5;rfl;rfl;rfl;rfl;rfl;rfl;exact h2)|(apply Aa.assign;rfl)|(apply Aa.move;rfl)|(apply Aa.Bz;rfl;rfl;omega)|(apply Aa.int;rfl;rfl;rfl)|(apply Aa.AU;rfl;rfl;rfl;omega;rfl)|(apply Aa.load;rfl;rfl)|(apply Aa.AP;rfl;rfl;rfl)|(apply Aa.alloc;rfl)|(apply Aa.Bj;rfl;rfl;rfl;trivial;rfl;rfl;exact Ac rfl;exact le_dec rfl)|(apply Aa.build;rfl;rfl;rfl;rfl;rfl)|(apply Ae.Ar;rfl)|(apply Ae.Af;rfl)|(apply Ae.cond_true;rfl)|(apply Ae.cond_false;rfl)|(intro _;try (exfalso;omega)))
  all_goals try (exfalso;omega)
  all_goals try contradiction
  refine Az.normal ⟨k+1,⟨by omega,?_⟩,by omega,⟨by omega,?_,?_⟩⟩
  ·first|rfl|(refine Eq.trans ?_ hE;symm;(conv=>lhs;rw [MX]);rw [if_pos hkl,if_neg (fun h=>h h1),if_neg h2])
  ·repeat (first|exact Ad.nil|refine Ad.same trivial rfl ?_|refine Ad.same (Ac rfl) rfl ?_|refine Ad.same ⟨trivial,Ac rfl,Ac rfl,Ac rfl,trivial⟩ rfl ?_|refine Ad.same ⟨trivial,Ac rfl,Ac rfl,trivial⟩ rfl ?_|refine Ad.same ⟨trivial,trivial⟩ rfl ?_|refine Ad.cons trivial rfl (.of_eq (Au (by simp<;>omega))) ?_)
  ·rw [P7 Stp.name hkl];repeat (first|exact Aj.nil|(refine Aj.cons (Ac rfl) ?_ rfl ?_ ?_;(first|exact trivial|exact AV.Ah _ _|(simp [HB.under,AV.under,PV.under]));(first|exact Bq.refl _|exact Bq.vec (Bl.refl _) (by simp))))
theorem N7 (o:EY) (ho:OX o):AZ env 35 [.agg (Enc.enc o)] (.p (.int .i64 (KR o))):=by
 have hn:=Hu o.name (by have:=ho.name;omega)
 have b1:=ho.ranks
 have b2:=ho.Aw
 unfold KR
 refine AZ.enter (AB (by decide)) Tryz.func35 rfl (by kernel_rfl) (by simp [Tryz.ntmps35]) ?_
 by_cases h0:C9 o.name
 case neg =>
  rw [if_pos h0]
  rw [decide_eq_false h0] at hn
  repeat' (first|apply Ae.AA|apply Ae.Ai|apply AO.ret|apply AL.ret|apply Ae.ret|apply Ag.nil|apply Ag.one|(apply Aa.fn;rfl;rfl;exact hn;intro _;rfl)|(apply Aa.assign;rfl)|(apply Aa.load;rfl;rfl)|(apply Aa.AP;rfl;rfl;rfl)|(apply Aa.box;rfl;trivial)|(apply Aa.not;rfl)|(apply Ae.cond_true;rfl))
  all_goals first|(exfalso;omega)|contradiction|(refine Done.ret rfl (.refl _) (by first|exact trivial|exact ⟨trivial,trivial,trivial⟩|exact ⟨trivial,trivial,trivial,trivial⟩) Aj.nil (Nat.zero_le _) (Nat.le_refl _) ⟨?_,rfl,rfl⟩;try rfl)
 rw [if_neg (fun h=>h h0)]
 rw [decide_eq_true h0] at hn
 repeat' (first|apply Ae.assoc|apply Ae.AA|apply Ae.Ai|apply AO.normal|apply AO.ret|apply AL.normal|apply AL.ret|apply Ae.ret|apply Ae.skip|apply Ag.nil|apply Ag.one|(apply Aa.fn;rfl;rfl;exact hn;intro _;rfl)|(apply Aa.makeMap)|(apply Aa.assign;rfl)|(apply Aa.move;rfl)|(apply Aa.int;rfl;rfl;rfl)|(apply Aa.load;rfl;rfl)|(apply Aa.BL;rfl;rfl)|(apply Aa.AP;rfl;rfl;rfl)|(apply Aa.box;rfl;trivial)|(apply Aa.not;rfl)|(apply Ae.cond_false;rfl)|(apply Ae.AY;rfl)|(intro _;try (exfalso;omega)))
 all_goals try contradiction
 ·rw [if_pos (by omega)];(refine Done.ret rfl (.refl _) (by first|exact trivial|exact ⟨trivial,trivial,trivial⟩|exact ⟨trivial,trivial,trivial,trivial⟩) Aj.nil (Nat.zero_le _) (Nat.le_refl _) ⟨?_,rfl,rfl⟩;try rfl)
 rw [if_neg (by omega)]
 refine Ae.Ec (fun k:Nat=>[(1,.ref 0 0),(3,.mref 1),(25,lst 131 o.ranks),(26,.p (.int .i64 (o.ranks.length:Int))),(27,.p (.int .i64 (k:Int)))]) (fun k=>[(1,.map (Xu ((o.ranks.take k).map FT.name))),(0,.box 37 ((Enc.enc o).map .p))]) 2 (fun k=>k≤o.ranks.length∧NU o.ranks k=NU o.ranks 0) (fun k=>o.ranks.length-k) 0 (by omega) ⟨by omega,rfl⟩ ⟨by omega,?_,?_⟩ ?_
 ·repeat (first|exact Ad.nil|refine Ad.same trivial rfl ?_|refine Ad.same (Ac rfl) rfl ?_|refine Ad.same ⟨trivial,Ac rfl,Ac rfl,Ac rfl,trivial⟩ rfl ?_|refine Ad.same ⟨trivial,Ac rfl,Ac rfl,trivial⟩ rfl ?_|refine Ad.same ⟨trivial,trivial⟩ rfl ?_|refine Ad.cons trivial rfl (.of_eq (Au (by simp<;>omega))) ?_)
 ·repeat (first|exact Aj.nil|(refine Aj.cons (Ac rfl) ?_ rfl ?_ ?_;(first|exact trivial|exact AV.Ah _ _|(simp [HB.under,AV.under,PV.under]));(first|exact Bq.refl _|exact Bq.vec (Bl.refl _) (by simp))))
 rintro k ⟨hk,hE⟩
 by_cases hkl:k<o.ranks.length
 ·have hsm:=(ho.rk k hkl).len
  have hc:=Ui (gi o.ranks k) hsm.1 hsm.2.1 hsm.2.2
  by_cases h1:D8 (gi o.ranks k)=0
  case neg =>
   have e:NU o.ranks 0=D8 (gi o.ranks k):=by rw [← hE,NU,if_pos hkl,if_pos h1]
   rw [e,if_pos h1]
   repeat' (first|apply Ae.assoc|apply Ae.AA|apply Ae.Aq|apply Ae.BU|apply Ae.Ai|apply AO.ret|apply AL.ret|apply Az.ret|apply Ag.nil|apply Ag.one|(apply Aa.fn;rfl;rfl;exact hc;intro _;rfl)|(apply Aa.assign;rfl)|(apply Aa.move;rfl)|(apply Aa.int;rfl;rfl;rfl)|(apply Aa.AU;rfl;rfl;rfl;omega;rfl)|(apply Aa.load;rfl;rfl)|(apply Aa.alloc;rfl)|(apply Aa.Bj;rfl;rfl;rfl;trivial;rfl;rfl;exact Ac rfl;exact le_dec rfl)|(apply Ae.Af;rfl)|(intro _;try (exfalso;omega)))
   all_goals first|(exfalso;omega)|contradiction|(refine Done.ret rfl (.refl _) (by first|exact trivial|exact ⟨trivial,trivial,trivial⟩|exact ⟨trivial,trivial,trivial,trivial⟩) Aj.nil (Nat.zero_le _) (Nat.le_refl _) ⟨?_,rfl,rfl⟩;try rfl)
  rw [h1] at hc
  by_cases h2:(gi o.ranks k).name∈(o.ranks.take k).map FT.name
  ·have e:NU o.ranks 0=9:=by rw [← hE,NU,if_pos hkl,if_neg (fun h=>h h1),if_pos h2]
   rw [e,if_pos (by decide)]
   repeat' (first|apply Ae.assoc|apply Ae.AA|apply Ae.Aq|apply Ae.BU|apply Ae.Ai|apply AO.ret|(apply Bv.ret;rfl)|apply AL.ret|apply Az.ret|apply Ae.ret|apply Ag.nil|apply Ag.one|(apply Aa.fn;rfl;rfl;exact hc;intro _;rfl)|(apply PS;rfl;rfl;rfl;exact le_dec rfl)|(apply Aa.IK;rfl;rfl;rfl;rfl;rfl;rfl)|(apply Aa.assign;rfl)|(apply Aa.move;rfl)|(apply Aa.int;rfl;rfl;rfl)|(apply Aa.AU;rfl;rfl;rfl;omega;rfl)|(apply Aa.load;rfl;rfl)|(apply Aa.AP;rfl;rfl;rfl)|(apply Aa.alloc;rfl)|(apply Aa.Bj;rfl;rfl;rfl;trivial;rfl;rfl;exact Ac rfl;exact le_dec rfl)|(apply Ae.Ar;rfl)|(apply Ae.Af;rfl)|(apply Ae.cond_true;rfl)|(intro _;try (exfalso;omega)))
   all_goals first|(exfalso;omega)|contradiction|(refine Done.ret rfl (.refl _) (by first|exact trivial|exact ⟨trivial,trivial,trivial⟩|exact ⟨trivial,trivial,trivial,trivial⟩) Aj.nil (Nat.zero_le _) (Nat.le_refl _) ⟨?_,rfl,rfl⟩;try rfl)
  ·repeat' (first|apply Ae.assoc|apply Ae.AA|apply Ae.region|apply Ae.Aq|apply Ae.BU|apply Ae.Ai|apply AO.normal|apply AO.ret|(apply Bv.ret;rfl)|apply AL.normal|apply AL.ret|apply Az.ret|apply Ae.ret|apply Ae.skip|apply Ag.nil|apply Ag.one|(apply Aa.fn;rfl;rfl;exact hc;intro _;rfl)|(apply PS;rfl;rfl;rfl;exact le_dec rfl)|(apply Aa.IK;rfl;rfl;rfl;rfl;rfl;rfl)|(apply Aa.Y5;rfl;rfl;rfl;rfl;rfl;rfl;exact h2)|(apply Aa.assign;rfl)|(apply Aa.move;rfl)|(apply Aa.Bz;rfl;rfl;omega)|(apply Aa.int;rfl;rfl;rfl)|(apply Aa.AU;rfl;rfl;rfl;omega;rfl)|(apply Aa.load;rfl;rfl)|(apply Aa.AP;rfl;rfl;rfl)|(apply Aa.alloc;rfl)|(apply Aa.Bj;rfl;rfl;rfl;trivial;rfl;rfl;exact Ac rfl;exact le_dec rfl)|(apply Ae.Ar;rfl)|(apply Ae.Af;rfl)|(apply Ae.cond_true;rfl)|(apply Ae.cond_false;rfl)|(intro _;try (exfalso;omega)))
   all_goals try (exfalso;omega)
   all_goals try contradiction
   refine Az.normal ⟨k+1,⟨by omega,?_⟩,by omega,⟨by omega,?_,?_⟩⟩
   ·first|rfl|(refine Eq.trans ?_ hE;symm;(conv=>lhs;rw [NU]);rw [if_pos hkl,if_neg (fun h=>h h1),if_neg h2])
   ·repeat (first|exact Ad.nil|refine Ad.same trivial rfl ?_|refine Ad.same (Ac rfl) rfl ?_|refine Ad.same ⟨trivial,Ac rfl,Ac rfl,Ac rfl,trivial⟩ rfl ?_|refine Ad.same ⟨trivial,Ac rfl,Ac rfl,trivial⟩ rfl ?_|refine Ad.same ⟨trivial,trivial⟩ rfl ?_|refine Ad.cons trivial rfl (.of_eq (Au (by simp<;>omega))) ?_)
   ·rw [P7 FT.name hkl];repeat (first|exact Aj.nil|(refine Aj.cons (Ac rfl) ?_ rfl ?_ ?_;(first|exact trivial|exact AV.Ah _ _|(simp [HB.under,AV.under,PV.under]));(first|exact Bq.refl _|exact Bq.vec (Bl.refl _) (by simp))))
 obtain rfl:k=o.ranks.length:=by omega
 have e:NU o.ranks 0=0:=by rw [← hE,NU,if_neg (by omega)]
 rw [if_neg (fun h=>h e)]
 repeat' (first|apply Ae.assoc|apply Ae.AA|apply Ae.A8|apply Ae.Ai|apply AO.normal|apply AO.ret|apply AL.normal|apply AL.ret|apply AL.exit|apply Az.exit|apply Ae.ret|apply Ae.skip|apply Ag.nil|apply Ag.one|(apply Aa.makeMap)|(apply Aa.assign;rfl)|(apply Aa.move;rfl)|(apply Aa.int;rfl;rfl;rfl)|(apply Aa.load;rfl;rfl)|(apply Aa.BL;rfl;rfl)|(apply Aa.AP;rfl;rfl;rfl)|(apply Ae.Af;rfl)|(apply Ae.AY;rfl)|(intro _;try (exfalso;omega)))
 all_goals try (exfalso;omega)
 ·rw [if_pos (by omega)];(refine Done.ret rfl (.refl _) (by first|exact trivial|exact ⟨trivial,trivial,trivial⟩|exact ⟨trivial,trivial,trivial,trivial⟩) Aj.nil (Nat.zero_le _) (Nat.le_refl _) ⟨?_,rfl,rfl⟩;try rfl)
 ·rw [if_neg (by omega),if_pos (by omega)];(refine Done.ret rfl (.refl _) (by first|exact trivial|exact ⟨trivial,trivial,trivial⟩|exact ⟨trivial,trivial,trivial,trivial⟩) Aj.nil (Nat.zero_le _) (Nat.le_refl _) ⟨?_,rfl,rfl⟩;try rfl)
 rw [if_neg (by omega),if_neg (by omega)]
 refine Ae.ghost (AX.adopt 8 94 rfl) ?_
 refine Ae.Ec (fun k:Nat=>[(1,.ref 0 0),(3,.mref 2),(8,.vec 3 ((o.Aw.take k).map fun d=>(⟨d.lo,d.hi⟩:ZT)).length 0 ((o.Aw.take k).map fun d=>(⟨d.lo,d.hi⟩:ZT)).length),(56,lst 97 o.Aw),(57,.p (.int .i64 (o.Aw.length:Int))),(58,.p (.int .i64 (k:Int)))]) (fun k=>[(3,.vec 94 (cells ((o.Aw.take k).map fun d=>(⟨d.lo,d.hi⟩:ZT))) ((o.Aw.take k).map fun d=>(⟨d.lo,d.hi⟩:ZT)).length true),(2,.map (Xu ((o.Aw.take k).map Yl.name))),(0,.box 37 ((Enc.enc o).map .p))]) 4 (fun k=>k≤o.Aw.length∧F9 o.ranks o.Aw k=F9 o.ranks o.Aw 0) (fun k=>o.Aw.length-k) 0 (by omega) ⟨by omega,rfl⟩ ⟨by omega,?_,?_⟩ ?_
 ·repeat (first|exact Ad.nil|refine Ad.same trivial rfl ?_|refine Ad.same (Ac rfl) rfl ?_|refine Ad.same ⟨trivial,Ac rfl,Ac rfl,Ac rfl,trivial⟩ rfl ?_|refine Ad.same ⟨trivial,Ac rfl,Ac rfl,trivial⟩ rfl ?_|refine Ad.same ⟨trivial,trivial⟩ rfl ?_|refine Ad.cons trivial rfl (.of_eq (Au (by simp<;>omega))) ?_)
 ·repeat (first|exact Aj.nil|(refine Aj.cons (Ac rfl) ?_ rfl ?_ ?_;(first|exact trivial|exact AV.Ah _ _|(simp [HB.under,AV.under,PV.under]));(first|exact Bq.refl _|exact Bq.vec (Bl.refl _) (by simp))))
 rintro k ⟨hk,hE⟩
 have hlen:((o.Aw.take k).map fun d=>(⟨d.lo,d.hi⟩:ZT)).length=k:=by rw [List.length_map,List.length_take];omega
 by_cases hkl:k<o.Aw.length
 ·have hds:=ho.dv k hkl
  have hdn:=Hu (gi o.Aw k).name (by have:=hds.name;omega)
  have hdv:=Xl o (gi o.Aw k) ho hds
  by_cases h1:C9 (gi o.Aw k).name
  case neg =>
   have e2:F9 o.ranks o.Aw 0=8:=by rw [← hE,F9,if_pos hkl,if_pos h1]
   rw [e2,if_pos (by decide)]
   rw [decide_eq_false h1] at hdn
   repeat' (first|apply Ae.assoc|apply Ae.AA|apply Ae.Aq|apply Ae.BU|apply Ae.Ai|apply AO.ret|apply AL.ret|apply Az.ret|apply Ag.nil|apply Ag.one|(apply Aa.fn;rfl;rfl;exact hdn;intro _;rfl)|(apply Aa.assign;rfl)|(apply Aa.int;rfl;rfl;rfl)|(apply Aa.AU;rfl;rfl;rfl;omega;rfl)|(apply Aa.load;rfl;rfl)|(apply Aa.AP;rfl;rfl;rfl)|(apply Aa.alloc;rfl)|(apply Aa.Bj;rfl;rfl;rfl;trivial;rfl;rfl;exact Ac rfl;exact le_dec rfl)|(apply Aa.not;rfl)|(apply Ae.Bg;rfl)|(apply Ae.Af;rfl)|(intro _;try (exfalso;omega)))
   all_goals first|(exfalso;omega)|contradiction|(refine Done.ret rfl (.refl _) (by first|exact trivial|exact ⟨trivial,trivial,trivial⟩|exact ⟨trivial,trivial,trivial,trivial⟩) Aj.nil (Nat.zero_le _) (Nat.le_refl _) ⟨?_,rfl,rfl⟩;try rfl)
  rw [decide_eq_true h1] at hdn
  by_cases h2:(gi o.Aw k).name∈(o.Aw.take k).map Yl.name
  ·have e2:F9 o.ranks o.Aw 0=9:=by rw [← hE,F9,if_pos hkl,if_neg (fun h=>h h1),if_pos h2]
   rw [e2,if_pos (by decide)]
   repeat' (first|apply Ae.assoc|apply Ae.AA|apply Ae.Aq|apply Ae.BU|apply Ae.Ai|apply AO.ret|(apply Bv.ret;rfl)|apply AL.ret|apply Az.ret|apply Ag.nil|apply Ag.one|(apply Aa.fn;rfl;rfl;exact hdn;intro _;rfl)|(apply PS;rfl;rfl;rfl;exact le_dec rfl)|(apply Aa.IK;rfl;rfl;rfl;rfl;rfl;rfl)|(apply Aa.assign;rfl)|(apply Aa.move;rfl)|(apply Aa.int;rfl;rfl;rfl)|(apply Aa.AU;rfl;rfl;rfl;omega;rfl)|(apply Aa.load;rfl;rfl)|(apply Aa.AP;rfl;rfl;rfl)|(apply Aa.alloc;rfl)|(apply Aa.Bj;rfl;rfl;rfl;trivial;rfl;rfl;exact Ac rfl;exact le_dec rfl)|(apply Aa.not;rfl)|(apply Ae.Bg;rfl)|(apply Ae.Ar;rfl)|(apply Ae.Af;rfl)|(intro _;try (exfalso;omega)))
   all_goals first|(exfalso;omega)|contradiction|(refine Done.ret rfl (.refl _) (by first|exact trivial|exact ⟨trivial,trivial,trivial⟩|exact ⟨trivial,trivial,trivial,trivial⟩) Aj.nil (Nat.zero_le _) (Nat.le_refl _) ⟨?_,rfl,rfl⟩;try rfl)
  by_cases h3:KJ o.ranks (gi o.Aw k)=0
  case neg =>
   have e2:F9 o.ranks o.Aw 0=KJ o.ranks (gi o.Aw k):=by rw [← hE,F9,if_pos hkl,if_neg (fun h=>h h1),if_neg h2,if_pos h3]
   rw [e2,if_pos h3]
   repeat' (first|apply Ae.assoc|apply Ae.AA|apply Ae.Aq|apply Ae.BU|apply Ae.Ai|apply AO.ret|(apply Bv.ret;rfl)|apply AL.ret|apply Az.ret|apply Ae.ret|apply Ag.nil|apply Ag.one|(apply Aa.fn;rfl;rfl;exact hdn;intro _;rfl)|(apply Aa.fn;rfl;rfl;exact hdv;intro _;rfl)|(apply PS;rfl;rfl;rfl;exact le_dec rfl)|(apply Aa.IK;rfl;rfl;rfl;rfl;rfl;rfl)|(apply Aa.Y5;rfl;rfl;rfl;rfl;rfl;rfl;exact h2)|(apply Aa.assign;rfl)|(apply Aa.move;rfl)|(apply Aa.int;rfl;rfl;rfl)|(apply Aa.AU;rfl;rfl;rfl;omega;rfl)|(apply Aa.load;rfl;rfl)|(apply Aa.AP;rfl;rfl;rfl)|(apply Aa.alloc;rfl)|(apply Aa.Bj;rfl;rfl;rfl;trivial;rfl;rfl;exact Ac rfl;exact le_dec rfl)|(apply Aa.not;rfl)|(apply Ae.Bg;rfl)|(apply Ae.Ar;rfl)|(apply Ae.Af;rfl)|(intro _;try (exfalso;omega)))
   all_goals first|(exfalso;omega)|contradiction|(refine Done.ret rfl (.refl _) (by first|exact trivial|exact ⟨trivial,trivial,trivial⟩|exact ⟨trivial,trivial,trivial,trivial⟩) Aj.nil (Nat.zero_le _) (Nat.le_refl _) ⟨?_,rfl,rfl⟩;try rfl)
  rw [h3] at hdv
  have e5:((o.Aw.take (k+1)).map fun d=>(⟨d.lo,d.hi⟩:ZT))=((o.Aw.take k).map fun d=>(⟨d.lo,d.hi⟩:ZT))++[⟨(gi o.Aw k).lo,(gi o.Aw k).hi⟩]:=by rw [DL hkl,List.map_append];rfl
  have e6:((o.Aw.take (k+1)).map fun d=>(⟨d.lo,d.hi⟩:ZT)).length=((o.Aw.take k).map fun d=>(⟨d.lo,d.hi⟩:ZT)).length+1:=by rw [e5,List.length_append];rfl
  repeat' (first|apply Ae.assoc|apply Ae.AA|apply Ae.region|apply Ae.Aq|apply Ae.BU|apply Ae.Ai|apply AO.normal|apply AO.ret|(apply Bv.ret;rfl)|apply AL.normal|apply AL.ret|apply Az.ret|apply Ae.ret|apply Ag.nil|apply Ag.one|(apply Aa.fn;rfl;rfl;exact hdn;intro _;rfl)|(apply Aa.fn;rfl;rfl;exact hdv;intro _;rfl)|(apply Aa.Dp (a:=(⟨(gi o.Aw k).lo,(gi o.Aw k).hi⟩:ZT));rfl;rfl;rfl;rfl;rfl;rfl;rfl;rfl;(intro _ h;cases h);rfl;rfl;rfl;decide;decide;(first|omega|(simp only [List.length_take,List.length_drop,List.length_append,List.length_singleton,List.length_cons,List.length_nil]<;>omega)))|(apply PS;rfl;rfl;rfl;exact le_dec rfl)|(apply Aa.IK;rfl;rfl;rfl;rfl;rfl;rfl)|(apply Aa.Y5;rfl;rfl;rfl;rfl;rfl;rfl;exact h2)|(apply Aa.assign;rfl)|(apply Aa.move;rfl)|(apply Aa.Bz;rfl;rfl;omega)|(apply Aa.int;rfl;rfl;rfl)|(apply Aa.AU;rfl;rfl;rfl;omega;rfl)|(apply Aa.load;rfl;rfl)|(apply Aa.AP;rfl;rfl;rfl)|(apply Aa.alloc;rfl)|(apply Aa.Bj;rfl;rfl;rfl;trivial;rfl;rfl;exact Ac rfl;exact le_dec rfl)|(apply Aa.buildSlice;rfl;rfl;rfl;decide;rfl;rfl;rfl)|(apply Aa.not;rfl)|(apply Ae.Bg;rfl)|(apply Ae.Ar;rfl)|(apply Ae.Af;rfl)|(intro _;try (exfalso;omega)))
  all_goals try (exfalso;omega)
  all_goals try contradiction
  refine Az.normal ⟨k+1,⟨by omega,?_⟩,by omega,⟨by omega,?_,?_⟩⟩
  ·first|rfl|(refine Eq.trans ?_ hE;symm;(conv=>lhs;rw [F9]);rw [if_pos hkl,if_neg (fun h=>h h1),if_neg h2,if_neg (fun h=>h h3)])
  ·rw [e6];repeat (first|exact Ad.nil|refine Ad.same trivial rfl ?_|refine Ad.same (Ac rfl) rfl ?_|refine Ad.same ⟨trivial,Ac rfl,Ac rfl,Ac rfl,trivial⟩ rfl ?_|refine Ad.same ⟨trivial,Ac rfl,Ac rfl,trivial⟩ rfl ?_|refine Ad.same ⟨trivial,trivial⟩ rfl ?_|refine Ad.cons trivial rfl (.of_eq (Au (by simp<;>omega))) ?_)
  ·rw [e6,e5,P7 Yl.name hkl];repeat (first|exact Aj.nil|(refine Aj.cons (Ac rfl) ?_ rfl ?_ ?_;(first|exact trivial|exact AV.Ah _ _|(simp [HB.under,AV.under,PV.under]));(first|exact Bq.refl _|exact Bq.vec (Bl.refl _) (by simp))))
 obtain rfl:k=o.Aw.length:=by omega
 have e2:F9 o.ranks o.Aw 0=0:=by rw [← hE,F9,if_neg (by omega)]
 rw [if_neg (fun h=>h e2)]
 have et:o.Aw.take o.Aw.length=o.Aw:=List.take_of_length_le (Nat.le_refl _)
 have hcp:=ZH (o.Aw.map fun d=>(⟨d.lo,d.hi⟩:ZT)) o.Gh (by rw [List.length_map];exact b2) ho.Gh ho.cp
 rw [et]
 repeat' (first|(refine Ae.at 35 ?_;refine Ae.ghost (AX.freeze 8 rfl rfl) ?_;first|apply Ae.AA|apply Ae.BA)|apply Ae.AA|apply Ae.A8|apply AO.normal|apply AL.exit|apply Az.exit|apply Ae.ret|apply Ag.nil|apply Ag.one|(apply Aa.fn;rfl;rfl;exact hcp;intro _;rfl)|(apply Aa.assign;rfl)|(apply Aa.move;rfl)|(apply Aa.int;rfl;rfl;rfl)|(apply Aa.load;rfl;rfl)|(apply Aa.AP;rfl;rfl;rfl)|(apply Ae.Af;rfl)|(intro _;try (exfalso;omega)))
 all_goals first|(exfalso;omega)|(refine Done.ret rfl (.refl _) (by first|exact trivial|exact ⟨trivial,trivial,trivial⟩|exact ⟨trivial,trivial,trivial,trivial⟩) Aj.nil (Nat.zero_le _) (Nat.le_refl _) ⟨?_,rfl,rfl⟩;try rfl)
end Go.Proofs.YtdabojnmoejilaaGreatDoor
namespace Go.Proofs.YtdabojnmoejilaaGreatDoor
open Go Go.Am Go.Vm
attribute [local irreducible] Aa Ag Ak Ae BH AZ CW AO AL Az Vm.Done Di Bv
structure Rgs where
 stops:List Nat
 cp:Nat
 off:Nat
instance:Enc Rgs:={ default:=⟨[],0,0⟩,enc:=fun x=>[.lst 39 (cells x.stops) x.stops.length,.int .u64 (x.cp:Int),.int .u64 (x.off:Int)],size:=3,len:=fun _=>rfl }
structure Rgs.Ok (r:Rgs):Prop where
 stops:∀ i,i<r.stops.length→gi r.stops i<18446744073709551616
 cp:r.cp<18446744073709551616
 off:r.off<18446744073709551616
 len:r.stops.length<9223372036854775808
def rM (b:Nat→Nat):List FV:=[.int .u8 (b 0:Int),.int .u8 (b 1:Int),.int .u8 (b 2:Int),.int .u8 (b 3:Int),.int .u8 (b 4:Int)]
def Gs (o:EY) (b:Nat→Nat) (k:Nat):Nat:=b (k % 3) &&& (2 ^ (gi o.Aw k).stops.length-1)
def SG (o:EY) (b:Nat→Nat):Rgs:=⟨GK (Gs o b) o.Aw.length,b 3 &&& (2 ^ o.Gh.length-1),b 4 &&& (2 ^ o.Aw.length-1)⟩
theorem zZ {n:Nat} (h:n≤3):2 ^ n≤8:=Nat.pow_le_pow_right (by omega) h
theorem rW (b:Nat→Nat) (k:Nat):((rM b).map PV.p)[0+((k:Int) % 3).toNat*1]?=some (.p (.int .u8 ((b (k % 3):Nat):Int))):=by
 have e0:((k:Int) % 3).toNat=k % 3:=by omega
 rw [e0]
 have:k % 3<3:=Nat.mod_lt _ (by decide)
 generalize k % 3=n at this
 match n,this with
 |0,_=>rfl
 |1,_=>rfl
 |2,_=>rfl
theorem iH (o:EY) (ho:Pj o) (b:Nat→Nat) (hb:∀ i,b i<256):AZ env 42 [.agg (Enc.enc o),.agg (rM b)] (.p (.agg (Enc.enc (SG o b)))):=by
 have r2:=ho.Aw
 have r3:=ho.Gh
 have b3:=hb 3
 have b4:=hb 4
 have p3:=zZ r3
 have p4:=zZ r2.2
 refine AZ.enter (AB (by decide)) Tryz.func42 rfl (by kernel_rfl) (by simp [Tryz.ntmps42]) ?_
 repeat' (first|apply Ae.assoc|apply Ae.AA|apply Ae.Ai|apply Ag.nil|apply Ag.one|(apply Aa.zQ;rfl;rfl;omega)|(apply Aa.UN;rfl;rfl;rfl;rfl;rfl;decide)|(apply Aa.assign;rfl)|(apply Aa.a3h;rfl;rfl;omega;omega)|(apply Aa.load;rfl;rfl)|(apply Aa.BL;rfl;rfl)|(apply Aa.AP;rfl;rfl;rfl)|(apply Aa.box;rfl;trivial)|(apply Aa.alloc;rfl)|(apply Aa.Bj;rfl;rfl;rfl;trivial;rfl;rfl;exact Ac rfl;exact le_dec rfl)|(apply Aa.build;rfl;rfl;rfl;rfl;rfl)|(apply Aa.TF;rfl;rfl;rfl;rfl;omega)|(apply Aa.lD;rfl;rfl;omega))
 refine Ae.ghost (AX.EF 3 0 39 rfl rfl) ?_
 apply Ae.FD (o.Aw.length) [(2,_),(3,_),(4,_),(5,_)] [(0,_),(1,_),(2,_)] (fun k r=>(6,.p (.int .i64 (k:Int)))::r) (fun k r=>(4,.vec 39 (cells (GK (Gs o b) k)) (GK (Gs o b) k).length true)::(3,.box 41 [.vec 4 (GK (Gs o b) k).length 0 (GK (Gs o b) k).length,.p (.int .u64 ((b 3 &&& (2 ^ o.Gh.length-1):Nat):Int)),.p (.int .u64 ((b 4 &&& (2 ^ o.Aw.length-1):Nat):Int))])::r) 5
 ·first|omega|decide
 ·first|omega|decide
 ·repeat (first|exact Ad.nil|(refine Ad.eq rfl ?_ ?_;(first|exact PV.Ap rfl|(simp [PV.under,AV.under];done)))|refine Ad.cons trivial rfl (.of_eq (Au (by simp<;>omega))) ?_)
 ·repeat (first|exact Aj.nil|(refine Aj.eq rfl (Ac rfl) ?_ ?_;(first|exact HB.Ap rfl|exact AV.Ah _ _|(simp [HB.under,AV.under,PV.under];done)))|(refine Aj.cons (Ac rfl) ?_ rfl ?_ ?_;(first|exact trivial|exact AV.Ah _ _|(simp [HB.under,AV.under,PV.under]));(first|exact Bq.refl _|exact Bq.vec (Bl.refl _) (by simp))))
 ·intro k hk
  have hl:=Jv (Gs o b) k
  have e1:GK (Gs o b) (k+1)=GK (Gs o b) k++[Gs o b k]:=rfl
  have e2:(GK (Gs o b) (k+1)).length=(GK (Gs o b) k).length+1:=by rw [e1];simp
  have s3:=ho.stops k hk
  have p1:=zZ s3
  have hbk:=hb (k % 3)
  have hr:=rW b k
  repeat' (first|apply Ae.assoc|apply Ae.AA|apply Ae.region|apply Ae.EZ|apply Ae.Aq|apply Ae.Ai|apply AO.normal|apply AL.normal|apply Ag.nil|apply Ak.nil|apply Ag.one|(apply Ak.bar;decide +kernel)|apply Ak.quiet|(apply Aa.zQ;rfl;rfl;omega)|(apply Aa.uO;rfl;rfl;rfl;exact hr)|(apply Aa.UN;rfl;rfl;rfl;rfl;rfl;omega)|(apply Aa.Dp (a:=Gs o b k);rfl;rfl;rfl;rfl;rfl;rfl;rfl;rfl;(intro _ h;cases h);rfl;rfl;rfl;decide;decide;(first|omega|(simp only [List.length_take,List.length_drop,List.length_append,List.length_singleton,List.length_cons,List.length_nil]<;>omega)))|(apply Aa.assign;rfl)|(apply Aa.move;rfl)|(apply Aa.Bz;rfl;rfl;omega)|(apply Aa.a3h;rfl;rfl;omega;omega)|(apply Aa.Jk;rfl;rfl;omega;omega)|(apply Aa.int;rfl;rfl;rfl)|(apply Aa.AU;rfl;rfl;rfl;omega;rfl)|(apply Aa.load;rfl;rfl)|(apply Aa.BL;rfl;rfl)|(apply Aa.AP;rfl;rfl;rfl)|(apply Aa.DC;rfl;rfl)|(apply Aa.Bj;rfl;rfl;rfl;trivial;rfl;rfl;exact Ac rfl;exact le_dec rfl)|(apply Aa.buildSlice;rfl;rfl;rfl;decide;rfl;rfl;rfl)|(apply Aa.TF;rfl;rfl;rfl;rfl;omega)|(apply Aa.lD;rfl;rfl;omega)|(apply Ae.Af;rfl)|(intro _;try (exfalso;omega)))
  all_goals try (exfalso;omega)
  refine Az.normal ⟨by first|omega|decide,?_,?_⟩
  ·try (rw [e2,e1])
   repeat (first|exact Ad.nil|refine Ad.same trivial rfl ?_|refine Ad.same (Ac rfl) rfl ?_|refine Ad.same ⟨trivial,Ac rfl,trivial⟩ rfl ?_|refine Ad.same ⟨trivial,Ac rfl,Ac rfl,trivial⟩ rfl ?_|refine Ad.same ⟨trivial,Ac rfl,Ac rfl,Ac rfl,trivial⟩ rfl ?_|refine Ad.same ⟨trivial,Ac rfl,Ac rfl,Ac rfl,Ac rfl,trivial⟩ rfl ?_|refine Ad.same ⟨trivial,trivial⟩ rfl ?_|refine Ad.cons trivial rfl (.of_eq (Au (by simp<;>omega))) ?_)
  ·rw [e2,e1]
   repeat (first|exact Aj.nil|(refine Aj.cons (Ac rfl) ?_ rfl ?_ ?_;(first|exact HB.Ap rfl|exact AV.Ah _ _|(simp [HB.under,AV.under,PV.under]));(first|exact Bq.refl _|exact Bq.vec (Bl.refl _) (by simp))))
 ·have hl:=Jv (Gs o b) o.Aw.length
  repeat' (first|(refine Ae.at 6 ?_;refine Ae.ghost (AX.Bh 3 0 rfl rfl rfl) ?_;first|apply Ae.AA|apply Ae.BA)|apply Ae.assoc|apply Ae.AA|apply Ae.A8|apply AO.normal|apply AL.exit|apply Az.exit|apply Ae.ret|apply Ag.nil|apply Ag.one|(apply Aa.move;rfl)|(apply Aa.int;rfl;rfl;rfl)|(apply Aa.load;rfl;rfl)|(apply Aa.BL;rfl;rfl)|(apply Aa.AP;rfl;rfl;rfl)|(apply Aa.Bj;rfl;rfl;rfl;trivial;rfl;rfl;exact Ac rfl;exact le_dec rfl)|(apply Ae.Af;rfl)|(intro _;try (exfalso;omega)))
  all_goals first|(exfalso;omega)|(refine Done.ret rfl (.refl _) (by first|exact trivial|exact ⟨trivial,trivial,trivial⟩|exact ⟨trivial,trivial,trivial,trivial⟩) Aj.nil (Nat.zero_le _) (Nat.le_refl _) ⟨?_,rfl,rfl⟩;try rfl)
noncomputable def O8 (o:EY) (r:Rgs):Int :=
 open Classical in
 if r.stops.length≠o.Aw.length then 5
 else if ∃ i,i<r.stops.length∧gi r.stops i / 2 ^ (gi o.Aw i).stops.length≠0 then 3
 else if r.cp / 2 ^ o.Gh.length≠0∨r.off / 2 ^ o.Aw.length≠0 then 3 else 0
theorem aZ {o:EY} {r:Rgs} (h:r.stops.length≠o.Aw.length):O8 o r=5:=by unfold O8;rw [if_pos h]
theorem rY {o:EY} {r:Rgs} (h:r.stops.length=o.Aw.length) {i:Nat} (hi:i<r.stops.length) (h2:gi r.stops i / 2 ^ (gi o.Aw i).stops.length≠0):O8 o r=3:=by
 unfold O8;rw [if_neg (fun h'=>h' h),if_pos ⟨i,hi,h2⟩]
theorem SC {o:EY} {r:Rgs} (h:r.stops.length=o.Aw.length) (h2:∀ i,i<r.stops.length→gi r.stops i / 2 ^ (gi o.Aw i).stops.length=0):O8 o r=if r.cp / 2 ^ o.Gh.length≠0∨r.off / 2 ^ o.Aw.length≠0 then 3 else 0:=by
 unfold O8;rw [if_neg (fun h'=>h' h),if_neg (fun ⟨i,hi,h3⟩=>h3 (h2 i hi))]
end Go.Proofs.YtdabojnmoejilaaGreatDoor
namespace Go.Vm
open Go.Am
section
variable {E:Env} {L:Vm.Frame} {H:Vm.Heap} {nx:Nat} {Q:PV→Vm.Heap→Nat→Prop} {w:Bool} {dst:Option Tmp} {ty:TypeId} {pos:String} {af:Array Edge} {gd:Option (Nat×Bool)}
theorem ZI {m:Mem} {F:Nat→Prop}:∀ {cs:List FV} {vs:List Value} {j:Nat} {c:FV},DU m F cs vs→cs[j]?=some c→∃ v,vs[j]?=some v∧RF m F c v
 |_,_,0,c,.cons h t,e=>by simp at e;subst e;exact ⟨_,rfl,h⟩
 |_,_,j+1,c,.cons h t,e=>by
  simp at e
  obtain ⟨v,h1,h2⟩:=ZI t e
  exact ⟨v,by simpa using h1,h2⟩
 |_,_,_,_,.nil,e=>by simp at e
theorem Aa.gJ {t e:TypeId} {x ix:Operand} {n:Nat} {cs:List FV} {k:IntKind} {i:Int} {inf:TypeInfo} {c:FV} (hx:BG E.Γ L x=some (.p (.agg cs))) (hi:BG E.Γ L ix=some (.p (.int k i)))
 (ht:E.P.underlying t=some (.array n e)) (ha:FX E.P e=some false) (hs:E.P.info? e=some inf) (h:0≤i∧i<n) (hc:cs[i.toNat*inf.size]?=some c) (q:Q (.p c) H nx) :
 Aa E w ⟨dst,.index t x ix,ty,pos,af,gd⟩ L H nx Q :=
 Aa.quiet q fun m F σ tt h1 h2=>by
  have hr:=Cm h1 h2 hx
  generalize hv:ev tt x=v at hr
  cases hr with
  |p hr =>
   cases hr with
   |agg hr hcc =>
    rename_i l
    obtain ⟨u,g1,g2⟩:=ZI hr hc
    refine ⟨u,fun _=>?_,.p g2⟩
    have hd:EG E.P (Instr.index t (.agg l.toArray) (.int k i))=some u:=by
     unfold Instr.index
     simp only [Ba,BQ,ht]
     show (EG E.P (asIntOf (.int k i))).bind _=_
     rw [show EG E.P (asIntOf (.int k i))=some (k,i) from rfl]
     simp only [Option.bind_some,h,and_self,if_true,Ba,Hl,hs,Option.map_some]
     unfold part
     simp only [Ba,OD,ha,Option.bind_some,Bool.false_eq_true,if_false,List.getElem?_toArray,g1]
     rfl
    simp only [CZ,FI,hv,Df h1 h2 hi,hd,Option.map_some]
    rw [show plain (Value.int k i)=true from rfl,if_pos rfl]
end
end Go.Vm
namespace Go.Vm
open Go.Am
open Go.Sort (putRow putCells mapBlock onCells Holds grow size_putRow size_grow)
section
variable {P:Program} {G:List Nat}
def iV (z:Int):Value:=.int .i64 z
def wW:List Value→Option (List Int)
 |[]=>some []
 | .int .i64 n::l=>(wW l).map (n::·)
 |_::_=>none
abbrev InF:=List Int→List Value→Option (List Int×Option Nat)
def a4p (e:TypeId) (Fn:InF) (Ci:List Value) (m:Mem):Option (Value×Mem):=match Ci with
 | .slice none 0 0::rest=>match Fn [] rest with
  |some ([],none)=>some (.tuple #[],m)
  |_=>none
 | .slice (some ⟨b,0,none⟩) n g::rest=>match m.get b with
  | .cells vs e' g' false =>
   if g=g'∧e=e'∧vs.length=n∧0<n∧rest.all Am.plainCell=true then
    match wW vs with
    |some zs=>match Fn zs rest with
     |some (zs',none)=>if zs'.length=n then some (.tuple #[],m.put b (.cells (zs'.map iV) e g' false)) else none
     |some (zs',some k)=>if zs'.length=n∧k≤n then some (.slice (some ⟨b,0,none⟩) k (g'+1),m.put b (.cells ((zs'.take k).map iV) e (g'+1) false)) else none
     |none=>none
    |none=>none
   else none
  |_=>none
 |_=>none
inductive uV (e:TypeId) (Fn:InF) (m:Mem):List Value→Value→Mem→Prop
 |nil {rest:List Value} (h:Fn [] rest=some ([],none)):uV e Fn m (.slice none 0 0::rest) (.tuple #[]) m
 |put {b n g:Nat} {rest:List Value} {zs zs':List Int} (hm:m.get b=.cells (zs.map iV) e g false) (hn:zs.length=n) (h0:0<n) (hr:rest.all Am.plainCell=true) (h:Fn zs rest=some (zs',none)) (hl:zs'.length=n) :
  uV e Fn m (.slice (some ⟨b,0,none⟩) n g::rest) (.tuple #[]) (m.put b (.cells (zs'.map iV) e g false))
 |cut {b n g k:Nat} {rest:List Value} {zs zs':List Int} (hm:m.get b=.cells (zs.map iV) e g false) (hn:zs.length=n) (h0:0<n) (hr:rest.all Am.plainCell=true) (h:Fn zs rest=some (zs',some k)) (hl:zs'.length=n) (hk:k≤n) :
  uV e Fn m (.slice (some ⟨b,0,none⟩) n g::rest) (.slice (some ⟨b,0,none⟩) k (g+1)) (m.put b (.cells ((zs'.take k).map iV) e (g+1) false))
open Classical in
noncomputable def inO (G:List Nat) (M0:Mem) (ff:FuncId) (e:TypeId) (Fn:InF) (O:CJ):CJ:=fun f=>if f=ff then some (fun Ci m=>if ∀ k∈G,m.get k=M0.get k then a4p e Fn Ci m else none) else O f
end
end Go.Vm
namespace Go.Vm
open Go.Am
section
variable {P:Program} {F0:Nat} {laid:List (String×DataW Unit)} {O O0:CJ} {ff:FuncId} {Fn:InF} {L:Frame} {H:Heap} {nx:Nat} {Q:PV→Heap→Nat→Prop} {w:Bool}
variable {dst:Option Tmp} {ty:TypeId} {pos:String} {af:Array Edge} {gd:Option (Nat×Bool)}
theorem xC {m:Mem} {F:Nat→Prop} {σ:Nat→Value} (h1:Ctx (Jm P F0 laid O).Γ m F σ H nx):∀ k∈BO P F0 laid,m.get k=(CX P F0 laid).get k:=fun k hk=>by
 obtain ⟨hlt,e,l,hgl⟩:=Qw hk
 have:=(h1.gl k l e (by simp only [Jm,gam,if_pos hlt,hgl,Option.map_some])).2.1
 rw [this,IY hlt,hgl]
def a6o (E:Env) (g:FuncId) (ac:List PV) (Hc:Heap) (k:Nat) (e:TypeId) (cs:List FV) (n:Nat) (z:Bool):Prop:=BH E g ac Hc k fun r H' nx'=>r=.vec k n 0 n∧H'=(k,.vec e cs n z)::Hc∧nx'=k+1
end
end Go.Vm
namespace Go.Vm
open Go.Am
theorem l7 {Γ:Nat→Option (List Value×TypeId)} {m:Mem} {F:Nat→Prop} {σ:Nat→Value} {H:Heap} {nx b:Nat} {y:HB} (h:Ctx Γ m F σ H nx) (hb:hget H b=some y) :
 Ctx Γ m (fun c=>F c∨Dv (σ b)=some c) σ (hdel H b) nx∧Step m F σ H nx m (fun c=>F c∨Dv (σ b)=some c) σ (hdel H b) nx:=by
 have hown:∀ c,Dv (σ b)=some c→own H σ c:=fun c hc=>⟨b,_,hb,hc⟩
 have hfz:∀ c,F c→(F c∨Dv (σ b)=some c)∧m.get c=m.get c:=fun c hc=>⟨.inl hc,rfl⟩
 have hN:Names nx (htag H) σ (htag (hdel H b)) σ:=fun d _=>by
  rw [SK]
  split
  ·exact ⟨trivial,fun _ _ _=>rfl⟩
  ·exact ⟨Uz.refl _,fun _ _ _=>rfl⟩
 have hsub:∀ d x,hget (hdel H b) d=some x→d≠b∧hget H d=some x:=fun d x hd=>by
  rw [Ju] at hd
  split at hd
  ·cases hd
  ·rename_i hne;exact ⟨Ne.symm hne,hd⟩
 refine ⟨⟨?_,?_,?_,?_⟩,⟨Nat.le_refl _,fun _ _ _=>rfl,fun _ h=>.inl h,fun c _ hc=>hc.imp id (hown c),?_,Nat.le_refl _,hN,fun _ h _ _=>h⟩⟩
 ·rintro c (hc|hc)
  ·exact h.fr c hc
  ·exact (h.Ls (hown c hc)).2
 ·intro d x hd
  obtain ⟨hne,hd⟩:=hsub d x hd
  obtain ⟨h1,h2⟩:=h.hp d x hd
  refine ⟨h1,h2.mono hfz hN (Nat.le_refl _) (Nat.le_refl _) fun c hc=>⟨rfl,?_⟩⟩
  rintro (hf|hf)
  ·exact (h.Ls ⟨d,x,hd,hc⟩).1 hf
  ·exact hne (h.sep d b x _ c hd hb hc hf)
 ·intro d d' x x' c hd hd' hc hc'
  exact h.sep d d' x x' c (hsub d x hd).2 (hsub d' x' hd').2 hc hc'
 ·intro g cs' e' hg
  obtain ⟨h1,h2⟩:=h.gl g cs' e' hg
  exact ⟨.inl h1,h2⟩
 ·rintro c _ ⟨d,x,hd,hc⟩
  exact ⟨d,x,(hsub d x hd).2,hc⟩
section
variable {E:Env} {bn:Nat} {L:Vm.Frame} {H:Vm.Heap} {nx:Nat} {Q:CO→Vm.Frame→Vm.Heap→Nat→Prop}
def zW (E:Env) (g:FuncId) (fn:Func) (cs:List FV) (e:TypeId) (rows:List (List Value)):Prop :=
 ∀ Fo,E.O g=some Fo→∀ m F c vs,m.get c=.cells vs e 0 false→DU m F cs vs→F c→∃ key,∀ m' F' σ' H' nx',(∀ d,F d→m'.get d=m.get d)→Ctx E.Γ m' F' σ' H' nx'→∃ m1,Fo (Ed fn.ntmps [.pointer (some ⟨c,0,none⟩)]) m'=some (IC key rows,m1)
theorem Ae.WB {f:Operand} {ps:Array Tmp} {LD body:Code} {g:FuncId} {fn:Func} {b:Nat} {cs:List FV} {ct:TypeId} {rows:List (List Value)} (n:Nat) (a2y:Nat→List FV) (wX:Nat→List Value) (L0:Vm.Frame) (Hk:Nat→Vm.Heap) (D6:Nat) (inv:Nat→Prop)
 (hf:BG E.Γ L f=some (.clo g [] [.ref b 0])) (hbx:hget H b=some (.box ct (cs.map .p))) (hfn:E.P.funcs[g]?=some fn) (hfl:(flat LD&&flat body)=true) {Fo:List Value→Mem→Option (Value×Mem)} (ho:E.O g=some Fo) (hr:rows=(List.range n).map wX) (hlen:∀ k,k<n→(wX k).length=ps.size) (hpl:∀ k,k<n→(wX k).all plain=true) (hrel:∀ k,k<n→∀ m F,DU m F (a2y k) (wX k))
 (hb:bn≤D6) (hc:Xe L (hdel H b) nx L0 (Hk 0) D6) (hL0:Ad D6 L0 L0) (hask:zW E g fn cs ct rows)
 (h0:inv 0) (iY:∀ k,k<n→inv k→Ae E D6 LD (vH L0 ps.toList (a2y k)) (Hk k) D6 fun e L1 H1 nx1=>e=.normal∧Ae E D6 body L1 H1 nx1 (RQ (inv (k+1)) D6 L0 (Hk (k+1)) Q))
 (hdone:inv n→Q .normal L0 (Hk n) D6):Ae E bn (.rangeFunc f ps LD body) L H nx Q:=by
 intro B hB m F σ t h1 h2 h3
 have hv:=Cm h1 h2 hf
 have hlb:∃ c vs,ev t f=.func (.func g) #[] #[.pointer (some ⟨c,0,none⟩)]∧m.get c=.cells vs ct 0 false∧DU m F cs vs∧Dv (σ b)=some c:=by
  obtain ⟨_,c,vs,r1,r2,r3,r4,r5,r6⟩:=h1.hp b _ hbx
  generalize ev t f=u at hv
  cases hv with
  |clo p1 p2 =>
   cases p1
   cases p2 with
   |cons p2 p3 =>
    cases p3
    cases p2 with
    |ref q1 q2 q3 =>
     obtain ⟨c',s1,s2⟩:=q3 (by simp [htag,hbx,HB.tag])
     rw [r1] at s1
     cases s1
     exact ⟨c,vs,by rw [s2],r4,DU.VN r5,by rw [r1];rfl⟩
 obtain ⟨c,vs,hev,hgc,hrc,hblk⟩:=hlb
 obtain ⟨g1,g2⟩:=l7 h1 hbx
 obtain ⟨F0,hF0⟩:∃ F0:Nat→Prop,F0=fun d=>F d∨Dv (σ b)=some d:=⟨_,rfl⟩
 rw [← hF0] at g1 g2
 have zF:F0 c:=by rw [hF0];exact .inr hblk
 obtain ⟨key,hkey⟩:=hask Fo ho m F0 c vs hgc (hrc.mono fun d hd=>⟨by rw [hF0];exact .inl hd,rfl⟩) zF
 have l1:RL m F0 (htag (hdel H b)) σ nx L t:=RL.step g2 h1 h2
 have rounds:∀ j k,k+j=n→inv k→∀ m1 F1 σ1,Ctx E.Γ m1 F1 σ1 (Hk k) D6→RL m1 F1 (htag (Hk k)) σ1 D6 L0 t→B.to m1 F1 σ1 (Hk k) D6→(∀ d,F0 d→F1 d∧m1.get d=m.get d) →
  L8 E.P E.O E.G LD body ps.size (fun m'=>∃ m1,Fo (Ed fn.ntmps [.pointer (some ⟨c,0,none⟩)]) m'=some (IC key rows,m1)) t ps.toList (rows.drop k) m1 fun e m'=>∃ L' H' nx' F' σ',Q e L' H' nx'∧Ctx E.Γ m' F' σ' H' nx'∧RL m' F' (htag H') σ' nx' L' t∧B.to m' F' σ' H' nx':=by
  intro j
  induction j with
  |zero =>
   intro k hk hik m1 F1 σ1 c1 l b fz
   obtain rfl:k=n:=by omega
   rw [hr,List.drop_of_length_le (by simp)]
   exact ⟨L0,_,D6,F1,σ1,hdone hik,c1,l,b⟩
  |succ j ih =>
   intro k hk hik m1 F1 σ1 c1 l b fz
   have e0:rows.drop k=wX k::rows.drop (k+1):=by
    rw [hr,List.drop_eq_getElem_cons (by simp;omega)]
    simp
   rw [e0]
   refine ⟨hlen k (by omega),hpl k (by omega),?_⟩
   refine (iY k (by omega) hik ⟨m1.at m1.size,F1,σ1,Hk k,D6⟩ rfl _ F1 σ1 _ (c1.at _) (RL.JR (RL.at (Γ:=E.Γ) _ l) (hrel k (by omega) _ _)) (Step.refl _ _ _ _ _)).mono ?_
   rintro e1 s1 ⟨L1,H1,nx1,F2,σ2,⟨he,hbody⟩,d1,d2,d3⟩
   refine ⟨he,(hbody ⟨m1.at m1.size,F1,σ1,Hk k,D6⟩ rfl s1.m F2 σ2 s1.t d1 d2 d3).mono ?_⟩
   rintro e2 s2 ⟨L2,H2,nx2,F3,σ3,q,k1,k2,k3⟩
   have st:Step m1 F1 σ1 (Hk k) D6 (s2.m.at (min m1.low s2.m.low)) F3 σ3 H2 nx2:=Step.at k3
   have k1':=k1.at (min m1.low s2.m.low)
   have l':=RL.step st c1 l
   have b':=Step.trans b st
   have fz':∀ d,F0 d→F3 d∧(s2.m.at (min m1.low s2.m.low)).get d=m.get d:=fun d hd=>by
    obtain ⟨x1,x2⟩:=fz d hd
    obtain ⟨y1,y2⟩:=st.frozen c1 d x1
    exact ⟨y1,y2.trans x2⟩
   cases e2 with
   |normal =>
    have sU:Xe L0 H2 nx2 L0 (Hk (k+1)) D6:=⟨q.2.1,hL0,q.2.2⟩
    have c2:=sU.ctx k1'
    exact ⟨hkey _ _ _ _ _ (fun d hd=>(fz' d hd).2) c2,ih (k+1) (by omega) q.1 _ _ _ c2 (sU.rl l') (sU.step (by omega) b') fz'⟩
   |ret =>
    obtain ⟨q1,H3,q2,q3⟩:=q
    have sU:Xe L0 H2 nx2 L0 H3 D6:=⟨q1,hL0,q2⟩
    exact ⟨L0,H3,D6,F3,σ3,q3,sU.ctx k1',sU.rl l',sU.step (by omega) b'⟩
   |exit id =>
    obtain ⟨q1,H3,q2,q3⟩:=q
    have sU:Xe L0 H2 nx2 L0 H3 D6:=⟨q1,hL0,q2⟩
    exact ⟨L0,H3,D6,F3,σ3,q3,sU.ctx k1',sU.rl l',sU.step (by omega) b'⟩
 refine Ld.rangeFunc (fn:=fn) (Fo:=Fo) (rows:=rows) hev hfn hfl ho (hkey _ _ _ _ _ (fun _ _=>rfl) g1) ?_
 have:=rounds n 0 (by omega) h0 m F0 σ (hc.ctx g1) (hc.rl l1) (hc.step (by omega) (h3.trans g2)) fun d hd=>⟨hd,rfl⟩
 rw [List.drop_zero] at this
 exact this
end
end Go.Vm
namespace Go.Vm
open Go.Am
def b0r (e:TypeId) (ks:List Int) (f:Int→List Int):List (FV×FV):=ks.map fun k=>(.int .i64 k,.lst e (cells (f k)) (f k).length)
section
variable {E:Env} {L:Frame} {H:Heap} {nx:Nat} {Q:PV→Heap→Nat→Prop} {w:Bool}
variable {dst:Option Tmp} {ty:TypeId} {pos:String} {af:Array Edge} {gd:Option (Nat×Bool)}
end
section
variable {E:Env} {bn i:Nat} {ops:Array Oper} {l:List Oper} {L:Frame} {H:Heap} {nx:Nat} {R:Frame→Heap→Nat→Prop}
end
def swp (a b i:Nat):Nat:=if i=a then b else if i=b then a else i
def Hrn (ρ:Nat→Nat):Heap→Heap
 |[]=>[]
 |(i,x)::H=>(ρ i,x.rn ρ)::Hrn ρ H
end Go.Vm
namespace Go.Vm
open Go.Am
mutual
def FV.flat:FV→Bool
 | .int ..| .bool _| .str _| .val _=>true
 | .agg cs=>FVs.flat cs
 | .lst ..| .Gw _=>false
def FVs.flat:List FV→Bool
 |[]=>true
 |c::cs=>FV.flat c&&FVs.flat cs
end
mutual
def PV.flat:PV→Bool
 | .p x=>x.flat
 | .agg cs=>AV.flat cs
 | .Fp cs=>AV.flat cs
 | .vec ..| .ref ..| .Dx ..| .mref _=>true
 | .clo _ fs cs=>AV.flat fs&&AV.flat cs
def AV.flat:List PV→Bool
 |[]=>true
 |c::cs=>PV.flat c&&AV.flat cs
end
def HB.flat:HB→Bool
 | .box _ cs=>AV.flat cs
 | .vec _ cs _ _=>FVs.flat cs
 | .map _=>false
 | .Fh ..=>false
def a3q:Heap→Bool
 |[]=>true
 |(_,x)::H=>x.flat&&a3q H
section
variable {m m':Mem} {F F':Nat→Prop} {T:Nat→Option Tg} {σ:Nat→Value} {n:Nat}
end
section
variable {E:Env} {L:Frame} {H:Heap} {nx:Nat} {Q:PV→Heap→Nat→Prop} {w:Bool}
variable {dst:Option Tmp} {ty:TypeId} {pos:String} {af:Array Edge} {gd:Option (Nat×Bool)}
end
end Go.Vm
namespace Go.Vm
open Go.Am
variable {E:Env} {L:Frame} {H:Heap} {nx:Nat} {Q:PV→Heap→Nat→Prop} {w:Bool}
variable {dst:Option Tmp} {ty:TypeId} {pos:String} {af:Array Edge} {gd:Option (Nat×Bool)}
theorem jk (σ:Nat→Value) (a:Nat):upd σ a (σ a)=σ:=by funext x;simp only [upd];split<;>simp_all
theorem AX.yJ (b:Nat) {n:Nat} {e:TypeId} {cs:List FV} {z:Bool} (hb:hget H b=some (.vec e cs n z)) (hn:0<n):AX E L H nx L (hput H b (.Fh e (cs.map .p) n)) nx:=fun B m F σ t h1 h2 h3=>by
 obtain ⟨_,hr⟩:=h1.hp b _ hb
 rcases hr with ⟨r1,r2,r3⟩|⟨c,g,vs,r1,r2,r3,r4,r5,r6,r7⟩
 ·omega
 have hT:htag (hput H b (.Fh e (cs.map .p) n))=htag H:=by
  funext d
  rw [Rx]
  by_cases e':b=d
  ·subst e';rw [if_pos rfl];simp [htag,hb,HB.tag]
  ·rw [if_neg e']
 obtain ⟨d1,d2⟩:=h1.change (m':=m) (b0:=b) (x':=.Fh e (cs.map .p) n) (s':=σ b) hb (Nat.le_refl _) (fun _=>rfl) (Nat.le_refl _) (fun _ _ _=>rfl) (fun _ h _ _=>h) (fun c hc=>.inl hc)
  ⟨c,g,vs,r1,r2,r3,r4,DR.YB r5,r6⟩
 rw [jk] at d1 d2
 exact ⟨F,σ,d1,h2.step d2 h1,h3.trans d2⟩
theorem AX.tH (b:Nat) {n:Nat} {e:TypeId} {ds:List PV} (cs:List FV) (hb:hget H b=some (.Fh e ds n)) (hn:0<n) (hd:ds=cs.map .p):AX E L H nx L (hput H b (.vec e cs n false)) nx:=fun B m F σ t h1 h2 h3=>by
 subst hd
 obtain ⟨_,c,g,vs,r1,r2,r3,r4,r5,r6⟩:=h1.hp b _ hb
 obtain ⟨d1,d2⟩:=h1.change (m':=m) (b0:=b) (x':=.vec e cs n false) (s':=σ b) hb (Nat.le_refl _) (fun _=>rfl) (Nat.le_refl _) (fun _ _ _=>rfl) (fun _ h _ _=>h) (fun c hc=>.inl hc)
  (.inr ⟨c,g,vs,r1,r2,r3,r4,DU.VN r5,r6,fun _=>rfl⟩)
 rw [jk] at d1 d2
 exact ⟨F,σ,d1,h2.step d2 h1,h3.trans d2⟩
theorem AX.ZY (a k:Nat) {b n n':Nat} {e e':TypeId} {cs:List FV} {ds:List PV} {z:Bool} (ha:hget H a=some (.Fh e' ds n')) (hk:ds[k]?=some (.vec b n 0 n)) (hb:hget H b=some (.vec e cs n z)) :
 AX E L H nx L (hput (hdel H b) a (.Fh e' (ds.set k (.p (.lst e cs n))) n')) nx:=fun B m F σ t h1 h2 h3=>by
 obtain ⟨c1,c2,c3⟩:=SX h1 hb
 have hne:b≠a:=fun e=>by subst e;rw [ha] at hb;cases hb
 have ha':hget (hdel H b) a=some (.Fh e' ds n'):=by rw [Ju,if_neg hne];exact ha
 obtain ⟨_,c,g,vs,r1,r2,r3,r4,r5,r6⟩:=c1.hp a _ ha'
 obtain ⟨_,c',g',vs',s1,s2,s3,s4,s5,s6⟩:=h1.hp a _ ha
 rw [s1] at r1;cases r1
 rw [s4] at r4;cases r4
 obtain ⟨u,hu1,hu2⟩:=s5.get hk
 have hcell:RP m (fun c=>F c∨Dv (σ b)=some c) (htag (hdel H b)) σ nx (.p (.lst e cs n)) u:=by
  cases hu2 with
  |vec hb' hc h=>exact .p (c3 _ ((h n (by simp [htag,hb,HB.tag])).2 rfl))
 obtain ⟨d1,d2⟩:=c1.change (m':=m) (b0:=a) (x':=.Fh e' (ds.set k (.p (.lst e cs n))) n') (s':=σ a) ha' (Nat.le_refl _) (fun _=>rfl) (Nat.le_refl _) (fun _ _ _=>rfl) (fun _ h _ _=>h) (fun c hc=>.inl hc) (by
  refine ⟨_,_,vs,s1,s2,r3,s4,?_,s6⟩
  have:vs=vs.set k u:=by
   apply List.ext_getElem?
   intro j
   rw [List.getElem?_set]
   by_cases e:k=j
   ·subst e
    rw [if_pos rfl,hu1]
    have:k<vs.length:=by
     rcases Nat.lt_or_ge k vs.length with h|h
     ·exact h
     ·rw [List.getElem?_eq_none h] at hu1;cases hu1
    rw [if_pos this]
   ·rw [if_neg e]
  rw [this]
  exact (r5.set k hcell).mono (fun d hd=>⟨hd,rfl⟩) (Fz (x':=.Fh e' (ds.set k (.p (.lst e cs n))) n') ha' (Nat.le_refl _) fun _=>rfl) (Nat.le_refl _))
 rw [jk] at d1 d2
 exact ⟨_,σ,d1,(h2.step c2 h1).step d2 c1,(h3.trans c2).trans d2⟩
theorem RJ {Γ:Nat→Option (List Value×TypeId)} {m:Mem} {F:Nat→Prop} {σ:Nat→Value} {t:Tr Value} {b tag off:Nat} {o:Operand} {e:TypeId} {cs:List PV} (hx:Ctx Γ m F σ H nx) (hl:RL m F (htag H) σ nx L t) (h:BG Γ L o=some (.Dx b tag off)) (hb:hget H b=some (.Fh e cs tag)) :
 ∃ c k g,ev t o=.pointer (some ⟨c,off,some g⟩)∧σ b=.slice (some ⟨c,0,none⟩) k g:=by
 have:=Cm hx hl h
 generalize ev t o=v at this
 cases this with
 |Dx h1 h2 h3 =>
  obtain ⟨_,h4⟩:=h3 tag (by simp [htag,hb,HB.tag])
  obtain ⟨c,k,g,h5,h6⟩:=h4 rfl
  exact ⟨c,k,g,h6,h5⟩
theorem uq {Γ:Nat→Option (List Value×TypeId)} {m:Mem} {F:Nat→Prop} {σ:Nat→Value} {t:Tr Value} {b tag off len:Nat} {o:Operand} {e:TypeId} {cs:List PV} (hx:Ctx Γ m F σ H nx) (hl:RL m F (htag H) σ nx L t) (h:BG Γ L o=some (.vec b tag off len)) (hb:hget H b=some (.Fh e cs tag)) :
 Ey (σ b) off len (ev t o):=by
 have:=Cm hx hl h
 generalize ev t o=v at this
 cases this with
 |vec h1 h2 h3=>exact (h3 tag (by simp [htag,hb,HB.tag])).2 rfl
theorem Aa.a1t {s:TypeId} {x:Operand} {f k b tag off:Nat} {e:TypeId} {cs:List PV} (hx:BG E.Γ L x=some (.Dx b tag off)) (hb:hget H b=some (.Fh e cs tag)) (hk:NM E.P s f=some k) (q:Q (.Dx b tag (off+k)) H nx) :
 Aa E w ⟨dst,.fieldAddr s x f,ty,pos,af,gd⟩ L H nx Q :=
 Aa.quiet q fun m F σ tt h1 h2=>by
  obtain ⟨c,k',g,h3,h4⟩:=RJ h1 h2 hx hb
  refine ⟨_,fun _=>KP (dst:=dst) (ty:=ty) (pos:=pos) (af:=af) (gd:=gd) hk h3,.Dx (h1.hp b _ hb).1 rfl fun n hn=>?_⟩
  simp only [htag,hb,HB.tag,Option.map_some,Option.some.injEq,Tg.vec.injEq] at hn
  exact ⟨by omega,fun _=>⟨c,k',g,h4,rfl⟩⟩
theorem Aa.a1j {t:TypeId} {x ix:Operand} {e:TypeId} {cs:List PV} {b tag sz:Nat} {k:IntKind} {i:Nat} (hx:BG E.Γ L x=some (.vec b tag 0 tag)) (hb:hget H b=some (.Fh e cs tag)) (hi:BG E.Γ L ix=some (.p (.int k (i:Int))))
 (hs:elemSize E.P t=some sz) (h1:i<tag) (q:Q (.Dx b tag (i*sz)) H nx):Aa E w ⟨dst,.indexAddr t x ix,ty,pos,af,gd⟩ L H nx Q :=
 Aa.quiet q fun m F σ tt c1 c2=>by
  obtain ⟨e',inf,h3,h4,h5⟩:=KG hs
  have hix:=Df c1 c2 hi
  have hsub:=uq c1 c2 hx hb
  obtain ⟨hlt,c,g,vs,r1,r2,r3,r4,r5,r6⟩:=c1.hp b _ hb
  rw [r1] at hsub
  simp only [Ey] at hsub
  have h0:(0:Int)≤(i:Int):=by omega
  have h1':(i:Int)<(tag:Int):=by omega
  refine ⟨.pointer (some ⟨c,i*sz,some g⟩),fun _=>by simp only [CZ,FI,h3,hsub,hix,h4,h0,h1',and_self,if_true,h5,Nat.zero_add,Int.toNat_natCast],.Dx hlt rfl fun n hn=>?_⟩
  simp only [htag,hb,HB.tag,Option.map_some,Option.some.injEq,Tg.vec.injEq] at hn
  exact ⟨by omega,fun _=>⟨c,tag,g,r1,rfl⟩⟩
theorem Aa.a4g {t:TypeId} {a:Operand} {b n off:Nat} {e:TypeId} {cs:List PV} {r:PV} (ha:BG E.Γ L a=some (.Dx b n off)) (hb:hget H b=some (.Fh e cs n)) (ht:FX E.P t=some false) (hc:cs[off]?=some r) (q:Q r H nx):Aa E w ⟨dst,.load t a,ty,pos,af,gd⟩ L H nx Q :=
 Aa.quiet q fun m F σ tt h1 h2=>by
  obtain ⟨c,k,g,h3,h4⟩:=RJ h1 h2 ha hb
  obtain ⟨_,c',g',vs,r1,r2,r3,r4,r5,r6⟩:=h1.hp b _ hb
  rw [h4] at r1
  cases r1
  obtain ⟨v,h5,h6⟩:=YL (P:=E.P) (t:=t) (a:=⟨c,off,some g⟩) (x:=r) r4 r2 rfl rfl (DR.drop off r5) (Il r6 _) (by
   simp only [bW,ht]
   rw [List.head?_drop]
   exact hc)
  exact ⟨v,fun _=>by simp only [CZ,FI,h3,h5,Option.map_some],h6⟩
theorem Aa.a2e {t:TypeId} {a x:Operand} {b tag off:Nat} {e:TypeId} {cs:List PV} {r:PV} {i:TypeInfo} (ha:BG E.Γ L a=some (.Dx b tag off)) (hx:BG E.Γ L x=some r) (hb:hget H b=some (.Fh e cs tag)) (hn:Pg r)
 (hi:E.P.info? t=some i) (hl:(Gx r).length=i.size) (h0:0<i.size) (hle:off+i.size≤cs.length) (q:Q (.Fp []) (hput H b (.Fh e (Ce cs off (Gx r)) tag)) nx):Aa E true ⟨dst,.store t a x,ty,pos,af,gd⟩ L H nx Q:=by
 intro m F σ tt h1 h2
 obtain ⟨c,k,g,h3,h4⟩:=RJ h1 h2 ha hb
 obtain ⟨h5,h6⟩:=JU hn (Cm h1 h2 hx)
 obtain ⟨hlt,c',g',vs,r1,r2,r3,r4,r5,r6⟩:=h1.hp b _ hb
 rw [h4] at r1
 cases r1
 have hlen:=h5.length
 have hlen2:=r5.length
 have hst:JZ E.P t ⟨c,off,some g⟩ (ev tt x) m=some (m.put c (.cells (splice vs off (ev tt x).cells.toList) e g false)):=by
  unfold JZ Fa
  rw [hi]
  simp only [r4]
  rw [if_pos (by simpa using hlen.symm.trans hl),if_pos]
  simp only [Jo,Option.getD_some,beq_self_eq_true,Bool.true_and,Bool.and_eq_true,decide_eq_true_eq]
  refine ⟨⟨?_,?_⟩,h6⟩
  ·rw [← hlen,hl,← hlen2];exact ⟨trivial,hle⟩
  ·rw [← hlen,hl];exact h0
 have hput':∀ d,c≠d→(m.put c (.cells (splice vs off (ev tt x).cells.toList) e g false)).get d=m.get d:=fun d hd=>by rw [Mem.get_put,if_neg hd]
 obtain ⟨c1,c2⟩:=h1.change (m':=m.put c (.cells (splice vs off (ev tt x).cells.toList) e g false)) (x':=.Fh e (Ce cs off (Gx r)) tag) (s':=σ b) hb (Nat.le_refl _) (fun _=>rfl) (Nat.le_refl _)
  (fun d _ hd=>hput' d fun e=>hd (by rw [h4,e];rfl)) (fun k k1 k2 k3=>by
   have:=k3 c (by rw [h4];rfl)
   simp only [Mem.put];omega) (fun d hd=>.inl hd) (by
   refine ⟨c,g,splice vs off (ev tt x).cells.toList,h4,r2,r3,by rw [Mem.get_put,if_pos rfl],?_,IL _ r6 h6⟩
   refine (DR.splice off r5 h5).mono (fun d hd=>⟨hd,hput' d fun e=>r3 (e▸hd)⟩) (Fz (x':=.Fh e (Ce cs off (Gx r)) tag) hb (Nat.le_refl _) fun _=>rfl) (Nat.le_refl _))
 refine Ip.op (v:=undef) (fun _=>?_) ⟨_,_,_,F,_,q,c1,.Fp .nil,c2,fun h=>by cases h⟩
 simp only [CZ,FI,h3,hst,Option.map_some]
end Go.Vm
namespace Go.Vm
open Go.Am
section
variable {E:Env} {L:Vm.Frame} {H:Vm.Heap} {nx:Nat} {Q:PV→Vm.Heap→Nat→Prop} {w:Bool} {dst:Option Tmp} {ty:TypeId} {pos:String} {af:Array Edge} {gd:Option (Nat×Bool)}
theorem Aa.WI {t:TypeId} {x:Operand} {f:Nat} {cs:List FV} {fs:Array Field} {fd:Field} {r:FV} (hx:BG E.Γ L x=some (.p (.agg cs))) (hu:E.P.underlying t=some (.struct fs)) (hf:fs[f]?=some fd) (h:Tq E.P fd.type (cs.drop fd.offset)=some r) (q:Q (.p r) H nx) :
 Aa E w ⟨dst,.field t x f,ty,pos,af,gd⟩ L H nx Q :=
 Aa.quiet q fun m F σ tt h1 h2=>by
  have hr:=Cm h1 h2 hx
  generalize hv:ev tt x=v at hr
  cases hr with
  |p hr =>
   cases hr with
   |agg hr hcc =>
    rename_i l
    have hd:=DU.drop fd.offset hr
    have key:∃ u,EG E.P (part fd.type l.toArray fd.offset)=some u∧RF m F r u:=by
     unfold Tq at h
     unfold part
     simp only [Ba,OD]
     cases ha:FX E.P fd.type with
     |none=>rw [ha] at h;cases h
     |some b =>
      rw [ha] at h
      cases b with
      |true =>
       simp only at h
       cases hi:E.P.info? fd.type with
       |none=>rw [hi] at h;cases h
       |some i =>
        rw [hi] at h
        simp only [Option.map_eq_some_iff] at h
        obtain ⟨l',h3,rfl⟩:=h
        obtain ⟨ws,h4,h5⟩:=ND hd h3
        simp only [Option.bind_some,if_true,Ba,Hl,hi,Option.map_some]
        have e:l.toArray.extract fd.offset (fd.offset+i.size)=((l.drop fd.offset).take i.size).toArray:=by
         apply Array.ext'
         rw [Array.toList_extract]
         simp [List.extract_eq_take_drop]
        unfold takeN at h4
        split at h4
        case isFalse=>cases h4
        cases h4
        exact ⟨_,rfl,by rw [e];exact .agg h5 (IZ (Il hcc _) _)⟩
      |false =>
       simp only [Option.bind_some,Bool.false_eq_true,if_false]
       simp only at h
       have h':cs[fd.offset]?=some r:=by rw [← h];simp
       obtain ⟨u,g1,g2⟩:=ZI hr h'
       simp only [List.getElem?_toArray,g1]
       exact ⟨u,rfl,g2⟩
    obtain ⟨u,k1,k2⟩:=key
    refine ⟨u,fun _=>?_,.p k2⟩
    have hd:EG E.P (Instr.field t (.agg l.toArray) f)=some u:=by
     unfold Instr.field
     simp only [Ba,BQ,hu,Option.bind_some,hf]
     rw [show EG E.P (asAgg (.agg l.toArray))=some l.toArray from rfl]
     exact k1
    simp only [CZ,FI,hv,hd,Option.map_some]
theorem AX.iR (a k:Nat) (e:TypeId) {e':TypeId} {ds:List PV} {n':Nat} (ha:hget H a=some (.Fh e' ds n')) (hk:ds[k]?=some (.p (.val (.slice none 0 0)))) :
 AX E L H nx L (hput ((nx,.vec e [] 0 true)::H) a (.Fh e' (ds.set k (.vec nx 0 0 0)) n')) (nx+1):=fun B m F σ t h1 h2 h3=>by
 obtain ⟨c1,c2⟩:=VX e h1
 have hlt:=(h1.hp a _ ha).1
 have ha':hget ((nx,HB.vec e [] 0 true)::H) a=some (.Fh e' ds n'):=by rw [BZ,if_neg (by omega)];exact ha
 obtain ⟨_,c,g,vs,r1,r2,r3,r4,r5,r6⟩:=c1.hp a _ ha'
 obtain ⟨u,hu1,hu2⟩:=r5.get hk
 have hu:u=Dk:=by cases hu2 with|p h=>cases h;rfl
 subst hu
 obtain ⟨d1,d2⟩:=c1.change (m':=m) (b0:=a) (x':=.Fh e' (ds.set k (.vec nx 0 0 0)) n') (s':=upd σ nx Dk a) ha' (Nat.le_refl _) (fun _=>rfl) (Nat.le_refl _) (fun _ _ _=>rfl) (fun _ h _ _=>h) (fun c hc=>.inl hc) (by
  refine ⟨c,g,vs,r1,r2,r3,r4,?_,r6⟩
  have:vs=vs.set k Dk:=by
   apply List.ext_getElem?
   intro j
   rw [List.getElem?_set]
   by_cases e:k=j
   ·subst e
    rw [if_pos rfl,hu1]
    have:k<vs.length:=by
     rcases Nat.lt_or_ge k vs.length with h|h
     ·exact h
     ·rw [List.getElem?_eq_none h] at hu1;cases hu1
    rw [if_pos this]
   ·rw [if_neg e]
  rw [this]
  exact (r5.set k (Ze e H nx)).mono (fun d hd=>⟨hd,rfl⟩) (Fz (x':=.Fh e' (ds.set k (.vec nx 0 0 0)) n') ha' (Nat.le_refl _) fun _=>rfl) (Nat.le_refl _))
 have hσ:upd (upd σ nx Dk) a (upd σ nx Dk a)=upd σ nx Dk:=by
  funext x
  by_cases e:x=a
  ·rw [e,upd_same]
  ·rw [CY _ _ e]
 rw [hσ] at d1 d2
 exact ⟨_,_,d1,(h2.step c2 h1).step d2 c1,(h3.trans c2).trans d2⟩
theorem AX.a4t (b:Nat) {n:Nat} {e:TypeId} {cs:List FV} (cs':List FV) {z:Bool} (hb:hget H b=some (.vec e cs n z)) (h:Bl cs cs'):AX E L H nx L (hput H b (.vec e cs' n z)) nx:=fun B m F σ t h1 h2 h3=>by
 have hr:=RB.le (Bq.vec (n:=n) (z:=z) (e:=e) h rfl) (h1.hp b _ hb).2
 obtain ⟨d1,d2⟩:=h1.change (m':=m) (b0:=b) (x':=.vec e cs' n z) (s':=σ b) hb (Uz.refl _) (fun _=>rfl) (Nat.le_refl _) (fun _ _ _=>rfl) (fun _ h _ _=>h) (fun c hc=>.inl hc) hr
 exact ⟨F,_,d1,h2.step d2 h1,h3.trans d2⟩
theorem Aa.dN {t t2:TypeId} {x y:Operand} {a b r:Bool} (hx:BG E.Γ L x=some (.p (.bool a))) (hy:BG E.Γ L y=some (.p (.bool b))) (ht:E.P.underlying t=some .bool) (hr:(a != b)=r) (q:Q (.p (.bool r)) H nx) :
 Aa E w ⟨dst,.binOp .neq t x y t2,ty,pos,af,gd⟩ L H nx Q:=Aa.neB hx hy ht (by rw [hr];exact q)
theorem Aa.mD {fo:Operand} {args:Array Operand} {aT:Array TypeId} {g:FuncId} {fs cs aa ac:List PV} {Hc:Heap} {Qc:PV→Heap→Nat→Prop} (ns:List Nat) (hc:BH E g ac Hc ns.length Qc)
 (hf:BG E.Γ L fo=some (.clo g fs cs)) (ha:evs E.Γ L args.toList=some aa) (hle:P9 (fs++aa++cs) (AV.rn (rho ns nx) ac)) (hu:AV.under ns.length ac) (zO:Oc ns.length Hc) (hin:HIn (rho ns nx) H Hc) (hnd:ns.Nodup) (hlt:∀ b∈ns,b<nx)
 (hq:∀ r H' nx',Qc r H' nx'→Q (r.rn (rho ns nx)) (news ns.length (rho ns nx) H' (merge ns (rho ns nx) H' H)) (nx+(nx'-ns.length))) :
 Aa E true ⟨dst,.call { callee:=.value fo,args:=args,argTypes:=aT },ty,pos,af,gd⟩ L H nx Q:=Aa.qH hf ha hle hu zO hin hnd hlt (fun h=>by cases h) hc hq
theorem AX.uN (d j:Nat) {b n k:Nat} {e:TypeId} {cs:List FV} {z:Bool} (hd:G9 L d=some (.vec b n 0 k)) (hb:hget H b=some (.vec e cs n z)) (hn:0<n) (hj:j≤cs.length) :
 AX E L H nx ((d,.p (.lst e (cs.take j) k))::L) (hdel H b) nx:=fun B m F σ t h1 h2 h3=>by
 obtain ⟨c1,c2⟩:=l7 h1 hb
 refine ⟨_,σ,c1,fun i v hi=>?_,h3.trans c2⟩
 rw [HY] at hi
 by_cases ei:d=i
 ·rw [if_pos ei] at hi;cases hi
  have:=h2 d _ hd
  subst ei
  generalize D9 t d=u at this
  cases this with
  |vec hb' hc h =>
   have hsub:=(h n (by simp [htag,hb,HB.tag])).2 rfl
   obtain ⟨_,hr⟩:=h1.hp b _ hb
   rcases hr with ⟨r1,r2,r3⟩|⟨c,g,vs,r1,r2,r3,r4,r5,r6,r7⟩
   ·omega
   ·rw [r1] at hsub
    simp only [Ey] at hsub
    subst hsub
    refine .p (.lst (.inr (by rw [r1];rfl)) r4 (ws:=vs.take j) ?_ ((DU.take j r5).mono fun d hd=>⟨.inl hd,rfl⟩) (IZ r6 _))
    have:=r5.length
    rw [List.drop_zero,List.length_take,Nat.min_eq_left hj]
    unfold takeN
    rw [if_pos (by omega)]
 ·rw [if_neg ei] at hi
  exact (h2 i v hi).step c2 h1
end
end Go.Vm
namespace Go.Tra
open Go Go.Am Go.Vm
theorem aN {ns:List Nat} {p:PN}:∀ {n:Nat},p∈KT ns n→p.d<n∧p.s<gi ns p.d
 |0,h=>by cases h
 |n+1,h=>by
  have e0:KT ns (n+1)=KT ns n++(List.range (gi ns n)).map fun s=>⟨n,s⟩:=rfl
  rw [e0,List.mem_append] at h
  rcases h with h|h
  ·have:=aN h;omega
  ·obtain ⟨s,h1,rfl⟩:=List.mem_map.1 h
   exact ⟨Nat.lt_succ_self _,List.mem_range.1 h1⟩
end Go.Tra
namespace Go.Proofs.YtdabojnmoejilaaGreatDoor
open Go Go.Am Go.Vm Go.Tra
attribute [local irreducible] Aa Ag Ak Ae BH AZ CW AO AL Az Vm.Done Di Bv
attribute [local irreducible] D8 DW Jp KJ SV Cb
structure ZU where
 EC:Int
 FN:Int
 Dn:Int
 miss:Int
instance:Enc ZU:={ default:=⟨0,0,0,0⟩,enc:=fun x=>[.int .i64 x.EC,.int .i64 x.FN,.int .i64 x.Dn,.int .i64 x.miss],size:=4,len:=fun _=>rfl }
structure Ri where
 BF:EY
 reg:Rgs
 tgt:EY
 DV:ZU
def Ri.enc (q:Ri):List FV:=[.str (bs q.BF.name),.lst 131 (cells q.BF.ranks) q.BF.ranks.length,.lst 97 (cells q.BF.Aw) q.BF.Aw.length,.lst 147 (cells q.BF.Gh) q.BF.Gh.length,
 .lst 39 (cells q.reg.stops) q.reg.stops.length,.int .u64 (q.reg.cp:Int),.int .u64 (q.reg.off:Int),.str (bs q.tgt.name),.lst 131 (cells q.tgt.ranks) q.tgt.ranks.length,.lst 97 (cells q.tgt.Aw) q.tgt.Aw.length,.lst 147 (cells q.tgt.Gh) q.tgt.Gh.length,
 .int .i64 q.DV.EC,.int .i64 q.DV.FN,.int .i64 q.DV.Dn,.int .i64 q.DV.miss]
instance:Enc Ri:={ default:=⟨default,default,default,default⟩,enc:=Ri.enc,size:=15,len:=fun _=>rfl }
def Qb (o:EY):List Nat:=o.Aw.map fun d=>d.stops.length
theorem Mc (o:EY):(Qb o).length=o.Aw.length:=by simp [Qb]
theorem Vu (o:EY) {d:Nat} (h:d<o.Aw.length):gi (Qb o) d=(gi o.Aw d).stops.length:=by
 simp [Qb,gi,List.getElem?_eq_getElem h]
def BI (o:EY):List PN:=KT (Qb o) (Qb o).length
def Hq (o:EY) (p:PN):Prop:=p.d<o.Aw.length∧p.s<(gi o.Aw p.d).stops.length
theorem bI {o:EY} {p:PN} (h:p∈BI o):Hq o p:=by
 obtain ⟨h1,h2⟩:=aN h
 rw [Mc] at h1
 rw [Vu o h1] at h2
 exact ⟨h1,h2⟩
theorem Y9 {α:Type} [Inhabited α] {l:List α} {i:Nat} (h:i<l.length):gi l i∈l:=by
 unfold gi;rw [List.getElem?_eq_getElem h];exact List.getElem_mem h
theorem Qj {o:EY} {i:Nat} (h:i<(BI o).length):Hq o (gi (BI o) i):=bI (Y9 h)
def Fe (o:EY) (p:PN):Stp:=gi (gi o.Aw p.d).stops p.s
def MQ (o:EY) (p:PN):List UInt8:=Xb o.ranks (Fe o p)
def F5 (r:Rgs) (p:PN):Bool:=gi r.stops p.d / 2 ^ p.s % 2==1
def Bc (o:EY) (r:Rgs):List PN:=(BI o).filter (F5 r)
theorem RY {o:EY} {r:Rgs} {p:PN} (h:p∈Bc o r):Hq o p:=bI (List.mem_filter.1 h).1
theorem X9 {rk:List FT} {lo hi:Int} {l:List Stp}:∀ (n k:Nat),l.length-k=n→MX rk lo hi l k=0→∀ i,k≤i→i<l.length→Jp rk lo hi (gi l i)=0
 |0,k,h,_,i,h1,h2=>by omega
 |n+1,k,h,h0,i,h1,h2=>by
  rw [MX,if_pos (by omega)] at h0
  split at h0
  ·rename_i h3;exact absurd h0 h3
  rename_i h3
  split at h0
  ·exact absurd h0 (by decide)
  rcases Nat.lt_or_ge k i with h4|h4
  ·exact X9 n (k+1) (by omega) h0 i h4 h2
  ·obtain rfl:k=i:=by omega
   exact Decidable.byContradiction fun h5=>h3 h5
theorem uF {rk:List FT} {d:Yl} (h:KJ rk d=0):∀ i,i<d.stops.length→Jp rk d.lo d.hi (gi d.stops i)=0:=by
 unfold KJ at h
 split at h
 ·rename_i h1;exact absurd h h1
 split at h
 ·exact absurd h (by decide)
 exact fun i hi=>X9 _ 0 rfl h i (Nat.zero_le _) hi
theorem Jl.dvs {o:EY} (h:Jl o):F9 o.ranks o.Aw 0=0:=by
 have h0:=h.err
 unfold KR at h0
 split at h0
 ·exact absurd h0 (by decide)
 split at h0
 ·exact absurd h0 (by decide)
 split at h0
 ·rename_i h1;exact absurd h0 h1
 split at h0
 ·exact absurd h0 (by decide)
 split at h0
 ·exact absurd h0 (by decide)
 split at h0
 ·rename_i h1;exact absurd h0 h1
 rename_i d3
 exact Decidable.byContradiction d3
theorem Jl.sto {o:EY} (h:Jl o) {p:PN} (hp:Hq o p):a3w o.ranks (Fe o p) :=
 a6p (uF (Sl _ 0 rfl h.dvs p.d (Nat.zero_le _) hp.1) p.s hp.2)
theorem P5 (o:EY) (ho:Jl o) (p:PN) (hp:Hq o p):AZ env 82 [.agg (Enc.enc o),.agg (Enc.enc p)] (.p (.agg (Enc.enc (Fe o p)))):=by
 obtain ⟨h1,h2⟩:=hp
 have d1:=ho.Aw
 have s1:=ho.stops p.d h1
 refine AZ.enter (AB (by decide)) Tryz.func82 rfl (by kernel_rfl) (by simp [Tryz.ntmps82]) ?_
 repeat' (first|apply Ae.AA|apply Ae.BA|apply Ae.ret|apply Ag.nil|apply Ak.nil|apply Ag.one|(apply Ak.bar;decide +kernel)|apply Ak.quiet|(apply Aa.AU (l:=o.Aw) (i:=p.d);rfl;rfl;rfl;exact h1;rfl)|(apply Aa.AU (l:=(gi o.Aw p.d).stops) (i:=p.s);rfl;rfl;rfl;exact h2;rfl)|(apply Aa.load;rfl;rfl)|(apply Aa.AP;rfl;rfl;rfl)|(apply Aa.DC;rfl;rfl)|(apply Aa.box;rfl;trivial)|(apply Aa.alloc;rfl)|(apply Aa.Bj;rfl;rfl;rfl;trivial;rfl;rfl;exact Ac rfl;exact le_dec rfl))
 all_goals first|(exfalso;omega)|(refine Done.ret rfl (.refl _) (by first|exact trivial|exact ⟨trivial,trivial,trivial⟩|exact ⟨trivial,trivial,trivial,trivial⟩) Aj.nil (Nat.zero_le _) (Nat.le_refl _) ⟨?_,rfl,rfl⟩;try rfl)
theorem WV (o:EY) (ho:Jl o) (p:PN) (hp:Hq o p):AZ env 54 [.agg (Enc.enc o),.agg (Enc.enc p)] (st (MQ o p)):=by
 have hst:=P5 o ho p hp
 obtain ⟨g1,g2⟩:=ho.sto hp
 unfold MQ
 generalize Fe o p=s at *
 have b1:=ho.sm.ranks
 refine AZ.enter (AB (by decide)) Tryz.func54 rfl (by kernel_rfl) (by simp [Tryz.ntmps54]) ?_
 repeat' (first|apply Ae.assoc|apply Ae.AA|apply Ae.Ai|apply Ag.nil|apply Ag.one|(apply Aa.fn;rfl;rfl;exact hst;intro _;rfl)|(apply Aa.WI;rfl;rfl;rfl;rfl)|(apply Aa.assign;rfl)|(apply Aa.move;rfl)|(apply Aa.load;rfl;rfl)|(apply Aa.BL;rfl;rfl)|(apply Aa.box;rfl;trivial))
 all_goals try (exfalso;omega)
 apply Ae.GY (s.Ez.length) (fun k=>QT o.ranks s s.Ez.length (s.Ez.length-k)=Xb o.ranks s) [(2,_),(10,_),(11,_)] [(0,_)] (fun k r=>(12,.p (.int .i64 (k:Int)))::r) (fun k r=>r) 2
 ·first|omega|decide
 ·first|omega|decide
 ·repeat (first|exact Ad.nil|(refine Ad.eq rfl ?_ ?_;(first|exact PV.Ap rfl|(simp [PV.under,AV.under];done)))|refine Ad.cons trivial rfl (.of_eq (Au (by simp<;>omega))) ?_)
 ·repeat (first|exact Aj.nil|(refine Aj.eq rfl (Ac rfl) ?_ ?_;(first|exact HB.Ap rfl|exact AV.Ah _ _|(simp [HB.under,AV.under,PV.under];done)))|(refine Aj.cons (Ac rfl) ?_ rfl ?_ ?_;(first|exact trivial|exact AV.Ah _ _|(simp [HB.under,AV.under,PV.under]));(first|exact Bq.refl _|exact Bq.vec (Bl.refl _) (by simp))))
 ·first|(intro _ _;omega)|omega|trivial
 ·intro k hk hi
  obtain ⟨g3,g4⟩:=g2 k hk
  by_cases h0:(gi s.Ez k).draws.length=0
  ·repeat' (first|apply Ae.AA|apply Ae.region|apply Ae.Aq|apply Ae.Ai|apply AO.normal|apply AL.normal|apply Ae.skip|apply Ag.nil|apply Ag.one|(apply Aa.move;rfl)|(apply Aa.Bz;rfl;rfl;omega)|(apply Aa.int;rfl;rfl;rfl)|(apply Aa.AU;rfl;rfl;rfl;omega;rfl)|(apply Aa.load;rfl;rfl)|(apply Aa.BL;rfl;rfl)|(apply Aa.AP;rfl;rfl;rfl)|(apply Aa.alloc;rfl)|(apply Aa.Bj;rfl;rfl;rfl;trivial;rfl;rfl;exact Ac rfl;exact le_dec rfl)|(apply Ae.Af;rfl)|(apply Ae.AY;rfl)|(intro _;try (exfalso;omega)))
   all_goals try (exfalso;omega)
   refine Az.normal ⟨((Xc hk h0).symm.trans hi),by first|omega|decide,?_,?_⟩
   ·repeat (first|exact Ad.nil|refine Ad.same trivial rfl ?_|refine Ad.same (Ac rfl) rfl ?_|refine Ad.same ⟨trivial,Ac rfl,trivial⟩ rfl ?_|refine Ad.same ⟨trivial,Ac rfl,Ac rfl,trivial⟩ rfl ?_|refine Ad.same ⟨trivial,Ac rfl,Ac rfl,Ac rfl,trivial⟩ rfl ?_|refine Ad.same ⟨trivial,Ac rfl,Ac rfl,Ac rfl,Ac rfl,trivial⟩ rfl ?_|refine Ad.same ⟨trivial,trivial⟩ rfl ?_|refine Ad.cons trivial rfl (.of_eq (Au (by simp<;>omega))) ?_)
   ·repeat (first|exact Aj.nil|(refine Aj.cons (Ac rfl) ?_ rfl ?_ ?_;(first|exact HB.Ap rfl|exact AV.Ah _ _|(simp [HB.under,AV.under,PV.under]));(first|exact Bq.refl _|exact Bq.vec (Bl.refl _) (by simp))))
  ·have g5:=g4 0 (by omega)
   obtain ⟨rn,hrn⟩:∃ rn:Nat,(gi (gi s.Ez k).draws 0).rank=rn:=⟨_,(Int.toNat_of_nonneg g5.1).symm⟩
   have h1:Xb o.ranks s=(gi o.ranks rn).EC:=by
    rw [← hi,YJ hk (by omega),hrn];rfl
   rw [h1]
   repeat' (first|apply Ae.AA|apply Ae.BA|apply Ae.Aq|apply Ae.Ai|apply AO.ret|apply AL.ret|apply Az.ret|apply Ae.ret|apply Ag.nil|apply Ak.nil|apply Ag.one|(apply Ak.bar;decide +kernel)|apply Ak.quiet|(apply Aa.AU (l:=o.ranks) (i:=rn);rfl;(first|exact congrArg (fun a=>some (PV.p (.int .i64 a))) hrn|rfl);rfl;omega;rfl)|(apply Aa.assign;rfl)|(apply Aa.int;rfl;rfl;rfl)|(apply Aa.AU;rfl;rfl;rfl;omega;rfl)|(apply Aa.Xh;rfl;rfl;rfl;omega;omega;rfl)|(apply Aa.load;rfl;rfl)|(apply Aa.BL;rfl;rfl)|(apply Aa.AP;rfl;rfl;rfl)|(apply Aa.DC;rfl;rfl)|(apply Aa.alloc;rfl)|(apply Aa.Bj;rfl;rfl;rfl;trivial;rfl;rfl;exact Ac rfl;exact le_dec rfl)|(apply Ae.Af;rfl)|(apply Ae.AY;rfl)|(intro _;try (exfalso;omega)))
   all_goals first|(exfalso;omega)|(refine Done.ret rfl (.refl _) (by first|exact trivial|exact ⟨trivial,trivial,trivial⟩|exact ⟨trivial,trivial,trivial,trivial⟩) Aj.nil (Nat.zero_le _) (Nat.le_refl _) ⟨?_,rfl,rfl⟩;try rfl)
 ·intro hi
  have h1:Xb o.ranks s=[]:=by rw [← hi,Nat.sub_self];rfl
  rw [h1]
  repeat' (first|apply Ae.AA|apply Ae.A8|apply AO.normal|apply AL.exit|apply Az.exit|apply Ae.ret|apply Ag.nil|apply Ag.one|(apply Aa.assign;rfl)|(apply Aa.int;rfl;rfl;rfl)|(apply Ae.Af;rfl)|(intro _;try (exfalso;omega)))
  all_goals first|(exfalso;omega)|(refine Done.ret rfl (.refl _) (by first|exact trivial|exact ⟨trivial,trivial,trivial⟩|exact ⟨trivial,trivial,trivial,trivial⟩) Aj.nil (Nat.zero_le _) (Nat.le_refl _) ⟨?_,rfl,rfl⟩;try rfl)
end Go.Proofs.YtdabojnmoejilaaGreatDoor
namespace Go.Vm
open Go.Am
variable {E:Env} {L:Frame} {H:Heap} {nx:Nat} {Q:PV→Heap→Nat→Prop} {w:Bool}
variable {dst:Option Tmp} {ty:TypeId} {pos:String} {af:Array Edge} {gd:Option (Nat×Bool)}
theorem Aa.ZA {t:TypeId} {x:Operand} {lo hi:Option Operand} {e:TypeId} {cs:List FV} {b n off len a c sz:Nat} {z:Bool} {inf:TypeInfo} (hx:BG E.Γ L x=some (.vec b n off len)) (hb:hget H b=some (.vec e cs n z)) (hn:0<n) (ht:E.P.underlying t=some (.slice e)) (hi':E.P.info? e=some inf) (hsz:inf.size=sz)
 (hlo:match lo with|none=>a=0|some o=>∃ k,BG E.Γ L o=some (.p (.int k (a:Int)))) (hhi:match hi with|none=>c=len|some o=>∃ k,BG E.Γ L o=some (.p (.int k (c:Int)))) (hac:a≤c) (hcl:c≤len)
 (q:Q (.vec b n (off+a*sz) (c-a)) H nx):Aa E w ⟨dst,.slice t x lo hi none,ty,pos,af,gd⟩ L H nx Q :=
 Aa.quiet q fun m F σ tt h1 h2=>by
  have sH:bnd 0 (lo.map (ev tt))=some a:=by
   cases lo with
   |none=>simp only at hlo;rw [hlo];rfl
   |some o =>
    obtain ⟨k,hk⟩:=hlo
    simp only [Option.map_some,Df h1 h2 hk,bnd]
    rw [if_pos (by omega)];simp
  have wS:bnd len (hi.map (ev tt))=some c:=by
   cases hi with
   |none=>simp only at hhi;rw [hhi];rfl
   |some o =>
    obtain ⟨k,hk⟩:=hhi
    simp only [Option.map_some,Df h1 h2 hk,bnd]
    rw [if_pos (by omega)];simp
  have hsub:=GU h1 h2 hx hb
  obtain ⟨hlt,hr⟩:=h1.hp b _ hb
  rcases hr with ⟨r1,r2,r3⟩|⟨d,g,vs,r1,r2,r3,r4,r5,r6,r7⟩
  ·omega
  rw [r1] at hsub
  simp only [Ey] at hsub
  refine ⟨.slice (some ⟨d,off+a*sz,none⟩) (c-a) g,fun _=>?_,.vec hlt rfl fun j hj=>?_⟩
  ·simp only [CZ,FI,hsub,aslice,Option.isSome_none,Option.map_none,Bool.false_and,Bool.false_eq_true,if_false,ht,hi',sH,wS,r4,hac,hcl,r2,and_self,if_true,Option.map_some,hsz]
  ·simp only [htag,hb,HB.tag,Option.map_some,Option.some.injEq,Tg.vec.injEq] at hj
   refine ⟨by omega,fun _=>?_⟩
   rw [r1];rfl
theorem Yv {m:Mem} {F:Nat→Prop} {σ:Nat→Value} {b n off c g:Nat} {e:TypeId} {cs fs:List FV} {vs l:List Value} {z:Bool} (h1:Ctx E.Γ m F σ H nx) (hb:hget H b=some (.vec e cs n z)) (hn:0<n) (h4:σ b=.slice (some ⟨c,0,none⟩) n g) (r2:c<m.size) (r3:¬ F c) (r4:m.get c=.cells vs e g false) (r5:DU m F cs vs) (r6:vs.all BX=true)
 (hl:DU m F fs l) (hc:l.all BX=true) :
 Ctx E.Γ (m.put c (.cells (splice vs off l) e g false)) F (upd σ b (σ b)) (hput H b (.vec e (Ce cs off fs) n z)) nx∧Step m F σ H nx (m.put c (.cells (splice vs off l) e g false)) F (upd σ b (σ b)) (hput H b (.vec e (Ce cs off fs) n z)) nx:=by
 have hput':∀ d,c≠d→(m.put c (.cells (splice vs off l) e g false)).get d=m.get d:=fun d hd=>by rw [Mem.get_put,if_neg hd]
 exact h1.change (m':=m.put c (.cells (splice vs off l) e g false)) (x':=.vec e (Ce cs off fs) n z) (s':=σ b) hb (Nat.le_refl _) (fun _=>rfl) (Nat.le_refl _)
  (fun d _ hd=>hput' d fun e=>hd (by rw [h4,e];rfl)) (fun k k1 k2 k3=>by
   have:=k3 c (by rw [h4];rfl)
   simp only [Mem.put];omega) (fun d hd=>.inl hd) (by
   refine .inr ⟨c,g,splice vs off l,h4,r2,r3,by rw [Mem.get_put,if_pos rfl],?_,IL _ r6 hc,fun h=>by omega⟩
   exact (DU.splice off r5 hl).mono (fun d hd=>⟨hd,hput' d fun e=>r3 (e▸hd)⟩))
def SlT (Γ:Nat→Option (List Value×TypeId)) (L:Frame) (H:Heap) (nx:Nat) (x:Operand) (sz n:Nat) (xs:List FV) (k:Nat):Prop :=
 ∀ m F σ t,Ctx Γ m F σ H nx→RL m F (htag H) σ nx L t→lenOf (ev t x)=some n∧∃ l,Cj m sz k (ev t x)=some l∧DU m F xs l∧l.all BX=true
theorem SlT.lst {Γ:Nat→Option (List Value×TypeId)} {x:Operand} {e:TypeId} {sz n k:Nat} {xs ys:List FV} (h:BG Γ L x=some (.p (.lst e xs n))) (hl:xs.length=n*sz) (hk:k≤n) (hy:ys=xs.take (k*sz)):SlT Γ L H nx x sz n ys k:=fun m F σ t h1 h2=>by
 subst hy
 have:=Cm h1 h2 h
 generalize ev t x=v at this
 cases this with
 |p h =>
  cases h with
  |nil=>obtain rfl:k=0:=by omega
        exact ⟨rfl,[],rfl,by rw [Nat.zero_mul,List.take_zero];exact .nil,rfl⟩
  |room=>obtain rfl:k=0:=by omega
         exact ⟨rfl,[],rfl,by rw [Nat.zero_mul,List.take_zero];exact .nil,rfl⟩
  |lst hF hm hw hr hc =>
   rename_i b o g vs ws ro
   refine ⟨rfl,ws.take (k*sz),?_,DU.take _ hr,IZ hc _⟩
   have h3:=Xg (k:=k*sz) hw
   rw [hl,Nat.min_eq_left (Nat.mul_le_mul_right sz hk)] at h3
   simp only [Cj,if_pos hk,Mem.D5,hm]
   simp only [Jo,Option.getD_some,if_true]
   exact h3
theorem SlT.vec {Γ:Nat→Option (List Value×TypeId)} {x:Operand} {b n off len sz k:Nat} {e:TypeId} {cs ys:List FV} {z:Bool} (h:BG Γ L x=some (.vec b n off len)) (hb:hget H b=some (.vec e cs n z)) (hn:0<n) (hl:off+len*sz≤cs.length) (hk:k≤len) (hy:ys=(cs.drop off).take (k*sz)) :
 SlT Γ L H nx x sz len ys k:=fun m F σ t h1 h2=>by
 subst hy
 have hsub:=GU h1 h2 h hb
 obtain ⟨_,hr⟩:=h1.hp b _ hb
 rcases hr with ⟨r1,r2,r3⟩|⟨c,g,vs,r1,r2,r3,r4,r5,r6,r7⟩
 ·omega
 ·rw [r1] at hsub
  simp only [Ey] at hsub
  rw [hsub]
  have hlen:=r5.length
  have h0:=Nat.mul_le_mul_right sz hk
  have hle:k*sz≤(vs.drop off).length:=by rw [List.length_drop];omega
  refine ⟨rfl,(vs.drop off).take (k*sz),?_,DU.take _ (DU.drop off r5),IZ (Il r6 _) _⟩
  simp only [Cj,if_pos hk,Mem.D5,r4]
  simp only [Jo,Option.getD_some,if_true,takeN,if_pos hle]
theorem Aa.copy {d x:Operand} {dT xT e:TypeId} {i:TypeInfo} {b n off len k N:Nat} {cs xs:List FV} {z:Bool} (hd:BG E.Γ L d=some (.vec b n off len)) (hb:hget H b=some (.vec e cs n z)) (hn:0<n)
 (hdT:E.P.underlying dT=some (.slice e)) (hi:E.P.info? e=some i) (hsz:0<i.size) (hx:SlT E.Γ L H nx x i.size N xs k) (hk:k=min N len) (h0:0<k) (hxs:xs.length=k*i.size) (hl:off+k*i.size≤cs.length) (q:Q (.p (.int .i64 (k:Int))) (hput H b (.vec e (Ce cs off xs) n z)) nx) :
 Aa E true ⟨dst,.call { callee:=.builtin .copy,args:=#[d,x],argTypes:=#[dT,xT] },ty,pos,af,gd⟩ L H nx Q:=by
 intro m F σ t h1 h2
 have hsub:=GU h1 h2 hd hb
 obtain ⟨hx1,l,hx2,hx3,hx4⟩:=hx m F σ t h1 h2
 obtain ⟨hlt,hr⟩:=h1.hp b _ hb
 rcases hr with ⟨r1,r2,r3⟩|⟨c,g,vs,r1,r2,r3,r4,r5,r6,r7⟩
 ·omega
 rw [r1] at hsub
 simp only [Ey] at hsub
 have hlen:=hx3.length
 have hlen2:=r5.length
 obtain ⟨d1,d2⟩:=Yv (E:=E) (off:=off) h1 hb hn r1 r2 r3 r4 r5 r6 hx3 hx4
 refine Ip.op (v:=.int .i64 (k:Int)) (m':=m.put c (.cells (splice vs off l) e g false)) (fun _=>?_) ⟨_,_,_,F,_,q,d1,.p (.int _ _),d2,fun h=>by cases h⟩
 have hk2:(k:Nat)=Nat.min N len:=hk
 have hp:=Nat.mul_pos h0 hsz
 simp only [CZ,FI,XV,List.map_toArray,List.map_cons,List.map_nil,List.getElem?_toArray,List.getElem?_cons_zero,List.getElem?_cons_succ,hsub,hdT,hx1,hi]
 rw [← hk2,if_neg (by omega),hx2]
 simp only [Fa,r4,Jo,Option.getD_some,beq_self_eq_true,Bool.true_and]
 rw [if_pos (by simp only [Bool.and_eq_true,decide_eq_true_eq];exact ⟨⟨by rw [← hlen,hxs,← hlen2];exact ⟨trivial,hl⟩,by rw [← hlen,hxs];exact hp⟩,hx4⟩)]
 rfl
theorem Aa.clear {d:Operand} {dT e:TypeId} {i:TypeInfo} {b n off len:Nat} {cs:List FV} {z:Bool} {zs:List Value} (hd:BG E.Γ L d=some (.vec b n off len)) (hb:hget H b=some (.vec e cs n z)) (hn:0<n) (h0:0<len)
 (hdT:E.P.underlying dT=some (.slice e)) (hi:E.P.info? e=some i) (hz:CB E.P e=some zs) (hzl:zs.length=i.size∧0<i.size) (hl:off+len*i.size≤cs.length) (q:Q (.Fp []) (hput H b (.vec e (Ce cs off ((Bd zs len).map F7)) n z)) nx) :
 Aa E true ⟨none,.call { callee:=.builtin .clear,args:=#[d],argTypes:=#[dT] },ty,pos,af,gd⟩ L H nx Q:=by
 intro m F σ t h1 h2
 have hsub:=GU h1 h2 hd hb
 obtain ⟨hlt,hr⟩:=h1.hp b _ hb
 rcases hr with ⟨r1,r2,r3⟩|⟨c,g,vs,r1,r2,r3,r4,r5,r6,r7⟩
 ·omega
 rw [r1] at hsub
 simp only [Ey] at hsub
 have hpl:zs.all Am.plainCell=true:=by
  obtain ⟨_,zv,_,_,_,h⟩:=BN hz
  exact h
 have hx3:DU m F ((Bd zs len).map F7) (Bd zs len):=Ht (Iw hpl len)
 have hx4:(Bd zs len).all BX=true:=Dw (Iw hpl len)
 have hlen2:=r5.length
 have hrl:=Ej zs len
 rw [hzl.1] at hrl
 obtain ⟨d1,d2⟩:=Yv (E:=E) (off:=off) h1 hb hn r1 r2 r3 r4 r5 r6 hx3 hx4
 refine Ip.op (v:=.tuple #[]) (m':=m.put c (.cells (splice vs off (Bd zs len)) e g false)) (fun _=>?_) ⟨_,_,_,F,_,q,d1,.Fp .nil,d2,fun h=>by cases h⟩
 have hp:=Nat.mul_pos h0 hzl.2
 simp only [CZ,FI,SQ,List.map_toArray,List.map_cons,List.map_nil,List.getElem?_toArray,List.getElem?_cons_zero,hsub,hdT,hi,hz]
 rw [if_neg (by omega),if_pos hzl]
 simp only [Fa,r4,Jo,Option.getD_some,beq_self_eq_true,Bool.true_and]
 rw [if_pos (by simp only [Bool.and_eq_true,decide_eq_true_eq];exact ⟨⟨by rw [hrl,← hlen2];exact ⟨trivial,hl⟩,by rw [hrl];exact hp⟩,hx4⟩)]
 rfl
def Oo:Code→Option Nat
 | .region n _ _=>some n
 | .seq a b=>match Oo a with
  |some n=>some n
  |none=>Oo b
 | .block _ b=>Oo b
 | .loop b=>Oo b
 | .scope b=>Oo b
 |_=>none
def KO (r:Nat):Code→Option Code
 | .loop b=>match Oo b with
  |some n=>match Nat.beq n r with
   |true=>some (.loop b)
   |false=>KO r b
  |none=>KO r b
 | .seq a b=>match KO r a with
  |some c=>some c
  |none=>KO r b
 | .cond _ a b=>match KO r a with
  |some c=>some c
  |none=>KO r b
 | .block _ b=>KO r b
 | .scope b=>KO r b
 | .rangeFunc _ _ _ b=>KO r b
 |_=>none
def Zc (fn:Func) (r:Nat):Code:=match fn.body with
 |some c=>match KO r c with
  |some c=>c
  |none=>.skip
 |none=>.skip
theorem Ae.blk {bn:Nat} {Q:CO→Frame→Heap→Nat→Prop} {c:Code} {Li Lo:Frame} {Hi Ho:Heap} {D6:Nat} {e0:CO} (h:Ae E bn c Li Hi D6 (fun e L' H' nx'=>e=e0∧Xe L' H' nx' Lo Ho D6)) (hb:bn≤D6) (hn:D6≤nx) (h1:Ad D6 Li L) (h2:Aj D6 Hi H) (q:Q e0 Lo Ho D6):Ae E bn c L H nx Q:=by
 refine Ae.weaken hb ⟨hn,h1,h2⟩ ?_
 intro B hB m F σ t h1 h2 h3
 refine (h B hB m F σ t h1 h2 h3).mono ?_
 rintro e s ⟨L',H',nx',F',σ',⟨rfl,hcov⟩,c1,c2,c3⟩
 exact ⟨Lo,Ho,D6,F',σ',q,hcov.ctx c1,hcov.rl c2,hcov.step (by omega) c3⟩
theorem Wh {α:Type}:∀ (r cs:List α) (o:Nat),o+r.length≤cs.length→Ce cs o r=cs.take o++r++cs.drop (o+r.length)
 |[],cs,o,h=>by simp [Ce]
 |a::r,cs,o,h=>by
  simp only [List.length_cons] at h
  have ih:=Wh r (cs.set o a) (o+1) (by simp;omega)
  simp only [Ce]
  rw [ih]
  have e1:(cs.set o a).take (o+1)=cs.take o++[a]:=by
   rw [List.take_succ_eq_append_getElem (by simp;omega)]
   rw [List.take_set_of_le (by omega)]
   simp
  have e2:(cs.set o a).drop (o+1+r.length)=cs.drop (o+(r.length+1)):=by
   rw [List.drop_set_of_lt (by omega)]
   congr 1
   omega
  rw [e1,e2]
  simp [Nat.add_assoc]
theorem QM {α:Type} [Enc α] (l r:List α) (i:Nat) (h:i+r.length≤l.length):Ce (cells l) (i*Enc.size α) (cells r)=cells (l.take i++r++l.drop (i+r.length)):=by
 rw [Wh _ _ _ (by rw [BR,BR,← Nat.add_mul];exact Nat.mul_le_mul_right _ h),BR,← Nat.add_mul,JJ,cells_drop',← Fv,← Fv]
end Go.Vm
namespace Go.Proofs.YtdabojnmoejilaaGreatDoor
open Go Go.Am Go.Vm Go.Tra
attribute [local irreducible] Aa Ag Ak Ae BH AZ CW AO AL Az Vm.Done Di Bv
attribute [local irreducible] D8 DW Jp KJ SV Cb
theorem wH {m:Mem} {F:Nat→Prop} {l:List Yl} {vs ws:List Value} {off:Nat} (hw:takeN (cells l).length (vs.drop off)=some ws) (hr:DU m F (cells l) ws) (hs:∀ d,d<l.length→(gi l d).stops.length<1000000):∀ n,n≤l.length→Tm vs off n=some ((l.take n).map fun d=>d.stops.length)
 |0,_=>rfl
 |n+1,hn=>by
  have ih:=wH hw hr hs n (by omega)
  have hd:=DU.drop (n*Enc.size Yl) hr
  rw [MB l n (by omega)] at hd
  have hlen:=hr.length
  have e5:Enc.size Yl=5:=rfl
  rw [e5] at hd
  have hws:∀ j,j<5→vs[off+n*5+j]?=(ws.drop (n*5))[j]?:=fun j hj=>by
   unfold takeN at hw
   split at hw
   case isFalse=>cases hw
   cases hw
   rw [List.getElem?_drop,List.getElem?_take,if_pos (by rw [BR,e5];omega),List.getElem?_drop]
   congr 1;omega
  generalize ws.drop (n*5)=us at hd hws
  have hn9:=hs n (by omega)
  have ee:Enc.enc (gi l n)=[.str (bs (gi l n).name),.bool (gi l n).Dn,.int .i64 (gi l n).lo,.int .i64 (gi l n).hi,.lst 122 (cells (gi l n).stops) (gi l n).stops.length]:=rfl
  rw [ee] at hd
  cases hd with|cons a0 t =>
  cases t with|cons a1 t =>
  cases t with|cons a2 t =>
  cases t with|cons a3 t =>
  cases t with|cons a4 t =>
  cases a0;cases a1;cases a2;cases a3
  have h0:=hws 0 (by omega)
  have h1:=hws 1 (by omega)
  have h2:=hws 2 (by omega)
  have h3:=hws 3 (by omega)
  have h4:=hws 4 (by omega)
  rw [Nat.add_zero] at h0
  simp only [List.getElem?_cons_zero,List.getElem?_cons_succ] at h0 h1 h2 h3 h4
  unfold Tm
  rw [ih,DL (by omega),List.map_append]
  simp only [h0,h1,h2,h3,h4]
  generalize hq:(gi l n).stops.length=q at a4 hn9
  generalize cells (gi l n).stops=cc at a4
  cases a4<;>simp [hn9,hq]
theorem Wy {o:EY} (ho:Jl o) {e:TypeId}:zW env 81 Tryz.f81 (Enc.enc o) e (FC (Qb o)):=by
 intro Fo hFo m F c vs hc hr hF
 have hFo:fE 81=some Fo:=hFo
 rw [S9] at hFo
 cases hFo
 have d1:=ho.Aw
 have ee:Enc.enc o=[.str (bs o.name),.lst 131 (cells o.ranks) o.ranks.length,.lst 97 (cells o.Aw) o.Aw.length,.lst 147 (cells o.Gh) o.Gh.length]:=rfl
 rw [ee] at hr
 cases hr with|cons a0 t =>
 cases t with|cons a1 t =>
 cases t with|cons a2 t =>
 cases t with|cons a3 t =>
 cases t
 rename_i v0 v1 v2 v3
 have hdl:(cells o.Aw).length=o.Aw.length*5:=BR _
 have hsl:∀ d,d<o.Aw.length→(gi o.Aw d).stops.length<1000000:=fun d hd=>by have:=ho.stops d hd;omega
 generalize hn:o.Aw.length=n at a2
 generalize hcs:cells o.Aw=cs at a2
 cases a2 with
 |nil=>omega
 |room=>omega
 |lst hF2 hm2 hw hr2 hc2 =>
  rename_i b off g us ws ro
  subst hn;subst hcs
  refine ⟨Pv (.slice (some ⟨b,off,none⟩) o.Aw.length g) (Qb o),fun m' F' σ' H' nx' hsame bZ=>⟨m',?_⟩⟩
  rw [Tryz.ntmps81]
  refine vC (kr:=(Pv (.slice (some ⟨b,off,none⟩) o.Aw.length g) (Qb o),FC (Qb o))) (xC bZ) ?_
  have q1:=(hsame c hF).trans hc
  have q2:=(hsame b hF2).trans hm2
  have q3:=wH hw hr2 hsl _ (Nat.le_refl _)
  rw [List.take_of_length_le (Nat.le_refl _)] at q3
  unfold Qx
  simp only [q1,q2]
  rw [if_pos ⟨by omega,by omega,trivial⟩,q3]
  rfl
theorem Yn:env.O 81=some (TV (BO Tryz.prog 8 EJ) (CX Tryz.prog 8 EJ) 28 Qx):=S9
theorem Wp (o:EY):(BI o).length=KF (Qb o) (Qb o).length:=rfl
theorem Yk (o:EY):FC (Qb o)=(List.range (BI o).length).map fun k=>Vj (gi (BI o) k):=rfl
theorem PY {ns:List Nat} {K:Nat} (h:∀ d,d<ns.length→gi ns d≤K):∀ n,n≤ns.length→KF ns n≤n*K
 |0,_=>Nat.zero_le _
 |n+1,hn=>by
  have ih:=PY h n (by omega)
  have:=h n (by omega)
  rw [Jw,Nat.succ_mul]
  omega
theorem ER {o:EY} (ho:Jl o):(BI o).length≤480:=by
 have h:=PY (ns:=Qb o) (K:=60) (fun d hd=>by rw [Mc] at hd;rw [Vu o hd];exact ho.stops d hd) (Qb o).length (Nat.le_refl _)
 rw [Wp]
 have:=ho.Aw
 rw [Mc] at h ⊢
 omega
theorem UO {L:Vm.Frame} {H:Vm.Heap} {nx:Nat} {Q:PV→Vm.Heap→Nat→Prop} {dst:Option Tmp} {ty:TypeId} {pos:String} {af:Array Edge} {gd:Option (Nat×Bool)} {fo:Operand} {args:Array Operand} {aT:Array TypeId} {fs cs xs:List PV} {c:Code}
 (hf:BG env.Γ L fo=some (.clo 53 fs cs)) (ha:evs env.Γ L args.toList=some xs) (hb:Tryz.f53.body=some c) (hn:(fs++xs++cs).length≤Tryz.f53.ntmps)
 (h:Ae env nx c (CQ 0 (fs++xs++cs)) H nx (Bv env.P Tryz.f53.results.toList Q)):Aa env true ⟨dst,.call { callee:=.value fo,args:=args,argTypes:=aT },ty,pos,af,gd⟩ L H nx Q:=by
 have h0:(match Tryz.f53.body with|some c=>H6 env.G Tryz.f53 c|none=>false)=true:=by kernel_rfl
 rw [hb] at h0
 exact Aa.inline rfl hf ha (AB (by decide)) Tryz.func53 hb h0 hn h
theorem xR {L:Vm.Frame} {H:Vm.Heap} {nx:Nat} {Q:PV→Vm.Heap→Nat→Prop} {dst:Option Tmp} {ty:TypeId} {pos:String} {af:Array Edge} {gd:Option (Nat×Bool)} {fo:Operand} {args:Array Operand} {aT:Array TypeId} {fs cs xs:List PV} {c:Code}
 (hf:BG env.Γ L fo=some (.clo 80 fs cs)) (ha:evs env.Γ L args.toList=some xs) (hb:Tryz.f80.body=some c) (hn:(fs++xs++cs).length≤Tryz.f80.ntmps)
 (h:Ae env nx c (CQ 0 (fs++xs++cs)) H nx (Bv env.P Tryz.f80.results.toList Q)):Aa env true ⟨dst,.call { callee:=.value fo,args:=args,argTypes:=aT },ty,pos,af,gd⟩ L H nx Q:=by
 have h0:(match Tryz.f80.body with|some c=>H6 env.G Tryz.f80 c|none=>false)=true:=by kernel_rfl
 rw [hb] at h0
 exact Aa.inline rfl hf ha (AB (by decide)) Tryz.func80 hb h0 hn h
def Vh (o:EY) (k:Nat):List PN:=(BI o).take k
theorem tK (o:EY) {k:Nat} (h:k≤(BI o).length):(Vh o k).length=k:=by unfold Vh;rw [List.length_take];omega
theorem ou (o:EY) {k:Nat} (h:k<(BI o).length):Vh o (k+1)=Vh o k++[gi (BI o) k]:=DL h
theorem uZ (o:EY):Vh o (BI o).length=BI o:=List.take_of_length_le (Nat.le_refl _)
theorem O5 (o:EY) (ho:Jl o):BH env 52 [.clo 81 [] [.ref 0 0]] [(0,.box 37 ((Enc.enc o).map .p))] 1
 fun r H' nx'=>r=.vec 2 (BI o).length 0 (BI o).length∧H'=[(2,.vec 85 (cells (BI o)) (BI o).length true)]∧nx'=3:=by
 have hb:=ER ho
 refine BH.enter (AB (by decide)) Tryz.func52 rfl (by kernel_rfl) (by simp [Tryz.ntmps52]) ?_
 repeat' (first|apply Ae.assoc|apply Ae.AA|apply Ae.Ai|apply Ag.nil|apply Ag.one|(apply xR;rfl;rfl;rfl;exact le_dec rfl)|(apply Aa.assign;rfl)|(apply Aa.move;rfl)|(apply Aa.box;rfl;trivial))
 all_goals try (exfalso;omega)
 refine Ae.ghost (AX.EF 1 0 85 rfl rfl) ?_
 refine Ae.WB (BI o).length (fun k=>[.agg (Enc.enc (gi (BI o) k))]) (fun k=>Vj (gi (BI o) k)) [(2,.ref 1 0)]
  (fun k=>[(1,.box 59 [.vec 2 (Vh o k).length 0 (Vh o k).length]),(2,.vec 85 (cells (Vh o k)) (Vh o k).length true)]) 3 (fun _=>True)
  rfl rfl Tryz.func81 rfl Yn (Yk o) (fun _ _=>rfl) (fun _ _=>rfl) (fun k _ m F=>.cons (.agg (.cons (.int _ _) (.cons (.int _ _) .nil)) rfl) .nil) (by omega) ⟨by omega,?_,?_⟩ ?_ (Wy ho) trivial ?_ ?_
 ·repeat (first|exact Ad.nil|refine Ad.same trivial rfl ?_|refine Ad.same (Ac rfl) rfl ?_|refine Ad.same ⟨trivial,Ac rfl,trivial⟩ rfl ?_|refine Ad.same ⟨trivial,Ac rfl,Ac rfl,trivial⟩ rfl ?_|refine Ad.same ⟨trivial,Ac rfl,Ac rfl,Ac rfl,trivial⟩ rfl ?_|refine Ad.same ⟨trivial,Ac rfl,Ac rfl,Ac rfl,Ac rfl,trivial⟩ rfl ?_|refine Ad.same ⟨trivial,trivial⟩ rfl ?_|refine Ad.cons trivial rfl (.of_eq (Au (by simp<;>omega))) ?_)
 ·repeat (first|exact Aj.nil|(refine Aj.cons (Ac rfl) ?_ rfl ?_ ?_;(first|exact HB.Ap rfl|exact AV.Ah _ _|(simp [HB.under,AV.under,PV.under]));(first|exact Bq.refl _|exact Bq.vec (Bl.refl _) (by simp))))
 ·repeat (first|exact Ad.nil|refine Ad.same trivial rfl ?_|refine Ad.same (Ac rfl) rfl ?_|refine Ad.same ⟨trivial,Ac rfl,trivial⟩ rfl ?_|refine Ad.same ⟨trivial,Ac rfl,Ac rfl,trivial⟩ rfl ?_|refine Ad.same ⟨trivial,Ac rfl,Ac rfl,Ac rfl,trivial⟩ rfl ?_|refine Ad.same ⟨trivial,Ac rfl,Ac rfl,Ac rfl,Ac rfl,trivial⟩ rfl ?_|refine Ad.same ⟨trivial,trivial⟩ rfl ?_|refine Ad.cons trivial rfl (.of_eq (Au (by simp<;>omega))) ?_)
 ·intro k hk _
  have e1:=ou o hk
  have e2:(Vh o (k+1)).length=(Vh o k).length+1:=by rw [e1];simp
  have e3:=tK o (Nat.le_of_lt hk)
  repeat' (first|apply Ae.region|apply Ag.nil|apply Ag.one|(apply Aa.alloc;rfl)|(apply Aa.Bj;rfl;rfl;rfl;trivial;rfl;rfl;exact Ac rfl;exact le_dec rfl))
  refine ⟨rfl,?_⟩
  repeat' (first|apply Ae.region|apply AL.normal|apply Ae.IE|apply Ag.nil|apply Ag.one|(apply Aa.Dp (a:=gi (BI o) k);rfl;rfl;rfl;rfl;rfl;rfl;rfl;rfl;(intro _ h;cases h);rfl;rfl;rfl;decide;decide;(first|omega|(simp only [List.length_take,List.length_drop,List.length_append,List.length_singleton,List.length_cons,List.length_nil]<;>omega)))|(apply Aa.load;rfl;rfl)|(apply Aa.Bj;rfl;rfl;rfl;trivial;rfl;rfl;exact Ac rfl;exact le_dec rfl)|(apply Aa.buildSlice;rfl;rfl;rfl;decide;rfl;rfl;rfl))
  all_goals try (exfalso;omega)
  refine ⟨trivial,by omega,?_⟩
  rw [e2,e1]
  repeat (first|exact Aj.nil|(refine Aj.cons (Ac rfl) ?_ rfl ?_ ?_;(first|exact HB.Ap rfl|exact AV.Ah _ _|(simp [HB.under,AV.under,PV.under]));(first|exact Bq.refl _|exact Bq.vec (Bl.refl _) (by simp))))
 ·intro _
  rw [uZ]
  repeat' (first|apply Ae.AA|apply AO.normal|(apply Bv.ret;rfl)|apply AL.normal|apply Ae.ret|apply Ag.nil|apply Ag.one|(apply Aa.assign;rfl)|(apply Aa.load;rfl;rfl))
  all_goals (refine Done.ret (H0:=[(2,.vec 85 (cells (BI o)) (BI o).length true)]) (D6:=3) rfl (.refl _) (Ac rfl) ?_ (by omega) (by omega) ⟨rfl,rfl,rfl⟩)
  repeat (first|exact Aj.nil|(refine Aj.cons (Ac rfl) ?_ rfl ?_ ?_;(first|exact HB.Ap rfl|exact AV.Ah _ _|(simp [HB.under,AV.under,PV.under]));(first|exact Bq.refl _|exact Bq.vec (Bl.refl _) (by simp))))
theorem Ul (r:Rgs) (hr:r.Ok) (p:PN) (h1:p.d<r.stops.length) (h2:p.s<64):aA env 79 ([.p (.agg (Enc.enc p))]++[.ref 0 0]) [(0,.box 41 ((Enc.enc r).map .p))] 1 (.bool (!F5 r p)):=by
 have b1:=hr.stops p.d h1
 have hd:F5 r p=(gi r.stops p.d / 2 ^ p.s % 2==1):=rfl
 rw [hd]
 have hm:=Nat.mod_lt (gi r.stops p.d / 2 ^ p.s) (show 0<2 by decide)
 have hq:gi r.stops p.d / 2 ^ p.s<18446744073709551616:=Nat.lt_of_le_of_lt (Nat.div_le_self _ _) b1
 have hv:(decide ((((gi r.stops p.d / 2 ^ p.s % 2:Nat)):Int)=0))=!(gi r.stops p.d / 2 ^ p.s % 2==1):=by
  have:gi r.stops p.d / 2 ^ p.s % 2=0∨gi r.stops p.d / 2 ^ p.s % 2=1:=by omega
  rcases this with h|h<;>rw [h]<;>rfl
 refine aA.enter (AB (by decide)) Tryz.func79 rfl (by kernel_rfl) (by simp [Tryz.ntmps79]) ?_
 repeat' (first|apply Ae.AA|apply Ae.BA|apply Ae.ret|apply Ag.nil|apply Ak.nil|apply Ag.one|(apply Ak.bar;decide +kernel)|apply Ak.quiet|(apply Aa.AU (l:=r.stops) (i:=p.d);rfl;rfl;rfl;exact h1;rfl)|(apply Aa.assign;rfl)|(apply Aa.wG;rfl;rfl;omega)|(apply Aa.int;rfl;rfl;rfl)|(apply Aa.load;rfl;rfl)|(apply Aa.AP;rfl;rfl;rfl)|(apply Aa.box;rfl;trivial)|(apply Aa.VI;rfl;rfl;(simp only [IntKind.bits];omega)))
 all_goals try (exfalso;omega)
 rw [← hv]
 all_goals (refine Done.ret rfl (.refl _) trivial ?_ (by omega) (Nat.le_refl _) ⟨?_,rfl,rfl⟩;repeat (first|exact Aj.nil|(refine Aj.cons (Ac rfl) ?_ rfl ?_ ?_;(first|exact HB.Ap rfl|exact AV.Ah _ _|(simp [HB.under,AV.under,PV.under]));(first|exact Bq.refl _|exact Bq.vec (Bl.refl _) (by simp))));try rfl)
theorem xK {L:Vm.Frame} {H:Vm.Heap} {nx:Nat} {Q:PV→Vm.Heap→Nat→Prop} {dst:Option Tmp} {ty:TypeId} {pos:String} {af:Array Edge} {gd:Option (Nat×Bool)} {fo:Operand} {args:Array Operand} {aT:Array TypeId} {fs cs xs:List PV} {c:Code}
 (hf:BG env.Γ L fo=some (.clo 78 fs cs)) (ha:evs env.Γ L args.toList=some xs) (hb:Tryz.f78.body=some c) (hn:(fs++xs++cs).length≤Tryz.f78.ntmps)
 (h:Ae env nx c (CQ 0 (fs++xs++cs)) H nx (Bv env.P Tryz.f78.results.toList Q)):Aa env true ⟨dst,.call { callee:=.value fo,args:=args,argTypes:=aT },ty,pos,af,gd⟩ L H nx Q:=by
 have h0:(match Tryz.f78.body with|some c=>H6 env.G Tryz.f78 c|none=>false)=true:=by kernel_rfl
 rw [hb] at h0
 exact Aa.inline rfl hf ha (AB (by decide)) Tryz.func78 hb h0 hn h
theorem yO {L:Vm.Frame} {H:Vm.Heap} {nx:Nat} {Q:PV→Vm.Heap→Nat→Prop} {dst:Option Tmp} {ty:TypeId} {pos:String} {af:Array Edge} {gd:Option (Nat×Bool)} {fo:Operand} {args:Array Operand} {aT:Array TypeId} {fs cs xs:List PV} {c:Code}
 (hf:BG env.Γ L fo=some (.clo 105 fs cs)) (ha:evs env.Γ L args.toList=some xs) (hb:Tryz.f105.body=some c) (hn:(fs++xs++cs).length≤Tryz.f105.ntmps)
 (h:Ae env nx c (CQ 0 (fs++xs++cs)) H nx (Bv env.P Tryz.f105.results.toList Q)):Aa env true ⟨dst,.call { callee:=.value fo,args:=args,argTypes:=aT },ty,pos,af,gd⟩ L H nx Q:=by
 have h0:(match Tryz.f105.body with|some c=>H6 env.G Tryz.f105 c|none=>false)=true:=by kernel_rfl
 rw [hb] at h0
 exact Aa.inline rfl hf ha (AB (by decide)) Tryz.func105 hb h0 hn h
theorem QI {α:Type}:∀ (r cs:List α) (o:Nat) {k:Nat},k≤o→(Ce cs o r).take k=cs.take k
 |[],cs,o,k,h=>by simp [Ce]
 |a::r,cs,o,k,h=>by
  simp only [Ce]
  rw [QI r (cs.set o a) (o+1) (by omega),List.take_set_of_le h]
theorem filter_all {α:Type} {P:α→Bool} {l:List α} [Inhabited α] (h:∀ i,i<l.length→P (gi l i)=true):l.filter P=l:=by
 rw [List.filter_eq_self]
 intro a ha
 obtain ⟨i,hi,rfl⟩:=List.getElem_of_mem ha
 have:=h i hi
 rwa [show gi l i=l[i] by unfold gi;rw [List.getElem?_eq_getElem hi];rfl] at this
structure QB {α:Type} (P:α→Bool) (l zs:List α) (i j:Nat):Prop where
 len:zs.length=l.length
 ij:i<j
 jn:j≤l.length
 keep:zs.take i=(l.take j).filter P
 rest:zs.drop j=l.drop j
theorem QB.at_ {α:Type} [Inhabited α] {P:α→Bool} {l zs:List α} {i j:Nat} (h:QB P l zs i j) (hj:j<l.length):gi zs j=gi l j:=by
 have:=congrArg (fun x=>gi x 0) h.rest
 simp only [gi,List.getElem?_drop,Nat.add_zero] at this
 exact this
theorem QB.skip {α:Type} [Inhabited α] {P:α→Bool} {l zs:List α} {i j:Nat} (h:QB P l zs i j) (hj:j<l.length) (hp:P (gi l j)=false):QB P l zs i (j+1):=by
 refine ⟨h.len,by have:=h.ij;omega,hj,?_,?_⟩
 ·rw [DL hj,List.filter_append,h.keep]
  simp [hp]
 ·have:=congrArg (List.drop 1) h.rest
  simpa [List.drop_drop] using this
theorem QB.put {α:Type} [Inhabited α] {P:α→Bool} {l zs:List α} {i j:Nat} (h:QB P l zs i j) (hj:j<l.length) (hp:P (gi l j)=true):QB P l (zs.set i (gi l j)) (i+1) (j+1):=by
 have h1:=h.ij
 have h2:=h.len
 refine ⟨by rw [List.length_set,h2],by omega,hj,?_,?_⟩
 ·rw [DL hj,List.filter_append,← h.keep,DL (by rw [List.length_set];omega),List.take_set_of_le (Nat.le_refl _)]
  have e:gi (zs.set i (gi l j)) i=gi l j:=by rw [U8,if_pos ⟨rfl,by omega⟩]
  rw [e]
  simp [hp]
 ·rw [List.drop_set_of_lt (by omega)]
  have:=congrArg (List.drop 1) h.rest
  simpa [List.drop_drop] using this
theorem QB.start {α:Type} [Inhabited α] {P:α→Bool} {l:List α} {k:Nat} (hk:k<l.length) (hp:P (gi l k)=false) (h:∀ i,i<k→P (gi l i)=true):QB P l l k (k+1):=by
 refine ⟨rfl,by omega,hk,?_,rfl⟩
 rw [DL hk,List.filter_append]
 have:(l.take k).filter P=l.take k:=filter_all fun i hi=>by
  rw [List.length_take] at hi
  have:=h i (by omega)
  rwa [show gi (l.take k) i=gi l i from by unfold gi;rw [List.getElem?_take,if_pos (by omega)]]
 rw [this]
 simp [hp]
theorem QB.fin {α:Type} [Inhabited α] {P:α→Bool} {l zs:List α} {i:Nat} (h:QB P l zs i l.length):zs.take i=l.filter P∧i=(l.filter P).length:=by
 have h1:=h.keep
 rw [List.take_of_length_le (Nat.le_refl _)] at h1
 refine ⟨h1,?_⟩
 rw [← h1,List.length_take,h.len]
 have:=h.ij
 omega
theorem Ue (o:EY) (ho:Jl o) (r:Rgs) (hr:r.Ok) (hl:r.stops.length=o.Aw.length) :
 AZ env 51 [.agg (Enc.enc o),.agg (Enc.enc r)] (.p (.lst 85 (cells (Bc o r)) (Bc o r).length)):=by
 have hb:=ER ho
 have hcl:=O5 o ho
 have hok:∀ i,i<(BI o).length→(gi (BI o) i).d<r.stops.length∧(gi (BI o) i).s<64:=fun i hi=>by
  obtain ⟨h1,h2⟩:=Qj hi
  have:=ho.stops _ h1
  omega
 unfold Bc
 generalize BI o=l at *
 refine AZ.enter (AB (by decide)) Tryz.func51 rfl (by kernel_rfl) (by simp [Tryz.ntmps51]) ?_
 repeat' (first|apply Ae.assoc|apply Ae.AA|apply Ae.Ai|(apply Bv.ret;rfl)|apply Ae.ret|apply Ag.nil|apply Ag.one|(apply UO;rfl;rfl;rfl;exact le_dec rfl)|(apply Aa.mD [2] (hcl);rfl;rfl;exact .of_eq rfl;exact AV.Ap rfl;exact Gj rfl;(repeat (first|exact trivial|refine ⟨⟨_,rfl,.of_eq rfl⟩,?_⟩));decide;(intro _ hb;first|(simp at hb;done)|(simp at hb ⊢<;>omega));(rintro _ _ _ ⟨rfl,rfl,rfl⟩))|(apply Aa.makeFunc;rfl;rfl)|(apply xK;rfl;rfl;rfl;exact le_dec rfl)|(apply yO;rfl;rfl;rfl;exact le_dec rfl)|(apply Aa.assign;rfl)|(apply Aa.move;rfl)|(apply Aa.load;rfl;rfl)|(apply Aa.lenV;rfl;rfl;rfl)|(apply Aa.box;rfl;trivial))
 all_goals try (exfalso;omega)
 apply Ae.GY (l.length) (fun k=>∀ i,i<k→F5 r (gi l i)=true) [(0,_),(1,_),(7,_)] [(4,_),(1,_)] (fun k r=>(8,.p (.int .i64 (k:Int)))::r) (fun k r=>r) 5
 ·first|omega|decide
 ·first|omega|decide
 ·repeat (first|exact Ad.nil|(refine Ad.eq rfl ?_ ?_;(first|exact PV.Ap rfl|(simp [PV.under,AV.under];done)))|refine Ad.cons trivial rfl (.of_eq (Au (by simp<;>omega))) ?_)
 ·repeat (first|exact Aj.nil|(refine Aj.eq rfl (Ac rfl) ?_ ?_;(first|exact HB.Ap rfl|exact AV.Ah _ _|(simp [HB.under,AV.under,PV.under];done)))|(refine Aj.cons (Ac rfl) ?_ rfl ?_ ?_;(first|exact trivial|exact AV.Ah _ _|(simp [HB.under,AV.under,PV.under]));(first|exact Bq.refl _|exact Bq.vec (Bl.refl _) (by simp))))
 ·first|(intro _ _;omega)|omega|trivial
 ·intro k hk hi
  obtain ⟨g1,g2⟩:=hok k hk
  have hC:=Ul r hr (gi l k) g1 g2
  by_cases hp:F5 r (gi l k)=true
  ·rw [hp] at hC
   repeat' (first|apply Ae.AA|apply Ae.region|apply Ae.Aq|apply Ae.Ai|apply AO.normal|apply AL.normal|apply Ae.skip|apply Ag.nil|apply Ag.one|(apply Aa.read [1] hC;rfl;rfl;exact .of_eq rfl;exact AV.Ap rfl;exact Gj rfl;(repeat (first|exact trivial|refine ⟨⟨_,rfl,.of_eq rfl⟩,?_⟩));decide;(intro _ hb;simp at hb<;>omega);rfl)|(apply Aa.assign;rfl)|(apply Aa.move;rfl)|(apply Aa.Bz;rfl;rfl;omega)|(apply Aa.int;rfl;rfl;rfl)|(apply Aa.Dl;rfl;rfl;omega;rfl)|(apply Aa.Dc;rfl;rfl;rfl;rfl;omega)|(apply Ae.Af;rfl)|(apply Ae.cond_false;rfl)|(intro _;try (exfalso;omega)))
   all_goals try (exfalso;omega)
   refine Az.normal ⟨(all_succ hi hp),by first|omega|decide,?_,?_⟩
   ·repeat (first|exact Ad.nil|refine Ad.same trivial rfl ?_|refine Ad.same (Ac rfl) rfl ?_|refine Ad.same ⟨trivial,Ac rfl,trivial⟩ rfl ?_|refine Ad.same ⟨trivial,Ac rfl,Ac rfl,trivial⟩ rfl ?_|refine Ad.same ⟨trivial,Ac rfl,Ac rfl,Ac rfl,trivial⟩ rfl ?_|refine Ad.same ⟨trivial,Ac rfl,Ac rfl,Ac rfl,Ac rfl,trivial⟩ rfl ?_|refine Ad.same ⟨trivial,trivial⟩ rfl ?_|refine Ad.cons trivial rfl (.of_eq (Au (by simp<;>omega))) ?_)
   ·repeat (first|exact Aj.nil|(refine Aj.cons (Ac rfl) ?_ rfl ?_ ?_;(first|exact HB.Ap rfl|exact AV.Ah _ _|(simp [HB.under,AV.under,PV.under]));(first|exact Bq.refl _|exact Bq.vec (Bl.refl _) (by simp))))
  ·have hp':F5 r (gi l k)=false:=by cases h:F5 r (gi l k)<;>simp_all
   rw [hp'] at hC
   repeat' (first|apply Ae.assoc|apply Ae.AA|apply Ae.Aq|apply Ae.Ai|apply AO.ret|(apply Bv.ret;rfl)|apply AL.ret|apply Az.ret|apply Ae.ret|apply Ag.nil|apply Ag.one|(apply Aa.read [1] hC;rfl;rfl;exact .of_eq rfl;exact AV.Ap rfl;exact Gj rfl;(repeat (first|exact trivial|refine ⟨⟨_,rfl,.of_eq rfl⟩,?_⟩));decide;(intro _ hb;simp at hb<;>omega);rfl)|(apply Aa.assign;rfl)|(apply Aa.move;rfl)|(apply Aa.Bz;rfl;rfl;omega)|(apply Aa.int;rfl;rfl;rfl)|(apply Aa.Dl;rfl;rfl;omega;rfl)|(apply Aa.Dc;rfl;rfl;rfl;rfl;omega)|(apply Ae.Ar;rfl)|(apply Ae.Af;rfl)|(apply Ae.cond_true;rfl)|(intro _;try (exfalso;omega)))
   all_goals try (exfalso;omega)
   refine Ae.Ec (fun s:List PN×Nat×Nat=>[(0,.vec 4 l.length 0 l.length),(1,.clo 79 [] [.ref 1 0]),(5,.p (.int .i64 (s.2.1:Int))),(6,.p (.int .i64 (s.2.2:Int)))]) (fun s=>[(4,.vec 85 (cells s.1) l.length true),(1,.box 41 ((Enc.enc r).map .p))]) 5 (fun s=>QB (F5 r) l s.1 s.2.1 s.2.2) (fun s=>l.length-s.2.2) (l,k,k+1) (by decide) (QB.start hk hp' hi) ⟨by decide,?_,?_⟩ ?_
   ·repeat (first|exact Ad.nil|refine Ad.same trivial rfl ?_|refine Ad.same (Ac rfl) rfl ?_|refine Ad.same ⟨trivial,Ac rfl,trivial⟩ rfl ?_|refine Ad.same ⟨trivial,Ac rfl,Ac rfl,trivial⟩ rfl ?_|refine Ad.same ⟨trivial,Ac rfl,Ac rfl,Ac rfl,trivial⟩ rfl ?_|refine Ad.same ⟨trivial,Ac rfl,Ac rfl,Ac rfl,Ac rfl,trivial⟩ rfl ?_|refine Ad.same ⟨trivial,trivial⟩ rfl ?_|refine Ad.cons trivial rfl (.of_eq (Au (by simp<;>omega))) ?_)
   ·repeat (first|exact Aj.nil|(refine Aj.cons (Ac rfl) ?_ rfl ?_ ?_;(first|exact HB.Ap rfl|exact AV.Ah _ _|(simp [HB.under,AV.under,PV.under]));(first|exact Bq.refl _|exact Bq.vec (Bl.refl _) (by simp))))
   rintro ⟨zs,i,j⟩ hD
   simp only at hD ⊢
   have z1:=hD.len
   have z2:=hD.ij
   have z3:=hD.jn
   by_cases hj:j<l.length
   ·obtain ⟨g3,g4⟩:=hok j hj
    have hC2:=Ul r hr (gi l j) g3 g4
    have hz:=hD.at_ hj
    by_cases hq:F5 r (gi l j)=true
    ·rw [hq] at hC2
     rw [← hz] at hC2
     repeat' (first|apply Ae.assoc|apply Ae.AA|apply Ae.region|apply Ae.Aq|apply Ae.Ai|apply AO.normal|apply AL.normal|apply Ag.nil|apply Ag.one|(apply Aa.read [1] hC2;rfl;rfl;exact .of_eq rfl;exact AV.Ap rfl;exact Gj rfl;(repeat (first|exact trivial|refine ⟨⟨_,rfl,.of_eq rfl⟩,?_⟩));decide;(intro _ hb;simp at hb<;>omega);rfl)|(apply Aa.DT (y:=gi zs j);rfl;rfl;rfl;trivial;(first|rfl|(refine congrArg (fun t=>[PV.p (FV.int _ t)]) ?_;first|omega|(simp only [Int.natCast_add,Int.natCast_mul,Int.natCast_ediv,Int.natCast_emod]<;>omega)));rfl;rfl;decide;(first|omega|(simp only [List.length_set]<;>omega)))|(apply Aa.assign;rfl)|(apply Aa.move;rfl)|(apply Aa.Bz;rfl;rfl;omega)|(apply Aa.int;rfl;rfl;rfl)|(apply Aa.Dl;rfl;rfl;omega;rfl)|(apply Aa.load;rfl;rfl)|(apply Aa.lenV;rfl;rfl;rfl)|(apply Aa.alloc;rfl)|(apply Aa.Bj;rfl;rfl;rfl;trivial;rfl;rfl;exact Ac rfl;exact le_dec rfl)|(apply Aa.Dc;rfl;rfl;rfl;rfl;omega)|(apply Aa.not;rfl)|(apply Ae.Af;rfl)|(apply Ae.cond_true;rfl)|(intro _;try (exfalso;omega)))
     all_goals try (exfalso;omega)
     refine Az.normal ⟨(zs.set i (gi l j),i+1,j+1),hD.put hj hq,by simp only;omega,⟨by omega,?_,?_⟩⟩
     ·repeat (first|exact Ad.nil|refine Ad.same trivial rfl ?_|refine Ad.same (Ac rfl) rfl ?_|refine Ad.same ⟨trivial,Ac rfl,trivial⟩ rfl ?_|refine Ad.same ⟨trivial,Ac rfl,Ac rfl,trivial⟩ rfl ?_|refine Ad.same ⟨trivial,Ac rfl,Ac rfl,Ac rfl,trivial⟩ rfl ?_|refine Ad.same ⟨trivial,Ac rfl,Ac rfl,Ac rfl,Ac rfl,trivial⟩ rfl ?_|refine Ad.same ⟨trivial,trivial⟩ rfl ?_|refine Ad.cons trivial rfl (.of_eq (Au (by simp<;>omega))) ?_)
     ·rw [← hz]
      repeat (first|exact Aj.nil|(refine Aj.cons (Ac rfl) ?_ rfl ?_ ?_;(first|exact HB.Ap rfl|exact AV.Ah _ _|(simp [HB.under,AV.under,PV.under]));(first|exact Bq.refl _|exact Bq.vec (Bl.refl _) (by simp))))
    ·have hq':F5 r (gi l j)=false:=by cases h:F5 r (gi l j)<;>simp_all
     rw [hq'] at hC2
     rw [← hz] at hC2
     repeat' (first|apply Ae.assoc|apply Ae.AA|apply Ae.region|apply Ae.Aq|apply Ae.Ai|apply AO.normal|apply AL.normal|apply Ae.skip|apply Ag.nil|apply Ag.one|(apply Aa.read [1] hC2;rfl;rfl;exact .of_eq rfl;exact AV.Ap rfl;exact Gj rfl;(repeat (first|exact trivial|refine ⟨⟨_,rfl,.of_eq rfl⟩,?_⟩));decide;(intro _ hb;simp at hb<;>omega);rfl)|(apply Aa.assign;rfl)|(apply Aa.move;rfl)|(apply Aa.Bz;rfl;rfl;omega)|(apply Aa.int;rfl;rfl;rfl)|(apply Aa.Dl;rfl;rfl;omega;rfl)|(apply Aa.load;rfl;rfl)|(apply Aa.lenV;rfl;rfl;rfl)|(apply Aa.alloc;rfl)|(apply Aa.Bj;rfl;rfl;rfl;trivial;rfl;rfl;exact Ac rfl;exact le_dec rfl)|(apply Aa.Dc;rfl;rfl;rfl;rfl;omega)|(apply Aa.not;rfl)|(apply Ae.Af;rfl)|(apply Ae.cond_false;rfl)|(intro _;try (exfalso;omega)))
     all_goals try (exfalso;omega)
     refine Az.normal ⟨(zs,i,j+1),hD.skip hj hq',by simp only;omega,⟨by omega,?_,?_⟩⟩
     ·repeat (first|exact Ad.nil|refine Ad.same trivial rfl ?_|refine Ad.same (Ac rfl) rfl ?_|refine Ad.same ⟨trivial,Ac rfl,trivial⟩ rfl ?_|refine Ad.same ⟨trivial,Ac rfl,Ac rfl,trivial⟩ rfl ?_|refine Ad.same ⟨trivial,Ac rfl,Ac rfl,Ac rfl,trivial⟩ rfl ?_|refine Ad.same ⟨trivial,Ac rfl,Ac rfl,Ac rfl,Ac rfl,trivial⟩ rfl ?_|refine Ad.same ⟨trivial,trivial⟩ rfl ?_|refine Ad.cons trivial rfl (.of_eq (Au (by simp<;>omega))) ?_)
     ·repeat (first|exact Aj.nil|(refine Aj.cons (Ac rfl) ?_ rfl ?_ ?_;(first|exact HB.Ap rfl|exact AV.Ah _ _|(simp [HB.under,AV.under,PV.under]));(first|exact Bq.refl _|exact Bq.vec (Bl.refl _) (by simp))))
   ·obtain rfl:j=l.length:=by omega
    obtain ⟨f1,f2⟩:=hD.fin
    rw [← f1,show (zs.take i).length=i by rw [List.length_take];omega]
    have hps:∀ xs,((Ce (cells zs) (0+i*2) xs).take (i*2))=cells (zs.take i):=fun xs=>by
     rw [QI _ _ _ (show i*2≤0+i*2 by omega)]
     exact JJ zs i
    have hpl:∀ xs,i*2≤(Ce (cells zs) (0+i*2) xs).length:=fun xs=>by
     rw [Tc,BR,z1]
     show i*2≤l.length*2
     omega
    repeat' (first|(refine Ag.I8 4 ?_;refine Ag.ghost (AX.uN 9 (i*2) rfl rfl (by omega) (hpl _)) ?_)|apply Ae.assoc|apply Ae.AA|apply Ae.A8|apply AO.normal|(apply Bv.ret;rfl)|apply AL.exit|apply Az.exit|apply Ae.ret|apply Ag.nil|apply Ag.one|(apply Aa.ZA (sz:=2) (a:=i) (c:=l.length);rfl;rfl;omega;rfl;rfl;rfl;exact ⟨_,rfl⟩;rfl;omega;exact Nat.le_refl _)|(apply Aa.ZA (sz:=2) (a:=0) (c:=i);rfl;rfl;omega;rfl;rfl;rfl;rfl;exact ⟨_,rfl⟩;omega;omega)|(apply Aa.clear;rfl;rfl;omega;omega;rfl;rfl;rfl;decide;(rw [BR,z1];show 0+i*2+(l.length-i)*2≤l.length*2;omega))|(apply Aa.assign;rfl)|(apply Aa.move;rfl)|(apply Aa.int;rfl;rfl;rfl)|(apply Aa.lenV;rfl;rfl;rfl)|(apply Ae.Af;rfl)|(intro _;try (exfalso;omega)))
    all_goals first|(exfalso;omega)|(refine Done.ret rfl (.refl _) (by first|exact trivial|exact ⟨trivial,trivial,trivial⟩|exact ⟨trivial,trivial,trivial,trivial⟩) Aj.nil (Nat.zero_le _) (Nat.le_refl _) ⟨?_,rfl,rfl⟩;exact congrArg (fun c=>PV.p (FV.lst 85 c i)) (hps _))
 ·intro hi
  rw [filter_all hi]
  repeat' (first|(refine Ag.I8 4 ?_;refine Ag.ghost (AX.freeze 9 rfl rfl) ?_)|apply Ae.assoc|apply Ae.AA|apply Ae.BU|apply Ae.A8|apply AO.normal|(apply Bv.ret;rfl)|apply AL.exit|apply Az.exit|apply Ae.ret|apply Ag.nil|apply Ag.one|(apply Aa.assign;rfl)|(apply Aa.move;rfl)|(apply Aa.int;rfl;rfl;rfl)|(apply Ae.Bg;rfl)|(apply Ae.Af;rfl)|(intro _;try (exfalso;omega)))
  all_goals first|(exfalso;omega)|(refine Done.ret rfl (.refl _) (by first|exact trivial|exact ⟨trivial,trivial,trivial⟩|exact ⟨trivial,trivial,trivial,trivial⟩) Aj.nil (Nat.zero_le _) (Nat.le_refl _) ⟨?_,rfl,rfl⟩;try rfl)
end Go.Proofs.YtdabojnmoejilaaGreatDoor
namespace Go.Proofs.YtdabojnmoejilaaGreatDoor
open Go Go.Am Go.Vm Go.Tra
attribute [local irreducible] Aa Ag Ak Ae BH AZ CW AO AL Az Vm.Done Di Bv
attribute [local irreducible] D8 DW Jp KJ SV Cb
theorem mZ (o:EY) (ho:Jl o) (r:Rgs) (hr:r.Ok):AZ env 36 [.agg (Enc.enc o),.agg (Enc.enc r)] (.p (.int .i64 (O8 o r))):=by
 have r2:=ho.Aw
 have r3:=ho.Gh
 have c1:=hr.cp
 have c2:=hr.off
 have c3:=hr.len
 have hc:=N7 o ho.sm
 rw [ho.err] at hc
 refine AZ.enter (AB (by decide)) Tryz.func36 rfl (by kernel_rfl) (by simp [Tryz.ntmps36]) ?_
 by_cases h1:r.stops.length=o.Aw.length
 case neg =>
  rw [aZ h1]
  repeat' (first|apply Ae.assoc|apply Ae.AA|apply Ae.Aq|apply Ae.BU|apply Ag.nil|apply Ag.one|(apply Aa.fn;rfl;rfl;exact hc;intro _;rfl)|(apply Aa.assign;rfl)|(apply Aa.move;rfl)|(apply Aa.int;rfl;rfl;rfl)|(apply Aa.load;rfl;rfl)|(apply Aa.BL;rfl;rfl)|(apply Aa.AP;rfl;rfl;rfl)|(apply Aa.box;rfl;trivial)|(apply Ae.Ar;rfl)|(apply Ae.Af;rfl)|(intro _;try (exfalso;omega)))
  all_goals first|(exfalso;omega)|contradiction|(refine Done.ret rfl (.refl _) (by first|exact trivial|exact ⟨trivial,trivial,trivial⟩|exact ⟨trivial,trivial,trivial,trivial⟩) Aj.nil (Nat.zero_le _) (Nat.le_refl _) ⟨?_,rfl,rfl⟩;try rfl)
 by_cases h2:∀ i,i<r.stops.length→gi r.stops i / 2 ^ (gi o.Aw i).stops.length=0
 case neg =>
  obtain ⟨i,hi⟩:=Classical.not_forall.1 h2
  obtain ⟨hi,h3⟩:=Classical.not_imp.1 hi
  rw [rY h1 hi h3]
  clear h2
  repeat' (first|apply Ae.assoc|apply Ae.AA|apply Ae.Aq|apply Ae.Ai|apply Ag.nil|apply Ag.one|(apply Aa.fn;rfl;rfl;exact hc;intro _;rfl)|(apply Aa.assign;rfl)|(apply Aa.move;rfl)|(apply Aa.int;rfl;rfl;rfl)|(apply Aa.load;rfl;rfl)|(apply Aa.BL;rfl;rfl)|(apply Aa.AP;rfl;rfl;rfl)|(apply Aa.box;rfl;trivial)|(apply Ae.Ar;rfl)|(apply Ae.Af;rfl)|(intro _;try (exfalso;omega)))
  all_goals try (exfalso;omega)
  all_goals try contradiction
  apply Ae.GY (o.Aw.length) (fun k=>∀ i,i<k→gi r.stops i / 2 ^ (gi o.Aw i).stops.length=0) [(2,_),(3,_),(21,_),(22,_)] [(0,_),(1,_)] (fun k r=>(23,.p (.int .i64 (k:Int)))::r) (fun k r=>r) 2
  ·first|omega|decide
  ·first|omega|decide
  ·repeat (first|exact Ad.nil|(refine Ad.eq rfl ?_ ?_;(first|exact PV.Ap rfl|(simp [PV.under,AV.under];done)))|refine Ad.cons trivial rfl (.of_eq (Au (by simp<;>omega))) ?_)
  ·repeat (first|exact Aj.nil|(refine Aj.eq rfl (Ac rfl) ?_ ?_;(first|exact HB.Ap rfl|exact AV.Ah _ _|(simp [HB.under,AV.under,PV.under];done)))|(refine Aj.cons (Ac rfl) ?_ rfl ?_ ?_;(first|exact trivial|exact AV.Ah _ _|(simp [HB.under,AV.under,PV.under]));(first|exact Bq.refl _|exact Bq.vec (Bl.refl _) (by simp))))
  ·first|(intro _ _;omega)|omega|trivial
  ·intro k hk hok
   have s3:=ho.stops k (by omega)
   have rk:=hr.stops k (by omega)
   by_cases hb:gi r.stops k / 2 ^ (gi o.Aw k).stops.length=0
   ·repeat' (first|apply Ae.AA|apply Ae.BA|apply Ae.region|apply Ae.Aq|apply Ae.Ai|apply AO.normal|apply AL.normal|apply Ae.skip|apply Ag.nil|apply Ak.nil|apply Ag.one|(apply Ak.bar;decide +kernel)|apply Ak.quiet|(apply Aa.assign;rfl)|(apply Aa.move;rfl)|(apply Aa.Bz;rfl;rfl;omega)|(apply Aa.int;rfl;rfl;rfl)|(apply Aa.AU;rfl;rfl;rfl;omega;rfl)|(apply Aa.load;rfl;rfl)|(apply Aa.BL;rfl;rfl)|(apply Aa.AP;rfl;rfl;rfl)|(apply Aa.alloc;rfl)|(apply Aa.Bj;rfl;rfl;rfl;trivial;rfl;rfl;exact Ac rfl;exact le_dec rfl)|(apply Aa.VI;rfl;rfl;(simp only [IntKind.bits];omega))|(apply Ae.Af;rfl)|(apply Ae.AY;rfl)|(intro _;try (exfalso;omega)))
    all_goals try (exfalso;omega)
    all_goals try contradiction
    refine Az.normal ⟨(all_succ hok hb),by first|omega|decide,?_,?_⟩
    ·repeat (first|exact Ad.nil|refine Ad.same trivial rfl ?_|refine Ad.same (Ac rfl) rfl ?_|refine Ad.same ⟨trivial,Ac rfl,trivial⟩ rfl ?_|refine Ad.same ⟨trivial,Ac rfl,Ac rfl,trivial⟩ rfl ?_|refine Ad.same ⟨trivial,Ac rfl,Ac rfl,Ac rfl,trivial⟩ rfl ?_|refine Ad.same ⟨trivial,Ac rfl,Ac rfl,Ac rfl,Ac rfl,trivial⟩ rfl ?_|refine Ad.same ⟨trivial,trivial⟩ rfl ?_|refine Ad.cons trivial rfl (.of_eq (Au (by simp<;>omega))) ?_)
    ·repeat (first|exact Aj.nil|(refine Aj.cons (Ac rfl) ?_ rfl ?_ ?_;(first|exact HB.Ap rfl|exact AV.Ah _ _|(simp [HB.under,AV.under,PV.under]));(first|exact Bq.refl _|exact Bq.vec (Bl.refl _) (by simp))))
   ·repeat' (first|apply Ae.AA|apply Ae.BA|apply Ae.Aq|apply Ae.Ai|apply AO.ret|apply AL.ret|apply Az.ret|apply Ae.ret|apply Ag.nil|apply Ak.nil|apply Ag.one|(apply Ak.bar;decide +kernel)|apply Ak.quiet|(apply Aa.assign;rfl)|(apply Aa.move;rfl)|(apply Aa.int;rfl;rfl;rfl)|(apply Aa.AU;rfl;rfl;rfl;omega;rfl)|(apply Aa.load;rfl;rfl)|(apply Aa.BL;rfl;rfl)|(apply Aa.AP;rfl;rfl;rfl)|(apply Aa.alloc;rfl)|(apply Aa.Bj;rfl;rfl;rfl;trivial;rfl;rfl;exact Ac rfl;exact le_dec rfl)|(apply Aa.VI;rfl;rfl;(simp only [IntKind.bits];omega))|(apply Ae.Af;rfl)|(apply Ae.AY;rfl)|(intro _;try (exfalso;omega)))
    all_goals first|(exfalso;omega)|contradiction|(refine Done.ret rfl (.refl _) (by first|exact trivial|exact ⟨trivial,trivial,trivial⟩|exact ⟨trivial,trivial,trivial,trivial⟩) Aj.nil (Nat.zero_le _) (Nat.le_refl _) ⟨?_,rfl,rfl⟩;try rfl)
  ·intro hok
   exact absurd (hok i (by omega)) h3
 rw [SC h1 h2]
 repeat' (first|apply Ae.assoc|apply Ae.AA|apply Ae.Aq|apply Ae.Ai|apply Ag.nil|apply Ag.one|(apply Aa.fn;rfl;rfl;exact hc;intro _;rfl)|(apply Aa.assign;rfl)|(apply Aa.move;rfl)|(apply Aa.int;rfl;rfl;rfl)|(apply Aa.load;rfl;rfl)|(apply Aa.BL;rfl;rfl)|(apply Aa.AP;rfl;rfl;rfl)|(apply Aa.box;rfl;trivial)|(apply Ae.Ar;rfl)|(apply Ae.Af;rfl)|(intro _;try (exfalso;omega)))
 all_goals try (exfalso;omega)
 all_goals try contradiction
 apply Ae.GY (o.Aw.length) (fun k=>∀ i,i<k→gi r.stops i / 2 ^ (gi o.Aw i).stops.length=0) [(2,_),(3,_),(21,_),(22,_)] [(0,_),(1,_)] (fun k r=>(23,.p (.int .i64 (k:Int)))::r) (fun k r=>r) 2
 ·first|omega|decide
 ·first|omega|decide
 ·repeat (first|exact Ad.nil|(refine Ad.eq rfl ?_ ?_;(first|exact PV.Ap rfl|(simp [PV.under,AV.under];done)))|refine Ad.cons trivial rfl (.of_eq (Au (by simp<;>omega))) ?_)
 ·repeat (first|exact Aj.nil|(refine Aj.eq rfl (Ac rfl) ?_ ?_;(first|exact HB.Ap rfl|exact AV.Ah _ _|(simp [HB.under,AV.under,PV.under];done)))|(refine Aj.cons (Ac rfl) ?_ rfl ?_ ?_;(first|exact trivial|exact AV.Ah _ _|(simp [HB.under,AV.under,PV.under]));(first|exact Bq.refl _|exact Bq.vec (Bl.refl _) (by simp))))
 ·first|(intro _ _;omega)|omega|trivial
 ·intro k hk hok
  have s3:=ho.stops k (by omega)
  have rk:=hr.stops k (by omega)
  have hb:=h2 k (by omega)
  repeat' (first|apply Ae.AA|apply Ae.BA|apply Ae.region|apply Ae.Aq|apply Ae.Ai|apply AO.normal|apply AL.normal|apply Ae.skip|apply Ag.nil|apply Ak.nil|apply Ag.one|(apply Ak.bar;decide +kernel)|apply Ak.quiet|(apply Aa.assign;rfl)|(apply Aa.move;rfl)|(apply Aa.Bz;rfl;rfl;omega)|(apply Aa.int;rfl;rfl;rfl)|(apply Aa.AU;rfl;rfl;rfl;omega;rfl)|(apply Aa.load;rfl;rfl)|(apply Aa.BL;rfl;rfl)|(apply Aa.AP;rfl;rfl;rfl)|(apply Aa.alloc;rfl)|(apply Aa.Bj;rfl;rfl;rfl;trivial;rfl;rfl;exact Ac rfl;exact le_dec rfl)|(apply Aa.VI;rfl;rfl;(simp only [IntKind.bits];omega))|(apply Ae.Af;rfl)|(apply Ae.AY;rfl)|(intro _;try (exfalso;omega)))
  all_goals try (exfalso;omega)
  all_goals try contradiction
  refine Az.normal ⟨(fun j hj=>h2 j (by omega)),by first|omega|decide,?_,?_⟩
  ·repeat (first|exact Ad.nil|refine Ad.same trivial rfl ?_|refine Ad.same (Ac rfl) rfl ?_|refine Ad.same ⟨trivial,Ac rfl,trivial⟩ rfl ?_|refine Ad.same ⟨trivial,Ac rfl,Ac rfl,trivial⟩ rfl ?_|refine Ad.same ⟨trivial,Ac rfl,Ac rfl,Ac rfl,trivial⟩ rfl ?_|refine Ad.same ⟨trivial,Ac rfl,Ac rfl,Ac rfl,Ac rfl,trivial⟩ rfl ?_|refine Ad.same ⟨trivial,trivial⟩ rfl ?_|refine Ad.cons trivial rfl (.of_eq (Au (by simp<;>omega))) ?_)
  ·repeat (first|exact Aj.nil|(refine Aj.cons (Ac rfl) ?_ rfl ?_ ?_;(first|exact HB.Ap rfl|exact AV.Ah _ _|(simp [HB.under,AV.under,PV.under]));(first|exact Bq.refl _|exact Bq.vec (Bl.refl _) (by simp))))
 ·intro hok
  by_cases h4:r.cp / 2 ^ o.Gh.length=0
  ·by_cases h5:r.off / 2 ^ o.Aw.length=0
   ·rw [if_neg (by omega)]
    repeat' (first|apply Ae.assoc|apply Ae.AA|apply Ae.Aq|apply Ae.A8|apply AO.normal|apply AL.exit|apply Az.exit|apply Ae.ret|apply Ag.nil|apply Ag.one|(apply Ag.take;rfl;rfl)|(apply Ag.guard;rfl;rfl)|(apply Aa.assign;rfl)|(apply Aa.move;rfl)|(apply Aa.int;rfl;rfl;rfl)|(apply Aa.load;rfl;rfl)|(apply Aa.AQ;rfl;rfl)|(apply Aa.BL;rfl;rfl)|(apply Aa.AP;rfl;rfl;rfl)|(apply Aa.VI;rfl;rfl;(simp only [IntKind.bits];omega))|(apply Ae.Af;rfl)|(intro _;try (exfalso;omega)))
    all_goals first|(exfalso;omega)|contradiction|(refine Done.ret rfl (.refl _) (by first|exact trivial|exact ⟨trivial,trivial,trivial⟩|exact ⟨trivial,trivial,trivial,trivial⟩) Aj.nil (Nat.zero_le _) (Nat.le_refl _) ⟨?_,rfl,rfl⟩;try rfl)
   ·rw [if_pos (.inr h5)]
    repeat' (first|apply Ae.assoc|apply Ae.AA|apply Ae.BU|apply Ae.A8|apply AO.normal|apply AL.exit|apply Az.exit|apply Ag.nil|apply Ag.one|(apply Ag.take;rfl;rfl)|(apply Ag.guard;rfl;rfl)|(apply Aa.assign;rfl)|(apply Aa.move;rfl)|(apply Aa.int;rfl;rfl;rfl)|(apply Aa.load;rfl;rfl)|(apply Aa.AQ;rfl;rfl)|(apply Aa.BL;rfl;rfl)|(apply Aa.AP;rfl;rfl;rfl)|(apply Aa.VI;rfl;rfl;(simp only [IntKind.bits];omega))|(apply Ae.Af;rfl)|(intro _;try (exfalso;omega)))
    all_goals first|(exfalso;omega)|contradiction|(refine Done.ret rfl (.refl _) (by first|exact trivial|exact ⟨trivial,trivial,trivial⟩|exact ⟨trivial,trivial,trivial,trivial⟩) Aj.nil (Nat.zero_le _) (Nat.le_refl _) ⟨?_,rfl,rfl⟩;try rfl)
  ·rw [if_pos (.inl h4)]
   repeat' (first|apply Ae.assoc|apply Ae.AA|apply Ae.BU|apply Ae.A8|apply AO.normal|apply AL.exit|apply Az.exit|apply Ag.nil|apply Ag.one|(apply Ag.drop;rfl;rfl;rfl)|(apply Ag.guard;rfl;rfl)|(apply Aa.assign;rfl)|(apply Aa.move;rfl)|(apply Aa.int;rfl;rfl;rfl)|(apply Aa.load;rfl;rfl)|(apply Aa.BJ;rfl;rfl)|(apply Aa.BL;rfl;rfl)|(apply Aa.AP;rfl;rfl;rfl)|(apply Aa.VI;rfl;rfl;(simp only [IntKind.bits];omega))|(apply Ae.Bg;rfl)|(apply Ae.Af;rfl)|(intro _;try (exfalso;omega)))
   all_goals first|(exfalso;omega)|contradiction|(refine Done.ret rfl (.refl _) (by first|exact trivial|exact ⟨trivial,trivial,trivial⟩|exact ⟨trivial,trivial,trivial,trivial⟩) Aj.nil (Nat.zero_le _) (Nat.le_refl _) ⟨?_,rfl,rfl⟩;try rfl)
def jI (w:ZU):List Int:=[w.EC,w.FN,w.Dn,w.miss]
def MO (w:ZU):Prop:=∀ i,i<4→0≤gi (jI w) i∧gi (jI w) i≤100000
noncomputable def iM (q:Ri):Int :=
 open Classical in
 if KR q.BF≠0 then KR q.BF else if O8 q.BF q.reg≠0 then O8 q.BF q.reg else if KR q.tgt≠0 then KR q.tgt
 else if ¬ MO q.DV then 3 else if (Bc q.BF q.reg).length>60∨(BI q.tgt).length>120 then 4 else 0
theorem vY (w:ZU) {k:Nat} (h:k<4):[FV.int .i64 w.EC,.int .i64 w.FN,.int .i64 w.Dn,.int .i64 w.miss][((k:Nat):Int).toNat*1]?=some (.int .i64 (gi (jI w) k)):=by
 rw [Int.toNat_natCast]
 match k,h with
 |0,_=>rfl
 |1,_=>rfl
 |2,_=>rfl
 |3,_=>rfl
theorem lq {o:EY} {r:Rgs} (h:O8 o r=0):r.stops.length=o.Aw.length:=Classical.byContradiction fun h1=>by rw [aZ h1] at h;cases h
theorem fD (q:Ri) (h1:OX q.BF) (h2:OX q.tgt) (hr:q.reg.Ok):AZ env 26 [.agg (Enc.enc q)] (.p (.int .i64 (iM q))):=by
 have zF:=N7 q.BF h1
 unfold iM
 refine AZ.enter (AB (by decide)) Tryz.func26 rfl (by kernel_rfl) (by simp [Tryz.ntmps26]) ?_
 by_cases e1:KR q.BF=0
 case neg =>
  rw [if_pos e1]
  repeat' (first|apply Ae.assoc|apply Ae.AA|apply Ae.BU|apply Ag.nil|apply Ag.one|(apply Aa.fn;rfl;rfl;exact zF;intro _;rfl)|(apply Aa.assign;rfl)|(apply Aa.move;rfl)|(apply Aa.int;rfl;rfl;rfl)|(apply Aa.load;rfl;rfl)|(apply Aa.AP;rfl;rfl;rfl)|(apply Aa.box;rfl;trivial)|(apply Ae.Af;rfl)|(intro _;try (exfalso;omega)))
  all_goals first|(exfalso;omega)|contradiction|(refine Done.ret rfl (.refl _) (by first|exact trivial|exact ⟨trivial,trivial,trivial⟩|exact ⟨trivial,trivial,trivial,trivial⟩) Aj.nil (Nat.zero_le _) (Nat.le_refl _) ⟨?_,rfl,rfl⟩;try rfl)
 rw [if_neg (fun h=>h e1)]
 rw [e1] at zF
 have k1:=xI h1 e1
 have hcR:=mZ q.BF k1 q.reg hr
 by_cases e2:O8 q.BF q.reg=0
 case neg =>
  rw [if_pos e2]
  repeat' (first|apply Ae.assoc|apply Ae.AA|apply Ae.Aq|apply Ae.BU|apply Ag.nil|apply Ag.one|(apply Aa.fn;rfl;rfl;exact zF;intro _;rfl)|(apply Aa.fn;rfl;rfl;exact hcR;intro _;rfl)|(apply Aa.assign;rfl)|(apply Aa.move;rfl)|(apply Aa.int;rfl;rfl;rfl)|(apply Aa.load;rfl;rfl)|(apply Aa.AP;rfl;rfl;rfl)|(apply Aa.box;rfl;trivial)|(apply Ae.Ar;rfl)|(apply Ae.Af;rfl)|(intro _;try (exfalso;omega)))
  all_goals first|(exfalso;omega)|contradiction|(refine Done.ret rfl (.refl _) (by first|exact trivial|exact ⟨trivial,trivial,trivial⟩|exact ⟨trivial,trivial,trivial,trivial⟩) Aj.nil (Nat.zero_le _) (Nat.le_refl _) ⟨?_,rfl,rfl⟩;try rfl)
 rw [if_neg (fun h=>h e2)]
 rw [e2] at hcR
 have hcT:=N7 q.tgt h2
 by_cases e3:KR q.tgt=0
 case neg =>
  rw [if_pos e3]
  repeat' (first|apply Ae.assoc|apply Ae.AA|apply Ae.Aq|apply Ae.BU|apply Ag.nil|apply Ag.one|(apply Aa.fn;rfl;rfl;exact zF;intro _;rfl)|(apply Aa.fn;rfl;rfl;exact hcR;intro _;rfl)|(apply Aa.fn;rfl;rfl;exact hcT;intro _;rfl)|(apply Aa.assign;rfl)|(apply Aa.move;rfl)|(apply Aa.int;rfl;rfl;rfl)|(apply Aa.load;rfl;rfl)|(apply Aa.AP;rfl;rfl;rfl)|(apply Aa.box;rfl;trivial)|(apply Ae.Ar;rfl)|(apply Ae.Af;rfl)|(intro _;try (exfalso;omega)))
  all_goals first|(exfalso;omega)|contradiction|(refine Done.ret rfl (.refl _) (by first|exact trivial|exact ⟨trivial,trivial,trivial⟩|exact ⟨trivial,trivial,trivial,trivial⟩) Aj.nil (Nat.zero_le _) (Nat.le_refl _) ⟨?_,rfl,rfl⟩;try rfl)
 rw [if_neg (fun h=>h e3)]
 rw [e3] at hcT
 have k2:=xI h2 e3
 have hdr:=Ue q.BF k1 q.reg hr (lq e2)
 have hcl:=O5 q.tgt k2
 have b1:=ER k2
 have b2:(Bc q.BF q.reg).length≤480:=by
  have:=ER k1
  have:(Bc q.BF q.reg).length≤(BI q.BF).length:=List.length_filter_le _ _
  omega
 by_cases e4:MO q.DV
 case neg =>
  rw [if_pos e4]
  repeat' (first|apply Ae.assoc|apply Ae.AA|apply Ae.Aq|apply Ae.Ai|apply Ag.nil|apply Ag.one|(apply Aa.fn;rfl;rfl;exact zF;intro _;rfl)|(apply Aa.fn;rfl;rfl;exact hcR;intro _;rfl)|(apply Aa.fn;rfl;rfl;exact hcT;intro _;rfl)|(apply Aa.vF;rfl;rfl;rfl;rfl;rfl)|(apply Aa.assign;rfl)|(apply Aa.move;rfl)|(apply Aa.int;rfl;rfl;rfl)|(apply Aa.load;rfl;rfl)|(apply Aa.AP;rfl;rfl;rfl)|(apply Aa.box;rfl;trivial)|(apply Ae.Ar;rfl))
  all_goals try (exfalso;omega)
  all_goals try contradiction
  apply Ae.GY (4) (fun k=>∀ i,i<k→0≤gi (jI q.DV) i∧gi (jI q.DV) i≤100000) [(1,_),(40,_)] [(0,_)] (fun k r=>(41,.p (.int .i64 (k:Int)))::r) (fun k r=>r) 1
  ·first|omega|decide
  ·first|omega|decide
  ·repeat (first|exact Ad.nil|(refine Ad.eq rfl ?_ ?_;(first|exact PV.Ap rfl|(simp [PV.under,AV.under];done)))|refine Ad.cons trivial rfl (.of_eq (Au (by simp<;>omega))) ?_)
  ·repeat (first|exact Aj.nil|(refine Aj.eq rfl (Ac rfl) ?_ ?_;(first|exact HB.Ap rfl|exact AV.Ah _ _|(simp [HB.under,AV.under,PV.under];done)))|(refine Aj.cons (Ac rfl) ?_ rfl ?_ ?_;(first|exact trivial|exact AV.Ah _ _|(simp [HB.under,AV.under,PV.under]));(first|exact Bq.refl _|exact Bq.vec (Bl.refl _) (by simp))))
  ·first|(intro _ _;omega)|omega|trivial
  ·intro k hk hi
   have hw:=vY q.DV hk
   by_cases hb:0≤gi (jI q.DV) k∧gi (jI q.DV) k≤100000
   ·repeat' (first|apply Ae.AA|apply Ae.region|apply Ae.Aq|apply Ae.Ai|apply AO.normal|apply AL.normal|apply Ae.skip|apply Ag.nil|apply Ag.one|(apply Ag.take;rfl;rfl)|(apply Ag.guard;rfl;rfl)|(apply Aa.gJ;rfl;rfl;rfl;rfl;rfl;omega;exact hw)|(apply Aa.assign;rfl)|(apply Aa.move;rfl)|(apply Aa.Bz;rfl;rfl;omega)|(apply Aa.int;rfl;rfl;rfl)|(apply Aa.AQ;rfl;rfl)|(apply Ae.Af;rfl)|(apply Ae.AY;rfl)|(intro _;try (exfalso;omega)))
    all_goals try (exfalso;omega)
    refine Az.normal ⟨(all_succ hi hb),by first|omega|decide,?_,?_⟩
    ·repeat (first|exact Ad.nil|refine Ad.same trivial rfl ?_|refine Ad.same (Ac rfl) rfl ?_|refine Ad.same ⟨trivial,Ac rfl,trivial⟩ rfl ?_|refine Ad.same ⟨trivial,Ac rfl,Ac rfl,trivial⟩ rfl ?_|refine Ad.same ⟨trivial,Ac rfl,Ac rfl,Ac rfl,trivial⟩ rfl ?_|refine Ad.same ⟨trivial,Ac rfl,Ac rfl,Ac rfl,Ac rfl,trivial⟩ rfl ?_|refine Ad.same ⟨trivial,trivial⟩ rfl ?_|refine Ad.cons trivial rfl (.of_eq (Au (by simp<;>omega))) ?_)
    ·repeat (first|exact Aj.nil|(refine Aj.cons (Ac rfl) ?_ rfl ?_ ?_;(first|exact HB.Ap rfl|exact AV.Ah _ _|(simp [HB.under,AV.under,PV.under]));(first|exact Bq.refl _|exact Bq.vec (Bl.refl _) (by simp))))
   ·repeat' (first|apply Ae.AA|apply Ae.Aq|apply Ae.Ai|apply AO.ret|apply AL.ret|apply Az.ret|apply Ae.ret|apply Ag.nil|apply Ag.one|(apply Ag.take;rfl;rfl)|(apply Ag.drop;rfl;rfl;rfl)|(apply Ag.guard;rfl;rfl)|(apply Aa.gJ;rfl;rfl;rfl;rfl;rfl;omega;exact hw)|(apply Aa.assign;rfl)|(apply Aa.move;rfl)|(apply Aa.int;rfl;rfl;rfl)|(apply Aa.BJ;rfl;rfl)|(apply Aa.AQ;rfl;rfl)|(apply Ae.Af;rfl)|(apply Ae.cond_true;rfl)|(apply Ae.AY;rfl)|(intro _;try (exfalso;omega)))
    all_goals first|(exfalso;omega)|contradiction|(refine Done.ret rfl (.refl _) (by first|exact trivial|exact ⟨trivial,trivial,trivial⟩|exact ⟨trivial,trivial,trivial,trivial⟩) Aj.nil (Nat.zero_le _) (Nat.le_refl _) ⟨?_,rfl,rfl⟩;try rfl)
  ·intro hi
   exact absurd hi e4
 rw [if_neg (fun h=>h e4)]
 repeat' (first|apply Ae.assoc|apply Ae.AA|apply Ae.Aq|apply Ae.Ai|apply Ag.nil|apply Ag.one|(apply Aa.fn;rfl;rfl;exact zF;intro _;rfl)|(apply Aa.fn;rfl;rfl;exact hcR;intro _;rfl)|(apply Aa.fn;rfl;rfl;exact hcT;intro _;rfl)|(apply Aa.vF;rfl;rfl;rfl;rfl;rfl)|(apply Aa.assign;rfl)|(apply Aa.move;rfl)|(apply Aa.int;rfl;rfl;rfl)|(apply Aa.load;rfl;rfl)|(apply Aa.AP;rfl;rfl;rfl)|(apply Aa.box;rfl;trivial)|(apply Ae.Ar;rfl))
 all_goals try (exfalso;omega)
 all_goals try contradiction
 apply Ae.GY (4) (fun k=>True) [(1,_),(40,_)] [(0,_)] (fun k r=>(41,.p (.int .i64 (k:Int)))::r) (fun k r=>r) 1
 ·first|omega|decide
 ·first|omega|decide
 ·repeat (first|exact Ad.nil|(refine Ad.eq rfl ?_ ?_;(first|exact PV.Ap rfl|(simp [PV.under,AV.under];done)))|refine Ad.cons trivial rfl (.of_eq (Au (by simp<;>omega))) ?_)
 ·repeat (first|exact Aj.nil|(refine Aj.eq rfl (Ac rfl) ?_ ?_;(first|exact HB.Ap rfl|exact AV.Ah _ _|(simp [HB.under,AV.under,PV.under];done)))|(refine Aj.cons (Ac rfl) ?_ rfl ?_ ?_;(first|exact trivial|exact AV.Ah _ _|(simp [HB.under,AV.under,PV.under]));(first|exact Bq.refl _|exact Bq.vec (Bl.refl _) (by simp))))
 ·first|(intro _ _;omega)|omega|trivial
 ·intro k hk _
  have hw:=vY q.DV hk
  have hb:=e4 k hk
  repeat' (first|apply Ae.AA|apply Ae.region|apply Ae.Aq|apply Ae.Ai|apply AO.normal|apply AL.normal|apply Ae.skip|apply Ag.nil|apply Ag.one|(apply Ag.take;rfl;rfl)|(apply Ag.guard;rfl;rfl)|(apply Aa.gJ;rfl;rfl;rfl;rfl;rfl;omega;exact hw)|(apply Aa.assign;rfl)|(apply Aa.move;rfl)|(apply Aa.Bz;rfl;rfl;omega)|(apply Aa.int;rfl;rfl;rfl)|(apply Aa.AQ;rfl;rfl)|(apply Ae.Af;rfl)|(apply Ae.AY;rfl)|(intro _;try (exfalso;omega)))
  all_goals try (exfalso;omega)
  refine Az.normal ⟨trivial,by first|omega|decide,?_,?_⟩
  ·repeat (first|exact Ad.nil|refine Ad.same trivial rfl ?_|refine Ad.same (Ac rfl) rfl ?_|refine Ad.same ⟨trivial,Ac rfl,trivial⟩ rfl ?_|refine Ad.same ⟨trivial,Ac rfl,Ac rfl,trivial⟩ rfl ?_|refine Ad.same ⟨trivial,Ac rfl,Ac rfl,Ac rfl,trivial⟩ rfl ?_|refine Ad.same ⟨trivial,Ac rfl,Ac rfl,Ac rfl,Ac rfl,trivial⟩ rfl ?_|refine Ad.same ⟨trivial,trivial⟩ rfl ?_|refine Ad.cons trivial rfl (.of_eq (Au (by simp<;>omega))) ?_)
  ·repeat (first|exact Aj.nil|(refine Aj.cons (Ac rfl) ?_ rfl ?_ ?_;(first|exact HB.Ap rfl|exact AV.Ah _ _|(simp [HB.under,AV.under,PV.under]));(first|exact Bq.refl _|exact Bq.vec (Bl.refl _) (by simp))))
 ·intro _
  by_cases e5:(Bc q.BF q.reg).length>60
  ·rw [if_pos (.inl e5)]
   repeat' (first|apply Ae.assoc|apply Ae.AA|apply Ae.BU|apply Ae.A8|apply AO.normal|apply AL.exit|apply Az.exit|apply Ag.nil|apply Ag.one|(apply Ag.drop;rfl;rfl;rfl)|(apply Ag.guard;rfl;rfl)|(apply Aa.fn;rfl;rfl;exact hdr;intro _;rfl)|(apply Aa.assign;rfl)|(apply Aa.move;rfl)|(apply Aa.int;rfl;rfl;rfl)|(apply Aa.load;rfl;rfl)|(apply Aa.BJ;rfl;rfl)|(apply Aa.BL;rfl;rfl)|(apply Aa.AP;rfl;rfl;rfl)|(apply Ae.Bg;rfl)|(apply Ae.Ar;rfl)|(intro _;try (exfalso;omega)))
   all_goals try (exfalso;omega)
   all_goals try contradiction
   all_goals first|(exfalso;omega)|contradiction|(refine Done.ret rfl (.refl _) (by first|exact trivial|exact ⟨trivial,trivial,trivial⟩|exact ⟨trivial,trivial,trivial,trivial⟩) Aj.nil (Nat.zero_le _) (Nat.le_refl _) ⟨?_,rfl,rfl⟩;try rfl)
  ·by_cases e6:(BI q.tgt).length>120
   ·rw [if_pos (.inr e6)]
    repeat' (first|apply Ae.assoc|apply Ae.AA|apply Ae.BU|apply Ae.A8|apply AO.normal|(apply Bv.ret;rfl)|apply AL.exit|apply Az.exit|apply Ae.ret|apply Ag.nil|apply Ag.one|(apply Ag.take;rfl;rfl)|(apply Ag.guard;rfl;rfl)|(apply Aa.fn;rfl;rfl;exact hdr;intro _;rfl)|(apply UO;rfl;rfl;rfl;exact le_dec rfl)|(apply Aa.mD [1] (hcl);rfl;rfl;exact .of_eq rfl;exact AV.Ap rfl;exact Gj rfl;(repeat (first|exact trivial|refine ⟨⟨_,rfl,.of_eq rfl⟩,?_⟩));decide;(intro _ hb;first|(simp at hb;done)|(simp at hb ⊢<;>omega));(rintro _ _ _ ⟨rfl,rfl,rfl⟩))|(apply Aa.makeFunc;rfl;rfl)|(apply Aa.assign;rfl)|(apply Aa.move;rfl)|(apply Aa.int;rfl;rfl;rfl)|(apply Aa.load;rfl;rfl)|(apply Aa.AQ;rfl;rfl)|(apply Aa.BL;rfl;rfl)|(apply Aa.lenV;rfl;rfl;rfl)|(apply Aa.AP;rfl;rfl;rfl)|(apply Aa.box;rfl;trivial)|(apply Ae.Ar;rfl)|(apply Ae.Af;rfl)|(intro _;try (exfalso;omega)))
    all_goals try (exfalso;omega)
    all_goals try contradiction
    all_goals first|(exfalso;omega)|contradiction|(refine Done.ret rfl (.refl _) (by first|exact trivial|exact ⟨trivial,trivial,trivial⟩|exact ⟨trivial,trivial,trivial,trivial⟩) Aj.nil (Nat.zero_le _) (Nat.le_refl _) ⟨?_,rfl,rfl⟩;try rfl)
   ·rw [if_neg (by omega)]
    repeat' (first|apply Ae.assoc|apply Ae.AA|apply Ae.Aq|apply Ae.A8|apply AO.normal|(apply Bv.ret;rfl)|apply AL.exit|apply Az.exit|apply Ae.ret|apply Ag.nil|apply Ag.one|(apply Ag.take;rfl;rfl)|(apply Ag.guard;rfl;rfl)|(apply Aa.fn;rfl;rfl;exact hdr;intro _;rfl)|(apply UO;rfl;rfl;rfl;exact le_dec rfl)|(apply Aa.mD [1] (hcl);rfl;rfl;exact .of_eq rfl;exact AV.Ap rfl;exact Gj rfl;(repeat (first|exact trivial|refine ⟨⟨_,rfl,.of_eq rfl⟩,?_⟩));decide;(intro _ hb;first|(simp at hb;done)|(simp at hb ⊢<;>omega));(rintro _ _ _ ⟨rfl,rfl,rfl⟩))|(apply Aa.makeFunc;rfl;rfl)|(apply Aa.assign;rfl)|(apply Aa.move;rfl)|(apply Aa.int;rfl;rfl;rfl)|(apply Aa.load;rfl;rfl)|(apply Aa.AQ;rfl;rfl)|(apply Aa.BL;rfl;rfl)|(apply Aa.lenV;rfl;rfl;rfl)|(apply Aa.AP;rfl;rfl;rfl)|(apply Aa.box;rfl;trivial)|(apply Ae.Ar;rfl)|(apply Ae.Af;rfl)|(intro _;try (exfalso;omega)))
    all_goals try (exfalso;omega)
    all_goals try contradiction
    all_goals first|(exfalso;omega)|contradiction|(refine Done.ret rfl (.refl _) (by first|exact trivial|exact ⟨trivial,trivial,trivial⟩|exact ⟨trivial,trivial,trivial,trivial⟩) Aj.nil (Nat.zero_le _) (Nat.le_refl _) ⟨?_,rfl,rfl⟩;try rfl)
end Go.Proofs.YtdabojnmoejilaaGreatDoor
namespace Go.Proofs.YtdabojnmoejilaaGreatDoor
open Go Go.Am Go.Vm Go.Tra
attribute [local irreducible] Aa Ag Ak Ae BH AZ CW AO AL Az Vm.Done Di Bv Zu
def dO (i:Nat) (f:Int):Stp:=⟨[82,UInt8.ofNat (48+i)],⟨f,1⟩,[⟨36,38,[⟨(i:Int),0⟩]⟩]⟩
def Y7 (i:Nat) (t:List UInt8) (f:Int):FT:=⟨[82,UInt8.ofNat (48+i)],t,⟨f,1⟩,36,[1,1,1]⟩
def Xa (ss:List Stp):Yl:=⟨[71,114,101,97,116],false,36,38,ss⟩
structure Tn where
 t:List UInt8
instance:Enc Tn:={ default:=⟨[]⟩,enc:=fun x=>[.str (bs x.t)],size:=1,len:=fun _=>rfl }
def EI (fs:List Int) (k:Nat):List Stp:=(List.range k).map fun i=>dO i (gi fs i)
def FM (ts:List Tn) (fs:List Int) (k:Nat):List FT:=(List.range k).map fun i=>Y7 i (gi ts i).t (gi fs i)
theorem iE (fs:List Int) (k:Nat):EI fs (k+1)=EI fs k++[dO k (gi fs k)]:=by simp [EI,List.range_succ]
theorem jL (ts:List Tn) (fs:List Int) (k:Nat):FM ts fs (k+1)=FM ts fs k++[Y7 k (gi ts k).t (gi fs k)]:=by simp [FM,List.range_succ]
theorem Sr (fs:List Int) (k:Nat):(EI fs k).length=k:=by simp [EI]
theorem RX (ts:List Tn) (fs:List Int) (k:Nat):(FM ts fs k).length=k:=by simp [FM]
def JE (ts:List Tn) (fs:List Int):EY:=⟨[79],FM ts fs ts.length,[Xa (EI fs ts.length)],[]⟩
theorem Uj (ts:List Tn) (fs:List Int) (hl:ts.length=fs.length) (h9:ts.length≤9):AZ env 23 [.lst 9 (cells ts) ts.length,.lst 3 (cells fs) fs.length] (.p (.agg (Enc.enc (JE ts fs)))):=by
 refine AZ.enter (AB (by decide)) Tryz.func23 rfl (by kernel_rfl) (by simp [Tryz.ntmps23]) ?_
 repeat' (first|apply Ae.assoc|apply Ae.AA|apply Ae.Ai|apply Ag.nil|apply Ag.one|(apply Aa.assign;rfl)|(apply Aa.alloc;rfl)|(apply Aa.Bj;rfl;rfl;rfl;trivial;rfl;rfl;exact Ac rfl;exact le_dec rfl)|(apply Aa.build;rfl;rfl;rfl;rfl;rfl)|(apply Aa.buildSlice;rfl;rfl;rfl;decide;rfl;rfl;rfl))
 all_goals try (exfalso;omega)
 refine Ae.ghost ((((AX.yJ 1 rfl (by decide)).trans (AX.iR 1 4 122 rfl rfl)).trans (AX.EF 2 1 131 rfl rfl))) ?_
 apply Ae.FD (ts.length) [(0,_),(1,_),(4,_),(5,_)] [(0,_)] (fun k r=>(6,.p (.int .i64 (k:Int)))::r) (fun k r=>(1,.Fh 97 [.p (.str (bs [71,114,101,97,116])),.p (.bool false),.p (.int .i64 36),.p (.int .i64 38),.vec 3 (EI fs k).length 0 (EI fs k).length] 1)::(2,.box 37 [.p (.str (bs [79])),.vec 4 (FM ts fs k).length 0 (FM ts fs k).length,.vec 1 1 0 1,.p (.val (.slice none 0 0))])::(3,.vec 122 (cells (EI fs k)) (EI fs k).length true)::(4,.vec 131 (cells (FM ts fs k)) (FM ts fs k).length true)::r) 5
 ·first|omega|decide
 ·first|omega|decide
 ·repeat (first|exact Ad.nil|(refine Ad.eq rfl ?_ ?_;(first|exact PV.Ap rfl|(simp [PV.under,AV.under];done)))|refine Ad.cons trivial rfl (.of_eq (Au (by simp<;>omega))) ?_)
 ·repeat (first|exact Aj.nil|(refine Aj.eq rfl (Ac rfl) ?_ ?_;(first|exact HB.Ap rfl|exact AV.Ah _ _|(simp [HB.under,AV.under,PV.under];done)))|(refine Aj.cons (Ac rfl) ?_ rfl ?_ ?_;(first|exact trivial|exact AV.Ah _ _|(simp [HB.under,AV.under,PV.under]));(first|exact Bq.refl _|exact Bq.vec (Bl.refl _) (by simp))))
 ·intro k hk
  have a1:=iE fs k
  have a2:=jL ts fs k
  have a3:(EI fs (k+1)).length=(EI fs k).length+1:=by rw [a1];simp
  have a4:(FM ts fs (k+1)).length=(FM ts fs k).length+1:=by rw [a2];simp
  have a5:=Sr fs k
  have a6:=RX ts fs k
  repeat' (first|(refine Ak.atIdx 9 ?_;refine Ak.ghost (AX.freeze 37 rfl rfl) ?_)|(refine Ak.atIdx 12 ?_;refine Ak.ghost (AX.freeze 53 rfl rfl) ?_)|(refine Ak.atIdx 14 ?_;refine Ak.ghost (AX.freeze 55 rfl rfl) ?_)|(refine Ak.atIdx 16 ?_;apply Ak.weak [.tmp 42];decide +kernel;rfl;rfl;(first|exact DK.ref rfl|exact DK.vec rfl|exact DK.Dx rfl);decide +kernel;rfl)|apply Ae.assoc|apply Ae.AA|apply Ae.BA|apply Ae.region|apply Ae.EZ|apply Ae.Aq|apply Ae.Ai|apply AO.normal|apply AL.normal|apply Ag.nil|apply Ak.nil|apply Ag.one|(apply Ak.bar;decide +kernel)|apply Ak.quiet|(apply Aa.Dp (a:=Y7 k (gi ts k).t (gi fs k));rfl;rfl;rfl;rfl;rfl;rfl;rfl;rfl;(intro _ h;cases h);rfl;rfl;rfl;decide;decide;(first|omega|(simp only [List.length_take,List.length_drop,List.length_append,List.length_singleton,List.length_cons,List.length_nil]<;>omega)))|(apply Aa.Dp (a:=dO k (gi fs k));rfl;rfl;rfl;rfl;rfl;rfl;rfl;rfl;(intro _ h;cases h);rfl;rfl;rfl;decide;decide;(first|omega|(simp only [List.length_take,List.length_drop,List.length_append,List.length_singleton,List.length_cons,List.length_nil]<;>omega)))|(apply Aa.xM;rfl;rfl;rfl;rfl;rfl;decide;omega)|(apply Aa.AU (l:=ts) (i:=k);rfl;rfl;rfl;exact hk;rfl)|(apply Aa.AU (l:=fs) (i:=k);rfl;rfl;rfl;omega;rfl)|(apply Aa.a1j (i:=0);rfl;rfl;rfl;rfl;decide)|(apply Aa.a1t;rfl;rfl;rfl)|(apply Aa.a4g;rfl;rfl;rfl;rfl)|(apply Aa.a2e;rfl;rfl;rfl;trivial;rfl;rfl;decide;(simp only [List.length_cons,List.length_nil]<;>decide))|(apply Aa.assign;rfl)|(apply Aa.move;rfl)|(apply Aa.Bz;rfl;rfl;omega)|(apply Aa.a6u;rfl;rfl;omega)|(apply Aa.int;rfl;rfl;rfl)|(apply Aa.load;rfl;rfl)|(apply Aa.BL;rfl;rfl)|(apply Aa.AP;rfl;rfl;rfl)|(apply Aa.alloc;rfl)|(apply Aa.Bj;rfl;rfl;rfl;trivial;rfl;rfl;exact Ac rfl;exact le_dec rfl)|(apply Aa.build;rfl;rfl;rfl;rfl;rfl)|(apply Aa.buildSlice;rfl;rfl;rfl;decide;rfl;rfl;rfl)|(apply Aa.KY;rfl;rfl;rfl;rfl;omega)|(apply Ae.Af;rfl)|(intro _;try (exfalso;omega)))
  all_goals try (exfalso;omega)
  refine Az.normal ⟨by omega,?_,?_⟩
  ·repeat (first|exact Ad.nil|refine Ad.same trivial rfl ?_|refine Ad.same (Ac rfl) rfl ?_|refine Ad.same ⟨trivial,Ac rfl,trivial⟩ rfl ?_|refine Ad.same ⟨trivial,Ac rfl,Ac rfl,trivial⟩ rfl ?_|refine Ad.same ⟨trivial,Ac rfl,Ac rfl,Ac rfl,trivial⟩ rfl ?_|refine Ad.same ⟨trivial,Ac rfl,Ac rfl,Ac rfl,Ac rfl,trivial⟩ rfl ?_|refine Ad.same ⟨trivial,trivial⟩ rfl ?_|refine Ad.cons trivial rfl (.of_eq (Au (by simp<;>omega))) ?_)
  ·rw [a3,a4,a1,a2]
   repeat (first|exact Aj.nil|(refine Aj.cons (Ac rfl) ?_ rfl ?_ ?_;(first|exact HB.Ap rfl|exact AV.Ah _ _|(simp [HB.under,AV.under,PV.under]));(first|exact Bq.refl _|exact Bq.vec (Bl.refl _) (by simp))))
 ·repeat' (first|(refine Ae.at 9 ?_;refine Ae.ghost (((((AX.ZY 1 4 rfl rfl rfl).trans (AX.tH 1 (cells [Xa (EI fs ts.length)]) rfl (by decide) rfl)).trans (AX.Bh 2 2 rfl rfl rfl)).trans (AX.Bh 2 1 rfl rfl rfl))) ?_;first|apply Ae.AA|apply Ae.BA)|apply Ae.assoc|apply Ae.AA|apply Ae.A8|apply AO.normal|apply AL.exit|apply Az.exit|apply Ae.ret|apply Ag.nil|apply Ag.one|(apply Aa.move;rfl)|(apply Aa.int;rfl;rfl;rfl)|(apply Aa.load;rfl;rfl)|(apply Aa.BL;rfl;rfl)|(apply Aa.Bj;rfl;rfl;rfl;trivial;rfl;rfl;exact Ac rfl;exact le_dec rfl)|(apply Ae.Af;rfl)|(intro _;try (exfalso;omega)))
  all_goals try (exfalso;omega)
  all_goals (refine Done.ret (r:=.p (.agg (Enc.enc (JE ts fs)))) rfl (.p (.agg (.cons (.refl _) (.cons (.refl _) (.cons (.refl _) (.cons (.nil _) (.refl _))))))) trivial Aj.nil (Nat.zero_le _) (Nat.le_refl _) ⟨rfl,rfl,rfl⟩)
end Go.Proofs.YtdabojnmoejilaaGreatDoor
namespace Go.Proofs.YtdabojnmoejilaaGreatDoor
open Go Go.Am Go.Vm
instance a8v:Enc (List Int):={ default:=[],enc:=fun l=>[.lst 3 (cells l) l.length],size:=1,len:=fun _=>rfl }
attribute [local irreducible] Aa Ag Ak Ae BH AZ CW AO AL Az Vm.Done Di Bv
theorem bC (n:Nat) (hn:n<4294967296):AZ env 120 [.int .u64 1,.int .u64 (n:Int)] (.Fp [.p (.int .u64 0),.p (.int .u64 (n:Int))]):=by
 have e1:n &&& 4294967295=n:=by
  have:=Nat.and_two_pow_sub_one_eq_mod n 32
  rw [show (2 ^ 32-1:Nat)=4294967295 from rfl] at this
  rw [this]
  exact Nat.mod_eq_of_lt (by simpa using hn)
 have hA1:EO .and .u64 (n:Int) 4294967295=some (.int .u64 (n:Int)):=by
  have h0:=bits_and_u64_nat n 4294967295 (by omega) (by omega)
  rw [e1] at h0
  exact congrArg (fun x=>some (FV.int .u64 x)) h0
 have hA2:EO .mul .u64 1 (n:Int)=some (.int .u64 (n:Int)):=by
  simp only [EO,Int.one_mul];rw [wrap_u64 (by omega) (by omega)]
 have hZ:EO .mul .u64 0 (n:Int)=some (.int .u64 0):=by
  simp only [EO,Int.zero_mul];rfl
 have hS:∀ a:Int,0≤a→a<4294967296→(FV.int .u64 0)=if BinOp.shr=.shl then FV.int .u64 (IntKind.u64.wrap (a*2 ^ (min (32:Int).toNat IntKind.u64.bits))) else .int .u64 (a.fdiv (2 ^ (min (32:Int).toNat IntKind.u64.bits))):=fun a h0 h1=>by
  rw [if_neg (by decide)]
  have e3:(min (32:Int).toNat IntKind.u64.bits)=32:=rfl
  rw [e3,Int.fdiv_eq_ediv_of_nonneg _ (by decide)]
  have:a / 2 ^ 32=0:=by omega
  rw [this]
 have k1:EO .and .u64 1 4294967295=some (.int .u64 1):=rfl
 have k2:EO .and .u64 0 4294967295=some (.int .u64 0):=rfl
 have k3:EO .mul .u64 1 0=some (.int .u64 0):=rfl
 have k4:EO .mul .u64 0 0=some (.int .u64 0):=rfl
 have k5:EO .add .u64 0 0=some (.int .u64 0):=rfl
 refine AZ.enter (AB (by decide)) Tryz.func120 rfl (by kernel_rfl) (by simp [Tryz.ntmps120]) ?_
 repeat' (first|apply Ae.AA|apply Ae.ret|apply Ag.nil|apply Ag.one|(apply Aa.shift (r:=.int .u64 0);exact .inr rfl;rfl;rfl;decide;exact hS _ (by omega) (by omega))|(apply Aa.int;rfl;rfl;exact hA1)|(apply Aa.int;rfl;rfl;exact hA2)|(apply Aa.int;rfl;rfl;exact hZ)|(apply Aa.int;rfl;rfl;exact k1)|(apply Aa.int;rfl;rfl;exact k2)|(apply Aa.assign;rfl)|(apply Aa.move;rfl))
 (refine Done.ret rfl (.refl _) (by first|exact trivial|exact ⟨trivial,trivial,trivial⟩|exact ⟨trivial,trivial,trivial,trivial⟩) Aj.nil (Nat.zero_le _) (Nat.le_refl _) ⟨?_,rfl,rfl⟩;try rfl)
theorem nR (n:Nat) (hn:n<4294967296):AZ env 100 [.int .u64 1,.int .u64 (n:Int)] (.Fp [.p (.int .u64 0),.p (.int .u64 (n:Int))]):=by
 have h:=bC n hn
 refine AZ.enter (AB (by decide)) Tryz.func100 rfl (by kernel_rfl) (by simp [Tryz.ntmps100]) ?_
 repeat' (first|apply Ae.AA|apply Ae.Aq|apply Ae.ret|apply Ag.nil|apply Ag.one|(apply Aa.fn;rfl;rfl;exact h;intro _;rfl)|(apply Aa.assign;rfl)|(apply Aa.move;rfl)|(apply Aa.extract;rfl;rfl)|(apply Ae.Ar;rfl))
 (refine Done.ret rfl (.refl _) (by first|exact trivial|exact ⟨trivial,trivial,trivial⟩|exact ⟨trivial,trivial,trivial,trivial⟩) Aj.nil (Nat.zero_le _) (Nat.le_refl _) ⟨?_,rfl,rfl⟩;try rfl)
def OH (n k:Nat) (v:Int):List Int:=List.replicate k v++List.replicate (n-k) 0
theorem Q8 (n k:Nat) (v:Int) (h:k≤n):(OH n k v).length=n:=by simp [OH];omega
theorem uj (n:Nat) (v:Int):OH n n v=List.replicate n v:=by simp [OH]
theorem um (n:Nat) (v:Int) (h:0<n):Ce (cells (List.replicate n (0:Int))) 0 [FV.int .i64 v]=cells (OH n 1 v):=by
 have:=QM (List.replicate n (0:Int)) [v] 0 (by simp;omega)
 rw [Nat.zero_mul] at this
 show Ce (cells (List.replicate n (0:Int))) 0 (cells [v])=_
 rw [this]
 congr 1
 simp [OH]
theorem yS (n k:Nat) (v:Int) (h:k≤n):0+k*1≤(cells (OH n k v)).length:=by
 rw [BR,Q8 n k v h]
 show 0+k*1≤n*1
 omega
theorem wY (n k:Nat) (v:Int) (h:k≤n):cells (List.replicate (min k (n-k)) v)=((cells (OH n k v)).drop 0).take (min k (n-k)*1):=by
 have:=JJ (OH n k v) (min k (n-k))
 rw [List.drop_zero]
 refine Eq.trans ?_ this.symm
 congr 1
 unfold OH
 rw [List.take_append_of_le_length (by simp;omega),List.take_replicate]
 congr 1
 omega
theorem yC (n k:Nat) (v:Int):(cells (List.replicate (min k (n-k)) v)).length=min k (n-k)*1:=by
 rw [BR,List.length_replicate];rfl
theorem pF (n k:Nat) (v:Int) (h:k≤n):0+k*1+min k (n-k)*1≤(cells (OH n k v)).length:=by
 rw [BR,Q8 n k v h]
 show _≤n*1
 omega
theorem uS (n k:Nat) (v:Int) (h:k≤n):Ce (cells (OH n k v)) (0+k*1) (cells (List.replicate (min k (n-k)) v))=cells (OH n (k+min k (n-k)) v):=by
 have:=QM (OH n k v) (List.replicate (min k (n-k)) v) k (by rw [Q8 n k v h];simp;omega)
 rw [Nat.zero_add]
 refine Eq.trans this ?_
 congr 1
 unfold OH
 rw [List.take_append_of_le_length (by simp),List.take_replicate,Nat.min_self,List.length_replicate,List.drop_append,List.drop_of_length_le (by simp),List.length_replicate,List.nil_append,List.drop_replicate,List.replicate_append_replicate]
 congr 2
 omega
theorem TL (e:TypeId) (v:Int) (n:Nat) (h0:0<n) (hn:n<1000000):CW env 71 [.lst e [.int .i64 v] 1,.int .i64 (n:Int)] 3 (cells (List.replicate n v)) n false:=by
 have hm:=nR n (by omega)
 refine CW.enter (AB (by decide)) Tryz.func71 rfl (by kernel_rfl) (by simp [Tryz.ntmps71]) ?_
 repeat' (first|apply Ae.assoc|apply Ae.AA|apply Ae.Aq|apply Ae.Ai|apply Ag.nil|apply Ag.one|(apply Ag.take;rfl;rfl)|(apply Aa.fn;rfl;rfl;exact hm;intro _;rfl)|(apply Aa.Ep n (0:Int);rfl;rfl;rfl;rfl;rfl;rfl;rfl;omega;decide;decide;rfl)|(apply Aa.copy (k:=1) (N:=1) (xs:=[.int .i64 v]);rfl;rfl;exact h0;rfl;rfl;decide;exact SlT.lst rfl rfl (Nat.le_refl 1) rfl;omega;decide;rfl;(rw [BR,List.length_replicate];show 0+1*1≤n*1;omega))|(apply Aa.assign;rfl)|(apply Aa.move;rfl)|(apply Aa.int;rfl;rfl;rfl)|(apply Aa.AQ;rfl;rfl)|(apply Aa.BL;rfl;rfl)|(apply Aa.extract;rfl;rfl)|(apply Aa.Hr;rfl;rfl;rfl;rfl;omega)|(apply Aa.TF;rfl;rfl;rfl;rfl;omega)|(apply Ae.Ar;rfl)|(apply Ae.Af;rfl)|(intro _;try (exfalso;omega)))
 all_goals try (exfalso;omega)
 refine Ae.Ec (fun k:Nat=>[(7,.vec 0 n 0 n),(8,.p (.int .i64 (k:Int)))]) (fun k=>[(0,.vec 3 (cells (OH n k v)) n false)]) 1 (fun k=>1≤k∧k≤n) (fun k=>n-k) 1 (by omega) ⟨by omega,by omega⟩ ⟨by omega,?_,?_⟩ ?_
 ·repeat (first|exact Ad.nil|refine Ad.same trivial rfl ?_|refine Ad.same (Ac rfl) rfl ?_|refine Ad.same ⟨trivial,Ac rfl,Ac rfl,Ac rfl,trivial⟩ rfl ?_|refine Ad.same ⟨trivial,Ac rfl,Ac rfl,trivial⟩ rfl ?_|refine Ad.same ⟨trivial,trivial⟩ rfl ?_|refine Ad.cons trivial rfl (.of_eq (Au (by simp<;>omega))) ?_)
 ·have:=um n v h0
  rw [this]
  repeat (first|exact Aj.nil|(refine Aj.cons (Ac rfl) ?_ rfl ?_ ?_;(first|exact HB.Ap rfl|exact AV.Ah _ _|(simp [HB.under,AV.under,PV.under]));(first|exact Bq.refl _|exact Bq.vec (Bl.refl _) (by simp))))
 ·rintro k ⟨k1,k2⟩
  have hl:=Q8 n k v k2
  by_cases hk:k<n
  ·repeat' (first|apply Ae.assoc|apply Ae.AA|apply Ae.EZ|apply Ae.Aq|apply AL.normal|apply Ae.IE|apply Ag.nil|apply Ak.nil|apply Ag.one|(apply Ak.bar;decide +kernel)|apply Ak.quiet|(apply Aa.ZA (sz:=1) (a:=k) (c:=n);rfl;rfl;exact h0;rfl;rfl;rfl;exact ⟨_,rfl⟩;rfl;omega;exact Nat.le_refl _)|(apply Aa.ZA (sz:=1) (a:=0) (c:=k);rfl;rfl;exact h0;rfl;rfl;rfl;rfl;exact ⟨_,rfl⟩;omega;exact k2)|(apply Aa.copy (k:=min k (n-k)) (N:=k) (xs:=cells (List.replicate (min k (n-k)) v));rfl;rfl;exact h0;rfl;rfl;decide;exact SlT.vec rfl rfl h0 (yS n k v k2) (by omega) (wY n k v k2);rfl;omega;exact yC n k v;exact pF n k v k2)|(apply Aa.assign;rfl)|(apply Aa.move;rfl)|(apply Aa.Bz;rfl;rfl;omega)|(apply Aa.int;rfl;rfl;rfl)|(apply Aa.lenV;rfl;rfl;rfl)|(apply Ae.Af;rfl)|(intro _;try (exfalso;omega)))
   refine Az.normal ⟨k+min k (n-k),⟨by omega,by omega⟩,by omega,⟨by omega,?_,?_⟩⟩
   ·repeat (first|exact Ad.nil|refine Ad.same trivial rfl ?_|refine Ad.same (Ac rfl) rfl ?_|refine Ad.same ⟨trivial,Ac rfl,Ac rfl,Ac rfl,trivial⟩ rfl ?_|refine Ad.same ⟨trivial,Ac rfl,Ac rfl,trivial⟩ rfl ?_|refine Ad.same ⟨trivial,trivial⟩ rfl ?_|refine Ad.cons trivial rfl (.of_eq (Au (by simp<;>omega))) ?_)
   ·rw [uS n k v k2]
    repeat (first|exact Aj.nil|(refine Aj.cons (Ac rfl) ?_ rfl ?_ ?_;(first|exact HB.Ap rfl|exact AV.Ah _ _|(simp [HB.under,AV.under,PV.under]));(first|exact Bq.refl _|exact Bq.vec (Bl.refl _) (by simp))))
  ·obtain rfl:k=n:=by omega
   repeat' (first|apply Ae.assoc|apply Ae.AA|apply Ae.A8|apply AO.normal|apply AL.exit|apply Az.exit|apply Ae.ret|apply Ag.nil|apply Ag.one|(apply Aa.assign;rfl)|(apply Aa.move;rfl)|(apply Aa.int;rfl;rfl;rfl)|(apply Aa.lenV;rfl;rfl;rfl)|(apply Ae.Af;rfl)|(intro _;try (exfalso;omega)))
   rw [uj]
   exact Di.ret rfl rfl rfl rfl
end Go.Proofs.YtdabojnmoejilaaGreatDoor
namespace Go.Proofs.YtdabojnmoejilaaGreatDoor
open Go Go.Am Go.Vm Go.Tra
attribute [local irreducible] Aa Ag Ak Ae BH AZ CW AO AL Az Vm.Done Di Bv
attribute [local irreducible] D8 DW Jp KJ SV Cb
def qE (F T:EY) (a b:PN):Int:=(Cb (Fe T b).Du (Fe F a).Du).1
def ShB (F T:EY):Prop:=∀ a b,Hq F a→Hq T b→(Cb (Fe T b).Du (Fe F a).Du).2=0∧-1000≤qE F T a b∧qE F T a b≤1000
def Je (F T:EY) (w:ZU) (a b:PN):Int :=
 (if MQ F a=MQ T b then 0 else w.EC)+w.FN*max (qE F T a b) (-qE F T a b)+(if (gi F.Aw a.d).Dn=(gi T.Aw b.d).Dn then 0 else w.Dn)
theorem NC {w:ZU} (h:MO w):(0≤w.EC∧w.EC≤100000)∧(0≤w.FN∧w.FN≤100000)∧(0≤w.Dn∧w.Dn≤100000)∧(0≤w.miss∧w.miss≤100000):=⟨h 0 (by omega),h 1 (by omega),h 2 (by omega),h 3 (by omega)⟩
theorem NW {w:ZU} (h:MO w) {n:Int} (h1:-1000≤n) (h2:n≤1000):0≤w.FN*max n (-n)∧w.FN*max n (-n)≤100000000:=by
 obtain ⟨_,⟨p1,p2⟩,_,_⟩:=NC h
 have m1:0≤max n (-n):=by omega
 have m2:max n (-n)≤1000:=by omega
 refine ⟨Int.mul_nonneg p1 m1,?_⟩
 have:=Int.mul_le_mul p2 m2 m1 (by omega)
 omega
theorem jE {F T:EY} {w:ZU} (h:MO w) (hs:ShB F T) {a b:PN} (ha:Hq F a) (hb:Hq T b):0≤Je F T w a b∧Je F T w a b≤101000000:=by
 obtain ⟨t,_,p,_⟩:=NC h
 obtain ⟨_,s1,s2⟩:=hs a b ha hb
 have:=NW h s1 s2
 unfold Je
 generalize w.FN*max (qE F T a b) (-qE F T a b)=P at *
 split<;>split<;>omega
theorem jH (q:Ri) (k1:Jl q.BF) (k2:Jl q.tgt) (hw:MO q.DV) (hs:ShB q.BF q.tgt) (a b:PN) (ha:Hq q.BF a) (hb:Hq q.tgt b) :
 AZ env 66 [.agg (Enc.enc q),.agg (Enc.enc a),.agg (Enc.enc b)] (.Fp [.p (.int .i64 (Je q.BF q.tgt q.DV a b)),.p (.int .i64 0)]):=by
 obtain ⟨t,_,p,_⟩:=NC hw
 obtain ⟨s0,s1,s2⟩:=hs a b ha hb
 have hP:=NW hw s1 s2
 have h1:=WV q.BF k1 a ha
 have h2:=WV q.tgt k2 b hb
 have h3:=P5 q.BF k1 a ha
 have h4:=P5 q.tgt k2 b hb
 have h5:=Kr (Fe q.tgt b).Du (Fe q.BF a).Du
 rw [s0,show (Cb (Fe q.tgt b).Du (Fe q.BF a).Du).1=qE q.BF q.tgt a b from rfl] at h5
 unfold Je
 generalize qE q.BF q.tgt a b=n at *
 generalize hPP:q.DV.FN*max n (-n)=P at *
 have hmul:-9223372036854775808≤q.DV.FN*max n (-n)∧q.DV.FN*max n (-n)<9223372036854775808:=by rw [hPP];omega
 obtain ⟨a1,a2⟩:=ha
 obtain ⟨b1,b2⟩:=hb
 refine AZ.enter (AB (by decide)) Tryz.func66 rfl (by kernel_rfl) (by simp [Tryz.ntmps66]) ?_
 by_cases e1:MQ q.BF a=MQ q.tgt b
 ·rw [if_pos e1]
  have d1:=decide_eq_true e1
  by_cases e2:(gi q.BF.Aw a.d).Dn=(gi q.tgt.Aw b.d).Dn
  ·rw [if_pos e2]
   have d2:((gi q.BF.Aw a.d).Dn != (gi q.tgt.Aw b.d).Dn)=false:=by rw [e2];simp
   repeat' (first|apply Ae.assoc|apply Ae.AA|apply Ae.BA|apply Ae.Aq|apply Ae.ret|apply Ag.nil|apply Ak.nil|apply Ag.one|(apply Ak.bar;decide +kernel)|apply Ak.quiet|(apply Aa.fn;rfl;rfl;exact h1;intro _;rfl)|(apply Aa.fn;rfl;rfl;exact h2;intro _;rfl)|(apply Aa.fn;rfl;rfl;exact h3;intro _;rfl)|(apply Aa.fn;rfl;rfl;exact h4;intro _;rfl)|(apply Aa.fn;rfl;rfl;exact h5;intro _;rfl)|(apply Aa.WI;rfl;rfl;rfl;rfl)|(apply Aa.dD;rfl;rfl;exact d1)|(apply Aa.dN;rfl;rfl;rfl;exact d2)|(apply Aa.Iu;rfl;rfl;exact hmul)|(apply Aa.AU (l:=q.BF.Aw) (i:=a.d);rfl;rfl;rfl;exact a1;rfl)|(apply Aa.AU (l:=q.tgt.Aw) (i:=b.d);rfl;rfl;rfl;exact b1;rfl)|(apply Aa.assign;rfl)|(apply Aa.move;rfl)|(apply Aa.Bz;rfl;rfl;omega)|(apply Aa.int;rfl;rfl;rfl)|(apply Aa.load;rfl;rfl)|(apply Aa.AP;rfl;rfl;rfl)|(apply Aa.DC;rfl;rfl)|(apply Aa.box;rfl;trivial)|(apply Aa.neg;rfl;omega)|(apply Aa.Xk;rfl;rfl)|(apply Aa.extract;rfl;rfl)|(apply Ae.Ar;rfl))
   all_goals try (exfalso;omega)
   all_goals (refine Done.ret rfl (.refl _) (by first|exact trivial|exact ⟨trivial,trivial,trivial⟩|exact ⟨trivial,trivial,trivial,trivial⟩) Aj.nil (Nat.zero_le _) (Nat.le_refl _) ⟨?_,rfl,rfl⟩;refine congrArg (fun x=>PV.Fp [PV.p (FV.int .i64 x),PV.p (FV.int .i64 0)]) ?_;omega)
  ·rw [if_neg e2]
   have d2:((gi q.BF.Aw a.d).Dn != (gi q.tgt.Aw b.d).Dn)=true:=by simp [e2]
   repeat' (first|apply Ae.assoc|apply Ae.AA|apply Ae.BA|apply Ae.Aq|apply Ae.ret|apply Ag.nil|apply Ak.nil|apply Ag.one|(apply Ak.bar;decide +kernel)|apply Ak.quiet|(apply Aa.fn;rfl;rfl;exact h1;intro _;rfl)|(apply Aa.fn;rfl;rfl;exact h2;intro _;rfl)|(apply Aa.fn;rfl;rfl;exact h3;intro _;rfl)|(apply Aa.fn;rfl;rfl;exact h4;intro _;rfl)|(apply Aa.fn;rfl;rfl;exact h5;intro _;rfl)|(apply Aa.WI;rfl;rfl;rfl;rfl)|(apply Aa.dD;rfl;rfl;exact d1)|(apply Aa.dN;rfl;rfl;rfl;exact d2)|(apply Aa.Iu;rfl;rfl;exact hmul)|(apply Aa.AU (l:=q.BF.Aw) (i:=a.d);rfl;rfl;rfl;exact a1;rfl)|(apply Aa.AU (l:=q.tgt.Aw) (i:=b.d);rfl;rfl;rfl;exact b1;rfl)|(apply Aa.assign;rfl)|(apply Aa.move;rfl)|(apply Aa.Bz;rfl;rfl;omega)|(apply Aa.int;rfl;rfl;rfl)|(apply Aa.load;rfl;rfl)|(apply Aa.AP;rfl;rfl;rfl)|(apply Aa.DC;rfl;rfl)|(apply Aa.box;rfl;trivial)|(apply Aa.neg;rfl;omega)|(apply Aa.Xk;rfl;rfl)|(apply Aa.extract;rfl;rfl)|(apply Ae.Bg;rfl)|(apply Ae.Ar;rfl))
   all_goals try (exfalso;omega)
   all_goals (refine Done.ret rfl (.refl _) (by first|exact trivial|exact ⟨trivial,trivial,trivial⟩|exact ⟨trivial,trivial,trivial,trivial⟩) Aj.nil (Nat.zero_le _) (Nat.le_refl _) ⟨?_,rfl,rfl⟩;refine congrArg (fun x=>PV.Fp [PV.p (FV.int .i64 x),PV.p (FV.int .i64 0)]) ?_;omega)
 ·rw [if_neg e1]
  have d1:=decide_eq_false e1
  by_cases e2:(gi q.BF.Aw a.d).Dn=(gi q.tgt.Aw b.d).Dn
  ·rw [if_pos e2]
   have d2:((gi q.BF.Aw a.d).Dn != (gi q.tgt.Aw b.d).Dn)=false:=by rw [e2];simp
   repeat' (first|apply Ae.assoc|apply Ae.AA|apply Ae.BA|apply Ae.Aq|apply Ae.ret|apply Ag.nil|apply Ak.nil|apply Ag.one|(apply Ak.bar;decide +kernel)|apply Ak.quiet|(apply Aa.fn;rfl;rfl;exact h1;intro _;rfl)|(apply Aa.fn;rfl;rfl;exact h2;intro _;rfl)|(apply Aa.fn;rfl;rfl;exact h3;intro _;rfl)|(apply Aa.fn;rfl;rfl;exact h4;intro _;rfl)|(apply Aa.fn;rfl;rfl;exact h5;intro _;rfl)|(apply Aa.WI;rfl;rfl;rfl;rfl)|(apply Aa.dD;rfl;rfl;exact d1)|(apply Aa.dN;rfl;rfl;rfl;exact d2)|(apply Aa.Iu;rfl;rfl;exact hmul)|(apply Aa.AU (l:=q.BF.Aw) (i:=a.d);rfl;rfl;rfl;exact a1;rfl)|(apply Aa.AU (l:=q.tgt.Aw) (i:=b.d);rfl;rfl;rfl;exact b1;rfl)|(apply Aa.assign;rfl)|(apply Aa.move;rfl)|(apply Aa.Bz;rfl;rfl;omega)|(apply Aa.int;rfl;rfl;rfl)|(apply Aa.load;rfl;rfl)|(apply Aa.AP;rfl;rfl;rfl)|(apply Aa.DC;rfl;rfl)|(apply Aa.box;rfl;trivial)|(apply Aa.neg;rfl;omega)|(apply Aa.Xk;rfl;rfl)|(apply Aa.extract;rfl;rfl)|(apply Ae.Bg;rfl)|(apply Ae.Ar;rfl))
   all_goals try (exfalso;omega)
   all_goals (refine Done.ret rfl (.refl _) (by first|exact trivial|exact ⟨trivial,trivial,trivial⟩|exact ⟨trivial,trivial,trivial,trivial⟩) Aj.nil (Nat.zero_le _) (Nat.le_refl _) ⟨?_,rfl,rfl⟩;refine congrArg (fun x=>PV.Fp [PV.p (FV.int .i64 x),PV.p (FV.int .i64 0)]) ?_;omega)
  ·rw [if_neg e2]
   have d2:((gi q.BF.Aw a.d).Dn != (gi q.tgt.Aw b.d).Dn)=true:=by simp [e2]
   repeat' (first|apply Ae.assoc|apply Ae.AA|apply Ae.BA|apply Ae.Aq|apply Ae.ret|apply Ag.nil|apply Ak.nil|apply Ag.one|(apply Ak.bar;decide +kernel)|apply Ak.quiet|(apply Aa.fn;rfl;rfl;exact h1;intro _;rfl)|(apply Aa.fn;rfl;rfl;exact h2;intro _;rfl)|(apply Aa.fn;rfl;rfl;exact h3;intro _;rfl)|(apply Aa.fn;rfl;rfl;exact h4;intro _;rfl)|(apply Aa.fn;rfl;rfl;exact h5;intro _;rfl)|(apply Aa.WI;rfl;rfl;rfl;rfl)|(apply Aa.dD;rfl;rfl;exact d1)|(apply Aa.dN;rfl;rfl;rfl;exact d2)|(apply Aa.Iu;rfl;rfl;exact hmul)|(apply Aa.AU (l:=q.BF.Aw) (i:=a.d);rfl;rfl;rfl;exact a1;rfl)|(apply Aa.AU (l:=q.tgt.Aw) (i:=b.d);rfl;rfl;rfl;exact b1;rfl)|(apply Aa.assign;rfl)|(apply Aa.move;rfl)|(apply Aa.Bz;rfl;rfl;omega)|(apply Aa.int;rfl;rfl;rfl)|(apply Aa.load;rfl;rfl)|(apply Aa.AP;rfl;rfl;rfl)|(apply Aa.DC;rfl;rfl)|(apply Aa.box;rfl;trivial)|(apply Aa.neg;rfl;omega)|(apply Aa.Xk;rfl;rfl)|(apply Aa.extract;rfl;rfl)|(apply Ae.Bg;rfl)|(apply Ae.Ar;rfl))
   all_goals try (exfalso;omega)
   all_goals (refine Done.ret rfl (.refl _) (by first|exact trivial|exact ⟨trivial,trivial,trivial⟩|exact ⟨trivial,trivial,trivial,trivial⟩) Aj.nil (Nat.zero_le _) (Nat.le_refl _) ⟨?_,rfl,rfl⟩;refine congrArg (fun x=>PV.Fp [PV.p (FV.int .i64 x),PV.p (FV.int .i64 0)]) ?_;omega)
def J9 (F T:EY) (w:ZU) (a:PN) (k:Nat):List Int:=((BI T).take k).map (Je F T w a)
theorem Q9 (F T:EY) (w:ZU) (a:PN) {k:Nat} (h:k≤(BI T).length):(J9 F T w a k).length=k:=by unfold J9;rw [List.length_map,List.length_take];omega
theorem X8 (F T:EY) (w:ZU) (a:PN) {k:Nat} (h:k<(BI T).length):J9 F T w a (k+1)=J9 F T w a k++[Je F T w a (gi (BI T) k)]:=by unfold J9;rw [DL h,List.map_append];rfl
def FW (F T:EY) (r:Rgs) (w:ZU) (k:Nat):List (List Int):=((Bc F r).take k).map fun a=>J9 F T w a (BI T).length
def KA (F T:EY) (r:Rgs) (w:ZU):List (List Int):=(Bc F r).map fun a=>(BI T).map (Je F T w a)
theorem XP (F T:EY) (r:Rgs) (w:ZU) {k:Nat} (h:k≤(Bc F r).length):(FW F T r w k).length=k:=by unfold FW;rw [List.length_map,List.length_take];omega
theorem U5 (F T:EY) (r:Rgs) (w:ZU) {k:Nat} (h:k<(Bc F r).length):FW F T r w (k+1)=FW F T r w k++[J9 F T w (gi (Bc F r) k) (BI T).length]:=by unfold FW;rw [DL h,List.map_append];rfl
theorem Yf (F T:EY) (r:Rgs) (w:ZU):FW F T r w (Bc F r).length=KA F T r w:=by
 unfold FW KA J9
 rw [List.take_of_length_le (Nat.le_refl _),List.take_of_length_le (Nat.le_refl _)]
theorem Xt (q:Ri) (k1:Jl q.BF) (k2:Jl q.tgt) (hw:MO q.DV) (hs:ShB q.BF q.tgt) (hr:q.reg.Ok) (hl:q.reg.stops.length=q.BF.Aw.length) :
 AZ env 43 [.agg (Enc.enc q)] (.Fp [.p (.lst 52 (cells (KA q.BF q.tgt q.reg q.DV)) (KA q.BF q.tgt q.reg q.DV).length),.p (.int .i64 0)]):=by
 have hdr:=Ue q.BF k1 q.reg hr hl
 have b1:=ER k2
 have b2:(Bc q.BF q.reg).length≤480:=by
  have:=ER k1
  have:(Bc q.BF q.reg).length≤(BI q.BF).length:=List.length_filter_le _ _
  omega
 refine AZ.enter (AB (by decide)) Tryz.func43 rfl (by kernel_rfl) (by simp [Tryz.ntmps43]) ?_
 repeat' (first|apply Ae.assoc|apply Ae.AA|apply Ae.Ai|apply Ag.nil|apply Ag.one|(apply Aa.fn;rfl;rfl;exact hdr;intro _;rfl)|(apply Aa.assign;rfl)|(apply Aa.move;rfl)|(apply Aa.load;rfl;rfl)|(apply Aa.BL;rfl;rfl)|(apply Aa.AP;rfl;rfl;rfl)|(apply Aa.box;rfl;trivial)|(apply Aa.alloc;rfl))
 all_goals try (exfalso;omega)
 refine Ae.ghost (AX.adopt 4 52 rfl) ?_
 apply Ae.FD ((Bc q.BF q.reg).length) [(1,_),(2,_),(3,_),(15,_),(16,_)] [(0,_),(1,_),(2,_)] (fun k r=>(4,.vec 3 (FW q.BF q.tgt q.reg q.DV k).length 0 (FW q.BF q.tgt q.reg q.DV k).length)::(17,.p (.int .i64 (k:Int)))::r) (fun k r=>(3,.vec 52 (cells (FW q.BF q.tgt q.reg q.DV k)) (FW q.BF q.tgt q.reg q.DV k).length true)::r) 4
 ·first|omega|decide
 ·first|omega|decide
 ·repeat (first|exact Ad.nil|(refine Ad.eq rfl ?_ ?_;(first|exact PV.Ap rfl|(simp [PV.under,AV.under];done)))|refine Ad.cons trivial rfl (.of_eq (Au (by simp<;>omega))) ?_)
 ·repeat (first|exact Aj.nil|(refine Aj.eq rfl (Ac rfl) ?_ ?_;(first|exact HB.Ap rfl|exact AV.Ah _ _|(simp [HB.under,AV.under,PV.under];done)))|(refine Aj.cons (Ac rfl) ?_ rfl ?_ ?_;(first|exact trivial|exact AV.Ah _ _|(simp [HB.under,AV.under,PV.under]));(first|exact Bq.refl _|exact Bq.vec (Bl.refl _) (by simp))))
 ·intro k hk
  have ha:Hq q.BF (gi (Bc q.BF q.reg) k):=RY (Y9 hk)
  have e1:=U5 q.BF q.tgt q.reg q.DV hk
  have e2:(FW q.BF q.tgt q.reg q.DV (k+1)).length=(FW q.BF q.tgt q.reg q.DV k).length+1:=by rw [e1];simp
  have e3:=XP q.BF q.tgt q.reg q.DV (Nat.le_of_lt hk)
  repeat' (first|apply Ae.assoc|apply Ae.AA|apply Ae.Aq|apply Ae.Ai|(apply Bv.ret;rfl)|apply Ae.ret|apply Ag.nil|apply Ag.one|(apply UO;rfl;rfl;rfl;exact le_dec rfl)|(apply Aa.makeFunc;rfl;rfl)|(apply Aa.assign;rfl)|(apply Aa.int;rfl;rfl;rfl)|(apply Aa.AU;rfl;rfl;rfl;omega;rfl)|(apply Aa.load;rfl;rfl)|(apply Aa.AP;rfl;rfl;rfl)|(apply Aa.box;rfl;trivial)|(apply Aa.alloc;rfl)|(apply Aa.Bj;rfl;rfl;rfl;trivial;rfl;rfl;exact Ac rfl;exact le_dec rfl)|(apply Aa.buildSlice;rfl;rfl;rfl;decide;rfl;rfl;rfl)|(apply Ae.Af;rfl)|(intro _;try (exfalso;omega)))
  all_goals try (exfalso;omega)
  refine Ae.WB (BI q.tgt).length (fun j=>[.agg (Enc.enc (gi (BI q.tgt) j))]) (fun j=>Vj (gi (BI q.tgt) j)) [(1,.ref 0 0),(2,.ref 1 0),(3,.ref 2 0),(4,.vec 3 (FW q.BF q.tgt q.reg q.DV k).length 0 (FW q.BF q.tgt q.reg q.DV k).length),(6,.ref 4 0),(7,.ref 6 0),(15,.p (.lst 85 (cells (Bc q.BF q.reg)) (Bc q.BF q.reg).length)),(16,.p (.int .i64 ((Bc q.BF q.reg).length:Int))),(17,.p (.int .i64 (k:Int)))]
   (fun j=>[(6,.box 52 [.vec 5 (J9 q.BF q.tgt q.DV (gi (Bc q.BF q.reg) k) j).length 0 (J9 q.BF q.tgt q.DV (gi (Bc q.BF q.reg) k) j).length]),(5,.vec 3 (cells (J9 q.BF q.tgt q.DV (gi (Bc q.BF q.reg) k) j)) (J9 q.BF q.tgt q.DV (gi (Bc q.BF q.reg) k) j).length false),(4,.box 85 ((Enc.enc (gi (Bc q.BF q.reg) k)).map .p)),
    (3,.vec 52 (cells (FW q.BF q.tgt q.reg q.DV k)) (FW q.BF q.tgt q.reg q.DV k).length true),(0,.box 45 ((Enc.enc q).map .p)),(1,.box 47 [.p (.val (.slice none 0 0))]),(2,.box 48 [.p (.int .i64 0)])]) 7 (fun _=>True)
   rfl rfl Tryz.func81 rfl Yn (Yk q.tgt) (fun _ _=>rfl) (fun _ _=>rfl) (fun k _ m F=>.cons (.agg (.cons (.int _ _) (.cons (.int _ _) .nil)) rfl) .nil) (by omega) ⟨by omega,?_,?_⟩ ?_ (Wy k2) trivial ?_ ?_
  ·repeat (first|exact Ad.nil|refine Ad.same trivial rfl ?_|refine Ad.same (Ac rfl) rfl ?_|refine Ad.same ⟨trivial,Ac rfl,trivial⟩ rfl ?_|refine Ad.same ⟨trivial,Ac rfl,Ac rfl,trivial⟩ rfl ?_|refine Ad.same ⟨trivial,Ac rfl,Ac rfl,Ac rfl,trivial⟩ rfl ?_|refine Ad.same ⟨trivial,Ac rfl,Ac rfl,Ac rfl,Ac rfl,trivial⟩ rfl ?_|refine Ad.same ⟨trivial,trivial⟩ rfl ?_|refine Ad.cons trivial rfl (.of_eq (Au (by simp<;>omega))) ?_)
  ·repeat (first|exact Aj.nil|(refine Aj.cons (Ac rfl) ?_ rfl ?_ ?_;(first|exact HB.Ap rfl|exact AV.Ah _ _|(simp [HB.under,AV.under,PV.under]));(first|exact Bq.refl _|exact Bq.vec (Bl.refl _) (by simp))))
  ·repeat (first|exact Ad.nil|refine Ad.same trivial rfl ?_|refine Ad.same (Ac rfl) rfl ?_|refine Ad.same ⟨trivial,Ac rfl,trivial⟩ rfl ?_|refine Ad.same ⟨trivial,Ac rfl,Ac rfl,trivial⟩ rfl ?_|refine Ad.same ⟨trivial,Ac rfl,Ac rfl,Ac rfl,trivial⟩ rfl ?_|refine Ad.same ⟨trivial,Ac rfl,Ac rfl,Ac rfl,Ac rfl,trivial⟩ rfl ?_|refine Ad.same ⟨trivial,trivial⟩ rfl ?_|refine Ad.cons trivial rfl (.of_eq (Au (by simp<;>omega))) ?_)
  ·intro j hj _
   have hb:Hq q.tgt (gi (BI q.tgt) j):=Qj hj
   have hlo:=jH q k1 k2 hw hs _ _ ha hb
   have f1:=X8 q.BF q.tgt q.DV (gi (Bc q.BF q.reg) k) hj
   have f2:(J9 q.BF q.tgt q.DV (gi (Bc q.BF q.reg) k) (j+1)).length=(J9 q.BF q.tgt q.DV (gi (Bc q.BF q.reg) k) j).length+1:=by rw [f1];simp
   have f3:=Q9 q.BF q.tgt q.DV (gi (Bc q.BF q.reg) k) (Nat.le_of_lt hj)
   repeat' (first|apply Ae.region|apply Ag.nil|apply Ag.one|(apply Aa.alloc;rfl)|(apply Aa.Bj;rfl;rfl;rfl;trivial;rfl;rfl;exact Ac rfl;exact le_dec rfl))
   refine ⟨rfl,?_⟩
   repeat' (first|apply Ae.assoc|apply Ae.AA|apply Ae.region|apply Ae.Aq|apply AL.normal|apply Ae.IE|apply Ag.nil|apply Ag.one|(apply Aa.fn;rfl;rfl;exact hlo;intro _;rfl)|(apply Aa.Dp (a:=Je q.BF q.tgt q.DV (gi (Bc q.BF q.reg) k) (gi (BI q.tgt) j));rfl;rfl;rfl;rfl;rfl;rfl;rfl;rfl;(intro _ h;cases h);rfl;rfl;rfl;decide;decide;(first|omega|(simp only [List.length_take,List.length_drop,List.length_append,List.length_singleton,List.length_cons,List.length_nil]<;>omega)))|(apply Aa.assign;rfl)|(apply Aa.move;rfl)|(apply Aa.int;rfl;rfl;rfl)|(apply Aa.load;rfl;rfl)|(apply Aa.Bj;rfl;rfl;rfl;trivial;rfl;rfl;exact Ac rfl;exact le_dec rfl)|(apply Aa.buildSlice;rfl;rfl;rfl;decide;rfl;rfl;rfl)|(apply Aa.extract;rfl;rfl)|(apply Ae.Ar;rfl))
   all_goals try (exfalso;omega)
   refine ⟨trivial,by omega,?_⟩
   rw [f2,f1]
   repeat (first|exact Aj.nil|(refine Aj.cons (Ac rfl) ?_ rfl ?_ ?_;(first|exact HB.Ap rfl|exact AV.Ah _ _|(simp [HB.under,AV.under,PV.under]));(first|exact Bq.refl _|exact Bq.vec (Bl.refl _) (by simp))))
  ·intro _
   have f3:=Q9 q.BF q.tgt q.DV (gi (Bc q.BF q.reg) k) (Nat.le_refl (BI q.tgt).length)
   repeat' (first|(refine Ae.atEnd 12 ?_;refine Ae.ghost (AX.Bh 6 0 rfl rfl rfl) ?_;first|apply Ae.region|apply Ae.EZ)|apply Ae.region|apply AO.normal|apply AL.normal|apply Ag.nil|apply Ag.one|(apply Aa.Dp (a:=J9 q.BF q.tgt q.DV (gi (Bc q.BF q.reg) k) (BI q.tgt).length);rfl;rfl;rfl;rfl;rfl;rfl;rfl;rfl;(intro _ h;cases h);rfl;rfl;rfl;decide;decide;(first|omega|(simp only [List.length_take,List.length_drop,List.length_append,List.length_singleton,List.length_cons,List.length_nil]<;>omega)))|(apply Aa.assign;rfl)|(apply Aa.move;rfl)|(apply Aa.Bz;rfl;rfl;omega)|(apply Aa.load;rfl;rfl)|(apply Aa.buildSlice;rfl;rfl;rfl;decide;rfl;rfl;rfl))
   all_goals try (exfalso;omega)
   refine Az.normal ⟨by omega,?_,?_⟩
   ·rw [e2]
    repeat (first|exact Ad.nil|refine Ad.same trivial rfl ?_|refine Ad.same (Ac rfl) rfl ?_|refine Ad.same ⟨trivial,Ac rfl,trivial⟩ rfl ?_|refine Ad.same ⟨trivial,Ac rfl,Ac rfl,trivial⟩ rfl ?_|refine Ad.same ⟨trivial,Ac rfl,Ac rfl,Ac rfl,trivial⟩ rfl ?_|refine Ad.same ⟨trivial,Ac rfl,Ac rfl,Ac rfl,Ac rfl,trivial⟩ rfl ?_|refine Ad.same ⟨trivial,trivial⟩ rfl ?_|refine Ad.cons trivial rfl (.of_eq (Au (by simp<;>omega))) ?_)
   ·rw [e2,e1]
    repeat (first|exact Aj.nil|(refine Aj.cons (Ac rfl) ?_ rfl ?_ ?_;(first|exact HB.Ap rfl|exact AV.Ah _ _|(simp [HB.under,AV.under,PV.under]));(first|exact Bq.refl _|exact Bq.vec (Bl.refl _) (by simp))))
 ·rw [Yf]
  repeat' (first|(refine Ag.I8 45 ?_;refine Ag.ghost (AX.freeze 4 rfl rfl) ?_)|apply Ae.AA|apply Ae.A8|apply AO.normal|apply AL.exit|apply Az.exit|apply Ae.ret|apply Ag.nil|apply Ag.one|(apply Aa.move;rfl)|(apply Aa.int;rfl;rfl;rfl)|(apply Aa.Bj;rfl;rfl;rfl;trivial;rfl;rfl;exact Ac rfl;exact le_dec rfl)|(apply Ae.Af;rfl)|(intro _;try (exfalso;omega)))
  all_goals first|(exfalso;omega)|(refine Done.ret rfl (.refl _) (by first|exact trivial|exact ⟨trivial,trivial,trivial⟩|exact ⟨trivial,trivial,trivial,trivial⟩) Aj.nil (Nat.zero_le _) (Nat.le_refl _) ⟨?_,rfl,rfl⟩;try rfl)
end Go.Proofs.YtdabojnmoejilaaGreatDoor
namespace Go.Hun
open Go.Vm
structure Ix where
 n:Nat
instance:Enc Ix:={ default:=⟨0⟩,enc:=fun x=>[.int .i64 (x.n:Int)],size:=1,len:=fun _=>rfl }
instance:Inhabited Ix:=⟨⟨0⟩⟩
instance a5l:Enc Bool:={ default:=false,enc:=fun b=>[.bool b],size:=1,len:=fun _=>rfl }
def far:Int:=1152921504606846976
structure qx where
 least:List Int
 way:List Ix
 delta:Int
 next:Nat
def TT (row:List Int) (ur:Int) (v:List Int) (k:Nat):Int:=gi row (k-1)-ur-gi v k
def KQ (row:List Int) (ur:Int) (v:List Int) (done:List Bool) (a:Nat) (s:qx) (k:Nat):qx :=
 if gi done k=true then s
 else if TT row ur v k<gi s.least k then
  (if TT row ur v k<s.delta then ⟨s.least.set k (TT row ur v k),s.way.set k ⟨a⟩,TT row ur v k,k⟩ else ⟨s.least.set k (TT row ur v k),s.way.set k ⟨a⟩,s.delta,s.next⟩)
 else if gi s.least k<s.delta then ⟨s.least,s.way,gi s.least k,k⟩ else s
def KC (row:List Int) (ur:Int) (v:List Int) (done:List Bool) (a:Nat) (s0:qx):Nat→qx
 |0=>s0
 |j+1=>KQ row ur v done a (KC row ur v done a s0 j) (j+1)
structure xu where
 u:List Int
 v:List Int
 least:List Int
def Rl (owner:List Ix) (done:List Bool) (delta:Int) (t:xu) (k:Nat):xu :=
 if gi done k=true then ⟨t.u.set (gi owner k).n (gi t.u (gi owner k).n+delta),t.v.set k (gi t.v k-delta),t.least⟩ else ⟨t.u,t.v,t.least.set k (gi t.least k-delta)⟩
def Io (owner:List Ix) (done:List Bool) (delta:Int) (t:xu):Nat→xu
 |0=>t
 |k+1=>Rl owner done delta (Io owner done delta t k) k
structure Gr where
 u:List Int
 v:List Int
 way:List Ix
 least:List Int
 done:List Bool
 at_:Nat
def CP (g:Gr):List Bool:=g.done.set g.at_ true
def DX (costs:List (List Int)) (owner:List Ix) (m:Nat) (g:Gr):qx :=
 KC (gi costs ((gi owner g.at_).n-1)) (gi g.u (gi owner g.at_).n) g.v (CP g) g.at_ ⟨g.least,g.way,far,0⟩ m
def Jd (costs:List (List Int)) (owner:List Ix) (m:Nat) (g:Gr):xu :=
 Io owner (CP g) (DX costs owner m g).delta ⟨g.u,g.v,(DX costs owner m g).least⟩ (m+1)
def GI (costs:List (List Int)) (owner:List Ix) (m:Nat) (g:Gr):Gr :=
 ⟨(Jd costs owner m g).u,(Jd costs owner m g).v,(DX costs owner m g).way,(Jd costs owner m g).least,CP g,(DX costs owner m g).next⟩
def Eo (costs:List (List Int)) (owner:List Ix) (m:Nat) (g0:Gr):Nat→Gr
 |0=>g0
 |t+1=>GI costs owner m (Eo costs owner m g0 t)
def TD (costs:List (List Int)) (owner:List Ix) (m:Nat) (g0:Gr):Nat→Nat→Nat
 |0,t=>t
 |f+1,t=>if (gi owner (Eo costs owner m g0 t).at_).n=0 then t else TD costs owner m g0 f (t+1)
structure Aug where
 owner:List Ix
 at_:Nat
def jr (way:List Ix) (a:Aug):Aug:=⟨a.owner.set a.at_ (gi a.owner (gi way a.at_).n),(gi way a.at_).n⟩
def GX (way:List Ix) (a:Aug):Nat→Aug
 |0=>a
 |t+1=>jr way (GX way a t)
def aj (way:List Ix) (a:Aug):Nat→Nat→Nat
 |0,t=>t
 |f+1,t=>if (GX way a t).at_=0 then t else aj way a f (t+1)
structure jC where
 u:List Int
 v:List Int
 owner:List Ix
 way:List Ix
def Qr (m:Nat) (s:jC):Gr:=⟨s.u,s.v,s.way,List.replicate (m+1) far,List.replicate (m+1) false,0⟩
def Jg (s:jC) (i:Nat):List Ix:=s.owner.set 0 ⟨i⟩
def Xj (costs:List (List Int)) (m:Nat) (s:jC) (i:Nat):Nat:=TD costs (Jg s i) m (Qr m s) (m+2) 0
def MN (costs:List (List Int)) (m:Nat) (s:jC) (i:Nat):Gr:=Eo costs (Jg s i) m (Qr m s) (Xj costs m s i)
def stA (costs:List (List Int)) (m:Nat) (s:jC) (i:Nat):Aug:=⟨Jg s i,(MN costs m s i).at_⟩
def yh (costs:List (List Int)) (m:Nat) (s:jC) (i:Nat):Nat:=aj (MN costs m s i).way (stA costs m s i) (m+2) 0
def Nv (costs:List (List Int)) (m:Nat) (s:jC) (i:Nat):jC :=
 ⟨(MN costs m s i).u,(MN costs m s i).v,(GX (MN costs m s i).way (stA costs m s i) (yh costs m s i)).owner,(MN costs m s i).way⟩
def Dh (costs:List (List Int)) (n m:Nat):Nat→jC
 |0=>⟨List.replicate (n+1) 0,List.replicate (m+1) 0,List.replicate (m+1) ⟨0⟩,List.replicate (m+1) ⟨0⟩⟩
 |i+1=>Nv costs m (Dh costs n m i) (i+1)
structure Out where
 cols:List Int
 total:Int
def nP (costs:List (List Int)) (owner:List Ix) (o:Out) (k:Nat):Out :=
 if 0<(gi owner k).n then ⟨o.cols.set ((gi owner k).n-1) ((k:Int)-1),o.total+gi (gi costs ((gi owner k).n-1)) (k-1)⟩ else o
def KI (costs:List (List Int)) (owner:List Ix) (n:Nat):Nat→Out
 |0=>⟨List.replicate n 0,0⟩
 |k+1=>nP costs owner (KI costs owner n k) (k+1)
theorem gs {α:Type} [Inhabited α] {l:List α} {i j:Nat} {a:α} (h:i<l.length):gi (l.set i a) j=if i=j then a else gi l j:=by
 rw [U8]
 by_cases e:i=j
 ·subst e;rw [if_pos ⟨rfl,h⟩,if_pos rfl]
 ·rw [if_neg (fun x=>e x.1),if_neg e]
structure a3d (row:List Int) (ur:Int) (v:List Int) (done:List Bool) (a m:Nat) (s0 s:qx) (j:Nat):Prop where
 ll:s.least.length=m+1
 lw:s.way.length=m+1
 least:∀ k,gi s.least k=if 1≤k∧k≤j∧gi done k=false∧TT row ur v k<gi s0.least k then TT row ur v k else gi s0.least k
 way:∀ k,gi s.way k=if 1≤k∧k≤j∧gi done k=false∧TT row ur v k<gi s0.least k then ⟨a⟩ else gi s0.way k
 delta:∀ k,1≤k→k≤j→gi done k=false→s.delta≤gi s.least k
 le:s.delta≤s0.delta
 next:(s.next=s0.next∧s.delta=s0.delta)∨(1≤s.next∧s.next≤j∧gi done s.next=false∧s.delta=gi s.least s.next)
theorem SL {row:List Int} {ur:Int} {v:List Int} {done:List Bool} {a m:Nat} {s0:qx} (hl:s0.least.length=m+1) (hw:s0.way.length=m+1):∀ j,j≤m→a3d row ur v done a m s0 (KC row ur v done a s0 j) j
 |0,_=>⟨hl,hw,fun k=>by rw [if_neg (by omega)];rfl,fun k=>by rw [if_neg (by omega)];rfl,fun k h1 h2=>by omega,Int.le_refl _,.inl ⟨rfl,rfl⟩⟩
 |j+1,hj=>by
  have ih:=SL (row:=row) (ur:=ur) (v:=v) (done:=done) (a:=a) hl hw j (by omega)
  generalize hs:KC row ur v done a s0 j=s at ih
  have e0:KC row ur v done a s0 (j+1)=KQ row ur v done a s (j+1):=by rw [← hs];rfl
  rw [e0]
  obtain ⟨l1,l2,h1,h2,h3,h4,h5⟩:=ih
  have hlt:j+1<s.least.length:=by omega
  have hwt:j+1<s.way.length:=by omega
  have hj1:gi s.least (j+1)=gi s0.least (j+1):=by rw [h1,if_neg (by omega)]
  have hne:∀ k,k≤j→j+1≠k:=fun k hk=>by omega
  unfold KQ
  by_cases hd:gi done (j+1)=true
  ·rw [if_pos hd]
   refine ⟨l1,l2,fun k=>?_,fun k=>?_,fun k k1 k2 k3=>?_,h4,?_⟩
   ·rw [h1]
    by_cases e:k=j+1
    ·subst e;rw [if_neg (by omega),if_neg (by rw [hd];simp)]
    ·by_cases hc:1≤k∧k≤j∧gi done k=false∧TT row ur v k<gi s0.least k
     ·rw [if_pos hc,if_pos ⟨hc.1,by omega,hc.2.2⟩]
     ·rw [if_neg hc,if_neg (fun x=>hc ⟨x.1,by omega,x.2.2⟩)]
   ·rw [h2]
    by_cases e:k=j+1
    ·subst e;rw [if_neg (by omega),if_neg (by rw [hd];simp)]
    ·by_cases hc:1≤k∧k≤j∧gi done k=false∧TT row ur v k<gi s0.least k
     ·rw [if_pos hc,if_pos ⟨hc.1,by omega,hc.2.2⟩]
     ·rw [if_neg hc,if_neg (fun x=>hc ⟨x.1,by omega,x.2.2⟩)]
   ·by_cases e:k=j+1
    ·subst e;rw [hd] at k3;cases k3
    ·exact h3 k k1 (by omega) k3
   ·rcases h5 with h5|⟨x1,x2,x3,x4⟩
    ·exact .inl h5
    ·exact .inr ⟨x1,by omega,x3,x4⟩
  ·have hd':gi done (j+1)=false:=by cases h:gi done (j+1)<;>simp_all
   rw [if_neg hd]
   by_cases hc:TT row ur v (j+1)<gi s.least (j+1)
   ·rw [if_pos hc]
    rw [hj1] at hc
    have L:∀ k,gi (s.least.set (j+1) (TT row ur v (j+1))) k=if 1≤k∧k≤j+1∧gi done k=false∧TT row ur v k<gi s0.least k then TT row ur v k else gi s0.least k:=fun k=>by
     rw [gs hlt]
     by_cases e:j+1=k
     ·subst e;rw [if_pos rfl,if_pos ⟨by omega,Nat.le_refl _,hd',hc⟩]
     ·rw [if_neg e,h1]
      by_cases hc':1≤k∧k≤j∧gi done k=false∧TT row ur v k<gi s0.least k
      ·rw [if_pos hc',if_pos ⟨hc'.1,by omega,hc'.2.2⟩]
      ·rw [if_neg hc',if_neg (fun x=>hc' ⟨x.1,by omega,x.2.2⟩)]
    have W:∀ k,gi (s.way.set (j+1) ⟨a⟩) k=if 1≤k∧k≤j+1∧gi done k=false∧TT row ur v k<gi s0.least k then ⟨a⟩ else gi s0.way k:=fun k=>by
     rw [gs hwt]
     by_cases e:j+1=k
     ·subst e;rw [if_pos rfl,if_pos ⟨by omega,Nat.le_refl _,hd',hc⟩]
     ·rw [if_neg e,h2]
      by_cases hc':1≤k∧k≤j∧gi done k=false∧TT row ur v k<gi s0.least k
      ·rw [if_pos hc',if_pos ⟨hc'.1,by omega,hc'.2.2⟩]
      ·rw [if_neg hc',if_neg (fun x=>hc' ⟨x.1,by omega,x.2.2⟩)]
    by_cases hb:TT row ur v (j+1)<s.delta
    ·rw [if_pos hb]
     refine ⟨by simp [l1],by simp [l2],L,W,fun k k1 k2 k3=>?_,by simp only;omega,.inr ⟨by simp only;omega,Nat.le_refl _,hd',?_⟩⟩
     ·simp only
      rw [gs hlt]
      by_cases e:j+1=k
      ·rw [if_pos e];omega
      ·rw [if_neg e]
       have:=h3 k k1 (by omega) k3
       omega
     ·simp only
      rw [gs hlt,if_pos rfl]
    ·rw [if_neg hb]
     refine ⟨by simp [l1],by simp [l2],L,W,fun k k1 k2 k3=>?_,h4,?_⟩
     ·simp only
      rw [gs hlt]
      by_cases e:j+1=k
      ·rw [if_pos e];omega
      ·rw [if_neg e]
       exact h3 k k1 (by omega) k3
     ·rcases h5 with h5|⟨x1,x2,x3,x4⟩
      ·exact .inl h5
      ·refine .inr ⟨x1,by simp only;omega,x3,?_⟩
       simp only
       rw [gs hlt,if_neg (by omega)]
       exact x4
   ·rw [if_neg hc]
    have hc0:¬ TT row ur v (j+1)<gi s0.least (j+1):=by rw [← hj1];exact hc
    have L:∀ k,gi s.least k=if 1≤k∧k≤j+1∧gi done k=false∧TT row ur v k<gi s0.least k then TT row ur v k else gi s0.least k:=fun k=>by
     rw [h1]
     by_cases e:j+1=k
     ·subst e;rw [if_neg (by omega),if_neg (fun x=>hc0 x.2.2.2)]
     ·by_cases hc':1≤k∧k≤j∧gi done k=false∧TT row ur v k<gi s0.least k
      ·rw [if_pos hc',if_pos ⟨hc'.1,by omega,hc'.2.2⟩]
      ·rw [if_neg hc',if_neg (fun x=>hc' ⟨x.1,by omega,x.2.2⟩)]
    have W:∀ k,gi s.way k=if 1≤k∧k≤j+1∧gi done k=false∧TT row ur v k<gi s0.least k then ⟨a⟩ else gi s0.way k:=fun k=>by
     rw [h2]
     by_cases e:j+1=k
     ·subst e;rw [if_neg (by omega),if_neg (fun x=>hc0 x.2.2.2)]
     ·by_cases hc':1≤k∧k≤j∧gi done k=false∧TT row ur v k<gi s0.least k
      ·rw [if_pos hc',if_pos ⟨hc'.1,by omega,hc'.2.2⟩]
      ·rw [if_neg hc',if_neg (fun x=>hc' ⟨x.1,by omega,x.2.2⟩)]
    by_cases hb:gi s.least (j+1)<s.delta
    ·rw [if_pos hb]
     refine ⟨l1,l2,L,W,fun k k1 k2 k3=>?_,by simp only;omega,.inr ⟨by simp only;omega,Nat.le_refl _,hd',rfl⟩⟩
     simp only
     by_cases e:j+1=k
     ·rw [e];omega
     ·have:=h3 k k1 (by omega) k3
      omega
    ·rw [if_neg hb]
     refine ⟨l1,l2,L,W,fun k k1 k2 k3=>?_,h4,?_⟩
     ·by_cases e:j+1=k
      ·rw [← e];omega
      ·exact h3 k k1 (by omega) k3
     ·rcases h5 with h5|⟨x1,x2,x3,x4⟩
      ·exact .inl h5
      ·exact .inr ⟨x1,by omega,x3,x4⟩
structure a1y (owner:List Ix) (done:List Bool) (delta:Int) (t s:xu) (k:Nat):Prop where
 lu:s.u.length=t.u.length
 lv:s.v.length=t.v.length
 ll:s.least.length=t.least.length
 u0:∀ r,(∀ d,d<k→gi done d=true→(gi owner d).n≠r)→gi s.u r=gi t.u r
 u1:∀ d,d<k→gi done d=true→gi s.u (gi owner d).n=gi t.u (gi owner d).n+delta
 v:∀ d,gi s.v d=if d<k∧gi done d=true then gi t.v d-delta else gi t.v d
 least:∀ d,gi s.least d=if d<k∧gi done d=false then gi t.least d-delta else gi t.least d
theorem JF {owner:List Ix} {done:List Bool} {delta:Int} {t:xu} {m:Nat} (hv:t.v.length=m+1) (hl:t.least.length=m+1)
 (hu:∀ d,d≤m→gi done d=true→(gi owner d).n<t.u.length) (hi:∀ d e,d≤m→e≤m→gi done d=true→gi done e=true→(gi owner d).n=(gi owner e).n→d=e) :
 ∀ k,k≤m+1→a1y owner done delta t (Io owner done delta t k) k
 |0,_=>⟨rfl,rfl,rfl,fun _ _=>rfl,fun d h=>by omega,fun d=>by rw [if_neg (by omega)];rfl,fun d=>by rw [if_neg (by omega)];rfl⟩
 |k+1,hk=>by
  have ih:=JF (delta:=delta) hv hl hu hi k (by omega)
  generalize hs:Io owner done delta t k=s at ih
  have e0:Io owner done delta t (k+1)=Rl owner done delta s k:=by rw [← hs];rfl
  rw [e0]
  obtain ⟨l1,l2,l3,h0,h1,h2,h3⟩:=ih
  unfold Rl
  by_cases hd:gi done k=true
  ·rw [if_pos hd]
   have hlt:=hu k (by omega) hd
   refine ⟨by simp [l1],by simp [l2],l3,fun r hr=>?_,fun d hd1 hd2=>?_,fun d=>?_,fun d=>?_⟩
   ·simp only
    rw [gs (by omega),if_neg (hr k (by omega) hd)]
    exact h0 r fun d x y=>hr d (by omega) y
   ·simp only
    rw [gs (by omega)]
    by_cases e:k=d
    ·subst e
     rw [if_pos rfl,h0 _ fun d x y z=>by have:=hi d k (by omega) (by omega) y hd z;omega]
    ·rw [if_neg fun x=>e (hi k d (by omega) (by omega) hd hd2 x)]
     exact h1 d (by omega) hd2
   ·simp only
    rw [gs (by omega)]
    by_cases e:k=d
    ·subst e
     rw [if_pos rfl,if_pos ⟨by omega,hd⟩,h2,if_neg (by omega)]
    ·rw [if_neg e,h2]
     by_cases x:d<k∧gi done d=true
     ·rw [if_pos x,if_pos ⟨by omega,x.2⟩]
     ·rw [if_neg x,if_neg fun y=>x ⟨by omega,y.2⟩]
   ·rw [h3]
    by_cases e:k=d
    ·subst e
     rw [if_neg (by omega),if_neg (by rw [hd];simp)]
    ·by_cases x:d<k∧gi done d=false
     ·rw [if_pos x,if_pos ⟨by omega,x.2⟩]
     ·rw [if_neg x,if_neg fun y=>x ⟨by omega,y.2⟩]
  ·have hd':gi done k=false:=by cases h:gi done k<;>simp_all
   rw [if_neg hd]
   refine ⟨l1,l2,by simp [l3],fun r hr=>h0 r fun d x y=>hr d (by omega) y,fun d hd1 hd2=>?_,fun d=>?_,fun d=>?_⟩
   ·by_cases e:k=d
    ·subst e;exact absurd hd2 hd
    ·exact h1 d (by omega) hd2
   ·rw [h2]
    by_cases e:k=d
    ·subst e
     rw [if_neg (by omega),if_neg (by rw [hd'];simp)]
    ·by_cases x:d<k∧gi done d=true
     ·rw [if_pos x,if_pos ⟨by omega,x.2⟩]
     ·rw [if_neg x,if_neg fun y=>x ⟨by omega,y.2⟩]
   ·simp only
    rw [gs (by omega)]
    by_cases e:k=d
    ·subst e
     rw [if_pos rfl,if_pos ⟨by omega,hd'⟩,h3,if_neg (by omega)]
    ·rw [if_neg e,h3]
     by_cases x:d<k∧gi done d=false
     ·rw [if_pos x,if_pos ⟨by omega,x.2⟩]
     ·rw [if_neg x,if_neg fun y=>x ⟨by omega,y.2⟩]
end Go.Hun
namespace Go.Hun
open Go.Vm
theorem WU:∀ (n m:Nat) (f:Nat→Nat),(∀ k,k<m→f k<n)→(∀ k e,k<m→e<m→f k=f e→k=e)→m≤n
 |0,m,f,h,hi=>by
  rcases Nat.eq_zero_or_pos m with h0|h0
  ·omega
  ·exact absurd (h 0 h0) (by omega)
 |n+1,0,f,h,hi=>by omega
 |n+1,m+1,f,h,hi=>by
  have:=WU n m (fun k=>if f k=n then f m else f k) (fun k hk=>by
   have h1:=h k (by omega)
   have h2:=h m (by omega)
   by_cases e:f k=n
   ·simp only [if_pos e]
    have:f m≠n:=fun e2=>by have:=hi k m (by omega) (by omega) (by omega);omega
    omega
   ·simp only [if_neg e];omega) (fun k e hk he hf=>by
   by_cases e1:f k=n<;>by_cases e2:f e=n
   ·exact hi k e (by omega) (by omega) (by omega)
   ·simp only [if_pos e1,if_neg e2] at hf
    have:=hi m e (by omega) (by omega) hf;omega
   ·simp only [if_neg e1,if_pos e2] at hf
    have:=hi k m (by omega) (by omega) hf;omega
   ·simp only [if_neg e1,if_neg e2] at hf
    exact hi k e (by omega) (by omega) hf)
  omega
def cst (costs:List (List Int)) (r k:Nat):Int:=gi (gi costs (r-1)) (k-1)
def own (o:List Ix) (k:Nat):Nat:=(gi o k).n
structure Iq (costs:List (List Int)) (n m:Nat) (B:Int):Prop where
 lo:∀ r k,0≤cst costs r k
 hi:∀ r k,cst costs r k≤B
 big:0≤B∧B≤1000000000000
 nm:n<m
structure qA (costs:List (List Int)) (n m i:Nat) (s:jC):Prop where
 lu:s.u.length=n+1
 lv:s.v.length=m+1
 lo:s.owner.length=m+1
 lw:s.way.length=m+1
 own:∀ k,1≤k→k≤m→own s.owner k≤i
 all:∀ r,1≤r→r≤i→∃ k,1≤k∧k≤m∧Hun.own s.owner k=r
 inj:∀ k e,1≤k→k≤m→1≤e→e≤m→Hun.own s.owner k=Hun.own s.owner e→Hun.own s.owner k≠0→k=e
 VR:∀ r k,1≤r→r≤i→1≤k→k≤m→gi s.u r+gi s.v k≤cst costs r k
 tight:∀ k,1≤k→k≤m→Hun.own s.owner k≠0→gi s.u (Hun.own s.owner k)+gi s.v k=cst costs (Hun.own s.owner k) k
 aO:∀ k,1≤k→k≤m→gi s.v k≤0
 OW:∀ k,1≤k→k≤m→Hun.own s.owner k=0→gi s.v k=0
 UH:∀ r,1≤r→r≤i→0≤gi s.u r
 uz:∀ r,i<r→gi s.u r=0
structure qF (m i:Nat) (o:List Ix):Prop where
 len:o.length=m+1
 zero:own o 0=i+1
 le:∀ k,1≤k→k≤m→own o k≤i
 inj:∀ k e,k≤m→e≤m→own o k=own o e→own o k≠0→k=e
theorem qF.lt {m i:Nat} {o:List Ix} (h:qF m i o) {k:Nat} (hk:k≤m):own o k≤i+1:=by
 rcases Nat.eq_zero_or_pos k with h0|h0
 ·subst h0;rw [h.zero];omega
 ·have:=h.le k h0 hk;omega
theorem qF.free {m i:Nat} {o:List Ix} (h:qF m i o) (hm:i<m):∃ k,1≤k∧k≤m∧own o k=0:=by
 refine Classical.byContradiction fun hn=>?_
 have hn:∀ k,1≤k→k≤m→own o k≠0:=fun k h1 h2 h3=>hn ⟨k,h1,h2,h3⟩
 have:=WU i m (fun k=>own o (k+1)-1) (fun k hk=>by
  have h1:=hn (k+1) (by omega) (by omega)
  have h2:=h.le (k+1) (by omega) (by omega)
  show own o (k+1)-1<i
  omega) (fun k e hk he hf=>by
  have h1:=hn (k+1) (by omega) (by omega)
  have h2:=hn (e+1) (by omega) (by omega)
  have hf:own o (k+1)-1=own o (e+1)-1:=hf
  have:=h.inj (k+1) (e+1) (by omega) (by omega) (by omega) h1
  omega)
 omega
structure fQ (costs:List (List Int)) (n m i:Nat) (o:List Ix) (A:Nat→Nat) (t:Nat) (g:Gr):Prop where
 lu:g.u.length=n+1
 lv:g.v.length=m+1
 lw:g.way.length=m+1
 ll:g.least.length=m+1
 ld:g.done.length=m+1
 at_:g.at_=A t
 le:∀ p,p≤t→A p≤m
 zero:A 0=0
 pos:∀ p,1≤p→p≤t→1≤A p
 done:∀ k,gi g.done k=true↔∃ p,p<t∧A p=k
 new:gi g.done (A t)=false
 pR:∀ p,p<t→own o (A p)≠0
 VR:∀ r k,1≤r→r≤i+1→1≤k→k≤m→gi g.u r+gi g.v k≤cst costs r k
 tight:∀ k,1≤k→k≤m→own o k≠0→gi g.u (own o k)+gi g.v k=cst costs (own o k) k
 aO:∀ k,1≤k→k≤m→gi g.v k≤0
 OW:∀ k,1≤k→k≤m→own o k=0→gi g.v k=0
 UH:∀ r,1≤r→r≤i+1→0≤gi g.u r
 uz:∀ r,i+1<r→gi g.u r=0
 least:∀ k,1≤k→k≤m→gi g.done k=false→∀ p,p<t→gi g.least k≤cst costs (own o (A p)) k-gi g.u (own o (A p))-gi g.v k
 VQ:∀ k,1≤k→k≤m→gi g.done k=false→(t=0∧gi g.least k=far)∨∃ p,p<t∧own g.way k=A p∧gi g.least k=cst costs (own o (A p)) k-gi g.u (own o (A p))-gi g.v k
 path:∀ p,1≤p→p≤t→∃ q,q<p∧own g.way (A p)=A q∧gi g.u (own o (A q))+gi g.v (A p)=cst costs (own o (A q)) (A p)
section
variable {costs:List (List Int)} {n m i:Nat} {o:List Ix} {A:Nat→Nat} {t:Nat} {g:Gr} {B:Int}
theorem fQ.ule (h:fQ costs n m i o A t g) (hc:Iq costs n m B) (ho:qF m i o) (hi:i<m) {r:Nat} (h1:1≤r) (h2:r≤i+1):gi g.u r≤B:=by
 obtain ⟨f,f1,f2,f3⟩:=ho.free hi
 have:=h.VR r f h1 h2 f1 f2
 have:=h.OW f f1 f2 f3
 have:=hc.hi r f
 omega
theorem fQ.vge (h:fQ costs n m i o A t g) (hc:Iq costs n m B) (ho:qF m i o) (hi:i<m) {k:Nat} (h1:1≤k) (h2:k≤m):-B≤gi g.v k:=by
 have hb:=hc.big
 by_cases e:own o k=0
 ·rw [h.OW k h1 h2 e];omega
 ·have h3:=ho.lt h2
  have:=h.tight k h1 h2 e
  have:=h.ule hc ho hi (r:=own o k) (by omega) h3
  have:=hc.lo (own o k) k
  omega
end
structure RdI (costs:List (List Int)) (n m i:Nat) (o:List Ix) (A:Nat→Nat) (t:Nat) (g:Gr) (B:Int) (s:qx):Prop where
 ll:s.least.length=m+1
 lw:s.way.length=m+1
 next:1≤s.next∧s.next≤m
 newN:gi (CP g) s.next=false
 dn:s.delta=gi s.least s.next
 dle:∀ k,1≤k→k≤m→gi (CP g) k=false→s.delta≤gi s.least k
 d0:0≤s.delta
 dB:s.delta≤B
 least:∀ k,1≤k→k≤m→gi (CP g) k=false→∀ p,p<t+1→gi s.least k≤cst costs (own o (A p)) k-gi g.u (own o (A p))-gi g.v k
 VQ:∀ k,1≤k→k≤m→gi (CP g) k=false→∃ p,p<t+1∧own s.way k=A p∧gi s.least k=cst costs (own o (A p)) k-gi g.u (own o (A p))-gi g.v k
 way:∀ k,gi (CP g) k=true→gi s.way k=gi g.way k
 doneD:∀ k,gi (CP g) k=true↔∃ p,p<t+1∧A p=k
theorem JX {costs:List (List Int)} {n m i:Nat} {o:List Ix} {A:Nat→Nat} {t:Nat} {g:Gr} {B:Int} (h:fQ costs n m i o A t g) (hc:Iq costs n m B) (ho:qF m i o) (hi:i<n) (hr:own o (A t)≠0):RdI costs n m i o A t g B (DX costs o m g):=by
 have hm:=hc.nm
 have hb:=hc.big
 have hA:=h.le t (Nat.le_refl _)
 have hrow:=ho.lt hA
 have hD:∀ k,gi (CP g) k=true↔∃ p,p<t+1∧A p=k:=fun k=>by
  unfold CP
  rw [gs (by rw [h.ld,h.at_];omega),h.at_]
  by_cases e:A t=k
  ·rw [if_pos e];exact ⟨fun _=>⟨t,by omega,e⟩,fun _=>rfl⟩
  ·rw [if_neg e,h.done]
   exact ⟨fun ⟨p,h1,h2⟩=>⟨p,by omega,h2⟩,fun ⟨p,h1,h2⟩=>⟨p,by
    rcases Nat.lt_or_ge p t with h3|h3
    ·exact h3
    ·obtain rfl:p=t:=by omega
     exact absurd h2 e,h2⟩⟩
 have hO:∀ p,p<t+1→own o (A p)≠0:=fun p hp=>by
  rcases Nat.lt_or_ge p t with h3|h3
  ·exact h.pR p h3
  ·obtain rfl:p=t:=by omega
   exact hr
 have hN:∀ k,gi (CP g) k=false→gi g.done k=false:=fun k hk=>by
  cases hg:gi g.done k with
  |false=>rfl
  |true =>
   obtain ⟨p,h1,h2⟩:=(h.done k).1 hg
   rw [(hD k).2 ⟨p,by omega,h2⟩] at hk
   cases hk
 have spec:=SL (row:=gi costs ((gi o g.at_).n-1)) (ur:=gi g.u (gi o g.at_).n) (v:=g.v) (done:=CP g) (a:=g.at_) (m:=m) (s0:=⟨g.least,g.way,far,0⟩) h.ll h.lw m (Nat.le_refl _)
 have a7y:∀ k,TT (gi costs ((gi o g.at_).n-1)) (gi g.u (gi o g.at_).n) g.v k=cst costs (own o (A t)) k-gi g.u (own o (A t))-gi g.v k:=fun k=>by
  rw [h.at_];rfl
 have es:DX costs o m g=KC (gi costs ((gi o g.at_).n-1)) (gi g.u (gi o g.at_).n) g.v (CP g) g.at_ ⟨g.least,g.way,far,0⟩ m:=rfl
 rw [← es] at spec
 generalize DX costs o m g=s at spec ⊢
 obtain ⟨l1,l2,h1,h2,h3,h4,h5⟩:=spec
 simp only [a7y] at h1 h2 h4 h5
 have red:∀ p k,p<t+1→1≤k→k≤m→0≤cst costs (own o (A p)) k-gi g.u (own o (A p))-gi g.v k:=fun p k hp k1 k2=>by
  have:=h.VR (own o (A p)) k (by have:=hO p hp;omega) (ho.lt (h.le p (by omega))) k1 k2
  omega
 have a7f:∀ p k,p<t+1→1≤k→k≤m→cst costs (own o (A p)) k-gi g.u (own o (A p))-gi g.v k<far:=fun p k hp k1 k2=>by
  have:=hc.hi (own o (A p)) k
  have:=h.UH (own o (A p)) (by have:=hO p hp;omega) (ho.lt (h.le p (by omega)))
  have:=h.vge hc ho (by omega) k1 k2
  unfold far
  omega
 have LL:∀ k,1≤k→k≤m→gi (CP g) k=false→∀ p,p<t+1→gi s.least k≤cst costs (own o (A p)) k-gi g.u (own o (A p))-gi g.v k:=fun k k1 k2 k3 p hp=>by
  rw [h1]
  rcases Nat.lt_or_ge p t with hpt|hpt
  ·have:=h.least k k1 k2 (hN k k3) p hpt
   split
   ·rename_i hx;omega
   ·exact this
  ·obtain rfl:p=t:=by omega
   split
   ·exact Int.le_refl _
   ·rename_i hx
    have:¬ cst costs (own o (A p)) k-gi g.u (own o (A p))-gi g.v k<gi g.least k:=fun y=>hx ⟨k1,k2,k3,y⟩
    omega
 have LE:∀ k,1≤k→k≤m→gi (CP g) k=false→∃ p,p<t+1∧own s.way k=A p∧gi s.least k=cst costs (own o (A p)) k-gi g.u (own o (A p))-gi g.v k:=fun k k1 k2 k3=>by
  unfold own
  rw [h1,h2]
  split
  ·exact ⟨t,by omega,h.at_,rfl⟩
  ·rename_i hx
   rcases h.VQ k k1 k2 (hN k k3) with ⟨_,h7⟩|⟨p,h6,h7,h8⟩
   ·exact absurd ⟨k1,k2,k3,by rw [h7];exact a7f t k (by omega) k1 k2⟩ hx
   ·exact ⟨p,by omega,h7,h8⟩
 obtain ⟨f,f1,f2,f3⟩:=ho.free (by omega:i<m)
 have f4:gi (CP g) f=false:=by
  cases hg:gi (CP g) f with
  |false=>rfl
  |true =>
   obtain ⟨p,h6,h7⟩:=(hD f).1 hg
   have:=hO p h6
   rw [h7] at this
   exact absurd f3 this
 have f5:=h3 f f1 f2 f4
 have f6:=LL f f1 f2 f4 t (by omega)
 have f7:=h.OW f f1 f2 f3
 have f8:=hc.hi (own o (A t)) f
 have f9:=h.UH (own o (A t)) (by omega) hrow
 have b1j:far=1152921504606846976:=rfl
 rcases h5 with ⟨_,h6⟩|⟨h6,h7,h8,h9⟩
 ·omega
 ·refine ⟨l1,l2,⟨h6,h7⟩,h8,h9,h3,?_,by omega,LL,LE,fun k hk=>?_,hD⟩
  ·obtain ⟨p,p1,p2,p3⟩:=LE s.next h6 h7 h8
   rw [h9,p3]
   exact red p _ p1 h6 h7
  ·rw [h2,if_neg]
   rintro ⟨_,_,x,_⟩
   rw [hk] at x;cases x
structure ShI (m:Nat) (o:List Ix) (g:Gr) (d:Int) (s:qx) (t:xu):Prop where
 lu:t.u.length=g.u.length
 lv:t.v.length=m+1
 ll:t.least.length=m+1
 u1:∀ k,k≤m→gi (CP g) k=true→gi t.u (own o k)=gi g.u (own o k)+d
 u0:∀ r,(∀ k,k≤m→gi (CP g) k=true→own o k≠r)→gi t.u r=gi g.u r
 v1:∀ k,k≤m→gi (CP g) k=true→gi t.v k=gi g.v k-d
 v0:∀ k,gi (CP g) k=false→gi t.v k=gi g.v k
 least:∀ k,k≤m→gi (CP g) k=false→gi t.least k=gi s.least k-d
section
variable {costs:List (List Int)} {n m i:Nat} {o:List Ix} {A:Nat→Nat} {t:Nat} {g:Gr} {B:Int}
theorem Yc (h:fQ costs n m i o A t g) (hc:Iq costs n m B) (ho:qF m i o) (hi:i<n) (hr:own o (A t)≠0) :
 (∀ d,d≤m→gi (CP g) d=true→(gi o d).n<g.u.length)∧∀ d e,d≤m→e≤m→gi (CP g) d=true→gi (CP g) e=true→(gi o d).n=(gi o e).n→d=e:=by
 have hR:=JX h hc ho hi hr
 refine ⟨fun d hd _=>?_,fun d e hd he h1 h2 h3=>?_⟩
 ·have:=ho.lt hd
  unfold own at this
  rw [h.lu];omega
 ·refine ho.inj d e hd he h3 ?_
  obtain ⟨p,p1,p2⟩:=(hR.doneD d).1 h1
  rw [← p2]
  rcases Nat.lt_or_ge p t with h4|h4
  ·exact h.pR p h4
  ·obtain rfl:p=t:=by omega
   exact hr
theorem Nw (h:fQ costs n m i o A t g) (hc:Iq costs n m B) (ho:qF m i o) (hi:i<n) (hr:own o (A t)≠0):ShI m o g (DX costs o m g).delta (DX costs o m g) (Jd costs o m g):=by
 have hR:=JX h hc ho hi hr
 obtain ⟨e1,e2⟩:=Yc h hc ho hi hr
 have spec:=JF (owner:=o) (done:=CP g) (delta:=(DX costs o m g).delta) (t:=⟨g.u,g.v,(DX costs o m g).least⟩) (m:=m) h.lv hR.ll e1 e2 (m+1) (Nat.le_refl _)
 have es:Jd costs o m g=Io o (CP g) (DX costs o m g).delta ⟨g.u,g.v,(DX costs o m g).least⟩ (m+1):=rfl
 rw [← es] at spec
 generalize Jd costs o m g=T at spec ⊢
 generalize DX costs o m g=s at spec hR ⊢
 obtain ⟨l1,l2,l3,h0,h1,h2,h3⟩:=spec
 simp only at l1 l2 l3 h0 h1 h2 h3
 refine ⟨l1,by rw [l2,h.lv],by rw [l3,hR.ll],fun k hk hd=>h1 k (by omega) hd,fun r hx=>h0 r fun d hd hd2=>hx d (by omega) hd2,fun k hk hd=>?_,fun k hd=>?_,fun k hk hd=>?_⟩
 ·rw [h2,if_pos ⟨by omega,hd⟩]
 ·rw [h2,if_neg (by rw [hd];simp)]
 ·rw [h3,if_pos ⟨by omega,hd⟩]
theorem fQ.step (h:fQ costs n m i o A t g) (hc:Iq costs n m B) (ho:qF m i o) (hi:i<n) (hr:own o (A t)≠0) (hA:A (t+1)=(GI costs o m g).at_):fQ costs n m i o A (t+1) (GI costs o m g):=by
 have hR:=JX h hc ho hi hr
 have hS:=Nw h hc ho hi hr
 have hnm:=hc.nm
 have eu:(GI costs o m g).u=(Jd costs o m g).u:=rfl
 have ev:(GI costs o m g).v=(Jd costs o m g).v:=rfl
 have ew:(GI costs o m g).way=(DX costs o m g).way:=rfl
 have el:(GI costs o m g).least=(Jd costs o m g).least:=rfl
 have ed:(GI costs o m g).done=CP g:=rfl
 have ea:(GI costs o m g).at_=(DX costs o m g).next:=rfl
 rw [ea] at hA
 generalize Jd costs o m g=T at *
 generalize DX costs o m g=s at *
 generalize GI costs o m g=G at *
 have hO:∀ p,p<t+1→own o (A p)≠0:=fun p hp=>by
  rcases Nat.lt_or_ge p t with h3|h3
  ·exact h.pR p h3
  ·obtain rfl:p=t:=by omega
   exact hr
 have hd0:=hR.d0
 have uR:∀ r,(∃ p,p<t+1∧own o (A p)=r∧gi T.u r=gi g.u r+s.delta)∨((∀ p,p<t+1→own o (A p)≠r)∧gi T.u r=gi g.u r):=fun r=>by
  by_cases hx:∃ p,p<t+1∧own o (A p)=r
  ·obtain ⟨p,p1,p2⟩:=hx
   have:=hS.u1 (A p) (h.le p (by omega)) ((hR.doneD _).2 ⟨p,p1,rfl⟩)
   rw [p2] at this
   exact .inl ⟨p,p1,p2,this⟩
  ·refine .inr ⟨fun p p1 p2=>hx ⟨p,p1,p2⟩,hS.u0 r fun k hk hd e=>?_⟩
   obtain ⟨p,p1,p2⟩:=(hR.doneD k).1 hd
   exact hx ⟨p,p1,by rw [p2];exact e⟩
 have uP:∀ p,p<t+1→gi T.u (own o (A p))=gi g.u (own o (A p))+s.delta:=fun p hp=>hS.u1 (A p) (h.le p (by omega)) ((hR.doneD _).2 ⟨p,hp,rfl⟩)
 have vR:∀ k,k≤m→(gi (CP g) k=true∧gi T.v k=gi g.v k-s.delta)∨(gi (CP g) k=false∧gi T.v k=gi g.v k):=fun k hk=>by
  cases hd:gi (CP g) k with
  |true=>exact .inl ⟨rfl,hS.v1 k hk hd⟩
  |false=>exact .inr ⟨rfl,hS.v0 k hd⟩
 refine ⟨by rw [eu,hS.lu,h.lu],by rw [ev,hS.lv],by rw [ew,hR.lw],by rw [el,hS.ll],by rw [ed];unfold CP;simp [h.ld],by rw [ea,hA],fun p hp=>?_,h.zero,fun p p1 hp=>?_,fun k=>by rw [ed];exact hR.doneD k,by rw [ed,hA];exact hR.newN,hO,?_,?_,?_,?_,?_,?_,?_,?_,?_⟩
 ·rcases Nat.lt_or_ge p (t+1) with h3|h3
  ·exact h.le p (by omega)
  ·obtain rfl:p=t+1:=by omega
   rw [hA];exact hR.next.2
 ·rcases Nat.lt_or_ge p (t+1) with h3|h3
  ·exact h.pos p p1 (by omega)
  ·obtain rfl:p=t+1:=by omega
   rw [hA];exact hR.next.1
 ·intro r k r1 r2 k1 k2
  rw [eu,ev]
  have h0:=h.VR r k r1 r2 k1 k2
  rcases uR r with ⟨p,p1,p2,p3⟩|⟨p1,p3⟩<;>rcases vR k k2 with ⟨q1,q2⟩|⟨q1,q2⟩
  ·omega
  ·have h1:=hR.dle k k1 k2 q1
   have h2:=hR.least k k1 k2 q1 p p1
   rw [p2] at h2
   omega
  ·omega
  ·omega
 ·intro k k1 k2 hk
  rw [eu,ev]
  have h0:=h.tight k k1 k2 hk
  rcases vR k k2 with ⟨q1,q2⟩|⟨q1,q2⟩
  ·have:=hS.u1 k k2 q1
   omega
  ·rcases uR (own o k) with ⟨p,p1,p2,p3⟩|⟨p1,p3⟩
   ·have:=ho.inj (A p) k (h.le p (by omega)) k2 p2 (hO p p1)
    rw [(hR.doneD k).2 ⟨p,p1,this⟩] at q1
    cases q1
   ·omega
 ·intro k k1 k2
  rw [ev]
  have h0:=h.aO k k1 k2
  rcases vR k k2 with ⟨q1,q2⟩|⟨q1,q2⟩<;>omega
 ·intro k k1 k2 hk
  rw [ev]
  have h0:=h.OW k k1 k2 hk
  rcases vR k k2 with ⟨q1,q2⟩|⟨q1,q2⟩
  ·obtain ⟨p,p1,p2⟩:=(hR.doneD k).1 q1
   have:=hO p p1
   rw [p2] at this
   exact absurd hk this
  ·omega
 ·intro r r1 r2
  rw [eu]
  have h0:=h.UH r r1 r2
  rcases uR r with ⟨p,p1,p2,p3⟩|⟨p1,p3⟩<;>omega
 ·intro r hr1
  rw [eu]
  rcases uR r with ⟨p,p1,p2,p3⟩|⟨p1,p3⟩
  ·have:=ho.lt (h.le p (by omega));omega
  ·rw [p3];exact h.uz r hr1
 ·intro k k1 k2 hk p hp
  rw [ed] at hk
  rw [eu,ev,el,hS.least k k2 hk,uP p hp,hS.v0 k hk]
  have:=hR.least k k1 k2 hk p hp
  omega
 ·intro k k1 k2 hk
  rw [ed] at hk
  obtain ⟨p,p1,p2,p3⟩:=hR.VQ k k1 k2 hk
  refine .inr ⟨p,p1,by rw [ew];exact p2,?_⟩
  rw [eu,ev,el,hS.least k k2 hk,uP p p1,hS.v0 k hk]
  omega
 ·intro p p1 hp
  rw [eu,ev,ew]
  rcases Nat.lt_or_ge p (t+1) with h3|h3
  ·obtain ⟨q,q1,q2,q3⟩:=h.path p p1 (by omega)
   have hd:=(hR.doneD (A p)).2 ⟨p,h3,rfl⟩
   refine ⟨q,q1,?_,?_⟩
   ·unfold own
    rw [hR.way _ hd];exact q2
   ·rw [uP q (by omega),hS.v1 _ (h.le p (by omega)) hd]
    omega
  ·obtain rfl:p=t+1:=by omega
   obtain ⟨q,q1,q2,q3⟩:=hR.VQ s.next hR.next.1 hR.next.2 hR.newN
   refine ⟨q,q1,by rw [hA];exact q2,?_⟩
   rw [hA,uP q q1,hS.v0 _ hR.newN]
   have:=hR.dn
   omega
end
end Go.Hun
