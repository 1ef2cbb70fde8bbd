/-
  Texts of a proof, merged (OrC, OrD, OrE, OrN, Vm31, Ori, Vm29, Vm36, Vm32, Vm33, Vm34, Vm37, TraF, Vm35, TraG, TraH, TraQ, TraA, TraI, HunA, HunB, HunC). Conditions: in each statement.
-/
import Derived.Sort.Grow
import Derived.Test.YtdabojnmoejilaaGreatDoorKBd
set_option linter.unusedSimpArgs false
set_option linter.unusedVariables false
set_option linter.unusedSectionVars false
set_option maxRecDepth 100000
set_option maxHeartbeats 8000000
namespace Go.Proofs.YtdabojnmoejilaaGreatDoor
open Go Go.Am Go.Vm
attribute [local irreducible] Aa Ag Ap Ad BA AY CJ AO AL Aw Vm.Done Dc Bq
attribute [local irreducible] D8 DT
theorem VB (lo hi:Int):AY env 89 [.agg [.int .i64 lo,.int .i64 hi]] (.p (.int .i64 (Va lo hi))):=by
 unfold Va
 refine AY.enter (AB (by decide)) Tryz.func89 rfl (by kernel_rfl) (by simp [Tryz.ntmps89]) ?_
 repeat' (first|apply Ad.AA|apply Ad.Ai|apply AO.normal|apply AO.ret|apply AL.normal|apply AL.ret|apply Ad.ret|apply Ad.skip|apply Ag.nil|apply Ag.one|(apply Ag.take;rfl;rfl)|(apply Ag.drop;rfl;rfl;rfl)|(apply Ag.guard;rfl;rfl)|(apply Aa.assign;rfl)|(apply Aa.move;rfl)|(apply Aa.int;rfl;rfl;rfl)|(apply Aa.load;rfl;rfl)|(apply Aa.BH;rfl;rfl)|(apply Aa.AV;rfl;rfl)|(apply Aa.AU;rfl;rfl;rfl)|(apply Aa.box;rfl;trivial)|(apply Ad.cond_true;rfl)|(apply Ad.A8;rfl)|(intro _;try (exfalso;omega)))
 all_goals first
  |(rw [if_pos (by omega)];(refine Done.ret rfl (.refl _) (by first|exact trivial|exact ⟨trivial,trivial,trivial⟩|exact ⟨trivial,trivial,trivial,trivial⟩) Aj.nil (Nat.zero_le _) (Nat.le_refl _) ⟨?_,rfl,rfl⟩;try rfl);done)
  |(rw [if_neg (by omega),if_pos (by omega)];(refine Done.ret rfl (.refl _) (by first|exact trivial|exact ⟨trivial,trivial,trivial⟩|exact ⟨trivial,trivial,trivial,trivial⟩) Aj.nil (Nat.zero_le _) (Nat.le_refl _) ⟨?_,rfl,rfl⟩;try rfl);done)
  |(rw [if_neg (by omega),if_neg (by omega)];(refine Done.ret rfl (.refl _) (by first|exact trivial|exact ⟨trivial,trivial,trivial⟩|exact ⟨trivial,trivial,trivial,trivial⟩) Aj.nil (Nat.zero_le _) (Nat.le_refl _) ⟨?_,rfl,rfl⟩;try rfl);done)
theorem dM:WV Tryz.prog 133=true:=by kernel_rfl
theorem a2a (x y:iC):Vm.ZM Tryz.prog 133 (Enc.enc x) (Enc.enc y)=some (decide (x=y)):=by
 show some (decide (x.rank=y.rank)&&(decide (x.shift=y.shift)&&true))=_
 by_cases h:x=y
 ·subst h;simp
 ·rw [decide_eq_false h]
  have:¬ (x.rank=y.rank∧x.shift=y.shift):=fun h'=>h (by cases x;cases y;simp_all)
  by_cases h1:x.rank=y.rank<;>simp_all
theorem VH {α:Type} [Inhabited α] {a:α} {l:List α}:a∈l↔∃ i,i<l.length∧gi l i=a:=by
 constructor
 ·intro h
  obtain ⟨i,hi,e⟩:=List.getElem_of_mem h
  exact ⟨i,hi,by simp [gi,List.getElem?_eq_getElem hi,e]⟩
 ·rintro ⟨i,hi,e⟩
  rw [← e]
  simp only [gi,List.getElem?_eq_getElem hi,Option.getD_some]
  exact List.getElem_mem hi
theorem ZO {α:Type} [Inhabited α] {l:List α} {i k:Nat} (h:i<k):gi (l.take k) i=gi l i:=by simp [gi,List.getElem?_take,h]
theorem Dz {α:Type} [Inhabited α] {l:List α} {k:Nat} (hk:k<l.length):l.take (k+1)=l.take k++[gi l k]:=by
 rw [List.take_succ_eq_append_getElem hk];simp [gi,List.getElem?_eq_getElem hk]
theorem zM {L:Vm.Frame} {H:Vm.Heap} {nx:Nat} {Q:PV→Vm.Heap→Nat→Prop} {dst:Option Tmp} {ty:TypeId} {pos:String} {af:Array Edge} {gd:Option (Nat×Bool)} {fo:Operand} {args:Array Operand} {aT:Array TypeId} {fs cs xs:List PV} {c:Code}
 (hf:Bz env.Γ L fo=some (.clo 136 fs cs)) (ha:evs env.Γ L args.toList=some xs) (hb:Tryz.f136.body=some c) (hn:(fs++xs++cs).length≤Tryz.f136.ntmps)
 (h:Ad env nx c (CP 0 (fs++xs++cs)) H nx (Bq env.P Tryz.f136.results.toList Q)):Aa env true ⟨dst,.call { callee:=.value fo,args:=args,argTypes:=aT },ty,pos,af,gd⟩ L H nx Q:=by
 have h0:(match Tryz.f136.body with|some c=>H6 env.G Tryz.f136 c|none=>false)=true:=by kernel_rfl
 rw [hb] at h0
 exact Aa.inline rfl hf ha (AB (by decide)) Tryz.func136 hb h0 hn h
theorem XZ (l:List iC) (d:iC) (hl:l.length<1000000):AY env 124 [.lst 133 (cells l) l.length,.agg (Enc.enc d)] (.p (.bool (decide (d∈l)))):=by
 refine AY.enter (AB (by decide)) Tryz.func124 rfl (by kernel_rfl) (by simp [Tryz.ntmps124]) ?_
 repeat' (first|apply Ad.assoc|apply Ad.AA|apply Ad.Ai|apply Ag.nil|apply Ag.one|(apply zM;rfl;rfl;rfl;exact le_dec rfl)|(apply Aa.assign;rfl)|(apply Aa.move;rfl)|(apply Aa.load;rfl;rfl)|(apply Aa.BI;rfl;rfl)|(apply Aa.box;rfl;trivial))
 refine Ad.Eb (fun k:Nat=>[(0,lst 133 l),(3,.ref 1 0),(7,.p (.int .i64 (l.length:Int))),(8,.p (.int .i64 (k:Int)))]) (fun _=>[(1,.box 133 ((Enc.enc d).map .p)),(0,.box 133 ((Enc.enc d).map .p))]) 2 (fun k=>k≤l.length∧∀ i,i<k→d≠gi l i) (fun k=>l.length-k) 0 (by omega) ⟨by omega,fun i hi=>by omega⟩ ⟨by omega,?_,?_⟩ ?_
 ·repeat (first|exact Ae.nil|refine Ae.same trivial rfl ?_|refine Ae.same (Ac rfl) rfl ?_|refine Ae.same ⟨trivial,Ac rfl,Ac rfl,Ac rfl,trivial⟩ rfl ?_|refine Ae.same ⟨trivial,Ac rfl,Ac rfl,trivial⟩ rfl ?_|refine Ae.same ⟨trivial,trivial⟩ rfl ?_|refine Ae.cons trivial rfl (.of_eq (Ar (by simp<;>omega))) ?_)
 ·repeat (first|exact Aj.nil|(refine Aj.cons (Ac rfl) ?_ rfl ?_ ?_;(first|exact trivial|exact AQ.Ah _ _|(simp [HB.under,AQ.under,PV.under]));(first|exact Bj.refl _|exact Bj.vec (Bh.refl _) (by simp))))
 rintro k ⟨hk,hok⟩
 have he:=a2a d (gi l k)
 by_cases hd:d=gi l k
 ·rw [decide_eq_true hd] at he
  repeat' (first|apply Ad.AA|apply Ad.BJ|apply Ad.Aq|apply Ad.AZ|apply Ad.Ai|apply AO.normal|apply AO.ret|(apply Bq.ret;rfl)|apply AL.ret|apply AL.exit|apply Aw.ret|apply Aw.exit|apply Ad.ret|apply Ag.nil|apply Ap.nil|apply Ag.one|(apply Ap.bar;decide +kernel)|apply Ap.quiet|(apply Aa.a1c;rfl;rfl;exact dM;exact he)|(apply Aa.assign;rfl)|(apply Aa.move;rfl)|(apply Aa.int;rfl;rfl;rfl)|(apply Aa.AP;rfl;rfl;rfl;omega;rfl)|(apply Aa.load;rfl;rfl)|(apply Ad.Af;rfl)|(apply Ad.cond_true;rfl)|(intro _;try (exfalso;omega)))
  ·rename_i a1
   rw [decide_eq_true (VH.2 ⟨k,by omega,hd.symm⟩)]
   refine Done.ret rfl (.refl _) (by first|exact trivial|exact ⟨trivial,trivial,trivial⟩|exact ⟨trivial,trivial,trivial,trivial⟩) Aj.nil (Nat.zero_le _) (Nat.le_refl _) ⟨?_,rfl,rfl⟩
   refine PV.Rn ?_
   simp
  ·rename_i a1
   rw [decide_eq_false (fun h=>by obtain ⟨i,h1,h2⟩:=VH.1 h;exact hok i (by omega) h2.symm)]
   (refine Done.ret rfl (.refl _) (by first|exact trivial|exact ⟨trivial,trivial,trivial⟩|exact ⟨trivial,trivial,trivial,trivial⟩) Aj.nil (Nat.zero_le _) (Nat.le_refl _) ⟨?_,rfl,rfl⟩;try rfl)
 ·rw [decide_eq_false hd] at he
  repeat' (first|apply Ad.AA|apply Ad.BJ|apply Ad.region|apply Ad.Aq|apply Ad.AZ|apply Ad.Ai|apply AO.normal|(apply Bq.ret;rfl)|apply AL.normal|apply AL.exit|apply Aw.exit|apply Ad.ret|apply Ad.skip|apply Ag.nil|apply Ap.nil|apply Ag.one|(apply Ap.bar;decide +kernel)|apply Ap.quiet|(apply Aa.a1c;rfl;rfl;exact dM;exact he)|(apply Aa.assign;rfl)|(apply Aa.move;rfl)|(apply Aa.Bv;rfl;rfl;omega)|(apply Aa.int;rfl;rfl;rfl)|(apply Aa.AP;rfl;rfl;rfl;omega;rfl)|(apply Aa.load;rfl;rfl)|(apply Ad.Af;rfl)|(apply Ad.cond_false;rfl)|(intro _;try (exfalso;omega)))
  ·rename_i a1
   refine Aw.normal ⟨k+1,⟨by omega,fun i hi=>?_⟩,by omega,⟨by omega,?_,?_⟩⟩
   ·rcases Nat.lt_or_ge i k with h|h
    ·exact hok i h
    ·obtain rfl:i=k:=by omega
     exact hd
   ·repeat (first|exact Ae.nil|refine Ae.same trivial rfl ?_|refine Ae.same (Ac rfl) rfl ?_|refine Ae.same ⟨trivial,Ac rfl,Ac rfl,Ac rfl,trivial⟩ rfl ?_|refine Ae.same ⟨trivial,Ac rfl,Ac rfl,trivial⟩ rfl ?_|refine Ae.same ⟨trivial,trivial⟩ rfl ?_|refine Ae.cons trivial rfl (.of_eq (Ar (by simp<;>omega))) ?_)
   ·repeat (first|exact Aj.nil|(refine Aj.cons (Ac rfl) ?_ rfl ?_ ?_;(first|exact trivial|exact AQ.Ah _ _|(simp [HB.under,AQ.under,PV.under]));(first|exact Bj.refl _|exact Bj.vec (Bh.refl _) (by simp))))
  ·rename_i a1
   rw [decide_eq_false (fun h=>by obtain ⟨i,h1,h2⟩:=VH.1 h;exact hok i (by omega) h2.symm)]
   (refine Done.ret rfl (.refl _) (by first|exact trivial|exact ⟨trivial,trivial,trivial⟩|exact ⟨trivial,trivial,trivial,trivial⟩) Aj.nil (Nat.zero_le _) (Nat.le_refl _) ⟨?_,rfl,rfl⟩;try rfl)
def pK (rk:List FU) (lo hi:Int):List FV:=[.lst 131 (cells rk) rk.length,.int .i64 lo,.int .i64 hi]
theorem lq (rk:List FU) (lo hi:Int) (l:List iC) (hl:l.length<1000000) (hr:rk.length<1000000):AY env 109 [.agg (pK rk lo hi),.lst 133 (cells l) l.length] (.p (.int .i64 (PG rk.length l))):=by
 unfold PG
 refine AY.enter (AB (by decide)) Tryz.func109 rfl (by kernel_rfl) (by simp [Tryz.ntmps109]) ?_
 repeat' (first|apply Ad.assoc|apply Ad.AA|apply Ad.Aq|apply Ad.BO|apply Ad.Ai|apply Ag.nil|apply Ag.one|(apply Aa.assign;rfl)|(apply Aa.move;rfl)|(apply Aa.int;rfl;rfl;rfl)|(apply Aa.BI;rfl;rfl)|(apply Aa.box;rfl;trivial)|(apply Ad.Af;rfl)|(intro _;try (exfalso;omega)))
 ·rw [if_pos (by omega)];(refine Done.ret rfl (.refl _) (by first|exact trivial|exact ⟨trivial,trivial,trivial⟩|exact ⟨trivial,trivial,trivial,trivial⟩) Aj.nil (Nat.zero_le _) (Nat.le_refl _) ⟨?_,rfl,rfl⟩;try rfl)
 rw [if_neg (by omega)]
 refine Ad.Eb (fun k:Nat=>[(1,lst 133 l),(2,.ref 0 0),(10,lst 133 l),(11,.p (.int .i64 (l.length:Int))),(12,.p (.int .i64 (k:Int)))]) (fun _=>[(0,.box 186 ((pK rk lo hi).map .p))]) 1 (fun k=>k≤l.length∧Na rk.length l k=Na rk.length l 0) (fun k=>l.length-k) 0 (by omega) ⟨by omega,rfl⟩ ⟨by omega,?_,?_⟩ ?_
 ·repeat (first|exact Ae.nil|refine Ae.same trivial rfl ?_|refine Ae.same (Ac rfl) rfl ?_|refine Ae.same ⟨trivial,Ac rfl,Ac rfl,Ac rfl,trivial⟩ rfl ?_|refine Ae.same ⟨trivial,Ac rfl,Ac rfl,trivial⟩ rfl ?_|refine Ae.same ⟨trivial,trivial⟩ rfl ?_|refine Ae.cons trivial rfl (.of_eq (Ar (by simp<;>omega))) ?_)
 ·repeat (first|exact Aj.nil|(refine Aj.cons (Ac rfl) ?_ rfl ?_ ?_;(first|exact trivial|exact AQ.Ah _ _|(simp [HB.under,AQ.under,PV.under]));(first|exact Bj.refl _|exact Bj.vec (Bh.refl _) (by simp))))
 rintro k ⟨hk,hE⟩
 have hc:=XZ (l.take k) (gi l k) (by rw [List.length_take];omega)
 rw [List.length_take,Nat.min_eq_left (by omega)] at hc
 rw [← hE]
 by_cases hkl:k<l.length
 ·rw [Na,if_pos hkl]
  generalize hg:decide (gi l k∈l.take k)=g at *
  cases g
  all_goals
   repeat' (first|apply Ad.AA|apply Ad.BJ|apply Ad.region|apply Ad.Aq|apply Ad.Ai|apply AO.normal|apply AO.ret|apply AL.normal|apply AL.ret|apply Aw.ret|apply Ad.ret|apply Ad.skip|apply Ad.II|apply Ag.nil|apply Ap.nil|apply Ag.one|(apply Ap.bar;decide +kernel)|apply Ap.quiet|(apply Ag.take;rfl;rfl)|(apply Ag.drop;rfl;rfl;rfl)|(apply Ag.guard;rfl;rfl)|(apply Aa.fn;rfl;rfl;exact hc;intro _;rfl)|(apply Aa.sliceTo;rfl;rfl;rfl;rfl;rfl;rfl;omega)|(apply Aa.assign;rfl)|(apply Aa.move;rfl)|(apply Aa.Bv;rfl;rfl;omega)|(apply Aa.int;rfl;rfl;rfl)|(apply Aa.AP;rfl;rfl;rfl;omega;rfl)|(apply Aa.load;rfl;rfl)|(apply Aa.BH;rfl;rfl)|(apply Aa.AV;rfl;rfl)|(apply Aa.BI;rfl;rfl)|(apply Aa.AU;rfl;rfl;rfl)|(apply Aa.alloc;rfl)|(apply Aa.Bo;rfl;rfl;rfl;trivial;rfl;rfl;exact Ac rfl;exact le_dec rfl)|(apply Ad.Af;rfl)|(apply Ad.cond_true;rfl)|(apply Ad.cond_false;rfl)|(apply Ad.A8;rfl)|(intro _;try (exfalso;omega)))
  all_goals try (exfalso;omega)
  all_goals first
   |(rw [if_pos (by omega)];(refine Done.ret rfl (.refl _) (by first|exact trivial|exact ⟨trivial,trivial,trivial⟩|exact ⟨trivial,trivial,trivial,trivial⟩) Aj.nil (Nat.zero_le _) (Nat.le_refl _) ⟨?_,rfl,rfl⟩;try rfl);done)
   |(rw [if_neg (by omega),if_pos (by omega)];(refine Done.ret rfl (.refl _) (by first|exact trivial|exact ⟨trivial,trivial,trivial⟩|exact ⟨trivial,trivial,trivial,trivial⟩) Aj.nil (Nat.zero_le _) (Nat.le_refl _) ⟨?_,rfl,rfl⟩;try rfl);done)
   |(rw [if_neg (by omega),if_neg (by omega),if_pos (of_decide_eq_true hg)];(refine Done.ret rfl (.refl _) (by first|exact trivial|exact ⟨trivial,trivial,trivial⟩|exact ⟨trivial,trivial,trivial,trivial⟩) Aj.nil (Nat.zero_le _) (Nat.le_refl _) ⟨?_,rfl,rfl⟩;try rfl);done)
   |(rw [if_neg (by omega),if_neg (by omega),if_neg (of_decide_eq_false hg)]
     refine Aw.normal ⟨k+1,⟨by omega,?_⟩,by omega,⟨by omega,?_,?_⟩⟩
     ·first|rfl|(refine Eq.trans ?_ hE;symm;(conv=>lhs;rw [Na]);rw [if_pos hkl,if_neg (by omega),if_neg (by omega),if_neg (of_decide_eq_false hg)])
     ·repeat (first|exact Ae.nil|refine Ae.same trivial rfl ?_|refine Ae.same (Ac rfl) rfl ?_|refine Ae.same ⟨trivial,Ac rfl,Ac rfl,Ac rfl,trivial⟩ rfl ?_|refine Ae.same ⟨trivial,Ac rfl,Ac rfl,trivial⟩ rfl ?_|refine Ae.same ⟨trivial,trivial⟩ rfl ?_|refine Ae.cons trivial rfl (.of_eq (Ar (by simp<;>omega))) ?_)
     ·repeat (first|exact Aj.nil|(refine Aj.cons (Ac rfl) ?_ rfl ?_ ?_;(first|exact trivial|exact AQ.Ah _ _|(simp [HB.under,AQ.under,PV.under]));(first|exact Bj.refl _|exact Bj.vec (Bh.refl _) (by simp)))))
 ·rw [Na,if_neg hkl]
  repeat' (first|apply Ad.AA|apply Ad.AZ|apply AO.normal|apply AL.exit|apply Aw.exit|apply Ad.ret|apply Ag.nil|apply Ag.one|(apply Aa.assign;rfl)|(apply Aa.int;rfl;rfl;rfl)|(apply Ad.Af;rfl)|(intro _;try (exfalso;omega)))
  all_goals first|(exfalso;omega)|(refine Done.ret rfl (.refl _) (by first|exact trivial|exact ⟨trivial,trivial,trivial⟩|exact ⟨trivial,trivial,trivial,trivial⟩) Aj.nil (Nat.zero_le _) (Nat.le_refl _) ⟨?_,rfl,rfl⟩;try rfl)
theorem ku (rk:List FU) (lo hi:Int) (hr:rk.length<1000000) (hs:∀ i,i<rk.length→XM (gi rk i)):AY env 108 [.agg (pK rk lo hi)] (.p (.int .i64 (eY rk lo hi))):=by
 have hcm:=VB lo hi
 unfold eY
 refine AY.enter (AB (by decide)) Tryz.func108 rfl (by kernel_rfl) (by simp [Tryz.ntmps108]) ?_
 repeat' (first|apply Ad.assoc|apply Ad.AA|apply Ad.Aq|apply Ad.BO|apply Ad.Ai|apply Ag.nil|apply Ag.one|(apply Aa.assign;rfl)|(apply Aa.move;rfl)|(apply Aa.int;rfl;rfl;rfl)|(apply Aa.load;rfl;rfl)|(apply Aa.BI;rfl;rfl)|(apply Aa.AU;rfl;rfl;rfl)|(apply Aa.box;rfl;trivial)|(apply Ad.Af;rfl)|(intro _;try (exfalso;omega)))
 ·rw [if_pos (by omega)];(refine Done.ret rfl (.refl _) (by first|exact trivial|exact ⟨trivial,trivial,trivial⟩|exact ⟨trivial,trivial,trivial,trivial⟩) Aj.nil (Nat.zero_le _) (Nat.le_refl _) ⟨?_,rfl,rfl⟩;try rfl)
 rw [if_neg (by omega)]
 refine Ad.Eb (fun k:Nat=>[(1,.ref 0 0),(11,lst 131 rk),(12,.p (.int .i64 (rk.length:Int))),(13,.p (.int .i64 (k:Int)))]) (fun _=>[(0,.box 186 ((pK rk lo hi).map .p))]) 1 (fun k=>k≤rk.length∧Xn rk k=Xn rk 0) (fun k=>rk.length-k) 0 (by omega) ⟨by omega,rfl⟩ ⟨by omega,?_,?_⟩ ?_
 ·repeat (first|exact Ae.nil|refine Ae.same trivial rfl ?_|refine Ae.same (Ac rfl) rfl ?_|refine Ae.same ⟨trivial,Ac rfl,Ac rfl,Ac rfl,trivial⟩ rfl ?_|refine Ae.same ⟨trivial,Ac rfl,Ac rfl,trivial⟩ rfl ?_|refine Ae.same ⟨trivial,trivial⟩ rfl ?_|refine Ae.cons trivial rfl (.of_eq (Ar (by simp<;>omega))) ?_)
 ·repeat (first|exact Aj.nil|(refine Aj.cons (Ac rfl) ?_ rfl ?_ ?_;(first|exact trivial|exact AQ.Ah _ _|(simp [HB.under,AQ.under,PV.under]));(first|exact Bj.refl _|exact Bj.vec (Bh.refl _) (by simp))))
 rintro k ⟨hk,hE⟩
 rw [← hE]
 by_cases hkl:k<rk.length
 ·have hsm:=(hs k hkl).len
  have hc:=Ue (gi rk k) hsm.1 hsm.2.1 hsm.2.2
  rw [Xn,if_pos hkl]
  by_cases h0:D8 (gi rk k)=0
  ·rw [h0] at hc ⊢
   rw [if_neg (by decide)]
   repeat' (first|apply Ad.AA|apply Ad.region|apply Ad.Aq|apply Ad.Ai|apply AO.normal|apply AL.normal|apply Ad.skip|apply Ag.nil|apply Ag.one|(apply Aa.fn;rfl;rfl;exact hc;intro _;rfl)|(apply Aa.assign;rfl)|(apply Aa.move;rfl)|(apply Aa.Bv;rfl;rfl;omega)|(apply Aa.int;rfl;rfl;rfl)|(apply Aa.AP;rfl;rfl;rfl;omega;rfl)|(apply Aa.load;rfl;rfl)|(apply Aa.alloc;rfl)|(apply Aa.Bo;rfl;rfl;rfl;trivial;rfl;rfl;exact Ac rfl;exact le_dec rfl)|(apply Ad.Af;rfl)|(apply Ad.cond_false;rfl)|(intro _;try (exfalso;omega)))
   all_goals try (exfalso;omega)
   refine Aw.normal ⟨k+1,⟨by omega,?_⟩,by omega,⟨by omega,?_,?_⟩⟩
   ·first|rfl|(refine Eq.trans ?_ hE;symm;(conv=>lhs;rw [Xn]);rw [if_pos hkl,if_neg (fun h=>h h0)])
   ·repeat (first|exact Ae.nil|refine Ae.same trivial rfl ?_|refine Ae.same (Ac rfl) rfl ?_|refine Ae.same ⟨trivial,Ac rfl,Ac rfl,Ac rfl,trivial⟩ rfl ?_|refine Ae.same ⟨trivial,Ac rfl,Ac rfl,trivial⟩ rfl ?_|refine Ae.same ⟨trivial,trivial⟩ rfl ?_|refine Ae.cons trivial rfl (.of_eq (Ar (by simp<;>omega))) ?_)
   ·repeat (first|exact Aj.nil|(refine Aj.cons (Ac rfl) ?_ rfl ?_ ?_;(first|exact trivial|exact AQ.Ah _ _|(simp [HB.under,AQ.under,PV.under]));(first|exact Bj.refl _|exact Bj.vec (Bh.refl _) (by simp))))
  ·rw [if_pos h0,if_pos h0]
   repeat' (first|apply Ad.AA|apply Ad.Aq|apply Ad.Ai|apply AO.ret|apply AL.ret|apply Aw.ret|apply Ad.ret|apply Ag.nil|apply Ag.one|(apply Aa.fn;rfl;rfl;exact hc;intro _;rfl)|(apply Aa.assign;rfl)|(apply Aa.move;rfl)|(apply Aa.int;rfl;rfl;rfl)|(apply Aa.AP;rfl;rfl;rfl;omega;rfl)|(apply Aa.load;rfl;rfl)|(apply Aa.alloc;rfl)|(apply Aa.Bo;rfl;rfl;rfl;trivial;rfl;rfl;exact Ac rfl;exact le_dec rfl)|(apply Ad.Af;rfl)|(apply Ad.A8;rfl)|(intro _;try (exfalso;omega)))
   all_goals first|(exfalso;omega)|(refine Done.ret rfl (.refl _) (by first|exact trivial|exact ⟨trivial,trivial,trivial⟩|exact ⟨trivial,trivial,trivial,trivial⟩) Aj.nil (Nat.zero_le _) (Nat.le_refl _) ⟨?_,rfl,rfl⟩;try rfl)
 ·rw [Xn,if_neg hkl,if_neg (by decide)]
  repeat' (first|apply Ad.AA|apply Ad.AZ|apply AO.normal|apply AL.exit|apply Aw.exit|apply Ad.ret|apply Ag.nil|apply Ag.one|(apply Aa.fn;rfl;rfl;exact hcm;intro _;rfl)|(apply Aa.assign;rfl)|(apply Aa.int;rfl;rfl;rfl)|(apply Aa.load;rfl;rfl)|(apply Aa.AU;rfl;rfl;rfl)|(apply Ad.Af;rfl)|(intro _;try (exfalso;omega)))
  all_goals first|(exfalso;omega)|(refine Done.ret rfl (.refl _) (by first|exact trivial|exact ⟨trivial,trivial,trivial⟩|exact ⟨trivial,trivial,trivial,trivial⟩) Aj.nil (Nat.zero_le _) (Nat.le_refl _) ⟨?_,rfl,rfl⟩;try rfl)
theorem qQ (rk:List FU) (lo hi:Int) (s:Stp) (hr:rk.length<1000000) (hs:∀ i,i<rk.length→XM (gi rk i)) (hS:Ze s):AY env 90 [.agg (pK rk lo hi),.agg (Enc.enc s)] (.p (.int .i64 (Jp rk lo hi s))):=by
 obtain ⟨q1,q2,q3⟩:=hS
 have hp:=ku rk lo hi hr hs
 have hn:=Hw s.name (by omega)
 have hf:=KF s.Dp
 unfold Jp uj
 refine AY.enter (AB (by decide)) Tryz.func90 rfl (by kernel_rfl) (by simp [Tryz.ntmps90]) ?_
 by_cases h0:eY rk lo hi=0
 case neg =>
  rw [if_pos h0]
  repeat' (first|apply Ad.assoc|apply Ad.AA|apply Ad.BO|apply Ag.nil|apply Ag.one|(apply Aa.fn;rfl;rfl;exact hp;intro _;rfl)|(apply Aa.assign;rfl)|(apply Aa.move;rfl)|(apply Aa.int;rfl;rfl;rfl)|(apply Aa.load;rfl;rfl)|(apply Aa.box;rfl;trivial)|(apply Ad.Af;rfl)|(intro _;try (exfalso;omega)))
  all_goals first|(exfalso;omega)|(refine Done.ret rfl (.refl _) (by first|exact trivial|exact ⟨trivial,trivial,trivial⟩|exact ⟨trivial,trivial,trivial,trivial⟩) Aj.nil (Nat.zero_le _) (Nat.le_refl _) ⟨?_,rfl,rfl⟩;try rfl)
 rw [h0] at hp ⊢
 rw [if_neg (by decide)]
 by_cases h1:C9 s.name
 case neg =>
  rw [if_pos h1]
  rw [decide_eq_false h1] at hn
  repeat' (first|apply Ad.assoc|apply Ad.AA|apply Ad.Aq|apply Ad.BO|apply Ag.nil|apply Ag.one|(apply Aa.fn;rfl;rfl;exact hp;intro _;rfl)|(apply Aa.fn;rfl;rfl;exact hn;intro _;rfl)|(apply Aa.assign;rfl)|(apply Aa.move;rfl)|(apply Aa.int;rfl;rfl;rfl)|(apply Aa.load;rfl;rfl)|(apply Aa.AU;rfl;rfl;rfl)|(apply Aa.box;rfl;trivial)|(apply Aa.not;rfl)|(apply Ad.Bd;rfl)|(apply Ad.Au;rfl))
  all_goals first|contradiction|(exfalso;omega)|(refine Done.ret rfl (.refl _) (by first|exact trivial|exact ⟨trivial,trivial,trivial⟩|exact ⟨trivial,trivial,trivial,trivial⟩) Aj.nil (Nat.zero_le _) (Nat.le_refl _) ⟨?_,rfl,rfl⟩;try rfl)
 rw [if_neg (fun h=>h h1)]
 rw [decide_eq_true h1] at hn
 by_cases h2:OY s.Dp=0
 case neg =>
  rw [if_pos h2]
  repeat' (first|apply Ad.assoc|apply Ad.AA|apply Ad.Aq|apply Ad.BO|apply Ag.nil|apply Ag.one|(apply Aa.fn;rfl;rfl;exact hp;intro _;rfl)|(apply Aa.fn;rfl;rfl;exact hn;intro _;rfl)|(apply Aa.fn;rfl;rfl;exact hf;intro _;rfl)|(apply Aa.assign;rfl)|(apply Aa.move;rfl)|(apply Aa.int;rfl;rfl;rfl)|(apply Aa.load;rfl;rfl)|(apply Aa.AU;rfl;rfl;rfl)|(apply Aa.box;rfl;trivial)|(apply Aa.not;rfl)|(apply Ad.Au;rfl)|(apply Ad.Af;rfl)|(intro _;try (exfalso;omega)))
  all_goals first|contradiction|(exfalso;omega)|(refine Done.ret rfl (.refl _) (by first|exact trivial|exact ⟨trivial,trivial,trivial⟩|exact ⟨trivial,trivial,trivial,trivial⟩) Aj.nil (Nat.zero_le _) (Nat.le_refl _) ⟨?_,rfl,rfl⟩;try rfl)
 rw [if_neg (fun h=>h h2)]
 rw [h2] at hf
 repeat' (first|apply Ad.assoc|apply Ad.AA|apply Ad.Aq|apply Ad.Ai|apply AO.normal|apply AO.ret|apply AL.normal|apply AL.ret|apply Ad.ret|apply Ad.skip|apply Ag.nil|apply Ag.one|(apply Aa.fn;rfl;rfl;exact hp;intro _;rfl)|(apply Aa.fn;rfl;rfl;exact hn;intro _;rfl)|(apply Aa.fn;rfl;rfl;exact hf;intro _;rfl)|(apply Aa.assign;rfl)|(apply Aa.move;rfl)|(apply Aa.int;rfl;rfl;rfl)|(apply Aa.load;rfl;rfl)|(apply Aa.BI;rfl;rfl)|(apply Aa.AU;rfl;rfl;rfl)|(apply Aa.box;rfl;trivial)|(apply Aa.not;rfl)|(apply Ad.Au;rfl)|(apply Ad.A8;rfl)|(intro _;try (exfalso;omega)))
 all_goals try contradiction
 all_goals try (exfalso;omega)
 ·rw [if_pos (by omega)];(refine Done.ret rfl (.refl _) (by first|exact trivial|exact ⟨trivial,trivial,trivial⟩|exact ⟨trivial,trivial,trivial,trivial⟩) Aj.nil (Nat.zero_le _) (Nat.le_refl _) ⟨?_,rfl,rfl⟩;try rfl)
 ·rw [if_neg (by omega),if_pos (by omega)];(refine Done.ret rfl (.refl _) (by first|exact trivial|exact ⟨trivial,trivial,trivial⟩|exact ⟨trivial,trivial,trivial,trivial⟩) Aj.nil (Nat.zero_le _) (Nat.le_refl _) ⟨?_,rfl,rfl⟩;try rfl)
 rw [if_neg (by omega),if_neg (by omega)]
 refine Ad.Eb (fun k:Nat=>[(2,.ref 0 0),(3,.ref 1 0),(36,lst 136 s.Ez),(37,.p (.int .i64 (s.Ez.length:Int))),(38,.p (.int .i64 (k:Int)))]) (fun _=>[(1,.box 122 ((Enc.enc s).map .p)),(0,.box 186 ((pK rk lo hi).map .p))]) 2 (fun k=>k≤s.Ez.length∧JQ rk.length lo hi s.Ez k=JQ rk.length lo hi s.Ez 0) (fun k=>s.Ez.length-k) 0 (by omega) ⟨by omega,rfl⟩ ⟨by omega,?_,?_⟩ ?_
 ·repeat (first|exact Ae.nil|refine Ae.same trivial rfl ?_|refine Ae.same (Ac rfl) rfl ?_|refine Ae.same ⟨trivial,Ac rfl,Ac rfl,Ac rfl,trivial⟩ rfl ?_|refine Ae.same ⟨trivial,Ac rfl,Ac rfl,trivial⟩ rfl ?_|refine Ae.same ⟨trivial,trivial⟩ rfl ?_|refine Ae.cons trivial rfl (.of_eq (Ar (by simp<;>omega))) ?_)
 ·repeat (first|exact Aj.nil|(refine Aj.cons (Ac rfl) ?_ rfl ?_ ?_;(first|exact trivial|exact AQ.Ah _ _|(simp [HB.under,AQ.under,PV.under]));(first|exact Bj.refl _|exact Bj.vec (Bh.refl _) (by simp))))
 rintro k ⟨hk,hE⟩
 rw [← hE]
 by_cases hkl:k<s.Ez.length
 ·have hsm:=(q3 k hkl).draws
  have hd:=lq rk lo hi (gi s.Ez k).draws hsm hr
  rw [JQ,if_pos hkl]
  have hk1:((k:Int)-1).toNat=k-1:=by omega
  have hkc:0<k→((k-1:Nat):Int)=(k:Int)-1:=fun h=>by omega
  generalize hD:PG rk.length (gi s.Ez k).draws=D at *
  repeat' (first|apply Ad.AA|apply Ad.BJ|apply Ad.region|apply Ad.Aq|apply Ad.Ai|apply AO.normal|apply AO.ret|apply AL.normal|apply AL.ret|apply Aw.ret|apply Ad.ret|apply Ad.skip|apply Ag.nil|apply Ap.nil|apply Ag.one|(apply Ap.bar;decide +kernel)|apply Ap.quiet|(apply Ag.take;rfl;rfl)|(apply Ap.Yy;rfl;rfl)|(apply Ag.drop;rfl;rfl;rfl)|(apply Ap.drop;rfl;rfl;rfl)|(apply Ag.guard;rfl;rfl)|(apply Ap.guard;rfl;rfl)|(apply Ap.nZ;rfl;rfl)|(apply Aa.fn;rfl;rfl;exact hd;intro _;rfl)|(apply Aa.assign;rfl)|(apply Aa.move;rfl)|(apply Aa.Bv;rfl;rfl;omega)|(apply Aa.IC;rfl;rfl;omega)|(apply Aa.int;rfl;rfl;rfl)|(apply Aa.AP;rfl;rfl;rfl;omega;rfl)|(apply Aa.sG;rfl;rfl;rfl;omega;omega;rfl)|(apply Aa.load;rfl;rfl)|(apply Aa.BH;rfl;rfl)|(apply Aa.AV;rfl;rfl)|(apply Aa.AU;rfl;rfl;rfl)|(apply Aa.DK;rfl;rfl)|(apply Aa.alloc;rfl)|(apply Aa.Bo;rfl;rfl;rfl;trivial;rfl;rfl;exact Ac rfl;exact le_dec rfl)|(apply Aa.X8;rfl;rfl)|(apply Aa.a6g;rfl;rfl)|(apply Ad.Af;rfl)|(apply Ad.cond_true;rfl)|(apply Ad.cond_false;rfl)|(apply Ad.A8;rfl)|(intro _;try (exfalso;omega)))
  all_goals try (exfalso;omega)
  all_goals first
   |(rw [if_pos (by omega)];(refine Done.ret rfl (.refl _) (by first|exact trivial|exact ⟨trivial,trivial,trivial⟩|exact ⟨trivial,trivial,trivial,trivial⟩) Aj.nil (Nat.zero_le _) (Nat.le_refl _) ⟨?_,rfl,rfl⟩;try rfl);done)
   |(rw [if_neg (by omega),if_pos (by omega)];(refine Done.ret rfl (.refl _) (by first|exact trivial|exact ⟨trivial,trivial,trivial⟩|exact ⟨trivial,trivial,trivial,trivial⟩) Aj.nil (Nat.zero_le _) (Nat.le_refl _) ⟨?_,rfl,rfl⟩;try rfl);done)
   |(rw [if_neg (by omega),if_neg (by omega),if_pos (by omega)];(refine Done.ret rfl (.refl _) (by first|exact trivial|exact ⟨trivial,trivial,trivial⟩|exact ⟨trivial,trivial,trivial,trivial⟩) Aj.nil (Nat.zero_le _) (Nat.le_refl _) ⟨?_,rfl,rfl⟩;try rfl);done)
   |(rw [if_neg (by omega),if_neg (by omega),if_neg (by omega)]
     refine Aw.normal ⟨k+1,⟨by omega,?_⟩,by omega,⟨by omega,?_,?_⟩⟩
     ·first|rfl|(refine Eq.trans ?_ hE;symm;(conv=>lhs;rw [JQ]);rw [if_pos hkl,if_neg (by omega),if_neg (by omega),if_neg (by omega)])
     ·repeat (first|exact Ae.nil|refine Ae.same trivial rfl ?_|refine Ae.same (Ac rfl) rfl ?_|refine Ae.same ⟨trivial,Ac rfl,Ac rfl,Ac rfl,trivial⟩ rfl ?_|refine Ae.same ⟨trivial,Ac rfl,Ac rfl,trivial⟩ rfl ?_|refine Ae.same ⟨trivial,trivial⟩ rfl ?_|refine Ae.cons trivial rfl (.of_eq (Ar (by simp<;>omega))) ?_)
     ·repeat (first|exact Aj.nil|(refine Aj.cons (Ac rfl) ?_ rfl ?_ ?_;(first|exact trivial|exact AQ.Ah _ _|(simp [HB.under,AQ.under,PV.under]));(first|exact Bj.refl _|exact Bj.vec (Bh.refl _) (by simp)))))
 ·rw [JQ,if_neg hkl]
  repeat' (first|apply Ad.AA|apply Ad.AZ|apply AO.normal|apply AL.exit|apply Aw.exit|apply Ad.ret|apply Ag.nil|apply Ag.one|(apply Aa.assign;rfl)|(apply Aa.int;rfl;rfl;rfl)|(apply Ad.Af;rfl)|(intro _;try (exfalso;omega)))
  all_goals first|(exfalso;omega)|(refine Done.ret rfl (.refl _) (by first|exact trivial|exact ⟨trivial,trivial,trivial⟩|exact ⟨trivial,trivial,trivial,trivial⟩) Aj.nil (Nat.zero_le _) (Nat.le_refl _) ⟨?_,rfl,rfl⟩;try rfl)
end Go.Proofs.YtdabojnmoejilaaGreatDoor
namespace Go.Proofs.YtdabojnmoejilaaGreatDoor
open Go Go.Am Go.Vm
attribute [local irreducible] Aa Ag Ap Ad BA AY CJ AO AL Aw Vm.Done Dc Bq
attribute [local irreducible] D8 DT
theorem yK {L:Vm.Frame} {H:Vm.Heap} {nx:Nat} {Q:PV→Vm.Heap→Nat→Prop} {dst:Option Tmp} {ty:TypeId} {pos:String} {af:Array Edge} {gd:Option (Nat×Bool)} {fo:Operand} {args:Array Operand} {aT:Array TypeId} {fs cs xs:List PV} {c:Code}
 (hf:Bz env.Γ L fo=some (.clo 91 fs cs)) (ha:evs env.Γ L args.toList=some xs) (hb:Tryz.f91.body=some c) (hn:(fs++xs++cs).length≤Tryz.f91.ntmps)
 (h:Ad env nx c (CP 0 (fs++xs++cs)) H nx (Bq env.P Tryz.f91.results.toList Q)):Aa env true ⟨dst,.call { callee:=.value fo,args:=args,argTypes:=aT },ty,pos,af,gd⟩ L H nx Q:=by
 have h0:(match Tryz.f91.body with|some c=>H6 env.G Tryz.f91 c|none=>false)=true:=by kernel_rfl
 rw [hb] at h0
 exact Aa.inline rfl hf ha (AB (by decide)) Tryz.func91 hb h0 hn h
theorem yS {L:Vm.Frame} {H:Vm.Heap} {nx:Nat} {Q:PV→Vm.Heap→Nat→Prop} {dst:Option Tmp} {ty:TypeId} {pos:String} {af:Array Edge} {gd:Option (Nat×Bool)} {fo:Operand} {args:Array Operand} {aT:Array TypeId} {fs cs xs:List PV} {c:Code}
 (hf:Bz env.Γ L fo=some (.clo 94 fs cs)) (ha:evs env.Γ L args.toList=some xs) (hb:Tryz.f94.body=some c) (hn:(fs++xs++cs).length≤Tryz.f94.ntmps)
 (h:Ad env nx c (CP 0 (fs++xs++cs)) H nx (Bq env.P Tryz.f94.results.toList Q)):Aa env true ⟨dst,.call { callee:=.value fo,args:=args,argTypes:=aT },ty,pos,af,gd⟩ L H nx Q:=by
 have h0:(match Tryz.f94.body with|some c=>H6 env.G Tryz.f94 c|none=>false)=true:=by kernel_rfl
 rw [hb] at h0
 exact Aa.inline rfl hf ha (AB (by decide)) Tryz.func94 hb h0 hn h
theorem mD {L:Vm.Frame} {H:Vm.Heap} {nx:Nat} {Q:PV→Vm.Heap→Nat→Prop} {dst:Option Tmp} {ty:TypeId} {pos:String} {af:Array Edge} {gd:Option (Nat×Bool)} {fo:Operand} {args:Array Operand} {aT:Array TypeId} {fs cs xs:List PV} {c:Code}
 (hf:Bz env.Γ L fo=some (.clo 92 fs cs)) (ha:evs env.Γ L args.toList=some xs) (hb:Tryz.f92.body=some c) (hn:(fs++xs++cs).length≤Tryz.f92.ntmps)
 (h:Ad env nx c (CP 0 (fs++xs++cs)) H nx (Bq env.P Tryz.f92.results.toList Q)):Aa env true ⟨dst,.call { callee:=.value fo,args:=args,argTypes:=aT },ty,pos,af,gd⟩ L H nx Q:=by
 have h0:(match Tryz.f92.body with|some c=>H6 env.G Tryz.f92 c|none=>false)=true:=by kernel_rfl
 rw [hb] at h0
 exact Aa.inline rfl hf ha (AB (by decide)) Tryz.func92 hb h0 hn h
theorem ZI (ks:List aS) (l:List aQ) (hk0:ks.length<1000000) (hl:l.length<1000000) (hn0:∀ i,i<l.length→(gi l i).name.length<1000000):AY env 61 [.lst 94 (cells ks) ks.length,.lst 147 (cells l) l.length] (.p (.int .i64 (TG ks l))):=by
 unfold TG
 refine AY.enter (AB (by decide)) Tryz.func61 rfl (by kernel_rfl) (by simp [Tryz.ntmps61]) ?_
 by_cases h0:ks.length>8∨l.length>40
 ·rw [if_pos h0]
  repeat' (first|apply Ad.assoc|apply Ad.AA|apply Ad.BO|apply Ag.nil|apply Ag.one|(apply Ag.take;rfl;rfl)|(apply Ag.drop;rfl;rfl;rfl)|(apply Ag.guard;rfl;rfl)|(apply Aa.assign;rfl)|(apply Aa.move;rfl)|(apply Aa.int;rfl;rfl;rfl)|(apply Aa.BH;rfl;rfl)|(apply Aa.AV;rfl;rfl)|(apply Aa.BI;rfl;rfl)|(apply Ad.Bd;rfl)|(apply Ad.Af;rfl)|(intro _;try (exfalso;omega)))
  all_goals first|(exfalso;omega)|(refine Done.ret rfl (.refl _) (by first|exact trivial|exact ⟨trivial,trivial,trivial⟩|exact ⟨trivial,trivial,trivial,trivial⟩) Aj.nil (Nat.zero_le _) (Nat.le_refl _) ⟨?_,rfl,rfl⟩;try rfl)
 rw [if_neg h0]
 repeat' (first|apply Ad.assoc|apply Ad.AA|apply Ad.Aq|apply Ad.Ai|apply Ag.nil|apply Ag.one|(apply Ag.take;rfl;rfl)|(apply Ag.guard;rfl;rfl)|(apply Aa.assign;rfl)|(apply Aa.move;rfl)|(apply Aa.int;rfl;rfl;rfl)|(apply Aa.AV;rfl;rfl)|(apply Aa.BI;rfl;rfl)|(apply Ad.Af;rfl)|(intro _;try (exfalso;omega)))
 all_goals try (exfalso;omega)
 refine Ad.Eb (fun k:Nat=>[(0,lst 94 ks),(1,lst 147 l),(17,lst 94 ks),(18,.p (.int .i64 (ks.length:Int))),(19,.p (.int .i64 (k:Int)))]) (fun _=>[]) 0 (fun k=>k≤ks.length∧PI ks k=PI ks 0) (fun k=>ks.length-k) 0 (by omega) ⟨by omega,rfl⟩ ⟨by omega,?_,Aj.nil⟩ ?_
 ·repeat (first|exact Ae.nil|refine Ae.same trivial rfl ?_|refine Ae.same (Ac rfl) rfl ?_|refine Ae.same ⟨trivial,Ac rfl,trivial⟩ rfl ?_|refine Ae.same ⟨trivial,Ac rfl,Ac rfl,trivial⟩ rfl ?_|refine Ae.same ⟨trivial,Ac rfl,Ac rfl,Ac rfl,trivial⟩ rfl ?_|refine Ae.same ⟨trivial,trivial⟩ rfl ?_|refine Ae.cons trivial rfl (.of_eq (Ar (by simp<;>omega))) ?_)
 rintro k ⟨hk,hE⟩
 by_cases hkl:k<ks.length
 ·have hc:=VB (gi ks k).lo (gi ks k).hi
  by_cases h1:Va (gi ks k).lo (gi ks k).hi=0
  ·rw [h1] at hc
   repeat' (first|apply Ad.AA|apply Ad.region|apply Ad.Aq|apply Ad.Ai|apply AO.normal|apply AL.normal|apply Ad.skip|apply Ag.nil|apply Ag.one|(apply Aa.fn;rfl;rfl;exact hc;intro _;rfl)|(apply Aa.move;rfl)|(apply Aa.Bv;rfl;rfl;omega)|(apply Aa.int;rfl;rfl;rfl)|(apply Aa.AP;rfl;rfl;rfl;omega;rfl)|(apply Aa.load;rfl;rfl)|(apply Aa.alloc;rfl)|(apply Aa.Bo;rfl;rfl;rfl;trivial;rfl;rfl;exact Ac rfl;exact le_dec rfl)|(apply Ad.Af;rfl)|(apply Ad.cond_false;rfl)|(intro _;try (exfalso;omega)))
   all_goals try (exfalso;omega)
   all_goals try contradiction
   refine Aw.normal ⟨k+1,⟨by omega,?_⟩,by omega,⟨by omega,?_,Aj.nil⟩⟩
   ·first|rfl|(refine Eq.trans ?_ hE;symm;(conv=>lhs;rw [PI]);rw [if_pos hkl,if_neg (fun h=>h h1)])
   ·repeat (first|exact Ae.nil|refine Ae.same trivial rfl ?_|refine Ae.same (Ac rfl) rfl ?_|refine Ae.same ⟨trivial,Ac rfl,trivial⟩ rfl ?_|refine Ae.same ⟨trivial,Ac rfl,Ac rfl,trivial⟩ rfl ?_|refine Ae.same ⟨trivial,Ac rfl,Ac rfl,Ac rfl,trivial⟩ rfl ?_|refine Ae.same ⟨trivial,trivial⟩ rfl ?_|refine Ae.cons trivial rfl (.of_eq (Ar (by simp<;>omega))) ?_)
  ·have e:PI ks 0=23:=by rw [← hE,PI,if_pos hkl,if_pos h1]
   rw [if_pos (by rw [e];decide),e]
   repeat' (first|apply Ad.AA|apply Ad.Aq|apply Ad.Ai|apply AO.ret|apply AL.ret|apply Aw.ret|apply Ad.ret|apply Ag.nil|apply Ag.one|(apply Aa.fn;rfl;rfl;exact hc;intro _;rfl)|(apply Aa.assign;rfl)|(apply Aa.int;rfl;rfl;rfl)|(apply Aa.AP;rfl;rfl;rfl;omega;rfl)|(apply Aa.load;rfl;rfl)|(apply Aa.alloc;rfl)|(apply Aa.Bo;rfl;rfl;rfl;trivial;rfl;rfl;exact Ac rfl;exact le_dec rfl)|(apply Ad.Af;rfl)|(apply Ad.A8;rfl)|(intro _;try (exfalso;omega)))
   all_goals first|(exfalso;omega)|contradiction|(refine Done.ret rfl (.refl _) (by first|exact trivial|exact ⟨trivial,trivial,trivial⟩|exact ⟨trivial,trivial,trivial,trivial⟩) Aj.nil (Nat.zero_le _) (Nat.le_refl _) ⟨?_,rfl,rfl⟩;try rfl)
 obtain rfl:k=ks.length:=by omega
 have e:PI ks 0=0:=by rw [← hE,PI,if_neg (by omega)]
 rw [if_neg (fun h=>h e)]
 repeat' (first|apply Ad.assoc|apply Ad.AA|apply Ad.AZ|apply Ad.Ai|apply AO.normal|apply AL.exit|apply Aw.exit|apply Ag.nil|apply Ag.one|(apply Aa.move;rfl)|(apply Aa.int;rfl;rfl;rfl)|(apply Aa.BI;rfl;rfl)|(apply Ad.Af;rfl)|(intro _;try (exfalso;omega)))
 all_goals try (exfalso;omega)
 refine Ad.Eb (fun k:Nat=>[(0,lst 94 ks),(1,lst 147 l),(27,lst 147 l),(28,.p (.int .i64 (l.length:Int))),(29,.p (.int .i64 (k:Int)))]) (fun _=>[]) 0 (fun k=>k≤l.length∧NT ks.length l k=NT ks.length l 0) (fun k=>l.length-k) 0 (by omega) ⟨by omega,rfl⟩ ⟨by omega,?_,Aj.nil⟩ ?_
 ·repeat (first|exact Ae.nil|refine Ae.same trivial rfl ?_|refine Ae.same (Ac rfl) rfl ?_|refine Ae.same ⟨trivial,Ac rfl,trivial⟩ rfl ?_|refine Ae.same ⟨trivial,Ac rfl,Ac rfl,trivial⟩ rfl ?_|refine Ae.same ⟨trivial,Ac rfl,Ac rfl,Ac rfl,trivial⟩ rfl ?_|refine Ae.same ⟨trivial,trivial⟩ rfl ?_|refine Ae.cons trivial rfl (.of_eq (Ar (by simp<;>omega))) ?_)
 rintro k ⟨hk,hE⟩
 rw [← hE]
 by_cases hkl:k<l.length
 case neg =>
  rw [NT,if_neg hkl]
  repeat' (first|apply Ad.AA|apply Ad.AZ|apply AO.normal|apply AL.exit|apply Aw.exit|apply Ad.ret|apply Ag.nil|apply Ag.one|(apply Aa.assign;rfl)|(apply Aa.int;rfl;rfl;rfl)|(apply Ad.Af;rfl)|(intro _;try (exfalso;omega)))
  all_goals first|(exfalso;omega)|(refine Done.ret rfl (.refl _) (by first|exact trivial|exact ⟨trivial,trivial,trivial⟩|exact ⟨trivial,trivial,trivial,trivial⟩) Aj.nil (Nat.zero_le _) (Nat.le_refl _) ⟨?_,rfl,rfl⟩;try rfl)
 rw [NT,if_pos hkl]
 have hN:=Hw (gi l k).name (by have:=hn0 k hkl;omega)
 by_cases h1:C9 (gi l k).name
 case neg =>
  rw [if_pos h1]
  rw [decide_eq_false h1] at hN
  repeat' (first|apply Ad.AA|apply Ad.Aq|apply Ad.Ai|apply AO.ret|apply AL.ret|apply Aw.ret|apply Ad.ret|apply Ad.II|apply Ag.nil|apply Ag.one|(apply Aa.fn;rfl;rfl;exact hN;intro _;rfl)|(apply Aa.assign;rfl)|(apply Aa.move;rfl)|(apply Aa.int;rfl;rfl;rfl)|(apply Aa.AP;rfl;rfl;rfl;omega;rfl)|(apply Aa.load;rfl;rfl)|(apply Aa.AU;rfl;rfl;rfl)|(apply Aa.alloc;rfl)|(apply Aa.Bo;rfl;rfl;rfl;trivial;rfl;rfl;exact Ac rfl;exact le_dec rfl)|(apply Aa.not;rfl)|(apply Ad.Af;rfl)|(apply Ad.cond_true;rfl)|(intro _;try (exfalso;omega)))
  all_goals first|(exfalso;omega)|contradiction|(refine Done.ret rfl (.refl _) (by first|exact trivial|exact ⟨trivial,trivial,trivial⟩|exact ⟨trivial,trivial,trivial,trivial⟩) Aj.nil (Nat.zero_le _) (Nat.le_refl _) ⟨?_,rfl,rfl⟩;try rfl)
 rw [if_neg (fun h=>h h1)]
 rw [decide_eq_true h1] at hN
 have hT:(gi l k).name∈(l.take k).map aQ.name↔∃ j,j<k∧(gi l j).name=(gi l k).name:=by
  rw [List.mem_map]
  constructor
  ·rintro ⟨a,ha,e⟩
   obtain ⟨j,h1,h2⟩:=VH.1 ha
   rw [List.length_take] at h1
   rw [ZO (by omega)] at h2
   exact ⟨j,by omega,by rw [h2,e]⟩
  ·rintro ⟨j,hj,e⟩
   exact ⟨gi l j,VH.2 ⟨j,by rw [List.length_take];omega,ZO hj⟩,e⟩
 repeat' (first|apply Ad.assoc|apply Ad.AA|apply Ad.Aq|apply Ad.Ai|apply Ad.II|apply Ag.nil|apply Ag.one|(apply Aa.fn;rfl;rfl;exact hN;intro _;rfl)|(apply yK;rfl;rfl;rfl;exact le_dec rfl)|(apply yS;rfl;rfl;rfl;exact le_dec rfl)|(apply Aa.makeFunc;rfl;rfl)|(apply Aa.sliceTo;rfl;rfl;rfl;rfl;rfl;rfl;omega)|(apply Aa.assign;rfl)|(apply Aa.move;rfl)|(apply Aa.int;rfl;rfl;rfl)|(apply Aa.AP;rfl;rfl;rfl;omega;rfl)|(apply Aa.load;rfl;rfl)|(apply Aa.BI;rfl;rfl)|(apply Aa.AU;rfl;rfl;rfl)|(apply Aa.alloc;rfl)|(apply Aa.Bo;rfl;rfl;rfl;trivial;rfl;rfl;exact Ac rfl;exact le_dec rfl)|(apply Aa.not;rfl)|(apply Ad.Af;rfl)|(apply Ad.cond_false;rfl)|(intro _;try (exfalso;omega)))
 all_goals try (exfalso;omega)
 all_goals try contradiction
 refine Ad.Eb (fun j:Nat=>[(0,.p (.lst 147 (cells (l.take k)) k)),(1,.clo 92 [] [.ref 0 0]),(7,.p (.int .i64 (k:Int))),(8,.p (.int .i64 (j:Int)))]) (fun _=>[(0,.box 147 ((Enc.enc (gi l k)).map .p))]) 1 (fun j=>j≤k∧∀ i,i<j→(gi l i).name≠(gi l k).name) (fun j=>k-j) 0 (by omega) ⟨by omega,fun i hi=>by omega⟩ ⟨by omega,?_,?_⟩ ?_
 ·repeat (first|exact Ae.nil|refine Ae.same trivial rfl ?_|refine Ae.same (Ac rfl) rfl ?_|refine Ae.same ⟨trivial,Ac rfl,trivial⟩ rfl ?_|refine Ae.same ⟨trivial,Ac rfl,Ac rfl,trivial⟩ rfl ?_|refine Ae.same ⟨trivial,Ac rfl,Ac rfl,Ac rfl,trivial⟩ rfl ?_|refine Ae.same ⟨trivial,trivial⟩ rfl ?_|refine Ae.cons trivial rfl (.of_eq (Ar (by simp<;>omega))) ?_)
 ·repeat (first|exact Aj.nil|(refine Aj.cons (Ac rfl) ?_ rfl ?_ ?_;(first|exact trivial|exact AQ.Ah _ _|(simp [HB.under,AQ.under,PV.under]));(first|exact Bj.refl _|exact Bj.vec (Bh.refl _) (by simp))))
 rintro j ⟨hj,hok⟩
 by_cases hjk:j<k
 ·have hgt:gi (l.take k) j=gi l j:=ZO hjk
  have hlt:(l.take k).length=k:=by rw [List.length_take];omega
  generalize hg:decide ((gi l j).name=(gi l k).name)=g at *
  have hg2:decide ((gi (l.take k) j).name=(gi l k).name)=g:=by rw [hgt];exact hg
  cases g
  ·repeat' (first|apply Ad.AA|apply Ad.region|apply Ad.Aq|apply Ad.Ai|apply AO.normal|(apply Bq.ret;rfl)|apply AL.normal|apply Ad.ret|apply Ad.skip|apply Ag.nil|apply Ag.one|(apply mD;rfl;rfl;rfl;exact le_dec rfl)|(apply Aa.a4m;rfl;rfl;exact hg2)|(apply Aa.AP (l:=l.take k) (i:=j);rfl;rfl;rfl;omega;exact hlt)|(apply Aa.assign;rfl)|(apply Aa.move;rfl)|(apply Aa.Bv;rfl;rfl;omega)|(apply Aa.int;rfl;rfl;rfl)|(apply Aa.load;rfl;rfl)|(apply Aa.AU;rfl;rfl;rfl)|(apply Aa.box;rfl;trivial)|(apply Ad.Af;rfl)|(apply Ad.cond_false;rfl)|(intro _;try (exfalso;omega)))
   all_goals try (exfalso;omega)
   refine Aw.normal ⟨j+1,⟨by omega,fun i hi=>?_⟩,by omega,⟨by omega,?_,?_⟩⟩
   ·rcases Nat.lt_or_ge i j with h|h
    ·exact hok i h
    ·obtain rfl:i=j:=by omega
     exact of_decide_eq_false hg
   ·repeat (first|exact Ae.nil|refine Ae.same trivial rfl ?_|refine Ae.same (Ac rfl) rfl ?_|refine Ae.same ⟨trivial,Ac rfl,trivial⟩ rfl ?_|refine Ae.same ⟨trivial,Ac rfl,Ac rfl,trivial⟩ rfl ?_|refine Ae.same ⟨trivial,Ac rfl,Ac rfl,Ac rfl,trivial⟩ rfl ?_|refine Ae.same ⟨trivial,trivial⟩ rfl ?_|refine Ae.cons trivial rfl (.of_eq (Ar (by simp<;>omega))) ?_)
   ·repeat (first|exact Aj.nil|(refine Aj.cons (Ac rfl) ?_ rfl ?_ ?_;(first|exact trivial|exact AQ.Ah _ _|(simp [HB.under,AQ.under,PV.under]));(first|exact Bj.refl _|exact Bj.vec (Bh.refl _) (by simp))))
  ·rw [if_pos (hT.2 ⟨j,hjk,of_decide_eq_true hg⟩)]
   repeat' (first|apply Ad.AA|apply Ad.Aq|apply Ad.Ai|apply AO.ret|(apply Bq.ret;rfl)|apply AL.ret|apply Aw.ret|apply Ad.ret|apply Ag.nil|apply Ag.one|(apply mD;rfl;rfl;rfl;exact le_dec rfl)|(apply Aa.a4m;rfl;rfl;exact hg2)|(apply Aa.AP (l:=l.take k) (i:=j);rfl;rfl;rfl;omega;exact hlt)|(apply Aa.assign;rfl)|(apply Aa.move;rfl)|(apply Aa.int;rfl;rfl;rfl)|(apply Aa.load;rfl;rfl)|(apply Aa.AU;rfl;rfl;rfl)|(apply Aa.box;rfl;trivial)|(apply Ad.Af;rfl)|(apply Ad.cond_true;rfl)|(intro _;try (exfalso;omega)))
   all_goals first|(exfalso;omega)|contradiction|(refine Done.ret rfl (.refl _) (by first|exact trivial|exact ⟨trivial,trivial,trivial⟩|exact ⟨trivial,trivial,trivial,trivial⟩) Aj.nil (Nat.zero_le _) (Nat.le_refl _) ⟨?_,rfl,rfl⟩;try rfl)
 obtain rfl:j=k:=by omega
 rw [if_neg (fun h=>by obtain ⟨i,h1,h2⟩:=hT.1 h;exact hok i h1 h2)]
 repeat' (first|apply Ad.AA|apply Ad.region|apply Ad.AZ|apply AO.normal|apply AO.ret|(apply Bq.ret;rfl)|apply AL.normal|apply AL.ret|apply AL.exit|apply Aw.ret|apply Aw.exit|apply Ad.ret|apply Ad.skip|apply Ag.nil|apply Ag.one|(apply Ag.take;rfl;rfl)|(apply Ag.drop;rfl;rfl;rfl)|(apply Ag.guard;rfl;rfl)|(apply Aa.assign;rfl)|(apply Aa.move;rfl)|(apply Aa.Bv;rfl;rfl;omega)|(apply Aa.int;rfl;rfl;rfl)|(apply Aa.load;rfl;rfl)|(apply Aa.BH;rfl;rfl)|(apply Aa.AV;rfl;rfl)|(apply Aa.BI;rfl;rfl)|(apply Aa.AU;rfl;rfl;rfl)|(apply Ad.Af;rfl)|(apply Ad.cond_true;rfl)|(apply Ad.cond_false;rfl)|(apply Ad.A8;rfl)|(intro _;try (exfalso;omega)))
 all_goals try (exfalso;omega)
 all_goals try contradiction
 all_goals first
  |(rw [if_pos (by omega)];(refine Done.ret rfl (.refl _) (by first|exact trivial|exact ⟨trivial,trivial,trivial⟩|exact ⟨trivial,trivial,trivial,trivial⟩) Aj.nil (Nat.zero_le _) (Nat.le_refl _) ⟨?_,rfl,rfl⟩;try rfl);done)
  |(rw [if_neg (by omega),if_pos (by omega)];(refine Done.ret rfl (.refl _) (by first|exact trivial|exact ⟨trivial,trivial,trivial⟩|exact ⟨trivial,trivial,trivial,trivial⟩) Aj.nil (Nat.zero_le _) (Nat.le_refl _) ⟨?_,rfl,rfl⟩;try rfl);done)
  |(rw [if_neg (by omega),if_neg (by omega),if_pos (by omega)];(refine Done.ret rfl (.refl _) (by first|exact trivial|exact ⟨trivial,trivial,trivial⟩|exact ⟨trivial,trivial,trivial,trivial⟩) Aj.nil (Nat.zero_le _) (Nat.le_refl _) ⟨?_,rfl,rfl⟩;try rfl);done)
  |(rw [if_neg (by omega),if_neg (by omega),if_neg (by omega)]
    refine Aw.normal ⟨j+1,⟨by omega,?_⟩,by omega,⟨by omega,?_,Aj.nil⟩⟩
    ·first|rfl|(refine Eq.trans ?_ hE;symm;(conv=>lhs;rw [NT]);rw [if_pos hkl,if_neg (fun h=>h h1),if_neg (fun h=>by obtain ⟨i,h1,h2⟩:=hT.1 h;exact hok i h1 h2),if_neg (by omega),if_neg (by omega),if_neg (by omega)])
    ·repeat (first|exact Ae.nil|refine Ae.same trivial rfl ?_|refine Ae.same (Ac rfl) rfl ?_|refine Ae.same ⟨trivial,Ac rfl,trivial⟩ rfl ?_|refine Ae.same ⟨trivial,Ac rfl,Ac rfl,trivial⟩ rfl ?_|refine Ae.same ⟨trivial,Ac rfl,Ac rfl,Ac rfl,trivial⟩ rfl ?_|refine Ae.same ⟨trivial,trivial⟩ rfl ?_|refine Ae.cons trivial rfl (.of_eq (Ar (by simp<;>omega))) ?_))
end Go.Proofs.YtdabojnmoejilaaGreatDoor
namespace Go.Proofs.YtdabojnmoejilaaGreatDoor
open Go Go.Am Go.Vm
attribute [local irreducible] Aa Ag Ap Ad BA AY CJ AO AL Aw Vm.Done Dc Bq
attribute [local irreducible] D8 DT Jp KX TG
theorem Qj {α:Type} [Inhabited α] (f:α→List UInt8) {l:List α} {k:Nat} (hk:k<l.length):(l.take (k+1)).map f=(l.take k).map f++[f (gi l k)]:=by
 rw [Dz hk,List.map_append];rfl
theorem Qk {L:Vm.Frame} {H:Vm.Heap} {nx:Nat} {Q:PV→Vm.Heap→Nat→Prop} {dst:Option Tmp} {ty:TypeId} {pos:String} {af:Array Edge} {gd:Option (Nat×Bool)} {fo:Operand} {args:Array Operand} {aT:Array TypeId} {fs cs xs:List PV} {c:Code}
 (hf:Bz env.Γ L fo=some (.clo 59 fs cs)) (ha:evs env.Γ L args.toList=some xs) (hb:Tryz.f59.body=some c) (hn:(fs++xs++cs).length≤Tryz.f59.ntmps)
 (h:Ad env nx c (CP 0 (fs++xs++cs)) H nx (Bq env.P Tryz.f59.results.toList Q)):Aa env true ⟨dst,.call { callee:=.value fo,args:=args,argTypes:=aT },ty,pos,af,gd⟩ L H nx Q:=by
 have h0:(match Tryz.f59.body with|some c=>H6 env.G Tryz.f59 c|none=>false)=true:=by kernel_rfl
 rw [hb] at h0
 exact Aa.inline rfl hf ha (AB (by decide)) Tryz.func59 hb h0 hn h
theorem X6 (o:ET) (d:YH) (ho:Pq o) (hd:wF d):AY env 60 [.agg (Enc.enc o),.agg (Enc.enc d)] (.p (.int .i64 (KX o.ranks d))):=by
 have hc:=VB d.lo d.hi
 obtain ⟨d1,d2,d3⟩:=hd
 unfold KX
 refine AY.enter (AB (by decide)) Tryz.func60 rfl (by kernel_rfl) (by simp [Tryz.ntmps60]) ?_
 by_cases h0:Va d.lo d.hi=0
 case neg =>
  rw [if_pos h0]
  repeat' (first|apply Ad.assoc|apply Ad.AA|apply Ad.BO|apply Ag.nil|apply Ag.one|(apply Aa.fn;rfl;rfl;exact hc;intro _;rfl)|(apply Aa.assign;rfl)|(apply Aa.move;rfl)|(apply Aa.int;rfl;rfl;rfl)|(apply Aa.load;rfl;rfl)|(apply Aa.AU;rfl;rfl;rfl)|(apply Aa.box;rfl;trivial)|(apply Ad.Af;rfl)|(intro _;try (exfalso;omega)))
  all_goals first|(exfalso;omega)|(refine Done.ret rfl (.refl _) (by first|exact trivial|exact ⟨trivial,trivial,trivial⟩|exact ⟨trivial,trivial,trivial,trivial⟩) Aj.nil (Nat.zero_le _) (Nat.le_refl _) ⟨?_,rfl,rfl⟩;try rfl)
 rw [h0] at hc ⊢
 rw [if_neg (by decide)]
 repeat' (first|apply Ad.assoc|apply Ad.AA|apply Ad.Aq|apply Ad.BO|apply Ad.Ai|apply Ag.nil|apply Ag.one|(apply Aa.fn;rfl;rfl;exact hc;intro _;rfl)|(apply Aa.makeMap)|(apply Aa.assign;rfl)|(apply Aa.move;rfl)|(apply Aa.int;rfl;rfl;rfl)|(apply Aa.load;rfl;rfl)|(apply Aa.BI;rfl;rfl)|(apply Aa.AU;rfl;rfl;rfl)|(apply Aa.box;rfl;trivial)|(apply Ad.Au;rfl)|(apply Ad.Af;rfl)|(intro _;try (exfalso;omega)))
 all_goals try contradiction
 ·rw [if_pos (by omega)];(refine Done.ret rfl (.refl _) (by first|exact trivial|exact ⟨trivial,trivial,trivial⟩|exact ⟨trivial,trivial,trivial,trivial⟩) Aj.nil (Nat.zero_le _) (Nat.le_refl _) ⟨?_,rfl,rfl⟩;try rfl)
 rw [if_neg (by omega)]
 refine Ad.Eb (fun k:Nat=>[(2,.ref 0 0),(3,.ref 1 0),(6,.mref 2),(23,lst 122 d.stops),(24,.p (.int .i64 (d.stops.length:Int))),(25,.p (.int .i64 (k:Int)))]) (fun k=>[(2,.map (X5 ((d.stops.take k).map Stp.name))),(1,.box 97 ((Enc.enc d).map .p)),(0,.box 37 ((Enc.enc o).map .p))]) 3 (fun k=>k≤d.stops.length∧MZ o.ranks d.lo d.hi d.stops k=MZ o.ranks d.lo d.hi d.stops 0) (fun k=>d.stops.length-k) 0 (by omega) ⟨by omega,rfl⟩ ⟨by omega,?_,?_⟩ ?_
 ·repeat (first|exact Ae.nil|refine Ae.same trivial rfl ?_|refine Ae.same (Ac rfl) rfl ?_|refine Ae.same ⟨trivial,Ac rfl,Ac rfl,Ac rfl,trivial⟩ rfl ?_|refine Ae.same ⟨trivial,Ac rfl,Ac rfl,trivial⟩ rfl ?_|refine Ae.same ⟨trivial,trivial⟩ rfl ?_|refine Ae.cons trivial rfl (.of_eq (Ar (by simp<;>omega))) ?_)
 ·repeat (first|exact Aj.nil|(refine Aj.cons (Ac rfl) ?_ rfl ?_ ?_;(first|exact trivial|exact AQ.Ah _ _|(simp [HB.under,AQ.under,PV.under]));(first|exact Bj.refl _|exact Bj.vec (Bh.refl _) (by simp))))
 rintro k ⟨hk,hE⟩
 rw [← hE]
 by_cases hkl:k<d.stops.length
 case neg =>
  rw [MZ,if_neg hkl]
  repeat' (first|apply Ad.AA|apply Ad.AZ|apply AO.normal|apply AL.exit|apply Aw.exit|apply Ad.ret|apply Ag.nil|apply Ag.one|(apply Aa.assign;rfl)|(apply Aa.int;rfl;rfl;rfl)|(apply Ad.Af;rfl)|(intro _;try (exfalso;omega)))
  all_goals first|(exfalso;omega)|(refine Done.ret rfl (.refl _) (by first|exact trivial|exact ⟨trivial,trivial,trivial⟩|exact ⟨trivial,trivial,trivial,trivial⟩) Aj.nil (Nat.zero_le _) (Nat.le_refl _) ⟨?_,rfl,rfl⟩;try rfl)
 rw [MZ,if_pos hkl]
 have hst:=qQ o.ranks d.lo d.hi (gi d.stops k) ho.ranks ho.rk (d3 k hkl)
 by_cases h1:Jp o.ranks d.lo d.hi (gi d.stops k)=0
 case neg =>
  rw [if_pos h1]
  repeat' (first|apply Ad.assoc|apply Ad.AA|apply Ad.Aq|apply Ad.BO|apply Ad.Ai|apply AO.ret|apply AL.ret|apply Aw.ret|apply Ag.nil|apply Ag.one|(apply Aa.fn;rfl;rfl;exact hst;intro _;rfl)|(apply Aa.assign;rfl)|(apply Aa.move;rfl)|(apply Aa.int;rfl;rfl;rfl)|(apply Aa.AP;rfl;rfl;rfl;omega;rfl)|(apply Aa.load;rfl;rfl)|(apply Aa.AU;rfl;rfl;rfl)|(apply Aa.alloc;rfl)|(apply Aa.Bo;rfl;rfl;rfl;trivial;rfl;rfl;exact Ac rfl;exact le_dec rfl)|(apply Aa.build;rfl;rfl;rfl;rfl;rfl)|(apply Ad.Af;rfl)|(intro _;try (exfalso;omega)))
  all_goals first|(exfalso;omega)|contradiction|(refine Done.ret rfl (.refl _) (by first|exact trivial|exact ⟨trivial,trivial,trivial⟩|exact ⟨trivial,trivial,trivial,trivial⟩) Aj.nil (Nat.zero_le _) (Nat.le_refl _) ⟨?_,rfl,rfl⟩;try rfl)
 rw [h1] at hst ⊢
 rw [if_neg (by decide)]
 by_cases h2:(gi d.stops k).name∈(d.stops.take k).map Stp.name
 ·rw [if_pos h2]
  repeat' (first|apply Ad.assoc|apply Ad.AA|apply Ad.Aq|apply Ad.BO|apply Ad.Ai|apply AO.ret|(apply Bq.ret;rfl)|apply AL.ret|apply Aw.ret|apply Ad.ret|apply Ag.nil|apply Ag.one|(apply Aa.fn;rfl;rfl;exact hst;intro _;rfl)|(apply Qk;rfl;rfl;rfl;exact le_dec rfl)|(apply Aa.IK;rfl;rfl;rfl;rfl;rfl;rfl)|(apply Aa.assign;rfl)|(apply Aa.move;rfl)|(apply Aa.int;rfl;rfl;rfl)|(apply Aa.AP;rfl;rfl;rfl;omega;rfl)|(apply Aa.load;rfl;rfl)|(apply Aa.AU;rfl;rfl;rfl)|(apply Aa.alloc;rfl)|(apply Aa.Bo;rfl;rfl;rfl;trivial;rfl;rfl;exact Ac rfl;exact le_dec rfl)|(apply Aa.build;rfl;rfl;rfl;rfl;rfl)|(apply Ad.Au;rfl)|(apply Ad.Af;rfl)|(apply Ad.cond_true;rfl)|(intro _;try (exfalso;omega)))
  all_goals first|(exfalso;omega)|contradiction|(refine Done.ret rfl (.refl _) (by first|exact trivial|exact ⟨trivial,trivial,trivial⟩|exact ⟨trivial,trivial,trivial,trivial⟩) Aj.nil (Nat.zero_le _) (Nat.le_refl _) ⟨?_,rfl,rfl⟩;try rfl)
 ·rw [if_neg h2]
  repeat' (first|apply Ad.assoc|apply Ad.AA|apply Ad.region|apply Ad.Aq|apply Ad.BO|apply Ad.Ai|apply AO.normal|apply AO.ret|(apply Bq.ret;rfl)|apply AL.normal|apply AL.ret|apply Aw.ret|apply Ad.ret|apply Ad.skip|apply Ag.nil|apply Ag.one|(apply Aa.fn;rfl;rfl;exact hst;intro _;rfl)|(apply Qk;rfl;rfl;rfl;exact le_dec rfl)|(apply Aa.IK;rfl;rfl;rfl;rfl;rfl;rfl)|(apply Aa.Z5;rfl;rfl;rfl;rfl;rfl;rfl;exact h2)|(apply Aa.assign;rfl)|(apply Aa.move;rfl)|(apply Aa.Bv;rfl;rfl;omega)|(apply Aa.int;rfl;rfl;rfl)|(apply Aa.AP;rfl;rfl;rfl;omega;rfl)|(apply Aa.load;rfl;rfl)|(apply Aa.AU;rfl;rfl;rfl)|(apply Aa.alloc;rfl)|(apply Aa.Bo;rfl;rfl;rfl;trivial;rfl;rfl;exact Ac rfl;exact le_dec rfl)|(apply Aa.build;rfl;rfl;rfl;rfl;rfl)|(apply Ad.Au;rfl)|(apply Ad.Af;rfl)|(apply Ad.cond_true;rfl)|(apply Ad.cond_false;rfl)|(intro _;try (exfalso;omega)))
  all_goals try (exfalso;omega)
  all_goals try contradiction
  refine Aw.normal ⟨k+1,⟨by omega,?_⟩,by omega,⟨by omega,?_,?_⟩⟩
  ·first|rfl|(refine Eq.trans ?_ hE;symm;(conv=>lhs;rw [MZ]);rw [if_pos hkl,if_neg (fun h=>h h1),if_neg h2])
  ·repeat (first|exact Ae.nil|refine Ae.same trivial rfl ?_|refine Ae.same (Ac rfl) rfl ?_|refine Ae.same ⟨trivial,Ac rfl,Ac rfl,Ac rfl,trivial⟩ rfl ?_|refine Ae.same ⟨trivial,Ac rfl,Ac rfl,trivial⟩ rfl ?_|refine Ae.same ⟨trivial,trivial⟩ rfl ?_|refine Ae.cons trivial rfl (.of_eq (Ar (by simp<;>omega))) ?_)
  ·rw [Qj Stp.name hkl];repeat (first|exact Aj.nil|(refine Aj.cons (Ac rfl) ?_ rfl ?_ ?_;(first|exact trivial|exact AQ.Ah _ _|(simp [HB.under,AQ.under,PV.under]));(first|exact Bj.refl _|exact Bj.vec (Bh.refl _) (by simp))))
theorem N9 (o:ET) (ho:Pq o):AY env 35 [.agg (Enc.enc o)] (.p (.int .i64 (LK o))):=by
 have hn:=Hw o.name (by have:=ho.name;omega)
 have b1:=ho.ranks
 have b2:=ho.Az
 unfold LK
 refine AY.enter (AB (by decide)) Tryz.func35 rfl (by kernel_rfl) (by simp [Tryz.ntmps35]) ?_
 by_cases h0:C9 o.name
 case neg =>
  rw [if_pos h0]
  rw [decide_eq_false h0] at hn
  repeat' (first|apply Ad.AA|apply Ad.Ai|apply AO.ret|apply AL.ret|apply Ad.ret|apply Ag.nil|apply Ag.one|(apply Aa.fn;rfl;rfl;exact hn;intro _;rfl)|(apply Aa.assign;rfl)|(apply Aa.load;rfl;rfl)|(apply Aa.AU;rfl;rfl;rfl)|(apply Aa.box;rfl;trivial)|(apply Aa.not;rfl)|(apply Ad.cond_true;rfl))
  all_goals first|(exfalso;omega)|contradiction|(refine Done.ret rfl (.refl _) (by first|exact trivial|exact ⟨trivial,trivial,trivial⟩|exact ⟨trivial,trivial,trivial,trivial⟩) Aj.nil (Nat.zero_le _) (Nat.le_refl _) ⟨?_,rfl,rfl⟩;try rfl)
 rw [if_neg (fun h=>h h0)]
 rw [decide_eq_true h0] at hn
 repeat' (first|apply Ad.assoc|apply Ad.AA|apply Ad.Ai|apply AO.normal|apply AO.ret|apply AL.normal|apply AL.ret|apply Ad.ret|apply Ad.skip|apply Ag.nil|apply Ag.one|(apply Aa.fn;rfl;rfl;exact hn;intro _;rfl)|(apply Aa.makeMap)|(apply Aa.assign;rfl)|(apply Aa.move;rfl)|(apply Aa.int;rfl;rfl;rfl)|(apply Aa.load;rfl;rfl)|(apply Aa.BI;rfl;rfl)|(apply Aa.AU;rfl;rfl;rfl)|(apply Aa.box;rfl;trivial)|(apply Aa.not;rfl)|(apply Ad.cond_false;rfl)|(apply Ad.A8;rfl)|(intro _;try (exfalso;omega)))
 all_goals try contradiction
 ·rw [if_pos (by omega)];(refine Done.ret rfl (.refl _) (by first|exact trivial|exact ⟨trivial,trivial,trivial⟩|exact ⟨trivial,trivial,trivial,trivial⟩) Aj.nil (Nat.zero_le _) (Nat.le_refl _) ⟨?_,rfl,rfl⟩;try rfl)
 rw [if_neg (by omega)]
 refine Ad.Eb (fun k:Nat=>[(1,.ref 0 0),(3,.mref 1),(25,lst 131 o.ranks),(26,.p (.int .i64 (o.ranks.length:Int))),(27,.p (.int .i64 (k:Int)))]) (fun k=>[(1,.map (X5 ((o.ranks.take k).map FU.name))),(0,.box 37 ((Enc.enc o).map .p))]) 2 (fun k=>k≤o.ranks.length∧ND o.ranks k=ND o.ranks 0) (fun k=>o.ranks.length-k) 0 (by omega) ⟨by omega,rfl⟩ ⟨by omega,?_,?_⟩ ?_
 ·repeat (first|exact Ae.nil|refine Ae.same trivial rfl ?_|refine Ae.same (Ac rfl) rfl ?_|refine Ae.same ⟨trivial,Ac rfl,Ac rfl,Ac rfl,trivial⟩ rfl ?_|refine Ae.same ⟨trivial,Ac rfl,Ac rfl,trivial⟩ rfl ?_|refine Ae.same ⟨trivial,trivial⟩ rfl ?_|refine Ae.cons trivial rfl (.of_eq (Ar (by simp<;>omega))) ?_)
 ·repeat (first|exact Aj.nil|(refine Aj.cons (Ac rfl) ?_ rfl ?_ ?_;(first|exact trivial|exact AQ.Ah _ _|(simp [HB.under,AQ.under,PV.under]));(first|exact Bj.refl _|exact Bj.vec (Bh.refl _) (by simp))))
 rintro k ⟨hk,hE⟩
 by_cases hkl:k<o.ranks.length
 ·have hsm:=(ho.rk k hkl).len
  have hc:=Ue (gi o.ranks k) hsm.1 hsm.2.1 hsm.2.2
  by_cases h1:D8 (gi o.ranks k)=0
  case neg =>
   have e:ND o.ranks 0=D8 (gi o.ranks k):=by rw [← hE,ND,if_pos hkl,if_pos h1]
   rw [e,if_pos h1]
   repeat' (first|apply Ad.assoc|apply Ad.AA|apply Ad.Aq|apply Ad.BO|apply Ad.Ai|apply AO.ret|apply AL.ret|apply Aw.ret|apply Ag.nil|apply Ag.one|(apply Aa.fn;rfl;rfl;exact hc;intro _;rfl)|(apply Aa.assign;rfl)|(apply Aa.move;rfl)|(apply Aa.int;rfl;rfl;rfl)|(apply Aa.AP;rfl;rfl;rfl;omega;rfl)|(apply Aa.load;rfl;rfl)|(apply Aa.alloc;rfl)|(apply Aa.Bo;rfl;rfl;rfl;trivial;rfl;rfl;exact Ac rfl;exact le_dec rfl)|(apply Ad.Af;rfl)|(intro _;try (exfalso;omega)))
   all_goals first|(exfalso;omega)|contradiction|(refine Done.ret rfl (.refl _) (by first|exact trivial|exact ⟨trivial,trivial,trivial⟩|exact ⟨trivial,trivial,trivial,trivial⟩) Aj.nil (Nat.zero_le _) (Nat.le_refl _) ⟨?_,rfl,rfl⟩;try rfl)
  rw [h1] at hc
  by_cases h2:(gi o.ranks k).name∈(o.ranks.take k).map FU.name
  ·have e:ND o.ranks 0=9:=by rw [← hE,ND,if_pos hkl,if_neg (fun h=>h h1),if_pos h2]
   rw [e,if_pos (by decide)]
   repeat' (first|apply Ad.assoc|apply Ad.AA|apply Ad.Aq|apply Ad.BO|apply Ad.Ai|apply AO.ret|(apply Bq.ret;rfl)|apply AL.ret|apply Aw.ret|apply Ad.ret|apply Ag.nil|apply Ag.one|(apply Aa.fn;rfl;rfl;exact hc;intro _;rfl)|(apply Qk;rfl;rfl;rfl;exact le_dec rfl)|(apply Aa.IK;rfl;rfl;rfl;rfl;rfl;rfl)|(apply Aa.assign;rfl)|(apply Aa.move;rfl)|(apply Aa.int;rfl;rfl;rfl)|(apply Aa.AP;rfl;rfl;rfl;omega;rfl)|(apply Aa.load;rfl;rfl)|(apply Aa.AU;rfl;rfl;rfl)|(apply Aa.alloc;rfl)|(apply Aa.Bo;rfl;rfl;rfl;trivial;rfl;rfl;exact Ac rfl;exact le_dec rfl)|(apply Ad.Au;rfl)|(apply Ad.Af;rfl)|(apply Ad.cond_true;rfl)|(intro _;try (exfalso;omega)))
   all_goals first|(exfalso;omega)|contradiction|(refine Done.ret rfl (.refl _) (by first|exact trivial|exact ⟨trivial,trivial,trivial⟩|exact ⟨trivial,trivial,trivial,trivial⟩) Aj.nil (Nat.zero_le _) (Nat.le_refl _) ⟨?_,rfl,rfl⟩;try rfl)
  ·repeat' (first|apply Ad.assoc|apply Ad.AA|apply Ad.region|apply Ad.Aq|apply Ad.BO|apply Ad.Ai|apply AO.normal|apply AO.ret|(apply Bq.ret;rfl)|apply AL.normal|apply AL.ret|apply Aw.ret|apply Ad.ret|apply Ad.skip|apply Ag.nil|apply Ag.one|(apply Aa.fn;rfl;rfl;exact hc;intro _;rfl)|(apply Qk;rfl;rfl;rfl;exact le_dec rfl)|(apply Aa.IK;rfl;rfl;rfl;rfl;rfl;rfl)|(apply Aa.Z5;rfl;rfl;rfl;rfl;rfl;rfl;exact h2)|(apply Aa.assign;rfl)|(apply Aa.move;rfl)|(apply Aa.Bv;rfl;rfl;omega)|(apply Aa.int;rfl;rfl;rfl)|(apply Aa.AP;rfl;rfl;rfl;omega;rfl)|(apply Aa.load;rfl;rfl)|(apply Aa.AU;rfl;rfl;rfl)|(apply Aa.alloc;rfl)|(apply Aa.Bo;rfl;rfl;rfl;trivial;rfl;rfl;exact Ac rfl;exact le_dec rfl)|(apply Ad.Au;rfl)|(apply Ad.Af;rfl)|(apply Ad.cond_true;rfl)|(apply Ad.cond_false;rfl)|(intro _;try (exfalso;omega)))
   all_goals try (exfalso;omega)
   all_goals try contradiction
   refine Aw.normal ⟨k+1,⟨by omega,?_⟩,by omega,⟨by omega,?_,?_⟩⟩
   ·first|rfl|(refine Eq.trans ?_ hE;symm;(conv=>lhs;rw [ND]);rw [if_pos hkl,if_neg (fun h=>h h1),if_neg h2])
   ·repeat (first|exact Ae.nil|refine Ae.same trivial rfl ?_|refine Ae.same (Ac rfl) rfl ?_|refine Ae.same ⟨trivial,Ac rfl,Ac rfl,Ac rfl,trivial⟩ rfl ?_|refine Ae.same ⟨trivial,Ac rfl,Ac rfl,trivial⟩ rfl ?_|refine Ae.same ⟨trivial,trivial⟩ rfl ?_|refine Ae.cons trivial rfl (.of_eq (Ar (by simp<;>omega))) ?_)
   ·rw [Qj FU.name hkl];repeat (first|exact Aj.nil|(refine Aj.cons (Ac rfl) ?_ rfl ?_ ?_;(first|exact trivial|exact AQ.Ah _ _|(simp [HB.under,AQ.under,PV.under]));(first|exact Bj.refl _|exact Bj.vec (Bh.refl _) (by simp))))
 obtain rfl:k=o.ranks.length:=by omega
 have e:ND o.ranks 0=0:=by rw [← hE,ND,if_neg (by omega)]
 rw [if_neg (fun h=>h e)]
 repeat' (first|apply Ad.assoc|apply Ad.AA|apply Ad.AZ|apply Ad.Ai|apply AO.normal|apply AO.ret|apply AL.normal|apply AL.ret|apply AL.exit|apply Aw.exit|apply Ad.ret|apply Ad.skip|apply Ag.nil|apply Ag.one|(apply Aa.makeMap)|(apply Aa.assign;rfl)|(apply Aa.move;rfl)|(apply Aa.int;rfl;rfl;rfl)|(apply Aa.load;rfl;rfl)|(apply Aa.BI;rfl;rfl)|(apply Aa.AU;rfl;rfl;rfl)|(apply Ad.Af;rfl)|(apply Ad.A8;rfl)|(intro _;try (exfalso;omega)))
 all_goals try (exfalso;omega)
 ·rw [if_pos (by omega)];(refine Done.ret rfl (.refl _) (by first|exact trivial|exact ⟨trivial,trivial,trivial⟩|exact ⟨trivial,trivial,trivial,trivial⟩) Aj.nil (Nat.zero_le _) (Nat.le_refl _) ⟨?_,rfl,rfl⟩;try rfl)
 ·rw [if_neg (by omega),if_pos (by omega)];(refine Done.ret rfl (.refl _) (by first|exact trivial|exact ⟨trivial,trivial,trivial⟩|exact ⟨trivial,trivial,trivial,trivial⟩) Aj.nil (Nat.zero_le _) (Nat.le_refl _) ⟨?_,rfl,rfl⟩;try rfl)
 rw [if_neg (by omega),if_neg (by omega)]
 refine Ad.ghost (Ba.adopt 8 94 rfl) ?_
 refine Ad.Eb (fun k:Nat=>[(1,.ref 0 0),(3,.mref 2),(8,.vec 3 ((o.Az.take k).map fun d=>(⟨d.lo,d.hi⟩:aS)).length 0 ((o.Az.take k).map fun d=>(⟨d.lo,d.hi⟩:aS)).length),(56,lst 97 o.Az),(57,.p (.int .i64 (o.Az.length:Int))),(58,.p (.int .i64 (k:Int)))]) (fun k=>[(3,.vec 94 (cells ((o.Az.take k).map fun d=>(⟨d.lo,d.hi⟩:aS))) ((o.Az.take k).map fun d=>(⟨d.lo,d.hi⟩:aS)).length true),(2,.map (X5 ((o.Az.take k).map YH.name))),(0,.box 37 ((Enc.enc o).map .p))]) 4 (fun k=>k≤o.Az.length∧Gi o.ranks o.Az k=Gi o.ranks o.Az 0) (fun k=>o.Az.length-k) 0 (by omega) ⟨by omega,rfl⟩ ⟨by omega,?_,?_⟩ ?_
 ·repeat (first|exact Ae.nil|refine Ae.same trivial rfl ?_|refine Ae.same (Ac rfl) rfl ?_|refine Ae.same ⟨trivial,Ac rfl,Ac rfl,Ac rfl,trivial⟩ rfl ?_|refine Ae.same ⟨trivial,Ac rfl,Ac rfl,trivial⟩ rfl ?_|refine Ae.same ⟨trivial,trivial⟩ rfl ?_|refine Ae.cons trivial rfl (.of_eq (Ar (by simp<;>omega))) ?_)
 ·repeat (first|exact Aj.nil|(refine Aj.cons (Ac rfl) ?_ rfl ?_ ?_;(first|exact trivial|exact AQ.Ah _ _|(simp [HB.under,AQ.under,PV.under]));(first|exact Bj.refl _|exact Bj.vec (Bh.refl _) (by simp))))
 rintro k ⟨hk,hE⟩
 have hlen:((o.Az.take k).map fun d=>(⟨d.lo,d.hi⟩:aS)).length=k:=by rw [List.length_map,List.length_take];omega
 by_cases hkl:k<o.Az.length
 ·have hds:=ho.dv k hkl
  have hdn:=Hw (gi o.Az k).name (by have:=hds.name;omega)
  have hdv:=X6 o (gi o.Az k) ho hds
  by_cases h1:C9 (gi o.Az k).name
  case neg =>
   have e2:Gi o.ranks o.Az 0=8:=by rw [← hE,Gi,if_pos hkl,if_pos h1]
   rw [e2,if_pos (by decide)]
   rw [decide_eq_false h1] at hdn
   repeat' (first|apply Ad.assoc|apply Ad.AA|apply Ad.Aq|apply Ad.BO|apply Ad.Ai|apply AO.ret|apply AL.ret|apply Aw.ret|apply Ag.nil|apply Ag.one|(apply Aa.fn;rfl;rfl;exact hdn;intro _;rfl)|(apply Aa.assign;rfl)|(apply Aa.int;rfl;rfl;rfl)|(apply Aa.AP;rfl;rfl;rfl;omega;rfl)|(apply Aa.load;rfl;rfl)|(apply Aa.AU;rfl;rfl;rfl)|(apply Aa.alloc;rfl)|(apply Aa.Bo;rfl;rfl;rfl;trivial;rfl;rfl;exact Ac rfl;exact le_dec rfl)|(apply Aa.not;rfl)|(apply Ad.Bd;rfl)|(apply Ad.Af;rfl)|(intro _;try (exfalso;omega)))
   all_goals first|(exfalso;omega)|contradiction|(refine Done.ret rfl (.refl _) (by first|exact trivial|exact ⟨trivial,trivial,trivial⟩|exact ⟨trivial,trivial,trivial,trivial⟩) Aj.nil (Nat.zero_le _) (Nat.le_refl _) ⟨?_,rfl,rfl⟩;try rfl)
  rw [decide_eq_true h1] at hdn
  by_cases h2:(gi o.Az k).name∈(o.Az.take k).map YH.name
  ·have e2:Gi o.ranks o.Az 0=9:=by rw [← hE,Gi,if_pos hkl,if_neg (fun h=>h h1),if_pos h2]
   rw [e2,if_pos (by decide)]
   repeat' (first|apply Ad.assoc|apply Ad.AA|apply Ad.Aq|apply Ad.BO|apply Ad.Ai|apply AO.ret|(apply Bq.ret;rfl)|apply AL.ret|apply Aw.ret|apply Ag.nil|apply Ag.one|(apply Aa.fn;rfl;rfl;exact hdn;intro _;rfl)|(apply Qk;rfl;rfl;rfl;exact le_dec rfl)|(apply Aa.IK;rfl;rfl;rfl;rfl;rfl;rfl)|(apply Aa.assign;rfl)|(apply Aa.move;rfl)|(apply Aa.int;rfl;rfl;rfl)|(apply Aa.AP;rfl;rfl;rfl;omega;rfl)|(apply Aa.load;rfl;rfl)|(apply Aa.AU;rfl;rfl;rfl)|(apply Aa.alloc;rfl)|(apply Aa.Bo;rfl;rfl;rfl;trivial;rfl;rfl;exact Ac rfl;exact le_dec rfl)|(apply Aa.not;rfl)|(apply Ad.Bd;rfl)|(apply Ad.Au;rfl)|(apply Ad.Af;rfl)|(intro _;try (exfalso;omega)))
   all_goals first|(exfalso;omega)|contradiction|(refine Done.ret rfl (.refl _) (by first|exact trivial|exact ⟨trivial,trivial,trivial⟩|exact ⟨trivial,trivial,trivial,trivial⟩) Aj.nil (Nat.zero_le _) (Nat.le_refl _) ⟨?_,rfl,rfl⟩;try rfl)
  by_cases h3:KX o.ranks (gi o.Az k)=0
  case neg =>
   have e2:Gi o.ranks o.Az 0=KX o.ranks (gi o.Az k):=by rw [← hE,Gi,if_pos hkl,if_neg (fun h=>h h1),if_neg h2,if_pos h3]
   rw [e2,if_pos h3]
   repeat' (first|apply Ad.assoc|apply Ad.AA|apply Ad.Aq|apply Ad.BO|apply Ad.Ai|apply AO.ret|(apply Bq.ret;rfl)|apply AL.ret|apply Aw.ret|apply Ad.ret|apply Ag.nil|apply Ag.one|(apply Aa.fn;rfl;rfl;exact hdn;intro _;rfl)|(apply Aa.fn;rfl;rfl;exact hdv;intro _;rfl)|(apply Qk;rfl;rfl;rfl;exact le_dec rfl)|(apply Aa.IK;rfl;rfl;rfl;rfl;rfl;rfl)|(apply Aa.Z5;rfl;rfl;rfl;rfl;rfl;rfl;exact h2)|(apply Aa.assign;rfl)|(apply Aa.move;rfl)|(apply Aa.int;rfl;rfl;rfl)|(apply Aa.AP;rfl;rfl;rfl;omega;rfl)|(apply Aa.load;rfl;rfl)|(apply Aa.AU;rfl;rfl;rfl)|(apply Aa.alloc;rfl)|(apply Aa.Bo;rfl;rfl;rfl;trivial;rfl;rfl;exact Ac rfl;exact le_dec rfl)|(apply Aa.not;rfl)|(apply Ad.Bd;rfl)|(apply Ad.Au;rfl)|(apply Ad.Af;rfl)|(intro _;try (exfalso;omega)))
   all_goals first|(exfalso;omega)|contradiction|(refine Done.ret rfl (.refl _) (by first|exact trivial|exact ⟨trivial,trivial,trivial⟩|exact ⟨trivial,trivial,trivial,trivial⟩) Aj.nil (Nat.zero_le _) (Nat.le_refl _) ⟨?_,rfl,rfl⟩;try rfl)
  rw [h3] at hdv
  have e5:((o.Az.take (k+1)).map fun d=>(⟨d.lo,d.hi⟩:aS))=((o.Az.take k).map fun d=>(⟨d.lo,d.hi⟩:aS))++[⟨(gi o.Az k).lo,(gi o.Az k).hi⟩]:=by rw [Dz hkl,List.map_append];rfl
  have e6:((o.Az.take (k+1)).map fun d=>(⟨d.lo,d.hi⟩:aS)).length=((o.Az.take k).map fun d=>(⟨d.lo,d.hi⟩:aS)).length+1:=by rw [e5,List.length_append];rfl
  repeat' (first|apply Ad.assoc|apply Ad.AA|apply Ad.region|apply Ad.Aq|apply Ad.BO|apply Ad.Ai|apply AO.normal|apply AO.ret|(apply Bq.ret;rfl)|apply AL.normal|apply AL.ret|apply Aw.ret|apply Ad.ret|apply Ag.nil|apply Ag.one|(apply Aa.fn;rfl;rfl;exact hdn;intro _;rfl)|(apply Aa.fn;rfl;rfl;exact hdv;intro _;rfl)|(apply Aa.Dl (a:=(⟨(gi o.Az k).lo,(gi o.Az k).hi⟩:aS));rfl;rfl;rfl;rfl;rfl;rfl;rfl;rfl;(intro _ h;cases h);rfl;rfl;rfl;decide;decide;(first|omega|(simp only [List.length_take,List.length_drop,List.length_append,List.length_singleton,List.length_cons,List.length_nil]<;>omega)))|(apply Qk;rfl;rfl;rfl;exact le_dec rfl)|(apply Aa.IK;rfl;rfl;rfl;rfl;rfl;rfl)|(apply Aa.Z5;rfl;rfl;rfl;rfl;rfl;rfl;exact h2)|(apply Aa.assign;rfl)|(apply Aa.move;rfl)|(apply Aa.Bv;rfl;rfl;omega)|(apply Aa.int;rfl;rfl;rfl)|(apply Aa.AP;rfl;rfl;rfl;omega;rfl)|(apply Aa.load;rfl;rfl)|(apply Aa.AU;rfl;rfl;rfl)|(apply Aa.alloc;rfl)|(apply Aa.Bo;rfl;rfl;rfl;trivial;rfl;rfl;exact Ac rfl;exact le_dec rfl)|(apply Aa.buildSlice;rfl;rfl;rfl;decide;rfl;rfl;rfl)|(apply Aa.not;rfl)|(apply Ad.Bd;rfl)|(apply Ad.Au;rfl)|(apply Ad.Af;rfl)|(intro _;try (exfalso;omega)))
  all_goals try (exfalso;omega)
  all_goals try contradiction
  refine Aw.normal ⟨k+1,⟨by omega,?_⟩,by omega,⟨by omega,?_,?_⟩⟩
  ·first|rfl|(refine Eq.trans ?_ hE;symm;(conv=>lhs;rw [Gi]);rw [if_pos hkl,if_neg (fun h=>h h1),if_neg h2,if_neg (fun h=>h h3)])
  ·rw [e6];repeat (first|exact Ae.nil|refine Ae.same trivial rfl ?_|refine Ae.same (Ac rfl) rfl ?_|refine Ae.same ⟨trivial,Ac rfl,Ac rfl,Ac rfl,trivial⟩ rfl ?_|refine Ae.same ⟨trivial,Ac rfl,Ac rfl,trivial⟩ rfl ?_|refine Ae.same ⟨trivial,trivial⟩ rfl ?_|refine Ae.cons trivial rfl (.of_eq (Ar (by simp<;>omega))) ?_)
  ·rw [e6,e5,Qj YH.name hkl];repeat (first|exact Aj.nil|(refine Aj.cons (Ac rfl) ?_ rfl ?_ ?_;(first|exact trivial|exact AQ.Ah _ _|(simp [HB.under,AQ.under,PV.under]));(first|exact Bj.refl _|exact Bj.vec (Bh.refl _) (by simp))))
 obtain rfl:k=o.Az.length:=by omega
 have e2:Gi o.ranks o.Az 0=0:=by rw [← hE,Gi,if_neg (by omega)]
 rw [if_neg (fun h=>h e2)]
 have et:o.Az.take o.Az.length=o.Az:=List.take_of_length_le (Nat.le_refl _)
 have hcp:=ZI (o.Az.map fun d=>(⟨d.lo,d.hi⟩:aS)) o.Gf (by rw [List.length_map];exact b2) ho.Gf ho.cp
 rw [et]
 repeat' (first|(refine Ad.at 35 ?_;refine Ad.ghost (Ba.freeze 8 rfl rfl) ?_;first|apply Ad.AA|apply Ad.BJ)|apply Ad.AA|apply Ad.AZ|apply AO.normal|apply AL.exit|apply Aw.exit|apply Ad.ret|apply Ag.nil|apply Ag.one|(apply Aa.fn;rfl;rfl;exact hcp;intro _;rfl)|(apply Aa.assign;rfl)|(apply Aa.move;rfl)|(apply Aa.int;rfl;rfl;rfl)|(apply Aa.load;rfl;rfl)|(apply Aa.AU;rfl;rfl;rfl)|(apply Ad.Af;rfl)|(intro _;try (exfalso;omega)))
 all_goals first|(exfalso;omega)|(refine Done.ret rfl (.refl _) (by first|exact trivial|exact ⟨trivial,trivial,trivial⟩|exact ⟨trivial,trivial,trivial,trivial⟩) Aj.nil (Nat.zero_le _) (Nat.le_refl _) ⟨?_,rfl,rfl⟩;try rfl)
end Go.Proofs.YtdabojnmoejilaaGreatDoor
namespace Go.Proofs.YtdabojnmoejilaaGreatDoor
open Go Go.Am Go.Vm
attribute [local irreducible] Aa Ag Ap Ad BA AY CJ AO AL Aw Vm.Done Dc Bq
structure Rgs where
 stops:List Nat
 cp:Nat
 off:Nat
instance:Enc Rgs:={ default:=⟨[],0,0⟩,enc:=fun x=>[.lst 39 (cells x.stops) x.stops.length,.int .u64 (x.cp:Int),.int .u64 (x.off:Int)],size:=3,len:=fun _=>rfl }
structure Rgs.Ok (r:Rgs):Prop where
 stops:∀ i,i<r.stops.length→gi r.stops i<18446744073709551616
 cp:r.cp<18446744073709551616
 off:r.off<18446744073709551616
 len:r.stops.length<9223372036854775808
def wB (b:Nat→Nat):List FV:=[.int .u8 (b 0:Int),.int .u8 (b 1:Int),.int .u8 (b 2:Int),.int .u8 (b 3:Int),.int .u8 (b 4:Int)]
def Gt (o:ET) (b:Nat→Nat) (k:Nat):Nat:=b (k % 3) &&& (2 ^ (gi o.Az k).stops.length-1)
def TQ (o:ET) (b:Nat→Nat):Rgs:=⟨GR (Gt o b) o.Az.length,b 3 &&& (2 ^ o.Gf.length-1),b 4 &&& (2 ^ o.Az.length-1)⟩
theorem a2w {n:Nat} (h:n≤3):2 ^ n≤8:=Nat.pow_le_pow_right (by omega) h
theorem xJ (b:Nat→Nat) (k:Nat):((wB b).map PV.p)[0+((k:Int) % 3).toNat*1]?=some (.p (.int .u8 ((b (k % 3):Nat):Int))):=by
 have e0:((k:Int) % 3).toNat=k % 3:=by omega
 rw [e0]
 have:k % 3<3:=Nat.mod_lt _ (by decide)
 generalize k % 3=n at this
 match n,this with
 |0,_=>rfl
 |1,_=>rfl
 |2,_=>rfl
theorem jr (o:ET) (ho:OZ o) (b:Nat→Nat) (hb:∀ i,b i<256):AY env 42 [.agg (Enc.enc o),.agg (wB b)] (.p (.agg (Enc.enc (TQ o b)))):=by
 have r2:=ho.Az
 have r3:=ho.Gf
 have b3:=hb 3
 have b4:=hb 4
 have p3:=a2w r3
 have p4:=a2w r2.2
 refine AY.enter (AB (by decide)) Tryz.func42 rfl (by kernel_rfl) (by simp [Tryz.ntmps42]) ?_
 repeat' (first|apply Ad.assoc|apply Ad.AA|apply Ad.Ai|apply Ag.nil|apply Ag.one|(apply Aa.a0d;rfl;rfl;omega)|(apply Aa.Vj;rfl;rfl;rfl;rfl;rfl;decide)|(apply Aa.assign;rfl)|(apply Aa.a4w;rfl;rfl;omega;omega)|(apply Aa.load;rfl;rfl)|(apply Aa.BI;rfl;rfl)|(apply Aa.AU;rfl;rfl;rfl)|(apply Aa.box;rfl;trivial)|(apply Aa.alloc;rfl)|(apply Aa.Bo;rfl;rfl;rfl;trivial;rfl;rfl;exact Ac rfl;exact le_dec rfl)|(apply Aa.build;rfl;rfl;rfl;rfl;rfl)|(apply Aa.NP;rfl;rfl;rfl;rfl;omega)|(apply Aa.mM;rfl;rfl;omega))
 refine Ad.ghost (Ba.EG 3 0 39 rfl rfl) ?_
 apply Ad.Fe (o.Az.length) [(2,_),(3,_),(4,_),(5,_)] [(0,_),(1,_),(2,_)] (fun k r=>(6,.p (.int .i64 (k:Int)))::r) (fun k r=>(4,.vec 39 (cells (GR (Gt o b) k)) (GR (Gt o b) k).length true)::(3,.box 41 [.vec 4 (GR (Gt o b) k).length 0 (GR (Gt o b) k).length,.p (.int .u64 ((b 3 &&& (2 ^ o.Gf.length-1):Nat):Int)),.p (.int .u64 ((b 4 &&& (2 ^ o.Az.length-1):Nat):Int))])::r) 5
 ·first|omega|decide
 ·first|omega|decide
 ·repeat (first|exact Ae.nil|(refine Ae.eq rfl ?_ ?_;(first|exact PV.Ak rfl|(simp [PV.under,AQ.under];done)))|refine Ae.cons trivial rfl (.of_eq (Ar (by simp<;>omega))) ?_)
 ·repeat (first|exact Aj.nil|(refine Aj.eq rfl (Ac rfl) ?_ ?_;(first|exact HB.Ak rfl|exact AQ.Ah _ _|(simp [HB.under,AQ.under,PV.under];done)))|(refine Aj.cons (Ac rfl) ?_ rfl ?_ ?_;(first|exact trivial|exact AQ.Ah _ _|(simp [HB.under,AQ.under,PV.under]));(first|exact Bj.refl _|exact Bj.vec (Bh.refl _) (by simp))))
 ·intro k hk
  have hl:=JB (Gt o b) k
  have e1:GR (Gt o b) (k+1)=GR (Gt o b) k++[Gt o b k]:=rfl
  have e2:(GR (Gt o b) (k+1)).length=(GR (Gt o b) k).length+1:=by rw [e1];simp
  have s3:=ho.stops k hk
  have p1:=a2w s3
  have hbk:=hb (k % 3)
  have hr:=xJ b k
  repeat' (first|apply Ad.assoc|apply Ad.AA|apply Ad.region|apply Ad.FP|apply Ad.Aq|apply Ad.Ai|apply AO.normal|apply AL.normal|apply Ag.nil|apply Ap.nil|apply Ag.one|(apply Ap.bar;decide +kernel)|apply Ap.quiet|(apply Aa.a0d;rfl;rfl;omega)|(apply Aa.uo;rfl;rfl;rfl;exact hr)|(apply Aa.Vj;rfl;rfl;rfl;rfl;rfl;omega)|(apply Aa.Dl (a:=Gt o b k);rfl;rfl;rfl;rfl;rfl;rfl;rfl;rfl;(intro _ h;cases h);rfl;rfl;rfl;decide;decide;(first|omega|(simp only [List.length_take,List.length_drop,List.length_append,List.length_singleton,List.length_cons,List.length_nil]<;>omega)))|(apply Aa.assign;rfl)|(apply Aa.move;rfl)|(apply Aa.Bv;rfl;rfl;omega)|(apply Aa.a4w;rfl;rfl;omega;omega)|(apply Aa.O4;rfl;rfl;omega;omega)|(apply Aa.int;rfl;rfl;rfl)|(apply Aa.AP;rfl;rfl;rfl;omega;rfl)|(apply Aa.load;rfl;rfl)|(apply Aa.BI;rfl;rfl)|(apply Aa.AU;rfl;rfl;rfl)|(apply Aa.DK;rfl;rfl)|(apply Aa.Bo;rfl;rfl;rfl;trivial;rfl;rfl;exact Ac rfl;exact le_dec rfl)|(apply Aa.buildSlice;rfl;rfl;rfl;decide;rfl;rfl;rfl)|(apply Aa.NP;rfl;rfl;rfl;rfl;omega)|(apply Aa.mM;rfl;rfl;omega)|(apply Ad.Af;rfl)|(intro _;try (exfalso;omega)))
  all_goals try (exfalso;omega)
  refine Aw.normal ⟨by first|omega|decide,?_,?_⟩
  ·try (rw [e2,e1])
   repeat (first|exact Ae.nil|refine Ae.same trivial rfl ?_|refine Ae.same (Ac rfl) rfl ?_|refine Ae.same ⟨trivial,Ac rfl,trivial⟩ rfl ?_|refine Ae.same ⟨trivial,Ac rfl,Ac rfl,trivial⟩ rfl ?_|refine Ae.same ⟨trivial,Ac rfl,Ac rfl,Ac rfl,trivial⟩ rfl ?_|refine Ae.same ⟨trivial,trivial⟩ rfl ?_|refine Ae.cons trivial rfl (.of_eq (Ar (by simp<;>omega))) ?_)
  ·rw [e2,e1]
   repeat (first|exact Aj.nil|(refine Aj.cons (Ac rfl) ?_ rfl ?_ ?_;(first|exact HB.Ak rfl|exact AQ.Ah _ _|(simp [HB.under,AQ.under,PV.under]));(first|exact Bj.refl _|exact Bj.vec (Bh.refl _) (by simp))))
 ·have hl:=JB (Gt o b) o.Az.length
  repeat' (first|(refine Ad.at 6 ?_;refine Ad.ghost (Ba.Di 3 0 rfl rfl rfl) ?_;first|apply Ad.AA|apply Ad.BJ)|apply Ad.assoc|apply Ad.AA|apply Ad.AZ|apply AO.normal|apply AL.exit|apply Aw.exit|apply Ad.ret|apply Ag.nil|apply Ag.one|(apply Aa.move;rfl)|(apply Aa.int;rfl;rfl;rfl)|(apply Aa.load;rfl;rfl)|(apply Aa.BI;rfl;rfl)|(apply Aa.AU;rfl;rfl;rfl)|(apply Aa.Bo;rfl;rfl;rfl;trivial;rfl;rfl;exact Ac rfl;exact le_dec rfl)|(apply Ad.Af;rfl)|(intro _;try (exfalso;omega)))
  all_goals first|(exfalso;omega)|(refine Done.ret rfl (.refl _) (by first|exact trivial|exact ⟨trivial,trivial,trivial⟩|exact ⟨trivial,trivial,trivial,trivial⟩) Aj.nil (Nat.zero_le _) (Nat.le_refl _) ⟨?_,rfl,rfl⟩;try rfl)
noncomputable def Qm (o:ET) (r:Rgs):Int :=
 open Classical in
 if r.stops.length≠o.Az.length then 5
 else if ∃ i,i<r.stops.length∧gi r.stops i / 2 ^ (gi o.Az i).stops.length≠0 then 3
 else if r.cp / 2 ^ o.Gf.length≠0∨r.off / 2 ^ o.Az.length≠0 then 3 else 0
theorem dY {o:ET} {r:Rgs} (h:r.stops.length≠o.Az.length):Qm o r=5:=by unfold Qm;rw [if_pos h]
theorem vk {o:ET} {r:Rgs} (h:r.stops.length=o.Az.length) {i:Nat} (hi:i<r.stops.length) (h2:gi r.stops i / 2 ^ (gi o.Az i).stops.length≠0):Qm o r=3:=by
 unfold Qm;rw [if_neg (fun h'=>h' h),if_pos ⟨i,hi,h2⟩]
theorem TN {o:ET} {r:Rgs} (h:r.stops.length=o.Az.length) (h2:∀ i,i<r.stops.length→gi r.stops i / 2 ^ (gi o.Az i).stops.length=0):Qm o r=if r.cp / 2 ^ o.Gf.length≠0∨r.off / 2 ^ o.Az.length≠0 then 3 else 0:=by
 unfold Qm;rw [if_neg (fun h'=>h' h),if_neg (fun ⟨i,hi,h3⟩=>h3 (h2 i hi))]
end Go.Proofs.YtdabojnmoejilaaGreatDoor
namespace Go.Vm
open Go.Am
section
variable {E:Env} {L:Vm.Frame} {H:Vm.Heap} {nx:Nat} {Q:PV→Vm.Heap→Nat→Prop} {w:Bool} {dst:Option Tmp} {ty:TypeId} {pos:String} {af:Array Edge} {gd:Option (Nat×Bool)}
theorem ZT {m:Mem} {F:Nat→Prop}:∀ {cs:List FV} {vs:List Value} {j:Nat} {c:FV},DN m F cs vs→cs[j]?=some c→∃ v,vs[j]?=some v∧RF m F c v
 |_,_,0,c,.cons h t,e=>by simp at e;subst e;exact ⟨_,rfl,h⟩
 |_,_,j+1,c,.cons h t,e=>by
  simp at e
  obtain ⟨v,h1,h2⟩:=ZT t e
  exact ⟨v,by simpa using h1,h2⟩
 |_,_,_,_,.nil,e=>by simp at e
theorem Aa.jf {t e:TypeId} {x ix:Operand} {n:Nat} {cs:List FV} {k:IntKind} {i:Int} {inf:TypeInfo} {c:FV} (hx:Bz E.Γ L x=some (.p (.agg cs))) (hi:Bz E.Γ L ix=some (.p (.int k i)))
 (ht:E.P.underlying t=some (.array n e)) (ha:F5 E.P e=some false) (hs:E.P.info? e=some inf) (h:0≤i∧i<n) (hc:cs[i.toNat*inf.size]?=some c) (q:Q (.p c) H nx) :
 Aa E w ⟨dst,.index t x ix,ty,pos,af,gd⟩ L H nx Q :=
 Aa.quiet q fun m F σ tt h1 h2=>by
  have hr:=BX h1 h2 hx
  generalize hv:ev tt x=v at hr
  cases hr with
  |p hr =>
   cases hr with
   |agg hr hcc =>
    rename_i l
    obtain ⟨u,g1,g2⟩:=ZT hr hc
    refine ⟨u,fun _=>?_,.p g2⟩
    have hd:Ec E.P (Instr.index t (.agg l.toArray) (.int k i))=some u:=by
     unfold Instr.index
     simp only [AX,BF,ht]
     show (Ec E.P (asIntOf (.int k i))).bind _=_
     rw [show Ec E.P (asIntOf (.int k i))=some (k,i) from rfl]
     simp only [Option.bind_some,h,and_self,if_true,AX,FC,hs,Option.map_some]
     unfold part
     simp only [AX,OB,ha,Option.bind_some,Bool.false_eq_true,if_false,List.getElem?_toArray,g1]
     rfl
    simp only [CW,FI,hv,Df h1 h2 hi,hd,Option.map_some]
    rw [show plain (Value.int k i)=true from rfl,if_pos rfl]
end
end Go.Vm
namespace Go.Vm
open Go.Am
open Go.Sort (putRow putCells mapBlock onCells Holds grow size_putRow size_grow)
section
variable {P:Program} {G:List Nat}
def iV (z:Int):Value:=.int .i64 z
def wJ:List Value→Option (List Int)
 |[]=>some []
 | .int .i64 n::l=>(wJ l).map (n::·)
 |_::_=>none
abbrev InF:=List Int→List Value→Option (List Int×Option Nat)
def a4f (e:TypeId) (Fn:InF) (Ci:List Value) (m:Mem):Option (Value×Mem):=match Ci with
 | .slice none 0 0::rest=>match Fn [] rest with
  |some ([],none)=>some (.tuple #[],m)
  |_=>none
 | .slice (some ⟨b,0,none⟩) n g::rest=>match m.get b with
  | .cells vs e' g' false =>
   if g=g'∧e=e'∧vs.length=n∧0<n∧rest.all Am.plainCell=true then
    match wJ vs with
    |some zs=>match Fn zs rest with
     |some (zs',none)=>if zs'.length=n then some (.tuple #[],m.put b (.cells (zs'.map iV) e g' false)) else none
     |some (zs',some k)=>if zs'.length=n∧k≤n then some (.slice (some ⟨b,0,none⟩) k (g'+1),m.put b (.cells ((zs'.take k).map iV) e (g'+1) false)) else none
     |none=>none
    |none=>none
   else none
  |_=>none
 |_=>none
inductive uV (e:TypeId) (Fn:InF) (m:Mem):List Value→Value→Mem→Prop
 |nil {rest:List Value} (h:Fn [] rest=some ([],none)):uV e Fn m (.slice none 0 0::rest) (.tuple #[]) m
 |put {b n g:Nat} {rest:List Value} {zs zs':List Int} (hm:m.get b=.cells (zs.map iV) e g false) (hn:zs.length=n) (h0:0<n) (hr:rest.all Am.plainCell=true) (h:Fn zs rest=some (zs',none)) (hl:zs'.length=n) :
  uV e Fn m (.slice (some ⟨b,0,none⟩) n g::rest) (.tuple #[]) (m.put b (.cells (zs'.map iV) e g false))
 |cut {b n g k:Nat} {rest:List Value} {zs zs':List Int} (hm:m.get b=.cells (zs.map iV) e g false) (hn:zs.length=n) (h0:0<n) (hr:rest.all Am.plainCell=true) (h:Fn zs rest=some (zs',some k)) (hl:zs'.length=n) (hk:k≤n) :
  uV e Fn m (.slice (some ⟨b,0,none⟩) n g::rest) (.slice (some ⟨b,0,none⟩) k (g+1)) (m.put b (.cells ((zs'.take k).map iV) e (g+1) false))
open Classical in
noncomputable def inO (G:List Nat) (M0:Mem) (ff:FuncId) (e:TypeId) (Fn:InF) (O:CB):CB:=fun f=>if f=ff then some (fun Ci m=>if ∀ k∈G,m.get k=M0.get k then a4f e Fn Ci m else none) else O f
end
end Go.Vm
namespace Go.Vm
open Go.Am
section
variable {P:Program} {F0:Nat} {laid:List (String×DataW Unit)} {O O0:CB} {ff:FuncId} {Fn:InF} {L:Frame} {H:Heap} {nx:Nat} {Q:PV→Heap→Nat→Prop} {w:Bool}
variable {dst:Option Tmp} {ty:TypeId} {pos:String} {af:Array Edge} {gd:Option (Nat×Bool)}
theorem yX {m:Mem} {F:Nat→Prop} {σ:Nat→Value} (h1:Ctx (Jr P F0 laid O).Γ m F σ H nx):∀ k∈BM P F0 laid,m.get k=(CX P F0 laid).get k:=fun k hk=>by
 obtain ⟨hlt,e,l,hgl⟩:=QO hk
 have:=(h1.gl k l e (by simp only [Jr,gam,if_pos hlt,hgl,Option.map_some])).2.1
 rw [this,I8 hlt,hgl]
def a8s (E:Env) (g:FuncId) (ac:List PV) (Hc:Heap) (k:Nat) (e:TypeId) (cs:List FV) (n:Nat) (z:Bool):Prop:=BA E g ac Hc k fun r H' nx'=>r=.vec k n 0 n∧H'=(k,.vec e cs n z)::Hc∧nx'=k+1
end
end Go.Vm
namespace Go.Vm
open Go.Am
theorem mY {Γ:Nat→Option (List Value×TypeId)} {m:Mem} {F:Nat→Prop} {σ:Nat→Value} {H:Heap} {nx b:Nat} {y:HB} (h:Ctx Γ m F σ H nx) (hb:hget H b=some y) :
 Ctx Γ m (fun c=>F c∨Dx (σ b)=some c) σ (hdel H b) nx∧Step m F σ H nx m (fun c=>F c∨Dx (σ b)=some c) σ (hdel H b) nx:=by
 have hown:∀ c,Dx (σ b)=some c→own H σ c:=fun c hc=>⟨b,_,hb,hc⟩
 have hfz:∀ c,F c→(F c∨Dx (σ b)=some c)∧m.get c=m.get c:=fun c hc=>⟨.inl hc,rfl⟩
 have hN:Names nx (htag H) σ (htag (hdel H b)) σ:=fun d _=>by
  rw [TD]
  split
  ·exact ⟨trivial,fun _ _ _=>rfl⟩
  ·exact ⟨U3.refl _,fun _ _ _=>rfl⟩
 have hsub:∀ d x,hget (hdel H b) d=some x→d≠b∧hget H d=some x:=fun d x hd=>by
  rw [Jz] at hd
  split at hd
  ·cases hd
  ·rename_i hne;exact ⟨Ne.symm hne,hd⟩
 refine ⟨⟨?_,?_,?_,?_⟩,⟨Nat.le_refl _,fun _ _ _=>rfl,fun _ h=>.inl h,fun c _ hc=>hc.imp id (hown c),?_,Nat.le_refl _,hN,fun _ h _ _=>h⟩⟩
 ·rintro c (hc|hc)
  ·exact h.fr c hc
  ·exact (h.KT (hown c hc)).2
 ·intro d x hd
  obtain ⟨hne,hd⟩:=hsub d x hd
  obtain ⟨h1,h2⟩:=h.hp d x hd
  refine ⟨h1,h2.mono hfz hN (Nat.le_refl _) (Nat.le_refl _) fun c hc=>⟨rfl,?_⟩⟩
  rintro (hf|hf)
  ·exact (h.KT ⟨d,x,hd,hc⟩).1 hf
  ·exact hne (h.sep d b x _ c hd hb hc hf)
 ·intro d d' x x' c hd hd' hc hc'
  exact h.sep d d' x x' c (hsub d x hd).2 (hsub d' x' hd').2 hc hc'
 ·intro g cs' e' hg
  obtain ⟨h1,h2⟩:=h.gl g cs' e' hg
  exact ⟨.inl h1,h2⟩
 ·rintro c _ ⟨d,x,hd,hc⟩
  exact ⟨d,x,(hsub d x hd).2,hc⟩
section
variable {E:Env} {bn:Nat} {L:Vm.Frame} {H:Vm.Heap} {nx:Nat} {Q:CG→Vm.Frame→Vm.Heap→Nat→Prop}
def a0h (E:Env) (g:FuncId) (fn:Func) (cs:List FV) (e:TypeId) (rows:List (List Value)):Prop :=
 ∀ Fo,E.O g=some Fo→∀ m F c vs,m.get c=.cells vs e 0 false→DN m F cs vs→F c→∃ key,∀ m' F' σ' H' nx',(∀ d,F d→m'.get d=m.get d)→Ctx E.Γ m' F' σ' H' nx'→∃ m1,Fo (D9 fn.ntmps [.pointer (some ⟨c,0,none⟩)]) m'=some (IJ key rows,m1)
theorem Ad.WQ {f:Operand} {ps:Array Tmp} {LQ body:Code} {g:FuncId} {fn:Func} {b:Nat} {cs:List FV} {ct:TypeId} {rows:List (List Value)} (n:Nat) (a4d:Nat→List FV) (wH:Nat→List Value) (L0:Vm.Frame) (Hk:Nat→Vm.Heap) (DR:Nat) (inv:Nat→Prop)
 (hf:Bz E.Γ L f=some (.clo g [] [.ref b 0])) (hbx:hget H b=some (.box ct (cs.map .p))) (hfn:E.P.funcs[g]?=some fn) (hfl:(flat LQ&&flat body)=true) {Fo:List Value→Mem→Option (Value×Mem)} (ho:E.O g=some Fo) (hr:rows=(List.range n).map wH) (hlen:∀ k,k<n→(wH k).length=ps.size) (hpl:∀ k,k<n→(wH k).all plain=true) (hrel:∀ k,k<n→∀ m F,DN m F (a4d k) (wH k))
 (hb:bn≤DR) (hc:XE L (hdel H b) nx L0 (Hk 0) DR) (hL0:Ae DR L0 L0) (hask:a0h E g fn cs ct rows)
 (h0:inv 0) (jc:∀ k,k<n→inv k→Ad E DR LQ (uS L0 ps.toList (a4d k)) (Hk k) DR fun e L1 H1 nx1=>e=.normal∧Ad E DR body L1 H1 nx1 (RQ (inv (k+1)) DR L0 (Hk (k+1)) Q))
 (hdone:inv n→Q .normal L0 (Hk n) DR):Ad E bn (.rangeFunc f ps LQ body) L H nx Q:=by
 intro B hB m F σ t h1 h2 h3
 have hv:=BX h1 h2 hf
 have hlb:∃ c vs,ev t f=.func (.func g) #[] #[.pointer (some ⟨c,0,none⟩)]∧m.get c=.cells vs ct 0 false∧DN m F cs vs∧Dx (σ b)=some c:=by
  obtain ⟨_,c,vs,r1,r2,r3,r4,r5,r6⟩:=h1.hp b _ hbx
  generalize ev t f=u at hv
  cases hv with
  |clo p1 p2 =>
   cases p1
   cases p2 with
   |cons p2 p3 =>
    cases p3
    cases p2 with
    |ref q1 q2 q3 =>
     obtain ⟨c',s1,s2⟩:=q3 (by simp [htag,hbx,HB.tag])
     rw [r1] at s1
     cases s1
     exact ⟨c,vs,by rw [s2],r4,DN.VR r5,by rw [r1];rfl⟩
 obtain ⟨c,vs,hev,hgc,hrc,hblk⟩:=hlb
 obtain ⟨g1,g2⟩:=mY h1 hbx
 obtain ⟨F0,hF0⟩:∃ F0:Nat→Prop,F0=fun d=>F d∨Dx (σ b)=some d:=⟨_,rfl⟩
 rw [← hF0] at g1 g2
 have hcF:F0 c:=by rw [hF0];exact .inr hblk
 obtain ⟨key,hkey⟩:=hask Fo ho m F0 c vs hgc (hrc.mono fun d hd=>⟨by rw [hF0];exact .inl hd,rfl⟩) hcF
 have l1:RL m F0 (htag (hdel H b)) σ nx L t:=RL.step g2 h1 h2
 have rounds:∀ j k,k+j=n→inv k→∀ m1 F1 σ1,Ctx E.Γ m1 F1 σ1 (Hk k) DR→RL m1 F1 (htag (Hk k)) σ1 DR L0 t→B.to m1 F1 σ1 (Hk k) DR→(∀ d,F0 d→F1 d∧m1.get d=m.get d) →
  LZ E.P E.O E.G LQ body ps.size (fun m'=>∃ m1,Fo (D9 fn.ntmps [.pointer (some ⟨c,0,none⟩)]) m'=some (IJ key rows,m1)) t ps.toList (rows.drop k) m1 fun e m'=>∃ L' H' nx' F' σ',Q e L' H' nx'∧Ctx E.Γ m' F' σ' H' nx'∧RL m' F' (htag H') σ' nx' L' t∧B.to m' F' σ' H' nx':=by
  intro j
  induction j with
  |zero =>
   intro k hk hik m1 F1 σ1 c1 l b fz
   obtain rfl:k=n:=by omega
   rw [hr,List.drop_of_length_le (by simp)]
   exact ⟨L0,_,DR,F1,σ1,hdone hik,c1,l,b⟩
  |succ j ih =>
   intro k hk hik m1 F1 σ1 c1 l b fz
   have e0:rows.drop k=wH k::rows.drop (k+1):=by
    rw [hr,List.drop_eq_getElem_cons (by simp;omega)]
    simp
   rw [e0]
   refine ⟨hlen k (by omega),hpl k (by omega),?_⟩
   refine (jc k (by omega) hik ⟨m1.at m1.size,F1,σ1,Hk k,DR⟩ rfl _ F1 σ1 _ (c1.at _) (RL.JM (RL.at (Γ:=E.Γ) _ l) (hrel k (by omega) _ _)) (Step.refl _ _ _ _ _)).mono ?_
   rintro e1 s1 ⟨L1,H1,nx1,F2,σ2,⟨he,hbody⟩,d1,d2,d3⟩
   refine ⟨he,(hbody ⟨m1.at m1.size,F1,σ1,Hk k,DR⟩ rfl s1.m F2 σ2 s1.t d1 d2 d3).mono ?_⟩
   rintro e2 s2 ⟨L2,H2,nx2,F3,σ3,q,k1,k2,k3⟩
   have st:Step m1 F1 σ1 (Hk k) DR (s2.m.at (min m1.low s2.m.low)) F3 σ3 H2 nx2:=Step.at k3
   have k1':=k1.at (min m1.low s2.m.low)
   have l':=RL.step st c1 l
   have b':=Step.trans b st
   have fz':∀ d,F0 d→F3 d∧(s2.m.at (min m1.low s2.m.low)).get d=m.get d:=fun d hd=>by
    obtain ⟨x1,x2⟩:=fz d hd
    obtain ⟨y1,y2⟩:=st.frozen c1 d x1
    exact ⟨y1,y2.trans x2⟩
   cases e2 with
   |normal =>
    have tu:XE L0 H2 nx2 L0 (Hk (k+1)) DR:=⟨q.2.1,hL0,q.2.2⟩
    have c2:=tu.ctx k1'
    exact ⟨hkey _ _ _ _ _ (fun d hd=>(fz' d hd).2) c2,ih (k+1) (by omega) q.1 _ _ _ c2 (tu.rl l') (tu.step (by omega) b') fz'⟩
   |ret =>
    obtain ⟨q1,H3,q2,q3⟩:=q
    have tu:XE L0 H2 nx2 L0 H3 DR:=⟨q1,hL0,q2⟩
    exact ⟨L0,H3,DR,F3,σ3,q3,tu.ctx k1',tu.rl l',tu.step (by omega) b'⟩
   |exit id =>
    obtain ⟨q1,H3,q2,q3⟩:=q
    have tu:XE L0 H2 nx2 L0 H3 DR:=⟨q1,hL0,q2⟩
    exact ⟨L0,H3,DR,F3,σ3,q3,tu.ctx k1',tu.rl l',tu.step (by omega) b'⟩
 refine LG.rangeFunc (fn:=fn) (Fo:=Fo) (rows:=rows) hev hfn hfl ho (hkey _ _ _ _ _ (fun _ _=>rfl) g1) ?_
 have:=rounds n 0 (by omega) h0 m F0 σ (hc.ctx g1) (hc.rl l1) (hc.step (by omega) (h3.trans g2)) fun d hd=>⟨hd,rfl⟩
 rw [List.drop_zero] at this
 exact this
end
end Go.Vm
namespace Go.Vm
open Go.Am
def b1v (e:TypeId) (ks:List Int) (f:Int→List Int):List (FV×FV):=ks.map fun k=>(.int .i64 k,.lst e (cells (f k)) (f k).length)
section
variable {E:Env} {L:Frame} {H:Heap} {nx:Nat} {Q:PV→Heap→Nat→Prop} {w:Bool}
variable {dst:Option Tmp} {ty:TypeId} {pos:String} {af:Array Edge} {gd:Option (Nat×Bool)}
theorem a4u {Γ:Nat→Option (List Value×TypeId)} {m:Mem} {F:Nat→Prop} {σ:Nat→Value} {t:Tr Value} {k:IntKind} {n:Int} {o:Operand} (hx:Ctx Γ m F σ H nx) (hl:RL m F (htag H) σ nx L t) (h:Bz Γ L o=some (.p (.int k n))):ev t o=.int k n:=by
 have:=BX hx hl h
 generalize ev t o=v at this
 cases this with
 |p h=>cases h;rfl
end
section
variable {E:Env} {bn i:Nat} {ops:Array Oper} {l:List Oper} {L:Frame} {H:Heap} {nx:Nat} {R:Frame→Heap→Nat→Prop}
end
def swp (a b i:Nat):Nat:=if i=a then b else if i=b then a else i
def Hrn (ρ:Nat→Nat):Heap→Heap
 |[]=>[]
 |(i,x)::H=>(ρ i,x.rn ρ)::Hrn ρ H
end Go.Vm
namespace Go.Vm
open Go.Am
mutual
def FV.flat:FV→Bool
 | .int ..| .bool _| .str _| .val _=>true
 | .agg cs=>FVs.flat cs
 | .lst ..| .Gw _=>false
def FVs.flat:List FV→Bool
 |[]=>true
 |c::cs=>FV.flat c&&FVs.flat cs
end
mutual
def PV.flat:PV→Bool
 | .p x=>x.flat
 | .agg cs=>AQ.flat cs
 | .EX cs=>AQ.flat cs
 | .vec ..| .ref ..| .Ep ..| .mref _=>true
 | .clo _ fs cs=>AQ.flat fs&&AQ.flat cs
def AQ.flat:List PV→Bool
 |[]=>true
 |c::cs=>PV.flat c&&AQ.flat cs
end
def HB.flat:HB→Bool
 | .box _ cs=>AQ.flat cs
 | .vec _ cs _ _=>FVs.flat cs
 | .map _=>false
 | .Fh ..=>false
def a5b:Heap→Bool
 |[]=>true
 |(_,x)::H=>x.flat&&a5b H
section
variable {m m':Mem} {F F':Nat→Prop} {T:Nat→Option Tg} {σ:Nat→Value} {n:Nat}
end
section
variable {E:Env} {L:Frame} {H:Heap} {nx:Nat} {Q:PV→Heap→Nat→Prop} {w:Bool}
variable {dst:Option Tmp} {ty:TypeId} {pos:String} {af:Array Edge} {gd:Option (Nat×Bool)}
end
end Go.Vm
namespace Go.Vm
open Go.Am
variable {E:Env} {L:Frame} {H:Heap} {nx:Nat} {Q:PV→Heap→Nat→Prop} {w:Bool}
variable {dst:Option Tmp} {ty:TypeId} {pos:String} {af:Array Edge} {gd:Option (Nat×Bool)}
theorem lM (σ:Nat→Value) (a:Nat):upd σ a (σ a)=σ:=by funext x;simp only [upd];split<;>simp_all
theorem Ba.yA (b:Nat) {n:Nat} {e:TypeId} {cs:List FV} {z:Bool} (hb:hget H b=some (.vec e cs n z)) (hn:0<n):Ba E L H nx L (hput H b (.Fh e (cs.map .p) n)) nx:=fun B m F σ t h1 h2 h3=>by
 obtain ⟨_,hr⟩:=h1.hp b _ hb
 rcases hr with ⟨r1,r2,r3⟩|⟨c,g,vs,r1,r2,r3,r4,r5,r6,r7⟩
 ·omega
 have hT:htag (hput H b (.Fh e (cs.map .p) n))=htag H:=by
  funext d
  rw [Sv]
  by_cases e':b=d
  ·subst e';rw [if_pos rfl];simp [htag,hb,HB.tag]
  ·rw [if_neg e']
 obtain ⟨d1,d2⟩:=h1.change (m':=m) (b0:=b) (x':=.Fh e (cs.map .p) n) (s':=σ b) hb (Nat.le_refl _) (fun _=>rfl) (Nat.le_refl _) (fun _ _ _=>rfl) (fun _ h _ _=>h) (fun c hc=>.inl hc)
  ⟨c,g,vs,r1,r2,r3,r4,DL.YI r5,r6⟩
 rw [lM] at d1 d2
 exact ⟨F,σ,d1,h2.step d2 h1,h3.trans d2⟩
theorem Ba.uw (b:Nat) {n:Nat} {e:TypeId} {ds:List PV} (cs:List FV) (hb:hget H b=some (.Fh e ds n)) (hn:0<n) (hd:ds=cs.map .p):Ba E L H nx L (hput H b (.vec e cs n false)) nx:=fun B m F σ t h1 h2 h3=>by
 subst hd
 obtain ⟨_,c,g,vs,r1,r2,r3,r4,r5,r6⟩:=h1.hp b _ hb
 obtain ⟨d1,d2⟩:=h1.change (m':=m) (b0:=b) (x':=.vec e cs n false) (s':=σ b) hb (Nat.le_refl _) (fun _=>rfl) (Nat.le_refl _) (fun _ _ _=>rfl) (fun _ h _ _=>h) (fun c hc=>.inl hc)
  (.inr ⟨c,g,vs,r1,r2,r3,r4,DN.VR r5,r6,fun _=>rfl⟩)
 rw [lM] at d1 d2
 exact ⟨F,σ,d1,h2.step d2 h1,h3.trans d2⟩
theorem Ba.gB (a k:Nat) {b n n':Nat} {e e':TypeId} {cs:List FV} {ds:List PV} {z:Bool} (ha:hget H a=some (.Fh e' ds n')) (hk:ds[k]?=some (.vec b n 0 n)) (hb:hget H b=some (.vec e cs n z)) :
 Ba E L H nx L (hput (hdel H b) a (.Fh e' (ds.set k (.p (.lst e cs n))) n')) nx:=fun B m F σ t h1 h2 h3=>by
 obtain ⟨c1,c2,c3⟩:=SC h1 hb
 have hne:b≠a:=fun e=>by subst e;rw [ha] at hb;cases hb
 have ha':hget (hdel H b) a=some (.Fh e' ds n'):=by rw [Jz,if_neg hne];exact ha
 obtain ⟨_,c,g,vs,r1,r2,r3,r4,r5,r6⟩:=c1.hp a _ ha'
 obtain ⟨_,c',g',vs',s1,s2,s3,s4,s5,s6⟩:=h1.hp a _ ha
 rw [s1] at r1;cases r1
 rw [s4] at r4;cases r4
 obtain ⟨u,hu1,hu2⟩:=s5.get hk
 have hcell:RP m (fun c=>F c∨Dx (σ b)=some c) (htag (hdel H b)) σ nx (.p (.lst e cs n)) u:=by
  cases hu2 with
  |vec hb' hc h=>exact .p (c3 _ ((h n (by simp [htag,hb,HB.tag])).2 rfl))
 obtain ⟨d1,d2⟩:=c1.change (m':=m) (b0:=a) (x':=.Fh e' (ds.set k (.p (.lst e cs n))) n') (s':=σ a) ha' (Nat.le_refl _) (fun _=>rfl) (Nat.le_refl _) (fun _ _ _=>rfl) (fun _ h _ _=>h) (fun c hc=>.inl hc) (by
  refine ⟨_,_,vs,s1,s2,r3,s4,?_,s6⟩
  have:vs=vs.set k u:=by
   apply List.ext_getElem?
   intro j
   rw [List.getElem?_set]
   by_cases e:k=j
   ·subst e
    rw [if_pos rfl,hu1]
    have:k<vs.length:=by
     rcases Nat.lt_or_ge k vs.length with h|h
     ·exact h
     ·rw [List.getElem?_eq_none h] at hu1;cases hu1
    rw [if_pos this]
   ·rw [if_neg e]
  rw [this]
  exact (r5.set k hcell).mono (fun d hd=>⟨hd,rfl⟩) (FB (x':=.Fh e' (ds.set k (.p (.lst e cs n))) n') ha' (Nat.le_refl _) fun _=>rfl) (Nat.le_refl _))
 rw [lM] at d1 d2
 exact ⟨_,σ,d1,(h2.step c2 h1).step d2 c1,(h3.trans c2).trans d2⟩
theorem SG {Γ:Nat→Option (List Value×TypeId)} {m:Mem} {F:Nat→Prop} {σ:Nat→Value} {t:Tr Value} {b tag off:Nat} {o:Operand} {e:TypeId} {cs:List PV} (hx:Ctx Γ m F σ H nx) (hl:RL m F (htag H) σ nx L t) (h:Bz Γ L o=some (.Ep b tag off)) (hb:hget H b=some (.Fh e cs tag)) :
 ∃ c k g,ev t o=.pointer (some ⟨c,off,some g⟩)∧σ b=.slice (some ⟨c,0,none⟩) k g:=by
 have:=BX hx hl h
 generalize ev t o=v at this
 cases this with
 |Ep h1 h2 h3 =>
  obtain ⟨_,h4⟩:=h3 tag (by simp [htag,hb,HB.tag])
  obtain ⟨c,k,g,h5,h6⟩:=h4 rfl
  exact ⟨c,k,g,h6,h5⟩
theorem xk {Γ:Nat→Option (List Value×TypeId)} {m:Mem} {F:Nat→Prop} {σ:Nat→Value} {t:Tr Value} {b tag off len:Nat} {o:Operand} {e:TypeId} {cs:List PV} (hx:Ctx Γ m F σ H nx) (hl:RL m F (htag H) σ nx L t) (h:Bz Γ L o=some (.vec b tag off len)) (hb:hget H b=some (.Fh e cs tag)) :
 Eu (σ b) off len (ev t o):=by
 have:=BX hx hl h
 generalize ev t o=v at this
 cases this with
 |vec h1 h2 h3=>exact (h3 tag (by simp [htag,hb,HB.tag])).2 rfl
theorem Aa.a3c {s:TypeId} {x:Operand} {f k b tag off:Nat} {e:TypeId} {cs:List PV} (hx:Bz E.Γ L x=some (.Ep b tag off)) (hb:hget H b=some (.Fh e cs tag)) (hk:NK E.P s f=some k) (q:Q (.Ep b tag (off+k)) H nx) :
 Aa E w ⟨dst,.fieldAddr s x f,ty,pos,af,gd⟩ L H nx Q :=
 Aa.quiet q fun m F σ tt h1 h2=>by
  obtain ⟨c,k',g,h3,h4⟩:=SG h1 h2 hx hb
  refine ⟨_,fun _=>La (dst:=dst) (ty:=ty) (pos:=pos) (af:=af) (gd:=gd) hk h3,.Ep (h1.hp b _ hb).1 rfl fun n hn=>?_⟩
  simp only [htag,hb,HB.tag,Option.map_some,Option.some.injEq,Tg.vec.injEq] at hn
  exact ⟨by omega,fun _=>⟨c,k',g,h4,rfl⟩⟩
theorem Aa.a2p {t:TypeId} {x ix:Operand} {e:TypeId} {cs:List PV} {b tag sz:Nat} {k:IntKind} {i:Nat} (hx:Bz E.Γ L x=some (.vec b tag 0 tag)) (hb:hget H b=some (.Fh e cs tag)) (hi:Bz E.Γ L ix=some (.p (.int k (i:Int))))
 (hs:elemSize E.P t=some sz) (h1:i<tag) (q:Q (.Ep b tag (i*sz)) H nx):Aa E w ⟨dst,.indexAddr t x ix,ty,pos,af,gd⟩ L H nx Q :=
 Aa.quiet q fun m F σ tt c1 c2=>by
  obtain ⟨e',inf,h3,h4,h5⟩:=KU hs
  have hix:=Df c1 c2 hi
  have hsub:=xk c1 c2 hx hb
  obtain ⟨hlt,c,g,vs,r1,r2,r3,r4,r5,r6⟩:=c1.hp b _ hb
  rw [r1] at hsub
  simp only [Eu] at hsub
  have h0:(0:Int)≤(i:Int):=by omega
  have h1':(i:Int)<(tag:Int):=by omega
  refine ⟨.pointer (some ⟨c,i*sz,some g⟩),fun _=>by simp only [CW,FI,h3,hsub,hix,h4,h0,h1',and_self,if_true,h5,Nat.zero_add,Int.toNat_natCast],.Ep hlt rfl fun n hn=>?_⟩
  simp only [htag,hb,HB.tag,Option.map_some,Option.some.injEq,Tg.vec.injEq] at hn
  exact ⟨by omega,fun _=>⟨c,tag,g,r1,rfl⟩⟩
theorem Aa.a5o {t:TypeId} {a:Operand} {b n off:Nat} {e:TypeId} {cs:List PV} {r:PV} (ha:Bz E.Γ L a=some (.Ep b n off)) (hb:hget H b=some (.Fh e cs n)) (ht:F5 E.P t=some false) (hc:cs[off]?=some r) (q:Q r H nx):Aa E w ⟨dst,.load t a,ty,pos,af,gd⟩ L H nx Q :=
 Aa.quiet q fun m F σ tt h1 h2=>by
  obtain ⟨c,k,g,h3,h4⟩:=SG h1 h2 ha hb
  obtain ⟨_,c',g',vs,r1,r2,r3,r4,r5,r6⟩:=h1.hp b _ hb
  rw [h4] at r1
  cases r1
  obtain ⟨v,h5,h6⟩:=Yp (P:=E.P) (t:=t) (a:=⟨c,off,some g⟩) (x:=r) r4 r2 rfl rfl (DL.drop off r5) (Ii r6 _) (by
   simp only [fZ,ht]
   rw [List.head?_drop]
   exact hc)
  exact ⟨v,fun _=>by simp only [CW,FI,h3,h5,Option.map_some],h6⟩
theorem Aa.a3p {t:TypeId} {a x:Operand} {b tag off:Nat} {e:TypeId} {cs:List PV} {r:PV} {i:TypeInfo} (ha:Bz E.Γ L a=some (.Ep b tag off)) (hx:Bz E.Γ L x=some r) (hb:hget H b=some (.Fh e cs tag)) (hn:Qe r)
 (hi:E.P.info? t=some i) (hl:(Gv r).length=i.size) (h0:0<i.size) (hle:off+i.size≤cs.length) (q:Q (.EX []) (hput H b (.Fh e (Cc cs off (Gv r)) tag)) nx):Aa E true ⟨dst,.store t a x,ty,pos,af,gd⟩ L H nx Q:=by
 intro m F σ tt h1 h2
 obtain ⟨c,k,g,h3,h4⟩:=SG h1 h2 ha hb
 obtain ⟨h5,h6⟩:=JI hn (BX h1 h2 hx)
 obtain ⟨hlt,c',g',vs,r1,r2,r3,r4,r5,r6⟩:=h1.hp b _ hb
 rw [h4] at r1
 cases r1
 have hlen:=h5.length
 have hlen2:=r5.length
 have hst:J9 E.P t ⟨c,off,some g⟩ (ev tt x) m=some (m.put c (.cells (splice vs off (ev tt x).cells.toList) e g false)):=by
  unfold J9 Fg
  rw [hi]
  simp only [r4]
  rw [if_pos (by simpa using hlen.symm.trans hl),if_pos]
  simp only [Ju,Option.getD_some,beq_self_eq_true,Bool.true_and,Bool.and_eq_true,decide_eq_true_eq]
  refine ⟨⟨?_,?_⟩,h6⟩
  ·rw [← hlen,hl,← hlen2];exact ⟨trivial,hle⟩
  ·rw [← hlen,hl];exact h0
 have hput':∀ d,c≠d→(m.put c (.cells (splice vs off (ev tt x).cells.toList) e g false)).get d=m.get d:=fun d hd=>by rw [Mem.get_put,if_neg hd]
 obtain ⟨c1,c2⟩:=h1.change (m':=m.put c (.cells (splice vs off (ev tt x).cells.toList) e g false)) (x':=.Fh e (Cc cs off (Gv r)) tag) (s':=σ b) hb (Nat.le_refl _) (fun _=>rfl) (Nat.le_refl _)
  (fun d _ hd=>hput' d fun e=>hd (by rw [h4,e];rfl)) (fun k k1 k2 k3=>by
   have:=k3 c (by rw [h4];rfl)
   simp only [Mem.put];omega) (fun d hd=>.inl hd) (by
   refine ⟨c,g,splice vs off (ev tt x).cells.toList,h4,r2,r3,by rw [Mem.get_put,if_pos rfl],?_,IQ _ r6 h6⟩
   refine (DL.splice off r5 h5).mono (fun d hd=>⟨hd,hput' d fun e=>r3 (e▸hd)⟩) (FB (x':=.Fh e (Cc cs off (Gv r)) tag) hb (Nat.le_refl _) fun _=>rfl) (Nat.le_refl _))
 refine Ir.op (v:=undef) (fun _=>?_) ⟨_,_,_,F,_,q,c1,.EX .nil,c2,fun h=>by cases h⟩
 simp only [CW,FI,h3,hst,Option.map_some]
end Go.Vm
namespace Go.Vm
open Go.Am
section
variable {E:Env} {L:Vm.Frame} {H:Vm.Heap} {nx:Nat} {Q:PV→Vm.Heap→Nat→Prop} {w:Bool} {dst:Option Tmp} {ty:TypeId} {pos:String} {af:Array Edge} {gd:Option (Nat×Bool)}
theorem Aa.VJ {t:TypeId} {x:Operand} {f:Nat} {cs:List FV} {fs:Array Field} {fd:Field} {r:FV} (hx:Bz E.Γ L x=some (.p (.agg cs))) (hu:E.P.underlying t=some (.struct fs)) (hf:fs[f]?=some fd) (h:UO E.P fd.type (cs.drop fd.offset)=some r) (q:Q (.p r) H nx) :
 Aa E w ⟨dst,.field t x f,ty,pos,af,gd⟩ L H nx Q :=
 Aa.quiet q fun m F σ tt h1 h2=>by
  have hr:=BX h1 h2 hx
  generalize hv:ev tt x=v at hr
  cases hr with
  |p hr =>
   cases hr with
   |agg hr hcc =>
    rename_i l
    have hd:=DN.drop fd.offset hr
    have key:∃ u,Ec E.P (part fd.type l.toArray fd.offset)=some u∧RF m F r u:=by
     unfold UO at h
     unfold part
     simp only [AX,OB]
     cases ha:F5 E.P fd.type with
     |none=>rw [ha] at h;cases h
     |some b =>
      rw [ha] at h
      cases b with
      |true =>
       simp only at h
       cases hi:E.P.info? fd.type with
       |none=>rw [hi] at h;cases h
       |some i =>
        rw [hi] at h
        simp only [Option.map_eq_some_iff] at h
        obtain ⟨l',h3,rfl⟩:=h
        obtain ⟨ws,h4,h5⟩:=Ou hd h3
        simp only [Option.bind_some,if_true,AX,FC,hi,Option.map_some]
        have e:l.toArray.extract fd.offset (fd.offset+i.size)=((l.drop fd.offset).take i.size).toArray:=by
         apply Array.ext'
         rw [Array.toList_extract]
         simp [List.extract_eq_take_drop]
        unfold takeN at h4
        split at h4
        case isFalse=>cases h4
        cases h4
        exact ⟨_,rfl,by rw [e];exact .agg h5 (I9 (Ii hcc _) _)⟩
      |false =>
       simp only [Option.bind_some,Bool.false_eq_true,if_false]
       simp only at h
       have h':cs[fd.offset]?=some r:=by rw [← h];simp
       obtain ⟨u,g1,g2⟩:=ZT hr h'
       simp only [List.getElem?_toArray,g1]
       exact ⟨u,rfl,g2⟩
    obtain ⟨u,k1,k2⟩:=key
    refine ⟨u,fun _=>?_,.p k2⟩
    have hd:Ec E.P (Instr.field t (.agg l.toArray) f)=some u:=by
     unfold Instr.field
     simp only [AX,BF,hu,Option.bind_some,hf]
     rw [show Ec E.P (asAgg (.agg l.toArray))=some l.toArray from rfl]
     exact k1
    simp only [CW,FI,hv,hd,Option.map_some]
theorem Ba.ji (a k:Nat) (e:TypeId) {e':TypeId} {ds:List PV} {n':Nat} (ha:hget H a=some (.Fh e' ds n')) (hk:ds[k]?=some (.p (.val (.slice none 0 0)))) :
 Ba E L H nx L (hput ((nx,.vec e [] 0 true)::H) a (.Fh e' (ds.set k (.vec nx 0 0 0)) n')) (nx+1):=fun B m F σ t h1 h2 h3=>by
 obtain ⟨c1,c2⟩:=WE e h1
 have hlt:=(h1.hp a _ ha).1
 have ha':hget ((nx,HB.vec e [] 0 true)::H) a=some (.Fh e' ds n'):=by rw [Cb,if_neg (by omega)];exact ha
 obtain ⟨_,c,g,vs,r1,r2,r3,r4,r5,r6⟩:=c1.hp a _ ha'
 obtain ⟨u,hu1,hu2⟩:=r5.get hk
 have hu:u=Dj:=by cases hu2 with|p h=>cases h;rfl
 subst hu
 obtain ⟨d1,d2⟩:=c1.change (m':=m) (b0:=a) (x':=.Fh e' (ds.set k (.vec nx 0 0 0)) n') (s':=upd σ nx Dj a) ha' (Nat.le_refl _) (fun _=>rfl) (Nat.le_refl _) (fun _ _ _=>rfl) (fun _ h _ _=>h) (fun c hc=>.inl hc) (by
  refine ⟨c,g,vs,r1,r2,r3,r4,?_,r6⟩
  have:vs=vs.set k Dj:=by
   apply List.ext_getElem?
   intro j
   rw [List.getElem?_set]
   by_cases e:k=j
   ·subst e
    rw [if_pos rfl,hu1]
    have:k<vs.length:=by
     rcases Nat.lt_or_ge k vs.length with h|h
     ·exact h
     ·rw [List.getElem?_eq_none h] at hu1;cases hu1
    rw [if_pos this]
   ·rw [if_neg e]
  rw [this]
  exact (r5.set k (Zu e H nx)).mono (fun d hd=>⟨hd,rfl⟩) (FB (x':=.Fh e' (ds.set k (.vec nx 0 0 0)) n') ha' (Nat.le_refl _) fun _=>rfl) (Nat.le_refl _))
 have hσ:upd (upd σ nx Dj) a (upd σ nx Dj a)=upd σ nx Dj:=by
  funext x
  by_cases e:x=a
  ·rw [e,upd_same]
  ·rw [CY _ _ e]
 rw [hσ] at d1 d2
 exact ⟨_,_,d1,(h2.step c2 h1).step d2 c1,(h3.trans c2).trans d2⟩
theorem Ba.a4q (b:Nat) {n:Nat} {e:TypeId} {cs:List FV} (cs':List FV) {z:Bool} (hb:hget H b=some (.vec e cs n z)) (h:Bh cs cs'):Ba E L H nx L (hput H b (.vec e cs' n z)) nx:=fun B m F σ t h1 h2 h3=>by
 have hr:=RB.le (Bj.vec (n:=n) (z:=z) (e:=e) h rfl) (h1.hp b _ hb).2
 obtain ⟨d1,d2⟩:=h1.change (m':=m) (b0:=b) (x':=.vec e cs' n z) (s':=σ b) hb (U3.refl _) (fun _=>rfl) (Nat.le_refl _) (fun _ _ _=>rfl) (fun _ h _ _=>h) (fun c hc=>.inl hc) hr
 exact ⟨F,_,d1,h2.step d2 h1,h3.trans d2⟩
theorem Aa.gW {t t2:TypeId} {x y:Operand} {a b r:Bool} (hx:Bz E.Γ L x=some (.p (.bool a))) (hy:Bz E.Γ L y=some (.p (.bool b))) (ht:E.P.underlying t=some .bool) (hr:(a != b)=r) (q:Q (.p (.bool r)) H nx) :
 Aa E w ⟨dst,.binOp .neq t x y t2,ty,pos,af,gd⟩ L H nx Q:=Aa.neB hx hy ht (by rw [hr];exact q)
theorem Aa.WU {fo:Operand} {args:Array Operand} {aT:Array TypeId} {g:FuncId} {fs cs aa ac:List PV} {Hc:Heap} {Qc:PV→Heap→Nat→Prop} (ns:List Nat) (hc:BA E g ac Hc ns.length Qc)
 (hf:Bz E.Γ L fo=some (.clo g fs cs)) (ha:evs E.Γ L args.toList=some aa) (hle:P9 (fs++aa++cs) (AQ.rn (rho ns nx) ac)) (hu:AQ.under ns.length ac) (hHu:Ob ns.length Hc) (hin:HIn (rho ns nx) H Hc) (hnd:ns.Nodup) (hlt:∀ b∈ns,b<nx)
 (hq:∀ r H' nx',Qc r H' nx'→Q (r.rn (rho ns nx)) (news ns.length (rho ns nx) H' (merge ns (rho ns nx) H' H)) (nx+(nx'-ns.length))) :
 Aa E true ⟨dst,.call { callee:=.value fo,args:=args,argTypes:=aT },ty,pos,af,gd⟩ L H nx Q:=Aa.sS hf ha hle hu hHu hin hnd hlt (fun h=>by cases h) hc hq
theorem Ba.uG (d j:Nat) {b n k:Nat} {e:TypeId} {cs:List FV} {z:Bool} (hd:G5 L d=some (.vec b n 0 k)) (hb:hget H b=some (.vec e cs n z)) (hn:0<n) (hj:j≤cs.length) :
 Ba E L H nx ((d,.p (.lst e (cs.take j) k))::L) (hdel H b) nx:=fun B m F σ t h1 h2 h3=>by
 obtain ⟨c1,c2⟩:=mY h1 hb
 refine ⟨_,σ,c1,fun i v hi=>?_,h3.trans c2⟩
 rw [HY] at hi
 by_cases ei:d=i
 ·rw [if_pos ei] at hi;cases hi
  have:=h2 d _ hd
  subst ei
  generalize D5 t d=u at this
  cases this with
  |vec hb' hc h =>
   have hsub:=(h n (by simp [htag,hb,HB.tag])).2 rfl
   obtain ⟨_,hr⟩:=h1.hp b _ hb
   rcases hr with ⟨r1,r2,r3⟩|⟨c,g,vs,r1,r2,r3,r4,r5,r6,r7⟩
   ·omega
   ·rw [r1] at hsub
    simp only [Eu] at hsub
    subst hsub
    refine .p (.lst (.inr (by rw [r1];rfl)) r4 (ws:=vs.take j) ?_ ((DN.take j r5).mono fun d hd=>⟨.inl hd,rfl⟩) (I9 r6 _))
    have:=r5.length
    rw [List.drop_zero,List.length_take,Nat.min_eq_left hj]
    unfold takeN
    rw [if_pos (by omega)]
 ·rw [if_neg ei] at hi
  exact (h2 i v hi).step c2 h1
end
end Go.Vm
namespace Go.Tra
open Go Go.Am Go.Vm
theorem fE {ns:List Nat} {p:PN}:∀ {n:Nat},p∈LC ns n→p.d<n∧p.s<gi ns p.d
 |0,h=>by cases h
 |n+1,h=>by
  have e0:LC ns (n+1)=LC ns n++(List.range (gi ns n)).map fun s=>⟨n,s⟩:=rfl
  rw [e0,List.mem_append] at h
  rcases h with h|h
  ·have:=fE h;omega
  ·obtain ⟨s,h1,rfl⟩:=List.mem_map.1 h
   exact ⟨Nat.lt_succ_self _,List.mem_range.1 h1⟩
end Go.Tra
namespace Go.Proofs.YtdabojnmoejilaaGreatDoor
open Go Go.Am Go.Vm Go.Tra
attribute [local irreducible] Aa Ag Ap Ad BA AY CJ AO AL Aw Vm.Done Dc Bq
attribute [local irreducible] D8 DT Jp KX TG BZ
structure aP where
 EC:Int
 FN:Int
 Dk:Int
 miss:Int
instance:Enc aP:={ default:=⟨0,0,0,0⟩,enc:=fun x=>[.int .i64 x.EC,.int .i64 x.FN,.int .i64 x.Dk,.int .i64 x.miss],size:=4,len:=fun _=>rfl }
structure RJ where
 BD:ET
 reg:Rgs
 tgt:ET
 DX:aP
def RJ.enc (q:RJ):List FV:=[.str (bs q.BD.name),.lst 131 (cells q.BD.ranks) q.BD.ranks.length,.lst 97 (cells q.BD.Az) q.BD.Az.length,.lst 147 (cells q.BD.Gf) q.BD.Gf.length,
 .lst 39 (cells q.reg.stops) q.reg.stops.length,.int .u64 (q.reg.cp:Int),.int .u64 (q.reg.off:Int),.str (bs q.tgt.name),.lst 131 (cells q.tgt.ranks) q.tgt.ranks.length,.lst 97 (cells q.tgt.Az) q.tgt.Az.length,.lst 147 (cells q.tgt.Gf) q.tgt.Gf.length,
 .int .i64 q.DX.EC,.int .i64 q.DX.FN,.int .i64 q.DX.Dk,.int .i64 q.DX.miss]
instance:Enc RJ:={ default:=⟨default,default,default,default⟩,enc:=RJ.enc,size:=15,len:=fun _=>rfl }
def O9 (o:ET):List Nat:=o.Az.map fun d=>d.stops.length
theorem IV (o:ET):(O9 o).length=o.Az.length:=by simp [O9]
theorem Tt (o:ET) {d:Nat} (h:d<o.Az.length):gi (O9 o) d=(gi o.Az d).stops.length:=by
 simp [O9,gi,List.getElem?_eq_getElem h]
def BG (o:ET):List PN:=LC (O9 o) (O9 o).length
def Hy (o:ET) (p:PN):Prop:=p.d<o.Az.length∧p.s<(gi o.Az p.d).stops.length
theorem dS {o:ET} {p:PN} (h:p∈BG o):Hy o p:=by
 obtain ⟨h1,h2⟩:=fE h
 rw [IV] at h1
 rw [Tt o h1] at h2
 exact ⟨h1,h2⟩
theorem Zy {α:Type} [Inhabited α] {l:List α} {i:Nat} (h:i<l.length):gi l i∈l:=by
 unfold gi;rw [List.getElem?_eq_getElem h];exact List.getElem_mem h
theorem QB {o:ET} {i:Nat} (h:i<(BG o).length):Hy o (gi (BG o) i):=dS (Zy h)
def EY (o:ET) (p:PN):Stp:=gi (gi o.Az p.d).stops p.s
def Nh (o:ET) (p:PN):List UInt8:=Xr o.ranks (EY o p)
def Gl (r:Rgs) (p:PN):Bool:=gi r.stops p.d / 2 ^ p.s % 2==1
def Bc (o:ET) (r:Rgs):List PN:=(BG o).filter (Gl r)
theorem RX {o:ET} {r:Rgs} {p:PN} (h:p∈Bc o r):Hy o p:=dS (List.mem_filter.1 h).1
theorem Zg {rk:List FU} {lo hi:Int} {l:List Stp}:∀ (n k:Nat),l.length-k=n→MZ rk lo hi l k=0→∀ i,k≤i→i<l.length→Jp rk lo hi (gi l i)=0
 |0,k,h,_,i,h1,h2=>by omega
 |n+1,k,h,h0,i,h1,h2=>by
  rw [MZ,if_pos (by omega)] at h0
  split at h0
  ·rename_i h3;exact absurd h0 h3
  rename_i h3
  split at h0
  ·exact absurd h0 (by decide)
  rcases Nat.lt_or_ge k i with h4|h4
  ·exact Zg n (k+1) (by omega) h0 i h4 h2
  ·obtain rfl:k=i:=by omega
   exact Decidable.byContradiction fun h5=>h3 h5
theorem xA {rk:List FU} {d:YH} (h:KX rk d=0):∀ i,i<d.stops.length→Jp rk d.lo d.hi (gi d.stops i)=0:=by
 unfold KX at h
 split at h
 ·rename_i h1;exact absurd h h1
 split at h
 ·exact absurd h (by decide)
 exact fun i hi=>Zg _ 0 rfl h i (Nat.zero_le _) hi
theorem Jl.dvs {o:ET} (h:Jl o):Gi o.ranks o.Az 0=0:=by
 have h0:=h.err
 unfold LK at h0
 split at h0
 ·exact absurd h0 (by decide)
 split at h0
 ·exact absurd h0 (by decide)
 split at h0
 ·rename_i h1;exact absurd h0 h1
 split at h0
 ·exact absurd h0 (by decide)
 split at h0
 ·exact absurd h0 (by decide)
 split at h0
 ·rename_i h1;exact absurd h0 h1
 rename_i d3
 exact Decidable.byContradiction d3
theorem Jl.sto {o:ET} (h:Jl o) {p:PN} (hp:Hy o p):a5y o.ranks (EY o p) :=
 a7s (xA (RU _ 0 rfl h.dvs p.d (Nat.zero_le _) hp.1) p.s hp.2)
theorem PS (o:ET) (ho:Jl o) (p:PN) (hp:Hy o p):AY env 82 [.agg (Enc.enc o),.agg (Enc.enc p)] (.p (.agg (Enc.enc (EY o p)))):=by
 obtain ⟨h1,h2⟩:=hp
 have d1:=ho.Az
 have s1:=ho.stops p.d h1
 refine AY.enter (AB (by decide)) Tryz.func82 rfl (by kernel_rfl) (by simp [Tryz.ntmps82]) ?_
 repeat' (first|apply Ad.AA|apply Ad.BJ|apply Ad.ret|apply Ag.nil|apply Ap.nil|apply Ag.one|(apply Ap.bar;decide +kernel)|apply Ap.quiet|(apply Aa.AP (l:=o.Az) (i:=p.d);rfl;rfl;rfl;exact h1;rfl)|(apply Aa.AP (l:=(gi o.Az p.d).stops) (i:=p.s);rfl;rfl;rfl;exact h2;rfl)|(apply Aa.load;rfl;rfl)|(apply Aa.AU;rfl;rfl;rfl)|(apply Aa.DK;rfl;rfl)|(apply Aa.box;rfl;trivial)|(apply Aa.alloc;rfl)|(apply Aa.Bo;rfl;rfl;rfl;trivial;rfl;rfl;exact Ac rfl;exact le_dec rfl))
 all_goals first|(exfalso;omega)|(refine Done.ret rfl (.refl _) (by first|exact trivial|exact ⟨trivial,trivial,trivial⟩|exact ⟨trivial,trivial,trivial,trivial⟩) Aj.nil (Nat.zero_le _) (Nat.le_refl _) ⟨?_,rfl,rfl⟩;try rfl)
theorem WB (o:ET) (ho:Jl o) (p:PN) (hp:Hy o p):AY env 54 [.agg (Enc.enc o),.agg (Enc.enc p)] (st (Nh o p)):=by
 have hst:=PS o ho p hp
 obtain ⟨g1,g2⟩:=ho.sto hp
 unfold Nh
 generalize EY o p=s at *
 have b1:=ho.sm.ranks
 refine AY.enter (AB (by decide)) Tryz.func54 rfl (by kernel_rfl) (by simp [Tryz.ntmps54]) ?_
 repeat' (first|apply Ad.assoc|apply Ad.AA|apply Ad.Ai|apply Ag.nil|apply Ag.one|(apply Aa.fn;rfl;rfl;exact hst;intro _;rfl)|(apply Aa.VJ;rfl;rfl;rfl;rfl)|(apply Aa.assign;rfl)|(apply Aa.move;rfl)|(apply Aa.load;rfl;rfl)|(apply Aa.BI;rfl;rfl)|(apply Aa.box;rfl;trivial))
 all_goals try (exfalso;omega)
 apply Ad.GZ (s.Ez.length) (fun k=>RH o.ranks s s.Ez.length (s.Ez.length-k)=Xr o.ranks s) [(2,_),(10,_),(11,_)] [(0,_)] (fun k r=>(12,.p (.int .i64 (k:Int)))::r) (fun k r=>r) 2
 ·first|omega|decide
 ·first|omega|decide
 ·repeat (first|exact Ae.nil|(refine Ae.eq rfl ?_ ?_;(first|exact PV.Ak rfl|(simp [PV.under,AQ.under];done)))|refine Ae.cons trivial rfl (.of_eq (Ar (by simp<;>omega))) ?_)
 ·repeat (first|exact Aj.nil|(refine Aj.eq rfl (Ac rfl) ?_ ?_;(first|exact HB.Ak rfl|exact AQ.Ah _ _|(simp [HB.under,AQ.under,PV.under];done)))|(refine Aj.cons (Ac rfl) ?_ rfl ?_ ?_;(first|exact trivial|exact AQ.Ah _ _|(simp [HB.under,AQ.under,PV.under]));(first|exact Bj.refl _|exact Bj.vec (Bh.refl _) (by simp))))
 ·first|(intro _ _;omega)|omega|trivial
 ·intro k hk hi
  obtain ⟨g3,g4⟩:=g2 k hk
  by_cases h0:(gi s.Ez k).draws.length=0
  ·repeat' (first|apply Ad.AA|apply Ad.region|apply Ad.Aq|apply Ad.Ai|apply AO.normal|apply AL.normal|apply Ad.skip|apply Ag.nil|apply Ag.one|(apply Aa.move;rfl)|(apply Aa.Bv;rfl;rfl;omega)|(apply Aa.int;rfl;rfl;rfl)|(apply Aa.AP;rfl;rfl;rfl;omega;rfl)|(apply Aa.load;rfl;rfl)|(apply Aa.BI;rfl;rfl)|(apply Aa.AU;rfl;rfl;rfl)|(apply Aa.alloc;rfl)|(apply Aa.Bo;rfl;rfl;rfl;trivial;rfl;rfl;exact Ac rfl;exact le_dec rfl)|(apply Ad.Af;rfl)|(apply Ad.A8;rfl)|(intro _;try (exfalso;omega)))
   all_goals try (exfalso;omega)
   refine Aw.normal ⟨((VI hk h0).symm.trans hi),by first|omega|decide,?_,?_⟩
   ·repeat (first|exact Ae.nil|refine Ae.same trivial rfl ?_|refine Ae.same (Ac rfl) rfl ?_|refine Ae.same ⟨trivial,Ac rfl,trivial⟩ rfl ?_|refine Ae.same ⟨trivial,Ac rfl,Ac rfl,trivial⟩ rfl ?_|refine Ae.same ⟨trivial,Ac rfl,Ac rfl,Ac rfl,trivial⟩ rfl ?_|refine Ae.same ⟨trivial,trivial⟩ rfl ?_|refine Ae.cons trivial rfl (.of_eq (Ar (by simp<;>omega))) ?_)
   ·repeat (first|exact Aj.nil|(refine Aj.cons (Ac rfl) ?_ rfl ?_ ?_;(first|exact HB.Ak rfl|exact AQ.Ah _ _|(simp [HB.under,AQ.under,PV.under]));(first|exact Bj.refl _|exact Bj.vec (Bh.refl _) (by simp))))
  ·have g5:=g4 0 (by omega)
   obtain ⟨rn,hrn⟩:∃ rn:Nat,(gi (gi s.Ez k).draws 0).rank=rn:=⟨_,(Int.toNat_of_nonneg g5.1).symm⟩
   have h1:Xr o.ranks s=(gi o.ranks rn).EC:=by
    rw [← hi,YM hk (by omega),hrn];rfl
   rw [h1]
   repeat' (first|apply Ad.AA|apply Ad.BJ|apply Ad.Aq|apply Ad.Ai|apply AO.ret|apply AL.ret|apply Aw.ret|apply Ad.ret|apply Ag.nil|apply Ap.nil|apply Ag.one|(apply Ap.bar;decide +kernel)|apply Ap.quiet|(apply Aa.AP (l:=o.ranks) (i:=rn);rfl;(first|exact congrArg (fun a=>some (PV.p (.int .i64 a))) hrn|rfl);rfl;omega;rfl)|(apply Aa.assign;rfl)|(apply Aa.int;rfl;rfl;rfl)|(apply Aa.AP;rfl;rfl;rfl;omega;rfl)|(apply Aa.WY;rfl;rfl;rfl;omega;omega;rfl)|(apply Aa.load;rfl;rfl)|(apply Aa.BI;rfl;rfl)|(apply Aa.AU;rfl;rfl;rfl)|(apply Aa.DK;rfl;rfl)|(apply Aa.alloc;rfl)|(apply Aa.Bo;rfl;rfl;rfl;trivial;rfl;rfl;exact Ac rfl;exact le_dec rfl)|(apply Ad.Af;rfl)|(apply Ad.A8;rfl)|(intro _;try (exfalso;omega)))
   all_goals first|(exfalso;omega)|(refine Done.ret rfl (.refl _) (by first|exact trivial|exact ⟨trivial,trivial,trivial⟩|exact ⟨trivial,trivial,trivial,trivial⟩) Aj.nil (Nat.zero_le _) (Nat.le_refl _) ⟨?_,rfl,rfl⟩;try rfl)
 ·intro hi
  have h1:Xr o.ranks s=[]:=by rw [← hi,Nat.sub_self];rfl
  rw [h1]
  repeat' (first|apply Ad.AA|apply Ad.AZ|apply AO.normal|apply AL.exit|apply Aw.exit|apply Ad.ret|apply Ag.nil|apply Ag.one|(apply Aa.assign;rfl)|(apply Aa.int;rfl;rfl;rfl)|(apply Ad.Af;rfl)|(intro _;try (exfalso;omega)))
  all_goals first|(exfalso;omega)|(refine Done.ret rfl (.refl _) (by first|exact trivial|exact ⟨trivial,trivial,trivial⟩|exact ⟨trivial,trivial,trivial,trivial⟩) Aj.nil (Nat.zero_le _) (Nat.le_refl _) ⟨?_,rfl,rfl⟩;try rfl)
end Go.Proofs.YtdabojnmoejilaaGreatDoor
namespace Go.Vm
open Go.Am
variable {E:Env} {L:Frame} {H:Heap} {nx:Nat} {Q:PV→Heap→Nat→Prop} {w:Bool}
variable {dst:Option Tmp} {ty:TypeId} {pos:String} {af:Array Edge} {gd:Option (Nat×Bool)}
theorem Aa.aA {t:TypeId} {x:Operand} {lo hi:Option Operand} {e:TypeId} {cs:List FV} {b n off len a c sz:Nat} {z:Bool} {inf:TypeInfo} (hx:Bz E.Γ L x=some (.vec b n off len)) (hb:hget H b=some (.vec e cs n z)) (hn:0<n) (ht:E.P.underlying t=some (.slice e)) (hi':E.P.info? e=some inf) (hsz:inf.size=sz)
 (hlo:match lo with|none=>a=0|some o=>∃ k,Bz E.Γ L o=some (.p (.int k (a:Int)))) (hhi:match hi with|none=>c=len|some o=>∃ k,Bz E.Γ L o=some (.p (.int k (c:Int)))) (hac:a≤c) (hcl:c≤len)
 (q:Q (.vec b n (off+a*sz) (c-a)) H nx):Aa E w ⟨dst,.slice t x lo hi none,ty,pos,af,gd⟩ L H nx Q :=
 Aa.quiet q fun m F σ tt h1 h2=>by
  have uO:bnd 0 (lo.map (ev tt))=some a:=by
   cases lo with
   |none=>simp only at hlo;rw [hlo];rfl
   |some o =>
    obtain ⟨k,hk⟩:=hlo
    simp only [Option.map_some,Df h1 h2 hk,bnd]
    rw [if_pos (by omega)];simp
  have sQ:bnd len (hi.map (ev tt))=some c:=by
   cases hi with
   |none=>simp only at hhi;rw [hhi];rfl
   |some o =>
    obtain ⟨k,hk⟩:=hhi
    simp only [Option.map_some,Df h1 h2 hk,bnd]
    rw [if_pos (by omega)];simp
  have hsub:=GY h1 h2 hx hb
  obtain ⟨hlt,hr⟩:=h1.hp b _ hb
  rcases hr with ⟨r1,r2,r3⟩|⟨d,g,vs,r1,r2,r3,r4,r5,r6,r7⟩
  ·omega
  rw [r1] at hsub
  simp only [Eu] at hsub
  refine ⟨.slice (some ⟨d,off+a*sz,none⟩) (c-a) g,fun _=>?_,.vec hlt rfl fun j hj=>?_⟩
  ·simp only [CW,FI,hsub,aslice,Option.isSome_none,Option.map_none,Bool.false_and,Bool.false_eq_true,if_false,ht,hi',uO,sQ,r4,hac,hcl,r2,and_self,if_true,Option.map_some,hsz]
  ·simp only [htag,hb,HB.tag,Option.map_some,Option.some.injEq,Tg.vec.injEq] at hj
   refine ⟨by omega,fun _=>?_⟩
   rw [r1];rfl
theorem Zb {m:Mem} {F:Nat→Prop} {σ:Nat→Value} {b n off c g:Nat} {e:TypeId} {cs fs:List FV} {vs l:List Value} {z:Bool} (h1:Ctx E.Γ m F σ H nx) (hb:hget H b=some (.vec e cs n z)) (hn:0<n) (h4:σ b=.slice (some ⟨c,0,none⟩) n g) (r2:c<m.size) (r3:¬ F c) (r4:m.get c=.cells vs e g false) (r5:DN m F cs vs) (r6:vs.all BR=true)
 (hl:DN m F fs l) (hc:l.all BR=true) :
 Ctx E.Γ (m.put c (.cells (splice vs off l) e g false)) F (upd σ b (σ b)) (hput H b (.vec e (Cc cs off fs) n z)) nx∧Step m F σ H nx (m.put c (.cells (splice vs off l) e g false)) F (upd σ b (σ b)) (hput H b (.vec e (Cc cs off fs) n z)) nx:=by
 have hput':∀ d,c≠d→(m.put c (.cells (splice vs off l) e g false)).get d=m.get d:=fun d hd=>by rw [Mem.get_put,if_neg hd]
 exact h1.change (m':=m.put c (.cells (splice vs off l) e g false)) (x':=.vec e (Cc cs off fs) n z) (s':=σ b) hb (Nat.le_refl _) (fun _=>rfl) (Nat.le_refl _)
  (fun d _ hd=>hput' d fun e=>hd (by rw [h4,e];rfl)) (fun k k1 k2 k3=>by
   have:=k3 c (by rw [h4];rfl)
   simp only [Mem.put];omega) (fun d hd=>.inl hd) (by
   refine .inr ⟨c,g,splice vs off l,h4,r2,r3,by rw [Mem.get_put,if_pos rfl],?_,IQ _ r6 hc,fun h=>by omega⟩
   exact (DN.splice off r5 hl).mono (fun d hd=>⟨hd,hput' d fun e=>r3 (e▸hd)⟩))
def SlT (Γ:Nat→Option (List Value×TypeId)) (L:Frame) (H:Heap) (nx:Nat) (x:Operand) (sz n:Nat) (xs:List FV) (k:Nat):Prop :=
 ∀ m F σ t,Ctx Γ m F σ H nx→RL m F (htag H) σ nx L t→lenOf (ev t x)=some n∧∃ l,Ce m sz k (ev t x)=some l∧DN m F xs l∧l.all BR=true
theorem SlT.lst {Γ:Nat→Option (List Value×TypeId)} {x:Operand} {e:TypeId} {sz n k:Nat} {xs ys:List FV} (h:Bz Γ L x=some (.p (.lst e xs n))) (hl:xs.length=n*sz) (hk:k≤n) (hy:ys=xs.take (k*sz)):SlT Γ L H nx x sz n ys k:=fun m F σ t h1 h2=>by
 subst hy
 have:=BX h1 h2 h
 generalize ev t x=v at this
 cases this with
 |p h =>
  cases h with
  |nil=>obtain rfl:k=0:=by omega
        exact ⟨rfl,[],rfl,by rw [Nat.zero_mul,List.take_zero];exact .nil,rfl⟩
  |room=>obtain rfl:k=0:=by omega
         exact ⟨rfl,[],rfl,by rw [Nat.zero_mul,List.take_zero];exact .nil,rfl⟩
  |lst hF hm hw hr hc =>
   rename_i b o g vs ws ro
   refine ⟨rfl,ws.take (k*sz),?_,DN.take _ hr,I9 hc _⟩
   have h3:=Wv (k:=k*sz) hw
   rw [hl,Nat.min_eq_left (Nat.mul_le_mul_right sz hk)] at h3
   simp only [Ce,if_pos hk,Mem.DZ,hm]
   simp only [Ju,Option.getD_some,if_true]
   exact h3
theorem SlT.vec {Γ:Nat→Option (List Value×TypeId)} {x:Operand} {b n off len sz k:Nat} {e:TypeId} {cs ys:List FV} {z:Bool} (h:Bz Γ L x=some (.vec b n off len)) (hb:hget H b=some (.vec e cs n z)) (hn:0<n) (hl:off+len*sz≤cs.length) (hk:k≤len) (hy:ys=(cs.drop off).take (k*sz)) :
 SlT Γ L H nx x sz len ys k:=fun m F σ t h1 h2=>by
 subst hy
 have hsub:=GY h1 h2 h hb
 obtain ⟨_,hr⟩:=h1.hp b _ hb
 rcases hr with ⟨r1,r2,r3⟩|⟨c,g,vs,r1,r2,r3,r4,r5,r6,r7⟩
 ·omega
 ·rw [r1] at hsub
  simp only [Eu] at hsub
  rw [hsub]
  have hlen:=r5.length
  have h0:=Nat.mul_le_mul_right sz hk
  have hle:k*sz≤(vs.drop off).length:=by rw [List.length_drop];omega
  refine ⟨rfl,(vs.drop off).take (k*sz),?_,DN.take _ (DN.drop off r5),I9 (Ii r6 _) _⟩
  simp only [Ce,if_pos hk,Mem.DZ,r4]
  simp only [Ju,Option.getD_some,if_true,takeN,if_pos hle]
theorem Aa.copy {d x:Operand} {dT xT e:TypeId} {i:TypeInfo} {b n off len k N:Nat} {cs xs:List FV} {z:Bool} (hd:Bz E.Γ L d=some (.vec b n off len)) (hb:hget H b=some (.vec e cs n z)) (hn:0<n)
 (hdT:E.P.underlying dT=some (.slice e)) (hi:E.P.info? e=some i) (hsz:0<i.size) (hx:SlT E.Γ L H nx x i.size N xs k) (hk:k=min N len) (h0:0<k) (hxs:xs.length=k*i.size) (hl:off+k*i.size≤cs.length) (q:Q (.p (.int .i64 (k:Int))) (hput H b (.vec e (Cc cs off xs) n z)) nx) :
 Aa E true ⟨dst,.call { callee:=.builtin .copy,args:=#[d,x],argTypes:=#[dT,xT] },ty,pos,af,gd⟩ L H nx Q:=by
 intro m F σ t h1 h2
 have hsub:=GY h1 h2 hd hb
 obtain ⟨hx1,l,hx2,hx3,hx4⟩:=hx m F σ t h1 h2
 obtain ⟨hlt,hr⟩:=h1.hp b _ hb
 rcases hr with ⟨r1,r2,r3⟩|⟨c,g,vs,r1,r2,r3,r4,r5,r6,r7⟩
 ·omega
 rw [r1] at hsub
 simp only [Eu] at hsub
 have hlen:=hx3.length
 have hlen2:=r5.length
 obtain ⟨d1,d2⟩:=Zb (E:=E) (off:=off) h1 hb hn r1 r2 r3 r4 r5 r6 hx3 hx4
 refine Ir.op (v:=.int .i64 (k:Int)) (m':=m.put c (.cells (splice vs off l) e g false)) (fun _=>?_) ⟨_,_,_,F,_,q,d1,.p (.int _ _),d2,fun h=>by cases h⟩
 have hk2:(k:Nat)=Nat.min N len:=hk
 have hp:=Nat.mul_pos h0 hsz
 simp only [CW,FI,Yi,List.map_toArray,List.map_cons,List.map_nil,List.getElem?_toArray,List.getElem?_cons_zero,List.getElem?_cons_succ,hsub,hdT,hx1,hi]
 rw [← hk2,if_neg (by omega),hx2]
 simp only [Fg,r4,Ju,Option.getD_some,beq_self_eq_true,Bool.true_and]
 rw [if_pos (by simp only [Bool.and_eq_true,decide_eq_true_eq];exact ⟨⟨by rw [← hlen,hxs,← hlen2];exact ⟨trivial,hl⟩,by rw [← hlen,hxs];exact hp⟩,hx4⟩)]
 rfl
theorem Aa.clear {d:Operand} {dT e:TypeId} {i:TypeInfo} {b n off len:Nat} {cs:List FV} {z:Bool} {zs:List Value} (hd:Bz E.Γ L d=some (.vec b n off len)) (hb:hget H b=some (.vec e cs n z)) (hn:0<n) (h0:0<len)
 (hdT:E.P.underlying dT=some (.slice e)) (hi:E.P.info? e=some i) (hz:CQ E.P e=some zs) (hzl:zs.length=i.size∧0<i.size) (hl:off+len*i.size≤cs.length) (q:Q (.EX []) (hput H b (.vec e (Cc cs off ((Bg zs len).map Gj)) n z)) nx) :
 Aa E true ⟨none,.call { callee:=.builtin .clear,args:=#[d],argTypes:=#[dT] },ty,pos,af,gd⟩ L H nx Q:=by
 intro m F σ t h1 h2
 have hsub:=GY h1 h2 hd hb
 obtain ⟨hlt,hr⟩:=h1.hp b _ hb
 rcases hr with ⟨r1,r2,r3⟩|⟨c,g,vs,r1,r2,r3,r4,r5,r6,r7⟩
 ·omega
 rw [r1] at hsub
 simp only [Eu] at hsub
 have hpl:zs.all Am.plainCell=true:=by
  obtain ⟨_,zv,_,_,_,h⟩:=BQ hz
  exact h
 have hx3:DN m F ((Bg zs len).map Gj) (Bg zs len):=Hz (Ko hpl len)
 have hx4:(Bg zs len).all BR=true:=Du (Ko hpl len)
 have hlen2:=r5.length
 have hrl:=Em zs len
 rw [hzl.1] at hrl
 obtain ⟨d1,d2⟩:=Zb (E:=E) (off:=off) h1 hb hn r1 r2 r3 r4 r5 r6 hx3 hx4
 refine Ir.op (v:=.tuple #[]) (m':=m.put c (.cells (splice vs off (Bg zs len)) e g false)) (fun _=>?_) ⟨_,_,_,F,_,q,d1,.EX .nil,d2,fun h=>by cases h⟩
 have hp:=Nat.mul_pos h0 hzl.2
 simp only [CW,FI,SH,List.map_toArray,List.map_cons,List.map_nil,List.getElem?_toArray,List.getElem?_cons_zero,hsub,hdT,hi,hz]
 rw [if_neg (by omega),if_pos hzl]
 simp only [Fg,r4,Ju,Option.getD_some,beq_self_eq_true,Bool.true_and]
 rw [if_pos (by simp only [Bool.and_eq_true,decide_eq_true_eq];exact ⟨⟨by rw [hrl,← hlen2];exact ⟨trivial,hl⟩,by rw [hrl];exact hp⟩,hx4⟩)]
 rfl
def OM:Code→Option Nat
 | .region n _ _=>some n
 | .seq a b=>match OM a with
  |some n=>some n
  |none=>OM b
 | .block _ b=>OM b
 | .loop b=>OM b
 | .scope b=>OM b
 |_=>none
def KP (r:Nat):Code→Option Code
 | .loop b=>match OM b with
  |some n=>match Nat.beq n r with
   |true=>some (.loop b)
   |false=>KP r b
  |none=>KP r b
 | .seq a b=>match KP r a with
  |some c=>some c
  |none=>KP r b
 | .cond _ a b=>match KP r a with
  |some c=>some c
  |none=>KP r b
 | .block _ b=>KP r b
 | .scope b=>KP r b
 | .rangeFunc _ _ _ b=>KP r b
 |_=>none
def aH (fn:Func) (r:Nat):Code:=match fn.body with
 |some c=>match KP r c with
  |some c=>c
  |none=>.skip
 |none=>.skip
theorem Ad.blk {bn:Nat} {Q:CG→Frame→Heap→Nat→Prop} {c:Code} {Li Lo:Frame} {Hi Ho:Heap} {DR:Nat} {e0:CG} (h:Ad E bn c Li Hi DR (fun e L' H' nx'=>e=e0∧XE L' H' nx' Lo Ho DR)) (hb:bn≤DR) (hn:DR≤nx) (h1:Ae DR Li L) (h2:Aj DR Hi H) (q:Q e0 Lo Ho DR):Ad E bn c L H nx Q:=by
 refine Ad.weaken hb ⟨hn,h1,h2⟩ ?_
 intro B hB m F σ t h1 h2 h3
 refine (h B hB m F σ t h1 h2 h3).mono ?_
 rintro e s ⟨L',H',nx',F',σ',⟨rfl,hcov⟩,c1,c2,c3⟩
 exact ⟨Lo,Ho,DR,F',σ',q,hcov.ctx c1,hcov.rl c2,hcov.step (by omega) c3⟩
theorem Vz {α:Type}:∀ (r cs:List α) (o:Nat),o+r.length≤cs.length→Cc cs o r=cs.take o++r++cs.drop (o+r.length)
 |[],cs,o,h=>by simp [Cc]
 |a::r,cs,o,h=>by
  simp only [List.length_cons] at h
  have ih:=Vz r (cs.set o a) (o+1) (by simp;omega)
  simp only [Cc]
  rw [ih]
  have e1:(cs.set o a).take (o+1)=cs.take o++[a]:=by
   rw [List.take_succ_eq_append_getElem (by simp;omega)]
   rw [List.take_set_of_le (by omega)]
   simp
  have e2:(cs.set o a).drop (o+1+r.length)=cs.drop (o+(r.length+1)):=by
   rw [List.drop_set_of_lt (by omega)]
   congr 1
   omega
  rw [e1,e2]
  simp [Nat.add_assoc]
theorem QU {α:Type} [Enc α] (l r:List α) (i:Nat) (h:i+r.length≤l.length):Cc (cells l) (i*Enc.size α) (cells r)=cells (l.take i++r++l.drop (i+r.length)):=by
 rw [Vz _ _ _ (by rw [BP,BP,← Nat.add_mul];exact Nat.mul_le_mul_right _ h),BP,← Nat.add_mul,Kq,cells_drop',← Fz,← Fz]
end Go.Vm
namespace Go.Proofs.YtdabojnmoejilaaGreatDoor
open Go Go.Am Go.Vm Go.Tra
attribute [local irreducible] Aa Ag Ap Ad BA AY CJ AO AL Aw Vm.Done Dc Bq
attribute [local irreducible] D8 DT Jp KX TG BZ
theorem vM {m:Mem} {F:Nat→Prop} {l:List YH} {vs ws:List Value} {off:Nat} (hw:takeN (cells l).length (vs.drop off)=some ws) (hr:DN m F (cells l) ws) (hs:∀ d,d<l.length→(gi l d).stops.length<1000000):∀ n,n≤l.length→UC vs off n=some ((l.take n).map fun d=>d.stops.length)
 |0,_=>rfl
 |n+1,hn=>by
  have ih:=vM hw hr hs n (by omega)
  have hd:=DN.drop (n*Enc.size YH) hr
  rw [ML l n (by omega)] at hd
  have hlen:=hr.length
  have e5:Enc.size YH=5:=rfl
  rw [e5] at hd
  have hws:∀ j,j<5→vs[off+n*5+j]?=(ws.drop (n*5))[j]?:=fun j hj=>by
   unfold takeN at hw
   split at hw
   case isFalse=>cases hw
   cases hw
   rw [List.getElem?_drop,List.getElem?_take,if_pos (by rw [BP,e5];omega),List.getElem?_drop]
   congr 1;omega
  generalize ws.drop (n*5)=us at hd hws
  have hn9:=hs n (by omega)
  have ee:Enc.enc (gi l n)=[.str (bs (gi l n).name),.bool (gi l n).Dk,.int .i64 (gi l n).lo,.int .i64 (gi l n).hi,.lst 122 (cells (gi l n).stops) (gi l n).stops.length]:=rfl
  rw [ee] at hd
  cases hd with|cons a0 t =>
  cases t with|cons a1 t =>
  cases t with|cons a2 t =>
  cases t with|cons a3 t =>
  cases t with|cons a4 t =>
  cases a0;cases a1;cases a2;cases a3
  have h0:=hws 0 (by omega)
  have h1:=hws 1 (by omega)
  have h2:=hws 2 (by omega)
  have h3:=hws 3 (by omega)
  have h4:=hws 4 (by omega)
  rw [Nat.add_zero] at h0
  simp only [List.getElem?_cons_zero,List.getElem?_cons_succ] at h0 h1 h2 h3 h4
  unfold UC
  rw [ih,Dz (by omega),List.map_append]
  simp only [h0,h1,h2,h3,h4]
  generalize hq:(gi l n).stops.length=q at a4 hn9
  generalize cells (gi l n).stops=cc at a4
  cases a4<;>simp [hn9,hq]
theorem VE {o:ET} (ho:Jl o) {e:TypeId}:a0h env 81 Tryz.f81 (Enc.enc o) e (Fv (O9 o)):=by
 intro Fo hFo m F c vs hc hr hF
 have hFo:iP 81=some Fo:=hFo
 rw [UJ] at hFo
 cases hFo
 have d1:=ho.Az
 have ee:Enc.enc o=[.str (bs o.name),.lst 131 (cells o.ranks) o.ranks.length,.lst 97 (cells o.Az) o.Az.length,.lst 147 (cells o.Gf) o.Gf.length]:=rfl
 rw [ee] at hr
 cases hr with|cons a0 t =>
 cases t with|cons a1 t =>
 cases t with|cons a2 t =>
 cases t with|cons a3 t =>
 cases t
 rename_i v0 v1 v2 v3
 have hdl:(cells o.Az).length=o.Az.length*5:=BP _
 have hsl:∀ d,d<o.Az.length→(gi o.Az d).stops.length<1000000:=fun d hd=>by have:=ho.stops d hd;omega
 generalize hn:o.Az.length=n at a2
 generalize hcs:cells o.Az=cs at a2
 cases a2 with
 |nil=>omega
 |room=>omega
 |lst hF2 hm2 hw hr2 hc2 =>
  rename_i b off g us ws ro
  subst hn;subst hcs
  refine ⟨PU (.slice (some ⟨b,off,none⟩) o.Az.length g) (O9 o),fun m' F' σ' H' nx' hsame gq=>⟨m',?_⟩⟩
  rw [Tryz.ntmps81]
  refine tX (kr:=(PU (.slice (some ⟨b,off,none⟩) o.Az.length g) (O9 o),Fv (O9 o))) (yX gq) ?_
  have q1:=(hsame c hF).trans hc
  have q2:=(hsame b hF2).trans hm2
  have q3:=vM hw hr2 hsl _ (Nat.le_refl _)
  rw [List.take_of_length_le (Nat.le_refl _)] at q3
  unfold Ry
  simp only [q1,q2]
  rw [if_pos ⟨by omega,by omega,trivial⟩,q3]
  rfl
theorem YE:env.O 81=some (Ug (BM Tryz.prog 8 EJ) (CX Tryz.prog 8 EJ) 28 Ry):=UJ
theorem Rk (o:ET):(BG o).length=KZ (O9 o) (O9 o).length:=rfl
theorem Y4 (o:ET):Fv (O9 o)=(List.range (BG o).length).map fun k=>VL (gi (BG o) k):=rfl
theorem L6 {ns:List Nat} {K:Nat} (h:∀ d,d<ns.length→gi ns d≤K):∀ n,n≤ns.length→KZ ns n≤n*K
 |0,_=>Nat.zero_le _
 |n+1,hn=>by
  have ih:=L6 h n (by omega)
  have:=h n (by omega)
  rw [JA,Nat.succ_mul]
  omega
theorem EM {o:ET} (ho:Jl o):(BG o).length≤480:=by
 have h:=L6 (ns:=O9 o) (K:=60) (fun d hd=>by rw [IV] at hd;rw [Tt o hd];exact ho.stops d hd) (O9 o).length (Nat.le_refl _)
 rw [Rk]
 have:=ho.Az
 rw [IV] at h ⊢
 omega
theorem Vq {L:Vm.Frame} {H:Vm.Heap} {nx:Nat} {Q:PV→Vm.Heap→Nat→Prop} {dst:Option Tmp} {ty:TypeId} {pos:String} {af:Array Edge} {gd:Option (Nat×Bool)} {fo:Operand} {args:Array Operand} {aT:Array TypeId} {fs cs xs:List PV} {c:Code}
 (hf:Bz env.Γ L fo=some (.clo 53 fs cs)) (ha:evs env.Γ L args.toList=some xs) (hb:Tryz.f53.body=some c) (hn:(fs++xs++cs).length≤Tryz.f53.ntmps)
 (h:Ad env nx c (CP 0 (fs++xs++cs)) H nx (Bq env.P Tryz.f53.results.toList Q)):Aa env true ⟨dst,.call { callee:=.value fo,args:=args,argTypes:=aT },ty,pos,af,gd⟩ L H nx Q:=by
 have h0:(match Tryz.f53.body with|some c=>H6 env.G Tryz.f53 c|none=>false)=true:=by kernel_rfl
 rw [hb] at h0
 exact Aa.inline rfl hf ha (AB (by decide)) Tryz.func53 hb h0 hn h
theorem zC {L:Vm.Frame} {H:Vm.Heap} {nx:Nat} {Q:PV→Vm.Heap→Nat→Prop} {dst:Option Tmp} {ty:TypeId} {pos:String} {af:Array Edge} {gd:Option (Nat×Bool)} {fo:Operand} {args:Array Operand} {aT:Array TypeId} {fs cs xs:List PV} {c:Code}
 (hf:Bz env.Γ L fo=some (.clo 80 fs cs)) (ha:evs env.Γ L args.toList=some xs) (hb:Tryz.f80.body=some c) (hn:(fs++xs++cs).length≤Tryz.f80.ntmps)
 (h:Ad env nx c (CP 0 (fs++xs++cs)) H nx (Bq env.P Tryz.f80.results.toList Q)):Aa env true ⟨dst,.call { callee:=.value fo,args:=args,argTypes:=aT },ty,pos,af,gd⟩ L H nx Q:=by
 have h0:(match Tryz.f80.body with|some c=>H6 env.G Tryz.f80 c|none=>false)=true:=by kernel_rfl
 rw [hb] at h0
 exact Aa.inline rfl hf ha (AB (by decide)) Tryz.func80 hb h0 hn h
def XJ (o:ET) (k:Nat):List PN:=(BG o).take k
theorem vH (o:ET) {k:Nat} (h:k≤(BG o).length):(XJ o k).length=k:=by unfold XJ;rw [List.length_take];omega
theorem rO (o:ET) {k:Nat} (h:k<(BG o).length):XJ o (k+1)=XJ o k++[gi (BG o) k]:=Dz h
theorem sK (o:ET):XJ o (BG o).length=BG o:=List.take_of_length_le (Nat.le_refl _)
theorem Pv (o:ET) (ho:Jl o):BA env 52 [.clo 81 [] [.ref 0 0]] [(0,.box 37 ((Enc.enc o).map .p))] 1
 fun r H' nx'=>r=.vec 2 (BG o).length 0 (BG o).length∧H'=[(2,.vec 85 (cells (BG o)) (BG o).length true)]∧nx'=3:=by
 have hb:=EM ho
 refine BA.enter (AB (by decide)) Tryz.func52 rfl (by kernel_rfl) (by simp [Tryz.ntmps52]) ?_
 repeat' (first|apply Ad.assoc|apply Ad.AA|apply Ad.Ai|apply Ag.nil|apply Ag.one|(apply zC;rfl;rfl;rfl;exact le_dec rfl)|(apply Aa.assign;rfl)|(apply Aa.move;rfl)|(apply Aa.box;rfl;trivial))
 all_goals try (exfalso;omega)
 refine Ad.ghost (Ba.EG 1 0 85 rfl rfl) ?_
 refine Ad.WQ (BG o).length (fun k=>[.agg (Enc.enc (gi (BG o) k))]) (fun k=>VL (gi (BG o) k)) [(2,.ref 1 0)]
  (fun k=>[(1,.box 59 [.vec 2 (XJ o k).length 0 (XJ o k).length]),(2,.vec 85 (cells (XJ o k)) (XJ o k).length true)]) 3 (fun _=>True)
  rfl rfl Tryz.func81 rfl YE (Y4 o) (fun _ _=>rfl) (fun _ _=>rfl) (fun k _ m F=>.cons (.agg (.cons (.int _ _) (.cons (.int _ _) .nil)) rfl) .nil) (by omega) ⟨by omega,?_,?_⟩ ?_ (VE ho) trivial ?_ ?_
 ·repeat (first|exact Ae.nil|refine Ae.same trivial rfl ?_|refine Ae.same (Ac rfl) rfl ?_|refine Ae.same ⟨trivial,Ac rfl,trivial⟩ rfl ?_|refine Ae.same ⟨trivial,Ac rfl,Ac rfl,trivial⟩ rfl ?_|refine Ae.same ⟨trivial,Ac rfl,Ac rfl,Ac rfl,trivial⟩ rfl ?_|refine Ae.same ⟨trivial,trivial⟩ rfl ?_|refine Ae.cons trivial rfl (.of_eq (Ar (by simp<;>omega))) ?_)
 ·repeat (first|exact Aj.nil|(refine Aj.cons (Ac rfl) ?_ rfl ?_ ?_;(first|exact HB.Ak rfl|exact AQ.Ah _ _|(simp [HB.under,AQ.under,PV.under]));(first|exact Bj.refl _|exact Bj.vec (Bh.refl _) (by simp))))
 ·repeat (first|exact Ae.nil|refine Ae.same trivial rfl ?_|refine Ae.same (Ac rfl) rfl ?_|refine Ae.same ⟨trivial,Ac rfl,trivial⟩ rfl ?_|refine Ae.same ⟨trivial,Ac rfl,Ac rfl,trivial⟩ rfl ?_|refine Ae.same ⟨trivial,Ac rfl,Ac rfl,Ac rfl,trivial⟩ rfl ?_|refine Ae.same ⟨trivial,trivial⟩ rfl ?_|refine Ae.cons trivial rfl (.of_eq (Ar (by simp<;>omega))) ?_)
 ·intro k hk _
  have e1:=rO o hk
  have e2:(XJ o (k+1)).length=(XJ o k).length+1:=by rw [e1];simp
  have e3:=vH o (Nat.le_of_lt hk)
  repeat' (first|apply Ad.region|apply Ag.nil|apply Ag.one|(apply Aa.alloc;rfl)|(apply Aa.Bo;rfl;rfl;rfl;trivial;rfl;rfl;exact Ac rfl;exact le_dec rfl))
  refine ⟨rfl,?_⟩
  repeat' (first|apply Ad.region|apply AL.normal|apply Ad.II|apply Ag.nil|apply Ag.one|(apply Aa.Dl (a:=gi (BG o) k);rfl;rfl;rfl;rfl;rfl;rfl;rfl;rfl;(intro _ h;cases h);rfl;rfl;rfl;decide;decide;(first|omega|(simp only [List.length_take,List.length_drop,List.length_append,List.length_singleton,List.length_cons,List.length_nil]<;>omega)))|(apply Aa.load;rfl;rfl)|(apply Aa.Bo;rfl;rfl;rfl;trivial;rfl;rfl;exact Ac rfl;exact le_dec rfl)|(apply Aa.buildSlice;rfl;rfl;rfl;decide;rfl;rfl;rfl))
  all_goals try (exfalso;omega)
  refine ⟨trivial,by omega,?_⟩
  rw [e2,e1]
  repeat (first|exact Aj.nil|(refine Aj.cons (Ac rfl) ?_ rfl ?_ ?_;(first|exact HB.Ak rfl|exact AQ.Ah _ _|(simp [HB.under,AQ.under,PV.under]));(first|exact Bj.refl _|exact Bj.vec (Bh.refl _) (by simp))))
 ·intro _
  rw [sK]
  repeat' (first|apply Ad.AA|apply AO.normal|(apply Bq.ret;rfl)|apply AL.normal|apply Ad.ret|apply Ag.nil|apply Ag.one|(apply Aa.assign;rfl)|(apply Aa.load;rfl;rfl))
  all_goals (refine Done.ret (H0:=[(2,.vec 85 (cells (BG o)) (BG o).length true)]) (DR:=3) rfl (.refl _) (Ac rfl) ?_ (by omega) (by omega) ⟨rfl,rfl,rfl⟩)
  repeat (first|exact Aj.nil|(refine Aj.cons (Ac rfl) ?_ rfl ?_ ?_;(first|exact HB.Ak rfl|exact AQ.Ah _ _|(simp [HB.under,AQ.under,PV.under]));(first|exact Bj.refl _|exact Bj.vec (Bh.refl _) (by simp))))
theorem Ub (r:Rgs) (hr:r.Ok) (p:PN) (h1:p.d<r.stops.length) (h2:p.s<64):ig env 79 ([.p (.agg (Enc.enc p))]++[.ref 0 0]) [(0,.box 41 ((Enc.enc r).map .p))] 1 (.bool (!Gl r p)):=by
 have b1:=hr.stops p.d h1
 have hd:Gl r p=(gi r.stops p.d / 2 ^ p.s % 2==1):=rfl
 rw [hd]
 have hm:=Nat.mod_lt (gi r.stops p.d / 2 ^ p.s) (show 0<2 by decide)
 have hq:gi r.stops p.d / 2 ^ p.s<18446744073709551616:=Nat.lt_of_le_of_lt (Nat.div_le_self _ _) b1
 have hv:(decide ((((gi r.stops p.d / 2 ^ p.s % 2:Nat)):Int)=0))=!(gi r.stops p.d / 2 ^ p.s % 2==1):=by
  have:gi r.stops p.d / 2 ^ p.s % 2=0∨gi r.stops p.d / 2 ^ p.s % 2=1:=by omega
  rcases this with h|h<;>rw [h]<;>rfl
 refine ig.enter (AB (by decide)) Tryz.func79 rfl (by kernel_rfl) (by simp [Tryz.ntmps79]) ?_
 repeat' (first|apply Ad.AA|apply Ad.BJ|apply Ad.ret|apply Ag.nil|apply Ap.nil|apply Ag.one|(apply Ap.bar;decide +kernel)|apply Ap.quiet|(apply Aa.AP (l:=r.stops) (i:=p.d);rfl;rfl;rfl;exact h1;rfl)|(apply Aa.assign;rfl)|(apply Aa.wG;rfl;rfl;omega)|(apply Aa.int;rfl;rfl;rfl)|(apply Aa.load;rfl;rfl)|(apply Aa.AU;rfl;rfl;rfl)|(apply Aa.box;rfl;trivial)|(apply Aa.RI;rfl;rfl;(simp only [IntKind.bits];omega)))
 all_goals try (exfalso;omega)
 rw [← hv]
 all_goals (refine Done.ret rfl (.refl _) trivial ?_ (by omega) (Nat.le_refl _) ⟨?_,rfl,rfl⟩;repeat (first|exact Aj.nil|(refine Aj.cons (Ac rfl) ?_ rfl ?_ ?_;(first|exact HB.Ak rfl|exact AQ.Ah _ _|(simp [HB.under,AQ.under,PV.under]));(first|exact Bj.refl _|exact Bj.vec (Bh.refl _) (by simp))));try rfl)
theorem yY {L:Vm.Frame} {H:Vm.Heap} {nx:Nat} {Q:PV→Vm.Heap→Nat→Prop} {dst:Option Tmp} {ty:TypeId} {pos:String} {af:Array Edge} {gd:Option (Nat×Bool)} {fo:Operand} {args:Array Operand} {aT:Array TypeId} {fs cs xs:List PV} {c:Code}
 (hf:Bz env.Γ L fo=some (.clo 78 fs cs)) (ha:evs env.Γ L args.toList=some xs) (hb:Tryz.f78.body=some c) (hn:(fs++xs++cs).length≤Tryz.f78.ntmps)
 (h:Ad env nx c (CP 0 (fs++xs++cs)) H nx (Bq env.P Tryz.f78.results.toList Q)):Aa env true ⟨dst,.call { callee:=.value fo,args:=args,argTypes:=aT },ty,pos,af,gd⟩ L H nx Q:=by
 have h0:(match Tryz.f78.body with|some c=>H6 env.G Tryz.f78 c|none=>false)=true:=by kernel_rfl
 rw [hb] at h0
 exact Aa.inline rfl hf ha (AB (by decide)) Tryz.func78 hb h0 hn h
theorem yC {L:Vm.Frame} {H:Vm.Heap} {nx:Nat} {Q:PV→Vm.Heap→Nat→Prop} {dst:Option Tmp} {ty:TypeId} {pos:String} {af:Array Edge} {gd:Option (Nat×Bool)} {fo:Operand} {args:Array Operand} {aT:Array TypeId} {fs cs xs:List PV} {c:Code}
 (hf:Bz env.Γ L fo=some (.clo 105 fs cs)) (ha:evs env.Γ L args.toList=some xs) (hb:Tryz.f105.body=some c) (hn:(fs++xs++cs).length≤Tryz.f105.ntmps)
 (h:Ad env nx c (CP 0 (fs++xs++cs)) H nx (Bq env.P Tryz.f105.results.toList Q)):Aa env true ⟨dst,.call { callee:=.value fo,args:=args,argTypes:=aT },ty,pos,af,gd⟩ L H nx Q:=by
 have h0:(match Tryz.f105.body with|some c=>H6 env.G Tryz.f105 c|none=>false)=true:=by kernel_rfl
 rw [hb] at h0
 exact Aa.inline rfl hf ha (AB (by decide)) Tryz.func105 hb h0 hn h
theorem Q9 {α:Type}:∀ (r cs:List α) (o:Nat) {k:Nat},k≤o→(Cc cs o r).take k=cs.take k
 |[],cs,o,k,h=>by simp [Cc]
 |a::r,cs,o,k,h=>by
  simp only [Cc]
  rw [Q9 r (cs.set o a) (o+1) (by omega),List.take_set_of_le h]
theorem filter_all {α:Type} {P:α→Bool} {l:List α} [Inhabited α] (h:∀ i,i<l.length→P (gi l i)=true):l.filter P=l:=by
 rw [List.filter_eq_self]
 intro a ha
 obtain ⟨i,hi,rfl⟩:=List.getElem_of_mem ha
 have:=h i hi
 rwa [show gi l i=l[i] by unfold gi;rw [List.getElem?_eq_getElem hi];rfl] at this
structure QZ {α:Type} (P:α→Bool) (l zs:List α) (i j:Nat):Prop where
 len:zs.length=l.length
 ij:i<j
 jn:j≤l.length
 keep:zs.take i=(l.take j).filter P
 rest:zs.drop j=l.drop j
theorem QZ.at_ {α:Type} [Inhabited α] {P:α→Bool} {l zs:List α} {i j:Nat} (h:QZ P l zs i j) (hj:j<l.length):gi zs j=gi l j:=by
 have:=congrArg (fun x=>gi x 0) h.rest
 simp only [gi,List.getElem?_drop,Nat.add_zero] at this
 exact this
theorem QZ.skip {α:Type} [Inhabited α] {P:α→Bool} {l zs:List α} {i j:Nat} (h:QZ P l zs i j) (hj:j<l.length) (hp:P (gi l j)=false):QZ P l zs i (j+1):=by
 refine ⟨h.len,by have:=h.ij;omega,hj,?_,?_⟩
 ·rw [Dz hj,List.filter_append,h.keep]
  simp [hp]
 ·have:=congrArg (List.drop 1) h.rest
  simpa [List.drop_drop] using this
theorem QZ.put {α:Type} [Inhabited α] {P:α→Bool} {l zs:List α} {i j:Nat} (h:QZ P l zs i j) (hj:j<l.length) (hp:P (gi l j)=true):QZ P l (zs.set i (gi l j)) (i+1) (j+1):=by
 have h1:=h.ij
 have h2:=h.len
 refine ⟨by rw [List.length_set,h2],by omega,hj,?_,?_⟩
 ·rw [Dz hj,List.filter_append,← h.keep,Dz (by rw [List.length_set];omega),List.take_set_of_le (Nat.le_refl _)]
  have e:gi (zs.set i (gi l j)) i=gi l j:=by rw [V3,if_pos ⟨rfl,by omega⟩]
  rw [e]
  simp [hp]
 ·rw [List.drop_set_of_lt (by omega)]
  have:=congrArg (List.drop 1) h.rest
  simpa [List.drop_drop] using this
theorem QZ.start {α:Type} [Inhabited α] {P:α→Bool} {l:List α} {k:Nat} (hk:k<l.length) (hp:P (gi l k)=false) (h:∀ i,i<k→P (gi l i)=true):QZ P l l k (k+1):=by
 refine ⟨rfl,by omega,hk,?_,rfl⟩
 rw [Dz hk,List.filter_append]
 have:(l.take k).filter P=l.take k:=filter_all fun i hi=>by
  rw [List.length_take] at hi
  have:=h i (by omega)
  rwa [show gi (l.take k) i=gi l i from by unfold gi;rw [List.getElem?_take,if_pos (by omega)]]
 rw [this]
 simp [hp]
theorem QZ.fin {α:Type} [Inhabited α] {P:α→Bool} {l zs:List α} {i:Nat} (h:QZ P l zs i l.length):zs.take i=l.filter P∧i=(l.filter P).length:=by
 have h1:=h.keep
 rw [List.take_of_length_le (Nat.le_refl _)] at h1
 refine ⟨h1,?_⟩
 rw [← h1,List.length_take,h.len]
 have:=h.ij
 omega
theorem UQ (o:ET) (ho:Jl o) (r:Rgs) (hr:r.Ok) (hl:r.stops.length=o.Az.length) :
 AY env 51 [.agg (Enc.enc o),.agg (Enc.enc r)] (.p (.lst 85 (cells (Bc o r)) (Bc o r).length)):=by
 have hb:=EM ho
 have hcl:=Pv o ho
 have hok:∀ i,i<(BG o).length→(gi (BG o) i).d<r.stops.length∧(gi (BG o) i).s<64:=fun i hi=>by
  obtain ⟨h1,h2⟩:=QB hi
  have:=ho.stops _ h1
  omega
 unfold Bc
 generalize BG o=l at *
 refine AY.enter (AB (by decide)) Tryz.func51 rfl (by kernel_rfl) (by simp [Tryz.ntmps51]) ?_
 repeat' (first|apply Ad.assoc|apply Ad.AA|apply Ad.Ai|(apply Bq.ret;rfl)|apply Ad.ret|apply Ag.nil|apply Ag.one|(apply Vq;rfl;rfl;rfl;exact le_dec rfl)|(apply Aa.WU [2] (hcl);rfl;rfl;exact .of_eq rfl;exact AQ.Ak rfl;exact EF rfl;(repeat (first|exact trivial|refine ⟨⟨_,rfl,.of_eq rfl⟩,?_⟩));decide;(intro _ hb;first|(simp at hb;done)|(simp at hb ⊢<;>omega));(rintro _ _ _ ⟨rfl,rfl,rfl⟩))|(apply Aa.makeFunc;rfl;rfl)|(apply yY;rfl;rfl;rfl;exact le_dec rfl)|(apply yC;rfl;rfl;rfl;exact le_dec rfl)|(apply Aa.assign;rfl)|(apply Aa.move;rfl)|(apply Aa.load;rfl;rfl)|(apply Aa.lenV;rfl;rfl;rfl)|(apply Aa.box;rfl;trivial))
 all_goals try (exfalso;omega)
 apply Ad.GZ (l.length) (fun k=>∀ i,i<k→Gl r (gi l i)=true) [(0,_),(1,_),(7,_)] [(4,_),(1,_)] (fun k r=>(8,.p (.int .i64 (k:Int)))::r) (fun k r=>r) 5
 ·first|omega|decide
 ·first|omega|decide
 ·repeat (first|exact Ae.nil|(refine Ae.eq rfl ?_ ?_;(first|exact PV.Ak rfl|(simp [PV.under,AQ.under];done)))|refine Ae.cons trivial rfl (.of_eq (Ar (by simp<;>omega))) ?_)
 ·repeat (first|exact Aj.nil|(refine Aj.eq rfl (Ac rfl) ?_ ?_;(first|exact HB.Ak rfl|exact AQ.Ah _ _|(simp [HB.under,AQ.under,PV.under];done)))|(refine Aj.cons (Ac rfl) ?_ rfl ?_ ?_;(first|exact trivial|exact AQ.Ah _ _|(simp [HB.under,AQ.under,PV.under]));(first|exact Bj.refl _|exact Bj.vec (Bh.refl _) (by simp))))
 ·first|(intro _ _;omega)|omega|trivial
 ·intro k hk hi
  obtain ⟨g1,g2⟩:=hok k hk
  have hC:=Ub r hr (gi l k) g1 g2
  by_cases hp:Gl r (gi l k)=true
  ·rw [hp] at hC
   repeat' (first|apply Ad.AA|apply Ad.region|apply Ad.Aq|apply Ad.Ai|apply AO.normal|apply AL.normal|apply Ad.skip|apply Ag.nil|apply Ag.one|(apply Aa.read [1] hC;rfl;rfl;exact .of_eq rfl;exact AQ.Ak rfl;exact EF rfl;(repeat (first|exact trivial|refine ⟨⟨_,rfl,.of_eq rfl⟩,?_⟩));decide;(intro _ hb;simp at hb<;>omega);rfl)|(apply Aa.assign;rfl)|(apply Aa.move;rfl)|(apply Aa.Bv;rfl;rfl;omega)|(apply Aa.int;rfl;rfl;rfl)|(apply Aa.Dw;rfl;rfl;omega;rfl)|(apply Aa.Dn;rfl;rfl;rfl;rfl;omega)|(apply Ad.Af;rfl)|(apply Ad.cond_false;rfl)|(intro _;try (exfalso;omega)))
   all_goals try (exfalso;omega)
   refine Aw.normal ⟨(all_succ hi hp),by first|omega|decide,?_,?_⟩
   ·repeat (first|exact Ae.nil|refine Ae.same trivial rfl ?_|refine Ae.same (Ac rfl) rfl ?_|refine Ae.same ⟨trivial,Ac rfl,trivial⟩ rfl ?_|refine Ae.same ⟨trivial,Ac rfl,Ac rfl,trivial⟩ rfl ?_|refine Ae.same ⟨trivial,Ac rfl,Ac rfl,Ac rfl,trivial⟩ rfl ?_|refine Ae.same ⟨trivial,trivial⟩ rfl ?_|refine Ae.cons trivial rfl (.of_eq (Ar (by simp<;>omega))) ?_)
   ·repeat (first|exact Aj.nil|(refine Aj.cons (Ac rfl) ?_ rfl ?_ ?_;(first|exact HB.Ak rfl|exact AQ.Ah _ _|(simp [HB.under,AQ.under,PV.under]));(first|exact Bj.refl _|exact Bj.vec (Bh.refl _) (by simp))))
  ·have hp':Gl r (gi l k)=false:=by cases h:Gl r (gi l k)<;>simp_all
   rw [hp'] at hC
   repeat' (first|apply Ad.assoc|apply Ad.AA|apply Ad.Aq|apply Ad.Ai|apply AO.ret|(apply Bq.ret;rfl)|apply AL.ret|apply Aw.ret|apply Ad.ret|apply Ag.nil|apply Ag.one|(apply Aa.read [1] hC;rfl;rfl;exact .of_eq rfl;exact AQ.Ak rfl;exact EF rfl;(repeat (first|exact trivial|refine ⟨⟨_,rfl,.of_eq rfl⟩,?_⟩));decide;(intro _ hb;simp at hb<;>omega);rfl)|(apply Aa.assign;rfl)|(apply Aa.move;rfl)|(apply Aa.Bv;rfl;rfl;omega)|(apply Aa.int;rfl;rfl;rfl)|(apply Aa.Dw;rfl;rfl;omega;rfl)|(apply Aa.Dn;rfl;rfl;rfl;rfl;omega)|(apply Ad.Au;rfl)|(apply Ad.Af;rfl)|(apply Ad.cond_true;rfl)|(intro _;try (exfalso;omega)))
   all_goals try (exfalso;omega)
   refine Ad.Eb (fun s:List PN×Nat×Nat=>[(0,.vec 4 l.length 0 l.length),(1,.clo 79 [] [.ref 1 0]),(5,.p (.int .i64 (s.2.1:Int))),(6,.p (.int .i64 (s.2.2:Int)))]) (fun s=>[(4,.vec 85 (cells s.1) l.length true),(1,.box 41 ((Enc.enc r).map .p))]) 5 (fun s=>QZ (Gl r) l s.1 s.2.1 s.2.2) (fun s=>l.length-s.2.2) (l,k,k+1) (by decide) (QZ.start hk hp' hi) ⟨by decide,?_,?_⟩ ?_
   ·repeat (first|exact Ae.nil|refine Ae.same trivial rfl ?_|refine Ae.same (Ac rfl) rfl ?_|refine Ae.same ⟨trivial,Ac rfl,trivial⟩ rfl ?_|refine Ae.same ⟨trivial,Ac rfl,Ac rfl,trivial⟩ rfl ?_|refine Ae.same ⟨trivial,Ac rfl,Ac rfl,Ac rfl,trivial⟩ rfl ?_|refine Ae.same ⟨trivial,trivial⟩ rfl ?_|refine Ae.cons trivial rfl (.of_eq (Ar (by simp<;>omega))) ?_)
   ·repeat (first|exact Aj.nil|(refine Aj.cons (Ac rfl) ?_ rfl ?_ ?_;(first|exact HB.Ak rfl|exact AQ.Ah _ _|(simp [HB.under,AQ.under,PV.under]));(first|exact Bj.refl _|exact Bj.vec (Bh.refl _) (by simp))))
   rintro ⟨zs,i,j⟩ hD
   simp only at hD ⊢
   have z1:=hD.len
   have z2:=hD.ij
   have z3:=hD.jn
   by_cases hj:j<l.length
   ·obtain ⟨g3,g4⟩:=hok j hj
    have hC2:=Ub r hr (gi l j) g3 g4
    have hz:=hD.at_ hj
    by_cases hq:Gl r (gi l j)=true
    ·rw [hq] at hC2
     rw [← hz] at hC2
     repeat' (first|apply Ad.assoc|apply Ad.AA|apply Ad.region|apply Ad.Aq|apply Ad.Ai|apply AO.normal|apply AL.normal|apply Ag.nil|apply Ag.one|(apply Aa.read [1] hC2;rfl;rfl;exact .of_eq rfl;exact AQ.Ak rfl;exact EF rfl;(repeat (first|exact trivial|refine ⟨⟨_,rfl,.of_eq rfl⟩,?_⟩));decide;(intro _ hb;simp at hb<;>omega);rfl)|(apply Aa.Ef (y:=gi zs j);rfl;rfl;rfl;trivial;(first|rfl|(refine congrArg (fun t=>[PV.p (FV.int _ t)]) ?_;first|omega|(simp only [Int.natCast_add,Int.natCast_mul,Int.natCast_ediv,Int.natCast_emod]<;>omega)));rfl;rfl;decide;(first|omega|(simp only [List.length_set]<;>omega)))|(apply Aa.assign;rfl)|(apply Aa.move;rfl)|(apply Aa.Bv;rfl;rfl;omega)|(apply Aa.int;rfl;rfl;rfl)|(apply Aa.Dw;rfl;rfl;omega;rfl)|(apply Aa.load;rfl;rfl)|(apply Aa.lenV;rfl;rfl;rfl)|(apply Aa.alloc;rfl)|(apply Aa.Bo;rfl;rfl;rfl;trivial;rfl;rfl;exact Ac rfl;exact le_dec rfl)|(apply Aa.Dn;rfl;rfl;rfl;rfl;omega)|(apply Aa.not;rfl)|(apply Ad.Af;rfl)|(apply Ad.cond_true;rfl)|(intro _;try (exfalso;omega)))
     all_goals try (exfalso;omega)
     refine Aw.normal ⟨(zs.set i (gi l j),i+1,j+1),hD.put hj hq,by simp only;omega,⟨by omega,?_,?_⟩⟩
     ·repeat (first|exact Ae.nil|refine Ae.same trivial rfl ?_|refine Ae.same (Ac rfl) rfl ?_|refine Ae.same ⟨trivial,Ac rfl,trivial⟩ rfl ?_|refine Ae.same ⟨trivial,Ac rfl,Ac rfl,trivial⟩ rfl ?_|refine Ae.same ⟨trivial,Ac rfl,Ac rfl,Ac rfl,trivial⟩ rfl ?_|refine Ae.same ⟨trivial,trivial⟩ rfl ?_|refine Ae.cons trivial rfl (.of_eq (Ar (by simp<;>omega))) ?_)
     ·rw [← hz]
      repeat (first|exact Aj.nil|(refine Aj.cons (Ac rfl) ?_ rfl ?_ ?_;(first|exact HB.Ak rfl|exact AQ.Ah _ _|(simp [HB.under,AQ.under,PV.under]));(first|exact Bj.refl _|exact Bj.vec (Bh.refl _) (by simp))))
    ·have hq':Gl r (gi l j)=false:=by cases h:Gl r (gi l j)<;>simp_all
     rw [hq'] at hC2
     rw [← hz] at hC2
     repeat' (first|apply Ad.assoc|apply Ad.AA|apply Ad.region|apply Ad.Aq|apply Ad.Ai|apply AO.normal|apply AL.normal|apply Ad.skip|apply Ag.nil|apply Ag.one|(apply Aa.read [1] hC2;rfl;rfl;exact .of_eq rfl;exact AQ.Ak rfl;exact EF rfl;(repeat (first|exact trivial|refine ⟨⟨_,rfl,.of_eq rfl⟩,?_⟩));decide;(intro _ hb;simp at hb<;>omega);rfl)|(apply Aa.assign;rfl)|(apply Aa.move;rfl)|(apply Aa.Bv;rfl;rfl;omega)|(apply Aa.int;rfl;rfl;rfl)|(apply Aa.Dw;rfl;rfl;omega;rfl)|(apply Aa.load;rfl;rfl)|(apply Aa.lenV;rfl;rfl;rfl)|(apply Aa.alloc;rfl)|(apply Aa.Bo;rfl;rfl;rfl;trivial;rfl;rfl;exact Ac rfl;exact le_dec rfl)|(apply Aa.Dn;rfl;rfl;rfl;rfl;omega)|(apply Aa.not;rfl)|(apply Ad.Af;rfl)|(apply Ad.cond_false;rfl)|(intro _;try (exfalso;omega)))
     all_goals try (exfalso;omega)
     refine Aw.normal ⟨(zs,i,j+1),hD.skip hj hq',by simp only;omega,⟨by omega,?_,?_⟩⟩
     ·repeat (first|exact Ae.nil|refine Ae.same trivial rfl ?_|refine Ae.same (Ac rfl) rfl ?_|refine Ae.same ⟨trivial,Ac rfl,trivial⟩ rfl ?_|refine Ae.same ⟨trivial,Ac rfl,Ac rfl,trivial⟩ rfl ?_|refine Ae.same ⟨trivial,Ac rfl,Ac rfl,Ac rfl,trivial⟩ rfl ?_|refine Ae.same ⟨trivial,trivial⟩ rfl ?_|refine Ae.cons trivial rfl (.of_eq (Ar (by simp<;>omega))) ?_)
     ·repeat (first|exact Aj.nil|(refine Aj.cons (Ac rfl) ?_ rfl ?_ ?_;(first|exact HB.Ak rfl|exact AQ.Ah _ _|(simp [HB.under,AQ.under,PV.under]));(first|exact Bj.refl _|exact Bj.vec (Bh.refl _) (by simp))))
   ·obtain rfl:j=l.length:=by omega
    obtain ⟨f1,f2⟩:=hD.fin
    rw [← f1,show (zs.take i).length=i by rw [List.length_take];omega]
    have hps:∀ xs,((Cc (cells zs) (0+i*2) xs).take (i*2))=cells (zs.take i):=fun xs=>by
     rw [Q9 _ _ _ (show i*2≤0+i*2 by omega)]
     exact Kq zs i
    have hpl:∀ xs,i*2≤(Cc (cells zs) (0+i*2) xs).length:=fun xs=>by
     rw [gK,BP,z1]
     show i*2≤l.length*2
     omega
    repeat' (first|(refine Ag.IX 4 ?_;refine Ag.ghost (Ba.uG 9 (i*2) rfl rfl (by omega) (hpl _)) ?_)|apply Ad.assoc|apply Ad.AA|apply Ad.AZ|apply AO.normal|(apply Bq.ret;rfl)|apply AL.exit|apply Aw.exit|apply Ad.ret|apply Ag.nil|apply Ag.one|(apply Aa.aA (sz:=2) (a:=i) (c:=l.length);rfl;rfl;omega;rfl;rfl;rfl;exact ⟨_,rfl⟩;rfl;omega;exact Nat.le_refl _)|(apply Aa.aA (sz:=2) (a:=0) (c:=i);rfl;rfl;omega;rfl;rfl;rfl;rfl;exact ⟨_,rfl⟩;omega;omega)|(apply Aa.clear;rfl;rfl;omega;omega;rfl;rfl;rfl;decide;(rw [BP,z1];show 0+i*2+(l.length-i)*2≤l.length*2;omega))|(apply Aa.assign;rfl)|(apply Aa.move;rfl)|(apply Aa.int;rfl;rfl;rfl)|(apply Aa.lenV;rfl;rfl;rfl)|(apply Ad.Af;rfl)|(intro _;try (exfalso;omega)))
    all_goals first|(exfalso;omega)|(refine Done.ret rfl (.refl _) (by first|exact trivial|exact ⟨trivial,trivial,trivial⟩|exact ⟨trivial,trivial,trivial,trivial⟩) Aj.nil (Nat.zero_le _) (Nat.le_refl _) ⟨?_,rfl,rfl⟩;exact congrArg (fun c=>PV.p (FV.lst 85 c i)) (hps _))
 ·intro hi
  rw [filter_all hi]
  repeat' (first|(refine Ag.IX 4 ?_;refine Ag.ghost (Ba.freeze 9 rfl rfl) ?_)|apply Ad.assoc|apply Ad.AA|apply Ad.BO|apply Ad.AZ|apply AO.normal|(apply Bq.ret;rfl)|apply AL.exit|apply Aw.exit|apply Ad.ret|apply Ag.nil|apply Ag.one|(apply Aa.assign;rfl)|(apply Aa.move;rfl)|(apply Aa.int;rfl;rfl;rfl)|(apply Ad.Bd;rfl)|(apply Ad.Af;rfl)|(intro _;try (exfalso;omega)))
  all_goals first|(exfalso;omega)|(refine Done.ret rfl (.refl _) (by first|exact trivial|exact ⟨trivial,trivial,trivial⟩|exact ⟨trivial,trivial,trivial,trivial⟩) Aj.nil (Nat.zero_le _) (Nat.le_refl _) ⟨?_,rfl,rfl⟩;try rfl)
end Go.Proofs.YtdabojnmoejilaaGreatDoor
namespace Go.Proofs.YtdabojnmoejilaaGreatDoor
open Go Go.Am Go.Vm Go.Tra
attribute [local irreducible] Aa Ag Ap Ad BA AY CJ AO AL Aw Vm.Done Dc Bq
attribute [local irreducible] D8 DT Jp KX TG BZ
theorem pR (o:ET) (ho:Jl o) (r:Rgs) (hr:r.Ok):AY env 36 [.agg (Enc.enc o),.agg (Enc.enc r)] (.p (.int .i64 (Qm o r))):=by
 have r2:=ho.Az
 have r3:=ho.Gf
 have c1:=hr.cp
 have c2:=hr.off
 have c3:=hr.len
 have hc:=N9 o ho.sm
 rw [ho.err] at hc
 refine AY.enter (AB (by decide)) Tryz.func36 rfl (by kernel_rfl) (by simp [Tryz.ntmps36]) ?_
 by_cases h1:r.stops.length=o.Az.length
 case neg =>
  rw [dY h1]
  repeat' (first|apply Ad.assoc|apply Ad.AA|apply Ad.Aq|apply Ad.BO|apply Ag.nil|apply Ag.one|(apply Aa.fn;rfl;rfl;exact hc;intro _;rfl)|(apply Aa.assign;rfl)|(apply Aa.move;rfl)|(apply Aa.int;rfl;rfl;rfl)|(apply Aa.load;rfl;rfl)|(apply Aa.BI;rfl;rfl)|(apply Aa.AU;rfl;rfl;rfl)|(apply Aa.box;rfl;trivial)|(apply Ad.Au;rfl)|(apply Ad.Af;rfl)|(intro _;try (exfalso;omega)))
  all_goals first|(exfalso;omega)|contradiction|(refine Done.ret rfl (.refl _) (by first|exact trivial|exact ⟨trivial,trivial,trivial⟩|exact ⟨trivial,trivial,trivial,trivial⟩) Aj.nil (Nat.zero_le _) (Nat.le_refl _) ⟨?_,rfl,rfl⟩;try rfl)
 by_cases h2:∀ i,i<r.stops.length→gi r.stops i / 2 ^ (gi o.Az i).stops.length=0
 case neg =>
  obtain ⟨i,hi⟩:=Classical.not_forall.1 h2
  obtain ⟨hi,h3⟩:=Classical.not_imp.1 hi
  rw [vk h1 hi h3]
  clear h2
  repeat' (first|apply Ad.assoc|apply Ad.AA|apply Ad.Aq|apply Ad.Ai|apply Ag.nil|apply Ag.one|(apply Aa.fn;rfl;rfl;exact hc;intro _;rfl)|(apply Aa.assign;rfl)|(apply Aa.move;rfl)|(apply Aa.int;rfl;rfl;rfl)|(apply Aa.load;rfl;rfl)|(apply Aa.BI;rfl;rfl)|(apply Aa.AU;rfl;rfl;rfl)|(apply Aa.box;rfl;trivial)|(apply Ad.Au;rfl)|(apply Ad.Af;rfl)|(intro _;try (exfalso;omega)))
  all_goals try (exfalso;omega)
  all_goals try contradiction
  apply Ad.GZ (o.Az.length) (fun k=>∀ i,i<k→gi r.stops i / 2 ^ (gi o.Az i).stops.length=0) [(2,_),(3,_),(21,_),(22,_)] [(0,_),(1,_)] (fun k r=>(23,.p (.int .i64 (k:Int)))::r) (fun k r=>r) 2
  ·first|omega|decide
  ·first|omega|decide
  ·repeat (first|exact Ae.nil|(refine Ae.eq rfl ?_ ?_;(first|exact PV.Ak rfl|(simp [PV.under,AQ.under];done)))|refine Ae.cons trivial rfl (.of_eq (Ar (by simp<;>omega))) ?_)
  ·repeat (first|exact Aj.nil|(refine Aj.eq rfl (Ac rfl) ?_ ?_;(first|exact HB.Ak rfl|exact AQ.Ah _ _|(simp [HB.under,AQ.under,PV.under];done)))|(refine Aj.cons (Ac rfl) ?_ rfl ?_ ?_;(first|exact trivial|exact AQ.Ah _ _|(simp [HB.under,AQ.under,PV.under]));(first|exact Bj.refl _|exact Bj.vec (Bh.refl _) (by simp))))
  ·first|(intro _ _;omega)|omega|trivial
  ·intro k hk hok
   have s3:=ho.stops k (by omega)
   have rk:=hr.stops k (by omega)
   by_cases hb:gi r.stops k / 2 ^ (gi o.Az k).stops.length=0
   ·repeat' (first|apply Ad.AA|apply Ad.BJ|apply Ad.region|apply Ad.Aq|apply Ad.Ai|apply AO.normal|apply AL.normal|apply Ad.skip|apply Ag.nil|apply Ap.nil|apply Ag.one|(apply Ap.bar;decide +kernel)|apply Ap.quiet|(apply Aa.assign;rfl)|(apply Aa.move;rfl)|(apply Aa.Bv;rfl;rfl;omega)|(apply Aa.int;rfl;rfl;rfl)|(apply Aa.AP;rfl;rfl;rfl;omega;rfl)|(apply Aa.load;rfl;rfl)|(apply Aa.BI;rfl;rfl)|(apply Aa.AU;rfl;rfl;rfl)|(apply Aa.alloc;rfl)|(apply Aa.Bo;rfl;rfl;rfl;trivial;rfl;rfl;exact Ac rfl;exact le_dec rfl)|(apply Aa.RI;rfl;rfl;(simp only [IntKind.bits];omega))|(apply Ad.Af;rfl)|(apply Ad.A8;rfl)|(intro _;try (exfalso;omega)))
    all_goals try (exfalso;omega)
    all_goals try contradiction
    refine Aw.normal ⟨(all_succ hok hb),by first|omega|decide,?_,?_⟩
    ·repeat (first|exact Ae.nil|refine Ae.same trivial rfl ?_|refine Ae.same (Ac rfl) rfl ?_|refine Ae.same ⟨trivial,Ac rfl,trivial⟩ rfl ?_|refine Ae.same ⟨trivial,Ac rfl,Ac rfl,trivial⟩ rfl ?_|refine Ae.same ⟨trivial,Ac rfl,Ac rfl,Ac rfl,trivial⟩ rfl ?_|refine Ae.same ⟨trivial,trivial⟩ rfl ?_|refine Ae.cons trivial rfl (.of_eq (Ar (by simp<;>omega))) ?_)
    ·repeat (first|exact Aj.nil|(refine Aj.cons (Ac rfl) ?_ rfl ?_ ?_;(first|exact HB.Ak rfl|exact AQ.Ah _ _|(simp [HB.under,AQ.under,PV.under]));(first|exact Bj.refl _|exact Bj.vec (Bh.refl _) (by simp))))
   ·repeat' (first|apply Ad.AA|apply Ad.BJ|apply Ad.Aq|apply Ad.Ai|apply AO.ret|apply AL.ret|apply Aw.ret|apply Ad.ret|apply Ag.nil|apply Ap.nil|apply Ag.one|(apply Ap.bar;decide +kernel)|apply Ap.quiet|(apply Aa.assign;rfl)|(apply Aa.move;rfl)|(apply Aa.int;rfl;rfl;rfl)|(apply Aa.AP;rfl;rfl;rfl;omega;rfl)|(apply Aa.load;rfl;rfl)|(apply Aa.BI;rfl;rfl)|(apply Aa.AU;rfl;rfl;rfl)|(apply Aa.alloc;rfl)|(apply Aa.Bo;rfl;rfl;rfl;trivial;rfl;rfl;exact Ac rfl;exact le_dec rfl)|(apply Aa.RI;rfl;rfl;(simp only [IntKind.bits];omega))|(apply Ad.Af;rfl)|(apply Ad.A8;rfl)|(intro _;try (exfalso;omega)))
    all_goals first|(exfalso;omega)|contradiction|(refine Done.ret rfl (.refl _) (by first|exact trivial|exact ⟨trivial,trivial,trivial⟩|exact ⟨trivial,trivial,trivial,trivial⟩) Aj.nil (Nat.zero_le _) (Nat.le_refl _) ⟨?_,rfl,rfl⟩;try rfl)
  ·intro hok
   exact absurd (hok i (by omega)) h3
 rw [TN h1 h2]
 repeat' (first|apply Ad.assoc|apply Ad.AA|apply Ad.Aq|apply Ad.Ai|apply Ag.nil|apply Ag.one|(apply Aa.fn;rfl;rfl;exact hc;intro _;rfl)|(apply Aa.assign;rfl)|(apply Aa.move;rfl)|(apply Aa.int;rfl;rfl;rfl)|(apply Aa.load;rfl;rfl)|(apply Aa.BI;rfl;rfl)|(apply Aa.AU;rfl;rfl;rfl)|(apply Aa.box;rfl;trivial)|(apply Ad.Au;rfl)|(apply Ad.Af;rfl)|(intro _;try (exfalso;omega)))
 all_goals try (exfalso;omega)
 all_goals try contradiction
 apply Ad.GZ (o.Az.length) (fun k=>∀ i,i<k→gi r.stops i / 2 ^ (gi o.Az i).stops.length=0) [(2,_),(3,_),(21,_),(22,_)] [(0,_),(1,_)] (fun k r=>(23,.p (.int .i64 (k:Int)))::r) (fun k r=>r) 2
 ·first|omega|decide
 ·first|omega|decide
 ·repeat (first|exact Ae.nil|(refine Ae.eq rfl ?_ ?_;(first|exact PV.Ak rfl|(simp [PV.under,AQ.under];done)))|refine Ae.cons trivial rfl (.of_eq (Ar (by simp<;>omega))) ?_)
 ·repeat (first|exact Aj.nil|(refine Aj.eq rfl (Ac rfl) ?_ ?_;(first|exact HB.Ak rfl|exact AQ.Ah _ _|(simp [HB.under,AQ.under,PV.under];done)))|(refine Aj.cons (Ac rfl) ?_ rfl ?_ ?_;(first|exact trivial|exact AQ.Ah _ _|(simp [HB.under,AQ.under,PV.under]));(first|exact Bj.refl _|exact Bj.vec (Bh.refl _) (by simp))))
 ·first|(intro _ _;omega)|omega|trivial
 ·intro k hk hok
  have s3:=ho.stops k (by omega)
  have rk:=hr.stops k (by omega)
  have hb:=h2 k (by omega)
  repeat' (first|apply Ad.AA|apply Ad.BJ|apply Ad.region|apply Ad.Aq|apply Ad.Ai|apply AO.normal|apply AL.normal|apply Ad.skip|apply Ag.nil|apply Ap.nil|apply Ag.one|(apply Ap.bar;decide +kernel)|apply Ap.quiet|(apply Aa.assign;rfl)|(apply Aa.move;rfl)|(apply Aa.Bv;rfl;rfl;omega)|(apply Aa.int;rfl;rfl;rfl)|(apply Aa.AP;rfl;rfl;rfl;omega;rfl)|(apply Aa.load;rfl;rfl)|(apply Aa.BI;rfl;rfl)|(apply Aa.AU;rfl;rfl;rfl)|(apply Aa.alloc;rfl)|(apply Aa.Bo;rfl;rfl;rfl;trivial;rfl;rfl;exact Ac rfl;exact le_dec rfl)|(apply Aa.RI;rfl;rfl;(simp only [IntKind.bits];omega))|(apply Ad.Af;rfl)|(apply Ad.A8;rfl)|(intro _;try (exfalso;omega)))
  all_goals try (exfalso;omega)
  all_goals try contradiction
  refine Aw.normal ⟨(fun j hj=>h2 j (by omega)),by first|omega|decide,?_,?_⟩
  ·repeat (first|exact Ae.nil|refine Ae.same trivial rfl ?_|refine Ae.same (Ac rfl) rfl ?_|refine Ae.same ⟨trivial,Ac rfl,trivial⟩ rfl ?_|refine Ae.same ⟨trivial,Ac rfl,Ac rfl,trivial⟩ rfl ?_|refine Ae.same ⟨trivial,Ac rfl,Ac rfl,Ac rfl,trivial⟩ rfl ?_|refine Ae.same ⟨trivial,trivial⟩ rfl ?_|refine Ae.cons trivial rfl (.of_eq (Ar (by simp<;>omega))) ?_)
  ·repeat (first|exact Aj.nil|(refine Aj.cons (Ac rfl) ?_ rfl ?_ ?_;(first|exact HB.Ak rfl|exact AQ.Ah _ _|(simp [HB.under,AQ.under,PV.under]));(first|exact Bj.refl _|exact Bj.vec (Bh.refl _) (by simp))))
 ·intro hok
  by_cases h4:r.cp / 2 ^ o.Gf.length=0
  ·by_cases h5:r.off / 2 ^ o.Az.length=0
   ·rw [if_neg (by omega)]
    repeat' (first|apply Ad.assoc|apply Ad.AA|apply Ad.Aq|apply Ad.AZ|apply AO.normal|apply AL.exit|apply Aw.exit|apply Ad.ret|apply Ag.nil|apply Ag.one|(apply Ag.take;rfl;rfl)|(apply Ag.guard;rfl;rfl)|(apply Aa.assign;rfl)|(apply Aa.move;rfl)|(apply Aa.int;rfl;rfl;rfl)|(apply Aa.load;rfl;rfl)|(apply Aa.AV;rfl;rfl)|(apply Aa.BI;rfl;rfl)|(apply Aa.AU;rfl;rfl;rfl)|(apply Aa.RI;rfl;rfl;(simp only [IntKind.bits];omega))|(apply Ad.Af;rfl)|(intro _;try (exfalso;omega)))
    all_goals first|(exfalso;omega)|contradiction|(refine Done.ret rfl (.refl _) (by first|exact trivial|exact ⟨trivial,trivial,trivial⟩|exact ⟨trivial,trivial,trivial,trivial⟩) Aj.nil (Nat.zero_le _) (Nat.le_refl _) ⟨?_,rfl,rfl⟩;try rfl)
   ·rw [if_pos (.inr h5)]
    repeat' (first|apply Ad.assoc|apply Ad.AA|apply Ad.BO|apply Ad.AZ|apply AO.normal|apply AL.exit|apply Aw.exit|apply Ag.nil|apply Ag.one|(apply Ag.take;rfl;rfl)|(apply Ag.guard;rfl;rfl)|(apply Aa.assign;rfl)|(apply Aa.move;rfl)|(apply Aa.int;rfl;rfl;rfl)|(apply Aa.load;rfl;rfl)|(apply Aa.AV;rfl;rfl)|(apply Aa.BI;rfl;rfl)|(apply Aa.AU;rfl;rfl;rfl)|(apply Aa.RI;rfl;rfl;(simp only [IntKind.bits];omega))|(apply Ad.Af;rfl)|(intro _;try (exfalso;omega)))
    all_goals first|(exfalso;omega)|contradiction|(refine Done.ret rfl (.refl _) (by first|exact trivial|exact ⟨trivial,trivial,trivial⟩|exact ⟨trivial,trivial,trivial,trivial⟩) Aj.nil (Nat.zero_le _) (Nat.le_refl _) ⟨?_,rfl,rfl⟩;try rfl)
  ·rw [if_pos (.inl h4)]
   repeat' (first|apply Ad.assoc|apply Ad.AA|apply Ad.BO|apply Ad.AZ|apply AO.normal|apply AL.exit|apply Aw.exit|apply Ag.nil|apply Ag.one|(apply Ag.drop;rfl;rfl;rfl)|(apply Ag.guard;rfl;rfl)|(apply Aa.assign;rfl)|(apply Aa.move;rfl)|(apply Aa.int;rfl;rfl;rfl)|(apply Aa.load;rfl;rfl)|(apply Aa.BH;rfl;rfl)|(apply Aa.BI;rfl;rfl)|(apply Aa.AU;rfl;rfl;rfl)|(apply Aa.RI;rfl;rfl;(simp only [IntKind.bits];omega))|(apply Ad.Bd;rfl)|(apply Ad.Af;rfl)|(intro _;try (exfalso;omega)))
   all_goals first|(exfalso;omega)|contradiction|(refine Done.ret rfl (.refl _) (by first|exact trivial|exact ⟨trivial,trivial,trivial⟩|exact ⟨trivial,trivial,trivial,trivial⟩) Aj.nil (Nat.zero_le _) (Nat.le_refl _) ⟨?_,rfl,rfl⟩;try rfl)
def lK (w:aP):List Int:=[w.EC,w.FN,w.Dk,w.miss]
def Nc (w:aP):Prop:=∀ i,i<4→0≤gi (lK w) i∧gi (lK w) i≤100000
noncomputable def iU (q:RJ):Int :=
 open Classical in
 if LK q.BD≠0 then LK q.BD else if Qm q.BD q.reg≠0 then Qm q.BD q.reg else if LK q.tgt≠0 then LK q.tgt
 else if ¬ Nc q.DX then 3 else if (Bc q.BD q.reg).length>60∨(BG q.tgt).length>120 then 4 else 0
theorem uY (w:aP) {k:Nat} (h:k<4):[FV.int .i64 w.EC,.int .i64 w.FN,.int .i64 w.Dk,.int .i64 w.miss][((k:Nat):Int).toNat*1]?=some (.int .i64 (gi (lK w) k)):=by
 rw [Int.toNat_natCast]
 match k,h with
 |0,_=>rfl
 |1,_=>rfl
 |2,_=>rfl
 |3,_=>rfl
theorem oD {o:ET} {r:Rgs} (h:Qm o r=0):r.stops.length=o.Az.length:=Classical.byContradiction fun h1=>by rw [dY h1] at h;cases h
theorem dV (q:RJ) (h1:Pq q.BD) (h2:Pq q.tgt) (hr:q.reg.Ok):AY env 26 [.agg (Enc.enc q)] (.p (.int .i64 (iU q))):=by
 have hcF:=N9 q.BD h1
 unfold iU
 refine AY.enter (AB (by decide)) Tryz.func26 rfl (by kernel_rfl) (by simp [Tryz.ntmps26]) ?_
 by_cases e1:LK q.BD=0
 case neg =>
  rw [if_pos e1]
  repeat' (first|apply Ad.assoc|apply Ad.AA|apply Ad.BO|apply Ag.nil|apply Ag.one|(apply Aa.fn;rfl;rfl;exact hcF;intro _;rfl)|(apply Aa.assign;rfl)|(apply Aa.move;rfl)|(apply Aa.int;rfl;rfl;rfl)|(apply Aa.load;rfl;rfl)|(apply Aa.AU;rfl;rfl;rfl)|(apply Aa.box;rfl;trivial)|(apply Ad.Af;rfl)|(intro _;try (exfalso;omega)))
  all_goals first|(exfalso;omega)|contradiction|(refine Done.ret rfl (.refl _) (by first|exact trivial|exact ⟨trivial,trivial,trivial⟩|exact ⟨trivial,trivial,trivial,trivial⟩) Aj.nil (Nat.zero_le _) (Nat.le_refl _) ⟨?_,rfl,rfl⟩;try rfl)
 rw [if_neg (fun h=>h e1)]
 rw [e1] at hcF
 have k1:=yO h1 e1
 have hcR:=pR q.BD k1 q.reg hr
 by_cases e2:Qm q.BD q.reg=0
 case neg =>
  rw [if_pos e2]
  repeat' (first|apply Ad.assoc|apply Ad.AA|apply Ad.Aq|apply Ad.BO|apply Ag.nil|apply Ag.one|(apply Aa.fn;rfl;rfl;exact hcF;intro _;rfl)|(apply Aa.fn;rfl;rfl;exact hcR;intro _;rfl)|(apply Aa.assign;rfl)|(apply Aa.move;rfl)|(apply Aa.int;rfl;rfl;rfl)|(apply Aa.load;rfl;rfl)|(apply Aa.AU;rfl;rfl;rfl)|(apply Aa.box;rfl;trivial)|(apply Ad.Au;rfl)|(apply Ad.Af;rfl)|(intro _;try (exfalso;omega)))
  all_goals first|(exfalso;omega)|contradiction|(refine Done.ret rfl (.refl _) (by first|exact trivial|exact ⟨trivial,trivial,trivial⟩|exact ⟨trivial,trivial,trivial,trivial⟩) Aj.nil (Nat.zero_le _) (Nat.le_refl _) ⟨?_,rfl,rfl⟩;try rfl)
 rw [if_neg (fun h=>h e2)]
 rw [e2] at hcR
 have hcT:=N9 q.tgt h2
 by_cases e3:LK q.tgt=0
 case neg =>
  rw [if_pos e3]
  repeat' (first|apply Ad.assoc|apply Ad.AA|apply Ad.Aq|apply Ad.BO|apply Ag.nil|apply Ag.one|(apply Aa.fn;rfl;rfl;exact hcF;intro _;rfl)|(apply Aa.fn;rfl;rfl;exact hcR;intro _;rfl)|(apply Aa.fn;rfl;rfl;exact hcT;intro _;rfl)|(apply Aa.assign;rfl)|(apply Aa.move;rfl)|(apply Aa.int;rfl;rfl;rfl)|(apply Aa.load;rfl;rfl)|(apply Aa.AU;rfl;rfl;rfl)|(apply Aa.box;rfl;trivial)|(apply Ad.Au;rfl)|(apply Ad.Af;rfl)|(intro _;try (exfalso;omega)))
  all_goals first|(exfalso;omega)|contradiction|(refine Done.ret rfl (.refl _) (by first|exact trivial|exact ⟨trivial,trivial,trivial⟩|exact ⟨trivial,trivial,trivial,trivial⟩) Aj.nil (Nat.zero_le _) (Nat.le_refl _) ⟨?_,rfl,rfl⟩;try rfl)
 rw [if_neg (fun h=>h e3)]
 rw [e3] at hcT
 have k2:=yO h2 e3
 have hdr:=UQ q.BD k1 q.reg hr (oD e2)
 have hcl:=Pv q.tgt k2
 have b1:=EM k2
 have b2:(Bc q.BD q.reg).length≤480:=by
  have:=EM k1
  have:(Bc q.BD q.reg).length≤(BG q.BD).length:=List.length_filter_le _ _
  omega
 by_cases e4:Nc q.DX
 case neg =>
  rw [if_pos e4]
  repeat' (first|apply Ad.assoc|apply Ad.AA|apply Ad.Aq|apply Ad.Ai|apply Ag.nil|apply Ag.one|(apply Aa.fn;rfl;rfl;exact hcF;intro _;rfl)|(apply Aa.fn;rfl;rfl;exact hcR;intro _;rfl)|(apply Aa.fn;rfl;rfl;exact hcT;intro _;rfl)|(apply Aa.VQ;rfl;rfl;rfl;rfl;rfl)|(apply Aa.assign;rfl)|(apply Aa.move;rfl)|(apply Aa.int;rfl;rfl;rfl)|(apply Aa.load;rfl;rfl)|(apply Aa.AU;rfl;rfl;rfl)|(apply Aa.box;rfl;trivial)|(apply Ad.Au;rfl))
  all_goals try (exfalso;omega)
  all_goals try contradiction
  apply Ad.GZ (4) (fun k=>∀ i,i<k→0≤gi (lK q.DX) i∧gi (lK q.DX) i≤100000) [(1,_),(40,_)] [(0,_)] (fun k r=>(41,.p (.int .i64 (k:Int)))::r) (fun k r=>r) 1
  ·first|omega|decide
  ·first|omega|decide
  ·repeat (first|exact Ae.nil|(refine Ae.eq rfl ?_ ?_;(first|exact PV.Ak rfl|(simp [PV.under,AQ.under];done)))|refine Ae.cons trivial rfl (.of_eq (Ar (by simp<;>omega))) ?_)
  ·repeat (first|exact Aj.nil|(refine Aj.eq rfl (Ac rfl) ?_ ?_;(first|exact HB.Ak rfl|exact AQ.Ah _ _|(simp [HB.under,AQ.under,PV.under];done)))|(refine Aj.cons (Ac rfl) ?_ rfl ?_ ?_;(first|exact trivial|exact AQ.Ah _ _|(simp [HB.under,AQ.under,PV.under]));(first|exact Bj.refl _|exact Bj.vec (Bh.refl _) (by simp))))
  ·first|(intro _ _;omega)|omega|trivial
  ·intro k hk hi
   have hw:=uY q.DX hk
   by_cases hb:0≤gi (lK q.DX) k∧gi (lK q.DX) k≤100000
   ·repeat' (first|apply Ad.AA|apply Ad.region|apply Ad.Aq|apply Ad.Ai|apply AO.normal|apply AL.normal|apply Ad.skip|apply Ag.nil|apply Ag.one|(apply Ag.take;rfl;rfl)|(apply Ag.guard;rfl;rfl)|(apply Aa.jf;rfl;rfl;rfl;rfl;rfl;omega;exact hw)|(apply Aa.assign;rfl)|(apply Aa.move;rfl)|(apply Aa.Bv;rfl;rfl;omega)|(apply Aa.int;rfl;rfl;rfl)|(apply Aa.AV;rfl;rfl)|(apply Ad.Af;rfl)|(apply Ad.A8;rfl)|(intro _;try (exfalso;omega)))
    all_goals try (exfalso;omega)
    refine Aw.normal ⟨(all_succ hi hb),by first|omega|decide,?_,?_⟩
    ·repeat (first|exact Ae.nil|refine Ae.same trivial rfl ?_|refine Ae.same (Ac rfl) rfl ?_|refine Ae.same ⟨trivial,Ac rfl,trivial⟩ rfl ?_|refine Ae.same ⟨trivial,Ac rfl,Ac rfl,trivial⟩ rfl ?_|refine Ae.same ⟨trivial,Ac rfl,Ac rfl,Ac rfl,trivial⟩ rfl ?_|refine Ae.same ⟨trivial,trivial⟩ rfl ?_|refine Ae.cons trivial rfl (.of_eq (Ar (by simp<;>omega))) ?_)
    ·repeat (first|exact Aj.nil|(refine Aj.cons (Ac rfl) ?_ rfl ?_ ?_;(first|exact HB.Ak rfl|exact AQ.Ah _ _|(simp [HB.under,AQ.under,PV.under]));(first|exact Bj.refl _|exact Bj.vec (Bh.refl _) (by simp))))
   ·repeat' (first|apply Ad.AA|apply Ad.Aq|apply Ad.Ai|apply AO.ret|apply AL.ret|apply Aw.ret|apply Ad.ret|apply Ag.nil|apply Ag.one|(apply Ag.take;rfl;rfl)|(apply Ag.drop;rfl;rfl;rfl)|(apply Ag.guard;rfl;rfl)|(apply Aa.jf;rfl;rfl;rfl;rfl;rfl;omega;exact hw)|(apply Aa.assign;rfl)|(apply Aa.move;rfl)|(apply Aa.int;rfl;rfl;rfl)|(apply Aa.BH;rfl;rfl)|(apply Aa.AV;rfl;rfl)|(apply Ad.Af;rfl)|(apply Ad.cond_true;rfl)|(apply Ad.A8;rfl)|(intro _;try (exfalso;omega)))
    all_goals first|(exfalso;omega)|contradiction|(refine Done.ret rfl (.refl _) (by first|exact trivial|exact ⟨trivial,trivial,trivial⟩|exact ⟨trivial,trivial,trivial,trivial⟩) Aj.nil (Nat.zero_le _) (Nat.le_refl _) ⟨?_,rfl,rfl⟩;try rfl)
  ·intro hi
   exact absurd hi e4
 rw [if_neg (fun h=>h e4)]
 repeat' (first|apply Ad.assoc|apply Ad.AA|apply Ad.Aq|apply Ad.Ai|apply Ag.nil|apply Ag.one|(apply Aa.fn;rfl;rfl;exact hcF;intro _;rfl)|(apply Aa.fn;rfl;rfl;exact hcR;intro _;rfl)|(apply Aa.fn;rfl;rfl;exact hcT;intro _;rfl)|(apply Aa.VQ;rfl;rfl;rfl;rfl;rfl)|(apply Aa.assign;rfl)|(apply Aa.move;rfl)|(apply Aa.int;rfl;rfl;rfl)|(apply Aa.load;rfl;rfl)|(apply Aa.AU;rfl;rfl;rfl)|(apply Aa.box;rfl;trivial)|(apply Ad.Au;rfl))
 all_goals try (exfalso;omega)
 all_goals try contradiction
 apply Ad.GZ (4) (fun k=>True) [(1,_),(40,_)] [(0,_)] (fun k r=>(41,.p (.int .i64 (k:Int)))::r) (fun k r=>r) 1
 ·first|omega|decide
 ·first|omega|decide
 ·repeat (first|exact Ae.nil|(refine Ae.eq rfl ?_ ?_;(first|exact PV.Ak rfl|(simp [PV.under,AQ.under];done)))|refine Ae.cons trivial rfl (.of_eq (Ar (by simp<;>omega))) ?_)
 ·repeat (first|exact Aj.nil|(refine Aj.eq rfl (Ac rfl) ?_ ?_;(first|exact HB.Ak rfl|exact AQ.Ah _ _|(simp [HB.under,AQ.under,PV.under];done)))|(refine Aj.cons (Ac rfl) ?_ rfl ?_ ?_;(first|exact trivial|exact AQ.Ah _ _|(simp [HB.under,AQ.under,PV.under]));(first|exact Bj.refl _|exact Bj.vec (Bh.refl _) (by simp))))
 ·first|(intro _ _;omega)|omega|trivial
 ·intro k hk _
  have hw:=uY q.DX hk
  have hb:=e4 k hk
  repeat' (first|apply Ad.AA|apply Ad.region|apply Ad.Aq|apply Ad.Ai|apply AO.normal|apply AL.normal|apply Ad.skip|apply Ag.nil|apply Ag.one|(apply Ag.take;rfl;rfl)|(apply Ag.guard;rfl;rfl)|(apply Aa.jf;rfl;rfl;rfl;rfl;rfl;omega;exact hw)|(apply Aa.assign;rfl)|(apply Aa.move;rfl)|(apply Aa.Bv;rfl;rfl;omega)|(apply Aa.int;rfl;rfl;rfl)|(apply Aa.AV;rfl;rfl)|(apply Ad.Af;rfl)|(apply Ad.A8;rfl)|(intro _;try (exfalso;omega)))
  all_goals try (exfalso;omega)
  refine Aw.normal ⟨trivial,by first|omega|decide,?_,?_⟩
  ·repeat (first|exact Ae.nil|refine Ae.same trivial rfl ?_|refine Ae.same (Ac rfl) rfl ?_|refine Ae.same ⟨trivial,Ac rfl,trivial⟩ rfl ?_|refine Ae.same ⟨trivial,Ac rfl,Ac rfl,trivial⟩ rfl ?_|refine Ae.same ⟨trivial,Ac rfl,Ac rfl,Ac rfl,trivial⟩ rfl ?_|refine Ae.same ⟨trivial,trivial⟩ rfl ?_|refine Ae.cons trivial rfl (.of_eq (Ar (by simp<;>omega))) ?_)
  ·repeat (first|exact Aj.nil|(refine Aj.cons (Ac rfl) ?_ rfl ?_ ?_;(first|exact HB.Ak rfl|exact AQ.Ah _ _|(simp [HB.under,AQ.under,PV.under]));(first|exact Bj.refl _|exact Bj.vec (Bh.refl _) (by simp))))
 ·intro _
  by_cases e5:(Bc q.BD q.reg).length>60
  ·rw [if_pos (.inl e5)]
   repeat' (first|apply Ad.assoc|apply Ad.AA|apply Ad.BO|apply Ad.AZ|apply AO.normal|apply AL.exit|apply Aw.exit|apply Ag.nil|apply Ag.one|(apply Ag.drop;rfl;rfl;rfl)|(apply Ag.guard;rfl;rfl)|(apply Aa.fn;rfl;rfl;exact hdr;intro _;rfl)|(apply Aa.assign;rfl)|(apply Aa.move;rfl)|(apply Aa.int;rfl;rfl;rfl)|(apply Aa.load;rfl;rfl)|(apply Aa.BH;rfl;rfl)|(apply Aa.BI;rfl;rfl)|(apply Aa.AU;rfl;rfl;rfl)|(apply Ad.Bd;rfl)|(apply Ad.Au;rfl)|(intro _;try (exfalso;omega)))
   all_goals try (exfalso;omega)
   all_goals try contradiction
   all_goals first|(exfalso;omega)|contradiction|(refine Done.ret rfl (.refl _) (by first|exact trivial|exact ⟨trivial,trivial,trivial⟩|exact ⟨trivial,trivial,trivial,trivial⟩) Aj.nil (Nat.zero_le _) (Nat.le_refl _) ⟨?_,rfl,rfl⟩;try rfl)
  ·by_cases e6:(BG q.tgt).length>120
   ·rw [if_pos (.inr e6)]
    repeat' (first|apply Ad.assoc|apply Ad.AA|apply Ad.BO|apply Ad.AZ|apply AO.normal|(apply Bq.ret;rfl)|apply AL.exit|apply Aw.exit|apply Ad.ret|apply Ag.nil|apply Ag.one|(apply Ag.take;rfl;rfl)|(apply Ag.guard;rfl;rfl)|(apply Aa.fn;rfl;rfl;exact hdr;intro _;rfl)|(apply Vq;rfl;rfl;rfl;exact le_dec rfl)|(apply Aa.WU [1] (hcl);rfl;rfl;exact .of_eq rfl;exact AQ.Ak rfl;exact EF rfl;(repeat (first|exact trivial|refine ⟨⟨_,rfl,.of_eq rfl⟩,?_⟩));decide;(intro _ hb;first|(simp at hb;done)|(simp at hb ⊢<;>omega));(rintro _ _ _ ⟨rfl,rfl,rfl⟩))|(apply Aa.makeFunc;rfl;rfl)|(apply Aa.assign;rfl)|(apply Aa.move;rfl)|(apply Aa.int;rfl;rfl;rfl)|(apply Aa.load;rfl;rfl)|(apply Aa.AV;rfl;rfl)|(apply Aa.BI;rfl;rfl)|(apply Aa.lenV;rfl;rfl;rfl)|(apply Aa.AU;rfl;rfl;rfl)|(apply Aa.box;rfl;trivial)|(apply Ad.Au;rfl)|(apply Ad.Af;rfl)|(intro _;try (exfalso;omega)))
    all_goals try (exfalso;omega)
    all_goals try contradiction
    all_goals first|(exfalso;omega)|contradiction|(refine Done.ret rfl (.refl _) (by first|exact trivial|exact ⟨trivial,trivial,trivial⟩|exact ⟨trivial,trivial,trivial,trivial⟩) Aj.nil (Nat.zero_le _) (Nat.le_refl _) ⟨?_,rfl,rfl⟩;try rfl)
   ·rw [if_neg (by omega)]
    repeat' (first|apply Ad.assoc|apply Ad.AA|apply Ad.Aq|apply Ad.AZ|apply AO.normal|(apply Bq.ret;rfl)|apply AL.exit|apply Aw.exit|apply Ad.ret|apply Ag.nil|apply Ag.one|(apply Ag.take;rfl;rfl)|(apply Ag.guard;rfl;rfl)|(apply Aa.fn;rfl;rfl;exact hdr;intro _;rfl)|(apply Vq;rfl;rfl;rfl;exact le_dec rfl)|(apply Aa.WU [1] (hcl);rfl;rfl;exact .of_eq rfl;exact AQ.Ak rfl;exact EF rfl;(repeat (first|exact trivial|refine ⟨⟨_,rfl,.of_eq rfl⟩,?_⟩));decide;(intro _ hb;first|(simp at hb;done)|(simp at hb ⊢<;>omega));(rintro _ _ _ ⟨rfl,rfl,rfl⟩))|(apply Aa.makeFunc;rfl;rfl)|(apply Aa.assign;rfl)|(apply Aa.move;rfl)|(apply Aa.int;rfl;rfl;rfl)|(apply Aa.load;rfl;rfl)|(apply Aa.AV;rfl;rfl)|(apply Aa.BI;rfl;rfl)|(apply Aa.lenV;rfl;rfl;rfl)|(apply Aa.AU;rfl;rfl;rfl)|(apply Aa.box;rfl;trivial)|(apply Ad.Au;rfl)|(apply Ad.Af;rfl)|(intro _;try (exfalso;omega)))
    all_goals try (exfalso;omega)
    all_goals try contradiction
    all_goals first|(exfalso;omega)|contradiction|(refine Done.ret rfl (.refl _) (by first|exact trivial|exact ⟨trivial,trivial,trivial⟩|exact ⟨trivial,trivial,trivial,trivial⟩) Aj.nil (Nat.zero_le _) (Nat.le_refl _) ⟨?_,rfl,rfl⟩;try rfl)
end Go.Proofs.YtdabojnmoejilaaGreatDoor
namespace Go.Proofs.YtdabojnmoejilaaGreatDoor
open Go Go.Am Go.Vm Go.Tra
attribute [local irreducible] Aa Ag Ap Ad BA AY CJ AO AL Aw Vm.Done Dc Bq ZB
def aY (i:Nat) (f:Int):Stp:=⟨[82,UInt8.ofNat (48+i)],⟨f,1⟩,[⟨36,38,[⟨(i:Int),0⟩]⟩]⟩
def aO (i:Nat) (t:List UInt8) (f:Int):FU:=⟨[82,UInt8.ofNat (48+i)],t,⟨f,1⟩,36,[1,1,1]⟩
def VZ (ss:List Stp):YH:=⟨[71,114,101,97,116],false,36,38,ss⟩
structure Tn where
 t:List UInt8
instance:Enc Tn:={ default:=⟨[]⟩,enc:=fun x=>[.str (bs x.t)],size:=1,len:=fun _=>rfl }
def EI (fs:List Int) (k:Nat):List Stp:=(List.range k).map fun i=>aY i (gi fs i)
def FM (ts:List Tn) (fs:List Int) (k:Nat):List FU:=(List.range k).map fun i=>aO i (gi ts i).t (gi fs i)
theorem iW (fs:List Int) (k:Nat):EI fs (k+1)=EI fs k++[aY k (gi fs k)]:=by simp [EI,List.range_succ]
theorem iT (ts:List Tn) (fs:List Int) (k:Nat):FM ts fs (k+1)=FM ts fs k++[aO k (gi ts k).t (gi fs k)]:=by simp [FM,List.range_succ]
theorem TF (fs:List Int) (k:Nat):(EI fs k).length=k:=by simp [EI]
theorem SX (ts:List Tn) (fs:List Int) (k:Nat):(FM ts fs k).length=k:=by simp [FM]
def JH (ts:List Tn) (fs:List Int):ET:=⟨[79],FM ts fs ts.length,[VZ (EI fs ts.length)],[]⟩
theorem TT (ts:List Tn) (fs:List Int) (hl:ts.length=fs.length) (h9:ts.length≤9):AY env 23 [.lst 9 (cells ts) ts.length,.lst 3 (cells fs) fs.length] (.p (.agg (Enc.enc (JH ts fs)))):=by
 refine AY.enter (AB (by decide)) Tryz.func23 rfl (by kernel_rfl) (by simp [Tryz.ntmps23]) ?_
 repeat' (first|apply Ad.assoc|apply Ad.AA|apply Ad.Ai|apply Ag.nil|apply Ag.one|(apply Aa.assign;rfl)|(apply Aa.alloc;rfl)|(apply Aa.Bo;rfl;rfl;rfl;trivial;rfl;rfl;exact Ac rfl;exact le_dec rfl)|(apply Aa.build;rfl;rfl;rfl;rfl;rfl)|(apply Aa.buildSlice;rfl;rfl;rfl;decide;rfl;rfl;rfl))
 all_goals try (exfalso;omega)
 refine Ad.ghost ((((Ba.yA 1 rfl (by decide)).trans (Ba.ji 1 4 122 rfl rfl)).trans (Ba.EG 2 1 131 rfl rfl))) ?_
 apply Ad.Fe (ts.length) [(0,_),(1,_),(4,_),(5,_)] [(0,_)] (fun k r=>(6,.p (.int .i64 (k:Int)))::r) (fun k r=>(1,.Fh 97 [.p (.str (bs [71,114,101,97,116])),.p (.bool false),.p (.int .i64 36),.p (.int .i64 38),.vec 3 (EI fs k).length 0 (EI fs k).length] 1)::(2,.box 37 [.p (.str (bs [79])),.vec 4 (FM ts fs k).length 0 (FM ts fs k).length,.vec 1 1 0 1,.p (.val (.slice none 0 0))])::(3,.vec 122 (cells (EI fs k)) (EI fs k).length true)::(4,.vec 131 (cells (FM ts fs k)) (FM ts fs k).length true)::r) 5
 ·first|omega|decide
 ·first|omega|decide
 ·repeat (first|exact Ae.nil|(refine Ae.eq rfl ?_ ?_;(first|exact PV.Ak rfl|(simp [PV.under,AQ.under];done)))|refine Ae.cons trivial rfl (.of_eq (Ar (by simp<;>omega))) ?_)
 ·repeat (first|exact Aj.nil|(refine Aj.eq rfl (Ac rfl) ?_ ?_;(first|exact HB.Ak rfl|exact AQ.Ah _ _|(simp [HB.under,AQ.under,PV.under];done)))|(refine Aj.cons (Ac rfl) ?_ rfl ?_ ?_;(first|exact trivial|exact AQ.Ah _ _|(simp [HB.under,AQ.under,PV.under]));(first|exact Bj.refl _|exact Bj.vec (Bh.refl _) (by simp))))
 ·intro k hk
  have a1:=iW fs k
  have a2:=iT ts fs k
  have a3:(EI fs (k+1)).length=(EI fs k).length+1:=by rw [a1];simp
  have a4:(FM ts fs (k+1)).length=(FM ts fs k).length+1:=by rw [a2];simp
  have a5:=TF fs k
  have a6:=SX ts fs k
  repeat' (first|(refine Ap.atIdx 9 ?_;refine Ap.ghost (Ba.freeze 37 rfl rfl) ?_)|(refine Ap.atIdx 12 ?_;refine Ap.ghost (Ba.freeze 53 rfl rfl) ?_)|(refine Ap.atIdx 14 ?_;refine Ap.ghost (Ba.freeze 55 rfl rfl) ?_)|(refine Ap.atIdx 16 ?_;apply Ap.weak [.tmp 42];decide +kernel;rfl;rfl;(first|exact Xt.ref rfl|exact Xt.vec rfl|exact Xt.Ep rfl);decide +kernel;rfl)|apply Ad.assoc|apply Ad.AA|apply Ad.BJ|apply Ad.region|apply Ad.FP|apply Ad.Aq|apply Ad.Ai|apply AO.normal|apply AL.normal|apply Ag.nil|apply Ap.nil|apply Ag.one|(apply Ap.bar;decide +kernel)|apply Ap.quiet|(apply Aa.Dl (a:=aO k (gi ts k).t (gi fs k));rfl;rfl;rfl;rfl;rfl;rfl;rfl;rfl;(intro _ h;cases h);rfl;rfl;rfl;decide;decide;(first|omega|(simp only [List.length_take,List.length_drop,List.length_append,List.length_singleton,List.length_cons,List.length_nil]<;>omega)))|(apply Aa.Dl (a:=aY k (gi fs k));rfl;rfl;rfl;rfl;rfl;rfl;rfl;rfl;(intro _ h;cases h);rfl;rfl;rfl;decide;decide;(first|omega|(simp only [List.length_take,List.length_drop,List.length_append,List.length_singleton,List.length_cons,List.length_nil]<;>omega)))|(apply Aa.yH;rfl;rfl;rfl;rfl;rfl;decide;omega)|(apply Aa.AP (l:=ts) (i:=k);rfl;rfl;rfl;exact hk;rfl)|(apply Aa.AP (l:=fs) (i:=k);rfl;rfl;rfl;omega;rfl)|(apply Aa.a2p (i:=0);rfl;rfl;rfl;rfl;decide)|(apply Aa.a3c;rfl;rfl;rfl)|(apply Aa.a5o;rfl;rfl;rfl;rfl)|(apply Aa.a3p;rfl;rfl;rfl;trivial;rfl;rfl;decide;(simp only [List.length_cons,List.length_nil]<;>decide))|(apply Aa.assign;rfl)|(apply Aa.move;rfl)|(apply Aa.Bv;rfl;rfl;omega)|(apply Aa.a7j;rfl;rfl;omega)|(apply Aa.int;rfl;rfl;rfl)|(apply Aa.load;rfl;rfl)|(apply Aa.BI;rfl;rfl)|(apply Aa.AU;rfl;rfl;rfl)|(apply Aa.alloc;rfl)|(apply Aa.Bo;rfl;rfl;rfl;trivial;rfl;rfl;exact Ac rfl;exact le_dec rfl)|(apply Aa.build;rfl;rfl;rfl;rfl;rfl)|(apply Aa.buildSlice;rfl;rfl;rfl;decide;rfl;rfl;rfl)|(apply Aa.Lm;rfl;rfl;rfl;rfl;omega)|(apply Ad.Af;rfl)|(intro _;try (exfalso;omega)))
  all_goals try (exfalso;omega)
  refine Aw.normal ⟨by omega,?_,?_⟩
  ·repeat (first|exact Ae.nil|refine Ae.same trivial rfl ?_|refine Ae.same (Ac rfl) rfl ?_|refine Ae.same ⟨trivial,Ac rfl,trivial⟩ rfl ?_|refine Ae.same ⟨trivial,Ac rfl,Ac rfl,trivial⟩ rfl ?_|refine Ae.same ⟨trivial,Ac rfl,Ac rfl,Ac rfl,trivial⟩ rfl ?_|refine Ae.same ⟨trivial,trivial⟩ rfl ?_|refine Ae.cons trivial rfl (.of_eq (Ar (by simp<;>omega))) ?_)
  ·rw [a3,a4,a1,a2]
   repeat (first|exact Aj.nil|(refine Aj.cons (Ac rfl) ?_ rfl ?_ ?_;(first|exact HB.Ak rfl|exact AQ.Ah _ _|(simp [HB.under,AQ.under,PV.under]));(first|exact Bj.refl _|exact Bj.vec (Bh.refl _) (by simp))))
 ·repeat' (first|(refine Ad.at 9 ?_;refine Ad.ghost (((((Ba.gB 1 4 rfl rfl rfl).trans (Ba.uw 1 (cells [VZ (EI fs ts.length)]) rfl (by decide) rfl)).trans (Ba.Di 2 2 rfl rfl rfl)).trans (Ba.Di 2 1 rfl rfl rfl))) ?_;first|apply Ad.AA|apply Ad.BJ)|apply Ad.assoc|apply Ad.AA|apply Ad.AZ|apply AO.normal|apply AL.exit|apply Aw.exit|apply Ad.ret|apply Ag.nil|apply Ag.one|(apply Aa.move;rfl)|(apply Aa.int;rfl;rfl;rfl)|(apply Aa.load;rfl;rfl)|(apply Aa.BI;rfl;rfl)|(apply Aa.Bo;rfl;rfl;rfl;trivial;rfl;rfl;exact Ac rfl;exact le_dec rfl)|(apply Ad.Af;rfl)|(intro _;try (exfalso;omega)))
  all_goals try (exfalso;omega)
  all_goals (refine Done.ret (r:=.p (.agg (Enc.enc (JH ts fs)))) rfl (.p (.agg (.cons (.refl _) (.cons (.refl _) (.cons (.refl _) (.cons (.nil _) (.refl _))))))) trivial Aj.nil (Nat.zero_le _) (Nat.le_refl _) ⟨rfl,rfl,rfl⟩)
end Go.Proofs.YtdabojnmoejilaaGreatDoor
namespace Go.Proofs.YtdabojnmoejilaaGreatDoor
open Go Go.Am Go.Vm
instance b0q:Enc (List Int):={ default:=[],enc:=fun l=>[.lst 3 (cells l) l.length],size:=1,len:=fun _=>rfl }
attribute [local irreducible] Aa Ag Ap Ad BA AY CJ AO AL Aw Vm.Done Dc Bq
theorem iO (n:Nat) (hn:n<4294967296):AY env 120 [.int .u64 1,.int .u64 (n:Int)] (.EX [.p (.int .u64 0),.p (.int .u64 (n:Int))]):=by
 have e1:n &&& 4294967295=n:=by
  have:=Nat.and_two_pow_sub_one_eq_mod n 32
  rw [show (2 ^ 32-1:Nat)=4294967295 from rfl] at this
  rw [this]
  exact Nat.mod_eq_of_lt (by simpa using hn)
 have hA1:E5 .and .u64 (n:Int) 4294967295=some (.int .u64 (n:Int)):=by
  have h0:=bits_and_u64_nat n 4294967295 (by omega) (by omega)
  rw [e1] at h0
  exact congrArg (fun x=>some (FV.int .u64 x)) h0
 have hA2:E5 .mul .u64 1 (n:Int)=some (.int .u64 (n:Int)):=by
  simp only [E5,Int.one_mul];rw [wrap_u64 (by omega) (by omega)]
 have hZ:E5 .mul .u64 0 (n:Int)=some (.int .u64 0):=by
  simp only [E5,Int.zero_mul];rfl
 have hS:∀ a:Int,0≤a→a<4294967296→(FV.int .u64 0)=if BinOp.shr=.shl then FV.int .u64 (IntKind.u64.wrap (a*2 ^ (min (32:Int).toNat IntKind.u64.bits))) else .int .u64 (a.fdiv (2 ^ (min (32:Int).toNat IntKind.u64.bits))):=fun a h0 h1=>by
  rw [if_neg (by decide)]
  have e3:(min (32:Int).toNat IntKind.u64.bits)=32:=rfl
  rw [e3,Int.fdiv_eq_ediv_of_nonneg _ (by decide)]
  have:a / 2 ^ 32=0:=by omega
  rw [this]
 have k1:E5 .and .u64 1 4294967295=some (.int .u64 1):=rfl
 have k2:E5 .and .u64 0 4294967295=some (.int .u64 0):=rfl
 have k3:E5 .mul .u64 1 0=some (.int .u64 0):=rfl
 have k4:E5 .mul .u64 0 0=some (.int .u64 0):=rfl
 have k5:E5 .add .u64 0 0=some (.int .u64 0):=rfl
 refine AY.enter (AB (by decide)) Tryz.func120 rfl (by kernel_rfl) (by simp [Tryz.ntmps120]) ?_
 repeat' (first|apply Ad.AA|apply Ad.ret|apply Ag.nil|apply Ag.one|(apply Aa.shift (r:=.int .u64 0);exact .inr rfl;rfl;rfl;decide;exact hS _ (by omega) (by omega))|(apply Aa.int;rfl;rfl;exact hA1)|(apply Aa.int;rfl;rfl;exact hA2)|(apply Aa.int;rfl;rfl;exact hZ)|(apply Aa.int;rfl;rfl;exact k1)|(apply Aa.int;rfl;rfl;exact k2)|(apply Aa.assign;rfl)|(apply Aa.move;rfl))
 (refine Done.ret rfl (.refl _) (by first|exact trivial|exact ⟨trivial,trivial,trivial⟩|exact ⟨trivial,trivial,trivial,trivial⟩) Aj.nil (Nat.zero_le _) (Nat.le_refl _) ⟨?_,rfl,rfl⟩;try rfl)
theorem qC (n:Nat) (hn:n<4294967296):AY env 100 [.int .u64 1,.int .u64 (n:Int)] (.EX [.p (.int .u64 0),.p (.int .u64 (n:Int))]):=by
 have h:=iO n hn
 refine AY.enter (AB (by decide)) Tryz.func100 rfl (by kernel_rfl) (by simp [Tryz.ntmps100]) ?_
 repeat' (first|apply Ad.AA|apply Ad.Aq|apply Ad.ret|apply Ag.nil|apply Ag.one|(apply Aa.fn;rfl;rfl;exact h;intro _;rfl)|(apply Aa.assign;rfl)|(apply Aa.move;rfl)|(apply Aa.extract;rfl;rfl)|(apply Ad.Au;rfl))
 (refine Done.ret rfl (.refl _) (by first|exact trivial|exact ⟨trivial,trivial,trivial⟩|exact ⟨trivial,trivial,trivial,trivial⟩) Aj.nil (Nat.zero_le _) (Nat.le_refl _) ⟨?_,rfl,rfl⟩;try rfl)
def OX (n k:Nat) (v:Int):List Int:=List.replicate k v++List.replicate (n-k) 0
theorem Rj (n k:Nat) (v:Int) (h:k≤n):(OX n k v).length=n:=by simp [OX];omega
theorem vO (n:Nat) (v:Int):OX n n v=List.replicate n v:=by simp [OX]
theorem wQ (n:Nat) (v:Int) (h:0<n):Cc (cells (List.replicate n (0:Int))) 0 [FV.int .i64 v]=cells (OX n 1 v):=by
 have:=QU (List.replicate n (0:Int)) [v] 0 (by simp;omega)
 rw [Nat.zero_mul] at this
 show Cc (cells (List.replicate n (0:Int))) 0 (cells [v])=_
 rw [this]
 congr 1
 simp [OX]
theorem zA (n k:Nat) (v:Int) (h:k≤n):0+k*1≤(cells (OX n k v)).length:=by
 rw [BP,Rj n k v h]
 show 0+k*1≤n*1
 omega
theorem uQ (n k:Nat) (v:Int) (h:k≤n):cells (List.replicate (min k (n-k)) v)=((cells (OX n k v)).drop 0).take (min k (n-k)*1):=by
 have:=Kq (OX n k v) (min k (n-k))
 rw [List.drop_zero]
 refine Eq.trans ?_ this.symm
 congr 1
 unfold OX
 rw [List.take_append_of_le_length (by simp;omega),List.take_replicate]
 congr 1
 omega
theorem y8 (n k:Nat) (v:Int):(cells (List.replicate (min k (n-k)) v)).length=min k (n-k)*1:=by
 rw [BP,List.length_replicate];rfl
theorem oO (n k:Nat) (v:Int) (h:k≤n):0+k*1+min k (n-k)*1≤(cells (OX n k v)).length:=by
 rw [BP,Rj n k v h]
 show _≤n*1
 omega
theorem vF (n k:Nat) (v:Int) (h:k≤n):Cc (cells (OX n k v)) (0+k*1) (cells (List.replicate (min k (n-k)) v))=cells (OX n (k+min k (n-k)) v):=by
 have:=QU (OX n k v) (List.replicate (min k (n-k)) v) k (by rw [Rj n k v h];simp;omega)
 rw [Nat.zero_add]
 refine Eq.trans this ?_
 congr 1
 unfold OX
 rw [List.take_append_of_le_length (by simp),List.take_replicate,Nat.min_self,List.length_replicate,List.drop_append,List.drop_of_length_le (by simp),List.length_replicate,List.nil_append,List.drop_replicate,List.replicate_append_replicate]
 congr 2
 omega
theorem Uo (e:TypeId) (v:Int) (n:Nat) (h0:0<n) (hn:n<1000000):CJ env 71 [.lst e [.int .i64 v] 1,.int .i64 (n:Int)] 3 (cells (List.replicate n v)) n false:=by
 have hm:=qC n (by omega)
 refine CJ.enter (AB (by decide)) Tryz.func71 rfl (by kernel_rfl) (by simp [Tryz.ntmps71]) ?_
 repeat' (first|apply Ad.assoc|apply Ad.AA|apply Ad.Aq|apply Ad.Ai|apply Ag.nil|apply Ag.one|(apply Ag.take;rfl;rfl)|(apply Aa.fn;rfl;rfl;exact hm;intro _;rfl)|(apply Aa.Es n (0:Int);rfl;rfl;rfl;rfl;rfl;rfl;rfl;omega;decide;decide;rfl)|(apply Aa.copy (k:=1) (N:=1) (xs:=[.int .i64 v]);rfl;rfl;exact h0;rfl;rfl;decide;exact SlT.lst rfl rfl (Nat.le_refl 1) rfl;omega;decide;rfl;(rw [BP,List.length_replicate];show 0+1*1≤n*1;omega))|(apply Aa.assign;rfl)|(apply Aa.move;rfl)|(apply Aa.int;rfl;rfl;rfl)|(apply Aa.AV;rfl;rfl)|(apply Aa.BI;rfl;rfl)|(apply Aa.extract;rfl;rfl)|(apply Aa.Jh;rfl;rfl;rfl;rfl;omega)|(apply Aa.NP;rfl;rfl;rfl;rfl;omega)|(apply Ad.Au;rfl)|(apply Ad.Af;rfl)|(intro _;try (exfalso;omega)))
 all_goals try (exfalso;omega)
 refine Ad.Eb (fun k:Nat=>[(7,.vec 0 n 0 n),(8,.p (.int .i64 (k:Int)))]) (fun k=>[(0,.vec 3 (cells (OX n k v)) n false)]) 1 (fun k=>1≤k∧k≤n) (fun k=>n-k) 1 (by omega) ⟨by omega,by omega⟩ ⟨by omega,?_,?_⟩ ?_
 ·repeat (first|exact Ae.nil|refine Ae.same trivial rfl ?_|refine Ae.same (Ac rfl) rfl ?_|refine Ae.same ⟨trivial,Ac rfl,Ac rfl,Ac rfl,trivial⟩ rfl ?_|refine Ae.same ⟨trivial,Ac rfl,Ac rfl,trivial⟩ rfl ?_|refine Ae.same ⟨trivial,trivial⟩ rfl ?_|refine Ae.cons trivial rfl (.of_eq (Ar (by simp<;>omega))) ?_)
 ·have:=wQ n v h0
  rw [this]
  repeat (first|exact Aj.nil|(refine Aj.cons (Ac rfl) ?_ rfl ?_ ?_;(first|exact HB.Ak rfl|exact AQ.Ah _ _|(simp [HB.under,AQ.under,PV.under]));(first|exact Bj.refl _|exact Bj.vec (Bh.refl _) (by simp))))
 ·rintro k ⟨k1,k2⟩
  have hl:=Rj n k v k2
  by_cases hk:k<n
  ·repeat' (first|apply Ad.assoc|apply Ad.AA|apply Ad.FP|apply Ad.Aq|apply AL.normal|apply Ad.II|apply Ag.nil|apply Ap.nil|apply Ag.one|(apply Ap.bar;decide +kernel)|apply Ap.quiet|(apply Aa.aA (sz:=1) (a:=k) (c:=n);rfl;rfl;exact h0;rfl;rfl;rfl;exact ⟨_,rfl⟩;rfl;omega;exact Nat.le_refl _)|(apply Aa.aA (sz:=1) (a:=0) (c:=k);rfl;rfl;exact h0;rfl;rfl;rfl;rfl;exact ⟨_,rfl⟩;omega;exact k2)|(apply Aa.copy (k:=min k (n-k)) (N:=k) (xs:=cells (List.replicate (min k (n-k)) v));rfl;rfl;exact h0;rfl;rfl;decide;exact SlT.vec rfl rfl h0 (zA n k v k2) (by omega) (uQ n k v k2);rfl;omega;exact y8 n k v;exact oO n k v k2)|(apply Aa.assign;rfl)|(apply Aa.move;rfl)|(apply Aa.Bv;rfl;rfl;omega)|(apply Aa.int;rfl;rfl;rfl)|(apply Aa.lenV;rfl;rfl;rfl)|(apply Ad.Af;rfl)|(intro _;try (exfalso;omega)))
   refine Aw.normal ⟨k+min k (n-k),⟨by omega,by omega⟩,by omega,⟨by omega,?_,?_⟩⟩
   ·repeat (first|exact Ae.nil|refine Ae.same trivial rfl ?_|refine Ae.same (Ac rfl) rfl ?_|refine Ae.same ⟨trivial,Ac rfl,Ac rfl,Ac rfl,trivial⟩ rfl ?_|refine Ae.same ⟨trivial,Ac rfl,Ac rfl,trivial⟩ rfl ?_|refine Ae.same ⟨trivial,trivial⟩ rfl ?_|refine Ae.cons trivial rfl (.of_eq (Ar (by simp<;>omega))) ?_)
   ·rw [vF n k v k2]
    repeat (first|exact Aj.nil|(refine Aj.cons (Ac rfl) ?_ rfl ?_ ?_;(first|exact HB.Ak rfl|exact AQ.Ah _ _|(simp [HB.under,AQ.under,PV.under]));(first|exact Bj.refl _|exact Bj.vec (Bh.refl _) (by simp))))
  ·obtain rfl:k=n:=by omega
   repeat' (first|apply Ad.assoc|apply Ad.AA|apply Ad.AZ|apply AO.normal|apply AL.exit|apply Aw.exit|apply Ad.ret|apply Ag.nil|apply Ag.one|(apply Aa.assign;rfl)|(apply Aa.move;rfl)|(apply Aa.int;rfl;rfl;rfl)|(apply Aa.lenV;rfl;rfl;rfl)|(apply Ad.Af;rfl)|(intro _;try (exfalso;omega)))
   rw [vO]
   exact Dc.ret rfl rfl rfl rfl
end Go.Proofs.YtdabojnmoejilaaGreatDoor
namespace Go.Proofs.YtdabojnmoejilaaGreatDoor
open Go Go.Am Go.Vm Go.Tra
attribute [local irreducible] Aa Ag Ap Ad BA AY CJ AO AL Aw Vm.Done Dc Bq
attribute [local irreducible] D8 DT Jp KX TG BZ
def rW (F T:ET) (a b:PN):Int:=(BZ (EY T b).Dp (EY F a).Dp).1
def ShB (F T:ET):Prop:=∀ a b,Hy F a→Hy T b→(BZ (EY T b).Dp (EY F a).Dp).2=0∧-1000≤rW F T a b∧rW F T a b≤1000
def Jk (F T:ET) (w:aP) (a b:PN):Int :=
 (if Nh F a=Nh T b then 0 else w.EC)+w.FN*max (rW F T a b) (-rW F T a b)+(if (gi F.Az a.d).Dk=(gi T.Az b.d).Dk then 0 else w.Dk)
theorem Nw {w:aP} (h:Nc w):(0≤w.EC∧w.EC≤100000)∧(0≤w.FN∧w.FN≤100000)∧(0≤w.Dk∧w.Dk≤100000)∧(0≤w.miss∧w.miss≤100000):=⟨h 0 (by omega),h 1 (by omega),h 2 (by omega),h 3 (by omega)⟩
theorem NS {w:aP} (h:Nc w) {n:Int} (h1:-1000≤n) (h2:n≤1000):0≤w.FN*max n (-n)∧w.FN*max n (-n)≤100000000:=by
 obtain ⟨_,⟨p1,p2⟩,_,_⟩:=Nw h
 have m1:0≤max n (-n):=by omega
 have m2:max n (-n)≤1000:=by omega
 refine ⟨Int.mul_nonneg p1 m1,?_⟩
 have:=Int.mul_le_mul p2 m2 m1 (by omega)
 omega
theorem lW {F T:ET} {w:aP} (h:Nc w) (hs:ShB F T) {a b:PN} (ha:Hy F a) (hb:Hy T b):0≤Jk F T w a b∧Jk F T w a b≤101000000:=by
 obtain ⟨t,_,p,_⟩:=Nw h
 obtain ⟨_,s1,s2⟩:=hs a b ha hb
 have:=NS h s1 s2
 unfold Jk
 generalize w.FN*max (rW F T a b) (-rW F T a b)=P at *
 split<;>split<;>omega
theorem kL (q:RJ) (k1:Jl q.BD) (k2:Jl q.tgt) (hw:Nc q.DX) (hs:ShB q.BD q.tgt) (a b:PN) (ha:Hy q.BD a) (hb:Hy q.tgt b) :
 AY env 66 [.agg (Enc.enc q),.agg (Enc.enc a),.agg (Enc.enc b)] (.EX [.p (.int .i64 (Jk q.BD q.tgt q.DX a b)),.p (.int .i64 0)]):=by
 obtain ⟨t,_,p,_⟩:=Nw hw
 obtain ⟨s0,s1,s2⟩:=hs a b ha hb
 have hP:=NS hw s1 s2
 have h1:=WB q.BD k1 a ha
 have h2:=WB q.tgt k2 b hb
 have h3:=PS q.BD k1 a ha
 have h4:=PS q.tgt k2 b hb
 have h5:=KE (EY q.tgt b).Dp (EY q.BD a).Dp
 rw [s0,show (BZ (EY q.tgt b).Dp (EY q.BD a).Dp).1=rW q.BD q.tgt a b from rfl] at h5
 unfold Jk
 generalize rW q.BD q.tgt a b=n at *
 generalize hPP:q.DX.FN*max n (-n)=P at *
 have hmul:-9223372036854775808≤q.DX.FN*max n (-n)∧q.DX.FN*max n (-n)<9223372036854775808:=by rw [hPP];omega
 obtain ⟨a1,a2⟩:=ha
 obtain ⟨b1,b2⟩:=hb
 refine AY.enter (AB (by decide)) Tryz.func66 rfl (by kernel_rfl) (by simp [Tryz.ntmps66]) ?_
 by_cases e1:Nh q.BD a=Nh q.tgt b
 ·rw [if_pos e1]
  have d1:=decide_eq_true e1
  by_cases e2:(gi q.BD.Az a.d).Dk=(gi q.tgt.Az b.d).Dk
  ·rw [if_pos e2]
   have d2:((gi q.BD.Az a.d).Dk != (gi q.tgt.Az b.d).Dk)=false:=by rw [e2];simp
   repeat' (first|apply Ad.assoc|apply Ad.AA|apply Ad.BJ|apply Ad.Aq|apply Ad.ret|apply Ag.nil|apply Ap.nil|apply Ag.one|(apply Ap.bar;decide +kernel)|apply Ap.quiet|(apply Aa.fn;rfl;rfl;exact h1;intro _;rfl)|(apply Aa.fn;rfl;rfl;exact h2;intro _;rfl)|(apply Aa.fn;rfl;rfl;exact h3;intro _;rfl)|(apply Aa.fn;rfl;rfl;exact h4;intro _;rfl)|(apply Aa.fn;rfl;rfl;exact h5;intro _;rfl)|(apply Aa.VJ;rfl;rfl;rfl;rfl)|(apply Aa.gZ;rfl;rfl;exact d1)|(apply Aa.gW;rfl;rfl;rfl;exact d2)|(apply Aa.Iy;rfl;rfl;exact hmul)|(apply Aa.AP (l:=q.BD.Az) (i:=a.d);rfl;rfl;rfl;exact a1;rfl)|(apply Aa.AP (l:=q.tgt.Az) (i:=b.d);rfl;rfl;rfl;exact b1;rfl)|(apply Aa.assign;rfl)|(apply Aa.move;rfl)|(apply Aa.Bv;rfl;rfl;omega)|(apply Aa.int;rfl;rfl;rfl)|(apply Aa.load;rfl;rfl)|(apply Aa.AU;rfl;rfl;rfl)|(apply Aa.DK;rfl;rfl)|(apply Aa.box;rfl;trivial)|(apply Aa.neg;rfl;omega)|(apply Aa.X8;rfl;rfl)|(apply Aa.extract;rfl;rfl)|(apply Ad.Au;rfl))
   all_goals try (exfalso;omega)
   all_goals (refine Done.ret rfl (.refl _) (by first|exact trivial|exact ⟨trivial,trivial,trivial⟩|exact ⟨trivial,trivial,trivial,trivial⟩) Aj.nil (Nat.zero_le _) (Nat.le_refl _) ⟨?_,rfl,rfl⟩;refine congrArg (fun x=>PV.EX [PV.p (FV.int .i64 x),PV.p (FV.int .i64 0)]) ?_;omega)
  ·rw [if_neg e2]
   have d2:((gi q.BD.Az a.d).Dk != (gi q.tgt.Az b.d).Dk)=true:=by simp [e2]
   repeat' (first|apply Ad.assoc|apply Ad.AA|apply Ad.BJ|apply Ad.Aq|apply Ad.ret|apply Ag.nil|apply Ap.nil|apply Ag.one|(apply Ap.bar;decide +kernel)|apply Ap.quiet|(apply Aa.fn;rfl;rfl;exact h1;intro _;rfl)|(apply Aa.fn;rfl;rfl;exact h2;intro _;rfl)|(apply Aa.fn;rfl;rfl;exact h3;intro _;rfl)|(apply Aa.fn;rfl;rfl;exact h4;intro _;rfl)|(apply Aa.fn;rfl;rfl;exact h5;intro _;rfl)|(apply Aa.VJ;rfl;rfl;rfl;rfl)|(apply Aa.gZ;rfl;rfl;exact d1)|(apply Aa.gW;rfl;rfl;rfl;exact d2)|(apply Aa.Iy;rfl;rfl;exact hmul)|(apply Aa.AP (l:=q.BD.Az) (i:=a.d);rfl;rfl;rfl;exact a1;rfl)|(apply Aa.AP (l:=q.tgt.Az) (i:=b.d);rfl;rfl;rfl;exact b1;rfl)|(apply Aa.assign;rfl)|(apply Aa.move;rfl)|(apply Aa.Bv;rfl;rfl;omega)|(apply Aa.int;rfl;rfl;rfl)|(apply Aa.load;rfl;rfl)|(apply Aa.AU;rfl;rfl;rfl)|(apply Aa.DK;rfl;rfl)|(apply Aa.box;rfl;trivial)|(apply Aa.neg;rfl;omega)|(apply Aa.X8;rfl;rfl)|(apply Aa.extract;rfl;rfl)|(apply Ad.Bd;rfl)|(apply Ad.Au;rfl))
   all_goals try (exfalso;omega)
   all_goals (refine Done.ret rfl (.refl _) (by first|exact trivial|exact ⟨trivial,trivial,trivial⟩|exact ⟨trivial,trivial,trivial,trivial⟩) Aj.nil (Nat.zero_le _) (Nat.le_refl _) ⟨?_,rfl,rfl⟩;refine congrArg (fun x=>PV.EX [PV.p (FV.int .i64 x),PV.p (FV.int .i64 0)]) ?_;omega)
 ·rw [if_neg e1]
  have d1:=decide_eq_false e1
  by_cases e2:(gi q.BD.Az a.d).Dk=(gi q.tgt.Az b.d).Dk
  ·rw [if_pos e2]
   have d2:((gi q.BD.Az a.d).Dk != (gi q.tgt.Az b.d).Dk)=false:=by rw [e2];simp
   repeat' (first|apply Ad.assoc|apply Ad.AA|apply Ad.BJ|apply Ad.Aq|apply Ad.ret|apply Ag.nil|apply Ap.nil|apply Ag.one|(apply Ap.bar;decide +kernel)|apply Ap.quiet|(apply Aa.fn;rfl;rfl;exact h1;intro _;rfl)|(apply Aa.fn;rfl;rfl;exact h2;intro _;rfl)|(apply Aa.fn;rfl;rfl;exact h3;intro _;rfl)|(apply Aa.fn;rfl;rfl;exact h4;intro _;rfl)|(apply Aa.fn;rfl;rfl;exact h5;intro _;rfl)|(apply Aa.VJ;rfl;rfl;rfl;rfl)|(apply Aa.gZ;rfl;rfl;exact d1)|(apply Aa.gW;rfl;rfl;rfl;exact d2)|(apply Aa.Iy;rfl;rfl;exact hmul)|(apply Aa.AP (l:=q.BD.Az) (i:=a.d);rfl;rfl;rfl;exact a1;rfl)|(apply Aa.AP (l:=q.tgt.Az) (i:=b.d);rfl;rfl;rfl;exact b1;rfl)|(apply Aa.assign;rfl)|(apply Aa.move;rfl)|(apply Aa.Bv;rfl;rfl;omega)|(apply Aa.int;rfl;rfl;rfl)|(apply Aa.load;rfl;rfl)|(apply Aa.AU;rfl;rfl;rfl)|(apply Aa.DK;rfl;rfl)|(apply Aa.box;rfl;trivial)|(apply Aa.neg;rfl;omega)|(apply Aa.X8;rfl;rfl)|(apply Aa.extract;rfl;rfl)|(apply Ad.Bd;rfl)|(apply Ad.Au;rfl))
   all_goals try (exfalso;omega)
   all_goals (refine Done.ret rfl (.refl _) (by first|exact trivial|exact ⟨trivial,trivial,trivial⟩|exact ⟨trivial,trivial,trivial,trivial⟩) Aj.nil (Nat.zero_le _) (Nat.le_refl _) ⟨?_,rfl,rfl⟩;refine congrArg (fun x=>PV.EX [PV.p (FV.int .i64 x),PV.p (FV.int .i64 0)]) ?_;omega)
  ·rw [if_neg e2]
   have d2:((gi q.BD.Az a.d).Dk != (gi q.tgt.Az b.d).Dk)=true:=by simp [e2]
   repeat' (first|apply Ad.assoc|apply Ad.AA|apply Ad.BJ|apply Ad.Aq|apply Ad.ret|apply Ag.nil|apply Ap.nil|apply Ag.one|(apply Ap.bar;decide +kernel)|apply Ap.quiet|(apply Aa.fn;rfl;rfl;exact h1;intro _;rfl)|(apply Aa.fn;rfl;rfl;exact h2;intro _;rfl)|(apply Aa.fn;rfl;rfl;exact h3;intro _;rfl)|(apply Aa.fn;rfl;rfl;exact h4;intro _;rfl)|(apply Aa.fn;rfl;rfl;exact h5;intro _;rfl)|(apply Aa.VJ;rfl;rfl;rfl;rfl)|(apply Aa.gZ;rfl;rfl;exact d1)|(apply Aa.gW;rfl;rfl;rfl;exact d2)|(apply Aa.Iy;rfl;rfl;exact hmul)|(apply Aa.AP (l:=q.BD.Az) (i:=a.d);rfl;rfl;rfl;exact a1;rfl)|(apply Aa.AP (l:=q.tgt.Az) (i:=b.d);rfl;rfl;rfl;exact b1;rfl)|(apply Aa.assign;rfl)|(apply Aa.move;rfl)|(apply Aa.Bv;rfl;rfl;omega)|(apply Aa.int;rfl;rfl;rfl)|(apply Aa.load;rfl;rfl)|(apply Aa.AU;rfl;rfl;rfl)|(apply Aa.DK;rfl;rfl)|(apply Aa.box;rfl;trivial)|(apply Aa.neg;rfl;omega)|(apply Aa.X8;rfl;rfl)|(apply Aa.extract;rfl;rfl)|(apply Ad.Bd;rfl)|(apply Ad.Au;rfl))
   all_goals try (exfalso;omega)
   all_goals (refine Done.ret rfl (.refl _) (by first|exact trivial|exact ⟨trivial,trivial,trivial⟩|exact ⟨trivial,trivial,trivial,trivial⟩) Aj.nil (Nat.zero_le _) (Nat.le_refl _) ⟨?_,rfl,rfl⟩;refine congrArg (fun x=>PV.EX [PV.p (FV.int .i64 x),PV.p (FV.int .i64 0)]) ?_;omega)
def Ku (F T:ET) (w:aP) (a:PN) (k:Nat):List Int:=((BG T).take k).map (Jk F T w a)
theorem Qq (F T:ET) (w:aP) (a:PN) {k:Nat} (h:k≤(BG T).length):(Ku F T w a k).length=k:=by unfold Ku;rw [List.length_map,List.length_take];omega
theorem Yn (F T:ET) (w:aP) (a:PN) {k:Nat} (h:k<(BG T).length):Ku F T w a (k+1)=Ku F T w a k++[Jk F T w a (gi (BG T) k)]:=by unfold Ku;rw [Dz h,List.map_append];rfl
def F7 (F T:ET) (r:Rgs) (w:aP) (k:Nat):List (List Int):=((Bc F r).take k).map fun a=>Ku F T w a (BG T).length
def KN (F T:ET) (r:Rgs) (w:aP):List (List Int):=(Bc F r).map fun a=>(BG T).map (Jk F T w a)
theorem Y0 (F T:ET) (r:Rgs) (w:aP) {k:Nat} (h:k≤(Bc F r).length):(F7 F T r w k).length=k:=by unfold F7;rw [List.length_map,List.length_take];omega
theorem WI (F T:ET) (r:Rgs) (w:aP) {k:Nat} (h:k<(Bc F r).length):F7 F T r w (k+1)=F7 F T r w k++[Ku F T w (gi (Bc F r) k) (BG T).length]:=by unfold F7;rw [Dz h,List.map_append];rfl
theorem Zd (F T:ET) (r:Rgs) (w:aP):F7 F T r w (Bc F r).length=KN F T r w:=by
 unfold F7 KN Ku
 rw [List.take_of_length_le (Nat.le_refl _),List.take_of_length_le (Nat.le_refl _)]
theorem Ya (q:RJ) (k1:Jl q.BD) (k2:Jl q.tgt) (hw:Nc q.DX) (hs:ShB q.BD q.tgt) (hr:q.reg.Ok) (hl:q.reg.stops.length=q.BD.Az.length) :
 AY env 43 [.agg (Enc.enc q)] (.EX [.p (.lst 52 (cells (KN q.BD q.tgt q.reg q.DX)) (KN q.BD q.tgt q.reg q.DX).length),.p (.int .i64 0)]):=by
 have hdr:=UQ q.BD k1 q.reg hr hl
 have b1:=EM k2
 have b2:(Bc q.BD q.reg).length≤480:=by
  have:=EM k1
  have:(Bc q.BD q.reg).length≤(BG q.BD).length:=List.length_filter_le _ _
  omega
 refine AY.enter (AB (by decide)) Tryz.func43 rfl (by kernel_rfl) (by simp [Tryz.ntmps43]) ?_
 repeat' (first|apply Ad.assoc|apply Ad.AA|apply Ad.Ai|apply Ag.nil|apply Ag.one|(apply Aa.fn;rfl;rfl;exact hdr;intro _;rfl)|(apply Aa.assign;rfl)|(apply Aa.move;rfl)|(apply Aa.load;rfl;rfl)|(apply Aa.BI;rfl;rfl)|(apply Aa.AU;rfl;rfl;rfl)|(apply Aa.box;rfl;trivial)|(apply Aa.alloc;rfl))
 all_goals try (exfalso;omega)
 refine Ad.ghost (Ba.adopt 4 52 rfl) ?_
 apply Ad.Fe ((Bc q.BD q.reg).length) [(1,_),(2,_),(3,_),(15,_),(16,_)] [(0,_),(1,_),(2,_)] (fun k r=>(4,.vec 3 (F7 q.BD q.tgt q.reg q.DX k).length 0 (F7 q.BD q.tgt q.reg q.DX k).length)::(17,.p (.int .i64 (k:Int)))::r) (fun k r=>(3,.vec 52 (cells (F7 q.BD q.tgt q.reg q.DX k)) (F7 q.BD q.tgt q.reg q.DX k).length true)::r) 4
 ·first|omega|decide
 ·first|omega|decide
 ·repeat (first|exact Ae.nil|(refine Ae.eq rfl ?_ ?_;(first|exact PV.Ak rfl|(simp [PV.under,AQ.under];done)))|refine Ae.cons trivial rfl (.of_eq (Ar (by simp<;>omega))) ?_)
 ·repeat (first|exact Aj.nil|(refine Aj.eq rfl (Ac rfl) ?_ ?_;(first|exact HB.Ak rfl|exact AQ.Ah _ _|(simp [HB.under,AQ.under,PV.under];done)))|(refine Aj.cons (Ac rfl) ?_ rfl ?_ ?_;(first|exact trivial|exact AQ.Ah _ _|(simp [HB.under,AQ.under,PV.under]));(first|exact Bj.refl _|exact Bj.vec (Bh.refl _) (by simp))))
 ·intro k hk
  have ha:Hy q.BD (gi (Bc q.BD q.reg) k):=RX (Zy hk)
  have e1:=WI q.BD q.tgt q.reg q.DX hk
  have e2:(F7 q.BD q.tgt q.reg q.DX (k+1)).length=(F7 q.BD q.tgt q.reg q.DX k).length+1:=by rw [e1];simp
  have e3:=Y0 q.BD q.tgt q.reg q.DX (Nat.le_of_lt hk)
  repeat' (first|apply Ad.assoc|apply Ad.AA|apply Ad.Aq|apply Ad.Ai|(apply Bq.ret;rfl)|apply Ad.ret|apply Ag.nil|apply Ag.one|(apply Vq;rfl;rfl;rfl;exact le_dec rfl)|(apply Aa.makeFunc;rfl;rfl)|(apply Aa.assign;rfl)|(apply Aa.int;rfl;rfl;rfl)|(apply Aa.AP;rfl;rfl;rfl;omega;rfl)|(apply Aa.load;rfl;rfl)|(apply Aa.AU;rfl;rfl;rfl)|(apply Aa.box;rfl;trivial)|(apply Aa.alloc;rfl)|(apply Aa.Bo;rfl;rfl;rfl;trivial;rfl;rfl;exact Ac rfl;exact le_dec rfl)|(apply Aa.buildSlice;rfl;rfl;rfl;decide;rfl;rfl;rfl)|(apply Ad.Af;rfl)|(intro _;try (exfalso;omega)))
  all_goals try (exfalso;omega)
  refine Ad.WQ (BG q.tgt).length (fun j=>[.agg (Enc.enc (gi (BG q.tgt) j))]) (fun j=>VL (gi (BG q.tgt) j)) [(1,.ref 0 0),(2,.ref 1 0),(3,.ref 2 0),(4,.vec 3 (F7 q.BD q.tgt q.reg q.DX k).length 0 (F7 q.BD q.tgt q.reg q.DX k).length),(6,.ref 4 0),(7,.ref 6 0),(15,.p (.lst 85 (cells (Bc q.BD q.reg)) (Bc q.BD q.reg).length)),(16,.p (.int .i64 ((Bc q.BD q.reg).length:Int))),(17,.p (.int .i64 (k:Int)))]
   (fun j=>[(6,.box 52 [.vec 5 (Ku q.BD q.tgt q.DX (gi (Bc q.BD q.reg) k) j).length 0 (Ku q.BD q.tgt q.DX (gi (Bc q.BD q.reg) k) j).length]),(5,.vec 3 (cells (Ku q.BD q.tgt q.DX (gi (Bc q.BD q.reg) k) j)) (Ku q.BD q.tgt q.DX (gi (Bc q.BD q.reg) k) j).length false),(4,.box 85 ((Enc.enc (gi (Bc q.BD q.reg) k)).map .p)),
    (3,.vec 52 (cells (F7 q.BD q.tgt q.reg q.DX k)) (F7 q.BD q.tgt q.reg q.DX k).length true),(0,.box 45 ((Enc.enc q).map .p)),(1,.box 47 [.p (.val (.slice none 0 0))]),(2,.box 48 [.p (.int .i64 0)])]) 7 (fun _=>True)
   rfl rfl Tryz.func81 rfl YE (Y4 q.tgt) (fun _ _=>rfl) (fun _ _=>rfl) (fun k _ m F=>.cons (.agg (.cons (.int _ _) (.cons (.int _ _) .nil)) rfl) .nil) (by omega) ⟨by omega,?_,?_⟩ ?_ (VE k2) trivial ?_ ?_
  ·repeat (first|exact Ae.nil|refine Ae.same trivial rfl ?_|refine Ae.same (Ac rfl) rfl ?_|refine Ae.same ⟨trivial,Ac rfl,trivial⟩ rfl ?_|refine Ae.same ⟨trivial,Ac rfl,Ac rfl,trivial⟩ rfl ?_|refine Ae.same ⟨trivial,Ac rfl,Ac rfl,Ac rfl,trivial⟩ rfl ?_|refine Ae.same ⟨trivial,trivial⟩ rfl ?_|refine Ae.cons trivial rfl (.of_eq (Ar (by simp<;>omega))) ?_)
  ·repeat (first|exact Aj.nil|(refine Aj.cons (Ac rfl) ?_ rfl ?_ ?_;(first|exact HB.Ak rfl|exact AQ.Ah _ _|(simp [HB.under,AQ.under,PV.under]));(first|exact Bj.refl _|exact Bj.vec (Bh.refl _) (by simp))))
  ·repeat (first|exact Ae.nil|refine Ae.same trivial rfl ?_|refine Ae.same (Ac rfl) rfl ?_|refine Ae.same ⟨trivial,Ac rfl,trivial⟩ rfl ?_|refine Ae.same ⟨trivial,Ac rfl,Ac rfl,trivial⟩ rfl ?_|refine Ae.same ⟨trivial,Ac rfl,Ac rfl,Ac rfl,trivial⟩ rfl ?_|refine Ae.same ⟨trivial,trivial⟩ rfl ?_|refine Ae.cons trivial rfl (.of_eq (Ar (by simp<;>omega))) ?_)
  ·intro j hj _
   have hb:Hy q.tgt (gi (BG q.tgt) j):=QB hj
   have hlo:=kL q k1 k2 hw hs _ _ ha hb
   have f1:=Yn q.BD q.tgt q.DX (gi (Bc q.BD q.reg) k) hj
   have f2:(Ku q.BD q.tgt q.DX (gi (Bc q.BD q.reg) k) (j+1)).length=(Ku q.BD q.tgt q.DX (gi (Bc q.BD q.reg) k) j).length+1:=by rw [f1];simp
   have f3:=Qq q.BD q.tgt q.DX (gi (Bc q.BD q.reg) k) (Nat.le_of_lt hj)
   repeat' (first|apply Ad.region|apply Ag.nil|apply Ag.one|(apply Aa.alloc;rfl)|(apply Aa.Bo;rfl;rfl;rfl;trivial;rfl;rfl;exact Ac rfl;exact le_dec rfl))
   refine ⟨rfl,?_⟩
   repeat' (first|apply Ad.assoc|apply Ad.AA|apply Ad.region|apply Ad.Aq|apply AL.normal|apply Ad.II|apply Ag.nil|apply Ag.one|(apply Aa.fn;rfl;rfl;exact hlo;intro _;rfl)|(apply Aa.Dl (a:=Jk q.BD q.tgt q.DX (gi (Bc q.BD q.reg) k) (gi (BG q.tgt) j));rfl;rfl;rfl;rfl;rfl;rfl;rfl;rfl;(intro _ h;cases h);rfl;rfl;rfl;decide;decide;(first|omega|(simp only [List.length_take,List.length_drop,List.length_append,List.length_singleton,List.length_cons,List.length_nil]<;>omega)))|(apply Aa.assign;rfl)|(apply Aa.move;rfl)|(apply Aa.int;rfl;rfl;rfl)|(apply Aa.load;rfl;rfl)|(apply Aa.Bo;rfl;rfl;rfl;trivial;rfl;rfl;exact Ac rfl;exact le_dec rfl)|(apply Aa.buildSlice;rfl;rfl;rfl;decide;rfl;rfl;rfl)|(apply Aa.extract;rfl;rfl)|(apply Ad.Au;rfl))
   all_goals try (exfalso;omega)
   refine ⟨trivial,by omega,?_⟩
   rw [f2,f1]
   repeat (first|exact Aj.nil|(refine Aj.cons (Ac rfl) ?_ rfl ?_ ?_;(first|exact HB.Ak rfl|exact AQ.Ah _ _|(simp [HB.under,AQ.under,PV.under]));(first|exact Bj.refl _|exact Bj.vec (Bh.refl _) (by simp))))
  ·intro _
   have f3:=Qq q.BD q.tgt q.DX (gi (Bc q.BD q.reg) k) (Nat.le_refl (BG q.tgt).length)
   repeat' (first|(refine Ad.atEnd 12 ?_;refine Ad.ghost (Ba.Di 6 0 rfl rfl rfl) ?_;first|apply Ad.region|apply Ad.FP)|apply Ad.region|apply AO.normal|apply AL.normal|apply Ag.nil|apply Ag.one|(apply Aa.Dl (a:=Ku q.BD q.tgt q.DX (gi (Bc q.BD q.reg) k) (BG q.tgt).length);rfl;rfl;rfl;rfl;rfl;rfl;rfl;rfl;(intro _ h;cases h);rfl;rfl;rfl;decide;decide;(first|omega|(simp only [List.length_take,List.length_drop,List.length_append,List.length_singleton,List.length_cons,List.length_nil]<;>omega)))|(apply Aa.assign;rfl)|(apply Aa.move;rfl)|(apply Aa.Bv;rfl;rfl;omega)|(apply Aa.load;rfl;rfl)|(apply Aa.buildSlice;rfl;rfl;rfl;decide;rfl;rfl;rfl))
   all_goals try (exfalso;omega)
   refine Aw.normal ⟨by omega,?_,?_⟩
   ·rw [e2]
    repeat (first|exact Ae.nil|refine Ae.same trivial rfl ?_|refine Ae.same (Ac rfl) rfl ?_|refine Ae.same ⟨trivial,Ac rfl,trivial⟩ rfl ?_|refine Ae.same ⟨trivial,Ac rfl,Ac rfl,trivial⟩ rfl ?_|refine Ae.same ⟨trivial,Ac rfl,Ac rfl,Ac rfl,trivial⟩ rfl ?_|refine Ae.same ⟨trivial,trivial⟩ rfl ?_|refine Ae.cons trivial rfl (.of_eq (Ar (by simp<;>omega))) ?_)
   ·rw [e2,e1]
    repeat (first|exact Aj.nil|(refine Aj.cons (Ac rfl) ?_ rfl ?_ ?_;(first|exact HB.Ak rfl|exact AQ.Ah _ _|(simp [HB.under,AQ.under,PV.under]));(first|exact Bj.refl _|exact Bj.vec (Bh.refl _) (by simp))))
 ·rw [Zd]
  repeat' (first|(refine Ag.IX 45 ?_;refine Ag.ghost (Ba.freeze 4 rfl rfl) ?_)|apply Ad.AA|apply Ad.AZ|apply AO.normal|apply AL.exit|apply Aw.exit|apply Ad.ret|apply Ag.nil|apply Ag.one|(apply Aa.move;rfl)|(apply Aa.int;rfl;rfl;rfl)|(apply Aa.Bo;rfl;rfl;rfl;trivial;rfl;rfl;exact Ac rfl;exact le_dec rfl)|(apply Ad.Af;rfl)|(intro _;try (exfalso;omega)))
  all_goals first|(exfalso;omega)|(refine Done.ret rfl (.refl _) (by first|exact trivial|exact ⟨trivial,trivial,trivial⟩|exact ⟨trivial,trivial,trivial,trivial⟩) Aj.nil (Nat.zero_le _) (Nat.le_refl _) ⟨?_,rfl,rfl⟩;try rfl)
end Go.Proofs.YtdabojnmoejilaaGreatDoor
namespace Go.Hun
open Go.Vm
structure Ix where
 n:Nat
instance:Enc Ix:={ default:=⟨0⟩,enc:=fun x=>[.int .i64 (x.n:Int)],size:=1,len:=fun _=>rfl }
instance:Inhabited Ix:=⟨⟨0⟩⟩
instance a6s:Enc Bool:={ default:=false,enc:=fun b=>[.bool b],size:=1,len:=fun _=>rfl }
def far:Int:=1152921504606846976
structure rZ where
 least:List Int
 way:List Ix
 delta:Int
 next:Nat
def Uf (row:List Int) (ur:Int) (v:List Int) (k:Nat):Int:=gi row (k-1)-ur-gi v k
def Ld (row:List Int) (ur:Int) (v:List Int) (done:List Bool) (a:Nat) (s:rZ) (k:Nat):rZ :=
 if gi done k=true then s
 else if Uf row ur v k<gi s.least k then
  (if Uf row ur v k<s.delta then ⟨s.least.set k (Uf row ur v k),s.way.set k ⟨a⟩,Uf row ur v k,k⟩ else ⟨s.least.set k (Uf row ur v k),s.way.set k ⟨a⟩,s.delta,s.next⟩)
 else if gi s.least k<s.delta then ⟨s.least,s.way,gi s.least k,k⟩ else s
def KD (row:List Int) (ur:Int) (v:List Int) (done:List Bool) (a:Nat) (s0:rZ):Nat→rZ
 |0=>s0
 |j+1=>Ld row ur v done a (KD row ur v done a s0 j) (j+1)
structure yw where
 u:List Int
 v:List Int
 least:List Int
def TB (owner:List Ix) (done:List Bool) (delta:Int) (t:yw) (k:Nat):yw :=
 if gi done k=true then ⟨t.u.set (gi owner k).n (gi t.u (gi owner k).n+delta),t.v.set k (gi t.v k-delta),t.least⟩ else ⟨t.u,t.v,t.least.set k (gi t.least k-delta)⟩
def Ih (owner:List Ix) (done:List Bool) (delta:Int) (t:yw):Nat→yw
 |0=>t
 |k+1=>TB owner done delta (Ih owner done delta t k) k
structure Gr where
 u:List Int
 v:List Int
 way:List Ix
 least:List Int
 done:List Bool
 at_:Nat
def CO (g:Gr):List Bool:=g.done.set g.at_ true
def DV (costs:List (List Int)) (owner:List Ix) (m:Nat) (g:Gr):rZ :=
 KD (gi costs ((gi owner g.at_).n-1)) (gi g.u (gi owner g.at_).n) g.v (CO g) g.at_ ⟨g.least,g.way,far,0⟩ m
def Je (costs:List (List Int)) (owner:List Ix) (m:Nat) (g:Gr):yw :=
 Ih owner (CO g) (DV costs owner m g).delta ⟨g.u,g.v,(DV costs owner m g).least⟩ (m+1)
def GN (costs:List (List Int)) (owner:List Ix) (m:Nat) (g:Gr):Gr :=
 ⟨(Je costs owner m g).u,(Je costs owner m g).v,(DV costs owner m g).way,(Je costs owner m g).least,CO g,(DV costs owner m g).next⟩
def Ei (costs:List (List Int)) (owner:List Ix) (m:Nat) (g0:Gr):Nat→Gr
 |0=>g0
 |t+1=>GN costs owner m (Ei costs owner m g0 t)
def UH (costs:List (List Int)) (owner:List Ix) (m:Nat) (g0:Gr):Nat→Nat→Nat
 |0,t=>t
 |f+1,t=>if (gi owner (Ei costs owner m g0 t).at_).n=0 then t else UH costs owner m g0 f (t+1)
structure Aug where
 owner:List Ix
 at_:Nat
def kF (way:List Ix) (a:Aug):Aug:=⟨a.owner.set a.at_ (gi a.owner (gi way a.at_).n),(gi way a.at_).n⟩
def G7 (way:List Ix) (a:Aug):Nat→Aug
 |0=>a
 |t+1=>kF way (G7 way a t)
def dG (way:List Ix) (a:Aug):Nat→Nat→Nat
 |0,t=>t
 |f+1,t=>if (G7 way a t).at_=0 then t else dG way a f (t+1)
structure kT where
 u:List Int
 v:List Int
 owner:List Ix
 way:List Ix
def Ri (m:Nat) (s:kT):Gr:=⟨s.u,s.v,s.way,List.replicate (m+1) far,List.replicate (m+1) false,0⟩
def Jg (s:kT) (i:Nat):List Ix:=s.owner.set 0 ⟨i⟩
def XR (costs:List (List Int)) (m:Nat) (s:kT) (i:Nat):Nat:=UH costs (Jg s i) m (Ri m s) (m+2) 0
def MS (costs:List (List Int)) (m:Nat) (s:kT) (i:Nat):Gr:=Ei costs (Jg s i) m (Ri m s) (XR costs m s i)
def stA (costs:List (List Int)) (m:Nat) (s:kT) (i:Nat):Aug:=⟨Jg s i,(MS costs m s i).at_⟩
def zS (costs:List (List Int)) (m:Nat) (s:kT) (i:Nat):Nat:=dG (MS costs m s i).way (stA costs m s i) (m+2) 0
def Og (costs:List (List Int)) (m:Nat) (s:kT) (i:Nat):kT :=
 ⟨(MS costs m s i).u,(MS costs m s i).v,(G7 (MS costs m s i).way (stA costs m s i) (zS costs m s i)).owner,(MS costs m s i).way⟩
def Dh (costs:List (List Int)) (n m:Nat):Nat→kT
 |0=>⟨List.replicate (n+1) 0,List.replicate (m+1) 0,List.replicate (m+1) ⟨0⟩,List.replicate (m+1) ⟨0⟩⟩
 |i+1=>Og costs m (Dh costs n m i) (i+1)
structure Out where
 cols:List Int
 total:Int
def qV (costs:List (List Int)) (owner:List Ix) (o:Out) (k:Nat):Out :=
 if 0<(gi owner k).n then ⟨o.cols.set ((gi owner k).n-1) ((k:Int)-1),o.total+gi (gi costs ((gi owner k).n-1)) (k-1)⟩ else o
def KR (costs:List (List Int)) (owner:List Ix) (n:Nat):Nat→Out
 |0=>⟨List.replicate n 0,0⟩
 |k+1=>qV costs owner (KR costs owner n k) (k+1)
theorem gs {α:Type} [Inhabited α] {l:List α} {i j:Nat} {a:α} (h:i<l.length):gi (l.set i a) j=if i=j then a else gi l j:=by
 rw [V3]
 by_cases e:i=j
 ·subst e;rw [if_pos ⟨rfl,h⟩,if_pos rfl]
 ·rw [if_neg (fun x=>e x.1),if_neg e]
structure a4e (row:List Int) (ur:Int) (v:List Int) (done:List Bool) (a m:Nat) (s0 s:rZ) (j:Nat):Prop where
 ll:s.least.length=m+1
 lw:s.way.length=m+1
 least:∀ k,gi s.least k=if 1≤k∧k≤j∧gi done k=false∧Uf row ur v k<gi s0.least k then Uf row ur v k else gi s0.least k
 way:∀ k,gi s.way k=if 1≤k∧k≤j∧gi done k=false∧Uf row ur v k<gi s0.least k then ⟨a⟩ else gi s0.way k
 delta:∀ k,1≤k→k≤j→gi done k=false→s.delta≤gi s.least k
 le:s.delta≤s0.delta
 next:(s.next=s0.next∧s.delta=s0.delta)∨(1≤s.next∧s.next≤j∧gi done s.next=false∧s.delta=gi s.least s.next)
theorem TA {row:List Int} {ur:Int} {v:List Int} {done:List Bool} {a m:Nat} {s0:rZ} (hl:s0.least.length=m+1) (hw:s0.way.length=m+1):∀ j,j≤m→a4e row ur v done a m s0 (KD row ur v done a s0 j) j
 |0,_=>⟨hl,hw,fun k=>by rw [if_neg (by omega)];rfl,fun k=>by rw [if_neg (by omega)];rfl,fun k h1 h2=>by omega,Int.le_refl _,.inl ⟨rfl,rfl⟩⟩
 |j+1,hj=>by
  have ih:=TA (row:=row) (ur:=ur) (v:=v) (done:=done) (a:=a) hl hw j (by omega)
  generalize hs:KD row ur v done a s0 j=s at ih
  have e0:KD row ur v done a s0 (j+1)=Ld row ur v done a s (j+1):=by rw [← hs];rfl
  rw [e0]
  obtain ⟨l1,l2,h1,h2,h3,h4,h5⟩:=ih
  have hlt:j+1<s.least.length:=by omega
  have hwt:j+1<s.way.length:=by omega
  have hj1:gi s.least (j+1)=gi s0.least (j+1):=by rw [h1,if_neg (by omega)]
  have hne:∀ k,k≤j→j+1≠k:=fun k hk=>by omega
  unfold Ld
  by_cases hd:gi done (j+1)=true
  ·rw [if_pos hd]
   refine ⟨l1,l2,fun k=>?_,fun k=>?_,fun k k1 k2 k3=>?_,h4,?_⟩
   ·rw [h1]
    by_cases e:k=j+1
    ·subst e;rw [if_neg (by omega),if_neg (by rw [hd];simp)]
    ·by_cases hc:1≤k∧k≤j∧gi done k=false∧Uf row ur v k<gi s0.least k
     ·rw [if_pos hc,if_pos ⟨hc.1,by omega,hc.2.2⟩]
     ·rw [if_neg hc,if_neg (fun x=>hc ⟨x.1,by omega,x.2.2⟩)]
   ·rw [h2]
    by_cases e:k=j+1
    ·subst e;rw [if_neg (by omega),if_neg (by rw [hd];simp)]
    ·by_cases hc:1≤k∧k≤j∧gi done k=false∧Uf row ur v k<gi s0.least k
     ·rw [if_pos hc,if_pos ⟨hc.1,by omega,hc.2.2⟩]
     ·rw [if_neg hc,if_neg (fun x=>hc ⟨x.1,by omega,x.2.2⟩)]
   ·by_cases e:k=j+1
    ·subst e;rw [hd] at k3;cases k3
    ·exact h3 k k1 (by omega) k3
   ·rcases h5 with h5|⟨x1,x2,x3,x4⟩
    ·exact .inl h5
    ·exact .inr ⟨x1,by omega,x3,x4⟩
  ·have hd':gi done (j+1)=false:=by cases h:gi done (j+1)<;>simp_all
   rw [if_neg hd]
   by_cases hc:Uf row ur v (j+1)<gi s.least (j+1)
   ·rw [if_pos hc]
    rw [hj1] at hc
    have L:∀ k,gi (s.least.set (j+1) (Uf row ur v (j+1))) k=if 1≤k∧k≤j+1∧gi done k=false∧Uf row ur v k<gi s0.least k then Uf row ur v k else gi s0.least k:=fun k=>by
     rw [gs hlt]
     by_cases e:j+1=k
     ·subst e;rw [if_pos rfl,if_pos ⟨by omega,Nat.le_refl _,hd',hc⟩]
     ·rw [if_neg e,h1]
      by_cases hc':1≤k∧k≤j∧gi done k=false∧Uf row ur v k<gi s0.least k
      ·rw [if_pos hc',if_pos ⟨hc'.1,by omega,hc'.2.2⟩]
      ·rw [if_neg hc',if_neg (fun x=>hc' ⟨x.1,by omega,x.2.2⟩)]
    have W:∀ k,gi (s.way.set (j+1) ⟨a⟩) k=if 1≤k∧k≤j+1∧gi done k=false∧Uf row ur v k<gi s0.least k then ⟨a⟩ else gi s0.way k:=fun k=>by
     rw [gs hwt]
     by_cases e:j+1=k
     ·subst e;rw [if_pos rfl,if_pos ⟨by omega,Nat.le_refl _,hd',hc⟩]
     ·rw [if_neg e,h2]
      by_cases hc':1≤k∧k≤j∧gi done k=false∧Uf row ur v k<gi s0.least k
      ·rw [if_pos hc',if_pos ⟨hc'.1,by omega,hc'.2.2⟩]
      ·rw [if_neg hc',if_neg (fun x=>hc' ⟨x.1,by omega,x.2.2⟩)]
    by_cases hb:Uf row ur v (j+1)<s.delta
    ·rw [if_pos hb]
     refine ⟨by simp [l1],by simp [l2],L,W,fun k k1 k2 k3=>?_,by simp only;omega,.inr ⟨by simp only;omega,Nat.le_refl _,hd',?_⟩⟩
     ·simp only
      rw [gs hlt]
      by_cases e:j+1=k
      ·rw [if_pos e];omega
      ·rw [if_neg e]
       have:=h3 k k1 (by omega) k3
       omega
     ·simp only
      rw [gs hlt,if_pos rfl]
    ·rw [if_neg hb]
     refine ⟨by simp [l1],by simp [l2],L,W,fun k k1 k2 k3=>?_,h4,?_⟩
     ·simp only
      rw [gs hlt]
      by_cases e:j+1=k
      ·rw [if_pos e];omega
      ·rw [if_neg e]
       exact h3 k k1 (by omega) k3
     ·rcases h5 with h5|⟨x1,x2,x3,x4⟩
      ·exact .inl h5
      ·refine .inr ⟨x1,by simp only;omega,x3,?_⟩
       simp only
       rw [gs hlt,if_neg (by omega)]
       exact x4
   ·rw [if_neg hc]
    have hc0:¬ Uf row ur v (j+1)<gi s0.least (j+1):=by rw [← hj1];exact hc
    have L:∀ k,gi s.least k=if 1≤k∧k≤j+1∧gi done k=false∧Uf row ur v k<gi s0.least k then Uf row ur v k else gi s0.least k:=fun k=>by
     rw [h1]
     by_cases e:j+1=k
     ·subst e;rw [if_neg (by omega),if_neg (fun x=>hc0 x.2.2.2)]
     ·by_cases hc':1≤k∧k≤j∧gi done k=false∧Uf row ur v k<gi s0.least k
      ·rw [if_pos hc',if_pos ⟨hc'.1,by omega,hc'.2.2⟩]
      ·rw [if_neg hc',if_neg (fun x=>hc' ⟨x.1,by omega,x.2.2⟩)]
    have W:∀ k,gi s.way k=if 1≤k∧k≤j+1∧gi done k=false∧Uf row ur v k<gi s0.least k then ⟨a⟩ else gi s0.way k:=fun k=>by
     rw [h2]
     by_cases e:j+1=k
     ·subst e;rw [if_neg (by omega),if_neg (fun x=>hc0 x.2.2.2)]
     ·by_cases hc':1≤k∧k≤j∧gi done k=false∧Uf row ur v k<gi s0.least k
      ·rw [if_pos hc',if_pos ⟨hc'.1,by omega,hc'.2.2⟩]
      ·rw [if_neg hc',if_neg (fun x=>hc' ⟨x.1,by omega,x.2.2⟩)]
    by_cases hb:gi s.least (j+1)<s.delta
    ·rw [if_pos hb]
     refine ⟨l1,l2,L,W,fun k k1 k2 k3=>?_,by simp only;omega,.inr ⟨by simp only;omega,Nat.le_refl _,hd',rfl⟩⟩
     simp only
     by_cases e:j+1=k
     ·rw [e];omega
     ·have:=h3 k k1 (by omega) k3
      omega
    ·rw [if_neg hb]
     refine ⟨l1,l2,L,W,fun k k1 k2 k3=>?_,h4,?_⟩
     ·by_cases e:j+1=k
      ·rw [← e];omega
      ·exact h3 k k1 (by omega) k3
     ·rcases h5 with h5|⟨x1,x2,x3,x4⟩
      ·exact .inl h5
      ·exact .inr ⟨x1,by omega,x3,x4⟩
structure a2o (owner:List Ix) (done:List Bool) (delta:Int) (t s:yw) (k:Nat):Prop where
 lu:s.u.length=t.u.length
 lv:s.v.length=t.v.length
 ll:s.least.length=t.least.length
 u0:∀ r,(∀ d,d<k→gi done d=true→(gi owner d).n≠r)→gi s.u r=gi t.u r
 u1:∀ d,d<k→gi done d=true→gi s.u (gi owner d).n=gi t.u (gi owner d).n+delta
 v:∀ d,gi s.v d=if d<k∧gi done d=true then gi t.v d-delta else gi t.v d
 least:∀ d,gi s.least d=if d<k∧gi done d=false then gi t.least d-delta else gi t.least d
theorem Kr {owner:List Ix} {done:List Bool} {delta:Int} {t:yw} {m:Nat} (hv:t.v.length=m+1) (hl:t.least.length=m+1)
 (hu:∀ d,d≤m→gi done d=true→(gi owner d).n<t.u.length) (hi:∀ d e,d≤m→e≤m→gi done d=true→gi done e=true→(gi owner d).n=(gi owner e).n→d=e) :
 ∀ k,k≤m+1→a2o owner done delta t (Ih owner done delta t k) k
 |0,_=>⟨rfl,rfl,rfl,fun _ _=>rfl,fun d h=>by omega,fun d=>by rw [if_neg (by omega)];rfl,fun d=>by rw [if_neg (by omega)];rfl⟩
 |k+1,hk=>by
  have ih:=Kr (delta:=delta) hv hl hu hi k (by omega)
  generalize hs:Ih owner done delta t k=s at ih
  have e0:Ih owner done delta t (k+1)=TB owner done delta s k:=by rw [← hs];rfl
  rw [e0]
  obtain ⟨l1,l2,l3,h0,h1,h2,h3⟩:=ih
  unfold TB
  by_cases hd:gi done k=true
  ·rw [if_pos hd]
   have hlt:=hu k (by omega) hd
   refine ⟨by simp [l1],by simp [l2],l3,fun r hr=>?_,fun d hd1 hd2=>?_,fun d=>?_,fun d=>?_⟩
   ·simp only
    rw [gs (by omega),if_neg (hr k (by omega) hd)]
    exact h0 r fun d x y=>hr d (by omega) y
   ·simp only
    rw [gs (by omega)]
    by_cases e:k=d
    ·subst e
     rw [if_pos rfl,h0 _ fun d x y z=>by have:=hi d k (by omega) (by omega) y hd z;omega]
    ·rw [if_neg fun x=>e (hi k d (by omega) (by omega) hd hd2 x)]
     exact h1 d (by omega) hd2
   ·simp only
    rw [gs (by omega)]
    by_cases e:k=d
    ·subst e
     rw [if_pos rfl,if_pos ⟨by omega,hd⟩,h2,if_neg (by omega)]
    ·rw [if_neg e,h2]
     by_cases x:d<k∧gi done d=true
     ·rw [if_pos x,if_pos ⟨by omega,x.2⟩]
     ·rw [if_neg x,if_neg fun y=>x ⟨by omega,y.2⟩]
   ·rw [h3]
    by_cases e:k=d
    ·subst e
     rw [if_neg (by omega),if_neg (by rw [hd];simp)]
    ·by_cases x:d<k∧gi done d=false
     ·rw [if_pos x,if_pos ⟨by omega,x.2⟩]
     ·rw [if_neg x,if_neg fun y=>x ⟨by omega,y.2⟩]
  ·have hd':gi done k=false:=by cases h:gi done k<;>simp_all
   rw [if_neg hd]
   refine ⟨l1,l2,by simp [l3],fun r hr=>h0 r fun d x y=>hr d (by omega) y,fun d hd1 hd2=>?_,fun d=>?_,fun d=>?_⟩
   ·by_cases e:k=d
    ·subst e;exact absurd hd2 hd
    ·exact h1 d (by omega) hd2
   ·rw [h2]
    by_cases e:k=d
    ·subst e
     rw [if_neg (by omega),if_neg (by rw [hd'];simp)]
    ·by_cases x:d<k∧gi done d=true
     ·rw [if_pos x,if_pos ⟨by omega,x.2⟩]
     ·rw [if_neg x,if_neg fun y=>x ⟨by omega,y.2⟩]
   ·simp only
    rw [gs (by omega)]
    by_cases e:k=d
    ·subst e
     rw [if_pos rfl,if_pos ⟨by omega,hd'⟩,h3,if_neg (by omega)]
    ·rw [if_neg e,h3]
     by_cases x:d<k∧gi done d=false
     ·rw [if_pos x,if_pos ⟨by omega,x.2⟩]
     ·rw [if_neg x,if_neg fun y=>x ⟨by omega,y.2⟩]
end Go.Hun
namespace Go.Hun
open Go.Vm
theorem Wi:∀ (n m:Nat) (f:Nat→Nat),(∀ k,k<m→f k<n)→(∀ k e,k<m→e<m→f k=f e→k=e)→m≤n
 |0,m,f,h,hi=>by
  rcases Nat.eq_zero_or_pos m with h0|h0
  ·omega
  ·exact absurd (h 0 h0) (by omega)
 |n+1,0,f,h,hi=>by omega
 |n+1,m+1,f,h,hi=>by
  have:=Wi n m (fun k=>if f k=n then f m else f k) (fun k hk=>by
   have h1:=h k (by omega)
   have h2:=h m (by omega)
   by_cases e:f k=n
   ·simp only [if_pos e]
    have:f m≠n:=fun e2=>by have:=hi k m (by omega) (by omega) (by omega);omega
    omega
   ·simp only [if_neg e];omega) (fun k e hk he hf=>by
   by_cases e1:f k=n<;>by_cases e2:f e=n
   ·exact hi k e (by omega) (by omega) (by omega)
   ·simp only [if_pos e1,if_neg e2] at hf
    have:=hi m e (by omega) (by omega) hf;omega
   ·simp only [if_neg e1,if_pos e2] at hf
    have:=hi k m (by omega) (by omega) hf;omega
   ·simp only [if_neg e1,if_neg e2] at hf
    exact hi k e (by omega) (by omega) hf)
  omega
def cst (costs:List (List Int)) (r k:Nat):Int:=gi (gi costs (r-1)) (k-1)
def own (o:List Ix) (k:Nat):Nat:=(gi o k).n
structure Iw (costs:List (List Int)) (n m:Nat) (B:Int):Prop where
 lo:∀ r k,0≤cst costs r k
 hi:∀ r k,cst costs r k≤B
 big:0≤B∧B≤1000000000000
 nm:n<m
structure rV (costs:List (List Int)) (n m i:Nat) (s:kT):Prop where
 lu:s.u.length=n+1
 lv:s.v.length=m+1
 lo:s.owner.length=m+1
 lw:s.way.length=m+1
 own:∀ k,1≤k→k≤m→own s.owner k≤i
 all:∀ r,1≤r→r≤i→∃ k,1≤k∧k≤m∧Hun.own s.owner k=r
 inj:∀ k e,1≤k→k≤m→1≤e→e≤m→Hun.own s.owner k=Hun.own s.owner e→Hun.own s.owner k≠0→k=e
 XH:∀ r k,1≤r→r≤i→1≤k→k≤m→gi s.u r+gi s.v k≤cst costs r k
 tight:∀ k,1≤k→k≤m→Hun.own s.owner k≠0→gi s.u (Hun.own s.owner k)+gi s.v k=cst costs (Hun.own s.owner k) k
 iH:∀ k,1≤k→k≤m→gi s.v k≤0
 Pm:∀ k,1≤k→k≤m→Hun.own s.owner k=0→gi s.v k=0
 U0:∀ r,1≤r→r≤i→0≤gi s.u r
 uz:∀ r,i<r→gi s.u r=0
structure rY (m i:Nat) (o:List Ix):Prop where
 len:o.length=m+1
 zero:own o 0=i+1
 le:∀ k,1≤k→k≤m→own o k≤i
 inj:∀ k e,k≤m→e≤m→own o k=own o e→own o k≠0→k=e
theorem rY.lt {m i:Nat} {o:List Ix} (h:rY m i o) {k:Nat} (hk:k≤m):own o k≤i+1:=by
 rcases Nat.eq_zero_or_pos k with h0|h0
 ·subst h0;rw [h.zero];omega
 ·have:=h.le k h0 hk;omega
theorem rY.free {m i:Nat} {o:List Ix} (h:rY m i o) (hm:i<m):∃ k,1≤k∧k≤m∧own o k=0:=by
 refine Classical.byContradiction fun hn=>?_
 have hn:∀ k,1≤k→k≤m→own o k≠0:=fun k h1 h2 h3=>hn ⟨k,h1,h2,h3⟩
 have:=Wi i m (fun k=>own o (k+1)-1) (fun k hk=>by
  have h1:=hn (k+1) (by omega) (by omega)
  have h2:=h.le (k+1) (by omega) (by omega)
  show own o (k+1)-1<i
  omega) (fun k e hk he hf=>by
  have h1:=hn (k+1) (by omega) (by omega)
  have h2:=hn (e+1) (by omega) (by omega)
  have hf:own o (k+1)-1=own o (e+1)-1:=hf
  have:=h.inj (k+1) (e+1) (by omega) (by omega) (by omega) h1
  omega)
 omega
structure iR (costs:List (List Int)) (n m i:Nat) (o:List Ix) (A:Nat→Nat) (t:Nat) (g:Gr):Prop where
 lu:g.u.length=n+1
 lv:g.v.length=m+1
 lw:g.way.length=m+1
 ll:g.least.length=m+1
 ld:g.done.length=m+1
 at_:g.at_=A t
 le:∀ p,p≤t→A p≤m
 zero:A 0=0
 pos:∀ p,1≤p→p≤t→1≤A p
 done:∀ k,gi g.done k=true↔∃ p,p<t∧A p=k
 new:gi g.done (A t)=false
 qX:∀ p,p<t→own o (A p)≠0
 XH:∀ r k,1≤r→r≤i+1→1≤k→k≤m→gi g.u r+gi g.v k≤cst costs r k
 tight:∀ k,1≤k→k≤m→own o k≠0→gi g.u (own o k)+gi g.v k=cst costs (own o k) k
 iH:∀ k,1≤k→k≤m→gi g.v k≤0
 Pm:∀ k,1≤k→k≤m→own o k=0→gi g.v k=0
 U0:∀ r,1≤r→r≤i+1→0≤gi g.u r
 uz:∀ r,i+1<r→gi g.u r=0
 least:∀ k,1≤k→k≤m→gi g.done k=false→∀ p,p<t→gi g.least k≤cst costs (own o (A p)) k-gi g.u (own o (A p))-gi g.v k
 Xu:∀ k,1≤k→k≤m→gi g.done k=false→(t=0∧gi g.least k=far)∨∃ p,p<t∧own g.way k=A p∧gi g.least k=cst costs (own o (A p)) k-gi g.u (own o (A p))-gi g.v k
 path:∀ p,1≤p→p≤t→∃ q,q<p∧own g.way (A p)=A q∧gi g.u (own o (A q))+gi g.v (A p)=cst costs (own o (A q)) (A p)
section
variable {costs:List (List Int)} {n m i:Nat} {o:List Ix} {A:Nat→Nat} {t:Nat} {g:Gr} {B:Int}
theorem iR.ule (h:iR costs n m i o A t g) (hc:Iw costs n m B) (ho:rY m i o) (hi:i<m) {r:Nat} (h1:1≤r) (h2:r≤i+1):gi g.u r≤B:=by
 obtain ⟨f,f1,f2,f3⟩:=ho.free hi
 have:=h.XH r f h1 h2 f1 f2
 have:=h.Pm f f1 f2 f3
 have:=hc.hi r f
 omega
theorem iR.vge (h:iR costs n m i o A t g) (hc:Iw costs n m B) (ho:rY m i o) (hi:i<m) {k:Nat} (h1:1≤k) (h2:k≤m):-B≤gi g.v k:=by
 have hb:=hc.big
 by_cases e:own o k=0
 ·rw [h.Pm k h1 h2 e];omega
 ·have h3:=ho.lt h2
  have:=h.tight k h1 h2 e
  have:=h.ule hc ho hi (r:=own o k) (by omega) h3
  have:=hc.lo (own o k) k
  omega
end
structure RdI (costs:List (List Int)) (n m i:Nat) (o:List Ix) (A:Nat→Nat) (t:Nat) (g:Gr) (B:Int) (s:rZ):Prop where
 ll:s.least.length=m+1
 lw:s.way.length=m+1
 next:1≤s.next∧s.next≤m
 newN:gi (CO g) s.next=false
 dn:s.delta=gi s.least s.next
 dle:∀ k,1≤k→k≤m→gi (CO g) k=false→s.delta≤gi s.least k
 d0:0≤s.delta
 dB:s.delta≤B
 least:∀ k,1≤k→k≤m→gi (CO g) k=false→∀ p,p<t+1→gi s.least k≤cst costs (own o (A p)) k-gi g.u (own o (A p))-gi g.v k
 Xu:∀ k,1≤k→k≤m→gi (CO g) k=false→∃ p,p<t+1∧own s.way k=A p∧gi s.least k=cst costs (own o (A p)) k-gi g.u (own o (A p))-gi g.v k
 way:∀ k,gi (CO g) k=true→gi s.way k=gi g.way k
 doneD:∀ k,gi (CO g) k=true↔∃ p,p<t+1∧A p=k
theorem JV {costs:List (List Int)} {n m i:Nat} {o:List Ix} {A:Nat→Nat} {t:Nat} {g:Gr} {B:Int} (h:iR costs n m i o A t g) (hc:Iw costs n m B) (ho:rY m i o) (hi:i<n) (hr:own o (A t)≠0):RdI costs n m i o A t g B (DV costs o m g):=by
 have hm:=hc.nm
 have hb:=hc.big
 have hA:=h.le t (Nat.le_refl _)
 have hrow:=ho.lt hA
 have hD:∀ k,gi (CO g) k=true↔∃ p,p<t+1∧A p=k:=fun k=>by
  unfold CO
  rw [gs (by rw [h.ld,h.at_];omega),h.at_]
  by_cases e:A t=k
  ·rw [if_pos e];exact ⟨fun _=>⟨t,by omega,e⟩,fun _=>rfl⟩
  ·rw [if_neg e,h.done]
   exact ⟨fun ⟨p,h1,h2⟩=>⟨p,by omega,h2⟩,fun ⟨p,h1,h2⟩=>⟨p,by
    rcases Nat.lt_or_ge p t with h3|h3
    ·exact h3
    ·obtain rfl:p=t:=by omega
     exact absurd h2 e,h2⟩⟩
 have hO:∀ p,p<t+1→own o (A p)≠0:=fun p hp=>by
  rcases Nat.lt_or_ge p t with h3|h3
  ·exact h.qX p h3
  ·obtain rfl:p=t:=by omega
   exact hr
 have hN:∀ k,gi (CO g) k=false→gi g.done k=false:=fun k hk=>by
  cases hg:gi g.done k with
  |false=>rfl
  |true =>
   obtain ⟨p,h1,h2⟩:=(h.done k).1 hg
   rw [(hD k).2 ⟨p,by omega,h2⟩] at hk
   cases hk
 have spec:=TA (row:=gi costs ((gi o g.at_).n-1)) (ur:=gi g.u (gi o g.at_).n) (v:=g.v) (done:=CO g) (a:=g.at_) (m:=m) (s0:=⟨g.least,g.way,far,0⟩) h.ll h.lw m (Nat.le_refl _)
 have a8y:∀ k,Uf (gi costs ((gi o g.at_).n-1)) (gi g.u (gi o g.at_).n) g.v k=cst costs (own o (A t)) k-gi g.u (own o (A t))-gi g.v k:=fun k=>by
  rw [h.at_];rfl
 have es:DV costs o m g=KD (gi costs ((gi o g.at_).n-1)) (gi g.u (gi o g.at_).n) g.v (CO g) g.at_ ⟨g.least,g.way,far,0⟩ m:=rfl
 rw [← es] at spec
 generalize DV costs o m g=s at spec ⊢
 obtain ⟨l1,l2,h1,h2,h3,h4,h5⟩:=spec
 simp only [a8y] at h1 h2 h4 h5
 have red:∀ p k,p<t+1→1≤k→k≤m→0≤cst costs (own o (A p)) k-gi g.u (own o (A p))-gi g.v k:=fun p k hp k1 k2=>by
  have:=h.XH (own o (A p)) k (by have:=hO p hp;omega) (ho.lt (h.le p (by omega))) k1 k2
  omega
 have a9o:∀ p k,p<t+1→1≤k→k≤m→cst costs (own o (A p)) k-gi g.u (own o (A p))-gi g.v k<far:=fun p k hp k1 k2=>by
  have:=hc.hi (own o (A p)) k
  have:=h.U0 (own o (A p)) (by have:=hO p hp;omega) (ho.lt (h.le p (by omega)))
  have:=h.vge hc ho (by omega) k1 k2
  unfold far
  omega
 have LL:∀ k,1≤k→k≤m→gi (CO g) k=false→∀ p,p<t+1→gi s.least k≤cst costs (own o (A p)) k-gi g.u (own o (A p))-gi g.v k:=fun k k1 k2 k3 p hp=>by
  rw [h1]
  rcases Nat.lt_or_ge p t with hpt|hpt
  ·have:=h.least k k1 k2 (hN k k3) p hpt
   split
   ·rename_i hx;omega
   ·exact this
  ·obtain rfl:p=t:=by omega
   split
   ·exact Int.le_refl _
   ·rename_i hx
    have:¬ cst costs (own o (A p)) k-gi g.u (own o (A p))-gi g.v k<gi g.least k:=fun y=>hx ⟨k1,k2,k3,y⟩
    omega
 have LE:∀ k,1≤k→k≤m→gi (CO g) k=false→∃ p,p<t+1∧own s.way k=A p∧gi s.least k=cst costs (own o (A p)) k-gi g.u (own o (A p))-gi g.v k:=fun k k1 k2 k3=>by
  unfold own
  rw [h1,h2]
  split
  ·exact ⟨t,by omega,h.at_,rfl⟩
  ·rename_i hx
   rcases h.Xu k k1 k2 (hN k k3) with ⟨_,h7⟩|⟨p,h6,h7,h8⟩
   ·exact absurd ⟨k1,k2,k3,by rw [h7];exact a9o t k (by omega) k1 k2⟩ hx
   ·exact ⟨p,by omega,h7,h8⟩
 obtain ⟨f,f1,f2,f3⟩:=ho.free (by omega:i<m)
 have f4:gi (CO g) f=false:=by
  cases hg:gi (CO g) f with
  |false=>rfl
  |true =>
   obtain ⟨p,h6,h7⟩:=(hD f).1 hg
   have:=hO p h6
   rw [h7] at this
   exact absurd f3 this
 have f5:=h3 f f1 f2 f4
 have f6:=LL f f1 f2 f4 t (by omega)
 have f7:=h.Pm f f1 f2 f3
 have f8:=hc.hi (own o (A t)) f
 have f9:=h.U0 (own o (A t)) (by omega) hrow
 have b2n:far=1152921504606846976:=rfl
 rcases h5 with ⟨_,h6⟩|⟨h6,h7,h8,h9⟩
 ·omega
 ·refine ⟨l1,l2,⟨h6,h7⟩,h8,h9,h3,?_,by omega,LL,LE,fun k hk=>?_,hD⟩
  ·obtain ⟨p,p1,p2,p3⟩:=LE s.next h6 h7 h8
   rw [h9,p3]
   exact red p _ p1 h6 h7
  ·rw [h2,if_neg]
   rintro ⟨_,_,x,_⟩
   rw [hk] at x;cases x
structure ShI (m:Nat) (o:List Ix) (g:Gr) (d:Int) (s:rZ) (t:yw):Prop where
 lu:t.u.length=g.u.length
 lv:t.v.length=m+1
 ll:t.least.length=m+1
 u1:∀ k,k≤m→gi (CO g) k=true→gi t.u (own o k)=gi g.u (own o k)+d
 u0:∀ r,(∀ k,k≤m→gi (CO g) k=true→own o k≠r)→gi t.u r=gi g.u r
 v1:∀ k,k≤m→gi (CO g) k=true→gi t.v k=gi g.v k-d
 v0:∀ k,gi (CO g) k=false→gi t.v k=gi g.v k
 least:∀ k,k≤m→gi (CO g) k=false→gi t.least k=gi s.least k-d
section
variable {costs:List (List Int)} {n m i:Nat} {o:List Ix} {A:Nat→Nat} {t:Nat} {g:Gr} {B:Int}
theorem Yl (h:iR costs n m i o A t g) (hc:Iw costs n m B) (ho:rY m i o) (hi:i<n) (hr:own o (A t)≠0) :
 (∀ d,d≤m→gi (CO g) d=true→(gi o d).n<g.u.length)∧∀ d e,d≤m→e≤m→gi (CO g) d=true→gi (CO g) e=true→(gi o d).n=(gi o e).n→d=e:=by
 have hR:=JV h hc ho hi hr
 refine ⟨fun d hd _=>?_,fun d e hd he h1 h2 h3=>?_⟩
 ·have:=ho.lt hd
  unfold own at this
  rw [h.lu];omega
 ·refine ho.inj d e hd he h3 ?_
  obtain ⟨p,p1,p2⟩:=(hR.doneD d).1 h1
  rw [← p2]
  rcases Nat.lt_or_ge p t with h4|h4
  ·exact h.qX p h4
  ·obtain rfl:p=t:=by omega
   exact hr
theorem Oc (h:iR costs n m i o A t g) (hc:Iw costs n m B) (ho:rY m i o) (hi:i<n) (hr:own o (A t)≠0):ShI m o g (DV costs o m g).delta (DV costs o m g) (Je costs o m g):=by
 have hR:=JV h hc ho hi hr
 obtain ⟨e1,e2⟩:=Yl h hc ho hi hr
 have spec:=Kr (owner:=o) (done:=CO g) (delta:=(DV costs o m g).delta) (t:=⟨g.u,g.v,(DV costs o m g).least⟩) (m:=m) h.lv hR.ll e1 e2 (m+1) (Nat.le_refl _)
 have es:Je costs o m g=Ih o (CO g) (DV costs o m g).delta ⟨g.u,g.v,(DV costs o m g).least⟩ (m+1):=rfl
 rw [← es] at spec
 generalize Je costs o m g=T at spec ⊢
 generalize DV costs o m g=s at spec hR ⊢
 obtain ⟨l1,l2,l3,h0,h1,h2,h3⟩:=spec
 simp only at l1 l2 l3 h0 h1 h2 h3
 refine ⟨l1,by rw [l2,h.lv],by rw [l3,hR.ll],fun k hk hd=>h1 k (by omega) hd,fun r hx=>h0 r fun d hd hd2=>hx d (by omega) hd2,fun k hk hd=>?_,fun k hd=>?_,fun k hk hd=>?_⟩
 ·rw [h2,if_pos ⟨by omega,hd⟩]
 ·rw [h2,if_neg (by rw [hd];simp)]
 ·rw [h3,if_pos ⟨by omega,hd⟩]
theorem iR.step (h:iR costs n m i o A t g) (hc:Iw costs n m B) (ho:rY m i o) (hi:i<n) (hr:own o (A t)≠0) (hA:A (t+1)=(GN costs o m g).at_):iR costs n m i o A (t+1) (GN costs o m g):=by
 have hR:=JV h hc ho hi hr
 have hS:=Oc h hc ho hi hr
 have hnm:=hc.nm
 have eu:(GN costs o m g).u=(Je costs o m g).u:=rfl
 have ev:(GN costs o m g).v=(Je costs o m g).v:=rfl
 have ew:(GN costs o m g).way=(DV costs o m g).way:=rfl
 have el:(GN costs o m g).least=(Je costs o m g).least:=rfl
 have ed:(GN costs o m g).done=CO g:=rfl
 have ea:(GN costs o m g).at_=(DV costs o m g).next:=rfl
 rw [ea] at hA
 generalize Je costs o m g=T at *
 generalize DV costs o m g=s at *
 generalize GN costs o m g=G at *
 have hO:∀ p,p<t+1→own o (A p)≠0:=fun p hp=>by
  rcases Nat.lt_or_ge p t with h3|h3
  ·exact h.qX p h3
  ·obtain rfl:p=t:=by omega
   exact hr
 have hd0:=hR.d0
 have uR:∀ r,(∃ p,p<t+1∧own o (A p)=r∧gi T.u r=gi g.u r+s.delta)∨((∀ p,p<t+1→own o (A p)≠r)∧gi T.u r=gi g.u r):=fun r=>by
  by_cases hx:∃ p,p<t+1∧own o (A p)=r
  ·obtain ⟨p,p1,p2⟩:=hx
   have:=hS.u1 (A p) (h.le p (by omega)) ((hR.doneD _).2 ⟨p,p1,rfl⟩)
   rw [p2] at this
   exact .inl ⟨p,p1,p2,this⟩
  ·refine .inr ⟨fun p p1 p2=>hx ⟨p,p1,p2⟩,hS.u0 r fun k hk hd e=>?_⟩
   obtain ⟨p,p1,p2⟩:=(hR.doneD k).1 hd
   exact hx ⟨p,p1,by rw [p2];exact e⟩
 have uP:∀ p,p<t+1→gi T.u (own o (A p))=gi g.u (own o (A p))+s.delta:=fun p hp=>hS.u1 (A p) (h.le p (by omega)) ((hR.doneD _).2 ⟨p,hp,rfl⟩)
 have vR:∀ k,k≤m→(gi (CO g) k=true∧gi T.v k=gi g.v k-s.delta)∨(gi (CO g) k=false∧gi T.v k=gi g.v k):=fun k hk=>by
  cases hd:gi (CO g) k with
  |true=>exact .inl ⟨rfl,hS.v1 k hk hd⟩
  |false=>exact .inr ⟨rfl,hS.v0 k hd⟩
 refine ⟨by rw [eu,hS.lu,h.lu],by rw [ev,hS.lv],by rw [ew,hR.lw],by rw [el,hS.ll],by rw [ed];unfold CO;simp [h.ld],by rw [ea,hA],fun p hp=>?_,h.zero,fun p p1 hp=>?_,fun k=>by rw [ed];exact hR.doneD k,by rw [ed,hA];exact hR.newN,hO,?_,?_,?_,?_,?_,?_,?_,?_,?_⟩
 ·rcases Nat.lt_or_ge p (t+1) with h3|h3
  ·exact h.le p (by omega)
  ·obtain rfl:p=t+1:=by omega
   rw [hA];exact hR.next.2
 ·rcases Nat.lt_or_ge p (t+1) with h3|h3
  ·exact h.pos p p1 (by omega)
  ·obtain rfl:p=t+1:=by omega
   rw [hA];exact hR.next.1
 ·intro r k r1 r2 k1 k2
  rw [eu,ev]
  have h0:=h.XH r k r1 r2 k1 k2
  rcases uR r with ⟨p,p1,p2,p3⟩|⟨p1,p3⟩<;>rcases vR k k2 with ⟨q1,q2⟩|⟨q1,q2⟩
  ·omega
  ·have h1:=hR.dle k k1 k2 q1
   have h2:=hR.least k k1 k2 q1 p p1
   rw [p2] at h2
   omega
  ·omega
  ·omega
 ·intro k k1 k2 hk
  rw [eu,ev]
  have h0:=h.tight k k1 k2 hk
  rcases vR k k2 with ⟨q1,q2⟩|⟨q1,q2⟩
  ·have:=hS.u1 k k2 q1
   omega
  ·rcases uR (own o k) with ⟨p,p1,p2,p3⟩|⟨p1,p3⟩
   ·have:=ho.inj (A p) k (h.le p (by omega)) k2 p2 (hO p p1)
    rw [(hR.doneD k).2 ⟨p,p1,this⟩] at q1
    cases q1
   ·omega
 ·intro k k1 k2
  rw [ev]
  have h0:=h.iH k k1 k2
  rcases vR k k2 with ⟨q1,q2⟩|⟨q1,q2⟩<;>omega
 ·intro k k1 k2 hk
  rw [ev]
  have h0:=h.Pm k k1 k2 hk
  rcases vR k k2 with ⟨q1,q2⟩|⟨q1,q2⟩
  ·obtain ⟨p,p1,p2⟩:=(hR.doneD k).1 q1
   have:=hO p p1
   rw [p2] at this
   exact absurd hk this
  ·omega
 ·intro r r1 r2
  rw [eu]
  have h0:=h.U0 r r1 r2
  rcases uR r with ⟨p,p1,p2,p3⟩|⟨p1,p3⟩<;>omega
 ·intro r hr1
  rw [eu]
  rcases uR r with ⟨p,p1,p2,p3⟩|⟨p1,p3⟩
  ·have:=ho.lt (h.le p (by omega));omega
  ·rw [p3];exact h.uz r hr1
 ·intro k k1 k2 hk p hp
  rw [ed] at hk
  rw [eu,ev,el,hS.least k k2 hk,uP p hp,hS.v0 k hk]
  have:=hR.least k k1 k2 hk p hp
  omega
 ·intro k k1 k2 hk
  rw [ed] at hk
  obtain ⟨p,p1,p2,p3⟩:=hR.Xu k k1 k2 hk
  refine .inr ⟨p,p1,by rw [ew];exact p2,?_⟩
  rw [eu,ev,el,hS.least k k2 hk,uP p p1,hS.v0 k hk]
  omega
 ·intro p p1 hp
  rw [eu,ev,ew]
  rcases Nat.lt_or_ge p (t+1) with h3|h3
  ·obtain ⟨q,q1,q2,q3⟩:=h.path p p1 (by omega)
   have hd:=(hR.doneD (A p)).2 ⟨p,h3,rfl⟩
   refine ⟨q,q1,?_,?_⟩
   ·unfold own
    rw [hR.way _ hd];exact q2
   ·rw [uP q (by omega),hS.v1 _ (h.le p (by omega)) hd]
    omega
  ·obtain rfl:p=t+1:=by omega
   obtain ⟨q,q1,q2,q3⟩:=hR.Xu s.next hR.next.1 hR.next.2 hR.newN
   refine ⟨q,q1,by rw [hA];exact q2,?_⟩
   rw [hA,uP q q1,hS.v0 _ hR.newN]
   have:=hR.dn
   omega
end
end Go.Hun
namespace Go.Hun
open Go.Vm
section
variable {costs:List (List Int)} {n m i:Nat} {s:kT} {B:Int}
theorem aC {l:List Ix} {j k x:Nat} (h:j<l.length):own (l.set j ⟨x⟩) k=if j=k then x else own l k:=by
 unfold own
 rw [gs h]
 split<;>rfl
theorem a2y {α:Type} [Inhabited α] {a:α} {n i:Nat} (h:i<n):gi (List.replicate n a) i=a:=LV h
theorem Vu {n:Nat} (i:Nat):gi (List.replicate n (0:Int)) i=0:=by
 unfold gi
 rw [List.getElem?_replicate]
 split<;>rfl
theorem Y3 (h:rV costs n m i s):rY m i (Jg s (i+1)):=by
 have e:∀ k,own (Jg s (i+1)) k=if 0=k then i+1 else own s.owner k:=fun k=>aC (by rw [h.lo];omega)
 refine ⟨by unfold Jg;simp [h.lo],by rw [e];rfl,fun k k1 k2=>?_,fun k j k1 k2=>?_⟩
 ·rw [e,if_neg (by omega)];exact h.own k k1 k2
 ·rw [e,e]
  intro h1 h2
  by_cases a:0=k<;>by_cases b:0=j
  ·omega
  ·rw [if_pos a,if_neg b] at h1
   have:=h.own j (by omega) k2;omega
  ·rw [if_neg a,if_pos b] at h1
   have:=h.own k (by omega) k1;omega
  ·rw [if_neg a,if_neg b] at h1
   rw [if_neg a] at h2
   exact h.inj k j (by omega) k1 (by omega) k2 h1 h2
def MJ (costs:List (List Int)) (m i:Nat) (s:kT) (p:Nat):Nat:=(Ei costs (Jg s (i+1)) m (Ri m s) p).at_
theorem a2j (h:rV costs n m i s) (hc:Iw costs n m B) (hi:i<n):iR costs n m i (Jg s (i+1)) (MJ costs m i s) 0 (Ei costs (Jg s (i+1)) m (Ri m s) 0):=by
 have ho:=Y3 h
 have eo:∀ k,own (Jg s (i+1)) k=if 0=k then i+1 else own s.owner k:=fun k=>aC (by rw [h.lo];omega)
 have nd:∀ k,gi (List.replicate (m+1) false) k=false:=fun k=>by
  unfold gi
  rw [List.getElem?_replicate]
  split<;>rfl
 refine ⟨h.lu,h.lv,h.lw,by simp [Ei,Ri],by simp [Ei,Ri],rfl,fun p hp=>?_,rfl,fun p p1 p2=>by omega,fun k=>?_,nd _,fun p hp=>by omega,?_,?_,h.iH,?_,?_,?_,fun k _ _ _ p hp=>by omega,fun k k1 k2 _=>.inl ⟨rfl,?_⟩,fun p p1 p2=>by omega⟩
 ·obtain rfl:p=0:=by omega
  exact Nat.zero_le _
 ·constructor
  ·intro hk
   have:gi (List.replicate (m+1) false) k=true:=hk
   rw [nd] at this;cases this
  ·rintro ⟨p,hp,_⟩;omega
 ·intro r k r1 r2 k1 k2
  show gi s.u r+gi s.v k≤_
  rcases Nat.lt_or_ge r (i+1) with h3|h3
  ·exact h.XH r k r1 (by omega) k1 k2
  ·have:=h.uz r (by omega)
   have:=h.iH k k1 k2
   have:=hc.lo r k
   omega
 ·intro k k1 k2
  rw [eo,if_neg (by omega)]
  exact h.tight k k1 k2
 ·intro k k1 k2
  rw [eo,if_neg (by omega)]
  exact h.Pm k k1 k2
 ·intro r r1 r2
  show 0≤gi s.u r
  rcases Nat.lt_or_ge r (i+1) with h3|h3
  ·exact h.U0 r r1 (by omega)
  ·rw [h.uz r (by omega)];omega
 ·intro r hr
  exact h.uz r (by omega)
 ·exact a2y (by omega)
theorem Pg (h:rV costs n m i s) (hc:Iw costs n m B) (hi:i<n):∀ t,(∀ p,p<t→own (Jg s (i+1)) (MJ costs m i s p)≠0)→iR costs n m i (Jg s (i+1)) (MJ costs m i s) t (Ei costs (Jg s (i+1)) m (Ri m s) t)
 |0,_=>a2j h hc hi
 |t+1,hp=>(Pg h hc hi t fun p hp'=>hp p (by omega)).step hc (Y3 h) hi (hp t (by omega)) rfl
theorem Xh (o:List Ix) (g0:Gr):∀ f t,(∀ p,p<t→own o (Ei costs o m g0 p).at_≠0) →
 (∀ p,p<UH costs o m g0 f t→own o (Ei costs o m g0 p).at_≠0)∧(own o (Ei costs o m g0 (UH costs o m g0 f t)).at_=0∨UH costs o m g0 f t=t+f)∧UH costs o m g0 f t≤t+f
 |0,t,h=>⟨h,.inr rfl,Nat.le_refl _⟩
 |f+1,t,h=>by
  unfold UH
  by_cases e:(gi o (Ei costs o m g0 t).at_).n=0
  ·rw [if_pos e];exact ⟨h,.inl e,by omega⟩
  ·rw [if_neg e]
   obtain ⟨a,b,c⟩:=Xh o g0 f (t+1) fun p hp=>by
    rcases Nat.lt_or_ge p t with h3|h3
    ·exact h p h3
    ·obtain rfl:p=t:=by omega
     exact e
   exact ⟨a,by rcases b with b|b;exact .inl b;exact .inr (by omega),by omega⟩
theorem iR.ne {o:List Ix} {A:Nat→Nat} {p q:Nat} {g:Gr} (h:iR costs n m i o A p g) (hq:q<p):A q≠A p:=fun e=>by
 have:=(h.done (A p)).2 ⟨q,hq,e⟩
 rw [h.new] at this;cases this
theorem Zn (h:rV costs n m i s) (hc:Iw costs n m B) (hi:i<n):(∀ p,p<XR costs m s (i+1)→own (Jg s (i+1)) (MJ costs m i s p)≠0)∧own (Jg s (i+1)) (MJ costs m i s (XR costs m s (i+1)))=0∧XR costs m s (i+1)≤m+1:=by
 obtain ⟨a,b,c⟩:=Xh (costs:=costs) (m:=m) (Jg s (i+1)) (Ri m s) (m+2) 0 (fun p hp=>by omega)
 have e:XR costs m s (i+1)=UH costs (Jg s (i+1)) m (Ri m s) (m+2) 0:=rfl
 rw [← e] at a b c
 have hlt:XR costs m s (i+1)≠m+2:=fun e2=>by
  have:=Wi (m+1) (m+2) (MJ costs m i s) (fun k hk=>by
   have:=(Pg h hc hi k fun p hp=>a p (by omega)).le k (Nat.le_refl _)
   omega) (fun k j hk hj hkj=>by
   rcases Nat.lt_trichotomy k j with h3|h3|h3
   ·exact absurd hkj ((Pg h hc hi j fun p hp=>a p (by omega)).ne h3)
   ·exact h3
   ·exact absurd hkj.symm ((Pg h hc hi k fun p hp=>a p (by omega)).ne h3))
  omega
 refine ⟨a,?_,by omega⟩
 rcases b with b|b
 ·exact b
 ·omega
structure ql (costs:List (List Int)) (m i:Nat) (u v:List Int) (o:List Ix) (A:Nat→Nat) (q:Nat) (a:Aug):Prop where
 len:a.owner.length=m+1
 at_:a.at_=A q
 tight:∀ k,1≤k→k≤m→k≠a.at_→own a.owner k≠0→gi u (own a.owner k)+gi v k=cst costs (own a.owner k) k
 inj:∀ k e,k≤m→e≤m→k≠a.at_→e≠a.at_→own a.owner k=own a.owner e→own a.owner k≠0→k=e
 all:∀ r,1≤r→r≤i+1→∃ k,k≤m∧k≠a.at_∧own a.owner k=r
 same:∀ p,p<q→own a.owner (A p)=own o (A p)
 free:∀ k,1≤k→k≤m→k≠a.at_→own a.owner k=0→gi v k=0
 le:∀ k,k≤m→own a.owner k≤i+1
theorem ql.step {o:List Ix} {A:Nat→Nat} {T q:Nat} {g:Gr} {a:Aug} (h:ql costs m i g.u g.v o A q a) (hg:iR costs n m i o A T g) (hne:∀ p q,q<p→p≤T→A q≠A p) (hq:1≤q) (hqT:q≤T):∃ q',q'<q∧ql costs m i g.u g.v o A q' (kF g.way a):=by
 obtain ⟨q',q1,q2,q3⟩:=hg.path q hq hqT
 have ew:(gi g.way a.at_).n=A q':=by rw [h.at_];exact q2
 have hle:=hg.le q hqT
 have hle':=hg.le q' (by omega)
 have hab:A q'≠A q:=hne q q' q1 hqT
 have eo:∀ k,own (kF g.way a).owner k=if A q=k then own a.owner (A q') else own a.owner k:=fun k=>by
  unfold kF own
  simp only
  rw [gs (by rw [h.len,h.at_];omega),h.at_]
  rw [show gi g.way (A q)=⟨A q'⟩ from by
   have:own g.way (A q)=A q':=q2
   unfold own at this
   rw [← this]]
  split<;>rfl
 have ea:(kF g.way a).at_=A q':=by
  unfold kF;simp only;exact ew
 have hs:=h.same q' q1
 refine ⟨q',q1,by unfold kF;simp [h.len],ea,fun k k1 k2 k3=>?_,fun k e k1 k2 k3 k4=>?_,fun r r1 r2=>?_,fun p hp=>?_,fun k k1 k2 k3=>?_,fun k hk=>?_⟩
 ·rw [eo]
  rw [ea] at k3
  by_cases e:A q=k
  ·subst e
   rw [if_pos rfl,hs]
   intro _;exact q3
  ·rw [if_neg e]
   exact h.tight k k1 k2 (by rw [h.at_];exact fun x=>e x.symm)
 ·rw [ea] at k3 k4
  rw [eo,eo]
  have d1:A q'≠a.at_:=by rw [h.at_];exact hab
  by_cases e1:A q=k<;>by_cases e2:A q=e
  ·intro _ _;omega
  ·rw [if_pos e1,if_neg e2]
   intro x y
   have:=h.inj (A q') e hle' k2 d1 (by rw [h.at_];exact fun z=>e2 z.symm) x y
   exact absurd this.symm k4
  ·rw [if_neg e1,if_pos e2]
   intro x y
   have:=h.inj k (A q') k1 hle' (by rw [h.at_];exact fun z=>e1 z.symm) d1 x y
   exact absurd this k3
  ·rw [if_neg e1,if_neg e2]
   intro x y
   exact h.inj k e k1 k2 (by rw [h.at_];exact fun z=>e1 z.symm) (by rw [h.at_];exact fun z=>e2 z.symm) x y
 ·obtain ⟨k,k1,k2,k3⟩:=h.all r r1 r2
  rw [h.at_] at k2
  by_cases e:k=A q'
  ·refine ⟨A q,hle,by rw [ea];exact fun x=>hab x.symm,?_⟩
   rw [eo,if_pos rfl,← e];exact k3
  ·refine ⟨k,k1,by rw [ea];exact e,?_⟩
   rw [eo,if_neg (fun x=>k2 x.symm)];exact k3
 ·rw [eo,if_neg (fun x=>hne q p (by omega) hqT x.symm)]
  exact h.same p (by omega)
 ·rw [eo]
  rw [ea] at k3
  by_cases e:A q=k
  ·rw [if_pos e,hs]
   intro x
   exact absurd x (hg.qX q' (by omega))
  ·rw [if_neg e]
   exact h.free k k1 k2 (by rw [h.at_];exact fun x=>e x.symm)
 ·rw [eo]
  split
  ·exact h.le _ hle'
  ·exact h.le k hk
theorem Zf (way:List Ix) (a:Aug):∀ f t,(∀ p,p<t→(G7 way a p).at_≠0) →
 (∀ p,p<dG way a f t→(G7 way a p).at_≠0)∧((G7 way a (dG way a f t)).at_=0∨dG way a f t=t+f)∧dG way a f t≤t+f
 |0,t,h=>⟨h,.inr rfl,Nat.le_refl _⟩
 |f+1,t,h=>by
  unfold dG
  by_cases e:(G7 way a t).at_=0
  ·rw [if_pos e];exact ⟨h,.inl e,by omega⟩
  ·rw [if_neg e]
   obtain ⟨x,b,c⟩:=Zf way a f (t+1) fun p hp=>by
    rcases Nat.lt_or_ge p t with h3|h3
    ·exact h p h3
    ·obtain rfl:p=t:=by omega
     exact e
   exact ⟨x,by rcases b with b|b;exact .inl b;exact .inr (by omega),by omega⟩
structure a4l (costs:List (List Int)) (m:Nat) (s:kT) (i:Nat):Prop where
 go:∀ t,t<zS costs m s (i+1)→(G7 (MS costs m s (i+1)).way (stA costs m s (i+1)) t).at_≠0
 fin:(G7 (MS costs m s (i+1)).way (stA costs m s (i+1)) (zS costs m s (i+1))).at_=0
 inv:∀ t,t≤zS costs m s (i+1)→∃ q,q+t≤XR costs m s (i+1)∧ql costs m i (MS costs m s (i+1)).u (MS costs m s (i+1)).v (Jg s (i+1)) (MJ costs m i s) q (G7 (MS costs m s (i+1)).way (stA costs m s (i+1)) t)
theorem oL (h:rV costs n m i s) (hc:Iw costs n m B) (hi:i<n):a4l costs m s i:=by
 obtain ⟨a,b,c⟩:=Zn h hc hi
 have ho:=Y3 h
 have hg:=Pg h hc hi (XR costs m s (i+1)) a
 have eE:Ei costs (Jg s (i+1)) m (Ri m s) (XR costs m s (i+1))=MS costs m s (i+1):=rfl
 rw [eE] at hg
 have hne:∀ p q,q<p→p≤XR costs m s (i+1)→MJ costs m i s q≠MJ costs m i s p:=fun p q h1 h2=>(Pg h hc hi p fun p' hp'=>a p' (by omega)).ne h1
 have eA:stA costs m s (i+1)=⟨Jg s (i+1),MJ costs m i s (XR costs m s (i+1))⟩:=rfl
 have i0:ql costs m i (MS costs m s (i+1)).u (MS costs m s (i+1)).v (Jg s (i+1)) (MJ costs m i s) (XR costs m s (i+1)) (stA costs m s (i+1)):=by
  rw [eA]
  refine ⟨ho.len,rfl,fun k k1 k2 _=>hg.tight k k1 k2,fun k e k1 k2 _ _=>ho.inj k e k1 k2,fun r r1 r2=>?_,fun _ _=>rfl,fun k k1 k2 _=>hg.Pm k k1 k2,fun k hk=>ho.lt hk⟩
  have nz:∀ k,own (Jg s (i+1)) k=r→k≠MJ costs m i s (XR costs m s (i+1)):=fun k hk e=>by rw [e,b] at hk;omega
  rcases Nat.lt_or_ge r (i+1) with h3|h3
  ·obtain ⟨k,k1,k2,k3⟩:=h.all r r1 (by omega)
   have:own (Jg s (i+1)) k=r:=by
    unfold Jg
    rw [aC (by rw [h.lo];omega),if_neg (by omega)];exact k3
   exact ⟨k,k2,nz k this,this⟩
  ·have:own (Jg s (i+1)) 0=r:=by rw [ho.zero];omega
   exact ⟨0,Nat.zero_le _,nz 0 this,this⟩
 have inv:∀ t,(∀ p,p<t→(G7 (MS costs m s (i+1)).way (stA costs m s (i+1)) p).at_≠0)→∃ q,q+t≤XR costs m s (i+1)∧ql costs m i (MS costs m s (i+1)).u (MS costs m s (i+1)).v (Jg s (i+1)) (MJ costs m i s) q (G7 (MS costs m s (i+1)).way (stA costs m s (i+1)) t):=by
  intro t
  induction t with
  |zero=>intro _;exact ⟨_,Nat.le_refl _,i0⟩
  |succ t ih =>
   intro hp
   obtain ⟨q,q1,q2⟩:=ih fun p hp'=>hp p (by omega)
   have h0:=hp t (by omega)
   have hq:1≤q:=by
    rcases Nat.eq_zero_or_pos q with e|e
    ·subst e
     rw [q2.at_,hg.zero] at h0;exact absurd rfl h0
    ·exact e
   obtain ⟨q',x1,x2⟩:=q2.step hg hne hq (by omega)
   exact ⟨q',by omega,x2⟩
 obtain ⟨x,y,z⟩:=Zf (MS costs m s (i+1)).way (stA costs m s (i+1)) (m+2) 0 (fun p hp=>by omega)
 have e:zS costs m s (i+1)=dG (MS costs m s (i+1)).way (stA costs m s (i+1)) (m+2) 0:=rfl
 rw [← e] at x y z
 refine ⟨x,?_,fun t ht=>inv t fun p hp=>x p (by omega)⟩
 rcases y with y|y
 ·exact y
 ·obtain ⟨q,q1,_⟩:=inv (zS costs m s (i+1)) x
  omega
theorem rV.step (h:rV costs n m i s) (hc:Iw costs n m B) (hi:i<n):rV costs n m (i+1) (Og costs m s (i+1)):=by
 obtain ⟨a,b,c⟩:=Zn h hc hi
 have hg:=Pg h hc hi (XR costs m s (i+1)) a
 have eE:Ei costs (Jg s (i+1)) m (Ri m s) (XR costs m s (i+1))=MS costs m s (i+1):=rfl
 rw [eE] at hg
 obtain ⟨_,fin,inv⟩:=oL h hc hi
 obtain ⟨q,_,hA⟩:=inv _ (Nat.le_refl _)
 have e1:(Og costs m s (i+1)).u=(MS costs m s (i+1)).u:=rfl
 have e2:(Og costs m s (i+1)).v=(MS costs m s (i+1)).v:=rfl
 have e3:(Og costs m s (i+1)).owner=(G7 (MS costs m s (i+1)).way (stA costs m s (i+1)) (zS costs m s (i+1))).owner:=rfl
 have e4:(Og costs m s (i+1)).way=(MS costs m s (i+1)).way:=rfl
 generalize Og costs m s (i+1)=S at *
 generalize G7 (MS costs m s (i+1)).way (stA costs m s (i+1)) (zS costs m s (i+1))=a' at *
 refine ⟨by rw [e1];exact hg.lu,by rw [e2];exact hg.lv,by rw [e3];exact hA.len,by rw [e4];exact hg.lw,fun k k1 k2=>by rw [e3];exact hA.le k k2,fun r r1 r2=>?_,fun k e k1 k2 k3 k4=>?_,fun r k r1 r2 k1 k2=>by rw [e1,e2];exact hg.XH r k r1 r2 k1 k2,fun k k1 k2=>?_,fun k k1 k2=>by rw [e2];exact hg.iH k k1 k2,fun k k1 k2=>?_,fun r r1 r2=>by rw [e1];exact hg.U0 r r1 r2,fun r hr=>by rw [e1];exact hg.uz r hr⟩
 ·obtain ⟨k,k1,k2,k3⟩:=hA.all r r1 r2
  rw [fin] at k2
  exact ⟨k,by omega,k1,by rw [e3];exact k3⟩
 ·rw [e3]
  exact hA.inj k e k2 k4 (by omega) (by omega)
 ·rw [e1,e2,e3]
  exact hA.tight k k1 k2 (by omega)
 ·rw [e2,e3]
  exact hA.free k k1 k2 (by omega)
theorem stage0:rV costs n m 0 (Dh costs n m 0):=by
 have z:∀ k,own (List.replicate (m+1) (⟨0⟩:Ix)) k=0:=fun k=>by
  unfold own gi
  rw [List.getElem?_replicate]
  split<;>rfl
 refine ⟨by simp [Dh],by simp [Dh],by simp [Dh],by simp [Dh],fun k _ _=>?_,fun r h1 h2=>by omega,fun k e _ _ _ _ _ h=>absurd (z k) h,fun r k h1 h2=>by omega,fun k _ _ h=>absurd (z k) h,fun k _ _=>?_,fun k _ _ _=>?_,fun r h1 h2=>by omega,fun r _=>?_⟩
 ·show own (List.replicate (m+1) (⟨0⟩:Ix)) k≤0
  rw [z];exact Nat.le_refl _
 ·show gi (List.replicate (m+1) (0:Int)) k≤0
  rw [Vu];omega
 ·show gi (List.replicate (m+1) (0:Int)) k=0
  exact Vu k
 ·show gi (List.replicate (n+1) (0:Int)) r=0
  exact Vu r
theorem Nv (hc:Iw costs n m B):∀ i,i≤n→rV costs n m i (Dh costs n m i)
 |0,_=>stage0
 |i+1,hi=>(Nv hc i (by omega)).step hc (by omega)
end
end Go.Hun
