/-
  Texts of a proof, merged (HanBt). Conditions: in each statement.
-/
import Derived.Test.YtnjkoebfgcbbdaaGreatDoorKBq
set_option linter.unusedSimpArgs false
set_option linter.unusedVariables false
set_option linter.unusedSectionVars false
set_option maxRecDepth 100000
set_option maxHeartbeats 8000000
namespace Go.Proofs.YtnjkoebfgcbbdaaGreatDoor
open Go Go.Am Go.Vm Go.Pie Go.Sch
attribute [local irreducible] Aa Ai Ag Ad AO Ap Bc BK Bh Ah Vm.Done Bv AB Pv A8 BM Et IG FX Hold
attribute [local irreducible] Ce Ba DX DJ En AZ CB
theorem wY (n:Nat) (h:n≤1000000):Ap env 18 [.int .i64 (n:Int)] (st (Lib.decDigits n)):=by
 have ho:=Uf (n:Int) (by omega);assumption
theorem bP (x:dW) (hx:x.Ok) (y:Rch) (hy:y.Ok):IG env 4 [.agg x.enc,.agg y.enc] (.p (.bool true)):=by
 have hkn:=lX;have hf:=xG x hx;by_cases hfit:OY x
 ·rw [decide_eq_true hfit] at hf
  have hm:=oH x hx hfit y hy;have hk0:=c2n x hx hfit y;have hn:=c3j x hfit y;unfold mkH at *;generalize Zh x.org=o at *;generalize mkP x=p at *;generalize mkY y=z at *;have hlen:p.notes.length≤8:=hn;have hB:=bF _ hk0 (by omega);have hC:=Xv _ hk0 (by omega);have hb1:=iC _ hk0 (by omega) (t:=(AY p).length) (ab _);have hsl:=Xo hk0.o.sm hk0.e hk0.p;have hal:=b0c ⟨o,p,z⟩ hk0 hn;have hcd:=a3a ⟨o,p,z⟩ hk0;have hof:=wY (Ho ⟨o,p,z⟩ (AY p).length).length hb1;have a9k:=fun l=>Qi ⟨o,p,z⟩ hk0 l
  have b4c:=fun n=>a6t ⟨o,p,z⟩ hk0 (n:=n)
  replace hal:Ap env 17 [.agg (Enc.enc (⟨o,p,z⟩:Qu)),.lst 81 (cells (AY p)) (AY p).length] (.p (.lst 28 (cells (GX ⟨o,p,z⟩ (2 ^ p.notes.length))) (GX ⟨o,p,z⟩ (2 ^ p.notes.length)).length)):=hal;replace hcd:(GX ⟨o,p,z⟩ (2 ^ p.notes.length)).length=(Ho ⟨o,p,z⟩ (AY p).length).length:=hcd;replace a9k:∀ l,l∈GX ⟨o,p,z⟩ (2 ^ p.notes.length)↔l∈Ho ⟨o,p,z⟩ (AY p).length:=a9k;replace b4c:∀ n,(GX ⟨o,p,z⟩ (2 ^ p.notes.length)).length=n+1→IsB ⟨o,p,z⟩ (gi (GX ⟨o,p,z⟩ (2 ^ p.notes.length)) (JZ (fun i=>Dz ⟨o,p,z⟩ (gi (GX ⟨o,p,z⟩ (2 ^ p.notes.length)) i)) n)):=b4c;replace hC:IG env 12 [.agg (Enc.enc (⟨o,p,z⟩:Qu))] (.Eb [st (Lib.decDigits (Ho ⟨o,p,z⟩ (AY p).length).length),.p (.int .i64 0)]):=hC;rw [← hcd] at hC hof hb1;generalize GX ⟨o,p,z⟩ (2 ^ p.notes.length)=A at *;have hdec:decide (Lib.decDigits A.length=Lib.decDigits A.length)=true:=decide_eq_true rfl;rcases wB ⟨o,p,z⟩ with ⟨hE,e1⟩|⟨a,e1,hA⟩
  ·unfold ZM at hB
   rw [e1] at hB;have hE:Ho ⟨o,p,z⟩ (AY p).length=[]:=hE;rw [hE] at hcd;have h0:A.length=0:=hcd;generalize Lib.decDigits A.length=dg at *;refine IG.enter Tryz.func4 rfl (by kernel_rfl) (by kernel_rfl) (by simp [Tryz.ntmps4]) ?_
   repeat' (first|(refine A8.at 1 ?_;apply A8.LZ)|(refine A8.at 4 ?_;apply A8.LZ)|(refine A8.at 5 ?_;apply A8.LZ)|(apply BM.fn;rfl;rfl;exact hkn;exact Ob;intro _;rfl)|(apply BM.fn;rfl;rfl;exact hB;exact Qy;intro _;rfl)|(apply BM.fn;rfl;rfl;exact hC;exact Oq;intro _;rfl)|apply A8.BD|apply Et.normal|apply Et.ret|apply A8.to|apply A8.ret|apply A8.skip|(apply A8.cond_false;rfl)|(apply A8.Aq;rfl)|apply BM.nil|apply BM.one|(apply Aa.fn;rfl;rfl;exact hf;intro _;rfl)|(apply Aa.fn;rfl;rfl;exact hm;intro _;rfl)|(apply Aa.fn;rfl;rfl;exact hsl;intro _;rfl)|(apply Aa.fn;rfl;rfl;exact hal;intro _;rfl)|(apply Aa.fn;rfl;rfl;exact hof;intro _;rfl)|(apply Aa.c2k;rfl;rfl;exact hdec)|(apply Aa.b6u;rfl;rfl)|refine go2 ?_|(apply Aa.int;rfl;rfl;rfl)|(intro _;try (exfalso;omega))|(apply BM.ofV))
   all_goals first|(exfalso;omega)|contradiction|(refine Done.rt rfl rfl ⟨?_,rfl,rfl⟩;try rfl)
  ·have hB:IG env 11 [.agg (Enc.enc (⟨o,p,z⟩:Qu))] (.Eb [.p (.agg [.lst 3 (cells a) a.length,.int .i64 (Dz ⟨o,p,z⟩ a)]),.p (.int .i64 0)]):=by
    unfold ZM at hB;rw [e1] at hB;exact hB
   have hmem:a∈A:=(a9k a).2 hA.1;have hAl:=gC hmem;obtain ⟨n,hAn⟩:∃ n,A.length=n+1:=⟨A.length-1,by omega⟩
   have hab:=ru (b4c n hAn) hA;have hll:∀ i,i<A.length→(gi A i).length=p.notes.length:=fun i hi=>((MW _ hk0 _).1 ((a9k _).1 (DV hi))).1
   have hlp:∀ i,i<A.length→Ap env 20 [.agg (Enc.enc (⟨o,p,z⟩:Qu)),.lst 3 (cells (gi A i)) (gi A i).length,.lst 81 (cells (AY p)) (AY p).length] (.p (.lst 151 (cells (Qq ⟨o,p,z⟩ (gi A i))) (Qq ⟨o,p,z⟩ (gi A i)).length)):=fun i hi=>Yr ⟨o,p,z⟩ hk0 _ (hll i hi)
   have hlc:∀ i,Ap env 19 [.lst 151 (cells (Qq ⟨o,p,z⟩ (gi A i))) (Qq ⟨o,p,z⟩ (gi A i)).length] (.p (.int .i64 (Dz ⟨o,p,z⟩ (gi A i)))):=fun i=>uT _ (b3u hk0 _) (b2b hk0 _)
   have hsm:=Xn a (gi A (JZ (fun i=>Dz ⟨o,p,z⟩ (gi A i)) n)) (by have:=((MW _ hk0 a).1 hA.1).1;have:a.length=p.notes.length:=this;omega) (by rw [hab];have:=((MW _ hk0 a).1 hA.1).1;have:a.length=p.notes.length:=this;omega);rw [decide_eq_true hab.symm] at hsm;have hcc:Dz ⟨o,p,z⟩ (gi A (JZ (fun i=>Dz ⟨o,p,z⟩ (gi A i)) n))=Dz ⟨o,p,z⟩ a:=by rw [hab]
   have hfl:=YK (fun i=>Dz ⟨o,p,z⟩ (gi A i));have hfs:∀ k,((JZ (fun i=>Dz ⟨o,p,z⟩ (gi A i)) (k+1):Nat):Int)=if Dz ⟨o,p,z⟩ (gi A (k+1))<Dz ⟨o,p,z⟩ (gi A (JZ (fun i=>Dz ⟨o,p,z⟩ (gi A i)) k)) then (k:Int)+1 else ((JZ (fun i=>Dz ⟨o,p,z⟩ (gi A i)) k:Nat):Int):=fun k=>by
    show (((if Dz ⟨o,p,z⟩ (gi A (k+1))<Dz ⟨o,p,z⟩ (gi A (JZ (fun i=>Dz ⟨o,p,z⟩ (gi A i)) k)) then k+1 else JZ (fun i=>Dz ⟨o,p,z⟩ (gi A i)) k:Nat)):Int)=_;split<;>rfl
   clear b4c a9k hll hA hmem hab;generalize Lib.decDigits A.length=dg at *;have c1z:=hlp (JZ (fun i=>Dz ⟨o,p,z⟩ (gi A i)) n) (by have:=hfl n;omega);have b7d:=hlc (JZ (fun i=>Dz ⟨o,p,z⟩ (gi A i)) n);have hfn:=hfl n;generalize hF:(fun i=>Dz ⟨o,p,z⟩ (gi A i))=F at *;generalize AY p=S at *;rw [hcc] at b7d;clear hcc;generalize hca:Dz ⟨o,p,z⟩ a=ca at *;refine IG.enter Tryz.func4 rfl (by kernel_rfl) (by kernel_rfl) (by simp [Tryz.ntmps4]) ?_
   repeat' (first|(refine A8.at 1 ?_;apply A8.LZ)|(refine A8.at 4 ?_;apply A8.LZ)|(refine A8.at 5 ?_;apply A8.LZ)|(apply BM.fn;rfl;rfl;exact hkn;exact Ob;intro _;rfl)|(apply BM.fn;rfl;rfl;exact hB;exact Qy;intro _;rfl)|(apply BM.fn;rfl;rfl;exact hC;exact Oq;intro _;rfl)|((refine A8.at 14 ?_;refine Hold.of ?_))|apply A8.BD|apply Et.normal|apply A8.to|apply A8.skip|(apply A8.cond_false;rfl)|(apply A8.Aq;rfl)|apply BM.nil|apply BM.one|(apply Aa.fn;rfl;rfl;exact hf;intro _;rfl)|(apply Aa.fn;rfl;rfl;exact hm;intro _;rfl)|(apply Aa.fn;rfl;rfl;exact hsl;intro _;rfl)|(apply Aa.fn;rfl;rfl;exact hal;intro _;rfl)|(apply Aa.fn;rfl;rfl;exact hof;intro _;rfl)|(apply Aa.c2k;rfl;rfl;exact hdec)|refine go2 ?_|(apply Aa.int;rfl;rfl;rfl)|(intro _;try (exfalso;omega))|(apply BM.ofV))
   all_goals try (exfalso;omega)
   all_goals try contradiction
   refine Hold.go ?_;refine A8.ofV ?_
   repeat' (first|refine go1 ?_|fail)
   all_goals try (exfalso;omega)
   apply Ad.F5 ((A.length-1)) [(5,_),(6,_),(7,_),(10,_),(12,_)] [(2,_),(3,_)] (fun k r=>(14,.p (.int .i64 ((k:Int)+1)))::(13,.p (.int .i64 ((JZ F k:Nat):Int)))::r) (fun k r=>r) 4
   ·first|omega|decide
   ·first|omega|decide
   ·exact NI
   ·exact Px
   ·intro k hk
    have hx:((k:Int)+1)=((k+1:Nat):Int):=by omega
    have g1:=hfl k;have hpa:=hlp (k+1) (by omega);have c7e:=hlc (k+1);have hpb:=hlp (JZ F k) (by omega);have hcb2:=hlc (JZ F k);rw [hfs k];clear hlp hlc hfs c1z b7d;generalize JZ F k=m at *;generalize Dz ⟨o,p,z⟩ (gi A (k+1))=c1 at *;generalize Dz ⟨o,p,z⟩ (gi A m)=c2 at *;by_cases h:c1<c2;all_goals first|rw [if_pos h]|rw [if_neg h]
    all_goals
     repeat' (first|(apply Aa.fn;rfl;rfl;exact hpa;intro _;rfl)|(apply Aa.fn;rfl;rfl;exact c7e;intro _;rfl)|(apply Aa.fn;rfl;rfl;exact hpb;intro _;rfl)|(apply Aa.fn;rfl;rfl;exact hcb2;intro _;rfl)|(apply Aa.Aj (l:=A) (i:=k+1);rfl;exact congrArg (fun b=>some (PV.p (.int .i64 b))) hx;rfl;omega;rfl)|(apply Aa.Aj (l:=A) (i:=m);rfl;rfl;rfl;omega;rfl)|refine Ij ?_|(apply Aa.int;rfl;rfl;rfl)|(apply Ad.Ac;rfl)|(apply Ad.Aq;rfl)|(intro _;try (exfalso;omega)))
    all_goals try (exfalso;omega)
    all_goals try contradiction
    all_goals
     refine Ah.normal ⟨by first|omega|decide,?_,?_⟩
     ·exact C9
     ·exact DR
   ·have e1:A.length-1=n:=by omega
    rw [e1];generalize JZ F n=m at *
    repeat' (first|(apply Aa.fn;rfl;rfl;exact hsm;intro _;rfl)|(apply Aa.fn;rfl;rfl;exact c1z;intro _;rfl)|(apply Aa.fn;rfl;rfl;exact b7d;intro _;rfl)|(apply Aa.Aj (l:=A) (i:=m);rfl;rfl;rfl;omega;rfl)|refine fP ?_|(apply Aa.int;rfl;rfl;rfl)|(apply Ad.Ac;rfl)|(intro _;try (exfalso;omega)))
    all_goals first|(exfalso;omega)|contradiction|(refine Done.rt rfl rfl ⟨?_,rfl,rfl⟩;try rfl)
    all_goals first|exact PV.Je (decide_eq_true (by omega))|exact PV.Je (by simp;omega)
 ·rw [decide_eq_false hfit] at hf
  refine IG.enter Tryz.func4 rfl (by kernel_rfl) (by kernel_rfl) (by simp [Tryz.ntmps4]) ?_
  repeat' (first|(refine A8.at 1 ?_;apply A8.LZ)|(refine A8.at 2 ?_;apply A8.LZ)|(apply BM.fn;rfl;rfl;exact hkn;exact Ob;intro _;rfl)|apply A8.BD|apply Et.ret|apply A8.to|apply A8.ret|(apply A8.cond_true;rfl)|apply BM.nil|apply BM.one|(apply Aa.fn;rfl;rfl;exact hf;intro _;rfl)|refine go2 ?_|(apply BM.ofV))
  all_goals first|(exfalso;omega)|contradiction|(refine Done.rt rfl rfl ⟨?_,rfl,rfl⟩;try rfl)
end Go.Proofs.YtnjkoebfgcbbdaaGreatDoor
