/-
  Texts of a proof, merged (OrK, OrP, TraU). Conditions: in each statement.
-/
import Derived.Test.YtdabojnmoejilaaGreatDoorKSf
set_option linter.unusedSimpArgs false
set_option linter.unusedVariables false
set_option linter.unusedSectionVars false
set_option maxRecDepth 100000
set_option maxHeartbeats 8000000
namespace Go.Proofs.YtdabojnmoejilaaGreatDoor
open Go Go.Am Go.Vm
theorem G7 {P:Program} {n:Nat} {t:TypeId} {fs:List FV} {sf:Array Field} (h:Es P (n+1) t fs) (hu:P.underlying t=some (.struct sf)):∃ parts:List (List FV),fs=parts.flatten∧F5 (fun (fd:Field) x=>Es P n fd.type x) sf.toList parts:=by
 unfold Es at h;rw [hu] at h;exact h
theorem LQ {P:Program} {n:Nat} {t e:TypeId} {fs:List FV} {α:Type} [Enc α] {p:α→Prop} (h:Es P (n+1) t fs) (hu:P.underlying t=some (.slice e)) (he:∀ x,Es P n e x→∃ a:α,x=Enc.enc a∧p a):∃ l:List α,fs=[.lst e (cells l) l.length]∧l.length≤maxLen∧∀ i,i<l.length→p (gi l i):=by
 unfold Es at h;rw [hu] at h
 obtain ⟨L,rfl,hl,hL⟩:=h
 obtain ⟨r,hr⟩:=VZ (R:=fun (a:α) fs=>fs=Enc.enc a∧p a) (l:=L) (fun x hx=>he x (hL x hx))
 obtain ⟨e1,e2,e3⟩:=Vr hr
 exact ⟨r,by rw [e1,e2],by omega,e3⟩
theorem FH {j:Nat} {fs:List FV} (h:Es Tryz.prog (j+1) 5 fs):∃ n:Nat,fs=[.int .u8 (n:Int)]∧n<256:=by
 simp only [Es,Tryz.underlying5] at h
 obtain ⟨n,rfl,hn⟩:=h
 obtain ⟨m,q,rfl⟩:=Lm hn
 exact ⟨m,rfl,q⟩
theorem a0s {j:Nat} {fs:List FV} (h:Es Tryz.prog (j+1) 64 fs):∃ n:Int,fs=[.int .i8 n]∧-128≤n∧n≤127:=by
 simp only [Es,Tryz.underlying64] at h
 obtain ⟨n,rfl,hn⟩:=h
 exact ⟨n,rfl,uY hn⟩
theorem rU {j:Nat} {fs:List FV} (h:Es Tryz.prog (j+2) 72 fs):∃ x:nR,fs=Enc.enc x∧x.Ok:=by
 obtain ⟨parts,rfl,hp⟩:=G7 h Tryz.underlying72
 obtain ⟨a,b,c,d,rfl,h1,h2,h3,h4⟩:=KY hp
 obtain ⟨m1,rfl,q1⟩:=FH (j:=j) h1
 obtain ⟨m2,rfl,q2⟩:=FH (j:=j) h2
 obtain ⟨m3,rfl,q3⟩:=FH (j:=j) h3
 obtain ⟨m4,rfl,q4⟩:=FH (j:=j) h4
 exact ⟨⟨m1,m2,m3,m4⟩,rfl,q1,q2,q3,q4⟩
theorem mQ {j:Nat} {fs:List FV} (h:Es Tryz.prog (j+4) 75 fs):∃ x:nD,fs=Enc.enc x∧x.Ok:=by
 obtain ⟨parts,rfl,hp⟩:=G7 h Tryz.underlying75
 obtain ⟨a,b,c,d,rfl,h1,h2,h3,h4⟩:=KY hp
 obtain ⟨m1,rfl,q1⟩:=FH (j:=j+2) h1
 obtain ⟨m2,rfl,q2⟩:=FH (j:=j+2) h2
 obtain ⟨m3,rfl⟩:=bV (j:=j+2) h3
 obtain ⟨l,rfl,hl,hL⟩:=LQ (n:=j+2) (p:=nR.Ok) h4 Tryz.underlying73 (fun x hx=>rU hx)
 exact ⟨⟨m1,m2,m3,l⟩,rfl,q1,q2,by simp only [maxLen] at hl;simp only;omega,hL⟩
theorem vV {j:Nat} {fs:List FV} (h:Es Tryz.prog (j+2) 153 fs):∃ x:wB,fs=Enc.enc x∧x.Ok:=by
 obtain ⟨parts,rfl,hp⟩:=G7 h Tryz.underlying153
 obtain ⟨a,b,c,d,rfl,h1,h2,h3,h4⟩:=KY hp
 obtain ⟨m1,rfl,q1⟩:=FH (j:=j) h1
 obtain ⟨m2,rfl,q2⟩:=FH (j:=j) h2
 obtain ⟨m3,rfl,q3⟩:=a0s (j:=j) h3
 obtain ⟨m4,rfl⟩:=bV (j:=j) h4
 exact ⟨⟨m1,m2,m3,m4⟩,rfl,q1,q2,q3⟩
theorem XM {j:Nat} {fs:List FV} (h:Es Tryz.prog (j+6) 26 fs):∃ x:o9,fs=x.enc∧x.Ok:=by
 obtain ⟨parts,rfl,hp⟩:=G7 h Tryz.underlying26
 obtain ⟨a,b,c,rfl,h1,h2,h3⟩:=WQ hp
 obtain ⟨l1,rfl,n1,g1⟩:=LQ (n:=j+4) (p:=FU.Ok) h1 Tryz.underlying22 (fun x hx=>ng (j:=j+1) hx)
 obtain ⟨l2,rfl,n2,g2⟩:=LQ (n:=j+4) (p:=nD.Ok) h2 Tryz.underlying23 (fun x hx=>mQ hx)
 obtain ⟨l3,rfl,n3,g3⟩:=LQ (n:=j+4) (p:=wB.Ok) h3 Tryz.underlying24 (fun x hx=>vV (j:=j+2) hx)
 simp only [maxLen] at n1 n2 n3
 exact ⟨⟨l1,l2,l3⟩,rfl,g1,g2,g3,by simp only;omega,by simp only;omega,by simp only;omega⟩
end Go.Proofs.YtdabojnmoejilaaGreatDoor
namespace Go.Proofs.YtdabojnmoejilaaGreatDoor
open Go Go.Am Go.Vm
theorem a3c {α:Type} {L:List α} (h:L.length=5):∃ a b c d e,L=[a,b,c,d,e]:=by
 match L,h with
 |[a,b,c,d,e],_=>exact ⟨a,b,c,d,e,rfl⟩
theorem o7 {j:Nat} {fs:List FV} (h:Es Tryz.prog (j+2) 27 fs):∃ b:Nat→Nat,fs=qC b∧∀ i,b i<256:=by
 obtain ⟨L,rfl,hl,hL⟩:=Es.array h Tryz.underlying27
 obtain ⟨a,b,c,d,e,rfl⟩:=a3c hl
 obtain ⟨m1,rfl,q1⟩:=FH (j:=j) (hL a (by simp))
 obtain ⟨m2,rfl,q2⟩:=FH (j:=j) (hL b (by simp))
 obtain ⟨m3,rfl,q3⟩:=FH (j:=j) (hL c (by simp))
 obtain ⟨m4,rfl,q4⟩:=FH (j:=j) (hL d (by simp))
 obtain ⟨m5,rfl,q5⟩:=FH (j:=j) (hL e (by simp))
 exact ⟨fun i=>if i=0 then m1 else if i=1 then m2 else if i=2 then m3 else if i=3 then m4 else m5,rfl,fun i=>by simp only;split<;>(try split)<;>(try split)<;>(try split)<;>omega⟩
end Go.Proofs.YtdabojnmoejilaaGreatDoor
namespace Go.Proofs.YtdabojnmoejilaaGreatDoor
open Go Go.Am Go.Vm
theorem list4 {α:Type} {L:List α} (h:L.length=4):∃ a b c d,L=[a,b,c,d]:=by
 match L,h with
 |[a,b,c,d],_=>exact ⟨a,b,c,d,rfl⟩
theorem nZ {j:Nat} {fs:List FV} (h:Es Tryz.prog (j+2) 28 fs):∃ b:Nat→Nat,fs=[.int .u8 (b 0:Int),.int .u8 (b 1:Int),.int .u8 (b 2:Int),.int .u8 (b 3:Int)]∧∀ i,b i<256:=by
 obtain ⟨L,rfl,hl,hL⟩:=Es.array h Tryz.underlying28
 obtain ⟨a,b,c,d,rfl⟩:=list4 hl
 obtain ⟨m1,rfl,q1⟩:=FH (j:=j) (hL a (by simp))
 obtain ⟨m2,rfl,q2⟩:=FH (j:=j) (hL b (by simp))
 obtain ⟨m3,rfl,q3⟩:=FH (j:=j) (hL c (by simp))
 obtain ⟨m4,rfl,q4⟩:=FH (j:=j) (hL d (by simp))
 exact ⟨fun i=>if i=0 then m1 else if i=1 then m2 else if i=2 then m3 else m4,rfl,fun i=>by simp only;split<;>(try split)<;>(try split)<;>omega⟩
theorem oH {j:Nat} {fs:List FV} (h:Es Tryz.prog (j+7) 30 fs):∃ x:qh,fs=x.enc∧x.Ok:=by
 obtain ⟨parts,rfl,hp⟩:=G7 h Tryz.underlying30
 obtain ⟨a,b,c,d,rfl,h1,h2,h3,h4⟩:=KY hp
 obtain ⟨x1,rfl,k1⟩:=XM (j:=j) h1
 obtain ⟨x2,rfl,k2⟩:=XM (j:=j) h2
 obtain ⟨b5,rfl,k3⟩:=o7 (j:=j+4) h3
 obtain ⟨b4,rfl,k4⟩:=nZ (j:=j+4) h4
 exact ⟨⟨x1,x2,b5,b4⟩,rfl,k1,k2,k3,k4⟩
theorem yx {j:Nat} {fs:List FV} (h:Es Tryz.prog (j+2) 85 fs):∃ a b:Int,fs=[.int .i64 a,.int .i64 b]:=by
 obtain ⟨parts,rfl,hp⟩:=G7 h Tryz.underlying85
 obtain ⟨a,b,rfl,h1,h2⟩:=Qe hp
 obtain ⟨m1,rfl,q1⟩:=lY (j:=j) h1
 obtain ⟨m2,rfl,q2⟩:=lY (j:=j) h2
 exact ⟨m1,m2,rfl⟩
end Go.Proofs.YtdabojnmoejilaaGreatDoor
