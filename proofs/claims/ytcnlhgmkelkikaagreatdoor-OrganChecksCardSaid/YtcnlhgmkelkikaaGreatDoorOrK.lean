/-
  The data of the laws' parameters (organs), read as plain data. Conditions: in each statement.
-/
import Derived.Test.YtcnlhgmkelkikaaGreatDoorOrG
import Derived.Test.YtcnlhgmkelkikaaGreatDoorRkQ
set_option linter.unusedSimpArgs false
set_option linter.unusedVariables false
namespace Go.Proofs.YtcnlhgmkelkikaaGreatDoor
open Go Go.Am Go.Vm
theorem hasT_struct {P:Program} {n:Nat} {t:TypeId} {fs:List FV} {sf:Array Field} (h:HasT P (n+1) t fs) (hu:P.underlying t=some (.struct sf)):∃ parts:List (List FV),fs=parts.flatten∧All2 (fun (fd:Field) x=>HasT P n fd.type x) sf.toList parts:=by
 unfold HasT at h;rw [hu] at h;exact h
theorem hasT_slice {P:Program} {n:Nat} {t e:TypeId} {fs:List FV} {α:Type} [Enc α] {p:α→Prop} (h:HasT P (n+1) t fs) (hu:P.underlying t=some (.slice e)) (he:∀ x,HasT P n e x→∃ a:α,x=Enc.enc a∧p a):∃ l:List α,fs=[.lst e (cells l) l.length]∧l.length≤maxLen∧∀ i,i<l.length→p (gi l i):=by
 unfold HasT at h;rw [hu] at h
 obtain ⟨L,rfl,hl,hL⟩:=h
 obtain ⟨r,hr⟩:=map_choose (R:=fun (a:α) fs=>fs=Enc.enc a∧p a) (l:=L) (fun x hx=>he x (hL x hx))
 obtain ⟨e1,e2,e3⟩:=flat_cells hr
 exact ⟨r,by rw [e1,e2],by omega,e3⟩
set_option maxRecDepth 100000 in
theorem has_u8 {j:Nat} {fs:List FV} (h:HasT Tryz.prog (j+1) 5 fs):∃ n:Nat,fs=[.int .u8 (n:Int)]∧n<256:=by
 simp only [HasT,Tryz.underlying5] at h
 obtain ⟨n,rfl,hn⟩:=h
 obtain ⟨m,q,rfl⟩:=nat_u8 hn
 exact ⟨m,rfl,q⟩
set_option maxRecDepth 100000 in
theorem has_i8 {j:Nat} {fs:List FV} (h:HasT Tryz.prog (j+1) 112 fs):∃ n:Int,fs=[.int .i8 n]∧-128≤n∧n≤127:=by
 simp only [HasT,Tryz.underlying112] at h
 obtain ⟨n,rfl,hn⟩:=h
 exact ⟨n,rfl,int_i8 hn⟩
set_option maxRecDepth 100000 in
theorem has_pull {j:Nat} {fs:List FV} (h:HasT Tryz.prog (j+2) 118 fs):∃ x:Pul,fs=Enc.enc x∧x.Ok:=by
 obtain ⟨parts,rfl,hp⟩:=hasT_struct h Tryz.underlying118
 obtain ⟨a,b,c,d,rfl,h1,h2,h3,h4⟩:=all2_four hp
 obtain ⟨m1,rfl,q1⟩:=has_u8 (j:=j) h1
 obtain ⟨m2,rfl,q2⟩:=has_u8 (j:=j) h2
 obtain ⟨m3,rfl,q3⟩:=has_u8 (j:=j) h3
 obtain ⟨m4,rfl,q4⟩:=has_u8 (j:=j) h4
 exact ⟨⟨m1,m2,m3,m4⟩,rfl,q1,q2,q3,q4⟩
set_option maxRecDepth 100000 in
theorem has_board {j:Nat} {fs:List FV} (h:HasT Tryz.prog (j+4) 110 fs):∃ x:Brd,fs=Enc.enc x∧x.Ok:=by
 obtain ⟨parts,rfl,hp⟩:=hasT_struct h Tryz.underlying110
 obtain ⟨a,b,c,d,rfl,h1,h2,h3,h4⟩:=all2_four hp
 obtain ⟨m1,rfl,q1⟩:=has_u8 (j:=j+2) h1
 obtain ⟨m2,rfl,q2⟩:=has_u8 (j:=j+2) h2
 obtain ⟨m3,rfl⟩:=has_bool (j:=j+2) h3
 obtain ⟨l,rfl,hl,hL⟩:=hasT_slice (n:=j+2) (p:=Pul.Ok) h4 Tryz.underlying108 (fun x hx=>has_pull hx)
 exact ⟨⟨m1,m2,m3,l⟩,rfl,q1,q2,by simp only [maxLen] at hl;simp only;omega,hL⟩
set_option maxRecDepth 100000 in
theorem has_link {j:Nat} {fs:List FV} (h:HasT Tryz.prog (j+2) 120 fs):∃ x:Lnk,fs=Enc.enc x∧x.Ok:=by
 obtain ⟨parts,rfl,hp⟩:=hasT_struct h Tryz.underlying120
 obtain ⟨a,b,c,d,rfl,h1,h2,h3,h4⟩:=all2_four hp
 obtain ⟨m1,rfl,q1⟩:=has_u8 (j:=j) h1
 obtain ⟨m2,rfl,q2⟩:=has_u8 (j:=j) h2
 obtain ⟨m3,rfl,q3⟩:=has_i8 (j:=j) h3
 obtain ⟨m4,rfl⟩:=has_bool (j:=j) h4
 exact ⟨⟨m1,m2,m3,m4⟩,rfl,q1,q2,q3⟩
set_option maxRecDepth 100000 in
theorem has_oplan {j:Nat} {fs:List FV} (h:HasT Tryz.prog (j+6) 26 fs):∃ x:OPl,fs=x.enc∧x.Ok:=by
 obtain ⟨parts,rfl,hp⟩:=hasT_struct h Tryz.underlying26
 obtain ⟨a,b,c,rfl,h1,h2,h3⟩:=all2_three hp
 obtain ⟨l1,rfl,n1,g1⟩:=hasT_slice (n:=j+4) (p:=RPlan.Ok) h1 Tryz.underlying22 (fun x hx=>has_rplan (j:=j+1) hx)
 obtain ⟨l2,rfl,n2,g2⟩:=hasT_slice (n:=j+4) (p:=Brd.Ok) h2 Tryz.underlying23 (fun x hx=>has_board hx)
 obtain ⟨l3,rfl,n3,g3⟩:=hasT_slice (n:=j+4) (p:=Lnk.Ok) h3 Tryz.underlying24 (fun x hx=>has_link (j:=j+2) hx)
 simp only [maxLen] at n1 n2 n3
 exact ⟨⟨l1,l2,l3⟩,rfl,g1,g2,g3,by simp only;omega,by simp only;omega,by simp only;omega⟩
end Go.Proofs.YtcnlhgmkelkikaaGreatDoor
