/-
  Organs as plain data; what the layer's checks say of them. Definitions. Conditions: in each statement.
-/
import Derived.Test.YtcnlhgmkelkikaaGreatDoorRkC
import Derived.Test.YtcnlhgmkelkikaaGreatDoorVmE
set_option linter.unusedSimpArgs false
set_option linter.unusedVariables false
namespace Go.Proofs.YtcnlhgmkelkikaaGreatDoor
open Go Go.Am Go.Vm
structure Drw where
 rank:Int
 shift:Int
instance:Enc Drw:={ default:=⟨0,0⟩,enc:=fun x=>[.int .i64 x.rank,.int .i64 x.shift],size:=2,len:=fun _=>rfl }
structure Seg where
 lo:Int
 hi:Int
 draws:List Drw
instance:Enc Seg:={ default:=⟨0,0,[]⟩,enc:=fun x=>[.int .i64 x.lo,.int .i64 x.hi,.lst 136 (cells x.draws) x.draws.length],size:=3,len:=fun _=>rfl }
structure Stp where
 name:List UInt8
 feet:Frac
 segs:List Seg
instance:Enc Stp:={ default:=⟨[],⟨0,0⟩,[]⟩,enc:=fun x=>[.str (bs x.name),.int .i64 x.feet.num,.int .i64 x.feet.den,.lst 55 (cells x.segs) x.segs.length],size:=4,len:=fun _=>rfl }
structure Dvs where
 name:List UInt8
 pedal:Bool
 lo:Int
 hi:Int
 stops:List Stp
instance:Enc Dvs:={ default:=⟨[],false,0,0,[]⟩,enc:=fun x=>[.str (bs x.name),.bool x.pedal,.int .i64 x.lo,.int .i64 x.hi,.lst 52 (cells x.stops) x.stops.length],size:=5,len:=fun _=>rfl }
structure Cpl where
 name:List UInt8
 frm:Int
 tgt:Int
 shift:Int
 through:Bool
instance:Enc Cpl:={ default:=⟨[],0,0,0,false⟩,enc:=fun x=>[.str (bs x.name),.int .i64 x.frm,.int .i64 x.tgt,.int .i64 x.shift,.bool x.through],size:=5,len:=fun _=>rfl }
structure Org where
 name:List UInt8
 ranks:List Rnk
 divs:List Dvs
 cpls:List Cpl
instance:Enc Org:={ default:=⟨[],[],[],[]⟩,enc:=fun x=>[.str (bs x.name),.lst 44 (cells x.ranks) x.ranks.length,.lst 49 (cells x.divs) x.divs.length,.lst 72 (cells x.cpls) x.cpls.length],size:=4,len:=fun _=>rfl }
structure Cps where
 lo:Int
 hi:Int
instance:Enc Cps:={ default:=⟨0,0⟩,enc:=fun x=>[.int .i64 x.lo,.int .i64 x.hi],size:=2,len:=fun _=>rfl }
noncomputable instance (a b:Drw):Decidable (a=b):=Classical.propDecidable _
noncomputable instance (a:Drw) (l:List Drw):Decidable (a∈l):=Classical.propDecidable _
noncomputable instance (a:List UInt8) (l:List (List UInt8)):Decidable (a∈l):=Classical.propDecidable _
def cmpE (lo hi:Int):Int:=if lo<0∨hi>127 then 3 else if lo>hi then 23 else 0
noncomputable def drwsE (n:Nat) (l:List Drw) (k:Nat):Int :=
 if k<l.length then
  if (gi l k).rank<0∨(gi l k).rank≥n then 10 else if (gi l k).shift< -127∨(gi l k).shift>127 then 3 else if gi l k∈l.take k then 9 else drwsE n l (k+1)
 else 0
termination_by l.length-k
noncomputable def drwE (n:Nat) (l:List Drw):Int:=if l.length>8 then 4 else drwsE n l 0
noncomputable def segsE (n:Nat) (lo hi:Int) (l:List Seg) (k:Nat):Int :=
 if k<l.length then
  if min (gi l k).lo (gi l k).hi<lo∨max (gi l k).lo (gi l k).hi>hi then 23 else if (gi l k).lo>(gi l k).hi∨0<k∧(gi l k).lo≤(gi l (k-1)).hi then 6
  else if drwE n (gi l k).draws≠0 then drwE n (gi l k).draws else segsE n lo hi l (k+1)
 else 0
termination_by l.length-k
noncomputable def stpE (n:Nat) (lo hi:Int) (s:Stp):Int :=
 if ¬ nameOk s.name then 8 else if pchk s.feet≠0 then pchk s.feet else if s.segs.length=0 then 13 else if s.segs.length>12 then 4 else segsE n lo hi s.segs 0
noncomputable def rksE (l:List Rnk) (k:Nat):Int :=
 if k<l.length then if rchk (gi l k)≠0 then rchk (gi l k) else rksE l (k+1) else 0
termination_by l.length-k
noncomputable def plcE (l:List Rnk) (lo hi:Int):Int:=if l.length>60 then 4 else if rksE l 0≠0 then rksE l 0 else cmpE lo hi
noncomputable def stoE (rk:List Rnk) (lo hi:Int) (s:Stp):Int:=if plcE rk lo hi≠0 then plcE rk lo hi else stpE rk.length lo hi s
noncomputable def rnkE (l:List Rnk) (k:Nat):Int :=
 if k<l.length then if rchk (gi l k)≠0 then rchk (gi l k) else if (gi l k).name∈(l.take k).map Rnk.name then 9 else rnkE l (k+1) else 0
termination_by l.length-k
noncomputable def stosE (rk:List Rnk) (lo hi:Int) (l:List Stp) (k:Nat):Int :=
 if k<l.length then if stoE rk lo hi (gi l k)≠0 then stoE rk lo hi (gi l k) else if (gi l k).name∈(l.take k).map Stp.name then 9 else stosE rk lo hi l (k+1) else 0
termination_by l.length-k
noncomputable def dvsE (rk:List Rnk) (d:Dvs):Int:=if cmpE d.lo d.hi≠0 then cmpE d.lo d.hi else if d.stops.length>60 then 4 else stosE rk d.lo d.hi d.stops 0
noncomputable def divsE (rk:List Rnk) (l:List Dvs) (k:Nat):Int :=
 if k<l.length then if ¬ nameOk (gi l k).name then 8 else if (gi l k).name∈(l.take k).map Dvs.name then 9 else if dvsE rk (gi l k)≠0 then dvsE rk (gi l k) else divsE rk l (k+1) else 0
termination_by l.length-k
noncomputable def cplsE (n:Nat) (l:List Cpl) (k:Nat):Int :=
 if k<l.length then
  if ¬ nameOk (gi l k).name then 8 else if (gi l k).name∈(l.take k).map Cpl.name then 9
  else if (gi l k).frm<0∨(gi l k).frm≥n∨(gi l k).tgt<0∨(gi l k).tgt≥n then 10
  else if (gi l k).shift< -127∨(gi l k).shift>127 then 3 else if (gi l k).frm=(gi l k).tgt∧(gi l k).shift=0 then 7 else cplsE n l (k+1)
 else 0
termination_by l.length-k
noncomputable def cpsE (l:List Cps) (k:Nat):Int:=if k<l.length then if cmpE (gi l k).lo (gi l k).hi≠0 then 23 else cpsE l (k+1) else 0
termination_by l.length-k
noncomputable def cplE (ks:List Cps) (l:List Cpl):Int:=if ks.length>8∨l.length>40 then 4 else if cpsE ks 0≠0 then cpsE ks 0 else cplsE ks.length l 0
noncomputable def orgE (o:Org):Int :=
 if ¬ nameOk o.name then 8 else if o.ranks.length>60 then 4 else if rnkE o.ranks 0≠0 then rnkE o.ranks 0 else if o.divs.length=0 then 13 else if o.divs.length>8 then 4
 else if divsE o.ranks o.divs 0≠0 then divsE o.ranks o.divs 0 else cplE (o.divs.map fun d=>⟨d.lo,d.hi⟩) o.cpls
structure SegSm (x:Seg):Prop where
 draws:x.draws.length<1000000
structure StpSm (x:Stp):Prop where
 name:x.name.length<1000000
 segs:x.segs.length<1000000
 all:∀ i,i<x.segs.length→SegSm (gi x.segs i)
structure DvsSm (x:Dvs):Prop where
 name:x.name.length<1000000
 stops:x.stops.length<1000000
 all:∀ i,i<x.stops.length→StpSm (gi x.stops i)
structure RnkSm (r:Rnk):Prop where
 name:r.name.length<1000000
 tone:r.tone.length<1000000
 wind:r.wind.length<1000000
structure OrgSm (o:Org):Prop where
 name:o.name.length<1000000
 ranks:o.ranks.length<1000000
 divs:o.divs.length<1000000
 cpls:o.cpls.length<1000000
 rk:∀ i,i<o.ranks.length→RnkSm (gi o.ranks i)
 dv:∀ i,i<o.divs.length→DvsSm (gi o.divs i)
 cp:∀ i,i<o.cpls.length→(gi o.cpls i).name.length<1000000
theorem RnkSm.len {r:Rnk} (h:RnkSm r):r.name.length<9223372036854775808∧r.tone.length<9223372036854775808∧r.wind.length<9223372036854775808:=⟨by have:=h.name;omega,by have:=h.tone;omega,by have:=h.wind;omega⟩
end Go.Proofs.YtcnlhgmkelkikaaGreatDoor
