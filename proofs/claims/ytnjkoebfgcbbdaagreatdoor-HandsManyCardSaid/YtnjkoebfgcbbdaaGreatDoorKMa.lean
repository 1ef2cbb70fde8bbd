/-
  Texts of a proof, merged (AmA, AmB). Conditions: in each statement.
-/
import Derived.Orders
import Derived.Laws.Sem
import Derived.Laws.World
import Derived.Laws.Cells
import Derived.Laws.Entries
import Derived.Lib.Strings
import Derived.Laws.IdiomStrings
import Derived.RangeFuncFrom
import Derived.RangeFuncCalls
import Derived.LoopNIn
import Derived.TacticsIn
set_option linter.unusedSimpArgs false
set_option linter.unusedVariables false
set_option linter.unusedSectionVars false
set_option maxRecDepth 100000
set_option maxHeartbeats 8000000
namespace Go.Am
section
inductive Tr (α:Type) where
 |leaf
 |node (v:α) (l r:Tr α)
def bits:Nat→Nat→List Bool
 |0,_=>[]
 |f+1,n=>if n=0 then [] else (n % 2==1)::bits f (n / 2)
def path (n:Nat):List Bool:=bits (n.log2+1) n
def Tr.TQ {α:Type} (d:α):Tr α→List Bool→α
 | .leaf,_=>d
 | .node v _ _,[]=>v
 | .node _ l r,b::p=>match b with
  |true=>Tr.TQ d r p
  |false=>Tr.TQ d l p
def Tr.Tj {α:Type} (d:α) (x:α):List Bool→Tr α→Tr α
 |[],.leaf=>.node x .leaf .leaf
 |[],.node _ l r=>.node x l r
 |b::p,t=>match b,t with
  |true,.leaf=>.node d .leaf (Tr.Tj d x p .leaf)
  |false,.leaf=>.node d (Tr.Tj d x p .leaf) .leaf
  |true,.node v l r=>.node v l (Tr.Tj d x p r)
  |false,.node v l r=>.node v (Tr.Tj d x p l) r
theorem Tr.SY {α:Type} (d:α) (p:List Bool):Tr.TQ d (.leaf) p=d:=by cases p<;>rfl
theorem Tr.Py {α:Type} (d x:α):∀ (p:List Bool) (t:Tr α) (q:List Bool),Tr.TQ d (Tr.Tj d x p t) q=if p=q then x else Tr.TQ d t q
 |[],.leaf,[]=>rfl
 |[],.leaf,b::q=>by simp only [Tr.Tj,Tr.TQ];cases b<;>simp [Tr.SY]
 |[],.node _ _ _,[]=>rfl
 |[],.node _ _ _,b::q=>by simp [Tr.Tj,Tr.TQ]
 |b::p,.leaf,[]=>by cases b<;>simp [Tr.Tj,Tr.TQ]
 |b::p,.node _ _ _,[]=>by cases b<;>simp [Tr.Tj,Tr.TQ]
 |b::p,.leaf,c::q=>by
  have ih:=Tr.Py d x p .leaf q
  cases b<;>cases c<;>simp [Tr.Tj,Tr.TQ,ih,Tr.SY]
 |b::p,.node v l r,c::q=>by
  have ihl:=Tr.Py d x p l q
  have ihr:=Tr.Py d x p r q
  cases b<;>cases c<;>simp [Tr.Tj,Tr.TQ,ihl,ihr]
def X6:List Bool→Nat
 |[]=>0
 |b::l=>(if b then 1 else 0)+2*X6 l
theorem Oz:∀ (f n:Nat),n<2 ^ f→X6 (bits f n)=n
 |0,n,h=>by have:n=0:=by simpa using h
            simp [bits,X6,this]
 |f+1,n,h=>by
  unfold bits
  split
  ·rename_i h0;simp [X6,h0]
  ·have ih:=Oz f (n / 2) (by rw [Nat.pow_succ] at h;omega)
   simp only [X6,ih,beq_iff_eq]
   split<;>omega
theorem YL {n m:Nat} (h:path n=path m):n=m:=by
 have hn:=Oz (n.log2+1) n Nat.lt_log2_self
 have hm:=Oz (m.log2+1) m Nat.lt_log2_self
 unfold path at h
 rw [← hn,← hm,h]
inductive HY where
 |none
 |cells (vs:List Value) (elem:TypeId) (gen:Nat) (ro:Bool)
 |map (es:List MapEntry) (clock:Nat)
def HY.gen:HY→Nat
 | .cells _ _ g _=>g
 |_=>0
def HY.ro:HY→Bool
 | .cells _ _ _ r=>r
 |_=>false
structure Mem where
 t:Tr HY
 size:Nat
 low:Nat
def Mem.get (m:Mem) (b:Nat):HY:=Tr.TQ .none m.t (path b)
def Mem.put (m:Mem) (b:Nat) (x:HY):Mem:={ t:=Tr.Tj .none x (path b) m.t,size:=m.size,low:=min m.low b }
def Mem.alloc (m:Mem) (x:HY):Mem:={ t:=Tr.Tj .none x (path m.size) m.t,size:=m.size+1,low:=m.low }
def Mem.gen (m:Mem) (b:Nat):Nat:=(m.get b).gen
def Mem.ro (m:Mem) (b:Nat):Bool:=(m.get b).ro
theorem Mem.get_put (m:Mem) (b c:Nat) (x:HY):(m.put b x).get c=if b=c then x else m.get c:=by
 unfold Mem.get Mem.put
 simp only [Tr.Py]
 by_cases h:b=c
 ·simp [h]
 ·rw [if_neg h,if_neg (fun e=>h (YL e))]
theorem Mem.Bv (m:Mem) (c:Nat) (x:HY):(m.alloc x).get c=if m.size=c then x else m.get c:=by
 unfold Mem.get Mem.alloc
 simp only [Tr.Py]
 by_cases h:m.size=c
 ·simp [h]
 ·rw [if_neg h,if_neg (fun e=>h (YL e))]
def CB (t:Tr Value) (i:Nat):Value:=Tr.TQ undef t (path i)
def Og (t:Tr Value) (i:Nat) (v:Value):Tr Value:=Tr.Tj undef v (path i) t
theorem Di (t:Tr Value) (i j:Nat) (v:Value):CB (Og t i v) j=if i=j then v else CB t j:=by
 unfold CB Og
 rw [Tr.Py]
 by_cases h:i=j
 ·simp [h]
 ·rw [if_neg h,if_neg (fun e=>h (YL e))]
structure St where
 t:Tr Value
 m:Mem
def ev (t:Tr Value):Operand→Value
 | .tmp i=>CB t i
 | .const v=>v
 | .global g=>.pointer (some ⟨g,0,none⟩)
 | .func f=>.func (.func f) #[] #[]
def Gz (t:Tr Value) (dst:Option Tmp) (v:Value):Tr Value :=
 match dst with
 |some d=>Og t d v
 |none=>t
def plainCell:Value→Bool
 | .bool _| .int _ _| .string _| .float _ _| .pointer none| .slice none 0 0| .map none| .nilFunc| .nilIface=>true
 | .func (.func _) a b=>a.size==0&&b.size==0
 |_=>false
def FC:Value→Bool
 | .agg cs=>cs.toList.all plainCell
 |v=>plainCell v
def plain:Value→Bool
 | .tuple vs=>vs.toList.all FC
 |v=>FC v
def BO:Value→Bool
 | .agg _| .tuple _=>false
 |_=>true
def DJ {α:Type} (P:Program):Sem α→Option α
 | .pure a=>some a
 | .program k=>DJ P (k P)
 |_=>none
theorem DZ {α:Type} {P:Program} {s:Sem α} {a:α} (h:DJ P s=some a) (w:World):s.run P w=.ok a w:=by
 induction s<;>simp_all [DJ,Sem.run]
def VR (P:Program) (s:Sem Value):Option Value :=
 match DJ P s with
 |some v=>if plain v then some v else none
 |none=>none
def zeroOf (P:Program) (t:TypeId):Option Value:=(P.info? t).bind (·.zero)
def GI (P:Program) (t:TypeId):Option Bool :=
 match P.underlying t with
 |some (.struct _)|some (.array _ _)=>some true
 |some _=>some false
 |none=>none
def Cj (P:Program) (t:TypeId):Option (List Value) :=
 match zeroOf P t with
 |some z=>if z.cells.toList.all plainCell then some z.cells.toList else none
 |none=>none
def LZ (a:Addr):Nat:=a.spot.getD 0
def takeN (n:Nat) (l:List Value):Option (List Value):=if n≤l.length then some (l.take n) else none
def Mem.EK (m:Mem) (a:Addr) (n:Nat):Option (List Value) :=
 match m.get a.block with
 | .cells vs _ g _=>if LZ a=g then takeN n (vs.drop a.off) else none
 |_=>none
def Xg (P:Program) (t:TypeId) (a:Addr) (m:Mem):Option Value :=
 match GI P t with
 |some true=>match P.info? t with
  |some i=>(m.EK a i.size).map fun l=>.agg l.toArray
  |none=>none
 |some false=>(m.EK a 1).bind fun l=>l.head?
 |none=>none
def LD (P:Program) (t:TypeId) (a:Addr) (m:Mem):Option Value:=if a.block<m.size then Xg P t a m else none
def splice (vs:List Value):Nat→List Value→List Value
 |_,[]=>vs
 |o,v::l=>splice (vs.set o v) (o+1) l
def Gj (m:Mem) (a:Addr) (l:List Value):Option Mem :=
 match m.get a.block with
 | .cells vs e g false =>
  if LZ a=g&&decide (a.off+l.length≤vs.length)&&decide (0<l.length)&&l.all BO then some (m.put a.block (.cells (splice vs a.off l) e g false)) else none
 |_=>none
def Nu (P:Program) (t:TypeId) (a:Addr) (v:Value) (m:Mem):Option Mem :=
 match P.info? t with
 |some i=>if v.cells.size=i.size then Gj m a v.cells.toList else none
 |none=>none
def emptyAt:Option Addr:=some ⟨0,0,some 0⟩
def CO (m:Mem) (size n:Nat):Value→Option (List Value)
 | .slice none 0 0=>if n=0 then some [] else none
 | .slice (some ⟨_,_,some _⟩) 0 0=>if n=0 then some [] else none
 | .slice (some ⟨b,off,none⟩) len g=>if n≤len then m.EK ⟨b,off,some g⟩ (n*size) else none
 | .string s=>if n≤s.size∧size=1 then some ((s.data.toList.take n).map fun c=>.int .u8 c.toNat) else none
 |_=>none
def lenOf:Value→Option Nat
 | .slice _ n _=>some n
 | .string s=>some s.size
 |_=>none
def AQ (z:List Value):Nat→List Value
 |0=>[]
 |n+1=>z++AQ z n
def room:Nat:=2 ^ 40
def A8 (m:Mem) (e:TypeId) (l:List Value) (n:Nat):Value×Mem :=
 (.slice (some ⟨m.size,0,none⟩) n 0,m.alloc (.cells l e 0 false))
def BM (m:Mem) (e:TypeId) (size:Nat) (l:List Value) (n:Nat):Value→Option (Value×Mem)
 | .slice none 0 0=>if n=0 then some (.slice none 0 0,m) else some (A8 m e l n)
 | .slice (some ⟨b,o,some g⟩) 0 0=>if n=0 then some (.slice (some ⟨b,o,some g⟩) 0 0,m) else some (A8 m e l n)
 | .slice (some ⟨b,off,none⟩) len g =>
  match m.get b with
  | .cells vs e' g' false =>
   if g=g'&&e=e'&&decide (0<size) then
    match takeN (len*size) (vs.drop off) with
    |some old=>some (.slice (some ⟨b,0,none⟩) (len+n) (g+1),m.put b (.cells (old++l) e (g+1) false))
    |none=>none
   else none
  |_=>none
 |_=>none
def Eb (i:TypeInfo):Bool:=match i.zero with|some z=>z.cells.size==i.size|none=>false
def Ip (P:Program) (argTypes:Array TypeId) (args:Array Value) (m:Mem):Option (Value×Mem) :=
 match argTypes[0]?,args[0]?,args[1]?,argTypes[1]? with
 |some sT,some s,some x,some xT =>
  match P.underlying sT,P.underlying xT,lenOf s with
  |some (.slice e),some xd,some sLen =>
   match P.info? e with
   |some i =>
    if !(Eb i) then none else
    match xd with
    | .int _=>match x,Cj P e with
     | .int _ n,some z =>
      if 0≤n&&decide (n≤2 ^ 30)&&decide ((sLen+n.toNat)*(i.bytes+1)≤room)&&decide (z.length=i.size)
      then BM m e i.size (AQ z n.toNat) n.toNat s else none
     |_,_=>none
    |_=>match lenOf x with
     |some n=>match CO m i.size n x with
      |some l=>if (sLen+n)*(i.bytes+1)≤room&&l.all BO then BM m e i.size l n s else none
      |none=>none
     |none=>none
   |none=>none
  |_,_,_=>none
 |_,_,_,_=>none
def kW (P:Program) (argTypes:Array TypeId) (args:Array Value) (m:Mem):Option (Value×Mem) :=
 match argTypes[0]?,(args[0]?:Option Value),args[1]? with
 |some dT,some (.slice base dLen g),some src =>
  match P.underlying dT,lenOf src with
  |some (.slice e),some sLen =>
   match P.info? e with
   |some i =>
    let n:=Nat.min sLen dLen
    if n=0 then some (.int .i64 0,m)
    else match base,CO m i.size n src with
     |some ⟨b,off,none⟩,some l=>(Gj m ⟨b,off,some g⟩ l).map fun m'=>(.int .i64 n,m')
     |_,_=>none
   |none=>none
  |_,_=>none
 |_,_,_=>none
def Uw (P:Program) (argTypes:Array TypeId) (args:Array Value) (m:Mem):Option (Value×Mem) :=
 match argTypes[0]?,(args[0]?:Option Value) with
 |some t,some (.slice base n g) =>
  match P.underlying t with
  |some (.slice e) =>
   if n=0 then some (.tuple #[],m)
   else match P.info? e,Cj P e,base with
    |some i,some z,some ⟨b,off,none⟩=>if z.length=i.size∧0<i.size then (Gj m ⟨b,off,some g⟩ (AQ z n)).map fun m'=>(.tuple #[],m') else none
    |_,_,_=>none
  |_=>none
 |_,_=>none
def VX (P:Program) (argTypes:Array TypeId) (args:Array Value) (m:Mem):Option Value :=
 match argTypes[0]?,args[0]? with
 |some t,some x =>
  match P.underlying t,x with
  |some .string,.string s=>some (.int .i64 s.size)
  |some (.array n _),_=>some (.int .i64 n)
  |some (.slice _),.slice _ n _=>some (.int .i64 n)
  |some (.map _ _),.map none=>some (.int .i64 0)
  |some (.map _ _),.map (some r)=>match m.get r with
   | .map es _=>some (.int .i64 es.length)
   |_=>none
  |_,_=>none
 |_,_=>none
def a0t (P:Program) (argTypes:Array TypeId) (args:Array Value):Option Value :=
 match argTypes[0]? with
 |some t=>match P.underlying t with
  |some (.slice _)=>match (args[0]?:Option Value) with
   |some (.slice none 0 0)=>some (.int .i64 0)
   |some (.slice (some ⟨_,_,some _⟩) 0 0)=>some (.int .i64 0)
   |_=>none
  |_=>none
 |none=>none
def xX (op:BinOp) (k:IntKind) (x y:Int):Option Value :=
 match op with
 | .add=>some (.int k (k.wrap (x+y)))
 | .sub=>some (.int k (k.wrap (x-y)))
 | .mul=>some (.int k (k.wrap (x*y)))
 | .eql=>some (.bool (x==y))
 | .neq=>some (.bool (x != y))
 | .lss=>some (.bool (x<y))
 | .leq=>some (.bool (x≤y))
 | .gtr=>some (.bool (x>y))
 | .geq=>some (.bool (x≥y))
 | .quo=>if y=0 then none else some (.int k (k.wrap (x.tdiv y)))
 | .rem=>if y=0 then none else some (.int k (x.tmod y))
 | .and=>some (.int k (k.wrap (BitVec.ofInt k.bits x &&& BitVec.ofInt k.bits y).toNat))
 | .or=>some (.int k (k.wrap (BitVec.ofInt k.bits x ||| BitVec.ofInt k.bits y).toNat))
 | .xor=>some (.int k (k.wrap (BitVec.ofInt k.bits x ^^^ BitVec.ofInt k.bits y).toNat))
 | .andNot=>some (.int k (k.wrap (BitVec.ofInt k.bits x &&& ~~~ BitVec.ofInt k.bits y).toNat))
 |_=>none
def XL (op:BinOp) (k:IntKind) (x y:Int):Option Value :=
 if y<0 then none else
 match op with
 | .shl=>some (.int k (k.wrap (x*2 ^ (min y.toNat k.bits))))
 | .shr=>some (.int k (x.fdiv (2 ^ (min y.toNat k.bits))))
 |_=>none
def a9n:Value→Option Bool
 | .slice none _ _=>some true
 | .slice (some _) _ _=>some false
 |_=>none
def I9 (op:BinOp) (b:Bool):Option Value :=
 match op with
 | .eql=>some (.bool b)
 | .neq=>some (.bool !b)
 |_=>none
def NY (P:Program) (op:BinOp) (t:TypeId) (xo yo:Operand) (x y:Value):Option Value :=
 match x,y with
 | .int k a,.int k' b =>
  match op with
  | .shl| .shr=>XL op k a b
  |_=>if k=k' then xX op k a b else none
 | .slice a _ _,.slice none 0 0=>match P.underlying t with
  |some (.slice _)=>I9 op a.isNone
  |_=>none
 | .slice none 0 0,.slice a _ _=>match P.underlying t with
  |some (.slice _)=>I9 op a.isNone
  |_=>none
 | .map a,.map none=>match P.underlying t with
  |some (.map _ _)=>I9 op a.isNone
  |_=>none
 | .pointer a,.pointer none=>match P.underlying t with
  |some (.pointer _)=>I9 op a.isNone
  |_=>none
 |x,y=>if plain x&&plain y then VR P (do eqGuard op t xo yo x y;binOp op t x y) else none
def Ec (P:Program) (kt:TypeId):Option TypeDesc :=
 match P.underlying kt with
 |some (.int k)=>some (.int k)
 |some .string=>some .string
 |some .bool=>some .bool
 |_=>none
def QY (P:Program) (kt:TypeId):Bool :=
 match P.underlying kt with
 |some (.struct _)=>true
 |some (.array _ _)=>true
 |_=>false
def Vg (P:Program) (s:Sem Unit):Bool:=match DJ P s with|some ()=>true|none=>false
def Hu (P:Program) (fl:Bool) (kt:TypeId) (k:Value) (es:List MapEntry):Option (Option (Nat×Value)) :=
 match Ec P kt with
 |some kind=>Instr.findNow kind k es 0
 |none=>if QY P kt&&Vg P (Instr.checkKey fl 10000 kt k) then DJ P (Instr.findKey kt k es) else none
def KR (P:Program) (t:TypeId) (x k:Value) (ok:Bool) (m:Mem):Option Value :=
 match P.underlying t with
 |some (.map kt et) =>
  match zeroOf P et with
  |some z =>
   if plain z&&plain k then
    match (match x with
     | .map none=>some []
     | .map (some r)=>match m.get r with| .map es _=>some es|_=>none
     |_=>none) with
    |some es=>match Hu P es.isEmpty kt k es with
     |some (some (_,v))=>some (if ok then .tuple #[v,.bool true] else v)
     |some none=>some (if ok then .tuple #[z,.bool false] else z)
     |none=>none
    |none=>none
   else none
  |none=>none
 |_=>none
def Ia (P:Program) (t:TypeId) (x k v:Value) (m:Mem):Option Mem :=
 match P.underlying t,x with
 |some (.map kt _),.map (some r) =>
  match m.get r with
  | .map es clock =>
   if plain k then
    match Hu P false kt k es with
    |some (some (i,_))=>if (Ec P kt).isSome||Instr.sameBits 10000 (((es[i]?).map (·.key)).getD k) k then some (m.put r (.map (es.modify i fun e=>{ e with key:=k,val:=v }) clock)) else none
    |some none=>some (m.put r (.map (es++[{ key:=k,val:=v,born:=clock }]) (clock+1)))
    |none=>none
   else none
  |_=>none
 |_,_=>none
def QD (P:Program) (t:TypeId) (x k:Value) (m:Mem):Option (Value×Mem) :=
 match P.underlying t,x with
 |some (.map kt et),.map (some r) =>
  match m.get r with
  | .map es clock =>
   if plain k then
    match Hu P false kt k es with
    |some (some (i,v))=>if (Ec P kt).isSome||Instr.sameBits 10000 (((es[i]?).map (·.key)).getD k) k then some (.tuple #[v,.int .i64 ((((es[i]?).map (·.born)).getD 0:Nat):Int)],m.put r (.map (es.modify i fun e=>{ e with key:=k }) clock)) else none
    |some none=>match zeroOf P et with
     |some z=>if plain z then some (.tuple #[z,.int .i64 ((clock:Nat):Int)],m.put r (.map (es++[{ key:=k,val:=z,born:=clock }]) (clock+1))) else none
     |none=>none
    |none=>none
   else none
  |_=>none
 |_,_=>none
def Hg (x s v:Value) (m:Mem):Option Mem :=
 match x,s with
 | .map (some r),.int .i64 n =>
  match m.get r with
  | .map es clock=>match es.findIdx? (fun e=>(e.born:Int)==n) with
   |some i=>some (m.put r (.map (es.modify i fun e=>{ e with val:=v }) clock))
   |none=>none
  |_=>none
 |_,_=>none
def Jf (P:Program) (t:TypeId):Bool:=match P.underlying t with|some (.slice _)=>true|_=>false
def Ir (s:ByteArray):List Value:=s.data.toList.map fun c=>.int .u8 c.toNat
def Uo:List Value→Option (List UInt8)
 |[]=>some []
 | .int .u8 n::l=>if 0≤n∧n<256 then (Uo l).map (UInt8.ofNat n.toNat::·) else none
 |_::_=>none
def YA (P:Program) (s d:TypeId) (x:Value) (m:Mem):Option (Value×Mem) :=
 match P.underlying s,P.underlying d,x with
 |some .string,some (.slice e),.string b=>match P.underlying e,P.info? e with
  |some (.int .u8),some i=>if i.size=1∧b.size≤2 ^ 30 then some (A8 m e (Ir b) b.size) else none
  |_,_=>none
 |some (.slice e),some .string,.slice a n g=>match P.underlying e with
  |some (.int .u8)=>match CO m 1 n (.slice a n g) with
   |some l=>match Uo l with
    |some bs=>some (.string ⟨bs.toArray⟩,m)
    |none=>none
   |none=>none
  |_=>none
 |_,_,_=>none
def bnd (d:Nat):Option Value→Option Nat
 |none=>some d
 |some (.int _ i)=>if 0≤i then some i.toNat else none
 |_=>none
def aslice (P:Program) (t:TypeId) (x:Value) (lo hi mx:Option Value) (m:Mem):Option Value :=
 if mx.isSome&&hi.isNone then none else
 match P.underlying t,x with
 |some .string,.string _ =>
  if (lo.all plain&&hi.all plain&&mx.isNone) then VR P (Instr.sliceAt t x lo hi mx) else none
 |some (.slice e),.slice none 0 0 =>
  match P.info? e,bnd 0 lo,bnd 0 hi,bnd 0 mx with
  |some _,some 0,some 0,some 0=>some (.slice none 0 0)
  |_,_,_,_=>none
 |some (.slice e),.slice (some ⟨b,off,some g'⟩) 0 0 =>
  match P.info? e,bnd 0 lo,bnd 0 hi,bnd 0 mx with
  |some _,some 0,some 0,some 0=>some (.slice (some ⟨b,off,some g'⟩) 0 0)
  |_,_,_,_=>none
 |some (.slice e),.slice (some ⟨b,off,none⟩) len g =>
  match P.info? e,bnd 0 lo,bnd len hi,mx with
  |some i,some l,some h,none=>match m.get b with
   | .cells _ e' _ _=>if (l≤h∧h≤len∧e'=e)∧b<m.size then some (.slice (some ⟨b,off+l*i.size,none⟩) (h-l) g) else none
   |_=>none
  |some _,some l,some h,some _=>match bnd 0 mx with
   |some k=>if l=h∧h=k∧k≤len then some (.slice (some ⟨0,0,some 0⟩) 0 0) else none
   |none=>none
  |_,_,_,_=>none
 |_,_=>none
def EX (P:Program) (ρ:Operand→Value) (o:Oper) (m:Mem):Option (Value×Mem) :=
 match o.op with
 | .move x| .assign x=>some (ρ x,m)
 | .pick c a b=>match ρ c with
  | .bool t=>some (if t then ρ a else ρ b,m)
  |_=>none
 | .binOp op t x y _=>(NY P op t x y (ρ x) (ρ y)).map fun v=>(v,m)
 | .alloc e=>(Cj P e).map fun z=>(.pointer (some ⟨m.size,0,none⟩),m.alloc (.cells z e 0 false))
 | .box e x =>
  if (ρ x).cells.toList.all BO then some (.pointer (some ⟨m.size,0,none⟩),m.alloc (.cells (ρ x).cells.toList e 0 false)) else none
 | .build t ps=>match Cj P t with
  |some _=>(DJ P (Instr.build t (ps.map fun (i,x)=>(i,ρ x)))).map fun v=>(v,m)
  |none=>none
 | .buildSlice t len ps =>
  match P.underlying t with
  |some (.slice e)=>match P.info? e,Cj P e with
   |some i,some z =>
    if len*i.size≤2 ^ 24∧z.length=i.size∧0<i.size then
     match Instr.fill (fun j=>some (j*i.size,i.size)) (AQ z len).toArray (ps.map fun (i,x)=>(i,ρ x)).toList with
     |some cs=>if cs.toList.all BO then (if len=0 then some (.slice emptyAt 0 0,m) else some (A8 m e cs.toList len)) else none
     |none=>none
    else none
   |_,_=>none
  |_=>none
 | .load t a=>match ρ a with
  | .pointer (some a)=>(LD P t a m).map fun v=>(v,m)
  |_=>none
 | .store t a x=>match ρ a with
  | .pointer (some a)=>(Nu P t a (ρ x) m).map fun m'=>(undef,m')
  |_=>none
 | .nilCheck x=>match ρ x with
  | .pointer (some a)=>some (.pointer (some a),m)
  |_=>none
 | .unOp op _ x=>if plain (ρ x) then (VR P (Op.unary op (ρ x))).map fun v=>(v,m) else none
 | .convert s d x=>if Jf P s||Jf P d then YA P s d (ρ x) m else if plain (ρ x) then (VR P (convert s d (ρ x))).map fun v=>(v,m) else none
 | .makeFunc (.func f) fs cs=>some (.func (.func f) (fs.map ρ) (cs.map ρ),m)
 | .makeMap _ none=>some (.map (some m.size),m.alloc (.map [] 0))
 | .makeSlice t l c =>
  match P.underlying t,ρ l,ρ c with
  |some (.slice e),.int _ n,.int _ k=>match P.info? e,Cj P e with
   |some i,some z =>
    if 0≤n∧n≤k∧k.toNat*(i.bytes+1)≤room∧k≤2 ^ 40∧z.length=i.size∧0<i.size then
     some (A8 m e (AQ z n.toNat) n.toNat)
    else none
   |_,_=>none
  |_,_,_=>none
 | .slice t x lo hi mx=>(aslice P t (ρ x) (lo.map ρ) (hi.map ρ) (mx.map ρ) m).map fun v=>(v,m)
 | .fieldAddr s x f =>
  match P.underlying s,ρ x with
  |some (.struct fs),.pointer (some a)=>match fs[f]? with
   |some fd=>match P.info? fd.type with
    |some i=>if i.size=0 then none else some (.pointer (some { a with off:=a.off+fd.offset }),m)
    |none=>none
   |none=>none
  |_,_=>none
 | .field t x f=>(DJ P (Instr.field t (ρ x) f)).map fun v=>(v,m)
 | .indexAddr t x ix =>
  match P.underlying t,ρ x,ρ ix with
  |some (.slice e),.slice (some ⟨b,off,none⟩) len g,.int _ i=>match P.info? e with
   |some inf=>if 0≤i∧i<len then some (.pointer (some ⟨b,off+i.toNat*inf.size,some g⟩),m) else none
   |none=>none
  |some (.array n e),.pointer (some a),.int _ i=>match P.info? e with
   |some inf=>if 0≤i∧i<n then some (.pointer (some { a with off:=a.off+i.toNat*inf.size }),m) else none
   |none=>none
  |_,_,_=>none
 | .index t x ix=>if plain (ρ ix) then (DJ P (Instr.index t (ρ x) (ρ ix))).map fun v=>(v,m) else none
 | .lookup t x k ok=>(KR P t (ρ x) (ρ k) ok m).map fun v=>(v,m)
 | .mapUpdate t x k v=>(Ia P t (ρ x) (ρ k) (ρ v) m).map fun m'=>(undef,m')
 | .mapEntry t x k=>QD P t (ρ x) (ρ k) m
 | .entryStore _ x k v=>(Hg (ρ x) (ρ k) (ρ v) m).map fun m'=>(undef,m')
 | .insert t x k v=>(Ia P t (ρ x) (ρ k) (ρ v) m).map fun m'=>(undef,m')
 | .extract t i=>(DJ P (Instr.extract (ρ t) i)).map fun v=>(v,m)
 | .call { callee:=.builtin b,args,argTypes } =>
  match b with
  | .len=>(VX P argTypes (args.map ρ) m).map fun v=>(v,m)
  | .cap=>(a0t P argTypes (args.map ρ)).map fun v=>(v,m)
  | .append=>Ip P argTypes (args.map ρ) m
  | .copy=>kW P argTypes (args.map ρ) m
  | .clear=>Uw P argTypes (args.map ρ) m
  | .min=>if (args.map ρ).toList.all plain then (VR P (Builtin.min_ argTypes o.type (args.map ρ))).map fun v=>(v,m) else none
  | .max=>if (args.map ρ).toList.all plain then (VR P (Builtin.max_ argTypes o.type (args.map ρ))).map fun v=>(v,m) else none
  |_=>none
 |_=>none
inductive BZ where
 |normal
 |ret
 |exit (id:Nat)
abbrev Ep:=FuncId→List Value→Mem→Option (Value×Mem)
def Ce (P:Program) (call:Ep) (ρ:Operand→Value) (o:Oper) (m:Mem):Option (Value×Mem) :=
 match o.op with
 | .call { callee:=.value f,args,.. }=>match ρ f with
  | .func (.func g) fs cs=>call g (fs.toList++args.toList.map ρ++cs.toList) m
  |_=>none
 |_=>EX P ρ o m
def nM (P:Program) (call:Ep) (o:Oper) (s:St):Option St :=
 match Ce P call (ev s.t) o s.m with
 |some (v,m)=>some { t:=Gz s.t o.dst v,m:=m }
 |none=>none
def D6 (ops:Array Oper) (t:Tr Value) (j:Nat):Option Bool :=
 match (ops[j]?).bind (·.dst) with
 |some d=>match CB t d with
  | .bool b=>some b
  |_=>none
 |none=>none
def KZ (P:Program) (call:Ep) (ops:Array Oper) (o:Oper) (s:St):Option St :=
 if Region.wanted o (D6 ops s.t) then nM P call o s else some { s with t:=Gz s.t o.dst undef }
def J4 (P:Program) (call:Ep) (ops:Array Oper):List Oper→St→Option St
 |[],s=>some s
 |o::rest,s=>match KZ P call ops o s with
  |some s'=>J4 P call ops rest s'
  |none=>none
def OE (P:Program) (aT:Array TypeId):Bool:=match aT[0]? with
 |some t=>match P.underlying t with
  |some .string=>true
  |some (.slice _)=>true
  |some (.array _ _)=>true
  |_=>false
 |none=>false
def DF (P:Program):Op→Bool
 | .move _| .assign _| .pick ..| .binOp ..| .build ..| .nilCheck _| .unOp ..| .makeFunc ..| .fieldAddr ..| .field ..| .indexAddr ..| .index ..| .extract ..=>true
 | .convert s d _=>!(Jf P s||Jf P d)
 | .buildSlice _ len _=>len==0
 | .call { callee:=.builtin b,argTypes,.. }=>match b with
  | .cap| .min| .max=>true
  | .len=>OE P argTypes
  |_=>false
 |_=>false
def barrier (P:Program) (ops:Array Oper) (i:Nat):Bool :=
 let b:=Region.before ops
 (List.range ops.size).all fun j=>j==i||((ops[j]?).map (DF P ·.op)).getD true ||
  (if j<i then (b.getD i 0).testBit j else (b.getD j 0).testBit i)
def FH:Op→Bool
 | .load ..=>true
 | .slice _ _ _ _ none=>true
 |_=>false
def a9l:Op→Option Operand
 | .load _ a=>some a
 | .slice _ x _ _ none=>some x
 |_=>none
def qC:Op→Option Operand
 | .store _ a _=>some a
 | .call { callee:=.builtin .append,args,.. }=>args[0]?
 |_=>none
def nD:Op→Option Operand
 | .fieldAddr _ x _=>some x
 | .indexAddr _ x _=>some x
 | .nilCheck x=>some x
 | .move x=>some x
 | .assign x=>some x
 |_=>none
def GR:Value→Option Nat
 | .pointer (some a)=>some a.block
 | .slice (some ⟨b,_,none⟩) _ _=>some b
 |_=>none
def ordered (ops:Array Oper) (i j:Nat):Bool:=if j<i then ((Region.before ops).getD i 0).testBit j else ((Region.before ops).getD j 0).testBit i
def V8 (ops:Array Oper) (k:Nat):Operand→Bool
 | .tmp t=>(List.range ops.size).all fun q=>decide (q<k)||(ops[q]?).bind (·.dst) != some t
 |_=>true
def writer (ops:Array Oper) (t:Tmp):Option Nat:=(List.range ops.size).find? fun q=>(ops[q]?).bind (·.dst)==some t
def rootOf (ops:Array Oper) (i:Nat):Nat→Nat→Operand→Option Operand
 |0,_,_=>none
 |f+1,q,r=>if V8 ops (min i q) r then some r else match r with
  | .tmp t=>match writer ops t with
   |some k=>if k<q then (match (ops[k]?).bind (fun o=>nD o.op) with
    |some x=>rootOf ops i f k x
    |none=>none) else none
   |none=>none
  |_=>none
def Lc:Op→Bool
 | .buildSlice _ len _=>len != 0
 |_=>false
def dM (P:Program) (ops:Array Oper) (i:Nat):Bool :=
 ((ops[i]?).bind (fun o=>qC o.op)).isSome &&
 (List.range ops.size).all fun j=>j==i||((ops[j]?).map (fun o=>DF P o.op||FH o.op||(decide (j<i)&&Lc o.op))).getD true||ordered ops i j
def Hq (ops:Array Oper) (i:Nat):List (Option Operand) :=
 (List.range ops.size).filterMap fun j=>match (ops[j]?).bind (fun o=>a9l o.op) with
  |some a=>if j==i||ordered ops i j then none else some (rootOf ops i 4 j a)
  |none=>none
def rW:Option Nat→Option Nat→Bool
 |some x,some y=>x != y
 |_,_=>true
def OV (ops:Array Oper) (i:Nat) (t:Tr Value):Bool :=
 match (ops[i]?).bind (fun o=>qC o.op) with
 |some w=>(Hq ops i).all fun r=>match r with
  |some r=>rW (GR (ev t r)) (GR (ev t w))
  |none=>false
 |none=>false
def OD (P:Program) (ops:Array Oper) (i:Nat):Bool :=
 (List.range ops.size).all fun j=>j==i||((ops[j]?).map (fun o=>DF P o.op||FH o.op)).getD true||ordered ops i j
noncomputable section
open Classical in
def KN (ops:Array Oper) (i:Nat) (t:Tr Value) (m m':Mem):Bool:=(Hq ops i).all fun r=>match r with
 |some r=>match GR (ev t r) with
  |some b=>decide (m'.get b=m.get b)
  |none=>true
 |none=>false
def N7 (P:Program) (call:Ep) (ops:Array Oper) (i:Nat) (o:Oper) (s:St):Option St :=
 match KZ P call ops o { s with m:={ s.m with low:=s.m.size } } with
 |some s'=>if barrier P ops i||decide (s.m.size≤s'.m.low)||(dM P ops i&&OV ops i s.t)||(OD P ops i&&KN ops i s.t s.m s'.m) then some { s' with m:={ s'.m with low:=min s.m.low s'.m.low } } else none
 |none=>none
def Js (P:Program) (call:Ep) (ops:Array Oper):Nat→List Oper→St→Option St
 |_,[],s=>some s
 |i,o::rest,s=>match N7 P call ops i o s with
  |some s'=>Js P call ops (i+1) rest s'
  |none=>none
def iterate (f:St→Option (BZ×St)):Nat→St→Option (BZ×St)
 |0,_=>none
 |n+1,s=>match f s with
  |some (.normal,s')=>iterate f n s'
  |r=>r
def SL:Value:=.func (.yield 0) #[] #[]
def Ed (n:Nat) (lb:List Value):List Value:=List.replicate (n+1) SL++lb
def yw:Value→Option (List Value)
 | .tuple vs=>some vs.toList
 |_=>none
def Wp:List Value→Option (List (List Value))
 |[]=>some []
 |v::l=>match yw v,Wp l with
  |some r,some rs=>some (r::rs)
  |_,_=>none
def MK:Value→Option (List (List Value))
 | .tuple ⟨[_,.tuple rows]⟩=>Wp rows.toList
 |_=>none
def flat:Code→Bool
 | .seq a b| .cond _ a b=>flat a&&flat b
 | .block _ b| .loop b| .scope b=>flat b
 | .rangeFunc ..=>false
 |_=>true
def Kv (t:Tr Value) (ps:List Tmp) (vs:List Value):Tr Value:=(ps.zip vs).foldl (fun t (p,v)=>Og t p v) t
def Ie (m:Mem) (k:Nat):Mem:={ m with low:=k }
open Classical in
noncomputable def Ea (n:Nat) (NT body:St→Option (BZ×St)) (ask:Mem→Prop) (t:Tr Value) (ps:List Tmp):List (List Value)→Mem→Option (BZ×Mem)
 |[],m=>some (.normal,m)
 |vs::rest,m =>
  if vs.length=n∧vs.all plain=true then
   match NT { t:=Kv t ps vs,m:=Ie m m.size } with
   |some (.normal,s1) =>
    match body s1 with
    |some (x,s2) =>
     match x with
     | .normal=>if ask (Ie s2.m (min m.low s2.m.low)) then Ea n NT body ask t ps rest (Ie s2.m (min m.low s2.m.low)) else none
     |x=>some (x,Ie s2.m (min m.low s2.m.low))
    |none=>none
   |_=>none
  else none
noncomputable def BX (P:Program) (call:Ep) (N:Nat):Code→St→Option (BZ×St)
 | .skip,s=>some (.normal,s)
 | .label _,s=>some (.normal,s)
 | .ret,s=>some (.ret,s)
 | .exit id,s=>some (.exit id,s)
 | .seq a b,s=>match BX P call N a s with
  |some (.normal,s')=>BX P call N b s'
  |r=>r
 | .cond c a b,s=>match ev s.t c with
  | .bool true=>BX P call N a s
  | .bool false=>BX P call N b s
  |_=>none
 | .block id b,s=>match BX P call N b s with
  |some (.exit i,s')=>if i=id then some (.normal,s') else some (.exit i,s')
  |r=>r
 | .loop b,s=>iterate (BX P call N b) N s
 | .region _ ops false,s=>(J4 P call ops ops.toList s).map fun s'=>(.normal,s')
 | .region _ ops true,s=>(Js P call ops 0 ops.toList s).map fun s'=>(.normal,s')
 | .rangeFunc f ps NT body,s=>match ev s.t f with
  | .func (.func g) fs lb=>match P.funcs[g]? with
   |some fn=>if fs.size=0∧flat NT=true∧flat body=true then
    match call g (Ed fn.ntmps lb.toList) s.m with
    |some (v,_)=>match MK v with
     |some rows=>(Ea ps.size (BX P call N NT) (BX P call N body) (fun m'=>∃ m1,call g (Ed fn.ntmps lb.toList) m'=some (v,m1)) s.t ps.toList rows s.m).map fun (x,m')=>(x,{ t:=s.t,m:=m' })
     |none=>none
    |none=>none
    else none
   |none=>none
  |_=>none
 |_,_=>none
def FI (G:List Nat):Operand→Bool
 | .const v=>plain v
 | .global g=>G.contains g
 |_=>true
def Gn (ops:Array Oper):Bool :=
 let b:=Region.before ops
 (List.range ops.size).all fun i=>match ops[i]? with
  |none=>true
  |some oi=>(match oi.guard with|some (g,_)=>(b.getD i 0).testBit g&&g<i|none=>true) &&
   (oi.after.all fun e=>!Region.binds .any e||decide (e.on<i)) &&
   match oi.dst with
   |none=>true
   |some d=>(List.range ops.size).all fun j=>j==i||match ops[j]? with
    |none=>true
    |some oj=>oj.dst != some d&&(!(oj.looksAt ops).contains d||(if i<j then (b.getD j 0).testBit i else (b.getD i 0).testBit j))
def G5 (G:List Nat) (n:Nat) (o:Oper):Bool :=
 o.op.operands.all (FI G)&&(match o.dst with|some d=>d<n|none=>true)&&(match o.op with| .select ..| .defer ..| .go ..=>false|_=>true)
def codeOk (G:List Nat) (n:Nat):Code→Bool
 | .seq a b=>codeOk G n a&&codeOk G n b
 | .cond c a b=>FI G c&&codeOk G n a&&codeOk G n b
 | .block _ b=>codeOk G n b
 | .loop b=>codeOk G n b
 | .region _ ops draw=>ops.all (G5 G n)&&(!draw||Gn ops)
 | .skip| .label _| .ret| .exit _=>true
 | .rangeFunc f ps a b=>FI G f&&ps.all (fun p=>decide (p<n))&&codeOk G n a&&codeOk G n b
 |_=>false
def Je (P:Program) (s:St):ResultVar→Option Value
 | .tmp t=>some (CB s.t t)
 | .cell a t=>match CB s.t a with
  | .pointer (some a)=>LD P t a s.m
  |_=>none
def NH {α β:Type} (f:α→Option β):List α→Option (List β)
 |[]=>some []
 |a::l=>match f a,NH f l with
  |some b,some r=>some (b::r)
  |_,_=>none
def EN (P:Program) (fn:Func) (s:St):Option Value :=
 match NH (Je P s) fn.results.toList with
 |some [v]=>some v
 |some vs=>some (.tuple vs.toArray)
 |none=>none
def tmpsOf:Nat→List Value→Tr Value→Tr Value
 |_,[],t=>t
 |i,v::l,t=>tmpsOf (i+1) l (Og t i v)
def Ij (G:List Nat) (fn:Func) (c:Code):Bool :=
 !(fn.name=="runtime.NumGoroutine")&&codeOk G fn.ntmps c
abbrev CJ:=FuncId→Option (List Value→Mem→Option (Value×Mem))
noncomputable def EP (P:Program) (O:CJ) (G:List Nat) (N:Nat):Nat→Ep
 |0,_,_,_=>none
 |D+1,f,BF,m =>
  match (O f).bind fun F=>F BF m with
  |some r=>some r
  |none =>
   match P.funcs[f]? with
   |none=>none
   |some fn=>match fn.body with
    |none=>none
    |some c =>
     if Ij G fn c&&decide (BF.length≤fn.ntmps) then
      match BX P (EP P O G N D) N c { t:=tmpsOf 0 BF .leaf,m:=m } with
      |some (.normal,s)|some (.ret,s)=>(EN P fn s).map fun v=>(v,s.m)
      |_=>none
     else none
end
end
section
structure IB where
 blk:Nat
 sh:Nat
 lim:Nat
 pF:Nat
abbrev BN:=Nat→Option IB
def NV (ι:BN) (g:Nat→Nat) (a a':Addr):Prop :=
 ∃ ib,ι a.block=some ib∧LZ a≤g a.block∧(LZ a=g a.block→a'=⟨ib.blk,a.off+ib.sh,none⟩)
def a2v (ι:BN) (g:Nat→Nat) (b off len gen:Nat) (a':Addr) (cap:Nat):Prop :=
 ∃ ib,ι b=some ib∧gen≤g b∧len≤cap∧(gen=g b→a'.block=ib.blk∧a'.spot=none∧(cap=0∨(a'.off=off+ib.sh∧a'.off+cap*ib.pF≤ib.lim)))
inductive AA (ι:BN) (g:Nat→Nat):Value→Value→Prop
 |bool (b:Bool):AA ι g (.bool b) (.bool b)
 |int (k:IntKind) (n:Int):AA ι g (.int k n) (.int k n)
 |flt (k:FloatKind) (n:Nat):AA ι g (.float k n) (.float k n)
 |str (s:ByteArray):AA ι g (.string s) (.string s)
 |yS:AA ι g (.pointer none) (.pointer none)
 |ptr (a a':Addr) (h:NV ι g a a'):AA ι g (.pointer (some a)) (.pointer (some a'))
 |Hy:AA ι g (.slice none 0 0) (.slice none 0 0)
 |mM (b o s:Nat) (a':Addr):AA ι g (.slice (some ⟨b,o,some s⟩) 0 0) (.slice (some a') 0 0)
 |sl (b off len gen:Nat) (a':Addr) (cap:Nat) (h:a2v ι g b off len gen a' cap):AA ι g (.slice (some ⟨b,off,none⟩) len gen) (.slice (some a') len cap)
 |a0z:AA ι g (.map none) (.map none)
 |map (r c:Nat) (ib:IB) (h:ι r=some ib) (hc:g r=0→c=ib.blk):AA ι g (.map (some r)) (.map (some c))
 |zq:AA ι g .nilFunc .nilFunc
 |a0l:AA ι g .nilIface .nilIface
 |fn (f:FuncId) (fs fs' cs cs':List Value) (h1:fs.length=fs'.length) (h2:∀ i,i<fs.length→AA ι g (fs.getD i undef) (fs'.getD i undef))
  (h3:cs.length=cs'.length) (h4:∀ i,i<cs.length→AA ι g (cs.getD i undef) (cs'.getD i undef)):AA ι g (.func (.func f) ⟨fs⟩ ⟨cs⟩) (.func (.func f) ⟨fs'⟩ ⟨cs'⟩)
 |agg (l l':List Value) (h1:l.length=l'.length) (h2:∀ i,i<l.length→AA ι g (l.getD i undef) (l'.getD i undef)):AA ι g (.agg ⟨l⟩) (.agg ⟨l'⟩)
 |tuple (l l':List Value) (h1:l.length=l'.length) (h2:∀ i,i<l.length→AA ι g (l.getD i undef) (l'.getD i undef)):AA ι g (.tuple ⟨l⟩) (.tuple ⟨l'⟩)
 |it (b:Nat):AA ι g (.iface 0 (.int .i64 b)) (.pointer (some ⟨b,0,none⟩))
def BI (ι:BN) (g:Nat→Nat) (l l':List Value):Prop :=
 l.length=l'.length∧∀ i,i<l.length→AA ι g (l.getD i undef) (l'.getD i undef)
def Le (ι:BN) (g:Nat→Nat) (ι':BN) (g':Nat→Nat):Prop :=
 ∀ b ib,ι b=some ib→g b≤g' b∧∃ ib',ι' b=some ib'∧(g' b=g b→ib'=ib)
theorem Le.refl (ι:BN) (g:Nat→Nat):Le ι g ι g:=fun _ ib h=>⟨Nat.le_refl _,ib,h,fun _=>rfl⟩
theorem Le.trans {ι ι' ι'':BN} {g g' g'':Nat→Nat} (h:Le ι g ι' g') (k:Le ι' g' ι'' g''):Le ι g ι'' g'':=fun b ib hb=>by
 obtain ⟨h1,ib',h2,h3⟩:=h b ib hb
 obtain ⟨k1,ib'',k2,k3⟩:=k b ib' h2
 refine ⟨Nat.le_trans h1 k1,ib'',k2,fun e=>?_⟩
 have e1:g' b=g b:=by omega
 rw [k3 (by omega),h3 e1]
theorem AA.mono {ι ι':BN} {g g':Nat→Nat} (hl:Le ι g ι' g') {v v':Value} (h:AA ι g v v'):AA ι' g' v v':=by
 induction h with
 |bool b=>exact .bool b
 |int k n=>exact .int k n
 |flt k n=>exact .flt k n
 |str s=>exact .str s
 |yS=>exact .yS
 |ptr a a' h =>
  obtain ⟨ib,h1,h2,h3⟩:=h
  obtain ⟨k1,ib',k2,k3⟩:=hl _ _ h1
  exact .ptr a a' ⟨ib',k2,by omega,fun e=>by rw [k3 (by omega)];exact h3 (by omega)⟩
 |Hy=>exact .Hy
 |mM b o s a'=>exact .mM b o s a'
 |sl b off len gen a' cap h =>
  obtain ⟨ib,h1,h2,h4,h3⟩:=h
  obtain ⟨k1,ib',k2,k3⟩:=hl _ _ h1
  exact .sl b off len gen a' cap ⟨ib',k2,by omega,h4,fun e=>by rw [k3 (by omega)];exact h3 (by omega)⟩
 |it b=>exact .it b
 |a0z=>exact .a0z
 |map r c ib h hc =>
  obtain ⟨k1,ib',k2,k3⟩:=hl _ _ h
  exact .map r c ib' k2 fun e=>by rw [k3 (by omega)];exact hc (by omega)
 |zq=>exact .zq
 |a0l=>exact .a0l
 |fn f fs fs' cs cs' h1 _ h3 _ ih1 ih2=>exact .fn f fs fs' cs cs' h1 ih1 h3 ih2
 |agg l l' h1 _ ih=>exact .agg l l' h1 ih
 |tuple l l' h1 _ ih=>exact .tuple l l' h1 ih
theorem BI.mono {ι ι':BN} {g g':Nat→Nat} (hl:Le ι g ι' g') {l l':List Value} (h:BI ι g l l'):BI ι' g' l l' :=
 ⟨h.1,fun i hi=>(h.2 i hi).mono hl⟩
theorem AA.plainCell {ι:BN} {g:Nat→Nat} {v:Value} (h:plainCell v=true):AA ι g v v:=by
 unfold Am.plainCell at h
 split at h<;>first
  |exact .bool _
  |exact .int _ _
  |exact .str _
  |exact .flt _ _
  |exact .yS
  |exact .Hy
  |exact .a0z
  |exact .zq
  |exact .a0l
  |(rename_i f a b
    obtain ⟨a⟩:=a;obtain ⟨b⟩:=b
    have ha:a=[]:=by simp at h;exact h.1
    have hb:b=[]:=by simp at h;exact h.2
    subst ha;subst hb
    exact .fn _ [] [] [] [] rfl (fun i hi=>absurd hi (by simp)) rfl (fun i hi=>absurd hi (by simp)))
  |(simp at h;done)
theorem getD_lt {l:List Value} {i:Nat} {d:Value} (h:i<l.length):l.getD i d=l[i]:=by simp [List.getD,h]
theorem getD_mem {l:List Value} {i:Nat} {d:Value} (h:i<l.length):l.getD i d∈l:=by
 rw [getD_lt h];exact List.getElem_mem h
theorem AA.FC {ι:BN} {g:Nat→Nat} {v:Value} (h:FC v=true):AA ι g v v:=by
 unfold Am.FC at h
 split at h
 ·rename_i cs
  obtain ⟨l⟩:=cs
  exact .agg l l rfl fun i hi=>AA.plainCell (List.all_eq_true.1 h _ (getD_mem hi))
 ·exact AA.plainCell h
theorem AA.plain {ι:BN} {g:Nat→Nat} {v:Value} (h:plain v=true):AA ι g v v:=by
 unfold Am.plain at h
 split at h
 ·rename_i cs
  obtain ⟨l⟩:=cs
  exact .tuple l l rfl fun i hi=>AA.FC (List.all_eq_true.1 h _ (getD_mem hi))
 ·exact AA.FC h
theorem SG {l l':List Value} (h1:l.length=l'.length) (h2:∀ i,i<l.length→l.getD i undef=l'.getD i undef):l=l':=by
 apply List.ext_getElem h1
 intro i hi hi'
 have:=h2 i hi
 rwa [getD_lt hi,getD_lt hi'] at this
theorem AA.DT {ι:BN} {g:Nat→Nat} {v v':Value} (h:AA ι g v v') (hp:Am.plainCell v=true):v'=v:=by
 cases h<;>first|rfl|(simp [Am.plainCell] at hp;done)|skip
 rename_i f fs fs' cs cs' h1 _ h3 _
 simp [Am.plainCell] at hp
 obtain ⟨rfl,rfl⟩:=hp
 have e1:fs'=[]:=List.length_eq_zero_iff.1 h1.symm
 have e2:cs'=[]:=List.length_eq_zero_iff.1 h3.symm
 rw [e1,e2]
theorem AA.OL {ι:BN} {g:Nat→Nat} {v v':Value} (h:AA ι g v v') (hp:Am.FC v=true):v'=v:=by
 unfold Am.FC at hp
 split at hp
 ·rename_i cs
  cases h with
  |agg l l' h1 h2 =>
   have:l=l':=SG h1 fun i hi=>(AA.DT (h2 i hi) (List.all_eq_true.1 hp _ (getD_mem hi))).symm
   rw [this]
 ·exact h.DT hp
theorem AA.Cc {ι:BN} {g:Nat→Nat} {v v':Value} (h:AA ι g v v') (hp:Am.plain v=true):v'=v:=by
 unfold Am.plain at hp
 split at hp
 ·rename_i cs
  cases h with
  |tuple l l' h1 h2 =>
   have:l=l':=SG h1 fun i hi=>(AA.OL (h2 i hi) (List.all_eq_true.1 hp _ (getD_mem hi))).symm
   rw [this]
 ·exact h.OL hp
theorem AA.oneCell {ι:BN} {g:Nat→Nat} {v v':Value} (h:AA ι g v v') (hc:Am.BO v=true):v'.oneCell'=true:=by
 cases h<;>first|rfl|simp [Am.BO] at hc
theorem AA.undef {ι:BN} {g:Nat→Nat}:AA ι g undef undef:=.tuple [] [] rfl fun i hi=>absurd hi (by simp)
theorem AA.cells {ι:BN} {g:Nat→Nat} {v v':Value} (h:AA ι g v v'):BI ι g v.cells.toList v'.cells.toList:=by
 have one:∀ {v v':Value},AA ι g v v'→BI ι g [v] [v']:=fun h=>⟨rfl,fun i hi=>by
  have:i=0:=by simpa using hi
  subst this;exact h⟩
 cases h with
 |agg l l' h1 h2=>exact ⟨h1,h2⟩
 |bool b=>exact one (.bool b)
 |int k n=>exact one (.int k n)
 |flt k n=>exact one (.flt k n)
 |str s=>exact one (.str s)
 |yS=>exact one .yS
 |ptr a a' h=>exact one (.ptr a a' h)
 |Hy=>exact one .Hy
 |mM b o s a'=>exact one (.mM b o s a')
 |sl b off len gen a' cap h=>exact one (.sl b off len gen a' cap h)
 |it b=>exact one (.it b)
 |a0z=>exact one .a0z
 |map r c ib h hc=>exact one (.map r c ib h hc)
 |zq=>exact one .zq
 |a0l=>exact one .a0l
 |fn f fs fs' cs cs' h1 h2 h3 h4=>exact one (.fn f fs fs' cs cs' h1 h2 h3 h4)
 |tuple l l' h1 h2=>exact one (.tuple l l' h1 h2)
theorem BI.plain {ι:BN} {g:Nat→Nat} {l:List Value} (h:l.all Am.plainCell=true):BI ι g l l :=
 ⟨rfl,fun i hi=>AA.plainCell (List.all_eq_true.1 h _ (getD_mem hi))⟩
theorem BI.nil {ι:BN} {g:Nat→Nat}:BI ι g [] []:=⟨rfl,fun i hi=>absurd hi (by simp)⟩
theorem BI.append {ι:BN} {g:Nat→Nat} {l l' k k':List Value} (h:BI ι g l l') (h2:BI ι g k k'):BI ι g (l++k) (l'++k'):=by
 refine ⟨by simp [h.1,h2.1],fun i hi=>?_⟩
 rw [List.length_append] at hi
 by_cases hl:i<l.length
 ·have hl':i<l'.length:=h.1▸hl
  rw [List.getD_eq_getElem?_getD,List.getD_eq_getElem?_getD,List.getElem?_append_left hl,List.getElem?_append_left hl']
  have:=h.2 i hl
  rwa [List.getD_eq_getElem?_getD,List.getD_eq_getElem?_getD] at this
 ·have e1:l.length≤i:=by omega
  have e2:l'.length≤i:=h.1▸e1
  rw [List.getD_eq_getElem?_getD,List.getD_eq_getElem?_getD,List.getElem?_append_right e1,List.getElem?_append_right e2]
  have:=h2.2 (i-l.length) (by omega)
  rw [List.getD_eq_getElem?_getD,List.getD_eq_getElem?_getD] at this
  rw [h.1] at this ⊢
  exact this
theorem BI.cons {ι:BN} {g:Nat→Nat} {v v':Value} {k k':List Value} (h:AA ι g v v') (h2:BI ι g k k'):BI ι g (v::k) (v'::k') :=
 BI.append (l:=[v]) (l':=[v']) ⟨rfl,fun i hi=>by
  have:i=0:=by simpa using hi
  subst this;exact h⟩ h2
theorem BI.Jt {ι:BN} {g:Nat→Nat} {v:Value} {k l':List Value} (h:BI ι g (v::k) l'):∃ v' k',l'=v'::k'∧AA ι g v v'∧BI ι g k k':=by
 obtain ⟨h1,h2⟩:=h
 match l',h1 with
 |v'::k',h1 =>
  refine ⟨v',k',rfl,h2 0 (by simp),by simpa using h1,fun i hi=>?_⟩
  have:=h2 (i+1) (by simpa using hi)
  simpa using this
theorem BI.take {ι:BN} {g:Nat→Nat} {l l':List Value} (h:BI ι g l l') (n:Nat):BI ι g (l.take n) (l'.take n):=by
 refine ⟨by simp [h.1],fun i hi=>?_⟩
 rw [List.length_take] at hi
 have:=h.2 i (by omega)
 rw [List.getD_eq_getElem?_getD,List.getD_eq_getElem?_getD] at *
 rw [List.getElem?_take,List.getElem?_take,if_pos (by omega),if_pos (by omega)]
 exact this
theorem BI.drop {ι:BN} {g:Nat→Nat} {l l':List Value} (h:BI ι g l l') (n:Nat):BI ι g (l.drop n) (l'.drop n):=by
 refine ⟨by simp [h.1],fun i hi=>?_⟩
 rw [List.length_drop] at hi
 have:=h.2 (n+i) (by omega)
 rw [List.getD_eq_getElem?_getD,List.getD_eq_getElem?_getD] at *
 rw [List.getElem?_drop,List.getElem?_drop]
 exact this
theorem BI.get {ι:BN} {g:Nat→Nat} {l l':List Value} (h:BI ι g l l') {i:Nat} {v:Value} (hi:l[i]?=some v):∃ v',l'[i]?=some v'∧AA ι g v v':=by
 have hlt:i<l.length:=(List.getElem?_eq_some_iff.1 hi).1
 have hlt':i<l'.length:=h.1▸hlt
 refine ⟨l'[i],List.getElem?_eq_getElem hlt',?_⟩
 have:=h.2 i hlt
 rw [List.getD_eq_getElem?_getD,List.getD_eq_getElem?_getD,hi,List.getElem?_eq_getElem hlt'] at this
 exact this
def dY (ι:BN) (g:Nat→Nat) (e e':MapEntry):Prop:=e'.key=e.key∧e'.born=e.born∧plain e.key=true∧AA ι g e.val e'.val
def Dy (ι:BN) (g:Nat→Nat):List MapEntry→List MapEntry→Prop
 |[],[]=>True
 |e::es,e'::es'=>dY ι g e e'∧Dy ι g es es'
 |_,_=>False
def QC (P:Program) (ι:BN) (g:Nat→Nat) (ib:IB):HY→Option Obj→Prop
 | .cells vs e _ ro,some (.cells cs e' fr)=>(ro=false→e'=e)∧ib.lim=cs.size∧ib.pF=P.cellsOf e ∧
  (∀ i,i<vs.length→∃ v',cs[ib.sh+i]?=some v'∧AA ι g (vs.getD i undef) v') ∧
  (ro=false→∀ j,j<cs.size→¬ (fr.1≤j∧j<fr.2))
 | .map es clock,some (.map es' clock')=>clock'=clock∧Dy ι g es es'.toList
 |_,_=>False
structure DL (P:Program) (G:List Nat) (ι:BN) (m:Mem) (w:World):Prop where
 dom:∀ b ib,ι b=some ib→b<m.size∧ib.blk<w.heap.size
 blk:∀ b ib,ι b=some ib→QC P ι m.gen ib (m.get b) w.heap[ib.blk]?
 inj:∀ b b' ib ib',ι b=some ib→ι b'=some ib'→ib.blk=ib'.blk→b=b'∨(m.ro b=true∧m.ro b'=true)
 glob:∀ k,k∈G→∃ ib,ι k=some ib∧ib.blk=k∧(ib.sh=0∧∀ vs e g ro,m.get k=.cells vs e g ro→ib.lim=vs.length)∧m.gen k=0∧m.ro k=true
structure Ext (ι:BN) (m:Mem) (w:World) (ι':BN) (m':Mem) (w':World):Prop where
 size:m.size≤m'.size
 low:m'.low≤m.low
 keep:∀ b,b<m.size→b<m'.low→m'.get b=m.get b
 ro:∀ b,b<m.size→m.ro b=true→m'.get b=m.get b
 ro':∀ b,b<m.size→m'.ro b=m.ro b
 le:Le ι m.gen ι' m'.gen
 back:∀ b ib',ι' b=some ib'→(∃ ib,ι b=some ib∧ib.blk=ib'.blk)∨w.heap.size≤ib'.blk
 dom:∀ b ib',ι' b=some ib'→(∃ ib,ι b=some ib)∨m.size≤b
 heap:w.heap.size≤w'.heap.size
 frame:∀ c,c<w.heap.size→(∀ b ib,ι b=some ib→ib.blk=c→m.ro b=true∨b<m'.low)→w'.heap[c]?=w.heap[c]?
 tape:w'.tape=w.tape
 os:w'.os=w.os
 output:w'.output=w.output
theorem CS {m m':Mem} {b:Nat} (h:m'.get b=m.get b):m'.gen b=m.gen b:=by unfold Mem.gen;rw [h]
theorem EM {m m':Mem} {b:Nat} (h:m'.get b=m.get b):m'.ro b=m.ro b:=by unfold Mem.ro;rw [h]
theorem Ext.refl (ι:BN) (m:Mem) (w:World):Ext ι m w ι m w :=
 ⟨Nat.le_refl _,Nat.le_refl _,fun _ _ _=>rfl,fun _ _ _=>rfl,fun _ _=>rfl,Le.refl _ _,fun _ ib h=>.inl ⟨ib,h,rfl⟩,fun _ ib h=>.inl ⟨ib,h⟩,
  Nat.le_refl _,fun _ _ _=>rfl,rfl,rfl,rfl⟩
theorem Ext.trans {ι ι' ι'':BN} {m m' m'':Mem} {w w' w'':World} {P:Program} {G:List Nat} (hs:DL P G ι m w)
 (h:Ext ι m w ι' m' w') (k:Ext ι' m' w' ι'' m'' w''):Ext ι m w ι'' m'' w'':=by
 refine ⟨Nat.le_trans h.size k.size,Nat.le_trans k.low h.low,fun b hb hl=>?_,fun b hb hr=>?_,fun b hb=>?_,h.le.trans k.le,fun b ib'' hb=>?_,fun b ib'' hb=>?_,
  Nat.le_trans h.heap k.heap,fun c hc hf=>?_,k.tape.trans h.tape,k.os.trans h.os,k.output.trans h.output⟩
 ·rw [k.keep b (Nat.lt_of_lt_of_le hb h.size) hl,h.keep b hb (Nat.lt_of_lt_of_le hl k.low)]
 ·rw [k.ro b (Nat.lt_of_lt_of_le hb h.size) (by rw [h.ro' b hb];exact hr),h.ro b hb hr]
 ·rw [k.ro' b (Nat.lt_of_lt_of_le hb h.size),h.ro' b hb]
 ·rcases k.back b ib'' hb with ⟨ib',h1,h2⟩|h1
  ·rcases h.back b ib' h1 with ⟨ib,h3,h4⟩|h3
   ·exact .inl ⟨ib,h3,h4.trans h2⟩
   ·exact .inr (h2▸h3)
  ·exact .inr (Nat.le_trans h.heap h1)
 ·rcases k.dom b ib'' hb with ⟨ib',h1⟩|h1
  ·exact h.dom b ib' h1
  ·exact .inr (Nat.le_trans h.size h1)
 ·rw [k.frame c (Nat.lt_of_lt_of_le hc h.heap) ?_,h.frame c hc ?_]
  ·intro b ib hb hc'
   rcases hf b ib hb hc' with h1|h1
   ·exact .inl h1
   ·exact .inr (Nat.lt_of_lt_of_le h1 k.low)
  ·intro b ib' hb hc'
   rcases h.back b ib' hb with ⟨ib,h1,h2⟩|h1
   ·rcases hf b ib h1 (h2.trans hc') with h3|h3
    ·exact .inl (by rw [h.ro' b (hs.dom b ib h1).1];exact h3)
    ·exact .inr h3
   ·exact absurd hc (by omega)
def Post (P:Program) (G:List Nat) (ι:BN) (m:Mem) (w:World) (v:Value) (m':Mem) (v':Value) (w':World):Prop :=
 ∃ ι',Ext ι m w ι' m' w'∧DL P G ι' m' w'∧AA ι' m'.gen v v'
theorem Post.same {P:Program} {G:List Nat} {ι:BN} {m:Mem} {w:World} {v v':Value} (hs:DL P G ι m w) (h:AA ι m.gen v v'):Post P G ι m w v m v' w :=
 ⟨ι,Ext.refl _ _ _,hs,h⟩
end
section
variable {P:Program} {G:List Nat}
theorem Dy.mono {ι ι':BN} {g g':Nat→Nat} (hl:Le ι g ι' g'):∀ {es es':List MapEntry},Dy ι g es es'→Dy ι' g' es es'
 |[],[],_=>trivial
 |_::_,_::_,⟨h,k⟩=>⟨⟨h.1,h.2.1,h.2.2.1,h.2.2.2.mono hl⟩,Dy.mono hl k⟩
 |[],_::_,h=>h.elim
 |_::_,[],h=>h.elim
theorem QC.mono {ι ι':BN} {g g':Nat→Nat} (hl:Le ι g ι' g') {ib:IB} {x:HY} {o:Option Obj} (h:QC P ι g ib x o):QC P ι' g' ib x o:=by
 unfold QC at *
 split at h
 ·obtain ⟨h1,h2,h3,h4,h5⟩:=h
  exact ⟨h1,h2,h3,fun i hi=>(h4 i hi).imp fun v' hv=>⟨hv.1,hv.2.mono hl⟩,h5⟩
 ·exact ⟨h.1,Dy.mono hl h.2⟩
 ·exact h.elim
theorem Mc {ι:BN} {m:Mem} {w w':World} {x:HY} {obj:Obj} {ib:IB} (hs:DL P G ι m w) (hw':w'.heap=w.heap.push obj)
 (ht:w'.tape=w.tape) (ho:w'.os=w.os) (hou:w'.output=w.output) (hib:ib.blk=w.heap.size) (hx:QC P ι m.gen ib x (some obj))
 (hr:x.ro=false) :
 ∃ ι',Ext ι m w ι' (m.alloc x) w'∧DL P G ι' (m.alloc x) w'∧ι' m.size=some ib:=by
 have hget:∀ b,b<m.size→(m.alloc x).get b=m.get b:=fun b hb=>by rw [Mem.Bv,if_neg (by omega)]
 have hgen:∀ b,b<m.size→(m.alloc x).gen b=m.gen b:=fun b hb=>CS (hget b hb)
 have hro:∀ b,b<m.size→(m.alloc x).ro b=m.ro b:=fun b hb=>EM (hget b hb)
 have hheap:∀ c,c<w.heap.size→w'.heap[c]?=w.heap[c]?:=fun c hc=>by rw [hw',Array.getElem?_push,if_neg (by omega)]
 have hsz:w'.heap.size=w.heap.size+1:=by rw [hw'];simp
 let ι':BN:=fun b=>if b=m.size then some ib else ι b
 have hle:Le ι m.gen ι' (m.alloc x).gen:=fun b Jc hb=>by
  have hlt:=(hs.dom b Jc hb).1
  refine ⟨by rw [hgen b hlt];exact Nat.le_refl _,Jc,?_,fun _=>rfl⟩
  show (if b=m.size then some ib else ι b)=some Jc
  rw [if_neg (by omega)];exact hb
 refine ⟨ι',⟨by simp [Mem.alloc],Nat.le_refl _,fun b hb _=>hget b hb,fun b hb _=>hget b hb,fun b hb=>hro b hb,hle,fun b Jc hb=>?_,fun b Jc hb=>?_,by omega,
  fun c hc _=>hheap c hc,ht,ho,hou⟩,⟨fun b Jc hb=>?_,fun b Jc hb=>?_,fun b b' Jc ibb' hb hb' he=>?_,fun k hk=>?_⟩,if_pos rfl⟩
 ·change (if b=m.size then some ib else ι b)=some Jc at hb
  split at hb
  ·cases hb;exact .inr (by omega)
  ·exact .inl ⟨Jc,hb,rfl⟩
 ·change (if b=m.size then some ib else ι b)=some Jc at hb
  split at hb
  ·exact .inr (by omega)
  ·exact .inl ⟨Jc,hb⟩
 ·change (if b=m.size then some ib else ι b)=some Jc at hb
  split at hb
  ·cases hb;exact ⟨by simp [Mem.alloc];omega,by omega⟩
  ·have:=hs.dom b Jc hb
   exact ⟨by simp only [Mem.alloc];omega,by omega⟩
 ·change (if b=m.size then some ib else ι b)=some Jc at hb
  split at hb
  ·rename_i e;cases hb
   rw [Mem.Bv,if_pos e.symm]
   have:w'.heap[ib.blk]?=some obj:=by rw [hw',hib];simp
   rw [this]
   exact hx.mono hle
  ·have:=hs.dom b Jc hb
   rw [hget b this.1,hheap _ this.2]
   exact (hs.blk b Jc hb).mono hle
 ·change (if b=m.size then some ib else ι b)=some Jc at hb
  change (if b'=m.size then some ib else ι b')=some ibb' at hb'
  split at hb<;>split at hb'
  ·exact .inl (by omega)
  ·cases hb;have:=hs.dom b' ibb' hb';omega
  ·cases hb';have:=hs.dom b Jc hb;omega
  ·rcases hs.inj b b' Jc ibb' hb hb' he with h|⟨h1,h2⟩
   ·exact .inl h
   ·exact .inr ⟨by rw [hro b (hs.dom b Jc hb).1];exact h1,by rw [hro b' (hs.dom b' ibb' hb').1];exact h2⟩
 ·obtain ⟨Jc,h1,h2,h3,h4,h5⟩:=hs.glob k hk
  have hlt:=(hs.dom k Jc h1).1
  refine ⟨Jc,?_,h2,⟨h3.1,by rw [hget k hlt];exact h3.2⟩,by rw [hgen k hlt];exact h4,by rw [hro k hlt];exact h5⟩
  show (if k=m.size then some ib else ι k)=some Jc
  rw [if_neg (by omega)];exact h1
theorem Iq {ι:BN} {m:Mem} {w w':World} {b:Nat} {ib ib':IB} {x:HY} {obj:Obj} (hs:DL P G ι m w) (hb:ι b=some ib) (hro:m.ro b=false)
 (b6m:x.ro=false)
 (hxg:m.gen b≤x.gen∧(x.gen=m.gen b→ib'=ib))
 (hblk:ib'.blk=ib.blk∨w.heap.size≤ib'.blk) (XH:w'.heap[ib'.blk]?=some obj) (hrest:∀ c,c<w.heap.size→c≠ib.blk→w'.heap[c]?=w.heap[c]?)
 (hsz:w.heap.size≤w'.heap.size) (ht:w'.tape=w.tape) (ho:w'.os=w.os) (hou:w'.output=w.output)
 (hx:∀ ι' g',Le ι m.gen ι' g'→QC P ι' g' ib' x (some obj)) :
 ∃ ι',Ext ι m w ι' (m.put b x) w'∧DL P G ι' (m.put b x) w'∧ι' b=some ib':=by
 have hbd:=hs.dom b ib hb
 have hget:∀ c,c≠b→(m.put b x).get c=m.get c:=fun c hc=>by rw [Mem.get_put,if_neg (fun e=>hc e.symm)]
 have a1x:(m.put b x).get b=x:=by rw [Mem.get_put,if_pos rfl]
 have a7b:(m.put b x).gen b=x.gen:=by unfold Mem.gen;rw [a1x]
 have b6g:(m.put b x).ro b=false:=by unfold Mem.ro;rw [a1x];exact b6m
 have hgen:∀ c,c≠b→(m.put b x).gen c=m.gen c:=fun c hc=>CS (hget c hc)
 have a3e:∀ c,c≠b→(m.put b x).ro c=m.ro c:=fun c hc=>EM (hget c hc)
 let ι':BN:=fun c=>if c=b then some ib' else ι c
 have hle:Le ι m.gen ι' (m.put b x).gen:=fun c QX hc=>by
  by_cases e:c=b
  ·subst e
   rw [hb] at hc;cases hc
   refine ⟨by rw [a7b];exact hxg.1,ib',if_pos rfl,fun e=>?_⟩
   rw [a7b] at e
   exact hxg.2 e
  ·refine ⟨by rw [hgen c e];exact Nat.le_refl _,QX,?_,fun _=>rfl⟩
   show (if c=b then some ib' else ι c)=some QX
   rw [if_neg e];exact hc
 have hother:∀ c QX,ι c=some QX→c≠b→QX.blk≠ib.blk:=fun c QX hc hne e=>by
  rcases hs.inj c b QX ib hc hb e with h|⟨_,h⟩
  ·exact hne h
  ·rw [hro] at h;cases h
 refine ⟨ι',⟨Nat.le_refl _,Nat.min_le_left _ _,fun c hc hl=>?_,fun c hc hr=>?_,fun c hc=>?_,hle,fun c QX hc=>?_,fun c QX hc=>?_,hsz,fun c hc hf=>?_,ht,ho,hou⟩,
  ⟨fun c QX hc=>?_,fun c QX hc=>?_,fun c c' QX ibc' hc hc' he=>?_,fun k hk=>?_⟩,if_pos rfl⟩
 ·exact hget c (fun e=>by subst e;have:(m.put c x).low≤c:=Nat.min_le_right _ _;omega)
 ·exact hget c (fun e=>by subst e;rw [hro] at hr;cases hr)
 ·by_cases e:c=b
  ·subst e;rw [b6g,hro]
  ·exact a3e c e
 ·change (if c=b then some ib' else ι c)=some QX at hc
  split at hc
  ·rename_i e;cases hc
   rcases hblk with h|h
   ·exact .inl ⟨ib,e▸hb,h.symm⟩
   ·exact .inr h
  ·exact .inl ⟨QX,hc,rfl⟩
 ·change (if c=b then some ib' else ι c)=some QX at hc
  split at hc
  ·rename_i e;exact .inl ⟨ib,e▸hb⟩
  ·exact .inl ⟨QX,hc⟩
 ·refine hrest c hc fun e=>?_
  rcases hf b ib hb e.symm with h|h
  ·rw [hro] at h;cases h
  ·have:(m.put b x).low≤b:=Nat.min_le_right _ _;omega
 ·change (if c=b then some ib' else ι c)=some QX at hc
  split at hc
  ·rename_i e;cases hc
   have hlt:ib'.blk<w'.heap.size:=by
    rcases Nat.lt_or_ge ib'.blk w'.heap.size with h|h
    ·exact h
    ·rw [Array.getElem?_eq_none h] at XH;cases XH
   exact ⟨e▸hbd.1,hlt⟩
  ·have:=hs.dom c QX hc
   exact ⟨this.1,by omega⟩
 ·change (if c=b then some ib' else ι c)=some QX at hc
  split at hc
  ·rename_i e;cases hc
   subst e
   rw [a1x,XH]
   exact hx _ _ hle
  ·rename_i e
   have:=hs.dom c QX hc
   rw [hget c e,hrest _ this.2 (hother c QX hc e)]
   exact (hs.blk c QX hc).mono hle
 ·change (if c=b then some ib' else ι c)=some QX at hc
  change (if c'=b then some ib' else ι c')=some ibc' at hc'
  have key:∀ c QX,ι c=some QX→c≠b→ib'.blk≠QX.blk:=fun c QX hc hne e=>by
   rcases hblk with h|h
   ·exact hother c QX hc hne (e▸h)
   ·have:=hs.dom c QX hc;omega
  split at hc<;>split at hc'
  ·exact .inl (by omega)
  ·cases hc;rename_i e1 e2;exact absurd he (key c' ibc' hc' e2)
  ·cases hc';rename_i e1 e2;exact absurd he.symm (key c QX hc e1)
  ·rename_i e1 e2
   rcases hs.inj c c' QX ibc' hc hc' he with h|⟨h1,h2⟩
   ·exact .inl h
   ·exact .inr ⟨by rw [a3e c e1];exact h1,by rw [a3e c' e2];exact h2⟩
 ·obtain ⟨Jc,h1,h2,h3,h4,h5⟩:=hs.glob k hk
  have hne:k≠b:=fun e=>by subst e;rw [hro] at h5;cases h5
  refine ⟨Jc,?_,h2,⟨h3.1,by rw [hget k hne];exact h3.2⟩,by rw [hgen k hne];exact h4,by rw [a3e k hne];exact h5⟩
  show (if k=b then some ib' else ι k)=some Jc
  rw [if_neg hne];exact h1
theorem EU {n:Nat} {l r:List Value} (h:takeN n l=some r):n≤l.length∧r=l.take n:=by
 unfold takeN at h
 split at h
 ·cases h;exact ⟨by assumption,rfl⟩
 ·cases h
theorem GV {ι:BN} {m:Mem} {w:World} {b:Nat} {ib:IB} {vs:List Value} {e:TypeId} {g:Nat} {ro:Bool} (hs:DL P G ι m w) (hb:ι b=some ib) (hg:m.get b=.cells vs e g ro) :
 ∃ cs fr e',w.heap[ib.blk]?=some (.cells cs e' fr)∧ib.lim=cs.size∧ib.pF=P.cellsOf e ∧
  (∀ i,i<vs.length→∃ v',cs[ib.sh+i]?=some v'∧AA ι m.gen (vs.getD i undef) v')∧(ro=false→e'=e∧∀ j,j<cs.size→¬ (fr.1≤j∧j<fr.2)):=by
 have h:=hs.blk b ib hb
 rw [hg] at h
 unfold QC at h
 split at h
 ·rename_i vs1 e1 g1 ro1 cs e' fr ha ho
  cases ha
  obtain ⟨h1,h2,h3,h4,h5⟩:=h
  exact ⟨cs,fr,e',ho,h2,h3,h4,fun hr=>⟨h1 hr,h5 hr⟩⟩
 ·rename_i ha _;cases ha
 ·exact h.elim
theorem cell_of_row {w:World} {c:Nat} {cs:Array Value} {e:TypeId} {fr:Nat×Nat} (h:w.heap[c]?=some (.cells cs e fr)) (o:Nat) :
 w.cell? ⟨c,o,none⟩=cs[o]?:=by
 simp [World.cell?,h]
theorem frozen_of_row {w:World} {c:Nat} {cs:Array Value} {e:TypeId} {fr:Nat×Nat} (h:w.heap[c]?=some (.cells cs e fr)) (o:Nat) :
 w.frozen? ⟨c,o,none⟩=(decide (fr.1≤o)&&decide (o<fr.2)):=by
 obtain ⟨lo,hi⟩:=fr
 simp [World.frozen?,h]
theorem addr_add (b o n:Nat):Addr.add ⟨b,o,none⟩ n=⟨b,o+n,none⟩:=Addr.add_lit b o n
theorem Iu {m:Mem} {a:Addr} {n:Nat} {l:List Value} (h:m.EK a n=some l) :
 ∃ vs e g ro,m.get a.block=.cells vs e g ro∧LZ a=g∧m.gen a.block=g∧n≤(vs.drop a.off).length∧l=(vs.drop a.off).take n:=by
 unfold Mem.EK at h
 split at h
 ·rename_i vs e g ro hg
  split at h
  ·rename_i ha
   obtain ⟨h1,h2⟩:=EU h
   exact ⟨vs,e,g,ro,hg,ha,by unfold Mem.gen;rw [hg];rfl,h1,h2⟩
  ·cases h
 ·cases h
theorem Jg {ι:BN} {m:Mem} {w:World} {a a':Addr} {n:Nat} {l:List Value} (hs:DL P G ι m w) (ha:NV ι m.gen a a') (h:m.EK a n=some l) :
 ∃ l',BI ι m.gen l l'∧l'.length=n∧∀ (j:Nat) v,l'[j]?=some v→w.cell? (a'.add j)=some v:=by
 obtain ⟨vs,e,g,ro,hg,hag,hgen,hn,hl⟩:=Iu h
 obtain ⟨ib,hb,_,ha'⟩:=ha
 have hcur:=ha' (by rw [hag,hgen])
 obtain ⟨cs,fr,e',hrow,hlim,QL,hrel,_⟩:=GV hs hb hg
 rw [List.length_drop] at hn
 have hget:∀ j,j<n→∃ v',cs[ib.sh+(a.off+j)]?=some v'∧AA ι m.gen (vs.getD (a.off+j) undef) v':=fun j hj=>hrel (a.off+j) (by omega)
 refine ⟨(List.range n).map (fun j=>cs.getD (ib.sh+(a.off+j)) undef),⟨by simp [hl];omega,fun i hi=>?_⟩,by simp,fun j v hv=>?_⟩
 ·rw [hl,List.length_take,List.length_drop] at hi
  have hin:i<n:=by omega
  obtain ⟨v',h1,h2⟩:=hget i hin
  have e1:l.getD i undef=vs.getD (a.off+i) undef:=by
   rw [hl,List.getD_eq_getElem?_getD,List.getD_eq_getElem?_getD,List.getElem?_take,if_pos hin,List.getElem?_drop]
  have e2:((List.range n).map (fun j=>cs.getD (ib.sh+(a.off+j)) undef)).getD i undef=v':=by
   rw [List.getD_eq_getElem?_getD,List.getElem?_map,List.getElem?_range hin]
   simp [h1]
  rw [e1,e2];exact h2
 ·rw [List.getElem?_map] at hv
  have hjn:j<n:=by
   rcases Nat.lt_or_ge j n with h|h
   ·exact h
   ·rw [List.getElem?_eq_none (by simpa using h)] at hv;cases hv
  obtain ⟨v',h1,_⟩:=hget j hjn
  rw [List.getElem?_range hjn] at hv
  simp [h1] at hv
  rw [hcur,addr_add,cell_of_row hrow,← hv,← h1]
  congr 1
  omega
theorem aI {t:TypeId} {b:Bool} (h:GI P t=some b) (w:World):(isAgg t).run P w=.ok b w:=by
 unfold GI at h
 unfold isAgg
 split at h<;>first
  |(rename_i d hd;simp [run_underlying hd];cases h;rfl)
  |(rename_i d hd1 hd2 hd;simp only [Sem.run_bind,run_underlying hd,Result.andThen_ok];cases h;cases d<;>first|rfl|simp_all)
  |cases h
theorem run_typeInfo' {t:TypeId} {i:TypeInfo} (h:P.info? t=some i) (w:World):(typeInfo t).run P w=.ok i w:=by
 simp [typeInfo,h]
theorem run_sizeOf' {t:TypeId} {i:TypeInfo} (h:P.info? t=some i) (w:World):(sizeOf t).run P w=.ok i.size w:=by
 simp [sizeOf,run_typeInfo' h]
theorem Em {t:TypeId} {i:TypeInfo} (h:P.info? t=some i):P.cellsOf t=i.size:=by simp [Program.cellsOf,h]
theorem Ox {ι:BN} {m:Mem} {w:World} {t:TypeId} {a a':Addr} {v:Value} (hs:DL P G ι m w) (ha:NV ι m.gen a a') (h:LD P t a m=some v) :
 ∃ v',(loadVar t a').run P w=.ok v' w∧AA ι m.gen v v':=by
 unfold LD at h
 split at h
 case isFalse=>cases h
 unfold Xg at h
 split at h
 ·rename_i hagg
  split at h
  ·rename_i i hi
   rw [Option.map_eq_some_iff] at h
   obtain ⟨l,hl,rfl⟩:=h
   obtain ⟨l',hrel,hlen,hcell⟩:=Jg hs ha hl
   refine ⟨.agg l'.toArray,?_,?_⟩
   ·unfold loadVar
    have:=run_loadCells_list (P:=P) w a' l' hcell
    rw [hlen] at this
    simp [aI hagg,run_sizeOf' hi,this]
   ·exact .agg l l' hrel.1 hrel.2
  ·cases h
 ·rename_i hagg
  rw [Option.bind_eq_some_iff] at h
  obtain ⟨l,hl,hv⟩:=h
  obtain ⟨l',hrel,hlen,hcell⟩:=Jg hs ha hl
  match l,hv,hrel with
  |v0::k,hv,hrel =>
   simp at hv;subst hv
   obtain ⟨v',k',rfl,hv',_⟩:=hrel.Jt
   refine ⟨v',?_,hv'⟩
   have hc:=hcell 0 v' rfl
   unfold loadVar
   rw [Addr.add_zero'] at hc
   simp [aI hagg,hc]
 ·cases h
theorem Yh {ι:BN} {m:Mem} {w:World} {b:Nat} {ib:IB} {es:List MapEntry} {k:Nat} (hs:DL P G ι m w) (hb:ι b=some ib) (hg:m.get b=.map es k) :
 ∃ es',w.heap[ib.blk]?=some (.map es' k)∧Dy ι m.gen es es'.toList:=by
 have h:=hs.blk b ib hb
 rw [hg] at h
 unfold QC at h
 split at h
 ·rename_i ha _;cases ha
 ·rename_i es1 c1 es' c' ha ho
  cases ha
  obtain ⟨rfl,h2⟩:=h
  exact ⟨es',ho,h2⟩
 ·exact h.elim
end
section
variable {P:Program} {G:List Nat}
theorem getD_eq (l:List Value) (i:Nat):l.getD i undef=(l[i]?).getD undef:=List.getD_eq_getElem?_getD
theorem Zf (l:List Value):∀ (vs:List Value) (o:Nat),(splice vs o l).length=vs.length:=by
 induction l with
 |nil=>intro vs o;rfl
 |cons v l ih=>intro vs o;simp [splice,ih]
theorem mJ (l:List Value):∀ (vs:List Value) (o j:Nat),o+l.length≤vs.length →
 (splice vs o l)[j]?=if o≤j∧j<o+l.length then l[j-o]? else vs[j]?:=by
 induction l with
 |nil=>intro vs o j _;simp [splice];intro h1 h2;omega
 |cons v l ih =>
  intro vs o j h
  simp only [List.length_cons] at h
  simp only [splice]
  rw [ih _ _ _ (by simp;omega)]
  by_cases h1:o+1≤j∧j<o+1+l.length
  ·rw [if_pos h1,if_pos (by simp;omega)]
   have:j-o=(j-(o+1))+1:=by omega
   rw [this];rfl
  ·rw [if_neg h1]
   by_cases h2:j=o
   ·subst h2
    rw [if_pos (by simp)]
    simp [List.getElem?_set]
    omega
   ·rw [if_neg (by simp;omega),List.getElem?_set_ne (by omega)]
theorem En (z:List Value) (n:Nat):(AQ z n).length=n*z.length:=by
 induction n with
 |zero=>simp [AQ]
 |succ n ih=>simp [AQ,ih,Nat.succ_mul,Nat.add_comm]
theorem QZ (z:List Value) (n:Nat):∀ i,i<n*z.length→(AQ z n)[i]?=z[i % z.length]?:=by
 induction n with
 |zero=>intro i h;simp at h
 |succ n ih =>
  intro i h
  simp only [AQ]
  rw [Nat.succ_mul] at h
  by_cases h1:i<z.length
  ·rw [List.getElem?_append_left h1,Nat.mod_eq_of_lt h1]
  ·rw [List.getElem?_append_right (by omega),ih _ (by omega)]
   congr 1
   rw [Nat.mod_eq_sub_mod (by omega:z.length≤i)]
theorem JD (z:List Value) (n:Nat) (hz:0<z.length):((Array.range (n*z.length)).map fun i=>(z.toArray[i % z.toArray.size]!:Value))=(AQ z n).toArray:=by
 apply Array.ext'
 simp only [Array.toList_map,Array.toList_range]
 apply List.ext_getElem?
 intro i
 by_cases hi:i<n*z.length
 ·have hm:i % z.length<z.length:=Nat.mod_lt _ hz
  rw [List.getElem?_map,List.getElem?_range hi,QZ z n i hi,List.getElem?_eq_getElem hm]
  simp [hm]
 ·rw [List.getElem?_eq_none (by simpa using hi),List.getElem?_eq_none (by rw [En];omega)]
theorem BI.repeat {ι:BN} {g:Nat→Nat} {z:List Value} (h:z.all plainCell=true) (n:Nat):BI ι g (AQ z n) (AQ z n):=by
 refine BI.plain ?_
 induction n with
 |zero=>rfl
 |succ n ih=>simp only [AQ,List.all_append,h,ih,Bool.and_self]
theorem BI.xk {ι:BN} {g:Nat→Nat} (l:List UInt8):BI ι g (l.map fun c=>Value.int .u8 c.toNat) (l.map fun c=>Value.int .u8 c.toNat) :=
 BI.plain (by simp [plainCell])
theorem BI.QE {ι:BN} {g:Nat→Nat} {l l':List Value} (h:BI ι g l l') (ha:l.all BO=true):∀ v∈l',v.oneCell'=true:=by
 intro v hv
 obtain ⟨i,hi,rfl⟩:=List.getElem_of_mem hv
 have hi0:i<l.length:=h.1▸hi
 have:=h.2 i hi0
 rw [getD_lt hi0,getD_lt hi] at this
 exact this.oneCell (List.all_eq_true.1 ha _ (List.getElem_mem hi0))
def b0f (w w':World) (c:Nat) (cs cs':Array Value) (e:TypeId) (fr:Nat×Nat) (o:Nat) (l:List Value):Prop :=
 w'.heap[c]?=some (.cells cs' e fr)∧cs'.size=cs.size∧(∀ j,cs'[j]?=if o≤j∧j<o+l.length then l[j-o]? else cs[j]?) ∧
 (∀ d,d≠c→w'.heap[d]?=w.heap[d]?)∧w'.heap.size=w.heap.size∧w'.tape=w.tape∧w'.os=w.os∧w'.output=w.output
theorem Gf (c:Nat) (e:TypeId) (fr:Nat×Nat) (off:Nat):∀ (l:List Value) (i:Nat) (w:World) (cs:Array Value),
 w.heap[c]?=some (.cells cs e fr)→(∀ v∈l,v.oneCell'=true)→off+i+l.length≤cs.size→(∀ j,j<cs.size→¬ (fr.1≤j∧j<fr.2)) →
 ∃ w' cs',(storeCells ⟨c,off,none⟩ l i).run P w=.ok () w'∧b0f w w' c cs cs' e fr (off+i) l
 |[],i,w,cs,h,_,_,_=>⟨w,cs,rfl,h,rfl,fun j=>by rw [if_neg (by rw [List.length_nil];omega)],fun _ _=>rfl,rfl,rfl,rfl,rfl⟩
 |v::l,i,w,cs,h,hone,hle,hfr=>by
  simp only [List.length_cons] at hle
  have hlt:off+i<cs.size:=by omega
  have hcell:w.cell? ⟨c,off+i,none⟩=some cs[off+i]:=by rw [cell_of_row h];exact Array.getElem?_eq_getElem hlt
  have hfz:w.frozen? ⟨c,off+i,none⟩=false:=by
   rw [frozen_of_row h]
   have:=hfr (off+i) hlt
   by_cases h1:fr.1≤off+i
   ·have h2:¬ (off+i<fr.2):=fun h2=>this ⟨h1,h2⟩
    simp [h2]
   ·simp [h1]
  have hs:(store ⟨c,off+i,none⟩ v).run P w=.ok () (w.setCell ⟨c,off+i,none⟩ v):=by
   rw [run_store P w _ v _ (hone v (by simp)),hcell,hfz];rfl
  have hrow:(w.setCell ⟨c,off+i,none⟩ v).heap[c]?=some (.cells (cs.setIfInBounds (off+i) v) e fr):=by
   simp only [World.setCell,Array.getElem?_modify,h];simp
  have hoth:∀ d,d≠c→(w.setCell ⟨c,off+i,none⟩ v).heap[d]?=w.heap[d]?:=fun d hd=>by
   simp only [World.setCell,Array.getElem?_modify];rw [if_neg (by simpa using fun e=>hd e.symm)]
  obtain ⟨w',cs',hr,h1,h2,h3,h4,h5,h6,h7,h8⟩:=Gf c e fr off l (i+1) (w.setCell ⟨c,off+i,none⟩ v) (cs.setIfInBounds (off+i) v) hrow
   (fun u hu=>hone u (by simp [hu])) (by rw [Array.size_setIfInBounds];omega) (by simpa using hfr)
  refine ⟨w',cs',?_,h1,by simpa using h2,fun j=>?_,fun d hd=>(h4 d hd).trans (hoth d hd),by simpa using h5,by rw [h6];rfl,by rw [h7];rfl,by rw [h8];rfl⟩
  ·simp only [storeCells,Sem.run_bind,addr_add,hs,Result.andThen_ok]
   exact hr
  ·rw [h3 j]
   by_cases hj:off+(i+1)≤j∧j<off+(i+1)+l.length
   ·rw [if_pos hj,if_pos (by simp;omega)]
    have:j-(off+i)=(j-(off+(i+1)))+1:=by omega
    rw [this];rfl
   ·rw [if_neg hj]
    by_cases h2:j=off+i
    ·subst h2
     rw [if_pos (by simp)]
     simp [hlt]
    ·rw [if_neg (by simp;omega),Array.getElem?_setIfInBounds_ne (by omega)]
theorem Mem.F8 {m:Mem} {b:Nat} {vs:List Value} {e:TypeId} {g:Nat} {ro:Bool} (h:m.get b=.cells vs e g ro):m.gen b=g:=by
 unfold Mem.gen;rw [h];rfl
theorem Mem.NQ {m:Mem} {b:Nat} {vs:List Value} {e:TypeId} {g:Nat} {ro:Bool} (h:m.get b=.cells vs e g ro):m.ro b=ro:=by
 unfold Mem.ro;rw [h];rfl
theorem Kw {ι:BN} {m m':Mem} {w:World} {a a':Addr} {l l':List Value} (hs:DL P G ι m w) (ha:NV ι m.gen a a') (hl:BI ι m.gen l l')
 (h:Gj m a l=some m'):∃ w' ι',(storeCells a' l').run P w=.ok () w'∧Ext ι m w ι' m' w'∧DL P G ι' m' w':=by
 unfold Gj at h
 split at h
 ·rename_i vs e g hg
  split at h
  ·rename_i hc
   simp only [Bool.and_eq_true,beq_iff_eq,decide_eq_true_eq] at hc
   obtain ⟨⟨⟨hgen,hle⟩,hpos⟩,hall⟩:=hc
   cases h
   obtain ⟨ib,hb,_,ha'⟩:=ha
   have hcur:=ha' (by rw [hgen,Mem.F8 hg])
   obtain ⟨cs,fr,e',hrow,hlim,QL,hrel,hfr0⟩:=GV hs hb hg
   obtain ⟨rfl,lY⟩:=hfr0 rfl
   have hfr:∀ (_:false=false) j,j<cs.size→¬ (fr.1≤j∧j<fr.2):=fun _=>lY
   have hsz:(a.off+ib.sh)+0+l'.length≤cs.size:=by
    obtain ⟨v',h2,_⟩:=hrel (a.off+l.length-1) (by omega)
    have:=(Array.getElem?_eq_some_iff.1 h2).1
    rw [← hl.1];omega
   obtain ⟨w',cs',hrun,r1,r2,r3,r4,r5,r6,r7,r8⟩:=Gf (P:=P) ib.blk e' fr (a.off+ib.sh) l' 0 w cs hrow (hl.QE hall) hsz (hfr rfl)
   have hro:m.ro a.block=false:=Mem.NQ hg
   obtain ⟨ι',hext,Dp,_⟩:=Iq (x:=.cells (splice vs a.off l) e' g false) (ib':=ib) (w':=w') (obj:=.cells cs' e' fr) hs hb hro rfl
    ⟨by rw [Mem.F8 hg];exact Nat.le_refl _,fun _=>rfl⟩ (.inl rfl) r1 (fun c _ hne=>r4 c hne) (by omega) r6 r7 r8 (fun ι' g' hle'=>by
     refine ⟨fun _=>rfl,by omega,QL,fun i hi=>?_,fun _ j hj=>hfr rfl j (by omega)⟩
     rw [Zf] at hi
     rw [r3,getD_eq,mJ _ _ _ _ hle]
     by_cases hin:a.off≤i∧i<a.off+l.length
     ·rw [if_pos hin,if_pos (by rw [← hl.1];omega)]
      have e1:ib.sh+i-(a.off+ib.sh+0)=i-a.off:=by omega
      rw [e1]
      have hlt:i-a.off<l.length:=by omega
      obtain ⟨v',h1,h2⟩:=hl.get (List.getElem?_eq_getElem hlt)
      refine ⟨v',h1,?_⟩
      rw [List.getElem?_eq_getElem hlt]
      exact h2.mono hle'
     ·rw [if_neg hin,if_neg (by rw [← hl.1];omega)]
      obtain ⟨v',h1,h2⟩:=hrel i hi
      exact ⟨v',h1,by rw [← getD_eq];exact h2.mono hle'⟩)
   exact ⟨w',ι',by rw [hcur];exact hrun,hext,Dp⟩
  ·cases h
 ·cases h
theorem fF {ι:BN} {m m':Mem} {w:World} {t:TypeId} {a a':Addr} {v v':Value} (hs:DL P G ι m w) (ha:NV ι m.gen a a') (hv:AA ι m.gen v v')
 (h:Nu P t a v m=some m'):∃ w' ι',(storeVar t a' v').run P w=.ok () w'∧Ext ι m w ι' m' w'∧DL P G ι' m' w':=by
 unfold Nu at h
 split at h
 ·rename_i i hi
  split at h
  ·rename_i hsz
   obtain ⟨w',ι',hr,hx⟩:=Kw hs ha hv.cells h
   refine ⟨w',ι',?_,hx⟩
   have:v'.cells.size=i.size:=by
    have:=hv.cells.1
    simp only [Array.length_toList] at this
    omega
   simp only [storeVar,Sem.run_bind,run_sizeOf' hi,Result.andThen_ok,this,ne_eq,not_true_eq_false,if_false]
   exact hr
  ·cases h
 ·cases h
theorem size_data (s:ByteArray):s.data.toList.length=s.size:=rfl
theorem Eu {ι:BN} {m:Mem} {w:World} {size n:Nat} {s s':Value} {l:List Value} (hs:DL P G ι m w) (hv:AA ι m.gen s s')
 (h:CO m size n s=some l):∃ l',(Builtin.firstCells size n s').run P w=.ok l'.toArray w∧BI ι m.gen l l':=by
 unfold CO at h
 split at h
 ·split at h
  ·cases h;cases hv
   exact ⟨[],by simp [Builtin.firstCells],BI.nil⟩
  ·cases h
 ·split at h
  ·rename_i hn
   cases h;cases hv with
   |mM b o s a'=>exact ⟨[],by subst hn;simp only [Builtin.firstCells,Nat.zero_mul,loadCells,loadCellsFrom];rfl,BI.nil⟩
  ·cases h
 ·rename_i b off len g
  split at h
  ·rename_i hn
   cases hv with
   |sl _ _ _ _ a' cap hsr =>
    by_cases h0:n=0
    ·subst h0
     obtain ⟨vs,e,g',ro,hg,hag,hgen,hlen,hl⟩:=Iu h
     refine ⟨[],by simp only [Builtin.firstCells,Nat.zero_mul,loadCells,loadCellsFrom];rfl,?_⟩
     rw [hl];simp [BI.nil]
    ·obtain ⟨ib,hb,hle,h3,hcur⟩:=hsr
     obtain ⟨vs,e,g',ro,hg,hag,hgen,hlen,hl⟩:=Iu h
     have hgg:g=m.gen b:=by rw [hgen];exact hag
     obtain ⟨h1,h2,h4⟩:=hcur hgg
     have h5:a'.off=off+ib.sh:=by
      rcases h4 with h4|h4
      ·omega
      ·exact h4.1
     have ha':a'=⟨ib.blk,off+ib.sh,none⟩:=by
      obtain ⟨x,y,z⟩:=a'
      simp at h1 h2 h5
      simp [h1,h2,h5]
     obtain ⟨l',hrel,hl',hcell⟩:=Jg (a':=a') hs ⟨ib,hb,by simp [LZ,hgg],fun _=>ha'⟩ h
     refine ⟨l',?_,hrel⟩
     have:=run_loadCells_list (P:=P) w a' l' hcell
     rw [hl'] at this
     simp only [Builtin.firstCells]
     exact this
  ·cases h
 ·rename_i s
  split at h
  ·rename_i hn
   cases h;cases hv
   refine ⟨_,?_,BI.xk _⟩
   simp only [Builtin.firstCells,Sem.run_pure]
   congr 1
   apply Array.ext'
   rw [Array.toList_map,Lib.extract_data]
   simp
  ·cases h
 ·cases h
theorem KY {ι:BN} {g:Nat→Nat} {s s':Value} {n:Nat} (hv:AA ι g s s') (h:lenOf s=some n) (w:World):(Builtin.lenOf s').run P w=.ok n w:=by
 unfold lenOf at h
 split at h
 ·cases h;cases hv<;>rfl
 ·cases h;cases hv;rfl
 ·cases h
theorem Ib {ι:BN} {m:Mem} {w w':World} {e:TypeId} {l:List Value} {n cap:Nat} {cs:Array Value} (hs:DL P G ι m w) (hw':w'.heap=w.heap.push (.cells cs e (0,0)))
 (ht:w'.tape=w.tape) (ho:w'.os=w.os) (hou:w'.output=w.output) (hl:∀ i,i<l.length→∃ v',cs[i]?=some v'∧AA ι m.gen (l.getD i undef) v')
 (hn:n≤cap) (hcap:cap=0∨cap*P.cellsOf e≤cs.size) :
 Post P G ι m w (A8 m e l n).1 (A8 m e l n).2 (.slice (some ⟨w.heap.size,0,none⟩) n cap) w':=by
 obtain ⟨ι',hext,Dp,hb⟩:=Mc (x:=.cells l e 0 false) (ib:=⟨w.heap.size,0,cs.size,P.cellsOf e⟩) hs hw' ht ho hou rfl
  ⟨fun _=>rfl,rfl,rfl,fun i hi=>by simpa using hl i hi,fun _ j _=>by simp⟩ rfl
 refine ⟨ι',hext,Dp,.sl _ _ _ _ _ _ ⟨_,hb,Nat.zero_le _,hn,fun _=>⟨rfl,rfl,?_⟩⟩⟩
 rcases hcap with h|h
 ·exact .inl h
 ·exact .inr ⟨rfl,by simpa using h⟩
theorem Zt (n:Nat):∀ (r c:Nat),c≤n+(n+768) / 4→Builtin.growBy n r c≤n+(n+768) / 4
 |0,c,h=>h
 |r+1,c,h=>by
  simp only [Builtin.growBy]
  split
  ·exact h
  ·exact Zt n r _ (by omega)
theorem nextslicecap_le (n c:Nat) (h:c<n):Builtin.nextslicecap n c≤2*n+192:=by
 unfold Builtin.nextslicecap
 split
 ·omega
 ·split
  ·omega
  ·have:=Zt n 4 c (by omega);omega
theorem jr {need bytes c:Nat} (h:need*(bytes+1)≤room) (hc:c<need):Builtin.nextslicecap need c*bytes≤2 ^ 48:=by
 have h1:=nextslicecap_le need c hc
 have h2:bytes+1≤room:=by
  refine Nat.le_trans ?_ h
  have:1*(bytes+1)≤need*(bytes+1):=Nat.mul_le_mul_right _ (by omega)
  omega
 have h3:Builtin.nextslicecap need c*bytes≤(2*need+192)*bytes:=Nat.mul_le_mul_right _ h1
 have h4:need*bytes≤room:=Nat.le_trans (Nat.mul_le_mul_left _ (by omega)) h
 have h5:(2*need+192)*bytes=2*(need*bytes)+192*bytes:=by rw [Nat.add_mul,Nat.mul_assoc]
 have h6:room=2 ^ 40:=rfl
 omega
def DR (e:TypeId) (size:Nat) (zeros:Bool) (n:Nat) (x:Value) (base:Option Addr) (sLen sCap:Nat) (appended:Sem (Array Value)):Sem Value:=do
 let need:=sLen+n
 if need≤sCap then
  let new ← appended
  if let some a:=base then storeCells (a.add (sLen*size)) new.toList
  pure (.slice base need sCap)
 else
  if (need:Int)>IntKind.i64.max∧(zeros∨(← typeInfo e).bytes=0) then runtimePanic (.error "growslice: len out of range")
  if Builtin.nextslicecap need sCap*(← typeInfo e).bytes>2 ^ 48 then (if zeros then runtimePanic (.error "growslice: len out of range") else do
   if !(← Builtin.mayShare size sLen n base x) then mark .noRoom
   unsupported (.resourceLimit "append: a slice or a string whose bytes no memory bears"))
  let newCap ← choose (.appendCap need sCap e)
  askRoom (newCap*(← typeInfo e).bytes)
  let old ← Builtin.firstCells size sLen (.slice base sLen sCap)
  let new ← appended
  let rest:=Builtin.zeroCells (← zeroValue e).cells (newCap-need)
  pure (.slice (some (← newRow e (old++new++rest))) need newCap)
theorem JZ (z:Array Value) (n:Nat):(Builtin.zeroCells z n).size=n*z.size:=by simp [Builtin.zeroCells]
theorem I5 {e:TypeId} {i:TypeInfo} {size n:Nat} {zeros:Bool} {x:Value} {base:Option Addr} {sLen sCap:Nat} {ap:Sem (Array Value)} {w:World} {old new:List Value} {z:Value}
 (hi:P.info? e=some i) (hz:i.zero=some z) (b0y:¬ sLen+n≤sCap) (hroom:(sLen+n)*(i.bytes+1)≤room)
 (hold:∀ k,(Builtin.firstCells size sLen (.slice base sLen sCap)).run P { w with drawn:=k }=.ok old.toArray { w with drawn:=k })
 (hap:∀ k,ap.run P { w with drawn:=k }=.ok new.toArray { w with drawn:=k }) :
 ∃ cap,sLen+n≤cap∧(DR e size zeros n x base sLen sCap ap).run P w =
  .ok (.slice (some ⟨w.heap.size,0,none⟩) (sLen+n) cap) { w with heap:=w.heap.push (.cells (old.toArray++new.toArray++Builtin.zeroCells z.cells (cap-(sLen+n))) e (0,0)),drawn:=w.drawn+1 }:=by
 let q:Question:=.appendCap (sLen+n) sCap e
 refine ⟨q.cut (w.tape w.drawn q),?_,?_⟩
 ·show sLen+n≤sLen+n+_ % _
  omega
 ·have h1:¬ ((sLen+n:Nat):Int)>IntKind.i64.max:=by
   have h2:sLen+n≤room:=Nat.le_trans (Nat.le_mul_of_pos_right _ (by omega)) hroom
   have h3:room=2 ^ 40:=rfl
   rw [IntKind.max_i64]
   omega
  have h2:¬ Builtin.nextslicecap (sLen+n) sCap*i.bytes>2 ^ 48:=by have:=jr hroom (c:=sCap) (by omega);omega
  have h3:(Question.appendCap (sLen+n) sCap e).forced=false:=rfl
  have ho:=hold (w.drawn+1)
  have ha:=hap (w.drawn+1)
  have hzv:∀ w,(zeroValue e).run P w=.ok z w:=fun w=>by simp [zeroValue,run_typeInfo' hi,hz]
  simp only [DR]
  rw [if_neg b0y]
  simp only [Sem.run_bind,run_typeInfo' hi,Result.andThen_ok,h1,false_and,if_false,Sem.run_pure,h2,run_choose,h3,Bool.false_eq_true,run_askRoom,ho,ha,hzv,newRow,run_newObj]
  rfl
end
section
variable {P:Program} {G:List Nat}
theorem DL.drawn {ι:BN} {m:Mem} {w:World} (hs:DL P G ι m w) (k:Nat):DL P G ι m { w with drawn:=k }:=⟨hs.dom,hs.blk,hs.inj,hs.glob⟩
theorem ES {m:Mem} {size n:Nat} {s:Value} {l:List Value} (h:CO m size n s=some l):l.length=n*size:=by
 unfold CO at h
 split at h
 ·split at h
  ·rename_i h0;cases h;simp [h0]
  ·cases h
 ·split at h
  ·rename_i h0;cases h;simp [h0]
  ·cases h
 ·split at h
  ·obtain ⟨vs,e,g',ro,hg,hag,hgen,hlen,hl⟩:=Iu h
   rw [hl,List.length_take];omega
  ·cases h
 ·split at h
  ·rename_i h0;cases h;simp [h0.2,size_data];have:=h0.1;omega
  ·cases h
 ·cases h
theorem OI {i:TypeInfo} (h:Eb i=true):∃ z,i.zero=some z∧z.cells.size=i.size:=by
 unfold Eb at h
 split at h
 ·exact ⟨_,by assumption,by simpa using h⟩
 ·cases h
theorem Q9 {old new rest:List Value} {ι:BN} {g:Nat→Nat} {l:List Value} (h:BI ι g l (old++new)) (i:Nat) (hi:i<l.length) :
 ∃ v',(old.toArray++new.toArray++rest.toArray)[i]?=some v'∧AA ι g (l.getD i undef) v':=by
 obtain ⟨v',h1,h2⟩:=h.get (List.getElem?_eq_getElem hi)
 refine ⟨v',?_,by rw [getD_lt hi];exact h2⟩
 have hlt:i<(old++new).length:=by rw [← h.1];exact hi
 simp only [List.append_toArray,List.getElem?_toArray]
 rw [List.getElem?_append_left hlt]
 exact h1
theorem KO {ι:BN} {m m':Mem} {w:World} {e:TypeId} {i:TypeInfo} {l l':List Value} {n sLen sCap:Nat} {zeros:Bool} {x s v:Value} {base:Option Addr} {ap:Sem (Array Value)}
 (hs:DL P G ι m w) (hi:P.info? e=some i) (hz:Eb i=true) (hv:AA ι m.gen s (.slice base sLen sCap)) (hsl:lenOf s=some sLen) (hl:BI ι m.gen l l') (hlen:l.length=n*i.size)
 (hcell:l.all BO=true) (hroom:(sLen+n)*(i.bytes+1)≤room) (hap:∀ k,ap.run P { w with drawn:=k }=.ok l'.toArray { w with drawn:=k })
 (h:BM m e i.size l n s=some (v,m')) :
 ∃ v' w',(DR e i.size zeros n x base sLen sCap ap).run P w=.ok v' w'∧Post P G ι m w v m' v' w':=by
 obtain ⟨z,hz1,hz2⟩:=OI hz
 have uY:ap.run P w=.ok l'.toArray w:=hap w.drawn
 unfold BM at h
 have grow:∀ (old:List Value),sLen=0→0<n→sCap=0→(∀ k,(Builtin.firstCells i.size sLen (.slice base sLen sCap)).run P { w with drawn:=k }=.ok #[] { w with drawn:=k }) →
  some (A8 m e l n)=some (v,m')→∃ v' w',(DR e i.size zeros n x base sLen sCap ap).run P w=.ok v' w'∧Post P G ι m w v m' v' w':=fun _ h0 hn hc hold h=>by
  obtain ⟨cap,hcap,hrun⟩:=I5 (old:=[]) (new:=l') (z:=z) (x:=x) (zeros:=zeros) hi hz1 (by omega) hroom hold hap
  refine ⟨_,_,hrun,?_⟩
  rw [h0,Nat.zero_add] at hcap ⊢
  have hp:=Ib (w':={ w with heap:=w.heap.push (.cells (([]:List Value).toArray++l'.toArray++Builtin.zeroCells z.cells (cap-n)) e (0,0)),drawn:=w.drawn+1 })
   (e:=e) (l:=l) (n:=n) (cap:=cap) hs rfl rfl rfl rfl (fun j hj=>Q9 (old:=[]) (rest:=(Builtin.zeroCells z.cells (cap-n)).toList) (by simpa using hl) j hj) hcap
   (.inr (by
    rw [Em hi]
    have h1:(Builtin.zeroCells z.cells (cap-n)).size=(cap-n)*i.size:=by rw [JZ,hz2]
    have h2:l'.length=n*i.size:=by rw [← hl.1];exact hlen
    simp only [Array.size_append,List.size_toArray,List.length_nil,h1,h2,Nat.zero_add]
    rw [← Nat.add_mul]
    exact Nat.le_of_eq (by congr 1;omega)))
  cases h
  exact hp
 split at h
 ·
  cases hv
  simp only [lenOf,Option.some.injEq] at hsl
  split at h
  ·rename_i hn
   cases h
   subst hn
   have:l'=[]:=List.length_eq_zero_iff.1 (by rw [← hl.1,hlen];simp)
   subst this
   refine ⟨.slice none 0 0,w,?_,Post.same hs .Hy⟩
   simp only [DR,Nat.add_zero,Nat.le_refl,if_true,Sem.run_bind,uY,Result.andThen_ok]
   rfl
  ·exact grow [] rfl (by omega) rfl (fun k=>rfl) h
 ·
  rename_i b o g
  cases hv with
  |mM _ _ _ a' =>
   split at h
   ·rename_i hn
    cases h
    subst hn
    have:l'=[]:=List.length_eq_zero_iff.1 (by rw [← hl.1,hlen];simp)
    subst this
    refine ⟨.slice (some a') 0 0,w,?_,Post.same hs (.mM _ _ _ _)⟩
    simp only [DR,Nat.add_zero,Nat.le_refl,if_true,Sem.run_bind,uY,Result.andThen_ok]
    rfl
   ·exact grow [] rfl (by omega) rfl (fun k=>by simp only [Builtin.firstCells,Nat.zero_mul,loadCells,loadCellsFrom];rfl) h
 ·
  rename_i b off len g
  split at h
  ·rename_i vs e' g' hg
   split at h
   ·rename_i hc
    simp only [Bool.and_eq_true,beq_iff_eq,decide_eq_true_eq] at hc
    obtain ⟨⟨rfl,rfl⟩,hsize⟩:=hc
    split at h
    ·rename_i old hold
     cases h
     obtain ⟨hle,rfl⟩:=EU hold
     simp only [lenOf,Option.some.injEq] at hsl
     subst hsl
     cases hv with
     |sl _ _ _ _ a' cap hsr =>
      obtain ⟨ib,hb,_,q3,hcur⟩:=hsr
      obtain ⟨q1,q2,q4⟩:=hcur (Mem.F8 hg).symm
      obtain ⟨cs,fr,e0,hrow,hlim,QL,hrel,hfr0⟩:=GV hs hb hg
      obtain ⟨he0,lY⟩:=hfr0 rfl
      have he1:=he0.symm
      subst he1
      have hfr:∀ (_:false=false) j,j<cs.size→¬ (fr.1≤j∧j<fr.2):=fun _=>lY
      have hesz':ib.pF=i.size:=by rw [QL,Em hi]
      have hlen':l'.length=n*i.size:=by rw [← hl.1];exact hlen
      rw [List.length_drop] at hle
      by_cases hfit:len+n≤sCap
      ·by_cases hc0:sCap=0
       ·
        have hl0:len=0:=by omega
        have hn0:n=0:=by omega
        subst hl0;subst hn0
        have hl'0:l'=[]:=List.length_eq_zero_iff.1 (by rw [hlen'];simp)
        have hl0:l=[]:=List.length_eq_zero_iff.1 (by rw [hlen];simp)
        subst hl'0;subst hl0
        obtain ⟨ι',hext,Dp,hb'⟩:=Iq (x:=.cells [] e (g+1) false) (ib':=ib) (w':=w) (obj:=.cells cs e fr) hs hb (Mem.NQ hg) rfl
         ⟨by rw [Mem.F8 hg];exact Nat.le_succ _,fun h=>absurd h (by rw [Mem.F8 hg];simp only [HY.gen];omega)⟩ (.inl rfl) hrow (fun c _ _=>rfl) (Nat.le_refl _) rfl rfl rfl
         (fun ι' g' _=>⟨fun _=>rfl,hlim,QL,fun i hi=>absurd hi (by simp),fun _=>hfr rfl⟩)
        refine ⟨.slice (some a') 0 sCap,w,?_,ι',?_,?_,?_⟩
        ·simp only [DR,Nat.add_zero,hfit,if_true,Sem.run_bind,uY,Result.andThen_ok]
         rfl
        ·simpa using hext
        ·simpa using Dp
        ·exact .sl _ _ _ _ _ _ ⟨ib,hb',by simp [Mem.gen,Mem.get_put,HY.gen],by omega,fun _=>⟨q1,q2,.inl hc0⟩⟩
       ·
        obtain ⟨q5,q6⟩:a'.off=off+ib.sh∧a'.off+sCap*ib.pF≤ib.lim:=by
         rcases q4 with h|h
         ·exact absurd h hc0
         ·exact h
        have ha':a'=⟨ib.blk,off+ib.sh,none⟩:=by
         obtain ⟨x1,y1,z1⟩:=a'
         simp at q1 q2 q5
         simp [q1,q2,q5]
        have hmul:(len+n)*i.size≤sCap*i.size:=Nat.mul_le_mul_right _ hfit
        rw [Nat.add_mul] at hmul
        rw [hesz',hlim] at q6
        obtain ⟨w',cs',hrun,r1,r2,r3,r4,r5,r6,r7,r8⟩:=Gf (P:=P) ib.blk e fr (off+ib.sh+len*i.size) l' 0 w cs hrow (hl.QE hcell) (by omega) (hfr rfl)
        obtain ⟨ι',hext,Dp,hb'⟩:=Iq (x:=.cells ((vs.drop off).take (len*i.size)++l) e (g+1) false) (ib':=⟨ib.blk,ib.sh+off,ib.lim,ib.pF⟩) (w':=w') (obj:=.cells cs' e fr) hs hb (Mem.NQ hg) rfl
         ⟨by rw [Mem.F8 hg];exact Nat.le_succ _,fun h=>absurd h (by rw [Mem.F8 hg];simp only [HY.gen];omega)⟩ (.inl rfl) r1 (fun c _ hne=>r4 c hne) (by omega) r6 r7 r8
         (fun ι' g' hle'=>by
          refine ⟨fun _=>rfl,by rw [hlim];exact r2.symm,QL,fun k hk=>?_,fun _ j hj=>hfr rfl j (by omega)⟩
          simp only [List.length_append,List.length_take,List.length_drop] at hk
          show ∃ v',cs'[(ib.sh+off)+k]?=some v'∧AA ι' g' _ v'
          rw [r3,getD_eq]
          by_cases hk1:k<len*i.size
          ·rw [if_neg (by omega),List.getElem?_append_left (by rw [List.length_take,List.length_drop];omega),List.getElem?_take,if_pos hk1,List.getElem?_drop]
           obtain ⟨v',h1,h2⟩:=hrel (off+k) (by omega)
           refine ⟨v',?_,by rw [← getD_eq];exact h2.mono hle'⟩
           rw [← h1];congr 1;omega
          ·rw [if_pos (by omega),List.getElem?_append_right (by rw [List.length_take,List.length_drop];omega)]
           have e1:k-(List.take (len*i.size) (List.drop off vs)).length=k-len*i.size:=by rw [List.length_take,List.length_drop];omega
           have e2:ib.sh+off+k-(off+ib.sh+len*i.size+0)=k-len*i.size:=by omega
           rw [e1]
           show ∃ v',l'[ib.sh+off+k-(off+ib.sh+len*i.size+0)]?=some v'∧_
           rw [e2]
           have hlt:k-len*i.size<l.length:=by omega
           obtain ⟨v',h1,h2⟩:=hl.get (List.getElem?_eq_getElem hlt)
           refine ⟨v',h1,?_⟩
           rw [List.getElem?_eq_getElem hlt]
           exact h2.mono hle')
        refine ⟨.slice (some a') (len+n) sCap,w',?_,ι',hext,Dp,?_⟩
        ·simp only [DR,hfit,if_true,Sem.run_bind,uY,Result.andThen_ok,ha',addr_add,hrun,Sem.run_pure]
        ·exact .sl _ _ _ _ _ _ ⟨_,hb',by simp [Mem.gen,Mem.get_put,HY.gen],hfit,fun _=>⟨q1,q2,.inr ⟨by simp [q5];omega,by simp only;rw [hesz',hlim];exact q6⟩⟩⟩
      ·
       have b2f:∃ old',BI ι m.gen ((vs.drop off).take (len*i.size)) old'∧∀ k,(Builtin.firstCells i.size len (.slice (some a') len sCap)).run P { w with drawn:=k }=.ok old'.toArray { w with drawn:=k }:=by
        have hsc:CO m i.size len (.slice (some ⟨b,off,none⟩) len g)=some ((vs.drop off).take (len*i.size)):=by
         simp only [CO,Nat.le_refl,if_true,Mem.EK,hg,LZ,Option.getD_some]
         exact hold
        have NZ:AA ι m.gen (.slice (some ⟨b,off,none⟩) len g) (.slice (some a') len sCap):=.sl _ _ _ _ _ _ ⟨ib,hb,by rw [Mem.F8 hg];exact Nat.le_refl _,q3,fun _=>⟨q1,q2,q4⟩⟩
        obtain ⟨old',h1,h2⟩:=Eu hs NZ hsc
        refine ⟨old',h2,fun k=>?_⟩
        obtain ⟨b0x,h3,h4⟩:=Eu (hs.drawn k) NZ hsc
        have hsame:b0x=old':=by
         have g1:∀ (a:Addr),({ w with drawn:=k }:World).cell? a=w.cell? a:=fun a=>rfl
         by_cases hz0:len=0
         ·subst hz0
          have hA:=h1;have hB:=h3
          simp only [Builtin.firstCells,Nat.zero_mul,loadCells,loadCellsFrom,Sem.run_pure] at hA hB
          injection hA with hA _
          injection hB with hB _
          have hA1:old'=[]:=(congrArg Array.toList hA).symm
          have hB1:b0x=[]:=(congrArg Array.toList hB).symm
          rw [hA1,hB1]
         ·have q5:a'.off=off+ib.sh:=by
           rcases q4 with h|h
           ·omega
           ·exact h.1
          have ha':a'=⟨ib.blk,off+ib.sh,none⟩:=by
           obtain ⟨x1,y1,z1⟩:=a'
           simp at q1 q2 q5
           simp [q1,q2,q5]
          have hget:∀ j,j<len*i.size→∃ u,w.cell? (a'.add j)=some u:=fun j hj=>by
           obtain ⟨u,hu,_⟩:=hrel (off+j) (by omega)
           exact ⟨u,by rw [ha',addr_add,cell_of_row hrow,← hu];congr 1;omega⟩
          have hch:∀ j,∃ u,j<len*i.size→w.cell? (a'.add j)=some u:=fun j=>by
           by_cases hj:j<len*i.size
           ·obtain ⟨u,hu⟩:=hget j hj;exact ⟨u,fun _=>hu⟩
           ·exact ⟨undef,fun h=>absurd h hj⟩
          have f1:=run_loadCells (P:=P) w a' (len*i.size) (fun j=>(hch j).choose) (fun j hj=>(hch j).choose_spec hj)
          have f2:=run_loadCells (P:=P) { w with drawn:=k } a' (len*i.size) (fun j=>(hch j).choose) (fun j hj=>(hch j).choose_spec hj)
          simp only [Builtin.firstCells] at h1 h3
          rw [h1] at f1
          rw [h3] at f2
          injection f1 with f1 _
          injection f2 with f2 _
          have:=f1.trans f2.symm
          simpa using this.symm
        rw [hsame] at h3
        exact h3
       obtain ⟨old',hor,hord⟩:=b2f
       obtain ⟨cap,hcap,hrun⟩:=I5 (old:=old') (new:=l') (z:=z) (x:=x) (zeros:=zeros) hi hz1 hfit hroom hord hap
       refine ⟨_,_,hrun,?_⟩
       have ho1:old'.length=len*i.size:=by rw [← hor.1,List.length_take,List.length_drop];omega
       have hsz:(old'.toArray++l'.toArray++Builtin.zeroCells z.cells (cap-(len+n))).size=cap*i.size:=by
        simp only [Array.size_append,List.size_toArray,JZ,hz2,ho1,hlen']
        rw [← Nat.add_mul,← Nat.add_mul]
        congr 1;omega
       obtain ⟨ι',hext,Dp,hb'⟩:=Iq (x:=.cells ((vs.drop off).take (len*i.size)++l) e (g+1) false) (ib':=⟨w.heap.size,0,cap*i.size,P.cellsOf e⟩)
        (w':={ w with heap:=w.heap.push (.cells (old'.toArray++l'.toArray++Builtin.zeroCells z.cells (cap-(len+n))) e (0,0)),drawn:=w.drawn+1 })
        (obj:=.cells (old'.toArray++l'.toArray++Builtin.zeroCells z.cells (cap-(len+n))) e (0,0)) hs hb (Mem.NQ hg) rfl
        ⟨by rw [Mem.F8 hg];exact Nat.le_succ _,fun h=>absurd h (by rw [Mem.F8 hg];simp only [HY.gen];omega)⟩ (.inr (Nat.le_refl _)) (by simp)
        (fun c hc _=>by show (w.heap.push _)[c]?=_;rw [Array.getElem?_push,if_neg (by omega)]) (by simp) rfl rfl rfl
        (fun ι' g' hle'=>by
         refine ⟨fun _=>rfl,hsz.symm,rfl,fun k hk=>?_,fun _ j hj=>by simp⟩
         have hk':=Q9 (rest:=(Builtin.zeroCells z.cells (cap-(len+n))).toList) (hor.append hl) k hk
         obtain ⟨v',h1,h2⟩:=hk'
         exact ⟨v',by simpa using h1,h2.mono hle'⟩)
       refine ⟨ι',hext,Dp,.sl _ _ _ _ _ _ ⟨_,hb',by simp [Mem.gen,Mem.get_put,HY.gen],hcap,fun _=>⟨rfl,rfl,.inr ⟨rfl,?_⟩⟩⟩⟩
       simp only [Em hi,Nat.zero_add,Nat.le_refl]
    ·cases h
   ·cases h
  ·cases h
 ·cases h
end
section
variable {P:Program} {G:List Nat}
def NS (ι:BN) (g:Nat→Nat) (BF as':Array Value):Prop:=∀ (i:Nat) v,BF[i]?=some v→∃ v',as'[i]?=some v'∧AA ι g v v'
theorem GH (a:Addr) (k:Nat):∀ (n i:Nat) (acc:Array Value) (w:World) (r:Array Value),(loadCellsFrom a i n acc).run P w=.ok r w →
 (loadCellsFrom a i n acc).run P { w with drawn:=k }=.ok r { w with drawn:=k }
 |0,i,acc,w,r,h=>by
  simp only [loadCellsFrom,Sem.run_pure] at h ⊢
  injection h with h _
  rw [h]
 |n+1,i,acc,w,r,h=>by
  simp only [loadCellsFrom,Sem.run_bind,run_load] at h ⊢
  have e1:({ w with drawn:=k }:World).cell? (a.add i)=w.cell? (a.add i):=rfl
  have e2:({ w with drawn:=k }:World).farLoad P (a.add i) (Mode.plain==Mode.atomic)=w.farLoad P (a.add i) (Mode.plain==Mode.atomic):=rfl
  rw [e1,e2]
  cases hc:w.cell? (a.add i) with
  |some v =>
   rw [hc] at h
   exact GH a k n (i+1) (acc.push v) w r h
  |none =>
   rw [hc] at h
   cases hf:w.farLoad P (a.add i) (Mode.plain==Mode.atomic) with
   |ok v =>
    rw [hf] at h
    exact GH a k n (i+1) (acc.push v.1) w r h
   |error e=>rw [hf] at h;cases h
theorem I4 {size n:Nat} {x:Value} {w:World} {r:Array Value} (k:Nat) (h:(Builtin.firstCells size n x).run P w=.ok r w) :
 (Builtin.firstCells size n x).run P { w with drawn:=k }=.ok r { w with drawn:=k }:=by
 unfold Builtin.firstCells at h ⊢
 split
 ·rename_i a _ _
  exact GH a k _ _ _ _ _ h
 ·simp only [Sem.run_pure] at h ⊢;injection h with h _;rw [h]
 ·simp only [Sem.run_pure] at h ⊢;injection h with h _;rw [h]
 ·simp_all
theorem LW {aT:Array TypeId} {BF:Array Value} {sT xT e:TypeId} {xd:TypeDesc} {i:TypeInfo} {x:Value} {base:Option Addr} {sLen sCap n:Nat} {w:World} (ty:TypeId)
 (h0:aT[0]?=some sT) (h1:BF[0]?=some (.slice base sLen sCap)) (h2:BF[1]?=some x) (h3:aT[1]?=some xT)
 (hu:P.underlying sT=some (.slice e)) (hx:P.underlying xT=some xd) (hxd:∀ k,xd≠.int k) (hi:P.info? e=some i) (hn:∀ w,(Builtin.lenOf x).run P w=.ok n w) :
 (Builtin.append_ aT ty BF).run P w=(DR e i.size false n x base sLen sCap (Builtin.firstCells i.size n x)).run P w:=by
 have hz:(match xd with| .int _=>true|_=>false)=false:=by cases xd<;>first|rfl|exact absurd rfl (hxd _)
 simp only [Builtin.append_,h0,h1,h2,h3,Sem.run_bind,run_underlying hu,Result.andThen_ok,run_sizeOf' hi,run_underlying hx,Sem.run_pure]
 cases xd<;>first
  |exact absurd rfl (hxd _)
  |(simp only [Bool.false_eq_true,if_false,hn,Result.andThen_ok,Bool.not_false,if_true,DR,Sem.run_bind];rfl)
  |(simp only [Bool.false_eq_true,if_false,hn,Result.andThen_ok,Bool.not_false,if_true,DR])
theorem wrap_small {n:Int} (h0:0≤n) (h1:n≤2 ^ 40):IntKind.i64.wrap n=n:=by
 have e:n % (2 ^ 64:Int)=n:=Int.emod_eq_of_lt h0 (by omega)
 simp only [IntKind.wrap,IntKind.bits,IntKind.signed,e,Bool.true_and]
 rw [if_neg (by simp;omega)]
theorem TN {aT:Array TypeId} {BF:Array Value} {sT xT e:TypeId} {k kk:IntKind} {i:TypeInfo} {nn:Int} {base:Option Addr} {sLen sCap:Nat} {w:World} (ty:TypeId)
 (h0:aT[0]?=some sT) (h1:BF[0]?=some (.slice base sLen sCap)) (h2:BF[1]?=some (.int kk nn)) (h3:aT[1]?=some xT)
 (hu:P.underlying sT=some (.slice e)) (hx:P.underlying xT=some (.int k)) (hi:P.info? e=some i) (hn0:0≤nn) (hn1:nn≤2 ^ 30) (hroom:(sLen+nn.toNat)*(i.bytes+1)≤room) :
 (Builtin.append_ aT ty BF).run P w=(DR e i.size true nn.toNat (.int kk nn) base sLen sCap
  (if nn.toNat*i.size=0 then pure #[] else do pure (Builtin.zeroCells (← zeroValue e).cells nn.toNat))).run P w:=by
 have hw:IntKind.i64.wrap nn=nn:=wrap_small hn0 (by omega)
 have hneg:¬ nn<0:=by omega
 have hbig:¬ nn*(i.bytes:Int)>2 ^ 48:=by
  have h1:nn.toNat*(i.bytes+1)≤room:=Nat.le_trans (Nat.mul_le_mul_right _ (by omega)) hroom
  have h2:nn.toNat*i.bytes≤nn.toNat*(i.bytes+1):=Nat.mul_le_mul_left _ (by omega)
  have h3:nn*(i.bytes:Int)=((nn.toNat*i.bytes:Nat):Int):=by rw [Int.natCast_mul,Int.toNat_of_nonneg hn0]
  have h4:room=2 ^ 40:=rfl
  rw [h3]
  omega
 simp only [Builtin.append_,h0,h1,h2,h3,Sem.run_bind,run_underlying hu,Result.andThen_ok,run_sizeOf' hi,run_underlying hx,Sem.run_pure,if_true,asInt,asIntOf,hw,hneg,if_false,
  run_typeInfo' hi,hbig,Bool.not_true,Bool.false_eq_true,DR]
 rfl
theorem dV {ι:BN} {m m':Mem} {w:World} {aT:Array TypeId} {BF as':Array Value} {v:Value} (ty:TypeId) (hs:DL P G ι m w) (ha:NS ι m.gen BF as')
 (h:Ip P aT BF m=some (v,m')):∃ v' w',(Builtin.append_ aT ty as').run P w=.ok v' w'∧Post P G ι m w v m' v' w':=by
 unfold Ip at h
 split at h
 ·rename_i sT s x xT q0 q1 q2 q3
  split at h
  ·rename_i e xd sLen hu hx hsl
   split at h
   ·rename_i i hi
    split at h
    ·cases h
    ·rename_i hz
     have hz':Eb i=true:=by simpa using hz
     obtain ⟨s',hs1,hs2⟩:=ha 0 s q1
     obtain ⟨x',hx1,hx2⟩:=ha 1 x q2
     split at h
     ·rename_i k
      split at h
      ·rename_i kk nn z hzc
       split at h
       ·rename_i hc
        simp only [Bool.and_eq_true,decide_eq_true_eq] at hc
        obtain ⟨⟨⟨c1,c2⟩,c3⟩,c4⟩:=hc
        cases hx2
        have hsh:∃ base sCap,s'=.slice base sLen sCap:=by
         cases hs2<;>simp only [lenOf,Option.some.injEq,reduceCtorEq] at hsl
         ·subst hsl;simp [BM] at h
         ·exact ⟨_,_,by rw [hsl]⟩
         ·exact ⟨_,_,by rw [hsl]⟩
         ·exact ⟨_,_,by rw [hsl]⟩
        obtain ⟨base,sCap,rfl⟩:=hsh
        have hzc':∃ zv,i.zero=some zv∧z=zv.cells.toList∧z.all plainCell=true:=by
         unfold Cj zeroOf at hzc
         rw [hi] at hzc
         simp only [Option.bind_some] at hzc
         split at hzc
         ·split at hzc
          ·rename_i zv hzv hall;cases hzc;exact ⟨zv,hzv,rfl,hall⟩
          ·cases hzc
         ·cases hzc
        obtain ⟨zv,z1,z2,z3⟩:=hzc'
        have hap:∀ k,((if nn.toNat*i.size=0 then pure #[] else do pure (Builtin.zeroCells (← zeroValue e).cells nn.toNat):Sem (Array Value))).run P { w with drawn:=k } =
         .ok (AQ z nn.toNat).toArray { w with drawn:=k }:=fun k=>by
         split
         ·rename_i h0
          have:AQ z nn.toNat=[]:=List.length_eq_zero_iff.1 (by rw [En,c4];exact h0)
          rw [this];rfl
         ·rename_i h0
          have b1u:0<z.length:=by
           rw [c4]
           rcases Nat.eq_zero_or_pos i.size with h|h
           ·rw [h] at h0;simp at h0
           ·exact h
          rw [← JD z nn.toNat b1u]
          have hzv:(zeroValue e).run P { w with drawn:=k }=.ok zv { w with drawn:=k }:=by simp [zeroValue,run_typeInfo' hi,z1]
          simp only [Sem.run_bind,hzv,Result.andThen_ok,Sem.run_pure,Builtin.zeroCells]
          subst z2
          rfl
        have:=KO (zeros:=true) (x:=.int kk nn) hs hi hz' hs2 hsl (BI.repeat (ι:=ι) (g:=m.gen) z3 nn.toNat) (by rw [En,c4])
         (by
          rw [List.all_eq_true]
          intro u hu
          have:∀ n,∀ u∈AQ z n,plainCell u=true:=fun n=>by
           induction n with
           |zero=>intro u hu;cases hu
           |succ n ih=>intro u hu;rcases List.mem_append.1 hu with h|h
                       ·exact List.all_eq_true.1 z3 u h
                       ·exact ih u h
          have hp:=this _ u hu
          cases u<;>first|rfl|simp [plainCell] at hp) c3 hap h
        obtain ⟨v',w',hr,hp⟩:=this
        exact ⟨v',w',by rw [TN ty q0 hs1 hx1 q3 hu hx hi c1 c2 c3];exact hr,hp⟩
       ·cases h
      ·cases h
     ·rename_i b2e
      split at h
      ·rename_i n hn
       split at h
       ·rename_i l hl
        split at h
        ·rename_i hc
         simp only [Bool.and_eq_true,decide_eq_true_eq] at hc
         have hsh:∃ base sCap,s'=.slice base sLen sCap:=by
          cases hs2<;>simp only [lenOf,Option.some.injEq,reduceCtorEq] at hsl
          ·subst hsl;simp [BM] at h
          ·exact ⟨_,_,by rw [hsl]⟩
          ·exact ⟨_,_,by rw [hsl]⟩
          ·exact ⟨_,_,by rw [hsl]⟩
         obtain ⟨base,sCap,rfl⟩:=hsh
         obtain ⟨l',hr,hrel⟩:=Eu hs hx2 hl
         have hap:∀ k,(Builtin.firstCells i.size n x').run P { w with drawn:=k }=.ok l'.toArray { w with drawn:=k }:=fun k=>I4 k hr
         obtain ⟨v',w',hr2,hp⟩:=KO (zeros:=false) (x:=x') hs hi hz' hs2 hsl hrel (ES hl) hc.2 hc.1 hap h
         exact ⟨v',w',by rw [LW ty q0 hs1 hx1 q3 hu hx (fun k e=>b2e k e) hi (fun w=>KY hx2 hn w)];exact hr2,hp⟩
        ·cases h
       ·cases h
      ·cases h
   ·cases h
  ·cases h
 ·cases h
end
section
variable {P:Program} {G:List Nat}
theorem wH {ι:BN} {m:Mem} {w:World} {aT:Array TypeId} {BF as':Array Value} {v:Value} (ty:TypeId) (hs:DL P G ι m w) (ha:NS ι m.gen BF as')
 (h:VX P aT BF m=some v):(Builtin.len_ aT ty as').run P w=.ok v w∧AA ι m.gen v v:=by
 unfold VX at h
 split at h
 ·rename_i t x q0 q1
  obtain ⟨x',h1,h2⟩:=ha 0 x q1
  split at h
  ·rename_i s hu
   cases h;cases h2
   exact ⟨by simp [Builtin.len_,q0,h1,run_underlying hu,goInt],.int _ _⟩
  ·rename_i n e x0 hu
   cases h
   exact ⟨by simp [Builtin.len_,q0,h1,run_underlying hu,goInt],.int _ _⟩
  ·rename_i e b n g hu
   cases h
   cases h2<;>exact ⟨by simp [Builtin.len_,q0,h1,run_underlying hu,goInt],.int _ _⟩
  ·rename_i k e hu
   cases h;cases h2
   exact ⟨by simp [Builtin.len_,q0,h1,run_underlying hu,goInt],.int _ _⟩
  ·rename_i k e r hu
   split at h
   ·rename_i es c hg
    cases h
    cases h2 with
    |map _ c' ib hb hc =>
     obtain ⟨es',h3,h4⟩:=Yh hs hb hg
     have hlen:∀ {es es':List MapEntry},Dy ι m.gen es es'→es.length=es'.length:=fun {es es'}=>by
      induction es generalizing es' with
      |nil=>intro h;cases es'<;>first|rfl|exact h.elim
      |cons e es ih=>intro h;cases es' with
                     |nil=>exact h.elim
                     |cons e' es'=>simp [ih h.2]
     have hl:=hlen h4
     have hgen:m.gen r=0:=by unfold Mem.gen;rw [hg];rfl
     have:=hc hgen
     subst this
     refine ⟨?_,.int _ _⟩
     simp only [Builtin.len_,q0,h1,Sem.run_bind,run_underlying hu,Result.andThen_ok,getObj,Sem.run,h3,goInt]
     rw [hl];rfl
   ·cases h
  ·cases h
 ·cases h
theorem wK {ι:BN} {g:Nat→Nat} {m:Mem} {aT:Array TypeId} {BF as':Array Value} {v:Value} (ty:TypeId) (hq:OE P aT=true) (ha:NS ι g BF as')
 (h:VX P aT BF m=some v):(∀ w,(Builtin.len_ aT ty as').run P w=.ok v w)∧AA ι g v v:=by
 unfold OE at hq
 unfold VX at h
 split at h
 ·rename_i t x q0 q1
  rw [q0] at hq
  simp only at hq
  obtain ⟨x',h1,h2⟩:=ha 0 x q1
  split at h
  ·rename_i s hu
   cases h;cases h2
   exact ⟨fun w=>by simp [Builtin.len_,q0,h1,run_underlying hu,goInt],.int _ _⟩
  ·rename_i n e x0 hu
   cases h
   exact ⟨fun w=>by simp [Builtin.len_,q0,h1,run_underlying hu,goInt],.int _ _⟩
  ·rename_i e b n g' hu
   cases h
   cases h2<;>exact ⟨fun w=>by simp [Builtin.len_,q0,h1,run_underlying hu,goInt],.int _ _⟩
  ·rename_i k e hu
   rw [hu] at hq;cases hq
  ·rename_i k e r hu
   rw [hu] at hq;cases hq
  ·cases h
 ·cases h
theorem uK {ι:BN} {m:Mem} {w:World} {aT:Array TypeId} {BF as':Array Value} {v:Value} (ty:TypeId) (ha:NS ι m.gen BF as')
 (h:a0t P aT BF=some v):(Builtin.cap_ aT ty as').run P w=.ok v w∧AA ι m.gen v v:=by
 unfold a0t at h
 split at h
 ·rename_i t q0
  split at h
  ·rename_i e hu
   split at h
   ·rename_i q
    obtain ⟨x',h1,h2⟩:=ha 0 _ q
    cases h;cases h2
    exact ⟨by simp [Builtin.cap_,q0,h1,run_underlying hu,goInt],.int _ _⟩
   ·rename_i b o s q
    obtain ⟨x',h1,h2⟩:=ha 0 _ q
    cases h;cases h2
    exact ⟨by simp [Builtin.cap_,q0,h1,run_underlying hu,goInt],.int _ _⟩
   ·cases h
  ·cases h
 ·cases h
theorem VL {ι:BN} {g:Nat→Nat} {s s':Value} {sLen:Nat} (hv:AA ι g s s') (h:lenOf s=some sLen) (size:Nat) (w:World) :
 (Builtin.firstCells size 0 s').run P w=.ok #[] w:=by
 cases hv<;>simp only [lenOf,reduceCtorEq] at h
 ·simp only [Builtin.firstCells,Sem.run_pure]
  congr 1
  apply Array.ext'
  rw [Array.toList_map,Lib.extract_data]
  simp
 ·rfl
 ·simp only [Builtin.firstCells,Nat.zero_mul,loadCells,loadCellsFrom];rfl
 ·simp only [Builtin.firstCells,Nat.zero_mul,loadCells,loadCellsFrom];rfl
theorem IQ {ι:BN} {g:Nat→Nat} {b off len gen:Nat} {a':Addr} {cap:Nat} (h:a2v ι g b off len gen a' cap) (hlen:gen=g b→0<len) (n:Nat) :
 NV ι g ⟨b,off+n,some gen⟩ (a'.add n):=by
 obtain ⟨ib,hb,hle,h3,hcur⟩:=h
 refine ⟨ib,hb,by simpa [LZ] using hle,fun e=>?_⟩
 have e':gen=g b:=by simpa [LZ] using e
 obtain ⟨h1,h2,h4⟩:=hcur e'
 have h5:a'.off=off+ib.sh:=by
  rcases h4 with h|h
  ·have:=hlen e';omega
  ·exact h.1
 have ha':a'=⟨ib.blk,off+ib.sh,none⟩:=by
  obtain ⟨x,y,z⟩:=a'
  simp at h1 h2 h5
  simp [h1,h2,h5]
 rw [ha',addr_add]
 simp only [Addr.mk.injEq,true_and,and_true]
 omega
theorem mZ {ι:BN} {m m':Mem} {w:World} {aT:Array TypeId} {BF as':Array Value} {v:Value} (ty:TypeId) (hs:DL P G ι m w) (ha:NS ι m.gen BF as')
 (h:kW P aT BF m=some (v,m')):∃ v' w',(Builtin.copy_ aT ty as').run P w=.ok v' w'∧Post P G ι m w v m' v' w':=by
 unfold kW at h
 split at h
 ·rename_i dT base dLen g src q0 q1 q2
  obtain ⟨d',h1,h2⟩:=ha 0 _ q1
  obtain ⟨s',h3,h4⟩:=ha 1 _ q2
  split at h
  ·rename_i e sLen hu hsl
   split at h
   ·rename_i i hi
    have hd:∃ base' cap',d'=.slice base' dLen cap':=by cases h2<;>exact ⟨_,_,rfl⟩
    obtain ⟨base',cap',rfl⟩:=hd
    simp only at h
    split at h
    ·rename_i hn
     cases h
     refine ⟨.int .i64 0,w,?_,Post.same hs (.int _ _)⟩
     simp only [Builtin.copy_,q0,h1,h3,Sem.run_bind,run_underlying hu,Result.andThen_ok,KY h4 hsl w,run_sizeOf' hi,hn,VL h4 hsl]
     cases base'<;>rfl
    ·rename_i hn
     split at h
     ·rename_i b off l hl
      rw [Option.map_eq_some_iff] at h
      obtain ⟨m1,hm1,he⟩:=h
      cases he
      cases h2 with
      |sl _ _ _ _ a' _ hsr =>
       obtain ⟨l',hr,hrel⟩:=Eu hs h4 hl
       have hpos:0<dLen:=by
        rcases Nat.eq_zero_or_pos dLen with h|h
        ·subst h;exact absurd (Nat.min_zero sLen) hn
        ·exact h
       have har:=IQ hsr (fun _=>hpos) 0
       rw [Addr.add_zero'] at har
       obtain ⟨w',ι',hrun,hext,Dp⟩:=Kw hs har hrel hm1
       refine ⟨_,w',?_,ι',hext,Dp,.int _ _⟩
       simp only [Builtin.copy_,q0,h1,h3,Sem.run_bind,run_underlying hu,Result.andThen_ok,KY h4 hsl w,run_sizeOf' hi,hr,hrun,Sem.run_pure,goInt]
     ·cases h
   ·cases h
  ·cases h
 ·cases h
def VU (ι:BN) (g:Nat→Nat) (o o':Option Value):Prop:=(o=none∧o'=none)∨∃ v v',o=some v∧o'=some v'∧AA ι g v v'
theorem Gm {ι:BN} {g:Nat→Nat} {d n:Nat} {o o':Option Value} (ho:VU ι g o o') (h:bnd d o=some n):o'=o:=by
 rcases ho with ⟨rfl,rfl⟩|⟨v,v',rfl,rfl,hv⟩
 ·rfl
 ·unfold bnd at h
  split at h
  ·rename_i e;cases e
  ·rename_i e;cases e;cases hv;rfl
  ·cases h
theorem Gu {d n y:Nat} {v:Value} {c:BoundsCode} {w:World} (h:bnd d (some v)=some n) (hy:n≤y):(Instr.sliceBound v y c).run P w=.ok n w:=by
 unfold bnd at h
 split at h
 ·rename_i e;cases e
 ·rename_i k i e
  cases e
  split at h
  ·rename_i hi
   cases h
   have h2:i≤(y:Int):=by omega
   simp [Instr.sliceBound,asIntOf,hi,h2]
  ·cases h
 ·cases h
theorem Q7 {lo hi:Option Value} {len cap l h:Nat} {w:World} (hl:bnd 0 lo=some l) (hh:bnd len hi=some h) (h1:l≤h) (h2:h≤cap) :
 (Instr.sliceBounds true len cap lo hi none).run P w=.ok (l,h,cap) w:=by
 unfold Instr.sliceBounds
 cases hi with
 |none =>
  cases hh
  cases lo with
  |none=>cases hl;simp
  |some v=>simp [Gu hl h1]
 |some u =>
  cases lo with
  |none=>cases hl;simp [Gu hh h2]
  |some v=>simp [Gu hh h2,Gu hl h1]
theorem L9 {lo:Option Value} {u x:Value} {len cap l h k d d':Nat} {w:World} (hl:bnd 0 lo=some l) (hh:bnd d (some u)=some h) (hk:bnd d' (some x)=some k) (h1:l≤h) (h2:h≤k) (h3:k≤cap) :
 (Instr.sliceBounds true len cap lo (some u) (some x)).run P w=.ok (l,h,k) w:=by
 unfold Instr.sliceBounds
 cases lo with
 |none=>cases hl;simp [Gu hh h2,Gu hk h3]
 |some v=>simp [Gu hh h2,Gu hk h3,Gu hl h1]
theorem Jd {t e:TypeId} {x:Value} {lo hi mx:Option Value} {w:World} (hu:P.underlying t=some (.slice e)) :
 (Instr.sliceAt t x lo hi mx).run P w=(Instr.slice t x lo hi mx).run P w:=by
 simp [Instr.sliceAt,run_underlying hu]
theorem Fa {s:Sem Value} {v:Value} (h:VR P s=some v):DJ P s=some v∧plain v=true:=by
 unfold VR at h
 split at h
 ·split at h
  ·cases h;exact ⟨by assumption,by assumption⟩
  ·cases h
 ·cases h
theorem Vq {ι:BN} {m:Mem} {w:World} {t:TypeId} {x x':Value} {lo lo' hi hi' mx mx':Option Value} {v:Value} (hs:DL P G ι m w) (hx:AA ι m.gen x x')
 (hlo:VU ι m.gen lo lo') (hhi:VU ι m.gen hi hi') (hmx:VU ι m.gen mx mx') (h:aslice P t x lo hi mx m=some v) :
 ∃ v',(Instr.sliceAt t x' lo' hi' mx').run P w=.ok v' w∧AA ι m.gen v v':=by
 unfold aslice at h
 split at h
 ·cases h
 rename_i hform
 split at h
 ·
  rename_i s hu
  split at h
  ·rename_i hp
   simp only [Bool.and_eq_true] at hp
   obtain ⟨⟨p1,p2⟩,p3⟩:=hp
   have eq:∀ {o o':Option Value},VU ι m.gen o o'→(Option.all plain o=true)→o'=o:=fun {o o'} ho hp=>by
    rcases ho with ⟨rfl,rfl⟩|⟨v,v',rfl,rfl,hv⟩
    ·rfl
    ·rw [hv.Cc (by simpa using hp)]
   have e3:mx'=mx:=by
    rcases hmx with ⟨rfl,rfl⟩|⟨v,v',rfl,rfl,hv⟩
    ·rfl
    ·simp at p3
   rw [eq hlo p1,eq hhi p2,e3]
   cases hx
   obtain ⟨h1,h2⟩:=Fa h
   exact ⟨v,DZ h1 w,AA.plain h2⟩
  ·cases h
 ·
  rename_i e hu
  split at h
  ·rename_i i hi0 b1 b2 b3
   cases h
   cases hx
   rw [Gm hlo b1,Gm hhi b2,Gm hmx b3,Jd hu]
   refine ⟨.slice none 0 0,?_,.Hy⟩
   cases mx with
   |none =>
    simp only [Instr.slice,Sem.run_bind,run_underlying hu,Result.andThen_ok,Q7 b1 b2 (Nat.le_refl _) (Nat.le_refl _),run_sizeOf' hi0]
    rfl
   |some k=>cases hi with
    |none=>simp at hform
    |some u =>
     simp only [Instr.slice,Sem.run_bind,run_underlying hu,Result.andThen_ok,L9 (cap:=0) (len:=0) b1 b2 b3 (Nat.le_refl _) (Nat.le_refl _) (Nat.le_refl _),run_sizeOf' hi0]
     rfl
  ·cases h
 ·
  rename_i e b off g' hu
  split at h
  ·rename_i i hi0 b1 b2 b3
   cases h
   cases hx with
   |mM _ _ _ a' =>
    rw [Gm hlo b1,Gm hhi b2,Gm hmx b3,Jd hu]
    refine ⟨.slice (some a') 0 0,?_,.mM _ _ _ _⟩
    cases mx with
    |none =>
     simp only [Instr.slice,Sem.run_bind,run_underlying hu,Result.andThen_ok,Q7 b1 b2 (Nat.le_refl _) (Nat.le_refl _),run_sizeOf' hi0]
     rfl
    |some k=>cases hi with
     |none=>simp at hform
     |some u =>
      simp only [Instr.slice,Sem.run_bind,run_underlying hu,Result.andThen_ok,L9 (cap:=0) (len:=0) b1 b2 b3 (Nat.le_refl _) (Nat.le_refl _) (Nat.le_refl _),run_sizeOf' hi0]
      rfl
  ·cases h
 ·
  rename_i e b off len g hu
  cases hx with
  |sl _ _ _ _ a' cap hsr =>
   split at h
   ·
    rename_i i l hh hi0 b1 b2
    have b3:mx'=none:=by
     rcases hmx with ⟨_,rfl⟩|⟨v,v',h,_,_⟩
     ·rfl
     ·cases h
    split at h
    ·rename_i vs e' g2 ro hg
     split at h
     ·rename_i hc
      obtain ⟨⟨c1,c2,rfl⟩,_⟩:=hc
      cases h
      obtain ⟨ib,hb,hle,q3,hcur⟩:=hsr
      rw [Gm hlo b1,Gm hhi b2,b3,Jd hu]
      refine ⟨.slice (some (if cap=l then a' else a'.add (l*i.size))) (hh-l) (cap-l),?_,.sl _ _ _ _ _ _ ⟨ib,hb,hle,by omega,fun hcg=>?_⟩⟩
      ·simp only [Instr.slice,Sem.run_bind,run_underlying hu,Result.andThen_ok,Q7 b1 b2 c1 (by omega:hh≤cap),run_sizeOf' hi0,Sem.run_pure]
       congr 2
       split<;>rfl
      ·obtain ⟨q1,q2,q4⟩:=hcur hcg
       obtain ⟨cs,fr,e0,hrow,hlim,QL,_,_⟩:=GV hs hb hg
       have hesz':ib.pF=i.size:=by rw [QL,Em hi0]
       by_cases hcl:cap=l
       ·rw [if_pos hcl]
        exact ⟨q1,q2,.inl (by omega)⟩
       ·rw [if_neg hcl]
        have hcap:cap≠0:=by omega
        obtain ⟨q5,q6⟩:a'.off=off+ib.sh∧a'.off+cap*ib.pF≤ib.lim:=by
         rcases q4 with h|h
         ·exact absurd h hcap
         ·exact h
        have ha':a'=⟨ib.blk,off+ib.sh,none⟩:=by
         obtain ⟨x,y,z⟩:=a'
         simp at q1 q2 q5
         simp [q1,q2,q5]
        have hmul:l*ib.pF+(cap-l)*ib.pF=cap*ib.pF:=by rw [← Nat.add_mul];congr 1;omega
        rw [ha',addr_add]
        rw [q5] at q6
        refine ⟨rfl,rfl,.inr ⟨by simp only;omega,?_⟩⟩
        simp only
        rw [← hesz']
        omega
     ·cases h
    ·cases h
   ·
    rename_i i l hh k0 hi0 b1 b2
    split at h
    ·rename_i k b3
     split at h
     ·rename_i hc
      obtain ⟨rfl,rfl,c3⟩:=hc
      cases h
      obtain ⟨ib,hb,hle,q3,hcur⟩:=hsr
      cases hi with
      |none=>simp at hform
      |some u =>
       rw [Gm hlo b1,Gm hhi b2,Gm hmx b3,Jd hu]
       refine ⟨.slice (some a') 0 0,?_,.mM _ _ _ _⟩
       simp only [Instr.slice,Sem.run_bind,run_underlying hu,Result.andThen_ok,L9 (len:=len) b1 b2 b3 (Nat.le_refl _) (Nat.le_refl _) (by omega:l≤cap),run_sizeOf' hi0,Sem.run_pure,if_true,Nat.sub_self]
     ·cases h
    ·cases h
   ·cases h
 ·cases h
end
section
variable {P:Program} {G:List Nat}
theorem dry_bind' {α β:Type} (x:Sem α) (f:α→Sem β):DJ P (x.bind f)=(DJ P x).bind fun a=>DJ P (f a):=by
 induction x<;>simp_all [Sem.bind,DJ]
theorem Ar {α β:Type} (x:Sem α) (f:α→Sem β):DJ P (x >>= f)=(DJ P x).bind fun a=>DJ P (f a):=dry_bind' x f
theorem Bg (t:TypeId):DJ P (underlying t)=P.underlying t:=by
 simp only [underlying,Ar,program,DJ,Option.bind_some]
 cases P.underlying t<;>rfl
theorem bytes_eq {a b:ByteArray} (h:(a==b)=true):a=b:=by
 obtain ⟨x⟩:=a
 obtain ⟨y⟩:=b
 have e:x=y:=by simpa using (show (x==y)=true from h)
 rw [e]
theorem BP {e:TypeId} {z:List Value} (h:Cj P e=some z):∃ i zv,P.info? e=some i∧i.zero=some zv∧z=zv.cells.toList∧z.all plainCell=true:=by
 unfold Cj zeroOf at h
 split at h
 ·rename_i zv hz
  rw [Option.bind_eq_some_iff] at hz
  obtain ⟨i,hi,hz⟩:=hz
  split at h
  ·cases h;exact ⟨i,zv,hi,hz,rfl,by assumption⟩
  ·cases h
 ·cases h
theorem LQ {e:TypeId} {i:TypeInfo} {zv:Value} (hi:P.info? e=some i) (hz:i.zero=some zv) (w:World):(zeroValue e).run P w=.ok zv w:=by
 simp [zeroValue,run_typeInfo' hi,hz]
theorem lG {ι:BN} {m m':Mem} {w:World} {aT:Array TypeId} {BF as':Array Value} {v:Value} (ty:TypeId) (hs:DL P G ι m w) (ha:NS ι m.gen BF as')
 (h:Uw P aT BF m=some (v,m')):∃ v' w',(Builtin.clear_ aT ty as').run P w=.ok v' w'∧Post P G ι m w v m' v' w':=by
 unfold Uw at h
 split at h
 case h_2=>cases h
 rename_i t base n g q0 q1
 obtain ⟨s',h1,h2⟩:=ha 0 _ q1
 split at h
 case h_2=>cases h
 rename_i e hu
 have hd:∃ base' cap',s'=.slice base' n cap':=by cases h2<;>exact ⟨_,_,rfl⟩
 obtain ⟨base',cap',rfl⟩:=hd
 have b6d:AA ι m.gen (.tuple #[]) (.tuple #[]):=AA.plain rfl
 split at h
 ·rename_i hn
  subst hn
  cases h
  refine ⟨.tuple #[],w,?_,Post.same hs b6d⟩
  simp only [Builtin.clear_,q0,h1,Sem.run_bind,run_underlying hu,Result.andThen_ok]
  cases base'<;>rfl
 ·rename_i hn
  split at h
  case h_2=>cases h
  rename_i i z b off hi hz
  split at h
  case isFalse=>cases h
  rename_i hzl
  rw [Option.map_eq_some_iff] at h
  obtain ⟨m1,hm1,he⟩:=h
  cases he
  obtain ⟨i2,zv,c1,c2,c3,c4⟩:=BP hz
  rw [hi] at c1
  cases c1
  cases h2 with
  |sl _ _ _ _ a' _ hsr =>
   have har:=IQ hsr (fun _=>by omega) 0
   rw [Addr.add_zero'] at har
   have hrel:BI ι m.gen (AQ z n) (AQ z n):=BI.repeat c4 n
   obtain ⟨w',ι',hrun,hext,Dp⟩:=Kw hs har hrel hm1
   refine ⟨_,w',?_,ι',hext,Dp,AA.plain rfl⟩
   have hrep:(Builtin.zeroCells zv.cells n).toList=AQ z n:=by
    have:=JD z n (by omega)
    unfold Builtin.zeroCells
    have e2:zv.cells=z.toArray:=by rw [c3]
    rw [e2]
    simp only [List.size_toArray] at this ⊢
    rw [this]
   have hk:∃ n',n=n'+1:=⟨n-1,by omega⟩
   obtain ⟨n',rfl⟩:=hk
   simp only [Builtin.clear_,q0,h1,Sem.run_bind,run_underlying hu,Result.andThen_ok,LQ hi c2,hrep,hrun,Sem.run_pure]
theorem UN {ι:BN} {g:Nat→Nat} (kind:TypeDesc) (k:Value):∀ {es es':List MapEntry} (n:Nat) {r:Option (Nat×Value)},Dy ι g es es'→Instr.findNow kind k es n=some r →
 (r=none∧Instr.findNow kind k es' n=some none)∨∃ i v v',r=some (i,v)∧Instr.findNow kind k es' n=some (some (i,v'))∧AA ι g v v'∧n≤i ∧
  ∃ e e',es[i-n]?=some e∧es'[i-n]?=some e'∧Instr.sameNow kind k e.key=some true∧dY ι g e e'
 |[],[],n,r,_,hf=>by
  simp only [Instr.findNow,Option.some.injEq] at hf
  exact .inl ⟨hf.symm,rfl⟩
 |e::es,e'::es',n,r,⟨he,hes⟩,hf=>by
  simp only [Instr.findNow] at hf ⊢
  rw [he.1]
  cases hsn:Instr.sameNow kind k e.key with
  |none=>rw [hsn] at hf;cases hf
  |some b =>
   rw [hsn] at hf
   cases b with
   |true =>
    simp only [Option.some.injEq] at hf
    subst hf
    refine .inr ⟨n,e.val,e'.val,rfl,rfl,he.2.2.2,Nat.le_refl _,e,e',?_,?_,hsn,he⟩
    ·simp
    ·simp
   |false =>
    rcases UN kind k (n+1) hes hf with ⟨h1,h2⟩|⟨i,v,v',h1,h2,h3,h4,f,f',h5,h6,h7⟩
    ·exact .inl ⟨h1,h2⟩
    ·refine .inr ⟨i,v,v',h1,h2,h3,by omega,f,f',?_,?_,h7⟩
     ·have:i-n=(i-(n+1))+1:=by omega
      rw [this];exact h5
     ·have:i-n=(i-(n+1))+1:=by omega
      rw [this];exact h6
 |[],_::_,_,_,h,_=>h.elim
 |_::_,[],_,_,h,_=>h.elim
theorem Md {kt:TypeId} {kind:TypeDesc} (h:Ec P kt=some kind):P.underlying kt=some kind∧((∃ k,kind=.int k)∨kind=.string∨kind=.bool):=by
 unfold Ec at h
 split at h<;>first
  |(rename_i k hu;cases h;exact ⟨hu,.inl ⟨_,rfl⟩⟩)
  |(rename_i hu;cases h;exact ⟨hu,.inr (.inl rfl)⟩)
  |(rename_i hu;cases h;exact ⟨hu,.inr (.inr rfl)⟩)
  |cases h
theorem run_checkKey {kt:TypeId} {kind:TypeDesc} (h:Ec P kt=some kind) (empty:Bool) (k:Value) (w:World):(Instr.checkKey empty 10000 kt k).run P w=.ok () w:=by
 obtain ⟨hu,hk⟩:=Md h
 show (Instr.checkKey empty (9999+1) kt k).run P w=_
 unfold Instr.checkKey
 simp only [Sem.run_bind,run_underlying hu,Result.andThen_ok]
 rcases hk with ⟨k',rfl⟩|rfl|rfl<;>rfl
theorem run_findKey {kt:TypeId} {kind:TypeDesc} (h:Ec P kt=some kind) {k:Value} {es:List MapEntry} {r:Option (Nat×Value)} (hf:Instr.findNow kind k es 0=some r) (w:World) :
 (Instr.findKey kt k es).run P w=.ok r w:=by
 obtain ⟨hu,_⟩:=Md h
 simp [Instr.findKey,run_underlying hu,hf]
theorem Dy.empty {ι:BN} {g:Nat→Nat}:∀ {es es':List MapEntry},Dy ι g es es'→es'.isEmpty=es.isEmpty
 |[],[],_=>rfl
 |_::_,_::_,_=>rfl
 |[],_::_,h=>h.elim
 |_::_,[],h=>h.elim
theorem X8 {ι:BN} {g:Nat→Nat} (kt:TypeId) (k:Value):∀ {es es':List MapEntry} (n:Nat) {r:Option (Nat×Value)},Dy ι g es es'→DJ P (Instr.findAsking kt k es n)=some r →
 (r=none∧DJ P (Instr.findAsking kt k es' n)=some none)∨∃ i v v',r=some (i,v)∧DJ P (Instr.findAsking kt k es' n)=some (some (i,v'))∧AA ι g v v'∧n≤i ∧
  ∃ e e',es[i-n]?=some e∧es'[i-n]?=some e'∧dY ι g e e'
 |[],[],n,r,_,hf=>by
  cases hf
  exact .inl ⟨rfl,rfl⟩
 |e::es,e'::es',n,r,⟨he,hes⟩,hf=>by
  simp only [Instr.findAsking,Ar] at hf ⊢
  rw [he.1]
  rw [Option.bind_eq_some_iff] at hf
  obtain ⟨b,hb,hf⟩:=hf
  rw [hb]
  simp only [Option.bind_some]
  cases b with
  |true =>
   cases hf
   exact .inr ⟨n,e.val,e'.val,rfl,rfl,he.2.2.2,Nat.le_refl _,e,e',by simp,by simp,he⟩
  |false =>
   have hf:DJ P (Instr.findAsking kt k es (n+1))=some r:=hf
   rcases X8 kt k (n+1) hes hf with ⟨h1,h2⟩|⟨i,v,v',h1,h2,h3,h4,f,f',h5,h6,h7⟩
   ·exact .inl ⟨h1,h2⟩
   ·refine .inr ⟨i,v,v',h1,h2,h3,by omega,f,f',?_,?_,h7⟩
    ·have:i-n=(i-(n+1))+1:=by omega
     rw [this];exact h5
    ·have:i-n=(i-(n+1))+1:=by omega
     rw [this];exact h6
 |[],_::_,_,_,h,_=>h.elim
 |_::_,[],_,_,h,_=>h.elim
theorem wB {s:Sem Unit} (h:Vg P s=true) (w:World):s.run P w=.ok () w:=by
 unfold Vg at h
 split at h
 ·rename_i h2;exact DZ h2 w
 ·cases h
theorem Y2 {kt:TypeId} (h:QY P kt=true):∃ d,P.underlying kt=some d∧∀ k x,Instr.sameNow d k x=none:=by
 unfold QY at h
 split at h
 ·rename_i fs hu;exact ⟨_,hu,fun k x=>by cases k<;>rfl⟩
 ·rename_i n e hu;exact ⟨_,hu,fun k x=>by cases k<;>rfl⟩
 ·cases h
theorem OM {ι:BN} {g:Nat→Nat} {fl:Bool} {kt:TypeId} {k:Value} {es es':List MapEntry} {r:Option (Nat×Value)} (her:Dy ι g es es') (hf:Hu P fl kt k es=some r) :
 (∀ w,(Instr.checkKey fl 10000 kt k).run P w=.ok () w) ∧
 ((r=none∧∀ w,(Instr.findKey kt k es').run P w=.ok none w)∨∃ i v v',r=some (i,v)∧(∀ w,(Instr.findKey kt k es').run P w=.ok (some (i,v')) w)∧AA ι g v v' ∧
  ∃ e e',es[i]?=some e∧es'[i]?=some e'∧dY ι g e e'∧((Ec P kt).isSome→∃ kind,Ec P kt=some kind∧Instr.sameNow kind k e.key=some true)):=by
 unfold Hu at hf
 split at hf
 ·rename_i kind hkk
  refine ⟨run_checkKey hkk fl k,?_⟩
  rcases UN kind k 0 her hf with ⟨rfl,h2⟩|⟨i,u,u',rfl,h2,h3,_,e,e',h5,h6,h7,h8⟩
  ·exact .inl ⟨rfl,run_findKey hkk h2⟩
  ·exact .inr ⟨i,u,u',rfl,run_findKey hkk h2,h3,e,e',h5,h6,h8,fun _=>⟨kind,hkk,h7⟩⟩
 ·rename_i hkk
  split at hf
  ·rename_i hc
   simp only [Bool.and_eq_true] at hc
   obtain ⟨d,hu,hd⟩:=Y2 hc.1
   refine ⟨wB hc.2,?_⟩
   have e0:∀ l,DJ P (Instr.findKey kt k l)=DJ P (Instr.findAsking kt k l):=fun l=>by
    have hu':DJ P (underlying kt)=some d:=by rw [Bg];exact hu
    simp only [Instr.findKey,Ar,hu',Option.bind_some]
    cases l with
    |nil=>rfl
    |cons x l=>simp only [Instr.findNow,hd]
   rw [e0] at hf
   rcases X8 kt k 0 her hf with ⟨rfl,h2⟩|⟨i,u,u',rfl,h2,h3,_,e,e',h5,h6,h8⟩
   ·rw [← e0] at h2
    exact .inl ⟨rfl,DZ h2⟩
   ·rw [← e0] at h2
    exact .inr ⟨i,u,u',rfl,DZ h2,h3,e,e',h5,h6,h8,fun hs=>by rw [hkk] at hs;cases hs⟩
  ·cases hf
theorem eU {ι:BN} {m:Mem} {w:World} {t:TypeId} {x x' k k':Value} {ok:Bool} {v:Value} (hs:DL P G ι m w) (hx:AA ι m.gen x x') (hk:AA ι m.gen k k')
 (h:KR P t x k ok m=some v):∃ v',(Instr.lookup t x' k' ok).run P w=.ok v' w∧AA ι m.gen v v':=by
 have a6w:∀ {a a':Value} (b:Bool),AA ι m.gen a a'→AA ι m.gen (.tuple #[a,.bool b]) (.tuple #[a',.bool b]):=fun b h=>by
  have:=BI.cons h (BI.cons (.bool b) BI.nil)
  exact .tuple _ _ this.1 this.2
 unfold KR at h
 split at h
 ·rename_i kt et hu
  split at h
  ·rename_i z hz
   split at h
   ·rename_i hp
    simp only [Bool.and_eq_true] at hp
    rw [hk.Cc hp.2]
    have hzr:∀ w,(zeroValue et).run P w=.ok z w:=fun w=>by
     unfold zeroOf at hz
     rw [Option.bind_eq_some_iff] at hz
     obtain ⟨i,hi,hz⟩:=hz
     exact LQ hi hz w
    have main:∀ (es:List MapEntry) (es':Array MapEntry),Dy ι m.gen es es'.toList →
     (match Hu P es.isEmpty kt k es with
      |some (some (_,v))=>some (if ok then .tuple #[v,.bool true] else v)
      |some none=>some (if ok then .tuple #[z,.bool false] else z)
      |none=>none)=some v →
     (∀ r,(Instr.findKey kt k es'.toList).run P w=.ok r w→(Instr.checkKey es'.isEmpty 10000 kt k).run P w=.ok () w→(Instr.lookup t x' k ok).run P w =
      .ok (match r with|some (_,v)=>(if ok then .tuple #[v,.bool true] else v)|none=>(if ok then .tuple #[z,.bool false] else z)) w) →
     ∃ v',(Instr.lookup t x' k ok).run P w=.ok v' w∧AA ι m.gen v v':=fun es es' her hf hrun=>by
     cases hfn:Hu P es.isEmpty kt k es with
     |none=>rw [hfn] at hf;cases hf
     |some r =>
      rw [hfn] at hf
      obtain ⟨hck,hfs⟩:=OM her hfn
      have hemp:es'.isEmpty=es.isEmpty:=by rw [← her.empty];cases es' with|mk l=>cases l<;>rfl
      rw [← hemp] at hck
      rcases hfs with ⟨rfl,h2⟩|⟨i,u,u',rfl,h2,h3,_⟩
      ·simp only [Option.some.injEq] at hf
       subst hf
       refine ⟨if ok then .tuple #[z,.bool false] else z,?_,?_⟩
       ·exact hrun _ (h2 w) (hck w)
       ·cases ok
        ·exact AA.plain hp.1
        ·exact a6w false (AA.plain hp.1)
      ·simp only [Option.some.injEq] at hf
       subst hf
       refine ⟨if ok then .tuple #[u',.bool true] else u',?_,?_⟩
       ·exact hrun _ (h2 w) (hck w)
       ·cases ok
        ·exact h3
        ·exact a6w true h3
    split at h
    ·rename_i es hes
     split at hes
     ·cases hes;cases hx
      exact main [] #[] trivial h fun r hr hck=>by
       simp only [Instr.lookup,Sem.run_bind,run_underlying hu,Result.andThen_ok,hck,hr,Sem.run_pure]
       cases r<;>simp [hzr]
     ·rename_i r
      cases hx with
      |map _ c ib hb hc =>
       split at hes
       ·rename_i es2 c2 hg
        cases hes
        obtain ⟨es',h1,h2⟩:=Yh hs hb hg
        have:=hc (by unfold Mem.gen;rw [hg];rfl)
        subst this
        exact main es es' h2 h fun r hr hck=>by
         simp only [Instr.lookup,Sem.run_bind,run_underlying hu,Result.andThen_ok,hck,hr,Sem.run_pure,getObj,Sem.run,h1]
         cases r<;>simp [hzr]
       ·cases hes
     ·cases hes
    ·cases h
   ·cases h
  ·cases h
 ·cases h
theorem Dy.modify {ι:BN} {g:Nat→Nat} {f f':MapEntry→MapEntry} (hf:∀ e e',dY ι g e e'→dY ι g (f e) (f' e')) :
 ∀ {es es':List MapEntry} (i:Nat),Dy ι g es es'→Dy ι g (es.modify i f) (es'.modify i f')
 |[],[],i,_=>by cases i<;>trivial
 |e::es,e'::es',0,⟨h,k⟩=>⟨hf _ _ h,k⟩
 |e::es,e'::es',i+1,⟨h,k⟩=>⟨h,Dy.modify hf i k⟩
 |[],_::_,_,h=>h.elim
 |_::_,[],_,h=>h.elim
theorem Dy.push {ι:BN} {g:Nat→Nat} {e e':MapEntry} (he:dY ι g e e'):∀ {es es':List MapEntry},Dy ι g es es'→Dy ι g (es++[e]) (es'++[e'])
 |[],[],_=>⟨he,trivial⟩
 |_::_,_::_,⟨h,k⟩=>⟨h,Dy.push he k⟩
 |[],_::_,h=>h.elim
 |_::_,[],h=>h.elim
theorem Jz {kt:TypeId} {kind:TypeDesc} (hk:Ec P kt=some kind) {k old:Value} (h:Instr.sameNow kind k old=some true):Instr.sameBits 10000 old k=true:=by
 obtain ⟨_,hkk⟩:=Md hk
 rcases hkk with ⟨k',rfl⟩|rfl|rfl
 ·cases k<;>cases old<;>simp only [Instr.sameNow,reduceCtorEq] at h
  split at h
  ·rename_i e;subst e
   simp only [Option.some.injEq,beq_iff_eq] at h
   subst h
   simp [Instr.sameBits]
  ·cases h
 ·cases k<;>cases old<;>simp only [Instr.sameNow,reduceCtorEq,Option.some.injEq] at h
  have:=bytes_eq h
  subst this
  simpa [Instr.sameBits] using h
 ·cases k<;>cases old<;>simp only [Instr.sameNow,reduceCtorEq,Option.some.injEq,beq_iff_eq] at h
  subst h
  simp [Instr.sameBits]
theorem Sv {ι:BN} {m m':Mem} {w:World} {t:TypeId} {x x' k k' v v':Value} (hs:DL P G ι m w) (hx:AA ι m.gen x x') (hk:AA ι m.gen k k') (hv:AA ι m.gen v v')
 (h:Ia P t x k v m=some m'):∃ w' ι',(Instr.mapUpdate t x' k' v').run P w=.ok () w'∧Ext ι m w ι' m' w'∧DL P G ι' m' w':=by
 unfold Ia at h
 split at h
 ·rename_i kt et r hu
  split at h
  ·rename_i es clock hg
   split at h
   ·rename_i hp
    rw [hk.Cc hp]
    cases hx with
    |map _ c ib hb hc =>
     obtain ⟨es',h1,h2⟩:=Yh hs hb hg
     have:=hc (by unfold Mem.gen;rw [hg];rfl)
     subst this
     have hlt:=(hs.dom r ib hb).2
     have hro:m.ro r=false:=by unfold Mem.ro;rw [hg];rfl
     have hgen:m.gen r=0:=by unfold Mem.gen;rw [hg];rfl
     have put:∀ (es2:List MapEntry) (es2':Array MapEntry) (c2:Nat),(∀ ι' g',Le ι m.gen ι' g'→Dy ι' g' es2 es2'.toList) →
      ∃ ι',Ext ι m w ι' (m.put r (.map es2 c2)) { w with heap:=w.heap.setIfInBounds ib.blk (.map es2' c2) }∧DL P G ι' (m.put r (.map es2 c2)) { w with heap:=w.heap.setIfInBounds ib.blk (.map es2' c2) } :=
      fun es2 es2' c2 hes=>by
       obtain ⟨ι',a,b,_⟩:=Iq (x:=.map es2 c2) (ib':=ib) (w':={ w with heap:=w.heap.setIfInBounds ib.blk (.map es2' c2) }) (obj:=.map es2' c2) hs hb hro rfl
        ⟨by rw [hgen];exact Nat.zero_le _,fun _=>rfl⟩ (.inl rfl) (by simp [hlt]) (fun c _ hne=>by simp only [Array.getElem?_setIfInBounds];rw [if_neg (fun e=>hne e.symm)]) (by simp) rfl rfl rfl
        (fun ι' g' hle=>⟨rfl,hes ι' g' hle⟩)
       exact ⟨ι',a,b⟩
     cases hfn:Hu P false kt k es with
     |none=>rw [hfn] at h;cases h
     |some res =>
      rw [hfn] at h
      obtain ⟨hck,hfs⟩:=OM h2 hfn
      rcases hfs with ⟨rfl,h3⟩|⟨i,u,u',rfl,h3,_,e,e',h5,h6,h8,h7⟩
      ·cases h
       obtain ⟨ι',a,b⟩:=put (es++[{ key:=k,val:=v,born:=clock }]) (es'.push { key:=k,val:=v',born:=clock }) (clock+1) (fun ι' g' hle=>by
        rw [Array.toList_push];exact Dy.push (e:={ key:=k,val:=v,born:=clock }) (e':={ key:=k,val:=v',born:=clock }) ⟨rfl,rfl,hp,hv.mono hle⟩ (h2.mono hle))
       refine ⟨_,ι',?_,a,b⟩
       simp only [Instr.mapUpdate,Sem.run_bind,run_underlying hu,Result.andThen_ok,getObj,Sem.run,h1,hck,h3,setObj]
      ·simp only at h
       split at h
       case isFalse=>cases h
       rename_i hsb
       cases h
       obtain ⟨ι',a,b⟩:=put (es.modify i fun e=>{ e with key:=k,val:=v }) (es'.modify i fun e=>{ e with key:=k,val:=v' }) clock (fun ι' g' hle=>by
        rw [Array.toList_modify];exact Dy.modify (f:=fun e=>{ e with key:=k,val:=v }) (f':=fun e=>{ e with key:=k,val:=v' }) (fun e e' he=>⟨rfl,he.2.1,hp,hv.mono hle⟩) i (h2.mono hle))
       refine ⟨_,ι',?_,a,b⟩
       have hkey:((es'[i]?).map (·.key)).getD k=e.key:=by
        have:es'[i]?=some e':=by rw [← h6];simp
        rw [this];simp [h8.1]
       have zZ:∀ w,(Instr.keyThatStays e.key k).run P w=.ok k w:=fun w=>by
        unfold Instr.keyThatStays
        rw [h5] at hsb
        simp only [Option.map_some,Option.getD_some,Bool.or_eq_true] at hsb
        have hsb:Instr.sameBits 10000 e.key k=true:=by
         rcases hsb with hsb|hsb
         ·obtain ⟨kind,hkk,hsn⟩:=h7 hsb
          exact Jz hkk hsn
         ·exact hsb
        rw [if_pos hsb]
        rfl
       simp only [Instr.mapUpdate,Sem.run_bind,run_underlying hu,Result.andThen_ok,getObj,Sem.run,h1,hck,h3,setObj,hkey,zZ]
   ·cases h
  ·cases h
 ·cases h
theorem Dy.get {ι:BN} {g:Nat→Nat}:∀ {es es':List MapEntry} {i:Nat} {e e':MapEntry},Dy ι g es es'→es[i]?=some e→es'[i]?=some e'→dY ι g e e'
 |[],[],i,_,_,_,h,_=>by simp at h
 |a::es,b::es',0,e,e',⟨h,_⟩,h1,h2=>by simp at h1 h2;subst h1;subst h2;exact h
 |a::es,b::es',i+1,e,e',⟨_,k⟩,h1,h2=>Dy.get k (by simpa using h1) (by simpa using h2)
 |[],_::_,_,_,_,h,_,_=>h.elim
 |_::_,[],_,_,_,h,_,_=>h.elim
theorem Dy.find {ι:BN} {g:Nat→Nat} (n:Int):∀ {es es':List MapEntry},Dy ι g es es'→es'.findIdx? (fun e=>(e.born:Int)==n)=es.findIdx? (fun e=>(e.born:Int)==n)
 |[],[],_=>rfl
 |a::es,b::es',⟨h,k⟩=>by
  rw [List.findIdx?_cons,List.findIdx?_cons,Dy.find n k,h.2.1]
 |[],_::_,h=>h.elim
 |_::_,[],h=>h.elim
theorem a6q {ι:BN} {g:Nat→Nat} {v v':Value} (n:Int) (h:AA ι g v v'):AA ι g (.tuple #[v,.int .i64 n]) (.tuple #[v',.int .i64 n]) :=
 .tuple [v,.int .i64 n] [v',.int .i64 n] rfl fun i hi=>by
  match i,hi with
  |0,_=>exact h
  |1,_=>exact AA.plain (v:=.int .i64 n) rfl
  |i+2,hi=>simp at hi;omega
theorem lH {ι:BN} {m m':Mem} {w:World} {t:TypeId} {x x' k k' v:Value} (hs:DL P G ι m w) (hx:AA ι m.gen x x') (hk:AA ι m.gen k k')
 (h:QD P t x k m=some (v,m')):∃ v' w' ι',(Instr.mapEntry t x' k').run P w=.ok v' w'∧Ext ι m w ι' m' w'∧DL P G ι' m' w'∧AA ι' m'.gen v v':=by
 unfold QD at h
 split at h
 ·rename_i kt et r hu
  split at h
  ·rename_i es clock hg
   split at h
   ·rename_i hp
    rw [hk.Cc hp]
    cases hx with
    |map _ c ib hb hc =>
     obtain ⟨es',h1,h2⟩:=Yh hs hb hg
     have:=hc (by unfold Mem.gen;rw [hg];rfl)
     subst this
     have hlt:=(hs.dom r ib hb).2
     have hro:m.ro r=false:=by unfold Mem.ro;rw [hg];rfl
     have hgen:m.gen r=0:=by unfold Mem.gen;rw [hg];rfl
     have put:∀ (es2:List MapEntry) (es2':Array MapEntry) (c2:Nat),(∀ ι' g',Le ι m.gen ι' g'→Dy ι' g' es2 es2'.toList) →
      ∃ ι',Ext ι m w ι' (m.put r (.map es2 c2)) { w with heap:=w.heap.setIfInBounds ib.blk (.map es2' c2) }∧DL P G ι' (m.put r (.map es2 c2)) { w with heap:=w.heap.setIfInBounds ib.blk (.map es2' c2) } :=
      fun es2 es2' c2 hes=>by
       obtain ⟨ι',a,b,_⟩:=Iq (x:=.map es2 c2) (ib':=ib) (w':={ w with heap:=w.heap.setIfInBounds ib.blk (.map es2' c2) }) (obj:=.map es2' c2) hs hb hro rfl
        ⟨by rw [hgen];exact Nat.zero_le _,fun _=>rfl⟩ (.inl rfl) (by simp [hlt]) (fun c _ hne=>by simp only [Array.getElem?_setIfInBounds];rw [if_neg (fun e=>hne e.symm)]) (by simp) rfl rfl rfl
        (fun ι' g' hle=>⟨rfl,hes ι' g' hle⟩)
       exact ⟨ι',a,b⟩
     cases hfn:Hu P false kt k es with
     |none=>rw [hfn] at h;cases h
     |some res =>
      rw [hfn] at h
      obtain ⟨hck,hfs⟩:=OM h2 hfn
      rcases hfs with ⟨rfl,h3⟩|⟨i,u,u',rfl,h3,NZ,e,e',h5,h6,h8,h7⟩
      ·simp only at h
       split at h
       ·rename_i z hz
        split at h
        ·rename_i hpz
         cases h
         have hzr:∀ w,(zeroValue et).run P w=.ok z w:=fun w=>by
          unfold zeroOf at hz
          rw [Option.bind_eq_some_iff] at hz
          obtain ⟨i,hi,hz⟩:=hz
          exact LQ hi hz w
         obtain ⟨ι',a,b⟩:=put (es++[{ key:=k,val:=z,born:=clock }]) (es'.push { key:=k,val:=z,born:=clock }) (clock+1) (fun ι' g' hle=>by
          rw [Array.toList_push];exact Dy.push (e:={ key:=k,val:=z,born:=clock }) (e':={ key:=k,val:=z,born:=clock }) ⟨rfl,rfl,hp,AA.plain hpz⟩ (h2.mono hle))
         refine ⟨_,_,ι',?_,a,b,a6q _ (AA.plain hpz)⟩
         simp only [Instr.mapEntry,Sem.run_bind,run_underlying hu,Result.andThen_ok,getObj,Sem.run,h1,hck,h3,setObj,hzr,Sem.run_pure]
         rfl
        ·cases h
       ·cases h
      ·simp only at h
       split at h
       case isFalse=>cases h
       rename_i hsb
       cases h
       obtain ⟨ι',a,b⟩:=put (es.modify i fun e=>{ e with key:=k }) (es'.modify i fun e=>{ e with key:=k }) clock (fun ι' g' hle=>by
        rw [Array.toList_modify];exact Dy.modify (f:=fun e=>{ e with key:=k }) (f':=fun e=>{ e with key:=k }) (fun e e' he=>⟨rfl,he.2.1,hp,he.2.2.2⟩) i (h2.mono hle))
       have hborn:((es'[i]?).map fun x=>(x.born:Int)).getD 0=((((es[i]?).map (·.born)).getD 0:Nat):Int):=by
        have:es'[i]?=some e':=by rw [← h6];simp
        rw [this,h5]
        show (e'.born:Int)=(e.born:Int)
        rw [h8.2.1]
       refine ⟨.tuple #[u',.int .i64 ((((es[i]?).map (·.born)).getD 0:Nat):Int)],_,ι',?_,a,b,a6q _ (NZ.mono a.le)⟩
       have hkey:((es'[i]?).map (·.key)).getD k=e.key:=by
        have:es'[i]?=some e':=by rw [← h6];simp
        rw [this];simp [h8.1]
       have zZ:∀ w,(Instr.keyThatStays e.key k).run P w=.ok k w:=fun w=>by
        unfold Instr.keyThatStays
        rw [h5] at hsb
        simp only [Option.map_some,Option.getD_some,Bool.or_eq_true] at hsb
        have hsb:Instr.sameBits 10000 e.key k=true:=by
         rcases hsb with hsb|hsb
         ·obtain ⟨kind,hkk,hsn⟩:=h7 hsb
          exact Jz hkk hsn
         ·exact hsb
        rw [if_pos hsb]
        rfl
       simp only [Instr.mapEntry,Sem.run_bind,run_underlying hu,Result.andThen_ok,getObj,Sem.run,h1,hck,h3,setObj,hkey,zZ,Sem.run_pure,hborn]
       rfl
   ·cases h
  ·cases h
 ·cases h
theorem Ua {ι:BN} {m m':Mem} {w:World} {t:TypeId} {x x' s s' v v':Value} (hs:DL P G ι m w) (hx:AA ι m.gen x x') (hk:AA ι m.gen s s') (hv:AA ι m.gen v v')
 (h:Hg x s v m=some m'):∃ w' ι',(Instr.entryStore t x' s' v').run P w=.ok () w'∧Ext ι m w ι' m' w'∧DL P G ι' m' w':=by
 unfold Hg at h
 split at h
 ·rename_i r n
  split at h
  ·rename_i es clock hg
   split at h
   ·rename_i i hi
    cases h
    rw [hk.Cc (v:=.int .i64 n) rfl]
    cases hx with
    |map _ c ib hb hc =>
     obtain ⟨es',h1,h2⟩:=Yh hs hb hg
     have:=hc (by unfold Mem.gen;rw [hg];rfl)
     subst this
     have hlt:=(hs.dom r ib hb).2
     have hro:m.ro r=false:=by unfold Mem.ro;rw [hg];rfl
     have hgen:m.gen r=0:=by unfold Mem.gen;rw [hg];rfl
     obtain ⟨ι',a,b,_⟩:=Iq (x:=.map (es.modify i fun e=>{ e with val:=v }) clock) (ib':=ib) (w':={ w with heap:=w.heap.setIfInBounds ib.blk (.map (es'.modify i fun e=>{ e with val:=v' }) clock) }) (obj:=.map (es'.modify i fun e=>{ e with val:=v' }) clock) hs hb hro rfl
      ⟨by rw [hgen];exact Nat.zero_le _,fun _=>rfl⟩ (.inl rfl) (by simp [hlt]) (fun c _ hne=>by simp only [Array.getElem?_setIfInBounds];rw [if_neg (fun e=>hne e.symm)]) (by simp) rfl rfl rfl
      (fun ι' g' hle=>⟨rfl,by
       rw [Array.toList_modify];exact Dy.modify (f:=fun e=>{ e with val:=v }) (f':=fun e=>{ e with val:=v' }) (fun e e' he=>⟨he.1,he.2.1,he.2.2.1,hv.mono hle⟩) i (h2.mono hle)⟩)
     refine ⟨_,ι',?_,a,b⟩
     have hfi:es'.findIdx? (fun e=>(e.born:Int)==n)=some i:=by
      have:=Dy.find n h2
      rw [hi] at this
      obtain ⟨l⟩:=es'
      rw [List.findIdx?_toArray]
      exact this
     simp only [Instr.entryStore,Sem.run_bind,Result.andThen_ok,getObj,Sem.run,h1,asInt,asIntOf,Sem.run_pure,hfi,setObj]
   ·cases h
  ·cases h
 ·cases h
end
section
variable {P:Program} {G:List Nat}
theorem BR {α:Type} (a:α):DJ P (pure a:Sem α)=some a:=rfl
theorem JI (t:TypeId):DJ P (typeInfo t)=P.info? t:=by
 simp only [typeInfo,Ar,program,DJ,Option.bind_some]
 cases P.info? t<;>rfl
theorem Fp (t:TypeId):DJ P (sizeOf t)=(P.info? t).map (·.size):=by
 simp only [sizeOf,Ar,JI]
 cases P.info? t<;>rfl
theorem P7 (t:TypeId):DJ P (isAgg t)=GI P t:=by
 simp only [isAgg,Ar,Bg,GI]
 cases P.underlying t with
 |none=>rfl
 |some d=>cases d<;>rfl
theorem BI.set {ι:BN} {g:Nat→Nat} {l l':List Value} (h:BI ι g l l') {v v':Value} (hv:AA ι g v v') (i:Nat):BI ι g (l.set i v) (l'.set i v'):=by
 refine ⟨by simp [h.1],fun j hj=>?_⟩
 rw [List.length_set] at hj
 have:=h.2 j hj
 rw [getD_eq,getD_eq] at this ⊢
 by_cases e:i=j
 ·subst e
  rw [List.getElem?_set_self (by omega),List.getElem?_set_self (by rw [← h.1];omega)]
  exact hv
 ·rw [List.getElem?_set_ne e,List.getElem?_set_ne e]
  exact this
theorem foldl_rel {ι:BN} {g:Nat→Nat} (off:Nat):∀ {l l':List Value} (k:Nat) {cs cs':Array Value},BI ι g l l'→BI ι g cs.toList cs'.toList →
 BI ι g ((l.zipIdx k).foldl (fun cs (c,j)=>cs.setIfInBounds (off+j) c) cs).toList ((l'.zipIdx k).foldl (fun cs (c,j)=>cs.setIfInBounds (off+j) c) cs').toList
 |[],l',k,cs,cs',h,hc=>by
  have:l'=[]:=List.length_eq_zero_iff.1 h.1.symm
  subst this;exact hc
 |v::l,l',k,cs,cs',h,hc=>by
  obtain ⟨v',l2,rfl,hv,hl⟩:=h.Jt
  simp only [List.zipIdx_cons,List.foldl_cons]
  refine foldl_rel off (k+1) hl ?_
  simp only [Array.toList_setIfInBounds]
  exact hc.set hv _
def Rk (ι:BN) (g:Nat→Nat):List (Nat×Value)→List (Nat×Value)→Prop
 |[],[]=>True
 |p::ps,p'::ps'=>p'.1=p.1∧AA ι g p.2 p'.2∧Rk ι g ps ps'
 |_,_=>False
theorem Oc {ι:BN} {g:Nat→Nat} (place:Nat→Option (Nat×Nat)):∀ {ps ps':List (Nat×Value)} {cs cs' out:Array Value},Rk ι g ps ps'→BI ι g cs.toList cs'.toList →
 Instr.fill place cs ps=some out→∃ out',Instr.fill place cs' ps'=some out'∧BI ι g out.toList out'.toList
 |[],[],cs,cs',out,_,hc,h=>by
  simp only [Instr.fill,Option.some.injEq] at h ⊢
  subst h
  exact ⟨cs',rfl,hc⟩
 |(i,v)::ps,(i',v')::ps',cs,cs',out,⟨h1,h2,h3⟩,hc,h=>by
  simp only at h1 h2
  subst h1
  simp only [Instr.fill] at h ⊢
  cases hp:place i' with
  |none=>rw [hp] at h;cases h
  |some q =>
   obtain ⟨off,size⟩:=q
   rw [hp] at h
   simp only at h ⊢
   have hcells:=h2.cells
   have e1:v'.cells.size=v.cells.size:=by have:=hcells.1;simpa using this.symm
   have e2:cs'.size=cs.size:=by have:=hc.1;simpa using this.symm
   rw [e1,e2]
   split at h
   ·cases h
   ·rename_i hcond
    rw [if_neg hcond]
    refine Oc place h3 ?_ h
    have:=foldl_rel (ι:=ι) (g:=g) off 0 hcells hc
    rw [← Array.foldl_toList,← Array.foldl_toList,Array.toList_zipIdx,Array.toList_zipIdx]
    exact this
 |[],_::_,_,_,_,h,_,_=>h.elim
 |_::_,[],_,_,_,h,_,_=>h.elim
theorem Rk.map {ι:BN} {g:Nat→Nat} {ρ ρ':Operand→Value}:∀ {ps:List (Nat×Operand)},(∀ x∈ps.map (·.2),AA ι g (ρ x) (ρ' x)) →
 Rk ι g (ps.map fun (i,x)=>(i,ρ x)) (ps.map fun (i,x)=>(i,ρ' x))
 |[],_=>trivial
 |(i,x)::ps,h=>⟨rfl,h x (by simp),Rk.map fun y hy=>h y (by simp at hy ⊢;exact .inr hy)⟩
theorem UW {ι:BN} {g:Nat→Nat} {t:TypeId} {ps ps':Array (Nat×Value)} {v:Value} (hp:Rk ι g ps.toList ps'.toList) (hz:∀ z,zeroOf P t=some z→z.cells.toList.all plainCell=true)
 (h:DJ P (Instr.build t ps)=some v):∃ v',DJ P (Instr.build t ps')=some v'∧AA ι g v v':=by
 unfold Instr.build at h ⊢
 simp only [Ar] at h ⊢
 have hzv:DJ P (zeroValue t)=zeroOf P t:=by
  simp only [zeroValue,Ar,JI,zeroOf]
  cases P.info? t with
  |none=>rfl
  |some i=>simp only [Option.bind_some];cases i.zero<;>rfl
 rw [hzv] at h ⊢
 cases hz0:zeroOf P t with
 |none=>rw [hz0] at h;cases h
 |some z =>
  have hzz:=BI.plain (ι:=ι) (g:=g) (hz z hz0)
  rw [hz0] at h
  simp only [Option.bind_some,Bg] at h ⊢
  cases hd:P.underlying t with
  |none=>rw [hd] at h;cases h
  |some d =>
   rw [hd] at h
   simp only [Option.bind_some] at h ⊢
   cases d with
   |struct fields =>
    simp only [Ar] at h ⊢
    cases hpl:DJ P (Array.mapM (fun f=>do let __do_lift ← sizeOf f.type;pure (f.offset,__do_lift)) fields) with
    |none=>rw [hpl] at h;cases h
    |some places =>
     rw [hpl] at h
     simp only [Option.bind_some] at h ⊢
     cases hf:Instr.fill (fun x=>places[x]?) z.cells ps.toList with
     |none=>rw [hf] at h;cases h
     |some out =>
      rw [hf] at h
      obtain ⟨out',ho,hr⟩:=Oc _ hp hzz hf
      rw [ho]
      simp only [BR,Option.some.injEq] at h ⊢
      subst h
      exact ⟨_,rfl,.agg out.toList out'.toList hr.1 hr.2⟩
   |array n e =>
    simp only [Ar,Fp] at h ⊢
    cases hi:P.info? e with
    |none=>rw [hi] at h;cases h
    |some i =>
     rw [hi] at h
     simp only [Option.map_some,Option.bind_some] at h ⊢
     cases hf:Instr.fill (fun j=>some (j*i.size,i.size)) z.cells ps.toList with
     |none=>rw [hf] at h;cases h
     |some out =>
      rw [hf] at h
      obtain ⟨out',ho,hr⟩:=Oc _ hp hzz hf
      rw [ho]
      simp only [BR,Option.some.injEq] at h ⊢
      subst h
      exact ⟨_,rfl,.agg out.toList out'.toList hr.1 hr.2⟩
   |_=>cases h
theorem iY {ι:BN} {g:Nat→Nat} {t:TypeId} {cs cs':Array Value} {off:Nat} {v:Value} (hr:BI ι g cs.toList cs'.toList) (h:DJ P (part t cs off)=some v) :
 ∃ v',DJ P (part t cs' off)=some v'∧AA ι g v v':=by
 unfold part at h ⊢
 simp only [Ar,P7] at h ⊢
 cases ha:GI P t with
 |none=>rw [ha] at h;cases h
 |some b =>
  rw [ha] at h
  simp only [Option.bind_some] at h ⊢
  cases b with
  |true =>
   simp only [if_true,Ar,Fp] at h ⊢
   cases hi:P.info? t with
   |none=>rw [hi] at h;cases h
   |some i =>
    rw [hi] at h
    simp only [Option.map_some,Option.bind_some,BR,Option.some.injEq] at h ⊢
    subst h
    refine ⟨_,rfl,?_⟩
    have:=(hr.drop off).take i.size
    have e:∀ (c:Array Value),c.extract off (off+i.size)=⟨(c.toList.drop off).take i.size⟩:=fun c=>by
     apply Array.ext'
     rw [Array.toList_extract]
     simp [List.extract_eq_take_drop]
    rw [e,e]
    exact .agg _ _ this.1 this.2
  |false =>
   simp only [Bool.false_eq_true,if_false] at h ⊢
   cases hc:cs[off]? with
   |none=>rw [hc] at h;cases h
   |some u =>
    rw [hc] at h
    simp only [BR,Option.some.injEq] at h
    subst h
    obtain ⟨v',h1,h2⟩:=hr.get (i:=off) (v:=u) (by simpa using hc)
    refine ⟨v',?_,h2⟩
    have:cs'[off]?=some v':=by simpa using h1
    rw [this];rfl
theorem Vj {ι:BN} {g:Nat→Nat} {t:TypeId} {x x' v:Value} {f:Nat} (hx:AA ι g x x') (h:DJ P (Instr.field t x f)=some v) :
 ∃ v',DJ P (Instr.field t x' f)=some v'∧AA ι g v v':=by
 unfold Instr.field at h ⊢
 simp only [Ar,Bg] at h ⊢
 cases hd:P.underlying t with
 |none=>rw [hd] at h;cases h
 |some d =>
  rw [hd] at h
  simp only [Option.bind_some] at h ⊢
  cases d<;>first|(cases h;done)|skip
  rename_i fields
  simp only at h ⊢
  cases hf:fields[f]? with
  |none=>rw [hf] at h;cases h
  |some fd =>
   rw [hf] at h
   simp only [Ar] at h ⊢
   cases hx<;>first|(cases h;done)|skip
   rename_i l l' h1 h2
   exact iY (cs:=⟨l⟩) (cs':=⟨l'⟩) ⟨h1,h2⟩ h
theorem Ve {ι:BN} {g:Nat→Nat} {t:TypeId} {x x' ix v:Value} (hx:AA ι g x x') (h:DJ P (Instr.index t x ix)=some v) :
 ∃ v',DJ P (Instr.index t x' ix)=some v'∧AA ι g v v':=by
 unfold Instr.index at h ⊢
 simp only [Ar] at h ⊢
 cases hi:DJ P (asIntOf ix) with
 |none=>rw [hi] at h;cases h
 |some p =>
  obtain ⟨k,i⟩:=p
  rw [hi] at h
  simp only [Option.bind_some,Ar,Bg] at h ⊢
  cases hd:P.underlying t with
  |none=>rw [hd] at h;cases h
  |some d =>
   rw [hd] at h
   simp only [Option.bind_some] at h ⊢
   cases hx with
   |agg l l' h1 h2 =>
    cases d<;>first|(cases h;done)|skip
    rename_i n e
    simp only at h ⊢
    split at h
    ·rename_i hb
     rw [if_pos hb]
     simp only [Ar,Fp] at h ⊢
     cases hii:P.info? e with
     |none=>rw [hii] at h;cases h
     |some inf =>
      rw [hii] at h
      exact iY (cs:=⟨l⟩) (cs':=⟨l'⟩) ⟨h1,h2⟩ h
    ·exfalso
     revert h
     simp only [boundsPanic,Ar]
     split<;>intro h<;>first
      |(simp [choose,Functor.map,Sem.bind,DJ] at h;done)
      |(cases h)
      |(simp [BR,runtimePanic,Ar,program,DJ,goPanic] at h)
   |str s =>
    refine ⟨v,h,?_⟩
    cases d<;>first|(cases h;done)|skip
    simp only at h
    split at h
    ·simp only [BR,Option.some.injEq] at h
     subst h
     exact .int _ _
    ·exfalso
     revert h
     simp only [boundsPanic,Ar]
     split<;>intro h<;>first
      |(simp [choose,Functor.map,Sem.bind,DJ] at h;done)
      |(cases h)
      |(simp [BR,runtimePanic,Ar,program,DJ,goPanic] at h)
   |_=>cases d<;>cases h
theorem Qv {ι:BN} {g:Nat→Nat} {x x' v:Value} {i:Nat} (hx:AA ι g x x') (h:DJ P (Instr.extract x i)=some v) :
 ∃ v',DJ P (Instr.extract x' i)=some v'∧AA ι g v v':=by
 unfold Instr.extract at h ⊢
 cases hx<;>first|(cases h;done)|skip
 rename_i l l' h1 h2
 simp only at h ⊢
 cases hc:(⟨l⟩:Array Value)[i]? with
 |none=>rw [hc] at h;cases h
 |some u =>
  rw [hc] at h
  simp only [BR,Option.some.injEq] at h
  subst h
  obtain ⟨v',k1,k2⟩:=BI.get (l:=l) (l':=l') ⟨h1,h2⟩ (i:=i) (v:=u) (by simpa using hc)
  refine ⟨v',?_,k2⟩
  have:(⟨l'⟩:Array Value)[i]?=some v':=by simpa using k1
  rw [this];rfl
end
section
variable {P:Program} {G:List Nat}
theorem lX {op:BinOp} {k:IntKind} {a b:Int} {v:Value} {t:TypeId} (h:xX op k a b=some v) (w:World) :
 (binOp op t (.int k a) (.int k b)).run P w=.ok v w∧plain v=true:=by
 cases op<;>simp only [xX,reduceCtorEq,Option.some.injEq] at h
 case quo =>
  split at h
  ·cases h
  ·rename_i hb
   simp only [Option.some.injEq] at h
   subst h
   refine ⟨?_,rfl⟩
   rw [binOp_quo];simp only [Op.intDiv,if_neg hb];rfl
 case rem =>
  split at h
  ·cases h
  ·rename_i hb
   simp only [Option.some.injEq] at h
   subst h
   refine ⟨?_,rfl⟩
   rw [binOp_rem];simp only [Op.intDiv,if_neg hb];rfl
 all_goals
  subst h
  refine ⟨?_,rfl⟩
  first
   |(rw [binOp_add];rfl)
   |(rw [binOp_sub];rfl)
   |(rw [binOp_mul];rfl)
   |(rw [binOp_and];rfl)
   |(rw [binOp_or];rfl)
   |(rw [binOp_xor];rfl)
   |(rw [binOp_andNot];rfl)
   |(rw [binOp_eql];rfl)
   |(rw [binOp_neq];rfl)
   |(rw [binOp_lss];rfl)
   |(rw [binOp_leq];rfl)
   |(rw [binOp_gtr];rfl)
   |(rw [binOp_geq];rfl)
theorem Ns {op:BinOp} {k k':IntKind} {a b:Int} {v:Value} {t:TypeId} (hop:op=.shl∨op=.shr) (h:XL op k a b=some v) (w:World) :
 (binOp op t (.int k a) (.int k' b)).run P w=.ok v w∧plain v=true:=by
 unfold XL at h
 split at h
 ·cases h
 ·rename_i hb
  rcases hop with rfl|rfl<;>simp only [Option.some.injEq] at h<;>subst h<;>refine ⟨?_,rfl⟩
  ·rw [binOp_shl];simp only [Op.shift,if_neg hb];rfl
  ·rw [binOp_shr];simp only [Op.shift,if_neg hb];rfl
theorem NK {t e:TypeId} (hu:P.underlying t=some (.slice e)) (a b:Option Addr) (n c n' c':Nat) (h:a=none∨b=none) (w:World) :
 (Op.equal t (.slice a n c) (.slice b n' c')).run P w=.ok (a.isNone&&b.isNone) w:=by
 show (Op.equalIn (9999+1) t _ _).run P w=_
 unfold Op.equalIn
 simp only [Sem.run_bind,run_underlying hu,Result.andThen_ok]
 cases a with
 |none=>cases b<;>rfl
 |some a=>cases b with
  |none=>rfl
  |some b=>simp at h
theorem Zm {t k e:TypeId} (hu:P.underlying t=some (.map k e)) (a:Option Nat) (w:World) :
 (Op.equal t (.map a) (.map none)).run P w=.ok a.isNone w:=by
 show (Op.equalIn (9999+1) t _ _).run P w=_
 unfold Op.equalIn
 simp only [Sem.run_bind,run_underlying hu,Result.andThen_ok]
 cases a<;>rfl
theorem Rt {t e:TypeId} (hu:P.underlying t=some (.pointer e)) (a:Option Addr) (w:World) :
 (Op.equal t (.pointer a) (.pointer none)).run P w=.ok a.isNone w:=by
 show (Op.equalIn (9999+1) t _ _).run P w=_
 unfold Op.equalIn
 simp only [Sem.run_bind,run_underlying hu,Result.andThen_ok]
 cases a<;>rfl
theorem QS {ι:BN} {g:Nat→Nat} {op:BinOp} {t:TypeId} {xo yo:Operand} {x y x' y' v:Value} (hx:AA ι g x x') (hy:AA ι g y y') (h:NY P op t xo yo x y=some v) (w:World) :
 ∃ v',(do eqGuard op t xo yo x' y';binOp op t x' y':Sem Value).run P w=.ok v' w∧AA ι g v v':=by
 unfold NY at h
 split at h
 ·cases hx;cases hy
  rename_i k a k' b
  refine ⟨v,?_⟩
  simp only [Sem.run_bind,eqGuard_at_int,Sem.run_pure,Result.andThen_ok]
  split at h
  ·obtain ⟨h1,h2⟩:=Ns (P:=P) (t:=t) (k':=k') (.inl rfl) h w
   exact ⟨h1,AA.plain h2⟩
  ·obtain ⟨h1,h2⟩:=Ns (P:=P) (t:=t) (k':=k') (.inr rfl) h w
   exact ⟨h1,AA.plain h2⟩
  ·split at h
   ·rename_i e
    subst e
    obtain ⟨h1,h2⟩:=lX (P:=P) (t:=t) h w
    exact ⟨h1,AA.plain h2⟩
   ·cases h
 ·rename_i a n g'
  cases hy
  split at h
  ·rename_i e hu
   have hsh:∃ a' n' c',x'=.slice a' n' c'∧a'.isNone=a.isNone:=by cases hx<;>exact ⟨_,_,_,rfl,rfl⟩
   obtain ⟨a',n',c',rfl,hn⟩:=hsh
   simp only [Sem.run_bind,eqGuard_at_slice,Sem.run_pure,Result.andThen_ok]
   have heq:=NK hu a' none n' c' 0 0 (.inr rfl) w
   cases op<;>simp only [I9,reduceCtorEq,Option.some.injEq] at h<;>subst h
   ·refine ⟨_,?_,.bool _⟩
    simp [binOp,heq,hn]
   ·refine ⟨_,?_,.bool _⟩
    simp [binOp,heq,hn]
  ·cases h
 ·rename_i a n g' _
  cases hx
  split at h
  ·rename_i e hu
   have hsh:∃ a' n' c',y'=.slice a' n' c'∧a'.isNone=a.isNone:=by cases hy<;>exact ⟨_,_,_,rfl,rfl⟩
   obtain ⟨a',n',c',rfl,hn⟩:=hsh
   simp only [Sem.run_bind,eqGuard_at_slice,Sem.run_pure,Result.andThen_ok]
   have heq:=NK hu none a' 0 0 n' c' (.inl rfl) w
   cases op<;>simp only [I9,reduceCtorEq,Option.some.injEq] at h<;>subst h
   ·refine ⟨_,?_,.bool _⟩
    simp [binOp,heq,hn]
   ·refine ⟨_,?_,.bool _⟩
    simp [binOp,heq,hn]
  ·cases h
 ·rename_i a
  cases hy
  split at h
  ·rename_i k e hu
   have hsh:∃ a',x'=.map a'∧a'.isNone=a.isNone:=by cases hx<;>exact ⟨_,rfl,rfl⟩
   obtain ⟨a',rfl,hn⟩:=hsh
   simp only [Sem.run_bind,eqGuard_at_map,Sem.run_pure,Result.andThen_ok]
   have heq:=Zm hu a' w
   cases op<;>simp only [I9,reduceCtorEq,Option.some.injEq] at h<;>subst h
   ·refine ⟨_,?_,.bool _⟩
    simp [binOp,heq,hn]
   ·refine ⟨_,?_,.bool _⟩
    simp [binOp,heq,hn]
  ·cases h
 ·rename_i a
  cases hy
  split at h
  ·rename_i e hu
   have hsh:∃ a',x'=.pointer a'∧a'.isNone=a.isNone:=by cases hx<;>exact ⟨_,rfl,rfl⟩
   obtain ⟨a',rfl,hn⟩:=hsh
   simp only [Sem.run_bind,eqGuard_at_pointer,Sem.run_pure,Result.andThen_ok]
   have heq:=Rt hu a' w
   cases op<;>simp only [I9,reduceCtorEq,Option.some.injEq] at h<;>subst h
   ·refine ⟨_,?_,.bool _⟩
    simp [binOp,heq,hn]
   ·refine ⟨_,?_,.bool _⟩
    simp [binOp,heq,hn]
  ·cases h
 ·split at h
  ·rename_i hp
   simp only [Bool.and_eq_true] at hp
   rw [hx.Cc hp.1,hy.Cc hp.2]
   obtain ⟨h1,h2⟩:=Fa h
   exact ⟨v,DZ h1 w,AA.plain h2⟩
  ·cases h
theorem Dj {l:List Value} (h:l.all plainCell=true):l.all BO=true:=by
 rw [List.all_eq_true] at h ⊢
 intro u hu
 have:=h u hu
 cases u<;>first|rfl|simp [plainCell] at this
theorem IL {z:List Value} (h:z.all plainCell=true) (n:Nat):(AQ z n).all plainCell=true:=by
 induction n with
 |zero=>rfl
 |succ n ih=>simp only [AQ,List.all_append,h,ih,Bool.and_self]
theorem VP {ι:BN} {m:Mem} {w:World} {t e:TypeId} {i:TypeInfo} {z:List Value} {kn kk:IntKind} {n k:Int} (hs:DL P G ι m w) (hu:P.underlying t=some (.slice e)) (hi:P.info? e=some i)
 (hz:Cj P e=some z) (h0:0≤n) (h1:n≤k) (h2:k.toNat*(i.bytes+1)≤room) (h3:k≤2 ^ 40) (h4:z.length=i.size) (h5:0<i.size) :
 ∃ v' w',(Instr.makeSlice t (.int kn n) (.int kk k)).run P w=.ok v' w' ∧
  Post P G ι m w (A8 m e (AQ z n.toNat) n.toNat).1 (A8 m e (AQ z n.toNat) n.toNat).2 v' w':=by
 obtain ⟨i',zv,hi',hz1,rfl,hz3⟩:=BP hz
 rw [hi] at hi';cases hi'
 have hwn:IntKind.i64.wrap n=n:=wrap_small h0 (by omega)
 have hwk:IntKind.i64.wrap k=k:=wrap_small (by omega) h3
 have hbig:¬ ((i.bytes:Int)*k>2 ^ 48):=by
  have e1:k.toNat*i.bytes≤k.toNat*(i.bytes+1):=Nat.mul_le_mul_left _ (by omega)
  have e3:(i.bytes:Int)*k=((k.toNat*i.bytes:Nat):Int):=by rw [Int.natCast_mul,Int.toNat_of_nonneg (by omega),Int.mul_comm]
  have e4:room=2 ^ 40:=rfl
  rw [e3]
  omega
 have hlt:¬ (k<0):=by omega
 have hlt2:¬ (n<0):=by omega
 have hgt:¬ (n>k):=by omega
 refine ⟨.slice (some ⟨w.heap.size,0,none⟩) n.toNat k.toNat,{ w with heap:=w.heap.push (.cells (AQ zv.cells.toList k.toNat).toArray e (0,0)) },?_,?_⟩
 ·simp only [Instr.makeSlice,Sem.run_bind,run_underlying hu,Result.andThen_ok,asInt,asIntOf,Sem.run_pure,run_typeInfo' hi,hwn,hwk,hlt,hlt2,hgt,hbig,decide_false,Bool.or_false,Bool.false_eq_true,if_false,or_false,
   run_askRoom,run_sizeOf' hi]
  by_cases hk0:k.toNat*i.size=0
  ·have e1:AQ zv.cells.toList k.toNat=[]:=List.length_eq_zero_iff.1 (by rw [En,h4];exact hk0)
   rw [if_pos hk0,hk0,e1]
   simp [newRow,Array.range_zero']
  ·have e1:=JD zv.cells.toList k.toNat (by omega)
   rw [h4] at e1
   rw [if_neg hk0]
   simp only [Sem.run_bind,LQ hi hz1,Result.andThen_ok,Sem.run_pure,newRow,run_newObj,← e1]
 ·refine Ib hs rfl rfl rfl rfl (fun j hj=>?_) (by omega) (.inr ?_)
  ·rw [En] at hj
   have hjk:j<k.toNat*zv.cells.toList.length:=Nat.lt_of_lt_of_le hj (Nat.mul_le_mul_right _ (by omega))
   have hm:j % zv.cells.toList.length<zv.cells.toList.length:=Nat.mod_lt _ (by omega)
   have e1:=QZ zv.cells.toList k.toNat j hjk
   have e2:=QZ zv.cells.toList n.toNat j hj
   rw [List.getElem?_eq_getElem hm] at e1 e2
   refine ⟨zv.cells.toList[j % zv.cells.toList.length],by simpa using e1,?_⟩
   rw [getD_eq,e2]
   exact AA.plainCell (List.all_eq_true.1 hz3 _ (List.getElem_mem hm))
  ·rw [Em hi,List.size_toArray,En,h4];exact Nat.le_refl _
theorem YX:∀ {l:List Value} {bs:List UInt8},Uo l=some bs→l=bs.map fun c=>Value.int .u8 c.toNat
 |[],_,h=>by cases h;rfl
 |v::l,bs,h=>by
  unfold Uo at h
  split at h
  ·rename_i he;cases he
  ·rename_i n l' he
   cases he
   split at h
   ·rename_i hn
    rw [Option.map_eq_some_iff] at h
    obtain ⟨bs',h1,rfl⟩:=h
    rw [YX h1,List.map_cons]
    congr 1
    have:(UInt8.ofNat n.toNat).toNat=n.toNat:=by simp;omega
    rw [this]
    congr 1
    omega
   ·cases h
  ·cases h
theorem iG {ι:BN} {m m':Mem} {w:World} {s d:TypeId} {x x' v:Value} (hs:DL P G ι m w) (hx:AA ι m.gen x x') (h:YA P s d x m=some (v,m')) :
 ∃ v' w',(convert s d x').run P w=.ok v' w'∧Post P G ι m w v m' v' w':=by
 unfold YA at h
 split at h
 ·rename_i e b hu1 hu2
  split at h
  ·rename_i i he hi
   split at h
   ·rename_i hb
    cases h
    have ex:x'=.string b:=by cases hx;rfl
    subst ex
    refine ⟨_,_,run_bytes_of_string w s d e b hu1 hu2 he,?_⟩
    have hge:=grownCap_ge w b.size 0 e
    generalize grownCap w b.size 0 e=cap at hge ⊢
    have hsz:(bytesRow b cap).size=cap:=by
     unfold bytesRow
     rw [Array.size_append,Array.size_map,Array.size_replicate]
     show b.size+(cap-b.size)=cap
     omega
    obtain ⟨ι',hext,Dp,hbk⟩:=Mc (x:=.cells (Ir b) e 0 false) (ib:=⟨w.heap.size,0,(bytesRow b cap).size,P.cellsOf e⟩)
     (w':=w.drew.alloc (.cells (bytesRow b cap) e ((bytesRow b cap).size,(bytesRow b cap).size+1))) (obj:=.cells (bytesRow b cap) e ((bytesRow b cap).size,(bytesRow b cap).size+1)) hs rfl rfl rfl rfl rfl
     ⟨fun _=>rfl,rfl,rfl,fun k hk=>by
      refine ⟨(Ir b).getD k undef,?_,?_⟩
      ·rw [getD_lt hk,Nat.zero_add]
       have hk':k<b.data.size:=by simpa [Ir] using hk
       unfold bytesRow
       rw [Array.getElem?_append_left (by simpa using hk')]
       simp only [Ir,Array.getElem?_map,List.getElem_map,Array.getElem?_eq_getElem hk',Option.map_some,Array.getElem_toList]
      ·rw [getD_lt hk]
       have hm:(Ir b)[k]∈Ir b:=List.getElem_mem hk
       obtain ⟨c,_,hc⟩:=List.mem_map.1 hm
       rw [← hc]
       exact .int _ _,fun _ j hj=>by simp only;omega⟩ rfl
    refine ⟨ι',hext,Dp,.sl _ _ _ _ _ _ ⟨_,hbk,Nat.zero_le _,hge,fun _=>⟨rfl,rfl,.inr ⟨rfl,?_⟩⟩⟩⟩
    simp only [Em hi,hb.1,hsz,Nat.zero_add,Nat.mul_one,Nat.le_refl]
   ·cases h
  ·cases h
 ·rename_i e a n g hu1 hu2
  split at h
  ·rename_i he
   split at h
   ·rename_i l hl
    split at h
    ·rename_i bs hbs
     cases h
     have hlen:=ES hl
     have hmap:=YX hbs
     have hn:bs.length=n:=by rw [hmap,List.length_map] at hlen;omega
     have key:∃ a' cap,x'=.slice a' n cap∧(a'=none∧n=0∨∃ A,a'=some A∧∀ j (hj:j<bs.length),w.cell? (A.add j)=some (.int .u8 (bs[j].toNat:Int))):=by
      cases hx with
      |Hy=>exact ⟨none,0,rfl,.inl ⟨rfl,rfl⟩⟩
      |mM b o s a'=>exact ⟨some a',0,rfl,.inr ⟨a',rfl,fun j hj=>by omega⟩⟩
      |sl b off len gen a' cap hr =>
       refine ⟨some a',cap,rfl,.inr ⟨a',rfl,fun j hj=>?_⟩⟩
       have hpos:0<n:=by omega
       have ha:=IQ hr (fun _=>hpos) 0
       rw [Addr.add_zero'] at ha
       have hl':m.EK ⟨b,off,some g⟩ n=some l:=by
        unfold CO at hl
        simpa using hl
       obtain ⟨l',h1,h2,h3⟩:=Jg hs (by simpa using ha) hl'
       have hj2:j<l.length:=by rw [hlen];omega
       obtain ⟨v',h4,h5⟩:=h1.get (List.getElem?_eq_getElem hj2)
       have e1:l[j]=.int .u8 (bs[j].toNat:Int):=by simp only [hmap,List.getElem_map]
       rw [e1] at h5
       have e2:v'=.int .u8 (bs[j].toNat:Int):=by cases h5;rfl
       rw [e2] at h4
       exact h3 j _ h4
     obtain ⟨a',cap,rfl,hc⟩:=key
     refine ⟨.string ⟨bs.toArray⟩,w,?_,Post.same hs (.str _)⟩
     rcases hc with ⟨rfl,h0⟩|⟨A,rfl,hc⟩
     ·have:bs=[]:=List.length_eq_zero_iff.1 (by omega)
      subst this
      rw [run_convert_bytes_string w s d e none n cap hu1 he hu2]
      rfl
     ·have:=run_convert_bytes_back (P:=P) w s d e A cap bs hu1 he hu2 hc
      rw [hn] at this
      exact this
    ·cases h
   ·cases h
  ·cases h
 ·cases h
def yc (n:Next) (v:Value):Prop:=n=.value v∨(n=.skip∧v=undef)
theorem SA {ι:BN} {m:Mem} {w:World} {e:TypeId} {l:List Value} {cs:Array Value} (hs:DL P G ι m w) (hl:BI ι m.gen l cs.toList) :
 Post P G ι m w (.pointer (some ⟨m.size,0,none⟩)) (m.alloc (.cells l e 0 false)) (.pointer (some ⟨w.heap.size,0,none⟩)) { w with heap:=w.heap.push (.cells cs e (0,0)) }:=by
 obtain ⟨ι',hext,Dp,hb⟩:=Mc (x:=.cells l e 0 false) (ib:=⟨w.heap.size,0,cs.size,P.cellsOf e⟩) (w':={ w with heap:=w.heap.push (.cells cs e (0,0)) }) (obj:=.cells cs e (0,0)) hs rfl rfl rfl rfl rfl
  ⟨fun _=>rfl,rfl,rfl,fun i hi=>by
   obtain ⟨v',h1,h2⟩:=hl.get (List.getElem?_eq_getElem hi)
   exact ⟨v',by simpa using h1,by rw [getD_lt hi];exact h2⟩,fun _ j _=>by simp⟩ rfl
 exact ⟨ι',hext,Dp,.ptr _ _ ⟨_,hb,Nat.zero_le _,fun _=>rfl⟩⟩
theorem VU.map {ι:BN} {g:Nat→Nat} {ρ ρ':Operand→Value} {o:Option Operand} (h:∀ x,o=some x→AA ι g (ρ x) (ρ' x)):VU ι g (o.map ρ) (o.map ρ'):=by
 cases o with
 |none=>exact .inl ⟨rfl,rfl⟩
 |some x=>exact .inr ⟨_,_,rfl,rfl,h x rfl⟩
theorem NS.map {ι:BN} {g:Nat→Nat} {ρ ρ':Operand→Value} {BF:Array Operand} (h:∀ x∈BF,AA ι g (ρ x) (ρ' x)):NS ι g (BF.map ρ) (BF.map ρ'):=fun i v hv=>by
 rw [Array.getElem?_map,Option.map_eq_some_iff] at hv
 obtain ⟨x,hx,rfl⟩:=hv
 exact ⟨ρ' x,by rw [Array.getElem?_map,hx];rfl,h x (Array.mem_of_getElem? hx)⟩
theorem BI.QK {ι:BN} {g:Nat→Nat} {ρ ρ':Operand→Value}:∀ {l:List Operand},(∀ x∈l,AA ι g (ρ x) (ρ' x))→BI ι g (l.map ρ) (l.map ρ')
 |[],_=>BI.nil
 |x::l,h=>BI.cons (h x (by simp)) (BI.QK fun y hy=>h y (by simp [hy]))
theorem JF {ι:BN} {g:Nat→Nat} {ρ ρ':Operand→Value} {BF:Array Operand} (h:∀ x∈BF,AA ι g (ρ x) (ρ' x)) (hp:(BF.map ρ).toList.all plain=true):BF.map ρ'=BF.map ρ:=by
 apply Array.map_congr_left
 intro x hx
 refine (h x hx).Cc ?_
 rw [List.all_eq_true] at hp
 exact hp _ (by simp;exact ⟨x,hx,rfl⟩)
end
section
variable {P:Program} {G:List Nat}
theorem FU {s:Sem Value} {v:Value} {w w':World} (h:s.run P w=.ok v w'):(do pure (.value (← s)):Sem Next).run P w=.ok (.value v) w':=by
 simp [h]
theorem DU {b:Builtin} {ρ:Operand→Value} {args:Array Operand} {aT:Array TypeId} {ty:TypeId} {w:World} {dst:Option Tmp} {pos:String} {after:Array Edge} {guard:Option (Nat×Bool)} :
 (execOp ρ { dst:=dst,op:=.call { callee:=.builtin b,args:=args,argTypes:=aT },type:=ty,pos:=pos,after:=after,guard:=guard }).run P w =
  (builtin b aT ty (args.map fun| .const _=>true|_=>false) (args.map ρ)).run P w:=by
 simp only [execOp,resolve,Sem.run_bind,Sem.run_pure,Result.andThen_ok,invoke]
 rfl
theorem DL.junk {ι:BN} {m:Mem} {w:World} (hs:DL P G ι m w) (x:Obj):DL P G ι m { w with heap:=w.heap.push x }:=by
 have hg:∀ b ib,ι b=some ib→(w.heap.push x)[ib.blk]?=w.heap[ib.blk]?:=fun b ib hb=>by
  have:=(hs.dom b ib hb).2
  rw [Array.getElem?_push,if_neg (by omega)]
 refine ⟨fun b ib hb=>⟨(hs.dom b ib hb).1,?_⟩,fun b ib hb=>?_,hs.inj,hs.glob⟩
 ·have:=(hs.dom b ib hb).2
  simp only [Array.size_push];omega
 ·show QC P ι m.gen ib (m.get b) ((w.heap.push x)[ib.blk]?)
  rw [hg b ib hb]
  exact hs.blk b ib hb
theorem Ext.junk (ι:BN) (m:Mem) (w:World) (x:Obj):Ext ι m w ι m { w with heap:=w.heap.push x } :=
 ⟨Nat.le_refl _,Nat.le_refl _,fun _ _ _=>rfl,fun _ _ _=>rfl,fun _ _=>rfl,Le.refl _ _,fun _ ib h=>.inl ⟨ib,h,rfl⟩,fun _ ib h=>.inl ⟨ib,h⟩,
  by simp only [Array.size_push];omega,fun c hc _=>by show (w.heap.push x)[c]?=w.heap[c]?;rw [Array.getElem?_push,if_neg (by omega)],rfl,rfl,rfl⟩
theorem Ym {ι:BN} {g:Nat→Nat} {ρ ρ':Operand→Value} {dst:Option Tmp} {ty:TypeId} {pos:String} {after:Array Edge} {guard:Option (Nat×Bool)} {t e:TypeId} {ps:Array (Nat×Operand)} {i:TypeInfo} {z:List Value} {cs:Array Value}
 (hu:P.underlying t=some (.slice e)) (hi:P.info? e=some i) (hz:Cj P e=some z) (c2:z.length=i.size) (c3:0<i.size) (hρ:∀ x∈(Op.buildSlice t 0 ps).operands,AA ι g (ρ x) (ρ' x))
 (hcs:Instr.fill (fun j=>some (j*i.size,i.size)) (AQ z 0).toArray (ps.map fun (i,x)=>(i,ρ x)).toList=some cs) :
 ∃ x,∀ w,(execOp ρ' ⟨dst,.buildSlice t 0 ps,ty,pos,after,guard⟩).run P w=.ok (.value (.slice (some ⟨w.heap.size,0,none⟩) 0 0)) { w with heap:=w.heap.push x }:=by
 obtain ⟨i',zv,hi',hz1,rfl,hz3⟩:=BP hz
 rw [hi] at hi';cases hi'
 have hp:Rk ι g (ps.map fun (i,x)=>(i,ρ x)).toList (ps.map fun (i,x)=>(i,ρ' x)).toList:=by
  rw [Array.toList_map,Array.toList_map]
  exact Rk.map fun x hx=>hρ x (by simp only [Op.operands];simpa using hx)
 obtain ⟨cs',hf,hr⟩:=Oc (ι:=ι) (g:=g) _ hp (BI.plain (IL hz3 0)) hcs
 refine ⟨.cells cs' e (0,0),fun w=>?_⟩
 simp only [execOp,Instr.buildSlice,Sem.run_bind,run_underlying hu,Result.andThen_ok,run_sizeOf' hi,Sem.run_pure]
 rw [if_neg (by omega)]
 rw [if_pos (Nat.zero_mul _)]
 have e2:(Array.map (fun x=>(#[]:Array Value)[x % (#[]:Array Value).size]!) (Array.range (0*i.size)))=#[]:=by
  rw [Nat.zero_mul,Array.range_zero'];simp
 have hf':Instr.fill (fun j=>some (j*i.size,i.size)) #[] (ps.map fun (i,x)=>(i,ρ' x)).toList=some cs':=hf
 simp only [Sem.run_bind,Sem.run_pure,Result.andThen_ok,e2,hf',newRow,run_newObj]
theorem kT {ι:BN} {g:Nat→Nat} {ρ ρ':Operand→Value} {dst:Option Tmp} {ty:TypeId} {pos:String} {after:Array Edge} {guard:Option (Nat×Bool)} {t e:TypeId} {len:Nat} {ps:Array (Nat×Operand)} {i:TypeInfo} {z:List Value} {cs:Array Value}
 (hu:P.underlying t=some (.slice e)) (hi:P.info? e=some i) (hz:Cj P e=some z) (c1:len*i.size≤2 ^ 24) (c2:z.length=i.size) (c3:0<i.size) (hρ:∀ x∈(Op.buildSlice t len ps).operands,AA ι g (ρ x) (ρ' x))
 (hcs:Instr.fill (fun j=>some (j*i.size,i.size)) (AQ z len).toArray (ps.map fun (i,x)=>(i,ρ x)).toList=some cs) :
 ∃ cs':Array Value,(∀ j,j<cs.toList.length→∃ v',cs'[j]?=some v'∧AA ι g (cs.toList.getD j undef) v')∧len*P.cellsOf e≤cs'.size ∧
  ∀ w,(execOp ρ' ⟨dst,.buildSlice t len ps,ty,pos,after,guard⟩).run P w=.ok (.value (.slice (some ⟨w.heap.size,0,none⟩) len len)) { w with heap:=w.heap.push (.cells cs' e (0,0)) }:=by
 obtain ⟨i',zv,hi',hz1,rfl,hz3⟩:=BP hz
 rw [hi] at hi';cases hi'
 have hp:Rk ι g (ps.map fun (i,x)=>(i,ρ x)).toList (ps.map fun (i,x)=>(i,ρ' x)).toList:=by
  rw [Array.toList_map,Array.toList_map]
  exact Rk.map fun x hx=>hρ x (by simp only [Op.operands];simpa using hx)
 have hlen:=En zv.cells.toList len
 obtain ⟨cs',hf,hr⟩:=Oc (ι:=ι) (g:=g) _ hp (BI.plain (IL hz3 len)) hcs
 refine ⟨cs',fun j hj=>?_,?_,fun w=>?_⟩
 ·obtain ⟨v',h1,h2⟩:=hr.get (List.getElem?_eq_getElem hj)
  exact ⟨v',by simpa using h1,by rw [getD_lt hj];exact h2⟩
 ·rw [Em hi]
  have hsz:cs'.size=len*i.size:=by
   have fs:∀ (ps:List (Nat×Value)) (c c':Array Value),Instr.fill (fun j=>some (j*i.size,i.size)) c ps=some c'→c'.size=c.size:=fun ps=>by
    induction ps with
    |nil=>intro c c' h;simp only [Instr.fill,Option.some.injEq] at h;rw [h]
    |cons p ps ih =>
     intro c c' h
     obtain ⟨j,u⟩:=p
     simp only [Instr.fill] at h
     split at h
     ·cases h
     ·have:=ih _ _ h
      rw [this]
      have fl:∀ (l:List (Value×Nat)) (c:Array Value),(l.foldl (fun cs (c,k)=>cs.setIfInBounds (j*i.size+k) c) c).size=c.size:=fun l=>by
       induction l with
       |nil=>intro c;rfl
       |cons q l ih=>intro c;rw [List.foldl_cons,ih];simp
      rw [← Array.foldl_toList]
      exact fl _ _
   rw [fs _ _ _ hf,List.size_toArray,hlen,c2]
  rw [hsz];exact Nat.le_refl _
 ·simp only [execOp,Instr.buildSlice,Sem.run_bind,run_underlying hu,Result.andThen_ok,run_sizeOf' hi,Sem.run_pure]
  rw [if_neg (by omega)]
  by_cases hk0:len*i.size=0
  ·have e1:AQ zv.cells.toList len=[]:=List.length_eq_zero_iff.1 (by rw [hlen,c2];exact hk0)
   rw [if_pos hk0]
   have e2:(Array.map (fun x=>(#[]:Array Value)[x % (#[]:Array Value).size]!) (Array.range (len*i.size)))=(AQ zv.cells.toList len).toArray:=by
    rw [hk0,e1,Array.range_zero'];simp
   simp only [Sem.run_bind,Sem.run_pure,Result.andThen_ok,e2,hf,newRow,run_newObj]
  ·have e1:=JD zv.cells.toList len (by omega)
   rw [c2] at e1
   rw [if_neg hk0]
   have e2:(Array.map (fun x=>zv.cells[x % zv.cells.size]!) (Array.range (len*i.size)))=(AQ zv.cells.toList len).toArray:=e1
   simp only [Sem.run_bind,LQ hi hz1,Result.andThen_ok,Sem.run_pure,e2,hf,newRow,run_newObj]
theorem uV {ι:BN} {m m':Mem} {w:World} {ρ ρ':Operand→Value} {o:Oper} {v:Value} (hs:DL P G ι m w) (hρ:∀ x∈o.op.operands,AA ι m.gen (ρ x) (ρ' x))
 (h:EX P ρ o m=some (v,m')):∃ n v' w',(execOp ρ' o).run P w=.ok n w'∧yc n v'∧Post P G ι m w v m' v' w':=by
 obtain ⟨dst,op,ty,pos,after,guard⟩:=o
 simp only at hρ
 have same:∀ {s:Sem Value} {u v':Value},execOp ρ' ⟨dst,op,ty,pos,after,guard⟩=(do pure (.value (← s)):Sem Next)→s.run P w=.ok v' w→AA ι m.gen u v'→(u,m)=(v,m') →
  ∃ n v' w',(execOp ρ' ⟨dst,op,ty,pos,after,guard⟩).run P w=.ok n w'∧yc n v'∧Post P G ι m w v m' v' w':=fun {s u v'} he hr hv hm=>by
  cases hm
  exact ⟨.value v',v',w,by rw [he];exact FU hr,.inl rfl,Post.same hs hv⟩
 cases op<;>simp only [EX,reduceCtorEq] at h
 case move x =>
  cases h
  exact ⟨.value (ρ' x),ρ' x,w,rfl,.inl rfl,Post.same hs (hρ x (by simp [Op.operands]))⟩
 case assign x =>
  cases h
  exact ⟨.value (ρ' x),ρ' x,w,rfl,.inl rfl,Post.same hs (hρ x (by simp [Op.operands]))⟩
 case pick c a b =>
  have hc:=hρ c (by simp [Op.operands])
  split at h
  ·rename_i t hcc
   cases h
   rw [hcc] at hc
   have e:ρ' c=.bool t:=by generalize ρ' c=u at hc;cases hc;rfl
   refine ⟨.value (if t then ρ' a else ρ' b),(if t then ρ' a else ρ' b),w,?_,.inl rfl,Post.same hs ?_⟩
   ·simp only [execOp,e,asBool,Sem.run_bind,Sem.run_pure,Result.andThen_ok]
   ·cases t
    ·exact hρ b (by simp [Op.operands])
    ·exact hρ a (by simp [Op.operands])
  ·cases h
 case binOp op t x y yt =>
  rw [Option.map_eq_some_iff] at h
  obtain ⟨u,hu,he⟩:=h
  obtain ⟨v',hr,hv⟩:=QS (hρ x (by simp [Op.operands])) (hρ y (by simp [Op.operands])) hu w
  exact same rfl hr hv he
 case alloc e =>
  rw [Option.map_eq_some_iff] at h
  obtain ⟨z,hz,he⟩:=h
  cases he
  obtain ⟨i,zv,hi,hz1,rfl,hz3⟩:=BP hz
  refine ⟨_,_,_,?_,.inl rfl,SA (e:=e) (cs:=zv.cells) hs (BI.plain hz3)⟩
  simp [execOp,Instr.alloc,LQ hi hz1,newVar,newRow]
 case box e x =>
  split at h
  ·cases h
   refine ⟨_,_,_,?_,.inl rfl,SA (e:=e) (cs:=(ρ' x).cells) hs (hρ x (by simp [Op.operands])).cells⟩
   simp [execOp,Instr.box,newVar,newRow]
  ·cases h
 case build t ps =>
  split at h
  ·rename_i z hz
   rw [Option.map_eq_some_iff] at h
   obtain ⟨u,hu,he⟩:=h
   have hp:Rk ι m.gen (ps.map fun (i,x)=>(i,ρ x)).toList (ps.map fun (i,x)=>(i,ρ' x)).toList:=by
    rw [Array.toList_map,Array.toList_map]
    exact Rk.map fun x hx=>hρ x (by simp only [Op.operands];simpa using hx)
   obtain ⟨v',hr,hv⟩:=UW hp (fun z' hz'=>by
    obtain ⟨i,zv,hi,hz1,rfl,hz3⟩:=BP hz
    unfold zeroOf at hz'
    rw [hi] at hz'
    simp only [Option.bind_some] at hz'
    rw [hz1] at hz'
    cases hz'
    exact hz3) hu
   exact same rfl (DZ hr w) hv he
  ·cases h
 case buildSlice t len ps =>
  split at h
  ·rename_i e hu
   split at h
   ·rename_i i z hi hz
    split at h
    ·rename_i hc
     obtain ⟨c1,c2,c3⟩:=hc
     split at h
     ·rename_i cs hcs
      split at h
      ·split at h
       ·rename_i hl0
        subst hl0
        cases h
        obtain ⟨x,hrun⟩:=Ym (ρ':=ρ') (dst:=dst) (ty:=ty) (pos:=pos) (after:=after) (guard:=guard) (ι:=ι) (g:=m.gen) hu hi hz c2 c3 (fun x hx=>hρ x hx) hcs
        exact ⟨_,_,_,hrun w,.inl rfl,ι,Ext.junk _ _ _ x,hs.junk x,.mM 0 0 0 _⟩
       cases h
       obtain ⟨cs',hl,hcap,hrun⟩:=kT (ρ':=ρ') (dst:=dst) (ty:=ty) (pos:=pos) (after:=after) (guard:=guard) (ι:=ι) (g:=m.gen) hu hi hz c1 c2 c3 (fun x hx=>hρ x hx) hcs
       exact ⟨_,_,_,hrun w,.inl rfl,Ib (cap:=len) (cs:=cs') hs rfl rfl rfl rfl hl (Nat.le_refl _) (.inr hcap)⟩
      ·cases h
     ·cases h
    ·cases h
   ·cases h
  ·cases h
 case load t a =>
  have ha:=hρ a (by simp [Op.operands])
  split at h
  ·rename_i ad had
   rw [Option.map_eq_some_iff] at h
   obtain ⟨u,hu,he⟩:=h
   rw [had] at ha
   have hsh:∃ a',ρ' a=.pointer (some a')∧NV ι m.gen ad a':=by generalize ρ' a=u at ha;cases ha;exact ⟨_,rfl,by assumption⟩
   obtain ⟨a',e1,har⟩:=hsh
   obtain ⟨v',hr,hv⟩:=Ox hs har hu
   exact same (s:=Instr.loadAt t (ρ' a)) rfl (by simp only [Instr.loadAt,e1,Instr.sureAddr,Sem.run_bind,Sem.run_pure,Result.andThen_ok];exact hr) hv he
  ·cases h
 case store t a x =>
  have ha:=hρ a (by simp [Op.operands])
  split at h
  ·rename_i ad had
   rw [Option.map_eq_some_iff] at h
   obtain ⟨m1,hm1,he⟩:=h
   cases he
   rw [had] at ha
   have hsh:∃ a',ρ' a=.pointer (some a')∧NV ι m.gen ad a':=by generalize ρ' a=u at ha;cases ha;exact ⟨_,rfl,by assumption⟩
   obtain ⟨a',e1,har⟩:=hsh
   obtain ⟨w',ι',hr,hext,Dp⟩:=fF hs har (hρ x (by simp [Op.operands])) hm1
   refine ⟨.skip,undef,w',?_,.inr ⟨rfl,rfl⟩,ι',hext,Dp,AA.undef⟩
   simp only [execOp,Instr.storeAt,e1,Instr.sureAddr,Sem.run_bind,Sem.run_pure,Result.andThen_ok,hr]
  ·cases h
 case nilCheck x =>
  have hx:=hρ x (by simp [Op.operands])
  split at h
  ·rename_i ad had
   rw [had] at hx
   have hsh:∃ a',ρ' x=.pointer (some a')∧NV ι m.gen ad a':=by generalize ρ' x=u at hx;cases hx;exact ⟨_,rfl,by assumption⟩
   obtain ⟨a',e1,har⟩:=hsh
   cases h
   exact ⟨.value (.pointer (some a')),_,w,by simp only [execOp,e1];rfl,.inl rfl,Post.same hs (.ptr _ _ har)⟩
  ·cases h
 case unOp op t x =>
  split at h
  ·rename_i hp
   rw [Option.map_eq_some_iff] at h
   obtain ⟨u,hu,he⟩:=h
   have hx:=(hρ x (by simp [Op.operands])).Cc hp
   obtain ⟨h1,h2⟩:=Fa hu
   exact same (s:=Op.unary op (ρ' x)) rfl (by rw [hx];exact DZ h1 w) (AA.plain h2) he
  ·cases h
 case convert s d x =>
  split at h
  ·obtain ⟨v',w',h1,h2⟩:=iG hs (hρ x (by simp [Op.operands])) h
   exact ⟨.value v',v',w',FU h1,.inl rfl,h2⟩
  split at h
  ·rename_i hp
   rw [Option.map_eq_some_iff] at h
   obtain ⟨u,hu,he⟩:=h
   have hx:=(hρ x (by simp [Op.operands])).Cc hp
   obtain ⟨h1,h2⟩:=Fa hu
   exact same (s:=Go.convert s d (ρ' x)) rfl (by rw [hx];exact DZ h1 w) (AA.plain h2) he
  ·cases h
 case makeFunc fn fs cs =>
  cases fn<;>simp only [reduceCtorEq] at h
  rename_i f
  cases h
  have h1:=BI.QK (ι:=ι) (g:=m.gen) (l:=fs.toList) (fun x hx=>hρ x (by simp [Op.operands];exact .inl (by simpa using hx)))
  have h2:=BI.QK (ι:=ι) (g:=m.gen) (l:=cs.toList) (fun x hx=>hρ x (by simp [Op.operands];exact .inr (by simpa using hx)))
  refine ⟨.value (.func (.func f) (fs.map ρ') (cs.map ρ')),_,w,rfl,.inl rfl,Post.same hs ?_⟩
  have e:∀ (r:Operand→Value) (a:Array Operand),a.map r=⟨a.toList.map r⟩:=fun r a=>by apply Array.ext';simp
  rw [e ρ fs,e ρ cs,e ρ' fs,e ρ' cs]
  exact .fn f _ _ _ _ h1.1 h1.2 h2.1 h2.2
 case makeMap t r =>
  cases r<;>simp only [reduceCtorEq] at h
  cases h
  obtain ⟨ι',hext,Dp,hb⟩:=Mc (x:=.map [] 0) (ib:=⟨w.heap.size,0,0,0⟩) (w':={ w with heap:=w.heap.push (.map #[] 0) }) (obj:=.map #[] 0) hs rfl rfl rfl rfl rfl ⟨rfl,trivial⟩ rfl
  exact ⟨.value (.map (some w.heap.size)),_,_,by simp [execOp,Instr.makeMap],.inl rfl,ι',hext,Dp,.map _ _ _ hb fun _=>rfl⟩
 case makeSlice t l c =>
  have hl:=hρ l (by simp [Op.operands])
  have hc:=hρ c (by simp [Op.operands])
  split at h
  ·rename_i e kn n kk k hu hln hck
   rw [hln] at hl;rw [hck] at hc
   have e1:ρ' l=.int kn n:=by generalize ρ' l=u at hl;cases hl;rfl
   have e2:ρ' c=.int kk k:=by generalize ρ' c=u at hc;cases hc;rfl
   split at h
   ·rename_i i z hi hz
    split at h
    ·rename_i hcond
     obtain ⟨c1,c2,c3,c4,c5,c6⟩:=hcond
     cases h
     obtain ⟨v',w',hr,hp⟩:=VP hs hu hi hz c1 c2 c3 c4 c5 c6
     exact ⟨.value v',v',w',by simp only [execOp,e1,e2];exact FU hr,.inl rfl,hp⟩
    ·cases h
   ·cases h
  ·cases h
 case slice t x lo hi mx =>
  rw [Option.map_eq_some_iff] at h
  obtain ⟨u,hu,he⟩:=h
  obtain ⟨v',hr,hv⟩:=Vq hs (hρ x (by simp [Op.operands])) (VU.map (o:=lo) fun y hy=>hρ y (by subst hy;simp [Op.operands])) (VU.map (o:=hi) fun y hy=>hρ y (by subst hy;simp [Op.operands]))
   (VU.map (o:=mx) fun y hy=>hρ y (by subst hy;simp [Op.operands])) hu
  exact same rfl hr hv he
 case fieldAddr s x f =>
  have hx:=hρ x (by simp [Op.operands])
  split at h
  ·rename_i fs ad hu had
   rw [had] at hx
   have hsh:∃ a',ρ' x=.pointer (some a')∧NV ι m.gen ad a':=by generalize ρ' x=u at hx;cases hx;exact ⟨_,rfl,by assumption⟩
   obtain ⟨a',e1,har⟩:=hsh
   split at h
   ·rename_i fd hfd
    split at h
    ·rename_i i hi
     split at h
     ·cases h
     ·rename_i hsz
      refine same (s:=Instr.fieldAt s (ρ' x) f) (v':=.pointer (some (a'.add fd.offset))) rfl ?_ (.ptr _ _ ?_) (Option.some.inj h)
      ·simp only [Instr.fieldAt,e1,Instr.sureAddr,Sem.run_bind,run_underlying hu,Sem.run_pure,Result.andThen_ok,hfd,fieldPlace,run_sizeOf' hi,if_neg hsz]
      ·obtain ⟨ib,hb,hle,hcur⟩:=har
       refine ⟨ib,hb,hle,fun e=>?_⟩
       rw [hcur e,addr_add]
       simp only [Addr.mk.injEq,true_and,and_true]
       omega
    ·cases h
   ·cases h
  ·cases h
 case field t x f =>
  rw [Option.map_eq_some_iff] at h
  obtain ⟨u,hu,he⟩:=h
  obtain ⟨v',hr,hv⟩:=Vj (hρ x (by simp [Op.operands])) hu
  exact same rfl (DZ hr w) hv he
 case indexAddr t x ix =>
  have hx:=hρ x (by simp [Op.operands])
  have hix:=hρ ix (by simp [Op.operands])
  split at h
  ·rename_i e b off len g k i hu hxx pq
   rw [hxx] at hx;rw [pq] at hix
   have e2:ρ' ix=.int k i:=by generalize ρ' ix=u at hix;cases hix;rfl
   split at h
   ·rename_i inf hi
    split at h
    ·rename_i hb
     have hsh:∃ a' cap',ρ' x=.slice (some a') len cap'∧a2v ι m.gen b off len g a' cap':=by generalize ρ' x=u at hx;cases hx;exact ⟨_,_,rfl,by assumption⟩
     obtain ⟨a',cap',e1,hsr⟩:=hsh
     refine same (s:=Instr.indexAt t (ρ' x) (ρ' ix)) (v':=.pointer (some (a'.add (i.toNat*inf.size)))) rfl ?_ (.ptr _ _ (IQ hsr (fun _=>by omega) _)) (Option.some.inj h)
     simp only [Instr.indexAt,e1,e2,asIntOf,Sem.run_bind,run_underlying hu,Sem.run_pure,Result.andThen_ok,run_sizeOf' hi,if_pos hb]
    ·cases h
   ·cases h
  ·rename_i n e ad k i hu hxx pq
   rw [hxx] at hx;rw [pq] at hix
   have e2:ρ' ix=.int k i:=by generalize ρ' ix=u at hix;cases hix;rfl
   have hsh:∃ a',ρ' x=.pointer (some a')∧NV ι m.gen ad a':=by generalize ρ' x=u at hx;cases hx;exact ⟨_,rfl,by assumption⟩
   obtain ⟨a',e1,har⟩:=hsh
   split at h
   ·rename_i inf hi
    split at h
    ·rename_i hb
     refine same (s:=Instr.indexAt t (ρ' x) (ρ' ix)) (v':=.pointer (some (a'.add (i.toNat*inf.size)))) rfl ?_ (.ptr _ _ ?_) (Option.some.inj h)
     ·simp only [Instr.indexAt,e1,e2,asIntOf,Instr.sureAddr,Sem.run_bind,run_underlying hu,Sem.run_pure,Result.andThen_ok,run_sizeOf' hi,if_pos hb]
     ·obtain ⟨ib,hbb,hle,hcur⟩:=har
      refine ⟨ib,hbb,hle,fun e=>?_⟩
      rw [hcur e,addr_add]
      simp only [Addr.mk.injEq,true_and,and_true]
      omega
    ·cases h
   ·cases h
  ·cases h
 case index t x ix =>
  split at h
  ·rename_i hp
   rw [Option.map_eq_some_iff] at h
   obtain ⟨u,hu,he⟩:=h
   have hix:=(hρ ix (by simp [Op.operands])).Cc hp
   obtain ⟨v',hr,hv⟩:=Ve (hρ x (by simp [Op.operands])) hu
   exact same (s:=Instr.index t (ρ' x) (ρ' ix)) rfl (by rw [hix];exact DZ hr w) hv he
  ·cases h
 case lookup t x k ok =>
  rw [Option.map_eq_some_iff] at h
  obtain ⟨u,hu,he⟩:=h
  obtain ⟨v',hr,hv⟩:=eU hs (hρ x (by simp [Op.operands])) (hρ k (by simp [Op.operands])) hu
  exact same rfl hr hv he
 case mapUpdate t x k u =>
  rw [Option.map_eq_some_iff] at h
  obtain ⟨m1,hm1,he⟩:=h
  cases he
  obtain ⟨w',ι',hr,hext,Dp⟩:=Sv hs (hρ x (by simp [Op.operands])) (hρ k (by simp [Op.operands])) (hρ u (by simp [Op.operands])) hm1
  exact ⟨.skip,undef,w',by simp only [execOp,Sem.run_bind,hr,Result.andThen_ok,Sem.run_pure],.inr ⟨rfl,rfl⟩,ι',hext,Dp,AA.undef⟩
 case mapEntry t x k =>
  obtain ⟨v',w',ι',hr,hext,Dp,hv⟩:=lH hs (hρ x (by simp [Op.operands])) (hρ k (by simp [Op.operands])) h
  exact ⟨.value v',v',w',FU hr,.inl rfl,ι',hext,Dp,hv⟩
 case entryStore t x k u =>
  rw [Option.map_eq_some_iff] at h
  obtain ⟨m1,hm1,he⟩:=h
  cases he
  obtain ⟨w',ι',hr,hext,Dp⟩:=Ua (t:=t) hs (hρ x (by simp [Op.operands])) (hρ k (by simp [Op.operands])) (hρ u (by simp [Op.operands])) hm1
  exact ⟨.skip,undef,w',by simp only [execOp,Sem.run_bind,hr,Result.andThen_ok,Sem.run_pure],.inr ⟨rfl,rfl⟩,ι',hext,Dp,AA.undef⟩
 case insert t x k u =>
  rw [Option.map_eq_some_iff] at h
  obtain ⟨m1,hm1,he⟩:=h
  cases he
  obtain ⟨w',ι',hr,hext,Dp⟩:=Sv hs (hρ x (by simp [Op.operands])) (hρ k (by simp [Op.operands])) (hρ u (by simp [Op.operands])) hm1
  exact ⟨.skip,undef,w',by simp only [execOp,Sem.run_bind,hr,Result.andThen_ok,Sem.run_pure],.inr ⟨rfl,rfl⟩,ι',hext,Dp,AA.undef⟩
 case extract t i =>
  rw [Option.map_eq_some_iff] at h
  obtain ⟨u,hu,he⟩:=h
  obtain ⟨v',hr,hv⟩:=Qv (hρ t (by simp [Op.operands])) hu
  exact same rfl (DZ hr w) hv he
 case call c =>
  obtain ⟨callee,args,aT⟩:=c
  cases callee<;>simp only [reduceCtorEq] at h
  rename_i b
  have hargs:∀ x∈args,AA ι m.gen (ρ x) (ρ' x):=fun x hx=>hρ x (by simp [Op.operands,Call.operands,hx])
  have har:=NS.map hargs
  cases b<;>simp only [reduceCtorEq] at h
  case append =>
   obtain ⟨v',w',hr,hp⟩:=dV ty hs har h
   exact ⟨.value v',v',w',by rw [DU];exact FU hr,.inl rfl,hp⟩
  case cap =>
   rw [Option.map_eq_some_iff] at h
   obtain ⟨u,hu,he⟩:=h
   cases he
   obtain ⟨hr,hv⟩:=uK (w:=w) ty har hu
   exact ⟨.value _,_,w,by rw [DU];exact FU hr,.inl rfl,Post.same hs hv⟩
  case copy =>
   obtain ⟨v',w',hr,hp⟩:=mZ ty hs har h
   exact ⟨.value v',v',w',by rw [DU];exact FU hr,.inl rfl,hp⟩
  case clear =>
   obtain ⟨v',w',hr,hp⟩:=lG ty hs har h
   exact ⟨.value v',v',w',by rw [DU];exact FU hr,.inl rfl,hp⟩
  case len =>
   rw [Option.map_eq_some_iff] at h
   obtain ⟨u,hu,he⟩:=h
   cases he
   obtain ⟨hr,hv⟩:=wH ty hs har hu
   exact ⟨.value _,_,w,by rw [DU];exact FU hr,.inl rfl,Post.same hs hv⟩
  case max =>
   split at h
   ·rename_i hp
    rw [Option.map_eq_some_iff] at h
    obtain ⟨u,hu,he⟩:=h
    cases he
    obtain ⟨h1,h2⟩:=Fa hu
    exact ⟨.value _,_,w,by rw [DU,JF hargs hp];exact FU (DZ h1 w),.inl rfl,Post.same hs (AA.plain h2)⟩
   ·cases h
  case min =>
   split at h
   ·rename_i hp
    rw [Option.map_eq_some_iff] at h
    obtain ⟨u,hu,he⟩:=h
    cases he
    obtain ⟨h1,h2⟩:=Fa hu
    exact ⟨.value _,_,w,by rw [DU,JF hargs hp];exact FU (DZ h1 w),.inl rfl,Post.same hs (AA.plain h2)⟩
   ·cases h
end
section
open Go Go.RowKit
variable {P:Program}
abbrev WF (rf:Option Nat):Fence:={ Fence.wide with round:=rf }
theorem ng {rf:Option Nat} {nn:Nat} {f:FuncId} {BF:Array Value} {w:World} {R:Ending→World→Prop} (h:Calls P f BF w R):CallsIn (WF rf) nn P f BF w R:=(callsIn_wide (n:=nn)).2 h
theorem wz {nn:Nat} {c:Code} {Q:Exit→Act→World→Prop} {a:Act} {w:World} (h:c.wpIn Fence.wide 0 P Q a w):c.wpIn (WF none) nn P Q a w:=(wpIn_wide (n:=nn)).2 ((wpIn_wide (n:=0)).1 h)
def WO (J:Nat→World→Prop):Prop:=∀ i W W',J i W→Below W.heap.size W W'→J i W'
structure KF (W W':World):Prop where
 size:W.heap.size≤W'.heap.size
 loop:∀ (k:Nat) (o:Loop),W.heap[k]?=some (.loop o)→W'.heap[k]?=some (.loop o)
 defs:∀ (k:Nat) (o:Option (List Deferred)),W.heap[k]?=some (.deferred o)→W'.heap[k]?=some (.deferred o)
def YB (P:Program) (gf:Nat) (lb:Array Value) (rows:List (List Value)) (Inv:World→Prop) (w:World):Prop :=
 ∀ (l:Nat) (J Jx:Nat→World→Prop) (W:World),Below w.heap.size w W→WO J→WO Jx →
  (∀ i W1 (hi:i<rows.length),J i W1→YieldAt Fence.wide 0 P l (rows[i].toArray) W1 fun e W' =>
   (e=.returned (.bool true)∧J (i+1) W'∧Inv W')∨(e=.returned (.bool false)∧Jx (i+1) W')) →
  Inv W→J 0 W →
  CallsIn Fence.wide 0 P gf (#[.func (.yield l) #[] #[]]++lb) W fun e W'=>(∃ v,e=.returned v)∧(J rows.length W'∨∃ i,Jx i W')
def roundPost (I:Nat→World→Prop) (Ix:Code→Nat→World→Prop) (i:Nat) (W:World):Exit→Act→World→Prop
 | .normal,_,W'=>KF W W'∧I i W'
 | .ret,_,W'=>KF W W'∧Ix .ret i W'
 | .exit id,_,W'=>KF W W'∧Ix (.exit id) i W'
 |_,_,_=>False
theorem QH {g:Operand} {ps:Array Tmp} {NT body:Code} {Q:Exit→Act→World→Prop} {a:Act} {w:World}
 {gf:Nat} {lb:Array Value} (hg:a.eval g=.func (.func gf) #[] lb) (eg:∀ args w,(callFunc gf args).run P w=.ok (.enter gf args) w)
 {rows:List (List Value)} {Inv:World→Prop} (hseq:YB P gf lb rows Inv w)
 (I:Nat→World→Prop) (Ix:Code→Nat→World→Prop) (hI:WO I) (hIp:∀ i W l o x,I i W→w.heap.size≤l→W.heap[l]?=some (.loop o)→I i (W.putObj l (.loop x))) (hIx:∀ c,WO (Ix c)) (a7i:∀ c i W l o x,Ix c i W→w.heap.size≤l→W.heap[l]?=some (.loop o)→Ix c i (W.putObj l (.loop x))) (hInv:∀ i W,I i W→Inv W) (hps:∀ i W (hi:i<rows.length),I i W→(rows[i]).length=ps.size) (h0:I 0 w)
 (qh:∀ (l i:Nat) (W:World) (hi:i<rows.length) (K:Act→World→Prop),I i W→w.heap.size≤l→W.heap.size>l→(∃ o,W.heap[l]?=some (.loop o)) →
  (∀ a1 W1,KF W W1→(∀ o,body.wpIn (Fence.wide.inRound l) 0 P (roundPost I Ix (i+1) (W1.putObj l (.loop o))) a1 (W1.putObj l (.loop o)))→K a1 W1) →
  NT.wpIn (Fence.wide.inRound l) 0 P (Exit.then K (fun _ _ _=>False)) { tmps:=(ps.zip (rows[i].toArray)).foldl (fun t (p,v)=>t.setIfInBounds p v) a.tmps,defers:=[] } W)
 (hdone:∀ (D:Nat) (W:World),w.heap.size≤D→I rows.length W→W.heap[D]?=some (.deferred (some []))→Q .normal { a with defers:={ target:=.collected D,args:=#[] }::a.defers } W)
 (hstop:∀ (D:Nat) (c:Code) (i:Nat) (W:World),w.heap.size≤D→Ix c i W→W.heap[D]?=some (.deferred (some []))→c.wpIn Fence.wide 0 P Q { a with defers:={ target:=.collected D,args:=#[] }::a.defers } W) :
 (Code.rangeFunc g ps NT body).wpIn Fence.wide 0 P Q a w:=by
 refine wpIn_rangeFunc ?_
 intro fn hfn
 obtain ⟨rec,hrec⟩:∃ rec:LoopState→Option Code→Loop,rec=fun st pe=>{ state:=st,pending:=pe,fn,tmps:=a.tmps,params:=ps,assign:=NT,body,defers:=w.heap.size }:=⟨_,rfl⟩
 obtain ⟨W1,hW1⟩:∃ W1,(w.alloc (.deferred (some []))).alloc (.loop (rec .ready none))=W1:=⟨_,rfl⟩
 have hL1:W1.heap[w.heap.size+1]?=some (.loop (rec .ready none)):=by
  rw [← hW1];have:=World.alloc_heap_new (w.alloc (.deferred (some []))) (.loop (rec .ready none));rwa [World.size_alloc] at this
 have hK1:W1.heap[w.heap.size]?=some (.deferred (some [])):=by
  rw [← hW1];exact (Below.heap_alloc _ _ _ (by simp)).trans (World.alloc_heap_new w _)
 have hI1:I 0 W1:=hI 0 w W1 h0 (by rw [← hW1];exact ((Below.refl _ w).alloc (Nat.le_refl _) _).alloc (by simp) _)
 have hb1:Below w.heap.size w W1:=by
  rw [← hW1];exact ((Below.refl _ w).alloc (Nat.le_refl _) _).alloc (by simp) _
 have hsz1:w.heap.size≤W1.heap.size:=hb1.size
 refine ⟨w.heap.size+1,[{ target:=.collected w.heap.size,args:=#[] }],W1,{ target:=.fn (.func gf) lb,args:=#[.func (.yield (w.heap.size+1)) #[] #[]] },W1,gf,
  #[.func (.yield (w.heap.size+1)) #[] #[]]++lb,W1,?_,?_,?_,?_,(fun hh=>by cases hh),?_⟩
 ·rw [← hW1,hrec];exact run_enterLoop_outer _ _ _ _ _
 ·simp only [resolve,hg]
  simp [go_sem]
 ·intro f' hf';exact trivial
 ·simp [invoke,go_sem,eg]
 ·refine (hseq (w.heap.size+1)
   (fun i W=>I i W∧W.heap[w.heap.size+1]?=some (.loop (rec .ready none))∧W.heap[w.heap.size]?=some (.deferred (some [])))
   (fun i W=>∃ c,Ix c i W∧W.heap[w.heap.size+1]?=some (.loop (rec .done (some c)))∧W.heap[w.heap.size]?=some (.deferred (some [])))
   W1 hb1
   (fun s A B hs hb=>⟨hI s A B hs.1 hb,(hb.block _ (Array.getElem?_eq_some_iff.1 hs.2.1).1).trans hs.2.1,(hb.block _ (Array.getElem?_eq_some_iff.1 hs.2.2).1).trans hs.2.2⟩)
   (fun s A B hs hb=>by
    obtain ⟨c,hc,hl,hk⟩:=hs
    exact ⟨c,hIx c s A B hc hb,(hb.block _ (Array.getElem?_eq_some_iff.1 hl).1).trans hl,(hb.block _ (Array.getElem?_eq_some_iff.1 hk).1).trans hk⟩)
   ?_ (hInv _ _ hI1) ⟨hI1,hL1,hK1⟩).mono ?_
  ·rintro i W hlen ⟨hi,hl,hk⟩
   have hlt:w.heap.size+1<W.heap.size:=(Array.getElem?_eq_some_iff.1 hl).1
   have hy:=run_yield (P:=P) (args:=rows[i].toArray) hl (by rw [hrec];simpa using hps i W hlen hi)
   rw [hrec] at hy
   refine ⟨fn,_,NT,body,hy,roundIn_of_wpIn hfn (qh _ i W hlen _ hi (by omega) hlt ⟨_,hl⟩ fun a1 Wa hka hwp=>⟨_,run_beginRound (hka.loop _ _ hl) (by rw [hrec]),?_⟩)⟩
   have hla:=hka.loop _ _ hl
   have hkd:=hka.defs _ _ hk
   have b5t:w.heap.size+1<Wa.heap.size:=(Array.getElem?_eq_some_iff.1 hla).1
   have hl2:(Wa.putObj (w.heap.size+1) (.loop { rec .ready none with state:=.busy })).heap[w.heap.size+1]?=some (.loop { rec .ready none with state:=.busy }):=World.putObj_heap_same b5t
   have hk2:(Wa.putObj (w.heap.size+1) (.loop { rec .ready none with state:=.busy })).heap[w.heap.size]?=some (.deferred (some [])):=(World.putObj_heap_other (by omega)).trans hkd
   refine wpIn_mono (hwp { rec .ready none with state:=.busy }) ?_
   have fin:∀ (jump:Option Code) (W3:World),KF (Wa.putObj (w.heap.size+1) (.loop { rec .ready none with state:=.busy })) W3 →
    (Instr.endRound (w.heap.size+1) jump).run P W3=.ok (.bool jump.isNone) (W3.putObj (w.heap.size+1) (.loop (rec (if jump.isNone then .ready else .done) jump))) ∧
    W3.heap[w.heap.size+1]?=some (.loop { rec .ready none with state:=.busy }) ∧
    (W3.putObj (w.heap.size+1) (.loop (rec (if jump.isNone then .ready else .done) jump))).heap[w.heap.size+1]?=some (.loop (rec (if jump.isNone then .ready else .done) jump)) ∧
    (W3.putObj (w.heap.size+1) (.loop (rec (if jump.isNone then .ready else .done) jump))).heap[w.heap.size]?=some (.deferred (some [])):=fun jump W3 hk3=>by
    have hl3:=hk3.loop _ _ hl2
    have:=run_endRound (P:=P) jump hl3
    rw [hrec] at this ⊢
    exact ⟨this,by rw [hrec] at hl3;exact hl3,World.putObj_heap_same (Array.getElem?_eq_some_iff.1 hl3).1,(World.putObj_heap_other (by omega)).trans (hk3.defs _ _ hk2)⟩
   rintro e a3 W3 hp
   cases e with
   |normal =>
    obtain ⟨hk3,hi3⟩:=hp
    obtain ⟨hr,hl3,hl4,hk4⟩:=fin none W3 hk3
    have hi4:=hIp _ _ _ _ (rec .ready none) hi3 (by omega) hl3
    exact ⟨_,_,hr,.inl ⟨rfl,⟨hi4,hl4,hk4⟩,hInv _ _ hi4⟩⟩
   |ret =>
    obtain ⟨hk3,hi3⟩:=hp
    obtain ⟨hr,hl3,hl4,hk4⟩:=fin (some .ret) W3 hk3
    exact ⟨_,_,hr,.inr ⟨rfl,.ret,a7i _ _ _ _ _ _ hi3 (by omega) hl3,hl4,hk4⟩⟩
   |exit id =>
    obtain ⟨hk3,hi3⟩:=hp
    obtain ⟨hr,hl3,hl4,hk4⟩:=fin (some (.exit id)) W3 hk3
    exact ⟨_,_,hr,.inr ⟨rfl,.exit id,a7i _ _ _ _ _ _ hi3 (by omega) hl3,hl4,hk4⟩⟩
   |goto t=>exact hp.elim
   |panic ch=>exact hp.elim
   |outgrown=>exact hp.elim
  ·rintro e W2 ⟨⟨v,rfl⟩,(⟨hi,hl,hk⟩|⟨i,c,hi,hl,hk⟩)⟩
   ·exact ⟨none,_,by have:=run_endLoop (P:=P) hl (by rw [hrec];simp);rw [hrec] at this;exact this,hdone _ _ (Nat.le_refl _) (hIp _ _ _ _ _ hi (by omega) hl) ((World.putObj_heap_other (by omega)).trans hk)⟩
   ·exact ⟨some c,_,by have:=run_endLoop (P:=P) hl (by rw [hrec];simp);rw [hrec] at this;exact this,hstop _ c i _ (Nat.le_refl _) (a7i _ _ _ _ _ _ hi (by omega) hl) ((World.putObj_heap_other (by omega)).trans hk)⟩
end
section
variable {P:Program} {G:List Nat} {ds:List Deferred} {rf:Option Nat} {nn:Nat}
def Enters (P:Program) (f:FuncId):Prop:=∃ fn,P.funcs[f]?=some fn∧fn.body.isSome=true∧(fn.name=="runtime.NumGoroutine")=false
def rF (P:Program) (G:List Nat) (f:FuncId) (F:List Value→Mem→Option (Value×Mem)):Prop :=
 ∀ BF m v m',F BF m=some (v,m')→∀ ι w (as':Array Value),DL P G ι m w→BI ι m.gen BF as'.toList →
  Calls P f as' w fun e w'=>∃ v',e=.returned v'∧Post P G ι m w v m' v' w'
def IY (P:Program) (G:List Nat) (call:Ep):Prop:=∀ f,rF P G f (call f)∧∀ BF m r,call f BF m=some r→Enters P f
structure Qa (ds:List Deferred) (ι:BN) (g:Nat→Nat) (n:Nat) (t:Tr Value) (a:Act):Prop where
 size:a.tmps.size=n
 defers:a.defers=ds
 val:∀ i,AA ι g (CB t i) (a.tmps.getD i undef)
theorem Qa.mono {ι ι':BN} {g g':Nat→Nat} (hl:Le ι g ι' g') {n:Nat} {t:Tr Value} {a:Act} (h:Qa ds ι g n t a):Qa ds ι' g' n t a :=
 ⟨h.size,h.defers,fun i=>(h.val i).mono hl⟩
theorem Qa.put {ι:BN} {g:Nat→Nat} {n:Nat} {t:Tr Value} {a:Act} (h:Qa ds ι g n t a) {dst:Option Tmp} (hd:∀ d,dst=some d→d<n) {v v':Value} (hv:AA ι g v v') :
 Qa ds ι g n (Gz t dst v) (a.put dst v'):=by
 cases dst with
 |none=>exact h
 |some d =>
  have hdn:=hd d rfl
  refine ⟨by simp [Act.put,h.size],h.defers,fun i=>?_⟩
  simp only [Gz,Act.put]
  rw [Di]
  by_cases e:d=i
  ·subst e
   rw [if_pos rfl]
   have:(a.tmps.setIfInBounds d v').getD d undef=v':=by
    simp [h.size,hdn]
   rw [this];exact hv
  ·rw [if_neg e]
   have:(a.tmps.setIfInBounds d v').getD i undef=a.tmps.getD i undef:=by
    simp [Array.getElem?_setIfInBounds_ne e]
   rw [this];exact h.val i
theorem I7 {ι:BN} {m:Mem} {w:World} {n:Nat} {t:Tr Value} {a:Act} (hs:DL P G ι m w) (ht:Qa ds ι m.gen n t a) {x:Operand} (hx:FI G x=true) :
 AA ι m.gen (ev t x) (a.eval x):=by
 cases x with
 |tmp i=>exact ht.val i
 |const v=>exact AA.plain hx
 |global k =>
  have hk:k∈G:=by simpa [FI] using hx
  obtain ⟨ib,h1,h2,h3,h4,h5⟩:=hs.glob k hk
  exact .ptr _ _ ⟨ib,h1,Nat.zero_le _,fun _=>by simp [h2,h3.1]⟩
 |func f=>exact .fn f [] [] [] [] rfl (fun i hi=>absurd hi (by simp)) rfl (fun i hi=>absurd hi (by simp))
theorem AA.Jk {ι:BN} {g:Nat→Nat} {v v':Value} (h:AA ι g v v') (b:Bool):v=.bool b↔v'=.bool b:=by
 constructor
 ·intro e;subst e;cases h;rfl
 ·intro e;subst e;cases h;rfl
theorem pK {ι:BN} {g:Nat→Nat} {n:Nat} {t:Tr Value} {a:Act} (ht:Qa ds ι g n t a) (ops:Array Oper) (j:Nat):yielded ops a.tmps j=D6 ops t j:=by
 unfold yielded D6
 cases hd:(ops[j]?).bind (·.dst) with
 |none=>rfl
 |some d =>
  simp only [Option.bind_some]
  have hv:=ht.val d
  cases ha:a.tmps[d]? with
  |none =>
   have e:a.tmps.getD d undef=undef:=by simp [ha]
   rw [e] at hv
   have:∀ b,CB t d≠.bool b:=fun b hb=>by
    have:=(hv.Jk b).1 hb
    cases this
   split
   ·rename_i h;cases h
   ·split
    ·rename_i b hb;exact absurd hb (this b)
    ·rfl
  |some u =>
   have e:a.tmps.getD d undef=u:=by simp [ha]
   rw [e] at hv
   split
   ·rename_i b hb
    cases hb
    have:=(hv.Jk b).2 rfl
    rw [this]
   ·rename_i hne
    split
    ·rename_i b hb
     have:=(hv.Jk b).1 hb
     exact absurd (by rw [this]) (hne b)
    ·rfl
theorem uX {ι:BN} {g:Nat→Nat} {n:Nat} {t:Tr Value} {a:Act} (ht:Qa ds ι g n t a) (ops:Array Oper) (o:Oper) :
 Region.wanted o (yielded ops a.tmps)=Region.wanted o (D6 ops t):=by
 unfold Region.wanted
 cases o.guard with
 |none=>rfl
 |some p=>obtain ⟨j,b⟩:=p;simp only [pK ht]
theorem MW {call:Ep} {ι:BN} {m m':Mem} {w:World} {ρ:Operand→Value} {o:Oper} {v:Value} {a:Act} (hc:IY P G call) (hs:DL P G ι m w)
 (hρ:∀ x∈o.op.operands,AA ι m.gen (ρ x) (a.eval x)) (h:Ce P call ρ o m=some (v,m')) {K:Act→World→Prop} {Q:Exit→Act→World→Prop}
 (hk:∀ v' w',Post P G ι m w v m' v' w'→K (a.put o.dst v') w'):o.wpIn (WF rf) nn P a w K Q:=by
 unfold Ce at h
 split at h
 ·rename_i f args aT hop
  rw [hop] at hρ
  have hf:=hρ f (by simp [Op.operands,Call.operands])
  have hargs:∀ x∈args,AA ι m.gen (ρ x) (a.eval x):=fun x hx=>hρ x (by simp [Op.operands,Call.operands,hx])
  split at h
  ·rename_i g fs cs hfv
   rw [hfv] at hf
   obtain ⟨fs',cs',e1,hfs,hcs⟩:∃ fs' cs',a.eval f=.func (.func g) fs' cs'∧BI ι m.gen fs.toList fs'.toList∧BI ι m.gen cs.toList cs'.toList:=by
    generalize a.eval f=u at hf
    cases hf with
    |fn _ l1 l2 l3 l4 h1 h2 h3 h4=>exact ⟨⟨l2⟩,⟨l4⟩,rfl,⟨h1,h2⟩,⟨h3,h4⟩⟩
   obtain ⟨a8o,a4k⟩:=hc g
   obtain ⟨fn,hfn,hbody,hname⟩:=a4k _ _ _ h
   have hcall:=a8o _ _ _ _ h ι w (fs'++args.map a.eval++cs') hs (by
    rw [Array.toList_append,Array.toList_append,Array.toList_map]
    exact (hfs.append (BI.QK fun x hx=>hargs x (by simpa using hx))).append hcs)
   have hrun:(execOp a.eval o).run P w=.ok (.enter g (fs'++args.map a.eval++cs')) w:=by
    simp only [execOp,hop,resolve,e1,Deferred.ofValue,Sem.run_bind,Sem.run_pure,Result.andThen_ok,invoke,callFunc,run_program,hfn,hname,Bool.false_eq_true,if_false]
    have:fn.body.isNone=false:=by cases hb:fn.body<;>simp_all
    simp [this]
   unfold Oper.wpIn
   rw [Oper.semAt_eq _ _ _ (fun c hc=>by rw [hop] at hc;cases hc),hrun]
   refine ⟨fun _ _=>trivial,?_⟩
   rw [Oper.uponIn_enter]
   refine ⟨(fun hh=>by cases hh),?_⟩
   exact (ng hcall).mono fun e w' he=>by
    obtain ⟨v',rfl,hp⟩:=he
    exact hk v' w' hp
  ·cases h
 ·obtain ⟨nx,v',w',hr,hn,hp⟩:=uV hs hρ h
  unfold Oper.wpIn
  rw [Oper.semAt_eq _ _ _ (fun c hc=>by rw [EX,hc] at h;cases h),hr]
  refine ⟨fun _ _=>trivial,?_⟩
  rcases hn with rfl|⟨rfl,rfl⟩
  ·exact hk v' w' hp
  ·exact hk undef w' hp
def DV (P:Program) (G:List Nat) (ds:List Deferred) (n:Nat) (s:St) (ι:BN) (a:Act) (w:World):Prop:=DL P G ι s.m w∧Qa ds ι s.m.gen n s.t a
def Reach (P:Program) (G:List Nat) (ds:List Deferred) (n:Nat) (ι:BN) (s:St) (w:World) (s':St) (a':Act) (w':World):Prop :=
 ∃ ι',Ext ι s.m w ι' s'.m w'∧DV P G ds n s' ι' a' w'
theorem DK {n:Nat} {o:Oper} (h:G5 G n o=true):(∀ x∈o.op.operands,FI G x=true)∧(∀ d,o.dst=some d→d<n):=by
 unfold G5 at h
 simp only [Bool.and_eq_true] at h
 obtain ⟨⟨h1,h2⟩,_⟩:=h
 refine ⟨fun x hx=>?_,fun d hd=>?_⟩
 ·exact Array.all_eq_true_iff_forall_mem.1 h1 x hx
 ·rw [hd] at h2;simpa using h2
theorem SB {call:Ep} (hc:IY P G call) {n:Nat} {ops:Array Oper} {Q:Exit→Act→World→Prop}:∀ (l:List Oper) (s s':St) (ι:BN) (a:Act) (w:World),
 (∀ o∈l,G5 G n o=true)→J4 P call ops l s=some s'→DV P G ds n s ι a w→(∀ a' w',Reach P G ds n ι s w s' a' w'→Q .normal a' w')→wpListIn (WF rf) nn P ops Q l a w
 |[],s,s',ι,a,w,_,h,hst,hq=>by
  cases h
  exact hq a w ⟨ι,Ext.refl _ _ _,hst⟩
 |o::l,s,s',ι,a,w,hok,h,hst,hq=>by
  simp only [J4] at h
  cases h1:KZ P call ops o s with
  |none=>rw [h1] at h;cases h
  |some s1 =>
   rw [h1] at h
   obtain ⟨hop,hdst⟩:=DK (hok o (by simp))
   have rest:∀ a1 w1,Reach P G ds n ι s w s1 a1 w1→wpListIn (WF rf) nn P ops Q l a1 w1:=fun a1 w1 hr=>by
    obtain ⟨ι1,he,hst1⟩:=hr
    refine SB hc l s1 s' ι1 a1 w1 (fun o ho=>hok o (by simp [ho])) h hst1 fun a' w' hr'=>hq a' w' ?_
    obtain ⟨ι2,k1,k2⟩:=hr'
    exact ⟨ι2,Ext.trans hst.1 he k1,k2⟩
   unfold wpListIn
   rw [uX hst.2]
   unfold KZ at h1
   split at h1
   ·rename_i hw
    rw [if_pos hw]
    unfold nM at h1
    cases hv:Ce P call (ev s.t) o s.m with
    |none=>rw [hv] at h1;cases h1
    |some r =>
     obtain ⟨v,m1⟩:=r
     rw [hv] at h1
     cases h1
     refine MW hc hst.1 (fun x hx=>I7 hst.1 hst.2 (hop x hx)) hv fun v' w' hp=>rest _ _ ?_
     obtain ⟨ι1,he,Dp,NZ⟩:=hp
     exact ⟨ι1,he,Dp,(hst.2.mono he.le).put hdst NZ⟩
   ·rename_i hw
    rw [if_neg hw]
    cases h1
    refine ⟨fun _ _=>trivial,?_⟩
    exact rest _ _ ⟨ι,Ext.refl _ _ _,hst.1,hst.2.put hdst AA.undef⟩
def BZ.O5:BZ→Exit
 | .normal=>.normal
 | .ret=>.ret
 | .exit id=>.exit id
def bD (P:Program) (G:List Nat) (call:Ep):Prop:=∀ (ds:List Deferred) (rf:Option Nat) (nn n id:Nat) (ops:Array Oper) (s s':St) (ι:BN) (a:Act) (w:World) (Q:Exit→Act→World→Prop),
 (∀ o∈ops.toList,G5 G n o=true)→Gn ops=true→Js P call ops 0 ops.toList s=some s'→DV P G ds n s ι a w →
 (∀ a' w',Reach P G ds n ι s w s' a' w'→Q .normal a' w')→(Code.region id ops true).wpIn (WF rf) nn P Q a w
def Marks (B:Nat) (w:World):List Deferred→Prop
 |[]=>B≤w.heap.size
 |d::ds=>(∃ D,d={ target:=.collected D,args:=#[] }∧B≤D∧w.heap[D]?=some (.deferred (some []))∧∀ d'∈ds,d'≠d)∧Marks B w ds
theorem Marks.base {B:Nat} {w:World}:∀ {ds:List Deferred},Marks B w ds→B≤w.heap.size
 |[],h=>h
 |_::_,⟨_,h⟩=>Marks.base h
theorem LK {ι:BN} {g:Nat→Nat} {ib:IB} {x:HY} {o:Obj} (h:QC P ι g ib x (some o)) (hc:o.isCells=false):∃ es c,o=.map es c:=by
 cases x<;>cases o<;>simp only [QC] at h<;>first|cases h|skip
 ·cases hc
 ·exact ⟨_,_,rfl⟩
theorem Marks.ext {ι ι':BN} {m m':Mem} {w w':World} {B:Nat} (hs:DL P G ι m w) (h:Ext ι m w ι' m' w'):∀ {ds:List Deferred},Marks B w ds→Marks B w' ds
 |[],hb=>Nat.le_trans hb h.heap
 |d::ds,⟨⟨D,e,hBD,hD,hne⟩,hr⟩=>by
  refine ⟨⟨D,e,hBD,?_,hne⟩,Marks.ext hs h hr⟩
  rw [h.frame D (Array.getElem?_eq_some_iff.1 hD).1 ?_];exact hD
  intro b ib hb hc
  have h1:=hs.blk b ib hb
  rw [hc,hD] at h1
  obtain ⟨_,_,h2⟩:=LK h1 rfl
  cases h2
theorem Marks.lt {B:Nat} {w:World}:∀ {ds:List Deferred},Marks B w ds→∀ d∈ds,∃ D,d={ target:=.collected D,args:=#[] }∧D<w.heap.size
 |d::ds,⟨⟨D,e,_,hD,_⟩,hr⟩,d',hd=>by
  rcases List.mem_cons.1 hd with rfl|hd
  ·exact ⟨D,e,(Array.getElem?_eq_some_iff.1 hD).1⟩
  ·exact Marks.lt hr d' hd
theorem JQ {ι:BN} {m:Mem} {w:World} (hs:DL P G ι m w) (k:Nat):DL P G ι (Ie m k) w:=⟨hs.dom,hs.blk,hs.inj,hs.glob⟩
theorem a1w {ι ι' ι'':BN} {m m' m'':Mem} {w w' w'':World} (hs:DL P G ι m w) (h:Ext ι m w ι' m' w') (k:Ext ι' (Ie m' m'.size) w' ι'' m'' w''):Ext ι m w ι'' (Ie m'' (min m'.low m''.low)) w'':=by
 have b5x:∀ b,b<m'.size→b<m''.low→m''.get b=m'.get b:=k.keep
 refine ⟨Nat.le_trans h.size k.size,Nat.le_trans (Nat.min_le_left _ _) h.low,fun b hb hl=>?_,fun b hb hr=>?_,fun b hb=>?_,h.le.trans k.le,fun b ib'' hb=>?_,fun b ib'' hb=>?_,
  Nat.le_trans h.heap k.heap,fun c hc hf=>?_,k.tape.trans h.tape,k.os.trans h.os,k.output.trans h.output⟩
 ·have hl':b<min m'.low m''.low:=hl
  exact (b5x b (Nat.lt_of_lt_of_le hb h.size) (by omega)).trans (h.keep b hb (by omega))
 ·exact (k.ro b (Nat.lt_of_lt_of_le hb h.size) ((h.ro' b hb).trans hr)).trans (h.ro b hb hr)
 ·exact (k.ro' b (Nat.lt_of_lt_of_le hb h.size)).trans (h.ro' b hb)
 ·rcases k.back b ib'' hb with ⟨ib',h1,h2⟩|h1
  ·rcases h.back b ib' h1 with ⟨ib,h3,h4⟩|h3
   ·exact .inl ⟨ib,h3,h4.trans h2⟩
   ·exact .inr (h2▸h3)
  ·exact .inr (Nat.le_trans h.heap h1)
 ·rcases k.dom b ib'' hb with ⟨ib',h1⟩|h1
  ·exact h.dom b ib' h1
  ·exact .inr (Nat.le_trans h.size h1)
 ·have hf':∀ b ib,ι b=some ib→ib.blk=c→m.ro b=true∨b<min m'.low m''.low:=hf
  rw [k.frame c (Nat.lt_of_lt_of_le hc h.heap) ?_,h.frame c hc ?_]
  ·intro b ib hb hc'
   rcases hf' b ib hb hc' with h1|h1
   ·exact .inl h1
   ·exact .inr (by omega)
  ·intro b ib' hb hc'
   rcases h.back b ib' hb with ⟨ib,h1,h2⟩|h1
   ·rcases hf' b ib h1 (h2.trans hc') with h3|h3
    ·exact .inl ((h.ro' b (hs.dom b ib h1).1).trans h3)
    ·exact .inr (by omega)
   ·exact absurd hc (by omega)
theorem Ur {ι ι':BN} {m m':Mem} {w W W':World} (h:Ext ι m w ι' m' W) (hb:Go.RowKit.Below W.heap.size W W'):Ext ι m w ι' m' W' :=
 ⟨h.size,h.low,h.keep,h.ro,h.ro',h.le,h.back,h.dom,Nat.le_trans h.heap hb.size,fun c hc hf=>(hb.block c (Nat.lt_of_lt_of_le hc h.heap)).trans (h.frame c hc hf),hb.tape.trans h.tape,hb.os.trans h.os,hb.output.trans h.output⟩
theorem Po {ι:BN} {m:Mem} {w w':World} (hs:DL P G ι m w) (hb:Go.RowKit.Below w.heap.size w w'):DL P G ι m w' :=
 ⟨fun b ib h=>⟨(hs.dom b ib h).1,Nat.lt_of_lt_of_le (hs.dom b ib h).2 hb.size⟩,fun b ib h=>by rw [hb.block ib.blk (hs.dom b ib h).2];exact hs.blk b ib h,hs.inj,hs.glob⟩
theorem fZ {ι ι':BN} {m m':Mem} {w W:World} {l:Nat} (h:Ext ι m w ι' m' W) (hl:w.heap.size≤l) (x:Obj):Ext ι m w ι' m' (W.putObj l x) :=
 ⟨h.size,h.low,h.keep,h.ro,h.ro',h.le,h.back,h.dom,by simpa using h.heap,fun c hc hf=>(World.putObj_heap_other (by omega)).trans (h.frame c hc hf),h.tape,h.os,h.output⟩
theorem yO {ι ι':BN} {m m':Mem} {w W:World} {l:Nat} (h:Ext ι m w ι' m' W) (hl:l<w.heap.size) (x:Obj):Ext ι m (w.putObj l x) ι' m' (W.putObj l x):=by
 refine ⟨h.size,h.low,h.keep,h.ro,h.ro',h.le,fun b ib' hb=>by simpa using h.back b ib' hb,h.dom,by simpa using h.heap,fun c hc hf=>?_,h.tape,h.os,h.output⟩
 by_cases e:c=l
 ·subst e
  rw [World.putObj_heap_same hl,World.putObj_heap_same (Nat.lt_of_lt_of_le hl h.heap)]
 ·rw [World.putObj_heap_other e,World.putObj_heap_other e]
  exact h.frame c (by simpa using hc) hf
theorem kV {ι ι':BN} {m m':Mem} {w w':World} (hs:DL P G ι m w) (h:Ext ι m w ι' m' w'):KF w w':=by
 have key:∀ (k:Nat) (o:Obj),w.heap[k]?=some o→o.isCells=false→(∀ es c,o≠.map es c)→w'.heap[k]?=some o:=fun k o hk ho hm=>by
  rw [h.frame k (Array.getElem?_eq_some_iff.1 hk).1 ?_];exact hk
  intro b ib hb hc
  have h1:=hs.blk b ib hb
  rw [hc,hk] at h1
  obtain ⟨es,c,h2⟩:=LK h1 ho
  exact absurd h2 (hm es c)
 exact ⟨h.heap,fun k o hk=>key k _ hk rfl (fun _ _ e=>by cases e),fun k o hk=>key k _ hk rfl (fun _ _ e=>by cases e)⟩
theorem V9 {ι:BN} {m:Mem} {W:World} {l:Nat} {o:Loop} (hs:DL P G ι m W) (ho:W.heap[l]?=some (.loop o)) (x:Obj):DL P G ι m (W.putObj l x):=by
 have hg:=grownBy_putObj' W l x
 refine ⟨fun b ib hb=>⟨(hs.dom b ib hb).1,Nat.lt_of_lt_of_le (hs.dom b ib hb).2 hg.size⟩,fun b ib hb=>?_,hs.inj,hs.glob⟩
 rw [hg.block ib.blk (hs.dom b ib hb).2 ?_];exact hs.blk b ib hb
 intro e
 have e':ib.blk=l:=by cases e;rfl
 have h4:=hs.blk b ib hb
 rw [e',ho] at h4
 obtain ⟨_,_,h5⟩:=LK h4 rfl
 cases h5
theorem Vu {ι:BN} {g:Nat→Nat} {n:Nat}:∀ (ps:List Tmp) (vs:List Value) {t:Tr Value} {T:Array Value},Qa ds ι g n t { tmps:=T,defers:=ds }→(∀ p∈ps,p<n)→vs.all plain=true →
 Qa ds ι g n (Kv t ps vs) { tmps:=(ps.zip vs).foldl (fun t (p,v)=>t.setIfInBounds p v) T,defers:=ds }
 |[],_,t,T,h,_,_=>by simpa [Kv] using h
 |p::ps,[],t,T,h,_,_=>by simpa [Kv] using h
 |p::ps,v::vs,t,T,h,hp,hv=>by
  simp only [List.all_cons,Bool.and_eq_true] at hv
  have h1:=h.put (dst:=some p) (fun d hd=>by cases hd;exact hp p (List.mem_cons_self ..)) (AA.plain hv.1)
  exact Vu ps vs (t:=Og t p v) (T:=T.setIfInBounds p v) h1 (fun q hq=>hp q (List.mem_cons_of_mem _ hq)) hv.2
theorem vM (ps:Array Tmp) (vs:List Value) (T:Array Value):(ps.zip vs.toArray).foldl (fun t (p,v)=>t.setIfInBounds p v) T=(ps.toList.zip vs).foldl (fun t (p,v)=>t.setIfInBounds p v) T:=by
 rw [← Array.foldl_toList,Array.toList_zip]
theorem qy {g:FuncId} (h:Enters P g) (args:Array Value) (w:World):(callFunc g args).run P w=.ok (.enter g args) w:=by
 obtain ⟨fn,hfn,hbody,hname⟩:=h
 simp only [callFunc,run_program,hfn,hname,Bool.false_eq_true,if_false,Sem.run_bind,Result.andThen_ok]
 have:fn.body.isNone=false:=by cases hb:fn.body<;>simp_all
 simp [this]
def Np (P:Program) (G:List Nat) (ask:Mem→Prop) (ι0:BN) (g0:Nat→Nat) (lb:List Value) (lb':Array Value) (W:World):Prop:=∃ ι m,DL P G ι m W∧BI ι m.gen lb lb'.toList∧ask m∧Le ι0 g0 ι m.gen
def XK (P:Program) (G:List Nat) (call:Ep):Prop:=∀ (g:FuncId) (fn:Func) (lb:List Value) (m m1:Mem) (v:Value) (rows:List (List Value)),P.funcs[g]?=some fn→call g (Ed fn.ntmps lb) m=some (v,m1)→MK v=some rows →
 Enters P g∧∀ (ι:BN) (w:World) (lb':Array Value),DL P G ι m w→BI ι m.gen lb lb'.toList→YB P g lb' rows (Np P G (fun m'=>∃ m1',call g (Ed fn.ntmps lb) m'=some (v,m1')) ι m.gen lb lb') w
theorem Ky {n:Nat} {NT body:St→Option (BZ×St)} {ask:Mem→Prop} {t:Tr Value} {ps:List Tmp} {vs:List Value} {rest:List (List Value)} {m m':Mem} {x:BZ} (h:Ea n NT body ask t ps (vs::rest) m=some (x,m')) :
 vs.length=n∧vs.all plain=true∧∃ s1,NT { t:=Kv t ps vs,m:=Ie m m.size }=some (.normal,s1)∧∃ xb s2,body s1=some (xb,s2) ∧
  ((xb=.normal∧ask (Ie s2.m (min m.low s2.m.low))∧Ea n NT body ask t ps rest (Ie s2.m (min m.low s2.m.low))=some (x,m'))∨(xb≠.normal∧x=xb∧m'=Ie s2.m (min m.low s2.m.low))):=by
 unfold Ea at h
 split at h
 case isFalse=>cases h
 rename_i hc
 refine ⟨hc.1,hc.2,?_⟩
 split at h
 case h_2=>cases h
 rename_i s1 h1
 refine ⟨s1,h1,?_⟩
 split at h
 case h_2=>cases h
 rename_i xb s2 h3
 refine ⟨xb,s2,h3,?_⟩
 cases xb with
 |normal =>
  simp only at h
  split at h
  case isFalse=>cases h
  rename_i h5
  exact .inl ⟨rfl,h5,h⟩
 |ret=>cases h;exact .inr ⟨(fun e=>by cases e),rfl,rfl⟩
 |exit id=>cases h;exact .inr ⟨(fun e=>by cases e),rfl,rfl⟩
def a7j:BZ→Code→Prop
 | .normal,_=>False
 | .ret,c=>c=.ret
 | .exit id,c=>c=.exit id
theorem iZ {call:Ep} (hsq:XK P G call) {n:Nat} {f:Operand} {ps:Array Tmp} {NT body:Code} {fA fB:St→Option (BZ×St)}
 (ihA:∀ (l:Nat) (s s':St) (x:BZ) (ι:BN) (a:Act) (w:World) (Q:Exit→Act→World→Prop),fA s=some (x,s')→DV P G [] n s ι a w→(∀ a' w' ι',Ext ι s.m w ι' s'.m w'→DL P G ι' s'.m w'→(x=.normal→DV P G [] n s' ι' a' w')→Q x.O5 a' w')→NT.wpIn (WF (some l)) 0 P Q a w)
 (ihB:∀ (l:Nat) (s s':St) (x:BZ) (ι:BN) (a:Act) (w:World) (Q:Exit→Act→World→Prop),fB s=some (x,s')→DV P G [] n s ι a w→(∀ a' w' ι',Ext ι s.m w ι' s'.m w'→DL P G ι' s'.m w'→(x=.normal→DV P G [] n s' ι' a' w')→Q x.O5 a' w')→body.wpIn (WF (some l)) 0 P Q a w)
 (hpn:∀ p∈ps.toList,p<n) {s:St} {ι:BN} {a:Act} {w:World} {Q:Exit→Act→World→Prop} (hst:DV P G ds n s ι a w) {B:Nat} (hmk:Marks B w ds) (hf:FI G f=true)
 {g:FuncId} {fs lb:Array Value} (hev:ev s.t f=.func (.func g) fs lb) (hfs:fs.size=0) {fn:Func} (hfn:P.funcs[g]?=some fn) {v:Value} {m0:Mem} (hcall:call g (Ed fn.ntmps lb.toList) s.m=some (v,m0)) {rows:List (List Value)} (hrows:MK v=some rows)
 {x:BZ} {m':Mem} (hrun:Ea ps.size fA fB (fun m'=>∃ m1,call g (Ed fn.ntmps lb.toList) m'=some (v,m1)) s.t ps.toList rows s.m=some (x,m'))
 (hq:∀ ds' a' w' ι',Ext ι s.m w ι' m' w'→DV P G ds' n { t:=s.t,m:=m' } ι' a' w'→Marks B w' ds'→Q x.O5 a' w'):(Code.rangeFunc f ps NT body).wpIn Fence.wide 0 P Q a w:=by
 obtain ⟨hent,hseq⟩:=hsq g fn lb.toList s.m m0 v rows hfn hcall hrows
 have hfr:=I7 hst.1 hst.2 hf
 rw [hev] at hfr
 obtain ⟨lb',hg,hlb⟩:∃ lb',a.eval f=.func (.func g) #[] lb'∧BI ι s.m.gen lb.toList lb'.toList:=by
  generalize a.eval f=u at hfr
  cases hfr with
  |fn _ l1 l2 l3 l4 h1 h2 h3 h4 =>
   have e:l2=[]:=List.eq_nil_of_length_eq_zero (by rw [← h1];exact hfs)
   subst e
   exact ⟨⟨l4⟩,rfl,h3,h4⟩
 have hso:=hseq ι w lb' hst.1 hlb
 generalize hask:(fun m'=>∃ m1,call g (Ed fn.ntmps lb.toList) m'=some (v,m1))=ask at *
 have b0w:ask s.m:=by rw [← hask];exact ⟨m0,hcall⟩
 clear hcall
 refine QH (g:=f) (gf:=g) (lb:=lb') (rows:=rows) (Inv:=Np P G ask ι s.m.gen lb.toList lb') hg (qy hent) hso
  (fun i W=>∃ ι1 m1,Ext ι s.m w ι1 m1 W∧DL P G ι1 m1 W∧Ea ps.size fA fB ask s.t ps.toList (rows.drop i) m1=some (x,m')∧ask m1)
  (fun c _ W=>a7j x c∧∃ ι1,Ext ι s.m w ι1 m' W∧DL P G ι1 m' W) ?_ ?_ ?_ ?_ ?_ ?_ ?_ ?_ ?_ ?_
 ·rintro i W W' ⟨ι1,m1,h1,h2,h3,h5⟩ hb
  exact ⟨ι1,m1,Ur h1 hb,Po h2 hb,h3,h5⟩
 ·rintro i W l o x' ⟨ι1,m1,h1,h2,h3,h5⟩ hl ho
  exact ⟨ι1,m1,fZ h1 hl _,V9 h2 ho _,h3,h5⟩
 ·rintro c i W W' ⟨h0,ι1,h1,h2⟩ hb
  exact ⟨h0,ι1,Ur h1 hb,Po h2 hb⟩
 ·rintro c i W l o x' ⟨h0,ι1,h1,h2⟩ hl ho
  exact ⟨h0,ι1,fZ h1 hl _,V9 h2 ho _⟩
 ·rintro i W ⟨ι1,m1,h1,h2,h3,h5⟩
  exact ⟨ι1,m1,h2,⟨hlb.1,fun k hk=>(hlb.2 k hk).mono h1.le⟩,h5,h1.le⟩
 ·rintro i W hi ⟨ι1,m1,h1,h2,h3,h5⟩
  rw [List.drop_eq_getElem_cons hi] at h3
  exact (Ky h3).1
 ·exact ⟨ι,s.m,Ext.refl _ _ _,hst.1,by rw [List.drop_zero];exact hrun,b0w⟩
 ·rintro l i W hi K ⟨ι1,m1,h1,h2,h3,h5⟩ hl hlW ⟨o,ho⟩ hK
  rw [List.drop_eq_getElem_cons hi] at h3
  obtain ⟨e1,e2,s1,e3,xb,s2,e5,e7⟩:=Ky h3
  have hT:Qa [] ι1 m1.gen n s.t { tmps:=a.tmps,defers:=[] }:=⟨hst.2.size,rfl,fun k=>(hst.2.val k).mono h1.le⟩
  have hT2:=Vu ps.toList rows[i] hT hpn e2
  rw [← vM] at hT2
  refine ihA l _ s1 .normal ι1 _ W _ e3 ⟨JQ h2 _,hT2⟩ fun a1 w1 ι2 x1 x2 x3=>?_
  have hst1:=x3 rfl
  have hka:KF W w1:=kV (JQ h2 _) x1
  refine hK a1 w1 hka fun o'=>?_
  have ho1:=hka.loop _ _ ho
  have a6g:=V9 hst1.1 ho1 (.loop o')
  refine ihB l s1 s2 xb ι2 a1 _ _ e5 ⟨a6g,hst1.2⟩ fun a3 w3 ι3 y1 y2 y3=>?_
  have hA:=fZ h1 hl (.loop o')
  have hE:=Ext.trans (V9 (JQ h2 m1.size) ho (.loop o')) (yO x1 hlW (.loop o')) y1
  have hE4:Ext ι s.m w ι3 (Ie s2.m (min m1.low s2.m.low)) w3:=a1w hst.1 hA hE
  have hkb:KF (w1.putObj l (.loop o')) w3:=kV a6g y1
  rcases e7 with ⟨rfl,q1,q2⟩|⟨q0,rfl,rfl⟩
  ·exact ⟨hkb,ι3,_,hE4,JQ y2 _,q2,q1⟩
  ·cases x with
   |normal=>exact absurd rfl q0
   |ret=>exact ⟨hkb,rfl,ι3,hE4,JQ y2 _⟩
   |exit id=>exact ⟨hkb,rfl,ι3,hE4,JQ y2 _⟩
 ·rintro D W hD ⟨ι1,m1,h1,h2,h3,h5⟩ hDo
  rw [List.drop_length] at h3
  simp only [Ea,Option.some.injEq,Prod.mk.injEq] at h3
  obtain ⟨rfl,rfl⟩:=h3
  have hmk':=hmk.ext hst.1 h1
  refine hq ({ target:=.collected D,args:=#[] }::ds) _ W ι1 h1 ⟨h2,hst.2.size,by rw [hst.2.defers],fun k=>(hst.2.val k).mono h1.le⟩ ⟨⟨D,rfl,Nat.le_trans hmk.base hD,hDo,fun d' hd' e=>?_⟩,hmk'⟩
  obtain ⟨D',e1,e2⟩:=hmk.lt d' hd'
  rw [e1] at e
  cases e
  omega
 ·rintro D c i W hD ⟨h0,ι1,h1,h2⟩ hDo
  have hmk':=hmk.ext hst.1 h1
  have hfin:Q x.O5 { a with defers:={ target:=.collected D,args:=#[] }::a.defers } W:=by
   refine hq ({ target:=.collected D,args:=#[] }::ds) _ W ι1 h1 ⟨h2,hst.2.size,by rw [hst.2.defers],fun k=>(hst.2.val k).mono h1.le⟩ ⟨⟨D,rfl,Nat.le_trans hmk.base hD,hDo,fun d' hd' e=>?_⟩,hmk'⟩
   obtain ⟨D',e1,e2⟩:=hmk.lt d' hd'
   rw [e1] at e
   cases e
   omega
  cases x with
  |normal=>exact h0.elim
  |ret=>cases h0;exact wpIn_ret hfin
  |exit id=>cases h0;exact wpIn_exit hfin
theorem VD {call:Ep} (hc:IY P G call) (hsq:XK P G call) (hd:bD P G call) {n N:Nat}:∀ (c:Code) (B:Nat) (ds:List Deferred) (rf:Option Nat) (nn:Nat) (s s':St) (x:BZ) (ι:BN) (a:Act) (w:World) (Q:Exit→Act→World→Prop),
 (rf=none∨flat c=true)→codeOk G n c=true→BX P call N c s=some (x,s')→DV P G ds n s ι a w→Marks B w ds →
 (∀ ds' a' w',Reach P G ds' n ι s w s' a' w'→Marks B w' ds'→(flat c=true→ds'=ds)→Q x.O5 a' w')→c.wpIn (WF rf) nn P Q a w:=by
 intro c
 induction c with
 |skip=>intro B ds rf nn s s' x ι a w Q _ _ h hst hmk hq;cases h;exact wpIn_skip (hq ds a w ⟨ι,Ext.refl _ _ _,hst⟩ hmk fun _=>rfl)
 |label l=>intro B ds rf nn s s' x ι a w Q _ _ h hst hmk hq;cases h;exact wpIn_label (hq ds a w ⟨ι,Ext.refl _ _ _,hst⟩ hmk fun _=>rfl)
 |ret=>intro B ds rf nn s s' x ι a w Q _ _ h hst hmk hq;cases h;exact wpIn_ret (hq ds a w ⟨ι,Ext.refl _ _ _,hst⟩ hmk fun _=>rfl)
 |exit id=>intro B ds rf nn s s' x ι a w Q _ _ h hst hmk hq;cases h;exact wpIn_exit (hq ds a w ⟨ι,Ext.refl _ _ _,hst⟩ hmk fun _=>rfl)
 |goto l=>intro B ds rf nn s s' x ι a w Q _ hok;cases hok
 |scope b _=>intro B ds rf nn s s' x ι a w Q _ hok;cases hok
 |refuse y=>intro B ds rf nn s s' x ι a w Q _ hok;cases hok
 |rangeFunc f ps y z ihy ihz =>
  intro B ds rf nn s s' x ι a w Q hfl hok h hst hmk hq
  have hrf:rf=none:=hfl.resolve_right (by simp [flat])
  subst hrf
  simp only [codeOk,Bool.and_eq_true] at hok
  obtain ⟨⟨⟨hok1,hok2⟩,a8k⟩,b7g⟩:=hok
  simp only [BX] at h
  split at h
  case h_2=>cases h
  rename_i g fs lb hev
  split at h
  case h_2=>cases h
  rename_i fn hfn
  split at h
  case isFalse=>cases h
  rename_i hc0
  obtain ⟨hfs,hfy,hfz⟩:=hc0
  split at h
  case h_2=>cases h
  rename_i v m0 hcall
  split at h
  case h_2=>cases h
  rename_i rows hrows
  rw [Option.map_eq_some_iff] at h
  obtain ⟨⟨x1,m'⟩,hrun,he⟩:=h
  cases he
  refine wz (iZ hsq (fun l s s' x ι a w Q h1 h2 h3=>?_) (fun l s s' x ι a w Q h1 h2 h3=>?_) (fun p hp=>?_) hst hmk hok1 hev hfs hfn hcall hrows hrun fun ds' a' w' ι' h1 h2 h3=>hq ds' a' w' ⟨ι',h1,h2⟩ h3 fun hh=>by cases hh)
  ·exact ihy 0 [] (some l) 0 s s' x ι a w Q (.inr hfy) a8k h1 h2 (Nat.zero_le _) fun ds' a' w' ⟨ι',k1,k2⟩ _ k3=>h3 a' w' ι' k1 k2.1 fun _=>by rw [k3 hfy] at k2;exact k2
  ·exact ihz 0 [] (some l) 0 s s' x ι a w Q (.inr hfz) b7g h1 h2 (Nat.zero_le _) fun ds' a' w' ⟨ι',k1,k2⟩ _ k3=>h3 a' w' ι' k1 k2.1 fun _=>by rw [k3 hfz] at k2;exact k2
  ·have:=Array.all_eq_true_iff_forall_mem.1 hok2 p (by simpa using hp)
   simpa using this
 |seq c1 c2 ih1 ih2 =>
  intro B ds rf nn s s' x ι a w Q hfl hok h hst hmk hq
  simp only [codeOk,Bool.and_eq_true] at hok
  simp only [flat,Bool.and_eq_true] at hfl hq
  simp only [BX] at h
  refine wpIn_seq ?_
  cases h1:BX P call N c1 s with
  |none=>rw [h1] at h;cases h
  |some r =>
   obtain ⟨x1,s1⟩:=r
   rw [h1] at h
   refine ih1 B ds rf nn s s1 x1 ι a w _ (hfl.imp id And.left) hok.1 h1 hst hmk fun ds1 a1 w1 hr hm1 hf1=>?_
   cases x1 with
   |normal =>
    obtain ⟨ι1,he,hst1⟩:=hr
    refine ih2 B ds1 rf nn s1 s' x ι1 a1 w1 Q (hfl.imp id And.right) hok.2 h hst1 hm1 fun ds' a' w' hr' hm' hf'=>hq ds' a' w' ?_ hm' fun hh=>(hf' hh.2).trans (hf1 hh.1)
    obtain ⟨ι2,k1,k2⟩:=hr'
    exact ⟨ι2,Ext.trans hst.1 he k1,k2⟩
   |ret=>cases h;exact hq ds1 a1 w1 hr hm1 fun hh=>hf1 hh.1
   |exit id=>cases h;exact hq ds1 a1 w1 hr hm1 fun hh=>hf1 hh.1
 |cond c0 c1 c2 ih1 ih2 =>
  intro B ds rf nn s s' x ι a w Q hfl hok h hst hmk hq
  simp only [codeOk,Bool.and_eq_true] at hok
  simp only [flat,Bool.and_eq_true] at hfl hq
  simp only [BX] at h
  have hv:=I7 hst.1 hst.2 hok.1.1
  cases he:ev s.t c0<;>rw [he] at h hv<;>first|(cases h;done)|skip
  rename_i b
  have e1:a.eval c0=.bool b:=(hv.Jk b).1 rfl
  cases b with
  |true=>exact wpIn_cond_true e1 (ih1 B ds rf nn s s' x ι a w Q (hfl.imp id And.left) hok.1.2 h hst hmk fun ds' a' w' hr hm hf=>hq ds' a' w' hr hm fun hh=>hf hh.1)
  |false=>exact wpIn_cond_false e1 (ih2 B ds rf nn s s' x ι a w Q (hfl.imp id And.right) hok.2 h hst hmk fun ds' a' w' hr hm hf=>hq ds' a' w' hr hm fun hh=>hf hh.2)
 |block id b ih =>
  intro B ds rf nn s s' x ι a w Q hfl hok h hst hmk hq
  simp only [codeOk] at hok
  simp only [flat] at hfl hq
  simp only [BX] at h
  refine wpIn_block ?_
  cases h1:BX P call N b s with
  |none=>rw [h1] at h;cases h
  |some r =>
   obtain ⟨x1,s1⟩:=r
   rw [h1] at h
   refine ih B ds rf nn s s1 x1 ι a w _ hfl hok h1 hst hmk fun ds1 a1 w1 hr hm1 hf1=>?_
   cases x1 with
   |normal=>cases h;exact hq ds1 a1 w1 hr hm1 hf1
   |ret=>cases h;exact hq ds1 a1 w1 hr hm1 hf1
   |exit i =>
    simp only at h
    show (if i=id then Q .normal a1 w1 else Q (.exit i) a1 w1)
    split at h
    ·rename_i e;cases h;rw [if_pos e];exact hq ds1 a1 w1 hr hm1 hf1
    ·rename_i e;cases h;rw [if_neg e];exact hq ds1 a1 w1 hr hm1 hf1
 |loop b ih =>
  intro B ds rf nn s s' x ι a w Q hfl hok h hst hmk hq
  simp only [codeOk] at hok
  simp only [flat] at hfl hq
  simp only [BX] at h
  refine wpIn_loop_rounds N ?_
  have key:∀ (k:Nat) (ds1:List Deferred) (s1 s':St) (x:BZ) (ι:BN) (a:Act) (w:World),iterate (BX P call N b) k s1=some (x,s')→DV P G ds1 n s1 ι a w→Marks B w ds1 →
   (∀ ds' a' w',Reach P G ds' n ι s1 w s' a' w'→Marks B w' ds'→(flat b=true→ds'=ds1)→Q x.O5 a' w')→Code.roundsIn (WF rf) nn P b Q k a w:=by
   intro k
   induction k with
   |zero=>intro ds1 s1 s' x ι a w h;cases h
   |succ k ihk =>
    intro ds1 s1 s' x ι a w h hst hmk hq
    simp only [iterate] at h
    rw [roundsIn_succ]
    cases h1:BX P call N b s1 with
    |none=>rw [h1] at h;cases h
    |some r =>
     obtain ⟨x1,s2⟩:=r
     rw [h1] at h
     refine ih B ds1 rf nn s1 s2 x1 ι a w _ hfl hok h1 hst hmk fun ds2 a1 w1 hr hm1 hf1=>?_
     cases x1 with
     |normal =>
      obtain ⟨ι1,he,hst1⟩:=hr
      refine ihk ds2 s2 s' x ι1 a1 w1 h hst1 hm1 fun ds' a' w' hr' hm' hf'=>hq ds' a' w' ?_ hm' fun hh=>(hf' hh).trans (hf1 hh)
      obtain ⟨ι2,k1,k2⟩:=hr'
      exact ⟨ι2,Ext.trans hst.1 he k1,k2⟩
     |ret=>cases h;exact hq ds2 a1 w1 hr hm1 hf1
     |exit id=>cases h;exact hq ds2 a1 w1 hr hm1 hf1
  exact key N ds s s' x ι a w h hst hmk hq
 |region id ops draw =>
  intro B ds rf nn s s' x ι a w Q hfl hok h hst hmk hq
  simp only [codeOk,Bool.and_eq_true] at hok
  have hall:∀ o∈ops.toList,G5 G n o=true:=fun o ho=>Array.all_eq_true_iff_forall_mem.1 hok.1 o (by simpa using ho)
  have fin:∀ a' w' (s1:St),Reach P G ds n ι s w s1 a' w'→Marks B w' ds:=fun a' w' s1 ⟨ι',he,hst'⟩=>hmk.ext hst.1 he
  cases draw with
  |false =>
   simp only [BX,Option.map_eq_some_iff] at h
   obtain ⟨s1,h1,he⟩:=h
   cases he
   exact wpIn_region_list (SB hc ops.toList s _ ι a w hall h1 hst fun a' w' hr=>hq ds a' w' hr (fin a' w' _ hr) fun _=>rfl)
  |true =>
   simp only [BX,Option.map_eq_some_iff] at h
   obtain ⟨s1,h1,he⟩:=h
   cases he
   exact hd ds rf nn n id ops s _ ι a w Q hall (by simpa using hok.2) h1 hst fun a' w' hr=>hq ds a' w' hr (fin a' w' _ hr) fun _=>rfl
end
end Go.Am
