/-
  The abstract machine: a deterministic evaluator of the model's code over an abstract memory. Definitions alone. No condition. Nothing of one program stands here.
-/
import Derived.Orders
import Derived.Laws.Sem
import Derived.Laws.World
import Derived.Laws.Cells
import Derived.Laws.Entries
import Derived.Lib.Strings
set_option linter.unusedSimpArgs false
set_option linter.unusedVariables false
namespace Go.Am
inductive Tr (α:Type) where
 |leaf
 |node (v:α) (l r:Tr α)
def bits:Nat→Nat→List Bool
 |0,_=>[]
 |f+1,n=>if n=0 then [] else (n % 2==1)::bits f (n / 2)
def path (n:Nat):List Bool:=bits (n.log2+1) n
def Tr.getP {α:Type} (d:α):Tr α→List Bool→α
 | .leaf,_=>d
 | .node v _ _,[]=>v
 | .node _ l r,b::p=>match b with
  |true=>Tr.getP d r p
  |false=>Tr.getP d l p
def Tr.setP {α:Type} (d:α) (x:α):List Bool→Tr α→Tr α
 |[],.leaf=>.node x .leaf .leaf
 |[],.node _ l r=>.node x l r
 |b::p,t=>match b,t with
  |true,.leaf=>.node d .leaf (Tr.setP d x p .leaf)
  |false,.leaf=>.node d (Tr.setP d x p .leaf) .leaf
  |true,.node v l r=>.node v l (Tr.setP d x p r)
  |false,.node v l r=>.node v (Tr.setP d x p l) r
theorem Tr.get_leaf {α:Type} (d:α) (p:List Bool):Tr.getP d (.leaf) p=d:=by cases p<;>rfl
theorem Tr.get_set {α:Type} (d x:α):∀ (p:List Bool) (t:Tr α) (q:List Bool),Tr.getP d (Tr.setP d x p t) q=if p=q then x else Tr.getP d t q
 |[],.leaf,[]=>rfl
 |[],.leaf,b::q=>by simp only [Tr.setP,Tr.getP];cases b<;>simp [Tr.get_leaf]
 |[],.node _ _ _,[]=>rfl
 |[],.node _ _ _,b::q=>by simp [Tr.setP,Tr.getP]
 |b::p,.leaf,[]=>by cases b<;>simp [Tr.setP,Tr.getP]
 |b::p,.node _ _ _,[]=>by cases b<;>simp [Tr.setP,Tr.getP]
 |b::p,.leaf,c::q=>by
  have ih:=Tr.get_set d x p .leaf q
  cases b<;>cases c<;>simp [Tr.setP,Tr.getP,ih,Tr.get_leaf]
 |b::p,.node v l r,c::q=>by
  have ihl:=Tr.get_set d x p l q
  have ihr:=Tr.get_set d x p r q
  cases b<;>cases c<;>simp [Tr.setP,Tr.getP,ihl,ihr]
def unbits:List Bool→Nat
 |[]=>0
 |b::l=>(if b then 1 else 0)+2*unbits l
theorem unbits_bits:∀ (f n:Nat),n<2 ^ f→unbits (bits f n)=n
 |0,n,h=>by have:n=0:=by simpa using h
            simp [bits,unbits,this]
 |f+1,n,h=>by
  unfold bits
  split
  ·rename_i h0;simp [unbits,h0]
  ·have ih:=unbits_bits f (n / 2) (by rw [Nat.pow_succ] at h;omega)
   simp only [unbits,ih,beq_iff_eq]
   split<;>omega
theorem path_inj {n m:Nat} (h:path n=path m):n=m:=by
 have hn:=unbits_bits (n.log2+1) n Nat.lt_log2_self
 have hm:=unbits_bits (m.log2+1) m Nat.lt_log2_self
 unfold path at h
 rw [← hn,← hm,h]
inductive ABlk where
 |none
 |cells (vs:List Value) (elem:TypeId) (gen:Nat) (ro:Bool)
 |map (es:List MapEntry) (clock:Nat)
def ABlk.gen:ABlk→Nat
 | .cells _ _ g _=>g
 |_=>0
def ABlk.ro:ABlk→Bool
 | .cells _ _ _ r=>r
 |_=>false
structure Mem where
 t:Tr ABlk
 size:Nat
 low:Nat
def Mem.get (m:Mem) (b:Nat):ABlk:=Tr.getP .none m.t (path b)
def Mem.put (m:Mem) (b:Nat) (x:ABlk):Mem:={ t:=Tr.setP .none x (path b) m.t,size:=m.size,low:=min m.low b }
def Mem.alloc (m:Mem) (x:ABlk):Mem:={ t:=Tr.setP .none x (path m.size) m.t,size:=m.size+1,low:=m.low }
def Mem.gen (m:Mem) (b:Nat):Nat:=(m.get b).gen
def Mem.ro (m:Mem) (b:Nat):Bool:=(m.get b).ro
theorem Mem.get_put (m:Mem) (b c:Nat) (x:ABlk):(m.put b x).get c=if b=c then x else m.get c:=by
 unfold Mem.get Mem.put
 simp only [Tr.get_set]
 by_cases h:b=c
 ·simp [h]
 ·rw [if_neg h,if_neg (fun e=>h (path_inj e))]
theorem Mem.get_alloc (m:Mem) (c:Nat) (x:ABlk):(m.alloc x).get c=if m.size=c then x else m.get c:=by
 unfold Mem.get Mem.alloc
 simp only [Tr.get_set]
 by_cases h:m.size=c
 ·simp [h]
 ·rw [if_neg h,if_neg (fun e=>h (path_inj e))]
def tget (t:Tr Value) (i:Nat):Value:=Tr.getP undef t (path i)
def tset (t:Tr Value) (i:Nat) (v:Value):Tr Value:=Tr.setP undef v (path i) t
theorem tget_tset (t:Tr Value) (i j:Nat) (v:Value):tget (tset t i v) j=if i=j then v else tget t j:=by
 unfold tget tset
 rw [Tr.get_set]
 by_cases h:i=j
 ·simp [h]
 ·rw [if_neg h,if_neg (fun e=>h (path_inj e))]
structure St where
 t:Tr Value
 m:Mem
def ev (t:Tr Value):Operand→Value
 | .tmp i=>tget t i
 | .const v=>v
 | .global g=>.pointer (some ⟨g,0,none⟩)
 | .func f=>.func (.func f) #[] #[]
def tput (t:Tr Value) (dst:Option Tmp) (v:Value):Tr Value :=
 match dst with
 |some d=>tset t d v
 |none=>t
def plainCell:Value→Bool
 | .bool _| .int _ _| .string _| .float _ _| .pointer none| .slice none 0 0| .map none| .nilFunc| .nilIface=>true
 | .func (.func _) a b=>a.size==0&&b.size==0
 |_=>false
def plainOne:Value→Bool
 | .agg cs=>cs.toList.all plainCell
 |v=>plainCell v
def plain:Value→Bool
 | .tuple vs=>vs.toList.all plainOne
 |v=>plainOne v
def isCell:Value→Bool
 | .agg _| .tuple _=>false
 |_=>true
def dry {α:Type} (P:Program):Sem α→Option α
 | .pure a=>some a
 | .program k=>dry P (k P)
 |_=>none
theorem dry_run {α:Type} {P:Program} {s:Sem α} {a:α} (h:dry P s=some a) (w:World):s.run P w=.ok a w:=by
 induction s<;>simp_all [dry,Sem.run]
def dryV (P:Program) (s:Sem Value):Option Value :=
 match dry P s with
 |some v=>if plain v then some v else none
 |none=>none
def zeroOf (P:Program) (t:TypeId):Option Value:=(P.info? t).bind (·.zero)
def isAggT (P:Program) (t:TypeId):Option Bool :=
 match P.underlying t with
 |some (.struct _)|some (.array _ _)=>some true
 |some _=>some false
 |none=>none
def zeroCellsOf (P:Program) (t:TypeId):Option (List Value) :=
 match zeroOf P t with
 |some z=>if z.cells.toList.all plainCell then some z.cells.toList else none
 |none=>none
def agen (a:Addr):Nat:=a.spot.getD 0
def takeN (n:Nat) (l:List Value):Option (List Value):=if n≤l.length then some (l.take n) else none
def Mem.cellsAt (m:Mem) (a:Addr) (n:Nat):Option (List Value) :=
 match m.get a.block with
 | .cells vs _ g _=>if agen a=g then takeN n (vs.drop a.off) else none
 |_=>none
def aload0 (P:Program) (t:TypeId) (a:Addr) (m:Mem):Option Value :=
 match isAggT P t with
 |some true=>match P.info? t with
  |some i=>(m.cellsAt a i.size).map fun l=>.agg l.toArray
  |none=>none
 |some false=>(m.cellsAt a 1).bind fun l=>l.head?
 |none=>none
def aload (P:Program) (t:TypeId) (a:Addr) (m:Mem):Option Value:=if a.block<m.size then aload0 P t a m else none
def splice (vs:List Value):Nat→List Value→List Value
 |_,[]=>vs
 |o,v::l=>splice (vs.set o v) (o+1) l
def storeRow (m:Mem) (a:Addr) (l:List Value):Option Mem :=
 match m.get a.block with
 | .cells vs e g false =>
  if agen a=g&&decide (a.off+l.length≤vs.length)&&decide (0<l.length)&&l.all isCell then some (m.put a.block (.cells (splice vs a.off l) e g false)) else none
 |_=>none
def astore (P:Program) (t:TypeId) (a:Addr) (v:Value) (m:Mem):Option Mem :=
 match P.info? t with
 |some i=>if v.cells.size=i.size then storeRow m a v.cells.toList else none
 |none=>none
def emptyAt:Option Addr:=some ⟨0,0,some 0⟩
def sliceCells (m:Mem) (size n:Nat):Value→Option (List Value)
 | .slice none 0 0=>if n=0 then some [] else none
 | .slice (some ⟨_,_,some _⟩) 0 0=>if n=0 then some [] else none
 | .slice (some ⟨b,off,none⟩) len g=>if n≤len then m.cellsAt ⟨b,off,some g⟩ (n*size) else none
 | .string s=>if n≤s.size∧size=1 then some ((s.data.toList.take n).map fun c=>.int .u8 c.toNat) else none
 |_=>none
def lenOf:Value→Option Nat
 | .slice _ n _=>some n
 | .string s=>some s.size
 |_=>none
def repeatCells (z:List Value):Nat→List Value
 |0=>[]
 |n+1=>z++repeatCells z n
def room:Nat:=2 ^ 40
def newSlice (m:Mem) (e:TypeId) (l:List Value) (n:Nat):Value×Mem :=
 (.slice (some ⟨m.size,0,none⟩) n 0,m.alloc (.cells l e 0 false))
def appendCells (m:Mem) (e:TypeId) (size:Nat) (l:List Value) (n:Nat):Value→Option (Value×Mem)
 | .slice none 0 0=>if n=0 then some (.slice none 0 0,m) else some (newSlice m e l n)
 | .slice (some ⟨b,o,some g⟩) 0 0=>if n=0 then some (.slice (some ⟨b,o,some g⟩) 0 0,m) else some (newSlice m e l n)
 | .slice (some ⟨b,off,none⟩) len g =>
  match m.get b with
  | .cells vs e' g' false =>
   if g=g'&&e=e'&&decide (0<size) then
    match takeN (len*size) (vs.drop off) with
    |some old=>some (.slice (some ⟨b,0,none⟩) (len+n) (g+1),m.put b (.cells (old++l) e (g+1) false))
    |none=>none
   else none
  |_=>none
 |_=>none
def zeroSized (i:TypeInfo):Bool:=match i.zero with|some z=>z.cells.size==i.size|none=>false
def aappend (P:Program) (argTypes:Array TypeId) (args:Array Value) (m:Mem):Option (Value×Mem) :=
 match argTypes[0]?,args[0]?,args[1]?,argTypes[1]? with
 |some sT,some s,some x,some xT =>
  match P.underlying sT,P.underlying xT,lenOf s with
  |some (.slice e),some xd,some sLen =>
   match P.info? e with
   |some i =>
    if !(zeroSized i) then none else
    match xd with
    | .int _=>match x,zeroCellsOf P e with
     | .int _ n,some z =>
      if 0≤n&&decide (n≤2 ^ 30)&&decide ((sLen+n.toNat)*(i.bytes+1)≤room)&&decide (z.length=i.size)
      then appendCells m e i.size (repeatCells z n.toNat) n.toNat s else none
     |_,_=>none
    |_=>match lenOf x with
     |some n=>match sliceCells m i.size n x with
      |some l=>if (sLen+n)*(i.bytes+1)≤room&&l.all isCell then appendCells m e i.size l n s else none
      |none=>none
     |none=>none
   |none=>none
  |_,_,_=>none
 |_,_,_,_=>none
def acopy (P:Program) (argTypes:Array TypeId) (args:Array Value) (m:Mem):Option (Value×Mem) :=
 match argTypes[0]?,(args[0]?:Option Value),args[1]? with
 |some dT,some (.slice base dLen g),some src =>
  match P.underlying dT,lenOf src with
  |some (.slice e),some sLen =>
   match P.info? e with
   |some i =>
    let n:=Nat.min sLen dLen
    if n=0 then some (.int .i64 0,m)
    else match base,sliceCells m i.size n src with
     |some ⟨b,off,none⟩,some l=>(storeRow m ⟨b,off,some g⟩ l).map fun m'=>(.int .i64 n,m')
     |_,_=>none
   |none=>none
  |_,_=>none
 |_,_,_=>none
def alen (P:Program) (argTypes:Array TypeId) (args:Array Value) (m:Mem):Option Value :=
 match argTypes[0]?,args[0]? with
 |some t,some x =>
  match P.underlying t,x with
  |some .string,.string s=>some (.int .i64 s.size)
  |some (.array n _),_=>some (.int .i64 n)
  |some (.slice _),.slice _ n _=>some (.int .i64 n)
  |some (.map _ _),.map none=>some (.int .i64 0)
  |some (.map _ _),.map (some r)=>match m.get r with
   | .map es _=>some (.int .i64 es.length)
   |_=>none
  |_,_=>none
 |_,_=>none
def acap (P:Program) (argTypes:Array TypeId) (args:Array Value):Option Value :=
 match argTypes[0]? with
 |some t=>match P.underlying t with
  |some (.slice _)=>match (args[0]?:Option Value) with
   |some (.slice none 0 0)=>some (.int .i64 0)
   |some (.slice (some ⟨_,_,some _⟩) 0 0)=>some (.int .i64 0)
   |_=>none
  |_=>none
 |none=>none
def aint (op:BinOp) (k:IntKind) (x y:Int):Option Value :=
 match op with
 | .add=>some (.int k (k.wrap (x+y)))
 | .sub=>some (.int k (k.wrap (x-y)))
 | .mul=>some (.int k (k.wrap (x*y)))
 | .eql=>some (.bool (x==y))
 | .neq=>some (.bool (x != y))
 | .lss=>some (.bool (x<y))
 | .leq=>some (.bool (x≤y))
 | .gtr=>some (.bool (x>y))
 | .geq=>some (.bool (x≥y))
 | .quo=>if y=0 then none else some (.int k (k.wrap (x.tdiv y)))
 | .rem=>if y=0 then none else some (.int k (x.tmod y))
 | .and=>some (.int k (k.wrap (BitVec.ofInt k.bits x &&& BitVec.ofInt k.bits y).toNat))
 | .or=>some (.int k (k.wrap (BitVec.ofInt k.bits x ||| BitVec.ofInt k.bits y).toNat))
 | .xor=>some (.int k (k.wrap (BitVec.ofInt k.bits x ^^^ BitVec.ofInt k.bits y).toNat))
 | .andNot=>some (.int k (k.wrap (BitVec.ofInt k.bits x &&& ~~~ BitVec.ofInt k.bits y).toNat))
 |_=>none
def ashift (op:BinOp) (k:IntKind) (x y:Int):Option Value :=
 if y<0 then none else
 match op with
 | .shl=>some (.int k (k.wrap (x*2 ^ (min y.toNat k.bits))))
 | .shr=>some (.int k (x.fdiv (2 ^ (min y.toNat k.bits))))
 |_=>none
def isNilSlice:Value→Option Bool
 | .slice none _ _=>some true
 | .slice (some _) _ _=>some false
 |_=>none
def aeqNil (op:BinOp) (b:Bool):Option Value :=
 match op with
 | .eql=>some (.bool b)
 | .neq=>some (.bool !b)
 |_=>none
def abin (P:Program) (op:BinOp) (t:TypeId) (xo yo:Operand) (x y:Value):Option Value :=
 match x,y with
 | .int k a,.int k' b =>
  match op with
  | .shl| .shr=>ashift op k a b
  |_=>if k=k' then aint op k a b else none
 | .slice a _ _,.slice none 0 0=>match P.underlying t with
  |some (.slice _)=>aeqNil op a.isNone
  |_=>none
 | .slice none 0 0,.slice a _ _=>match P.underlying t with
  |some (.slice _)=>aeqNil op a.isNone
  |_=>none
 | .map a,.map none=>match P.underlying t with
  |some (.map _ _)=>aeqNil op a.isNone
  |_=>none
 | .pointer a,.pointer none=>match P.underlying t with
  |some (.pointer _)=>aeqNil op a.isNone
  |_=>none
 |x,y=>if plain x&&plain y then dryV P (do eqGuard op t xo yo x y;binOp op t x y) else none
def keyKind (P:Program) (kt:TypeId):Option TypeDesc :=
 match P.underlying kt with
 |some (.int k)=>some (.int k)
 |some .string=>some .string
 |some .bool=>some .bool
 |_=>none
def afind (kind:TypeDesc) (k:Value):List MapEntry→Nat→Option (Option (Nat×Value)):=Instr.findNow kind k
def alookup (P:Program) (t:TypeId) (x k:Value) (ok:Bool) (m:Mem):Option Value :=
 match P.underlying t with
 |some (.map kt et) =>
  match keyKind P kt,zeroOf P et with
  |some kind,some z =>
   if plain z&&plain k then
    match (match x with
     | .map none=>some []
     | .map (some r)=>match m.get r with| .map es _=>some es|_=>none
     |_=>none) with
    |some es=>match Instr.findNow kind k es 0 with
     |some (some (_,v))=>some (if ok then .tuple #[v,.bool true] else v)
     |some none=>some (if ok then .tuple #[z,.bool false] else z)
     |none=>none
    |none=>none
   else none
  |_,_=>none
 |_=>none
def aupdate (P:Program) (t:TypeId) (x k v:Value) (m:Mem):Option Mem :=
 match P.underlying t,x with
 |some (.map kt _),.map (some r) =>
  match keyKind P kt,m.get r with
  |some kind,.map es clock =>
   if plain k then
    match Instr.findNow kind k es 0 with
    |some (some (i,_))=>some (m.put r (.map (es.modify i fun e=>{ e with key:=k,val:=v }) clock))
    |some none=>some (m.put r (.map (es++[{ key:=k,val:=v,born:=clock }]) (clock+1)))
    |none=>none
   else none
  |_,_=>none
 |_,_=>none
def isSlT (P:Program) (t:TypeId):Bool:=match P.underlying t with|some (.slice _)=>true|_=>false
def byteVals (s:ByteArray):List Value:=s.data.toList.map fun c=>.int .u8 c.toNat
def unbyte:List Value→Option (List UInt8)
 |[]=>some []
 | .int .u8 n::l=>if 0≤n∧n<256 then (unbyte l).map (UInt8.ofNat n.toNat::·) else none
 |_::_=>none
def aconv (P:Program) (s d:TypeId) (x:Value) (m:Mem):Option (Value×Mem) :=
 match P.underlying s,P.underlying d,x with
 |some .string,some (.slice e),.string b=>match P.underlying e,P.info? e with
  |some (.int .u8),some i=>if i.size=1∧b.size≤2 ^ 30 then some (newSlice m e (byteVals b) b.size) else none
  |_,_=>none
 |some (.slice e),some .string,.slice a n g=>match P.underlying e with
  |some (.int .u8)=>match sliceCells m 1 n (.slice a n g) with
   |some l=>match unbyte l with
    |some bs=>some (.string ⟨bs.toArray⟩,m)
    |none=>none
   |none=>none
  |_=>none
 |_,_,_=>none
def bnd (d:Nat):Option Value→Option Nat
 |none=>some d
 |some (.int _ i)=>if 0≤i then some i.toNat else none
 |_=>none
def aslice (P:Program) (t:TypeId) (x:Value) (lo hi mx:Option Value) (m:Mem):Option Value :=
 if mx.isSome&&hi.isNone then none else
 match P.underlying t,x with
 |some .string,.string _ =>
  if (lo.all plain&&hi.all plain&&mx.isNone) then dryV P (Instr.sliceAt t x lo hi mx) else none
 |some (.slice e),.slice none 0 0 =>
  match P.info? e,bnd 0 lo,bnd 0 hi,bnd 0 mx with
  |some _,some 0,some 0,some 0=>some (.slice none 0 0)
  |_,_,_,_=>none
 |some (.slice e),.slice (some ⟨b,off,some g'⟩) 0 0 =>
  match P.info? e,bnd 0 lo,bnd 0 hi,bnd 0 mx with
  |some _,some 0,some 0,some 0=>some (.slice (some ⟨b,off,some g'⟩) 0 0)
  |_,_,_,_=>none
 |some (.slice e),.slice (some ⟨b,off,none⟩) len g =>
  match P.info? e,bnd 0 lo,bnd len hi,mx with
  |some i,some l,some h,none=>match m.get b with
   | .cells _ e' _ _=>if (l≤h∧h≤len∧e'=e)∧b<m.size then some (.slice (some ⟨b,off+l*i.size,none⟩) (h-l) g) else none
   |_=>none
  |some _,some l,some h,some _=>match bnd 0 mx with
   |some k=>if l=h∧h=k∧k≤len then some (.slice (some ⟨0,0,some 0⟩) 0 0) else none
   |none=>none
  |_,_,_,_=>none
 |_,_=>none
def aop (P:Program) (ρ:Operand→Value) (o:Oper) (m:Mem):Option (Value×Mem) :=
 match o.op with
 | .move x| .assign x=>some (ρ x,m)
 | .pick c a b=>match ρ c with
  | .bool t=>some (if t then ρ a else ρ b,m)
  |_=>none
 | .binOp op t x y _=>(abin P op t x y (ρ x) (ρ y)).map fun v=>(v,m)
 | .alloc e=>(zeroCellsOf P e).map fun z=>(.pointer (some ⟨m.size,0,none⟩),m.alloc (.cells z e 0 false))
 | .box e x =>
  if (ρ x).cells.toList.all isCell then some (.pointer (some ⟨m.size,0,none⟩),m.alloc (.cells (ρ x).cells.toList e 0 false)) else none
 | .build t ps=>match zeroCellsOf P t with
  |some _=>(dry P (Instr.build t (ps.map fun (i,x)=>(i,ρ x)))).map fun v=>(v,m)
  |none=>none
 | .buildSlice t len ps =>
  match P.underlying t with
  |some (.slice e)=>match P.info? e,zeroCellsOf P e with
   |some i,some z =>
    if len*i.size≤2 ^ 24∧z.length=i.size∧0<i.size then
     match Instr.fill (fun j=>some (j*i.size,i.size)) (repeatCells z len).toArray (ps.map fun (i,x)=>(i,ρ x)).toList with
     |some cs=>if cs.toList.all isCell then some (newSlice m e cs.toList len) else none
     |none=>none
    else none
   |_,_=>none
  |_=>none
 | .load t a=>match ρ a with
  | .pointer (some a)=>(aload P t a m).map fun v=>(v,m)
  |_=>none
 | .store t a x=>match ρ a with
  | .pointer (some a)=>(astore P t a (ρ x) m).map fun m'=>(undef,m')
  |_=>none
 | .nilCheck x=>match ρ x with
  | .pointer (some a)=>some (.pointer (some a),m)
  |_=>none
 | .unOp op _ x=>if plain (ρ x) then (dryV P (Op.unary op (ρ x))).map fun v=>(v,m) else none
 | .convert s d x=>if isSlT P s||isSlT P d then aconv P s d (ρ x) m else if plain (ρ x) then (dryV P (convert s d (ρ x))).map fun v=>(v,m) else none
 | .makeFunc (.func f) fs cs=>some (.func (.func f) (fs.map ρ) (cs.map ρ),m)
 | .makeMap _ none=>some (.map (some m.size),m.alloc (.map [] 0))
 | .makeSlice t l c =>
  match P.underlying t,ρ l,ρ c with
  |some (.slice e),.int .i64 n,.int .i64 k=>match P.info? e,zeroCellsOf P e with
   |some i,some z =>
    if 0≤n∧n≤k∧k.toNat*(i.bytes+1)≤room∧k≤2 ^ 40∧z.length=i.size∧0<i.size then
     some (newSlice m e (repeatCells z n.toNat) n.toNat)
    else none
   |_,_=>none
  |_,_,_=>none
 | .slice t x lo hi mx=>(aslice P t (ρ x) (lo.map ρ) (hi.map ρ) (mx.map ρ) m).map fun v=>(v,m)
 | .fieldAddr s x f =>
  match P.underlying s,ρ x with
  |some (.struct fs),.pointer (some a)=>match fs[f]? with
   |some fd=>match P.info? fd.type with
    |some i=>if i.size=0 then none else some (.pointer (some { a with off:=a.off+fd.offset }),m)
    |none=>none
   |none=>none
  |_,_=>none
 | .field t x f=>(dry P (Instr.field t (ρ x) f)).map fun v=>(v,m)
 | .indexAddr t x ix =>
  match P.underlying t,ρ x,ρ ix with
  |some (.slice e),.slice (some ⟨b,off,none⟩) len g,.int _ i=>match P.info? e with
   |some inf=>if 0≤i∧i<len then some (.pointer (some ⟨b,off+i.toNat*inf.size,some g⟩),m) else none
   |none=>none
  |some (.array n e),.pointer (some a),.int _ i=>match P.info? e with
   |some inf=>if 0≤i∧i<n then some (.pointer (some { a with off:=a.off+i.toNat*inf.size }),m) else none
   |none=>none
  |_,_,_=>none
 | .index t x ix=>if plain (ρ ix) then (dry P (Instr.index t (ρ x) (ρ ix))).map fun v=>(v,m) else none
 | .lookup t x k ok=>(alookup P t (ρ x) (ρ k) ok m).map fun v=>(v,m)
 | .mapUpdate t x k v=>(aupdate P t (ρ x) (ρ k) (ρ v) m).map fun m'=>(undef,m')
 | .insert t x k v=>(aupdate P t (ρ x) (ρ k) (ρ v) m).map fun m'=>(undef,m')
 | .extract t i=>(dry P (Instr.extract (ρ t) i)).map fun v=>(v,m)
 | .call { callee:=.builtin b,args,argTypes } =>
  match b with
  | .len=>(alen P argTypes (args.map ρ) m).map fun v=>(v,m)
  | .cap=>(acap P argTypes (args.map ρ)).map fun v=>(v,m)
  | .append=>aappend P argTypes (args.map ρ) m
  | .copy=>acopy P argTypes (args.map ρ) m
  | .min=>if (args.map ρ).toList.all plain then (dryV P (Builtin.min_ argTypes o.type (args.map ρ))).map fun v=>(v,m) else none
  | .max=>if (args.map ρ).toList.all plain then (dryV P (Builtin.max_ argTypes o.type (args.map ρ))).map fun v=>(v,m) else none
  |_=>none
 |_=>none
inductive AExit where
 |normal
 |ret
 |exit (id:Nat)
abbrev CallF:=FuncId→List Value→Mem→Option (Value×Mem)
def aval (P:Program) (call:CallF) (ρ:Operand→Value) (o:Oper) (m:Mem):Option (Value×Mem) :=
 match o.op with
 | .call { callee:=.value f,args,.. }=>match ρ f with
  | .func (.func g) fs cs=>call g (fs.toList++args.toList.map ρ++cs.toList) m
  |_=>none
 |_=>aop P ρ o m
def aact (P:Program) (call:CallF) (o:Oper) (s:St):Option St :=
 match aval P call (ev s.t) o s.m with
 |some (v,m)=>some { t:=tput s.t o.dst v,m:=m }
 |none=>none
def ayielded (ops:Array Oper) (t:Tr Value) (j:Nat):Option Bool :=
 match (ops[j]?).bind (·.dst) with
 |some d=>match tget t d with
  | .bool b=>some b
  |_=>none
 |none=>none
def astep (P:Program) (call:CallF) (ops:Array Oper) (o:Oper) (s:St):Option St :=
 if Region.wanted o (ayielded ops s.t) then aact P call o s else some { s with t:=tput s.t o.dst undef }
def asteps (P:Program) (call:CallF) (ops:Array Oper):List Oper→St→Option St
 |[],s=>some s
 |o::rest,s=>match astep P call ops o s with
  |some s'=>asteps P call ops rest s'
  |none=>none
def lenQuiet (P:Program) (aT:Array TypeId):Bool:=match aT[0]? with
 |some t=>match P.underlying t with
  |some .string=>true
  |some (.slice _)=>true
  |some (.array _ _)=>true
  |_=>false
 |none=>false
def quietKind (P:Program):Op→Bool
 | .move _| .assign _| .pick ..| .binOp ..| .build ..| .nilCheck _| .unOp ..| .makeFunc ..| .fieldAddr ..| .field ..| .indexAddr ..| .index ..| .extract ..=>true
 | .convert s d _=>!(isSlT P s||isSlT P d)
 | .call { callee:=.builtin b,argTypes,.. }=>match b with
  | .cap| .min| .max=>true
  | .len=>lenQuiet P argTypes
  |_=>false
 |_=>false
def barrier (P:Program) (ops:Array Oper) (i:Nat):Bool :=
 let b:=Region.before ops
 (List.range ops.size).all fun j=>j==i||((ops[j]?).map (quietKind P ·.op)).getD true ||
  (if j<i then (b.getD i 0).testBit j else (b.getD j 0).testBit i)
def isLoadOp:Op→Bool
 | .load ..=>true
 | .slice _ _ _ _ none=>true
 |_=>false
def ldOp:Op→Option Operand
 | .load _ a=>some a
 | .slice _ x _ _ none=>some x
 |_=>none
def wrOp:Op→Option Operand
 | .store _ a _=>some a
 | .call { callee:=.builtin .append,args,.. }=>args[0]?
 |_=>none
def baseOp:Op→Option Operand
 | .fieldAddr _ x _=>some x
 | .indexAddr _ x _=>some x
 | .nilCheck x=>some x
 | .move x=>some x
 | .assign x=>some x
 |_=>none
def blkV:Value→Option Nat
 | .pointer (some a)=>some a.block
 | .slice (some ⟨b,_,none⟩) _ _=>some b
 |_=>none
def ordered (ops:Array Oper) (i j:Nat):Bool:=if j<i then ((Region.before ops).getD i 0).testBit j else ((Region.before ops).getD j 0).testBit i
def noWrite (ops:Array Oper) (k:Nat):Operand→Bool
 | .tmp t=>(List.range ops.size).all fun q=>decide (q<k)||(ops[q]?).bind (·.dst) != some t
 |_=>true
def writer (ops:Array Oper) (t:Tmp):Option Nat:=(List.range ops.size).find? fun q=>(ops[q]?).bind (·.dst)==some t
def rootOf (ops:Array Oper) (i:Nat):Nat→Nat→Operand→Option Operand
 |0,_,_=>none
 |f+1,q,r=>if noWrite ops (min i q) r then some r else match r with
  | .tmp t=>match writer ops t with
   |some k=>if k<q then (match (ops[k]?).bind (fun o=>baseOp o.op) with
    |some x=>rootOf ops i f k x
    |none=>none) else none
   |none=>none
  |_=>none
def wbar (P:Program) (ops:Array Oper) (i:Nat):Bool :=
 ((ops[i]?).bind (fun o=>wrOp o.op)).isSome &&
 (List.range ops.size).all fun j=>j==i||((ops[j]?).map (fun o=>quietKind P o.op||isLoadOp o.op)).getD true||ordered ops i j
def freeRoots (ops:Array Oper) (i:Nat):List (Option Operand) :=
 (List.range ops.size).filterMap fun j=>match (ops[j]?).bind (fun o=>ldOp o.op) with
  |some a=>if j==i||ordered ops i j then none else some (rootOf ops i 4 j a)
  |none=>none
def blkNe:Option Nat→Option Nat→Bool
 |some x,some y=>x != y
 |_,_=>true
def freeAt (ops:Array Oper) (i:Nat) (t:Tr Value):Bool :=
 match (ops[i]?).bind (fun o=>wrOp o.op) with
 |some w=>(freeRoots ops i).all fun r=>match r with
  |some r=>blkNe (blkV (ev t r)) (blkV (ev t w))
  |none=>false
 |none=>false
def dstep (P:Program) (call:CallF) (ops:Array Oper) (i:Nat) (o:Oper) (s:St):Option St :=
 match astep P call ops o { s with m:={ s.m with low:=s.m.size } } with
 |some s'=>if barrier P ops i||decide (s.m.size≤s'.m.low)||(wbar P ops i&&freeAt ops i s.t) then some { s' with m:={ s'.m with low:=min s.m.low s'.m.low } } else none
 |none=>none
def dsteps (P:Program) (call:CallF) (ops:Array Oper):Nat→List Oper→St→Option St
 |_,[],s=>some s
 |i,o::rest,s=>match dstep P call ops i o s with
  |some s'=>dsteps P call ops (i+1) rest s'
  |none=>none
def iterate (f:St→Option (AExit×St)):Nat→St→Option (AExit×St)
 |0,_=>none
 |n+1,s=>match f s with
  |some (.normal,s')=>iterate f n s'
  |r=>r
def seqMark:Value:=.func (.yield 0) #[] #[]
def seqAs (n:Nat) (lb:List Value):List Value:=List.replicate (n+1) seqMark++lb
def seqRow:Value→Option (List Value)
 | .tuple vs=>some vs.toList
 |_=>none
def seqList:List Value→Option (List (List Value))
 |[]=>some []
 |v::l=>match seqRow v,seqList l with
  |some r,some rs=>some (r::rs)
  |_,_=>none
def seqRows:Value→Option (List (List Value))
 | .tuple ⟨[_,.tuple rows]⟩=>seqList rows.toList
 |_=>none
def flat:Code→Bool
 | .seq a b| .cond _ a b=>flat a&&flat b
 | .block _ b| .loop b| .scope b=>flat b
 | .rangeFunc ..=>false
 |_=>true
def putAll (t:Tr Value) (ps:List Tmp) (vs:List Value):Tr Value:=(ps.zip vs).foldl (fun t (p,v)=>tset t p v) t
def lowTo (m:Mem) (k:Nat):Mem:={ m with low:=k }
open Classical in
noncomputable def rangeRows (n:Nat) (asg body:St→Option (AExit×St)) (ask:Mem→Prop) (t:Tr Value) (ps:List Tmp):List (List Value)→Mem→Option (AExit×Mem)
 |[],m=>some (.normal,m)
 |vs::rest,m =>
  if vs.length=n∧vs.all plain=true then
   match asg { t:=putAll t ps vs,m:=lowTo m m.size } with
   |some (.normal,s1) =>
    match body s1 with
    |some (x,s2) =>
     match x with
     | .normal=>if ask (lowTo s2.m (min m.low s2.m.low)) then rangeRows n asg body ask t ps rest (lowTo s2.m (min m.low s2.m.low)) else none
     |x=>some (x,lowTo s2.m (min m.low s2.m.low))
    |none=>none
   |_=>none
  else none
noncomputable def aexec (P:Program) (call:CallF) (N:Nat):Code→St→Option (AExit×St)
 | .skip,s=>some (.normal,s)
 | .label _,s=>some (.normal,s)
 | .ret,s=>some (.ret,s)
 | .exit id,s=>some (.exit id,s)
 | .seq a b,s=>match aexec P call N a s with
  |some (.normal,s')=>aexec P call N b s'
  |r=>r
 | .cond c a b,s=>match ev s.t c with
  | .bool true=>aexec P call N a s
  | .bool false=>aexec P call N b s
  |_=>none
 | .block id b,s=>match aexec P call N b s with
  |some (.exit i,s')=>if i=id then some (.normal,s') else some (.exit i,s')
  |r=>r
 | .loop b,s=>iterate (aexec P call N b) N s
 | .region _ ops false,s=>(asteps P call ops ops.toList s).map fun s'=>(.normal,s')
 | .region _ ops true,s=>(dsteps P call ops 0 ops.toList s).map fun s'=>(.normal,s')
 | .rangeFunc f ps asg body,s=>match ev s.t f with
  | .func (.func g) fs lb=>match P.funcs[g]? with
   |some fn=>if fs.size=0∧flat asg=true∧flat body=true then
    match call g (seqAs fn.ntmps lb.toList) s.m with
    |some (v,_)=>match seqRows v with
     |some rows=>(rangeRows ps.size (aexec P call N asg) (aexec P call N body) (fun m'=>∃ m1,call g (seqAs fn.ntmps lb.toList) m'=some (v,m1)) s.t ps.toList rows s.m).map fun (x,m')=>(x,{ t:=s.t,m:=m' })
     |none=>none
    |none=>none
    else none
   |none=>none
  |_=>none
 |_,_=>none
def operandOk (G:List Nat):Operand→Bool
 | .const v=>plain v
 | .global g=>G.contains g
 |_=>true
def drawOk (ops:Array Oper):Bool :=
 let b:=Region.before ops
 (List.range ops.size).all fun i=>match ops[i]? with
  |none=>true
  |some oi=>(match oi.guard with|some (g,_)=>(b.getD i 0).testBit g&&g<i|none=>true) &&
   (oi.after.all fun e=>!Region.binds .any e||decide (e.on<i)) &&
   match oi.dst with
   |none=>true
   |some d=>(List.range ops.size).all fun j=>j==i||match ops[j]? with
    |none=>true
    |some oj=>oj.dst != some d&&(!(oj.looksAt ops).contains d||(if i<j then (b.getD j 0).testBit i else (b.getD i 0).testBit j))
def operOk (G:List Nat) (n:Nat) (o:Oper):Bool :=
 o.op.operands.all (operandOk G)&&(match o.dst with|some d=>d<n|none=>true)&&(match o.op with| .select ..| .defer ..| .go ..=>false|_=>true)
def codeOk (G:List Nat) (n:Nat):Code→Bool
 | .seq a b=>codeOk G n a&&codeOk G n b
 | .cond c a b=>operandOk G c&&codeOk G n a&&codeOk G n b
 | .block _ b=>codeOk G n b
 | .loop b=>codeOk G n b
 | .region _ ops draw=>ops.all (operOk G n)&&(!draw||drawOk ops)
 | .skip| .label _| .ret| .exit _=>true
 | .rangeFunc f ps a b=>operandOk G f&&ps.all (fun p=>decide (p<n))&&codeOk G n a&&codeOk G n b
 |_=>false
def resultOf (P:Program) (s:St):ResultVar→Option Value
 | .tmp t=>some (tget s.t t)
 | .cell a t=>match tget s.t a with
  | .pointer (some a)=>aload P t a s.m
  |_=>none
def listAll {α β:Type} (f:α→Option β):List α→Option (List β)
 |[]=>some []
 |a::l=>match f a,listAll f l with
  |some b,some r=>some (b::r)
  |_,_=>none
def resultsOf (P:Program) (fn:Func) (s:St):Option Value :=
 match listAll (resultOf P s) fn.results.toList with
 |some [v]=>some v
 |some vs=>some (.tuple vs.toArray)
 |none=>none
def tmpsOf:Nat→List Value→Tr Value→Tr Value
 |_,[],t=>t
 |i,v::l,t=>tmpsOf (i+1) l (tset t i v)
def fnOk (G:List Nat) (fn:Func) (c:Code):Bool :=
 !(fn.name=="runtime.NumGoroutine")&&codeOk G fn.ntmps c
abbrev Oracle:=FuncId→Option (List Value→Mem→Option (Value×Mem))
noncomputable def acall (P:Program) (O:Oracle) (G:List Nat) (N:Nat):Nat→CallF
 |0,_,_,_=>none
 |D+1,f,as,m =>
  match (O f).bind fun F=>F as m with
  |some r=>some r
  |none =>
   match P.funcs[f]? with
   |none=>none
   |some fn=>match fn.body with
    |none=>none
    |some c =>
     if fnOk G fn c&&decide (as.length≤fn.ntmps) then
      match aexec P (acall P O G N D) N c { t:=tmpsOf 0 as .leaf,m:=m } with
      |some (.normal,s)|some (.ret,s)=>(resultsOf P fn s).map fun v=>(v,s.m)
      |_=>none
     else none
end Go.Am
set_option linter.unusedSimpArgs false
set_option linter.unusedVariables false
namespace Go.Am
structure IB where
 blk:Nat
 sh:Nat
 lim:Nat
 esz:Nat
abbrev Inj:=Nat→Option IB
def ARel (ι:Inj) (g:Nat→Nat) (a a':Addr):Prop :=
 ∃ ib,ι a.block=some ib∧agen a≤g a.block∧(agen a=g a.block→a'=⟨ib.blk,a.off+ib.sh,none⟩)
def SRel (ι:Inj) (g:Nat→Nat) (b off len gen:Nat) (a':Addr) (cap:Nat):Prop :=
 ∃ ib,ι b=some ib∧gen≤g b∧len≤cap∧(gen=g b→a'.block=ib.blk∧a'.spot=none∧(cap=0∨(a'.off=off+ib.sh∧a'.off+cap*ib.esz≤ib.lim)))
inductive VRel (ι:Inj) (g:Nat→Nat):Value→Value→Prop
 |bool (b:Bool):VRel ι g (.bool b) (.bool b)
 |int (k:IntKind) (n:Int):VRel ι g (.int k n) (.int k n)
 |flt (k:FloatKind) (n:Nat):VRel ι g (.float k n) (.float k n)
 |str (s:ByteArray):VRel ι g (.string s) (.string s)
 |ptrN:VRel ι g (.pointer none) (.pointer none)
 |ptr (a a':Addr) (h:ARel ι g a a'):VRel ι g (.pointer (some a)) (.pointer (some a'))
 |slN:VRel ι g (.slice none 0 0) (.slice none 0 0)
 |slE (b o s:Nat) (a':Addr):VRel ι g (.slice (some ⟨b,o,some s⟩) 0 0) (.slice (some a') 0 0)
 |sl (b off len gen:Nat) (a':Addr) (cap:Nat) (h:SRel ι g b off len gen a' cap):VRel ι g (.slice (some ⟨b,off,none⟩) len gen) (.slice (some a') len cap)
 |mapN:VRel ι g (.map none) (.map none)
 |map (r c:Nat) (ib:IB) (h:ι r=some ib) (hc:g r=0→c=ib.blk):VRel ι g (.map (some r)) (.map (some c))
 |nilF:VRel ι g .nilFunc .nilFunc
 |nilI:VRel ι g .nilIface .nilIface
 |fn (f:FuncId) (fs fs' cs cs':List Value) (h1:fs.length=fs'.length) (h2:∀ i,i<fs.length→VRel ι g (fs.getD i undef) (fs'.getD i undef))
  (h3:cs.length=cs'.length) (h4:∀ i,i<cs.length→VRel ι g (cs.getD i undef) (cs'.getD i undef)):VRel ι g (.func (.func f) ⟨fs⟩ ⟨cs⟩) (.func (.func f) ⟨fs'⟩ ⟨cs'⟩)
 |agg (l l':List Value) (h1:l.length=l'.length) (h2:∀ i,i<l.length→VRel ι g (l.getD i undef) (l'.getD i undef)):VRel ι g (.agg ⟨l⟩) (.agg ⟨l'⟩)
 |tuple (l l':List Value) (h1:l.length=l'.length) (h2:∀ i,i<l.length→VRel ι g (l.getD i undef) (l'.getD i undef)):VRel ι g (.tuple ⟨l⟩) (.tuple ⟨l'⟩)
def LRel (ι:Inj) (g:Nat→Nat) (l l':List Value):Prop :=
 l.length=l'.length∧∀ i,i<l.length→VRel ι g (l.getD i undef) (l'.getD i undef)
def Le (ι:Inj) (g:Nat→Nat) (ι':Inj) (g':Nat→Nat):Prop :=
 ∀ b ib,ι b=some ib→g b≤g' b∧∃ ib',ι' b=some ib'∧(g' b=g b→ib'=ib)
theorem Le.refl (ι:Inj) (g:Nat→Nat):Le ι g ι g:=fun _ ib h=>⟨Nat.le_refl _,ib,h,fun _=>rfl⟩
theorem Le.trans {ι ι' ι'':Inj} {g g' g'':Nat→Nat} (h:Le ι g ι' g') (k:Le ι' g' ι'' g''):Le ι g ι'' g'':=fun b ib hb=>by
 obtain ⟨h1,ib',h2,h3⟩:=h b ib hb
 obtain ⟨k1,ib'',k2,k3⟩:=k b ib' h2
 refine ⟨Nat.le_trans h1 k1,ib'',k2,fun e=>?_⟩
 have e1:g' b=g b:=by omega
 rw [k3 (by omega),h3 e1]
theorem VRel.mono {ι ι':Inj} {g g':Nat→Nat} (hl:Le ι g ι' g') {v v':Value} (h:VRel ι g v v'):VRel ι' g' v v':=by
 induction h with
 |bool b=>exact .bool b
 |int k n=>exact .int k n
 |flt k n=>exact .flt k n
 |str s=>exact .str s
 |ptrN=>exact .ptrN
 |ptr a a' h =>
  obtain ⟨ib,h1,h2,h3⟩:=h
  obtain ⟨k1,ib',k2,k3⟩:=hl _ _ h1
  exact .ptr a a' ⟨ib',k2,by omega,fun e=>by rw [k3 (by omega)];exact h3 (by omega)⟩
 |slN=>exact .slN
 |slE b o s a'=>exact .slE b o s a'
 |sl b off len gen a' cap h =>
  obtain ⟨ib,h1,h2,h4,h3⟩:=h
  obtain ⟨k1,ib',k2,k3⟩:=hl _ _ h1
  exact .sl b off len gen a' cap ⟨ib',k2,by omega,h4,fun e=>by rw [k3 (by omega)];exact h3 (by omega)⟩
 |mapN=>exact .mapN
 |map r c ib h hc =>
  obtain ⟨k1,ib',k2,k3⟩:=hl _ _ h
  exact .map r c ib' k2 fun e=>by rw [k3 (by omega)];exact hc (by omega)
 |nilF=>exact .nilF
 |nilI=>exact .nilI
 |fn f fs fs' cs cs' h1 _ h3 _ ih1 ih2=>exact .fn f fs fs' cs cs' h1 ih1 h3 ih2
 |agg l l' h1 _ ih=>exact .agg l l' h1 ih
 |tuple l l' h1 _ ih=>exact .tuple l l' h1 ih
theorem LRel.mono {ι ι':Inj} {g g':Nat→Nat} (hl:Le ι g ι' g') {l l':List Value} (h:LRel ι g l l'):LRel ι' g' l l' :=
 ⟨h.1,fun i hi=>(h.2 i hi).mono hl⟩
theorem VRel.plainCell {ι:Inj} {g:Nat→Nat} {v:Value} (h:plainCell v=true):VRel ι g v v:=by
 unfold Am.plainCell at h
 split at h<;>first
  |exact .bool _
  |exact .int _ _
  |exact .str _
  |exact .flt _ _
  |exact .ptrN
  |exact .slN
  |exact .mapN
  |exact .nilF
  |exact .nilI
  |(rename_i f a b
    obtain ⟨a⟩:=a;obtain ⟨b⟩:=b
    have ha:a=[]:=by simp at h;exact h.1
    have hb:b=[]:=by simp at h;exact h.2
    subst ha;subst hb
    exact .fn _ [] [] [] [] rfl (fun i hi=>absurd hi (by simp)) rfl (fun i hi=>absurd hi (by simp)))
  |(simp at h;done)
theorem getD_lt {l:List Value} {i:Nat} {d:Value} (h:i<l.length):l.getD i d=l[i]:=by simp [List.getD,h]
theorem getD_mem {l:List Value} {i:Nat} {d:Value} (h:i<l.length):l.getD i d∈l:=by
 rw [getD_lt h];exact List.getElem_mem h
theorem VRel.plainOne {ι:Inj} {g:Nat→Nat} {v:Value} (h:plainOne v=true):VRel ι g v v:=by
 unfold Am.plainOne at h
 split at h
 ·rename_i cs
  obtain ⟨l⟩:=cs
  exact .agg l l rfl fun i hi=>VRel.plainCell (List.all_eq_true.1 h _ (getD_mem hi))
 ·exact VRel.plainCell h
theorem VRel.plain {ι:Inj} {g:Nat→Nat} {v:Value} (h:plain v=true):VRel ι g v v:=by
 unfold Am.plain at h
 split at h
 ·rename_i cs
  obtain ⟨l⟩:=cs
  exact .tuple l l rfl fun i hi=>VRel.plainOne (List.all_eq_true.1 h _ (getD_mem hi))
 ·exact VRel.plainOne h
theorem ext_getD {l l':List Value} (h1:l.length=l'.length) (h2:∀ i,i<l.length→l.getD i undef=l'.getD i undef):l=l':=by
 apply List.ext_getElem h1
 intro i hi hi'
 have:=h2 i hi
 rwa [getD_lt hi,getD_lt hi'] at this
theorem VRel.eq_of_plainCell {ι:Inj} {g:Nat→Nat} {v v':Value} (h:VRel ι g v v') (hp:Am.plainCell v=true):v'=v:=by
 cases h<;>first|rfl|(simp [Am.plainCell] at hp;done)|skip
 rename_i f fs fs' cs cs' h1 _ h3 _
 simp [Am.plainCell] at hp
 obtain ⟨rfl,rfl⟩:=hp
 have e1:fs'=[]:=List.length_eq_zero_iff.1 h1.symm
 have e2:cs'=[]:=List.length_eq_zero_iff.1 h3.symm
 rw [e1,e2]
theorem VRel.eq_of_plainOne {ι:Inj} {g:Nat→Nat} {v v':Value} (h:VRel ι g v v') (hp:Am.plainOne v=true):v'=v:=by
 unfold Am.plainOne at hp
 split at hp
 ·rename_i cs
  cases h with
  |agg l l' h1 h2 =>
   have:l=l':=ext_getD h1 fun i hi=>(VRel.eq_of_plainCell (h2 i hi) (List.all_eq_true.1 hp _ (getD_mem hi))).symm
   rw [this]
 ·exact h.eq_of_plainCell hp
theorem VRel.eq_of_plain {ι:Inj} {g:Nat→Nat} {v v':Value} (h:VRel ι g v v') (hp:Am.plain v=true):v'=v:=by
 unfold Am.plain at hp
 split at hp
 ·rename_i cs
  cases h with
  |tuple l l' h1 h2 =>
   have:l=l':=ext_getD h1 fun i hi=>(VRel.eq_of_plainOne (h2 i hi) (List.all_eq_true.1 hp _ (getD_mem hi))).symm
   rw [this]
 ·exact h.eq_of_plainOne hp
theorem VRel.isCell {ι:Inj} {g:Nat→Nat} {v v':Value} (h:VRel ι g v v'):Am.isCell v'=Am.isCell v:=by
 cases h<;>rfl
theorem VRel.oneCell {ι:Inj} {g:Nat→Nat} {v v':Value} (h:VRel ι g v v') (hc:Am.isCell v=true):v'.oneCell'=true:=by
 cases h<;>first|rfl|simp [Am.isCell] at hc
theorem VRel.undef {ι:Inj} {g:Nat→Nat}:VRel ι g undef undef:=.tuple [] [] rfl fun i hi=>absurd hi (by simp)
theorem VRel.cells {ι:Inj} {g:Nat→Nat} {v v':Value} (h:VRel ι g v v'):LRel ι g v.cells.toList v'.cells.toList:=by
 have one:∀ {v v':Value},VRel ι g v v'→LRel ι g [v] [v']:=fun h=>⟨rfl,fun i hi=>by
  have:i=0:=by simpa using hi
  subst this;exact h⟩
 cases h with
 |agg l l' h1 h2=>exact ⟨h1,h2⟩
 |bool b=>exact one (.bool b)
 |int k n=>exact one (.int k n)
 |flt k n=>exact one (.flt k n)
 |str s=>exact one (.str s)
 |ptrN=>exact one .ptrN
 |ptr a a' h=>exact one (.ptr a a' h)
 |slN=>exact one .slN
 |slE b o s a'=>exact one (.slE b o s a')
 |sl b off len gen a' cap h=>exact one (.sl b off len gen a' cap h)
 |mapN=>exact one .mapN
 |map r c ib h hc=>exact one (.map r c ib h hc)
 |nilF=>exact one .nilF
 |nilI=>exact one .nilI
 |fn f fs fs' cs cs' h1 h2 h3 h4=>exact one (.fn f fs fs' cs cs' h1 h2 h3 h4)
 |tuple l l' h1 h2=>exact one (.tuple l l' h1 h2)
theorem LRel.plain {ι:Inj} {g:Nat→Nat} {l:List Value} (h:l.all Am.plainCell=true):LRel ι g l l :=
 ⟨rfl,fun i hi=>VRel.plainCell (List.all_eq_true.1 h _ (getD_mem hi))⟩
theorem LRel.nil {ι:Inj} {g:Nat→Nat}:LRel ι g [] []:=⟨rfl,fun i hi=>absurd hi (by simp)⟩
theorem LRel.append {ι:Inj} {g:Nat→Nat} {l l' k k':List Value} (h:LRel ι g l l') (h2:LRel ι g k k'):LRel ι g (l++k) (l'++k'):=by
 refine ⟨by simp [h.1,h2.1],fun i hi=>?_⟩
 rw [List.length_append] at hi
 by_cases hl:i<l.length
 ·have hl':i<l'.length:=h.1▸hl
  rw [List.getD_eq_getElem?_getD,List.getD_eq_getElem?_getD,List.getElem?_append_left hl,List.getElem?_append_left hl']
  have:=h.2 i hl
  rwa [List.getD_eq_getElem?_getD,List.getD_eq_getElem?_getD] at this
 ·have e1:l.length≤i:=by omega
  have e2:l'.length≤i:=h.1▸e1
  rw [List.getD_eq_getElem?_getD,List.getD_eq_getElem?_getD,List.getElem?_append_right e1,List.getElem?_append_right e2]
  have:=h2.2 (i-l.length) (by omega)
  rw [List.getD_eq_getElem?_getD,List.getD_eq_getElem?_getD] at this
  rw [h.1] at this ⊢
  exact this
theorem LRel.cons {ι:Inj} {g:Nat→Nat} {v v':Value} {k k':List Value} (h:VRel ι g v v') (h2:LRel ι g k k'):LRel ι g (v::k) (v'::k') :=
 LRel.append (l:=[v]) (l':=[v']) ⟨rfl,fun i hi=>by
  have:i=0:=by simpa using hi
  subst this;exact h⟩ h2
theorem LRel.uncons {ι:Inj} {g:Nat→Nat} {v:Value} {k l':List Value} (h:LRel ι g (v::k) l'):∃ v' k',l'=v'::k'∧VRel ι g v v'∧LRel ι g k k':=by
 obtain ⟨h1,h2⟩:=h
 match l',h1 with
 |v'::k',h1 =>
  refine ⟨v',k',rfl,h2 0 (by simp),by simpa using h1,fun i hi=>?_⟩
  have:=h2 (i+1) (by simpa using hi)
  simpa using this
theorem LRel.take {ι:Inj} {g:Nat→Nat} {l l':List Value} (h:LRel ι g l l') (n:Nat):LRel ι g (l.take n) (l'.take n):=by
 refine ⟨by simp [h.1],fun i hi=>?_⟩
 rw [List.length_take] at hi
 have:=h.2 i (by omega)
 rw [List.getD_eq_getElem?_getD,List.getD_eq_getElem?_getD] at *
 rw [List.getElem?_take,List.getElem?_take,if_pos (by omega),if_pos (by omega)]
 exact this
theorem LRel.drop {ι:Inj} {g:Nat→Nat} {l l':List Value} (h:LRel ι g l l') (n:Nat):LRel ι g (l.drop n) (l'.drop n):=by
 refine ⟨by simp [h.1],fun i hi=>?_⟩
 rw [List.length_drop] at hi
 have:=h.2 (n+i) (by omega)
 rw [List.getD_eq_getElem?_getD,List.getD_eq_getElem?_getD] at *
 rw [List.getElem?_drop,List.getElem?_drop]
 exact this
theorem LRel.get {ι:Inj} {g:Nat→Nat} {l l':List Value} (h:LRel ι g l l') {i:Nat} {v:Value} (hi:l[i]?=some v):∃ v',l'[i]?=some v'∧VRel ι g v v':=by
 have hlt:i<l.length:=(List.getElem?_eq_some_iff.1 hi).1
 have hlt':i<l'.length:=h.1▸hlt
 refine ⟨l'[i],List.getElem?_eq_getElem hlt',?_⟩
 have:=h.2 i hlt
 rw [List.getD_eq_getElem?_getD,List.getD_eq_getElem?_getD,hi,List.getElem?_eq_getElem hlt'] at this
 exact this
theorem LRel.getD {ι:Inj} {g:Nat→Nat} {l l':List Value} (h:LRel ι g l l') (i:Nat):VRel ι g (l.getD i undef) (l'.getD i undef):=by
 by_cases hi:i<l.length
 ·exact h.2 i hi
 ·have hi':¬ i<l'.length:=h.1▸hi
  rw [List.getD_eq_getElem?_getD,List.getD_eq_getElem?_getD,List.getElem?_eq_none (by omega),List.getElem?_eq_none (by omega)]
  exact VRel.undef
def ERel (ι:Inj) (g:Nat→Nat) (e e':MapEntry):Prop:=e'.key=e.key∧e'.born=e.born∧plain e.key=true∧VRel ι g e.val e'.val
def EsRel (ι:Inj) (g:Nat→Nat):List MapEntry→List MapEntry→Prop
 |[],[]=>True
 |e::es,e'::es'=>ERel ι g e e'∧EsRel ι g es es'
 |_,_=>False
def BRel (P:Program) (ι:Inj) (g:Nat→Nat) (ib:IB):ABlk→Option Obj→Prop
 | .cells vs e _ ro,some (.cells cs e' fr)=>(ro=false→e'=e)∧ib.lim=cs.size∧ib.esz=P.cellsOf e ∧
  (∀ i,i<vs.length→∃ v',cs[ib.sh+i]?=some v'∧VRel ι g (vs.getD i undef) v') ∧
  (ro=false→∀ j,j<cs.size→¬ (fr.1≤j∧j<fr.2))
 | .map es clock,some (.map es' clock')=>clock'=clock∧EsRel ι g es es'.toList
 |_,_=>False
structure Sim (P:Program) (G:List Nat) (ι:Inj) (m:Mem) (w:World):Prop where
 dom:∀ b ib,ι b=some ib→b<m.size∧ib.blk<w.heap.size
 blk:∀ b ib,ι b=some ib→BRel P ι m.gen ib (m.get b) w.heap[ib.blk]?
 inj:∀ b b' ib ib',ι b=some ib→ι b'=some ib'→ib.blk=ib'.blk→b=b'∨(m.ro b=true∧m.ro b'=true)
 glob:∀ k,k∈G→∃ ib,ι k=some ib∧ib.blk=k∧(ib.sh=0∧∀ vs e g ro,m.get k=.cells vs e g ro→ib.lim=vs.length)∧m.gen k=0∧m.ro k=true
structure Ext (ι:Inj) (m:Mem) (w:World) (ι':Inj) (m':Mem) (w':World):Prop where
 size:m.size≤m'.size
 low:m'.low≤m.low
 keep:∀ b,b<m.size→b<m'.low→m'.get b=m.get b
 ro:∀ b,b<m.size→m.ro b=true→m'.get b=m.get b
 ro':∀ b,b<m.size→m'.ro b=m.ro b
 le:Le ι m.gen ι' m'.gen
 back:∀ b ib',ι' b=some ib'→(∃ ib,ι b=some ib∧ib.blk=ib'.blk)∨w.heap.size≤ib'.blk
 dom:∀ b ib',ι' b=some ib'→(∃ ib,ι b=some ib)∨m.size≤b
 heap:w.heap.size≤w'.heap.size
 frame:∀ c,c<w.heap.size→(∀ b ib,ι b=some ib→ib.blk=c→m.ro b=true∨b<m'.low)→w'.heap[c]?=w.heap[c]?
 tape:w'.tape=w.tape
 os:w'.os=w.os
 output:w'.output=w.output
theorem gen_of_get {m m':Mem} {b:Nat} (h:m'.get b=m.get b):m'.gen b=m.gen b:=by unfold Mem.gen;rw [h]
theorem ro_of_get {m m':Mem} {b:Nat} (h:m'.get b=m.get b):m'.ro b=m.ro b:=by unfold Mem.ro;rw [h]
theorem Ext.refl (ι:Inj) (m:Mem) (w:World):Ext ι m w ι m w :=
 ⟨Nat.le_refl _,Nat.le_refl _,fun _ _ _=>rfl,fun _ _ _=>rfl,fun _ _=>rfl,Le.refl _ _,fun _ ib h=>.inl ⟨ib,h,rfl⟩,fun _ ib h=>.inl ⟨ib,h⟩,
  Nat.le_refl _,fun _ _ _=>rfl,rfl,rfl,rfl⟩
theorem Ext.trans {ι ι' ι'':Inj} {m m' m'':Mem} {w w' w'':World} {P:Program} {G:List Nat} (hs:Sim P G ι m w)
 (h:Ext ι m w ι' m' w') (k:Ext ι' m' w' ι'' m'' w''):Ext ι m w ι'' m'' w'':=by
 refine ⟨Nat.le_trans h.size k.size,Nat.le_trans k.low h.low,fun b hb hl=>?_,fun b hb hr=>?_,fun b hb=>?_,h.le.trans k.le,fun b ib'' hb=>?_,fun b ib'' hb=>?_,
  Nat.le_trans h.heap k.heap,fun c hc hf=>?_,k.tape.trans h.tape,k.os.trans h.os,k.output.trans h.output⟩
 ·rw [k.keep b (Nat.lt_of_lt_of_le hb h.size) hl,h.keep b hb (Nat.lt_of_lt_of_le hl k.low)]
 ·rw [k.ro b (Nat.lt_of_lt_of_le hb h.size) (by rw [h.ro' b hb];exact hr),h.ro b hb hr]
 ·rw [k.ro' b (Nat.lt_of_lt_of_le hb h.size),h.ro' b hb]
 ·rcases k.back b ib'' hb with ⟨ib',h1,h2⟩|h1
  ·rcases h.back b ib' h1 with ⟨ib,h3,h4⟩|h3
   ·exact .inl ⟨ib,h3,h4.trans h2⟩
   ·exact .inr (h2▸h3)
  ·exact .inr (Nat.le_trans h.heap h1)
 ·rcases k.dom b ib'' hb with ⟨ib',h1⟩|h1
  ·exact h.dom b ib' h1
  ·exact .inr (Nat.le_trans h.size h1)
 ·rw [k.frame c (Nat.lt_of_lt_of_le hc h.heap) ?_,h.frame c hc ?_]
  ·intro b ib hb hc'
   rcases hf b ib hb hc' with h1|h1
   ·exact .inl h1
   ·exact .inr (Nat.lt_of_lt_of_le h1 k.low)
  ·intro b ib' hb hc'
   rcases h.back b ib' hb with ⟨ib,h1,h2⟩|h1
   ·rcases hf b ib h1 (h2.trans hc') with h3|h3
    ·exact .inl (by rw [h.ro' b (hs.dom b ib h1).1];exact h3)
    ·exact .inr h3
   ·exact absurd hc (by omega)
def Post (P:Program) (G:List Nat) (ι:Inj) (m:Mem) (w:World) (v:Value) (m':Mem) (v':Value) (w':World):Prop :=
 ∃ ι',Ext ι m w ι' m' w'∧Sim P G ι' m' w'∧VRel ι' m'.gen v v'
theorem Post.same {P:Program} {G:List Nat} {ι:Inj} {m:Mem} {w:World} {v v':Value} (hs:Sim P G ι m w) (h:VRel ι m.gen v v'):Post P G ι m w v m v' w :=
 ⟨ι,Ext.refl _ _ _,hs,h⟩
end Go.Am
set_option linter.unusedSimpArgs false
set_option linter.unusedVariables false
namespace Go.Am
variable {P:Program} {G:List Nat}
theorem EsRel.mono {ι ι':Inj} {g g':Nat→Nat} (hl:Le ι g ι' g'):∀ {es es':List MapEntry},EsRel ι g es es'→EsRel ι' g' es es'
 |[],[],_=>trivial
 |_::_,_::_,⟨h,k⟩=>⟨⟨h.1,h.2.1,h.2.2.1,h.2.2.2.mono hl⟩,EsRel.mono hl k⟩
 |[],_::_,h=>h.elim
 |_::_,[],h=>h.elim
theorem BRel.mono {ι ι':Inj} {g g':Nat→Nat} (hl:Le ι g ι' g') {ib:IB} {x:ABlk} {o:Option Obj} (h:BRel P ι g ib x o):BRel P ι' g' ib x o:=by
 unfold BRel at *
 split at h
 ·obtain ⟨h1,h2,h3,h4,h5⟩:=h
  exact ⟨h1,h2,h3,fun i hi=>(h4 i hi).imp fun v' hv=>⟨hv.1,hv.2.mono hl⟩,h5⟩
 ·exact ⟨h.1,EsRel.mono hl h.2⟩
 ·exact h.elim
theorem alloc_core {ι:Inj} {m:Mem} {w w':World} {x:ABlk} {obj:Obj} {ib:IB} (hs:Sim P G ι m w) (hw':w'.heap=w.heap.push obj)
 (ht:w'.tape=w.tape) (ho:w'.os=w.os) (hou:w'.output=w.output) (hib:ib.blk=w.heap.size) (hx:BRel P ι m.gen ib x (some obj))
 (hr:x.ro=false) :
 ∃ ι',Ext ι m w ι' (m.alloc x) w'∧Sim P G ι' (m.alloc x) w'∧ι' m.size=some ib:=by
 have hget:∀ b,b<m.size→(m.alloc x).get b=m.get b:=fun b hb=>by rw [Mem.get_alloc,if_neg (by omega)]
 have hgen:∀ b,b<m.size→(m.alloc x).gen b=m.gen b:=fun b hb=>gen_of_get (hget b hb)
 have hro:∀ b,b<m.size→(m.alloc x).ro b=m.ro b:=fun b hb=>ro_of_get (hget b hb)
 have hheap:∀ c,c<w.heap.size→w'.heap[c]?=w.heap[c]?:=fun c hc=>by rw [hw',Array.getElem?_push,if_neg (by omega)]
 have hsz:w'.heap.size=w.heap.size+1:=by rw [hw'];simp
 let ι':Inj:=fun b=>if b=m.size then some ib else ι b
 have hle:Le ι m.gen ι' (m.alloc x).gen:=fun b ibb hb=>by
  have hlt:=(hs.dom b ibb hb).1
  refine ⟨by rw [hgen b hlt];exact Nat.le_refl _,ibb,?_,fun _=>rfl⟩
  show (if b=m.size then some ib else ι b)=some ibb
  rw [if_neg (by omega)];exact hb
 refine ⟨ι',⟨by simp [Mem.alloc],Nat.le_refl _,fun b hb _=>hget b hb,fun b hb _=>hget b hb,fun b hb=>hro b hb,hle,fun b ibb hb=>?_,fun b ibb hb=>?_,by omega,
  fun c hc _=>hheap c hc,ht,ho,hou⟩,⟨fun b ibb hb=>?_,fun b ibb hb=>?_,fun b b' ibb ibb' hb hb' he=>?_,fun k hk=>?_⟩,if_pos rfl⟩
 ·change (if b=m.size then some ib else ι b)=some ibb at hb
  split at hb
  ·cases hb;exact .inr (by omega)
  ·exact .inl ⟨ibb,hb,rfl⟩
 ·change (if b=m.size then some ib else ι b)=some ibb at hb
  split at hb
  ·exact .inr (by omega)
  ·exact .inl ⟨ibb,hb⟩
 ·change (if b=m.size then some ib else ι b)=some ibb at hb
  split at hb
  ·cases hb;exact ⟨by simp [Mem.alloc];omega,by omega⟩
  ·have:=hs.dom b ibb hb
   exact ⟨by simp only [Mem.alloc];omega,by omega⟩
 ·change (if b=m.size then some ib else ι b)=some ibb at hb
  split at hb
  ·rename_i e;cases hb
   rw [Mem.get_alloc,if_pos e.symm]
   have:w'.heap[ib.blk]?=some obj:=by rw [hw',hib];simp
   rw [this]
   exact hx.mono hle
  ·have:=hs.dom b ibb hb
   rw [hget b this.1,hheap _ this.2]
   exact (hs.blk b ibb hb).mono hle
 ·change (if b=m.size then some ib else ι b)=some ibb at hb
  change (if b'=m.size then some ib else ι b')=some ibb' at hb'
  split at hb<;>split at hb'
  ·exact .inl (by omega)
  ·cases hb;have:=hs.dom b' ibb' hb';omega
  ·cases hb';have:=hs.dom b ibb hb;omega
  ·rcases hs.inj b b' ibb ibb' hb hb' he with h|⟨h1,h2⟩
   ·exact .inl h
   ·exact .inr ⟨by rw [hro b (hs.dom b ibb hb).1];exact h1,by rw [hro b' (hs.dom b' ibb' hb').1];exact h2⟩
 ·obtain ⟨ibb,h1,h2,h3,h4,h5⟩:=hs.glob k hk
  have hlt:=(hs.dom k ibb h1).1
  refine ⟨ibb,?_,h2,⟨h3.1,by rw [hget k hlt];exact h3.2⟩,by rw [hgen k hlt];exact h4,by rw [hro k hlt];exact h5⟩
  show (if k=m.size then some ib else ι k)=some ibb
  rw [if_neg (by omega)];exact h1
theorem upd_core {ι:Inj} {m:Mem} {w w':World} {b:Nat} {ib ib':IB} {x:ABlk} {obj:Obj} (hs:Sim P G ι m w) (hb:ι b=some ib) (hro:m.ro b=false)
 (hxro:x.ro=false)
 (hxg:m.gen b≤x.gen∧(x.gen=m.gen b→ib'=ib))
 (hblk:ib'.blk=ib.blk∨w.heap.size≤ib'.blk) (hobj:w'.heap[ib'.blk]?=some obj) (hrest:∀ c,c<w.heap.size→c≠ib.blk→w'.heap[c]?=w.heap[c]?)
 (hsz:w.heap.size≤w'.heap.size) (ht:w'.tape=w.tape) (ho:w'.os=w.os) (hou:w'.output=w.output)
 (hx:∀ ι' g',Le ι m.gen ι' g'→BRel P ι' g' ib' x (some obj)) :
 ∃ ι',Ext ι m w ι' (m.put b x) w'∧Sim P G ι' (m.put b x) w'∧ι' b=some ib':=by
 have hbd:=hs.dom b ib hb
 have hget:∀ c,c≠b→(m.put b x).get c=m.get c:=fun c hc=>by rw [Mem.get_put,if_neg (fun e=>hc e.symm)]
 have hgetb:(m.put b x).get b=x:=by rw [Mem.get_put,if_pos rfl]
 have hgenb:(m.put b x).gen b=x.gen:=by unfold Mem.gen;rw [hgetb]
 have hrob:(m.put b x).ro b=false:=by unfold Mem.ro;rw [hgetb];exact hxro
 have hgen:∀ c,c≠b→(m.put b x).gen c=m.gen c:=fun c hc=>gen_of_get (hget c hc)
 have hroc:∀ c,c≠b→(m.put b x).ro c=m.ro c:=fun c hc=>ro_of_get (hget c hc)
 let ι':Inj:=fun c=>if c=b then some ib' else ι c
 have hle:Le ι m.gen ι' (m.put b x).gen:=fun c ibc hc=>by
  by_cases e:c=b
  ·subst e
   rw [hb] at hc;cases hc
   refine ⟨by rw [hgenb];exact hxg.1,ib',if_pos rfl,fun e=>?_⟩
   rw [hgenb] at e
   exact hxg.2 e
  ·refine ⟨by rw [hgen c e];exact Nat.le_refl _,ibc,?_,fun _=>rfl⟩
   show (if c=b then some ib' else ι c)=some ibc
   rw [if_neg e];exact hc
 have hother:∀ c ibc,ι c=some ibc→c≠b→ibc.blk≠ib.blk:=fun c ibc hc hne e=>by
  rcases hs.inj c b ibc ib hc hb e with h|⟨_,h⟩
  ·exact hne h
  ·rw [hro] at h;cases h
 refine ⟨ι',⟨Nat.le_refl _,Nat.min_le_left _ _,fun c hc hl=>?_,fun c hc hr=>?_,fun c hc=>?_,hle,fun c ibc hc=>?_,fun c ibc hc=>?_,hsz,fun c hc hf=>?_,ht,ho,hou⟩,
  ⟨fun c ibc hc=>?_,fun c ibc hc=>?_,fun c c' ibc ibc' hc hc' he=>?_,fun k hk=>?_⟩,if_pos rfl⟩
 ·exact hget c (fun e=>by subst e;have:(m.put c x).low≤c:=Nat.min_le_right _ _;omega)
 ·exact hget c (fun e=>by subst e;rw [hro] at hr;cases hr)
 ·by_cases e:c=b
  ·subst e;rw [hrob,hro]
  ·exact hroc c e
 ·change (if c=b then some ib' else ι c)=some ibc at hc
  split at hc
  ·rename_i e;cases hc
   rcases hblk with h|h
   ·exact .inl ⟨ib,e▸hb,h.symm⟩
   ·exact .inr h
  ·exact .inl ⟨ibc,hc,rfl⟩
 ·change (if c=b then some ib' else ι c)=some ibc at hc
  split at hc
  ·rename_i e;exact .inl ⟨ib,e▸hb⟩
  ·exact .inl ⟨ibc,hc⟩
 ·refine hrest c hc fun e=>?_
  rcases hf b ib hb e.symm with h|h
  ·rw [hro] at h;cases h
  ·have:(m.put b x).low≤b:=Nat.min_le_right _ _;omega
 ·change (if c=b then some ib' else ι c)=some ibc at hc
  split at hc
  ·rename_i e;cases hc
   have hlt:ib'.blk<w'.heap.size:=by
    rcases Nat.lt_or_ge ib'.blk w'.heap.size with h|h
    ·exact h
    ·rw [Array.getElem?_eq_none h] at hobj;cases hobj
   exact ⟨e▸hbd.1,hlt⟩
  ·have:=hs.dom c ibc hc
   exact ⟨this.1,by omega⟩
 ·change (if c=b then some ib' else ι c)=some ibc at hc
  split at hc
  ·rename_i e;cases hc
   subst e
   rw [hgetb,hobj]
   exact hx _ _ hle
  ·rename_i e
   have:=hs.dom c ibc hc
   rw [hget c e,hrest _ this.2 (hother c ibc hc e)]
   exact (hs.blk c ibc hc).mono hle
 ·change (if c=b then some ib' else ι c)=some ibc at hc
  change (if c'=b then some ib' else ι c')=some ibc' at hc'
  have key:∀ c ibc,ι c=some ibc→c≠b→ib'.blk≠ibc.blk:=fun c ibc hc hne e=>by
   rcases hblk with h|h
   ·exact hother c ibc hc hne (e▸h)
   ·have:=hs.dom c ibc hc;omega
  split at hc<;>split at hc'
  ·exact .inl (by omega)
  ·cases hc;rename_i e1 e2;exact absurd he (key c' ibc' hc' e2)
  ·cases hc';rename_i e1 e2;exact absurd he.symm (key c ibc hc e1)
  ·rename_i e1 e2
   rcases hs.inj c c' ibc ibc' hc hc' he with h|⟨h1,h2⟩
   ·exact .inl h
   ·exact .inr ⟨by rw [hroc c e1];exact h1,by rw [hroc c' e2];exact h2⟩
 ·obtain ⟨ibb,h1,h2,h3,h4,h5⟩:=hs.glob k hk
  have hne:k≠b:=fun e=>by subst e;rw [hro] at h5;cases h5
  refine ⟨ibb,?_,h2,⟨h3.1,by rw [hget k hne];exact h3.2⟩,by rw [hgen k hne];exact h4,by rw [hroc k hne];exact h5⟩
  show (if k=b then some ib' else ι k)=some ibb
  rw [if_neg hne];exact h1
theorem takeN_some {n:Nat} {l r:List Value} (h:takeN n l=some r):n≤l.length∧r=l.take n:=by
 unfold takeN at h
 split at h
 ·cases h;exact ⟨by assumption,rfl⟩
 ·cases h
theorem cells_of {ι:Inj} {m:Mem} {w:World} {b:Nat} {ib:IB} {vs:List Value} {e:TypeId} {g:Nat} {ro:Bool} (hs:Sim P G ι m w) (hb:ι b=some ib) (hg:m.get b=.cells vs e g ro) :
 ∃ cs fr e',w.heap[ib.blk]?=some (.cells cs e' fr)∧ib.lim=cs.size∧ib.esz=P.cellsOf e ∧
  (∀ i,i<vs.length→∃ v',cs[ib.sh+i]?=some v'∧VRel ι m.gen (vs.getD i undef) v')∧(ro=false→e'=e∧∀ j,j<cs.size→¬ (fr.1≤j∧j<fr.2)):=by
 have h:=hs.blk b ib hb
 rw [hg] at h
 unfold BRel at h
 split at h
 ·rename_i vs1 e1 g1 ro1 cs e' fr ha ho
  cases ha
  obtain ⟨h1,h2,h3,h4,h5⟩:=h
  exact ⟨cs,fr,e',ho,h2,h3,h4,fun hr=>⟨h1 hr,h5 hr⟩⟩
 ·rename_i ha _;cases ha
 ·exact h.elim
theorem cell_of_row {w:World} {c:Nat} {cs:Array Value} {e:TypeId} {fr:Nat×Nat} (h:w.heap[c]?=some (.cells cs e fr)) (o:Nat) :
 w.cell? ⟨c,o,none⟩=cs[o]?:=by
 simp [World.cell?,h]
theorem frozen_of_row {w:World} {c:Nat} {cs:Array Value} {e:TypeId} {fr:Nat×Nat} (h:w.heap[c]?=some (.cells cs e fr)) (o:Nat) :
 w.frozen? ⟨c,o,none⟩=(decide (fr.1≤o)&&decide (o<fr.2)):=by
 obtain ⟨lo,hi⟩:=fr
 simp [World.frozen?,h]
theorem addr_add (b o n:Nat):Addr.add ⟨b,o,none⟩ n=⟨b,o+n,none⟩:=Addr.add_lit b o n
theorem cellsAt_some {m:Mem} {a:Addr} {n:Nat} {l:List Value} (h:m.cellsAt a n=some l) :
 ∃ vs e g ro,m.get a.block=.cells vs e g ro∧agen a=g∧m.gen a.block=g∧n≤(vs.drop a.off).length∧l=(vs.drop a.off).take n:=by
 unfold Mem.cellsAt at h
 split at h
 ·rename_i vs e g ro hg
  split at h
  ·rename_i ha
   obtain ⟨h1,h2⟩:=takeN_some h
   exact ⟨vs,e,g,ro,hg,ha,by unfold Mem.gen;rw [hg];rfl,h1,h2⟩
  ·cases h
 ·cases h
theorem cellsAt_run {ι:Inj} {m:Mem} {w:World} {a a':Addr} {n:Nat} {l:List Value} (hs:Sim P G ι m w) (ha:ARel ι m.gen a a') (h:m.cellsAt a n=some l) :
 ∃ l',LRel ι m.gen l l'∧l'.length=n∧∀ (j:Nat) v,l'[j]?=some v→w.cell? (a'.add j)=some v:=by
 obtain ⟨vs,e,g,ro,hg,hag,hgen,hn,hl⟩:=cellsAt_some h
 obtain ⟨ib,hb,_,ha'⟩:=ha
 have hcur:=ha' (by rw [hag,hgen])
 obtain ⟨cs,fr,e',hrow,hlim,hesz,hrel,_⟩:=cells_of hs hb hg
 rw [List.length_drop] at hn
 have hget:∀ j,j<n→∃ v',cs[ib.sh+(a.off+j)]?=some v'∧VRel ι m.gen (vs.getD (a.off+j) undef) v':=fun j hj=>hrel (a.off+j) (by omega)
 refine ⟨(List.range n).map (fun j=>cs.getD (ib.sh+(a.off+j)) undef),⟨by simp [hl];omega,fun i hi=>?_⟩,by simp,fun j v hv=>?_⟩
 ·rw [hl,List.length_take,List.length_drop] at hi
  have hin:i<n:=by omega
  obtain ⟨v',h1,h2⟩:=hget i hin
  have e1:l.getD i undef=vs.getD (a.off+i) undef:=by
   rw [hl,List.getD_eq_getElem?_getD,List.getD_eq_getElem?_getD,List.getElem?_take,if_pos hin,List.getElem?_drop]
  have e2:((List.range n).map (fun j=>cs.getD (ib.sh+(a.off+j)) undef)).getD i undef=v':=by
   rw [List.getD_eq_getElem?_getD,List.getElem?_map,List.getElem?_range hin]
   simp [h1]
  rw [e1,e2];exact h2
 ·rw [List.getElem?_map] at hv
  have hjn:j<n:=by
   rcases Nat.lt_or_ge j n with h|h
   ·exact h
   ·rw [List.getElem?_eq_none (by simpa using h)] at hv;cases hv
  obtain ⟨v',h1,_⟩:=hget j hjn
  rw [List.getElem?_range hjn] at hv
  simp [h1] at hv
  rw [hcur,addr_add,cell_of_row hrow,← hv,← h1]
  congr 1
  omega
theorem run_isAgg {t:TypeId} {b:Bool} (h:isAggT P t=some b) (w:World):(isAgg t).run P w=.ok b w:=by
 unfold isAggT at h
 unfold isAgg
 split at h<;>first
  |(rename_i d hd;simp [run_underlying hd];cases h;rfl)
  |(rename_i d hd1 hd2 hd;simp only [Sem.run_bind,run_underlying hd,Result.andThen_ok];cases h;cases d<;>first|rfl|simp_all)
  |cases h
theorem run_typeInfo' {t:TypeId} {i:TypeInfo} (h:P.info? t=some i) (w:World):(typeInfo t).run P w=.ok i w:=by
 simp [typeInfo,h]
theorem run_sizeOf' {t:TypeId} {i:TypeInfo} (h:P.info? t=some i) (w:World):(sizeOf t).run P w=.ok i.size w:=by
 simp [sizeOf,run_typeInfo' h]
theorem cellsOf_info {t:TypeId} {i:TypeInfo} (h:P.info? t=some i):P.cellsOf t=i.size:=by simp [Program.cellsOf,h]
theorem aload_sound {ι:Inj} {m:Mem} {w:World} {t:TypeId} {a a':Addr} {v:Value} (hs:Sim P G ι m w) (ha:ARel ι m.gen a a') (h:aload P t a m=some v) :
 ∃ v',(loadVar t a').run P w=.ok v' w∧VRel ι m.gen v v':=by
 unfold aload at h
 split at h
 case isFalse=>cases h
 unfold aload0 at h
 split at h
 ·rename_i hagg
  split at h
  ·rename_i i hi
   rw [Option.map_eq_some_iff] at h
   obtain ⟨l,hl,rfl⟩:=h
   obtain ⟨l',hrel,hlen,hcell⟩:=cellsAt_run hs ha hl
   refine ⟨.agg l'.toArray,?_,?_⟩
   ·unfold loadVar
    have:=run_loadCells_list (P:=P) w a' l' hcell
    rw [hlen] at this
    simp [run_isAgg hagg,run_sizeOf' hi,this]
   ·exact .agg l l' hrel.1 hrel.2
  ·cases h
 ·rename_i hagg
  rw [Option.bind_eq_some_iff] at h
  obtain ⟨l,hl,hv⟩:=h
  obtain ⟨l',hrel,hlen,hcell⟩:=cellsAt_run hs ha hl
  match l,hv,hrel with
  |v0::k,hv,hrel =>
   simp at hv;subst hv
   obtain ⟨v',k',rfl,hv',_⟩:=hrel.uncons
   refine ⟨v',?_,hv'⟩
   have hc:=hcell 0 v' rfl
   unfold loadVar
   rw [Addr.add_zero'] at hc
   simp [run_isAgg hagg,hc]
 ·cases h
theorem map_of {ι:Inj} {m:Mem} {w:World} {b:Nat} {ib:IB} {es:List MapEntry} {k:Nat} (hs:Sim P G ι m w) (hb:ι b=some ib) (hg:m.get b=.map es k) :
 ∃ es',w.heap[ib.blk]?=some (.map es' k)∧EsRel ι m.gen es es'.toList:=by
 have h:=hs.blk b ib hb
 rw [hg] at h
 unfold BRel at h
 split at h
 ·rename_i ha _;cases ha
 ·rename_i es1 c1 es' c' ha ho
  cases ha
  obtain ⟨rfl,h2⟩:=h
  exact ⟨es',ho,h2⟩
 ·exact h.elim
end Go.Am
set_option linter.unusedSimpArgs false
set_option linter.unusedVariables false
namespace Go.Am
variable {P:Program} {G:List Nat}
theorem getD_eq (l:List Value) (i:Nat):l.getD i undef=(l[i]?).getD undef:=List.getD_eq_getElem?_getD
theorem splice_length (l:List Value):∀ (vs:List Value) (o:Nat),(splice vs o l).length=vs.length:=by
 induction l with
 |nil=>intro vs o;rfl
 |cons v l ih=>intro vs o;simp [splice,ih]
theorem splice_get (l:List Value):∀ (vs:List Value) (o j:Nat),o+l.length≤vs.length →
 (splice vs o l)[j]?=if o≤j∧j<o+l.length then l[j-o]? else vs[j]?:=by
 induction l with
 |nil=>intro vs o j _;simp [splice];intro h1 h2;omega
 |cons v l ih =>
  intro vs o j h
  simp only [List.length_cons] at h
  simp only [splice]
  rw [ih _ _ _ (by simp;omega)]
  by_cases h1:o+1≤j∧j<o+1+l.length
  ·rw [if_pos h1,if_pos (by simp;omega)]
   have:j-o=(j-(o+1))+1:=by omega
   rw [this];rfl
  ·rw [if_neg h1]
   by_cases h2:j=o
   ·subst h2
    rw [if_pos (by simp)]
    simp [List.getElem?_set]
    omega
   ·rw [if_neg (by simp;omega),List.getElem?_set_ne (by omega)]
theorem repeat_length (z:List Value) (n:Nat):(repeatCells z n).length=n*z.length:=by
 induction n with
 |zero=>simp [repeatCells]
 |succ n ih=>simp [repeatCells,ih,Nat.succ_mul,Nat.add_comm]
theorem repeat_get (z:List Value) (n:Nat):∀ i,i<n*z.length→(repeatCells z n)[i]?=z[i % z.length]?:=by
 induction n with
 |zero=>intro i h;simp at h
 |succ n ih =>
  intro i h
  simp only [repeatCells]
  rw [Nat.succ_mul] at h
  by_cases h1:i<z.length
  ·rw [List.getElem?_append_left h1,Nat.mod_eq_of_lt h1]
  ·rw [List.getElem?_append_right (by omega),ih _ (by omega)]
   congr 1
   rw [Nat.mod_eq_sub_mod (by omega:z.length≤i)]
theorem repeat_array (z:List Value) (n:Nat) (hz:0<z.length):((Array.range (n*z.length)).map fun i=>(z.toArray[i % z.toArray.size]!:Value))=(repeatCells z n).toArray:=by
 apply Array.ext'
 simp only [Array.toList_map,Array.toList_range]
 apply List.ext_getElem?
 intro i
 by_cases hi:i<n*z.length
 ·have hm:i % z.length<z.length:=Nat.mod_lt _ hz
  rw [List.getElem?_map,List.getElem?_range hi,repeat_get z n i hi,List.getElem?_eq_getElem hm]
  simp [hm]
 ·rw [List.getElem?_eq_none (by simpa using hi),List.getElem?_eq_none (by rw [repeat_length];omega)]
theorem LRel.repeat {ι:Inj} {g:Nat→Nat} {z:List Value} (h:z.all plainCell=true) (n:Nat):LRel ι g (repeatCells z n) (repeatCells z n):=by
 refine LRel.plain ?_
 induction n with
 |zero=>rfl
 |succ n ih=>simp only [repeatCells,List.all_append,h,ih,Bool.and_self]
theorem LRel.map_plain {ι:Inj} {g:Nat→Nat} (l:List UInt8):LRel ι g (l.map fun c=>Value.int .u8 c.toNat) (l.map fun c=>Value.int .u8 c.toNat) :=
 LRel.plain (by simp [plainCell])
theorem LRel.all_isCell {ι:Inj} {g:Nat→Nat} {l l':List Value} (h:LRel ι g l l') (ha:l.all isCell=true):∀ v∈l',v.oneCell'=true:=by
 intro v hv
 obtain ⟨i,hi,rfl⟩:=List.getElem_of_mem hv
 have hi0:i<l.length:=h.1▸hi
 have:=h.2 i hi0
 rw [getD_lt hi0,getD_lt hi] at this
 exact this.oneCell (List.all_eq_true.1 ha _ (List.getElem_mem hi0))
def RowSet (w w':World) (c:Nat) (cs cs':Array Value) (e:TypeId) (fr:Nat×Nat) (o:Nat) (l:List Value):Prop :=
 w'.heap[c]?=some (.cells cs' e fr)∧cs'.size=cs.size∧(∀ j,cs'[j]?=if o≤j∧j<o+l.length then l[j-o]? else cs[j]?) ∧
 (∀ d,d≠c→w'.heap[d]?=w.heap[d]?)∧w'.heap.size=w.heap.size∧w'.tape=w.tape∧w'.os=w.os∧w'.output=w.output
theorem storeCells_run (c:Nat) (e:TypeId) (fr:Nat×Nat) (off:Nat):∀ (l:List Value) (i:Nat) (w:World) (cs:Array Value),
 w.heap[c]?=some (.cells cs e fr)→(∀ v∈l,v.oneCell'=true)→off+i+l.length≤cs.size→(∀ j,j<cs.size→¬ (fr.1≤j∧j<fr.2)) →
 ∃ w' cs',(storeCells ⟨c,off,none⟩ l i).run P w=.ok () w'∧RowSet w w' c cs cs' e fr (off+i) l
 |[],i,w,cs,h,_,_,_=>⟨w,cs,rfl,h,rfl,fun j=>by rw [if_neg (by rw [List.length_nil];omega)],fun _ _=>rfl,rfl,rfl,rfl,rfl⟩
 |v::l,i,w,cs,h,hone,hle,hfr=>by
  simp only [List.length_cons] at hle
  have hlt:off+i<cs.size:=by omega
  have hcell:w.cell? ⟨c,off+i,none⟩=some cs[off+i]:=by rw [cell_of_row h];exact Array.getElem?_eq_getElem hlt
  have hfz:w.frozen? ⟨c,off+i,none⟩=false:=by
   rw [frozen_of_row h]
   have:=hfr (off+i) hlt
   by_cases h1:fr.1≤off+i
   ·have h2:¬ (off+i<fr.2):=fun h2=>this ⟨h1,h2⟩
    simp [h2]
   ·simp [h1]
  have hs:(store ⟨c,off+i,none⟩ v).run P w=.ok () (w.setCell ⟨c,off+i,none⟩ v):=by
   rw [run_store P w _ v _ (hone v (by simp)),hcell,hfz];rfl
  have hrow:(w.setCell ⟨c,off+i,none⟩ v).heap[c]?=some (.cells (cs.setIfInBounds (off+i) v) e fr):=by
   simp only [World.setCell,Array.getElem?_modify,h];simp
  have hoth:∀ d,d≠c→(w.setCell ⟨c,off+i,none⟩ v).heap[d]?=w.heap[d]?:=fun d hd=>by
   simp only [World.setCell,Array.getElem?_modify];rw [if_neg (by simpa using fun e=>hd e.symm)]
  obtain ⟨w',cs',hr,h1,h2,h3,h4,h5,h6,h7,h8⟩:=storeCells_run c e fr off l (i+1) (w.setCell ⟨c,off+i,none⟩ v) (cs.setIfInBounds (off+i) v) hrow
   (fun u hu=>hone u (by simp [hu])) (by rw [Array.size_setIfInBounds];omega) (by simpa using hfr)
  refine ⟨w',cs',?_,h1,by simpa using h2,fun j=>?_,fun d hd=>(h4 d hd).trans (hoth d hd),by simpa using h5,by rw [h6];rfl,by rw [h7];rfl,by rw [h8];rfl⟩
  ·simp only [storeCells,Sem.run_bind,addr_add,hs,Result.andThen_ok]
   exact hr
  ·rw [h3 j]
   by_cases hj:off+(i+1)≤j∧j<off+(i+1)+l.length
   ·rw [if_pos hj,if_pos (by simp;omega)]
    have:j-(off+i)=(j-(off+(i+1)))+1:=by omega
    rw [this];rfl
   ·rw [if_neg hj]
    by_cases h2:j=off+i
    ·subst h2
     rw [if_pos (by simp)]
     simp [hlt]
    ·rw [if_neg (by simp;omega),Array.getElem?_setIfInBounds_ne (by omega)]
theorem Mem.gen_eq {m:Mem} {b:Nat} {vs:List Value} {e:TypeId} {g:Nat} {ro:Bool} (h:m.get b=.cells vs e g ro):m.gen b=g:=by
 unfold Mem.gen;rw [h];rfl
theorem Mem.ro_eq {m:Mem} {b:Nat} {vs:List Value} {e:TypeId} {g:Nat} {ro:Bool} (h:m.get b=.cells vs e g ro):m.ro b=ro:=by
 unfold Mem.ro;rw [h];rfl
theorem storeRow_sound {ι:Inj} {m m':Mem} {w:World} {a a':Addr} {l l':List Value} (hs:Sim P G ι m w) (ha:ARel ι m.gen a a') (hl:LRel ι m.gen l l')
 (h:storeRow m a l=some m'):∃ w' ι',(storeCells a' l').run P w=.ok () w'∧Ext ι m w ι' m' w'∧Sim P G ι' m' w':=by
 unfold storeRow at h
 split at h
 ·rename_i vs e g hg
  split at h
  ·rename_i hc
   simp only [Bool.and_eq_true,beq_iff_eq,decide_eq_true_eq] at hc
   obtain ⟨⟨⟨hgen,hle⟩,hpos⟩,hall⟩:=hc
   cases h
   obtain ⟨ib,hb,_,ha'⟩:=ha
   have hcur:=ha' (by rw [hgen,Mem.gen_eq hg])
   obtain ⟨cs,fr,e',hrow,hlim,hesz,hrel,hfr0⟩:=cells_of hs hb hg
   obtain ⟨rfl,hfr1⟩:=hfr0 rfl
   have hfr:∀ (_:false=false) j,j<cs.size→¬ (fr.1≤j∧j<fr.2):=fun _=>hfr1
   have hsz:(a.off+ib.sh)+0+l'.length≤cs.size:=by
    obtain ⟨v',h2,_⟩:=hrel (a.off+l.length-1) (by omega)
    have:=(Array.getElem?_eq_some_iff.1 h2).1
    rw [← hl.1];omega
   obtain ⟨w',cs',hrun,r1,r2,r3,r4,r5,r6,r7,r8⟩:=storeCells_run (P:=P) ib.blk e' fr (a.off+ib.sh) l' 0 w cs hrow (hl.all_isCell hall) hsz (hfr rfl)
   have hro:m.ro a.block=false:=Mem.ro_eq hg
   obtain ⟨ι',hext,hsim,_⟩:=upd_core (x:=.cells (splice vs a.off l) e' g false) (ib':=ib) (w':=w') (obj:=.cells cs' e' fr) hs hb hro rfl
    ⟨by rw [Mem.gen_eq hg];exact Nat.le_refl _,fun _=>rfl⟩ (.inl rfl) r1 (fun c _ hne=>r4 c hne) (by omega) r6 r7 r8 (fun ι' g' hle'=>by
     refine ⟨fun _=>rfl,by omega,hesz,fun i hi=>?_,fun _ j hj=>hfr rfl j (by omega)⟩
     rw [splice_length] at hi
     rw [r3,getD_eq,splice_get _ _ _ _ hle]
     by_cases hin:a.off≤i∧i<a.off+l.length
     ·rw [if_pos hin,if_pos (by rw [← hl.1];omega)]
      have e1:ib.sh+i-(a.off+ib.sh+0)=i-a.off:=by omega
      rw [e1]
      have hlt:i-a.off<l.length:=by omega
      obtain ⟨v',h1,h2⟩:=hl.get (List.getElem?_eq_getElem hlt)
      refine ⟨v',h1,?_⟩
      rw [List.getElem?_eq_getElem hlt]
      exact h2.mono hle'
     ·rw [if_neg hin,if_neg (by rw [← hl.1];omega)]
      obtain ⟨v',h1,h2⟩:=hrel i hi
      exact ⟨v',h1,by rw [← getD_eq];exact h2.mono hle'⟩)
   exact ⟨w',ι',by rw [hcur];exact hrun,hext,hsim⟩
  ·cases h
 ·cases h
theorem astore_sound {ι:Inj} {m m':Mem} {w:World} {t:TypeId} {a a':Addr} {v v':Value} (hs:Sim P G ι m w) (ha:ARel ι m.gen a a') (hv:VRel ι m.gen v v')
 (h:astore P t a v m=some m'):∃ w' ι',(storeVar t a' v').run P w=.ok () w'∧Ext ι m w ι' m' w'∧Sim P G ι' m' w':=by
 unfold astore at h
 split at h
 ·rename_i i hi
  split at h
  ·rename_i hsz
   obtain ⟨w',ι',hr,hx⟩:=storeRow_sound hs ha hv.cells h
   refine ⟨w',ι',?_,hx⟩
   have:v'.cells.size=i.size:=by
    have:=hv.cells.1
    simp only [Array.length_toList] at this
    omega
   simp only [storeVar,Sem.run_bind,run_sizeOf' hi,Result.andThen_ok,this,ne_eq,not_true_eq_false,if_false]
   exact hr
  ·cases h
 ·cases h
theorem size_data (s:ByteArray):s.data.toList.length=s.size:=rfl
theorem sliceCells_sound {ι:Inj} {m:Mem} {w:World} {size n:Nat} {s s':Value} {l:List Value} (hs:Sim P G ι m w) (hv:VRel ι m.gen s s')
 (h:sliceCells m size n s=some l):∃ l',(Builtin.firstCells size n s').run P w=.ok l'.toArray w∧LRel ι m.gen l l':=by
 unfold sliceCells at h
 split at h
 ·split at h
  ·cases h;cases hv
   exact ⟨[],by simp [Builtin.firstCells],LRel.nil⟩
  ·cases h
 ·split at h
  ·rename_i hn
   cases h;cases hv with
   |slE b o s a'=>exact ⟨[],by subst hn;simp only [Builtin.firstCells,Nat.zero_mul,loadCells,loadCellsFrom];rfl,LRel.nil⟩
  ·cases h
 ·rename_i b off len g
  split at h
  ·rename_i hn
   cases hv with
   |sl _ _ _ _ a' cap hsr =>
    by_cases h0:n=0
    ·subst h0
     obtain ⟨vs,e,g',ro,hg,hag,hgen,hlen,hl⟩:=cellsAt_some h
     refine ⟨[],by simp only [Builtin.firstCells,Nat.zero_mul,loadCells,loadCellsFrom];rfl,?_⟩
     rw [hl];simp [LRel.nil]
    ·obtain ⟨ib,hb,hle,h3,hcur⟩:=hsr
     obtain ⟨vs,e,g',ro,hg,hag,hgen,hlen,hl⟩:=cellsAt_some h
     have hgg:g=m.gen b:=by rw [hgen];exact hag
     obtain ⟨h1,h2,h4⟩:=hcur hgg
     have h5:a'.off=off+ib.sh:=by
      rcases h4 with h4|h4
      ·omega
      ·exact h4.1
     have ha':a'=⟨ib.blk,off+ib.sh,none⟩:=by
      obtain ⟨x,y,z⟩:=a'
      simp at h1 h2 h5
      simp [h1,h2,h5]
     obtain ⟨l',hrel,hl',hcell⟩:=cellsAt_run (a':=a') hs ⟨ib,hb,by simp [agen,hgg],fun _=>ha'⟩ h
     refine ⟨l',?_,hrel⟩
     have:=run_loadCells_list (P:=P) w a' l' hcell
     rw [hl'] at this
     simp only [Builtin.firstCells]
     exact this
  ·cases h
 ·rename_i s
  split at h
  ·rename_i hn
   cases h;cases hv
   refine ⟨_,?_,LRel.map_plain _⟩
   simp only [Builtin.firstCells,Sem.run_pure]
   congr 1
   apply Array.ext'
   rw [Array.toList_map,Lib.extract_data]
   simp
  ·cases h
 ·cases h
theorem lenOf_sound {ι:Inj} {g:Nat→Nat} {s s':Value} {n:Nat} (hv:VRel ι g s s') (h:lenOf s=some n) (w:World):(Builtin.lenOf s').run P w=.ok n w:=by
 unfold lenOf at h
 split at h
 ·cases h;cases hv<;>rfl
 ·cases h;cases hv;rfl
 ·cases h
theorem newSlice_sound {ι:Inj} {m:Mem} {w w':World} {e:TypeId} {l:List Value} {n cap:Nat} {cs:Array Value} (hs:Sim P G ι m w) (hw':w'.heap=w.heap.push (.cells cs e (0,0)))
 (ht:w'.tape=w.tape) (ho:w'.os=w.os) (hou:w'.output=w.output) (hl:∀ i,i<l.length→∃ v',cs[i]?=some v'∧VRel ι m.gen (l.getD i undef) v')
 (hn:n≤cap) (hcap:cap=0∨cap*P.cellsOf e≤cs.size) :
 Post P G ι m w (newSlice m e l n).1 (newSlice m e l n).2 (.slice (some ⟨w.heap.size,0,none⟩) n cap) w':=by
 obtain ⟨ι',hext,hsim,hb⟩:=alloc_core (x:=.cells l e 0 false) (ib:=⟨w.heap.size,0,cs.size,P.cellsOf e⟩) hs hw' ht ho hou rfl
  ⟨fun _=>rfl,rfl,rfl,fun i hi=>by simpa using hl i hi,fun _ j _=>by simp⟩ rfl
 refine ⟨ι',hext,hsim,.sl _ _ _ _ _ _ ⟨_,hb,Nat.zero_le _,hn,fun _=>⟨rfl,rfl,?_⟩⟩⟩
 rcases hcap with h|h
 ·exact .inl h
 ·exact .inr ⟨rfl,by simpa using h⟩
theorem growBy_le (n:Nat):∀ (r c:Nat),c≤n+(n+768) / 4→Builtin.growBy n r c≤n+(n+768) / 4
 |0,c,h=>h
 |r+1,c,h=>by
  simp only [Builtin.growBy]
  split
  ·exact h
  ·exact growBy_le n r _ (by omega)
theorem nextslicecap_le (n c:Nat) (h:c<n):Builtin.nextslicecap n c≤2*n+192:=by
 unfold Builtin.nextslicecap
 split
 ·omega
 ·split
  ·omega
  ·have:=growBy_le n 4 c (by omega);omega
theorem append_room {need bytes c:Nat} (h:need*(bytes+1)≤room) (hc:c<need):Builtin.nextslicecap need c*bytes≤2 ^ 48:=by
 have h1:=nextslicecap_le need c hc
 have h2:bytes+1≤room:=by
  refine Nat.le_trans ?_ h
  have:1*(bytes+1)≤need*(bytes+1):=Nat.mul_le_mul_right _ (by omega)
  omega
 have h3:Builtin.nextslicecap need c*bytes≤(2*need+192)*bytes:=Nat.mul_le_mul_right _ h1
 have h4:need*bytes≤room:=Nat.le_trans (Nat.mul_le_mul_left _ (by omega)) h
 have h5:(2*need+192)*bytes=2*(need*bytes)+192*bytes:=by rw [Nat.add_mul,Nat.mul_assoc]
 have h6:room=2 ^ 40:=rfl
 omega
def appendTail (e:TypeId) (size:Nat) (zeros:Bool) (n:Nat) (x:Value) (base:Option Addr) (sLen sCap:Nat) (appended:Sem (Array Value)):Sem Value:=do
 let need:=sLen+n
 if need≤sCap then
  let new ← appended
  if let some a:=base then storeCells (a.add (sLen*size)) new.toList
  pure (.slice base need sCap)
 else
  if (need:Int)>IntKind.i64.max∧(zeros∨(← typeInfo e).bytes=0) then runtimePanic (.error "growslice: len out of range")
  if Builtin.nextslicecap need sCap*(← typeInfo e).bytes>2 ^ 48 then (if zeros then runtimePanic (.error "growslice: len out of range") else do
   if !(← Builtin.mayShare size sLen n base x) then mark .noRoom
   unsupported (.resourceLimit "append: a slice or a string whose bytes no memory bears"))
  let newCap ← choose (.appendCap need sCap e)
  askRoom (newCap*(← typeInfo e).bytes)
  let old ← Builtin.firstCells size sLen (.slice base sLen sCap)
  let new ← appended
  let rest:=Builtin.zeroCells (← zeroValue e).cells (newCap-need)
  pure (.slice (some (← newRow e (old++new++rest))) need newCap)
theorem zeroCells_size (z:Array Value) (n:Nat):(Builtin.zeroCells z n).size=n*z.size:=by simp [Builtin.zeroCells]
theorem appendTail_grows {e:TypeId} {i:TypeInfo} {size n:Nat} {zeros:Bool} {x:Value} {base:Option Addr} {sLen sCap:Nat} {ap:Sem (Array Value)} {w:World} {old new:List Value} {z:Value}
 (hi:P.info? e=some i) (hz:i.zero=some z) (hneed:¬ sLen+n≤sCap) (hroom:(sLen+n)*(i.bytes+1)≤room)
 (hold:∀ k,(Builtin.firstCells size sLen (.slice base sLen sCap)).run P { w with drawn:=k }=.ok old.toArray { w with drawn:=k })
 (hap:∀ k,ap.run P { w with drawn:=k }=.ok new.toArray { w with drawn:=k }) :
 ∃ cap,sLen+n≤cap∧(appendTail e size zeros n x base sLen sCap ap).run P w =
  .ok (.slice (some ⟨w.heap.size,0,none⟩) (sLen+n) cap) { w with heap:=w.heap.push (.cells (old.toArray++new.toArray++Builtin.zeroCells z.cells (cap-(sLen+n))) e (0,0)),drawn:=w.drawn+1 }:=by
 let q:Question:=.appendCap (sLen+n) sCap e
 refine ⟨q.cut (w.tape w.drawn q),?_,?_⟩
 ·show sLen+n≤sLen+n+_ % _
  omega
 ·have h1:¬ ((sLen+n:Nat):Int)>IntKind.i64.max:=by
   have h2:sLen+n≤room:=Nat.le_trans (Nat.le_mul_of_pos_right _ (by omega)) hroom
   have h3:room=2 ^ 40:=rfl
   rw [IntKind.max_i64]
   omega
  have h2:¬ Builtin.nextslicecap (sLen+n) sCap*i.bytes>2 ^ 48:=by have:=append_room hroom (c:=sCap) (by omega);omega
  have h3:(Question.appendCap (sLen+n) sCap e).forced=false:=rfl
  have ho:=hold (w.drawn+1)
  have ha:=hap (w.drawn+1)
  have hzv:∀ w,(zeroValue e).run P w=.ok z w:=fun w=>by simp [zeroValue,run_typeInfo' hi,hz]
  simp only [appendTail]
  rw [if_neg hneed]
  simp only [Sem.run_bind,run_typeInfo' hi,Result.andThen_ok,h1,false_and,if_false,Sem.run_pure,h2,run_choose,h3,Bool.false_eq_true,run_askRoom,ho,ha,hzv,newRow,run_newObj]
  rfl
end Go.Am
set_option linter.unusedSimpArgs false
set_option linter.unusedVariables false
namespace Go.Am
variable {P:Program} {G:List Nat}
theorem Sim.drawn {ι:Inj} {m:Mem} {w:World} (hs:Sim P G ι m w) (k:Nat):Sim P G ι m { w with drawn:=k }:=⟨hs.dom,hs.blk,hs.inj,hs.glob⟩
theorem sliceCells_length {m:Mem} {size n:Nat} {s:Value} {l:List Value} (h:sliceCells m size n s=some l):l.length=n*size:=by
 unfold sliceCells at h
 split at h
 ·split at h
  ·rename_i h0;cases h;simp [h0]
  ·cases h
 ·split at h
  ·rename_i h0;cases h;simp [h0]
  ·cases h
 ·split at h
  ·obtain ⟨vs,e,g',ro,hg,hag,hgen,hlen,hl⟩:=cellsAt_some h
   rw [hl,List.length_take];omega
  ·cases h
 ·split at h
  ·rename_i h0;cases h;simp [h0.2,size_data];have:=h0.1;omega
  ·cases h
 ·cases h
theorem zeroSized_some {i:TypeInfo} (h:zeroSized i=true):∃ z,i.zero=some z∧z.cells.size=i.size:=by
 unfold zeroSized at h
 split at h
 ·exact ⟨_,by assumption,by simpa using h⟩
 ·cases h
theorem newRow_get {old new rest:List Value} {ι:Inj} {g:Nat→Nat} {l:List Value} (h:LRel ι g l (old++new)) (i:Nat) (hi:i<l.length) :
 ∃ v',(old.toArray++new.toArray++rest.toArray)[i]?=some v'∧VRel ι g (l.getD i undef) v':=by
 obtain ⟨v',h1,h2⟩:=h.get (List.getElem?_eq_getElem hi)
 refine ⟨v',?_,by rw [getD_lt hi];exact h2⟩
 have hlt:i<(old++new).length:=by rw [← h.1];exact hi
 simp only [List.append_toArray,List.getElem?_toArray]
 rw [List.getElem?_append_left hlt]
 exact h1
theorem appendCells_sound {ι:Inj} {m m':Mem} {w:World} {e:TypeId} {i:TypeInfo} {l l':List Value} {n sLen sCap:Nat} {zeros:Bool} {x s v:Value} {base:Option Addr} {ap:Sem (Array Value)}
 (hs:Sim P G ι m w) (hi:P.info? e=some i) (hz:zeroSized i=true) (hv:VRel ι m.gen s (.slice base sLen sCap)) (hsl:lenOf s=some sLen) (hl:LRel ι m.gen l l') (hlen:l.length=n*i.size)
 (hcell:l.all isCell=true) (hroom:(sLen+n)*(i.bytes+1)≤room) (hap:∀ k,ap.run P { w with drawn:=k }=.ok l'.toArray { w with drawn:=k })
 (h:appendCells m e i.size l n s=some (v,m')) :
 ∃ v' w',(appendTail e i.size zeros n x base sLen sCap ap).run P w=.ok v' w'∧Post P G ι m w v m' v' w':=by
 obtain ⟨z,hz1,hz2⟩:=zeroSized_some hz
 have hap0:ap.run P w=.ok l'.toArray w:=hap w.drawn
 unfold appendCells at h
 have grow:∀ (old:List Value),sLen=0→0<n→sCap=0→(∀ k,(Builtin.firstCells i.size sLen (.slice base sLen sCap)).run P { w with drawn:=k }=.ok #[] { w with drawn:=k }) →
  some (newSlice m e l n)=some (v,m')→∃ v' w',(appendTail e i.size zeros n x base sLen sCap ap).run P w=.ok v' w'∧Post P G ι m w v m' v' w':=fun _ h0 hn hc hold h=>by
  obtain ⟨cap,hcap,hrun⟩:=appendTail_grows (old:=[]) (new:=l') (z:=z) (x:=x) (zeros:=zeros) hi hz1 (by omega) hroom hold hap
  refine ⟨_,_,hrun,?_⟩
  rw [h0,Nat.zero_add] at hcap ⊢
  have hp:=newSlice_sound (w':={ w with heap:=w.heap.push (.cells (([]:List Value).toArray++l'.toArray++Builtin.zeroCells z.cells (cap-n)) e (0,0)),drawn:=w.drawn+1 })
   (e:=e) (l:=l) (n:=n) (cap:=cap) hs rfl rfl rfl rfl (fun j hj=>newRow_get (old:=[]) (rest:=(Builtin.zeroCells z.cells (cap-n)).toList) (by simpa using hl) j hj) hcap
   (.inr (by
    rw [cellsOf_info hi]
    have h1:(Builtin.zeroCells z.cells (cap-n)).size=(cap-n)*i.size:=by rw [zeroCells_size,hz2]
    have h2:l'.length=n*i.size:=by rw [← hl.1];exact hlen
    simp only [Array.size_append,List.size_toArray,List.length_nil,h1,h2,Nat.zero_add]
    rw [← Nat.add_mul]
    exact Nat.le_of_eq (by congr 1;omega)))
  cases h
  exact hp
 split at h
 ·
  cases hv
  simp only [lenOf,Option.some.injEq] at hsl
  split at h
  ·rename_i hn
   cases h
   subst hn
   have:l'=[]:=List.length_eq_zero_iff.1 (by rw [← hl.1,hlen];simp)
   subst this
   refine ⟨.slice none 0 0,w,?_,Post.same hs .slN⟩
   simp only [appendTail,Nat.add_zero,Nat.le_refl,if_true,Sem.run_bind,hap0,Result.andThen_ok]
   rfl
  ·exact grow [] rfl (by omega) rfl (fun k=>rfl) h
 ·
  rename_i b o g
  cases hv with
  |slE _ _ _ a' =>
   split at h
   ·rename_i hn
    cases h
    subst hn
    have:l'=[]:=List.length_eq_zero_iff.1 (by rw [← hl.1,hlen];simp)
    subst this
    refine ⟨.slice (some a') 0 0,w,?_,Post.same hs (.slE _ _ _ _)⟩
    simp only [appendTail,Nat.add_zero,Nat.le_refl,if_true,Sem.run_bind,hap0,Result.andThen_ok]
    rfl
   ·exact grow [] rfl (by omega) rfl (fun k=>by simp only [Builtin.firstCells,Nat.zero_mul,loadCells,loadCellsFrom];rfl) h
 ·
  rename_i b off len g
  split at h
  ·rename_i vs e' g' hg
   split at h
   ·rename_i hc
    simp only [Bool.and_eq_true,beq_iff_eq,decide_eq_true_eq] at hc
    obtain ⟨⟨rfl,rfl⟩,hsize⟩:=hc
    split at h
    ·rename_i old hold
     cases h
     obtain ⟨hle,rfl⟩:=takeN_some hold
     simp only [lenOf,Option.some.injEq] at hsl
     subst hsl
     cases hv with
     |sl _ _ _ _ a' cap hsr =>
      obtain ⟨ib,hb,_,q3,hcur⟩:=hsr
      obtain ⟨q1,q2,q4⟩:=hcur (Mem.gen_eq hg).symm
      obtain ⟨cs,fr,e0,hrow,hlim,hesz,hrel,hfr0⟩:=cells_of hs hb hg
      obtain ⟨he0,hfr1⟩:=hfr0 rfl
      have he1:=he0.symm
      subst he1
      have hfr:∀ (_:false=false) j,j<cs.size→¬ (fr.1≤j∧j<fr.2):=fun _=>hfr1
      have hesz':ib.esz=i.size:=by rw [hesz,cellsOf_info hi]
      have hlen':l'.length=n*i.size:=by rw [← hl.1];exact hlen
      rw [List.length_drop] at hle
      by_cases hfit:len+n≤sCap
      ·by_cases hc0:sCap=0
       ·
        have hl0:len=0:=by omega
        have hn0:n=0:=by omega
        subst hl0;subst hn0
        have hl'0:l'=[]:=List.length_eq_zero_iff.1 (by rw [hlen'];simp)
        have hl0:l=[]:=List.length_eq_zero_iff.1 (by rw [hlen];simp)
        subst hl'0;subst hl0
        obtain ⟨ι',hext,hsim,hb'⟩:=upd_core (x:=.cells [] e (g+1) false) (ib':=ib) (w':=w) (obj:=.cells cs e fr) hs hb (Mem.ro_eq hg) rfl
         ⟨by rw [Mem.gen_eq hg];exact Nat.le_succ _,fun h=>absurd h (by rw [Mem.gen_eq hg];simp only [ABlk.gen];omega)⟩ (.inl rfl) hrow (fun c _ _=>rfl) (Nat.le_refl _) rfl rfl rfl
         (fun ι' g' _=>⟨fun _=>rfl,hlim,hesz,fun i hi=>absurd hi (by simp),fun _=>hfr rfl⟩)
        refine ⟨.slice (some a') 0 sCap,w,?_,ι',?_,?_,?_⟩
        ·simp only [appendTail,Nat.add_zero,hfit,if_true,Sem.run_bind,hap0,Result.andThen_ok]
         rfl
        ·simpa using hext
        ·simpa using hsim
        ·exact .sl _ _ _ _ _ _ ⟨ib,hb',by simp [Mem.gen,Mem.get_put,ABlk.gen],by omega,fun _=>⟨q1,q2,.inl hc0⟩⟩
       ·
        obtain ⟨q5,q6⟩:a'.off=off+ib.sh∧a'.off+sCap*ib.esz≤ib.lim:=by
         rcases q4 with h|h
         ·exact absurd h hc0
         ·exact h
        have ha':a'=⟨ib.blk,off+ib.sh,none⟩:=by
         obtain ⟨x1,y1,z1⟩:=a'
         simp at q1 q2 q5
         simp [q1,q2,q5]
        have hmul:(len+n)*i.size≤sCap*i.size:=Nat.mul_le_mul_right _ hfit
        rw [Nat.add_mul] at hmul
        rw [hesz',hlim] at q6
        obtain ⟨w',cs',hrun,r1,r2,r3,r4,r5,r6,r7,r8⟩:=storeCells_run (P:=P) ib.blk e fr (off+ib.sh+len*i.size) l' 0 w cs hrow (hl.all_isCell hcell) (by omega) (hfr rfl)
        obtain ⟨ι',hext,hsim,hb'⟩:=upd_core (x:=.cells ((vs.drop off).take (len*i.size)++l) e (g+1) false) (ib':=⟨ib.blk,ib.sh+off,ib.lim,ib.esz⟩) (w':=w') (obj:=.cells cs' e fr) hs hb (Mem.ro_eq hg) rfl
         ⟨by rw [Mem.gen_eq hg];exact Nat.le_succ _,fun h=>absurd h (by rw [Mem.gen_eq hg];simp only [ABlk.gen];omega)⟩ (.inl rfl) r1 (fun c _ hne=>r4 c hne) (by omega) r6 r7 r8
         (fun ι' g' hle'=>by
          refine ⟨fun _=>rfl,by rw [hlim];exact r2.symm,hesz,fun k hk=>?_,fun _ j hj=>hfr rfl j (by omega)⟩
          simp only [List.length_append,List.length_take,List.length_drop] at hk
          show ∃ v',cs'[(ib.sh+off)+k]?=some v'∧VRel ι' g' _ v'
          rw [r3,getD_eq]
          by_cases hk1:k<len*i.size
          ·rw [if_neg (by omega),List.getElem?_append_left (by rw [List.length_take,List.length_drop];omega),List.getElem?_take,if_pos hk1,List.getElem?_drop]
           obtain ⟨v',h1,h2⟩:=hrel (off+k) (by omega)
           refine ⟨v',?_,by rw [← getD_eq];exact h2.mono hle'⟩
           rw [← h1];congr 1;omega
          ·rw [if_pos (by omega),List.getElem?_append_right (by rw [List.length_take,List.length_drop];omega)]
           have e1:k-(List.take (len*i.size) (List.drop off vs)).length=k-len*i.size:=by rw [List.length_take,List.length_drop];omega
           have e2:ib.sh+off+k-(off+ib.sh+len*i.size+0)=k-len*i.size:=by omega
           rw [e1]
           show ∃ v',l'[ib.sh+off+k-(off+ib.sh+len*i.size+0)]?=some v'∧_
           rw [e2]
           have hlt:k-len*i.size<l.length:=by omega
           obtain ⟨v',h1,h2⟩:=hl.get (List.getElem?_eq_getElem hlt)
           refine ⟨v',h1,?_⟩
           rw [List.getElem?_eq_getElem hlt]
           exact h2.mono hle')
        refine ⟨.slice (some a') (len+n) sCap,w',?_,ι',hext,hsim,?_⟩
        ·simp only [appendTail,hfit,if_true,Sem.run_bind,hap0,Result.andThen_ok,ha',addr_add,hrun,Sem.run_pure]
        ·exact .sl _ _ _ _ _ _ ⟨_,hb',by simp [Mem.gen,Mem.get_put,ABlk.gen],hfit,fun _=>⟨q1,q2,.inr ⟨by simp [q5];omega,by simp only;rw [hesz',hlim];exact q6⟩⟩⟩
      ·
       have hold2:∃ old',LRel ι m.gen ((vs.drop off).take (len*i.size)) old'∧∀ k,(Builtin.firstCells i.size len (.slice (some a') len sCap)).run P { w with drawn:=k }=.ok old'.toArray { w with drawn:=k }:=by
        have hsc:sliceCells m i.size len (.slice (some ⟨b,off,none⟩) len g)=some ((vs.drop off).take (len*i.size)):=by
         simp only [sliceCells,Nat.le_refl,if_true,Mem.cellsAt,hg,agen,Option.getD_some]
         exact hold
        have hvr:VRel ι m.gen (.slice (some ⟨b,off,none⟩) len g) (.slice (some a') len sCap):=.sl _ _ _ _ _ _ ⟨ib,hb,by rw [Mem.gen_eq hg];exact Nat.le_refl _,q3,fun _=>⟨q1,q2,q4⟩⟩
        obtain ⟨old',h1,h2⟩:=sliceCells_sound hs hvr hsc
        refine ⟨old',h2,fun k=>?_⟩
        obtain ⟨old2,h3,h4⟩:=sliceCells_sound (hs.drawn k) hvr hsc
        have hsame:old2=old':=by
         have g1:∀ (a:Addr),({ w with drawn:=k }:World).cell? a=w.cell? a:=fun a=>rfl
         by_cases hz0:len=0
         ·subst hz0
          have hA:=h1;have hB:=h3
          simp only [Builtin.firstCells,Nat.zero_mul,loadCells,loadCellsFrom,Sem.run_pure] at hA hB
          injection hA with hA _
          injection hB with hB _
          have hA1:old'=[]:=(congrArg Array.toList hA).symm
          have hB1:old2=[]:=(congrArg Array.toList hB).symm
          rw [hA1,hB1]
         ·have q5:a'.off=off+ib.sh:=by
           rcases q4 with h|h
           ·omega
           ·exact h.1
          have ha':a'=⟨ib.blk,off+ib.sh,none⟩:=by
           obtain ⟨x1,y1,z1⟩:=a'
           simp at q1 q2 q5
           simp [q1,q2,q5]
          have hget:∀ j,j<len*i.size→∃ u,w.cell? (a'.add j)=some u:=fun j hj=>by
           obtain ⟨u,hu,_⟩:=hrel (off+j) (by omega)
           exact ⟨u,by rw [ha',addr_add,cell_of_row hrow,← hu];congr 1;omega⟩
          have hch:∀ j,∃ u,j<len*i.size→w.cell? (a'.add j)=some u:=fun j=>by
           by_cases hj:j<len*i.size
           ·obtain ⟨u,hu⟩:=hget j hj;exact ⟨u,fun _=>hu⟩
           ·exact ⟨undef,fun h=>absurd h hj⟩
          have f1:=run_loadCells (P:=P) w a' (len*i.size) (fun j=>(hch j).choose) (fun j hj=>(hch j).choose_spec hj)
          have f2:=run_loadCells (P:=P) { w with drawn:=k } a' (len*i.size) (fun j=>(hch j).choose) (fun j hj=>(hch j).choose_spec hj)
          simp only [Builtin.firstCells] at h1 h3
          rw [h1] at f1
          rw [h3] at f2
          injection f1 with f1 _
          injection f2 with f2 _
          have:=f1.trans f2.symm
          simpa using this.symm
        rw [hsame] at h3
        exact h3
       obtain ⟨old',hor,hord⟩:=hold2
       obtain ⟨cap,hcap,hrun⟩:=appendTail_grows (old:=old') (new:=l') (z:=z) (x:=x) (zeros:=zeros) hi hz1 hfit hroom hord hap
       refine ⟨_,_,hrun,?_⟩
       have ho1:old'.length=len*i.size:=by rw [← hor.1,List.length_take,List.length_drop];omega
       have hsz:(old'.toArray++l'.toArray++Builtin.zeroCells z.cells (cap-(len+n))).size=cap*i.size:=by
        simp only [Array.size_append,List.size_toArray,zeroCells_size,hz2,ho1,hlen']
        rw [← Nat.add_mul,← Nat.add_mul]
        congr 1;omega
       obtain ⟨ι',hext,hsim,hb'⟩:=upd_core (x:=.cells ((vs.drop off).take (len*i.size)++l) e (g+1) false) (ib':=⟨w.heap.size,0,cap*i.size,P.cellsOf e⟩)
        (w':={ w with heap:=w.heap.push (.cells (old'.toArray++l'.toArray++Builtin.zeroCells z.cells (cap-(len+n))) e (0,0)),drawn:=w.drawn+1 })
        (obj:=.cells (old'.toArray++l'.toArray++Builtin.zeroCells z.cells (cap-(len+n))) e (0,0)) hs hb (Mem.ro_eq hg) rfl
        ⟨by rw [Mem.gen_eq hg];exact Nat.le_succ _,fun h=>absurd h (by rw [Mem.gen_eq hg];simp only [ABlk.gen];omega)⟩ (.inr (Nat.le_refl _)) (by simp)
        (fun c hc _=>by show (w.heap.push _)[c]?=_;rw [Array.getElem?_push,if_neg (by omega)]) (by simp) rfl rfl rfl
        (fun ι' g' hle'=>by
         refine ⟨fun _=>rfl,hsz.symm,rfl,fun k hk=>?_,fun _ j hj=>by simp⟩
         have hk':=newRow_get (rest:=(Builtin.zeroCells z.cells (cap-(len+n))).toList) (hor.append hl) k hk
         obtain ⟨v',h1,h2⟩:=hk'
         exact ⟨v',by simpa using h1,h2.mono hle'⟩)
       refine ⟨ι',hext,hsim,.sl _ _ _ _ _ _ ⟨_,hb',by simp [Mem.gen,Mem.get_put,ABlk.gen],hcap,fun _=>⟨rfl,rfl,.inr ⟨rfl,?_⟩⟩⟩⟩
       simp only [cellsOf_info hi,Nat.zero_add,Nat.le_refl]
    ·cases h
   ·cases h
  ·cases h
 ·cases h
end Go.Am
set_option linter.unusedSimpArgs false
set_option linter.unusedVariables false
namespace Go.Am
variable {P:Program} {G:List Nat}
def ARels (ι:Inj) (g:Nat→Nat) (as as':Array Value):Prop:=∀ (i:Nat) v,as[i]?=some v→∃ v',as'[i]?=some v'∧VRel ι g v v'
theorem loadCellsFrom_drawn (a:Addr) (k:Nat):∀ (n i:Nat) (acc:Array Value) (w:World) (r:Array Value),(loadCellsFrom a i n acc).run P w=.ok r w →
 (loadCellsFrom a i n acc).run P { w with drawn:=k }=.ok r { w with drawn:=k }
 |0,i,acc,w,r,h=>by
  simp only [loadCellsFrom,Sem.run_pure] at h ⊢
  injection h with h _
  rw [h]
 |n+1,i,acc,w,r,h=>by
  simp only [loadCellsFrom,Sem.run_bind,run_load] at h ⊢
  have e1:({ w with drawn:=k }:World).cell? (a.add i)=w.cell? (a.add i):=rfl
  have e2:({ w with drawn:=k }:World).farLoad P (a.add i) (Mode.plain==Mode.atomic)=w.farLoad P (a.add i) (Mode.plain==Mode.atomic):=rfl
  rw [e1,e2]
  cases hc:w.cell? (a.add i) with
  |some v =>
   rw [hc] at h
   exact loadCellsFrom_drawn a k n (i+1) (acc.push v) w r h
  |none =>
   rw [hc] at h
   cases hf:w.farLoad P (a.add i) (Mode.plain==Mode.atomic) with
   |ok v =>
    rw [hf] at h
    exact loadCellsFrom_drawn a k n (i+1) (acc.push v.1) w r h
   |error e=>rw [hf] at h;cases h
theorem firstCells_drawn {size n:Nat} {x:Value} {w:World} {r:Array Value} (k:Nat) (h:(Builtin.firstCells size n x).run P w=.ok r w) :
 (Builtin.firstCells size n x).run P { w with drawn:=k }=.ok r { w with drawn:=k }:=by
 unfold Builtin.firstCells at h ⊢
 split
 ·rename_i a _ _
  exact loadCellsFrom_drawn a k _ _ _ _ _ h
 ·simp only [Sem.run_pure] at h ⊢;injection h with h _;rw [h]
 ·simp only [Sem.run_pure] at h ⊢;injection h with h _;rw [h]
 ·simp_all
theorem append_run_plain {aT:Array TypeId} {as:Array Value} {sT xT e:TypeId} {xd:TypeDesc} {i:TypeInfo} {x:Value} {base:Option Addr} {sLen sCap n:Nat} {w:World} (ty:TypeId)
 (h0:aT[0]?=some sT) (h1:as[0]?=some (.slice base sLen sCap)) (h2:as[1]?=some x) (h3:aT[1]?=some xT)
 (hu:P.underlying sT=some (.slice e)) (hx:P.underlying xT=some xd) (hxd:∀ k,xd≠.int k) (hi:P.info? e=some i) (hn:∀ w,(Builtin.lenOf x).run P w=.ok n w) :
 (Builtin.append_ aT ty as).run P w=(appendTail e i.size false n x base sLen sCap (Builtin.firstCells i.size n x)).run P w:=by
 have hz:(match xd with| .int _=>true|_=>false)=false:=by cases xd<;>first|rfl|exact absurd rfl (hxd _)
 simp only [Builtin.append_,h0,h1,h2,h3,Sem.run_bind,run_underlying hu,Result.andThen_ok,run_sizeOf' hi,run_underlying hx,Sem.run_pure]
 cases xd<;>first
  |exact absurd rfl (hxd _)
  |(simp only [Bool.false_eq_true,if_false,hn,Result.andThen_ok,Bool.not_false,if_true,appendTail,Sem.run_bind];rfl)
  |(simp only [Bool.false_eq_true,if_false,hn,Result.andThen_ok,Bool.not_false,if_true,appendTail])
theorem wrap_small {n:Int} (h0:0≤n) (h1:n≤2 ^ 40):IntKind.i64.wrap n=n:=by
 have e:n % (2 ^ 64:Int)=n:=Int.emod_eq_of_lt h0 (by omega)
 simp only [IntKind.wrap,IntKind.bits,IntKind.signed,e,Bool.true_and]
 rw [if_neg (by simp;omega)]
theorem append_run_zeros {aT:Array TypeId} {as:Array Value} {sT xT e:TypeId} {k kk:IntKind} {i:TypeInfo} {nn:Int} {base:Option Addr} {sLen sCap:Nat} {w:World} (ty:TypeId)
 (h0:aT[0]?=some sT) (h1:as[0]?=some (.slice base sLen sCap)) (h2:as[1]?=some (.int kk nn)) (h3:aT[1]?=some xT)
 (hu:P.underlying sT=some (.slice e)) (hx:P.underlying xT=some (.int k)) (hi:P.info? e=some i) (hn0:0≤nn) (hn1:nn≤2 ^ 30) (hroom:(sLen+nn.toNat)*(i.bytes+1)≤room) :
 (Builtin.append_ aT ty as).run P w=(appendTail e i.size true nn.toNat (.int kk nn) base sLen sCap
  (if nn.toNat*i.size=0 then pure #[] else do pure (Builtin.zeroCells (← zeroValue e).cells nn.toNat))).run P w:=by
 have hw:IntKind.i64.wrap nn=nn:=wrap_small hn0 (by omega)
 have hneg:¬ nn<0:=by omega
 have hbig:¬ nn*(i.bytes:Int)>2 ^ 48:=by
  have h1:nn.toNat*(i.bytes+1)≤room:=Nat.le_trans (Nat.mul_le_mul_right _ (by omega)) hroom
  have h2:nn.toNat*i.bytes≤nn.toNat*(i.bytes+1):=Nat.mul_le_mul_left _ (by omega)
  have h3:nn*(i.bytes:Int)=((nn.toNat*i.bytes:Nat):Int):=by rw [Int.natCast_mul,Int.toNat_of_nonneg hn0]
  have h4:room=2 ^ 40:=rfl
  rw [h3]
  omega
 simp only [Builtin.append_,h0,h1,h2,h3,Sem.run_bind,run_underlying hu,Result.andThen_ok,run_sizeOf' hi,run_underlying hx,Sem.run_pure,if_true,asInt,asIntOf,hw,hneg,if_false,
  run_typeInfo' hi,hbig,Bool.not_true,Bool.false_eq_true,appendTail]
 rfl
theorem append_sound {ι:Inj} {m m':Mem} {w:World} {aT:Array TypeId} {as as':Array Value} {v:Value} (ty:TypeId) (hs:Sim P G ι m w) (ha:ARels ι m.gen as as')
 (h:aappend P aT as m=some (v,m')):∃ v' w',(Builtin.append_ aT ty as').run P w=.ok v' w'∧Post P G ι m w v m' v' w':=by
 unfold aappend at h
 split at h
 ·rename_i sT s x xT q0 q1 q2 q3
  split at h
  ·rename_i e xd sLen hu hx hsl
   split at h
   ·rename_i i hi
    split at h
    ·cases h
    ·rename_i hz
     have hz':zeroSized i=true:=by simpa using hz
     obtain ⟨s',hs1,hs2⟩:=ha 0 s q1
     obtain ⟨x',hx1,hx2⟩:=ha 1 x q2
     split at h
     ·rename_i k
      split at h
      ·rename_i kk nn z hzc
       split at h
       ·rename_i hc
        simp only [Bool.and_eq_true,decide_eq_true_eq] at hc
        obtain ⟨⟨⟨c1,c2⟩,c3⟩,c4⟩:=hc
        cases hx2
        have hsh:∃ base sCap,s'=.slice base sLen sCap:=by
         cases hs2<;>simp only [lenOf,Option.some.injEq,reduceCtorEq] at hsl
         ·subst hsl;simp [appendCells] at h
         ·exact ⟨_,_,by rw [hsl]⟩
         ·exact ⟨_,_,by rw [hsl]⟩
         ·exact ⟨_,_,by rw [hsl]⟩
        obtain ⟨base,sCap,rfl⟩:=hsh
        have hzc':∃ zv,i.zero=some zv∧z=zv.cells.toList∧z.all plainCell=true:=by
         unfold zeroCellsOf zeroOf at hzc
         rw [hi] at hzc
         simp only [Option.bind_some] at hzc
         split at hzc
         ·split at hzc
          ·rename_i zv hzv hall;cases hzc;exact ⟨zv,hzv,rfl,hall⟩
          ·cases hzc
         ·cases hzc
        obtain ⟨zv,z1,z2,z3⟩:=hzc'
        have hap:∀ k,((if nn.toNat*i.size=0 then pure #[] else do pure (Builtin.zeroCells (← zeroValue e).cells nn.toNat):Sem (Array Value))).run P { w with drawn:=k } =
         .ok (repeatCells z nn.toNat).toArray { w with drawn:=k }:=fun k=>by
         split
         ·rename_i h0
          have:repeatCells z nn.toNat=[]:=List.length_eq_zero_iff.1 (by rw [repeat_length,c4];exact h0)
          rw [this];rfl
         ·rename_i h0
          have hzpos:0<z.length:=by
           rw [c4]
           rcases Nat.eq_zero_or_pos i.size with h|h
           ·rw [h] at h0;simp at h0
           ·exact h
          rw [← repeat_array z nn.toNat hzpos]
          have hzv:(zeroValue e).run P { w with drawn:=k }=.ok zv { w with drawn:=k }:=by simp [zeroValue,run_typeInfo' hi,z1]
          simp only [Sem.run_bind,hzv,Result.andThen_ok,Sem.run_pure,Builtin.zeroCells]
          subst z2
          rfl
        have:=appendCells_sound (zeros:=true) (x:=.int kk nn) hs hi hz' hs2 hsl (LRel.repeat (ι:=ι) (g:=m.gen) z3 nn.toNat) (by rw [repeat_length,c4])
         (by
          rw [List.all_eq_true]
          intro u hu
          have:∀ n,∀ u∈repeatCells z n,plainCell u=true:=fun n=>by
           induction n with
           |zero=>intro u hu;cases hu
           |succ n ih=>intro u hu;rcases List.mem_append.1 hu with h|h
                       ·exact List.all_eq_true.1 z3 u h
                       ·exact ih u h
          have hp:=this _ u hu
          cases u<;>first|rfl|simp [plainCell] at hp) c3 hap h
        obtain ⟨v',w',hr,hp⟩:=this
        exact ⟨v',w',by rw [append_run_zeros ty q0 hs1 hx1 q3 hu hx hi c1 c2 c3];exact hr,hp⟩
       ·cases h
      ·cases h
     ·rename_i hnint
      split at h
      ·rename_i n hn
       split at h
       ·rename_i l hl
        split at h
        ·rename_i hc
         simp only [Bool.and_eq_true,decide_eq_true_eq] at hc
         have hsh:∃ base sCap,s'=.slice base sLen sCap:=by
          cases hs2<;>simp only [lenOf,Option.some.injEq,reduceCtorEq] at hsl
          ·subst hsl;simp [appendCells] at h
          ·exact ⟨_,_,by rw [hsl]⟩
          ·exact ⟨_,_,by rw [hsl]⟩
          ·exact ⟨_,_,by rw [hsl]⟩
         obtain ⟨base,sCap,rfl⟩:=hsh
         obtain ⟨l',hr,hrel⟩:=sliceCells_sound hs hx2 hl
         have hap:∀ k,(Builtin.firstCells i.size n x').run P { w with drawn:=k }=.ok l'.toArray { w with drawn:=k }:=fun k=>firstCells_drawn k hr
         obtain ⟨v',w',hr2,hp⟩:=appendCells_sound (zeros:=false) (x:=x') hs hi hz' hs2 hsl hrel (sliceCells_length hl) hc.2 hc.1 hap h
         exact ⟨v',w',by rw [append_run_plain ty q0 hs1 hx1 q3 hu hx (fun k e=>hnint k e) hi (fun w=>lenOf_sound hx2 hn w)];exact hr2,hp⟩
        ·cases h
       ·cases h
      ·cases h
   ·cases h
  ·cases h
 ·cases h
end Go.Am
