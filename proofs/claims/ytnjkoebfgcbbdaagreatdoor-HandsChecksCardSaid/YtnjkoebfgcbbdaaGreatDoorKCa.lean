/-
  Texts of a proof, merged (AmA). Conditions: in each statement.
-/
import Derived.Orders
import Derived.Laws.Sem
import Derived.Laws.World
import Derived.Laws.Cells
import Derived.Laws.Entries
import Derived.Lib.Strings
set_option linter.unusedSimpArgs false
set_option linter.unusedVariables false
set_option linter.unusedSectionVars false
set_option maxRecDepth 100000
set_option maxHeartbeats 8000000
abbrev ab:=@Nat.le_refl
abbrev ae:=@Option.map_eq_some_iff
abbrev ag:=@Nat.lt_of_lt_of_le
abbrev ai:=@List.getElem?_eq_getElem
abbrev al:=@Array.getElem?_eq_some_iff
abbrev an:=@Nat.le_trans
abbrev ao:=@Nat.mod_lt
abbrev aq:=@Nat.zero_le
abbrev ar:=@List.length_eq_zero_iff
abbrev aw:=@List.length_take
abbrev az:=@List.length_append
abbrev aD:=@List.getElem?_map
abbrev aL:=@List.all_eq_true
abbrev aM:=@List.getElem?_eq_none
abbrev ba:=@Option.bind_eq_some_iff
abbrev bp:=@Nat.mul_le_mul_right
abbrev bq:=@List.mem_append
abbrev br:=@List.getElem?_append_right
abbrev bt:=@Nat.mod_eq_of_lt
abbrev bu:=@List.ext_getElem?
abbrev bw:=@List.getElem?_eq_some_iff
abbrev bO:=@List.getD_eq_getElem?_getD
abbrev bS:=@List.getElem?_range
abbrev bX:=@Nat.mul_le_mul_left
abbrev ca:=@Nat.min_le_left
abbrev cb:=@List.getElem?_append_left
abbrev ci:=@List.length_drop
abbrev cj:=@Nat.min_le_right
abbrev cw:=@Nat.zero_add
abbrev cE:=@Nat.le_succ
abbrev cL:=@Nat.add_mul
abbrev cN:=@List.getElem_mem
abbrev cR:=@List.getElem?_take
abbrev dq:=@List.getElem_of_mem
abbrev fk:=@Array.getElem?_push
abbrev ft:=@List.getElem?_drop
abbrev fL:=@Array.ext'
abbrev fX:=@List.ext_getElem
abbrev fY:=@Nat.succ_mul
namespace Go.Am
section
inductive Tr (α:Type) where
 |leaf
 |node (v:α) (l r:Tr α)
def bits:Nat→Nat→List Bool
 |0,_=>[]
 |f+1,n=>if n=0 then [] else (n % 2==1)::bits f (n / 2)
def path (n:Nat):List Bool:=bits (n.log2+1) n
def Tr.X3 {α:Type} (d:α):Tr α→List Bool→α
 | .leaf,_=>d
 | .node v _ _,[]=>v
 | .node _ l r,b::p=>match b with
  |true=>Tr.X3 d r p
  |false=>Tr.X3 d l p
def Tr.Vw {α:Type} (d:α) (x:α):List Bool→Tr α→Tr α
 |[],.leaf=>.node x .leaf .leaf
 |[],.node _ l r=>.node x l r
 |b::p,t=>match b,t with
  |true,.leaf=>.node d .leaf (Tr.Vw d x p .leaf)
  |false,.leaf=>.node d (Tr.Vw d x p .leaf) .leaf
  |true,.node v l r=>.node v l (Tr.Vw d x p r)
  |false,.node v l r=>.node v (Tr.Vw d x p l) r
theorem Tr.U6 {α:Type} (d:α) (p:List Bool):Tr.X3 d (.leaf) p=d:=by cases p<;>rfl
theorem Tr.Rf {α:Type} (d x:α):∀ (p:List Bool) (t:Tr α) (q:List Bool),Tr.X3 d (Tr.Vw d x p t) q=if p=q then x else Tr.X3 d t q
 |[],.leaf,[]=>rfl
 |[],.leaf,b::q=>by simp only [Tr.Vw,Tr.X3];cases b<;>simp [Tr.U6]
 |[],.node _ _ _,[]=>rfl
 |[],.node _ _ _,b::q=>by rfl
 |b::p,.leaf,[]=>by cases b<;>simp [Tr.Vw,Tr.X3]
 |b::p,.node _ _ _,[]=>by cases b<;>simp [Tr.Vw,Tr.X3]
 |b::p,.leaf,c::q=>by
  have ih:=Tr.Rf d x p .leaf q;cases b<;>cases c<;>simp [Tr.Vw,Tr.X3,ih,Tr.U6]
 |b::p,.node v l r,c::q=>by
  have ihl:=Tr.Rf d x p l q;have ihr:=Tr.Rf d x p r q;cases b<;>cases c<;>simp [Tr.Vw,Tr.X3,ihl,ihr]
def Zj:List Bool→Nat
 |[]=>0
 |b::l=>(if b then 1 else 0)+2*Zj l
theorem Qx:∀ (f n:Nat),n<2 ^ f→Zj (bits f n)=n
 |0,n,h=>by have:n=0:=by omega
            simp [bits,Zj,this]
 |f+1,n,h=>by
  unfold bits;split
  ·rename_i h0;simp [Zj,h0]
  ·have ih:=Qx f (n / 2) (by omega)
   simp only [Zj,ih,beq_iff_eq];split<;>omega
theorem Zr {n m:Nat} (h:path n=path m):n=m:=by
 have hn:=Qx (n.log2+1) n Nat.lt_log2_self;have hm:=Qx (m.log2+1) m Nat.lt_log2_self;unfold path at h;grind
inductive IQ where
 |none
 |cells (vs:List Value) (elem:TypeId) (gen:Nat) (ro:Bool)
 |map (es:List MapEntry) (clock:Nat)
def IQ.gen:IQ→Nat
 | .cells _ _ g _=>g
 |_=>0
def IQ.ro:IQ→Bool
 | .cells _ _ _ r=>r
 |_=>false
structure Mem where
 t:Tr IQ
 size:Nat
 low:Nat
def Mem.get (m:Mem) (b:Nat):IQ:=Tr.X3 .none m.t (path b)
def Mem.put (m:Mem) (b:Nat) (x:IQ):Mem:={ t:=Tr.Vw .none x (path b) m.t,size:=m.size,low:=min m.low b }
def Mem.alloc (m:Mem) (x:IQ):Mem:={ t:=Tr.Vw .none x (path m.size) m.t,size:=m.size+1,low:=m.low }
def Mem.gen (m:Mem) (b:Nat):Nat:=(m.get b).gen
def Mem.ro (m:Mem) (b:Nat):Bool:=(m.get b).ro
theorem Mem.get_put (m:Mem) (b c:Nat) (x:IQ):(m.put b x).get c=if b=c then x else m.get c:=by
 unfold Mem.get Mem.put;simp only [Tr.Rf];by_cases h:b=c
 ·grind
 ·rw [if_neg h,if_neg (fun e=>h (Zr e))]
theorem Mem.Bh (m:Mem) (c:Nat) (x:IQ):(m.alloc x).get c=if m.size=c then x else m.get c:=by
 unfold Mem.get Mem.alloc;simp only [Tr.Rf];by_cases h:m.size=c
 ·grind
 ·rw [if_neg h,if_neg (fun e=>h (Zr e))]
def Cj (t:Tr Value) (i:Nat):Value:=Tr.X3 undef t (path i)
def P7 (t:Tr Value) (i:Nat) (v:Value):Tr Value:=Tr.Vw undef v (path i) t
theorem Df (t:Tr Value) (i j:Nat) (v:Value):Cj (P7 t i v) j=if i=j then v else Cj t j:=by
 unfold Cj P7;rw [Tr.Rf];by_cases h:i=j
 ·grind
 ·rw [if_neg h,if_neg (fun e=>h (Zr e))]
structure St where
 t:Tr Value
 m:Mem
def ev (t:Tr Value):Operand→Value
 | .tmp i=>Cj t i
 | .const v=>v
 | .global g=>.pointer (some ⟨g,0,none⟩)
 | .func f=>.func (.func f) #[] #[]
def H7 (t:Tr Value) (dst:Option Tmp) (v:Value):Tr Value :=
 match dst with
 |some d=>P7 t d v
 |none=>t
def plainCell:Value→Bool
 | .bool _| .int _ _| .string _| .float _ _| .pointer none| .slice none 0 0| .map none| .nilFunc| .nilIface=>true
 | .func (.func _) a b=>a.size==0&&b.size==0
 |_=>false
def Gi:Value→Bool
 | .agg cs=>cs.toList.all plainCell
 |v=>plainCell v
def plain:Value→Bool
 | .tuple vs=>vs.toList.all Gi
 |v=>Gi v
def BK:Value→Bool
 | .agg _| .tuple _=>false
 |_=>true
def DF {α:Type} (P:Program):Sem α→Option α
 | .pure a=>some a
 | .program k=>DF P (k P)
 |_=>none
theorem Ed {α:Type} {P:Program} {s:Sem α} {a:α} (h:DF P s=some a) (w:World):s.run P w=.ok a w:=by
 induction s<;>simp_all [DF,Sem.run]
def Ya (P:Program) (s:Sem Value):Option Value :=
 match DF P s with
 |some v=>if plain v then some v else none
 |none=>none
def zeroOf (P:Program) (t:TypeId):Option Value:=(P.info? t).bind (·.zero)
def GN (P:Program) (t:TypeId):Option Bool :=
 match P.underlying t with
 |some (.struct _)|some (.array _ _)=>some true
 |some _=>some false
 |none=>none
def BQ (P:Program) (t:TypeId):Option (List Value) :=
 match zeroOf P t with
 |some z=>if z.cells.toList.all plainCell then some z.cells.toList else none
 |none=>none
def Oh (a:Addr):Nat:=a.spot.getD 0
def takeN (n:Nat) (l:List Value):Option (List Value):=if n≤l.length then some (l.take n) else none
def Mem.Em (m:Mem) (a:Addr) (n:Nat):Option (List Value) :=
 match m.get a.block with
 | .cells vs _ g _=>if Oh a=g then takeN n (vs.drop a.off) else none
 |_=>none
def ZP (P:Program) (t:TypeId) (a:Addr) (m:Mem):Option Value :=
 match GN P t with
 |some true=>match P.info? t with
  |some i=>(m.Em a i.size).map fun l=>.agg l.toArray
  |none=>none
 |some false=>(m.Em a 1).bind fun l=>l.head?
 |none=>none
def Nr (P:Program) (t:TypeId) (a:Addr) (m:Mem):Option Value:=if a.block<m.size then ZP P t a m else none
def splice (vs:List Value):Nat→List Value→List Value
 |_,[]=>vs
 |o,v::l=>splice (vs.set o v) (o+1) l
def F9 (m:Mem) (a:Addr) (l:List Value):Option Mem :=
 match m.get a.block with
 | .cells vs e g false =>
  if Oh a=g&&decide (a.off+l.length≤vs.length)&&decide (0<l.length)&&l.all BK then some (m.put a.block (.cells (splice vs a.off l) e g false)) else none
 |_=>none
def LJ (P:Program) (t:TypeId) (a:Addr) (v:Value) (m:Mem):Option Mem :=
 match P.info? t with
 |some i=>if v.cells.size=i.size then F9 m a v.cells.toList else none
 |none=>none
def emptyAt:Option Addr:=some ⟨0,0,some 0⟩
def Ci (m:Mem) (size n:Nat):Value→Option (List Value)
 | .slice none 0 0=>if n=0 then some [] else none
 | .slice (some ⟨_,_,some _⟩) 0 0=>if n=0 then some [] else none
 | .slice (some ⟨b,off,none⟩) len g=>if n≤len then m.Em ⟨b,off,some g⟩ (n*size) else none
 | .string s=>if n≤s.size∧size=1 then some ((s.data.toList.take n).map fun c=>.int .u8 c.toNat) else none
 |_=>none
def lenOf:Value→Option Nat
 | .slice _ n _=>some n
 | .string s=>some s.size
 |_=>none
def AL (z:List Value):Nat→List Value
 |0=>[]
 |n+1=>z++AL z n
def room:Nat:=2 ^ 40
def AQ (m:Mem) (e:TypeId) (l:List Value) (n:Nat):Value×Mem :=
 (.slice (some ⟨m.size,0,none⟩) n 0,m.alloc (.cells l e 0 false))
def BL (m:Mem) (e:TypeId) (size:Nat) (l:List Value) (n:Nat):Value→Option (Value×Mem)
 | .slice none 0 0=>if n=0 then some (.slice none 0 0,m) else some (AQ m e l n)
 | .slice (some ⟨b,o,some g⟩) 0 0=>if n=0 then some (.slice (some ⟨b,o,some g⟩) 0 0,m) else some (AQ m e l n)
 | .slice (some ⟨b,off,none⟩) len g =>
  match m.get b with
  | .cells vs e' g' false =>
   if g=g'&&e=e'&&decide (0<size) then
    match takeN (len*size) (vs.drop off) with
    |some old=>some (.slice (some ⟨b,0,none⟩) (len+n) (g+1),m.put b (.cells (old++l) e (g+1) false))
    |none=>none
   else none
  |_=>none
 |_=>none
def Eo (i:TypeInfo):Bool:=match i.zero with|some z=>z.cells.size==i.size|none=>false
def IX (P:Program) (argTypes:Array TypeId) (args:Array Value) (m:Mem):Option (Value×Mem) :=
 match argTypes[0]?,args[0]?,args[1]?,argTypes[1]? with
 |some sT,some s,some x,some xT =>
  match P.underlying sT,P.underlying xT,lenOf s with
  |some (.slice e),some xd,some sLen =>
   match P.info? e with
   |some i =>
    if !(Eo i) then none else
    match xd with
    | .int _=>match x,BQ P e with
     | .int _ n,some z =>
      if 0≤n&&decide (n≤2 ^ 30)&&decide ((sLen+n.toNat)*(i.bytes+1)≤room)&&decide (z.length=i.size)
      then BL m e i.size (AL z n.toNat) n.toNat s else none
     |_,_=>none
    |_=>match lenOf x with
     |some n=>match Ci m i.size n x with
      |some l=>if (sLen+n)*(i.bytes+1)≤room&&l.all BK then BL m e i.size l n s else none
      |none=>none
     |none=>none
   |none=>none
  |_,_,_=>none
 |_,_,_,_=>none
def qC (P:Program) (argTypes:Array TypeId) (args:Array Value) (m:Mem):Option (Value×Mem) :=
 match argTypes[0]?,(args[0]?:Option Value),args[1]? with
 |some dT,some (.slice base dLen g),some src =>
  match P.underlying dT,lenOf src with
  |some (.slice e),some sLen =>
   match P.info? e with
   |some i =>
    let n:=Nat.min sLen dLen
    if n=0 then some (.int .i64 0,m)
    else match base,Ci m i.size n src with
     |some ⟨b,off,none⟩,some l=>(F9 m ⟨b,off,some g⟩ l).map fun m'=>(.int .i64 n,m')
     |_,_=>none
   |none=>none
  |_,_=>none
 |_,_,_=>none
def V9 (P:Program) (argTypes:Array TypeId) (args:Array Value) (m:Mem):Option (Value×Mem) :=
 match argTypes[0]?,(args[0]?:Option Value) with
 |some t,some (.slice base n g) =>
  match P.underlying t with
  |some (.slice e) =>
   if n=0 then some (.tuple #[],m)
   else match P.info? e,BQ P e,base with
    |some i,some z,some ⟨b,off,none⟩=>if z.length=i.size∧0<i.size then (F9 m ⟨b,off,some g⟩ (AL z n)).map fun m'=>(.tuple #[],m') else none
    |_,_,_=>none
  |_=>none
 |_,_=>none
def Yc (P:Program) (argTypes:Array TypeId) (args:Array Value) (m:Mem):Option Value :=
 match argTypes[0]?,args[0]? with
 |some t,some x =>
  match P.underlying t,x with
  |some .string,.string s=>some (.int .i64 s.size)
  |some (.array n _),_=>some (.int .i64 n)
  |some (.slice _),.slice _ n _=>some (.int .i64 n)
  |some (.map _ _),.map none=>some (.int .i64 0)
  |some (.map _ _),.map (some r)=>match m.get r with
   | .map es _=>some (.int .i64 es.length)
   |_=>none
  |_,_=>none
 |_,_=>none
def a6r (P:Program) (argTypes:Array TypeId) (args:Array Value):Option Value :=
 match argTypes[0]? with
 |some t=>match P.underlying t with
  |some (.slice _)=>match (args[0]?:Option Value) with
   |some (.slice none 0 0)=>some (.int .i64 0)
   |some (.slice (some ⟨_,_,some _⟩) 0 0)=>some (.int .i64 0)
   |_=>none
  |_=>none
 |none=>none
def a7a (op:BinOp) (k:IntKind) (x y:Int):Option Value :=
 match op with
 | .add=>some (.int k (k.wrap (x+y)))
 | .sub=>some (.int k (k.wrap (x-y)))
 | .mul=>some (.int k (k.wrap (x*y)))
 | .eql=>some (.bool (x==y))
 | .neq=>some (.bool (x != y))
 | .lss=>some (.bool (x<y))
 | .leq=>some (.bool (x≤y))
 | .gtr=>some (.bool (x>y))
 | .geq=>some (.bool (x≥y))
 | .quo=>if y=0 then none else some (.int k (k.wrap (x.tdiv y)))
 | .rem=>if y=0 then none else some (.int k (x.tmod y))
 | .and=>some (.int k (k.wrap (BitVec.ofInt k.bits x &&& BitVec.ofInt k.bits y).toNat))
 | .or=>some (.int k (k.wrap (BitVec.ofInt k.bits x ||| BitVec.ofInt k.bits y).toNat))
 | .xor=>some (.int k (k.wrap (BitVec.ofInt k.bits x ^^^ BitVec.ofInt k.bits y).toNat))
 | .andNot=>some (.int k (k.wrap (BitVec.ofInt k.bits x &&& ~~~ BitVec.ofInt k.bits y).toNat))
 |_=>none
def Zp (op:BinOp) (k:IntKind) (x y:Int):Option Value :=
 if y<0 then none else
 match op with
 | .shl=>some (.int k (k.wrap (x*2 ^ (min y.toNat k.bits))))
 | .shr=>some (.int k (x.fdiv (2 ^ (min y.toNat k.bits))))
 |_=>none
def b6e:Value→Option Bool
 | .slice none _ _=>some true
 | .slice (some _) _ _=>some false
 |_=>none
def Js (op:BinOp) (b:Bool):Option Value :=
 match op with
 | .eql=>some (.bool b)
 | .neq=>some (.bool !b)
 |_=>none
def PG (P:Program) (op:BinOp) (t:TypeId) (xo yo:Operand) (x y:Value):Option Value :=
 match x,y with
 | .int k a,.int k' b =>
  match op with
  | .shl| .shr=>Zp op k a b
  |_=>if k=k' then a7a op k a b else none
 | .slice a _ _,.slice none 0 0=>match P.underlying t with
  |some (.slice _)=>Js op a.isNone
  |_=>none
 | .slice none 0 0,.slice a _ _=>match P.underlying t with
  |some (.slice _)=>Js op a.isNone
  |_=>none
 | .map a,.map none=>match P.underlying t with
  |some (.map _ _)=>Js op a.isNone
  |_=>none
 | .pointer a,.pointer none=>match P.underlying t with
  |some (.pointer _)=>Js op a.isNone
  |_=>none
 |x,y=>if plain x&&plain y then Ya P (do eqGuard op t xo yo x y;binOp op t x y) else none
def En (P:Program) (kt:TypeId):Option TypeDesc :=
 match P.underlying kt with
 |some (.int k)=>some (.int k)
 |some .string=>some .string
 |some .bool=>some .bool
 |_=>none
def TF (P:Program) (kt:TypeId):Bool :=
 match P.underlying kt with
 |some (.struct _)=>true
 |some (.array _ _)=>true
 |_=>false
def WV (P:Program) (s:Sem Unit):Bool:=match DF P s with|some ()=>true|none=>false
def Iy (P:Program) (fl:Bool) (kt:TypeId) (k:Value) (es:List MapEntry):Option (Option (Nat×Value)) :=
 match En P kt with
 |some kind=>Instr.findNow kind k es 0
 |none=>if TF P kt&&WV P (Instr.checkKey fl 10000 kt k) then DF P (Instr.findKey kt k es) else none
def LZ (P:Program) (t:TypeId) (x k:Value) (ok:Bool) (m:Mem):Option Value :=
 match P.underlying t with
 |some (.map kt et) =>
  match zeroOf P et with
  |some z =>
   if plain z&&plain k then
    match (match x with
     | .map none=>some []
     | .map (some r)=>match m.get r with| .map es _=>some es|_=>none
     |_=>none) with
    |some es=>match Iy P es.isEmpty kt k es with
     |some (some (_,v))=>some (if ok then .tuple #[v,.bool true] else v)
     |some none=>some (if ok then .tuple #[z,.bool false] else z)
     |none=>none
    |none=>none
   else none
  |none=>none
 |_=>none
def Jg (P:Program) (t:TypeId) (x k v:Value) (m:Mem):Option Mem :=
 match P.underlying t,x with
 |some (.map kt _),.map (some r) =>
  match m.get r with
  | .map es clock =>
   if plain k then
    match Iy P false kt k es with
    |some (some (i,_))=>if (En P kt).isSome||Instr.sameBits 10000 (((es[i]?).map (·.key)).getD k) k then some (m.put r (.map (es.modify i fun e=>{ e with key:=k,val:=v }) clock)) else none
    |some none=>some (m.put r (.map (es++[{ key:=k,val:=v,born:=clock }]) (clock+1)))
    |none=>none
   else none
  |_=>none
 |_,_=>none
def TP (P:Program) (t:TypeId) (x k:Value) (m:Mem):Option (Value×Mem) :=
 match P.underlying t,x with
 |some (.map kt et),.map (some r) =>
  match m.get r with
  | .map es clock =>
   if plain k then
    match Iy P false kt k es with
    |some (some (i,v))=>if (En P kt).isSome||Instr.sameBits 10000 (((es[i]?).map (·.key)).getD k) k then some (.tuple #[v,.int .i64 ((((es[i]?).map (·.born)).getD 0:Nat):Int)],m.put r (.map (es.modify i fun e=>{ e with key:=k }) clock)) else none
    |some none=>match zeroOf P et with
     |some z=>if plain z then some (.tuple #[z,.int .i64 ((clock:Nat):Int)],m.put r (.map (es++[{ key:=k,val:=z,born:=clock }]) (clock+1))) else none
     |none=>none
    |none=>none
   else none
  |_=>none
 |_,_=>none
def IC (x s v:Value) (m:Mem):Option Mem :=
 match x,s with
 | .map (some r),.int .i64 n =>
  match m.get r with
  | .map es clock=>match es.findIdx? (fun e=>(e.born:Int)==n) with
   |some i=>some (m.put r (.map (es.modify i fun e=>{ e with val:=v }) clock))
   |none=>none
  |_=>none
 |_,_=>none
def Jm (P:Program) (t:TypeId):Bool:=match P.underlying t with|some (.slice _)=>true|_=>false
def J7 (s:ByteArray):List Value:=s.data.toList.map fun c=>.int .u8 c.toNat
def VT:List Value→Option (List UInt8)
 |[]=>some []
 | .int .u8 n::l=>if 0≤n∧n<256 then (VT l).map (UInt8.ofNat n.toNat::·) else none
 |_::_=>none
def Xc (P:Program) (s d:TypeId) (x:Value) (m:Mem):Option (Value×Mem) :=
 match P.underlying s,P.underlying d,x with
 |some .string,some (.slice e),.string b=>match P.underlying e,P.info? e with
  |some (.int .u8),some i=>if i.size=1∧b.size≤2 ^ 30 then some (AQ m e (J7 b) b.size) else none
  |_,_=>none
 |some (.slice e),some .string,.slice a n g=>match P.underlying e with
  |some (.int .u8)=>match Ci m 1 n (.slice a n g) with
   |some l=>match VT l with
    |some bs=>some (.string ⟨bs.toArray⟩,m)
    |none=>none
   |none=>none
  |_=>none
 |_,_,_=>none
def bnd (d:Nat):Option Value→Option Nat
 |none=>some d
 |some (.int _ i)=>if 0≤i then some i.toNat else none
 |_=>none
def aslice (P:Program) (t:TypeId) (x:Value) (lo hi mx:Option Value) (m:Mem):Option Value :=
 if mx.isSome&&hi.isNone then none else
 match P.underlying t,x with
 |some .string,.string _ =>
  if (lo.all plain&&hi.all plain&&mx.isNone) then Ya P (Instr.sliceAt t x lo hi mx) else none
 |some (.slice e),.slice none 0 0 =>
  match P.info? e,bnd 0 lo,bnd 0 hi,bnd 0 mx with
  |some _,some 0,some 0,some 0=>some (.slice none 0 0)
  |_,_,_,_=>none
 |some (.slice e),.slice (some ⟨b,off,some g'⟩) 0 0 =>
  match P.info? e,bnd 0 lo,bnd 0 hi,bnd 0 mx with
  |some _,some 0,some 0,some 0=>some (.slice (some ⟨b,off,some g'⟩) 0 0)
  |_,_,_,_=>none
 |some (.slice e),.slice (some ⟨b,off,none⟩) len g =>
  match P.info? e,bnd 0 lo,bnd len hi,mx with
  |some i,some l,some h,none=>match m.get b with
   | .cells _ e' _ _=>if (l≤h∧h≤len∧e'=e)∧b<m.size then some (.slice (some ⟨b,off+l*i.size,none⟩) (h-l) g) else none
   |_=>none
  |some _,some l,some h,some _=>match bnd 0 mx with
   |some k=>if l=h∧h=k∧k≤len then some (.slice (some ⟨0,0,some 0⟩) 0 0) else none
   |none=>none
  |_,_,_,_=>none
 |_,_=>none
def FB (P:Program) (ρ:Operand→Value) (o:Oper) (m:Mem):Option (Value×Mem) :=
 match o.op with
 | .move x| .assign x=>some (ρ x,m)
 | .pick c a b=>match ρ c with
  | .bool t=>some (if t then ρ a else ρ b,m)
  |_=>none
 | .binOp op t x y _=>(PG P op t x y (ρ x) (ρ y)).map fun v=>(v,m)
 | .alloc e=>(BQ P e).map fun z=>(.pointer (some ⟨m.size,0,none⟩),m.alloc (.cells z e 0 false))
 | .box e x =>
  if (ρ x).cells.toList.all BK then some (.pointer (some ⟨m.size,0,none⟩),m.alloc (.cells (ρ x).cells.toList e 0 false)) else none
 | .build t ps=>match BQ P t with
  |some _=>(DF P (Instr.build t (ps.map fun (i,x)=>(i,ρ x)))).map fun v=>(v,m)
  |none=>none
 | .buildSlice t len ps =>
  match P.underlying t with
  |some (.slice e)=>match P.info? e,BQ P e with
   |some i,some z =>
    if len*i.size≤2 ^ 24∧z.length=i.size∧0<i.size then
     match Instr.fill (fun j=>some (j*i.size,i.size)) (AL z len).toArray (ps.map fun (i,x)=>(i,ρ x)).toList with
     |some cs=>if cs.toList.all BK then (if len=0 then some (.slice emptyAt 0 0,m) else some (AQ m e cs.toList len)) else none
     |none=>none
    else none
   |_,_=>none
  |_=>none
 | .load t a=>match ρ a with
  | .pointer (some a)=>(Nr P t a m).map fun v=>(v,m)
  |_=>none
 | .store t a x=>match ρ a with
  | .pointer (some a)=>(LJ P t a (ρ x) m).map fun m'=>(undef,m')
  |_=>none
 | .nilCheck x=>match ρ x with
  | .pointer (some a)=>some (.pointer (some a),m)
  |_=>none
 | .unOp op _ x=>if plain (ρ x) then (Ya P (Op.unary op (ρ x))).map fun v=>(v,m) else none
 | .convert s d x=>if Jm P s||Jm P d then Xc P s d (ρ x) m else if plain (ρ x) then (Ya P (convert s d (ρ x))).map fun v=>(v,m) else none
 | .makeFunc (.func f) fs cs=>some (.func (.func f) (fs.map ρ) (cs.map ρ),m)
 | .makeMap _ none=>some (.map (some m.size),m.alloc (.map [] 0))
 | .makeSlice t l c =>
  match P.underlying t,ρ l,ρ c with
  |some (.slice e),.int _ n,.int _ k=>match P.info? e,BQ P e with
   |some i,some z =>
    if 0≤n∧n≤k∧k.toNat*(i.bytes+1)≤room∧k≤2 ^ 40∧z.length=i.size∧0<i.size then
     some (AQ m e (AL z n.toNat) n.toNat)
    else none
   |_,_=>none
  |_,_,_=>none
 | .slice t x lo hi mx=>(aslice P t (ρ x) (lo.map ρ) (hi.map ρ) (mx.map ρ) m).map fun v=>(v,m)
 | .fieldAddr s x f =>
  match P.underlying s,ρ x with
  |some (.struct fs),.pointer (some a)=>match fs[f]? with
   |some fd=>match P.info? fd.type with
    |some i=>if i.size=0 then none else some (.pointer (some { a with off:=a.off+fd.offset }),m)
    |none=>none
   |none=>none
  |_,_=>none
 | .field t x f=>(DF P (Instr.field t (ρ x) f)).map fun v=>(v,m)
 | .indexAddr t x ix =>
  match P.underlying t,ρ x,ρ ix with
  |some (.slice e),.slice (some ⟨b,off,none⟩) len g,.int _ i=>match P.info? e with
   |some inf=>if 0≤i∧i<len then some (.pointer (some ⟨b,off+i.toNat*inf.size,some g⟩),m) else none
   |none=>none
  |some (.array n e),.pointer (some a),.int _ i=>match P.info? e with
   |some inf=>if 0≤i∧i<n then some (.pointer (some { a with off:=a.off+i.toNat*inf.size }),m) else none
   |none=>none
  |_,_,_=>none
 | .index t x ix=>if plain (ρ ix) then (DF P (Instr.index t (ρ x) (ρ ix))).map fun v=>(v,m) else none
 | .lookup t x k ok=>(LZ P t (ρ x) (ρ k) ok m).map fun v=>(v,m)
 | .mapUpdate t x k v=>(Jg P t (ρ x) (ρ k) (ρ v) m).map fun m'=>(undef,m')
 | .mapEntry t x k=>TP P t (ρ x) (ρ k) m
 | .entryStore _ x k v=>(IC (ρ x) (ρ k) (ρ v) m).map fun m'=>(undef,m')
 | .insert t x k v=>(Jg P t (ρ x) (ρ k) (ρ v) m).map fun m'=>(undef,m')
 | .extract t i=>(DF P (Instr.extract (ρ t) i)).map fun v=>(v,m)
 | .call { callee:=.builtin b,args,argTypes } =>
  match b with
  | .len=>(Yc P argTypes (args.map ρ) m).map fun v=>(v,m)
  | .cap=>(a6r P argTypes (args.map ρ)).map fun v=>(v,m)
  | .append=>IX P argTypes (args.map ρ) m
  | .copy=>qC P argTypes (args.map ρ) m
  | .clear=>V9 P argTypes (args.map ρ) m
  | .min=>if (args.map ρ).toList.all plain then (Ya P (Builtin.min_ argTypes o.type (args.map ρ))).map fun v=>(v,m) else none
  | .max=>if (args.map ρ).toList.all plain then (Ya P (Builtin.max_ argTypes o.type (args.map ρ))).map fun v=>(v,m) else none
  |_=>none
 |_=>none
inductive BM where
 |normal
 |ret
 |exit (id:Nat)
abbrev EI:=FuncId→List Value→Mem→Option (Value×Mem)
def BO (P:Program) (call:EI) (ρ:Operand→Value) (o:Oper) (m:Mem):Option (Value×Mem) :=
 match o.op with
 | .call { callee:=.value f,args,.. }=>match ρ f with
  | .func (.func g) fs cs=>call g (fs.toList++args.toList.map ρ++cs.toList) m
  |_=>none
 |_=>FB P ρ o m
def xZ (P:Program) (call:EI) (o:Oper) (s:St):Option St :=
 match BO P call (ev s.t) o s.m with
 |some (v,m)=>some { t:=H7 s.t o.dst v,m:=m }
 |none=>none
def Eh (ops:Array Oper) (t:Tr Value) (j:Nat):Option Bool :=
 match (ops[j]?).bind (·.dst) with
 |some d=>match Cj t d with
  | .bool b=>some b
  |_=>none
 |none=>none
def Mc (P:Program) (call:EI) (ops:Array Oper) (o:Oper) (s:St):Option St :=
 if Region.wanted o (Eh ops s.t) then xZ P call o s else some { s with t:=H7 s.t o.dst undef }
def Lp (P:Program) (call:EI) (ops:Array Oper):List Oper→St→Option St
 |[],s=>some s
 |o::rest,s=>match Mc P call ops o s with
  |some s'=>Lp P call ops rest s'
  |none=>none
def QE (P:Program) (aT:Array TypeId):Bool:=match aT[0]? with
 |some t=>match P.underlying t with
  |some .string=>true
  |some (.slice _)=>true
  |some (.array _ _)=>true
  |_=>false
 |none=>false
def DN (P:Program):Op→Bool
 | .move _| .assign _| .pick ..| .binOp ..| .build ..| .nilCheck _| .unOp ..| .makeFunc ..| .fieldAddr ..| .field ..| .indexAddr ..| .index ..| .extract ..=>true
 | .convert s d _=>!(Jm P s||Jm P d)
 | .buildSlice _ len _=>len==0
 | .call { callee:=.builtin b,argTypes,.. }=>match b with
  | .cap| .min| .max=>true
  | .len=>QE P argTypes
  |_=>false
 |_=>false
def barrier (P:Program) (ops:Array Oper) (i:Nat):Bool :=
 let b:=Region.before ops
 (List.range ops.size).all fun j=>j==i||((ops[j]?).map (DN P ·.op)).getD true ||
  (if j<i then (b.getD i 0).testBit j else (b.getD j 0).testBit i)
def Gl:Op→Bool
 | .load ..=>true
 | .slice _ _ _ _ none=>true
 |_=>false
def b7r:Op→Option Operand
 | .load _ a=>some a
 | .slice _ x _ _ none=>some x
 |_=>none
def wP:Op→Option Operand
 | .store _ a _=>some a
 | .call { callee:=.builtin .append,args,.. }=>args[0]?
 |_=>none
def xP:Op→Option Operand
 | .fieldAddr _ x _=>some x
 | .indexAddr _ x _=>some x
 | .nilCheck x=>some x
 | .move x=>some x
 | .assign x=>some x
 |_=>none
def Ij:Value→Option Nat
 | .pointer (some a)=>some a.block
 | .slice (some ⟨b,_,none⟩) _ _=>some b
 |_=>none
def ordered (ops:Array Oper) (i j:Nat):Bool:=if j<i then ((Region.before ops).getD i 0).testBit j else ((Region.before ops).getD j 0).testBit i
def Ye (ops:Array Oper) (k:Nat):Operand→Bool
 | .tmp t=>(List.range ops.size).all fun q=>decide (q<k)||(ops[q]?).bind (·.dst) != some t
 |_=>true
def writer (ops:Array Oper) (t:Tmp):Option Nat:=(List.range ops.size).find? fun q=>(ops[q]?).bind (·.dst)==some t
def rootOf (ops:Array Oper) (i:Nat):Nat→Nat→Operand→Option Operand
 |0,_,_=>none
 |f+1,q,r=>if Ye ops (min i q) r then some r else match r with
  | .tmp t=>match writer ops t with
   |some k=>if k<q then (match (ops[k]?).bind (fun o=>xP o.op) with
    |some x=>rootOf ops i f k x
    |none=>none) else none
   |none=>none
  |_=>none
def MV:Op→Bool
 | .buildSlice _ len _=>len != 0
 |_=>false
def jh (P:Program) (ops:Array Oper) (i:Nat):Bool :=
 ((ops[i]?).bind (fun o=>wP o.op)).isSome &&
 (List.range ops.size).all fun j=>j==i||((ops[j]?).map (fun o=>DN P o.op||Gl o.op||(decide (j<i)&&MV o.op))).getD true||ordered ops i j
def Iw (ops:Array Oper) (i:Nat):List (Option Operand) :=
 (List.range ops.size).filterMap fun j=>match (ops[j]?).bind (fun o=>b7r o.op) with
  |some a=>if j==i||ordered ops i j then none else some (rootOf ops i 4 j a)
  |none=>none
def yR:Option Nat→Option Nat→Bool
 |some x,some y=>x != y
 |_,_=>true
def Qz (ops:Array Oper) (i:Nat) (t:Tr Value):Bool :=
 match (ops[i]?).bind (fun o=>wP o.op) with
 |some w=>(Iw ops i).all fun r=>match r with
  |some r=>yR (Ij (ev t r)) (Ij (ev t w))
  |none=>false
 |none=>false
def Qs (P:Program) (ops:Array Oper) (i:Nat):Bool :=
 (List.range ops.size).all fun j=>j==i||((ops[j]?).map (fun o=>DN P o.op||Gl o.op)).getD true||ordered ops i j
noncomputable section
open Classical in
def MC (ops:Array Oper) (i:Nat) (t:Tr Value) (m m':Mem):Bool:=(Iw ops i).all fun r=>match r with
 |some r=>match Ij (ev t r) with
  |some b=>decide (m'.get b=m.get b)
  |none=>true
 |none=>false
def P9 (P:Program) (call:EI) (ops:Array Oper) (i:Nat) (o:Oper) (s:St):Option St :=
 match Mc P call ops o { s with m:={ s.m with low:=s.m.size } } with
 |some s'=>if barrier P ops i||decide (s.m.size≤s'.m.low)||(jh P ops i&&Qz ops i s.t)||(Qs P ops i&&MC ops i s.t s.m s'.m) then some { s' with m:={ s'.m with low:=min s.m.low s'.m.low } } else none
 |none=>none
def Kt (P:Program) (call:EI) (ops:Array Oper):Nat→List Oper→St→Option St
 |_,[],s=>some s
 |i,o::rest,s=>match P9 P call ops i o s with
  |some s'=>Kt P call ops (i+1) rest s'
  |none=>none
def iterate (f:St→Option (BM×St)):Nat→St→Option (BM×St)
 |0,_=>none
 |n+1,s=>match f s with
  |some (.normal,s')=>iterate f n s'
  |r=>r
def Yg:Value:=.func (.yield 0) #[] #[]
def Ep (n:Nat) (lb:List Value):List Value:=List.replicate (n+1) Yg++lb
def a8h:Value→Option (List Value)
 | .tuple vs=>some vs.toList
 |_=>none
def Yf:List Value→Option (List (List Value))
 |[]=>some []
 |v::l=>match a8h v,Yf l with
  |some r,some rs=>some (r::rs)
  |_,_=>none
def OJ:Value→Option (List (List Value))
 | .tuple ⟨[_,.tuple rows]⟩=>Yf rows.toList
 |_=>none
def flat:Code→Bool
 | .seq a b| .cond _ a b=>flat a&&flat b
 | .block _ b| .loop b| .scope b=>flat b
 | .rangeFunc ..=>false
 |_=>true
def Og (t:Tr Value) (ps:List Tmp) (vs:List Value):Tr Value:=(ps.zip vs).foldl (fun t (p,v)=>P7 t p v) t
def I8 (m:Mem) (k:Nat):Mem:={ m with low:=k }
open Classical in
noncomputable def EM (n:Nat) (Ph body:St→Option (BM×St)) (ask:Mem→Prop) (t:Tr Value) (ps:List Tmp):List (List Value)→Mem→Option (BM×Mem)
 |[],m=>some (.normal,m)
 |vs::rest,m =>
  if vs.length=n∧vs.all plain=true then
   match Ph { t:=Og t ps vs,m:=I8 m m.size } with
   |some (.normal,s1) =>
    match body s1 with
    |some (x,s2) =>
     match x with
     | .normal=>if ask (I8 s2.m (min m.low s2.m.low)) then EM n Ph body ask t ps rest (I8 s2.m (min m.low s2.m.low)) else none
     |x=>some (x,I8 s2.m (min m.low s2.m.low))
    |none=>none
   |_=>none
  else none
noncomputable def Ce (P:Program) (call:EI) (N:Nat):Code→St→Option (BM×St)
 | .skip,s=>some (.normal,s)
 | .label _,s=>some (.normal,s)
 | .ret,s=>some (.ret,s)
 | .exit id,s=>some (.exit id,s)
 | .seq a b,s=>match Ce P call N a s with
  |some (.normal,s')=>Ce P call N b s'
  |r=>r
 | .cond c a b,s=>match ev s.t c with
  | .bool true=>Ce P call N a s
  | .bool false=>Ce P call N b s
  |_=>none
 | .block id b,s=>match Ce P call N b s with
  |some (.exit i,s')=>if i=id then some (.normal,s') else some (.exit i,s')
  |r=>r
 | .loop b,s=>iterate (Ce P call N b) N s
 | .region _ ops false,s=>(Lp P call ops ops.toList s).map fun s'=>(.normal,s')
 | .region _ ops true,s=>(Kt P call ops 0 ops.toList s).map fun s'=>(.normal,s')
 | .rangeFunc f ps Ph body,s=>match ev s.t f with
  | .func (.func g) fs lb=>match P.funcs[g]? with
   |some fn=>if fs.size=0∧flat Ph=true∧flat body=true then
    match call g (Ep fn.ntmps lb.toList) s.m with
    |some (v,_)=>match OJ v with
     |some rows=>(EM ps.size (Ce P call N Ph) (Ce P call N body) (fun m'=>∃ m1,call g (Ep fn.ntmps lb.toList) m'=some (v,m1)) s.t ps.toList rows s.m).map fun (x,m')=>(x,{ t:=s.t,m:=m' })
     |none=>none
    |none=>none
    else none
   |none=>none
  |_=>none
 |_,_=>none
def Gn (G:List Nat):Operand→Bool
 | .const v=>plain v
 | .global g=>G.contains g
 |_=>true
def GU (ops:Array Oper):Bool :=
 let b:=Region.before ops
 (List.range ops.size).all fun i=>match ops[i]? with
  |none=>true
  |some oi=>(match oi.guard with|some (g,_)=>(b.getD i 0).testBit g&&g<i|none=>true) &&
   (oi.after.all fun e=>!Region.binds .any e||decide (e.on<i)) &&
   match oi.dst with
   |none=>true
   |some d=>(List.range ops.size).all fun j=>j==i||match ops[j]? with
    |none=>true
    |some oj=>oj.dst != some d&&(!(oj.looksAt ops).contains d||(if i<j then (b.getD j 0).testBit i else (b.getD i 0).testBit j))
def Iq (G:List Nat) (n:Nat) (o:Oper):Bool :=
 o.op.operands.all (Gn G)&&(match o.dst with|some d=>d<n|none=>true)&&(match o.op with| .select ..| .defer ..| .go ..=>false|_=>true)
def codeOk (G:List Nat) (n:Nat):Code→Bool
 | .seq a b=>codeOk G n a&&codeOk G n b
 | .cond c a b=>Gn G c&&codeOk G n a&&codeOk G n b
 | .block _ b=>codeOk G n b
 | .loop b=>codeOk G n b
 | .region _ ops draw=>ops.all (Iq G n)&&(!draw||GU ops)
 | .skip| .label _| .ret| .exit _=>true
 | .rangeFunc f ps a b=>Gn G f&&ps.all (fun p=>decide (p<n))&&codeOk G n a&&codeOk G n b
 |_=>false
def J3 (P:Program) (s:St):ResultVar→Option Value
 | .tmp t=>some (Cj s.t t)
 | .cell a t=>match Cj s.t a with
  | .pointer (some a)=>Nr P t a s.m
  |_=>none
def Oc {α β:Type} (f:α→Option β):List α→Option (List β)
 |[]=>some []
 |a::l=>match f a,Oc f l with
  |some b,some r=>some (b::r)
  |_,_=>none
def Fa (P:Program) (fn:Func) (s:St):Option Value :=
 match Oc (J3 P s) fn.results.toList with
 |some [v]=>some v
 |some vs=>some (.tuple vs.toArray)
 |none=>none
def tmpsOf:Nat→List Value→Tr Value→Tr Value
 |_,[],t=>t
 |i,v::l,t=>tmpsOf (i+1) l (P7 t i v)
def IL (G:List Nat) (fn:Func) (c:Code):Bool :=
 !(fn.name=="runtime.NumGoroutine")&&codeOk G fn.ntmps c
abbrev CB:=FuncId→Option (List Value→Mem→Option (Value×Mem))
noncomputable def FD (P:Program) (O:CB) (G:List Nat) (N:Nat):Nat→EI
 |0,_,_,_=>none
 |D+1,f,BF,m =>
  match (O f).bind fun F=>F BF m with
  |some r=>some r
  |none =>
   match P.funcs[f]? with
   |none=>none
   |some fn=>match fn.body with
    |none=>none
    |some c =>
     if IL G fn c&&decide (BF.length≤fn.ntmps) then
      match Ce P (FD P O G N D) N c { t:=tmpsOf 0 BF .leaf,m:=m } with
      |some (.normal,s)|some (.ret,s)=>(Fa P fn s).map fun v=>(v,s.m)
      |_=>none
     else none
end
end
section
structure IB where
 blk:Nat
 sh:Nat
 lim:Nat
 uH:Nat
abbrev BJ:=Nat→Option IB
def PI (ι:BJ) (g:Nat→Nat) (a a':Addr):Prop :=
 ∃ ib,ι a.block=some ib∧Oh a≤g a.block∧(Oh a=g a.block→a'=⟨ib.blk,a.off+ib.sh,none⟩)
def b2t (ι:BJ) (g:Nat→Nat) (b off len gen:Nat) (a':Addr) (cap:Nat):Prop :=
 ∃ ib,ι b=some ib∧gen≤g b∧len≤cap∧(gen=g b→a'.block=ib.blk∧a'.spot=none∧(cap=0∨(a'.off=off+ib.sh∧a'.off+cap*ib.uH≤ib.lim)))
inductive Aw (ι:BJ) (g:Nat→Nat):Value→Value→Prop
 |bool (b:Bool):Aw ι g (.bool b) (.bool b)
 |int (k:IntKind) (n:Int):Aw ι g (.int k n) (.int k n)
 |flt (k:FloatKind) (n:Nat):Aw ι g (.float k n) (.float k n)
 |str (s:ByteArray):Aw ι g (.string s) (.string s)
 |a6m:Aw ι g (.pointer none) (.pointer none)
 |ptr (a a':Addr) (h:PI ι g a a'):Aw ι g (.pointer (some a)) (.pointer (some a'))
 |J6:Aw ι g (.slice none 0 0) (.slice none 0 0)
 |wz (b o s:Nat) (a':Addr):Aw ι g (.slice (some ⟨b,o,some s⟩) 0 0) (.slice (some a') 0 0)
 |sl (b off len gen:Nat) (a':Addr) (cap:Nat) (h:b2t ι g b off len gen a' cap):Aw ι g (.slice (some ⟨b,off,none⟩) len gen) (.slice (some a') len cap)
 |a5v:Aw ι g (.map none) (.map none)
 |map (r c:Nat) (ib:IB) (h:ι r=some ib) (hc:g r=0→c=ib.blk):Aw ι g (.map (some r)) (.map (some c))
 |a6q:Aw ι g .nilFunc .nilFunc
 |a6b:Aw ι g .nilIface .nilIface
 |fn (f:FuncId) (fs fs' cs cs':List Value) (h1:fs.length=fs'.length) (h2:∀ i,i<fs.length→Aw ι g (fs.getD i undef) (fs'.getD i undef))
  (h3:cs.length=cs'.length) (h4:∀ i,i<cs.length→Aw ι g (cs.getD i undef) (cs'.getD i undef)):Aw ι g (.func (.func f) ⟨fs⟩ ⟨cs⟩) (.func (.func f) ⟨fs'⟩ ⟨cs'⟩)
 |agg (l l':List Value) (h1:l.length=l'.length) (h2:∀ i,i<l.length→Aw ι g (l.getD i undef) (l'.getD i undef)):Aw ι g (.agg ⟨l⟩) (.agg ⟨l'⟩)
 |tuple (l l':List Value) (h1:l.length=l'.length) (h2:∀ i,i<l.length→Aw ι g (l.getD i undef) (l'.getD i undef)):Aw ι g (.tuple ⟨l⟩) (.tuple ⟨l'⟩)
 |it (b:Nat):Aw ι g (.iface 0 (.int .i64 b)) (.pointer (some ⟨b,0,none⟩))
def BA (ι:BJ) (g:Nat→Nat) (l l':List Value):Prop :=
 l.length=l'.length∧∀ i,i<l.length→Aw ι g (l.getD i undef) (l'.getD i undef)
def Le (ι:BJ) (g:Nat→Nat) (ι':BJ) (g':Nat→Nat):Prop :=
 ∀ b ib,ι b=some ib→g b≤g' b∧∃ ib',ι' b=some ib'∧(g' b=g b→ib'=ib)
theorem Le.refl (ι:BJ) (g:Nat→Nat):Le ι g ι g:=fun _ ib h=>⟨ab _,ib,h,fun _=>rfl⟩
theorem Le.trans {ι ι' ι'':BJ} {g g' g'':Nat→Nat} (h:Le ι g ι' g') (k:Le ι' g' ι'' g''):Le ι g ι'' g'':=fun b ib hb=>by
 obtain ⟨h1,ib',h2,h3⟩:=h b ib hb;obtain ⟨k1,ib'',k2,k3⟩:=k b ib' h2;grind
theorem Aw.mono {ι ι':BJ} {g g':Nat→Nat} (hl:Le ι g ι' g') {v v':Value} (h:Aw ι g v v'):Aw ι' g' v v':=by
 induction h with
 |bool b=>exact .bool b
 |int k n=>exact .int k n
 |flt k n=>exact .flt k n
 |str s=>exact .str s
 |a6m=>exact .a6m
 |ptr a a' h =>
  obtain ⟨ib,h1,h2,h3⟩:=h;obtain ⟨k1,ib',k2,k3⟩:=hl _ _ h1;exact .ptr a a' ⟨ib',k2,by omega,fun e=>by grind⟩
 |J6=>exact .J6
 |wz b o s a'=>exact .wz b o s a'
 |sl b off len gen a' cap h =>
  obtain ⟨ib,h1,h2,h4,h3⟩:=h;obtain ⟨k1,ib',k2,k3⟩:=hl _ _ h1;exact .sl b off len gen a' cap ⟨ib',k2,by omega,h4,fun e=>by grind⟩
 |it b=>exact .it b
 |a5v=>exact .a5v
 |map r c ib h hc =>
  obtain ⟨k1,ib',k2,k3⟩:=hl _ _ h;exact .map r c ib' k2 fun e=>by grind
 |a6q=>exact .a6q
 |a6b=>exact .a6b
 |fn f fs fs' cs cs' h1 _ h3 _ ih1 ih2=>exact .fn f fs fs' cs cs' h1 ih1 h3 ih2
 |agg l l' h1 _ ih=>exact .agg l l' h1 ih
 |tuple l l' h1 _ ih=>exact .tuple l l' h1 ih
theorem BA.mono {ι ι':BJ} {g g':Nat→Nat} (hl:Le ι g ι' g') {l l':List Value} (h:BA ι g l l'):BA ι' g' l l' :=
 ⟨h.1,fun i hi=>(h.2 i hi).mono hl⟩
theorem Aw.plainCell {ι:BJ} {g:Nat→Nat} {v:Value} (h:plainCell v=true):Aw ι g v v:=by
 unfold Am.plainCell at h;split at h<;>first
  |exact .bool _
  |exact .int _ _
  |exact .str _
  |exact .flt _ _
  |exact .a6m
  |exact .J6
  |exact .a5v
  |exact .a6q
  |exact .a6b
  |(rename_i f a b
    obtain ⟨a⟩:=a;obtain ⟨b⟩:=b;have ha:a=[]:=by grind
    have hb:b=[]:=by grind
    subst ha;subst hb;exact .fn _ [] [] [] [] rfl (fun i hi=>absurd hi (by simp)) rfl (fun i hi=>absurd hi (by simp)))
  |grind
theorem getD_lt {l:List Value} {i:Nat} {d:Value} (h:i<l.length):l.getD i d=l[i] :=by grind
theorem getD_mem {l:List Value} {i:Nat} {d:Value} (h:i<l.length):l.getD i d∈l :=by grind
theorem Aw.Gi {ι:BJ} {g:Nat→Nat} {v:Value} (h:Gi v=true):Aw ι g v v:=by
 unfold Am.Gi at h;split at h
 ·rename_i cs
  obtain ⟨l⟩:=cs;exact .agg l l rfl fun i hi=>Aw.plainCell (aL.1 h _ (getD_mem hi))
 ·exact Aw.plainCell h
theorem Aw.plain {ι:BJ} {g:Nat→Nat} {v:Value} (h:plain v=true):Aw ι g v v:=by
 unfold Am.plain at h;split at h
 ·rename_i cs
  obtain ⟨l⟩:=cs;exact .tuple l l rfl fun i hi=>Aw.Gi (aL.1 h _ (getD_mem hi))
 ·exact Aw.Gi h
theorem UO {l l':List Value} (h1:l.length=l'.length) (h2:∀ i,i<l.length→l.getD i undef=l'.getD i undef):l=l':=by
 apply fX h1;grind
theorem Aw.D5 {ι:BJ} {g:Nat→Nat} {v v':Value} (h:Aw ι g v v') (hp:Am.plainCell v=true):v'=v:=by
 cases h<;>first|rfl|(simp [Am.plainCell] at hp;done)|skip
 rename_i f fs fs' cs cs' h1 _ h3 _;simp [Am.plainCell] at hp;grind
theorem Aw.Qp {ι:BJ} {g:Nat→Nat} {v v':Value} (h:Aw ι g v v') (hp:Am.Gi v=true):v'=v:=by
 unfold Am.Gi at hp;split at hp
 ·rename_i cs
  cases h with
  |agg l l' h1 h2 =>
   have:l=l':=UO h1 fun i hi=>(Aw.D5 (h2 i hi) (aL.1 hp _ (getD_mem hi))).symm
   grind
 ·exact h.D5 hp
theorem Aw.BP {ι:BJ} {g:Nat→Nat} {v v':Value} (h:Aw ι g v v') (hp:Am.plain v=true):v'=v:=by
 unfold Am.plain at hp;split at hp
 ·rename_i cs
  cases h with
  |tuple l l' h1 h2 =>
   have:l=l':=UO h1 fun i hi=>(Aw.Qp (h2 i hi) (aL.1 hp _ (getD_mem hi))).symm
   grind
 ·exact h.Qp hp
theorem Aw.oneCell {ι:BJ} {g:Nat→Nat} {v v':Value} (h:Aw ι g v v') (hc:Am.BK v=true):v'.oneCell'=true:=by
 cases h<;>first|rfl|assumption
theorem Aw.undef {ι:BJ} {g:Nat→Nat}:Aw ι g undef undef:=.tuple [] [] rfl fun i hi=>absurd hi (by simp)
theorem Aw.cells {ι:BJ} {g:Nat→Nat} {v v':Value} (h:Aw ι g v v'):BA ι g v.cells.toList v'.cells.toList:=by
 have one:∀ {v v':Value},Aw ι g v v'→BA ι g [v] [v']:=fun h=>⟨rfl,fun i hi=>by
  grind⟩
 cases h with
 |agg l l' h1 h2=>exact ⟨h1,h2⟩
 |bool b=>exact one (.bool b)
 |int k n=>exact one (.int k n)
 |flt k n=>exact one (.flt k n)
 |str s=>exact one (.str s)
 |a6m=>exact one .a6m
 |ptr a a' h=>exact one (.ptr a a' h)
 |J6=>exact one .J6
 |wz b o s a'=>exact one (.wz b o s a')
 |sl b off len gen a' cap h=>exact one (.sl b off len gen a' cap h)
 |it b=>exact one (.it b)
 |a5v=>exact one .a5v
 |map r c ib h hc=>exact one (.map r c ib h hc)
 |a6q=>exact one .a6q
 |a6b=>exact one .a6b
 |fn f fs fs' cs cs' h1 h2 h3 h4=>exact one (.fn f fs fs' cs cs' h1 h2 h3 h4)
 |tuple l l' h1 h2=>exact one (.tuple l l' h1 h2)
theorem BA.plain {ι:BJ} {g:Nat→Nat} {l:List Value} (h:l.all Am.plainCell=true):BA ι g l l :=
 ⟨rfl,fun i hi=>Aw.plainCell (aL.1 h _ (getD_mem hi))⟩
theorem BA.nil {ι:BJ} {g:Nat→Nat}:BA ι g [] []:=⟨rfl,fun i hi=>absurd hi (by simp)⟩
theorem BA.append {ι:BJ} {g:Nat→Nat} {l l' k k':List Value} (h:BA ι g l l') (h2:BA ι g k k'):BA ι g (l++k) (l'++k'):=by
 refine ⟨by simp [h.1,h2.1],fun i hi=>?_⟩;rw [az] at hi;by_cases hl:i<l.length
 ·have hl':i<l'.length:=h.1▸hl
  have:=h.2 i hl;grind
 ·have e1:l.length≤i:=by omega
  have e2:l'.length≤i:=h.1▸e1;rw [bO,bO,br e1,br e2];have:=h2.2 (i-l.length) (by omega);rw [bO,bO] at this;rw [h.1] at this ⊢;omega
theorem BA.cons {ι:BJ} {g:Nat→Nat} {v v':Value} {k k':List Value} (h:Aw ι g v v') (h2:BA ι g k k'):BA ι g (v::k) (v'::k') :=
 BA.append (l:=[v]) (l':=[v']) ⟨rfl,fun i hi=>by
  grind⟩ h2
theorem BA.Kv {ι:BJ} {g:Nat→Nat} {v:Value} {k l':List Value} (h:BA ι g (v::k) l'):∃ v' k',l'=v'::k'∧Aw ι g v v'∧BA ι g k k':=by
 obtain ⟨h1,h2⟩:=h
 match l',h1 with
 |v'::k',h1 =>
  refine ⟨v',k',rfl,h2 0 (by simp),by grind,fun i hi=>?_⟩;have:=h2 (i+1) (by grind);grind
theorem BA.take {ι:BJ} {g:Nat→Nat} {l l':List Value} (h:BA ι g l l') (n:Nat):BA ι g (l.take n) (l'.take n):=by
 refine ⟨by simp [h.1],fun i hi=>?_⟩;rw [aw] at hi;have:=h.2 i (by omega);grind
theorem BA.drop {ι:BJ} {g:Nat→Nat} {l l':List Value} (h:BA ι g l l') (n:Nat):BA ι g (l.drop n) (l'.drop n):=by
 refine ⟨by simp [h.1],fun i hi=>?_⟩;rw [ci] at hi;have:=h.2 (n+i) (by omega);grind
theorem BA.get {ι:BJ} {g:Nat→Nat} {l l':List Value} (h:BA ι g l l') {i:Nat} {v:Value} (hi:l[i]?=some v):∃ v',l'[i]?=some v'∧Aw ι g v v':=by
 have hlt:i<l.length:=(bw.1 hi).1;have hlt':i<l'.length:=h.1▸hlt;refine ⟨l'[i],ai hlt',?_⟩;have:=h.2 i hlt;grind
def iR (ι:BJ) (g:Nat→Nat) (e e':MapEntry):Prop:=e'.key=e.key∧e'.born=e.born∧plain e.key=true∧Aw ι g e.val e'.val
def Du (ι:BJ) (g:Nat→Nat):List MapEntry→List MapEntry→Prop
 |[],[]=>True
 |e::es,e'::es'=>iR ι g e e'∧Du ι g es es'
 |_,_=>False
def Ue (P:Program) (ι:BJ) (g:Nat→Nat) (ib:IB):IQ→Option Obj→Prop
 | .cells vs e _ ro,some (.cells cs e' fr)=>(ro=false→e'=e)∧ib.lim=cs.size∧ib.uH=P.cellsOf e ∧
  (∀ i,i<vs.length→∃ v',cs[ib.sh+i]?=some v'∧Aw ι g (vs.getD i undef) v') ∧
  (ro=false→∀ j,j<cs.size→¬ (fr.1≤j∧j<fr.2))
 | .map es clock,some (.map es' clock')=>clock'=clock∧Du ι g es es'.toList
 |_,_=>False
structure DL (P:Program) (G:List Nat) (ι:BJ) (m:Mem) (w:World):Prop where
 dom:∀ b ib,ι b=some ib→b<m.size∧ib.blk<w.heap.size
 blk:∀ b ib,ι b=some ib→Ue P ι m.gen ib (m.get b) w.heap[ib.blk]?
 inj:∀ b b' ib ib',ι b=some ib→ι b'=some ib'→ib.blk=ib'.blk→b=b'∨(m.ro b=true∧m.ro b'=true)
 glob:∀ k,k∈G→∃ ib,ι k=some ib∧ib.blk=k∧(ib.sh=0∧∀ vs e g ro,m.get k=.cells vs e g ro→ib.lim=vs.length)∧m.gen k=0∧m.ro k=true
structure Ext (ι:BJ) (m:Mem) (w:World) (ι':BJ) (m':Mem) (w':World):Prop where
 size:m.size≤m'.size
 low:m'.low≤m.low
 keep:∀ b,b<m.size→b<m'.low→m'.get b=m.get b
 ro:∀ b,b<m.size→m.ro b=true→m'.get b=m.get b
 ro':∀ b,b<m.size→m'.ro b=m.ro b
 le:Le ι m.gen ι' m'.gen
 back:∀ b ib',ι' b=some ib'→(∃ ib,ι b=some ib∧ib.blk=ib'.blk)∨w.heap.size≤ib'.blk
 dom:∀ b ib',ι' b=some ib'→(∃ ib,ι b=some ib)∨m.size≤b
 heap:w.heap.size≤w'.heap.size
 frame:∀ c,c<w.heap.size→(∀ b ib,ι b=some ib→ib.blk=c→m.ro b=true∨b<m'.low)→w'.heap[c]?=w.heap[c]?
 tape:w'.tape=w.tape
 os:w'.os=w.os
 output:w'.output=w.output
theorem CS {m m':Mem} {b:Nat} (h:m'.get b=m.get b):m'.gen b=m.gen b:=by unfold Mem.gen;rw [h]
theorem Fe {m m':Mem} {b:Nat} (h:m'.get b=m.get b):m'.ro b=m.ro b:=by unfold Mem.ro;rw [h]
theorem Ext.refl (ι:BJ) (m:Mem) (w:World):Ext ι m w ι m w :=
 ⟨ab _,ab _,fun _ _ _=>rfl,fun _ _ _=>rfl,fun _ _=>rfl,Le.refl _ _,fun _ ib h=>.inl ⟨ib,h,rfl⟩,fun _ ib h=>.inl ⟨ib,h⟩,
  ab _,fun _ _ _=>rfl,rfl,rfl,rfl⟩
theorem Ext.trans {ι ι' ι'':BJ} {m m' m'':Mem} {w w' w'':World} {P:Program} {G:List Nat} (hs:DL P G ι m w)
 (h:Ext ι m w ι' m' w') (k:Ext ι' m' w' ι'' m'' w''):Ext ι m w ι'' m'' w'':=by
 refine ⟨an h.size k.size,an k.low h.low,fun b hb hl=>?_,fun b hb hr=>?_,fun b hb=>?_,h.le.trans k.le,fun b ib'' hb=>?_,fun b ib'' hb=>?_,
  an h.heap k.heap,fun c hc hf=>?_,k.tape.trans h.tape,k.os.trans h.os,k.output.trans h.output⟩
 ·rw [k.keep b (ag hb h.size) hl,h.keep b hb (ag hl k.low)]
 ·rw [k.ro b (ag hb h.size) (by rw [h.ro' b hb];omega),h.ro b hb hr]
 ·rw [k.ro' b (ag hb h.size),h.ro' b hb]
 ·rcases k.back b ib'' hb with ⟨ib',h1,h2⟩|h1
  ·rcases h.back b ib' h1 with ⟨ib,h3,h4⟩|h3
   ·grind
   omega
  ·exact .inr (an h.heap h1)
 ·rcases k.dom b ib'' hb with ⟨ib',h1⟩|h1
  ·exact h.dom b ib' h1
  ·exact .inr (an h.size h1)
 ·rw [k.frame c (ag hc h.heap) ?_,h.frame c hc ?_]
  ·intro b ib hb hc'
   rcases hf b ib hb hc' with h1|h1
   ·grind
   ·exact .inr (ag h1 k.low)
  ·intro b ib' hb hc'
   rcases h.back b ib' hb with ⟨ib,h1,h2⟩|h1
   ·rcases hf b ib h1 (h2.trans hc') with h3|h3
    ·exact .inl (by rw [h.ro' b (hs.dom b ib h1).1];omega)
    omega
   omega
def Post (P:Program) (G:List Nat) (ι:BJ) (m:Mem) (w:World) (v:Value) (m':Mem) (v':Value) (w':World):Prop :=
 ∃ ι',Ext ι m w ι' m' w'∧DL P G ι' m' w'∧Aw ι' m'.gen v v'
theorem Post.same {P:Program} {G:List Nat} {ι:BJ} {m:Mem} {w:World} {v v':Value} (hs:DL P G ι m w) (h:Aw ι m.gen v v'):Post P G ι m w v m v' w :=
 ⟨ι,Ext.refl _ _ _,hs,h⟩
end
section
variable {P:Program} {G:List Nat}
theorem Du.mono {ι ι':BJ} {g g':Nat→Nat} (hl:Le ι g ι' g'):∀ {es es':List MapEntry},Du ι g es es'→Du ι' g' es es'
 |[],[],_=>trivial
 |_::_,_::_,⟨h,k⟩=>⟨⟨h.1,h.2.1,h.2.2.1,h.2.2.2.mono hl⟩,Du.mono hl k⟩
 |[],_::_,h=>h.elim
 |_::_,[],h=>h.elim
theorem Ue.mono {ι ι':BJ} {g g':Nat→Nat} (hl:Le ι g ι' g') {ib:IB} {x:IQ} {o:Option Obj} (h:Ue P ι g ib x o):Ue P ι' g' ib x o:=by
 unfold Ue at *;split at h
 ·obtain ⟨h1,h2,h3,h4,h5⟩:=h
  exact ⟨h1,h2,h3,fun i hi=>(h4 i hi).imp fun v' hv=>⟨hv.1,hv.2.mono hl⟩,h5⟩
 ·exact ⟨h.1,Du.mono hl h.2⟩
 omega
theorem OD {ι:BJ} {m:Mem} {w w':World} {x:IQ} {obj:Obj} {ib:IB} (hs:DL P G ι m w) (hw':w'.heap=w.heap.push obj)
 (ht:w'.tape=w.tape) (ho:w'.os=w.os) (hou:w'.output=w.output) (hib:ib.blk=w.heap.size) (hx:Ue P ι m.gen ib x (some obj))
 (hr:x.ro=false) :
 ∃ ι',Ext ι m w ι' (m.alloc x) w'∧DL P G ι' (m.alloc x) w'∧ι' m.size=some ib:=by
 have hget:∀ b,b<m.size→(m.alloc x).get b=m.get b:=fun b hb=>by rw [Mem.Bh,if_neg (by omega)]
 have hgen:∀ b,b<m.size→(m.alloc x).gen b=m.gen b:=fun b hb=>CS (hget b hb)
 have hro:∀ b,b<m.size→(m.alloc x).ro b=m.ro b:=fun b hb=>Fe (hget b hb)
 have hheap:∀ c,c<w.heap.size→w'.heap[c]?=w.heap[c]?:=fun c hc=>by grind
 have hsz:w'.heap.size=w.heap.size+1:=by grind
 let ι':BJ:=fun b=>if b=m.size then some ib else ι b
 have hle:Le ι m.gen ι' (m.alloc x).gen:=fun b Px hb=>by
  have hlt:=(hs.dom b Px hb).1;grind
 refine ⟨ι',⟨by simp [Mem.alloc],ab _,fun b hb _=>hget b hb,fun b hb _=>hget b hb,fun b hb=>hro b hb,hle,fun b Px hb=>?_,fun b Px hb=>?_,by omega,
  fun c hc _=>hheap c hc,ht,ho,hou⟩,⟨fun b Px hb=>?_,fun b Px hb=>?_,fun b b' Px ibb' hb hb' he=>?_,fun k hk=>?_⟩,if_pos rfl⟩
 ·grind
 ·grind
 ·change (if b=m.size then some ib else ι b)=some Px at hb
  split at hb
  ·cases hb;exact ⟨by simp [Mem.alloc];omega,by omega⟩
  ·have:=hs.dom b Px hb
   exact ⟨by simp only [Mem.alloc];omega,by omega⟩
 ·change (if b=m.size then some ib else ι b)=some Px at hb
  split at hb
  ·rename_i e;cases hb
   rw [Mem.Bh,if_pos e.symm];have:w'.heap[ib.blk]?=some obj:=by grind
   rw [this];exact hx.mono hle
  ·have:=hs.dom b Px hb
   rw [hget b this.1,hheap _ this.2];exact (hs.blk b Px hb).mono hle
 ·change (if b=m.size then some ib else ι b)=some Px at hb
  change (if b'=m.size then some ib else ι b')=some ibb' at hb'
  split at hb<;>split at hb'
  ·omega
  ·cases hb;have:=hs.dom b' ibb' hb';omega
  ·cases hb';have:=hs.dom b Px hb;omega
  ·rcases hs.inj b b' Px ibb' hb hb' he with h|⟨h1,h2⟩
   ·omega
   ·exact .inr ⟨by rw [hro b (hs.dom b Px hb).1];omega,by rw [hro b' (hs.dom b' ibb' hb').1];omega⟩
 ·obtain ⟨Px,h1,h2,h3,h4,h5⟩:=hs.glob k hk
  have hlt:=(hs.dom k Px h1).1;grind
theorem Jc {ι:BJ} {m:Mem} {w w':World} {b:Nat} {ib ib':IB} {x:IQ} {obj:Obj} (hs:DL P G ι m w) (hb:ι b=some ib) (hro:m.ro b=false)
 (c8g:x.ro=false)
 (hxg:m.gen b≤x.gen∧(x.gen=m.gen b→ib'=ib))
 (hblk:ib'.blk=ib.blk∨w.heap.size≤ib'.blk) (a2x:w'.heap[ib'.blk]?=some obj) (hrest:∀ c,c<w.heap.size→c≠ib.blk→w'.heap[c]?=w.heap[c]?)
 (hsz:w.heap.size≤w'.heap.size) (ht:w'.tape=w.tape) (ho:w'.os=w.os) (hou:w'.output=w.output)
 (hx:∀ ι' g',Le ι m.gen ι' g'→Ue P ι' g' ib' x (some obj)) :
 ∃ ι',Ext ι m w ι' (m.put b x) w'∧DL P G ι' (m.put b x) w'∧ι' b=some ib':=by
 have hbd:=hs.dom b ib hb;have hget:∀ c,c≠b→(m.put b x).get c=m.get c:=fun c hc=>by rw [Mem.get_put,if_neg (fun e=>hc e.symm)]
 have c6n:(m.put b x).get b=x:=by rw [Mem.get_put,if_pos rfl]
 have c6g:(m.put b x).gen b=x.gen:=by unfold Mem.gen;grind
 have c7v:(m.put b x).ro b=false:=by unfold Mem.ro;grind
 have hgen:∀ c,c≠b→(m.put b x).gen c=m.gen c:=fun c hc=>CS (hget c hc)
 have c9a:∀ c,c≠b→(m.put b x).ro c=m.ro c:=fun c hc=>Fe (hget c hc)
 let ι':BJ:=fun c=>if c=b then some ib' else ι c
 have hle:Le ι m.gen ι' (m.put b x).gen:=fun c Zb hc=>by
  grind
 have hother:∀ c Zb,ι c=some Zb→c≠b→Zb.blk≠ib.blk:=fun c Zb hc hne e=>by
  rcases hs.inj c b Zb ib hc hb e with h|⟨_,h⟩
  ·omega
  grind
 refine ⟨ι',⟨ab _,ca _ _,fun c hc hl=>?_,fun c hc hr=>?_,fun c hc=>?_,hle,fun c Zb hc=>?_,fun c Zb hc=>?_,hsz,fun c hc hf=>?_,ht,ho,hou⟩,
  ⟨fun c Zb hc=>?_,fun c Zb hc=>?_,fun c c' Zb ibc' hc hc' he=>?_,fun k hk=>?_⟩,if_pos rfl⟩
 ·exact hget c (fun e=>by subst e;have:(m.put c x).low≤c:=cj _ _;omega)
 ·grind
 ·grind
 ·grind
 ·grind
 ·refine hrest c hc fun e=>?_
  rcases hf b ib hb e.symm with h|h
  ·grind
  ·have:(m.put b x).low≤b:=cj _ _;omega
 ·change (if c=b then some ib' else ι c)=some Zb at hc
  split at hc
  ·rename_i e;cases hc
   have hlt:ib'.blk<w'.heap.size:=by
    grind
   exact ⟨e▸hbd.1,hlt⟩
  ·have:=hs.dom c Zb hc
   exact ⟨this.1,by omega⟩
 ·change (if c=b then some ib' else ι c)=some Zb at hc
  split at hc
  ·grind
  ·rename_i e
   have:=hs.dom c Zb hc;rw [hget c e,hrest _ this.2 (hother c Zb hc e)];exact (hs.blk c Zb hc).mono hle
 ·change (if c=b then some ib' else ι c)=some Zb at hc
  change (if c'=b then some ib' else ι c')=some ibc' at hc'
  have key:∀ c Zb,ι c=some Zb→c≠b→ib'.blk≠Zb.blk:=fun c Zb hc hne e=>by
   rcases hblk with h|h
   ·grind
   ·have:=hs.dom c Zb hc;omega
  split at hc<;>split at hc'
  ·omega
  ·grind
  ·grind
  ·rename_i e1 e2
   rcases hs.inj c c' Zb ibc' hc hc' he with h|⟨h1,h2⟩
   ·omega
   grind
 ·obtain ⟨Px,h1,h2,h3,h4,h5⟩:=hs.glob k hk
  grind
theorem Fz {n:Nat} {l r:List Value} (h:takeN n l=some r):n≤l.length∧r=l.take n:=by
 unfold takeN at h;grind
theorem Ii {ι:BJ} {m:Mem} {w:World} {b:Nat} {ib:IB} {vs:List Value} {e:TypeId} {g:Nat} {ro:Bool} (hs:DL P G ι m w) (hb:ι b=some ib) (hg:m.get b=.cells vs e g ro) :
 ∃ cs fr e',w.heap[ib.blk]?=some (.cells cs e' fr)∧ib.lim=cs.size∧ib.uH=P.cellsOf e ∧
  (∀ i,i<vs.length→∃ v',cs[ib.sh+i]?=some v'∧Aw ι m.gen (vs.getD i undef) v')∧(ro=false→e'=e∧∀ j,j<cs.size→¬ (fr.1≤j∧j<fr.2)):=by
 have h:=hs.blk b ib hb;unfold Ue at h;grind
theorem cell_of_row {w:World} {c:Nat} {cs:Array Value} {e:TypeId} {fr:Nat×Nat} (h:w.heap[c]?=some (.cells cs e fr)) (o:Nat) :
 w.cell? ⟨c,o,none⟩=cs[o]?:=by
 simp [World.cell?,h]
theorem frozen_of_row {w:World} {c:Nat} {cs:Array Value} {e:TypeId} {fr:Nat×Nat} (h:w.heap[c]?=some (.cells cs e fr)) (o:Nat) :
 w.frozen? ⟨c,o,none⟩=(decide (fr.1≤o)&&decide (o<fr.2)):=by
 obtain ⟨lo,hi⟩:=fr;simp [World.frozen?,h]
theorem addr_add (b o n:Nat):Addr.add ⟨b,o,none⟩ n=⟨b,o+n,none⟩:=Addr.add_lit b o n
theorem IY {m:Mem} {a:Addr} {n:Nat} {l:List Value} (h:m.Em a n=some l) :
 ∃ vs e g ro,m.get a.block=.cells vs e g ro∧Oh a=g∧m.gen a.block=g∧n≤(vs.drop a.off).length∧l=(vs.drop a.off).take n:=by
 unfold Mem.Em at h;split at h
 ·rename_i vs e g ro hg
  split at h
  ·rename_i ha
   obtain ⟨h1,h2⟩:=Fz h;exact ⟨vs,e,g,ro,hg,ha,by unfold Mem.gen;rw [hg];rfl,h1,h2⟩
  grind
 grind
theorem J5 {ι:BJ} {m:Mem} {w:World} {a a':Addr} {n:Nat} {l:List Value} (hs:DL P G ι m w) (ha:PI ι m.gen a a') (h:m.Em a n=some l) :
 ∃ l',BA ι m.gen l l'∧l'.length=n∧∀ (j:Nat) v,l'[j]?=some v→w.cell? (a'.add j)=some v:=by
 obtain ⟨vs,e,g,ro,hg,hag,hgen,hn,hl⟩:=IY h;obtain ⟨ib,hb,_,ha'⟩:=ha;have hcur:=ha' (by omega);obtain ⟨cs,fr,e',hrow,hlim,TN,hrel,_⟩:=Ii hs hb hg;rw [ci] at hn;have hget:∀ j,j<n→∃ v',cs[ib.sh+(a.off+j)]?=some v'∧Aw ι m.gen (vs.getD (a.off+j) undef) v':=fun j hj=>hrel (a.off+j) (by omega)
 refine ⟨(List.range n).map (fun j=>cs.getD (ib.sh+(a.off+j)) undef),⟨by grind,fun i hi=>?_⟩,by simp,fun j v hv=>?_⟩
 ·rw [hl,aw,ci] at hi
  have hin:i<n:=by omega
  obtain ⟨v',h1,h2⟩:=hget i hin;have e1:l.getD i undef=vs.getD (a.off+i) undef:=by
   grind
  simp_all
 ·rw [aD] at hv
  have hjn:j<n:=by
   grind
  obtain ⟨v',h1,_⟩:=hget j hjn;rw [bS hjn] at hv;simp [h1] at hv;rw [hcur,addr_add,cell_of_row hrow,← hv,← h1];grind
theorem iL {t:TypeId} {b:Bool} (h:GN P t=some b) (w:World):(isAgg t).run P w=.ok b w:=by
 unfold GN at h;unfold isAgg;split at h<;>first
  |(rename_i d hd;simp [run_underlying hd];grind)
  |grind
  |cases h
theorem run_typeInfo' {t:TypeId} {i:TypeInfo} (h:P.info? t=some i) (w:World):(typeInfo t).run P w=.ok i w:=by
 simp [typeInfo,h]
theorem run_sizeOf' {t:TypeId} {i:TypeInfo} (h:P.info? t=some i) (w:World):(sizeOf t).run P w=.ok i.size w:=by
 simp [sizeOf,run_typeInfo' h]
theorem EF {t:TypeId} {i:TypeInfo} (h:P.info? t=some i):P.cellsOf t=i.size:=by simp [Program.cellsOf,h]
theorem Qw {ι:BJ} {m:Mem} {w:World} {t:TypeId} {a a':Addr} {v:Value} (hs:DL P G ι m w) (ha:PI ι m.gen a a') (h:Nr P t a m=some v) :
 ∃ v',(loadVar t a').run P w=.ok v' w∧Aw ι m.gen v v':=by
 unfold Nr at h;split at h
 case isFalse=>cases h
 unfold ZP at h;split at h
 ·rename_i hagg
  split at h
  ·rename_i i hi
   rw [ae] at h;obtain ⟨l,hl,rfl⟩:=h;obtain ⟨l',hrel,hlen,hcell⟩:=J5 hs ha hl;refine ⟨.agg l'.toArray,?_,?_⟩
   ·unfold loadVar
    have:=run_loadCells_list (P:=P) w a' l' hcell;rw [hlen] at this;simp [iL hagg,run_sizeOf' hi,this]
   ·exact .agg l l' hrel.1 hrel.2
  grind
 ·rename_i hagg
  rw [ba] at h;obtain ⟨l,hl,hv⟩:=h;obtain ⟨l',hrel,hlen,hcell⟩:=J5 hs ha hl
  match l,hv,hrel with
  |v0::k,hv,hrel =>
   simp at hv;subst hv;obtain ⟨v',k',rfl,hv',_⟩:=hrel.Kv;refine ⟨v',?_,hv'⟩;have hc:=hcell 0 v' rfl;unfold loadVar;rw [Addr.add_zero'] at hc;simp [iL hagg,hc]
 grind
theorem ZN {ι:BJ} {m:Mem} {w:World} {b:Nat} {ib:IB} {es:List MapEntry} {k:Nat} (hs:DL P G ι m w) (hb:ι b=some ib) (hg:m.get b=.map es k) :
 ∃ es',w.heap[ib.blk]?=some (.map es' k)∧Du ι m.gen es es'.toList:=by
 have h:=hs.blk b ib hb;unfold Ue at h;grind
end
section
variable {P:Program} {G:List Nat}
theorem getD_eq (l:List Value) (i:Nat):l.getD i undef=(l[i]?).getD undef :=by simp
theorem bV (l:List Value):∀ (vs:List Value) (o:Nat),(splice vs o l).length=vs.length:=by
 induction l with
 |nil=>intro vs o;rfl
 |cons v l ih=>intro vs o;simp [splice,ih]
theorem uo (l:List Value):∀ (vs:List Value) (o j:Nat),o+l.length≤vs.length →
 (splice vs o l)[j]?=if o≤j∧j<o+l.length then l[j-o]? else vs[j]?:=by
 induction l with
 |nil=>intro vs o j _;simp [splice];omega
 |cons v l ih =>
  intro vs o j h;simp only [splice];grind
theorem EJ (z:List Value) (n:Nat):(AL z n).length=n*z.length:=by
 induction n with
 |zero=>simp [AL]
 |succ n ih=>simp [AL,ih,Nat.succ_mul,Nat.add_comm]
theorem Tf (z:List Value) (n:Nat):∀ i,i<n*z.length→(AL z n)[i]?=z[i % z.length]?:=by
 induction n with
 |zero=>simp
 |succ n ih =>
  intro i h;simp only [AL];rw [fY] at h;by_cases h1:i<z.length
  ·rw [cb h1,bt h1]
  ·rw [br (by omega),ih _ (by omega)]
   rw [Nat.mod_eq_sub_mod (by omega:z.length≤i)]
theorem KH (z:List Value) (n:Nat) (hz:0<z.length):((Array.range (n*z.length)).map fun i=>(z.toArray[i % z.toArray.size]!:Value))=(AL z n).toArray:=by
 apply fL;simp only [Array.toList_map,Array.toList_range];apply bu;intro i;by_cases hi:i<n*z.length
 ·have hm:i % z.length<z.length:=ao _ hz
  rw [aD,bS hi,Tf z n i hi,ai hm];grind
 ·rw [aM (by grind),aM (by rw [EJ];omega)]
theorem BA.repeat {ι:BJ} {g:Nat→Nat} {z:List Value} (h:z.all plainCell=true) (n:Nat):BA ι g (AL z n) (AL z n):=by
 refine BA.plain ?_
 induction n with
 |zero=>rfl
 |succ n ih=>simp only [AL,List.all_append,h,ih,Bool.and_self]
theorem BA.a2l {ι:BJ} {g:Nat→Nat} (l:List UInt8):BA ι g (l.map fun c=>Value.int .u8 c.toNat) (l.map fun c=>Value.int .u8 c.toNat) :=
 BA.plain (by simp [plainCell])
theorem BA.Tc {ι:BJ} {g:Nat→Nat} {l l':List Value} (h:BA ι g l l') (ha:l.all BK=true):∀ v∈l',v.oneCell'=true:=by
 intro v hv;obtain ⟨i,hi,rfl⟩:=dq hv;have hi0:i<l.length:=h.1▸hi;have:=h.2 i hi0;rw [getD_lt hi0,getD_lt hi] at this;exact this.oneCell (aL.1 ha _ (cN hi0))
def b5c (w w':World) (c:Nat) (cs cs':Array Value) (e:TypeId) (fr:Nat×Nat) (o:Nat) (l:List Value):Prop :=
 w'.heap[c]?=some (.cells cs' e fr)∧cs'.size=cs.size∧(∀ j,cs'[j]?=if o≤j∧j<o+l.length then l[j-o]? else cs[j]?) ∧
 (∀ d,d≠c→w'.heap[d]?=w.heap[d]?)∧w'.heap.size=w.heap.size∧w'.tape=w.tape∧w'.os=w.os∧w'.output=w.output
theorem Hl (c:Nat) (e:TypeId) (fr:Nat×Nat) (off:Nat):∀ (l:List Value) (i:Nat) (w:World) (cs:Array Value),
 w.heap[c]?=some (.cells cs e fr)→(∀ v∈l,v.oneCell'=true)→off+i+l.length≤cs.size→(∀ j,j<cs.size→¬ (fr.1≤j∧j<fr.2)) →
 ∃ w' cs',(storeCells ⟨c,off,none⟩ l i).run P w=.ok () w'∧b5c w w' c cs cs' e fr (off+i) l
 |[],i,w,cs,h,_,_,_=>⟨w,cs,rfl,h,rfl,fun j=>by grind,fun _ _=>rfl,rfl,rfl,rfl,rfl⟩
 |v::l,i,w,cs,h,hone,hle,hfr=>by
  simp only [List.length_cons] at hle;have hlt:off+i<cs.size:=by omega
  have hcell:w.cell? ⟨c,off+i,none⟩=some cs[off+i]:=by rw [cell_of_row h];simp
  have hfz:w.frozen? ⟨c,off+i,none⟩=false:=by
   rw [frozen_of_row h];grind
  have hs:(store ⟨c,off+i,none⟩ v).run P w=.ok () (w.setCell ⟨c,off+i,none⟩ v):=by
   rw [run_store P w _ v _ (hone v (by simp)),hcell,hfz];rfl
  have hrow:(w.setCell ⟨c,off+i,none⟩ v).heap[c]?=some (.cells (cs.setIfInBounds (off+i) v) e fr):=by
   simp only [World.setCell,Array.getElem?_modify,h];simp
  have hoth:∀ d,d≠c→(w.setCell ⟨c,off+i,none⟩ v).heap[d]?=w.heap[d]?:=fun d hd=>by
   simp only [World.setCell,Array.getElem?_modify];grind
  obtain ⟨w',cs',hr,h1,h2,h3,h4,h5,h6,h7,h8⟩:=Hl c e fr off l (i+1) (w.setCell ⟨c,off+i,none⟩ v) (cs.setIfInBounds (off+i) v) hrow
   (fun u hu=>hone u (by grind)) (by grind) (by grind)
  refine ⟨w',cs',?_,h1,by grind,fun j=>?_,fun d hd=>(h4 d hd).trans (hoth d hd),by simp_all,by simp_all,by rw [h7];rfl,by rw [h8];rfl⟩
  ·simp only [storeCells,Sem.run_bind,addr_add,hs,Result.andThen_ok]
   omega
  ·rw [h3 j]
   by_cases hj:off+(i+1)≤j∧j<off+(i+1)+l.length
   ·grind
   grind
theorem Mem.G7 {m:Mem} {b:Nat} {vs:List Value} {e:TypeId} {g:Nat} {ro:Bool} (h:m.get b=.cells vs e g ro):m.gen b=g:=by
 unfold Mem.gen;rw [h];rfl
theorem Mem.Pn {m:Mem} {b:Nat} {vs:List Value} {e:TypeId} {g:Nat} {ro:Bool} (h:m.get b=.cells vs e g ro):m.ro b=ro:=by
 unfold Mem.ro;rw [h];rfl
theorem LM {ι:BJ} {m m':Mem} {w:World} {a a':Addr} {l l':List Value} (hs:DL P G ι m w) (ha:PI ι m.gen a a') (hl:BA ι m.gen l l')
 (h:F9 m a l=some m'):∃ w' ι',(storeCells a' l').run P w=.ok () w'∧Ext ι m w ι' m' w'∧DL P G ι' m' w':=by
 unfold F9 at h;split at h
 ·rename_i vs e g hg
  split at h
  ·rename_i hc
   simp only [Bool.and_eq_true,beq_iff_eq,decide_eq_true_eq] at hc;obtain ⟨⟨⟨hgen,hle⟩,hpos⟩,hall⟩:=hc;cases h;obtain ⟨ib,hb,_,ha'⟩:=ha;have hcur:=ha' (by rw [hgen,Mem.G7 hg]);obtain ⟨cs,fr,e',hrow,hlim,TN,hrel,hfr0⟩:=Ii hs hb hg;obtain ⟨rfl,nJ⟩:=hfr0 rfl;have hfr:∀ (_:false=false) j,j<cs.size→¬ (fr.1≤j∧j<fr.2):=fun _=>nJ
   have hsz:(a.off+ib.sh)+0+l'.length≤cs.size:=by
    obtain ⟨v',h2,_⟩:=hrel (a.off+l.length-1) (by omega);have:=(al.1 h2).1;rw [← hl.1];omega
   obtain ⟨w',cs',hrun,r1,r2,r3,r4,r5,r6,r7,r8⟩:=Hl (P:=P) ib.blk e' fr (a.off+ib.sh) l' 0 w cs hrow (hl.Tc hall) hsz (hfr rfl);have hro:m.ro a.block=false:=Mem.Pn hg;obtain ⟨ι',hext,Dv,_⟩:=Jc (x:=.cells (splice vs a.off l) e' g false) (ib':=ib) (w':=w') (obj:=.cells cs' e' fr) hs hb hro rfl
    ⟨by rw [Mem.G7 hg];exact ab _,fun _=>rfl⟩ (.inl rfl) r1 (fun c _ hne=>r4 c hne) (by omega) r6 r7 r8 (fun ι' g' hle'=>by
     refine ⟨fun _=>rfl,by omega,TN,fun i hi=>?_,fun _ j hj=>hfr rfl j (by omega)⟩;rw [bV] at hi;rw [r3,getD_eq,uo _ _ _ _ hle];by_cases hin:a.off≤i∧i<a.off+l.length
     ·rw [if_pos hin,if_pos (by rw [← hl.1];omega)]
      have e1:ib.sh+i-(a.off+ib.sh+0)=i-a.off:=by omega
      rw [e1];have hlt:i-a.off<l.length:=by omega
      obtain ⟨v',h1,h2⟩:=hl.get (ai hlt);refine ⟨v',h1,?_⟩;rw [ai hlt];exact h2.mono hle'
     ·rw [if_neg hin,if_neg (by rw [← hl.1];omega)]
      obtain ⟨v',h1,h2⟩:=hrel i hi;exact ⟨v',h1,by exact h2.mono hle'⟩)
   grind
  grind
 grind
theorem jG {ι:BJ} {m m':Mem} {w:World} {t:TypeId} {a a':Addr} {v v':Value} (hs:DL P G ι m w) (ha:PI ι m.gen a a') (hv:Aw ι m.gen v v')
 (h:LJ P t a v m=some m'):∃ w' ι',(storeVar t a' v').run P w=.ok () w'∧Ext ι m w ι' m' w'∧DL P G ι' m' w':=by
 unfold LJ at h;split at h
 ·rename_i i hi
  split at h
  ·rename_i hsz
   obtain ⟨w',ι',hr,hx⟩:=LM hs ha hv.cells h;refine ⟨w',ι',?_,hx⟩;have:v'.cells.size=i.size:=by
    have:=hv.cells.1;grind
   simp only [storeVar,Sem.run_bind,run_sizeOf' hi,Result.andThen_ok,this,ne_eq,not_true_eq_false,if_false];omega
  grind
 grind
theorem EP {ι:BJ} {m:Mem} {w:World} {size n:Nat} {s s':Value} {l:List Value} (hs:DL P G ι m w) (hv:Aw ι m.gen s s')
 (h:Ci m size n s=some l):∃ l',(Builtin.firstCells size n s').run P w=.ok l'.toArray w∧BA ι m.gen l l':=by
 unfold Ci at h;split at h
 ·split at h
  ·cases h;cases hv
   exact ⟨[],by rfl,BA.nil⟩
  grind
 ·split at h
  ·rename_i hn
   cases h;cases hv with
   |wz b o s a'=>exact ⟨[],by subst hn;simp only [Builtin.firstCells,Nat.zero_mul,loadCells,loadCellsFrom];rfl,BA.nil⟩
  grind
 ·rename_i b off len g
  split at h
  ·rename_i hn
   cases hv with
   |sl _ _ _ _ a' cap hsr =>
    by_cases h0:n=0
    ·subst h0
     obtain ⟨vs,e,g',ro,hg,hag,hgen,hlen,hl⟩:=IY h;refine ⟨[],by simp only [Builtin.firstCells,Nat.zero_mul,loadCells,loadCellsFrom];rfl,?_⟩;rw [hl];simp [BA.nil]
    ·obtain ⟨ib,hb,hle,h3,hcur⟩:=hsr
     obtain ⟨vs,e,g',ro,hg,hag,hgen,hlen,hl⟩:=IY h;have hgg:g=m.gen b:=by rw [hgen];exact hag
     obtain ⟨h1,h2,h4⟩:=hcur hgg;have ha':a'=⟨ib.blk,off+ib.sh,none⟩:=by
      obtain ⟨x,y,z⟩:=a';grind
     obtain ⟨l',hrel,hl',hcell⟩:=J5 (a':=a') hs ⟨ib,hb,by omega,fun _=>ha'⟩ h;refine ⟨l',?_,hrel⟩;have:=run_loadCells_list (P:=P) w a' l' hcell;rw [hl'] at this;assumption
  grind
 ·rename_i s
  split at h
  ·rename_i hn
   cases h;cases hv;refine ⟨_,?_,BA.a2l _⟩;simp only [Builtin.firstCells,Sem.run_pure];congr 1
   apply fL;simp
  grind
 grind
theorem MN {ι:BJ} {g:Nat→Nat} {s s':Value} {n:Nat} (hv:Aw ι g s s') (h:lenOf s=some n) (w:World):(Builtin.lenOf s').run P w=.ok n w:=by
 unfold lenOf at h;split at h
 ·cases h;cases hv<;>rfl
 ·cases h;cases hv;rfl
 grind
theorem Jb {ι:BJ} {m:Mem} {w w':World} {e:TypeId} {l:List Value} {n cap:Nat} {cs:Array Value} (hs:DL P G ι m w) (hw':w'.heap=w.heap.push (.cells cs e (0,0)))
 (ht:w'.tape=w.tape) (ho:w'.os=w.os) (hou:w'.output=w.output) (hl:∀ i,i<l.length→∃ v',cs[i]?=some v'∧Aw ι m.gen (l.getD i undef) v')
 (hn:n≤cap) (hcap:cap=0∨cap*P.cellsOf e≤cs.size) :
 Post P G ι m w (AQ m e l n).1 (AQ m e l n).2 (.slice (some ⟨w.heap.size,0,none⟩) n cap) w':=by
 obtain ⟨ι',hext,Dv,hb⟩:=OD (x:=.cells l e 0 false) (ib:=⟨w.heap.size,0,cs.size,P.cellsOf e⟩) hs hw' ht ho hou rfl
  ⟨fun _=>rfl,rfl,rfl,fun i hi=>by grind,fun _ j _=>by simp⟩ rfl
 refine ⟨ι',hext,Dv,.sl _ _ _ _ _ _ ⟨_,hb,aq _,hn,fun _=>⟨rfl,rfl,?_⟩⟩⟩;grind
theorem dW (n:Nat):∀ (r c:Nat),c≤n+(n+768) / 4→Builtin.growBy n r c≤n+(n+768) / 4
 |0,c,h=>h
 |r+1,c,h=>by
  simp only [Builtin.growBy];split
  ·exact h
  ·exact dW n r _ (by omega)
theorem nextslicecap_le (n c:Nat) (h:c<n):Builtin.nextslicecap n c≤2*n+192:=by
 unfold Builtin.nextslicecap;split
 ·omega
 ·split
  ·omega
  ·have:=dW n 4 c (by omega);omega
theorem o9 {need bytes c:Nat} (h:need*(bytes+1)≤room) (hc:c<need):Builtin.nextslicecap need c*bytes≤2 ^ 48:=by
 have h1:=nextslicecap_le need c hc;have h2:bytes+1≤room:=by
  refine an ?_ h;have:1*(bytes+1)≤need*(bytes+1):=bp _ (by omega);omega
 have h3:Builtin.nextslicecap need c*bytes≤(2*need+192)*bytes:=bp _ h1;have h4:need*bytes≤room:=an (bX _ (by omega)) h;have h5:(2*need+192)*bytes=2*(need*bytes)+192*bytes:=by grind
 have h6:room=2 ^ 40:=rfl;omega
def DY (e:TypeId) (size:Nat) (zeros:Bool) (n:Nat) (x:Value) (base:Option Addr) (sLen sCap:Nat) (appended:Sem (Array Value)):Sem Value:=do
 let need:=sLen+n
 if need≤sCap then
  let new ← appended
  if let some a:=base then storeCells (a.add (sLen*size)) new.toList
  pure (.slice base need sCap)
 else
  if (need:Int)>IntKind.i64.max∧(zeros∨(← typeInfo e).bytes=0) then runtimePanic (.error "growslice: len out of range")
  if Builtin.nextslicecap need sCap*(← typeInfo e).bytes>2 ^ 48 then (if zeros then runtimePanic (.error "growslice: len out of range") else do
   if !(← Builtin.mayShare size sLen n base x) then mark .noRoom
   unsupported (.resourceLimit "append: a slice or a string whose bytes no memory bears"))
  let newCap ← choose (.appendCap need sCap e)
  askRoom (newCap*(← typeInfo e).bytes)
  let old ← Builtin.firstCells size sLen (.slice base sLen sCap)
  let new ← appended
  let rest:=Builtin.zeroCells (← zeroValue e).cells (newCap-need)
  pure (.slice (some (← newRow e (old++new++rest))) need newCap)
theorem LG (z:Array Value) (n:Nat):(Builtin.zeroCells z n).size=n*z.size:=by simp [Builtin.zeroCells]
theorem JI {e:TypeId} {i:TypeInfo} {size n:Nat} {zeros:Bool} {x:Value} {base:Option Addr} {sLen sCap:Nat} {ap:Sem (Array Value)} {w:World} {old new:List Value} {z:Value}
 (hi:P.info? e=some i) (hz:i.zero=some z) (c0k:¬ sLen+n≤sCap) (hroom:(sLen+n)*(i.bytes+1)≤room)
 (hold:∀ k,(Builtin.firstCells size sLen (.slice base sLen sCap)).run P { w with drawn:=k }=.ok old.toArray { w with drawn:=k })
 (hap:∀ k,ap.run P { w with drawn:=k }=.ok new.toArray { w with drawn:=k }) :
 ∃ cap,sLen+n≤cap∧(DY e size zeros n x base sLen sCap ap).run P w =
  .ok (.slice (some ⟨w.heap.size,0,none⟩) (sLen+n) cap) { w with heap:=w.heap.push (.cells (old.toArray++new.toArray++Builtin.zeroCells z.cells (cap-(sLen+n))) e (0,0)),drawn:=w.drawn+1 }:=by
 let q:Question:=.appendCap (sLen+n) sCap e
 refine ⟨q.cut (w.tape w.drawn q),?_,?_⟩
 ·show sLen+n≤sLen+n+_ % _
  omega
 ·have h1:¬ ((sLen+n:Nat):Int)>IntKind.i64.max:=by
   have h2:sLen+n≤room:=an (Nat.le_mul_of_pos_right _ (by omega)) hroom;have h3:room=2 ^ 40:=rfl;rw [IntKind.max_i64];omega
  have h2:¬ Builtin.nextslicecap (sLen+n) sCap*i.bytes>2 ^ 48:=by have:=o9 hroom (c:=sCap) (by omega);omega
  have h3:(Question.appendCap (sLen+n) sCap e).forced=false:=rfl;have ho:=hold (w.drawn+1);have ha:=hap (w.drawn+1);have hzv:∀ w,(zeroValue e).run P w=.ok z w:=fun w=>by simp [zeroValue,run_typeInfo' hi,hz]
  simp only [DY];rw [if_neg c0k];simp only [Sem.run_bind,run_typeInfo' hi,Result.andThen_ok,h1,false_and,if_false,Sem.run_pure,h2,run_choose,h3,Bool.false_eq_true,run_askRoom,ho,ha,hzv,newRow,run_newObj];rfl
end
section
variable {P:Program} {G:List Nat}
theorem DL.drawn {ι:BJ} {m:Mem} {w:World} (hs:DL P G ι m w) (k:Nat):DL P G ι m { w with drawn:=k }:=⟨hs.dom,hs.blk,hs.inj,hs.glob⟩
theorem Fg {m:Mem} {size n:Nat} {s:Value} {l:List Value} (h:Ci m size n s=some l):l.length=n*size:=by
 unfold Ci at h;split at h
 ·grind
 ·grind
 ·split at h
  ·obtain ⟨vs,e,g',ro,hg,hag,hgen,hlen,hl⟩:=IY h
   grind
  grind
 ·split at h
  ·rename_i h0;cases h;simp_all
  grind
 grind
theorem QD {i:TypeInfo} (h:Eo i=true):∃ z,i.zero=some z∧z.cells.size=i.size:=by
 unfold Eo at h;grind
theorem SQ {old new rest:List Value} {ι:BJ} {g:Nat→Nat} {l:List Value} (h:BA ι g l (old++new)) (i:Nat) (hi:i<l.length) :
 ∃ v',(old.toArray++new.toArray++rest.toArray)[i]?=some v'∧Aw ι g (l.getD i undef) v':=by
 obtain ⟨v',h1,h2⟩:=h.get (ai hi);grind
theorem MJ {ι:BJ} {m m':Mem} {w:World} {e:TypeId} {i:TypeInfo} {l l':List Value} {n sLen sCap:Nat} {zeros:Bool} {x s v:Value} {base:Option Addr} {ap:Sem (Array Value)}
 (hs:DL P G ι m w) (hi:P.info? e=some i) (hz:Eo i=true) (hv:Aw ι m.gen s (.slice base sLen sCap)) (hsl:lenOf s=some sLen) (hl:BA ι m.gen l l') (hlen:l.length=n*i.size)
 (hcell:l.all BK=true) (hroom:(sLen+n)*(i.bytes+1)≤room) (hap:∀ k,ap.run P { w with drawn:=k }=.ok l'.toArray { w with drawn:=k })
 (h:BL m e i.size l n s=some (v,m')) :
 ∃ v' w',(DY e i.size zeros n x base sLen sCap ap).run P w=.ok v' w'∧Post P G ι m w v m' v' w':=by
 obtain ⟨z,hz1,hz2⟩:=QD hz;have a3h:ap.run P w=.ok l'.toArray w:=hap w.drawn;unfold BL at h;have grow:∀ (old:List Value),sLen=0→0<n→sCap=0→(∀ k,(Builtin.firstCells i.size sLen (.slice base sLen sCap)).run P { w with drawn:=k }=.ok #[] { w with drawn:=k }) →
  some (AQ m e l n)=some (v,m')→∃ v' w',(DY e i.size zeros n x base sLen sCap ap).run P w=.ok v' w'∧Post P G ι m w v m' v' w':=fun _ h0 hn hc hold h=>by
  obtain ⟨cap,hcap,hrun⟩:=JI (old:=[]) (new:=l') (z:=z) (x:=x) (zeros:=zeros) hi hz1 (by omega) hroom hold hap;refine ⟨_,_,hrun,?_⟩;rw [h0,cw] at hcap ⊢;have hp:=Jb (w':={ w with heap:=w.heap.push (.cells (([]:List Value).toArray++l'.toArray++Builtin.zeroCells z.cells (cap-n)) e (0,0)),drawn:=w.drawn+1 })
   (e:=e) (l:=l) (n:=n) (cap:=cap) hs rfl rfl rfl rfl (fun j hj=>SQ (old:=[]) (rest:=(Builtin.zeroCells z.cells (cap-n)).toList) (by grind) j hj) hcap
   (.inr (by
    rw [EF hi];have h1:(Builtin.zeroCells z.cells (cap-n)).size=(cap-n)*i.size:=by rw [LG,hz2]
    have h2:l'.length=n*i.size:=by rw [← hl.1];omega
    simp only [Array.size_append,List.size_toArray,List.length_nil,h1,h2,Nat.zero_add];rw [← cL];grind))
  grind
 split at h
 ·
  cases hv;simp only [lenOf,Option.some.injEq] at hsl;split at h
  ·rename_i hn
   cases h;subst hn;have:l'=[]:=ar.1 (by rw [← hl.1,hlen];simp);subst this;refine ⟨.slice none 0 0,w,?_,Post.same hs .J6⟩;simp only [DY,Nat.add_zero,Nat.le_refl,if_true,Sem.run_bind,a3h,Result.andThen_ok];rfl
  ·exact grow [] rfl (by omega) rfl (fun k=>rfl) h
 ·
  rename_i b o g;cases hv with
  |wz _ _ _ a' =>
   split at h
   ·rename_i hn
    cases h;subst hn;have:l'=[]:=ar.1 (by rw [← hl.1,hlen];simp);subst this;refine ⟨.slice (some a') 0 0,w,?_,Post.same hs (.wz _ _ _ _)⟩;simp only [DY,Nat.add_zero,Nat.le_refl,if_true,Sem.run_bind,a3h,Result.andThen_ok];rfl
   ·exact grow [] rfl (by omega) rfl (fun k=>by simp only [Builtin.firstCells,Nat.zero_mul,loadCells,loadCellsFrom];rfl) h
 ·
  rename_i b off len g;split at h
  ·rename_i vs e' g' hg
   split at h
   ·rename_i hc
    simp only [Bool.and_eq_true,beq_iff_eq,decide_eq_true_eq] at hc;obtain ⟨⟨rfl,rfl⟩,hsize⟩:=hc;split at h
    ·rename_i old hold
     cases h;obtain ⟨hle,rfl⟩:=Fz hold;simp only [lenOf,Option.some.injEq] at hsl;subst hsl;cases hv with
     |sl _ _ _ _ a' cap hsr =>
      obtain ⟨ib,hb,_,q3,hcur⟩:=hsr;obtain ⟨q1,q2,q4⟩:=hcur (Mem.G7 hg).symm;obtain ⟨cs,fr,e0,hrow,hlim,TN,hrel,hfr0⟩:=Ii hs hb hg;obtain ⟨he0,nJ⟩:=hfr0 rfl;have he1:=he0.symm;subst he1;have hfr:∀ (_:false=false) j,j<cs.size→¬ (fr.1≤j∧j<fr.2):=fun _=>nJ
      have hesz':ib.uH=i.size:=by rw [TN,EF hi]
      have hlen':l'.length=n*i.size:=by rw [← hl.1];exact hlen
      rw [ci] at hle;by_cases hfit:len+n≤sCap
      ·by_cases hc0:sCap=0
       ·
        have hl0:len=0:=by omega
        have hn0:n=0:=by omega
        subst hl0;subst hn0;have hl'0:l'=[]:=ar.1 (by rw [hlen'];simp);have hl0:l=[]:=ar.1 (by rw [hlen];simp);subst hl'0;subst hl0;obtain ⟨ι',hext,Dv,hb'⟩:=Jc (x:=.cells [] e (g+1) false) (ib':=ib) (w':=w) (obj:=.cells cs e fr) hs hb (Mem.Pn hg) rfl
         ⟨by rw [Mem.G7 hg];exact cE _,fun h=>absurd h (by rw [Mem.G7 hg];simp only [IQ.gen];omega)⟩ (.inl rfl) hrow (fun c _ _=>rfl) (ab _) rfl rfl rfl
         (fun ι' g' _=>⟨fun _=>rfl,hlim,TN,fun i hi=>absurd hi (by simp),fun _=>hfr rfl⟩)
        refine ⟨.slice (some a') 0 sCap,w,?_,ι',?_,?_,?_⟩
        ·simp only [DY,Nat.add_zero,hfit,if_true,Sem.run_bind,a3h,Result.andThen_ok]
         rfl
        ·simpa using hext
        ·simpa using Dv
        ·exact .sl _ _ _ _ _ _ ⟨ib,hb',by simp [Mem.gen,Mem.get_put,IQ.gen],by omega,fun _=>⟨q1,q2,.inl hc0⟩⟩
       ·
        obtain ⟨q5,q6⟩:a'.off=off+ib.sh∧a'.off+sCap*ib.uH≤ib.lim:=by
         rcases q4 with h|h
         ·exact absurd h hc0
         ·exact h
        have ha':a'=⟨ib.blk,off+ib.sh,none⟩:=by
         obtain ⟨x1,y1,z1⟩:=a';simp at q1 q2 q5;simp [q1,q2,q5]
        have hmul:(len+n)*i.size≤sCap*i.size:=bp _ hfit;rw [cL] at hmul;rw [hesz',hlim] at q6;obtain ⟨w',cs',hrun,r1,r2,r3,r4,r5,r6,r7,r8⟩:=Hl (P:=P) ib.blk e fr (off+ib.sh+len*i.size) l' 0 w cs hrow (hl.Tc hcell) (by omega) (hfr rfl);obtain ⟨ι',hext,Dv,hb'⟩:=Jc (x:=.cells ((vs.drop off).take (len*i.size)++l) e (g+1) false) (ib':=⟨ib.blk,ib.sh+off,ib.lim,ib.uH⟩) (w':=w') (obj:=.cells cs' e fr) hs hb (Mem.Pn hg) rfl
         ⟨by rw [Mem.G7 hg];exact cE _,fun h=>absurd h (by rw [Mem.G7 hg];simp only [IQ.gen];omega)⟩ (.inl rfl) r1 (fun c _ hne=>r4 c hne) (by omega) r6 r7 r8
         (fun ι' g' hle'=>by
          refine ⟨fun _=>rfl,by rw [hlim];exact r2.symm,TN,fun k hk=>?_,fun _ j hj=>hfr rfl j (by omega)⟩;simp only [List.length_append,List.length_take,List.length_drop] at hk;show ∃ v',cs'[(ib.sh+off)+k]?=some v'∧Aw ι' g' _ v';rw [r3,getD_eq];by_cases hk1:k<len*i.size
          ·rw [if_neg (by omega),cb (by rw [aw,ci];omega),cR,if_pos hk1,ft]
           obtain ⟨v',h1,h2⟩:=hrel (off+k) (by omega);refine ⟨v',?_,by rw [← getD_eq];exact h2.mono hle'⟩;rw [← h1];congr 1;omega
          ·rw [if_pos (by omega),br (by rw [aw,ci];omega)]
           have e1:k-(List.take (len*i.size) (List.drop off vs)).length=k-len*i.size:=by rw [aw,ci];omega
           have e2:ib.sh+off+k-(off+ib.sh+len*i.size+0)=k-len*i.size:=by omega
           rw [e1];show ∃ v',l'[ib.sh+off+k-(off+ib.sh+len*i.size+0)]?=some v'∧_;rw [e2];have hlt:k-len*i.size<l.length:=by omega
           obtain ⟨v',h1,h2⟩:=hl.get (ai hlt);refine ⟨v',h1,?_⟩;rw [ai hlt];exact h2.mono hle')
        refine ⟨.slice (some a') (len+n) sCap,w',?_,ι',hext,Dv,?_⟩
        ·simp only [DY,hfit,if_true,Sem.run_bind,a3h,Result.andThen_ok,ha',addr_add,hrun,Sem.run_pure]
        ·exact .sl _ _ _ _ _ _ ⟨_,hb',by simp [Mem.gen,Mem.get_put,IQ.gen],hfit,fun _=>⟨q1,q2,.inr ⟨by simp [q5];omega,by simp only;rw [hesz',hlim];exact q6⟩⟩⟩
      ·
       have c1m:∃ old',BA ι m.gen ((vs.drop off).take (len*i.size)) old'∧∀ k,(Builtin.firstCells i.size len (.slice (some a') len sCap)).run P { w with drawn:=k }=.ok old'.toArray { w with drawn:=k }:=by
        have hsc:Ci m i.size len (.slice (some ⟨b,off,none⟩) len g)=some ((vs.drop off).take (len*i.size)):=by
         simp only [Ci,Nat.le_refl,if_true,Mem.Em,hg,Oh,Option.getD_some];exact hold
        have PE:Aw ι m.gen (.slice (some ⟨b,off,none⟩) len g) (.slice (some a') len sCap):=.sl _ _ _ _ _ _ ⟨ib,hb,by rw [Mem.G7 hg];exact ab _,q3,fun _=>⟨q1,q2,q4⟩⟩;obtain ⟨old',h1,h2⟩:=EP hs PE hsc;refine ⟨old',h2,fun k=>?_⟩;obtain ⟨b8x,h3,h4⟩:=EP (hs.drawn k) PE hsc;have hsame:b8x=old':=by
         have g1:∀ (a:Addr),({ w with drawn:=k }:World).cell? a=w.cell? a:=fun a=>rfl
         by_cases hz0:len=0
         ·subst hz0
          have hA:=h1;have hB:=h3;simp only [Builtin.firstCells,Nat.zero_mul,loadCells,loadCellsFrom,Sem.run_pure] at hA hB;injection hA with hA _
          injection hB with hB _
          have hA1:old'=[]:=(congrArg Array.toList hA).symm;have hB1:b8x=[]:=(congrArg Array.toList hB).symm;rw [hA1,hB1]
         ·have q5:a'.off=off+ib.sh:=by
           rcases q4 with h|h
           ·omega
           ·exact h.1
          have ha':a'=⟨ib.blk,off+ib.sh,none⟩:=by
           obtain ⟨x1,y1,z1⟩:=a';simp at q1 q2 q5;simp [q1,q2,q5]
          have hget:∀ j,j<len*i.size→∃ u,w.cell? (a'.add j)=some u:=fun j hj=>by
           obtain ⟨u,hu,_⟩:=hrel (off+j) (by omega);exact ⟨u,by rw [ha',addr_add,cell_of_row hrow,← hu];congr 1;omega⟩
          have hch:∀ j,∃ u,j<len*i.size→w.cell? (a'.add j)=some u:=fun j=>by
           by_cases hj:j<len*i.size
           ·obtain ⟨u,hu⟩:=hget j hj;exact ⟨u,fun _=>hu⟩
           ·exact ⟨undef,fun h=>absurd h hj⟩
          have f1:=run_loadCells (P:=P) w a' (len*i.size) (fun j=>(hch j).choose) (fun j hj=>(hch j).choose_spec hj);have f2:=run_loadCells (P:=P) { w with drawn:=k } a' (len*i.size) (fun j=>(hch j).choose) (fun j hj=>(hch j).choose_spec hj);simp only [Builtin.firstCells] at h1 h3;rw [h1] at f1;rw [h3] at f2;injection f1 with f1 _
          injection f2 with f2 _
          have:=f1.trans f2.symm;simpa using this.symm
        rw [hsame] at h3;exact h3
       obtain ⟨old',hor,hord⟩:=c1m;obtain ⟨cap,hcap,hrun⟩:=JI (old:=old') (new:=l') (z:=z) (x:=x) (zeros:=zeros) hi hz1 hfit hroom hord hap;refine ⟨_,_,hrun,?_⟩;have ho1:old'.length=len*i.size:=by rw [← hor.1,aw,ci];omega
       have hsz:(old'.toArray++l'.toArray++Builtin.zeroCells z.cells (cap-(len+n))).size=cap*i.size:=by
        simp only [Array.size_append,List.size_toArray,LG,hz2,ho1,hlen'];rw [← cL,← cL];congr 1;omega
       obtain ⟨ι',hext,Dv,hb'⟩:=Jc (x:=.cells ((vs.drop off).take (len*i.size)++l) e (g+1) false) (ib':=⟨w.heap.size,0,cap*i.size,P.cellsOf e⟩)
        (w':={ w with heap:=w.heap.push (.cells (old'.toArray++l'.toArray++Builtin.zeroCells z.cells (cap-(len+n))) e (0,0)),drawn:=w.drawn+1 })
        (obj:=.cells (old'.toArray++l'.toArray++Builtin.zeroCells z.cells (cap-(len+n))) e (0,0)) hs hb (Mem.Pn hg) rfl
        ⟨by rw [Mem.G7 hg];exact cE _,fun h=>absurd h (by rw [Mem.G7 hg];simp only [IQ.gen];omega)⟩ (.inr (ab _)) (by simp)
        (fun c hc _=>by show (w.heap.push _)[c]?=_;rw [fk,if_neg (by omega)]) (by simp) rfl rfl rfl
        (fun ι' g' hle'=>by
         refine ⟨fun _=>rfl,hsz.symm,rfl,fun k hk=>?_,fun _ j hj=>by simp⟩;have hk':=SQ (rest:=(Builtin.zeroCells z.cells (cap-(len+n))).toList) (hor.append hl) k hk;obtain ⟨v',h1,h2⟩:=hk';exact ⟨v',by simpa using h1,h2.mono hle'⟩)
       refine ⟨ι',hext,Dv,.sl _ _ _ _ _ _ ⟨_,hb',by simp [Mem.gen,Mem.get_put,IQ.gen],hcap,fun _=>⟨rfl,rfl,.inr ⟨rfl,?_⟩⟩⟩⟩;simp only [EF hi,Nat.zero_add,Nat.le_refl]
    grind
   grind
  grind
 grind
end
section
variable {P:Program} {G:List Nat}
def O8 (ι:BJ) (g:Nat→Nat) (BF as':Array Value):Prop:=∀ (i:Nat) v,BF[i]?=some v→∃ v',as'[i]?=some v'∧Aw ι g v v'
theorem Ic (a:Addr) (k:Nat):∀ (n i:Nat) (acc:Array Value) (w:World) (r:Array Value),(loadCellsFrom a i n acc).run P w=.ok r w →
 (loadCellsFrom a i n acc).run P { w with drawn:=k }=.ok r { w with drawn:=k }
 |0,i,acc,w,r,h=>by
  simp only [loadCellsFrom,Sem.run_pure] at h ⊢;grind
 |n+1,i,acc,w,r,h=>by
  simp only [loadCellsFrom,Sem.run_bind,run_load] at h ⊢;have e1:({ w with drawn:=k }:World).cell? (a.add i)=w.cell? (a.add i):=rfl;have e2:({ w with drawn:=k }:World).farLoad P (a.add i) (Mode.plain==Mode.atomic)=w.farLoad P (a.add i) (Mode.plain==Mode.atomic):=rfl;rw [e1,e2];cases hc:w.cell? (a.add i) with
  |some v =>
   rw [hc] at h;exact Ic a k n (i+1) (acc.push v) w r h
  |none =>
   rw [hc] at h;cases hf:w.farLoad P (a.add i) (Mode.plain==Mode.atomic) with
   |ok v =>
    rw [hf] at h;exact Ic a k n (i+1) (acc.push v.1) w r h
   |error e=>simp_all
theorem JA {size n:Nat} {x:Value} {w:World} {r:Array Value} (k:Nat) (h:(Builtin.firstCells size n x).run P w=.ok r w) :
 (Builtin.firstCells size n x).run P { w with drawn:=k }=.ok r { w with drawn:=k }:=by
 unfold Builtin.firstCells at h ⊢;split
 ·rename_i a _ _
  exact Ic a k _ _ _ _ _ h
 ·simp_all
 ·simp_all
 simp_all
theorem NI {aT:Array TypeId} {BF:Array Value} {sT xT e:TypeId} {xd:TypeDesc} {i:TypeInfo} {x:Value} {base:Option Addr} {sLen sCap n:Nat} {w:World} (ty:TypeId)
 (h0:aT[0]?=some sT) (h1:BF[0]?=some (.slice base sLen sCap)) (h2:BF[1]?=some x) (h3:aT[1]?=some xT)
 (hu:P.underlying sT=some (.slice e)) (hx:P.underlying xT=some xd) (hxd:∀ k,xd≠.int k) (hi:P.info? e=some i) (hn:∀ w,(Builtin.lenOf x).run P w=.ok n w) :
 (Builtin.append_ aT ty BF).run P w=(DY e i.size false n x base sLen sCap (Builtin.firstCells i.size n x)).run P w:=by
 simp only [Builtin.append_,h0,h1,h2,h3,Sem.run_bind,run_underlying hu,Result.andThen_ok,run_sizeOf' hi,run_underlying hx,Sem.run_pure];cases xd<;>first
  |exact absurd rfl (hxd _)
  |(simp only [Bool.false_eq_true,if_false,hn,Result.andThen_ok,Bool.not_false,if_true,DY,Sem.run_bind];rfl)
  |(simp only [Bool.false_eq_true,if_false,hn,Result.andThen_ok,Bool.not_false,if_true,DY])
theorem wrap_small {n:Int} (h0:0≤n) (h1:n≤2 ^ 40):IntKind.i64.wrap n=n:=by
 have e:n % (2 ^ 64:Int)=n:=Int.emod_eq_of_lt h0 (by omega);simp only [IntKind.wrap,IntKind.bits,IntKind.signed,e,Bool.true_and];grind
theorem VW {aT:Array TypeId} {BF:Array Value} {sT xT e:TypeId} {k kk:IntKind} {i:TypeInfo} {nn:Int} {base:Option Addr} {sLen sCap:Nat} {w:World} (ty:TypeId)
 (h0:aT[0]?=some sT) (h1:BF[0]?=some (.slice base sLen sCap)) (h2:BF[1]?=some (.int kk nn)) (h3:aT[1]?=some xT)
 (hu:P.underlying sT=some (.slice e)) (hx:P.underlying xT=some (.int k)) (hi:P.info? e=some i) (hn0:0≤nn) (hn1:nn≤2 ^ 30) (hroom:(sLen+nn.toNat)*(i.bytes+1)≤room) :
 (Builtin.append_ aT ty BF).run P w=(DY e i.size true nn.toNat (.int kk nn) base sLen sCap
  (if nn.toNat*i.size=0 then pure #[] else do pure (Builtin.zeroCells (← zeroValue e).cells nn.toNat))).run P w:=by
 have hw:IntKind.i64.wrap nn=nn:=wrap_small hn0 (by omega);have hneg:¬ nn<0:=by omega
 have hbig:¬ nn*(i.bytes:Int)>2 ^ 48:=by
  have h1:nn.toNat*(i.bytes+1)≤room:=an (bp _ (by omega)) hroom;have h2:nn.toNat*i.bytes≤nn.toNat*(i.bytes+1):=bX _ (by omega);have h3:nn*(i.bytes:Int)=((nn.toNat*i.bytes:Nat):Int):=by grind
  have h4:room=2 ^ 40:=rfl;omega
 simp only [Builtin.append_,h0,h1,h2,h3,Sem.run_bind,run_underlying hu,Result.andThen_ok,run_sizeOf' hi,run_underlying hx,Sem.run_pure,if_true,asInt,asIntOf,hw,hneg,if_false,
  run_typeInfo' hi,hbig,Bool.not_true,Bool.false_eq_true,DY]
 rfl
theorem jC {ι:BJ} {m m':Mem} {w:World} {aT:Array TypeId} {BF as':Array Value} {v:Value} (ty:TypeId) (hs:DL P G ι m w) (ha:O8 ι m.gen BF as')
 (h:IX P aT BF m=some (v,m')):∃ v' w',(Builtin.append_ aT ty as').run P w=.ok v' w'∧Post P G ι m w v m' v' w':=by
 unfold IX at h;split at h
 ·rename_i sT s x xT q0 q1 q2 q3
  split at h
  ·rename_i e xd sLen hu hx hsl
   split at h
   ·rename_i i hi
    split at h
    ·cases h
    ·rename_i hz
     have hz':Eo i=true:=by grind
     obtain ⟨s',hs1,hs2⟩:=ha 0 s q1;obtain ⟨x',hx1,hx2⟩:=ha 1 x q2;split at h
     ·rename_i k
      split at h
      ·rename_i kk nn z hzc
       split at h
       ·rename_i hc
        simp only [Bool.and_eq_true,decide_eq_true_eq] at hc;obtain ⟨⟨⟨c1,c2⟩,c3⟩,c4⟩:=hc;cases hx2;have hsh:∃ base sCap,s'=.slice base sLen sCap:=by
         cases hs2<;>simp only [lenOf,Option.some.injEq,reduceCtorEq] at hsl
         ·contradiction
         ·grind
         ·grind
         grind
        obtain ⟨base,sCap,rfl⟩:=hsh;have hzc':∃ zv,i.zero=some zv∧z=zv.cells.toList∧z.all plainCell=true:=by
         unfold BQ zeroOf at hzc;grind
        obtain ⟨zv,z1,z2,z3⟩:=hzc';have hap:∀ k,((if nn.toNat*i.size=0 then pure #[] else do pure (Builtin.zeroCells (← zeroValue e).cells nn.toNat):Sem (Array Value))).run P { w with drawn:=k } =
         .ok (AL z nn.toNat).toArray { w with drawn:=k }:=fun k=>by
         split
         ·rename_i h0
          have:AL z nn.toNat=[]:=ar.1 (by rw [EJ,c4];omega);simp_all
         ·rename_i h0
          have b9q:0<z.length:=by
           grind
          rw [← KH z nn.toNat b9q];have hzv:(zeroValue e).run P { w with drawn:=k }=.ok zv { w with drawn:=k }:=by simp [zeroValue,run_typeInfo' hi,z1]
          simp only [Sem.run_bind,hzv,Result.andThen_ok,Sem.run_pure,Builtin.zeroCells];grind
        have:=MJ (zeros:=true) (x:=.int kk nn) hs hi hz' hs2 hsl (BA.repeat (ι:=ι) (g:=m.gen) z3 nn.toNat) (by rw [EJ,c4])
         (by
          rw [aL];intro u hu;have:∀ n,∀ u∈AL z n,plainCell u=true:=fun n=>by
           induction n with
           |zero=>intro u hu;cases hu
           |succ n ih=>intro u hu;rcases bq.1 hu with h|h
                       ·exact aL.1 z3 u h
                       ·exact ih u h
          have hp:=this _ u hu;cases u<;>first|rfl|simp [plainCell] at hp) c3 hap h
        obtain ⟨v',w',hr,hp⟩:=this;exact ⟨v',w',by rw [VW ty q0 hs1 hx1 q3 hu hx hi c1 c2 c3];exact hr,hp⟩
       grind
      grind
     ·rename_i b8s
      split at h
      ·rename_i n hn
       split at h
       ·rename_i l hl
        split at h
        ·rename_i hc
         simp only [Bool.and_eq_true,decide_eq_true_eq] at hc;have hsh:∃ base sCap,s'=.slice base sLen sCap:=by
          cases hs2<;>simp only [lenOf,Option.some.injEq,reduceCtorEq] at hsl
          ·subst hsl;simp [BL] at h
          ·exact ⟨_,_,by rw [hsl]⟩
          ·exact ⟨_,_,by rw [hsl]⟩
          ·exact ⟨_,_,by rw [hsl]⟩
         obtain ⟨base,sCap,rfl⟩:=hsh;obtain ⟨l',hr,hrel⟩:=EP hs hx2 hl;have hap:∀ k,(Builtin.firstCells i.size n x').run P { w with drawn:=k }=.ok l'.toArray { w with drawn:=k }:=fun k=>JA k hr
         obtain ⟨v',w',hr2,hp⟩:=MJ (zeros:=false) (x:=x') hs hi hz' hs2 hsl hrel (Fg hl) hc.2 hc.1 hap h;exact ⟨v',w',by rw [NI ty q0 hs1 hx1 q3 hu hx (fun k e=>b8s k e) hi (fun w=>MN hx2 hn w)];exact hr2,hp⟩
        ·cases h
       ·cases h
      ·cases h
   grind
  grind
 grind
end
end Go.Am
