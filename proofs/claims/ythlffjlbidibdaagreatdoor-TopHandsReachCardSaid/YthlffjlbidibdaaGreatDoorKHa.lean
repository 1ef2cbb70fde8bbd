/-
  Texts of a proof, merged (AmA). Conditions: in each statement.
-/
import Derived.Orders
import Derived.Laws.Sem
import Derived.Laws.World
import Derived.Laws.Cells
import Derived.Laws.Entries
import Derived.Lib.Strings
set_option linter.unusedSimpArgs false
set_option autoImplicit true
set_option relaxedAutoImplicit true
set_option linter.unusedVariables false
set_option linter.unusedSectionVars false
set_option maxRecDepth 100000
set_option maxHeartbeats 8000000
abbrev ab:=@Nat.le_refl
abbrev ae:=@Option.map_eq_some_iff
abbrev ag:=@Nat.lt_of_lt_of_le
abbrev ai:=@List.getElem?_eq_getElem
abbrev al:=@Array.getElem?_eq_some_iff
abbrev an:=@Nat.le_trans
abbrev ao:=@Nat.zero_le
abbrev ar:=@List.length_append
abbrev av:=@List.length_take
abbrev aw:=@List.length_eq_zero_iff
abbrev ax:=@List.getElem?_map
abbrev aE:=@List.all_eq_true
abbrev aR:=@List.getElem?_eq_none
abbrev bb:=@Option.bind_eq_some_iff
abbrev be:=@Nat.mod_lt
abbrev bk:=@Nat.mul_le_mul_right
abbrev bo:=@List.ext_getElem?
abbrev bp:=@List.getElem?_append_right
abbrev bt:=@List.mem_append
abbrev bu:=@Nat.mod_eq_of_lt
abbrev bw:=@List.getElem?_eq_some_iff
abbrev bA:=@List.length_drop
abbrev bB:=@List.getD_eq_getElem?_getD
abbrev cj:=@List.getElem?_range
abbrev ck:=@Nat.mul_le_mul_left
abbrev co:=@Nat.min_le_left
abbrev cq:=@List.getElem?_append_left
abbrev cw:=@Nat.min_le_right
abbrev cG:=@Nat.zero_add
abbrev cL:=@Nat.add_mul
abbrev cR:=@List.getElem_mem
abbrev cT:=@Nat.le_succ
abbrev er:=@List.getElem_of_mem
abbrev eZ:=@List.getElem?_take
abbrev fI:=@List.ext_getElem
abbrev fW:=@Nat.succ_mul
abbrev gn:=@Array.getElem?_push
abbrev gx:=@List.getElem?_drop
abbrev gH:=@Array.ext'
namespace Go.Am
section
inductive Tr(α:Type) where
 |leaf
 |node (v:α) (l r:Tr α)
def bits:Nat→Nat→List Bool
 |0,_=>[]
 |f+1,n=>if n=0 then [] else(n%2==1)::bits f (n / 2)
def path(n:Nat):List Bool:=bits (n.log2+1) n
def Tr.ZQ{α:Type}(d:α):Tr α→List Bool→α
 | .leaf,_=>d
 | .node v _ _,[]=>v
 | .node _ l r,b::p=>match b with
  |true=>Tr.ZQ d r p
  |false=>Tr.ZQ d l p
def Tr.Yj{α:Type}(d:α)(x:α):List Bool→Tr α→Tr α
 |[],.leaf=>.node x .leaf .leaf
 |[],.node _ l r=>.node x l r
 |b::p,t=>match b,t with
  |true,.leaf=>.node d .leaf (Tr.Yj d x p .leaf)
  |false,.leaf=>.node d (Tr.Yj d x p .leaf) .leaf
  |true,.node v l r=>.node v l (Tr.Yj d x p r)
  |false,.node v l r=>.node v (Tr.Yj d x p l) r
theorem mT(d:α)(p:List Bool):Tr.ZQ d (.leaf) p=d:=by cases p<;>rfl
theorem l8(d x:α):∀(p:List Bool) (t:Tr α) (q:List Bool),Tr.ZQ d (Tr.Yj d x p t) q=if p=q then x else Tr.ZQ d t q
 |[],.leaf,[]=>rfl
 |[],.leaf,b::q=>by simp only[Tr.Yj,Tr.ZQ];cases b<;>simp[mT]
 |[],.node _ _ _,[]=>rfl
 |[],.node _ _ _,b::q=>by rfl
 |b::p,.leaf,[]=>by cases b<;>simp[Tr.Yj,Tr.ZQ]
 |b::p,.node _ _ _,[]=>by cases b<;>simp[Tr.Yj,Tr.ZQ]
 |b::p,.leaf,c::q=>by
  have f:=l8 d x p .leaf q;cases b<;>cases c<;>simp[Tr.Yj,Tr.ZQ,f,mT]
 |b::p,.node v l r,c::q=>by
  have e:=l8 d x p l q;have a:=l8 d x p r q;cases b<;>cases c<;>simp[Tr.Yj,Tr.ZQ,e,a]
def fM:List Bool→Nat
 |[]=>0
 |b::l=>(if b then 1 else 0)+2*fM l
theorem SC:∀(f n:Nat),n<2^f→fM (bits f n)=n
 |0,n,h=>by have:n=0:=by omega
            simp[bits,fM,this]
 |f+1,n,h=>by
  unfold bits;split
  ·rename_i b;simp[fM,b]
  ·have a:=SC f (n / 2) (by omega)
   simp only[fM,a,beq_iff_eq];split<;>omega
theorem dB(h:path n=path m):n=m:=by
 have a:=SC (n.log2+1) n Nat.lt_log2_self;have b:=SC (m.log2+1) m Nat.lt_log2_self;unfold path at h;grind
inductive G8 where
 |none
 |cells (vs:List Value) (elem:TypeId) (gen:Nat) (ro:Bool)
 |map (es:List MapEntry) (clock:Nat)
def G8.gen:G8→Nat
 | .cells _ _ g _=>g
 |_=>0
def G8.ro:G8→Bool
 | .cells _ _ _ r=>r
 |_=>false
structure Mem where
 t:Tr G8
 size:Nat
 low:Nat
def Mem.get(m:Mem)(b:Nat):G8:=Tr.ZQ .none m.t (path b)
def Mem.put(m:Mem)(b:Nat)(x:G8):Mem:={ t:=Tr.Yj .none x (path b) m.t,size:=m.size,low:=min m.low b }
def Mem.alloc(m:Mem)(x:G8):Mem:={ t:=Tr.Yj .none x (path m.size) m.t,size:=m.size+1,low:=m.low }
def Mem.gen(m:Mem)(b:Nat):Nat:=(m.get b).gen
def Mem.ro(m:Mem)(b:Nat):Bool:=(m.get b).ro
theorem cg(m:Mem)(b c:Nat)(x:G8):(m.put b x).get c=if b=c then x else m.get c:=by
 unfold Mem.get Mem.put;simp only[l8];by_cases h:b=c
 ·grind
 ·rw[if_neg h,if_neg (fun e=>h (dB e))]
theorem dZ(m:Mem)(c:Nat)(x:G8):(m.alloc x).get c=if m.size=c then x else m.get c:=by
 unfold Mem.get Mem.alloc;simp only[l8];by_cases h:m.size=c
 ·grind
 ·rw[if_neg h,if_neg (fun e=>h (dB e))]
def CO(t:Tr Value)(i:Nat):Value:=Tr.ZQ undef t (path i)
def Rq(t:Tr Value)(i:Nat)(v:Value):Tr Value:=Tr.Yj undef v (path i) t
theorem Dt(t:Tr Value)(i j:Nat)(v:Value):CO (Rq t i v) j=if i=j then v else CO t j:=by
 unfold CO Rq;rw[l8];by_cases h:i=j
 ·grind
 ·rw[if_neg h,if_neg (fun e=>h (dB e))]
structure St where
 t:Tr Value
 m:Mem
def ev(t:Tr Value):Operand→Value
 | .tmp i=>CO t i
 | .const v=>v
 | .global g=>.pointer (some ⟨g,0,none⟩)
 | .func f=>.func (.func f) #[] #[]
def IE(t:Tr Value)(dst:Option Tmp)(v:Value):Tr Value :=
 match dst with
 |some d=>Rq t d v
 |none=>t
def plainCell:Value→Bool
 | .bool _| .int _ _| .string _| .float _ _| .pointer none| .slice none 0 0| .map none| .nilFunc| .nilIface=>true
 | .func (.func _) a b=>a.size==0&&b.size==0
 |_=>false
def GL:Value→Bool
 | .agg cs=>cs.toList.all plainCell
 |v=>plainCell v
def plain:Value→Bool
 | .tuple vs=>vs.toList.all GL
 |v=>GL v
def BQ:Value→Bool
 | .agg _| .tuple _=>false
 |_=>true
def DL{α:Type}(P:Program):Sem α→Option α
 | .pure a=>some a
 | .program k=>DL P (k P)
 |_=>none
theorem EG{a:α}(h:DL P s=some a)(w:World):s.run P w=.ok a w:=by
 induction s<;>simp_all [DL,Sem.run]
def ZU(P:Program)(s:Sem Value):Option Value :=
 match DL P s with
 |some v=>if plain v then some v else none
 |none=>none
def zeroOf(P:Program)(t:TypeId):Option Value:=(P.info? t).bind (·.zero)
def G9(P:Program)(t:TypeId):Option Bool :=
 match P.underlying t with
 |some (.struct _)|some (.array _ _)=>some true
 |some _=>some false
 |none=>none
def Ci(P:Program)(t:TypeId):Option (List Value) :=
 match zeroOf P t with
 |some z=>if z.cells.toList.all plainCell then some z.cells.toList else none
 |none=>none
def MK(a:Addr):Nat:=a.spot.getD 0
def takeN(n:Nat)(l:List Value):Option (List Value):=if n≤l.length then some (l.take n) else none
def Mem.Es(m:Mem)(a:Addr)(n:Nat):Option (List Value) :=
 match m.get a.block with
 | .cells vs _ g _=>if MK a=g then takeN n (vs.drop a.off) else none
 |_=>none
def fV(P:Program)(t:TypeId)(a:Addr)(m:Mem):Option Value :=
 match G9 P t with
 |some true=>match P.info? t with
  |some i=>(m.Es a i.size).map fun l=>.agg l.toArray
  |none=>none
 |some false=>(m.Es a 1).bind fun l=>l.head?
 |none=>none
def OO(P:Program)(t:TypeId)(a:Addr)(m:Mem):Option Value:=if a.block<m.size then fV P t a m else none
def splice(vs:List Value):Nat→List Value→List Value
 |_,[]=>vs
 |o,v::l=>splice (vs.set o v) (o+1) l
def Gm(m:Mem)(a:Addr)(l:List Value):Option Mem :=
 match m.get a.block with
 | .cells vs e g false =>
  if MK a=g&&decide (a.off+l.length≤vs.length)&&decide (0<l.length)&&l.all BQ then some (m.put a.block (.cells (splice vs a.off l) e g false)) else none
 |_=>none
def Nj(P:Program)(t:TypeId)(a:Addr)(v:Value)(m:Mem):Option Mem :=
 match P.info? t with
 |some i=>if v.cells.size=i.size then Gm m a v.cells.toList else none
 |none=>none
def emptyAt:Option Addr:=some ⟨0,0,some 0⟩
def BH(m:Mem)(size n:Nat):Value→Option (List Value)
 | .slice none 0 0=>if n=0 then some [] else none
 | .slice (some ⟨_,_,some _⟩) 0 0=>if n=0 then some [] else none
 | .slice (some ⟨b,off,none⟩) len g=>if n≤len then m.Es ⟨b,off,some g⟩ (n*size) else none
 | .string s=>if n≤s.size∧size=1 then some ((s.data.toList.take n).map fun c=>.int .u8 c.toNat) else none
 |_=>none
def lenOf:Value→Option Nat
 | .slice _ n _=>some n
 | .string s=>some s.size
 |_=>none
def AO(z:List Value):Nat→List Value
 |0=>[]
 |n+1=>z++AO z n
def room:Nat:=2^40
def AU(m:Mem)(e:TypeId)(l:List Value)(n:Nat):Value×Mem :=
 (.slice (some ⟨m.size,0,none⟩) n 0,m.alloc (.cells l e 0 false))
def BR(m:Mem)(e:TypeId)(size:Nat)(l:List Value)(n:Nat):Value→Option (Value×Mem)
 | .slice none 0 0=>if n=0 then some (.slice none 0 0,m) else some (AU m e l n)
 | .slice (some ⟨b,o,some g⟩) 0 0=>if n=0 then some (.slice (some ⟨b,o,some g⟩) 0 0,m) else some (AU m e l n)
 | .slice (some ⟨b,off,none⟩) len g =>
  match m.get b with
  | .cells vs e' g' false =>
   if g=g'&&e=e'&&decide (0<size) then
    match takeN (len*size) (vs.drop off) with
    |some old=>some (.slice (some ⟨b,0,none⟩) (len+n) (g+1),m.put b (.cells (old++l) e (g+1) false))
    |none=>none
   else none
  |_=>none
 |_=>none
def EO(i:TypeInfo):Bool:=match i.zero with|some z=>z.cells.size==i.size|none=>false
def Jq(P:Program)(argTypes:Array TypeId)(args:Array Value)(m:Mem):Option (Value×Mem) :=
 match argTypes[0]?,args[0]?,args[1]?,argTypes[1]? with
 |some sT,some s,some x,some xT =>
  match P.underlying sT,P.underlying xT,lenOf s with
  |some (.slice e),some xd,some sLen =>
   match P.info? e with
   |some i =>
    if !(EO i) then none else
    match xd with
    | .int _=>match x,Ci P e with
     | .int _ n,some z =>
      if 0≤n&&decide (n≤2^30)&&decide ((sLen+n.toNat)*(i.bytes+1)≤room)&&decide (z.length=i.size)
      then BR m e i.size (AO z n.toNat) n.toNat s else none
     |_,_=>none
    |_=>match lenOf x with
     |some n=>match BH m i.size n x with
      |some l=>if(sLen+n)*(i.bytes+1)≤room&&l.all BQ then BR m e i.size l n s else none
      |none=>none
     |none=>none
   |none=>none
  |_,_,_=>none
 |_,_,_,_=>none
def kU(P:Program)(argTypes:Array TypeId)(args:Array Value)(m:Mem):Option (Value×Mem) :=
 match argTypes[0]?,(args[0]?:Option Value),args[1]? with
 |some dT,some (.slice base dLen g),some src =>
  match P.underlying dT,lenOf src with
  |some (.slice e),some sLen =>
   match P.info? e with
   |some i =>
    let n:=Nat.min sLen dLen
    if n=0 then some (.int .i64 0,m)
    else match base,BH m i.size n src with
     |some ⟨b,off,none⟩,some l=>(Gm m ⟨b,off,some g⟩ l).map fun m'=>(.int .i64 n,m')
     |_,_=>none
   |none=>none
  |_,_=>none
 |_,_,_=>none
def YA(P:Program)(argTypes:Array TypeId)(args:Array Value)(m:Mem):Option (Value×Mem) :=
 match argTypes[0]?,(args[0]?:Option Value) with
 |some t,some (.slice base n g) =>
  match P.underlying t with
  |some (.slice e) =>
   if n=0 then some (.tuple #[],m)
   else match P.info? e,Ci P e,base with
    |some i,some z,some ⟨b,off,none⟩=>if z.length=i.size∧0<i.size then(Gm m ⟨b,off,some g⟩ (AO z n)).map fun m'=>(.tuple #[],m') else none
    |_,_,_=>none
  |_=>none
 |_,_=>none
def bU(P:Program)(argTypes:Array TypeId)(args:Array Value)(m:Mem):Option Value :=
 match argTypes[0]?,args[0]? with
 |some t,some x =>
  match P.underlying t,x with
  |some .string,.string s=>some (.int .i64 s.size)
  |some (.array n _),_=>some (.int .i64 n)
  |some (.slice _),.slice _ n _=>some (.int .i64 n)
  |some (.map _ _),.map none=>some (.int .i64 0)
  |some (.map _ _),.map (some r)=>match m.get r with
   | .map es _=>some (.int .i64 es.length)
   |_=>none
  |_,_=>none
 |_,_=>none
def b2u(P:Program)(argTypes:Array TypeId)(args:Array Value):Option Value :=
 match argTypes[0]? with
 |some t=>match P.underlying t with
  |some (.slice _)=>match(args[0]?:Option Value) with
   |some (.slice none 0 0)=>some (.int .i64 0)
   |some (.slice (some ⟨_,_,some _⟩) 0 0)=>some (.int .i64 0)
   |_=>none
  |_=>none
 |none=>none
def b6c(op:BinOp)(k:IntKind)(x y:Int):Option Value :=
 match op with
 | .add=>some (.int k (k.wrap (x+y)))
 | .sub=>some (.int k (k.wrap (x-y)))
 | .mul=>some (.int k (k.wrap (x*y)))
 | .eql=>some (.bool (x==y))
 | .neq=>some (.bool (x != y))
 | .lss=>some (.bool (x<y))
 | .leq=>some (.bool (x≤y))
 | .gtr=>some (.bool (x>y))
 | .geq=>some (.bool (x≥y))
 | .quo=>if y=0 then none else some (.int k (k.wrap (x.tdiv y)))
 | .rem=>if y=0 then none else some (.int k (x.tmod y))
 | .and=>some (.int k (k.wrap (BitVec.ofInt k.bits x &&& BitVec.ofInt k.bits y).toNat))
 | .or=>some (.int k (k.wrap (BitVec.ofInt k.bits x ||| BitVec.ofInt k.bits y).toNat))
 | .xor=>some (.int k (k.wrap (BitVec.ofInt k.bits x ^^^ BitVec.ofInt k.bits y).toNat))
 | .andNot=>some (.int k (k.wrap (BitVec.ofInt k.bits x &&& ~~~ BitVec.ofInt k.bits y).toNat))
 |_=>none
def jk(op:BinOp)(k:IntKind)(x y:Int):Option Value :=
 if y<0 then none else
 match op with
 | .shl=>some (.int k (k.wrap (x*2^(min y.toNat k.bits))))
 | .shr=>some (.int k (x.fdiv (2^(min y.toNat k.bits))))
 |_=>none
def c6w:Value→Option Bool
 | .slice none _ _=>some true
 | .slice (some _) _ _=>some false
 |_=>none
def J9(op:BinOp)(b:Bool):Option Value :=
 match op with
 | .eql=>some (.bool b)
 | .neq=>some (.bool !b)
 |_=>none
def QT(P:Program)(op:BinOp)(t:TypeId)(xo yo:Operand)(x y:Value):Option Value :=
 match x,y with
 | .int k a,.int k' b =>
  match op with
  | .shl| .shr=>jk op k a b
  |_=>if k=k' then b6c op k a b else none
 | .slice a _ _,.slice none 0 0=>match P.underlying t with
  |some (.slice _)=>J9 op a.isNone
  |_=>none
 | .slice none 0 0,.slice a _ _=>match P.underlying t with
  |some (.slice _)=>J9 op a.isNone
  |_=>none
 | .map a,.map none=>match P.underlying t with
  |some (.map _ _)=>J9 op a.isNone
  |_=>none
 | .pointer a,.pointer none=>match P.underlying t with
  |some (.pointer _)=>J9 op a.isNone
  |_=>none
 |x,y=>if plain x&&plain y then ZU P (do eqGuard op t xo yo x y;binOp op t x y) else none
def ER(P:Program)(kt:TypeId):Option TypeDesc :=
 match P.underlying kt with
 |some (.int k)=>some (.int k)
 |some .string=>some .string
 |some .bool=>some .bool
 |_=>none
def Ve(P:Program)(kt:TypeId):Bool :=
 match P.underlying kt with
 |some (.struct _)=>true
 |some (.array _ _)=>true
 |_=>false
def Zy(P:Program)(s:Sem Unit):Bool:=match DL P s with|some ()=>true|none=>false
def Jk(P:Program)(fl:Bool)(kt:TypeId)(k:Value)(es:List MapEntry):Option (Option (Nat×Value)) :=
 match ER P kt with
 |some kind=>Instr.findNow kind k es 0
 |none=>if Ve P kt&&Zy P (Instr.checkKey fl 10000 kt k) then DL P (Instr.findKey kt k es) else none
def N7(P:Program)(t:TypeId)(x k:Value)(ok:Bool)(m:Mem):Option Value :=
 match P.underlying t with
 |some (.map kt et) =>
  match zeroOf P et with
  |some z =>
   if plain z&&plain k then
    match(match x with
     | .map none=>some []
     | .map (some r)=>match m.get r with| .map es _=>some es|_=>none
     |_=>none) with
    |some es=>match Jk P es.isEmpty kt k es with
     |some (some (_,v))=>some (if ok then .tuple #[v,.bool true] else v)
     |some none=>some (if ok then .tuple #[z,.bool false] else z)
     |none=>none
    |none=>none
   else none
  |none=>none
 |_=>none
def JH(P:Program)(t:TypeId)(x k v:Value)(m:Mem):Option Mem :=
 match P.underlying t,x with
 |some (.map kt _),.map (some r) =>
  match m.get r with
  | .map es clock =>
   if plain k then
    match Jk P false kt k es with
    |some (some (i,_))=>if(ER P kt).isSome||Instr.sameBits 10000 (((es[i]?).map (·.key)).getD k) k then some (m.put r (.map (es.modify i fun e=>{ e with key:=k,val:=v }) clock)) else none
    |some none=>some (m.put r (.map (es++[{ key:=k,val:=v,born:=clock }]) (clock+1)))
    |none=>none
   else none
  |_=>none
 |_,_=>none
def Vh(P:Program)(t:TypeId)(x k:Value)(m:Mem):Option (Value×Mem) :=
 match P.underlying t,x with
 |some (.map kt et),.map (some r) =>
  match m.get r with
  | .map es clock =>
   if plain k then
    match Jk P false kt k es with
    |some (some (i,v))=>if(ER P kt).isSome||Instr.sameBits 10000 (((es[i]?).map (·.key)).getD k) k then some (.tuple #[v,.int .i64 ((((es[i]?).map (·.born)).getD 0:Nat):Int)],m.put r (.map (es.modify i fun e=>{ e with key:=k }) clock)) else none
    |some none=>match zeroOf P et with
     |some z=>if plain z then some (.tuple #[z,.int .i64 ((clock:Nat):Int)],m.put r (.map (es++[{ key:=k,val:=z,born:=clock }]) (clock+1))) else none
     |none=>none
    |none=>none
   else none
  |_=>none
 |_,_=>none
def Jj(x s v:Value)(m:Mem):Option Mem :=
 match x,s with
 | .map (some r),.int .i64 n =>
  match m.get r with
  | .map es clock=>match es.findIdx? (fun e=>(e.born:Int)==n) with
   |some i=>some (m.put r (.map (es.modify i fun e=>{ e with val:=v }) clock))
   |none=>none
  |_=>none
 |_,_=>none
def JZ(P:Program)(t:TypeId):Bool:=match P.underlying t with|some (.slice _)=>true|_=>false
def Lh(s:ByteArray):List Value:=s.data.toList.map fun c=>.int .u8 c.toNat
def Ya:List Value→Option (List UInt8)
 |[]=>some []
 | .int .u8 n::l=>if 0≤n∧n<256 then(Ya l).map (UInt8.ofNat n.toNat::·) else none
 |_::_=>none
def Zn(P:Program)(s d:TypeId)(x:Value)(m:Mem):Option (Value×Mem) :=
 match P.underlying s,P.underlying d,x with
 |some .string,some (.slice e),.string b=>match P.underlying e,P.info? e with
  |some (.int .u8),some i=>if i.size=1∧b.size≤2^30 then some (AU m e (Lh b) b.size) else none
  |_,_=>none
 |some (.slice e),some .string,.slice a n g=>match P.underlying e with
  |some (.int .u8)=>match BH m 1 n (.slice a n g) with
   |some l=>match Ya l with
    |some bs=>some (.string ⟨bs.toArray⟩,m)
    |none=>none
   |none=>none
  |_=>none
 |_,_,_=>none
def bnd(d:Nat):Option Value→Option Nat
 |none=>some d
 |some (.int _ i)=>if 0≤i then some i.toNat else none
 |_=>none
def aslice(P:Program)(t:TypeId)(x:Value)(lo hi mx:Option Value)(m:Mem):Option Value :=
 if mx.isSome&&hi.isNone then none else
 match P.underlying t,x with
 |some .string,.string _ =>
  if(lo.all plain&&hi.all plain&&mx.isNone) then ZU P (Instr.sliceAt t x lo hi mx) else none
 |some (.slice e),.slice none 0 0 =>
  match P.info? e,bnd 0 lo,bnd 0 hi,bnd 0 mx with
  |some _,some 0,some 0,some 0=>some (.slice none 0 0)
  |_,_,_,_=>none
 |some (.slice e),.slice (some ⟨b,off,some g'⟩) 0 0 =>
  match P.info? e,bnd 0 lo,bnd 0 hi,bnd 0 mx with
  |some _,some 0,some 0,some 0=>some (.slice (some ⟨b,off,some g'⟩) 0 0)
  |_,_,_,_=>none
 |some (.slice e),.slice (some ⟨b,off,none⟩) len g =>
  match P.info? e,bnd 0 lo,bnd len hi,mx with
  |some i,some l,some h,none=>match m.get b with
   | .cells _ e' _ _=>if(l≤h∧h≤len∧e'=e)∧b<m.size then some (.slice (some ⟨b,off+l*i.size,none⟩) (h-l) g) else none
   |_=>none
  |some _,some l,some h,some _=>match bnd 0 mx with
   |some k=>if l=h∧h=k∧k≤len then some (.slice (some ⟨0,0,some 0⟩) 0 0) else none
   |none=>none
  |_,_,_,_=>none
 |_,_=>none
def F5(P:Program)(ρ:Operand→Value)(o:Oper)(m:Mem):Option (Value×Mem) :=
 match o.op with
 | .move x| .assign x=>some (ρ x,m)
 | .pick c a b=>match ρ c with
  | .bool t=>some (if t then ρ a else ρ b,m)
  |_=>none
 | .binOp op t x y _=>(QT P op t x y (ρ x) (ρ y)).map fun v=>(v,m)
 | .alloc e=>(Ci P e).map fun z=>(.pointer (some ⟨m.size,0,none⟩),m.alloc (.cells z e 0 false))
 | .box e x =>
  if(ρ x).cells.toList.all BQ then some (.pointer (some ⟨m.size,0,none⟩),m.alloc (.cells (ρ x).cells.toList e 0 false)) else none
 | .build t ps=>match Ci P t with
  |some _=>(DL P (Instr.build t (ps.map fun(i,x)=>(i,ρ x)))).map fun v=>(v,m)
  |none=>none
 | .buildSlice t len ps =>
  match P.underlying t with
  |some (.slice e)=>match P.info? e,Ci P e with
   |some i,some z =>
    if len*i.size≤2^24∧z.length=i.size∧0<i.size then
     match Instr.fill (fun j=>some (j*i.size,i.size)) (AO z len).toArray (ps.map fun(i,x)=>(i,ρ x)).toList with
     |some cs=>if cs.toList.all BQ then(if len=0 then some (.slice emptyAt 0 0,m) else some (AU m e cs.toList len)) else none
     |none=>none
    else none
   |_,_=>none
  |_=>none
 | .load t a=>match ρ a with
  | .pointer (some a)=>(OO P t a m).map fun v=>(v,m)
  |_=>none
 | .store t a x=>match ρ a with
  | .pointer (some a)=>(Nj P t a (ρ x) m).map fun m'=>(undef,m')
  |_=>none
 | .nilCheck x=>match ρ x with
  | .pointer (some a)=>some (.pointer (some a),m)
  |_=>none
 | .unOp op _ x=>if plain (ρ x) then(ZU P (Op.unary op (ρ x))).map fun v=>(v,m) else none
 | .convert s d x=>if JZ P s||JZ P d then Zn P s d (ρ x) m else if plain (ρ x) then(ZU P (convert s d (ρ x))).map fun v=>(v,m) else none
 | .makeFunc (.func f) fs cs=>some (.func (.func f) (fs.map ρ) (cs.map ρ),m)
 | .makeMap _ none=>some (.map (some m.size),m.alloc (.map [] 0))
 | .makeSlice t l c =>
  match P.underlying t,ρ l,ρ c with
  |some (.slice e),.int _ n,.int _ k=>match P.info? e,Ci P e with
   |some i,some z =>
    if 0≤n∧n≤k∧k.toNat*(i.bytes+1)≤room∧k≤2^40∧z.length=i.size∧0<i.size then
     some (AU m e (AO z n.toNat) n.toNat)
    else none
   |_,_=>none
  |_,_,_=>none
 | .slice t x lo hi mx=>(aslice P t (ρ x) (lo.map ρ) (hi.map ρ) (mx.map ρ) m).map fun v=>(v,m)
 | .fieldAddr s x f =>
  match P.underlying s,ρ x with
  |some (.struct fs),.pointer (some a)=>match fs[f]? with
   |some fd=>match P.info? fd.type with
    |some i=>if i.size=0 then none else some (.pointer (some { a with off:=a.off+fd.offset }),m)
    |none=>none
   |none=>none
  |_,_=>none
 | .field t x f=>(DL P (Instr.field t (ρ x) f)).map fun v=>(v,m)
 | .indexAddr t x ix =>
  match P.underlying t,ρ x,ρ ix with
  |some (.slice e),.slice (some ⟨b,off,none⟩) len g,.int _ i=>match P.info? e with
   |some inf=>if 0≤i∧i<len then some (.pointer (some ⟨b,off+i.toNat*inf.size,some g⟩),m) else none
   |none=>none
  |some (.array n e),.pointer (some a),.int _ i=>match P.info? e with
   |some inf=>if 0≤i∧i<n then some (.pointer (some { a with off:=a.off+i.toNat*inf.size }),m) else none
   |none=>none
  |_,_,_=>none
 | .index t x ix=>if plain (ρ ix) then(DL P (Instr.index t (ρ x) (ρ ix))).map fun v=>(v,m) else none
 | .lookup t x k ok=>(N7 P t (ρ x) (ρ k) ok m).map fun v=>(v,m)
 | .mapUpdate t x k v=>(JH P t (ρ x) (ρ k) (ρ v) m).map fun m'=>(undef,m')
 | .mapEntry t x k=>Vh P t (ρ x) (ρ k) m
 | .entryStore _ x k v=>(Jj (ρ x) (ρ k) (ρ v) m).map fun m'=>(undef,m')
 | .insert t x k v=>(JH P t (ρ x) (ρ k) (ρ v) m).map fun m'=>(undef,m')
 | .extract t i=>(DL P (Instr.extract (ρ t) i)).map fun v=>(v,m)
 | .call { callee:=.builtin b,args,argTypes } =>
  match b with
  | .len=>(bU P argTypes (args.map ρ) m).map fun v=>(v,m)
  | .cap=>(b2u P argTypes (args.map ρ)).map fun v=>(v,m)
  | .append=>Jq P argTypes (args.map ρ) m
  | .copy=>kU P argTypes (args.map ρ) m
  | .clear=>YA P argTypes (args.map ρ) m
  | .min=>if(args.map ρ).toList.all plain then(ZU P (Builtin.min_ argTypes o.type (args.map ρ))).map fun v=>(v,m) else none
  | .max=>if(args.map ρ).toList.all plain then(ZU P (Builtin.max_ argTypes o.type (args.map ρ))).map fun v=>(v,m) else none
  |_=>none
 |_=>none
inductive BP where
 |normal
 |ret
 |exit (id:Nat)
abbrev E8:=FuncId→List Value→Mem→Option (Value×Mem)
def BX(P:Program)(call:E8)(ρ:Operand→Value)(o:Oper)(m:Mem):Option (Value×Mem) :=
 match o.op with
 | .call { callee:=.value f,args,.. }=>match ρ f with
  | .func (.func g) fs cs=>call g (fs.toList++args.toList.map ρ++cs.toList) m
  |_=>none
 |_=>F5 P ρ o m
def uU(P:Program)(call:E8)(o:Oper)(s:St):Option St :=
 match BX P call (ev s.t) o s.m with
 |some (v,m)=>some { t:=IE s.t o.dst v,m:=m }
 |none=>none
def EM(ops:Array Oper)(t:Tr Value)(j:Nat):Option Bool :=
 match(ops[j]?).bind (·.dst) with
 |some d=>match CO t d with
  | .bool b=>some b
  |_=>none
 |none=>none
def JC(P:Program)(call:E8)(ops:Array Oper)(o:Oper)(s:St):Option St :=
 if Region.wanted o (EM ops s.t) then uU P call o s else some { s with t:=IE s.t o.dst undef }
def Jt(P:Program)(call:E8)(ops:Array Oper):List Oper→St→Option St
 |[],s=>some s
 |o::rest,s=>match JC P call ops o s with
  |some s'=>Jt P call ops rest s'
  |none=>none
def RV(P:Program)(aT:Array TypeId):Bool:=match aT[0]? with
 |some t=>match P.underlying t with
  |some .string=>true
  |some (.slice _)=>true
  |some (.array _ _)=>true
  |_=>false
 |none=>false
def DW(P:Program):Op→Bool
 | .move _| .assign _| .pick ..| .binOp ..| .build ..| .nilCheck _| .unOp ..| .makeFunc ..| .fieldAddr ..| .field ..| .indexAddr ..| .index ..| .extract ..=>true
 | .convert s d _=>!(JZ P s||JZ P d)
 | .buildSlice _ len _=>len==0
 | .call { callee:=.builtin b,argTypes,.. }=>match b with
  | .cap| .min| .max=>true
  | .len=>RV P argTypes
  |_=>false
 |_=>false
def barrier(P:Program)(ops:Array Oper)(i:Nat):Bool :=
 let b:=Region.before ops
 (List.range ops.size).all fun j=>j==i||((ops[j]?).map (DW P ·.op)).getD true ||
  (if j<i then(b.getD i 0).testBit j else(b.getD j 0).testBit i)
def GN:Op→Bool
 | .load ..=>true
 | .slice _ _ _ _ none=>true
 |_=>false
def c8y:Op→Option Operand
 | .load _ a=>some a
 | .slice _ x _ _ none=>some x
 |_=>none
def a4o:Op→Option Operand
 | .store _ a _=>some a
 | .call { callee:=.builtin .append,args,.. }=>args[0]?
 |_=>none
def a2f:Op→Option Operand
 | .fieldAddr _ x _=>some x
 | .indexAddr _ x _=>some x
 | .nilCheck x=>some x
 | .move x=>some x
 | .assign x=>some x
 |_=>none
def IX:Value→Option Nat
 | .pointer (some a)=>some a.block
 | .slice (some ⟨b,_,none⟩) _ _=>some b
 |_=>none
def ordered(ops:Array Oper)(i j:Nat):Bool:=if j<i then((Region.before ops).getD i 0).testBit j else((Region.before ops).getD j 0).testBit i
def Z7(ops:Array Oper)(k:Nat):Operand→Bool
 | .tmp t=>(List.range ops.size).all fun q=>decide (q<k)||(ops[q]?).bind (·.dst) != some t
 |_=>true
def writer(ops:Array Oper)(t:Tmp):Option Nat:=(List.range ops.size).find? fun q=>(ops[q]?).bind (·.dst)==some t
def rootOf(ops:Array Oper)(i:Nat):Nat→Nat→Operand→Option Operand
 |0,_,_=>none
 |f+1,q,r=>if Z7 ops (min i q) r then some r else match r with
  | .tmp t=>match writer ops t with
   |some k=>if k<q then(match(ops[k]?).bind (fun o=>a2f o.op) with
    |some x=>rootOf ops i f k x
    |none=>none) else none
   |none=>none
  |_=>none
def Oe:Op→Bool
 | .buildSlice _ len _=>len != 0
 |_=>false
def rG(P:Program)(ops:Array Oper)(i:Nat):Bool :=
 ((ops[i]?).bind (fun o=>a4o o.op)).isSome &&
 (List.range ops.size).all fun j=>j==i||((ops[j]?).map (fun o=>DW P o.op||GN o.op||(decide (j<i)&&Oe o.op))).getD true||ordered ops i j
def Jf(ops:Array Oper)(i:Nat):List (Option Operand) :=
 (List.range ops.size).filterMap fun j=>match(ops[j]?).bind (fun o=>c8y o.op) with
  |some a=>if j==i||ordered ops i j then none else some (rootOf ops i 4 j a)
  |none=>none
def a6u:Option Nat→Option Nat→Bool
 |some x,some y=>x != y
 |_,_=>true
def Q8(ops:Array Oper)(i:Nat)(t:Tr Value):Bool :=
 match(ops[i]?).bind (fun o=>a4o o.op) with
 |some w=>(Jf ops i).all fun r=>match r with
  |some r=>a6u (IX (ev t r)) (IX (ev t w))
  |none=>false
 |none=>false
def Ru(P:Program)(ops:Array Oper)(i:Nat):Bool :=
 (List.range ops.size).all fun j=>j==i||((ops[j]?).map (fun o=>DW P o.op||GN o.op)).getD true||ordered ops i j
noncomputable section
open Classical in
def NP(ops:Array Oper)(i:Nat)(t:Tr Value)(m m':Mem):Bool:=(Jf ops i).all fun r=>match r with
 |some r=>match IX (ev t r) with
  |some b=>decide (m'.get b=m.get b)
  |none=>true
 |none=>false
def NG(P:Program)(call:E8)(ops:Array Oper)(i:Nat)(o:Oper)(s:St):Option St :=
 match JC P call ops o { s with m:={ s.m with low:=s.m.size } } with
 |some s'=>if barrier P ops i||decide (s.m.size≤s'.m.low)||(rG P ops i&&Q8 ops i s.t)||(Ru P ops i&&NP ops i s.t s.m s'.m) then some { s' with m:={ s'.m with low:=min s.m.low s'.m.low } } else none
 |none=>none
def I9(P:Program)(call:E8)(ops:Array Oper):Nat→List Oper→St→Option St
 |_,[],s=>some s
 |i,o::rest,s=>match NG P call ops i o s with
  |some s'=>I9 P call ops (i+1) rest s'
  |none=>none
def iterate(f:St→Option (BP×St)):Nat→St→Option (BP×St)
 |0,_=>none
 |n+1,s=>match f s with
  |some (.normal,s')=>iterate f n s'
  |r=>r
def aB:Value:=.func (.yield 0) #[] #[]
def EN(n:Nat)(lb:List Value):List Value:=List.replicate (n+1) aB++lb
def b5x:Value→Option (List Value)
 | .tuple vs=>some vs.toList
 |_=>none
def aQ:List Value→Option (List (List Value))
 |[]=>some []
 |v::l=>match b5x v,aQ l with
  |some r,some rs=>some (r::rs)
  |_,_=>none
def PS:Value→Option (List (List Value))
 | .tuple ⟨[_,.tuple rows]⟩=>aQ rows.toList
 |_=>none
def flat:Code→Bool
 | .seq a b| .cond _ a b=>flat a&&flat b
 | .block _ b| .loop b| .scope b=>flat b
 | .rangeFunc ..=>false
 |_=>true
def Og(t:Tr Value)(ps:List Tmp)(vs:List Value):Tr Value:=(ps.zip vs).foldl (fun t (p,v)=>Rq t p v) t
def JL(m:Mem)(k:Nat):Mem:={ m with low:=k }
open Classical in
noncomputable def Ee(n:Nat)(Nq body:St→Option (BP×St))(ask:Mem→Prop)(t:Tr Value)(ps:List Tmp):List (List Value)→Mem→Option (BP×Mem)
 |[],m=>some (.normal,m)
 |vs::rest,m =>
  if vs.length=n∧vs.all plain=true then
   match Nq { t:=Og t ps vs,m:=JL m m.size } with
   |some (.normal,s1) =>
    match body s1 with
    |some (x,s2) =>
     match x with
     | .normal=>if ask (JL s2.m (min m.low s2.m.low)) then Ee n Nq body ask t ps rest (JL s2.m (min m.low s2.m.low)) else none
     |x=>some (x,JL s2.m (min m.low s2.m.low))
    |none=>none
   |_=>none
  else none
noncomputable def BO(P:Program)(call:E8)(N:Nat):Code→St→Option (BP×St)
 | .skip,s=>some (.normal,s)
 | .label _,s=>some (.normal,s)
 | .ret,s=>some (.ret,s)
 | .exit id,s=>some (.exit id,s)
 | .seq a b,s=>match BO P call N a s with
  |some (.normal,s')=>BO P call N b s'
  |r=>r
 | .cond c a b,s=>match ev s.t c with
  | .bool true=>BO P call N a s
  | .bool false=>BO P call N b s
  |_=>none
 | .block id b,s=>match BO P call N b s with
  |some (.exit i,s')=>if i=id then some (.normal,s') else some (.exit i,s')
  |r=>r
 | .loop b,s=>iterate (BO P call N b) N s
 | .region _ ops false,s=>(Jt P call ops ops.toList s).map fun s'=>(.normal,s')
 | .region _ ops true,s=>(I9 P call ops 0 ops.toList s).map fun s'=>(.normal,s')
 | .rangeFunc f ps Nq body,s=>match ev s.t f with
  | .func (.func g) fs lb=>match P.funcs[g]? with
   |some fn=>if fs.size=0∧flat Nq=true∧flat body=true then
    match call g (EN fn.ntmps lb.toList) s.m with
    |some (v,_)=>match PS v with
     |some rows=>(Ee ps.size (BO P call N Nq) (BO P call N body) (fun m'=>∃m1,call g (EN fn.ntmps lb.toList) m'=some (v,m1)) s.t ps.toList rows s.m).map fun(x,m')=>(x,{ t:=s.t,m:=m' })
     |none=>none
    |none=>none
    else none
   |none=>none
  |_=>none
 |_,_=>none
def G5(G:List Nat):Operand→Bool
 | .const v=>plain v
 | .global g=>G.contains g
 |_=>true
def H6(ops:Array Oper):Bool :=
 let b:=Region.before ops
 (List.range ops.size).all fun i=>match ops[i]? with
  |none=>true
  |some oi=>(match oi.guard with|some (g,_)=>(b.getD i 0).testBit g&&g<i|none=>true) &&
   (oi.after.all fun e=>!Region.binds .any e||decide (e.on<i)) &&
   match oi.dst with
   |none=>true
   |some d=>(List.range ops.size).all fun j=>j==i||match ops[j]? with
    |none=>true
    |some oj=>oj.dst != some d&&(!(oj.looksAt ops).contains d||(if i<j then(b.getD j 0).testBit i else(b.getD i 0).testBit j))
def I5(G:List Nat)(n:Nat)(o:Oper):Bool :=
 o.op.operands.all (G5 G)&&(match o.dst with|some d=>d<n|none=>true)&&(match o.op with| .select ..| .defer ..| .go ..=>false|_=>true)
def codeOk(G:List Nat)(n:Nat):Code→Bool
 | .seq a b=>codeOk G n a&&codeOk G n b
 | .cond c a b=>G5 G c&&codeOk G n a&&codeOk G n b
 | .block _ b=>codeOk G n b
 | .loop b=>codeOk G n b
 | .region _ ops draw=>ops.all (I5 G n)&&(!draw||H6 ops)
 | .skip| .label _| .ret| .exit _=>true
 | .rangeFunc f ps a b=>G5 G f&&ps.all (fun p=>decide (p<n))&&codeOk G n a&&codeOk G n b
 |_=>false
def KU(P:Program)(s:St):ResultVar→Option Value
 | .tmp t=>some (CO s.t t)
 | .cell a t=>match CO s.t a with
  | .pointer (some a)=>OO P t a s.m
  |_=>none
def P6{α β:Type}(f:α→Option β):List α→Option (List β)
 |[]=>some []
 |a::l=>match f a,P6 f l with
  |some b,some r=>some (b::r)
  |_,_=>none
def FM(P:Program)(fn:Func)(s:St):Option Value :=
 match P6 (KU P s) fn.results.toList with
 |some [v]=>some v
 |some vs=>some (.tuple vs.toArray)
 |none=>none
def tmpsOf:Nat→List Value→Tr Value→Tr Value
 |_,[],t=>t
 |i,v::l,t=>tmpsOf (i+1) l (Rq t i v)
def IV(G:List Nat)(fn:Func)(c:Code):Bool :=
 !(fn.name=="runtime.NumGoroutine")&&codeOk G fn.ntmps c
abbrev BG:=FuncId→Option (List Value→Mem→Option (Value×Mem))
noncomputable def Ei(P:Program)(O:BG)(G:List Nat)(N:Nat):Nat→E8
 |0,_,_,_=>none
 |D+1,f,Bo,m =>
  match(O f).bind fun F=>F Bo m with
  |some r=>some r
  |none =>
   match P.funcs[f]? with
   |none=>none
   |some fn=>match fn.body with
    |none=>none
    |some c =>
     if IV G fn c&&decide (Bo.length≤fn.ntmps) then
      match BO P (Ei P O G N D) N c { t:=tmpsOf 0 Bo .leaf,m:=m } with
      |some (.normal,s)|some (.ret,s)=>(FM P fn s).map fun v=>(v,s.m)
      |_=>none
     else none
end
end
section
structure IB where
 blk:Nat
 sh:Nat
 lim:Nat
 esz:Nat
abbrev BJ:=Nat→Option IB
def QL(ι:BJ)(g:Nat→Nat)(a a':Addr):Prop :=
 ∃ib,ι a.block=some ib∧MK a≤g a.block∧(MK a=g a.block→a'=⟨ib.blk,a.off+ib.sh,none⟩)
def c3e(ι:BJ)(g:Nat→Nat)(b off len gen:Nat)(a':Addr)(cap:Nat):Prop :=
 ∃ib,ι b=some ib∧gen≤g b∧len≤cap∧(gen=g b→a'.block=ib.blk∧a'.spot=none∧(cap=0∨(a'.off=off+ib.sh∧a'.off+cap*ib.esz≤ib.lim)))
inductive Az(ι:BJ)(g:Nat→Nat):Value→Value→Prop
 |bool (b:Bool):Az ι g (.bool b) (.bool b)
 |int (k:IntKind) (n:Int):Az ι g (.int k n) (.int k n)
 |flt (k:FloatKind) (n:Nat):Az ι g (.float k n) (.float k n)
 |str (s:ByteArray):Az ι g (.string s) (.string s)
 |b6a:Az ι g (.pointer none) (.pointer none)
 |ptr (a a':Addr) (h:QL ι g a a'):Az ι g (.pointer (some a)) (.pointer (some a'))
 |Dy:Az ι g (.slice none 0 0) (.slice none 0 0)
 |slE (b o s:Nat) (a':Addr):Az ι g (.slice (some ⟨b,o,some s⟩) 0 0) (.slice (some a') 0 0)
 |sl (b off len gen:Nat) (a':Addr) (cap:Nat) (h:c3e ι g b off len gen a' cap):Az ι g (.slice (some ⟨b,off,none⟩) len gen) (.slice (some a') len cap)
 |b8c:Az ι g (.map none) (.map none)
 |map (r c:Nat) (ib:IB) (h:ι r=some ib) (hc:g r=0→c=ib.blk):Az ι g (.map (some r)) (.map (some c))
 |b5r:Az ι g .nilFunc .nilFunc
 |b5l:Az ι g .nilIface .nilIface
 |fn (f:FuncId) (fs fs' cs cs':List Value) (h1:fs.length=fs'.length) (h2:∀i,i<fs.length→Az ι g (fs.getD i undef) (fs'.getD i undef))
  (h3:cs.length=cs'.length) (h4:∀i,i<cs.length→Az ι g (cs.getD i undef) (cs'.getD i undef)):Az ι g (.func (.func f) ⟨fs⟩ ⟨cs⟩) (.func (.func f) ⟨fs'⟩ ⟨cs'⟩)
 |agg (l l':List Value) (h1:l.length=l'.length) (h2:∀i,i<l.length→Az ι g (l.getD i undef) (l'.getD i undef)):Az ι g (.agg ⟨l⟩) (.agg ⟨l'⟩)
 |tuple (l l':List Value) (h1:l.length=l'.length) (h2:∀i,i<l.length→Az ι g (l.getD i undef) (l'.getD i undef)):Az ι g (.tuple ⟨l⟩) (.tuple ⟨l'⟩)
 |it (b:Nat):Az ι g (.iface 0 (.int .i64 b)) (.pointer (some ⟨b,0,none⟩))
def BF(ι:BJ)(g:Nat→Nat)(l l':List Value):Prop :=
 l.length=l'.length∧∀i,i<l.length→Az ι g (l.getD i undef) (l'.getD i undef)
def Le(ι:BJ)(g:Nat→Nat)(ι':BJ)(g':Nat→Nat):Prop :=
 ∀b ib,ι b=some ib→g b≤g' b∧∃ib',ι' b=some ib'∧(g' b=g b→ib'=ib)
theorem Le.refl(ι:BJ)(g:Nat→Nat):Le ι g ι g:=fun _ a h=>⟨ab _,a,h,fun _=>rfl⟩
theorem Le.trans(h:Le ι g c i)(k:Le c i a d):Le ι g a d:=fun b j l=>by
 obtain⟨q,e,m,p⟩:=h b j l;obtain⟨k1,f,o,n⟩:=k b e m;grind
theorem Az.mono(z:Le ι g j I)(h:Az ι g v v'):Az j I v v':=by
 induction h with
 |bool b=>exact .bool b
 |int k n=>exact .int k n
 |flt k n=>exact .flt k n
 |str s=>exact .str s
 |b6a=>exact .b6a
 |ptr a p h =>
  obtain⟨H,i,K,A⟩:=h;obtain⟨k1,d,m,F⟩:=z _ _ i;exact .ptr a p ⟨d,m,by omega,fun e=>by grind⟩
 |Dy=>exact .Dy
 |slE b o s p=>exact .slE b o s p
 |sl b q len gen p E h =>
  obtain⟨H,i,K,J,A⟩:=h;obtain⟨k1,d,m,F⟩:=z _ _ i;exact .sl b q len gen p E ⟨d,m,by omega,J,fun e=>by grind⟩
 |it b=>exact .it b
 |b8c=>exact .b8c
 |map r c H h N =>
  obtain⟨k1,d,m,F⟩:=z _ _ h;exact .map r c d m fun e=>by grind
 |b5r=>exact .b5r
 |b5l=>exact .b5l
 |fn f L B M C i _ A _ x w=>exact .fn f L B M C i x A w
 |agg l u i _ y=>exact .agg l u i y
 |tuple l u i _ y=>exact .tuple l u i y
theorem BF.mono(c:Le ι g a b)(h:BF ι g l l'):BF a b l l' :=
 ⟨h.1,fun i d=>(h.2 i d).mono c⟩
theorem Az.plainCell(h:plainCell v=true):Az ι g v v:=by
 unfold Am.plainCell at h;split at h<;>first
  |exact .bool _
  |exact .int _ _
  |exact .str _
  |exact .flt _ _
  |exact .b6a
  |exact .Dy
  |exact .b8c
  |exact .b5r
  |exact .b5l
  |(rename_i f a b
    obtain⟨a⟩:=a;obtain⟨b⟩:=b;have e:a=[]:=by grind
    have d:b=[]:=by grind
    subst e;subst d;exact .fn _ [] [] [] [] rfl (fun i c=>absurd c (by simp)) rfl (fun i c=>absurd c (by simp)))
  |grind
theorem getD_lt{l:List Value}(h:i<l.length):l.getD i d=l[i] :=by grind
theorem getD_mem{l:List Value}(h:i<l.length):l.getD i d∈l :=by grind
theorem Az.GL(h:GL v=true):Az ι g v v:=by
 unfold Am.GL at h;split at h
 ·rename_i b
  obtain⟨l⟩:=b;exact .agg l l rfl fun i a=>Az.plainCell (aE.1 h _ (getD_mem a))
 ·exact Az.plainCell h
theorem Az.plain(h:plain v=true):Az ι g v v:=by
 unfold Am.plain at h;split at h
 ·rename_i b
  obtain⟨l⟩:=b;exact .tuple l l rfl fun i a=>Az.GL (aE.1 h _ (getD_mem a))
 ·exact Az.GL h
theorem WU{l l':List Value}(a:l.length=l'.length)(b:∀i,i<l.length→l.getD i undef=l'.getD i undef):l=l':=by
 apply fI a;grind
theorem Az.Eh(h:Az ι g v v')(a:Am.plainCell v=true):v'=v:=by
 cases h<;>first|rfl|(simp[Am.plainCell] at a;done)|skip
 rename_i f i b j c e _ d _;simp[Am.plainCell] at a;grind
theorem Az.SN(h:Az ι g v v')(a:Am.GL v=true):v'=v:=by
 unfold Am.GL at a;split at a
 ·rename_i f
  cases h with
  |agg l c e d =>
   have:l=c:=WU e fun i b=>(Az.Eh (d i b) (aE.1 a _ (getD_mem b))).symm
   grind
 ·exact h.Eh a
theorem Az.BL(h:Az ι g v v')(a:Am.plain v=true):v'=v:=by
 unfold Am.plain at a;split at a
 ·rename_i f
  cases h with
  |tuple l c e d =>
   have:l=c:=WU e fun i b=>(Az.SN (d i b) (aE.1 a _ (getD_mem b))).symm
   grind
 ·exact h.SN a
theorem Az.oneCell(h:Az ι g v v')(a:Am.BQ v=true):v'.oneCell'=true:=by
 cases h<;>first|rfl|assumption
theorem Az.undef:Az ι g undef undef:=.tuple [] [] rfl fun i a=>absurd a (by simp)
theorem Az.cells(h:Az ι g v v'):BF ι g v.cells.toList v'.cells.toList:=by
 have one:∀{v v':Value},Az ι g v v'→BF ι g [v] [v']:=fun h=>⟨rfl,fun i E=>by
  grind⟩
 cases h with
 |agg l w e d=>exact⟨e,d⟩
 |bool b=>exact one (.bool b)
 |int k n=>exact one (.int k n)
 |flt k n=>exact one (.flt k n)
 |str s=>exact one (.str s)
 |b6a=>exact one .b6a
 |ptr a j h=>exact one (.ptr a j h)
 |Dy=>exact one .Dy
 |slE b o s j=>exact one (.slE b o s j)
 |sl b m len gen j u h=>exact one (.sl b m len gen j u h)
 |it b=>exact one (.it b)
 |b8c=>exact one .b8c
 |map r c x h y=>exact one (.map r c x h y)
 |b5r=>exact one .b5r
 |b5l=>exact one .b5l
 |fn f B p C q e d A z=>exact one (.fn f B p C q e d A z)
 |tuple l w e d=>exact one (.tuple l w e d)
theorem BF.plain(h:l.all Am.plainCell=true):BF ι g l l :=
 ⟨rfl,fun i a=>Az.plainCell (aE.1 h _ (getD_mem a))⟩
theorem BF.nil:BF ι g [] []:=⟨rfl,fun i a=>absurd a (by simp)⟩
theorem BF.append(h:BF ι g l l')(b:BF ι g k k'):BF ι g (l++k) (l'++k'):=by
 refine⟨by simp[h.1,b.1],fun i e=>?_⟩;rw[ar] at e;by_cases a:i<l.length
 ·have d:i<l'.length:=h.1▸a
  have:=h.2 i a;grind
 ·have c:l.length≤i:=by omega
  have f:l'.length≤i:=h.1▸c;rw[bB,bB,bp c,bp f];have:=b.2 (i-l.length) (by omega);rw[bB,bB] at this;rw[h.1] at this ⊢;omega
theorem BF.cons(h:Az ι g v v')(a:BF ι g k k'):BF ι g (v::k) (v'::k') :=
 BF.append (l:=[v]) (l':=[v']) ⟨rfl,fun i b=>by
  grind⟩ a
theorem BF.Iz(h:BF ι g (v::k) l'):∃v' k',l'=v'::k'∧Az ι g v v'∧BF ι g k k':=by
 obtain⟨b,a⟩:=h
 match l',b with
 |v'::k',b =>
  refine⟨v',k',rfl,a 0 (by simp),by grind,fun i c=>?_⟩;have:=a (i+1) (by grind);grind
theorem BF.take(h:BF ι g l l')(n:Nat):BF ι g (l.take n) (l'.take n):=by
 refine⟨by simp[h.1],fun i a=>?_⟩;rw[av] at a;have:=h.2 i (by omega);grind
theorem BF.drop(h:BF ι g l l')(n:Nat):BF ι g (l.drop n) (l'.drop n):=by
 refine⟨by simp[h.1],fun i a=>?_⟩;rw[bA] at a;have:=h.2 (n+i) (by omega);grind
theorem BF.get(h:BF ι g l l'){i:Nat}(c:l[i]?=some v):∃v',l'[i]?=some v'∧Az ι g v v':=by
 have b:i<l.length:=(bw.1 c).1;have a:i<l'.length:=h.1▸b;refine⟨l'[i],ai a,?_⟩;have:=h.2 i b;grind
def qZ(ι:BJ)(g:Nat→Nat)(e e':MapEntry):Prop:=e'.key=e.key∧e'.born=e.born∧plain e.key=true∧Az ι g e.val e'.val
def DF(ι:BJ)(g:Nat→Nat):List MapEntry→List MapEntry→Prop
 |[],[]=>True
 |e::es,e'::es'=>qZ ι g e e'∧DF ι g es es'
 |_,_=>False
def WY(P:Program)(ι:BJ)(g:Nat→Nat)(ib:IB):G8→Option Obj→Prop
 | .cells vs e _ ro,some (.cells cs e' fr)=>(ro=false→e'=e)∧ib.lim=cs.size∧ib.esz=P.cellsOf e ∧
  (∀i,i<vs.length→∃v',cs[ib.sh+i]?=some v'∧Az ι g (vs.getD i undef) v') ∧
  (ro=false→∀j,j<cs.size→¬ (fr.1≤j∧j<fr.2))
 | .map es clock,some (.map es' clock')=>clock'=clock∧DF ι g es es'.toList
 |_,_=>False
structure DR(P:Program)(G:List Nat)(ι:BJ)(m:Mem)(w:World):Prop where
 dom:∀b ib,ι b=some ib→b<m.size∧ib.blk<w.heap.size
 blk:∀b ib,ι b=some ib→WY P ι m.gen ib (m.get b) w.heap[ib.blk]?
 inj:∀b b' ib ib',ι b=some ib→ι b'=some ib'→ib.blk=ib'.blk→b=b'∨(m.ro b=true∧m.ro b'=true)
 glob:∀k,k∈G→∃ib,ι k=some ib∧ib.blk=k∧(ib.sh=0∧∀vs e g ro,m.get k=.cells vs e g ro→ib.lim=vs.length)∧m.gen k=0∧m.ro k=true
structure Ext(ι:BJ)(m:Mem)(w:World)(ι':BJ)(m':Mem)(w':World):Prop where
 size:m.size≤m'.size
 low:m'.low≤m.low
 keep:∀b,b<m.size→b<m'.low→m'.get b=m.get b
 ro:∀b,b<m.size→m.ro b=true→m'.get b=m.get b
 ro':∀b,b<m.size→m'.ro b=m.ro b
 le:Le ι m.gen ι' m'.gen
 back:∀b ib',ι' b=some ib'→(∃ib,ι b=some ib∧ib.blk=ib'.blk)∨w.heap.size≤ib'.blk
 dom:∀b ib',ι' b=some ib'→(∃ib,ι b=some ib)∨m.size≤b
 heap:w.heap.size≤w'.heap.size
 frame:∀c,c<w.heap.size→(∀b ib,ι b=some ib→ib.blk=c→m.ro b=true∨b<m'.low)→w'.heap[c]?=w.heap[c]?
 tape:w'.tape=w.tape
 os:w'.os=w.os
 output:w'.output=w.output
theorem CY{m m':Mem}(h:m'.get b=m.get b):m'.gen b=m.gen b:=by unfold Mem.gen;rw[h]
theorem FQ{m m':Mem}(h:m'.get b=m.get b):m'.ro b=m.ro b:=by unfold Mem.ro;rw[h]
theorem Ext.refl(ι:BJ)(m:Mem)(w:World):Ext ι m w ι m w :=
 ⟨ab _,ab _,fun _ _ _=>rfl,fun _ _ _=>rfl,fun _ _=>rfl,Le.refl _ _,fun _ a h=>.inl ⟨a,h,rfl⟩,fun _ a h=>.inl ⟨a,h⟩,
  ab _,fun _ _ _=>rfl,rfl,rfl,rfl⟩
theorem Ext.trans(s:DR P G ι m w)
 (h:Ext ι m w i m' w') (k:Ext i m' w' f l j):Ext ι m w f l j:=by
 refine⟨an h.size k.size,an k.low h.low,fun b a o=>?_,fun b a u=>?_,fun b a=>?_,h.le.trans k.le,fun b d a=>?_,fun b d a=>?_,
  an h.heap k.heap,fun c q p=>?_,k.tape.trans h.tape,k.os.trans h.os,k.output.trans h.output⟩
 ·rw[k.keep b (ag a h.size) o,h.keep b a (ag o k.low)]
 ·rw[k.ro b (ag a h.size) (by rw[h.ro' b a];omega),h.ro b a u]
 ·rw[k.ro' b (ag a h.size),h.ro' b a]
 ·rcases k.back b d a with⟨e,h1,r⟩|h1
  ·rcases h.back b e h1 with⟨n,h3,x⟩|h3
   ·grind
   omega
  ·exact .inr (an h.heap h1)
 ·rcases k.dom b d a with⟨e,h1⟩|h1
  ·exact h.dom b e h1
  ·exact .inr (an h.size h1)
 ·rw[k.frame c (ag q h.heap) ?_,h.frame c q ?_]
  ·intro b n a g
   rcases p b n a g with h1|h1
   ·grind
   ·exact .inr (ag h1 k.low)
  ·intro b e a g
   rcases h.back b e a with⟨n,h1,r⟩|h1
   ·rcases p b n h1 (r.trans g) with h3|h3
    ·exact .inl (by rw[h.ro' b (s.dom b n h1).1];omega)
    omega
   omega
def Post(P:Program)(G:List Nat)(ι:BJ)(m:Mem)(w:World)(v:Value)(m':Mem)(v':Value)(w':World):Prop :=
 ∃ι',Ext ι m w ι' m' w'∧DR P G ι' m' w'∧Az ι' m'.gen v v'
theorem Post.same(a:DR P G ι m w)(h:Az ι m.gen v v'):Post P G ι m w v m v' w :=
 ⟨ι,Ext.refl _ _ _,a,h⟩
end
section
variable {P:Program}{G:List Nat}
theorem DF.mono(b:Le ι g a c):∀{es es':List MapEntry},DF ι g es es'→DF a c es es'
 |[],[],_=>trivial
 |_::_,_::_,⟨h,k⟩=>⟨⟨h.1,h.2.1,h.2.2.1,h.2.2.2.mono b⟩,DF.mono b k⟩
 |[],_::_,h=>h.elim
 |_::_,[],h=>h.elim
theorem WY.mono(c:Le ι g a d)(h:WY P ι g ib x o):WY P a d ib x o:=by
 unfold WY at *;split at h
 ·obtain⟨m,l,k,j,f⟩:=h
  exact⟨m,l,k,fun i e=>(j i e).imp fun n b=>⟨b.1,b.2.mono c⟩,f⟩
 ·exact⟨h.1,DF.mono c h.2⟩
 omega
theorem Py(j:DR P G ι m w)(A:w'.heap=w.heap.push obj)
 (B:w'.tape=w.tape) (E:w'.os=w.os) (q:w'.output=w.output) (H:ib.blk=w.heap.size) (z:WY P ι m.gen ib x (some obj))
 (K:x.ro=false) :
 ∃g,Ext ι m w g (m.alloc x) w'∧DR P G g (m.alloc x) w'∧g m.size=some ib:=by
 have hget:∀b,b<m.size→(m.alloc x).get b=m.get b:=fun b a=>by rw[dZ,if_neg (by omega)]
 have s:∀b,b<m.size→(m.alloc x).gen b=m.gen b:=fun b a=>CY (hget b a)
 have n:∀b,b<m.size→(m.alloc x).ro b=m.ro b:=fun b a=>FQ (hget b a)
 have l:∀c,c<w.heap.size→w'.heap[c]?=w.heap[c]?:=fun c u=>by grind
 have C:w'.heap.size=w.heap.size+1:=by grind
 let g:BJ:=fun b=>if b=m.size then some ib else ι b
 have o:Le ι m.gen g (m.alloc x).gen:=fun b d a=>by
  have r:=(j.dom b d a).1;grind
 refine⟨g,⟨by simp[Mem.alloc],ab _,fun b a _=>hget b a,fun b a _=>hget b a,fun b a=>n b a,o,fun b d a=>?_,fun b d a=>?_,by omega,
  fun c u _=>l c u,B,E,q⟩,⟨fun b d a=>?_,fun b d a=>?_,fun b p d f a i I=>?_,fun k F=>?_⟩,if_pos rfl⟩
 ·grind
 ·grind
 ·change (if b=m.size then some ib else ι b)=some d at a
  split at a
  ·cases a;exact⟨by simp[Mem.alloc];omega,by omega⟩
  ·have:=j.dom b d a
   exact⟨by simp only[Mem.alloc];omega,by omega⟩
 ·change (if b=m.size then some ib else ι b)=some d at a
  split at a
  ·rename_i e;cases a
   rw[dZ,if_pos e.symm];have:w'.heap[ib.blk]?=some obj:=by grind
   rw[this];exact z.mono o
  ·have:=j.dom b d a
   rw[hget b this.1,l _ this.2];exact(j.blk b d a).mono o
 ·change (if b=m.size then some ib else ι b)=some d at a
  change (if p=m.size then some ib else ι p)=some f at i
  split at a<;>split at i
  ·omega
  ·cases a;have:=j.dom p f i;omega
  ·cases i;have:=j.dom b d a;omega
  ·rcases j.inj b p d f a i I with h|⟨y,J⟩
   ·omega
   ·exact .inr ⟨by rw[n b (j.dom b d a).1];omega,by rw[n p (j.dom p f i).1];omega⟩
 ·obtain⟨d,y,J,N,M,L⟩:=j.glob k F
  have r:=(j.dom k d y).1;grind
theorem JJ(l:DR P G ι m w)(z:ι b=some ib)(I:m.ro b=false)
 (R:x.ro=false)
 (F:m.gen b≤x.gen∧(x.gen=m.gen b→ib'=ib))
 (p:ib'.blk=ib.blk∨w.heap.size≤ib'.blk) (V:w'.heap[ib'.blk]?=some obj) (g:∀c,c<w.heap.size→c≠ib.blk→w'.heap[c]?=w.heap[c]?)
 (q:w.heap.size≤w'.heap.size) (H:w'.tape=w.tape) (J:w'.os=w.os) (r:w'.output=w.output)
 (W:∀f C,Le ι m.gen f C→WY P f C ib' x (some obj)) :
 ∃f,Ext ι m w f (m.put b x) w'∧DR P G f (m.put b x) w'∧f b=some ib':=by
 have y:=l.dom b ib z;have hget:∀c,c≠b→(m.put b x).get c=m.get c:=fun c a=>by rw[cg,if_neg (fun e=>a e.symm)]
 have U:(m.put b x).get b=x:=by rw[cg,if_pos rfl]
 have T:(m.put b x).gen b=x.gen:=by unfold Mem.gen;grind
 have Q:(m.put b x).ro b=false:=by unfold Mem.ro;grind
 have B:∀c,c≠b→(m.put b x).gen c=m.gen c:=fun c a=>CY (hget c a)
 have S:∀c,c≠b→(m.put b x).ro c=m.ro c:=fun c a=>FQ (hget c a)
 let f:BJ:=fun c=>if c=b then some ib' else ι c
 have o:Le ι m.gen f (m.put b x).gen:=fun c d a=>by
  grind
 have i:∀c d,ι c=some d→c≠b→d.blk≠ib.blk:=fun c d a s e=>by
  rcases l.inj c b d ib a z e with h|⟨_,h⟩
  ·omega
  grind
 refine⟨f,⟨ab _,co _ _,fun c a Y=>?_,fun c a X=>?_,fun c a=>?_,o,fun c d a=>?_,fun c d a=>?_,q,fun c a L=>?_,H,J,r⟩,
  ⟨fun c d a=>?_,fun c d a=>?_,fun c A d j a n M=>?_,fun k K=>?_⟩,if_pos rfl⟩
 ·exact hget c (fun e=>by subst e;have:(m.put c x).low≤c:=cw _ _;omega)
 ·grind
 ·grind
 ·grind
 ·grind
 ·refine g c a fun e=>?_
  rcases L b ib z e.symm with h|h
  ·grind
  ·have:(m.put b x).low≤b:=cw _ _;omega
 ·change (if c=b then some ib' else ι c)=some d at a
  split at a
  ·rename_i e;cases a
   have u:ib'.blk<w'.heap.size:=by
    grind
   exact⟨e▸y.1,u⟩
  ·have:=l.dom c d a
   exact⟨this.1,by omega⟩
 ·change (if c=b then some ib' else ι c)=some d at a
  split at a
  ·grind
  ·rename_i e
   have:=l.dom c d a;rw[hget c e,g _ this.2 (i c d a e)];exact(l.blk c d a).mono o
 ·change (if c=b then some ib' else ι c)=some d at a
  change (if A=b then some ib' else ι A)=some j at n
  have E:∀c d,ι c=some d→c≠b→ib'.blk≠d.blk:=fun c d a s e=>by
   rcases p with h|h
   ·grind
   ·have:=l.dom c d a;omega
  split at a<;>split at n
  ·omega
  ·grind
  ·grind
  ·rename_i e1 e2
   rcases l.inj c A d j a n M with h|⟨O,N⟩
   ·omega
   grind
 ·obtain⟨QI,O,N,h3,h4,Z⟩:=l.glob k K
  grind
theorem F9(h:takeN n l=some r):n≤l.length∧r=l.take n:=by
 unfold takeN at h;grind
theorem Hu(c:DR P G ι m w)(d:ι b=some ib)(f:m.get b=.cells vs e g ro) :
 ∃cs a e',w.heap[ib.blk]?=some (.cells cs e' a)∧ib.lim=cs.size∧ib.esz=P.cellsOf e ∧
  (∀i,i<vs.length→∃v',cs[ib.sh+i]?=some v'∧Az ι m.gen (vs.getD i undef) v')∧(ro=false→e'=e∧∀j,j<cs.size→¬ (a.1≤j∧j<a.2)):=by
 have h:=c.blk b ib d;unfold WY at h;grind
theorem cell_of_row{w:World}(h:w.heap[c]?=some (.cells cs e a))(o:Nat) :
 w.cell? ⟨c,o,none⟩=cs[o]?:=by
 simp[World.cell?,h]
theorem frozen_of_row{w:World}(h:w.heap[c]?=some (.cells cs e a))(o:Nat) :
 w.frozen? ⟨c,o,none⟩=(decide (a.1≤o)&&decide (o<a.2)):=by
 obtain⟨b,d⟩:=a;simp[World.frozen?,h]
theorem addr_add(b o n:Nat):Addr.add ⟨b,o,none⟩ n=⟨b,o+n,none⟩:=Addr.add_lit b o n
theorem Ju{m:Mem}(h:m.Es a n=some l) :
 ∃vs e g ro,m.get a.block=.cells vs e g ro∧MK a=g∧m.gen a.block=g∧n≤(vs.drop a.off).length∧l=(vs.drop a.off).take n:=by
 unfold Mem.Es at h;split at h
 ·rename_i vs e g ro b
  split at h
  ·rename_i c
   obtain⟨f,d⟩:=F9 h;exact⟨vs,e,g,ro,b,c,by unfold Mem.gen;rw[b];rfl,f,d⟩
  grind
 grind
theorem KY(z:DR P G ι m w)(I:QL ι m.gen a a')(h:m.Es a n=some l) :
 ∃l',BF ι m.gen l l'∧l'.length=n∧∀(j:Nat) v,l'[j]?=some v→w.cell? (a'.add j)=some v:=by
 obtain⟨r,e,g,ro,E,H,x,A,B⟩:=Ju h;obtain⟨s,F,_,p⟩:=I;have f:=p (by omega);obtain⟨y,L,N,b,u,O,c,_⟩:=Hu z F E;rw[bA] at A;have hget:∀j,j<n→∃k,y[s.sh+(a.off+j)]?=some k∧Az ι m.gen (r.getD (a.off+j) undef) k:=fun j J=>c (a.off+j) (by omega)
 refine⟨(List.range n).map (fun j=>y.getD (s.sh+(a.off+j)) undef),⟨by grind,fun i C=>?_⟩,by simp,fun j v o=>?_⟩
 ·rw[B,av,bA] at C
  have hin:i<n:=by omega
  obtain⟨k,q,K⟩:=hget i hin;have M:l.getD i undef=r.getD (a.off+i) undef:=by
   grind
  simp_all
 ·rw[ax] at o
  have d:j<n:=by
   grind
  obtain⟨k,q,_⟩:=hget j d;rw[cj d] at o;simp[q] at o;rw[f,addr_add,cell_of_row b,← o,← q];grind
theorem kY(h:G9 P t=some b)(w:World):(isAgg t).run P w=.ok b w:=by
 unfold G9 at h;unfold isAgg;split at h<;>first
  |(rename_i d a;simp[run_underlying a];grind)
  |grind
  |cases h
theorem run_typeInfo'(h:P.info? t=some i)(w:World):(typeInfo t).run P w=.ok i w:=by
 simp[typeInfo,h]
theorem run_sizeOf'(h:P.info? t=some i)(w:World):(sizeOf t).run P w=.ok i.size w:=by
 simp[sizeOf,run_typeInfo' h]
theorem ED(h:P.info? t=some i):P.cellsOf t=i.size:=by simp[Program.cellsOf,h]
theorem Q5(o:DR P G ι m w)(q:QL ι m.gen a a')(h:OO P t a m=some v) :
 ∃v',(loadVar t a').run P w=.ok v' w∧Az ι m.gen v v':=by
 unfold OO at h;split at h
 case isFalse=>cases h
 unfold fV at h;split at h
 ·rename_i d
  split at h
  ·rename_i i r
   rw[ae] at h;obtain⟨l,n,rfl⟩:=h;obtain⟨f,b,e,c⟩:=KY o q n;refine⟨.agg f.toArray,?_,?_⟩
   ·unfold loadVar
    have:=run_loadCells_list (P:=P) w a' f c;rw[e] at this;simp[kY d,run_sizeOf' r,this]
   ·exact .agg l f b.1 b.2
  grind
 ·rename_i d
  rw[bb] at h;obtain⟨l,n,g⟩:=h;obtain⟨f,b,e,c⟩:=KY o q n
  match l,g,b with
  |v0::k,g,b =>
   simp at g;subst g;obtain⟨v',s,rfl,j,_⟩:=b.Iz;refine⟨v',?_,j⟩;have p:=c 0 v' rfl;unfold loadVar;rw[Addr.add_zero'] at p;simp[kY d,p]
 grind
theorem dX(a:DR P G ι m w)(c:ι b=some ib)(d:m.get b=.map es k) :
 ∃es',w.heap[ib.blk]?=some (.map es' k)∧DF ι m.gen es es'.toList:=by
 have h:=a.blk b ib c;unfold WY at h;grind
end
section
variable {P:Program}{G:List Nat}
theorem getD_eq(l:List Value)(i:Nat):l.getD i undef=(l[i]?).getD undef :=by simp
theorem ku(l:List Value):∀(vs:List Value) (o:Nat),(splice vs o l).length=vs.length:=by
 induction l with
 |nil=>intro vs o;rfl
 |cons v l a=>intro vs o;simp[splice,a]
theorem a4i(l:List Value):∀(vs:List Value) (o j:Nat),o+l.length≤vs.length →
 (splice vs o l)[j]?=if o≤j∧j<o+l.length then l[j-o]? else vs[j]?:=by
 induction l with
 |nil=>intro vs o j _;simp[splice];omega
 |cons v l a =>
  intro vs o j h;simp only[splice];grind
theorem Fa(z:List Value)(n:Nat):(AO z n).length=n*z.length:=by
 induction n with
 |zero=>simp[AO]
 |succ n a=>simp[AO,a,Nat.succ_mul,Nat.add_comm]
theorem U4(z:List Value)(n:Nat):∀i,i<n*z.length→(AO z n)[i]?=z[i%z.length]?:=by
 induction n with
 |zero=>simp
 |succ n b =>
  intro i h;simp only[AO];rw[fW] at h;by_cases a:i<z.length
  ·rw[cq a,bu a]
  ·rw[bp (by omega),b _ (by omega)]
   rw[Nat.mod_eq_sub_mod (by omega:z.length≤i)]
theorem L6(z:List Value)(n:Nat)(b:0<z.length):((Array.range (n*z.length)).map fun i=>(z.toArray[i%z.toArray.size]!:Value))=(AO z n).toArray:=by
 apply gH;simp only[Array.toList_map,Array.toList_range];apply bo;intro i;by_cases a:i<n*z.length
 ·have c:i%z.length<z.length:=be _ b
  rw[ax,cj a,U4 z n i a,ai c];grind
 ·rw[aR (by grind),aR (by rw[Fa];omega)]
theorem mb(h:z.all plainCell=true)(n:Nat):BF ι g (AO z n) (AO z n):=by
 refine BF.plain ?_
 induction n with
 |zero=>rfl
 |succ n a=>simp only[AO,List.all_append,h,a,Bool.and_self]
theorem p7(l:List UInt8):BF ι g (l.map fun c=>Value.int .u8 c.toNat) (l.map fun c=>Value.int .u8 c.toNat) :=
 BF.plain (by simp[plainCell])
theorem BF.VJ(h:BF ι g l l')(d:l.all BQ=true):∀v∈l',v.oneCell'=true:=by
 intro v c;obtain⟨i,b,rfl⟩:=er c;have a:i<l.length:=h.1▸b;have:=h.2 i a;rw[getD_lt a,getD_lt b] at this;exact this.oneCell (aE.1 d _ (cR a))
def c8q(w w':World)(c:Nat)(cs cs':Array Value)(e:TypeId)(fr:Nat×Nat)(o:Nat)(l:List Value):Prop :=
 w'.heap[c]?=some (.cells cs' e fr)∧cs'.size=cs.size∧(∀j,cs'[j]?=if o≤j∧j<o+l.length then l[j-o]? else cs[j]?) ∧
 (∀d,d≠c→w'.heap[d]?=w.heap[d]?)∧w'.heap.size=w.heap.size∧w'.tape=w.tape∧w'.os=w.os∧w'.output=w.output
theorem Hz(c:Nat)(e:TypeId)(b:Nat×Nat)(off:Nat):∀(l:List Value) (i:Nat) (w:World) (cs:Array Value),
 w.heap[c]?=some (.cells cs e b)→(∀v∈l,v.oneCell'=true)→off+i+l.length≤cs.size→(∀j,j<cs.size→¬ (b.1≤j∧j<b.2)) →
 ∃w' cs',(storeCells ⟨c,off,none⟩ l i).run P w=.ok () w'∧c8q w w' c cs cs' e b (off+i) l
 |[],i,w,cs,h,_,_,_=>⟨w,cs,rfl,h,rfl,fun j=>by grind,fun _ _=>rfl,rfl,rfl,rfl,rfl⟩
 |v::l,i,w,cs,h,hone,hle,hfr=>by
  simp only[List.length_cons] at hle;have o:off+i<cs.size:=by omega
  have a:w.cell? ⟨c,off+i,none⟩=some cs[off+i]:=by rw[cell_of_row h];simp
  have k:w.frozen? ⟨c,off+i,none⟩=false:=by
   rw[frozen_of_row h];grind
  have n:(store ⟨c,off+i,none⟩ v).run P w=.ok () (w.setCell ⟨c,off+i,none⟩ v):=by
   rw[run_store P w _ v _ (hone v (by simp)),a,k];rfl
  have f:(w.setCell ⟨c,off+i,none⟩ v).heap[c]?=some (.cells (cs.setIfInBounds (off+i) v) e b):=by
   simp only[World.setCell,Array.getElem?_modify,h];simp
  have g:∀d,d≠c→(w.setCell ⟨c,off+i,none⟩ v).heap[d]?=w.heap[d]?:=fun d m=>by
   simp only[World.setCell,Array.getElem?_modify];grind
  obtain⟨w',cs',z,x,E,s,r,C,B,q,p⟩:=Hz c e b off l (i+1) (w.setCell ⟨c,off+i,none⟩ v) (cs.setIfInBounds (off+i) v) f
   (fun u y=>hone u (by grind)) (by grind) (by grind)
  refine⟨w',cs',?_,x,by grind,fun j=>?_,fun d m=>(r d m).trans (g d m),by simp_all,by simp_all,by rw[q];rfl,by rw[p];rfl⟩
  ·simp only[storeCells,Sem.run_bind,addr_add,n,Result.andThen_ok]
   omega
  ·rw[s j]
   by_cases A:off+(i+1)≤j∧j<off+(i+1)+l.length
   ·grind
   grind
theorem Mem.H7{m:Mem}{ro:Bool}(h:m.get b=.cells vs e g ro):m.gen b=g:=by
 unfold Mem.gen;rw[h];rfl
theorem Mem.Qz{m:Mem}{ro:Bool}(h:m.get b=.cells vs e g ro):m.ro b=ro:=by
 unfold Mem.ro;rw[h];rfl
theorem Nh(N:DR P G ι m w)(ha:QL ι m.gen a a')(p:BF ι m.gen l l')
 (h:Gm m a l=some m'):∃w' b,(storeCells a' l').run P w=.ok () w'∧Ext ι m w b m' w'∧DR P G b m' w':=by
 unfold Gm at h;split at h
 ·rename_i Y e g A
  split at h
  ·rename_i V
   simp only[Bool.and_eq_true,beq_iff_eq,decide_eq_true_eq] at V;obtain⟨⟨⟨q,H⟩,Q⟩,u⟩:=V;cases h;obtain⟨k,W,_,I⟩:=ha;have U:=I (by rw[q,Mem.H7 A]);obtain⟨M,B,K,n,R,Vz,d,r⟩:=Hu N W A;obtain⟨rfl,X⟩:=r rfl;have s:∀(_:false=false) j,j<M.size→¬ (B.1≤j∧j<B.2):=fun _=>X
   have C:(a.off+k.sh)+0+l'.length≤M.size:=by
    obtain⟨z,y,_⟩:=d (a.off+l.length-1) (by omega);have:=(al.1 y).1;rw[← p.1];omega
   obtain⟨w',L,O,r1,r2,r3,r4,r5,r6,r7,Z⟩:=Hz (P:=P) k.blk K B (a.off+k.sh) l' 0 w M n (p.VJ u) C (s rfl);have E:m.ro a.block=false:=Mem.Qz A;obtain⟨b,T,Dk,_⟩:=JJ (x:=.cells (splice Y a.off l) K g false) (ib':=k) (w':=w') (obj:=.cells L K B) N W E rfl
    ⟨by rw[Mem.H7 A];exact ab _,fun _=>rfl⟩ (.inl rfl) r1 (fun c _ F=>r4 c F) (by omega) r6 r7 Z (fun b g' f=>by
     refine⟨fun _=>rfl,by omega,Vz,fun i S=>?_,fun _ j hj=>s rfl j (by omega)⟩;rw[ku] at S;rw[r3,getD_eq,a4i _ _ _ _ H];by_cases hin:a.off≤i∧i<a.off+l.length
     ·rw[if_pos hin,if_pos (by rw[← p.1];omega)]
      have e1:k.sh+i-(a.off+k.sh+0)=i-a.off:=by omega
      rw[e1];have o:i-a.off<l.length:=by omega
      obtain⟨z,J,y⟩:=p.get (ai o);refine⟨z,J,?_⟩;rw[ai o];exact y.mono f
     ·rw[if_neg hin,if_neg (by rw[← p.1];omega)]
      obtain⟨z,J,y⟩:=d i S;exact⟨z,J,by exact y.mono f⟩)
   grind
  grind
 grind
theorem oV(f:DR P G ι m w)(j:QL ι m.gen a a')(c:Az ι m.gen v v')
 (h:Nj P t a v m=some m'):∃w' b,(storeVar t a' v').run P w=.ok () w'∧Ext ι m w b m' w'∧DR P G b m' w':=by
 unfold Nj at h;split at h
 ·rename_i i g
  split at h
  ·rename_i e
   obtain⟨w',b,k,d⟩:=Nh f j c.cells h;refine⟨w',b,?_,d⟩;have:v'.cells.size=i.size:=by
    have:=c.cells.1;grind
   simp only[storeVar,Sem.run_bind,run_sizeOf' g,Result.andThen_ok,this,ne_eq,not_true_eq_false,if_false];omega
  grind
 grind
theorem Fe(H:DR P G ι m w)(k:Az ι m.gen s s')
 (h:BH m size n s=some l):∃l',(Builtin.firstCells size n s').run P w=.ok l'.toArray w∧BF ι m.gen l l':=by
 unfold BH at h;split at h
 ·split at h
  ·cases h;cases k
   exact⟨[],by rfl,BF.nil⟩
  grind
 ·split at h
  ·rename_i u
   cases h;cases k with
   |slE b o s a'=>exact⟨[],by subst u;simp only[Builtin.firstCells,Nat.zero_mul,loadCells,loadCellsFrom];rfl,BF.nil⟩
  grind
 ·rename_i b p len g
  split at h
  ·rename_i u
   cases k with
   |sl _ _ _ _ a' N r =>
    by_cases L:n=0
    ·subst L
     obtain⟨F,e,M,ro,J,j,a,f,E⟩:=Ju h;refine⟨[],by simp only[Builtin.firstCells,Nat.zero_mul,loadCells,loadCellsFrom];rfl,?_⟩;rw[E];simp[BF.nil]
    ·obtain⟨q,K,I,Q,i⟩:=r
     obtain⟨F,e,M,ro,J,j,a,f,E⟩:=Ju h;have B:g=m.gen b:=by rw[a];exact j
     obtain⟨S,R,O⟩:=i B;have C:a'=⟨q.blk,p+q.sh,none⟩:=by
      obtain⟨x,y,z⟩:=a';grind
     obtain⟨l',d,A,c⟩:=KY (a':=a') H ⟨q,K,by omega,fun _=>C⟩ h;refine⟨l',?_,d⟩;have:=run_loadCells_list (P:=P) w a' l' c;rw[A] at this;assumption
  grind
 ·rename_i s
  split at h
  ·rename_i u
   cases h;cases k;refine⟨_,?_,p7 _⟩;simp only[Builtin.firstCells,Sem.run_pure];congr 1
   apply gH;simp
  grind
 grind
theorem N9(a:Az ι g s s')(h:lenOf s=some n)(w:World):(Builtin.lenOf s').run P w=.ok n w:=by
 unfold lenOf at h;split at h
 ·cases h;cases a<;>rfl
 ·cases h;cases a;rfl
 grind
theorem Hw(h:DR P G ι m w)(c:w'.heap=w.heap.push (.cells cs e (0,0)))
 (g:w'.tape=w.tape) (k:w'.os=w.os) (d:w'.output=w.output) (r:∀i,i<l.length→∃v',cs[i]?=some v'∧Az ι m.gen (l.getD i undef) v')
 (o:n≤cap) (f:cap=0∨cap*P.cellsOf e≤cs.size) :
 Post P G ι m w (AU m e l n).1 (AU m e l n).2 (.slice (some ⟨w.heap.size,0,none⟩) n cap) w':=by
 obtain⟨b,a,q,p⟩:=Py (x:=.cells l e 0 false) (ib:=⟨w.heap.size,0,cs.size,P.cellsOf e⟩) h c g k d rfl
  ⟨fun _=>rfl,rfl,rfl,fun i s=>by grind,fun _ j _=>by simp⟩ rfl
 refine⟨b,a,q,.sl _ _ _ _ _ _ ⟨_,p,ao _,o,fun _=>⟨rfl,rfl,?_⟩⟩⟩;grind
theorem nR(n:Nat):∀(r c:Nat),c≤n+(n+768) / 4→Builtin.growBy n r c≤n+(n+768) / 4
 |0,c,h=>h
 |r+1,c,h=>by
  simp only[Builtin.growBy];split
  ·exact h
  ·exact nR n r _ (by omega)
theorem nextslicecap_le(n c:Nat)(h:c<n):Builtin.nextslicecap n c≤2*n+192:=by
 unfold Builtin.nextslicecap;split
 ·omega
 ·split
  ·omega
  ·have:=nR n 4 c (by omega);omega
theorem vX{a bytes c:Nat}(h:a*(bytes+1)≤room)(b:c<a):Builtin.nextslicecap a c*bytes≤2^48:=by
 have d:=nextslicecap_le a c b;have j:bytes+1≤room:=by
  refine an ?_ h;have:1*(bytes+1)≤a*(bytes+1):=bk _ (by omega);omega
 have i:Builtin.nextslicecap a c*bytes≤(2*a+192)*bytes:=bk _ d;have g:a*bytes≤room:=an (ck _ (by omega)) h;have f:(2*a+192)*bytes=2*(a*bytes)+192*bytes:=by grind
 have e:room=2^40:=rfl;omega
def D8(e:TypeId)(size:Nat)(zeros:Bool)(n:Nat)(x:Value)(base:Option Addr)(sLen sCap:Nat)(appended:Sem (Array Value)):Sem Value:=do
 let need:=sLen+n
 if need≤sCap then
  let new ← appended
  if let some a:=base then storeCells (a.add (sLen*size)) new.toList
  pure (.slice base need sCap)
 else
  if (need:Int)>IntKind.i64.max∧(zeros∨(← typeInfo e).bytes=0) then runtimePanic (.error "growslice: len out of range")
  if Builtin.nextslicecap need sCap*(← typeInfo e).bytes>2 ^ 48 then (if zeros then runtimePanic (.error "growslice: len out of range") else do
   if !(← Builtin.mayShare size sLen n base x) then mark .noRoom
   unsupported (.resourceLimit "append: a slice or a string whose bytes no memory bears"))
  let newCap ← choose (.appendCap need sCap e)
  askRoom (newCap*(← typeInfo e).bytes)
  let old ← Builtin.firstCells size sLen (.slice base sLen sCap)
  let new ← appended
  let rest:=Builtin.zeroCells (← zeroValue e).cells (newCap-need)
  pure (.slice (some (← newRow e (old++new++rest))) need newCap)
theorem Jr(z:Array Value)(n:Nat):(Builtin.zeroCells z n).size=n*z.size:=by simp[Builtin.zeroCells]
theorem Kq{old new:List Value}
 (l:P.info? e=some i) (r:i.zero=some z) (j:¬ a+n≤b) (d:(a+n)*(i.bytes+1)≤room)
 (f:∀k,(Builtin.firstCells size a (.slice base a b)).run P { w with drawn:=k }=.ok old.toArray { w with drawn:=k })
 (h:∀k,p.run P { w with drawn:=k }=.ok new.toArray { w with drawn:=k }) :
 ∃cap,a+n≤cap∧(D8 e size zeros n x base a b p).run P w =
  .ok (.slice (some ⟨w.heap.size,0,none⟩) (a+n) cap) { w with heap:=w.heap.push (.cells (old.toArray++new.toArray++Builtin.zeroCells z.cells (cap-(a+n))) e (0,0)),drawn:=w.drawn+1 }:=by
 let q:Question:=.appendCap (a+n) b e
 refine⟨q.cut (w.tape w.drawn q),?_,?_⟩
 ·show a+n≤a+n+_%_
  omega
 ·have y:¬ ((a+n:Nat):Int)>IntKind.i64.max:=by
   have o:a+n≤room:=an (Nat.le_mul_of_pos_right _ (by omega)) d;have m:room=2^40:=rfl;rw[IntKind.max_i64];omega
  have o:¬ Builtin.nextslicecap (a+n) b*i.bytes>2^48:=by have:=vX d (c:=b) (by omega);omega
  have m:(Question.appendCap (a+n) b e).forced=false:=rfl;have s:=f (w.drawn+1);have u:=h (w.drawn+1);have g:∀w,(zeroValue e).run P w=.ok z w:=fun w=>by simp[zeroValue,run_typeInfo' l,r]
  simp only[D8];rw[if_neg j];simp only[Sem.run_bind,run_typeInfo' l,Result.andThen_ok,y,false_and,if_false,Sem.run_pure,o,run_choose,m,Bool.false_eq_true,run_askRoom,s,u,g,newRow,run_newObj];rfl
end
section
variable {P:Program}{G:List Nat}
theorem DR.drawn(a:DR P G ι m w)(k:Nat):DR P G ι m { w with drawn:=k }:=⟨a.dom,a.blk,a.inj,a.glob⟩
theorem Eb(h:BH m size n s=some l):l.length=n*size:=by
 unfold BH at h;split at h
 ·grind
 ·grind
 ·split at h
  ·obtain⟨d,e,j,ro,g,c,b,a,f⟩:=Ju h
   grind
  grind
 ·split at h
  ·rename_i i;cases h;simp_all
  grind
 grind
theorem Rz(h:EO i=true):∃z,i.zero=some z∧z.cells.size=i.size:=by
 unfold EO at h;grind
theorem Vb{old new rest:List Value}(h:BF ι g l (old++new))(i:Nat)(a:i<l.length) :
 ∃v',(old.toArray++new.toArray++rest.toArray)[i]?=some v'∧Az ι g (l.getD i undef) v':=by
 obtain⟨v',c,b⟩:=h.get (ai a);grind
theorem N8{e:TypeId}{l l':List Value}{n p d:Nat}{zeros:Bool}{x s v:Value}
 (T:DR P G ι m w) (hi:P.info? e=some i) (hz:EO i=true) (hv:Az ι m.gen s (.slice base p d)) (hsl:lenOf s=some p) (hl:BF ι m.gen l l') (H:l.length=n*i.size)
 (hcell:l.all BQ=true) (M:(p+n)*(i.bytes+1)≤room) (hap:∀k,ap.run P { w with drawn:=k }=.ok l'.toArray { w with drawn:=k })
 (h:BR m e i.size l n s=some (v,m')) :
 ∃v' w',(D8 e i.size zeros n x base p d ap).run P w=.ok v' w'∧Post P G ι m w v m' v' w':=by
 obtain⟨z,hz1,hz2⟩:=Rz hz;have W:ap.run P w=.ok l'.toArray w:=hap w.drawn;unfold BR at h;have Y:∀(old:List Value),p=0→0<n→d=0→(∀k,(Builtin.firstCells i.size p (.slice base p d)).run P { w with drawn:=k }=.ok #[] { w with drawn:=k }) →
  some (AU m e l n)=some (v,m')→∃v' w',(D8 e i.size zeros n x base p d ap).run P w=.ok v' w'∧Post P G ι m w v m' v' w':=fun _ h0 hn hc E h=>by
  obtain⟨cap,J,y⟩:=Kq (old:=[]) (new:=l') (z:=z) (x:=x) (zeros:=zeros) hi hz1 (by omega) M E hap;refine⟨_,_,y,?_⟩;rw[h0,cG] at J ⊢;have hp:=Hw (w':={ w with heap:=w.heap.push (.cells (([]:List Value).toArray++l'.toArray++Builtin.zeroCells z.cells (cap-n)) e (0,0)),drawn:=w.drawn+1 })
   (e:=e) (l:=l) (n:=n) (cap:=cap) T rfl rfl rfl rfl (fun j O=>Vb (old:=[]) (rest:=(Builtin.zeroCells z.cells (cap-n)).toList) (by grind) j O) J
   (.inr (by
    rw[ED hi];have S:(Builtin.zeroCells z.cells (cap-n)).size=(cap-n)*i.size:=by rw[Jr,hz2]
    have V:l'.length=n*i.size:=by rw[← hl.1];omega
    simp only[Array.size_append,List.size_toArray,List.length_nil,S,V,Nat.zero_add];rw[← cL];grind))
  grind
 split at h
 ·
  cases hv;simp only[lenOf,Option.some.injEq] at hsl;split at h
  ·rename_i hn
   cases h;subst hn;have:l'=[]:=aw.1 (by rw[← hl.1,H];simp);subst this;refine⟨.slice none 0 0,w,?_,Post.same T .Dy⟩;simp only[D8,Nat.add_zero,Nat.le_refl,if_true,Sem.run_bind,W,Result.andThen_ok];rfl
  ·exact Y [] rfl (by omega) rfl (fun k=>rfl) h
 ·
  rename_i b o g;cases hv with
  |slE _ _ _ C =>
   split at h
   ·rename_i hn
    cases h;subst hn;have:l'=[]:=aw.1 (by rw[← hl.1,H];simp);subst this;refine⟨.slice (some C) 0 0,w,?_,Post.same T (.slE _ _ _ _)⟩;simp only[D8,Nat.add_zero,Nat.le_refl,if_true,Sem.run_bind,W,Result.andThen_ok];rfl
   ·exact Y [] rfl (by omega) rfl (fun k=>by simp only[Builtin.firstCells,Nat.zero_mul,loadCells,loadCellsFrom];rfl) h
 ·
  rename_i b off len g;split at h
  ·rename_i vs e' g' K
   split at h
   ·rename_i hc
    simp only[Bool.and_eq_true,beq_iff_eq,decide_eq_true_eq] at hc;obtain⟨⟨rfl,rfl⟩,hsize⟩:=hc;split at h
    ·rename_i old E
     cases h;obtain⟨hle,rfl⟩:=F9 E;simp only[lenOf,Option.some.injEq] at hsl;subst hsl;cases hv with
     |sl _ _ _ _ C cap hsr =>
      obtain⟨q,hb,_,q3,hcur⟩:=hsr;obtain⟨q1,Z,q4⟩:=hcur (Mem.H7 K).symm;obtain⟨cs,fr,e0,L,F,Vz,X,hfr0⟩:=Hu T hb K;obtain⟨he0,yg⟩:=hfr0 rfl;have he1:=he0.symm;subst he1;have hfr:∀(_:false=false) j,j<cs.size→¬ (fr.1≤j∧j<fr.2):=fun _=>yg
      have Q:q.esz=i.size:=by rw[Vz,ED hi]
      have N:l'.length=n*i.size:=by rw[← hl.1];exact H
      rw[bA] at hle;by_cases A:len+n≤d
      ·by_cases hc0:d=0
       ·
        have hl0:len=0:=by omega
        have hn0:n=0:=by omega
        subst hl0;subst hn0;have hl'0:l'=[]:=aw.1 (by rw[N];simp);have hl0:l=[]:=aw.1 (by rw[H];simp);subst hl'0;subst hl0;obtain⟨r,B,Dk,R⟩:=JJ (x:=.cells [] e (g+1) false) (ib':=q) (w':=w) (obj:=.cells cs e fr) T hb (Mem.Qz K) rfl
         ⟨by rw[Mem.H7 K];exact cT _,fun h=>absurd h (by rw[Mem.H7 K];simp only[G8.gen];omega)⟩ (.inl rfl) L (fun c _ _=>rfl) (ab _) rfl rfl rfl
         (fun r g' _=>⟨fun _=>rfl,F,Vz,fun i hi=>absurd hi (by simp),fun _=>hfr rfl⟩)
        refine⟨.slice (some C) 0 d,w,?_,r,?_,?_,?_⟩
        ·simp only[D8,Nat.add_zero,A,if_true,Sem.run_bind,W,Result.andThen_ok]
         rfl
        ·simpa using B
        ·simpa using Dk
        ·exact .sl _ _ _ _ _ _ ⟨q,R,by simp[Mem.gen,cg,G8.gen],by omega,fun _=>⟨q1,Z,.inl hc0⟩⟩
       ·
        obtain⟨q5,q6⟩:C.off=off+q.sh∧C.off+d*q.esz≤q.lim:=by
         rcases q4 with h|h
         ·exact absurd h hc0
         ·exact h
        have ha':C=⟨q.blk,off+q.sh,none⟩:=by
         obtain⟨x1,y1,z1⟩:=C;simp at q1 Z q5;simp[q1,Z,q5]
        have hmul:(len+n)*i.size≤d*i.size:=bk _ A;rw[cL] at hmul;rw[Q,F] at q6;obtain⟨w',cs',y,r1,r2,r3,r4,r5,r6,r7,r8⟩:=Hz (P:=P) q.blk e fr (off+q.sh+len*i.size) l' 0 w cs L (hl.VJ hcell) (by omega) (hfr rfl);obtain⟨r,B,Dk,R⟩:=JJ (x:=.cells ((vs.drop off).take (len*i.size)++l) e (g+1) false) (ib':=⟨q.blk,q.sh+off,q.lim,q.esz⟩) (w':=w') (obj:=.cells cs' e fr) T hb (Mem.Qz K) rfl
         ⟨by rw[Mem.H7 K];exact cT _,fun h=>absurd h (by rw[Mem.H7 K];simp only[G8.gen];omega)⟩ (.inl rfl) r1 (fun c _ hne=>r4 c hne) (by omega) r6 r7 r8
         (fun r g' I=>by
          refine⟨fun _=>rfl,by rw[F];exact r2.symm,Vz,fun k hk=>?_,fun _ j O=>hfr rfl j (by omega)⟩;simp only[List.length_append,List.length_take,List.length_drop] at hk;show ∃v',cs'[(q.sh+off)+k]?=some v'∧Az r g' _ v';rw[r3,getD_eq];by_cases hk1:k<len*i.size
          ·rw[if_neg (by omega),cq (by rw[av,bA];omega),eZ,if_pos hk1,gx]
           obtain⟨v',S,V⟩:=X (off+k) (by omega);refine⟨v',?_,by rw[← getD_eq];exact V.mono I⟩;rw[← S];congr 1;omega
          ·rw[if_pos (by omega),bp (by rw[av,bA];omega)]
           have e1:k-(List.take (len*i.size) (List.drop off vs)).length=k-len*i.size:=by rw[av,bA];omega
           have e2:q.sh+off+k-(off+q.sh+len*i.size+0)=k-len*i.size:=by omega
           rw[e1];show ∃v',l'[q.sh+off+k-(off+q.sh+len*i.size+0)]?=some v'∧_;rw[e2];have hlt:k-len*i.size<l.length:=by omega
           obtain⟨v',S,V⟩:=hl.get (ai hlt);refine⟨v',S,?_⟩;rw[ai hlt];exact V.mono I)
        refine⟨.slice (some C) (len+n) d,w',?_,r,B,Dk,?_⟩
        ·simp only[D8,A,if_true,Sem.run_bind,W,Result.andThen_ok,ha',addr_add,y,Sem.run_pure]
        ·exact .sl _ _ _ _ _ _ ⟨_,R,by simp[Mem.gen,cg,G8.gen],A,fun _=>⟨q1,Z,.inr ⟨by simp[q5];omega,by simp only;rw[Q,F];exact q6⟩⟩⟩
      ·
       have d0y:∃f,BF ι m.gen ((vs.drop off).take (len*i.size)) f∧∀k,(Builtin.firstCells i.size len (.slice (some C) len d)).run P { w with drawn:=k }=.ok f.toArray { w with drawn:=k }:=by
        have hsc:BH m i.size len (.slice (some ⟨b,off,none⟩) len g)=some ((vs.drop off).take (len*i.size)):=by
         simp only[BH,Nat.le_refl,if_true,Mem.Es,K,MK,Option.getD_some];exact E
        have QS:Az ι m.gen (.slice (some ⟨b,off,none⟩) len g) (.slice (some C) len d):=.sl _ _ _ _ _ _ ⟨q,hb,by rw[Mem.H7 K];exact ab _,q3,fun _=>⟨q1,Z,q4⟩⟩;obtain⟨f,S,V⟩:=Fe T QS hsc;refine⟨f,V,fun k=>?_⟩;obtain⟨d1t,h3,h4⟩:=Fe (T.drawn k) QS hsc;have hsame:d1t=f:=by
         have g1:∀(a:Addr),({ w with drawn:=k }:World).cell? a=w.cell? a:=fun a=>rfl
         by_cases hz0:len=0
         ·subst hz0
          have hA:=S;have hB:=h3;simp only[Builtin.firstCells,Nat.zero_mul,loadCells,loadCellsFrom,Sem.run_pure] at hA hB;injection hA with hA _
          injection hB with hB _
          have hA1:f=[]:=(congrArg Array.toList hA).symm;have hB1:d1t=[]:=(congrArg Array.toList hB).symm;rw[hA1,hB1]
         ·have q5:C.off=off+q.sh:=by
           rcases q4 with h|h
           ·omega
           ·exact h.1
          have ha':C=⟨q.blk,off+q.sh,none⟩:=by
           obtain⟨x1,y1,z1⟩:=C;simp at q1 Z q5;simp[q1,Z,q5]
          have hget:∀j,j<len*i.size→∃u,w.cell? (C.add j)=some u:=fun j O=>by
           obtain⟨u,hu,_⟩:=X (off+j) (by omega);exact⟨u,by rw[ha',addr_add,cell_of_row L,← hu];congr 1;omega⟩
          have U:∀j,∃u,j<len*i.size→w.cell? (C.add j)=some u:=fun j=>by
           by_cases O:j<len*i.size
           ·obtain⟨u,hu⟩:=hget j O;exact⟨u,fun _=>hu⟩
           ·exact⟨undef,fun h=>absurd h O⟩
          have f1:=run_loadCells (P:=P) w C (len*i.size) (fun j=>(U j).choose) (fun j O=>(U j).choose_spec O);have f2:=run_loadCells (P:=P) { w with drawn:=k } C (len*i.size) (fun j=>(U j).choose) (fun j O=>(U j).choose_spec O);simp only[Builtin.firstCells] at S h3;rw[S] at f1;rw[h3] at f2;injection f1 with f1 _
          injection f2 with f2 _
          have:=f1.trans f2.symm;simpa using this.symm
        rw[hsame] at h3;exact h3
       obtain⟨f,hor,hord⟩:=d0y;obtain⟨cap,J,y⟩:=Kq (old:=f) (new:=l') (z:=z) (x:=x) (zeros:=zeros) hi hz1 A M hord hap;refine⟨_,_,y,?_⟩;have ho1:f.length=len*i.size:=by rw[← hor.1,av,bA];omega
       have hsz:(f.toArray++l'.toArray++Builtin.zeroCells z.cells (cap-(len+n))).size=cap*i.size:=by
        simp only[Array.size_append,List.size_toArray,Jr,hz2,ho1,N];rw[← cL,← cL];congr 1;omega
       obtain⟨r,B,Dk,R⟩:=JJ (x:=.cells ((vs.drop off).take (len*i.size)++l) e (g+1) false) (ib':=⟨w.heap.size,0,cap*i.size,P.cellsOf e⟩)
        (w':={ w with heap:=w.heap.push (.cells (f.toArray++l'.toArray++Builtin.zeroCells z.cells (cap-(len+n))) e (0,0)),drawn:=w.drawn+1 })
        (obj:=.cells (f.toArray++l'.toArray++Builtin.zeroCells z.cells (cap-(len+n))) e (0,0)) T hb (Mem.Qz K) rfl
        ⟨by rw[Mem.H7 K];exact cT _,fun h=>absurd h (by rw[Mem.H7 K];simp only[G8.gen];omega)⟩ (.inr (ab _)) (by simp)
        (fun c hc _=>by show(w.heap.push _)[c]?=_;rw[gn,if_neg (by omega)]) (by simp) rfl rfl rfl
        (fun r g' I=>by
         refine⟨fun _=>rfl,hsz.symm,rfl,fun k hk=>?_,fun _ j O=>by simp⟩;have hk':=Vb (rest:=(Builtin.zeroCells z.cells (cap-(len+n))).toList) (hor.append hl) k hk;obtain⟨v',S,V⟩:=hk';exact⟨v',by simpa using S,V.mono I⟩)
       refine⟨r,B,Dk,.sl _ _ _ _ _ _ ⟨_,R,by simp[Mem.gen,cg,G8.gen],J,fun _=>⟨rfl,rfl,.inr ⟨rfl,?_⟩⟩⟩⟩;simp only[ED hi,Nat.zero_add,Nat.le_refl]
    grind
   grind
  grind
 grind
end
section
variable {P:Program}{G:List Nat}
def QB(ι:BJ)(g:Nat→Nat)(Bo as':Array Value):Prop:=∀(i:Nat) v,Bo[i]?=some v→∃v',as'[i]?=some v'∧Az ι g v v'
theorem Iu(a:Addr)(k:Nat):∀(n i:Nat) (acc:Array Value) (w:World) (r:Array Value),(loadCellsFrom a i n acc).run P w=.ok r w →
 (loadCellsFrom a i n acc).run P { w with drawn:=k }=.ok r { w with drawn:=k }
 |0,i,acc,w,r,h=>by
  simp only[loadCellsFrom,Sem.run_pure] at h ⊢;grind
 |n+1,i,acc,w,r,h=>by
  simp only[loadCellsFrom,Sem.run_bind,run_load] at h ⊢;have c:({ w with drawn:=k }:World).cell? (a.add i)=w.cell? (a.add i):=rfl;have b:({ w with drawn:=k }:World).farLoad P (a.add i) (Mode.plain==Mode.atomic)=w.farLoad P (a.add i) (Mode.plain==Mode.atomic):=rfl;rw[c,b];cases hc:w.cell? (a.add i) with
  |some v =>
   rw[hc] at h;exact Iu a k n (i+1) (acc.push v) w r h
  |none =>
   rw[hc] at h;cases hf:w.farLoad P (a.add i) (Mode.plain==Mode.atomic) with
   |ok v =>
    rw[hf] at h;exact Iu a k n (i+1) (acc.push v.1) w r h
   |error e=>simp_all
theorem Kz(k:Nat)(h:(Builtin.firstCells size n x).run P w=.ok r w) :
 (Builtin.firstCells size n x).run P { w with drawn:=k }=.ok r { w with drawn:=k }:=by
 unfold Builtin.firstCells at h ⊢;split
 ·rename_i a _ _
  exact Iu a k _ _ _ _ _ h
 ·simp_all
 ·simp_all
 simp_all
theorem Ou(ty:TypeId)
 (s:f[0]?=some h) (r:Bo[0]?=some (.slice base a b)) (q:Bo[1]?=some x) (p:f[1]?=some g)
 (m:P.underlying h=some (.slice e)) (l:P.underlying g=some c) (d:∀k,c≠.int k) (o:P.info? e=some i) (j:∀w,(Builtin.lenOf x).run P w=.ok n w) :
 (Builtin.append_ f ty Bo).run P w=(D8 e i.size false n x base a b (Builtin.firstCells i.size n x)).run P w:=by
 simp only[Builtin.append_,s,r,q,p,Sem.run_bind,run_underlying m,Result.andThen_ok,run_sizeOf' o,run_underlying l,Sem.run_pure];cases c<;>first
  |exact absurd rfl (d _)
  |(simp only[Bool.false_eq_true,if_false,j,Result.andThen_ok,Bool.not_false,if_true,D8,Sem.run_bind];rfl)
  |(simp only[Bool.false_eq_true,if_false,j,Result.andThen_ok,Bool.not_false,if_true,D8])
theorem wrap_small(a:0≤n)(b:n≤2^40):IntKind.i64.wrap n=n:=by
 have e:n%(2^64:Int)=n:=Int.emod_eq_of_lt a (by omega);simp only[IntKind.wrap,IntKind.bits,IntKind.signed,e,Bool.true_and];grind
theorem X6(ty:TypeId)
 (y:h[0]?=some l) (q:Bo[0]?=some (.slice base a b)) (p:Bo[1]?=some (.int m nn)) (o:h[1]?=some j)
 (u:P.underlying l=some (.slice e)) (r:P.underlying j=some (.int k)) (n:P.info? e=some i) (g:0≤nn) (x:nn≤2^30) (c:(a+nn.toNat)*(i.bytes+1)≤room) :
 (Builtin.append_ h ty Bo).run P w=(D8 e i.size true nn.toNat (.int m nn) base a b
  (if nn.toNat*i.size=0 then pure #[] else do pure (Builtin.zeroCells (← zeroValue e).cells nn.toNat))).run P w:=by
 have s:IntKind.i64.wrap nn=nn:=wrap_small g (by omega);have d:¬ nn<0:=by omega
 have f:¬ nn*(i.bytes:Int)>2^48:=by
  have q:nn.toNat*(i.bytes+1)≤room:=an (bk _ (by omega)) c;have p:nn.toNat*i.bytes≤nn.toNat*(i.bytes+1):=ck _ (by omega);have o:nn*(i.bytes:Int)=((nn.toNat*i.bytes:Nat):Int):=by grind
  have z:room=2^40:=rfl;omega
 simp only[Builtin.append_,y,q,p,o,Sem.run_bind,run_underlying u,Result.andThen_ok,run_sizeOf' n,run_underlying r,Sem.run_pure,if_true,asInt,asIntOf,s,d,if_false,
  run_typeInfo' n,f,Bool.not_true,Bool.false_eq_true,D8]
 rfl
theorem oZ{ι:BJ}(ty:TypeId)(M:DR P G ι m w)(Z:QB ι m.gen Bo I)
 (h:Jq P aT Bo m=some (v,m')):∃v' w',(Builtin.append_ aT ty I).run P w=.ok v' w'∧Post P G ι m w v m' v' w':=by
 unfold Jq at h;split at h
 ·rename_i sT s x xT W q1 q2 V
  split at h
  ·rename_i e xd d f X b
   split at h
   ·rename_i i H
    split at h
    ·cases h
    ·rename_i hz
     have A:EO i=true:=by grind
     obtain⟨U,C,c⟩:=Z 0 s q1;obtain⟨T,B,o⟩:=Z 1 x q2;split at h
     ·rename_i k
      split at h
      ·rename_i kk j z L
       split at h
       ·rename_i r
        simp only[Bool.and_eq_true,decide_eq_true_eq] at r;obtain⟨⟨⟨c1,c2⟩,c3⟩,c4⟩:=r;cases o;have p:∃base a,U=.slice base d a:=by
         cases c<;>simp only[lenOf,Option.some.injEq,reduceCtorEq] at b
         ·contradiction
         ·grind
         ·grind
         grind
        obtain⟨base,a,rfl⟩:=p;have y:∃J,i.zero=some J∧z=J.cells.toList∧z.all plainCell=true:=by
         unfold Ci zeroOf at L;grind
        obtain⟨J,z1,z2,S⟩:=y;have q:∀k,((if j.toNat*i.size=0 then pure #[] else do pure (Builtin.zeroCells (← zeroValue e).cells j.toNat):Sem (Array Value))).run P { w with drawn:=k } =
         .ok (AO z j.toNat).toArray { w with drawn:=k }:=fun k=>by
         split
         ·rename_i h0
          have:AO z j.toNat=[]:=aw.1 (by rw[Fa,c4];omega);simp_all
         ·rename_i h0
          have R:0<z.length:=by
           grind
          rw[← L6 z j.toNat R];have K:(zeroValue e).run P { w with drawn:=k }=.ok J { w with drawn:=k }:=by simp[zeroValue,run_typeInfo' H,z1]
          simp only[Sem.run_bind,K,Result.andThen_ok,Sem.run_pure,Builtin.zeroCells];grind
        have:=N8 (zeros:=true) (x:=.int kk j) M H A c b (mb (ι:=ι) (g:=m.gen) S j.toNat) (by rw[Fa,c4])
         (by
          rw[aE];intro u f;have:∀n,∀u∈AO z n,plainCell u=true:=fun n=>by
           induction n with
           |zero=>intro u f;cases f
           |succ n ih=>intro u f;rcases bt.1 f with h|h
                       ·exact aE.1 S u h
                       ·exact ih u h
          have F:=this _ u f;cases u<;>first|rfl|simp[plainCell] at F) c3 q h
        obtain⟨v',w',O,F⟩:=this;exact⟨v',w',by rw[X6 ty W C B V f X H c1 c2 c3];exact O,F⟩
       grind
      grind
     ·rename_i Q
      split at h
      ·rename_i n hn
       split at h
       ·rename_i l Y
        split at h
        ·rename_i r
         simp only[Bool.and_eq_true,decide_eq_true_eq] at r;have p:∃base a,U=.slice base d a:=by
          cases c<;>simp only[lenOf,Option.some.injEq,reduceCtorEq] at b
          ·subst b;simp[BR] at h
          ·exact⟨_,_,by rw[b]⟩
          ·exact⟨_,_,by rw[b]⟩
          ·exact⟨_,_,by rw[b]⟩
         obtain⟨base,a,rfl⟩:=p;obtain⟨l',O,E⟩:=Fe M o Y;have q:∀k,(Builtin.firstCells i.size n T).run P { w with drawn:=k }=.ok l'.toArray { w with drawn:=k }:=fun k=>Kz k O
         obtain⟨v',w',N,F⟩:=N8 (zeros:=false) (x:=T) M H A c b E (Eb Y) r.2 r.1 q h;exact⟨v',w',by rw[Ou ty W C B V f X (fun k e=>Q k e) H (fun w=>N9 o hn w)];exact N,F⟩
        ·cases h
       ·cases h
      ·cases h
   grind
  grind
 grind
end
end Go.Am
