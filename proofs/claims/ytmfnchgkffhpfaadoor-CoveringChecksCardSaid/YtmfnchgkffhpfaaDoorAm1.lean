/-
  The abstract machine: a deterministic evaluator of the model's code over an abstract memory. Definitions alone. No condition. Nothing of one program stands here.
-/
import Derived.Orders
namespace Go.Am

/-! ## A table by numbers: a trie -/
inductive Tr (α : Type) where
  | leaf
  | node (v : α) (l r : Tr α)

def bits : Nat → Nat → List Bool
  | 0, _ => []
  | f + 1, n => if n = 0 then [] else (n % 2 == 1) :: bits f (n / 2)

def path (n : Nat) : List Bool := bits (n.log2 + 1) n

def Tr.getP {α : Type} (d : α) : Tr α → List Bool → α
  | .leaf, _ => d
  | .node v _ _, [] => v
  | .node _ l r, b :: p => match b with
    | true => Tr.getP d r p
    | false => Tr.getP d l p

def Tr.setP {α : Type} (d : α) (x : α) : List Bool → Tr α → Tr α
  | [], .leaf => .node x .leaf .leaf
  | [], .node _ l r => .node x l r
  | b :: p, t => match b, t with
    | true, .leaf => .node d .leaf (Tr.setP d x p .leaf)
    | false, .leaf => .node d (Tr.setP d x p .leaf) .leaf
    | true, .node v l r => .node v l (Tr.setP d x p r)
    | false, .node v l r => .node v (Tr.setP d x p l) r

theorem Tr.get_leaf {α : Type} (d : α) (p : List Bool) : Tr.getP d (.leaf) p = d := by cases p <;> rfl

theorem Tr.get_set {α : Type} (d x : α) : ∀ (p : List Bool) (t : Tr α) (q : List Bool), Tr.getP d (Tr.setP d x p t) q = if p = q then x else Tr.getP d t q
  | [], .leaf, [] => rfl
  | [], .leaf, b :: q => by simp only [Tr.setP, Tr.getP]; cases b <;> simp [Tr.get_leaf]
  | [], .node _ _ _, [] => rfl
  | [], .node _ _ _, b :: q => by simp [Tr.setP, Tr.getP]
  | b :: p, .leaf, [] => by cases b <;> simp [Tr.setP, Tr.getP]
  | b :: p, .node _ _ _, [] => by cases b <;> simp [Tr.setP, Tr.getP]
  | b :: p, .leaf, c :: q => by
    have ih := Tr.get_set d x p .leaf q
    cases b <;> cases c <;> simp [Tr.setP, Tr.getP, ih, Tr.get_leaf]
  | b :: p, .node v l r, c :: q => by
    have ihl := Tr.get_set d x p l q
    have ihr := Tr.get_set d x p r q
    cases b <;> cases c <;> simp [Tr.setP, Tr.getP, ihl, ihr]

def unbits : List Bool → Nat
  | [] => 0
  | b :: l => (if b then 1 else 0) + 2 * unbits l

theorem unbits_bits : ∀ (f n : Nat), n < 2 ^ f → unbits (bits f n) = n
  | 0, n, h => by have : n = 0 := by simpa using h
                  simp [bits, unbits, this]
  | f + 1, n, h => by
    unfold bits
    split
    · rename_i h0; simp [unbits, h0]
    · have ih := unbits_bits f (n / 2) (by rw [Nat.pow_succ] at h; omega)
      simp only [unbits, ih, beq_iff_eq]
      split <;> omega

theorem path_inj {n m : Nat} (h : path n = path m) : n = m := by
  have hn := unbits_bits (n.log2 + 1) n Nat.lt_log2_self
  have hm := unbits_bits (m.log2 + 1) m Nat.lt_log2_self
  unfold path at h
  rw [← hn, ← hm, h]

/-! ## Memory -/
inductive ABlk where
  | none
  | cells (vs : List Value) (elem : TypeId) (gen : Nat) (ro : Bool)
  | map (es : List MapEntry) (clock : Nat)

def ABlk.gen : ABlk → Nat
  | .cells _ _ g _ => g
  | _ => 0
def ABlk.ro : ABlk → Bool
  | .cells _ _ _ r => r
  | _ => false

structure Mem where
  t : Tr ABlk
  size : Nat
  low : Nat

def Mem.get (m : Mem) (b : Nat) : ABlk := Tr.getP .none m.t (path b)
def Mem.put (m : Mem) (b : Nat) (x : ABlk) : Mem := { t := Tr.setP .none x (path b) m.t, size := m.size, low := min m.low b }
def Mem.alloc (m : Mem) (x : ABlk) : Mem := { t := Tr.setP .none x (path m.size) m.t, size := m.size + 1, low := m.low }
def Mem.gen (m : Mem) (b : Nat) : Nat := (m.get b).gen
def Mem.ro (m : Mem) (b : Nat) : Bool := (m.get b).ro

theorem Mem.get_put (m : Mem) (b c : Nat) (x : ABlk) : (m.put b x).get c = if b = c then x else m.get c := by
  unfold Mem.get Mem.put
  simp only [Tr.get_set]
  by_cases h : b = c
  · simp [h]
  · rw [if_neg h, if_neg (fun e => h (path_inj e))]

theorem Mem.get_alloc (m : Mem) (c : Nat) (x : ABlk) : (m.alloc x).get c = if m.size = c then x else m.get c := by
  unfold Mem.get Mem.alloc
  simp only [Tr.get_set]
  by_cases h : m.size = c
  · simp [h]
  · rw [if_neg h, if_neg (fun e => h (path_inj e))]

/-- the slots of a frame -/
def tget (t : Tr Value) (i : Nat) : Value := Tr.getP undef t (path i)
def tset (t : Tr Value) (i : Nat) (v : Value) : Tr Value := Tr.setP undef v (path i) t

theorem tget_tset (t : Tr Value) (i j : Nat) (v : Value) : tget (tset t i v) j = if i = j then v else tget t j := by
  unfold tget tset
  rw [Tr.get_set]
  by_cases h : i = j
  · simp [h]
  · rw [if_neg h, if_neg (fun e => h (path_inj e))]

structure St where
  t : Tr Value
  m : Mem

def ev (t : Tr Value) : Operand → Value
  | .tmp i => tget t i
  | .const v => v
  | .global g => .pointer (some ⟨g, 0, none⟩)
  | .func f => .func (.func f) #[] #[]

def tput (t : Tr Value) (dst : Option Tmp) (v : Value) : Tr Value :=
  match dst with
  | some d => tset t d v
  | none => t

/-! ## Values without addresses -/
def plainCell : Value → Bool
  | .bool _ | .int _ _ | .string _ | .float _ _ | .pointer none | .slice none 0 0 | .map none | .nilFunc | .nilIface => true
  | .func (.func _) a b => a.size == 0 && b.size == 0
  | _ => false
def plainOne : Value → Bool
  | .agg cs => cs.toList.all plainCell
  | v => plainCell v
def plain : Value → Bool
  | .tuple vs => vs.toList.all plainOne
  | v => plainOne v
def isCell : Value → Bool
  | .agg _ | .tuple _ => false
  | _ => true

/-- an operation that asks nothing of the world -/
def dry {α : Type} (P : Program) : Sem α → Option α
  | .pure a => some a
  | .program k => dry P (k P)
  | _ => none

theorem dry_run {α : Type} {P : Program} {s : Sem α} {a : α} (h : dry P s = some a) (w : World) : s.run P w = .ok a w := by
  induction s <;> simp_all [dry, Sem.run]

/-- .. and whose result has no address -/
def dryV (P : Program) (s : Sem Value) : Option Value :=
  match dry P s with
  | some v => if plain v then some v else none
  | none => none

/-! ## Types -/
def zeroOf (P : Program) (t : TypeId) : Option Value := (P.info? t).bind (·.zero)
def isAggT (P : Program) (t : TypeId) : Option Bool :=
  match P.underlying t with
  | some (.struct _) | some (.array _ _) => some true
  | some _ => some false
  | none => none
/-- the zero value's cells, if they are plain -/
def zeroCellsOf (P : Program) (t : TypeId) : Option (List Value) :=
  match zeroOf P t with
  | some z => if z.cells.toList.all plainCell then some z.cells.toList else none
  | none => none

/-! ## Reading and writing cells -/
def agen (a : Addr) : Nat := a.spot.getD 0

def takeN (n : Nat) (l : List Value) : Option (List Value) := if n ≤ l.length then some (l.take n) else none

def Mem.cellsAt (m : Mem) (a : Addr) (n : Nat) : Option (List Value) :=
  match m.get a.block with
  | .cells vs _ g _ => if agen a = g then takeN n (vs.drop a.off) else none
  | _ => none

def aload (P : Program) (t : TypeId) (a : Addr) (m : Mem) : Option Value :=
  match isAggT P t with
  | some true => match P.info? t with
    | some i => (m.cellsAt a i.size).map fun l => .agg l.toArray
    | none => none
  | some false => (m.cellsAt a 1).bind fun l => l.head?
  | none => none

def splice (vs : List Value) : Nat → List Value → List Value
  | _, [] => vs
  | o, v :: l => splice (vs.set o v) (o + 1) l

def storeRow (m : Mem) (a : Addr) (l : List Value) : Option Mem :=
  match m.get a.block with
  | .cells vs e g false =>
    if agen a = g && decide (a.off + l.length ≤ vs.length) && decide (0 < l.length) && l.all isCell then some (m.put a.block (.cells (splice vs a.off l) e g false)) else none
  | _ => none

def astore (P : Program) (t : TypeId) (a : Addr) (v : Value) (m : Mem) : Option Mem :=
  match P.info? t with
  | some i => if v.cells.size = i.size then storeRow m a v.cells.toList else none
  | none => none

/-- the slice without room -/
def emptyAt : Option Addr := some ⟨0, 0, some 0⟩

/-- the cells of n elements of a slice, or of a string -/
def sliceCells (m : Mem) (size n : Nat) : Value → Option (List Value)
  | .slice none 0 0 => if n = 0 then some [] else none
  | .slice (some ⟨_, _, some _⟩) 0 0 => if n = 0 then some [] else none
  | .slice (some ⟨b, off, none⟩) len g => if n ≤ len then m.cellsAt ⟨b, off, some g⟩ (n * size) else none
  | .string s => if n ≤ s.size ∧ size = 1 then some ((s.data.toList.take n).map fun c => .int .u8 c.toNat) else none
  | _ => none

def lenOf : Value → Option Nat
  | .slice _ n _ => some n
  | .string s => some s.size
  | _ => none

def repeatCells (z : List Value) : Nat → List Value
  | 0 => []
  | n + 1 => z ++ repeatCells z n

/-- a bound on bytes, far below what the model refuses -/
def room : Nat := 2 ^ 40

def newSlice (m : Mem) (e : TypeId) (l : List Value) (n : Nat) : Value × Mem :=
  (.slice (some ⟨m.size, 0, none⟩) n 0, m.alloc (.cells l e 0 false))

/-- 'append' of cells l (n elements of type e) to slice s -/
def appendCells (m : Mem) (e : TypeId) (size : Nat) (l : List Value) (n : Nat) : Value → Option (Value × Mem)
  | .slice none 0 0 => if n = 0 then some (.slice none 0 0, m) else some (newSlice m e l n)
  | .slice (some ⟨b, o, some g⟩) 0 0 => if n = 0 then some (.slice (some ⟨b, o, some g⟩) 0 0, m) else some (newSlice m e l n)
  | .slice (some ⟨b, off, none⟩) len g =>
    match m.get b with
    | .cells vs e' g' false =>
      if g = g' && e = e' && decide (0 < size) then
        match takeN (len * size) (vs.drop off) with
        | some old => some (.slice (some ⟨b, 0, none⟩) (len + n) (g + 1), m.put b (.cells (old ++ l) e (g + 1) false))
        | none => none
      else none
    | _ => none
  | _ => none

/-- the zero value is there, and as many cells as the type -/
def zeroSized (i : TypeInfo) : Bool := match i.zero with | some z => z.cells.size == i.size | none => false

def aappend (P : Program) (argTypes : Array TypeId) (args : Array Value) (m : Mem) : Option (Value × Mem) :=
  match argTypes[0]?, args[0]?, args[1]?, argTypes[1]? with
  | some sT, some s, some x, some xT =>
    match P.underlying sT, P.underlying xT, lenOf s with
    | some (.slice e), some xd, some sLen =>
      match P.info? e with
      | some i =>
        if !(zeroSized i) then none else
        match xd with
        | .int _ => match x, zeroCellsOf P e with
          | .int _ n, some z =>
            if 0 ≤ n && decide (n ≤ 2 ^ 30) && decide ((sLen + n.toNat) * (i.bytes + 1) ≤ room) && decide (z.length = i.size)
            then appendCells m e i.size (repeatCells z n.toNat) n.toNat s else none
          | _, _ => none
        | _ => match lenOf x with
          | some n => match sliceCells m i.size n x with
            | some l => if (sLen + n) * (i.bytes + 1) ≤ room && l.all isCell then appendCells m e i.size l n s else none
            | none => none
          | none => none
      | none => none
    | _, _, _ => none
  | _, _, _, _ => none

def acopy (P : Program) (argTypes : Array TypeId) (args : Array Value) (m : Mem) : Option (Value × Mem) :=
  match argTypes[0]?, (args[0]? : Option Value), args[1]? with
  | some dT, some (.slice base dLen g), some src =>
    match P.underlying dT, lenOf src with
    | some (.slice e), some sLen =>
      match P.info? e with
      | some i =>
        let n := Nat.min sLen dLen
        if n = 0 then some (.int .i64 0, m)
        else match base, sliceCells m i.size n src with
          | some ⟨b, off, none⟩, some l => (storeRow m ⟨b, off, some g⟩ l).map fun m' => (.int .i64 n, m')
          | _, _ => none
      | none => none
    | _, _ => none
  | _, _, _ => none

def alen (P : Program) (argTypes : Array TypeId) (args : Array Value) (m : Mem) : Option Value :=
  match argTypes[0]?, args[0]? with
  | some t, some x =>
    match P.underlying t, x with
    | some .string, .string s => some (.int .i64 s.size)
    | some (.array n _), _ => some (.int .i64 n)
    | some (.slice _), .slice _ n _ => some (.int .i64 n)
    | some (.map _ _), .map none => some (.int .i64 0)
    | some (.map _ _), .map (some r) => match m.get r with
      | .map es _ => some (.int .i64 es.length)
      | _ => none
    | _, _ => none
  | _, _ => none

def acap (P : Program) (argTypes : Array TypeId) (args : Array Value) : Option Value :=
  match argTypes[0]? with
  | some t => match P.underlying t with
    | some (.slice _) => match (args[0]? : Option Value) with
      | some (.slice none 0 0) => some (.int .i64 0)
      | some (.slice (some ⟨_, _, some _⟩) 0 0) => some (.int .i64 0)
      | _ => none
    | _ => none
  | none => none

/-! ## Integers, directly -/
def aint (op : BinOp) (k : IntKind) (x y : Int) : Option Value :=
  match op with
  | .add => some (.int k (k.wrap (x + y)))
  | .sub => some (.int k (k.wrap (x - y)))
  | .mul => some (.int k (k.wrap (x * y)))
  | .eql => some (.bool (x == y))
  | .neq => some (.bool (x != y))
  | .lss => some (.bool (x < y))
  | .leq => some (.bool (x ≤ y))
  | .gtr => some (.bool (x > y))
  | .geq => some (.bool (x ≥ y))
  | .quo => if y = 0 then none else some (.int k (k.wrap (x.tdiv y)))
  | .rem => if y = 0 then none else some (.int k (x.tmod y))
  | .and => some (.int k (k.wrap (BitVec.ofInt k.bits x &&& BitVec.ofInt k.bits y).toNat))
  | .or => some (.int k (k.wrap (BitVec.ofInt k.bits x ||| BitVec.ofInt k.bits y).toNat))
  | .xor => some (.int k (k.wrap (BitVec.ofInt k.bits x ^^^ BitVec.ofInt k.bits y).toNat))
  | .andNot => some (.int k (k.wrap (BitVec.ofInt k.bits x &&& ~~~ BitVec.ofInt k.bits y).toNat))
  | _ => none

def ashift (op : BinOp) (k : IntKind) (x y : Int) : Option Value :=
  if y < 0 then none else
  match op with
  | .shl => some (.int k (k.wrap (x * 2 ^ (min y.toNat k.bits))))
  | .shr => some (.int k (x.fdiv (2 ^ (min y.toNat k.bits))))
  | _ => none

def isNilSlice : Value → Option Bool
  | .slice none _ _ => some true
  | .slice (some _) _ _ => some false
  | _ => none

def aeqNil (op : BinOp) (b : Bool) : Option Value :=
  match op with
  | .eql => some (.bool b)
  | .neq => some (.bool !b)
  | _ => none

def abin (P : Program) (op : BinOp) (t : TypeId) (xo yo : Operand) (x y : Value) : Option Value :=
  match x, y with
  | .int k a, .int k' b =>
    match op with
    | .shl | .shr => ashift op k a b
    | _ => if k = k' then aint op k a b else none
  | .slice a _ _, .slice none 0 0 => match P.underlying t with
    | some (.slice _) => aeqNil op a.isNone
    | _ => none
  | .slice none 0 0, .slice a _ _ => match P.underlying t with
    | some (.slice _) => aeqNil op a.isNone
    | _ => none
  | .map a, .map none => match P.underlying t with
    | some (.map _ _) => aeqNil op a.isNone
    | _ => none
  | .pointer a, .pointer none => match P.underlying t with
    | some (.pointer _) => aeqNil op a.isNone
    | _ => none
  | x, y => if plain x && plain y then dryV P (do eqGuard op t xo yo x y; binOp op t x y) else none

/-! ## Maps (keys: integers, strings, bools) -/
def keyKind (P : Program) (kt : TypeId) : Option TypeDesc :=
  match P.underlying kt with
  | some (.int k) => some (.int k)
  | some .string => some .string
  | some .bool => some .bool
  | _ => none

def afind (kind : TypeDesc) (k : Value) : List MapEntry → Nat → Option (Option (Nat × Value)) := Instr.findNow kind k

def alookup (P : Program) (t : TypeId) (x k : Value) (ok : Bool) (m : Mem) : Option Value :=
  match P.underlying t with
  | some (.map kt et) =>
    match keyKind P kt, zeroOf P et with
    | some kind, some z =>
      if plain z && plain k then
        match (match x with
          | .map none => some []
          | .map (some r) => match m.get r with | .map es _ => some es | _ => none
          | _ => none) with
        | some es => match Instr.findNow kind k es 0 with
          | some (some (_, v)) => some (if ok then .tuple #[v, .bool true] else v)
          | some none => some (if ok then .tuple #[z, .bool false] else z)
          | none => none
        | none => none
      else none
    | _, _ => none
  | _ => none

def aupdate (P : Program) (t : TypeId) (x k v : Value) (m : Mem) : Option Mem :=
  match P.underlying t, x with
  | some (.map kt _), .map (some r) =>
    match keyKind P kt, m.get r with
    | some kind, .map es clock =>
      if plain k then
        match Instr.findNow kind k es 0 with
        | some (some (i, _)) => some (m.put r (.map (es.modify i fun e => { e with key := k, val := v }) clock))
        | some none => some (m.put r (.map (es ++ [{ key := k, val := v, born := clock }]) (clock + 1)))
        | none => none
      else none
    | _, _ => none
  | _, _ => none

/-! ## Slicing -/
def bnd (d : Nat) : Option Value → Option Nat
  | none => some d
  | some (.int _ i) => if 0 ≤ i then some i.toNat else none
  | _ => none

def aslice (P : Program) (t : TypeId) (x : Value) (lo hi mx : Option Value) (m : Mem) : Option Value :=
  if mx.isSome && hi.isNone then none else
  match P.underlying t, x with
  | some .string, .string _ =>
    if (lo.all plain && hi.all plain && mx.isNone) then dryV P (Instr.sliceAt t x lo hi mx) else none
  | some (.slice e), .slice none 0 0 =>
    match P.info? e, bnd 0 lo, bnd 0 hi, bnd 0 mx with
    | some _, some 0, some 0, some 0 => some (.slice none 0 0)
    | _, _, _, _ => none
  | some (.slice e), .slice (some ⟨b, off, some g'⟩) 0 0 =>
    match P.info? e, bnd 0 lo, bnd 0 hi, bnd 0 mx with
    | some _, some 0, some 0, some 0 => some (.slice (some ⟨b, off, some g'⟩) 0 0)
    | _, _, _, _ => none
  | some (.slice e), .slice (some ⟨b, off, none⟩) len g =>
    match P.info? e, bnd 0 lo, bnd len hi, mx with
    | some i, some l, some h, none => match m.get b with
      | .cells _ e' _ _ => if l ≤ h ∧ h ≤ len ∧ e' = e then some (.slice (some ⟨b, off + l * i.size, none⟩) (h - l) g) else none
      | _ => none
    | some _, some l, some h, some _ => match bnd 0 mx with
      | some k => if l = h ∧ h = k ∧ k ≤ len then some (.slice (some ⟨0, 0, some 0⟩) 0 0) else none
      | none => none
    | _, _, _, _ => none
  | _, _ => none

/-! ## One operation that is no call of a Go function -/
def aop (P : Program) (ρ : Operand → Value) (o : Oper) (m : Mem) : Option (Value × Mem) :=
  match o.op with
  | .move x | .assign x => some (ρ x, m)
  | .pick c a b => match ρ c with
    | .bool t => some (if t then ρ a else ρ b, m)
    | _ => none
  | .binOp op t x y _ => (abin P op t x y (ρ x) (ρ y)).map fun v => (v, m)
  | .alloc e => (zeroCellsOf P e).map fun z => (.pointer (some ⟨m.size, 0, none⟩), m.alloc (.cells z e 0 false))
  | .box e x =>
    if (ρ x).cells.toList.all isCell then some (.pointer (some ⟨m.size, 0, none⟩), m.alloc (.cells (ρ x).cells.toList e 0 false)) else none
  | .build t ps => match zeroCellsOf P t with
    | some _ => (dry P (Instr.build t (ps.map fun (i, x) => (i, ρ x)))).map fun v => (v, m)
    | none => none
  | .buildSlice t len ps =>
    match P.underlying t with
    | some (.slice e) => match P.info? e, zeroCellsOf P e with
      | some i, some z =>
        if len * i.size ≤ 2 ^ 24 ∧ z.length = i.size ∧ 0 < i.size then
          match Instr.fill (fun j => some (j * i.size, i.size)) (repeatCells z len).toArray (ps.map fun (i, x) => (i, ρ x)).toList with
          | some cs => if cs.toList.all isCell then some (newSlice m e cs.toList len) else none
          | none => none
        else none
      | _, _ => none
    | _ => none
  | .load t a => match ρ a with
    | .pointer (some a) => (aload P t a m).map fun v => (v, m)
    | _ => none
  | .store t a x => match ρ a with
    | .pointer (some a) => (astore P t a (ρ x) m).map fun m' => (undef, m')
    | _ => none
  | .nilCheck x => match ρ x with
    | .pointer (some a) => some (.pointer (some a), m)
    | _ => none
  | .unOp op _ x => if plain (ρ x) then (dryV P (Op.unary op (ρ x))).map fun v => (v, m) else none
  | .convert s d x => if plain (ρ x) then (dryV P (convert s d (ρ x))).map fun v => (v, m) else none
  | .makeFunc (.func f) fs cs => some (.func (.func f) (fs.map ρ) (cs.map ρ), m)
  | .makeMap _ none => some (.map (some m.size), m.alloc (.map [] 0))
  | .makeSlice t l c =>
    match P.underlying t, ρ l, ρ c with
    | some (.slice e), .int .i64 n, .int .i64 k => match P.info? e, zeroCellsOf P e with
      | some i, some z =>
        if 0 ≤ n ∧ n ≤ k ∧ k.toNat * (i.bytes + 1) ≤ room ∧ k ≤ 2 ^ 40 ∧ z.length = i.size ∧ 0 < i.size then
          some (newSlice m e (repeatCells z n.toNat) n.toNat)
        else none
      | _, _ => none
    | _, _, _ => none
  | .slice t x lo hi mx => (aslice P t (ρ x) (lo.map ρ) (hi.map ρ) (mx.map ρ) m).map fun v => (v, m)
  | .fieldAddr s x f =>
    match P.underlying s, ρ x with
    | some (.struct fs), .pointer (some a) => match fs[f]? with
      | some fd => match P.info? fd.type with
        | some i => if i.size = 0 then none else some (.pointer (some { a with off := a.off + fd.offset }), m)
        | none => none
      | none => none
    | _, _ => none
  | .field t x f => (dry P (Instr.field t (ρ x) f)).map fun v => (v, m)
  | .indexAddr t x ix =>
    match P.underlying t, ρ x, ρ ix with
    | some (.slice e), .slice (some ⟨b, off, none⟩) len g, .int _ i => match P.info? e with
      | some inf => if 0 ≤ i ∧ i < len then some (.pointer (some ⟨b, off + i.toNat * inf.size, some g⟩), m) else none
      | none => none
    | some (.array n e), .pointer (some a), .int _ i => match P.info? e with
      | some inf => if 0 ≤ i ∧ i < n then some (.pointer (some { a with off := a.off + i.toNat * inf.size }), m) else none
      | none => none
    | _, _, _ => none
  | .index t x ix => if plain (ρ ix) then (dry P (Instr.index t (ρ x) (ρ ix))).map fun v => (v, m) else none
  | .lookup t x k ok => (alookup P t (ρ x) (ρ k) ok m).map fun v => (v, m)
  | .mapUpdate t x k v => (aupdate P t (ρ x) (ρ k) (ρ v) m).map fun m' => (undef, m')
  | .insert t x k v => (aupdate P t (ρ x) (ρ k) (ρ v) m).map fun m' => (undef, m')
  | .extract t i => (dry P (Instr.extract (ρ t) i)).map fun v => (v, m)
  | .call { callee := .builtin b, args, argTypes } =>
    match b with
    | .len => (alen P argTypes (args.map ρ) m).map fun v => (v, m)
    | .cap => (acap P argTypes (args.map ρ)).map fun v => (v, m)
    | .append => aappend P argTypes (args.map ρ) m
    | .copy => acopy P argTypes (args.map ρ) m
    | .min => if (args.map ρ).toList.all plain then (dryV P (Builtin.min_ argTypes o.type (args.map ρ))).map fun v => (v, m) else none
    | .max => if (args.map ρ).toList.all plain then (dryV P (Builtin.max_ argTypes o.type (args.map ρ))).map fun v => (v, m) else none
    | _ => none
  | _ => none

/-! ## Code -/
inductive AExit where
  | normal
  | ret
  | exit (id : Nat)

abbrev CallF := FuncId → List Value → Mem → Option (Value × Mem)

/-- the value of one operation, its guard not asked -/
def aval (P : Program) (call : CallF) (ρ : Operand → Value) (o : Oper) (m : Mem) : Option (Value × Mem) :=
  match o.op with
  | .call { callee := .value f, args, .. } => match ρ f with
    | .func (.func g) fs cs => call g (fs.toList ++ args.toList.map ρ ++ cs.toList) m
    | _ => none
  | _ => aop P ρ o m

def aact (P : Program) (call : CallF) (o : Oper) (s : St) : Option St :=
  match aval P call (ev s.t) o s.m with
  | some (v, m) => some { t := tput s.t o.dst v, m := m }
  | none => none

def ayielded (ops : Array Oper) (t : Tr Value) (j : Nat) : Option Bool :=
  match (ops[j]?).bind (·.dst) with
  | some d => match tget t d with
    | .bool b => some b
    | _ => none
  | none => none

def astep (P : Program) (call : CallF) (ops : Array Oper) (o : Oper) (s : St) : Option St :=
  if Region.wanted o (ayielded ops s.t) then aact P call o s else some { s with t := tput s.t o.dst undef }

def asteps (P : Program) (call : CallF) (ops : Array Oper) : List Oper → St → Option St
  | [], s => some s
  | o :: rest, s => match astep P call ops o s with
    | some s' => asteps P call ops rest s'
    | none => none

/-- does operation i touch the memory? -/
def quietKind : Op → Bool
  | .move _ | .assign _ | .pick .. | .binOp .. | .build .. | .nilCheck _ | .unOp .. | .convert .. | .makeFunc .. | .fieldAddr .. | .field .. | .indexAddr .. | .index .. | .extract .. => true
  | .call { callee := .builtin b, .. } => match b with
    | .cap | .min | .max => true
    | _ => false
  | _ => false

/-- operation i stands, by the edges, before or behind each other that touches the memory, as in the text -/
def barrier (ops : Array Oper) (i : Nat) : Bool :=
  let b := Region.before ops
  (List.range ops.size).all fun j => j == i || ((ops[j]?).map (quietKind ·.op)).getD true ||
    (if j < i then (b.getD i 0).testBit j else (b.getD j 0).testBit i)

/-- a step in a region that draws: no block that was there is written, if i is no barrier -/
def dstep (P : Program) (call : CallF) (ops : Array Oper) (i : Nat) (o : Oper) (s : St) : Option St :=
  match astep P call ops o { s with m := { s.m with low := s.m.size } } with
  | some s' => if barrier ops i || decide (s.m.size ≤ s'.m.low) then some { s' with m := { s'.m with low := min s.m.low s'.m.low } } else none
  | none => none

def dsteps (P : Program) (call : CallF) (ops : Array Oper) : Nat → List Oper → St → Option St
  | _, [], s => some s
  | i, o :: rest, s => match dstep P call ops i o s with
    | some s' => dsteps P call ops (i + 1) rest s'
    | none => none

def iterate (f : St → Option (AExit × St)) : Nat → St → Option (AExit × St)
  | 0, _ => none
  | n + 1, s => match f s with
    | some (.normal, s') => iterate f n s'
    | r => r

def aexec (P : Program) (call : CallF) (N : Nat) : Code → St → Option (AExit × St)
  | .skip, s => some (.normal, s)
  | .label _, s => some (.normal, s)
  | .ret, s => some (.ret, s)
  | .exit id, s => some (.exit id, s)
  | .seq a b, s => match aexec P call N a s with
    | some (.normal, s') => aexec P call N b s'
    | r => r
  | .cond c a b, s => match ev s.t c with
    | .bool true => aexec P call N a s
    | .bool false => aexec P call N b s
    | _ => none
  | .block id b, s => match aexec P call N b s with
    | some (.exit i, s') => if i = id then some (.normal, s') else some (.exit i, s')
    | r => r
  | .loop b, s => iterate (aexec P call N b) N s
  | .region _ ops false, s => (asteps P call ops ops.toList s).map fun s' => (.normal, s')
  | .region _ ops true, s => (dsteps P call ops 0 ops.toList s).map fun s' => (.normal, s')
  | _, _ => none

/-! ## What is asked of the code, once -/
def operandOk (G : List Nat) : Operand → Bool
  | .const v => plain v
  | .global g => G.contains g
  | _ => true

/-- in a region that draws: slots are written once, and whoever looks at one stands in an order to who writes it -/
def drawOk (ops : Array Oper) : Bool :=
  let b := Region.before ops
  (List.range ops.size).all fun i => match ops[i]? with
    | none => true
    | some oi => (match oi.guard with | some (g, _) => (b.getD i 0).testBit g && g < i | none => true) &&
      (oi.after.all fun e => !Region.binds .any e || decide (e.on < i)) &&
      match oi.dst with
      | none => true
      | some d => (List.range ops.size).all fun j => j == i || match ops[j]? with
        | none => true
        | some oj => oj.dst != some d && (!(oj.looksAt ops).contains d || (if i < j then (b.getD j 0).testBit i else (b.getD i 0).testBit j))

def operOk (G : List Nat) (n : Nat) (o : Oper) : Bool :=
  o.op.operands.all (operandOk G) && (match o.dst with | some d => d < n | none => true) && (match o.op with | .select .. | .defer .. | .go .. => false | _ => true)

def codeOk (G : List Nat) (n : Nat) : Code → Bool
  | .seq a b => codeOk G n a && codeOk G n b
  | .cond c a b => operandOk G c && codeOk G n a && codeOk G n b
  | .block _ b => codeOk G n b
  | .loop b => codeOk G n b
  | .region _ ops draw => ops.all (operOk G n) && (!draw || drawOk ops)
  | .skip | .label _ | .ret | .exit _ => true
  | _ => false

def resultOf (P : Program) (s : St) : ResultVar → Option Value
  | .tmp t => some (tget s.t t)
  | .cell a t => match tget s.t a with
    | .pointer (some a) => aload P t a s.m
    | _ => none

def listAll {α β : Type} (f : α → Option β) : List α → Option (List β)
  | [] => some []
  | a :: l => match f a, listAll f l with
    | some b, some r => some (b :: r)
    | _, _ => none

def resultsOf (P : Program) (fn : Func) (s : St) : Option Value :=
  match listAll (resultOf P s) fn.results.toList with
  | some [v] => some v
  | some vs => some (.tuple vs.toArray)
  | none => none

def tmpsOf : Nat → List Value → Tr Value → Tr Value
  | _, [], t => t
  | i, v :: l, t => tmpsOf (i + 1) l (tset t i v)

def fnOk (G : List Nat) (fn : Func) (c : Code) : Bool :=
  !(fn.name == "runtime.NumGoroutine") && codeOk G fn.ntmps c

abbrev Oracle := FuncId → Option (List Value → Mem → Option (Value × Mem))

def acall (P : Program) (O : Oracle) (G : List Nat) (N : Nat) : Nat → CallF
  | 0, _, _, _ => none
  | D + 1, f, as, m =>
    match O f with
    | some F => F as m
    | none =>
      match P.funcs[f]? with
      | none => none
      | some fn => match fn.body with
        | none => none
        | some c =>
          if fnOk G fn c && decide (as.length ≤ fn.ntmps) then
            match aexec P (acall P O G N D) N c { t := tmpsOf 0 as .leaf, m := m } with
            | some (.normal, s) | some (.ret, s) => (resultsOf P fn s).map fun v => (v, s.m)
            | _ => none
          else none

end Go.Am
