import Derived.Test.YtnahfkmdojbpkaaEA
/-! The engine, part B: a function's text run over values and named objects. -/
set_option linter.all false
namespace Go.Eng

/-! ### What is asked of types -/
inductive TK where
  | bad | one | row (n : Nat)
def tk (P : Program) (t : TypeId) : TK :=
  match P.underlying t, P.info? t with
  | some d, some i => if d.isRow then .row i.size else .one
  | _, _ => .bad
def zc (P : Program) (t : TypeId) : Option (List Value) := ((P.info? t).bind (·.zero)).bind fun z => if z.cells.toList.all (·.oneCell') then some z.cells.toList else none
def szT (P : Program) (t : TypeId) : Option Nat := (P.info? t).map (·.size)
/-- A slice type's element: its type, cells, bytes. -/
def elT (P : Program) (t : TypeId) : Option (TypeId × Nat × Nat) :=
  match P.underlying t with
  | some (.slice e) => (P.info? e).bind fun i => (i.zero).bind fun z => if z.cells.size = i.size ∧ 0 < i.size ∧ 0 < i.bytes then some (e, i.size, i.bytes) else none
  | _ => none
/-- An array: its length, an element's cells. -/
def aelT (P : Program) (t : TypeId) : Option (Nat × Nat) :=
  match P.underlying t with
  | some (.array n e) => (P.info? e).bind fun i => if 0 < i.size ∧ 0 < n then some (n, i.size) else none
  | _ => none
/-- A struct's fields: where each stands, its cells. -/
def flds (P : Program) (t : TypeId) : Option (List (Nat × Nat)) :=
  match P.underlying t with
  | some (.struct fs) => fs.toList.mapM (fun f => (P.info? f.type).map fun i => (f.offset, i.size))
  | _ => none
/-- The type of a struct's field. -/
def fldT (P : Program) (t : TypeId) (k : Nat) : Option TypeId :=
  match P.underlying t with
  | some (.struct fs) => fs[k]?.map (·.type)
  | _ => none
def intK (P : Program) (t : TypeId) : Option IntKind := match P.underlying t with | some (.int k) => some k | _ => none
def isStr (P : Program) (t : TypeId) : Bool := match P.underlying t with | some .string => true | _ => false
def isSl (P : Program) (t : TypeId) : Bool := match P.underlying t with | some (.slice _) => true | _ => false
def isBool (P : Program) (t : TypeId) : Bool := match P.underlying t with | some .bool => true | _ => false
def isPtr (P : Program) (t : TypeId) : Bool := match P.underlying t with | some (.pointer _) => true | _ => false

/-! ### Values -/
def cv1 : Value → GV
  | .bool b => .p (.bool b)
  | .int k n => .p (.int k n)
  | .string s => .p (.str s)
  | .pointer none => .p .null
  | .nilFunc => .p .nfn
  | .slice none 0 0 => .csl []
  | _ => .undef
def cv : Value → GV
  | .agg cs => if cs.toList.all (·.oneCell') then .agg (cs.toList.map cv1) else .undef
  | v => cv1 v
/-- A value's cells. -/
def gcells : GV → Option (List GV)
  | .agg cs => some cs
  | .undef => none
  | .tup _ => none
  | .own _ _ => none
  | .obx _ => none
  | .oar _ _ => none
  | .ap _ _ _ _ => none
  | x => some [x]
/-- A cell that can lie in a list. -/
def pur : GV → Option PV
  | .p v => some v
  | .csl es => some (.sl es)
  | .tsl es _ => some (.sl es)
  | .ep cs 0 => some (.pt cs)
  | _ => none
mutual
/-- No object deeper than told is named. -/
def okd (k : Nat) : GV → Prop
  | .tsl _ κ => κ.1 ≤ k
  | .bp κ _ => κ.1 ≤ k
  | .arr κ _ _ => κ.1 ≤ k
  | .ap κ _ _ _ => κ.1 ≤ k
  | .fn _ gs => okds k gs
  | .agg gs => okds k gs
  | .tup gs => okds k gs
  | _ => True
def okds (k : Nat) : List GV → Prop
  | [] => True
  | g :: gs => okd k g ∧ okds k gs
end
mutual
/-- No object is named. -/
def closed : GV → Prop
  | .p _ => True
  | .csl _ => True
  | .ep _ _ => True
  | .fn _ gs => closeds gs
  | .agg gs => closeds gs
  | .tup gs => closeds gs
  | _ => False
def closeds : List GV → Prop
  | [] => True
  | g :: gs => closed g ∧ closeds gs
end
mutual
/-- What a call may be shown of a value: a slice's elements alone. -/
def wkR : GV → GV → Prop
  | .csl es, r => r = .csl es ∨ r = .p (.sl es)
  | .tsl es κ, r => r = .p (.sl es) ∨ r = .tsl es κ
  | .agg gs, r => ∃ rs, r = .agg rs ∧ wkRs gs rs
  | g, r => r = g
def wkRs : List GV → List GV → Prop
  | [], rs => rs = []
  | g :: gs, rs => ∃ r rs', rs = r :: rs' ∧ wkR g r ∧ wkRs gs rs'
end
/-- A slice's elements. -/
def elems : GV → Option (List (List PV))
  | .p (.sl es) => some es
  | .csl es => some es
  | .tsl es _ => some es
  | _ => none
def sizes (es : List (List PV)) (n : Nat) : Prop := ∀ e ∈ es, e.length = n

/-! ### States -/
structure St where
  F : Nat → GV
  G : Heap
def upd (F : Nat → GV) (t : Nat) (v : GV) : Nat → GV := fun k => if k = t then v else F k
def put (F : Nat → GV) : Option Nat → GV → Nat → GV
  | some t, v => upd F t v
  | none, _ => F
def ge (F : Nat → GV) : Operand → GV
  | .tmp t => F t
  | .const v => cv v
  | .global _ => .undef
  | .func f => .fn f []
def empty : Heap := fun _ _ => []

/-- What an operation does to the objects. -/
inductive Dl where
  | nop
  | fill (os : List Obj')
  | set (κ : Key) (o : Obj')
  | heap (G : Heap) (os : List Obj')
  | heap0 (G : Heap)
def fillD (G : Heap) (d : Nat) (dst : Option Nat) (os : List Obj') : Heap :=
  match dst with
  | some t => fillKey G d t os
  | none => G
def appD (G : Heap) (d : Nat) (dst : Option Nat) : Dl → Heap
  | .nop => G
  | .fill os => fillD G d dst os
  | .set κ o => setKey G κ o
  | .heap G' os => fillD G' d dst os
  | .heap0 G' => G'
def free (G : Heap) (d : Nat) : Option Nat → Prop
  | some t => G d t = []
  | none => False

/-! ### Results that are handed over -/
mutual
def adopt (d t : Nat) : GV → List Obj' → GV × List Obj'
  | .own es sz, acc => (.tsl es (d, t, acc.length), acc ++ [.tok es.length sz])
  | .obx cs, acc => (.bp (d, t, acc.length) 0, acc ++ [.box cs])
  | .oar es sz, acc => (.arr (d, t, acc.length) es.length sz, acc ++ [.arr es])
  | .agg gs, acc => let r := adopts d t gs acc; (.agg r.1, r.2)
  | .tup gs, acc => let r := adopts d t gs acc; (.tup r.1, r.2)
  | x, acc => (x, acc)
def adopts (d t : Nat) : List GV → List Obj' → List GV × List Obj'
  | [], acc => ([], acc)
  | g :: gs, acc => let r := adopt d t g acc; let s := adopts d t gs r.2; (r.1 :: s.1, s.2)
end

/-- What may be known of a call, the way it is told: depth, function, arguments, objects, result, objects. -/
abbrev CR := Nat → FuncId → List GV → Heap → GV → Heap → Prop

/-- What a text's places are to be: lists without a right to grow; calls that are shown the objects; rows that are written. -/
structure Ann where
  pureAt : Nat → Bool := fun _ => false
  openAt : Nat → Bool := fun _ => false
  arrAt : Nat → Bool := fun _ => false
  clean : Nat → List Nat := fun _ => []
  frzAt : Nat → Bool := fun _ => false
  borAt : Nat → Bool := fun _ => false
  boxAt : Nat → Option Nat := fun _ => none
  drwAt : Nat → Bool := fun _ => false
  also : Nat → List Nat := fun _ => []
  watch : Nat → List Nat := fun _ => []
  wkey : Nat → Option (Key × Nat) := fun _ => none
def dstIn (f : Nat → Bool) : Option Nat → Bool
  | some t => f t
  | none => false

def purs : List GV → Option (List PV)
  | [] => some []
  | g :: gs => match pur g, purs gs with
    | some v, some vs => some (v :: vs)
    | _, _ => none
mutual
/-- Results as values that stay. -/
def frz : GV → GV
  | .own es _ => .p (.sl es)
  | .oar es _ => .p (.sl es)
  | .obx cs => match purs cs with
    | some ps => .p (.pt ps)
    | none => .undef
  | .agg gs => .agg (frzs gs)
  | .tup gs => .tup (frzs gs)
  | .p v => .p v
  | .csl es => .p (.sl es)
  | .ep cs off => .ep cs off
  | _ => .undef
def frzs : List GV → List GV
  | [] => []
  | g :: gs => frz g :: frzs gs
end
mutual
/-- Numbers, texts and the like alone. -/
def scal : GV → Prop
  | .p (.int _ _) => True
  | .p (.bool _) => True
  | .p (.str _) => True
  | .p .null => True
  | .agg gs => scals gs
  | .tup gs => scals gs
  | _ => False
def scals : List GV → Prop
  | [] => True
  | g :: gs => scal g ∧ scals gs
end
mutual
/-- What a call that only looks may be shown of a value. -/
def wkB (G : Heap) (d : Nat) : GV → GV → Prop
  | .csl es, r => r = .csl es ∨ r = .p (.sl es)
  | .tsl es _, r => r = .p (.sl es)
  | .bp κ off, r => κ.1 ≤ d ∧ match get G κ with
    | some (.box cs) => match purs cs with
      | some ps => r = .ep ps off ∨ (off = 0 ∧ r = .p (.pt ps))
      | none => False
    | _ => False
  | .arr κ n _, r => κ.1 ≤ d ∧ match get G κ with
    | some (.arr es) => es.length = n ∧ r = .p (.sl es)
    | _ => False
  | .fn f gs, r => ∃ rs, r = .fn f rs ∧ wkBs G d gs rs
  | .agg gs, r => ∃ rs, r = .agg rs ∧ wkBs G d gs rs
  | g, r => r = g
def wkBs (G : Heap) (d : Nat) : List GV → List GV → Prop
  | [], rs => rs = []
  | g :: gs, rs => ∃ r rs', rs = r :: rs' ∧ wkB G d g r ∧ wkBs G d gs rs'
end

/-- Where it is told which object a place names, it does. -/
def boxG (d k : Nat) : GV → Prop
  | .bp κ _ => κ.1 = d ∧ κ.2.1 = k
  | _ => False
def boxC (A : Ann) (d : Nat) (a : Operand) (g : GV) : Prop :=
  match a with
  | .tmp t => match A.boxAt t with
    | some k => boxG d k g
    | none => True
  | _ => True
/-- Where it is told which cell a load looks at, it does. -/
def wkG (P : Program) (t : TypeId) (κ : Key) (o : Nat) (g : GV) : Prop := g = .bp κ o ∧ match tk P t with
  | .one => True
  | _ => False
def wkC (P : Program) (A : Ann) (t : TypeId) (a : Operand) (g : GV) : Prop :=
  match a with
  | .tmp x => match A.wkey x with
    | some (κ, o) => wkG P t κ o g
    | none => True
  | _ => True
/-- Objects that may stand there too. -/
def addAt (G : Heap) (d : Nat) (ts : List Nat) (H : Nat → List Obj') : Heap := fun k t => if k = d ∧ t ∈ ts then H t else G k t
/-- A call that is shown the objects, in a region whose order is drawn. -/
structure opC (C : CR) (A : Ann) (d : Nat) (n : FuncId) (as : List GV) (G : Heap) (r : GV) (G' : Heap) (j : Nat) : Prop where
  same : ∀ t ∈ A.also j, G' d t = G d t
  call : ∀ H : Nat → List Obj', C d n as (addAt G d (A.also j) H) r (addAt G' d (A.also j) H)
  live : ∀ κ, get G κ ≠ none → get G' κ ≠ none
  look : ∀ x ∈ A.watch j, ∃ κ o, A.wkey x = some (κ, o) ∧ ¬ (κ.1 = d ∧ κ.2.1 ∈ A.also j) ∧ ∃ cs cs', get G κ = some (.box cs) ∧ get G' κ = some (.box cs') ∧ cs'[o]? = cs[o]?
/-- The same of an append. -/
def appG (d k : Nat) : GV → GV → Prop
  | .csl _, x => match x with | .arr _ _ _ => False | _ => True
  | .tsl _ κ, x => κ.1 = d ∧ κ.2.1 = k ∧ match x with | .arr _ _ _ => False | _ => True
  | .arr κ _ _, x => κ.1 = d ∧ κ.2.1 = k ∧ match x with | .arr _ _ _ => False | _ => True
  | _, _ => False
def appC (A : Ann) (d : Nat) (dst : Option Nat) (s x : GV) : Prop :=
  match dst with
  | some j => match A.boxAt (j + 1000000) with
    | some k => appG d k s x
    | none => True
  | none => True
/-- A slice's elements alone, where so told. -/
def wkA : Bool → GV → GV
  | true, .csl es => .p (.sl es)
  | true, .tsl es _ => .p (.sl es)
  | _, g => g

/-! ### Operations -/
section
variable (P : Program) (C : CR) (A : Ann) (d : Nat)

def gLoadC (t : TypeId) (cells : List GV) (off : Nat) (K : GV → Prop) : Prop :=
  match tk P t with
  | .row n => off + n ≤ cells.length ∧ K (.agg ((cells.drop off).take n))
  | .one => match cells[off]? with
    | some g => K g
    | none => False
  | .bad => False
def gLoad (G : Heap) (t : TypeId) (a : GV) (K : GV → Prop) : Prop :=
  match a with
  | .bp κ off => match get G κ with
    | some (.box cells) => gLoadC P t cells off K
    | _ => False
  | .ep cells off => gLoadC P t (cells.map .p) off K
  | .p (.pt cells) => gLoadC P t (cells.map .p) 0 K
  | .ap κ n i off => match get G κ with
    | some (.arr es) => es.length = n ∧ match es[i]? with
      | some e => gLoadC P t (e.map .p) off K
      | none => False
    | _ => False
  | _ => False
def spl (cells : List GV) (off : Nat) (vs : List GV) : List GV := cells.take off ++ (vs ++ cells.drop (off + vs.length))
def splP (cells : List PV) (off : Nat) (vs : List PV) : List PV := cells.take off ++ (vs ++ cells.drop (off + vs.length))
def gStore (G : Heap) (t : TypeId) (a v : GV) (K : Dl → Prop) : Prop :=
  match gcells v with
  | some vs => szT P t = some vs.length ∧ match a with
    | .bp κ off => match get G κ with
      | some (.box cells) => off + vs.length ≤ cells.length ∧ okds κ.1 vs ∧ K (.set κ (.box (spl cells off vs)))
      | _ => False
    | .ap κ n i off => match get G κ, purs vs with
      | some (.arr es), some ps => es.length = n ∧ match es[i]? with
        | some e => off + ps.length ≤ e.length ∧ K (.set κ (.arr (es.set i (splP e off ps))))
        | none => False
      | _, _ => False
    | _ => False
  | none => False
def gfill (pl : Nat → Option (Nat × Nat)) : List GV → List (Nat × GV) → Option (List GV)
  | cells, [] => some cells
  | cells, (i, g) :: rest => match pl i, gcells g with
    | some (off, size), some vs => if vs.length = size ∧ off + vs.length ≤ cells.length then gfill pl (spl cells off vs) rest else none
    | _, _ => none
def gBuild (t : TypeId) (parts : List (Nat × GV)) (K : GV → Prop) : Prop :=
  match zc P t, flds P t with
  | some zs, some pl => match gfill (pl[·]?) (zs.map cv1) parts with
    | some cells => K (.agg cells)
    | none => False
  | _, _ => False
def partsOf : Nat → Nat → List (Nat × GV) → Option (List (List PV))
  | _, _, [] => some []
  | k, n, (i, g) :: rest => if i = k then match (gcells g).bind purs, partsOf (k + 1) n rest with
    | some ps, some r => if ps.length = n then some (ps :: r) else none
    | _, _ => none else none
def gBuildSlice (t : TypeId) (len : Nat) (parts : List (Nat × GV)) (K : GV → Dl → Prop) (dst : Option Nat) (G : Heap) : Prop :=
  match elT P t with
  | some (_, n, _) => match partsOf 0 n parts with
    | some es => es.length = len ∧ len * n ≤ 16777216 ∧
      (if dstIn A.arrAt dst then free G d dst ∧ K (.arr (d, dst.getD 0, 0) len n) (.fill [.arr es]) else K (.csl es) .nop)
    | none => False
  | none => False
def gIndexAddr (t : TypeId) (x i : GV) (K : GV → Prop) : Prop :=
  match elT P t, i with
  | some (_, n, _), .p (.int _ j) => match elems x with
    | some es => 0 ≤ j ∧ match es[j.toNat]? with
      | some e => e.length = n ∧ K (.ep e 0)
      | none => False
    | none => match x with
      | .arr κ m sz => sz = n ∧ 0 ≤ j ∧ j < m ∧ K (.ap κ m j.toNat 0)
      | _ => False
  | none, .p (.int _ j) => match aelT P t, x with
    | some (m, n), .bp κ off => 0 ≤ j ∧ j < m ∧ K (.bp κ (off + j.toNat * n))
    | _, _ => False
  | _, _ => False
def gFieldAddr (t : TypeId) (x : GV) (k : Nat) (K : GV → Prop) : Prop :=
  match (flds P t).bind (·[k]?) with
  | some (o, n) => n ≠ 0 ∧ match x with
    | .bp κ off => K (.bp κ (off + o))
    | .ep cells off => K (.ep cells (off + o))
    | .p (.pt cells) => K (.ep cells o)
    | .ap κ m i off => K (.ap κ m i (off + o))
    | _ => False
  | none => False
def gField (t : TypeId) (x : GV) (k : Nat) (K : GV → Prop) : Prop :=
  match x, (flds P t).bind (·[k]?), (fldT P t k).map (tk P) with
  | .agg cells, some (o, _), some (.row n) => o + n ≤ cells.length ∧ K (.agg ((cells.drop o).take n))
  | .agg cells, some (o, _), some .one => match cells[o]? with
    | some g => K g
    | none => False
  | _, _, _ => False
def gIndex (t : TypeId) (x i : GV) (K : GV → Prop) : Prop :=
  match x, i with
  | .p (.str s), .p (.int _ j) => isStr P t = true ∧ 0 ≤ j ∧ match s[j.toNat]? with
    | some b => K (.p (.int .u8 b.toNat))
    | none => False
  | _, _ => False
def gbound : Option GV → Nat → Option Int
  | none, n => some n
  | some (.p (.int _ j)), _ => some j
  | _, _ => none
def gSlice (t : TypeId) (x : GV) (lo hi mx : Option GV) (K : GV → Prop) : Prop :=
  match x with
  | .p (.str s) => isStr P t = true ∧ mx.isNone = true ∧ match gbound lo 0, gbound hi s.size with
    | some l, some h => 0 ≤ l ∧ l ≤ h ∧ h ≤ s.size ∧ K (.p (.str (s.extract l.toNat h.toNat)))
    | _, _ => False
  | x => match elems x, elT P t with
    | some es, some (_, n, _) => sizes es n ∧ match gbound lo 0, gbound hi es.length, mx with
      | some l, some h, none => 0 ≤ l ∧ l ≤ h ∧ h ≤ es.length ∧ K (.p (.sl ((es.take h.toNat).drop l.toNat)))
      | some l, some h, some m => 0 ≤ l ∧ l ≤ h ∧ h ≤ es.length ∧ gbound (some m) 0 = some h ∧ hi.isSome = true ∧ K (.csl ((es.take h.toNat).drop l.toNat))
      | _, _, _ => False
    | _, _ => False
def lenOf : GV → Option Nat
  | .p (.str s) => some s.size
  | .p (.sl es) => some es.length
  | .csl es => some es.length
  | .tsl es _ => some es.length
  | .arr _ n _ => some n
  | _ => none
def gLen (t : TypeId) (x : GV) (K : GV → Prop) : Prop :=
  (match x with | .p (.str _) => isStr P t | _ => isSl P t) = true ∧ match lenOf x with
  | some n => K (.p (.int .i64 n))
  | none => False
/-- What is appended. -/
def srcOf (G : Heap) (t : TypeId) (n : Nat) (x : GV) : Option (List (List PV)) :=
  match x with
  | .p (.str s) => if isStr P t = true ∧ n = 1 then some (s.data.toList.map fun b => [.int .u8 b.toNat]) else none
  | .arr κ m _ => if isSl P t then match get G κ with
    | some (.arr es) => if es.length = m then some es else none
    | _ => none else none
  | x => if isSl P t then elems x else none
def gAppend (G : Heap) (t tx : TypeId) (s x : GV) (dst : Option Nat) (K : GV → Dl → Prop) : Prop :=
  match elT P t with
  | some (_, n, bytes) => match srcOf P G tx n x with
    | none => False
    | some xs => match s with
    | .csl es => sizes es n ∧ sizes xs n ∧ (es.length + xs.length) * bytes ≤ 140737488355328 ∧
      (if dstIn A.pureAt dst then K (.p (.sl (es ++ xs))) .nop else if xs.isEmpty = true then K (.csl es) .nop else if dstIn A.openAt dst then ∃ k t, k ≤ d ∧ G k t = [] ∧ K (.arr (k, t, 0) (es.length + xs.length) n) (.heap0 (fillKey G k t [.arr (es ++ xs)])) else if dstIn A.arrAt dst then free G d dst ∧ K (.arr (d, dst.getD 0, 0) (es.length + xs.length) n) (.fill [.arr (es ++ xs)]) else free G d dst ∧ K (.tsl (es ++ xs) (d, dst.getD 0, 0)) (.fill [.tok (es.length + xs.length) n]))
    | .tsl es κ => dstIn A.pureAt dst = false ∧ sizes es n ∧ sizes xs n ∧ (es.length + xs.length) * bytes ≤ 140737488355328 ∧ get G κ = some (.tok es.length n) ∧
      K (.tsl (es ++ xs) κ) (.set κ (.tok (es.length + xs.length) n))
    | .arr κ m sz => dstIn A.pureAt dst = false ∧ match get G κ with
      | some (.arr es) => es.length = m ∧ sz = n ∧ sizes xs n ∧ (m + xs.length) * bytes ≤ 140737488355328 ∧ K (.arr κ (m + xs.length) sz) (.set κ (.arr (es ++ xs)))
      | _ => False
    | _ => False
  | none => False
def andI (k : IntKind) (a b : Int) : Int := k.wrap (BitVec.ofInt k.bits a &&& BitVec.ofInt k.bits b).toNat
def orI (k : IntKind) (a b : Int) : Int := k.wrap (BitVec.ofInt k.bits a ||| BitVec.ofInt k.bits b).toNat
def xorI (k : IntKind) (a b : Int) : Int := k.wrap (BitVec.ofInt k.bits a ^^^ BitVec.ofInt k.bits b).toNat
def andNotI (k : IntKind) (a b : Int) : Int := k.wrap (BitVec.ofInt k.bits a &&& ~~~ BitVec.ofInt k.bits b).toNat
def shlI (k : IntKind) (a b : Int) : Int := k.wrap (a * 2 ^ min b.toNat k.bits)
def shrI (k : IntKind) (a b : Int) : Int := a.fdiv (2 ^ min b.toNat k.bits)
def ibin : BinOp → IntKind → Int → Int → Option PV
  | .add, k, a, b => some (.int k (k.wrap (a + b)))
  | .sub, k, a, b => some (.int k (k.wrap (a - b)))
  | .mul, k, a, b => some (.int k (k.wrap (a * b)))
  | .and, k, a, b => some (.int k (andI k a b))
  | .or, k, a, b => some (.int k (orI k a b))
  | .xor, k, a, b => some (.int k (xorI k a b))
  | .andNot, k, a, b => some (.int k (andNotI k a b))
  | .eql, _, a, b => some (.bool (decide (a = b)))
  | .neq, _, a, b => some (.bool (!decide (a = b)))
  | .lss, _, a, b => some (.bool (decide (a < b)))
  | .leq, _, a, b => some (.bool (decide (a ≤ b)))
  | .gtr, _, a, b => some (.bool (decide (b < a)))
  | .geq, _, a, b => some (.bool (decide (b ≤ a)))
  | _, _, _, _ => none
def toV : PV → Option Value
  | .int k n => some (.int k n)
  | .bool b => some (.bool b)
  | .str s => some (.string s)
  | _ => none
def toVs : List PV → Option (List Value)
  | [] => some []
  | p :: ps => match toV p, toVs ps with
    | some v, some vs => some (v :: vs)
    | _, _ => none
def gEqS (t : TypeId) (x y : List GV) (neg : Bool) (K : GV → Prop) : Prop :=
  match (purs x).bind toVs, (purs y).bind toVs with
  | some vs, some us => ∃ r : Bool, (∀ w : World, (do eqGuard .eql t (.const undef) (.const undef) (.agg vs.toArray) (.agg us.toArray); Op.equal t (.agg vs.toArray) (.agg us.toArray) : Sem Bool).run P w = .ok r w) ∧ K (.p (.bool (if neg then !r else r)))
  | _, _ => False
def isNilOf : GV → Option Bool
  | .p .null => some true
  | .bp _ _ => some false
  | .ep _ _ => some false
  | .p (.pt _) => some false
  | _ => none
def gBin (op : BinOp) (t : TypeId) (x y : GV) (K : GV → Prop) : Prop :=
  match x, y with
  | .p (.int k a), .p (.int k' b) => match op with
    | .shl => 0 ≤ b ∧ K (.p (.int k (shlI k a b)))
    | .shr => 0 ≤ b ∧ K (.p (.int k (shrI k a b)))
    | .quo => k = k' ∧ b ≠ 0 ∧ K (.p (.int k (k.wrap (a.tdiv b))))
    | .rem => k = k' ∧ b ≠ 0 ∧ K (.p (.int k (a.tmod b)))
    | op => k = k' ∧ match ibin op k a b with
      | some v => K (.p v)
      | none => False
  | .p (.bool a), .p (.bool b) => isBool P t = true ∧ match op with
    | .eql => K (.p (.bool (a == b)))
    | .neq => K (.p (.bool (!(a == b))))
    | _ => False
  | .p (.str a), .p (.str b) => match op with
    | .add => a.size + b.size ≤ 9223372036854775807 ∧ K (.p (.str (a ++ b)))
    | .eql => K (.p (.bool (decide (a = b))))
    | .neq => K (.p (.bool (!decide (a = b))))
    | .lss => K (.p (.bool (Op.bytesLess a.toList b.toList)))
    | _ => False
  | .agg xs, .agg ys => match op with
    | .eql => gEqS P t xs ys false K
    | .neq => gEqS P t xs ys true K
    | _ => False
  | x, y => isPtr P t = true ∧ match isNilOf x, isNilOf y with
    | some a, some b => (a || b) = true ∧ match op with
      | .eql => K (.p (.bool (a && b)))
      | .neq => K (.p (.bool (!(a && b))))
      | _ => False
    | _, _ => False
def gUn (op : UnOp) (x : GV) (K : GV → Prop) : Prop :=
  match op, x with
  | .not, .p (.bool b) => K (.p (.bool !b))
  | .neg, .p (.int k n) => K (.p (.int k (k.wrap (0 - n))))
  | .xor, .p (.int k n) => K (.p (.int k (k.wrap (BitVec.ofInt k.bits (if k.signed then -1 else k.max) ^^^ BitVec.ofInt k.bits n).toNat)))
  | _, _ => False
def bytesOf : List (List PV) → Option (List Int)
  | [] => some []
  | [.int .u8 n] :: r => (bytesOf r).map (n :: ·)
  | _ => none
def strOf (ns : List Int) : ByteArray := ns.foldl (fun r n => r.push (UInt8.ofNat n.toNat)) ByteArray.empty
def gConv (src dst : TypeId) (x : GV) (K : GV → Prop) : Prop :=
  match x with
  | .p (.int _ n) => match intK P src, intK P dst with
    | some _, some k => K (.p (.int k (k.wrap n)))
    | _, _ => False
  | .p (.str s) => isStr P src = true ∧ isStr P dst = true ∧ K (.p (.str s))
  | x => match elT P src, elems x with
    | some (e, n, _), some es => intK P e = some .u8 ∧ isStr P dst = true ∧ n = 1 ∧ sizes es 1 ∧ match bytesOf es with
      | some bs => K (.p (.str (strOf bs)))
      | none => False
    | _, _ => False
def gMin (k : Bool) : List GV → Option GV
  | .p (.int i a) :: .p (.int i' b) :: [] => if i = i' then some (.p (.int i (if k then (if b < a then b else a) else (if a < b then b else a)))) else none
  | _ => none

def gCall (G : Heap) (f : GV) (args : List GV) (dst : Option Nat) (K : GV → Dl → Prop) : Prop :=
  match f with
  | .fn n caps =>
    if dstIn A.borAt dst then ∃ as, wkBs G d (args ++ caps) as ∧ closeds as ∧ ∃ r, C d n as empty r empty ∧ scal r ∧ K r .nop else
    ∃ as, wkRs (args ++ caps) as ∧ if dstIn A.openAt dst then ∃ r G', C d n as G r G' ∧ ((dstIn A.drwAt dst = false ∧ free G d dst ∧ free G' d dst ∧ K (adopt d (dst.getD 0) r []).1 (.heap G' (adopt d (dst.getD 0) r []).2)) ∨ ∃ t0, G d t0 = [] ∧ G' d t0 = [] ∧ adopt d t0 r [] = (r, []) ∧ (dstIn A.drwAt dst = true → t0 ∉ A.also (dst.getD 0) ∧ opC C A d n as G r G' (dst.getD 0)) ∧ K r (.heap0 G'))
    else closeds as ∧ ∃ r, C d n as empty r empty ∧ if dstIn A.frzAt dst then K (frz r) .nop else free G d dst ∧ K (adopt d (dst.getD 0) r []).1 (.fill (adopt d (dst.getD 0) r []).2)
  | _ => False
def gBuiltin (G : Heap) (b : Builtin) (ts : List TypeId) (xs : List GV) (dst : Option Nat) (K : GV → Dl → Prop) : Prop :=
  match b, ts, xs with
  | .len, [t], [x] => gLen P t x fun v => K v .nop
  | .append, [t, tx], [s, x] => appC A d dst s x ∧ gAppend P A d G t tx s x dst K
  | .min, _, xs => match gMin true xs with
    | some v => K v .nop
    | none => False
  | .max, _, xs => match gMin false xs with
    | some v => K v .nop
    | none => False
  | _, _, _ => False

def gop (o : Oper) (F : Nat → GV) (G : Heap) (K : GV → Dl → Prop) : Prop :=
  match o.op with
  | .move x => K (ge F x) .nop
  | .assign x => K (wkA (dstIn A.pureAt o.dst) (ge F x)) .nop
  | .pick c a b => match ge F c with
    | .p (.bool t) => (t = true → K (ge F a) .nop) ∧ (t = false → K (ge F b) .nop)
    | _ => False
  | .alloc t => match zc P t with
    | some zs => free G d o.dst ∧ K (.bp (d, o.dst.getD 0, 0) 0) (.fill [.box (zs.map cv1)])
    | none => False
  | .box _ x => match gcells (ge F x) with
    | some cs => if dstIn A.frzAt o.dst then (match purs cs with | some ps => K (.ep ps 0) .nop | none => False) else free G d o.dst ∧ K (.bp (d, o.dst.getD 0, 0) 0) (.fill [.box cs])
    | none => False
  | .build t ps => gBuild P t (ps.toList.map fun q => (q.1, ge F q.2)) fun v => K v .nop
  | .buildSlice t n ps => gBuildSlice P A d t n (ps.toList.map fun q => (q.1, ge F q.2)) K o.dst G
  | .load t a => boxC A d a (ge F a) ∧ wkC P A t a (ge F a) ∧ gLoad P G t (ge F a) fun v => K v .nop
  | .store t a v => boxC A d a (ge F a) ∧ gStore P G t (ge F a) (ge F v) fun δ => K .undef δ
  | .nilCheck x => match ge F x with
    | .bp κ off => K (.bp κ off) .nop
    | .ep cs off => K (.ep cs off) .nop
    | .ap κ m i off => K (.ap κ m i off) .nop
    | .p (.pt cs) => K (.p (.pt cs)) .nop
    | .fn f cs => K (.fn f cs) .nop
    | _ => False
  | .binOp op t x y _ => gBin P op t (ge F x) (ge F y) fun v => K v .nop
  | .unOp op _ x => gUn op (ge F x) fun v => K v .nop
  | .convert s t x => gConv P s t (ge F x) fun v => K v .nop
  | .makeFunc (.func f) first caps => first.size = 0 ∧ K (.fn f (caps.toList.map (ge F))) .nop
  | .slice t x lo hi mx => gSlice P t (ge F x) (lo.map (ge F)) (hi.map (ge F)) (mx.map (ge F)) fun v => K v .nop
  | .fieldAddr t x k => gFieldAddr P t (ge F x) k fun v => K v .nop
  | .field t x k => gField P t (ge F x) k fun v => K v .nop
  | .indexAddr t x i => gIndexAddr P t (ge F x) (ge F i) fun v => K v .nop
  | .index t x i => gIndex P t (ge F x) (ge F i) fun v => K v .nop
  | .extract x k => match ge F x with
    | .tup vs => match vs[k]? with
      | some v => K v .nop
      | none => False
    | _ => False
  | .call c => match c.callee with
    | .value f => gCall C A d G (ge F f) (c.args.toList.map (ge F)) o.dst K
    | .builtin b => gBuiltin P A d G b c.argTypes.toList (c.args.toList.map (ge F)) o.dst K
    | _ => False
  | _ => False

/-- One operation, with its guard. -/
def gop1 (all : Array Oper) (o : Oper) (K : St → Prop) (s : St) : Prop :=
  match o.guard with
  | none => gop P C A d o s.F s.G fun v δ => K ⟨put s.F o.dst v, appD s.G d o.dst δ⟩
  | some (j, want) => match (all[j]?).bind (·.dst) with
    | some t => match s.F t with
      | .p (.bool b) => (b = want → gop P C A d o s.F s.G fun v δ => K ⟨put s.F o.dst v, appD s.G d o.dst δ⟩) ∧ (b = (!want) → K ⟨put s.F o.dst (.tup []), s.G⟩)
      | .tup [] => K ⟨put s.F o.dst (.tup []), s.G⟩
      | _ => False
    | none => False
def gops (all : Array Oper) : List Oper → (St → Prop) → St → Prop
  | [], K, s => K s
  | o :: os, K, s => gop1 P C A d all o (gops all os K) s

inductive GE where
  | normal | exit (id : Nat) | ret
def GE.then (next : St → Prop) (Q : GE → St → Prop) : GE → St → Prop
  | .normal, s => next s
  | e, s => Q e s
def GE.inBlock (id : Nat) (Q : GE → St → Prop) : GE → St → Prop
  | .exit k, s => if k = id then Q .normal s else Q (.exit k) s
  | e, s => Q e s
def firstId : Code → Nat
  | .region id _ _ => id
  | .seq a _ => firstId a
  | .block _ c => firstId c
  | .loop c => firstId c
  | _ => 1000000
mutual
/-- A value that names objects of these slots no more. -/
def poison (d : Nat) (ts : List Nat) : GV → GV
  | .tsl es κ => if κ.1 = d ∧ κ.2.1 ∈ ts then .p (.sl es) else .tsl es κ
  | .bp κ off => if κ.1 = d ∧ κ.2.1 ∈ ts then .undef else .bp κ off
  | .arr κ n sz => if κ.1 = d ∧ κ.2.1 ∈ ts then .undef else .arr κ n sz
  | .ap κ m i off => if κ.1 = d ∧ κ.2.1 ∈ ts then .undef else .ap κ m i off
  | .fn f gs => .fn f (poisons d ts gs)
  | .agg gs => .agg (poisons d ts gs)
  | .tup gs => .tup (poisons d ts gs)
  | x => x
def poisons (d : Nat) (ts : List Nat) : List GV → List GV
  | [] => []
  | g :: gs => poison d ts g :: poisons d ts gs
end
def poisonO (d : Nat) (ts : List Nat) : Obj' → Obj'
  | .box cs => .box (poisons d ts cs)
  | o => o
def cleanS (d : Nat) (ts : List Nat) (s : St) : St :=
  ⟨fun t => wkA (decide (t + 1000000 ∈ ts)) (poison d ts (s.F t)), fun k t => if k = d then (if t ∈ ts then [] else (s.G k t).map (poisonO d ts)) else s.G k t⟩
def clean (d : Nat) (ts : List Nat) (s : St) : St := match ts with
  | [] => s
  | ts => cleanS d ts s
def loopW (body : (GE → St → Prop) → St → Prop) (ts : List Nat) (Q : GE → St → Prop) : Nat → St → Prop
  | 0, _ => False
  | n + 1, s => body (GE.then (loopW body ts Q n) Q) (clean d ts s)
def gwp : Code → (GE → St → Prop) → St → Prop
  | .skip, Q, s => Q .normal s
  | .region _ ops _, Q, s => gops P C A d ops ops.toList (Q .normal) s
  | .seq a b, Q, s => gwp a (GE.then (gwp b Q) Q) s
  | .cond c x y, Q, s => match ge s.F c with
    | .p (.bool t) => (t = true → gwp x Q s) ∧ (t = false → gwp y Q s)
    | _ => False
  | .block id c, Q, s => gwp c (GE.inBlock id Q) s
  | .loop c, Q, s => ∃ n, loopW d (gwp c) (A.clean (firstId c)) Q n s
  | .exit id, Q, s => Q (.exit id) s
  | .ret, Q, s => Q .ret s
  | _, _, _ => False

/-! ### Calls -/
/-- A cell of a box that is handed out, from a call below depth d. -/
def weak (d : Nat) : GV → GV → Prop
  | .p v, r => r = .p v
  | .csl es, r => r = .csl es ∨ r = .p (.sl es)
  | .tsl es κ, r => r = .p (.sl es) ∨ (r = .tsl es κ ∧ κ.1 ≤ d)
  | .bp κ off, r => r = .bp κ off ∧ κ.1 ≤ d
  | .ep cs off, r => r = .ep cs off
  | .fn f gs, r => r = .fn f gs ∧ okds d gs
  | _, _ => False
def weaks (d : Nat) : List GV → List GV → Prop
  | [], rs => rs = []
  | g :: gs, rs => match rs with
    | r :: rs => weak d g r ∧ weaks d gs rs
    | [] => False
mutual
/-- What of a value may be handed out to a call of depth d: the value, what is handed out, the objects that go along so far, and behind. -/
def Ret (G : Heap) (d : Nat) : GV → GV → List Key → List Key → Prop
  | .p v, r, ks, ks' => r = .p v ∧ ks' = ks
  | .csl es, r, ks, ks' => (r = .csl es ∨ r = .p (.sl es)) ∧ ks' = ks
  | .tsl es κ, r, ks, ks' => match r with
    | .p (.sl es') => es' = es ∧ ks' = ks
    | .own es' sz => es' = es ∧ d < κ.1 ∧ get G κ = some (.tok es.length sz) ∧ κ ∉ ks ∧ ks' = ks ++ [κ]
    | .tsl es' κ' => es' = es ∧ κ' = κ ∧ κ.1 ≤ d ∧ ks' = ks
    | _ => False
  | .arr κ n sz, r, ks, ks' => match r with
    | .own es sz' => d < κ.1 ∧ get G κ = some (.arr es) ∧ es.length = n ∧ sz' = sz ∧ κ ∉ ks ∧ ks' = ks ++ [κ]
    | .oar es sz' => d < κ.1 ∧ get G κ = some (.arr es) ∧ es.length = n ∧ sz' = sz ∧ κ ∉ ks ∧ ks' = ks ++ [κ]
    | .arr κ' n' sz' => κ' = κ ∧ n' = n ∧ sz' = sz ∧ κ.1 ≤ d ∧ ks' = ks
    | _ => False
  | .bp κ off, r, ks, ks' => match r with
    | .bp κ' off' => κ' = κ ∧ off' = off ∧ κ.1 ≤ d ∧ ks' = ks
    | .obx cs' => d < κ.1 ∧ off = 0 ∧ (∃ cs, get G κ = some (.box cs) ∧ weaks d cs cs') ∧ κ ∉ ks ∧ ks' = ks ++ [κ]
    | _ => False
  | .ep cs off, r, ks, ks' => r = .ep cs off ∧ ks' = ks
  | .fn f gs, r, ks, ks' => r = .fn f gs ∧ okds d gs ∧ ks' = ks
  | .agg gs, r, ks, ks' => match r with
    | .agg rs => Rets G d gs rs ks ks'
    | _ => False
  | .tup gs, r, ks, ks' => match r with
    | .tup rs => Rets G d gs rs ks ks'
    | _ => False
  | _, _, _, _ => False
def Rets (G : Heap) (d : Nat) : List GV → List GV → List Key → List Key → Prop
  | [], rs, ks, ks' => rs = [] ∧ ks' = ks
  | g :: gs, rs, ks, ks' => match rs with
    | r :: rs => ∃ km, Ret G d g r ks km ∧ Rets G d gs rs km ks'
    | [] => False
end
/-- One result. -/
def resOf (s : St) : ResultVar → (GV → Prop) → Prop
  | .tmp t, K => K (s.F t)
  | .cell a t, K => gLoad P s.G t (s.F a) K
def ress (s : St) : List ResultVar → (List GV → Prop) → Prop
  | [], K => K []
  | r :: rs, K => resOf P s r fun g => ress s rs fun gs => K (g :: gs)
def cut (d : Nat) (G : Heap) : Heap := fun k t => if k ≤ d then G k t else []
def callPost (fn : Func) (d : Nat) (r : GV) (G' : Heap) : GE → St → Prop
  | .exit _, _ => False
  | _, s => (ress P s fn.results.toList fun gs => ∃ ks, Ret s.G d (match gs with | [g] => g | gs => .tup gs) r [] ks) ∧ ∀ k t, k ≤ d → s.G k t = G' k t
end

def initF (args : List GV) : Nat → GV := fun t => args.getD t .undef
end Go.Eng
