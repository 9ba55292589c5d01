/- Operations that change no memory: a function over values, and its law. -/
import Derived.Test.YtcedkkleclhglaaHaB
set_option linter.unusedSimpArgs false
set_option linter.unusedVariables false
set_option linter.unusedSectionVars false
namespace Go.Proofs.Ytcedkkleclhglaa.H

inductive FO where
  | mv (x : Operand) | pick (c a b : Operand) | bin (op : BinOp) (x y : Operand) | binb (op : BinOp) (x y : Operand) | bins (op : BinOp) (x y : Operand) | shf (op : BinOp) (x y : Operand) | eql (neg : Bool) (sh : Sh) (x y : Operand)
  | un (op : UnOp) (x : Operand) | conv (k : IntKind) (x : Operand) | nilc (x : Operand) | field (off : Nat) (sz : Option Nat) (x : Operand) | extract (i : Nat) (x : Operand)
  | build (z : List Value) (ps : List (Nat × Nat × Operand)) | mkfn (f : FuncId) (a c : List Operand)
  | faddr (off : Nat) (x : Operand) | iaddr (sz : Nat) (arr : Option Nat) (x i : Operand) | idx (sz : Nat) (rd : Option Nat) (n : Nat) (x i : Operand) | sidx (x i : Operand)
  | len (x : Operand) | lens (x : Operand) | mm (mx : Bool) (l : List Operand) | load (sz : Option Nat) (x : Operand)
  | slc (sz : Nat) (x : Operand) (lo hi mx : Option Operand) | slca (sz n : Nat) (x : Operand) | slcs (x : Operand) (lo hi : Option Operand)

/-! ### Values -/
abbrev PA := Option (Prop × AV)
def intA (op : BinOp) (k : IntKind) (a b : Int) : PA := match op with
  | .add => some (True, AI k (k.wrap (a + b)))
  | .sub => some (True, AI k (k.wrap (a - b)))
  | .mul => some (True, AI k (k.wrap (a * b)))
  | .quo => some (b ≠ 0, AI k (k.wrap (a.tdiv b)))
  | .rem => some (b ≠ 0, AI k (a.tmod b))
  | .eql => some (True, AB (decide (a = b)))
  | .neq => some (True, AB (!decide (a = b)))
  | .lss => some (True, AB (decide (a < b)))
  | .leq => some (True, AB (decide (a ≤ b)))
  | .gtr => some (True, AB (decide (b < a)))
  | .geq => some (True, AB (decide (b ≤ a)))
  | .and => some (True, AI k (k.wrap (BitVec.ofInt k.bits a &&& BitVec.ofInt k.bits b).toNat))
  | .or => some (True, AI k (k.wrap (BitVec.ofInt k.bits a ||| BitVec.ofInt k.bits b).toNat))
  | .xor => some (True, AI k (k.wrap (BitVec.ofInt k.bits a ^^^ BitVec.ofInt k.bits b).toNat))
  | .andNot => some (True, AI k (k.wrap (BitVec.ofInt k.bits a &&& ~~~BitVec.ofInt k.bits b).toNat))
  | _ => none
def boolA (op : BinOp) (a b : Bool) : PA := match op with
  | .eql => some (True, AB (a == b))
  | .neq => some (True, AB (!(a == b)))
  | _ => none
def strA (op : BinOp) (a b : ByteArray) : PA := match op with
  | .eql => some (True, AB (a.toList == b.toList))
  | .neq => some (True, AB (!(a.toList == b.toList)))
  | .lss => some (True, AB (Op.bytesLess a.toList b.toList))
  | .add => some (((a.size + b.size : Nat) : Int) ≤ IntKind.i64.max, .d (.v (.string (a ++ b))))
  | _ => none
def binA (op : BinOp) (x y : AV) : PA := match asI x, asI y with
  | some (k, a), some (l, b) => if k = l then intA op k a b else none
  | _, _ => none
def binbA (op : BinOp) (x y : AV) : PA := match asB x, asB y with
  | some a, some b => boolA op a b
  | _, _ => none
def binsA (op : BinOp) (x y : AV) : PA := match asS x, asS y with
  | some a, some b => strA op a b
  | _, _ => none
def shfA (op : BinOp) (x y : AV) : PA := match asI x, asI y with
  | some (k, a), some (_, b) => match op with
    | .shl => some (0 ≤ b, AI k (k.wrap (a * 2 ^ (min b.toNat k.bits))))
    | .shr => some (0 ≤ b, AI k (a.fdiv (2 ^ (min b.toNat k.bits))))
    | _ => none
  | _, _ => none
def eqlA (neg : Bool) (sh : Sh) (x y : AV) : PA := match eqA sh x y with
  | some b => some (True, AB (if neg then !b else b))
  | none => none
def unA (op : UnOp) (x : AV) : PA := match op with
  | .neg => match asI x with
    | some (k, a) => some (True, AI k (k.wrap (0 - a)))
    | none => none
  | .not => match asB x with
    | some b => some (True, AB (!b))
    | none => none
  | _ => none
def convA (k : IntKind) (x : AV) : PA := match asI x with
  | some (_, a) => some (True, AI k (k.wrap a))
  | none => none
def setA (cs : List AV) (off : Nat) (l : List AV) : Option (List AV) := if off + l.length ≤ cs.length then some (cs.take off ++ l ++ cs.drop (off + l.length)) else none
def fillA : List AV → List (Nat × Nat × AV) → Option (List AV)
  | cs, [] => some cs
  | cs, (off, size, v) :: r => match v.flat with
    | some l => if l.length = size then match setA cs off l with
        | some cs' => fillA cs' r
        | none => none
      else none
    | none => none
def zA1 : Value → AV
  | .slice none 0 0 => .ful 0 []
  | x => .d (.v x)
def zeroA (z : List Value) : List AV := z.map zA1
def cellsOf (s : St) (id : Nat) : Option (TypeId × Nat × List (List AV)) := match s[id]? with
  | some (some (.cells T k l)) => some (T, k, l)
  | _ => none
def cutA (sz : Option Nat) (r : List AV) (off : Nat) : AV := match sz with
  | none => r.getD off default
  | some n => .agg ((List.range n).map fun c => r.getD (off + c) default)
def loadA (s : St) (sz : Option Nat) (x : AV) : PA := match x with
  | .ptr id i off => match cellsOf s id with
    | some (_, k, rows) => if off + sz.getD 1 ≤ k then some (i < rows.length, cutA sz (rows.getD i []) off) else none
    | none => none
  | .elm k rows i off => if off + sz.getD 1 ≤ k then some (True, cutD sz (rows.getD i []) off) else none
  | _ => none
def iaddrA (s : St) (sz : Nat) (arr : Option Nat) (x i : AV) : PA := match asI i with
  | some (_, z) => match arr with
    | some n => match x with
      | .ptr id j off => some (0 ≤ z ∧ z < n, .ptr id j (off + z.toNat * sz))
      | _ => none
    | none => match x with
      | .d (.lst k rows) => some (0 ≤ z ∧ z < rows.length ∧ k = sz, .elm k rows z.toNat 0)
      | .ful k rows => some (0 ≤ z ∧ z < rows.length ∧ k = sz, .elm k rows z.toNat 0)
      | .own id off len => match cellsOf s id with
        | some (_, k, _) => if k = sz then some (0 ≤ z ∧ z < len, .ptr id (off + z.toNat) 0) else none
        | none => none
      | .osl id j off len => some (0 ≤ z ∧ z < len, .ptr id j (off + z.toNat * sz))
      | _ => none
  | none => none
def idxA (sz : Nat) (rd : Option Nat) (n : Nat) (x i : AV) : PA := match asI i, x with
  | some (_, z), .agg l => match rd with
    | some m => some (0 ≤ z ∧ z < n ∧ z.toNat * sz + m ≤ l.length, .agg ((l.drop (z.toNat * sz)).take m))
    | none => some (0 ≤ z ∧ z < n ∧ z.toNat * sz < l.length, l.getD (z.toNat * sz) default)
  | _, _ => none
def sidxA (x i : AV) : PA := match asS x, asI i with
  | some s, some (_, z) => some (0 ≤ z ∧ z < s.size, AI .u8 (s.data.toList.getD z.toNat 0).toNat)
  | _, _ => none
def lenA (x : AV) : PA := match x with
  | .d (.lst _ rows) => some (True, AI .i64 rows.length)
  | .ful _ rows => some (True, AI .i64 rows.length)
  | .own _ _ len => some (True, AI .i64 len)
  | .osl _ _ _ len => some (True, AI .i64 len)
  | _ => none
def lensA (x : AV) : PA := match asS x with
  | some s => some (True, AI .i64 s.size)
  | none => none
def mmF (mx : Bool) (a b : Int) : Int := if mx then max a b else min a b
def mmL (mx : Bool) (k : IntKind) (acc : Int) : List AV → Option Int
  | [] => some acc
  | x :: l => match asI x with
    | some (j, b) => if j = k then mmL mx k (mmF mx acc b) l else none
    | none => none
def mmA (mx : Bool) : List AV → PA
  | [] => none
  | x :: l => match asI x with
    | some (k, a) => match mmL mx k a l with
      | some z => some (True, AI k z)
      | none => none
    | none => none
def optI (T : Tm) : Option Operand → Option (Option Int)
  | none => some none
  | some x => match opd T x with
    | some v => match asI v with
      | some (_, z) => some (some z)
      | none => none
    | none => none
def slcA (s : St) (sz : Nat) (x : AV) (lo hi mx : Option Int) : PA := match mx with
  | none => match x with
    | .own id off len => match cellsOf s id with
      | some (_, k, _) => if k = sz then some (0 ≤ lo.getD 0 ∧ lo.getD 0 ≤ hi.getD len ∧ hi.getD len ≤ len, .own id (off + (lo.getD 0).toNat) ((hi.getD len).toNat - (lo.getD 0).toNat)) else none
      | none => none
    | .d (.lst k rows) => some (0 ≤ lo.getD 0 ∧ lo.getD 0 ≤ hi.getD rows.length ∧ hi.getD rows.length ≤ rows.length ∧ (k = sz ∨ rows = []),
        .d (.lst k ((rows.drop (lo.getD 0).toNat).take ((hi.getD rows.length).toNat - (lo.getD 0).toNat))))
    | .ful k rows => match hi with
      | none => some (0 ≤ lo.getD 0 ∧ lo.getD 0 ≤ rows.length ∧ (k = sz ∨ rows = []), .ful k (rows.drop (lo.getD 0).toNat))
      | some h => some (0 ≤ lo.getD 0 ∧ lo.getD 0 ≤ h ∧ h ≤ rows.length ∧ (k = sz ∨ rows = []), .d (.lst k ((rows.drop (lo.getD 0).toNat).take (h.toNat - (lo.getD 0).toNat))))
    | _ => none
  | some m => match x with
    | .own _ _ len => some (0 = lo.getD 0 ∧ m = 0 ∧ hi = some 0, .ful sz [])
    | .d (.lst k rows) => some (0 = lo.getD 0 ∧ m = 0 ∧ hi = some 0, .ful sz [])
    | .ful k rows => some (0 = lo.getD 0 ∧ m = 0 ∧ hi = some 0, .ful sz [])
    | _ => none
def slcsA (x : AV) (lo hi : Option Int) : PA := match asS x with
  | some s => some (0 ≤ lo.getD 0 ∧ lo.getD 0 ≤ hi.getD s.size ∧ hi.getD s.size ≤ s.size, .d (.v (.string (s.extract (lo.getD 0).toNat (hi.getD s.size).toNat))))
  | none => none
def opdP (T : Tm) : List (Nat × Nat × Operand) → Option (List (Nat × Nat × AV))
  | [] => some []
  | (o, z, x) :: l => match opd T x, opdP T l with
    | some v, some r => some ((o, z, v) :: r)
    | _, _ => none
def pickA (c a b : AV) : PA := match asB c with
  | some t => some (True, bif t then a else b)
  | none => none
def nilcA (x : AV) : PA := match x with
  | .ptr .. => some (True, x)
  | .elm .. => some (True, x)
  | .fn .. => some (True, x)
  | _ => none
def evF (s : St) (T : Tm) : FO → PA
  | .mv x => match opd T x with
    | some v => some (True, v)
    | none => none
  | .pick c x y => match opd T c with
    | some vc => match asB vc with
      | some true => match opd T x with
        | some v => some (True, v)
        | none => none
      | some false => match opd T y with
        | some v => some (True, v)
        | none => none
      | none => none
    | none => none
  | .bin op x y => match opd T x, opd T y with
    | some a, some b => binA op a b
    | _, _ => none
  | .binb op x y => match opd T x, opd T y with
    | some a, some b => binbA op a b
    | _, _ => none
  | .bins op x y => match opd T x, opd T y with
    | some a, some b => binsA op a b
    | _, _ => none
  | .shf op x y => match opd T x, opd T y with
    | some a, some b => shfA op a b
    | _, _ => none
  | .eql neg sh x y => match opd T x, opd T y with
    | some a, some b => eqlA neg sh a b
    | _, _ => none
  | .un op x => match opd T x with
    | some a => unA op a
    | none => none
  | .conv k x => match opd T x with
    | some a => convA k a
    | none => none
  | .nilc x => match opd T x with
    | some a => nilcA a
    | none => none
  | .field off sz x => match opd T x with
    | some (.agg l) => match cut sz l off with
      | some v => some (True, v)
      | none => none
    | _ => none
  | .extract i x => match opd T x with
    | some (.tup l) => match l[i]? with
      | some v => some (True, v)
      | none => none
    | _ => none
  | .build z ps => match opdP T ps with
    | some l => match fillA (zeroA z) l with
      | some cs => some (True, .agg cs)
      | none => none
    | none => none
  | .mkfn f x y => match opdL T x, opdL T y with
    | some a, some c => some (True, .fn f a c)
    | _, _ => none
  | .faddr off x => match opd T x with
    | some (.ptr id i o) => some (True, .ptr id i (o + off))
    | some (.elm k rows i o) => some (True, .elm k rows i (o + off))
    | _ => none
  | .iaddr sz arr x i => match opd T x, opd T i with
    | some a, some b => iaddrA s sz arr a b
    | _, _ => none
  | .idx sz rd n x i => match opd T x, opd T i with
    | some a, some b => idxA sz rd n a b
    | _, _ => none
  | .sidx x i => match opd T x, opd T i with
    | some a, some b => sidxA a b
    | _, _ => none
  | .len x => match opd T x with
    | some a => lenA a
    | none => none
  | .lens x => match opd T x with
    | some a => lensA a
    | none => none
  | .mm mx l => match opdL T l with
    | some r => mmA mx r
    | none => none
  | .load sz x => match opd T x with
    | some a => loadA s sz a
    | none => none
  | .slc sz x lo hi mx => match opd T x, optI T lo, optI T hi, optI T mx with
    | some a, some l, some h, some m => slcA s sz a l h m
    | _, _, _, _ => none
  | .slca sz n x => match opd T x with
    | some (.ptr id i off) => if 0 < n then some (True, .osl id i off n) else none
    | _ => none
  | .slcs x lo hi => match opd T x, optI T lo, optI T hi with
    | some a, some l, some h => slcsA a l h
    | _, _, _ => none

/-! ### From the model's operations -/
def isShift : BinOp → Bool
  | .shl | .shr => true
  | _ => false
def zeroOf (P : Program) (T : TypeId) : Option (List Value) := match P.info? T with
  | some i => match i.zero with
    | some z => if z.cells.toList.all (fun c => c.oneCell') then some z.cells.toList else none
    | none => none
  | none => none
def placesA (P : Program) (T : TypeId) : Option (Nat → Option (Nat × Nat)) := match P.underlying T with
  | some (.array _ el) => match sizeT P el with
    | some n => some fun i => some (i * n, n)
    | none => none
  | some (.struct fs) => match fs.toList.mapM (fun f => (P.info? f.type).map fun i => (f.offset, i.size)) with
    | some l => some (l.toArray[·]?)
    | none => none
  | _ => none
def putP (g : Nat → Option (Nat × Nat)) : List (Nat × Operand) → Option (List (Nat × Nat × Operand))
  | [] => some []
  | (i, x) :: l => match g i, putP g l with
    | some (o, z), some r => some ((o, z, x) :: r)
    | _, _ => none
def cop (P : Program) : Op → Option FO
  | .move x => some (.mv x)
  | .pick c x y => some (.pick c x y)
  | .binOp op T x y _ => match P.underlying T with
    | some (.int _) => if isShift op then some (.shf op x y) else some (.bin op x y)
    | some .bool => some (.binb op x y)
    | some .string => some (.bins op x y)
    | some (.struct _) => if P.eqGuardType P.depth T = true then none else match op, shOf P 10000 T with
      | .eql, some sh => some (.eql false sh x y)
      | .neq, some sh => some (.eql true sh x y)
      | _, _ => none
    | _ => none
  | .unOp op _ x => some (.un op x)
  | .convert src dst x => match P.underlying src, P.underlying dst with
    | some (.int _), some (.int k) => some (.conv k x)
    | _, _ => none
  | .nilCheck x => some (.nilc x)
  | .field T x f => match P.underlying T with
    | some (.struct fs) => match fs[f]? with
      | some fd => match rdT P fd.type with
        | some r => some (.field fd.offset r x)
        | none => none
      | none => none
    | _ => none
  | .extract x i => some (.extract i x)
  | .build T ps => match zeroOf P T, placesA P T with
    | some z, some g => match putP g ps.toList with
      | some l => some (.build z l)
      | none => none
    | _, _ => none
  | .makeFunc (.func f) x y => some (.mkfn f x.toList y.toList)
  | .fieldAddr T x f => match P.underlying T with
    | some (.struct fs) => match fs[f]? with
      | some fd => match sizeT P fd.type with
        | some (_ + 1) => some (.faddr fd.offset x)
        | _ => none
      | none => none
    | _ => none
  | .indexAddr T x i => match P.underlying T with
    | some (.slice el) => match sizeT P el with
      | some sz => some (.iaddr sz none x i)
      | none => none
    | some (.array n el) => match sizeT P el with
      | some sz => some (.iaddr sz (some n) x i)
      | none => none
    | _ => none
  | .index T x i => match P.underlying T with
    | some (.array n el) => match sizeT P el, rdT P el with
      | some sz, some r => some (.idx sz r n x i)
      | _, _ => none
    | some .string => some (.sidx x i)
    | _ => none
  | .load T x => match rdT P T with
    | some r => some (.load r x)
    | none => none
  | .slice T x lo hi mx => match P.underlying T with
    | some (.slice el) => match sizeT P el with
      | some sz => some (.slc sz x lo hi mx)
      | none => none
    | some (.array n el) => match sizeT P el, lo, hi, mx with
      | some sz, none, none, none => some (.slca sz n x)
      | _, _, _, _ => none
    | some .string => match mx with
      | none => some (.slcs x lo hi)
      | some _ => none
    | _ => none
  | .call { callee := .builtin .len, args := as, argTypes := ts } => match ts.toList, as.toList with
    | [T], [x] => match P.underlying T with
      | some (.slice _) => some (.len x)
      | some .string => some (.lens x)
      | some (.array n _) => some (.mv (.const (.int .i64 n)))
      | _ => none
    | _, _ => none
  | .call { callee := .builtin .min, args := as, .. } => some (.mm false as.toList)
  | .call { callee := .builtin .max, args := as, .. } => some (.mm true as.toList)
  | _ => none
end Go.Proofs.Ytcedkkleclhglaa.H
