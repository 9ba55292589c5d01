/- Operations that make or change blocks: what they make. -/
import Derived.Test.YtcedkkleclhglaaHaG
set_option linter.unusedSimpArgs false
set_option linter.unusedVariables false
set_option linter.unusedSectionVars false
namespace Go.Proofs.Ytcedkkleclhglaa.H

inductive KO where
  | asg (x : Operand) | mkz (T k n : Nat) (z : List Value)
  | alloc (T : TypeId) (z : List Value) | box (T n : Nat) (x : Operand) | store (n : Nat) (x v : Operand)
  | bslice (T k n : Nat) (z : List Value) (ps : List (Nat × Nat × Operand)) | mkslice (T k bytes : Nat) (z : List Value) (l c : Operand)
  | append (T k bytes : Nat) (x y : Operand) | copy (k : Nat) (x y : Operand)
  | call (f : FuncId) (as : List Operand) | callv (x : Operand) (as : List Operand)
def rowsA (rows : List (List D)) : List (List AV) := rows.map (List.map .d)
/-- The rows of a list. -/
def srcOf (s : St) (k : Nat) : AV → Option (Prop × List (List AV))
  | .d (.lst k' rows) => some (k' = k ∨ rows = [], rowsA rows)
  | .ful k' rows => some (k' = k ∨ rows = [], rowsA rows)
  | .own id off len => match cellsOf s id with
    | some (_, k', rows) => if k' = k then some (off + len ≤ rows.length, (rows.drop off).take len) else none
    | none => none
  | _ => none
def toD : AV → Option D
  | .d x => some x
  | .ful k rows => some (.lst k rows)
  | _ => none
def toDs : List AV → Option (List D)
  | [] => some []
  | v :: l => match toD v, toDs l with
    | some x, some r => some (x :: r)
    | _, _ => none
def chunk {α : Type} (k : Nat) : Nat → List α → List (List α)
  | 0, _ => []
  | n + 1, l => l.take k :: chunk k n (l.drop k)
def putRow (k : Nat) (r : List AV) (off : Nat) (l : List AV) : List AV := if off = 0 ∧ l.length = k then l else r.take off ++ l ++ r.drop (off + l.length)
abbrev PS := Option (Prop × AV × St)
def boxA (s : St) (T n : Nat) (v : AV) : PS := match v.flat with
  | some l => if l.length = n then some (True, .ptr s.length 0 0, s ++ [some (.cells T n [l])]) else none
  | none => none
def storeA (s : St) (n : Nat) (x v : AV) : PS := match x, v.flat with
  | .ptr id i off, some l => match cellsOf s id with
    | some (T, k, rows) => if l.length = n ∧ off + n ≤ k then some (i < rows.length, .tup [], s.set id (some (.cells T k (rows.set i (putRow k (rows.getD i []) off l))))) else none
    | none => none
  | _, _ => none
def bsliceA (s : St) (T k n : Nat) (z : List Value) (ps : List (Nat × Nat × AV)) : PS := match fillA ((List.replicate n (zeroA z)).flatten) ps with
  | some cs => match toDs cs with
    | some ds => some (True, .ful k (chunk k n ds), s)
    | none => if cs.all AV.one then some (True, .own s.length 0 n, s ++ [some (.cells T k (chunk k n cs))]) else none
  | none => none
def mksliceA (s : St) (T k bytes : Nat) (z : List Value) (l c : AV) : PS := match asI l, asI c with
  | some (_, a), some (_, b) => some (0 ≤ a ∧ a ≤ b ∧ (bytes : Int) * b ≤ 281474976710656 ∧ b ≤ 9223372036854775807, .own s.length 0 a.toNat, s ++ [some (.cells T k (List.replicate a.toNat (zeroA z)))])
  | _, _ => none
def appendA (s : St) (T k bytes : Nat) (x y : AV) : PS := match srcOf s k y with
  | some (C, ys) => match ys with
    | [] => match x with
      | .ful _ _ => some (C, x, s)
      | .own _ _ _ => some (C, x, s)
      | .d (.lst _ _) => some (C, x, s)
      | _ => none
    | _ :: _ => match x with
      | .ful k' rows => some (C ∧ (k' = k ∨ rows = []) ∧ (rows.length + ys.length) * bytes ≤ 140737488355328 ∧ rows.length + ys.length ≤ 1000000000000, .own s.length 0 (rows.length + ys.length), s ++ [some (.cells T k (rowsA rows ++ ys))])
      | .own id off len => match cellsOf s id with
        | some (T', k', rows) => if T' = T ∧ k' = k then
            some (C ∧ off + len ≤ rows.length ∧ (len + ys.length) * bytes ≤ 140737488355328 ∧ len + ys.length ≤ 1000000000000, .own s.length 0 (len + ys.length), s.set id none ++ [some (.cells T k ((rows.drop off).take len ++ ys))])
          else none
        | none => none
      | _ => none
  | none => none
def copyA (s : St) (k : Nat) (x y : AV) : PS := match x, srcOf s k y with
  | .osl id i off len, some (C, ys) => match cellsOf s id with
    | some (T, k', rows) => some (C ∧ ys.length = len ∧ i < rows.length ∧ off + len * k ≤ k', AI .i64 len, s.set id (some (.cells T k' (rows.set i (putRow k' (rows.getD i []) off ys.flatten)))))
    | none => none
  | _, _ => none
def evK (s : St) (T : Tm) : KO → PS
  | .asg x => match opd T x with
    | some v => some (True, v, s)
    | none => none
  | .mkz t k n z => some (True, .own s.length 0 n, s ++ [some (.cells t k (List.replicate n (zeroA z)))])
  | .alloc t z => some (True, .ptr s.length 0 0, s ++ [some (.cells t z.length [zeroA z])])
  | .box t n x => match opd T x with
    | some v => boxA s t n v
    | none => none
  | .store n x v => match opd T x, opd T v with
    | some a, some b => storeA s n a b
    | _, _ => none
  | .bslice t k n z ps => match opdP T ps with
    | some l => bsliceA s t k n z l
    | none => none
  | .mkslice t k by' z l c => match opd T l, opd T c with
    | some a, some b => mksliceA s t k by' z a b
    | _, _ => none
  | .append t k by' x y => match opd T x, opd T y with
    | some a, some b => appendA s t k by' a b
    | _, _ => none
  | .copy k x y => match opd T x, opd T y with
    | some a, some b => copyA s k a b
    | _, _ => none
  | .call .. => none
  | .callv .. => none
def BodyOK (P : Program) (f : FuncId) : Bool := match P.funcs[f]? with
  | some fn => fn.body.isSome && fn.name != "runtime.NumGoroutine"
  | none => false
/-- A length that is written out. -/
def litN : Operand → Option Nat
  | .const (.int _ z) => if 0 ≤ z ∧ z ≤ 16777216 then some z.toNat else none
  | _ => none
def kop (P : Program) : Op → Option KO
  | .assign x => some (.asg x)
  | .alloc T => match zeroOf P T with
    | some z => some (.alloc T z)
    | none => none
  | .box T x => match sizeT P T with
    | some n => some (.box T n x)
    | none => none
  | .store T x v => match sizeT P T with
    | some n => some (.store n x v)
    | none => none
  | .buildSlice T n ps => match P.underlying T with
    | some (.slice el) => match sizeT P el, zeroOf P el with
      | some k, some z => if n * k ≤ 16777216 ∧ z.length = k ∧ 0 < k then match putP (fun i => some (i * k, k)) ps.toList with
          | some l => some (.bslice el k n z l)
          | none => none
        else none
      | _, _ => none
    | _ => none
  | .makeSlice T l c => match P.underlying T with
    | some (.slice el) => match P.info? el, zeroOf P el with
      | some i, some z => if z.length = i.size ∧ 0 < i.size then (match litN l, litN c with
          | some a, some b => if a = b ∧ i.bytes * b ≤ 281474976710656 then some (.mkz el i.size a z) else none
          | _, _ => some (.mkslice el i.size i.bytes z l c)) else none
      | _, _ => none
    | _ => none
  | .call { callee := .builtin .append, args := as, argTypes := ts } => match ts.toList, as.toList with
    | [T, T'], [x, y] => if T = T' then match P.underlying T with
        | some (.slice el) => match P.info? el, zeroOf P el with
          | some i, some z => if z.length = i.size ∧ 0 < i.size then some (.append el i.size i.bytes x y) else none
          | _, _ => none
        | _ => none
      else none
    | _, _ => none
  | .call { callee := .builtin .copy, args := as, argTypes := ts } => match ts.toList, as.toList with
    | [T, _], [x, y] => match P.underlying T with
      | some (.slice el) => match sizeT P el with
        | some k => some (.copy k x y)
        | none => none
      | _ => none
    | _, _ => none
  | .call { callee := .value (.func f), args := as, .. } => if BodyOK P f then some (.call f as.toList) else none
  | .call { callee := .value x, args := as, .. } => some (.callv x as.toList)
  | _ => none
end Go.Proofs.Ytcedkkleclhglaa.H
