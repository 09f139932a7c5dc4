/-
  vet: which modules may run: plain. (Written by wip/gen/gen_vetm.py.)
-/
import Derived.Test.YtohdhckafebmhaaDoorTRight
namespace Go.Proofs.YtohdhckafebmhaaDoor
open Go.RowKit

structure In where
  op : Int
  a : Int
  b : Int
  c : Int
structure Fn where
  nm : ByteArray
  args : Int
  slots : Int
  code : List In
structure Md where
  nm : ByteArray
  lits : List T
  fs : List Fn
def shps : List ByteArray := [⟨#[]⟩, ⟨#[112, 115, 32]⟩, ⟨#[112, 120, 110]⟩, ⟨#[112, 115, 115]⟩, ⟨#[108, 32, 32]⟩, ⟨#[115, 115, 108]⟩, ⟨#[115, 115, 108]⟩, ⟨#[115, 107, 108]⟩, ⟨#[115, 105, 108]⟩, ⟨#[112, 115, 105]⟩, ⟨#[112, 115, 32]⟩, ⟨#[112, 115, 32]⟩, ⟨#[98, 112, 120]⟩, ⟨#[102, 32, 32]⟩, ⟨#[102, 32, 32]⟩, ⟨#[32, 32, 32]⟩, ⟨#[112, 102, 120]⟩, ⟨#[115, 115, 32]⟩, ⟨#[112, 108, 32]⟩, ⟨#[32, 32, 32]⟩, ⟨#[108, 32, 32]⟩, ⟨#[108, 32, 32]⟩, ⟨#[108, 115, 32]⟩, ⟨#[112, 32, 32]⟩, ⟨#[108, 32, 32]⟩, ⟨#[32, 32, 32]⟩, ⟨#[115, 32, 32]⟩, ⟨#[115, 32, 32]⟩, ⟨#[115, 32, 32]⟩, ⟨#[115, 32, 32]⟩, ⟨#[112, 115, 32]⟩, ⟨#[115, 32, 32]⟩, ⟨#[115, 32, 32]⟩, ⟨#[115, 115, 32]⟩, ⟨#[115, 32, 32]⟩, ⟨#[112, 115, 32]⟩, ⟨#[115, 32, 32]⟩, ⟨#[112, 120, 32]⟩, ⟨#[112, 115, 32]⟩, ⟨#[115, 32, 32]⟩, ⟨#[32, 32, 32]⟩, ⟨#[115, 32, 32]⟩]
def shpV : List Value := shps.map Value.string
/-- an operand against its letter: a kind; 0: right -/
def inB (n below : Int) : Bool := decide (0 ≤ n ∧ n < below)
def regB (n : Int) : Bool := inB n 16
def slotB (f : Fn) (n : Int) : Bool := decide (16 ≤ n ∧ n - 16 < f.slots)
def litB (m : Md) (n : Int) : Bool := decide (64 ≤ n ∧ n - 64 < m.lits.length)
def numE (letter n : Int) : Int :=
  let lo : Int := if letter = 107 then 1 else 0
  let hi : Int := if letter = 110 then 16 else if letter = 107 then 9 else if letter = 105 then 65536 else 0
  if n < lo ∨ hi < n then 1 else 0
def opdE (m : Md) (f : Fn) (letter n : Int) : Int :=
  if letter = 115 then (if litB m n || (regB n || slotB f n) then 0 else 12)
  else if letter = 112 then (if regB n || slotB f n then 0 else 12)
  else if letter = 120 then (if regB n then 0 else 12)
  else if letter = 98 then (if inB n 40 then 0 else 12)
  else if letter = 102 then (if inB n m.fs.length then 0 else 12)
  else if letter = 108 then (if inB n f.code.length then 0 else 13)
  else numE letter n
def bifN : List Int := [2, 2, 2, 2, 2, 1, 2, 2, 2, 2, 2, 2, 2, 2, 1, 2, 3, 1, 1, 2, 1, 1, 2, 2, 1, 1, 1, 1, 1, 1, 1, 1, 1, 2, 3, 2, 1, 2, 1, 1]
def argsAt (fs : List Fn) (i : Int) : Int := match fs[i.toNat]? with | some f => f.args | none => 0
def rowE (m : Md) (x : In) : Int × Int :=
  if x.op = 2 then (x.b, x.c) else if x.op = 12 then (x.c, bifN.getD x.a.toNat 0) else if x.op = 16 then (x.c, argsAt m.fs x.b) else if x.op = 37 then (x.b, 3) else (0, 0)
def letAt (op : Int) (i : Nat) : Int := match shps[op.toNat]? with | some s => ((s.data.toList[i]?).getD 0).toNat | none => 0
def insE (m : Md) (f : Fn) (x : In) : Int :=
  if ¬ (0 ≤ x.op ∧ x.op < 42) ∨ x.op = 0 then 1
  else if opdE m f (letAt x.op 0) x.a ≠ 0 then opdE m f (letAt x.op 0) x.a
  else if opdE m f (letAt x.op 1) x.b ≠ 0 then opdE m f (letAt x.op 1) x.b
  else if opdE m f (letAt x.op 2) x.c ≠ 0 then opdE m f (letAt x.op 2) x.c
  else if (rowE m x).2 > 16 - (rowE m x).1 then 12 else 0
/-- where an instruction goes, and with how many tries -/
def goesE (x : In) (pc t : Int) : List (Int × Int) :=
  if x.op = 15 ∨ x.op = 14 ∨ x.op = 26 ∨ x.op = 27 then []
  else if x.op = 4 ∨ x.op = 20 ∨ x.op = 21 then [(x.a, t)]
  else if x.op = 24 then [(pc + 1, t + 1), (x.a, t)]
  else if x.op = 25 then [(pc + 1, t - 1)]
  else if x.op = 5 ∨ x.op = 6 ∨ x.op = 7 ∨ x.op = 8 then [(pc + 1, t), (x.c, t)]
  else if x.op = 22 then [(pc + 1, t), (x.a, t)]
  else if x.op = 18 then [(pc + 1, t), (x.b, t)]
  else [(pc + 1, t)]
structure Tr where
  l : List Int
  o : List Bool
  pc : Nat
  next : Nat
/-- one way out of an instruction: an error's kind, or what is known then -/
def way (n : Nat) (s : Tr) (p : Int × Int) : Tr ⊕ Int :=
  if (n : Int) ≤ p.1 then .inr 13
  else if 0 ≤ s.l.getD p.1.toNat 0 ∧ s.l.getD p.1.toNat 0 ≠ p.2 ∨ 8 < p.2 then .inr 14
  else if s.l.getD p.1.toNat 0 < 0 then .inl { s with l := s.l.set p.1.toNat p.2, o := s.o.set p.1.toNat true, next := min s.next p.1.toNat }
  else .inl s
def ways (n : Nat) : Tr → List (Int × Int) → Tr ⊕ Int
  | s, [] => .inl s
  | s, p :: ps => match way n s p with | .inr e => .inr e | .inl s' => ways n s' ps
/-- the instruction at pc: done, or an error's kind -/
def stepT (code : List In) (s : Tr) : Tr ⊕ Int :=
  if s.o.getD s.pc false = false then .inl { s with pc := s.pc + 1 }
  else match code[s.pc]? with
    | none => .inl s
    | some x =>
      let t := s.l.getD s.pc 0
      if x.op = 25 ∧ t < 1 ∨ (x.op = 15 ∨ x.op = 14) ∧ t ≠ 0 then .inr 14
      else match ways code.length { s with o := s.o.set s.pc false, next := s.pc + 1 } (goesE x s.pc t) with
        | .inr e => .inr e
        | .inl s' => .inl { s' with pc := s'.next }
/-- all of it: the tries of all instructions, or the place and the kind -/
def runT (code : List In) : Nat → Tr → List Int ⊕ (Nat × Int)
  | 0, s => .inl s.l
  | k + 1, s => if s.pc < code.length then (match stepT code s with | .inr e => .inr (s.pc, e) | .inl s' => runT code k s') else .inl s.l
def unset (l : List Int) : Nat := (l.filter fun x => decide (x < 0)).length
def meas (n : Nat) (s : Tr) : Nat := unset s.l * (n + 1) + (n - s.pc)
def start (n : Nat) : Tr := ⟨(List.replicate n (-1)).set 0 0, (List.replicate n false).set 0 true, 0, 0⟩
def triesE (code : List In) : List Int ⊕ (Nat × Int) := runT code (meas code.length (start code.length) + 1) (start code.length)
abbrev Chain : Type := Option (List (ByteArray × Int) × Int)
def tAt : ByteArray := ⟨#[97, 116]⟩
def tFun : ByteArray := ⟨#[102, 117, 110, 99, 116, 105, 111, 110]⟩
def tMod : ByteArray := ⟨#[109, 111, 100, 117, 108, 101]⟩
def tLit : ByteArray := ⟨#[108, 105, 116, 101, 114, 97, 108]⟩
def insL (m : Md) (f : Fn) : Nat → List In → Chain
  | _, [] => none
  | i, x :: xs => if insE m f x = 0 then insL m f (i + 1) xs else some ([(tAt, i)], insE m f x)
def funE (m : Md) (i : Nat) (f : Fn) : Chain :=
  if (m.fs.take i).any (fun g => g.nm.toList == f.nm.toList) then some ([], 11)
  else if f.nm.size < 1 ∨ 255 < f.nm.size ∨ ¬ inB f.args 9 = true ∨ ¬ inB f.slots 33 = true ∨ ¬ inB ((f.code.length : Int) - 1) 16384 = true then some ([], 11)
  else match insL m f 0 f.code with
    | some e => some e
    | none => match triesE f.code with
      | .inr (pc, e) => some ([(tAt, pc)], e)
      | .inl _ => none
def litL : Nat → List T → Chain
  | _, [] => none
  | i, t :: ts => match rightOf t with | some (n, k) => some ([(tLit, i), (tTerm, n)], k) | none => litL (i + 1) ts
def funL (m : Md) : Nat → List Fn → Chain
  | _, [] => none
  | i, f :: fs => match funE m i f with | some (l, k) => some ((tFun, (i : Int)) :: l, k) | none => funL m (i + 1) fs
def modE (m : Md) : Chain :=
  if 255 < m.nm.size ∨ ¬ inB ((m.fs.length : Int) - 1) 256 = true ∨ 65536 < m.lits.length then some ([], 11)
  else match litL 0 m.lits with
    | some e => some e
    | none => funL m 0 m.fs
def vetE (m : Md) : Chain := match modE m with | some (l, k) => some ((tMod, 0) :: l, k) | none => none
end Go.Proofs.YtohdhckafebmhaaDoor
