/-
  vet: what is found of the modules that the laws make: plain.
-/
import Derived.Test.YtohdhckafebmhaaDoorVetM
namespace Go.Proofs.YtohdhckafebmhaaDoor
open Go.RowKit

def tF : ByteArray := ⟨#[102]⟩
def tG : ByteArray := ⟨#[103]⟩
def oneM (code : List In) : Md := ⟨ByteArray.empty, [], [⟨tF, 0, 0, code⟩]⟩
def nestsC (n k : Nat) : List In := ((List.range n).map fun (i : Nat) => (⟨24, ((n + k + 1 + i : Nat) : Int), 0, 0⟩ : In)) ++ List.replicate k ⟨25, 0, 0, 0⟩ ++ [⟨15, 0, 0, 0⟩] ++ List.replicate n ⟨27, 0, 0, 0⟩
set_option maxRecDepth 100000 in
theorem nests_ok : ∀ n : Fin 11, ∀ k : Fin 11, (vetE (oneM (nestsC n.1 k.1))).isNone = decide (n.1 = k.1 ∧ n.1 ≤ 8) := by decide +kernel
def labelsC (k : Nat) (label : Int) (falls : Bool) : List In := List.replicate k ⟨40, 0, 0, 0⟩ ++ [⟨5, 0, 0, label⟩, if falls then ⟨40, 0, 0, 0⟩ else ⟨15, 0, 0, 0⟩]
def err3 (at_ : Int) (k : Int) : Chain := some ([(tMod, 0), (tFun, 0), (tAt, at_)], k)
set_option maxRecDepth 100000 in
theorem labels_in : ∀ k : Fin 11, ∀ l : Fin 12, ∀ f : Bool, l.1 < k.1 + 2 → vetE (oneM (labelsC k.1 l.1 f)) = if f then err3 (k.1 + 1) 13 else none := by decide +kernel
def rowsI (op : Nat) (a c : Int) : In := if op = 0 then ⟨2, 0, a, c⟩ else if op = 1 then ⟨16, 0, 1, a⟩ else ⟨37, 0, a, 0⟩
def rowsM (op : Nat) (a c f : Int) : Md := ⟨ByteArray.empty, [], [⟨tF, 0, 0, [rowsI op a c, ⟨15, 0, 0, 0⟩]⟩, ⟨tG, f, 0, [⟨15, 0, 0, 0⟩]⟩]⟩
set_option maxRecDepth 100000 in
theorem rows_ok : ∀ op : Fin 3, ∀ a : Fin 18, ∀ c : Fin 17, ∀ f : Fin 9, vetE (rowsM op.1 a.1 c.1 f.1) = if a.1 < 16 ∧ a.1 + (if op.1 = 0 then c.1 else if op.1 = 1 then f.1 else 3) ≤ 16 then none else err3 0 12 := by decide +kernel
#print axioms nests_ok
end Go.Proofs.YtohdhckafebmhaaDoor
