/-
  ROWS OF STRUCTS: lists whose elements take so many cells each. No program in sight.
-/
import Derived.Test.YtlgogflhjpcmlaaDoorArch
namespace Go.Proofs.YtlgogflhjpcmlaaDoor
open Go.RowKit

section
variable {α : Type} {f : α → List Value} {size : Nat}
theorem flat_length (hf : ∀ x, (f x).length = size) (l : List α) : (l.flatMap f).length = l.length * size := by
  induction l with
  | nil => simp
  | cons a l ih => simp only [List.flatMap_cons, List.length_append, List.length_cons, ih, hf]; rw [Nat.succ_mul]; omega
theorem flat_get (hf : ∀ x, (f x).length = size) {l : List α} {k : Nat} {x : α} (h : l[k]? = some x) {j : Nat} (hj : j < size) : (l.flatMap f)[k * size + j]? = (f x)[j]? := by
  induction l generalizing k with
  | nil => cases h
  | cons a l ih =>
    rw [List.flatMap_cons]
    cases k with
    | zero =>
      simp only [List.getElem?_cons_zero, Option.some.injEq] at h
      subst h
      rw [Nat.zero_mul, Nat.zero_add, List.getElem?_append_left (by rw [hf]; exact hj)]
    | succ k =>
      simp only [List.getElem?_cons_succ] at h
      rw [List.getElem?_append_right (by rw [hf, Nat.succ_mul]; omega)]
      have e : (k + 1) * size + j - (f a).length = k * size + j := by rw [hf, Nat.succ_mul]; omega
      rw [e]
      exact ih h
theorem flat_set (hf : ∀ x, (f x).length = size) {l : List α} {k : Nat} {x y : α} (h : l[k]? = some x) {j : Nat} (hj : j < size) {v : Value} (hy : (f x).set j v = f y) : (l.flatMap f).set (k * size + j) v = (l.set k y).flatMap f := by
  induction l generalizing k with
  | nil => cases h
  | cons a l ih =>
    cases k with
    | zero =>
      simp only [List.getElem?_cons_zero, Option.some.injEq] at h
      subst h
      rw [List.flatMap_cons, List.set_cons_zero, List.flatMap_cons, Nat.zero_mul, Nat.zero_add, List.set_append_left _ _ (by rw [hf]; exact hj), hy]
    | succ k =>
      simp only [List.getElem?_cons_succ] at h
      rw [List.flatMap_cons, List.set_cons_succ, List.flatMap_cons, List.set_append_right _ _ (by rw [hf, Nat.succ_mul]; omega)]
      have e : (k + 1) * size + j - (f a).length = k * size + j := by rw [hf, Nat.succ_mul]; omega
      rw [e, ih h]
theorem flat_take (hf : ∀ x, (f x).length = size) (l : List α) (k : Nat) : (l.flatMap f).take (k * size) = (l.take k).flatMap f := by
  induction l generalizing k with
  | nil => simp
  | cons a l ih =>
    cases k with
    | zero => simp
    | succ k =>
      rw [List.flatMap_cons, List.take_succ_cons, List.flatMap_cons, List.take_append, hf, Nat.succ_mul, List.take_of_length_le (by rw [hf]; omega), Nat.add_sub_cancel, ih]
theorem flat_snoc (l : List α) (x : α) : (l ++ [x]).flatMap f = l.flatMap f ++ f x := by simp
end
theorem Sat.allocAt {W w : World} {L : List HP} (s : Sat W w L) (o : Obj) {k : Nat} (hk : k = w.heap.size) : Sat W (w.alloc o) (blk k o :: L) := by subst hk; exact s.alloc o
def i64s (l : List Int) : List Value := l.map (.int .i64)
theorem get_i64s {l : List Int} {k : Nat} {x : Int} (h : l[k]? = some x) : (i64s l)[k]? = some (.int .i64 x) := by simp [i64s, h]
theorem i64s_snoc (l : List Int) (x : Int) : i64s (l ++ [x]) = i64s l ++ [.int .i64 x] := by simp [i64s]
theorem length_i64s (l : List Int) : (i64s l).length = l.length := by simp [i64s]
def bools (l : List Bool) : List Value := l.map .bool
theorem get_bools {l : List Bool} {k : Nat} {x : Bool} (h : l[k]? = some x) : (bools l)[k]? = some (.bool x) := by simp [bools, h]
theorem length_bools (l : List Bool) : (bools l).length = l.length := by simp [bools]
theorem set_bools (l : List Bool) (k : Nat) (x : Bool) : (bools l).set k (.bool x) = bools (l.set k x) := by simp [bools]
end Go.Proofs.YtlgogflhjpcmlaaDoor
