/-
  The document's own look at a term: fail; look where something was wrong already.
-/
import Derived.Test.YteaabbghnfideaaDoorTRight
namespace Go.Proofs.YteaabbghnfideaaDoor
open Go.RowKit
set_option maxHeartbeats 2000000

def XOf (h : Nat → Option Obj) (v : Option Addr) : Option (Nat × Int) → Prop
  | none => v = none
  | some (n, k) => XIn h v [(tTerm, n)] k
section
variable {W w : World} {L : List HP} {h : Nat → Option Obj} {l : Nat} {lv nv : Value} {xb : Nat}
theorem fail_any (S : Sat W w (blk l (.cells #[lv, nv, .pointer none] 70 (0, 0)) :: arch h :: L)) (n : Nat) (k : Int) :
    Calls Tryd.prog 57 #[.pointer (some ⟨l, 0, none⟩), .int .i64 n, .int .i64 k] w fun e w' => ∃ x h', e = .returned (.tuple #[]) ∧ Le h h' ∧ XIn h' x [(tTerm, (n : Int))] k ∧ Sat W w' (blk l (.cells #[lv, nv, .pointer x] 70 (0, 0)) :: arch h' :: L) := by
  have c2 : w.cell? ⟨l, 2, none⟩ = some (.pointer none) := S.cell 2
  have S1 := hid S.swap
  clear S
  go_enter Tryd.func57, Tryd.ntmps57
  go_wp2_with fail
  refine (k_any S1.out k).mono ?_
  rintro e w1 ⟨p1, h1, rfl, le, hx, s1⟩
  obtain ⟨b, rfl⟩ := hx.some
  obtain ⟨h2, le2, hb, s2⟩ := (s1.allocAt (k := w1.heap.size) (.cells #[.string tTerm, .int .i64 n, .pointer (some ⟨b, 0, none⟩), .int .i64 0] 93) rfl).store
  have hx2 : XIn h2 (some ⟨w1.heap.size, 0, none⟩) [(tTerm, (n : Int))] k := ⟨_, _, rfl, hb, hx.mono le2⟩
  have HX := hid hx2
  have HLE := hid (le.trans le2)
  have S2 := hid s2.swap
  have d2 : World.cell? _ ⟨l, 2, none⟩ = some (.pointer none) := S2.out.cell 2
  have f2 := S2.out.free 2
  have S3 := hid (S2.out.set 2 (.pointer (some ⟨w1.heap.size, 0, none⟩)))
  clear le hx s1 le2 hb s2 hx2 S1 c2
  unfold tTerm at d2 f2 S3
  go_wp2_with fail
  go_end0
  exact ⟨_, h2, rfl, HLE.out, HX.out, S3.out⟩
set_option maxRecDepth 100000 in
theorem look_err (S : Sat W w (blk l (.cells #[lv, nv, .pointer (some ⟨xb, 0, none⟩)] 70 (0, 0)) :: L)) (a0 a1 a2 a3 a4 a5 : Value) (d : Int) :
    Calls Tryd.prog 37 #[.pointer (some ⟨l, 0, none⟩), .agg #[a0, a1, a2, a3, a4, a5], .int .i64 d] w fun e w' => e = .returned (.tuple #[]) ∧ Sat W w' (blk l (.cells #[lv, nv, .pointer (some ⟨xb, 0, none⟩)] 70 (0, 0)) :: L) := by
  have S1 := hid (S.alloc' (.cells #[a0, a1, a2, a3, a4, a5] 25))
  have c2 : World.cell? _ ⟨l, 2, none⟩ = some (.pointer (some ⟨xb, 0, none⟩)) := S1.out.cell 2
  clear S
  go_enter Tryd.func37, Tryd.ntmps37
  go_wp2_with fail
  exact bodyPost_ret (v := .tuple #[]) (by simp [results, Tryd.results37, go_sem]) rfl ⟨rfl, S1.out⟩
end
end Go.Proofs.YteaabbghnfideaaDoor
