/-
  vet: the statements' wrong; plain facts of the modules that the laws make.
-/
import Derived.Test.YtohdhckafebmhaaDoorVetW
import Derived.Test.YtohdhckafebmhaaDoorPlace
import Derived.Test.YtohdhckafebmhaaDoorArg
namespace Go.Proofs.YtohdhckafebmhaaDoor
open Go.RowKit
set_option maxHeartbeats 4000000
set_option maxRecDepth 100000

theorem elemIn : Elem Tryd.prog 38 36 4 32 := Elem.mk' Tryd.underlying38 (z := .agg #[.int .i64 0, .int .i64 0, .int .i64 0, .int .i64 0]) (by kernel_rfl) rfl (by decide)
theorem one4 (a b c d : Int) : ∀ v ∈ ([.int .i64 a, .int .i64 b, .int .i64 c, .int .i64 d] : List Value), v.oneCell' = true := by
  intro v hv
  simp only [List.mem_cons, List.not_mem_nil, or_false] at hv
  rcases hv with rfl | rfl | rfl | rfl <;> rfl
theorem ins_snoc (l : List In) (x : In) : l.flatMap InVals ++ [.int .i64 x.op, .int .i64 x.a, .int .i64 x.b, .int .i64 x.c] = (l ++ [x]).flatMap InVals := by
  rw [flat_snoc]; rfl
theorem rep_snoc (l : List In) (j : Nat) (x : In) : (l ++ List.replicate j x) ++ [x] = l ++ List.replicate (j + 1) x := by rw [List.append_assoc, List.replicate_succ']
section
variable {W w : World} {L : List HP} {h : Nat → Option Obj}
theorem wrong_any (S : Sat W w (arch h :: L)) (n k : Int) : Calls Tryd.prog 19 #[.int .i64 n, .int .i64 k] w fun e w' => ∃ v h', e = .returned v ∧ Le h h' ∧ ErrIn h' v [(tMod, 0), (tFun, 0), (tAt, n)] k ∧ Sat W w' (arch h' :: L) := by
  have S1 := hid S
  clear S
  go_enter Tryd.func19, Tryd.ntmps19
  go_wp2_with fail
  go_ret
  obtain ⟨h1, l1, b1, s1⟩ := (S1.out.allocAt (k := w.heap.size) (.cells #[.string tAt, .int .i64 n, .iface 49 (.int .i64 k)] 86) rfl).store
  obtain ⟨h2, l2, b2, s2⟩ := (s1.allocAt (k := w.heap.size + 1) (.cells #[.string tFun, .int .i64 0, .iface 84 (.pointer (some ⟨w.heap.size, 0, none⟩))] 86) (by simp)).store
  obtain ⟨h3, l3, b3, s3⟩ := (s2.allocAt (k := w.heap.size + 2) (.cells #[.string tMod, .int .i64 0, .iface 84 (.pointer (some ⟨w.heap.size + 1, 0, none⟩))] 86) (by simp)).store
  exact ⟨_, h3, rfl, (l1.trans l2).trans l3, ⟨_, _, rfl, b3, _, _, rfl, l3 _ _ b2, _, _, rfl, l3 _ _ (l2 _ _ b1), rfl⟩, s3⟩
end
/-! ### plain -/
theorem insL_rep {m : Md} {f : Fn} {x : In} (h : insE m f x = 0) (rest : List In) : ∀ (k i : Nat), insL m f i (List.replicate k x ++ rest) = insL m f (i + k) rest
  | 0, i => by simp
  | k + 1, i => by
    rw [List.replicate_succ, List.cons_append, insL, if_pos h, insL_rep h rest k (i + 1), Nat.add_right_comm]
    rfl
theorem yield_ok (m : Md) (f : Fn) : insE m f ⟨40, 0, 0, 0⟩ = 0 := by rfl
theorem ifeq_bad (m : Md) (f : Fn) (label : Int) (h : inB label f.code.length = false) : insE m f ⟨5, 0, 0, label⟩ = 13 := by
  have h0 : opdE m f (letAt 5 0) 0 = 0 := by
    show (if litB m 0 || (regB 0 || slotB f 0) then (0 : Int) else 12) = 0
    rw [if_pos]
    simp [regB, inB]
  have h1 : opdE m f (letAt 5 1) 0 = 0 := h0
  have h2 : opdE m f (letAt 5 2) label = 13 := by
    show (if inB label f.code.length then (0 : Int) else 13) = 13
    rw [h]; rfl
  unfold insE
  rw [if_neg (by simp)]
  simp only
  rw [if_neg (by rw [h0]; simp), if_neg (by rw [h1]; simp), if_pos (by rw [h2]; simp), h2]
theorem labels_len (k : Nat) (l : Int) (f : Bool) : (labelsC k l f).length = k + 2 := by unfold labelsC; simp
theorem one_vet (code : List In) (h : 0 < code.length ∧ code.length ≤ 16384) : vetE (oneM code) = match insL (oneM code) ⟨tF, 0, 0, code⟩ 0 code with
    | some (l, k) => some ((tMod, 0) :: (tFun, 0) :: l, k)
    | none => match triesE code with
      | .inr (pc, e) => some ([(tMod, 0), (tFun, 0), (tAt, (pc : Int))], e)
      | .inl _ => none := by
  have hf : funE (oneM code) 0 ⟨tF, 0, 0, code⟩ = match insL (oneM code) ⟨tF, 0, 0, code⟩ 0 code with
    | some e => some e
    | none => match triesE code with
      | .inr (pc, e) => some ([(tAt, (pc : Int))], e)
      | .inl _ => none := by
    unfold funE
    have h1 : inB ((code.length : Int) - 1) 16384 = true := decide_eq_true (by omega)
    rw [if_neg (by simp), if_neg]
    · rfl
    · show ¬ (tF.size < 1 ∨ 255 < tF.size ∨ ¬ inB 0 9 = true ∨ ¬ inB 0 33 = true ∨ ¬ inB ((code.length : Int) - 1) 16384 = true)
      rw [h1]
      decide
  unfold vetE modE
  rw [if_neg (by show ¬ (255 < ByteArray.empty.size ∨ ¬ inB ((1 : Int) - 1) 256 = true ∨ 65536 < 0); decide)]
  show (match (match litL 0 [] with | some e => some e | none => funL (oneM code) 0 [⟨tF, 0, 0, code⟩]) with | some (l, k) => some ((tMod, 0) :: l, k) | none => none) = _
  rw [litL]
  simp only
  rw [funL, hf]
  cases hi : insL (oneM code) ⟨tF, 0, 0, code⟩ 0 code with
  | some e => obtain ⟨l, k⟩ := e; rfl
  | none =>
    simp only
    cases ht : triesE code with
    | inr p => obtain ⟨pc, e⟩ := p; rfl
    | inl l => rfl
theorem labels_out (k : Nat) (l : Int) (f : Bool) (hk : k ≤ 10) (h : l < 0 ∨ (k : Int) + 2 ≤ l) : vetE (oneM (labelsC k l f)) = err3 k 13 := by
  have hi : insL (oneM (labelsC k l f)) ⟨tF, 0, 0, labelsC k l f⟩ 0 (labelsC k l f) = some ([(tAt, (k : Int))], 13) := by
    have hb : insE (oneM (labelsC k l f)) ⟨tF, 0, 0, labelsC k l f⟩ ⟨5, 0, 0, l⟩ = 13 := ifeq_bad _ _ _ (by
      show inB l ((labelsC k l f).length : Nat) = false
      rw [labels_len]
      exact decide_eq_false (by omega))
    have : ∀ m g, insE m g ⟨5, 0, 0, l⟩ = 13 → insL m g 0 (labelsC k l f) = some ([(tAt, (k : Int))], 13) := by
      intro m g hg
      unfold labelsC
      rw [insL_rep (yield_ok _ _), insL, if_neg (by rw [hg]; decide), hg, Nat.zero_add]
    exact this _ _ hb
  rw [one_vet _ (by rw [labels_len]; omega), hi]
  rfl
#print axioms labels_out
end Go.Proofs.YtohdhckafebmhaaDoor
