/-
  make of a slice of elements that lie each in one cell, in the small separation logic. No program in sight.
-/
import Derived.Test.YtohdhckafebmhaaDoorSrc
import Derived.Laws.MakeOwn
import Derived.OwnWalk
namespace Go.Proofs.YtohdhckafebmhaaDoor
open Go.RowKit
section
variable {W w : World} {L : List HP} {e bytes t : Nat} {P : Program} {v : Value}
theorem madeCells_one (v : Value) (n : Nat) : (madeCells #[v] n).toList = List.replicate n v := by
  unfold madeCells
  rw [List.eq_replicate_iff]
  refine ⟨by simp, fun b hb => ?_⟩
  simp at hb
  obtain ⟨i, _, rfl⟩ := hb
  rw [Nat.mod_one]
  rfl
theorem run_make_sat (h1 : P.underlying t = some (.slice e)) (h2 : (P.info? e).map (fun i => (i.zero, i.size, i.bytes)) = some (some v, 1, bytes)) (h3 : v.cells = #[v]) (s : Sat W w L) (kl kc : IntKind) (n : Nat) (b2 : bytes * n ≤ 281474976710656) (b3 : n ≤ maxLen) :
    ∃ w', (Instr.makeSlice t (.int kl n) (.int kc n)).run P w = .ok (.slice (some ⟨w.heap.size, 0, none⟩) n n) w' ∧ Sat W w' (row e 1 (some ⟨w.heap.size, 0, none⟩) n n (List.replicate n v) :: L) ∧ w.heap.size ≤ w'.heap.size := by
  cases hi : P.info? e with
  | none => rw [hi] at h2; cases h2
  | some i =>
    rw [hi] at h2
    simp only [Option.map_some, Option.some.injEq, Prod.mk.injEq] at h2
    obtain ⟨hz, hs, hb⟩ := h2
    have h63 : (n : Int) ≤ 9223372036854775807 := by unfold maxLen at b3; omega
    have hbn : (i.bytes : Int) * (n : Int) ≤ 281474976710656 := by
      have q : ((bytes * n : Nat) : Int) ≤ 281474976710656 := by omega
      rw [hb]
      rwa [Int.natCast_mul] at q
    have hr := run_make (P := P) w t e i v h1 hi hz kl kc n n (by omega) (Int.le_refl _) hbn h63
    simp only [Int.toNat_natCast, hs, Nat.mul_one, h3] at hr
    refine ⟨_, hr, ?_, by simp⟩
    have hl : (madeCells #[v] n).size = n := size_madeCells _ _
    refine (s.alloc _).rowMk (by simp) (Nat.le_refl _) b3 (by rw [hl]; omega) ?_
    rw [madeCells_one, List.drop_zero, Nat.mul_one, List.take_of_length_le (by simp)]
theorem wpList_make_sat {ops : Array Oper} {rest : List Oper} {o : Oper} {ac : Act} {Q : Exit → Act → World → Prop} (hgd : o.guard = none) (lo co : Operand) (hop : o.op = Op.makeSlice t lo co)
    (h1 : P.underlying t = some (.slice e)) (h2 : (P.info? e).map (fun i => (i.zero, i.size, i.bytes)) = some (some v, 1, bytes)) (h3 : v.cells = #[v]) (s : Sat W w L) (kl kc : IntKind) (n : Nat)
    (hl : ac.eval lo = .int kl n) (hc : ac.eval co = .int kc n) (b2 : bytes * n ≤ 281474976710656) (b3 : n ≤ maxLen)
    (h : ∀ w', Sat W w' (row e 1 (some ⟨w.heap.size, 0, none⟩) n n (List.replicate n v) :: L) → w.heap.size ≤ w'.heap.size → wpList P ops Q rest (ac.put o.dst (.slice (some ⟨w.heap.size, 0, none⟩) n n)) w') : wpList P ops Q (o :: rest) ac w := by
  refine wpList_plain hgd fun K hK => ?_
  obtain ⟨w', hr, s', hz⟩ := run_make_sat h1 h2 h3 s kl kc n b2 b3
  unfold Oper.wp
  simp [execOp, hop, hl, hc, hr, Result.andThen]
  exact hK _ _ (h w' s' hz)
end
#print axioms wpList_make_sat
end Go.Proofs.YtohdhckafebmhaaDoor
