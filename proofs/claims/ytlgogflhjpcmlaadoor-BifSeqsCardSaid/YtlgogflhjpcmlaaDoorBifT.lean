/-
  The law's do of seq, length, sum. (Written by wip/gen/gen_bift.py.)
-/
import Derived.Test.YtlgogflhjpcmlaaDoorBifSP
namespace Go.Proofs.YtlgogflhjpcmlaaDoor
open Go.RowKit
set_option maxHeartbeats 4000000
set_option maxRecDepth 100000
section
variable {W w : World} {L : List HP} {h : Nat → Option Obj} {b : Nat} {a0 a1 a2 a3 a4 a5 b0 b1 b2 b3 b4 b5 : Value}
theorem fnk_seq : FnOk 37 ⟨#[115, 101, 113]⟩ 2 (some 62) := ⟨by decide +kernel, [115, 101, 113, 50], 3, rfl, rfl, by decide, by decide, by decide +kernel, by intro f hf args w; cases hf; exact callFunc_enter Tryd.func62 (by kernel_rfl) rfl args w⟩
theorem fnk_length : FnOk 21 ⟨#[108, 101, 110, 103, 116, 104]⟩ 1 (some 52) := ⟨by decide +kernel, [108, 101, 110, 103, 116, 104, 49], 6, rfl, rfl, by decide, by decide, by decide +kernel, by intro f hf args w; cases hf; exact callFunc_enter Tryd.func52 (by kernel_rfl) rfl args w⟩
theorem fnk_sum : FnOk 36 ⟨#[115, 117, 109]⟩ 1 (some 61) := ⟨by decide +kernel, [115, 117, 109, 49], 3, rfl, rfl, by decide, by decide, by decide +kernel, by intro f hf args w; cases hf; exact callFunc_enter Tryd.func61 (by kernel_rfl) rfl args w⟩
theorem seqL_nums (x y : Int) : seqL x y = numsT (fun i => x + (i : Int)) (y - x + 1).toNat := rfl
theorem prop_nums (f : Nat → Int) (N : Nat) : propB (numsT f N).k (numsT f N).rs.length = true ∧ ((numsT f N).is.all fun t => t.k == 1) = true ∧ (numsT f N).is.length = N ∧ (numsT f N).is = (List.range N).map fun i => tN (f i) := by
  by_cases h0 : N = 0
  · subst h0; exact ⟨rfl, rfl, rfl, rfl⟩
  · rw [nums_eq f h0]
    refine ⟨rfl, ?_, by simp [T.is], rfl⟩
    simp [T.is, List.all_eq_true]
    intro i _; rfl
theorem do_seq (q : TabS h) (S : Sat W w (blk b (.cells #[a0, a1, a2, a3, a4, a5, b0, b1, b2, b3, b4, b5] 35 (0, 0)) :: arch h :: L)) (x y : Int) (q1 : TIn h (tN x) [a0, a1, a2, a3, a4, a5]) (q2 : TIn h (tN y) [b0, b1, b2, b3, b4, b5]) (hx : -1125899906842624 ≤ x ∧ x ≤ 1125899906842624) (hy : -1125899906842624 ≤ y ∧ y ≤ 1125899906842624) :
    Calls Tryd.prog 23 #[.string ⟨#[115, 101, 113]⟩, .slice (some ⟨b, 0, none⟩) 2 2] w (DoL W L h (seqO x y)) := by
  have f1 : fits x := by unfold fits; omega
  have f2 : fits y := by unfold fits; omega
  refine lawdo2 q S fnk_seq _ _ q1 q2 (num_N f1).2.1 (num_N f2).2.1 (num_N f1).2.2 (num_N f2).2.2 (seqO x y) ?_ (fun w h' L cb l s c => seq_m s x y c hx hy)
  intro t ht
  unfold seqO at ht
  split at ht
  · cases ht
  · rename_i hn
    cases ht
    rw [seqL_nums]
    exact ⟨nums_ok _ _ (by omega) (fun i hi => by unfold fits; omega), nums_right _ _ (by omega)⟩
theorem do_length (q : TabS h) (S : Sat W w (blk b (.cells #[a0, a1, a2, a3, a4, a5] 35 (0, 0)) :: arch h :: L)) (f : Nat → Int) (N : Nat) (q1 : TIn h (numsT f N) [a0, a1, a2, a3, a4, a5]) (hN : N ≤ 60000) (hf : ∀ i, i < N → fits (f i)) :
    Calls Tryd.prog 23 #[.string ⟨#[108, 101, 110, 103, 116, 104]⟩, .slice (some ⟨b, 0, none⟩) 1 1] w (NumL W L h N) := by
  refine (lawdo1 q S fnk_length _ q1 (nums_ok f N hN hf) (nums_right f N hN) (some (tN (N : Int))) (fun t e => by cases e; exact (num_N (by unfold fits; omega)).2) (fun w h' L cb l s c => ?_)).mono fun e w' x => x.num
  have hm := length_m s (numsT f N) c (nums_ok f N hN hf)
  rw [(prop_nums f N).1, if_pos rfl, (prop_nums f N).2.2.1] at hm
  exact hm
theorem do_sum (q : TabS h) (S : Sat W w (blk b (.cells #[a0, a1, a2, a3, a4, a5] 35 (0, 0)) :: arch h :: L)) (f : Nat → Int) (N : Nat) (q1 : TIn h (numsT f N) [a0, a1, a2, a3, a4, a5]) (hN : N ≤ 60000) (hf : ∀ i, i < N → fits (f i)) {z : Int} (hz : sumF ((List.range N).map fun i => tN (f i)) 0 = z) (fz : fits z) :
    Calls Tryd.prog 23 #[.string ⟨#[115, 117, 109]⟩, .slice (some ⟨b, 0, none⟩) 1 1] w (NumL W L h z) := by
  refine (lawdo1 q S fnk_sum _ q1 (nums_ok f N hN hf) (nums_right f N hN) (some (tN z)) (fun t e => by cases e; exact (num_N fz).2) (fun w h' L cb l s c => ?_)).mono fun e w' x => x.num
  have hm := sum_m s (numsT f N) c (nums_ok f N hN hf)
  rw [(prop_nums f N).1, (prop_nums f N).2.1, (prop_nums f N).2.2.2, hz, Bool.and_self, if_pos rfl] at hm
  exact hm
end
#print axioms do_seq
#print axioms do_sum
end Go.Proofs.YtlgogflhjpcmlaaDoor
