/-
  THE BOX: the contract of Push.
-/
import Derived.Test.YtmfjeplfpljogaaBoxD
import Derived.Deep.DeepMust
namespace Go.Proofs.Ytmfjeplfpljogaa
open Go.RowKit
set_option maxHeartbeats 400000

section
variable {W w : World} {L : List HP} {b : Nat} {xs : List Int} {at_ m : Nat}

/-- the last statement of Push, from whatever array -/
theorem push_no (x : Int) (hm : (m + 1) * 8 ≤ 140737488355328) (r : BoxR)
    (s' : Sat W w (blk b (.cells #[.slice r.a r.ys.length r.c, .int .i64 (r.first : Nat), .int .i64 (at_ : Nat)] 25 (0, 0)) :: row 26 1 r.a r.ys.length r.c (u64s r.ys) :: L))
    (o : Sees w b r at_) (h1 : r.ys.drop r.first = xs) (h2 : r.ys.length ≤ m) (h3 : at_ ≤ xs.length) (h : ¬ (16 < r.first ∧ r.ys.length / 2 < r.first)) :
    Calls Try.prog 9 #[.pointer (some ⟨b, 0, none⟩), .int .u64 x] w fun e w' =>
      e = .returned (.tuple #[]) ∧ Sat W w' (box b (xs ++ [x]) at_ (m + 1) :: L) := by
  obtain ⟨c0, c1, c2, fz, le, lm, lc⟩ := id o
  have hl := s'.swap.rowLen
  have f0 := fz 0
  have H1 := hid h1
  have S' := hid s'
  clear s' h1 fz
  rcases (show ((16 : Int) < r.first ∧ decide ((16 : Int) < r.first) = true ∧ decide ((r.ys.length : Int) / 2 < r.first) = false) ∨ decide ((16 : Int) < r.first) = false from by
    by_cases hf : 16 < r.first
    · refine .inl ⟨by omega, by simp; omega, by simp; omega⟩
    · exact .inr (by simp; omega)) with ⟨hf, hd1, hd2⟩ | hd1
  all_goals
    clear h
    go_enter Try.func9, Try.ntmps9
    go_wp2_with fail
    go_quiet (fail)
    go_wp2_with (at_builtin; refine wpList_push_row rfl _ _ rfl elem64 rfl (S'.out.swap.drewN _) (.int .u64 x) rfl (by simp) rfl (by unfold maxLen; omega) (by omega) ?_; intro a' c' w1 s1 ha' hz; have s2 := s1.swap; have c0' := s2.cell 0; have f0' := s2.free 0; have S2 := hid s2; clear s1 s2 S' c0 c1 c2 f0 o; simp only [List.getElem?_toArray, List.getElem?_cons_zero] at c0')
    go_end0
    refine ⟨rfl, ?_⟩
    have S3 : Sat W (w1.setCell ⟨b, 0, none⟩ (.slice a' (r.ys.length + 1) c')) _ := S2.out.set 0 _
    refine Sat.mkbun (α := BoxR) ⟨a', c', r.first, r.ys ++ [x]⟩ ⟨?_, ?_, ?_, ?_⟩ ?_
    · show r.first ≤ _
      rw [List.length_append]; omega
    · show List.drop r.first _ = _
      rw [List.drop_append_of_le_length le, H1.out]
    · show List.length _ ≤ _
      rw [List.length_append]; simp; exact h2
    · rw [List.length_append]; omega
    · show Sat W _ (blk b (.cells #[.slice a' (List.length _) c', _, _] _ _) :: row _ 1 a' (List.length _) c' (u64s _) :: L)
      rw [List.length_append]
      simpa [u64s] using S3
/-- .. where the messages are moved to the front first -/
theorem push_yes (x : Int) (hm : (m + 1) * 8 ≤ 140737488355328) (r : BoxR)
    (s' : Sat W w (blk b (.cells #[.slice r.a r.ys.length r.c, .int .i64 (r.first : Nat), .int .i64 (at_ : Nat)] 25 (0, 0)) :: row 26 1 r.a r.ys.length r.c (u64s r.ys) :: L))
    (o : Sees w b r at_) (h1 : r.ys.drop r.first = xs) (h2 : r.ys.length ≤ m) (h3 : at_ ≤ xs.length) (hf : 16 < r.first) (hg : r.ys.length / 2 < r.first) :
    Calls Try.prog 9 #[.pointer (some ⟨b, 0, none⟩), .int .u64 x] w fun e w' =>
      e = .returned (.tuple #[]) ∧ Sat W w' (box b (xs ++ [x]) at_ (m + 1) :: L) := by
  obtain ⟨c0, c1, c2, fz, le, lm, lc⟩ := id o
  have hl := s'.swap.rowLen
  have hx : xs.length = r.ys.length - r.first := by rw [← h1, List.length_drop]
  have hd1 : decide ((16 : Int) < r.first) = true := by simp; omega
  have hd2 : decide ((r.ys.length : Int) / 2 < r.first) = true := by simp; omega
  rcases s'.swap.rowOpen with ⟨_, _, q, _⟩ | ⟨g, off, cur, ha, s2, h4, h5⟩
  · omega
  rw [Nat.mul_one] at h4 h5
  have hcs : ∀ w' : World, w'.heap[g]? = w.heap[g]? → ∀ j v, (u64s xs)[j]? = some v → w'.cell? ((⟨g, off + r.first, none⟩ : Addr).add j) = some v := by
    intro w' hw' j v hj
    rw [Addr.add_lit, World.cell?_of_block (a := ⟨g, _, none⟩) hw', s2.cell]
    have hjl : j < xs.length := by
      rcases Nat.lt_or_ge j xs.length with q | q
      · exact q
      · rw [List.getElem?_eq_none (by simpa [u64s] using q)] at hj; cases hj
    rw [← h1, u64s, List.getElem?_map, List.getElem?_drop, ← List.getElem?_map, ← u64s, ← h5, List.getElem?_take_of_lt (by omega), List.getElem?_drop] at hj
    rw [← hj, Nat.add_assoc]; simp
  have HA := hid ha
  have H5 := hid h5
  have HCs := hid hcs
  have HX := hid hx
  have H1 := hid h1
  rw [ha] at c0
  have f0 := fz 0
  have f1 := fz 1
  have hbg := s2.ne
  have hcall : ∃ v, (∀ k, Calls Try.prog 21 #[.pointer (some ⟨b, 0, none⟩)] (w.drewN k) fun e w' => e = .returned v ∧ ∃ m, w' = (w.drewN k).drewN m) ∧
      ∃ sa c', v = .slice sa (r.ys.length - r.first) c' ∧ (0 < r.ys.length - r.first → sa = some ⟨g, off + r.first, none⟩) := by
    by_cases hy : r.first < r.ys.length
    · exact ⟨_, fun k => left_yes (o.drewN k) g off ha hy, _, _, rfl, fun _ => rfl⟩
    · refine ⟨_, fun k => left_no (o.drewN k) (by omega), r.a, 0, ?_, fun q => by omega⟩
      rw [show r.ys.length - r.first = 0 from by omega]
  obtain ⟨v, hcall, sa, c', hv, hsa⟩ := hcall
  have HCall := hid hcall
  have HV := hid hv
  have HSa := hid hsa
  clear s' hx h1 fz ha hcs h5 hcall hv hsa
  go_enter Try.func9, Try.ntmps9
  go_wp2_with fail
  go_quiet (fail)
  go_wp2_with fail
  refine wp_region_quiet_tail 6 (by kernel_rfl) (by kernel_rfl) ?_
  simp only [List.take_succ_cons, List.take_zero, List.drop_succ_cons, List.drop_zero]
  repeat (go_big_quiet_step (first | exact Calls.quiet_of (HCall.out _) | exact quiet_of2 (HCall.out _) | exact quiet_of3 (HCall.out _)))
  refine wpQuiet_nil ?_
  intro _ hw'
  obtain ⟨nk, hw''⟩ := hw'
  subst hw''
  rw [HV.out]
  have s2' := s2.drewN nq
  refine wpList_copy_blk rfl _ _ _ _ rfl elem64 rfl rfl off (s2'.drewN _) (u64s xs) ?_ ?_ ?_ ?_ ?_
  · rw [length_u64s, HX.out]
    show _ = min _ _
    omega
  · intro hp
    rw [length_u64s, HX.out] at hp
    exact ⟨rfl, _, HSa.out hp, HCs.out _ rfl⟩
  · rw [length_u64s, HX.out]; omega
  · intro v hv
    simp only [u64s, List.mem_map] at hv
    obtain ⟨y, _, rfl⟩ := hv
    rfl
  intro w1 s3
  rw [length_u64s]
  have hys : (splice r.ys 0 xs).length = r.ys.length := length_splice _ _ _ (by rw [HX.out]; omega)
  have s4 : Sat W w1 (row 26 1 (some ⟨g, off, none⟩) r.ys.length r.c (u64s (splice r.ys 0 xs)) :: blk b (.cells #[.slice r.a r.ys.length r.c, .int .i64 (r.first : Nat), .int .i64 (at_ : Nat)] 25 (0, 0)) :: L) := by
    refine s3.rowMk ?_ hl.2.1 hl.2.2 ?_ ?_
    · rw [length_u64s, hys, Nat.mul_one]
    · rw [List.size_toArray, length_splice _ _ _ (by rw [length_u64s, HX.out]; simp; omega)]; simpa using h4
    · rw [Nat.mul_one]
      have := splice_part cur.toList off 0 r.ys.length (u64s xs) (by rw [length_u64s, HX.out]; omega) (by simp; omega)
      rw [Nat.add_zero] at this
      rw [this, H5.out, u64s, u64s, u64s, map_splice]
  have s5 := s4.rowTake xs.length (by rw [HX.out]; omega)
  rw [Nat.mul_one, show (u64s (splice r.ys 0 xs)).take xs.length = u64s xs from by simp [u64s, splice]] at s5
  have s6 := s5.swap
  have c0' := s6.cell 0
  have c1' := s6.cell 1
  have f0' := s6.free 0
  have f1' := s6.free 1
  have hxl : xs.length ≤ r.c := by rw [HX.out]; omega
  have hxm : xs.length ≤ m := by rw [HX.out]; omega
  simp only [List.getElem?_toArray, List.getElem?_cons_succ, List.getElem?_cons_zero] at c0' c1'
  rw [HA.out] at c0'
  have S6 := hid s6
  clear c0 c1 c2 f0 f1 s3 s4 s5 s6 s2 s2' o
  go_wp2_with (at_builtin; (refine wpList_push_row rfl _ _ rfl elem64 rfl ((S6.out.set 0 _).set 1 _).swap (.int .u64 x) rfl (by simp) rfl (by unfold maxLen; omega) (by omega) ?_); intro a' c' w1 s1 ha' hz; have s2 := s1.swap; have c0'' : w1.cell? ⟨b, 0, none⟩ = some (.slice (some ⟨g, off, none⟩) xs.length r.c) := s2.cell 0; have f0'' := s2.free 0; have S2 := hid s2; clear s1 s2 S6 c0' c1' f0' f1')
  go_end0
  refine ⟨rfl, ?_⟩
  have S3 : Sat W (w1.setCell ⟨b, 0, none⟩ (.slice a' (xs.length + 1) c')) _ := S2.out.set 0 _
  refine Sat.mkbun (α := BoxR) ⟨a', c', 0, xs ++ [x]⟩ ⟨Nat.zero_le _, rfl, ?_, ?_⟩ ?_
  · show List.length _ ≤ _
    rw [List.length_append]; simp; exact hxm
  · rw [List.length_append]; omega
  · show Sat W _ (blk b (.cells #[.slice a' (List.length _) c', _, _] _ _) :: row _ 1 a' (List.length _) c' (u64s _) :: L)
    rw [List.length_append]
    simpa [u64s] using S3

theorem push_box (x : Int) (s : Sat W w (box b xs at_ m :: L)) (hm : (m + 1) * 8 ≤ 140737488355328) :
    Calls Try.prog 9 #[.pointer (some ⟨b, 0, none⟩), .int .u64 x] w fun e w' =>
      e = .returned (.tuple #[]) ∧ Sat W w' (box b (xs ++ [x]) at_ (m + 1) :: L) := by
  obtain ⟨r, s', o, h1, h2, h3⟩ := box_open s
  by_cases h : 16 < r.first ∧ r.ys.length / 2 < r.first
  · exact push_yes x hm r s' o h1 h2 h3 h.1 h.2
  · exact push_no x hm r s' o h1 h2 h3 h
end
end Go.Proofs.Ytmfjeplfpljogaa
