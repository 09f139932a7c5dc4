/-
  THE BOX: the contract of Take where there is a message.
-/
import Derived.Test.YtmfjeplfpljogaaBoxC
namespace Go.Proofs.Ytmfjeplfpljogaa
open Go.RowKit
set_option maxHeartbeats 400000

/-- a copy into an own block, from the block itself or from elsewhere -/
theorem wpList_copy_blk {P : Program} {W w : World} {L : List HP} {ops : Array Oper} {rest : List Oper} {o : Oper} {a : Act} {Q : Exit → Act → World → Prop} (hgd : o.guard = none) (d s : Operand) (dT sT : TypeId)
    (ho : o.op = .call { callee := .builtin .copy, args := #[d, s], argTypes := #[dT, sT] }) {elem bytes : TypeId} (E : Elem P dT elem 1 bytes)
    {dp sp : Option Addr} {dLen dCap sLen sCap : Nat} (hd : a.eval d = .slice dp dLen dCap) (hs : a.eval s = .slice sp sLen sCap)
    {g : Nat} (off : Nat) {cur : Array Value} {t : TypeId} (st : Sat W w (blk g (.cells cur t (0, 0)) :: L)) (cs : List Value) (hn : cs.length = Nat.min sLen dLen)
    (hpos : 0 < cs.length → dp = some ⟨g, off, none⟩ ∧ ∃ ad, sp = some ad ∧ ∀ j v, cs[j]? = some v → w.cell? (ad.add j) = some v)
    (hfit : off + cs.length ≤ cur.size) (h1 : ∀ v ∈ cs, v.oneCell' = true)
    (h : ∀ w', Sat W w' (blk g (.cells (splice cur.toList off cs).toArray t (0, 0)) :: L) → wpList P ops Q rest (a.put o.dst (.int .i64 (cs.length : Nat))) w') :
    wpList P ops Q (o :: rest) a w := by
  obtain ⟨i, z, hi, _, hsz, _⟩ := E.info
  have hsz' : (P.info? elem).map (·.size) = some 1 := by rw [hi]; simp [hsz]
  have hlen : cs.length ≤ 9223372036854775807 ∨ True := .inr trivial
  by_cases h0 : cs.length = 0
  · obtain rfl : cs = [] := List.eq_nil_of_length_eq_zero h0
    refine wpList_copy_nothing hgd d s dT sT ho elem E.under hsz' dp sp dLen dCap sLen sCap hd hs (by simpa using hn.symm) ?_
    exact h w (by simpa [splice] using st)
  · obtain ⟨rfl, ad, rfl, hsrc⟩ := hpos (by omega)
    refine wpList_copy_own hgd d s dT sT ho elem E.under hsz' g off dLen dCap ad sLen sCap hd hs cur t st.get cs hn hsrc hfit h1 ?_
    exact h _ (st.turn (w' := w.setRow g _) rfl rfl rfl (by simp [World.setRow]) (by simpa [splice] using setRow_heap w g _ _ t _ st.get) fun k _ hk => setRow_other w g k _ hk)

theorem getElem?_splice {α : Type} (l : List α) (o : Nat) (cs : List α) (i : Nat) (h : o ≤ l.length) : (splice l o cs)[i]? = if i < o then l[i]? else if i < o + cs.length then cs[i - o]? else l[i]? := by
  unfold splice
  rw [List.getElem?_append, List.length_take, Nat.min_eq_left h]
  by_cases h1 : i < o
  · rw [if_pos h1, if_pos h1, List.getElem?_take_of_lt h1]
  · rw [if_neg h1, if_neg h1, List.getElem?_append]
    by_cases h2 : i < o + cs.length
    · rw [if_pos (by omega), if_pos h2]
    · rw [if_neg (by omega), if_neg h2, List.getElem?_drop]
      congr 1; omega
theorem splice_part {α : Type} (cur : List α) (off k n : Nat) (cs : List α) (h1 : k + cs.length ≤ n) (h2 : off + n ≤ cur.length) :
    ((splice cur (off + k) cs).drop off).take n = splice ((cur.drop off).take n) k cs := by
  apply List.ext_getElem?
  intro i
  rw [getElem?_splice _ _ _ _ (by simp; omega)]
  by_cases hi : i < n
  · rw [List.getElem?_take_of_lt hi, List.getElem?_drop, getElem?_splice _ _ _ _ (by omega), List.getElem?_take_of_lt hi, List.getElem?_drop]
    by_cases g1 : i < k
    · rw [if_pos (by omega), if_pos g1]
    · rw [if_neg (by omega), if_neg g1]
      by_cases g2 : i < k + cs.length
      · rw [if_pos (by omega), if_pos g2]; congr 1; omega
      · rw [if_neg (by omega), if_neg g2]
  · rw [List.getElem?_take_eq_none (by omega), if_neg (by omega), if_neg (by omega), List.getElem?_take_eq_none (by omega)]
theorem map_splice {α β : Type} (f : α → β) (l : List α) (o : Nat) (cs : List α) : (splice l o cs).map f = splice (l.map f) o (cs.map f) := by
  simp [splice, List.map_take, List.map_drop]
/-- what the copy in Take leaves: the message at the place is gone -/
theorem splice_erase (ys : List Int) (first at_ : Nat) (h : first + at_ < ys.length) : (splice ys (first + 1) ((ys.drop first).take at_)).drop (first + 1) = (ys.drop first).eraseIdx at_ := by
  apply List.ext_getElem?
  intro i
  rw [List.getElem?_drop, getElem?_splice _ _ _ _ (by omega), List.getElem?_eraseIdx, List.length_take, List.length_drop, Nat.min_eq_left (by omega), if_neg (by omega)]
  by_cases g : i < at_
  · rw [if_pos (by omega), if_pos g, List.getElem?_take_of_lt (by omega)]; congr 1; omega
  · rw [if_neg (by omega), if_neg g, List.getElem?_drop]; congr 1; omega

theorem elem64 : Elem Try.prog 22 26 1 8 := Elem.mk' Try.underlying22 (z := .int .u64 0) (by kernel_rfl) rfl (by decide)

section
variable {W w : World} {L : List HP} {b : Nat} {xs : List Int} {at_ m : Nat}
theorem take_yes (s : Sat W w (box b xs at_ m :: L)) (h : at_ < xs.length) : Calls Try.prog 11 #[.pointer (some ⟨b, 0, none⟩)] w fun e w' =>
    e = .returned (.tuple #[.int .u64 (xs.getD at_ 0), .bool true]) ∧ Sat W w' (box b (xs.eraseIdx at_) 0 m :: L) := by
  have pk := peek_yes s h
  obtain ⟨x, HX⟩ : ∃ x, Hid (xs.getD at_ 0 = x) := ⟨_, rfl⟩
  rw [HX.out] at pk ⊢
  obtain ⟨r, s', o, h1, h2, h3⟩ := box_open s
  have hx : xs.length = r.ys.length - r.first := by rw [← h1, List.length_drop]
  obtain ⟨c0, c1, c2, fz, le, lm, lc⟩ := id o
  have hge : r.first + at_ < r.ys.length := by omega
  have hl := s'.swap.rowLen
  rcases s'.swap.rowOpen with ⟨_, _, q, _⟩ | ⟨g, off, cur, ha, s2, h4, h5⟩
  · omega
  rw [Nat.mul_one] at h4 h5
  have hcs : ∀ w' : World, w'.heap[g]? = w.heap[g]? → ∀ j v, ((r.ys.drop r.first).take at_ |>.map (Value.int .u64))[j]? = some v → w'.cell? ((⟨g, off + r.first, none⟩ : Addr).add j) = some v := by
    intro w' hw' j v hj
    rw [Addr.add_lit, World.cell?_of_block (a := ⟨g, _, none⟩) hw', s2.cell]
    rw [List.getElem?_map, List.getElem?_take] at hj
    by_cases hja : j < at_
    · rw [if_pos hja, List.getElem?_drop] at hj
      have := congrArg (fun l => l[r.first + j]?) h5
      simp only [u64s, List.getElem?_map] at this
      rw [hj, List.getElem?_take_of_lt (by omega), List.getElem?_drop] at this
      rw [← this, Nat.add_assoc]; simp
    · rw [if_neg hja] at hj; cases hj
  have HA := hid ha
  have H5 := hid h5
  have HCs := hid hcs
  rw [ha] at c0
  have HPk := hid pk
  have HX2 := hid hx
  have H1 := hid h1
  have f1 := fz 1
  have f2 := fz 2
  have hbg := s2.ne
  clear hx h1 fz pk ha hcs h5
  go_enter Try.func11, Try.ntmps11
  go_wp2_with (go_at_call 10; refine HPk.out.mono ?_; rintro e w' ⟨rfl, k1, rfl⟩)
  refine wp_region_quiet_tail 28 (by kernel_rfl) (by kernel_rfl) ?_
  simp only [List.take_succ_cons, List.take_zero, List.drop_succ_cons, List.drop_zero]
  repeat (go_big_quiet_step (fail))
  refine wpQuiet_nil ?_
  intro _ hw'
  obtain ⟨nq, hw''⟩ := hw'
  subst hw''
  refine wpList_copy_blk rfl _ _ _ _ rfl elem64 rfl rfl (off + (r.first + 1)) ((s2.drewN _).drewN _) ((r.ys.drop r.first).take at_ |>.map (Value.int .u64)) ?_ ?_ ?_ ?_ ?_
  · simp only [List.length_map, List.length_take, List.length_drop]
    show min _ _ = min _ _
    omega
  · intro hp
    simp at hp
    rw [if_neg (by omega)]
    exact ⟨rfl, _, rfl, HCs.out _ rfl⟩
  · simp; omega
  · intro v hv
    simp only [List.mem_map] at hv
    obtain ⟨y, _, rfl⟩ := hv
    rfl
  generalize (if r.c = r.first + 1 then (some ⟨g, off, none⟩ : Option Addr) else some ⟨g, off + (r.first + 1), none⟩) = da
  intro w1 s3
  have s4 := s3.swap
  have c1' := s4.cell 1
  have c2' := s4.cell 2
  have f1' := s4.free 1
  have f2' := s4.free 2
  simp only [List.getElem?_toArray, List.getElem?_cons_succ, List.getElem?_cons_zero] at c1' c2'
  have S4 := hid s4
  clear c0 c1 c2 f1 f2 s3 s4 s2 s' s o
  go_wp2
  go_ret2
  refine ⟨rfl, ?_⟩
  have S5 : Sat W ((w1.setCell ⟨b, 1, none⟩ (.int .i64 ((r.first + 1 : Nat) : Int))).setCell ⟨b, 2, none⟩ (.int .i64 ((0 : Nat) : Int))) _ := (S4.out.set 1 _).set 2 _
  have hlen : (splice r.ys (r.first + 1) ((r.ys.drop r.first).take at_)).length = r.ys.length := length_splice _ _ _ (by simp; omega)
  refine Sat.mkbun (α := BoxR) ⟨some ⟨g, off, none⟩, r.c, r.first + 1, splice r.ys (r.first + 1) ((r.ys.drop r.first).take at_)⟩ ⟨?_, ?_, ?_, Nat.zero_le _⟩ ?_
  · show r.first + 1 ≤ _
    rw [hlen]; omega
  · show List.drop (r.first + 1) _ = _
    rw [splice_erase _ _ _ hge, H1.out]
  · show List.length _ ≤ m
    rw [hlen]; exact h2
  · rw [HA.out] at S5
    show Sat W _ (blk b (.cells #[.slice (some ⟨g, off, none⟩) (List.length _) r.c, _, _] _ _) :: row _ 1 (some ⟨g, off, none⟩) (List.length _) r.c (u64s _) :: L)
    rw [hlen]
    refine (S5.swap.rowMk ?_ hl.2.1 hl.2.2 ?_ ?_).swap
    · rw [length_u64s, hlen, Nat.mul_one]
    · rw [List.size_toArray, length_splice _ _ _ (by simp; omega)]; simpa using h4
    · rw [Nat.mul_one, splice_part _ _ _ _ _ (by simp; omega) (by simp; omega), H5.out, u64s, u64s, map_splice]
end
end Go.Proofs.Ytmfjeplfpljogaa
