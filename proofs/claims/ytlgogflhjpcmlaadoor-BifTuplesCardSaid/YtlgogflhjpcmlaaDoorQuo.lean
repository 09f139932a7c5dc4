/-
  tree.quoted: a name between quotes; what any term's leaves ask (FormatInt, Itoa, quoted) under the table of powers.
-/
import Derived.Test.YtlgogflhjpcmlaaDoorWriteB
import Derived.Test.YtlgogflhjpcmlaaDoorTCmpW
import Derived.Test.YtlgogflhjpcmlaaDoorShelf
namespace Go.Proofs.YtlgogflhjpcmlaaDoor
open Go.RowKit
set_option maxHeartbeats 4000000

section
variable {W w : World} {L : List HP} {e n c : Nat} {a : Option Addr} {xs : List Value} {P : Program} {t bytes : Nat}
/-- append of a literal of elements of one cell, made just ahead of it, as a step of a region that draws -/
theorem step_push1s {ops : Array Oper} {o : Oper} {ac : Act} {K : Act → World → Prop} {Q : Exit → Act → World → Prop} {E' : Prop} (hgd : o.guard = none) (so xo : Operand)
    (ho : o.op = .call { callee := .builtin .append, args := #[so, xo], argTypes := #[t, t] }) (E : Elem P t e 1 bytes)
    (hs : ac.eval so = .slice a n c) (s : Sat W w (row e 1 a n c xs :: L)) (vs : List Value)
    {k m : Nat} (hx : ac.eval xo = .slice (some ⟨k, 0, none⟩) m m) (hk : k = w.heap.size) (hm : m = vs.length) (h1 : ∀ v ∈ vs, v.oneCell' = true) (h63 : n + m ≤ maxLen) (hbytes : (n + m) * bytes ≤ 140737488355328)
    (h : ∀ a' c' w', Sat W w' (row e 1 a' (n + m) c' (xs ++ vs) :: L) → w.heap.size ≤ w'.heap.size → K (ac.put o.dst (.slice a' (n + m) c')) w') :
    if Region.wanted o (yielded ops ac.tmps) = true then Oper.wp P o ac (w.alloc (.cells vs.toArray e)) K Q else E' := by
  have hw : Region.wanted o (yielded ops ac.tmps) = true := by simp [Region.wanted, hgd]
  rw [if_pos hw]
  subst hk
  subst hm
  refine wp_append_row so xo ho E hs (s.alloc' _) _ vs.length vs.length vs hx (by omega) (fun j u hj => ?_) h1 h63 hbytes fun a' c' w' s' hn hz => h a' c' w' s' (Nat.le_trans (by simp) hz)
  rw [Addr.add_lit]
  obtain ⟨g, off, hg, hc⟩ := newsRd w vs e j u hj
  simp only [Option.some.injEq, Addr.mk.injEq, and_true] at hg
  obtain ⟨rfl, rfl⟩ := hg
  exact hc
end
theorem strOf_byts (l : List Int) (h : ∀ b ∈ l, 0 ≤ b ∧ b ≤ 255) : byts (strOfNums l) = l := by
  unfold byts
  rw [strOfNums_data, List.map_map]
  conv => rhs; rw [← List.map_id l]
  refine List.map_congr_left fun b hb => ?_
  have := h b hb
  simp
  omega
theorem quoB_len (b : Int) : (quoB b).length ≤ 4 := by unfold quoB; split; simp; split <;> simp
theorem flat4 (l : List Int) : (l.flatMap quoB).length ≤ 4 * l.length := by
  induction l with
  | nil => simp
  | cons b l ih => rw [List.flatMap_cons, List.length_append, List.length_cons]; have := quoB_len b; omega
theorem byts_in (s : ByteArray) : ∀ b ∈ byts s, 0 ≤ b ∧ b ≤ 255 := by
  intro b hb
  obtain ⟨x, _, rfl⟩ := List.mem_map.1 hb
  have := x.toNat_lt
  omega
theorem hexD_in {n : Int} (h : 0 ≤ n ∧ n < 16) : 0 ≤ hexD n ∧ hexD n ≤ 255 := by unfold hexD; split <;> omega
theorem quoB_in {b : Int} (h : 0 ≤ b ∧ b ≤ 255) : ∀ x ∈ quoB b, 0 ≤ x ∧ x ≤ 255 := by
  intro x hx
  unfold quoB at hx
  have h1 := hexD_in (n := b / 16) (by omega)
  have h2 := hexD_in (n := b % 16) (by omega)
  split at hx
  · simp only [List.mem_cons, List.not_mem_nil, or_false] at hx
    rcases hx with rfl | rfl | rfl | rfl <;> omega
  · split at hx
    · simp only [List.mem_cons, List.not_mem_nil, or_false] at hx
      rcases hx with rfl | rfl <;> omega
    · simp only [List.mem_cons, List.not_mem_nil, or_false] at hx
      omega
theorem hexG (i : Int) (h : 0 ≤ i ∧ i < 16) : ∀ hh, ((((⟨#[48, 49, 50, 51, 52, 53, 54, 55, 56, 57, 97, 98, 99, 100, 101, 102]⟩ : ByteArray))[i.toNat]'hh).toNat : Int) = hexD i := by
  have key : ∀ n : Fin 16, ((((⟨#[48, 49, 50, 51, 52, 53, 54, 55, 56, 57, 97, 98, 99, 100, 101, 102]⟩ : ByteArray))[n.1]'n.2).toNat : Int) = hexD (n.1 : Int) := by decide
  intro hh
  have h1 := key ⟨i.toNat, by omega⟩
  simp only at h1
  rw [h1]
  congr 1
  omega
set_option maxRecDepth 100000 in
theorem quo_c (s : ByteArray) (hs : s.size ≤ 1000000) : QuoC s := by
  intro W w L S
  have s1 := S.allocAt (k := w.heap.size) (.cells #[.int .u8 39] 5) rfl
  have S1 : Hid (Sat W _ (row 5 1 (some ⟨w.heap.size, 0, none⟩) 1 1 (u8s ([39] ++ ((byts s).take 0).flatMap quoB)) :: L)) := hid (s1.rowMk (off := 0) (by simp [u8s]) (by omega) (by unfold maxLen; omega) (by simp) (by simp [u8s]))
  clear S s1
  go_enter Tryd.func81, Tryd.ntmps81
  go_wp2_with fail
  go_loopw [3, 9] (fun ov iv wr => ∃ (k : Nat) (a : Option Addr) (n c : Nat), k ≤ s.size ∧ iv = .int .i64 k ∧ ov = .slice a n c ∧ n ≤ 1 + 4 * k ∧ Hid (Sat W wr (row 5 1 a n c (u8s ([39] ++ ((byts s).take k).flatMap quoB)) :: L))) (fun _ iv _ => s.size - (intOf iv).toNat)
  case atStart => exact ⟨0, _, 1, 1, Nat.zero_le _, rfl, rfl, by omega, S1⟩
  case round =>
    obtain ⟨k, a, n, c, hk, rfl, rfl, hn, S⟩ := hrel
    clear S1
    by_cases hlt : k < s.size
    · have hst : (byts s).take (k + 1) = (byts s).take k ++ [((s[k]).toNat : Int)] := by rw [List.take_add_one, byts_get hlt]; rfl
      obtain ⟨b, HB⟩ : ∃ b : Int, Hid (((s[k]).toNat : Int) = b) := ⟨_, hid rfl⟩
      have hb0 : 0 ≤ ((s[k]).toNat : Int) ∧ ((s[k]).toNat : Int) ≤ 255 := by have := (s[k]).toNat_lt; omega
      rw [HB.out] at hst
      have hfl : [39] ++ ((byts s).take (k + 1)).flatMap quoB = ([39] ++ ((byts s).take k).flatMap quoB) ++ quoB b := by rw [hst, List.flatMap_append]; simp
      have HFL := hid hfl
      clear hst hfl
      go_wp2_with fail
      rw [HB.out] at hb0 ⊢
      refine (odd_any b wr).mono ?_
      rintro e w1 ⟨rfl, rfl⟩
      cases ho : oddB b with
      | true =>
        have hq : quoB b = [92, 120, hexD (b / 16), hexD (b % 16)] := by unfold quoB; rw [if_pos ho]
        have HQ := hid hq
        clear hq ho
        go_wp2_with fail
        have hd1 : 0 ≤ b / 16 ∧ b / 16 < 16 := by omega
        have hd2 : 0 ≤ b % 16 ∧ b % 16 < 16 := by omega
        have hx1 := hexG (b / 16) hd1
        have hx2 := hexG (b % 16) hd2
        have hand : Go.bits .and .u8 b 15 = b % 16 := u8_and15 b hb0.1 (by omega)
        go_region_law (refine step_push1s (m := 4) rfl _ _ rfl elem8 rfl S.out.drew [.int .u8 92, .int .u8 120, .int .u8 (hexD (b / 16)), .int .u8 (hexD (b % 16))] rfl rfl rfl (by intro v hv; simp only [List.mem_cons, List.not_mem_nil, or_false] at hv; rcases hv with rfl | rfl | rfl | rfl <;> rfl) (by unfold maxLen; omega) (by omega) ?_; intro a1 c1 w2 s2 hz1; have S2 := hid s2; clear s2)
        all_goals clear S
        all_goals go_wp2_with fail
        all_goals go_roundw
        all_goals first
          | exact ⟨k + 1, a1, n + 4, c1, by omega, by go_num, rfl, by omega, hid (by rw [HFL.out, HQ.out, u8s_append]; simpa [u8s] using S2.out)⟩
          | (simp [intOf]; omega)
      | false =>
        by_cases h39 : b = 39 ∨ b = 92
        · have hq : quoB b = [92, b] := by unfold quoB; rw [if_neg (by rw [ho]; simp), if_pos h39]
          have HQ := hid hq
          clear hq ho
          rcases h39 with h39 | h39
          all_goals subst h39
          all_goals go_wp2_with (at_builtin; first | (refine wpList_push_row rfl _ _ rfl elem8 rfl S.out _ rfl (by simp) rfl (by unfold maxLen; omega) (by omega) ?_; intro a1 c1 w2 s2 ha1 hz1; have S2 := hid s2; clear s2 S) | (refine wpList_push_row rfl _ _ rfl elem8 rfl S2.out _ rfl (by simp) rfl (by unfold maxLen; omega) (by omega) ?_; intro a2 c2 w3 s3 ha2 hz2; have S3 := hid s3; clear s3 S2))
          all_goals go_roundw
          all_goals first
            | exact ⟨k + 1, a2, n + 1 + 1, c2, by omega, by go_num, rfl, by omega, hid (by rw [HFL.out, HQ.out, u8s_append]; simpa [u8s] using S3.out)⟩
            | (simp [intOf]; omega)
        · have hq : quoB b = [b] := by unfold quoB; rw [if_neg (by rw [ho]; simp), if_neg h39]
          have HQ := hid hq
          have hb1 : (b == 39) = false := by simp; omega
          have hb2 : (b == 92) = false := by simp; omega
          clear hq ho
          go_wp2_with (at_builtin; refine wpList_push_row rfl _ _ rfl elem8 rfl S.out _ rfl (by simp) rfl (by unfold maxLen; omega) (by omega) ?_; intro a1 c1 w2 s2 ha1 hz1; have S2 := hid s2; clear s2 S)
          go_roundw
          case rel => exact ⟨k + 1, a1, n + 1, c1, by omega, by go_num, rfl, by omega, hid (by rw [HFL.out, HQ.out, u8s_append]; simpa [u8s] using S2.out)⟩
          case measure => simp [intOf]; omega
    · obtain rfl : k = s.size := by omega
      have hq : [39] ++ ((byts s).take s.size).flatMap quoB ++ [39] = quo s := by rw [List.take_of_length_le (by rw [byts_len]; exact Nat.le_refl _)]; rfl
      have HQ := hid hq
      clear hq
      go_wp2_with (at_builtin; refine wpList_push_row rfl _ _ rfl elem8 rfl S.out (.int .u8 39) rfl (by simp) rfl (by unfold maxLen; omega) (by omega) ?_; intro a1 c1 w2 s2 ha1 hz1; have S2 : Hid (Sat W w2 (row 5 1 a1 (n + 1) c1 (u8s (quo s)) :: L)) := hid (by rw [← HQ.out, u8s_append]; simpa [u8s] using s2); have hl := S2.out.rowLen.1; rw [length_u8s] at hl; have v1 := fun dst hd => conv_rd (P := Tryd.prog) (src := 33) (dst := dst) (c := c1) Tryd.underlying33 Tryd.underlying5 hd (n := n + 1) (by omega) S2.out.rowRd; clear s2 S hl)
      go_ret
      refine ⟨_, rfl, strOf_byts _ ?_, S2.out.drop⟩
      intro x hx
      unfold quo at hx
      rcases List.mem_append.1 hx with hx | hx
      · rcases List.mem_append.1 hx with hx | hx
        · rw [List.mem_singleton] at hx; omega
        · obtain ⟨y, hy, hxy⟩ := List.mem_flatMap.1 hx
          exact quoB_in (byts_in s y hy) x hxy
      · rw [List.mem_singleton] at hx; omega
/-! ### what any term's leaves ask, under the table of powers -/
def Tab (h : Nat → Option Obj) : Prop := ∃ g cs t fr, Tryd.prog.globalNamed "internal/strconv.uint64pow10" = some g ∧ h g = some (.cells cs t fr) ∧ cs = (Lib.pow10Tab.map fun z => Value.int .u64 z).toArray
theorem tab_of {W : World} (h : Lib.TabIs Tryd.prog W "internal/strconv.uint64pow10" .u64 Lib.pow10Tab) : Tab (heapOf W) := by
  unfold Lib.TabIs World.var? at h
  obtain ⟨g, hg, h⟩ := Option.bind_eq_some_iff.1 h
  unfold heapOf Tab
  cases hh : W.heap[g]? with
  | none => rw [hh] at h; cases h
  | some o =>
    rw [hh] at h
    cases o <;> simp only [reduceCtorEq, Option.some.injEq] at h
    exact ⟨g, _, _, _, hg, hh, h⟩
theorem tab_in {W w : World} {L : List HP} {h0 h : Nat → Option Obj} (q : Tab h0) (l : Le h0 h) (S : Sat W w (arch h :: L)) : Lib.TabIs Tryd.prog w "internal/strconv.uint64pow10" .u64 Lib.pow10Tab := by
  obtain ⟨g, cs, t, fr, hg, hh, rfl⟩ := q
  unfold Lib.TabIs World.var?
  rw [hg]
  show (match w.heap[g]? with | some (.cells cs _ _) => some cs | _ => none) = _
  rw [S.archGet (l g _ hh)]
theorem Sat.grow {W w : World} {L : List HP} (s : Sat W w L) (os : Array Obj) : Sat W (Go.Sort.grow w os) L := by
  obtain ⟨h, a, i⟩ := s.heap
  refine ⟨s.os, s.tape, s.output, ?_, h, a, fun k o ho => ?_⟩
  · show _ ≤ (w.heap ++ os).size
    rw [Array.size_append]
    have := s.size
    omega
  · have hk := i k o ho
    have hl : k < w.heap.size := by
      rcases Nat.lt_or_ge k w.heap.size with q | q
      · exact q
      · rw [Array.getElem?_eq_none q] at hk; cases hk
    show (w.heap ++ os)[k]? = _
    rw [Array.getElem?_append_left hl, hk]
theorem fmt_c {h0 : Nat → Option Obj} (q : Tab h0) (n : Int) (hn : fits n) : FmtC h0 n := by
  intro W w L h l S
  refine (Tryd.strconv_FormatInt_10 n hn.1 hn.2 w (tab_in q l S)).mono ?_
  rintro e w' ⟨rfl, k, os, rfl⟩
  exact ⟨rfl, (S.drewN k).grow os⟩
theorem ito_c {h0 : Nat → Option Obj} (q : Tab h0) (n : Int) (hn : fits n) : ItoC h0 n := by
  intro W w L h l S
  refine (Tryd.strconv_Itoa n hn.1 hn.2 w (tab_in q l S)).mono ?_
  rintro e w' ⟨rfl, k, os, rfl⟩
  exact ⟨rfl, (S.drewN k).grow os⟩
#print axioms ito_c
end Go.Proofs.YtlgogflhjpcmlaaDoor
