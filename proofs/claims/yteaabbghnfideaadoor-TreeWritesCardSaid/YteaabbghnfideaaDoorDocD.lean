/-
  The document's texts (trouperef02): put of binaries, tuples, lists; of any term; Text. (Written by wip/gen/gen_docd.py.)
-/
import Derived.Test.YteaabbghnfideaaDoorDocC
namespace Go.Proofs.YteaabbghnfideaaDoor
open Go.RowKit
set_option maxHeartbeats 4000000
set_option maxRecDepth 100000
def PutC (t : T) : Prop := ∀ (W w : World) (L : List HP) (h : Nat → Option Obj) (vs : List Value) (a : Option Addr) (n c : Nat) (l : List Int), Sat W w (row 5 1 a n c (u8s l) :: arch h :: L) → TIn h t vs → l.length + (txt t).length ≤ 140737488355328 →
  Calls Tryd.prog 65 #[.slice a n c, .agg vs.toArray] w fun e w' => ∃ a' n' c', e = .returned (.slice a' n' c') ∧ Sat W w' (row 5 1 a' n' c' (u8s (l ++ txt t)) :: arch h :: L)
theorem u8s_push (l : List Int) (x : Int) : u8s l ++ [.int .u8 x] = u8s (l ++ [x]) := by simp [u8s]
theorem rowN {W w : World} {L : List HP} {a : Option Addr} {n c : Nat} {l : List Int} (S : Sat W w (row 5 1 a n c (u8s l) :: L)) : n = l.length := by have := S.rowLen.1; rw [length_u8s] at this; omega
section
variable {W w : World} {L : List HP} {h : Nat → Option Obj} {a : Option Addr} {n c : Nat} {l : List Int}
theorem put_8 (S : Sat W w (row 5 1 a n c (u8s l) :: arch h :: L)) (bs : List Int) (ba : Option Addr) (nb bc : Nat) (v1 v2 v3 v4 : Value) (hn : nb = bs.length) (hr : RdIn h ba (u8s bs)) (h255 : ∀ x ∈ bs, 0 ≤ x ∧ x ≤ 255) (hnb : nb ≤ 140737488351232) (hb : l.length + ([60, 60] ++ joinB bs ++ [62, 62]).length ≤ 140737488355328) :
    Calls Tryd.prog 65 #[.slice a n c, .agg #[.int .i64 8, v1, v2, v3, v4, .slice ba nb bc]] w fun e w' => ∃ a' n' c', e = .returned (.slice a' n' c') ∧ Sat W w' (row 5 1 a' n' c' (u8s (l ++ ([60, 60] ++ joinB bs ++ [62, 62]))) :: arch h :: L) := by
  have hl := rowN S
  have S1 := hid ((S.allocAt (k := w.heap.size) (.cells #[.int .i64 8, v1, v2, v3, v4, .slice ba nb bc] 25) rfl).unrot3)
  have HLN := hid hl
  have HN := hid hn
  have HR := hid hr
  have H255 := hid h255
  have HB : Hid (l.length + 4 + (joinB bs).length ≤ 140737488355328) := hid (by simp at hb; omega)
  clear S hl hn hr h255 hb
  go_enter Tryd.func65, Tryd.ntmps65
  go_wp2_with (at_builtin; refine wpList_append_str rfl _ _ rfl Tryd.underlying23 Tryd.underlying9 u8Info rfl S1.out ⟨#[60, 60]⟩ rfl (by unfold maxLen; have := HLN.out; have := HB.out; have e : (⟨#[60, 60]⟩ : ByteArray).size = 2 := rfl; omega) (by have := HLN.out; have := HB.out; have e : (⟨#[60, 60]⟩ : ByteArray).size = 2 := rfl; omega) ?_; intro a2 c2 x2 s2 hz2; have S2 := hid s2; clear s2 S1)
  have S2b : Hid (Sat W x2 (row 5 1 a2 _ c2 (u8s (l ++ [60, 60] ++ joinB (bs.take 0))) :: arch h :: blk w.heap.size (.cells #[.int .i64 8, v1, v2, v3, v4, .slice ba nb bc] 25 (0, 0)) :: L)) := hid (by have := S2.out; rw [u8s_str _ [60, 60] _ rfl] at this; simpa [joinB] using this)
  clear S2
  go_loopw [0, 5] (fun bv iv wr => ∃ (i : Nat) (a : Option Addr) (n c : Nat), i ≤ nb ∧ iv = .int .i64 i ∧ bv = .slice a n c ∧ Hid (Sat W wr (row 5 1 a n c (u8s (l ++ [60, 60] ++ joinB (bs.take i))) :: arch h :: blk w.heap.size (.cells #[.int .i64 8, v1, v2, v3, v4, .slice ba nb bc] 25 (0, 0)) :: L))) (fun _ iv _ => nb - (intOf iv).toNat)
  case atStart => exact ⟨0, _, _, _, Nat.zero_le _, rfl, rfl, S2b⟩
  case round =>
    obtain ⟨i, a, n, c, hi, rfl, rfl, S⟩ := hrel
    clear S2b
    have HN1 := hid (rowN S.out)
    have c5 : World.cell? wr ⟨w.heap.size, 5, none⟩ = some (.slice ba nb bc) := S.out.rot3.cell 5
    by_cases hlt : i < nb
    · obtain ⟨x, hx⟩ : ∃ x, bs[i]? = some x := ⟨_, List.getElem?_eq_getElem (by have := HN.out; omega)⟩
      obtain ⟨g, off, rfl, e0⟩ := HR.out i _ (get_u8s hx)
      have HE := hid e0
      have hx2 := H255.out x (List.mem_of_getElem? hx)
      have w1 : IntKind.i64.wrap x = x := by rw [IntKind.wrap_i64]; omega
      have d0 := S.out.drop.cellIn e0
      have hst := joinB_step hx
      have hle := joinB_le bs (i + 1)
      have HB2 : Hid ((l ++ [60, 60] ++ joinB (bs.take i)).length + ((if i = 0 then [] else [44]) : List Int).length + (num x).length + 2 ≤ 140737488355328) := hid (by
        rw [hst] at hle
        simp only [List.length_append, List.length_cons, List.length_nil] at hle ⊢
        have := HB.out
        omega)
      have HST := hid hst
      have FX : Hid (fits x) := hid (by unfold fits; omega)
      clear hx e0 hst hle
      by_cases hi0 : i = 0
      · have hd0 : decide ((0 : Int) < (i : Int)) = false := decide_eq_false (by omega)
        have hd1 : decide (0 < i) = false := decide_eq_false (by omega)
        have HI := hid hi0
        clear hi0
        go_wp2_with fail
        refine (dec_any x FX.out _).mono ?_
        rintro e w1 ⟨q, rfl, hq, rfl⟩
        have HQ := hid hq
        have HQS := hid (siz_str hq)
        clear hq
        go_wp2_with (at_builtin; refine wpList_append_str rfl _ _ rfl Tryd.underlying23 Tryd.underlying9 u8Info rfl S.out q rfl (by unfold maxLen; have := HN1.out; have := HQS.out; have := HB2.out; omega) (by have := HN1.out; have := HQS.out; have := HB2.out; omega) ?_; intro a3 c3 x3 s3 hz3; have S3 := hid s3; clear s3 S)
        go_roundw
        case rel => exact ⟨i + 1, a3, _, c3, by omega, by go_num, rfl, hid (by have := S3.out; rw [u8s_str _ _ _ HQ.out] at this; rw [HST.out, if_pos HI.out]; simpa using this)⟩
        case measure => simp [intOf]; omega
      · have hd0 : decide ((0 : Int) < (i : Int)) = true := decide_eq_true (by omega)
        have hd1 : decide (0 < i) = true := decide_eq_true (by omega)
        have HI := hid hi0
        have hn1 : n + 2 ≤ 140737488355328 := by have := HN1.out; have := HB2.out; omega
        clear hi0
        go_wp2_with (at_builtin; refine wpList_push_row rfl _ _ rfl elem8 rfl S.out (.int .u8 44) rfl (by simp) rfl (by unfold maxLen; omega) (by omega) ?_; intro a3 c3 x3 s3 ha3 hz3; have S3 := hid s3; clear s3 S; have c5' : World.cell? x3 ⟨w.heap.size, 5, none⟩ = some (.slice (some ⟨g, off, none⟩) nb bc) := S3.out.rot3.cell 5; have d0' := S3.out.drop.cellIn HE.out)
        refine (dec_any x FX.out _).mono ?_
        rintro e w1 ⟨q, rfl, hq, rfl⟩
        have HQ := hid hq
        have HQS := hid (siz_str hq)
        have HB3 : Hid (n + 1 + (num x).length ≤ 140737488355328) := hid (by have := HN1.out; have := HB2.out; rw [if_neg HI.out] at this; simp only [List.length_cons, List.length_nil] at this; omega)
        clear hq
        go_wp2_with (at_builtin; refine wpList_append_str rfl _ _ rfl Tryd.underlying23 Tryd.underlying9 u8Info rfl S3.out q rfl (by unfold maxLen; have := HQS.out; have := HB3.out; omega) (by have := HQS.out; have := HB3.out; omega) ?_; intro a4 c4 x4 s4 hz4; have S4 := hid s4; clear s4 S3)
        go_roundw
        case rel => exact ⟨i + 1, a4, _, c4, by omega, by go_num, rfl, hid (by have := S4.out; rw [u8s_push, u8s_str _ _ _ HQ.out] at this; rw [HST.out, if_neg HI.out]; simpa using this)⟩
        case measure => simp [intOf]; omega
    · obtain rfl : i = nb := by omega
      have hj : bs.take i = bs := List.take_of_length_le (by have := HN.out; omega)
      rw [hj] at S HN1
      go_wp2_with (at_builtin; refine wpList_append_str rfl _ _ rfl Tryd.underlying23 Tryd.underlying9 u8Info rfl S.out ⟨#[62, 62]⟩ rfl (by unfold maxLen; have := HN1.out; have := HB.out; simp only [List.length_append, List.length_cons, List.length_nil] at *; have e : (⟨#[62, 62]⟩ : ByteArray).size = 2 := rfl; omega) (by have := HN1.out; have := HB.out; simp only [List.length_append, List.length_cons, List.length_nil] at *; have e : (⟨#[62, 62]⟩ : ByteArray).size = 2 := rfl; omega) ?_; intro a3 c3 x3 s3 hz3; have S3 := hid s3; clear s3 S)
      go_ret
      exact ⟨a3, _, c3, rfl, by have := S3.out.rot3.drop; rw [u8s_str _ [62, 62] _ rfl] at this; have e : (⟨#[62, 62]⟩ : ByteArray).size = 2 := rfl; rw [e] at this; simpa using this⟩
theorem put_5 (S : Sat W w (row 5 1 a n c (u8s l) :: arch h :: L)) (is rs : List T) (ia ra : Option Addr) (ni nr ic rc : Nat) (v1 v2 v5 : Value) (hn : ni = is.length) (hr : nr = rs.length) (hi : LIn h is ia 0) (hri : LIn h rs ra 0) (hni : ni ≤ 1353245080300) (hnr : nr ≤ 1) (ih1 : ∀ t ∈ is, PutC t) (ih2 : ∀ t ∈ rs, PutC t) (hb : l.length + ([123] ++ txtL is ++ txtR rs ++ [125]).length ≤ 140737488355328) :
    Calls Tryd.prog 65 #[.slice a n c, .agg #[.int .i64 5, v1, v2, .slice ia ni ic, .slice ra nr rc, v5]] w fun e w' => ∃ a' n' c', e = .returned (.slice a' n' c') ∧ Sat W w' (row 5 1 a' n' c' (u8s (l ++ ([123] ++ txtL is ++ txtR rs ++ [125]))) :: arch h :: L) := by
  have hl := rowN S
  have S1 := hid ((S.allocAt (k := w.heap.size) (.cells #[.int .i64 5, v1, v2, .slice ia ni ic, .slice ra nr rc, v5] 25) rfl).unrot3)
  have hl1 : n + 1 ≤ 140737488355328 := by simp at hb; omega
  have HN := hid hn
  have HR := hid hr
  have HLI := hid hi
  have HLR := hid hri
  have IH1 := hid ih1
  have IH2 := hid ih2
  have HB : Hid (l.length + 2 + (txtL is).length + (txtR rs).length ≤ 140737488355328) := hid (by simp at hb; omega)
  clear S hl hn hr hi hri ih1 ih2 hb
  go_enter Tryd.func65, Tryd.ntmps65
  go_wp2_with (at_builtin; refine wpList_push_row rfl _ _ rfl elem8 rfl S1.out (.int .u8 123) rfl (by simp) rfl (by unfold maxLen; omega) (by omega) ?_; intro a2 c2 x2 s2 ha2 hz2; have S2 := hid s2; clear s2 S1)
  have S2b : Hid (Sat W x2 (row 5 1 a2 _ c2 (u8s (l ++ [123] ++ txtL (is.take 0))) :: arch h :: blk w.heap.size (.cells #[.int .i64 5, v1, v2, .slice ia ni ic, .slice ra nr rc, v5] 25 (0, 0)) :: L)) := hid (by have := S2.out; rw [u8s_push] at this; simpa [txtL] using this)
  clear S2
  go_loopw [0, 8] (fun bv iv wr => ∃ (i : Nat) (a : Option Addr) (n c : Nat), i ≤ ni ∧ iv = .int .i64 i ∧ bv = .slice a n c ∧ Hid (Sat W wr (row 5 1 a n c (u8s (l ++ [123] ++ txtL (is.take i))) :: arch h :: blk w.heap.size (.cells #[.int .i64 5, v1, v2, .slice ia ni ic, .slice ra nr rc, v5] 25 (0, 0)) :: L))) (fun _ iv _ => ni - (intOf iv).toNat)
  case atStart => exact ⟨0, _, _, _, Nat.zero_le _, rfl, rfl, S2b⟩
  case round =>
    obtain ⟨i, a, n, c, hi, rfl, rfl, S⟩ := hrel
    clear S2b
    have HN1 := hid (rowN S.out)
    have c3 : World.cell? wr ⟨w.heap.size, 3, none⟩ = some (.slice ia ni ic) := S.out.rot3.cell 3
    by_cases hlt : i < ni
    · obtain ⟨t, ht⟩ : ∃ t, is[i]? = some t := ⟨_, List.getElem?_eq_getElem (by have := HN.out; omega)⟩
      obtain ⟨g, off, vs, rfl, hc, hin⟩ := HLI.out.get ht
      have hin0 := hin
      obtain ⟨ja, jc, sa, sc, da, dc, rfl, _⟩ := hin.vals
      have HC := hid hc
      have HIN := hid hin0
      have HT := hid ht
      have hst := txtL_step ht
      have hle := txtL_le is (i + 1)
      have HB2 : Hid ((l ++ [123] ++ txtL (is.take i)).length + ((if i = 0 then [] else [44]) : List Int).length + (txt t).length ≤ 140737488355328) := hid (by
        rw [hst] at hle
        simp only [List.length_append, List.length_cons, List.length_nil] at hle ⊢
        have := HB.out
        omega)
      have HST := hid hst
      unfold tVals at HIN
      clear hin hin0 ht hst hle
      by_cases hi0 : i = 0
      · have hd0 : decide ((0 : Int) < (i : Int)) = false := decide_eq_false (by omega)
        have hd1 : decide (0 < i) = false := decide_eq_false (by omega)
        have HI := hid hi0
        have k0 := S.out.drop.cellIn (hc 0 _ rfl)
        have k1 := S.out.drop.cellIn (hc 1 _ rfl)
        have k2 := S.out.drop.cellIn (hc 2 _ rfl)
        have k3 := S.out.drop.cellIn (hc 3 _ rfl)
        have k4 := S.out.drop.cellIn (hc 4 _ rfl)
        have k5 := S.out.drop.cellIn (hc 5 _ rfl)
        rw [Nat.zero_add] at k0 k1 k2 k3 k4 k5
        rw [Nat.add_zero] at k0
        clear hi0 hc
        go_wp2_with fail
        refine (IH1.out t (List.mem_of_getElem? HT.out) W _ _ h _ a n c _ S.out HIN.out (by have := HB2.out; rw [if_pos HI.out] at this; simp only [List.length_nil] at this; omega)).mono ?_
        rintro e x3 ⟨a3, n3, c4, rfl, s3⟩
        have S3 := hid s3
        clear s3 S k0 k1 k2 k3 k4 k5
        go_wp2_with fail
        go_roundw
        case rel => exact ⟨i + 1, a3, n3, c4, by omega, by go_num, rfl, hid (by have := S3.out; rw [HST.out, if_pos HI.out]; simpa using this)⟩
        case measure => simp [intOf]; omega
      · have hd0 : decide ((0 : Int) < (i : Int)) = true := decide_eq_true (by omega)
        have hd1 : decide (0 < i) = true := decide_eq_true (by omega)
        have HI := hid hi0
        have hn1 : n + 1 ≤ 140737488355328 := by have := HN1.out; have := HB2.out; rw [if_neg hi0] at this; simp only [List.length_cons, List.length_nil] at this; omega
        clear hi0 hc
        go_wp2_with (at_builtin; refine wpList_push_row rfl _ _ rfl elem8 rfl S.out (.int .u8 44) rfl (by simp) rfl (by unfold maxLen; omega) (by omega) ?_; intro a3 c3 x3 s3 ha3 hz3; have S3 := hid s3; clear s3 S; replace S3 := hid (by have := S3.out; rw [u8s_push] at this; exact this); have c3' : World.cell? x3 ⟨w.heap.size, 3, none⟩ = some (.slice (some ⟨g, off, none⟩) ni ic) := S3.out.rot3.cell 3; have k0 := S3.out.drop.cellIn (HC.out 0 _ rfl); have k1 := S3.out.drop.cellIn (HC.out 1 _ rfl); have k2 := S3.out.drop.cellIn (HC.out 2 _ rfl); have k3 := S3.out.drop.cellIn (HC.out 3 _ rfl); have k4 := S3.out.drop.cellIn (HC.out 4 _ rfl); have k5 := S3.out.drop.cellIn (HC.out 5 _ rfl); rw [Nat.zero_add] at k0 k1 k2 k3 k4 k5; rw [Nat.add_zero] at k0)
        refine (IH1.out t (List.mem_of_getElem? HT.out) W _ _ h _ a3 (n + 1) c3 _ S3.out HIN.out (by have := HB2.out; rw [if_neg HI.out] at this; simp only [List.length_append, List.length_cons, List.length_nil] at this ⊢; omega)).mono ?_
        rintro e x4 ⟨a4, n4, c4, rfl, s4⟩
        have S4 := hid s4
        clear s4 S3 k0 k1 k2 k3 k4 k5
        go_wp2_with fail
        go_roundw
        case rel => exact ⟨i + 1, a4, n4, c4, by omega, by go_num, rfl, hid (by have := S4.out; rw [HST.out, if_neg HI.out]; simpa using this)⟩
        case measure => simp [intOf]; omega
    · obtain ⟨i0, rfl⟩ : ∃ i0, i0 = ni := ⟨_, rfl⟩
      obtain rfl : i = i0 := by omega
      obtain ⟨i0, rfl⟩ : ∃ i0, i0 = i := ⟨_, rfl⟩
      have hj : is.take i0 = is := List.take_of_length_le (by have := HN.out; omega)
      rw [hj] at S
      have S5 : Hid (Sat W wr (row 5 1 a n c (u8s (l ++ [123] ++ txtL is ++ txtR (rs.take 0))) :: arch h :: blk w.heap.size (.cells #[.int .i64 5, v1, v2, .slice ia i0 ic, .slice ra nr rc, v5] 25 (0, 0)) :: L)) := hid (by have := S.out; simpa [txtR] using this)
      clear S HN1
      go_wp2_with fail
      go_loopw [0, 9] (fun bv iv wr => ∃ (i : Nat) (a : Option Addr) (n c : Nat), i ≤ nr ∧ iv = .int .i64 i ∧ bv = .slice a n c ∧ Hid (Sat W wr (row 5 1 a n c (u8s (l ++ [123] ++ txtL is ++ txtR (rs.take i))) :: arch h :: blk w.heap.size (.cells #[.int .i64 5, v1, v2, .slice ia i0 ic, .slice ra nr rc, v5] 25 (0, 0)) :: L))) (fun _ iv _ => nr - (intOf iv).toNat)
      case atStart => exact ⟨0, _, _, _, Nat.zero_le _, rfl, rfl, S5⟩
      case round =>
        obtain ⟨m, a, n, c, hm, rfl, rfl, S⟩ := hrel
        clear S5
        have HN1 := hid (rowN S.out)
        have c4 : World.cell? wr ⟨w.heap.size, 4, none⟩ = some (.slice ra nr rc) := S.out.rot3.cell 4
        by_cases hlt2 : m < nr
        · obtain rfl : m = 0 := by omega
          obtain ⟨t, ht⟩ : ∃ t, rs[0]? = some t := ⟨_, List.getElem?_eq_getElem (by have := HR.out; omega)⟩
          have hrs : rs = [t] := by
            have h1 : rs.length = 1 := by have := HR.out; omega
            obtain ⟨y, rfl⟩ := List.length_eq_one_iff.1 h1
            simpa using ht
          obtain ⟨g, off, vs, rfl, hc, hin⟩ := HLR.out.get ht
          have hin0 := hin
          obtain ⟨ja, jc, sa, sc, da, dc, rfl, _⟩ := hin.vals
          have HC := hid hc
          have HIN := hid hin0
          have HT := hid ht
          have HRS := hid hrs
          have HB2 : Hid ((l ++ [123] ++ txtL is ++ txtR (rs.take 0)).length + 1 + (txt t).length ≤ 140737488355328) := hid (by
            have := HB.out
            rw [hrs] at this ⊢
            simp only [txtR, List.take_zero, List.length_append, List.length_cons, List.length_nil] at this ⊢
            omega)
          have hn1 : n + 1 ≤ 140737488355328 := by have := HN1.out; have := HB2.out; omega
          unfold tVals at HIN
          clear hin hin0 ht hrs hc
          go_wp2_with (at_builtin; refine wpList_push_row rfl _ _ rfl elem8 rfl S.out (.int .u8 124) rfl (by simp) rfl (by unfold maxLen; omega) (by omega) ?_; intro a3 c3 x3 s3 ha3 hz3; have S3 := hid s3; clear s3 S; replace S3 := hid (by have := S3.out; rw [u8s_push] at this; exact this); have c4' : World.cell? x3 ⟨w.heap.size, 4, none⟩ = some (.slice (some ⟨g, off, none⟩) nr rc) := S3.out.rot3.cell 4; have k0 := S3.out.drop.cellIn (HC.out 0 _ rfl); have k1 := S3.out.drop.cellIn (HC.out 1 _ rfl); have k2 := S3.out.drop.cellIn (HC.out 2 _ rfl); have k3 := S3.out.drop.cellIn (HC.out 3 _ rfl); have k4 := S3.out.drop.cellIn (HC.out 4 _ rfl); have k5 := S3.out.drop.cellIn (HC.out 5 _ rfl); simp only [Nat.zero_add, Nat.zero_mul, Nat.add_zero] at k0 k1 k2 k3 k4 k5)
          refine (IH2.out t (List.mem_of_getElem? HT.out) W _ _ h _ a3 (n + 1) c3 _ S3.out HIN.out (by have := HB2.out; simp only [List.length_append, List.length_cons, List.length_nil] at this ⊢; omega)).mono ?_
          rintro e x4 ⟨a4, n4, c5, rfl, s4⟩
          have S4 := hid s4
          clear s4 S3 k0 k1 k2 k3 k4 k5
          go_wp2_with fail
          go_roundw
          case rel => exact ⟨0 + 1, a4, n4, c5, by omega, by go_num, rfl, hid (by have := S4.out; rw [HRS.out] at this ⊢; simpa [txtR] using this)⟩
          case measure => simp [intOf]; omega
        · obtain rfl : m = nr := by omega
          have hj2 : rs.take m = rs := List.take_of_length_le (by have := HR.out; omega)
          rw [hj2] at S HN1
          have hn1 : n + 1 ≤ 140737488355328 := by have := HN1.out; have := HB.out; simp only [List.length_append, List.length_cons, List.length_nil] at *; omega
          go_wp2_with (at_builtin; refine wpList_push_row rfl _ _ rfl elem8 rfl S.out (.int .u8 125) rfl (by simp) rfl (by unfold maxLen; omega) (by omega) ?_; intro a3 c3 x3 s3 ha3 hz3; have S3 := hid s3; clear s3 S)
          go_ret
          exact ⟨a3, _, c3, rfl, by have := S3.out.rot3.drop; rw [u8s_push] at this; simpa using this⟩
theorem put_7 (S : Sat W w (row 5 1 a n c (u8s l) :: arch h :: L)) (is rs : List T) (ia ra : Option Addr) (ni nr ic rc : Nat) (v1 v2 v5 : Value) (hn : ni = is.length) (hr : nr = rs.length) (hi : LIn h is ia 0) (hri : LIn h rs ra 0) (hni : ni ≤ 1353245080300) (hnr : nr ≤ 1) (ih1 : ∀ t ∈ is, PutC t) (ih2 : ∀ t ∈ rs, PutC t) (hb : l.length + ([91] ++ txtL is ++ txtR rs ++ [93]).length ≤ 140737488355328) :
    Calls Tryd.prog 65 #[.slice a n c, .agg #[.int .i64 7, v1, v2, .slice ia ni ic, .slice ra nr rc, v5]] w fun e w' => ∃ a' n' c', e = .returned (.slice a' n' c') ∧ Sat W w' (row 5 1 a' n' c' (u8s (l ++ ([91] ++ txtL is ++ txtR rs ++ [93]))) :: arch h :: L) := by
  have hl := rowN S
  have S1 := hid ((S.allocAt (k := w.heap.size) (.cells #[.int .i64 7, v1, v2, .slice ia ni ic, .slice ra nr rc, v5] 25) rfl).unrot3)
  have hl1 : n + 1 ≤ 140737488355328 := by simp at hb; omega
  have HN := hid hn
  have HR := hid hr
  have HLI := hid hi
  have HLR := hid hri
  have IH1 := hid ih1
  have IH2 := hid ih2
  have HB : Hid (l.length + 2 + (txtL is).length + (txtR rs).length ≤ 140737488355328) := hid (by simp at hb; omega)
  clear S hl hn hr hi hri ih1 ih2 hb
  go_enter Tryd.func65, Tryd.ntmps65
  go_wp2_with (at_builtin; refine wpList_push_row rfl _ _ rfl elem8 rfl S1.out (.int .u8 91) rfl (by simp) rfl (by unfold maxLen; omega) (by omega) ?_; intro a2 c2 x2 s2 ha2 hz2; have S2 := hid s2; clear s2 S1)
  have S2b : Hid (Sat W x2 (row 5 1 a2 _ c2 (u8s (l ++ [91] ++ txtL (is.take 0))) :: arch h :: blk w.heap.size (.cells #[.int .i64 7, v1, v2, .slice ia ni ic, .slice ra nr rc, v5] 25 (0, 0)) :: L)) := hid (by have := S2.out; rw [u8s_push] at this; simpa [txtL] using this)
  clear S2
  go_loopw [0, 8] (fun bv iv wr => ∃ (i : Nat) (a : Option Addr) (n c : Nat), i ≤ ni ∧ iv = .int .i64 i ∧ bv = .slice a n c ∧ Hid (Sat W wr (row 5 1 a n c (u8s (l ++ [91] ++ txtL (is.take i))) :: arch h :: blk w.heap.size (.cells #[.int .i64 7, v1, v2, .slice ia ni ic, .slice ra nr rc, v5] 25 (0, 0)) :: L))) (fun _ iv _ => ni - (intOf iv).toNat)
  case atStart => exact ⟨0, _, _, _, Nat.zero_le _, rfl, rfl, S2b⟩
  case round =>
    obtain ⟨i, a, n, c, hi, rfl, rfl, S⟩ := hrel
    clear S2b
    have HN1 := hid (rowN S.out)
    have c3 : World.cell? wr ⟨w.heap.size, 3, none⟩ = some (.slice ia ni ic) := S.out.rot3.cell 3
    by_cases hlt : i < ni
    · obtain ⟨t, ht⟩ : ∃ t, is[i]? = some t := ⟨_, List.getElem?_eq_getElem (by have := HN.out; omega)⟩
      obtain ⟨g, off, vs, rfl, hc, hin⟩ := HLI.out.get ht
      have hin0 := hin
      obtain ⟨ja, jc, sa, sc, da, dc, rfl, _⟩ := hin.vals
      have HC := hid hc
      have HIN := hid hin0
      have HT := hid ht
      have hst := txtL_step ht
      have hle := txtL_le is (i + 1)
      have HB2 : Hid ((l ++ [91] ++ txtL (is.take i)).length + ((if i = 0 then [] else [44]) : List Int).length + (txt t).length ≤ 140737488355328) := hid (by
        rw [hst] at hle
        simp only [List.length_append, List.length_cons, List.length_nil] at hle ⊢
        have := HB.out
        omega)
      have HST := hid hst
      unfold tVals at HIN
      clear hin hin0 ht hst hle
      by_cases hi0 : i = 0
      · have hd0 : decide ((0 : Int) < (i : Int)) = false := decide_eq_false (by omega)
        have hd1 : decide (0 < i) = false := decide_eq_false (by omega)
        have HI := hid hi0
        have k0 := S.out.drop.cellIn (hc 0 _ rfl)
        have k1 := S.out.drop.cellIn (hc 1 _ rfl)
        have k2 := S.out.drop.cellIn (hc 2 _ rfl)
        have k3 := S.out.drop.cellIn (hc 3 _ rfl)
        have k4 := S.out.drop.cellIn (hc 4 _ rfl)
        have k5 := S.out.drop.cellIn (hc 5 _ rfl)
        rw [Nat.zero_add] at k0 k1 k2 k3 k4 k5
        rw [Nat.add_zero] at k0
        clear hi0 hc
        go_wp2_with fail
        refine (IH1.out t (List.mem_of_getElem? HT.out) W _ _ h _ a n c _ S.out HIN.out (by have := HB2.out; rw [if_pos HI.out] at this; simp only [List.length_nil] at this; omega)).mono ?_
        rintro e x3 ⟨a3, n3, c4, rfl, s3⟩
        have S3 := hid s3
        clear s3 S k0 k1 k2 k3 k4 k5
        go_wp2_with fail
        go_roundw
        case rel => exact ⟨i + 1, a3, n3, c4, by omega, by go_num, rfl, hid (by have := S3.out; rw [HST.out, if_pos HI.out]; simpa using this)⟩
        case measure => simp [intOf]; omega
      · have hd0 : decide ((0 : Int) < (i : Int)) = true := decide_eq_true (by omega)
        have hd1 : decide (0 < i) = true := decide_eq_true (by omega)
        have HI := hid hi0
        have hn1 : n + 1 ≤ 140737488355328 := by have := HN1.out; have := HB2.out; rw [if_neg hi0] at this; simp only [List.length_cons, List.length_nil] at this; omega
        clear hi0 hc
        go_wp2_with (at_builtin; refine wpList_push_row rfl _ _ rfl elem8 rfl S.out (.int .u8 44) rfl (by simp) rfl (by unfold maxLen; omega) (by omega) ?_; intro a3 c3 x3 s3 ha3 hz3; have S3 := hid s3; clear s3 S; replace S3 := hid (by have := S3.out; rw [u8s_push] at this; exact this); have c3' : World.cell? x3 ⟨w.heap.size, 3, none⟩ = some (.slice (some ⟨g, off, none⟩) ni ic) := S3.out.rot3.cell 3; have k0 := S3.out.drop.cellIn (HC.out 0 _ rfl); have k1 := S3.out.drop.cellIn (HC.out 1 _ rfl); have k2 := S3.out.drop.cellIn (HC.out 2 _ rfl); have k3 := S3.out.drop.cellIn (HC.out 3 _ rfl); have k4 := S3.out.drop.cellIn (HC.out 4 _ rfl); have k5 := S3.out.drop.cellIn (HC.out 5 _ rfl); rw [Nat.zero_add] at k0 k1 k2 k3 k4 k5; rw [Nat.add_zero] at k0)
        refine (IH1.out t (List.mem_of_getElem? HT.out) W _ _ h _ a3 (n + 1) c3 _ S3.out HIN.out (by have := HB2.out; rw [if_neg HI.out] at this; simp only [List.length_append, List.length_cons, List.length_nil] at this ⊢; omega)).mono ?_
        rintro e x4 ⟨a4, n4, c4, rfl, s4⟩
        have S4 := hid s4
        clear s4 S3 k0 k1 k2 k3 k4 k5
        go_wp2_with fail
        go_roundw
        case rel => exact ⟨i + 1, a4, n4, c4, by omega, by go_num, rfl, hid (by have := S4.out; rw [HST.out, if_neg HI.out]; simpa using this)⟩
        case measure => simp [intOf]; omega
    · obtain ⟨i0, rfl⟩ : ∃ i0, i0 = ni := ⟨_, rfl⟩
      obtain rfl : i = i0 := by omega
      obtain ⟨i0, rfl⟩ : ∃ i0, i0 = i := ⟨_, rfl⟩
      have hj : is.take i0 = is := List.take_of_length_le (by have := HN.out; omega)
      rw [hj] at S
      have S5 : Hid (Sat W wr (row 5 1 a n c (u8s (l ++ [91] ++ txtL is ++ txtR (rs.take 0))) :: arch h :: blk w.heap.size (.cells #[.int .i64 7, v1, v2, .slice ia i0 ic, .slice ra nr rc, v5] 25 (0, 0)) :: L)) := hid (by have := S.out; simpa [txtR] using this)
      clear S HN1
      go_wp2_with fail
      go_loopw [0, 9] (fun bv iv wr => ∃ (i : Nat) (a : Option Addr) (n c : Nat), i ≤ nr ∧ iv = .int .i64 i ∧ bv = .slice a n c ∧ Hid (Sat W wr (row 5 1 a n c (u8s (l ++ [91] ++ txtL is ++ txtR (rs.take i))) :: arch h :: blk w.heap.size (.cells #[.int .i64 7, v1, v2, .slice ia i0 ic, .slice ra nr rc, v5] 25 (0, 0)) :: L))) (fun _ iv _ => nr - (intOf iv).toNat)
      case atStart => exact ⟨0, _, _, _, Nat.zero_le _, rfl, rfl, S5⟩
      case round =>
        obtain ⟨m, a, n, c, hm, rfl, rfl, S⟩ := hrel
        clear S5
        have HN1 := hid (rowN S.out)
        have c4 : World.cell? wr ⟨w.heap.size, 4, none⟩ = some (.slice ra nr rc) := S.out.rot3.cell 4
        by_cases hlt2 : m < nr
        · obtain rfl : m = 0 := by omega
          obtain ⟨t, ht⟩ : ∃ t, rs[0]? = some t := ⟨_, List.getElem?_eq_getElem (by have := HR.out; omega)⟩
          have hrs : rs = [t] := by
            have h1 : rs.length = 1 := by have := HR.out; omega
            obtain ⟨y, rfl⟩ := List.length_eq_one_iff.1 h1
            simpa using ht
          obtain ⟨g, off, vs, rfl, hc, hin⟩ := HLR.out.get ht
          have hin0 := hin
          obtain ⟨ja, jc, sa, sc, da, dc, rfl, _⟩ := hin.vals
          have HC := hid hc
          have HIN := hid hin0
          have HT := hid ht
          have HRS := hid hrs
          have HB2 : Hid ((l ++ [91] ++ txtL is ++ txtR (rs.take 0)).length + 1 + (txt t).length ≤ 140737488355328) := hid (by
            have := HB.out
            rw [hrs] at this ⊢
            simp only [txtR, List.take_zero, List.length_append, List.length_cons, List.length_nil] at this ⊢
            omega)
          have hn1 : n + 1 ≤ 140737488355328 := by have := HN1.out; have := HB2.out; omega
          unfold tVals at HIN
          clear hin hin0 ht hrs hc
          go_wp2_with (at_builtin; refine wpList_push_row rfl _ _ rfl elem8 rfl S.out (.int .u8 124) rfl (by simp) rfl (by unfold maxLen; omega) (by omega) ?_; intro a3 c3 x3 s3 ha3 hz3; have S3 := hid s3; clear s3 S; replace S3 := hid (by have := S3.out; rw [u8s_push] at this; exact this); have c4' : World.cell? x3 ⟨w.heap.size, 4, none⟩ = some (.slice (some ⟨g, off, none⟩) nr rc) := S3.out.rot3.cell 4; have k0 := S3.out.drop.cellIn (HC.out 0 _ rfl); have k1 := S3.out.drop.cellIn (HC.out 1 _ rfl); have k2 := S3.out.drop.cellIn (HC.out 2 _ rfl); have k3 := S3.out.drop.cellIn (HC.out 3 _ rfl); have k4 := S3.out.drop.cellIn (HC.out 4 _ rfl); have k5 := S3.out.drop.cellIn (HC.out 5 _ rfl); simp only [Nat.zero_add, Nat.zero_mul, Nat.add_zero] at k0 k1 k2 k3 k4 k5)
          refine (IH2.out t (List.mem_of_getElem? HT.out) W _ _ h _ a3 (n + 1) c3 _ S3.out HIN.out (by have := HB2.out; simp only [List.length_append, List.length_cons, List.length_nil] at this ⊢; omega)).mono ?_
          rintro e x4 ⟨a4, n4, c5, rfl, s4⟩
          have S4 := hid s4
          clear s4 S3 k0 k1 k2 k3 k4 k5
          go_wp2_with fail
          go_roundw
          case rel => exact ⟨0 + 1, a4, n4, c5, by omega, by go_num, rfl, hid (by have := S4.out; rw [HRS.out] at this ⊢; simpa [txtR] using this)⟩
          case measure => simp [intOf]; omega
        · obtain rfl : m = nr := by omega
          have hj2 : rs.take m = rs := List.take_of_length_le (by have := HR.out; omega)
          rw [hj2] at S HN1
          have hn1 : n + 1 ≤ 140737488355328 := by have := HN1.out; have := HB.out; simp only [List.length_append, List.length_cons, List.length_nil] at *; omega
          go_wp2_with (at_builtin; refine wpList_push_row rfl _ _ rfl elem8 rfl S.out (.int .u8 93) rfl (by simp) rfl (by unfold maxLen; omega) (by omega) ?_; intro a3 c3 x3 s3 ha3 hz3; have S3 := hid s3; clear s3 S)
          go_ret
          exact ⟨a3, _, c3, rfl, by have := S3.out.rot3.drop; rw [u8s_push] at this; simpa using this⟩
end
theorem put_step (t : T) (hok : TOk t) (hfl : flds t = true) (ih1 : ∀ x ∈ t.is, PutC x) (ih2 : ∀ x ∈ t.rs, PutC x) : PutC t := by
  intro W w L h vs a n c l S hin hb
  obtain ⟨ia, ic, ra, rc, ba, bc, rfl, q1, q2, q3, _⟩ := hin.vals
  have hk := fl_kinds hfl
  have h5 := fun e => fl_five hfl e
  have h7 := fun e => fl_seven hfl e
  have h2 := fun e => (fl_name hfl e).2
  obtain ⟨k, m, nm, is, rs, bs⟩ := t
  have F := hok.fit
  unfold tVals
  simp only [T.k, T.n, T.nm, T.is, T.rs, T.bs] at *
  unfold txt at hb ⊢
  by_cases e3 : k = 3
  · subst e3; rw [if_pos rfl] at hb ⊢; exact put_3 S m _ _ _ _ F.n hb
  rw [if_neg e3] at hb ⊢
  by_cases e4 : k = 4
  · subst e4; rw [if_pos rfl] at hb ⊢; exact put_4 S m _ _ _ _ F.n hb
  rw [if_neg e4] at hb ⊢
  by_cases e1 : k = 1
  · subst e1; rw [if_pos rfl] at hb ⊢; exact put_1 S m _ _ _ _ F.n hb
  rw [if_neg e1] at hb ⊢
  by_cases e2 : k = 2
  · subst e2; rw [if_pos rfl] at hb ⊢; exact put_2 S _ nm _ _ _ (by have := h2 rfl; omega) hb
  rw [if_neg e2] at hb ⊢
  by_cases e5 : k = 5
  · subst e5
    rw [if_pos rfl] at hb ⊢
    obtain rfl := h5 rfl
    exact (put_5 S is [] ia ra _ _ ic rc _ _ _ rfl rfl q1 q2 F.is (by simp) ih1 ih2 (by simpa [txtR] using hb)).mono fun e w' x => by simpa [txtR] using x
  rw [if_neg e5] at hb ⊢
  by_cases e6 : k = 6
  · subst e6; rw [if_pos rfl] at hb ⊢; exact put_6 S _ _ _ _ _ hb
  rw [if_neg e6] at hb ⊢
  by_cases e7 : k = 7
  · subst e7; rw [if_pos rfl] at hb ⊢; exact put_7 S is rs ia ra _ _ ic rc _ _ _ rfl rfl q1 q2 F.is (h7 rfl) ih1 ih2 hb
  rw [if_neg e7] at hb ⊢
  have e8 : k = 8 := by omega
  subst e8
  rw [if_pos rfl] at hb ⊢
  exact put_8 S bs ba _ bc _ _ _ _ rfl q3 F.b F.bs hb
theorem put_t (t : T) : TOk t → TFl t → PutC t := by
  induction t using T.ind with
  | h k n nm is rs bs ih1 ih2 =>
    intro hok ht
    have hf := hok.fit
    have hl := TFl.eq.1 ht
    exact put_step _ hok hl.1 (fun x hx => ih1 x hx (hf.si x hx) (hl.2.1.mem hx)) (fun x hx => ih2 x hx (hf.sr x hx) (hl.2.2.mem hx))
#print axioms put_t
end Go.Proofs.YteaabbghnfideaaDoor
