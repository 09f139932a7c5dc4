/-
  tree.write: kind by kind; any term; Write's own leaves for numbers below a hundred.
-/
import Derived.Test.YtlgogflhjpcmlaaDoorWrite
import Derived.Test.YtlgogflhjpcmlaaDoorShelf
import Derived.IntWalk
namespace Go.Proofs.YtlgogflhjpcmlaaDoor
open Go.RowKit
set_option maxHeartbeats 4000000
section
variable {W w : World} {L : List HP} {h h0 : Nat → Option Obj} {b : Nat} {l : List Int}
/-- the frame of a kind: the builder, the archive, the term's box -/
theorem num_str (n : Int) : byts ⟨(Lib.itoa n).toArray⟩ = num n := byts_num n
set_option maxRecDepth 100000 in
theorem write_1 (S : Sat W w (bld b (u8s l) :: arch h :: L)) (hle : Le h0 h) (n : Int) (v2 v3 v4 v5 : Value) (hf : FmtC h0 n) (hb : l.length + (num n).length ≤ 140737488355328) :
    Calls Tryd.prog 76 #[.pointer (some ⟨b, 0, none⟩), .agg #[.int .i64 1, .int .i64 n, v2, v3, v4, v5]] w fun e w' => e = .returned (.tuple #[]) ∧ Sat W w' (bld b (u8s (l ++ num n)) :: arch h :: L) := by
  have S1 := hid (S.alloc' (.cells #[.int .i64 1, .int .i64 n, v2, v3, v4, v5] 35))
  have HF := hid hf
  have HLE := hid hle
  have HB := hid hb
  clear S hf hle hb
  go_enter Tryd.func76, Tryd.ntmps76
  go_wp2_with fail
  refine (HF.out W _ _ h HLE.out S1.out.swap).mono ?_
  rintro e w1 ⟨rfl, s1⟩
  have S2 := hid s1.swap
  clear s1 S1
  go_wp2_with fail
  refine (wst S2.out _ (by rw [byts_num]; exact HB.out)).mono ?_
  rintro e w2 ⟨z, rfl, s2⟩
  rw [byts_num] at s2
  have S3 := hid s2
  clear s2 S2
  go_wp2_with fail
  go_end0
  exact ⟨rfl, S3.out⟩
set_option maxRecDepth 100000 in
theorem write_3 (S : Sat W w (bld b (u8s l) :: arch h :: L)) (hle : Le h0 h) (n : Int) (v2 v3 v4 v5 : Value) (hf : FmtC h0 n) (hb : l.length + ([35, 114] ++ num n).length ≤ 140737488355328) :
    Calls Tryd.prog 76 #[.pointer (some ⟨b, 0, none⟩), .agg #[.int .i64 3, .int .i64 n, v2, v3, v4, v5]] w fun e w' => e = .returned (.tuple #[]) ∧ Sat W w' (bld b (u8s (l ++ ([35, 114] ++ num n))) :: arch h :: L) := by
  have S1 := hid ((S.allocAt (k := w.heap.size) (.cells #[.int .i64 3, .int .i64 n, v2, v3, v4, v5] 35) rfl).unrot3)
  have HF := hid hf
  have HLE := hid hle
  have HB : Hid (l.length + 2 + (num n).length ≤ 140737488355328) := hid (by simp at hb; omega)
  clear S hf hle hb
  go_enter Tryd.func76, Tryd.ntmps76
  go_wp2_with fail
  have hs : (({ data := #[35] } : ByteArray) ++ Utf8.encode (((({ data := #[114, 112] } : ByteArray)[0]).toNat : Nat) : Int)) = ⟨#[35, 114]⟩ := by kernel_rfl
  rw [hs]
  refine (wst S1.out ⟨#[35, 114]⟩ (by rw [show (byts ⟨#[35, 114]⟩).length = 2 from rfl]; have := HB.out; omega)).mono ?_
  rintro e w1 ⟨z, rfl, s1⟩
  rw [show byts ⟨#[35, 114]⟩ = [35, 114] from rfl] at s1
  have S2 := hid s1
  have j1 : w1.cell? ⟨w.heap.size, 1, none⟩ = some (.int .i64 n) := s1.rot3.cell 1
  clear s1 S1
  go_wp2_with fail
  refine (HF.out W _ _ h HLE.out S2.out.swap).mono ?_
  rintro e w1 ⟨rfl, s1⟩
  have S3 := hid s1.swap
  clear s1 S2 j1
  go_wp2_with fail
  refine (wst S3.out _ (by rw [byts_num]; simp; have := HB.out; omega)).mono ?_
  rintro e w2 ⟨z, rfl, s2⟩
  rw [byts_num] at s2
  have S4 := hid s2
  clear s2 S3
  go_wp2_with fail
  go_end0
  exact ⟨rfl, by have := S4.out.rot3.drop; simpa using this⟩
set_option maxRecDepth 100000 in
theorem write_4 (S : Sat W w (bld b (u8s l) :: arch h :: L)) (hle : Le h0 h) (n : Int) (v2 v3 v4 v5 : Value) (hf : FmtC h0 n) (hb : l.length + ([35, 112] ++ num n).length ≤ 140737488355328) :
    Calls Tryd.prog 76 #[.pointer (some ⟨b, 0, none⟩), .agg #[.int .i64 4, .int .i64 n, v2, v3, v4, v5]] w fun e w' => e = .returned (.tuple #[]) ∧ Sat W w' (bld b (u8s (l ++ ([35, 112] ++ num n))) :: arch h :: L) := by
  have S1 := hid ((S.allocAt (k := w.heap.size) (.cells #[.int .i64 4, .int .i64 n, v2, v3, v4, v5] 35) rfl).unrot3)
  have HF := hid hf
  have HLE := hid hle
  have HB : Hid (l.length + 2 + (num n).length ≤ 140737488355328) := hid (by simp at hb; omega)
  clear S hf hle hb
  go_enter Tryd.func76, Tryd.ntmps76
  go_wp2_with fail
  have hs : (({ data := #[35] } : ByteArray) ++ Utf8.encode (((({ data := #[114, 112] } : ByteArray)[1]).toNat : Nat) : Int)) = ⟨#[35, 112]⟩ := by kernel_rfl
  rw [hs]
  refine (wst S1.out ⟨#[35, 112]⟩ (by rw [show (byts ⟨#[35, 112]⟩).length = 2 from rfl]; have := HB.out; omega)).mono ?_
  rintro e w1 ⟨z, rfl, s1⟩
  rw [show byts ⟨#[35, 112]⟩ = [35, 112] from rfl] at s1
  have S2 := hid s1
  have j1 : w1.cell? ⟨w.heap.size, 1, none⟩ = some (.int .i64 n) := s1.rot3.cell 1
  clear s1 S1
  go_wp2_with fail
  refine (HF.out W _ _ h HLE.out S2.out.swap).mono ?_
  rintro e w1 ⟨rfl, s1⟩
  have S3 := hid s1.swap
  clear s1 S2 j1
  go_wp2_with fail
  refine (wst S3.out _ (by rw [byts_num]; simp; have := HB.out; omega)).mono ?_
  rintro e w2 ⟨z, rfl, s2⟩
  rw [byts_num] at s2
  have S4 := hid s2
  clear s2 S3
  go_wp2_with fail
  go_end0
  exact ⟨rfl, by have := S4.out.rot3.drop; simpa using this⟩

set_option maxRecDepth 100000 in
theorem write_6 (S : Sat W w (bld b (u8s l) :: arch h :: L)) (v1 v2 v3 v4 v5 : Value) (hb : l.length + 2 ≤ 140737488355328) :
    Calls Tryd.prog 76 #[.pointer (some ⟨b, 0, none⟩), .agg #[.int .i64 6, v1, v2, v3, v4, v5]] w fun e w' => e = .returned (.tuple #[]) ∧ Sat W w' (bld b (u8s (l ++ [91, 93])) :: arch h :: L) := by
  have S1 := hid (S.alloc' (.cells #[.int .i64 6, v1, v2, v3, v4, v5] 35))
  have HB := hid hb
  clear S hb
  go_enter Tryd.func76, Tryd.ntmps76
  go_wp2_with fail
  refine (wst S1.out ⟨#[91, 93]⟩ (by rw [show (byts ⟨#[91, 93]⟩).length = 2 from rfl]; have := HB.out; omega)).mono ?_
  rintro e w1 ⟨z, rfl, s1⟩
  rw [show byts ⟨#[91, 93]⟩ = [91, 93] from rfl] at s1
  have S2 := hid s1
  clear s1 S1
  go_wp2_with fail
  go_end0
  exact ⟨rfl, S2.out⟩
set_option maxRecDepth 100000 in
theorem write_2 (S : Sat W w (bld b (u8s l) :: arch h :: L)) (nm : ByteArray) (v1 v3 v4 v5 : Value) (hs : nm.size ≤ 140737488351232) (hq : wordB nm = true ∨ QuoC nm) (hb : l.length + (nameT nm).length ≤ 140737488355328) :
    Calls Tryd.prog 76 #[.pointer (some ⟨b, 0, none⟩), .agg #[.int .i64 2, v1, .string nm, v3, v4, v5]] w fun e w' => e = .returned (.tuple #[]) ∧ Sat W w' (bld b (u8s (l ++ nameT nm)) :: arch h :: L) := by
  have S1 := hid (S.alloc' (.cells #[.int .i64 2, v1, .string nm, v3, v4, v5] 35))
  have HQ := hid hq
  have HB := hid hb
  have HS := hid hs
  clear S hb hq hs
  go_enter Tryd.func76, Tryd.ntmps76
  go_wp2_with fail
  refine (word_any nm _ HS.out).mono ?_
  rintro e w1 ⟨rfl, rfl⟩
  cases hw : wordB nm with
  | true =>
    have hn : nameT nm = byts nm := by unfold nameT; rw [if_pos hw]
    have HN := hid hn
    clear hw hn
    go_wp2_with fail
    refine (wst S1.out nm (by rw [← HN.out]; exact HB.out)).mono ?_
    rintro e w1 ⟨z, rfl, s1⟩
    have S2 := hid s1
    clear s1 S1
    go_wp2_with fail
    go_end0
    rw [HN.out]
    exact ⟨rfl, S2.out⟩
  | false =>
    have hn : nameT nm = quo nm := by unfold nameT; rw [if_neg (by rw [hw]; decide)]
    have HQ2 : Hid (QuoC nm) := hid (HQ.out.resolve_left (by rw [hw]; decide))
    have HN := hid hn
    clear hw hn
    go_wp2_with fail
    refine (HQ2.out W _ _ S1.out).mono ?_
    rintro e w1 ⟨q, rfl, hqb, s1⟩
    have HQB := hid hqb
    have S2 := hid s1
    clear s1 S1 hqb
    go_wp2_with fail
    refine (wst S2.out q (by rw [HQB.out, ← HN.out]; exact HB.out)).mono ?_
    rintro e w2 ⟨z, rfl, s2⟩
    rw [HQB.out, ← HN.out] at s2
    have S3 := hid s2
    clear s2 S2
    go_wp2_with fail
    go_end0
    exact ⟨rfl, S3.out⟩
set_option maxRecDepth 100000 in
theorem write_5 (S : Sat W w (bld b (u8s l) :: arch h :: L)) (hle : Le h0 h) (is : List T) (ia : Option Addr) (ni ic : Nat) (v1 v2 v4 v5 : Value) (hn : ni = is.length) (hi : LIn h is ia 0) (hni : ni ≤ 1353245080300) (ih : ∀ t ∈ is, WriteC h0 t) (hb : l.length + ([123] ++ txtL is ++ [125]).length ≤ 140737488355328) :
    Calls Tryd.prog 76 #[.pointer (some ⟨b, 0, none⟩), .agg #[.int .i64 5, v1, v2, .slice ia ni ic, v4, v5]] w fun e w' => e = .returned (.tuple #[]) ∧ Sat W w' (bld b (u8s (l ++ ([123] ++ txtL is ++ [125]))) :: arch h :: L) := by
  have S1 := hid ((S.allocAt (k := w.heap.size) (.cells #[.int .i64 5, v1, v2, .slice ia ni ic, v4, v5] 35) rfl).unrot3)
  have HN := hid hn
  have HI := hid hi
  have IH := hid ih
  have HLE := hid hle
  have HB : Hid (l.length + 2 + (txtL is).length ≤ 140737488355328) := hid (by simp at hb; omega)
  clear S hle hn hi ih hb
  go_enter Tryd.func76, Tryd.ntmps76
  go_wp2_with fail
  refine (wb S1.out 123 (by have := HB.out; omega)).mono ?_
  rintro e w1 ⟨rfl, s1⟩
  have S2 := hid s1
  have j3 : w1.cell? ⟨w.heap.size, 3, none⟩ = some (.slice ia ni ic) := s1.rot3.cell 3
  clear s1 S1
  go_wp2_with fail
  refine (row_of S2.out HLE.out is ia ni ic HN.out HI.out hni IH.out (by simp; have := HB.out; omega)).mono ?_
  rintro e w2 ⟨rfl, s2⟩
  have S3 := hid s2
  clear s2 S2 j3
  go_wp2_with fail
  refine (wb S3.out 125 (by simp; have := HB.out; omega)).mono ?_
  rintro e w3 ⟨rfl, s3⟩
  have S4 := hid s3
  clear s3 S3
  go_wp2_with fail
  go_end0
  exact ⟨rfl, by have := S4.out.rot3.drop; simpa using this⟩
set_option maxRecDepth 100000 in
theorem write_7 (S : Sat W w (bld b (u8s l) :: arch h :: L)) (hle : Le h0 h) (is rs : List T) (ia ra : Option Addr) (ni nr ic rc : Nat) (v1 v2 v5 : Value) (hn : ni = is.length) (hr : nr = rs.length) (hi : LIn h is ia 0) (hri : LIn h rs ra 0) (hni : ni ≤ 1353245080300) (hnr : nr ≤ 1353245080300) (ih : ∀ t ∈ is, WriteC h0 t) (ihr : ∀ t ∈ rs, WriteC h0 t) (hb : l.length + ([91] ++ txtL is ++ txtR rs ++ [93]).length ≤ 140737488355328) :
    Calls Tryd.prog 76 #[.pointer (some ⟨b, 0, none⟩), .agg #[.int .i64 7, v1, v2, .slice ia ni ic, .slice ra nr rc, v5]] w fun e w' => e = .returned (.tuple #[]) ∧ Sat W w' (bld b (u8s (l ++ ([91] ++ txtL is ++ txtR rs ++ [93]))) :: arch h :: L) := by
  have S1 := hid ((S.allocAt (k := w.heap.size) (.cells #[.int .i64 7, v1, v2, .slice ia ni ic, .slice ra nr rc, v5] 35) rfl).unrot3)
  have HN := hid hn
  have HR := hid hr
  have HI := hid hi
  have HRI := hid hri
  have IH := hid ih
  have IHR := hid ihr
  have HLE := hid hle
  have HB : Hid (l.length + 2 + (txtL is).length + (txtR rs).length ≤ 140737488355328) := hid (by simp at hb; omega)
  clear S hle hn hr hi hri ih ihr hb
  go_enter Tryd.func76, Tryd.ntmps76
  go_wp2_with fail
  refine (wb S1.out 91 (by have := HB.out; omega)).mono ?_
  rintro e w1 ⟨rfl, s1⟩
  have S2 := hid s1
  have j3 : w1.cell? ⟨w.heap.size, 3, none⟩ = some (.slice ia ni ic) := s1.rot3.cell 3
  clear s1 S1
  go_wp2_with fail
  refine (row_of S2.out HLE.out is ia ni ic HN.out HI.out hni IH.out (by simp; have := HB.out; omega)).mono ?_
  rintro e w2 ⟨rfl, s2⟩
  have S3 := hid s2
  have j4 : w2.cell? ⟨w.heap.size, 4, none⟩ = some (.slice ra nr rc) := s2.rot3.cell 4
  clear s2 S2 j3
  by_cases h0r : 0 < nr
  · have hd0 : decide ((0 : Int) < (nr : Int)) = true := decide_eq_true (by omega)
    have hd1 : decide (0 < nr) = true := decide_eq_true h0r
    obtain ⟨x, hx⟩ : ∃ x, rs[0]? = some x := ⟨_, List.getElem?_eq_getElem (by have := HR.out; omega)⟩
    have htr : txtR rs = 124 :: txt x := by
      cases rs with
      | nil => cases hx
      | cons a rs => simp only [List.getElem?_cons_zero, Option.some.injEq] at hx; subst hx; rfl
    obtain ⟨g, off, vs, rfl, hc, hin⟩ := HRI.out.get hx
    have hin0 := hin
    obtain ⟨ia', ic', ra', rc', ba', bc', rfl, _⟩ := hin.vals
    have HTR := hid htr
    have HX := hid hx
    have HIN := hid hin0
    have HC := hid hc
    unfold tVals at HIN
    clear hx htr hc hin hin0
    go_wp2_with fail
    refine (wb S3.out 124 (by simp; have := HB.out; rw [HTR.out] at this; simp at this; omega)).mono ?_
    rintro e w3 ⟨rfl, s3⟩
    have S4 := hid s3
    have j4 : w3.cell? ⟨w.heap.size, 4, none⟩ = some (.slice (some ⟨g, off, none⟩) nr rc) := s3.rot3.cell 4
    have k0 := s3.drop.cellIn (HC.out 0 _ rfl)
    have k1 := s3.drop.cellIn (HC.out 1 _ rfl)
    have k2 := s3.drop.cellIn (HC.out 2 _ rfl)
    have k3 := s3.drop.cellIn (HC.out 3 _ rfl)
    have k4 := s3.drop.cellIn (HC.out 4 _ rfl)
    have k5 := s3.drop.cellIn (HC.out 5 _ rfl)
    simp only [Nat.zero_mul, Nat.add_zero] at k0 k1 k2 k3 k4 k5
    clear s3 S3
    go_wp2_with fail
    refine (IHR.out x (List.mem_of_getElem? HX.out) W _ _ h _ b _ HLE.out S4.out HIN.out (by simp; have := HB.out; rw [HTR.out] at this; simp at this; omega)).mono ?_
    rintro e w4 ⟨rfl, s4⟩
    have S5 := hid s4
    clear s4 S4 j4 k0 k1 k2 k3 k4 k5
    go_wp2_with fail
    refine (wb S5.out 93 (by simp; have := HB.out; rw [HTR.out] at this; simp at this; omega)).mono ?_
    rintro e w5 ⟨rfl, s5⟩
    have S6 := hid s5
    clear s5 S5
    go_wp2_with fail
    go_end0
    exact ⟨rfl, by have := S6.out.rot3.drop; rw [HTR.out]; simpa using this⟩
  · have hd0 : decide ((0 : Int) < (nr : Int)) = false := decide_eq_false (by omega)
    have hd1 : decide (0 < nr) = false := decide_eq_false h0r
    have htr : txtR rs = [] := by
      have : rs = [] := List.eq_nil_of_length_eq_zero (by have := HR.out; omega)
      rw [this]; rfl
    have HTR := hid htr
    clear htr
    go_wp2_with fail
    refine (wb S3.out 93 (by simp; have := HB.out; omega)).mono ?_
    rintro e w5 ⟨rfl, s5⟩
    have S6 := hid s5
    clear s5 S3
    go_wp2_with fail
    go_end0
    exact ⟨rfl, by have := S6.out.rot3.drop; rw [HTR.out]; simpa using this⟩
set_option maxRecDepth 100000 in
theorem write_o (S : Sat W w (bld b (u8s l) :: arch h :: L)) (k : Int) (hk : k ≠ 1 ∧ k ≠ 2 ∧ k ≠ 3 ∧ k ≠ 4 ∧ k ≠ 5 ∧ k ≠ 6 ∧ k ≠ 7 ∧ k ≠ 8) (v1 v2 v3 v4 v5 : Value) :
    Calls Tryd.prog 76 #[.pointer (some ⟨b, 0, none⟩), .agg #[.int .i64 k, v1, v2, v3, v4, v5]] w fun e w' => e = .returned (.tuple #[]) ∧ Sat W w' (bld b (u8s l) :: arch h :: L) := by
  have S1 := hid (S.alloc' (.cells #[.int .i64 k, v1, v2, v3, v4, v5] 35))
  have q1 : (k == 1) = false := by simp; omega
  have q2 : (k == 2) = false := by simp; omega
  have q3 : (k == 3) = false := by simp; omega
  have q4 : (k == 4) = false := by simp; omega
  have q5 : (k == 5) = false := by simp; omega
  have q6 : (k == 6) = false := by simp; omega
  have q7 : (k == 7) = false := by simp; omega
  have q8 : (k == 8) = false := by simp; omega
  clear S hk
  go_enter Tryd.func76, Tryd.ntmps76
  go_wp2_with fail
  go_end0
  exact ⟨rfl, S1.out⟩
theorem joinB_snoc (xs : List Int) (x : Int) : joinB (xs ++ [x]) = joinB xs ++ (if xs = [] then [] else [44]) ++ num x := by
  cases xs with
  | nil => simp [joinB]
  | cons a xs => rw [List.cons_append, joinB, joinB]; simp
theorem joinB_step {ts : List Int} {i : Nat} {x : Int} (hx : ts[i]? = some x) : joinB (ts.take (i + 1)) = joinB (ts.take i) ++ (if i = 0 then [] else [44]) ++ num x := by
  have hl := (List.getElem?_eq_some_iff.1 hx).1
  rw [List.take_add_one, hx]
  simp only [Option.toList_some]
  rw [joinB_snoc]
  congr 2
  by_cases q : i = 0
  · subst q; simp
  · rw [if_neg q, if_neg]
    intro e
    have h1 : (ts.take i).length = i := by rw [List.length_take]; omega
    rw [e] at h1
    simp at h1
    omega
theorem joinB_app (xs ys : List Int) : (joinB xs).length ≤ (joinB (xs ++ ys)).length := by
  cases xs with
  | nil => simp [joinB]
  | cons a xs => rw [List.cons_append, joinB, joinB]; simp
theorem joinB_le (ts : List Int) (i : Nat) : (joinB (ts.take i)).length ≤ (joinB ts).length := by
  have := joinB_app (ts.take i) (ts.drop i)
  rwa [List.take_append_drop] at this
set_option maxRecDepth 100000 in
theorem write_8 (S : Sat W w (bld b (u8s l) :: arch h :: L)) (hle : Le h0 h) (bs : List Int) (ba : Option Addr) (nb bc : Nat) (v1 v2 v3 v4 : Value) (hn : nb = bs.length) (hr : RdIn h ba (u8s bs)) (h255 : ∀ x ∈ bs, 0 ≤ x ∧ x ≤ 255) (hnb : nb ≤ 140737488351232) (ih : ∀ x ∈ bs, ItoC h0 x) (hb : l.length + ([60, 60] ++ joinB bs ++ [62, 62]).length ≤ 140737488355328) :
    Calls Tryd.prog 76 #[.pointer (some ⟨b, 0, none⟩), .agg #[.int .i64 8, v1, v2, v3, v4, .slice ba nb bc]] w fun e w' => e = .returned (.tuple #[]) ∧ Sat W w' (bld b (u8s (l ++ ([60, 60] ++ joinB bs ++ [62, 62]))) :: arch h :: L) := by
  have S1 := hid ((S.allocAt (k := w.heap.size) (.cells #[.int .i64 8, v1, v2, v3, v4, .slice ba nb bc] 35) rfl).unrot3)
  have HN := hid hn
  have HR := hid hr
  have H255 := hid h255
  have IH := hid ih
  have HLE := hid hle
  have HB : Hid (l.length + 4 + (joinB bs).length ≤ 140737488355328) := hid (by simp at hb; omega)
  clear S hle hn hr h255 ih hb
  go_enter Tryd.func76, Tryd.ntmps76
  go_wp2_with fail
  refine (wst S1.out ⟨#[60, 60]⟩ (by rw [show (byts ⟨#[60, 60]⟩).length = 2 from rfl]; have := HB.out; omega)).mono ?_
  rintro e w1 ⟨z, rfl, s1⟩
  rw [show byts ⟨#[60, 60]⟩ = [60, 60] from rfl] at s1
  have S2 := hid s1
  have j5 : w1.cell? ⟨w.heap.size, 5, none⟩ = some (.slice ba nb bc) := s1.rot3.cell 5
  clear s1 S1
  go_wp2_with fail
  go_loopw [83] (fun iv wr => ∃ (i : Nat), i ≤ nb ∧ iv = .int .i64 i ∧ Hid (Sat W wr (bld b (u8s (l ++ [60, 60] ++ joinB (bs.take i))) :: arch h :: blk w.heap.size (.cells #[.int .i64 8, v1, v2, v3, v4, .slice ba nb bc] 35 (0, 0)) :: L))) (fun iv _ => nb - (intOf iv).toNat)
  case atStart => exact ⟨0, Nat.zero_le _, rfl, by have := S2; simpa [joinB] using this⟩
  case round =>
    obtain ⟨i, hi, rfl, S⟩ := hrel
    clear S2 j5
    by_cases hlt : i < nb
    · obtain ⟨x, hx⟩ : ∃ x, bs[i]? = some x := ⟨_, List.getElem?_eq_getElem (by have := HN.out; omega)⟩
      obtain ⟨g, off, rfl, e0⟩ := HR.out i _ (get_u8s hx)
      have d0 := S.out.drop.cellIn e0
      have hst := joinB_step hx
      have hle1 := joinB_le bs (i + 1)
      have hx255 := H255.out x (List.mem_of_getElem? hx)
      have HST := hid hst
      have hbnd : (l ++ [60, 60] ++ joinB (bs.take i)).length + ((if i = 0 then [] else [44]) : List Int).length + (num x).length ≤ 140737488355328 := by
        rw [hst] at hle1
        simp only [List.length_append, List.length_cons, List.length_nil] at hle1 ⊢
        have := HB.out
        omega
      have HBN := hid hbnd
      have HX := hid hx
      have hwx : IntKind.i64.wrap x = x := IntWalk.i64_in _ (by omega)
      clear e0 hst hle1 hbnd hx
      by_cases hi0 : i = 0
      · have hid0 : decide ((0 : Int) < (i : Int)) = false := decide_eq_false (by omega)
        have hid1 : decide (0 < i) = false := decide_eq_false (by omega)
        have hst := HST.out
        have hbb := HBN.out
        rw [if_pos hi0, List.append_nil] at hst
        rw [if_pos hi0] at hbb
        have HST2 := hid hst
        have HB2 := hid hbb
        clear hst hbb hi0
        go_wp2_with fail
        refine (IH.out x (List.mem_of_getElem? HX.out) W _ _ h HLE.out S.out.swap).mono ?_
        rintro e w2 ⟨rfl, s2⟩
        have S3 := hid s2.swap
        clear s2 S d0
        go_wp2_with fail
        refine (wst S3.out _ (by rw [byts_num]; have := HB2.out; simpa using this)).mono ?_
        rintro e w3 ⟨z, rfl, s3⟩
        rw [byts_num] at s3
        have S4 := hid s3
        clear s3 S3
        go_wp2_with fail
        go_roundw
        case rel => exact ⟨i + 1, by omega, by go_num, hid (by have := S4.out; rw [HST2.out]; simpa using this)⟩
        case measure => simp [intOf]; omega
      · have hid0 : decide ((0 : Int) < (i : Int)) = true := decide_eq_true (by omega)
        have hid1 : decide (0 < i) = true := decide_eq_true (by omega)
        have hst := HST.out
        have hbb := HBN.out
        rw [if_neg hi0] at hst hbb
        have HST2 := hid hst
        have HB2 := hid hbb
        clear hst hbb hi0
        go_wp2_with fail
        refine (wb S.out 44 (by have := HB2.out; simp at this ⊢; omega)).mono ?_
        rintro e w2 ⟨rfl, s2⟩
        have S2 := hid s2
        clear s2 S d0
        go_wp2_with fail
        refine (IH.out x (List.mem_of_getElem? HX.out) W _ _ h HLE.out S2.out.swap).mono ?_
        rintro e w2 ⟨rfl, s2⟩
        have S3 := hid s2.swap
        clear s2 S2
        go_wp2_with fail
        refine (wst S3.out _ (by rw [byts_num]; have := HB2.out; simp at this ⊢; omega)).mono ?_
        rintro e w3 ⟨z, rfl, s3⟩
        rw [byts_num] at s3
        have S4 := hid s3
        clear s3 S3
        go_wp2_with fail
        go_roundw
        case rel => exact ⟨i + 1, by omega, by go_num, hid (by have := S4.out; rw [HST2.out]; simpa using this)⟩
        case measure => simp [intOf]; omega
    · obtain rfl : i = nb := by omega
      go_wp2_with fail
      have hjt : bs.take i = bs := List.take_of_length_le (by have := HN.out; omega)
      rw [hjt] at S
      refine (wst S.out ⟨#[62, 62]⟩ (by rw [show (byts ⟨#[62, 62]⟩).length = 2 from rfl]; simp; have := HB.out; omega)).mono ?_
      rintro e w1 ⟨z, rfl, s1⟩
      rw [show byts ⟨#[62, 62]⟩ = [62, 62] from rfl] at s1
      have S2 := hid s1
      clear s1 S hjt
      go_wp2_with fail
      go_end0
      exact ⟨rfl, by have := S2.out.rot3.drop; simpa using this⟩
/-- any term -/
theorem write_step (t : T) (hok : TOk t) (hl : Leaf h0 t) (ih1 : ∀ x ∈ t.is, WriteC h0 x) (ih2 : ∀ x ∈ t.rs, WriteC h0 x) : WriteC h0 t := by
  intro W w L h vs b l hle S hin hb
  obtain ⟨ia, ic, ra, rc, ba, bc, rfl, q1, q2, q3, _⟩ := hin.vals
  obtain ⟨k, n, nm, is, rs, bs⟩ := t
  have F := hok.fit
  unfold tVals
  obtain ⟨l1, l2, l8⟩ := hl
  simp only [T.k, T.n, T.nm, T.is, T.rs, T.bs] at *
  unfold txt at hb ⊢
  by_cases e3 : k = 3
  · subst e3; rw [if_pos rfl] at hb ⊢; exact write_3 S hle n _ _ _ _ (l1 (.inr (.inl rfl))) hb
  rw [if_neg e3] at hb ⊢
  by_cases e4 : k = 4
  · subst e4; rw [if_pos rfl] at hb ⊢; exact write_4 S hle n _ _ _ _ (l1 (.inr (.inr rfl))) hb
  rw [if_neg e4] at hb ⊢
  by_cases e1 : k = 1
  · subst e1; rw [if_pos rfl] at hb ⊢; exact write_1 S hle n _ _ _ _ (l1 (.inl rfl)) hb
  rw [if_neg e1] at hb ⊢
  by_cases e2 : k = 2
  · subst e2; rw [if_pos rfl] at hb ⊢; exact write_2 S nm _ _ _ _ F.nm (l2 rfl) hb
  rw [if_neg e2] at hb ⊢
  by_cases e5 : k = 5
  · subst e5; rw [if_pos rfl] at hb ⊢; exact write_5 S hle is ia _ ic _ _ _ _ rfl q1 F.is ih1 hb
  rw [if_neg e5] at hb ⊢
  by_cases e6 : k = 6
  · subst e6; rw [if_pos rfl] at hb ⊢; exact write_6 S _ _ _ _ _ hb
  rw [if_neg e6] at hb ⊢
  by_cases e7 : k = 7
  · subst e7; rw [if_pos rfl] at hb ⊢; exact write_7 S hle is rs ia ra _ _ ic rc _ _ _ rfl rfl q1 q2 F.is F.rs ih1 ih2 hb
  rw [if_neg e7] at hb ⊢
  by_cases e8 : k = 8
  · subst e8; rw [if_pos rfl] at hb ⊢; exact write_8 S hle bs ba _ bc _ _ _ _ rfl q3 F.b F.bs (l8 rfl) hb
  rw [if_neg e8] at hb ⊢
  rw [List.append_nil]
  exact write_o S k ⟨e1, e2, e3, e4, e5, e6, e7, e8⟩ _ _ _ _ _
theorem write_t (t : T) : TOk t → Told h0 t → WriteC h0 t := by
  induction t using T.ind with
  | h k n nm is rs bs ih1 ih2 =>
    intro hok ht
    have hf := hok.fit
    unfold Told at ht
    exact write_step _ hok ht.1 (fun x hx => ih1 x hx (hf.si x hx) (ht.2.1.mem hx)) (fun x hx => ih2 x hx (hf.sr x hx) (ht.2.2.mem hx))
theorem byts_ok : byts ⟨#[111, 107]⟩ = [111, 107] := by rfl
end
/-! ### numbers below a hundred want no table -/
theorem fmt_small (h0 : Nat → Option Obj) (n : Nat) (hn : n < 100) : FmtC h0 n := by
  intro W w L h hle S
  have S1 := hid S
  clear S
  go_enter Tryd.func79, Tryd.ntmps79
  go_wp2_with fail
  refine (Go.Proofs.Tryd.internal_strconv_FormatInt_10_small n hn w).mono ?_
  rintro e w1 ⟨rfl, rfl⟩
  go_wp2_with fail
  go_ret
  have he : Lib.itoa (n : Int) = Lib.decDigits n := by unfold Lib.itoa; rw [if_neg (by omega), Int.toNat_natCast]
  rw [he]
  exact ⟨rfl, S1.out⟩
end Go.Proofs.YtlgogflhjpcmlaaDoor
