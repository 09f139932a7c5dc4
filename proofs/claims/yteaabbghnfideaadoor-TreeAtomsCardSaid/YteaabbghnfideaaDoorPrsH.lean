/-
  tree.Parse: term: the walk.
-/
import Derived.Test.YteaabbghnfideaaDoorPrsG
namespace Go.Proofs.YteaabbghnfideaaDoor
open Go.RowKit
set_option maxHeartbeats 4000000
set_option maxRecDepth 100000

theorem elemOpen : Elem Tryd.prog 106 110 7 112 := Elem.mk' Tryd.underlying106 (z := .agg #[.int .i64 0, .int .i64 0, .string ByteArray.empty, .slice none 0 0, .slice none 0 0, .slice none 0 0, .bool false]) (by kernel_rfl) rfl (by decide)
def odRows : List OD → HP
  | [] => emp
  | o :: st => star (odRow o) (odRows st)
def stkCells (st : List OD) : List Value := st.reverse.flatMap odC
theorem stkCells_cons (o : OD) (st : List OD) : stkCells (o :: st) = stkCells st ++ odC o := by unfold stkCells; simp
theorem odC_len (o : OD) : (odC o).length = 7 := rfl
theorem stkCells_len (st : List OD) : (stkCells st).length = st.length * 7 := by unfold stkCells; rw [flat_length odC_len]; simp
def mods (st : List OD) : List (T × Bool) := st.map fun o => (o.t, o.tail)
def Ods (h : Nat → Option Obj) (j : Nat) (st : List OD) : Prop := ∀ o ∈ st, OdOk h o ∧ o.t.is.length ≤ j
theorem Ods.mono {h h' : Nat → Option Obj} {j j' : Nat} {st : List OD} (q : Ods h j st) (l : Le h h') (hj : j ≤ j') : Ods h' j' st := fun o ho => ⟨(q o ho).1.mono l, Nat.le_trans (q o ho).2 hj⟩
theorem goesF_len {o o' : T × Bool} {t : T} {r r' : List Int} (h : goesF o t r = some (o', false, r')) : o'.1.is.length = o.1.is.length + 1 := by
  unfold goesF at h
  split at h
  · split at h <;> simp at h
  split at h
  · simp at h; obtain ⟨rfl, _⟩ := h; simp [addIt, T.is]
  split at h
  · split at h
    · simp at h; obtain ⟨rfl, _⟩ := h; simp [addIt, T.is]
    split at h <;> simp at h
  split at h <;> simp at h
theorem one7z (kk : Int) (ba : Option Addr) (bc : Nat) : ∀ v ∈ ([.int .i64 kk, .int .i64 0, .string ByteArray.empty, .slice none 0 0, .slice none 0 0, .slice ba 0 bc, .bool false] : List Value), v.oneCell' = true := by
  intro v hv
  simp only [List.mem_cons, List.not_mem_nil, or_false] at hv
  rcases hv with rfl | rfl | rfl | rfl | rfl | rfl | rfl <;> rfl
theorem refF_flat {r : List Int} {t : T} {r' : List Int} (h : refF r = some (t, r')) : t.is = [] ∧ t.rs = [] := by
  unfold refF at h
  split at h
  · simp at h
  split at h
  · split at h
    · simp at h; obtain ⟨rfl, _⟩ := h; exact ⟨rfl, rfl⟩
    · simp at h
  · simp at h
theorem beginF_flat {tail : Bool} {r : List Int} {t : T} {whole : Bool} {r' : List Int} (h : beginF tail r = some (t, whole, r')) : t.is = [] ∧ t.rs = [] := by
  unfold beginF at h
  split at h
  · simp at h
  split at h
  · split at h <;> (simp at h; obtain ⟨rfl, _⟩ := h; exact ⟨rfl, rfl⟩)
  split at h
  · split at h <;> (simp at h; obtain ⟨rfl, _⟩ := h; exact ⟨rfl, rfl⟩)
  split at h
  · split at h
    · simp at h; obtain ⟨rfl, _⟩ := h; exact ⟨rfl, rfl⟩
    · simp at h
  split at h
  · split at h
    · rename_i hr; simp at h; obtain ⟨rfl, _⟩ := h; exact refF_flat hr
    · simp at h
  split at h
  · split at h
    · simp at h; obtain ⟨rfl, _⟩ := h; exact ⟨rfl, rfl⟩
    · simp at h
  split at h
  · simp at h; obtain ⟨rfl, _⟩ := h; exact ⟨rfl, rfl⟩
  split at h
  · split at h
    · simp at h; obtain ⟨rfl, _⟩ := h; exact ⟨rfl, rfl⟩
    · simp at h
  simp at h
theorem beginF_open {tail : Bool} {r : List Int} {t : T} {r' : List Int} (h : beginF tail r = some (t, false, r')) : ∃ k, t = mkT k 0 ByteArray.empty [] := by
  unfold beginF at h
  split at h
  · simp at h
  split at h
  · split at h
    · simp at h
    · simp at h; exact ⟨5, h.1.symm⟩
  split at h
  · split at h
    · simp at h
    · simp at h; exact ⟨7, h.1.symm⟩
  split at h
  · split at h <;> simp at h
  split at h
  · split at h <;> simp at h
  split at h
  · split at h <;> simp at h
  split at h
  · simp at h
  split at h
  · split at h <;> simp at h
  simp at h
section
variable {W w : World} {L : List HP} {h : Nat → Option Obj} {p i : Nat} {s : ByteArray}
def TermP (W : World) (L : List HP) (h : Nat → Option Obj) (p : Nat) (s : ByteArray) (q : Option (T × List Int)) (e : Ending) (w' : World) : Prop := match q with
  | some (t, r) => ∃ j ia ic ra rc ba bc h', e = .returned (.agg (tv6 t.k t.n t.nm ia t.is.length ic ra t.rs.length rc ba t.bs.length bc).toArray) ∧ r = rem s j ∧ j ≤ s.size ∧ Le h h' ∧ TIn h' t (tv6 t.k t.n t.nm ia t.is.length ic ra t.rs.length rc ba t.bs.length bc) ∧ Sat W w' (PB p s j false :: arch h' :: L)
  | none => ∃ j h', e = .returned (.agg (tv6 0 0 ⟨#[]⟩ none 0 0 none 0 0 none 0 0).toArray) ∧ j ≤ s.size ∧ Le h h' ∧ Sat W w' (PB p s j true :: arch h' :: L)
theorem beg_join {X P D A B C : HP} (S : Sat W w (X :: P :: D :: A :: B :: C :: L)) : Sat W w (P :: X :: A :: B :: C :: D :: L) := S.swap.imp (under (under un4))
theorem open_join {kk : Int} {ba : Option Addr} {bc tb rb n c j : Nat} {a : Option Addr} {st : List OD} (S : Sat W w (row 110 7 a n c (stkCells st ++ [.int .i64 kk, .int .i64 0, .string ByteArray.empty, .slice none 0 0, .slice none 0 0, .slice ba 0 bc, .bool false]) :: PB p s j false :: TB tb kk 0 ByteArray.empty ba 0 bc :: TB rb 0 0 ⟨#[]⟩ none 0 0 :: odRows st :: arch h :: L)) :
    Sat W w (PB p s j false :: TB rb 0 0 ⟨#[]⟩ none 0 0 :: row 110 7 a n c (stkCells (⟨mkT kk 0 ByteArray.empty [], false, none, 0, ba, bc, []⟩ :: st)) :: odRows (⟨mkT kk 0 ByteArray.empty [], false, none, 0, ba, bc, []⟩ :: st) :: arch h :: L) := by
  rw [stkCells_cons]
  exact (((S.rot3.drop.rot3.rot3.rot4.rowNil (e := 25) (size := 6)).join).rot4.rot4.rot4)
def XB (tb : Nat) (k n : Int) (nm : ByteArray) (ia : Option Addr) (il ic : Nat) (ra : Option Addr) (rl rc : Nat) (ba : Option Addr) (bl bc : Nat) : HP := blk tb (.cells #[.int .i64 k, .int .i64 n, .string nm, .slice ia il ic, .slice ra rl rc, .slice ba bl bc] 25 (0, 0))
theorem goes_split {P X T R A B H : HP} (S : Sat W w (P :: X :: T :: R :: star A B :: H :: L)) : Sat W w (P :: R :: A :: H :: X :: T :: B :: L) :=
  ((((((S.imp (under sw5)).imp (under sw5)).imp (under sw5)).rot3.cut.swap.imp (under un3)).imp un4).imp (under (under (under un4))))
theorem goes_more {P X T R A B H : HP} (S : Sat W w (P :: R :: A :: H :: X :: T :: B :: L)) : Sat W w (P :: T :: R :: star A B :: H :: L) :=
  (((((S.imp (under (under (under sw4)))).rot3.imp (under sw3)).join.rot5.drop.rot5).imp (under un3)).swap)
theorem goes_shut {P X T R B H : HP} (S : Sat W w (R :: P :: H :: X :: T :: B :: L)) : Sat W w (P :: X :: T :: R :: B :: H :: L) :=
  (S.rot5.rot5.rot4.imp (under (under (under (under sw2)))))
theorem shut_join {tb g0 o0 m c j il ic rl rc bl bc il' ic' rl' rc' bl' bc' : Nat} {b : Bool} {k n k' n' : Int} {nm nm' : ByteArray} {ia ra ba ia' ra' ba' : Option Addr} {low top : List Value} {T B : HP}
    (S : Sat W w (PB p s j b :: stkRow g0 o0 m c (low ++ top) :: arch h :: XB tb k n nm ia il ic ra rl rc ba bl bc :: T :: B :: L)) (hl : low.length = m * 7) :
    Sat W ((((((w.setCell ⟨tb, 0, none⟩ (.int .i64 k')).setCell ⟨tb, 1, none⟩ (.int .i64 n')).setCell ⟨tb, 2, none⟩ (.string nm')).setCell ⟨tb, 3, none⟩ (.slice ia' il' ic')).setCell ⟨tb, 4, none⟩ (.slice ra' rl' rc')).setCell ⟨tb, 5, none⟩ (.slice ba' bl' bc'))
      (PB p s j b :: XB tb k' n' nm' ia' il' ic' ra' rl' rc' ba' bl' bc' :: T :: row 110 7 (some ⟨g0, o0, none⟩) m c low :: B :: arch h :: L) := by
  have s1 : Sat W ((((((w.setCell ⟨tb, 0, none⟩ (.int .i64 k')).setCell ⟨tb, 1, none⟩ (.int .i64 n')).setCell ⟨tb, 2, none⟩ (.string nm')).setCell ⟨tb, 3, none⟩ (.slice ia' il' ic')).setCell ⟨tb, 4, none⟩ (.slice ra' rl' rc')).setCell ⟨tb, 5, none⟩ (.slice ba' bl' bc')) (XB tb k' n' nm' ia' il' ic' ra' rl' rc' ba' bl' bc' :: PB p s j b :: stkRow g0 o0 m c (low ++ top) :: arch h :: T :: B :: L) :=
    ((((((S.rot4.set 0 (.int .i64 k')).set 1 (.int .i64 n')).set 2 (.string nm')).set 3 (.slice ia' il' ic')).set 4 (.slice ra' rl' rc')).set 5 (.slice ba' bl' bc'))
  have s3 := s1.rot3.rowTake m (by omega)
  rw [List.take_left' hl] at s3
  exact goes_shut (s3.imp (under un3))
theorem flat_tin {t : T} {ba : Option Addr} {bc : Nat} (h1 : t.is = [] ∧ t.rs = []) (h2 : RdIn h ba (u8s t.bs)) (h3 : t.bs.length ≤ bc) (h4 : bc ≤ maxLen) : TIn h t (tv6 t.k t.n t.nm none 0 0 none 0 0 ba t.bs.length bc) := by
  obtain ⟨k, n, nm, is, rs, bs⟩ := t
  obtain ⟨rfl, rfl⟩ := (h1 : is = [] ∧ rs = [])
  unfold TIn
  exact ⟨none, 0, none, 0, ba, bc, rfl, by unfold LIn; trivial, by unfold LIn; trivial, h2, Nat.le_refl _, Nat.le_refl _, h3, Nat.zero_le _, Nat.zero_le _, h4⟩
def BegQ (W : World) (L M : List HP) (h : Nat → Option Obj) (p : Nat) (s : ByteArray) (q : Option (T × Bool × List Int)) (tv wv : Value) (wd : World) : Prop := match q with
  | some (t, whole, r) => ∃ j tb ba bc h', tv = .pointer (some ⟨tb, 0, none⟩) ∧ wv = .bool whole ∧ r = rem s j ∧ j ≤ s.size ∧ Le h h' ∧ RdIn h' ba (u8s t.bs) ∧ t.bs.length ≤ bc ∧ bc ≤ maxLen ∧ Sat W wd (PB p s j false :: TB tb t.k t.n t.nm ba t.bs.length bc :: (M ++ arch h' :: L))
  | none => ∃ j tb k n nm ba bn bc, tv = .pointer (some ⟨tb, 0, none⟩) ∧ wv = .bool true ∧ j ≤ s.size ∧ Sat W wd (PB p s j true :: TB tb k n nm ba bn bc :: (M ++ arch h :: L))
theorem term_any (S : Sat W w (PB p s i false :: arch h :: L)) (hi : i ≤ s.size) (hs : s.size ≤ 4294967296) :
    Calls Tryd.prog 54 #[.pointer (some ⟨p, 0, none⟩)] w (TermP W L h p s (runP [] none (rem s i))) := by
  have hs2 : s.size ≤ 140737488351232 := by omega
  obtain ⟨q, HQ⟩ : ∃ q, Hid (runP [] none (rem s i) = q) := ⟨_, hid rfl⟩
  rw [HQ.out]
  obtain ⟨rb, HRB⟩ : ∃ rb, Hid (w.heap.size = rb) := ⟨_, hid rfl⟩
  have S1 : Hid (Sat W (w.alloc (.cells #[.int .i64 0, .int .i64 0, .string ⟨#[]⟩, .slice none 0 0, .slice none 0 0, .slice none 0 0] 25)) (PB p s i false :: TB rb 0 0 ⟨#[]⟩ none 0 0 :: row 110 7 none 0 0 (stkCells []) :: odRows [] :: arch h :: L)) :=
    hid ((((S.allocAt (k := rb) _ HRB.out.symm).addEmp).rowNil (e := 110) (size := 7)).rot4.rot4.swap)
  clear S
  go_enter Tryd.func54, Tryd.ntmps54
  go_wp2_with fail
  rw [HRB.out]
  go_loopg [3] (s.size + 2) (fun left lv wr => ∃ (k0 j : Nat) (bad : Bool) (a : Option Addr) (n c : Nat) (st : List OD) (h1 : Nat → Option Obj), k0 = left ∧ lv = .slice a n c ∧ j ≤ s.size ∧ 0 < left ∧ (bad = false → n ≤ j ∧ s.size + 1 < left + j) ∧ Hid (n = st.length) ∧ Hid (bad = false → q = runP (mods st) none (rem s j)) ∧ Hid (bad = true → q = none) ∧ Hid (Le h h1) ∧ Hid (bad = false → Ods h1 j st) ∧ Hid (Sat W wr (PB p s j bad :: TB rb 0 0 ⟨#[]⟩ none 0 0 :: row 110 7 a n c (stkCells st) :: odRows st :: arch h1 :: L)))
  case atStart => exact ⟨_, i, false, none, 0, 0, [], h, rfl, rfl, hi, by omega, fun _ => ⟨Nat.zero_le _, by omega⟩, hid rfl, hid (fun _ => HQ.out.symm), hid (fun x => by cases x), hid (Le.refl h), hid (fun _ o ho => by cases ho), S1⟩
  case round =>
    obtain ⟨k0, j, bad, a, n, c, st, h1, rfl, rfl, hj, hl0, hl1, HN, HR, HRB2, HLE, HODS0, S⟩ := hrel
    clear S1
    have c2 : wr.cell? ⟨p, 2, none⟩ = some (.bool bad) := S.out.cell 2
    cases bad with
    | true =>
      have hq := HRB2.out rfl
      subst hq
      have e0 : wr.cell? ⟨rb, 0, none⟩ = some (.int .i64 0) := S.out.swap.cell 0
      have e1 : wr.cell? ⟨rb, 1, none⟩ = some (.int .i64 0) := S.out.swap.cell 1
      have e2 : wr.cell? ⟨rb, 2, none⟩ = some (.string ⟨#[]⟩) := S.out.swap.cell 2
      have e3 : wr.cell? ⟨rb, 3, none⟩ = some (.slice none 0 0) := S.out.swap.cell 3
      have e4 : wr.cell? ⟨rb, 4, none⟩ = some (.slice none 0 0) := S.out.swap.cell 4
      have e5 : wr.cell? ⟨rb, 5, none⟩ = some (.slice none 0 0) := S.out.swap.cell 5
      have f0 := S.out.swap.free 0
      have f1 := S.out.swap.free 1
      have f2 := S.out.swap.free 2
      have f3 := S.out.swap.free 3
      have f4 := S.out.swap.free 4
      have f5 := S.out.swap.free 5
      have S6 := hid (tb_same S.out.swap)
      go_wp2_with fail
      exact bodyPost_ret (v := .agg (tv6 0 0 ⟨#[]⟩ none 0 0 none 0 0 none 0 0).toArray) (by simp [results, Tryd.results54, go_sem, tv6, e0, e1, e2, e3, e4, e5]) rfl ⟨j, h1, rfl, hj, HLE.out, S6.out.drop.swap.drop.swap.drop⟩
    | false =>
      obtain ⟨hnj, hl1'⟩ := hl1 rfl
      have HODS : Hid (Ods h1 j st) := hid (HODS0.out rfl)
      clear HODS0
      have hr := HR.out rfl
      have HRR := hid hr
      clear hl1 hr HR HRB2
      have HB := hid (begin_any (S.out.imp (under (fun _ x => sw4 _ x))) (tailOf (mods st)) hj hs)
      obtain ⟨bq, HBQ⟩ : ∃ bq, Hid (beginF (tailOf (mods st)) (rem s j) = bq) := ⟨_, hid rfl⟩
      rw [HBQ.out] at HB
      go_upto_region 3 with fail
      go_cut [4, 5] from 13 to 28 (fun tv wv wd => BegQ W L [TB rb 0 0 ⟨#[]⟩ none 0 0, row 110 7 a n c (stkCells st), odRows st] h1 p s bq tv wv wd)
      case first =>
        cases st with
        | nil =>
          obtain rfl : n = 0 := HN.out
          have HB2 : Hid (Calls Tryd.prog 66 #[.pointer (some ⟨p, 0, none⟩), .bool false] wr (BegP W (TB rb 0 0 ⟨#[]⟩ none 0 0 :: row 110 7 a 0 c (stkCells []) :: odRows [] :: L) h1 p s bq)) := HB
          clear HB
          go_wp2_with fail
          refine HB2.out.mono ?_
          rintro e w2 hb
          cases bq with
          | none =>
            obtain ⟨j1, k, m', nm, ba, bn, bc, rfl, hj1, s2⟩ := hb
            unfold tv0
            have S3 := hid (beg_join (s2.allocAt (k := w2.heap.size) (.cells #[.int .i64 k, .int .i64 m', .string nm, .slice none 0 0, .slice none 0 0, .slice ba bn bc] 25) rfl))
            clear s2
            go_wp2_with fail
            all_goals go_meet
            exact ⟨j1, _, k, m', nm, ba, bn, bc, rfl, rfl, hj1, S3.out⟩
          | some x =>
            obtain ⟨t, whole, r⟩ := x
            obtain ⟨j1, ba, bc, h2, rfl, hr1, hj1, l1, r1, hb1, hb2, s2⟩ := hb
            unfold tv0
            obtain ⟨bl, HBL⟩ : ∃ bl, Hid (t.bs.length = bl) := ⟨_, hid rfl⟩
            rw [HBL.out]
            have S3 := hid (beg_join (s2.allocAt (k := w2.heap.size) (.cells #[.int .i64 t.k, .int .i64 t.n, .string t.nm, .slice none 0 0, .slice none 0 0, .slice ba bl bc] 25) rfl))
            have HX := hid (⟨hr1, hj1, l1, r1, hb1, hb2⟩ : r = rem s j1 ∧ j1 ≤ s.size ∧ Le h1 h2 ∧ RdIn h2 ba (u8s t.bs) ∧ t.bs.length ≤ bc ∧ bc ≤ maxLen)
            clear s2 hr1 hj1 l1 r1 hb1 hb2
            go_wp2_with fail
            all_goals go_meet
            obtain ⟨hr1, hj1, l1, r1, hb1, hb2⟩ := HX.out
            exact ⟨j1, _, ba, bc, h2, rfl, rfl, hr1, hj1, l1, r1, hb1, hb2, by rw [HBL.out]; exact S3.out⟩
        | cons o st =>
          obtain ⟨m, HM⟩ : ∃ m, Hid (st.length = m) := ⟨_, hid rfl⟩
          obtain rfl : n = m + 1 := by rw [HN.out, List.length_cons, HM.out]
          have hrow := S.out.rot3
          rw [stkCells_cons] at hrow
          obtain ⟨g0, o0, rfl, _, _⟩ := hrow.rowCells (by omega)
          have b6 : wr.cell? ⟨g0, o0 + m * 7 + 6, none⟩ = some (.bool o.tail) := stk_cell (top := odC o) hrow (by rw [stkCells_len, HM.out]) rfl (by decide)
          have hw1 : IntKind.i64.wrap ((m : Int) + 1 - 1) = (m : Int) := IntWalk.i64_in _ (by omega) |>.trans (by omega)
          have hm0 : (0 : Int) < (m : Int) + 1 := by omega
          have hm1 : (m : Int) < (m : Int) + 1 := by omega
          have HB2 : Hid (Calls Tryd.prog 66 #[.pointer (some ⟨p, 0, none⟩), .bool o.tail] wr (BegP W (TB rb 0 0 ⟨#[]⟩ none 0 0 :: row 110 7 (some ⟨g0, o0, none⟩) (m + 1) c (stkCells (o :: st)) :: odRows (o :: st) :: L) h1 p s bq)) := HB
          clear HB hrow
          go_wp2_with fail
          refine HB2.out.mono ?_
          rintro e w2 hb
          cases bq with
          | none =>
            obtain ⟨j1, k, m', nm, ba, bn, bc, rfl, hj1, s2⟩ := hb
            unfold tv0
            have S3 := hid (beg_join (s2.allocAt (k := w2.heap.size) (.cells #[.int .i64 k, .int .i64 m', .string nm, .slice none 0 0, .slice none 0 0, .slice ba bn bc] 25) rfl))
            clear s2
            go_wp2_with fail
            all_goals go_meet
            exact ⟨j1, _, k, m', nm, ba, bn, bc, rfl, rfl, hj1, S3.out⟩
          | some x =>
            obtain ⟨t, whole, r⟩ := x
            obtain ⟨j1, ba, bc, h2, rfl, hr1, hj1, l1, r1, hb1, hb2, s2⟩ := hb
            unfold tv0
            obtain ⟨bl, HBL⟩ : ∃ bl, Hid (t.bs.length = bl) := ⟨_, hid rfl⟩
            rw [HBL.out]
            have S3 := hid (beg_join (s2.allocAt (k := w2.heap.size) (.cells #[.int .i64 t.k, .int .i64 t.n, .string t.nm, .slice none 0 0, .slice none 0 0, .slice ba bl bc] 25) rfl))
            have HX := hid (⟨hr1, hj1, l1, r1, hb1, hb2⟩ : r = rem s j1 ∧ j1 ≤ s.size ∧ Le h1 h2 ∧ RdIn h2 ba (u8s t.bs) ∧ t.bs.length ≤ bc ∧ bc ≤ maxLen)
            clear s2 hr1 hj1 l1 r1 hb1 hb2
            go_wp2_with fail
            all_goals go_meet
            obtain ⟨hr1, hj1, l1, r1, hb1, hb2⟩ := HX.out
            exact ⟨j1, _, ba, bc, h2, rfl, rfl, hr1, hj1, l1, r1, hb1, hb2, by rw [HBL.out]; exact S3.out⟩
      case rest =>
        have hbq : BegQ W L [TB rb 0 0 ⟨#[]⟩ none 0 0, row 110 7 a n c (stkCells st), odRows st] h1 p s bq u4 u5 wc := hcut
        clear hcut HB c2 S
        obtain ⟨k, rfl⟩ : ∃ k, k0 = k + 1 := ⟨k0 - 1, by omega⟩
        cases bq with
        | none =>
          obtain ⟨j1, tb, tk0, tn, nm, ba, bn, bc, rfl, rfl, hj1, S⟩ := hbq
          have c2 : wc.cell? ⟨p, 2, none⟩ = some (.bool true) := S.cell 2
          have S5 : Hid (Sat W wc (PB p s j1 true :: TB rb 0 0 ⟨#[]⟩ none 0 0 :: row 110 7 a n c (stkCells st) :: odRows st :: arch h1 :: L)) := hid S.swap.drop
          have HQN : Hid (q = none) := hid (by rw [HRR.out]; exact runP_bad HBQ.out)
          clear S
          go_wp2_with fail
          go_loopg [3] 1 (fun left lv wr => lv = .slice a n c ∧ Hid (wr = wc))
          case atStart => exact ⟨rfl, hid rfl⟩
          case round =>
            obtain ⟨rfl, hwr0⟩ := hrel
            have hwr := hwr0.out
            subst hwr
            go_wp2_with fail
            go_roundg k
            all_goals first
              | omega
              | exact ⟨k, j1, true, a, n, c, st, h1, rfl, rfl, hj1, by omega, (fun h => by cases h), HN, hid (fun h => by cases h), hid (fun _ => HQN.out), HLE, hid (fun h => by cases h), S5⟩
        | some x =>
          obtain ⟨t, whole, r⟩ := x
          obtain ⟨j1, tb, ba, bc, h2, rfl, rfl, rfl, hj1, l1, hrd, hb1, hb2, S⟩ := hbq
          have c2 : wc.cell? ⟨p, 2, none⟩ = some (.bool false) := S.cell 2
          have hj1l : j < j1 := by
            have h9 := beginF_lt HBQ.out
            rw [rem_len, rem_len] at h9
            omega
          cases whole with
          | false =>
            obtain ⟨kk, ht⟩ := beginF_open HBQ.out
            subst ht
            have HQO : Hid (q = runP ((mkT kk 0 ByteArray.empty [], false) :: mods st) none (rem s j1)) := hid (by rw [HRR.out]; exact runP_open HBQ.out)
            have e0 : wc.cell? ⟨tb, 0, none⟩ = some (.int .i64 kk) := S.swap.cell 0
            have e1 : wc.cell? ⟨tb, 1, none⟩ = some (.int .i64 0) := S.swap.cell 1
            have e2 : wc.cell? ⟨tb, 2, none⟩ = some (.string ByteArray.empty) := S.swap.cell 2
            have e3 : wc.cell? ⟨tb, 3, none⟩ = some (.slice none 0 0) := S.swap.cell 3
            have e4 : wc.cell? ⟨tb, 4, none⟩ = some (.slice none 0 0) := S.swap.cell 4
            have e5 : wc.cell? ⟨tb, 5, none⟩ = some (.slice ba 0 bc) := S.swap.cell 5
            have SR : Hid (Sat W wc (row 110 7 a n c (stkCells st) :: PB p s j1 false :: TB tb kk 0 ByteArray.empty ba 0 bc :: TB rb 0 0 ⟨#[]⟩ none 0 0 :: odRows st :: arch h2 :: L)) := hid S.rot4
            have hod : Ods h2 j1 (⟨mkT kk 0 ByteArray.empty [], false, none, 0, ba, bc, []⟩ :: st) := by
              intro o ho
              rcases List.mem_cons.1 ho with rfl | ho
              · exact ⟨⟨rfl, rfl, rfl, rfl, rfl, hb2⟩, Nat.zero_le _⟩
              · exact HODS.out.mono l1 (by omega) o ho
            have HOD2 := hid hod
            have HL2 : Hid (Le h h2) := hid (HLE.out.trans l1)
            clear S HODS hod hrd l1 HLE HRR HBQ hb1
            go_wp2_with (at_builtin; refine wpList_pushN rfl _ _ rfl elemOpen rfl SR.out [.int .i64 kk, .int .i64 0, .string ByteArray.empty, .slice none 0 0, .slice none 0 0, .slice ba 0 bc, .bool false] rfl rfl rfl (one7z _ _ _) (by unfold maxLen; omega) (by omega) ?_; intro a' c' w3 s4 ha' hz; have S4 := hid s4; clear s4 SR c2 e0 e1 e2 e3 e4 e5)
            go_roundg k
            all_goals first
              | omega
              | exact ⟨k, j1, false, a', n + 1, c', ⟨mkT kk 0 ByteArray.empty [], false, none, 0, ba, bc, []⟩ :: st, h2, rfl, rfl, hj1, by omega, (fun _ => by omega), hid (by rw [HN.out]; rfl), hid (fun _ => HQO.out), hid (fun h => by cases h), HL2, hid (fun _ => HOD2.out), hid (open_join S4.out)⟩
          | true =>
            have HQW : Hid (q = runP (mods st) (some t) (rem s j1)) := hid (by rw [HRR.out]; exact runP_whole HBQ.out)
            have HFT := hid (beginF_flat HBQ.out)
            have HTI : Hid (TIn h2 t (tv6 t.k t.n t.nm none 0 0 none 0 0 ba t.bs.length bc)) := hid (flat_tin HFT.out hrd hb1 hb2)
            have HL2 : Hid (Le h h2) := hid (HLE.out.trans l1)
            have HOD2 : Hid (Ods h2 j1 st) := hid (HODS.out.mono l1 (by omega))
            have S2 : Hid (Sat W wc (PB p s j1 false :: XB tb t.k t.n t.nm none 0 0 none 0 0 ba t.bs.length bc :: TB rb 0 0 ⟨#[]⟩ none 0 0 :: row 110 7 a n c (stkCells st) :: odRows st :: arch h2 :: L)) := hid S
            have HNN : Hid (n ≤ j ∧ s.size + 1 < k + 1 + j ∧ j < j1 ∧ (t.is = [] ∧ t.rs = [])) := hid ⟨hnj, hl1', hj1l, HFT.out⟩
            clear S HODS hrd l1 HLE HRR HBQ hb1 hb2 HFT
            go_wp2_with fail
            go_loopg [3] (n + 1) (fun left lv wr => ∃ (k1 j2 n2 : Nat) (bad : Bool) (st2 : List OD) (t2 : T) (h3 : Nat → Option Obj) (xk xn : Int) (nm : ByteArray) (ia : Option Addr) (il ic : Nat) (ra : Option Addr) (rl rc : Nat) (ba : Option Addr) (bl bc : Nat), k1 = left ∧ lv = .slice a n2 c ∧ j2 ≤ s.size ∧ n2 < left ∧ Hid (bad = false → n2 ≤ j2 ∧ j < j2) ∧ Hid (n2 = st2.length) ∧ Hid (bad = false → q = runP (mods st2) (some t2) (rem s j2)) ∧ Hid (bad = true → q = none) ∧ Hid (Le h h3) ∧ Hid (bad = false → Ods h3 j2 st2) ∧ Hid (bad = false → xk = t2.k ∧ xn = t2.n ∧ nm = t2.nm ∧ il = t2.is.length ∧ rl = t2.rs.length ∧ bl = t2.bs.length ∧ TIn h3 t2 (tv6 xk xn nm ia il ic ra rl rc ba bl bc)) ∧ Hid (Sat W wr (PB p s j2 bad :: XB tb xk xn nm ia il ic ra rl rc ba bl bc :: TB rb 0 0 ⟨#[]⟩ none 0 0 :: row 110 7 a n2 c (stkCells st2) :: odRows st2 :: arch h3 :: L)))
            case atStart =>
              obtain ⟨q1, q2, q3, q4, q5⟩ := HNN.out
              exact ⟨_, j1, n, false, st, t, h2, t.k, t.n, t.nm, none, 0, 0, none, 0, 0, ba, _, bc, rfl, rfl, hj1, by omega, hid (fun _ => ⟨by omega, q3⟩), HN, hid (fun _ => HQW.out), hid (fun h => by cases h), HL2, hid (fun _ => HOD2.out), hid (fun _ => ⟨rfl, rfl, rfl, by rw [q4]; rfl, by rw [q5]; rfl, rfl, HTI.out⟩), S2⟩
            case round =>
              obtain ⟨k1, j2, n2, bad, st2, t2, h3, xk, xn, nm, ia, il, ic, ra, rl, rc, ba2, bl, bc2, rfl, rfl, hj2, hn2, HP2, HN2, HR2, HB2, HL3, HO3, HT3, S3⟩ := hrel
              clear S2 HOD2 HTI c2 HL2 HQW
              have c2 : wr.cell? ⟨p, 2, none⟩ = some (.bool bad) := S3.out.cell 2
              cases bad with
              | true =>
                have S5 : Hid (Sat W wr (PB p s j2 true :: TB rb 0 0 ⟨#[]⟩ none 0 0 :: row 110 7 a n2 c (stkCells st2) :: odRows st2 :: arch h3 :: L)) := hid S3.out.swap.drop
                clear S3
                go_wp2_with fail
                go_roundg k
                all_goals first
                  | omega
                  | exact ⟨k, j2, true, a, n2, c, st2, h3, rfl, rfl, hj2, by have := HNN.out; omega, (fun h => by cases h), HN2, hid (fun h => by cases h), hid (fun _ => HB2.out (by trivial)), HL3, hid (fun h => by cases h), S5⟩
              | false =>
                obtain ⟨rfl, rfl, rfl, rfl, rfl, rfl, hti⟩ := HT3.out rfl
                have HTI := hid hti
                have HO4 : Hid (Ods h3 j2 st2) := hid (HO3.out rfl)
                have HQ4 : Hid (q = runP (mods st2) (some t2) (rem s j2)) := hid (HR2.out rfl)
                have HJ4 : Hid (n2 ≤ j2 ∧ j < j2) := hid (HP2.out rfl)
                clear hti HT3 HO3 HR2 HB2 HP2
                obtain ⟨il, HIL⟩ : ∃ il, Hid (t2.is.length = il) := ⟨_, hid rfl⟩
                obtain ⟨rl, HRL⟩ : ∃ rl, Hid (t2.rs.length = rl) := ⟨_, hid rfl⟩
                obtain ⟨bl, HBL⟩ : ∃ bl, Hid (t2.bs.length = bl) := ⟨_, hid rfl⟩
                obtain ⟨xk, HXK⟩ : ∃ xk, Hid (t2.k = xk) := ⟨_, hid rfl⟩
                obtain ⟨xn, HXN⟩ : ∃ xn, Hid (t2.n = xn) := ⟨_, hid rfl⟩
                obtain ⟨nm, HNM⟩ : ∃ nm, Hid (t2.nm = nm) := ⟨_, hid rfl⟩
                have S4 : Hid (Sat W wr (PB p s j2 false :: XB tb xk xn nm ia il ic ra rl rc ba2 bl bc2 :: TB rb 0 0 ⟨#[]⟩ none 0 0 :: row 110 7 a n2 c (stkCells st2) :: odRows st2 :: arch h3 :: L)) := hid (by rw [← HIL.out, ← HRL.out, ← HBL.out, ← HXK.out, ← HXN.out, ← HNM.out]; exact S3.out)
                clear S3
                have e0 : wr.cell? ⟨tb, 0, none⟩ = some (.int .i64 xk) := S4.out.swap.cell 0
                have e1 : wr.cell? ⟨tb, 1, none⟩ = some (.int .i64 xn) := S4.out.swap.cell 1
                have e2 : wr.cell? ⟨tb, 2, none⟩ = some (.string nm) := S4.out.swap.cell 2
                have e3 : wr.cell? ⟨tb, 3, none⟩ = some (.slice ia il ic) := S4.out.swap.cell 3
                have e4 : wr.cell? ⟨tb, 4, none⟩ = some (.slice ra rl rc) := S4.out.swap.cell 4
                have e5 : wr.cell? ⟨tb, 5, none⟩ = some (.slice ba2 bl bc2) := S4.out.swap.cell 5
                cases st2 with
                | nil =>
                  obtain rfl : n2 = 0 := HN2.out
                  have f0 := S4.out.rot3.free 0
                  have f1 := S4.out.rot3.free 1
                  have f2 := S4.out.rot3.free 2
                  have f3 := S4.out.rot3.free 3
                  have f4 := S4.out.rot3.free 4
                  have f5 := S4.out.rot3.free 5
                  have g0 : wr.cell? ⟨rb, 0, none⟩ = some (.int .i64 0) := S4.out.rot3.cell 0
                  have g1 : wr.cell? ⟨rb, 1, none⟩ = some (.int .i64 0) := S4.out.rot3.cell 1
                  have g2 : wr.cell? ⟨rb, 2, none⟩ = some (.string ⟨#[]⟩) := S4.out.rot3.cell 2
                  have g3 : wr.cell? ⟨rb, 3, none⟩ = some (.slice none 0 0) := S4.out.rot3.cell 3
                  have g4 : wr.cell? ⟨rb, 4, none⟩ = some (.slice none 0 0) := S4.out.rot3.cell 4
                  have g5 : wr.cell? ⟨rb, 5, none⟩ = some (.slice none 0 0) := S4.out.rot3.cell 5
                  have S6 := hid ((((((S4.out.rot3.set 0 (.int .i64 xk)).set 1 (.int .i64 xn)).set 2 (.string nm)).set 3 (.slice ia il ic)).set 4 (.slice ra rl rc)).set 5 (.slice ba2 bl bc2))
                  have HQ5 : Hid (q = some (t2, rem s j2)) := hid (by rw [HQ4.out]; exact runP_end)
                  clear HQ4
                  go_wp2_with fail
                  have hq := HQ5.out
                  subst hq
                  have r0 : World.cell? _ ⟨rb, 0, none⟩ = some (.int .i64 xk) := S6.out.cell 0
                  have r1 : World.cell? _ ⟨rb, 1, none⟩ = some (.int .i64 xn) := S6.out.cell 1
                  have r2 : World.cell? _ ⟨rb, 2, none⟩ = some (.string nm) := S6.out.cell 2
                  have r3 : World.cell? _ ⟨rb, 3, none⟩ = some (.slice ia il ic) := S6.out.cell 3
                  have r4 : World.cell? _ ⟨rb, 4, none⟩ = some (.slice ra rl rc) := S6.out.cell 4
                  have r5 : World.cell? _ ⟨rb, 5, none⟩ = some (.slice ba2 bl bc2) := S6.out.cell 5
                  exact bodyPost_ret (v := .agg (tv6 xk xn nm ia il ic ra rl rc ba2 bl bc2).toArray) (by simp [results, Tryd.results54, go_sem, tv6, r0, r1, r2, r3, r4, r5]) rfl ⟨j2, ia, ic, ra, rc, ba2, bc2, h3, by rw [HXK.out, HXN.out, HNM.out, HIL.out, HRL.out, HBL.out], rfl, hj2, HL3.out, HTI.out, S6.out.drop.swap.drop.swap.drop.swap.drop⟩
                | cons o st3 =>
                  obtain ⟨m, HM⟩ : ∃ m, Hid (st3.length = m) := ⟨_, hid rfl⟩
                  obtain rfl : n2 = m + 1 := by rw [HN2.out, List.length_cons, HM.out]
                  have s4 := S4.out
                  rw [stkCells_cons] at s4
                  obtain ⟨g0, o0, rfl, _, _⟩ := s4.rot4.rowCells (by omega)
                  have hmj := HJ4.out.1
                  have hw1 : IntKind.i64.wrap ((m : Int) + 1 - 1) = (m : Int) := IntWalk.i64_in _ (by omega) |>.trans (by omega)
                  have hm0 : (0 : Int) < (m : Int) + 1 := by omega
                  have hm1 : (m : Int) < (m : Int) + 1 := by omega
                  have hlow : (stkCells st3).length = m * 7 := by rw [stkCells_len, HM.out]
                  have HLOW := hid hlow
                  have sg : Sat W wr (PB p s j2 false :: stkRow g0 o0 m c (stkCells st3 ++ odC o) :: odRow o :: arch h3 :: XB tb xk xn nm ia il ic ra rl rc ba2 bl bc2 :: TB rb 0 0 ⟨#[]⟩ none 0 0 :: odRows st3 :: L) := goes_split s4
                  have ho := HO4.out o (List.mem_cons_self ..)
                  have HOL : Hid (o.t.is.length ≤ j2) := hid ho.2
                  have hG := goes_any o sg ho.1 hlow rfl (by have := ho.2; omega) t2 HTI.out hj2 hs
                  rw [HXK.out, HXN.out, HNM.out, HIL.out, HRL.out, HBL.out] at hG
                  obtain ⟨gq, HGQ⟩ : ∃ gq, Hid (goesF (o.t, o.tail) t2 (rem s j2) = gq) := ⟨_, hid rfl⟩
                  rw [HGQ.out] at hG
                  have HG : Hid (Calls Tryd.prog 67 #[.pointer (some ⟨p, 0, none⟩), .pointer (some ⟨g0, o0 + m * 7, none⟩), .agg #[.int .i64 xk, .int .i64 xn, .string nm, .slice ia il ic, .slice ra rl rc, .slice ba2 bl bc2]] wr (GoP W (XB tb xk xn nm ia il ic ra rl rc ba2 bl bc2 :: TB rb 0 0 ⟨#[]⟩ none 0 0 :: odRows st3 :: L) h3 p s g0 o0 m c (stkCells st3) gq)) := hid hG
                  have HO5 : Hid (Ods h3 j2 st3) := hid (fun x hx => HO4.out x (List.mem_cons_of_mem _ hx))
                  clear hG ho sg s4 S4 HO4 hlow
                  obtain ⟨k2, rfl⟩ : ∃ k2, k1 = k2 + 1 := ⟨k1 - 1, by omega⟩
                  go_wp2_with fail
                  refine HG.out.mono ?_
                  rintro e w2 hb
                  clear HG e0 e1 e2 e3 e4 e5 c2
                  cases gq with
                  | none =>
                    obtain ⟨j4, k', n', nm', ia', il', ic', ra', rl', rc', ba', bl', bc', x, h4, rfl, hj4, l4, s5⟩ := hb
                    have HQ6 : Hid (q = none) := hid (by rw [HQ4.out]; exact runP_gbad HGQ.out)
                    have HL6 : Hid (Le h h4) := hid (HL3.out.trans l4)
                    have d0 : w2.cell? ⟨g0, o0 + m * 7 + 0, none⟩ = some (.int .i64 k') := stk_cell s5.swap HLOW.out rfl (by decide)
                    have d1 : w2.cell? ⟨g0, o0 + m * 7 + 1, none⟩ = some (.int .i64 n') := stk_cell s5.swap HLOW.out rfl (by decide)
                    have d2 : w2.cell? ⟨g0, o0 + m * 7 + 2, none⟩ = some (.string nm') := stk_cell s5.swap HLOW.out rfl (by decide)
                    have d3 : w2.cell? ⟨g0, o0 + m * 7 + 3, none⟩ = some (.slice ia' il' ic') := stk_cell s5.swap HLOW.out rfl (by decide)
                    have d4 : w2.cell? ⟨g0, o0 + m * 7 + 4, none⟩ = some (.slice ra' rl' rc') := stk_cell s5.swap HLOW.out rfl (by decide)
                    have d5 : w2.cell? ⟨g0, o0 + m * 7 + 5, none⟩ = some (.slice ba' bl' bc') := stk_cell s5.swap HLOW.out rfl (by decide)
                    rw [Nat.add_zero] at d0
                    have f0 := s5.rot4.free 0
                    have f1 := s5.rot4.free 1
                    have f2 := s5.rot4.free 2
                    have f3 := s5.rot4.free 3
                    have f4 := s5.rot4.free 4
                    have f5 := s5.rot4.free 5
                    have x0 : w2.cell? ⟨tb, 0, none⟩ = some (.int .i64 xk) := s5.rot4.cell 0
                    have x1 : w2.cell? ⟨tb, 1, none⟩ = some (.int .i64 xn) := s5.rot4.cell 1
                    have x2 : w2.cell? ⟨tb, 2, none⟩ = some (.string nm) := s5.rot4.cell 2
                    have x3 : w2.cell? ⟨tb, 3, none⟩ = some (.slice ia il ic) := s5.rot4.cell 3
                    have x4 : w2.cell? ⟨tb, 4, none⟩ = some (.slice ra rl rc) := s5.rot4.cell 4
                    have x5 : w2.cell? ⟨tb, 5, none⟩ = some (.slice ba2 bl bc2) := s5.rot4.cell 5
                    have hmc1 : m + 1 ≤ c := s5.swap.rowLen.2.1
                    have hmc : m ≤ c := by omega
                    have S7 := hid (shut_join (k' := k') (n' := n') (nm' := nm') (ia' := ia') (il' := il') (ic' := ic') (ra' := ra') (rl' := rl') (rc' := rc') (ba' := ba') (bl' := bl') (bc' := bc') s5 HLOW.out)
                    clear s5 l4 HO5 HGQ HQ4
                    go_wp2_with fail
                    go_roundg k2
                    all_goals first
                      | omega
                      | exact ⟨k2, j4, m, true, st3, t2, h4, k', n', nm', ia', il', ic', ra', rl', rc', ba', bl', bc', rfl, rfl, hj4, by omega, hid (fun h => by cases h), hid HM.out.symm, hid (fun h => by cases h), hid (fun _ => HQ6.out), HL6, hid (fun h => by cases h), hid (fun h => by cases h), S7⟩
                  | some y =>
                    obtain ⟨o', sh, r⟩ := y
                    cases sh with
                    | false =>
                      obtain ⟨j4, od', h4, rfl, rfl, hj4, l4, rfl, hod', s5⟩ := hb
                      have hj24 : j2 < j4 := by
                        have h9 := goesF_lt HGQ.out
                        rw [rem_len, rem_len] at h9
                        omega
                      have hln : od'.t.is.length = o.t.is.length + 1 := goesF_len HGQ.out
                      have HQ6 : Hid (q = runP (mods (od' :: st3)) none (rem s j4)) := hid (by rw [HQ4.out]; exact runP_more HGQ.out)
                      have hods : Ods h4 j4 (od' :: st3) := by
                        intro x hx
                        rcases List.mem_cons.1 hx with rfl | hx
                        · exact ⟨hod', by have := HOL.out; omega⟩
                        · exact HO5.out.mono l4 (by omega) x hx
                      have HO6 := hid hods
                      have HL6 : Hid (Le h h4) := hid (HL3.out.trans l4)
                      have s6 := goes_more s5
                      unfold stkRow at s6
                      rw [← stkCells_cons] at s6
                      have S6 : Hid (Sat W w2 (PB p s j4 false :: TB rb 0 0 ⟨#[]⟩ none 0 0 :: row 110 7 (some ⟨g0, o0, none⟩) (m + 1) c (stkCells (od' :: st3)) :: odRows (od' :: st3) :: arch h4 :: L)) := hid s6
                      clear s5 s6 hods hod' hln l4 HGQ HQ4 HOL HO5
                      go_wp2_with fail
                      go_roundg k
                      all_goals first
                        | omega
                        | exact ⟨k, j4, false, some ⟨g0, o0, none⟩, m + 1, c, od' :: st3, h4, rfl, rfl, hj4, by have := HNN.out; omega, (fun _ => by have := HNN.out; have := HJ4.out; omega), hid (by rw [List.length_cons, HM.out]), hid (fun _ => HQ6.out), hid (fun h => by cases h), HL6, hid (fun _ => HO6.out), S6⟩
                    | true =>
                      obtain ⟨j4, ia', ic', ra', rc', ba', bc', x, h4, rfl, rfl, hj4, l4, htin, s5⟩ := hb
                      have hj24 : j2 < j4 := by
                        have h9 := goesF_lt HGQ.out
                        rw [rem_len, rem_len] at h9
                        omega
                      have HQ6 : Hid (q = runP (mods st3) (some o'.1) (rem s j4)) := hid (by rw [HQ4.out]; exact runP_shut HGQ.out)
                      have HL6 : Hid (Le h h4) := hid (HL3.out.trans l4)
                      have HO6 : Hid (Ods h4 j4 st3) := hid (HO5.out.mono l4 (by omega))
                      have HT6 := hid htin
                      have d0 : w2.cell? ⟨g0, o0 + m * 7 + 0, none⟩ = some (.int .i64 o'.1.k) := stk_cell s5.swap HLOW.out rfl (by decide)
                      have d1 : w2.cell? ⟨g0, o0 + m * 7 + 1, none⟩ = some (.int .i64 o'.1.n) := stk_cell s5.swap HLOW.out rfl (by decide)
                      have d2 : w2.cell? ⟨g0, o0 + m * 7 + 2, none⟩ = some (.string o'.1.nm) := stk_cell s5.swap HLOW.out rfl (by decide)
                      have d3 : w2.cell? ⟨g0, o0 + m * 7 + 3, none⟩ = some (.slice ia' o'.1.is.length ic') := stk_cell s5.swap HLOW.out rfl (by decide)
                      have d4 : w2.cell? ⟨g0, o0 + m * 7 + 4, none⟩ = some (.slice ra' o'.1.rs.length rc') := stk_cell s5.swap HLOW.out rfl (by decide)
                      have d5 : w2.cell? ⟨g0, o0 + m * 7 + 5, none⟩ = some (.slice ba' o'.1.bs.length bc') := stk_cell s5.swap HLOW.out rfl (by decide)
                      rw [Nat.add_zero] at d0
                      have f0 := s5.rot4.free 0
                      have f1 := s5.rot4.free 1
                      have f2 := s5.rot4.free 2
                      have f3 := s5.rot4.free 3
                      have f4 := s5.rot4.free 4
                      have f5 := s5.rot4.free 5
                      have x0 : w2.cell? ⟨tb, 0, none⟩ = some (.int .i64 xk) := s5.rot4.cell 0
                      have x1 : w2.cell? ⟨tb, 1, none⟩ = some (.int .i64 xn) := s5.rot4.cell 1
                      have x2 : w2.cell? ⟨tb, 2, none⟩ = some (.string nm) := s5.rot4.cell 2
                      have x3 : w2.cell? ⟨tb, 3, none⟩ = some (.slice ia il ic) := s5.rot4.cell 3
                      have x4 : w2.cell? ⟨tb, 4, none⟩ = some (.slice ra rl rc) := s5.rot4.cell 4
                      have x5 : w2.cell? ⟨tb, 5, none⟩ = some (.slice ba2 bl bc2) := s5.rot4.cell 5
                      have hmc1 : m + 1 ≤ c := s5.swap.rowLen.2.1
                      have hmc : m ≤ c := by omega
                      have S7 := hid (shut_join (k' := o'.1.k) (n' := o'.1.n) (nm' := o'.1.nm) (ia' := ia') (il' := o'.1.is.length) (ic' := ic') (ra' := ra') (rl' := o'.1.rs.length) (rc' := rc') (ba' := ba') (bl' := o'.1.bs.length) (bc' := bc') s5 HLOW.out)
                      clear s5 l4 HO5 HGQ HQ4 htin
                      go_wp2_with fail
                      go_roundg k2
                      all_goals first
                        | omega
                        | exact ⟨k2, j4, m, false, st3, o'.1, h4, o'.1.k, o'.1.n, o'.1.nm, ia', _, ic', ra', _, rc', ba', _, bc', rfl, rfl, hj4, by omega, hid (fun _ => by have := HJ4.out; omega), hid HM.out.symm, hid (fun _ => HQ6.out), hid (fun h => by cases h), HL6, hid (fun _ => HO6.out), hid (fun _ => ⟨rfl, rfl, rfl, rfl, rfl, rfl, HT6.out⟩), S7⟩
end
end Go.Proofs.YteaabbghnfideaaDoor
