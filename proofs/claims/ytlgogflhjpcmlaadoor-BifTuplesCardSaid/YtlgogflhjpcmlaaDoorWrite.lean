/-
  tree.write: a term's text, behind what a builder holds.
-/
import Derived.Test.YtlgogflhjpcmlaaDoorWord
import Derived.Test.YtlgogflhjpcmlaaDoorBld
import Derived.Deep.DeepCutAuto
import Derived.Deep.CutBlock
import Derived.Lib.ItoaNum
namespace Go.Proofs.YtlgogflhjpcmlaaDoor
open Go.RowKit
set_option maxHeartbeats 4000000

theorem strCells_byts (s : ByteArray) : Lib.strCells s = u8s (byts s) := by simp [Lib.strCells, u8s, byts]
theorem u8s_append (a b : List Int) : u8s (a ++ b) = u8s a ++ u8s b := by simp [u8s]
def num (n : Int) : List Int := (Lib.itoa n).map fun b => (b.toNat : Int)
theorem byts_num (n : Int) : byts ⟨(Lib.itoa n).toArray⟩ = num n := by simp [byts, num]
section
variable {W w : World} {L : List HP} {b : Nat} {l : List Int}
theorem wb (S : Sat W w (bld b (u8s l) :: L)) (x : Int) (hb : l.length + 1 ≤ 140737488355328) :
    Calls Tryd.prog 82 #[.pointer (some ⟨b, 0, none⟩), .int .u8 x] w fun e w' => e = .returned .nilIface ∧ Sat W w' (bld b (u8s (l ++ [x])) :: L) :=
  (wbyte_any S x (by rw [length_u8s]; exact hb)).mono fun e w' ⟨he, hs⟩ => ⟨he, by rw [u8s_append]; exact hs⟩
theorem wst (S : Sat W w (bld b (u8s l) :: L)) (str : ByteArray) (hb : l.length + (byts str).length ≤ 140737488355328) :
    Calls Tryd.prog 78 #[.pointer (some ⟨b, 0, none⟩), .string str] w fun e w' => ∃ z, e = .returned (.tuple #[.int .i64 z, .nilIface]) ∧ Sat W w' (bld b (u8s (l ++ byts str)) :: L) :=
  (wstring_any S str (by rw [length_u8s, ← byts_len]; exact hb)).mono fun e w' ⟨he, hs⟩ => ⟨_, he, by rw [u8s_append, ← strCells_byts]; exact hs⟩
end

/-! ### the text -/
def hexD (n : Int) : Int := if n < 10 then 48 + n else 87 + n
def quoB (b : Int) : List Int := if oddB b = true then [92, 120, hexD (b / 16), hexD (b % 16)] else if b = 39 ∨ b = 92 then [92, b] else [b]
def quo (s : ByteArray) : List Int := [39] ++ (byts s).flatMap quoB ++ [39]
def nameT (s : ByteArray) : List Int := if wordB s = true then byts s else quo s
def joinB : List Int → List Int
  | [] => []
  | x :: xs => num x ++ xs.flatMap fun y => 44 :: num y
mutual
def txt : T → List Int
  | .mk k n nm is rs bs =>
    if k = 3 then [35, 114] ++ num n else if k = 4 then [35, 112] ++ num n else if k = 1 then num n
    else if k = 2 then nameT nm else if k = 5 then [123] ++ txtL is ++ [125] else if k = 6 then [91, 93]
    else if k = 7 then [91] ++ txtL is ++ txtR rs ++ [93] else if k = 8 then [60, 60] ++ joinB bs ++ [62, 62] else []
def txtL : List T → List Int
  | [] => []
  | t :: ts => txt t ++ txtM ts
def txtM : List T → List Int
  | [] => []
  | t :: ts => 44 :: (txt t ++ txtM ts)
def txtR : List T → List Int
  | [] => []
  | t :: _ => 124 :: txt t
end
theorem txtM_snoc : ∀ (ts : List T) (x : T), txtM (ts ++ [x]) = txtM ts ++ 44 :: txt x
  | [], x => by simp [txtM]
  | t :: ts, x => by rw [List.cons_append, txtM, txtM, txtM_snoc ts x]; simp
theorem txtL_snoc (ts : List T) (x : T) : txtL (ts ++ [x]) = txtL ts ++ (if ts = [] then [] else [44]) ++ txt x := by
  cases ts with
  | nil => simp [txtL, txtM]
  | cons t ts => rw [List.cons_append, txtL, txtL, txtM_snoc]; simp
theorem txtL_step {ts : List T} {i : Nat} {x : T} (hx : ts[i]? = some x) : txtL (ts.take (i + 1)) = txtL (ts.take i) ++ (if i = 0 then [] else [44]) ++ txt x := by
  have hl := (List.getElem?_eq_some_iff.1 hx).1
  rw [List.take_add_one, hx]
  simp only [Option.toList_some]
  rw [txtL_snoc]
  congr 2
  by_cases q : i = 0
  · subst q; simp
  · rw [if_neg q, if_neg]
    intro e
    have h1 : (ts.take i).length = i := by rw [List.length_take]; omega
    rw [e] at h1
    simp at h1
    omega
theorem txtM_le : ∀ (ts : List T) (i : Nat), (txtM (ts.take i)).length ≤ (txtM ts).length
  | [], i => by simp
  | t :: ts, 0 => by simp [txtM]
  | t :: ts, i + 1 => by
    rw [List.take_succ_cons, txtM, txtM]
    have := txtM_le ts i
    simp; omega
theorem txtL_le (ts : List T) (i : Nat) : (txtL (ts.take i)).length ≤ (txtL ts).length := by
  cases ts with
  | nil => simp
  | cons t ts =>
    cases i with
    | zero => simp [txtL]
    | succ i => rw [List.take_succ_cons, txtL, txtL]; have := txtM_le ts i; simp; omega

/-! ### what the leaves ask -/
def FmtC (h0 : Nat → Option Obj) (n : Int) : Prop := ∀ (W w : World) (L : List HP) (h : Nat → Option Obj), Le h0 h → Sat W w (arch h :: L) → Calls Tryd.prog 79 #[.int .i64 n, .int .i64 10] w fun e w' => e = .returned (.string ⟨(Lib.itoa n).toArray⟩) ∧ Sat W w' (arch h :: L)
def ItoC (h0 : Nat → Option Obj) (n : Int) : Prop := ∀ (W w : World) (L : List HP) (h : Nat → Option Obj), Le h0 h → Sat W w (arch h :: L) → Calls Tryd.prog 84 #[.int .i64 n] w fun e w' => e = .returned (.string ⟨(Lib.itoa n).toArray⟩) ∧ Sat W w' (arch h :: L)
def QuoC (s : ByteArray) : Prop := ∀ (W w : World) (L : List HP), Sat W w L → Calls Tryd.prog 81 #[.string s] w fun e w' => ∃ q, e = .returned (.string q) ∧ byts q = quo s ∧ Sat W w' L
/-- a term's own leaves can be told -/
def Leaf (h0 : Nat → Option Obj) (t : T) : Prop := ((t.k = 1 ∨ t.k = 3 ∨ t.k = 4) → FmtC h0 t.n) ∧ (t.k = 2 → wordB t.nm = true ∨ QuoC t.nm) ∧ (t.k = 8 → ∀ b ∈ t.bs, ItoC h0 b)
mutual
def Told (h0 : Nat → Option Obj) : T → Prop
  | .mk k n nm is rs bs => Leaf h0 (.mk k n nm is rs bs) ∧ ToldL h0 is ∧ ToldL h0 rs
def ToldL (h0 : Nat → Option Obj) : List T → Prop
  | [] => True
  | t :: ts => Told h0 t ∧ ToldL h0 ts
end
theorem ToldL.mem {h0 : Nat → Option Obj} : ∀ {ts : List T} {t : T}, ToldL h0 ts → t ∈ ts → Told h0 t
  | [], _, _, h => by cases h
  | x :: ts, t, q, h => by
    unfold ToldL at q
    rcases List.mem_cons.1 h with rfl | h
    · exact q.1
    · exact ToldL.mem q.2 h
def WriteC (h0 : Nat → Option Obj) (t : T) : Prop := ∀ (W w : World) (L : List HP) (h : Nat → Option Obj) (vs : List Value) (b : Nat) (l : List Int), Le h0 h → Sat W w (bld b (u8s l) :: arch h :: L) → TIn h t vs → l.length + (txt t).length ≤ 140737488355328 →
  Calls Tryd.prog 76 #[.pointer (some ⟨b, 0, none⟩), .agg vs.toArray] w fun e w' => e = .returned (.tuple #[]) ∧ Sat W w' (bld b (u8s (l ++ txt t)) :: arch h :: L)
section
variable {W w : World} {L : List HP} {h h0 : Nat → Option Obj} {b : Nat} {l : List Int}
set_option maxRecDepth 100000 in
theorem row_of (S : Sat W w (bld b (u8s l) :: arch h :: L)) (hle : Le h0 h) (ts : List T) (a : Option Addr) (n c : Nat) (hn : n = ts.length) (hl : LIn h ts a 0) (hb : n ≤ 1353245080300) (ih : ∀ t ∈ ts, WriteC h0 t) (hlen : l.length + (txtL ts).length ≤ 140737488355328) :
    Calls Tryd.prog 83 #[.pointer (some ⟨b, 0, none⟩), .slice a n c] w fun e w' => e = .returned (.tuple #[]) ∧ Sat W w' (bld b (u8s (l ++ txtL ts)) :: arch h :: L) := by
  have HN := hid hn
  have HL := hid hl
  have IH := hid ih
  have HLE := hid hle
  have HLN := hid hlen
  have S1 := hid S
  clear hn hl ih S hle hlen
  go_enter Tryd.func83, Tryd.ntmps83
  go_wp2_with fail
  go_loopw [8] (fun iv wr => ∃ (i : Nat), i ≤ n ∧ iv = .int .i64 i ∧ Hid (Sat W wr (bld b (u8s (l ++ txtL (ts.take i))) :: arch h :: L))) (fun iv _ => n - (intOf iv).toNat)
  case atStart => exact ⟨0, Nat.zero_le _, rfl, by have := S1; simpa [txtL] using this⟩
  case round =>
    obtain ⟨i, hi, rfl, S⟩ := hrel
    clear S1
    by_cases hlt : i < n
    · obtain ⟨t, ht⟩ : ∃ t, ts[i]? = some t := ⟨_, List.getElem?_eq_getElem (by have := HN.out; omega)⟩
      obtain ⟨g, off, vs, rfl, hc, hin⟩ := HL.out.get ht
      have hin0 := hin
      obtain ⟨ia, ic, ra, rc, ba, bc, rfl, _⟩ := hin.vals
      have k0 := S.out.drop.cellIn (hc 0 _ rfl)
      have k1 := S.out.drop.cellIn (hc 1 _ rfl)
      have k2 := S.out.drop.cellIn (hc 2 _ rfl)
      have k3 := S.out.drop.cellIn (hc 3 _ rfl)
      have k4 := S.out.drop.cellIn (hc 4 _ rfl)
      have k5 := S.out.drop.cellIn (hc 5 _ rfl)
      rw [Nat.zero_add] at k0 k1 k2 k3 k4 k5
      rw [Nat.add_zero] at k0
      have hst := txtL_step ht
      have hle1 := txtL_le ts (i + 1)
      have HST := hid hst
      have hbnd : (l ++ txtL (ts.take i)).length + ((if i = 0 then [] else [44]) : List Int).length + (txt t).length ≤ 140737488355328 := by
        rw [hst] at hle1
        simp only [List.length_append] at hle1 ⊢
        have := HLN.out
        omega
      have HB := hid hbnd
      have S2 := hid ((S.out.allocAt (.cells (tVals t ia ic ra rc ba bc).toArray 35) (k := wr.heap.size) rfl).unrot3)
      have HIN := hid hin0
      have HT := hid ht
      unfold tVals at S2 HIN
      clear hc hin hin0 ht hst hle1 hbnd S
      by_cases hi0 : i = 0
      · have hid0 : decide ((0 : Int) < (i : Int)) = false := decide_eq_false (by omega)
        have hid1 : decide (0 < i) = false := decide_eq_false (by omega)
        have hst := HST.out
        have hbb := HB.out
        rw [if_pos hi0, List.append_nil] at hst
        rw [if_pos hi0] at hbb
        have HST2 := hid hst
        have HB2 := hid hbb
        clear hst hbb hi0
        go_wp2_with fail
        refine (IH.out t (List.mem_of_getElem? HT.out) W _ _ h _ b _ HLE.out S2.out HIN.out (by have := HB2.out; simpa using this)).mono ?_
        rintro e w1 ⟨rfl, s1⟩
        have S3 := hid s1
        clear s1 S2 k0 k1 k2 k3 k4 k5
        go_wp2_with fail
        go_roundw
        case rel => exact ⟨i + 1, by omega, by go_num, hid (by have := S3.out.rot3.drop; rw [HST2.out, ← List.append_assoc]; exact this)⟩
        case measure => simp [intOf]; omega
      · have hid0 : decide ((0 : Int) < (i : Int)) = true := decide_eq_true (by omega)
        have hid1 : decide (0 < i) = true := decide_eq_true (by omega)
        have hst := HST.out
        have hbb := HB.out
        rw [if_neg hi0] at hst hbb
        have HST2 := hid hst
        have HB2 := hid hbb
        clear hst hbb hi0
        go_wp2_with fail
        refine (wb S2.out 44 (by have := HB2.out; simp at this ⊢; omega)).mono ?_
        rintro e w1 ⟨rfl, s1⟩
        have S3 := hid s1
        have j0 : w1.cell? ⟨wr.heap.size, 0, none⟩ = some (.int .i64 t.k) := s1.rot3.cell 0
        have j1 : w1.cell? ⟨wr.heap.size, 1, none⟩ = some (.int .i64 t.n) := s1.rot3.cell 1
        have j2 : w1.cell? ⟨wr.heap.size, 2, none⟩ = some (.string t.nm) := s1.rot3.cell 2
        have j3 : w1.cell? ⟨wr.heap.size, 3, none⟩ = some (.slice ia t.is.length ic) := s1.rot3.cell 3
        have j4 : w1.cell? ⟨wr.heap.size, 4, none⟩ = some (.slice ra t.rs.length rc) := s1.rot3.cell 4
        have j5 : w1.cell? ⟨wr.heap.size, 5, none⟩ = some (.slice ba t.bs.length bc) := s1.rot3.cell 5
        clear s1 S2 k0 k1 k2 k3 k4 k5
        go_wp2_with fail
        refine (IH.out t (List.mem_of_getElem? HT.out) W _ _ h _ b _ HLE.out S3.out HIN.out (by have := HB2.out; simp at this ⊢; omega)).mono ?_
        rintro e w2 ⟨rfl, s2⟩
        have S4 := hid s2
        clear s2 S3 j0 j1 j2 j3 j4 j5
        go_wp2_with fail
        go_roundw
        case rel => exact ⟨i + 1, by omega, by go_num, hid (by have := S4.out.rot3.drop; rw [HST2.out]; simpa using this)⟩
        case measure => simp [intOf]; omega
    · obtain rfl : i = n := by omega
      go_wp2_with fail
      go_end0
      refine ⟨rfl, ?_⟩
      have := S.out
      rw [List.take_of_length_le (by have := HN.out; omega)] at this
      exact this
end
end Go.Proofs.YtlgogflhjpcmlaaDoor
