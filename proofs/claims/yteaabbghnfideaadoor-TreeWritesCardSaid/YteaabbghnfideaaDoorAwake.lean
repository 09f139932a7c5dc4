/-
  The statements' awake: the texts of the document's examples.
-/
import Derived.Test.YteaabbghnfideaaDoorWTop
import Derived.Test.YteaabbghnfideaaDoorCmpK
namespace Go.Proofs.YteaabbghnfideaaDoor
open Go.RowKit
set_option maxHeartbeats 2000000

def tI (n : Int) : T := .mk 1 n ByteArray.empty [] [] []
def tA (s : ByteArray) : T := .mk 2 0 s [] [] []
def sOk : ByteArray := ⟨#[111, 107]⟩
def sOut : ByteArray := ⟨#[123, 111, 107, 44, 91, 49, 44, 50, 93, 125]⟩
def tL12 : T := .mk 7 0 ByteArray.empty [tI 1, tI 2] [] []
def tOut : T := .mk 5 0 ByteArray.empty [tA sOk, tL12] [] []
theorem byts_inj {a b : ByteArray} (h : byts a = byts b) : a = b := by
  apply ByteArray.ext
  apply Array.ext'
  have key : ∀ (x y : List UInt8), (x.map fun b => (b.toNat : Int)) = (y.map fun b => (b.toNat : Int)) → x = y := by
    intro x
    induction x with
    | nil => intro y h; cases y with
      | nil => rfl
      | cons a y => simp at h
    | cons a x ih => intro y h; cases y with
      | nil => simp at h
      | cons b y =>
        simp only [List.map_cons, List.cons.injEq] at h
        rw [ih y h.2]
        have : a = b := UInt8.toNat_inj.1 (by omega)
        rw [this]
  exact key _ _ h
theorem ok_out : TOk tOut := by
  have h1 : sOk.size = 2 := rfl
  simp [TOk, LOk, tOut, tA, tL12, tI, fits, h1]
theorem right_out : rightOf tOut = none := by
  rfl
theorem txt_out : txt tOut = byts sOut := by
  have n1 : num 1 = [49] := by simp [num, Lib.itoa, Lib.decDigits]
  have n2 : num 2 = [50] := by simp [num, Lib.itoa, Lib.decDigits]
  have hw : wordB sOk = true := by rfl
  have ho : byts sOk = [111, 107] := by rfl
  simp [tOut, tA, tL12, tI, txt, txtL, txtM, nameT, hw, n1, n2, ho]
  rfl
theorem told_out (h0 : Nat → Option Obj) : Told h0 tOut := by
  have hw : wordB sOk = true := by rfl
  have f1 := fmt_small h0 1 (by omega)
  have f2 := fmt_small h0 2 (by omega)
  simp [Told, ToldL, Leaf, tOut, tA, tL12, tI, T.k, T.n, T.nm, T.bs, hw]
  exact ⟨f1, f2⟩
def v1 : List Value := tVals (tI 1) none 0 none 0 none 0
def v2 : List Value := tVals (tI 2) none 0 none 0 none 0
def vA : List Value := tVals (tA sOk) none 0 none 0 none 0
theorem in_I (h : Nat → Option Obj) (n : Int) : TIn h (tI n) (tVals (tI n) none 0 none 0 none 0) := TIn.of (LIn.nil _ _) (LIn.nil _ _) (RdIn.nil _ _) (by simp [tI, T.is, T.rs, T.bs, maxLen])
theorem in_A (h : Nat → Option Obj) (s : ByteArray) : TIn h (tA s) (tVals (tA s) none 0 none 0 none 0) := TIn.of (LIn.nil _ _) (LIn.nil _ _) (RdIn.nil _ _) (by simp [tA, T.is, T.rs, T.bs, maxLen])
section
variable {W w : World} {L : List HP} {h : Nat → Option Obj}
theorem awake_any (S : Sat W w (arch h :: L)) : Calls Tryd.prog 18 #[] w fun e w' => ∃ h', e = .returned (.bool true) ∧ Le h h' ∧ Sat W w' (arch h' :: L) := by
  have S1 := (S.allocAt (k := w.heap.size) (.cells (v1 ++ v2).toArray 25) rfl)
  obtain ⟨h1, l1, r1, S2⟩ := store_lit S1
  have q12 : LIn h1 [tI 1, tI 2] (some ⟨w.heap.size, 0, none⟩) 0 := LIn.of_rd (vss := [v1, v2]) (by simp only [TsIn]; exact ⟨_, _, rfl, in_I _ _, _, _, rfl, in_I _ _, rfl⟩) (by simpa using r1)
  have qL : TIn h1 tL12 (tVals tL12 (some ⟨w.heap.size, 0, none⟩) 2 none 0 none 0) := TIn.of q12 (LIn.nil _ _) (RdIn.nil _ _) (by simp [tL12, T.is, T.rs, T.bs, maxLen])
  have S3 := (S2.allocAt (k := w.heap.size + 1) (.cells (vA ++ tVals tL12 (some ⟨w.heap.size, 0, none⟩) 2 none 0 none 0).toArray 25) (by simp))
  obtain ⟨h2, l2, r2, S4⟩ := store_lit S3
  have q2 : LIn h2 [tA sOk, tL12] (some ⟨w.heap.size + 1, 0, none⟩) 0 := LIn.of_rd (vss := [vA, tVals tL12 (some ⟨w.heap.size, 0, none⟩) 2 none 0 none 0]) (by simp only [TsIn]; exact ⟨_, _, rfl, in_A _ _, _, _, rfl, qL.mono l2, rfl⟩) (by simpa using r2)
  have qT : TIn h2 tOut (tVals tOut (some ⟨w.heap.size + 1, 0, none⟩) 2 none 0 none 0) := TIn.of q2 (LIn.nil _ _) (RdIn.nil _ _) (by simp [tOut, T.is, T.rs, T.bs, maxLen])
  have hlen : (txt tOut).length ≤ 140737488355328 := by rw [txt_out, byts_len]; decide
  have HW := hid (write_top S4 tOut _ qT ok_out (fun _ => ⟨told_out h2, hlen, sOut, txt_out.symm⟩))
  have LE := hid (l1.trans l2)
  clear S S1 S2 S3 S4 r1 r2 q12 qL q2 qT hlen l1 l2
  go_enter Tryd.func18, Tryd.ntmps18
  go_wp2_with fail
  refine HW.out.mono ?_
  rintro e w3 ⟨s, v, h3, rfl, le, ho, s3⟩
  have LE3 := hid (LE.out.trans le)
  unfold WOf at ho
  rw [right_out] at ho
  obtain ⟨rfl, q, rfl, hq⟩ := ho
  have hqs : q = sOut := byts_inj (by rw [hq, txt_out])
  subst hqs
  have HC := hid (cmp_kinds s3 (tI 1) (tA ⟨#[97]⟩) none none none none none none 0 0 0 0 0 0 (by simp [tI, tA, T.k]))
  clear le s3 HW LE hq
  unfold sOut
  go_wp2_with fail
  refine HC.out.mono ?_
  rintro e w4 ⟨rfl, s4⟩
  have S4 := hid s4
  clear s4 HC
  go_wp2_with fail
  go_ret
  exact ⟨h3, rfl, LE3.out, S4.out⟩
end
#print axioms awake_any
end Go.Proofs.YteaabbghnfideaaDoor
