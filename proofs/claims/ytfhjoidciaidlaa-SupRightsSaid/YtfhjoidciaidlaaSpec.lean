/-
  A SUPERVISOR'S SPEC: right, Right, the document's own Right, New.
-/
import Derived.Test.YtfhjoidciaidlaaSupB
import Derived.Test.YtfhjoidciaidlaaErr
namespace Go.Proofs.Ytfhjoidciaidlaa
open Go.RowKit
set_option maxHeartbeats 400000

/-- cells behind an address that read as a list, in an archive -/
def RdIn (h : Nat → Option Obj) (a : Option Addr) (vs : List Value) : Prop := ∀ j u, vs[j]? = some u → ∃ g off, a = some ⟨g, off, none⟩ ∧ cellIn h g (off + j) = some u
theorem RdIn.mono {h h' : Nat → Option Obj} (l : Le h h') {a : Option Addr} {vs : List Value} (r : RdIn h a vs) : RdIn h' a vs := fun j u hj =>
  let ⟨g, off, e, q⟩ := r j u hj
  ⟨g, off, e, cellIn_mono l q⟩
theorem Sat.archRd {W w : World} {L : List HP} {h : Nat → Option Obj} (s : Sat W w (arch h :: L)) {a : Option Addr} {vs : List Value} (r : RdIn h a vs) : Rd w a vs := fun j u hj =>
  let ⟨g, off, e, q⟩ := r j u hj
  ⟨g, off, e, s.cellIn q⟩
theorem Rd.heapOf {w : World} {a : Option Addr} {vs : List Value} (r : Rd w a vs) : RdIn (heapOf w) a vs := fun j u hj =>
  let ⟨g, off, e, q⟩ := r j u hj
  ⟨g, off, e, cellIn_heapOf q⟩

def chVals (l : List Chd) : List Value := l.flatMap Chd.vals
theorem lenChd (c : Chd) : c.vals.length = 3 := rfl
theorem oneChd (x : Chd) : ∀ v ∈ x.vals, v.oneCell' = true := by
  intro v hv
  simp only [Chd.vals, List.mem_cons, List.not_mem_nil, or_false] at hv
  rcases hv with rfl | rfl | rfl <;> rfl
def Chd.ok (c : Chd) : Bool := decide (1 ≤ (c.f.size : Int) ∧ (c.f.size : Int) ≤ 255 ∧ 0 ≤ c.r ∧ c.r ≤ 2 ∧ -1 ≤ c.t ∧ c.t ≤ 10000)
structure Sp where
  strat : Int
  m : Int
  t : Int
  ch : List Chd
def Sp.head (s : Sp) : Bool := decide (1 ≤ s.strat ∧ s.strat ≤ 3 ∧ 0 ≤ s.m ∧ s.m ≤ 1000 ∧ 1 ≤ s.t ∧ s.t ≤ 10000 ∧ 1 ≤ (s.ch.length : Int) ∧ (s.ch.length : Int) ≤ 32)
def tSpec : ByteArray := ⟨#[115, 112, 101, 99]⟩
def tChild : ByteArray := ⟨#[99, 104, 105, 108, 100]⟩
def Sp.fault (s : Sp) : Option (List (ByteArray × Int)) :=
  if s.head = true then (match s.ch.findIdx? (fun c => !c.ok) with | none => none | some i => some [(tSpec, 0), (tChild, i)]) else some [(tSpec, 0)]
def ErrOr (h : Nat → Option Obj) (v : Value) (k : Int) : Option (List (ByteArray × Int)) → Prop
  | none => v = .nilIface
  | some fs => ErrIn h v fs k
def XOr (h : Nat → Option Obj) (v : Option Addr) (k : Int) : Option (List (ByteArray × Int)) → Prop
  | none => v = none
  | some fs => XIn h v fs k
def specAgg (s : Sp) (a : Option Addr) (c : Nat) : Value := .agg #[.int .i64 s.strat, .int .i64 s.m, .int .i64 s.t, .slice a s.ch.length c]

theorem right_any (c : Chd) (w : World) (hs : c.f.size ≤ 140737488351232) : Calls Try.prog 38 #[.agg #[.string c.f, .int .i64 c.r, .int .i64 c.t]] w fun e w' => e = .returned (.bool c.ok) ∧ w' = w.alloc (.cells #[.string c.f, .int .i64 c.r, .int .i64 c.t] 39) := by
  obtain ⟨f, r, t⟩ := c
  simp only at hs
  obtain ⟨n, HN⟩ : ∃ n, Hid (f.size = n) := ⟨_, rfl⟩
  have hok : Chd.ok ⟨f, r, t⟩ = decide (1 ≤ (n : Int) ∧ (n : Int) ≤ 255 ∧ 0 ≤ r ∧ r ≤ 2 ∧ -1 ≤ t ∧ t ≤ 10000) := by unfold Chd.ok; simp only [HN.out]
  rw [hok]
  rcases (show ¬ 1 ≤ (n : Int) ∨ (1 ≤ (n : Int) ∧ ¬ (n : Int) ≤ 255) ∨ (1 ≤ (n : Int) ∧ (n : Int) ≤ 255 ∧ ¬ 0 ≤ r) ∨ (1 ≤ (n : Int) ∧ (n : Int) ≤ 255 ∧ 0 ≤ r ∧ ¬ r ≤ 2) ∨ (1 ≤ (n : Int) ∧ (n : Int) ≤ 255 ∧ 0 ≤ r ∧ r ≤ 2 ∧ ¬ -1 ≤ t) ∨ (1 ≤ (n : Int) ∧ (n : Int) ≤ 255 ∧ 0 ≤ r ∧ r ≤ 2 ∧ -1 ≤ t ∧ ¬ t ≤ 10000) ∨ (1 ≤ (n : Int) ∧ (n : Int) ≤ 255 ∧ 0 ≤ r ∧ r ≤ 2 ∧ -1 ≤ t ∧ t ≤ 10000) by omega) with h1 | ⟨h1, h2⟩ | ⟨h1, h2, h3⟩ | ⟨h1, h2, h3, h4⟩ | ⟨h1, h2, h3, h4, h5⟩ | ⟨h1, h2, h3, h4, h5, h6⟩ | ⟨h1, h2, h3, h4, h5, h6⟩
  all_goals
    obtain ⟨r', HR⟩ : ∃ b, Hid (decide (1 ≤ (n : Int) ∧ (n : Int) ≤ 255 ∧ 0 ≤ r ∧ r ≤ 2 ∧ -1 ≤ t ∧ t ≤ 10000) = b) := ⟨_, rfl⟩
    rw [HR.out]
    have hn := HN.out
    go_enter Try.func38, Try.ntmps38
    go_wp2_with fail
    go_ret
    refine ⟨?_, rfl⟩
    exact congrArg (fun b => Ending.returned (.bool b)) (by rw [← HR.out]; symm; first | exact decide_eq_true (by omega) | exact decide_eq_false (by omega))

theorem findIdx_none {α : Type} {l : List α} {f : α → Bool} {i : Nat} (h : ∀ j x, j < i → l[j]? = some x → f x = false) (hi : l.length ≤ i) : l.findIdx? f = none := by
  rw [List.findIdx?_eq_none_iff]
  intro x hx
  obtain ⟨j, hj⟩ := List.getElem?_of_mem hx
  exact h j x (by have := (List.getElem?_eq_some_iff.1 hj).1; omega) hj
theorem findIdx_some {α : Type} {l : List α} {f : α → Bool} {i : Nat} {x : α} (h : ∀ j x, j < i → l[j]? = some x → f x = false) (hx : l[i]? = some x) (hf : f x = true) : l.findIdx? f = some i := by
  obtain ⟨hl, he⟩ := List.getElem?_eq_some_iff.1 hx
  rw [List.findIdx?_eq_some_iff_getElem]
  refine ⟨hl, by rw [he]; exact hf, fun j hj => ?_⟩
  have := h j (l[j]'(by omega)) hj (List.getElem?_eq_getElem (by omega))
  rw [this]; simp

section
variable {W w : World} {L : List HP} {h : Nat → Option Obj}
set_option maxRecDepth 100000 in
set_option maxHeartbeats 2000000 in
theorem sup_right (S : Sat W w (arch h :: L)) (s : Sp) (a : Option Addr) (c : Nat) (hr : RdIn h a (chVals s.ch)) (hsz : ∀ x ∈ s.ch, x.f.size ≤ 140737488351232) (hc : s.ch.length ≤ maxLen) :
    Calls Try.prog 14 #[specAgg s a c] w fun e w' => ∃ v h', e = .returned v ∧ Le h h' ∧ ErrOr h' v 20 s.fault ∧ Sat W w' (arch h' :: L) := by
  obtain ⟨st, m, t, ch⟩ := s
  simp only at hr hsz hc
  unfold maxLen at hc
  have S1 := hid (S.alloc' (.cells #[.int .i64 st, .int .i64 m, .int .i64 t, .slice a ch.length c] 24))
  have HRD := hid hr
  have HSZ := hid hsz
  obtain ⟨n, HN⟩ : ∃ n, Hid (ch.length = n) := ⟨_, rfl⟩
  obtain ⟨ft, HF⟩ : ∃ ft, Hid (Sp.fault ⟨st, m, t, ch⟩ = ft) := ⟨_, rfl⟩
  have hhd : Sp.head ⟨st, m, t, ch⟩ = decide (1 ≤ st ∧ st ≤ 3 ∧ 0 ≤ m ∧ m ≤ 1000 ∧ 1 ≤ t ∧ t ≤ 10000 ∧ 1 ≤ (n : Int) ∧ (n : Int) ≤ 32) := by unfold Sp.head; simp only [HN.out]
  have HHD := hid hhd
  unfold specAgg
  simp only
  rw [HN.out] at hc S1 ⊢
  rw [HF.out]
  clear hr hsz S hhd
  rcases (show ¬ 1 ≤ st ∨ (1 ≤ st ∧ ¬ st ≤ 3) ∨ (1 ≤ st ∧ st ≤ 3 ∧ ¬ 0 ≤ m) ∨ (1 ≤ st ∧ st ≤ 3 ∧ 0 ≤ m ∧ ¬ m ≤ 1000) ∨ (1 ≤ st ∧ st ≤ 3 ∧ 0 ≤ m ∧ m ≤ 1000 ∧ ¬ 1 ≤ t) ∨ (1 ≤ st ∧ st ≤ 3 ∧ 0 ≤ m ∧ m ≤ 1000 ∧ 1 ≤ t ∧ ¬ t ≤ 10000) ∨ (1 ≤ st ∧ st ≤ 3 ∧ 0 ≤ m ∧ m ≤ 1000 ∧ 1 ≤ t ∧ t ≤ 10000 ∧ ¬ 1 ≤ (n : Int)) ∨ (1 ≤ st ∧ st ≤ 3 ∧ 0 ≤ m ∧ m ≤ 1000 ∧ 1 ≤ t ∧ t ≤ 10000 ∧ 1 ≤ (n : Int) ∧ ¬ (n : Int) ≤ 32) ∨ (1 ≤ st ∧ st ≤ 3 ∧ 0 ≤ m ∧ m ≤ 1000 ∧ 1 ≤ t ∧ t ≤ 10000 ∧ 1 ≤ (n : Int) ∧ (n : Int) ≤ 32) by omega) with h1 | ⟨h1, h2⟩ | ⟨h1, h2, h3⟩ | ⟨h1, h2, h3, h4⟩ | ⟨h1, h2, h3, h4, h5⟩ | ⟨h1, h2, h3, h4, h5, h6⟩ | ⟨h1, h2, h3, h4, h5, h6, h7⟩ | ⟨h1, h2, h3, h4, h5, h6, h7, h8⟩ | ⟨h1, h2, h3, h4, h5, h6, h7, h8⟩
  iterate 8
    · have hfa : ft = some [(tSpec, 0)] := by
        rw [← HF.out]
        unfold Sp.fault
        rw [HHD.out, if_neg (by rw [decide_eq_true_eq]; omega)]
      subst hfa
      clear HF HHD
      go_enter Try.func14, Try.ntmps14
      go_wp2_with fail
      refine (at_some S1.out tSpec 0 (v := .iface 72 (.int .i64 20)) (fs := []) (k := 20) rfl).mono ?_
      rintro e w1 ⟨v', h', rfl, le, he, s1⟩
      have HLE := hid le
      have HE := hid he
      have S2 := hid s1
      clear le he s1 S1
      go_wp2_with fail
      go_ret
      exact ⟨_, _, rfl, HLE.out, HE.out, S2.out⟩
  · have hhd := HHD.out
    rw [decide_eq_true (by omega)] at hhd
    have HHD2 := hid hhd
    clear HHD hhd
    have hd : decide ((32 : Int) < n) = false := by simpa using h8
    go_enter Try.func14, Try.ntmps14
    go_wp2_with fail
    go_loopw [50] (fun iv wr => ∃ (i : Nat), i ≤ n ∧ iv = .int .i64 i ∧ Hid (∀ j x, j < i → ch[j]? = some x → (!x.ok) = false) ∧ Hid (Sat W wr (arch h :: L))) (fun iv _ => n - (intOf iv).toNat)
    case atStart => exact ⟨0, Nat.zero_le _, rfl, hid fun j x hj => by omega, S1⟩
    case round =>
      obtain ⟨i, hi, rfl, HP, S⟩ := hrel
      clear S1
      by_cases hlt : i < n
      · obtain ⟨⟨cf, cr, ct⟩, hx⟩ : ∃ x, ch[i]? = some x := ⟨_, List.getElem?_eq_getElem (by rw [HN.out]; exact hlt)⟩
        have hrd := S.out.archRd HRD.out
        obtain ⟨g, off, rfl, e0⟩ := hrd (i * 3 + 0) _ (by rw [chVals, flat_get lenChd hx (by omega)]; rfl)
        obtain ⟨_, _, hg, e1⟩ := hrd (i * 3 + 1) _ (by rw [chVals, flat_get lenChd hx (by omega)]; rfl)
        cases hg
        obtain ⟨_, _, hg, e2⟩ := hrd (i * 3 + 2) _ (by rw [chVals, flat_get lenChd hx (by omega)]; rfl)
        cases hg
        rw [Nat.add_zero] at e0
        rw [← Nat.add_assoc] at e1 e2
        have hsz := HSZ.out _ (List.mem_of_getElem? hx)
        have HX := hid hx
        have S2 := hid (S.out.alloc' (.cells #[.string cf, .int .i64 cr, .int .i64 ct] 39))
        clear hrd hx S
        go_wp2_with fail
        refine (right_any ⟨cf, cr, ct⟩ _ hsz).mono ?_
        rintro e w1 ⟨rfl, rfl⟩
        have S3 := hid (S2.out.alloc' (.cells #[.string cf, .int .i64 cr, .int .i64 ct] 39))
        clear S2
        cases hok : Chd.ok ⟨cf, cr, ct⟩ with
        | true =>
          go_wp2_with fail
          go_roundw
          case rel => exact ⟨i + 1, by omega, by go_num, hid fun j x hj hx' => by
              rcases Nat.lt_or_ge j i with q | q
              · exact HP.out j x q hx'
              · obtain rfl : j = i := by omega
                rw [HX.out] at hx'
                cases hx'
                rw [hok]; rfl, S3⟩
          case measure => simp [intOf]; omega
        | false =>
          have hfa : ft = some [(tSpec, 0), (tChild, (i : Int))] := by
            rw [← HF.out]
            unfold Sp.fault
            rw [HHD2.out]
            simp only [findIdx_some HP.out HX.out (by rw [hok]; rfl), if_true]
          have HFA := hid hfa
          clear hfa
          go_wp2_with fail
          refine (at_some S3.out tChild i (v := .iface 72 (.int .i64 20)) (fs := []) (k := 20) rfl).mono ?_
          rintro e w1 ⟨v', h', rfl, le, he, s1⟩
          have HLE := hid le
          have HE := hid he
          have S4 := hid s1
          clear le he s1 S3
          go_wp2_with fail
          refine (at_some S4.out tSpec 0 HE.out).mono ?_
          rintro e w1 ⟨v2, h2', rfl, le, he, s1⟩
          have HLE2 := hid (HLE.out.trans le)
          have HE2 := hid he
          have S5 := hid s1
          clear le he s1 S4
          go_wp2_with fail
          go_ret
          rw [HFA.out]
          exact ⟨_, _, rfl, HLE2.out, HE2.out, S5.out⟩
      · obtain rfl : i = n := by omega
        have hfa : ft = none := by
          rw [← HF.out]
          unfold Sp.fault
          rw [HHD2.out]
          simp only [findIdx_none HP.out (by rw [HN.out]; exact Nat.le_refl _), if_true]
        have HFA := hid hfa
        clear hfa
        go_wp2_with fail
        go_ret
        rw [HFA.out]
        exact ⟨_, _, rfl, Le.refl _, rfl, S.out⟩
end
end Go.Proofs.Ytfhjoidciaidlaa
