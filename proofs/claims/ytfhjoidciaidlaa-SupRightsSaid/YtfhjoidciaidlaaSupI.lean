/-
  THE SUPERVISOR: Down in one, awake.
-/
import Derived.Test.YtfhjoidciaidlaaSupG
import Derived.Test.YtfhjoidciaidlaaSupH
import Derived.Test.YtfhjoidciaidlaaSupN
import Derived.Test.YtfhjoidciaidlaaSame
import Derived.Outline
namespace Go.Proofs.Ytfhjoidciaidlaa
open Go.RowKit
set_option maxHeartbeats 1000000

theorem fit_fall {s : Su} (F : s.fit) (j : Nat) : Su.fit { s with kids := (s.kids.modify j Kid.fall).modify j Kid.leave } :=
  ⟨by simpa using F.big, F.th, fun i hi => by simpa using F.rest i hi, fun i hi => by simpa using F.rl i hi, F.len⟩
section
variable {W w : World} {L : List HP} {h : Nat → Option Obj} {p : Nat} {s : Su}
theorem down_sup (S : Sat W w (sup p h s :: arch h :: L)) (i : Int) (normal : Bool) (now : Int) (hk : s.kids.length ≤ 10000) (hn : s.notes.length ≤ 17592186043904) (hF : s.state = 2 → s.fit) :
    Calls Try.prog 19 #[.pointer (some ⟨p, 0, none⟩), .int .i64 i, .bool normal, .int .i64 now] w fun e w' => ∃ a n c h', e = .returned (.slice a n c) ∧ n = (s.down i normal now).2.length ∧ Le h h' ∧ Sat W w' (row 46 2 a n c (acVals (s.down i normal now).2) :: sup p h' (s.down i normal now).1 :: arch h' :: L) := by
  by_cases hno : s.state = 3 ∨ i < 0 ∨ s.kids.length ≤ i ∨ upAt s.kids i.toNat = false
  · have hd : s.down i normal now = (s, []) := by unfold Su.down; rw [if_pos hno]
    rw [hd]
    refine (down_no S i normal now hk hno).mono ?_
    rintro e w' ⟨h', rfl, le, s'⟩
    exact ⟨_, _, _, h', rfl, rfl, le, s'.rowNil⟩
  · have h3 : s.state ≠ 3 := fun q => hno (.inl q)
    obtain ⟨j, rfl⟩ : ∃ j : Nat, i = j := ⟨i.toNat, by have : ¬ i < 0 := fun q => hno (.inr (.inl q)); omega⟩
    have hj : j < s.kids.length := by
      have : ¬ (s.kids.length : Int) ≤ j := fun q => hno (.inr (.inr (.inl q)))
      omega
    have hx : s.kids[j]? = some s.kids[j] := List.getElem?_eq_getElem hj
    have hup : s.kids[j].up = true := by
      have : ¬ upAt s.kids (j : Int).toNat = false := fun q => hno (.inr (.inr (.inr q)))
      simp only [Int.toNat_natCast, upAt, hx, Bool.not_eq_false] at this
      exact this
    by_cases h2 : s.state = 2
    · exact down_yes S j _ normal now hk h3 hx hup hn (fun q => absurd h2 q) fun q => fit_fall (hF q) j
    · by_cases hr2 : s.kids[j].c.r = 2
      · exact down_yes S j _ normal now hk h3 hx hup hn (fun _ q => absurd hr2 q) fun q => absurd q h2
      · by_cases hr1 : s.kids[j].c.r = 1 ∧ normal = true
        · exact down_yes S j _ normal now hk h3 hx hup hn (fun _ _ => hr1) fun q => absurd q h2
        · exact down_over S j _ normal now hk h3 hx hup hn h2 hr2 hr1

theorem sameActs_yes (w : World) (a b : Option Addr) (n m c d : Nat) (xs : List Ac) (hn : n = xs.length) (hm : m = xs.length) (ha : Rd w a (acVals xs)) (hb : Rd w b (acVals xs)) (hn9 : n ≤ 9223372036854775807) :
    Calls Try.prog 20 #[.slice a n c, .slice b m d] w fun e w' => e = .returned (.bool true) ∧ ∃ k, w' = w.drewN k := by
  have := sameActs_any w a b n m c d xs xs hn hm ha hb hn9 (by omega)
  rw [decide_eq_true rfl] at this
  exact this
def aw0 : Su := Su.new ⟨2, 1, 10, [⟨tF, 0, 5⟩, ⟨tF, 0, 5⟩]⟩
def aw1 : Su := aw0.start 0 2
def aw2 : Su × List Ac := aw1.down 0 false 5
def aw3 : Su × List Ac := aw2.1.down 1 false 6
theorem aw_a : startActs aw0.kids 0 aw0.kids.length = [⟨1, 0⟩, ⟨1, 1⟩] := by rfl
theorem aw_b : aw2.2 = [⟨2, 1⟩] := by rfl
theorem aw_c : aw3.2 = [⟨1, 0⟩, ⟨1, 1⟩] := by rfl
theorem aw_f : Sp.fault ⟨2, 1, 10, [⟨tF, 0, 5⟩, ⟨tF, 0, 5⟩]⟩ = none := by rfl
theorem aw_th : aw2.1.th = .all := by rfl
theorem aw_rl : aw2.1.rl = [] := by rfl
theorem aw_fit : aw2.1.fit := {
  big := by decide
  th := by rw [aw_th]; simp
  rest := fun i hi => by rw [aw_th] at hi; cases hi
  rl := fun i hi => by rw [aw_rl] at hi; cases hi
  len := by rw [aw_rl]; decide }
theorem aw_1 : aw0.start 0 aw0.kids.length = aw1 := by rfl
theorem store_row {e size n c : Nat} {a : Option Addr} {xs : List Value} (s : Sat W w (row e size a n c xs :: arch h :: L)) : ∃ h', Le h h' ∧ RdIn h' a xs ∧ Sat W w (arch h' :: L) := by
  have hl := s.rowLen
  rcases s.rowOpen with ⟨rfl, rfl, rfl, rfl, s'⟩ | ⟨g, off, cur, rfl, s', h4, h5⟩
  · exact ⟨h, Le.refl _, fun j u hj => by simp at hj, s'⟩
  · obtain ⟨h', le, hb, s2⟩ := s'.store
    refine ⟨h', le, fun j u hj => ⟨g, off, rfl, ?_⟩, s2⟩
    unfold cellIn
    rw [hb]
    simp only
    rw [← h5] at hj
    have hjl : j < n * size := by
      rcases Nat.lt_or_ge j (n * size) with q | q
      · exact q
      · rw [List.getElem?_eq_none (by simp; omega)] at hj; cases hj
    rw [List.getElem?_take_of_lt hjl, List.getElem?_drop] at hj
    simpa using hj
/-- a block that was just made, as a list in the archive -/
theorem store_lit {cells : Array Value} {t : TypeId} {b : Nat} (s : Sat W w (blk b (.cells cells t (0, 0)) :: arch h :: L)) : ∃ h', Le h h' ∧ RdIn h' (some ⟨b, 0, none⟩) cells.toList ∧ Sat W w (arch h' :: L) := by
  obtain ⟨h', le, hb, s2⟩ := s.store
  refine ⟨h', le, fun j u hj => ⟨b, 0, rfl, ?_⟩, s2⟩
  unfold cellIn
  rw [hb]
  simpa using hj
set_option maxRecDepth 100000 in
theorem awake_any (S : Sat W w (arch h :: L)) : Calls Try.prog 15 #[] w fun e w' => ∃ h', e = .returned (.bool true) ∧ Le h h' ∧ Sat W w' (arch h' :: L) := by
  have S0 := hid S
  clear S
  go_enter Try.func15, Try.ntmps15
  go_wp2_with fail
  refine (child_any 0 w).mono ?_
  rintro e w1 ⟨rfl, o, rfl⟩
  go_wp2_with fail
  refine (child_any 0 _).mono ?_
  rintro e w1 ⟨rfl, o2, rfl⟩
  obtain ⟨h1, le1, r1, s1⟩ := store_lit ((((S0.out.alloc' o).alloc' o2).allocAt (k := w.heap.size + 1 + 1) (.cells #[.string tF, .int .i64 0, .int .i64 5, .string tF, .int .i64 0, .int .i64 5] 39) (by simp)))
  have HL1 := hid le1
  have HR1 := hid r1
  have S1 := hid s1
  clear le1 r1 s1 S0
  go_wp2_with fail
  refine (new_ok S1.out ⟨2, 1, 10, [⟨tF, 0, 5⟩, ⟨tF, 0, 5⟩]⟩ _ 2 HR1.out (by intro x hx; simp only [List.mem_cons, List.not_mem_nil, or_false, or_self] at hx; subst hx; decide) (by decide) aw_f).mono ?_
  rintro e w2 ⟨p, h2, rfl, le, s2⟩
  have HL2 := hid (HL1.out.trans le)
  have S2 : Hid (Sat W w2 (sup p h2 aw0 :: arch h2 :: L)) := hid s2
  clear le s2 S1 HL1
  go_wp2_with fail
  refine (begin_sup S2.out rfl (by decide)).mono ?_
  rintro e w3 ⟨a3, n3, c3, rfl, hn, s3⟩
  rw [aw_a] at hn
  simp only [List.length_cons, List.length_nil] at hn
  subst hn
  rw [aw_1] at s3
  have S3 : Hid (Sat W w3 (sup p h2 aw1 :: arch h2 :: L)) := hid s3.drop
  clear s3 S2
  go_wp2_with fail
  refine (down_sup S3.out 0 false 5 (by decide) (by decide) (by intro q; exact absurd q (by decide))).mono ?_
  rintro e w4 ⟨a4, n4, c4, h4, rfl, hn, le, s4⟩
  change n4 = aw2.2.length at hn
  rw [aw_b] at hn
  simp only [List.length_cons, List.length_nil] at hn
  subst hn
  have S4 : Hid (Sat W w4 (row 46 2 a4 1 c4 (acVals [⟨2, 1⟩]) :: sup p h4 aw2.1 :: arch h4 :: L)) := hid (by rw [← aw_b]; exact s4)
  have HL4 := hid (HL2.out.trans le)
  clear s4 S3 le HL2
  go_wp2_with fail
  refine (down_sup S4.out.unrot3 1 false 6 (by decide) (by decide) (fun _ => aw_fit)).mono ?_
  rintro e w5 ⟨a5, n5, c5, h5, rfl, hn, le, s5⟩
  change n5 = aw3.2.length at hn
  rw [aw_c] at hn
  simp only [List.length_cons, List.length_nil] at hn
  subst hn
  have S5 : Hid (Sat W w5 (row 46 2 a5 2 c5 (acVals [⟨1, 0⟩, ⟨1, 1⟩]) :: sup p h5 aw3.1 :: arch h5 :: row 46 2 a4 1 c4 (acVals [⟨2, 1⟩]) :: L)) := hid (by rw [← aw_c]; exact s5)
  have HL5 := hid (HL4.out.trans le)
  clear s5 S4 le HL4
  obtain ⟨g, off, hg, _⟩ := S5.out.rowRd 0 _ rfl
  subst hg
  go_wp2_with fail
  have SA := hid (S5.out.alloc' (.cells #[.int .i64 2, .int .i64 1] 46))
  clear S5
  refine (sameActs_yes _ _ _ 1 1 _ _ [⟨2, 1⟩] rfl rfl (SA.out.rot4.rowRd) (newsRd w5 [.int .i64 2, .int .i64 1] _) (by omega)).mono ?_
  rintro e w6 ⟨rfl, hw⟩
  have S6 := hid (SA.out.quiet hw)
  obtain ⟨_, _, hg, e0⟩ := S6.out.rowRd 0 _ rfl
  cases hg
  obtain ⟨_, _, hg, e1⟩ := S6.out.rowRd 1 _ rfl
  cases hg
  rw [Nat.add_zero] at e0
  clear hw SA
  go_wp2_with fail
  go_ret
  exact ⟨_, rfl, HL5.out, S6.out.drop.drop.swap.drop.imp fun _ q => q⟩
end
end Go.Proofs.Ytfhjoidciaidlaa
