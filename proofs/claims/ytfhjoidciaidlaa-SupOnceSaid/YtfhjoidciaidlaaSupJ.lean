/-
  THE SUPERVISOR: its contracts under what the model answers; the law SupTimes.
-/
import Derived.Test.YtfhjoidciaidlaaSupI
namespace Go.Proofs.Ytfhjoidciaidlaa
open Go.RowKit
set_option maxHeartbeats 1000000

section
variable {W w : World} {L : List HP} {h : Nat → Option Obj} {p : Nat} {s s' : Su} {acts : List Ac}
theorem down_eq (S : Sat W w (sup p h s :: arch h :: L)) (i : Int) (normal : Bool) (now : Int) (E : s.down i normal now = (s', acts)) (hk : s.kids.length ≤ 10000) (hn : s.notes.length ≤ 17592186043904) (hF : s.state = 2 → s.fit) :
    Calls Try.prog 19 #[.pointer (some ⟨p, 0, none⟩), .int .i64 i, .bool normal, .int .i64 now] w fun e w' => ∃ a c h', e = .returned (.slice a acts.length c) ∧ Le h h' ∧ Sat W w' (row 46 2 a acts.length c (acVals acts) :: sup p h' s' :: arch h' :: L) := by
  refine (down_sup S i normal now hk hn hF).mono ?_
  rintro e w' ⟨a, n, c, h', rfl, hn, le, s1⟩
  rw [E] at hn s1
  subst hn
  exact ⟨a, c, h', rfl, le, s1⟩
theorem tick_eq (S : Sat W w (sup p h s :: L)) (now : Int) (E : s.tick now = (s', acts)) (hst : s.state = 2 → s.killed = false → ∃ (i : Nat) (k : Kid), s.stop = i ∧ s.kids[i]? = some k ∧ -1 ≤ k.c.t ∧ k.c.t ≤ 10000) (hk : s.kids.length ≤ 10000) :
    Calls Try.prog 24 #[.pointer (some ⟨p, 0, none⟩), .int .i64 now] w fun e w' => ∃ a c, e = .returned (.slice a acts.length c) ∧ Sat W w' (row 46 2 a acts.length c (acVals acts) :: sup p h s' :: L) := by
  refine (tick_sup S now hst hk).mono ?_
  rintro e w' ⟨a, n, c, rfl, hn, s1⟩
  rw [E] at hn s1
  subst hn
  exact ⟨a, c, rfl, s1⟩
theorem stop_eq (S : Sat W w (sup p h s :: arch h :: L)) (now : Int) (E : s.stopAll now = (s', acts)) (hk : s.kids.length ≤ 10000) :
    Calls Try.prog 26 #[.pointer (some ⟨p, 0, none⟩), .int .i64 now] w fun e w' => ∃ a c, e = .returned (.slice a acts.length c) ∧ Sat W w' (row 46 2 a acts.length c (acVals acts) :: sup p h s' :: arch h :: L) := by
  refine (stop_sup S now hk).mono ?_
  rintro e w' ⟨a, n, c, rfl, hn, s1⟩
  rw [E] at hn s1
  subst hn
  exact ⟨a, c, rfl, s1⟩
theorem begin_eq (S : Sat W w (sup p h s :: L)) (h0 : s.state = 0) (E : (s.start 0 s.kids.length, startActs s.kids 0 s.kids.length) = (s', acts)) (hk : s.kids.length ≤ 10000) :
    Calls Try.prog 18 #[.pointer (some ⟨p, 0, none⟩)] w fun e w' => ∃ a c, e = .returned (.slice a acts.length c) ∧ Sat W w' (row 46 2 a acts.length c (acVals acts) :: sup p h s' :: L) := by
  refine (begin_sup S h0 hk).mono ?_
  rintro e w' ⟨a, n, c, rfl, hn, s1⟩
  obtain ⟨E1, E2⟩ := Prod.mk.inj E
  rw [E2] at hn s1
  rw [E1] at s1
  subst hn
  exact ⟨a, c, rfl, s1⟩
end

/-! ### SupTimes -/
def tG : ByteArray := ⟨#[103]⟩
def tmSp (t : Int) : Sp := ⟨2, 5, 10, [⟨tF, 0, 5⟩, ⟨tG, 0, t⟩]⟩
def tm1 (t : Int) : Su := ⟨2, 5, 10, [⟨⟨tF, 0, 5⟩, true, false⟩, ⟨⟨tG, 0, t⟩, true, false⟩], 1, [], [], -1, 0, false, .no⟩
def tm2 (t : Int) (k : Bool) : Su := ⟨2, 5, 10, [⟨⟨tF, 0, 5⟩, false, false⟩, ⟨⟨tG, 0, t⟩, true, false⟩], 2, [100], [], 1, 100, k, .all⟩
def tm3 (t : Int) : Su := ⟨2, 5, 10, [⟨⟨tF, 0, 5⟩, true, false⟩, ⟨⟨tG, 0, t⟩, true, false⟩], 1, [100], [], -1, 100, true, .all⟩
theorem tm_ok {t : Int} (h0 : -1 ≤ t) (h1 : t ≤ 100) : (tmSp t).fault = none := by
  have hh : (tmSp t).head = true := by rfl
  have ha : Chd.ok ⟨tF, 0, 5⟩ = true := by rfl
  have hb : Chd.ok ⟨tG, 0, t⟩ = true := by
    exact decide_eq_true (show (1 : Int) ≤ (tG.size : Int) ∧ (tG.size : Int) ≤ 255 ∧ (0 : Int) ≤ 0 ∧ (0 : Int) ≤ 2 ∧ -1 ≤ t ∧ t ≤ 10000 from ⟨by decide, by decide, by omega, by omega, h0, by omega⟩)
  unfold Sp.fault
  rw [if_pos hh]
  simp [tmSp, List.findIdx?_cons, ha, hb]
theorem tm_begin (t : Int) : ((Su.new (tmSp t)).start 0 (Su.new (tmSp t)).kids.length, startActs (Su.new (tmSp t)).kids 0 (Su.new (tmSp t)).kids.length) = (tm1 t, [⟨1, 0⟩, ⟨1, 1⟩]) := by rfl
theorem tm_down (t : Int) : (tm1 t).down 0 false 100 = (tm2 t (decide (t < 0)), [⟨if t < 0 then 3 else 2, 1⟩]) := by rfl
theorem tm_tick (t : Int) (now : Int) : (tm2 t true).tick now = (tm2 t true, []) := by simp [Su.tick, tm2]
theorem inTime_le {a b n : Int} (h0 : b ≤ a) (h1 : 0 ≤ b) (h2 : a ≤ 4611686018427387904) (h3 : 0 ≤ n) (h4 : n ≤ 4611686018427387904) : inTime a b n = decide (a - b < n) := by
  unfold inTime
  have e1 : IntKind.u64.wrap a = a := by rw [IntKind.wrap_u64]; omega
  have e2 : IntKind.u64.wrap b = b := by rw [IntKind.wrap_u64]; omega
  have e3 : IntKind.u64.wrap (a - b) = a - b := by rw [IntKind.wrap_u64]; omega
  have e4 : IntKind.u64.wrap n = n := by rw [IntKind.wrap_u64]; omega
  rw [e1, e2, e3, e4, decide_eq_false (by omega : ¬ a < b), Bool.false_or]
theorem tm_tick_no {t k : Int} (h0 : 0 ≤ t) (h1 : t ≤ 100) (h2 : 0 ≤ k) (h3 : k ≤ t) : (tm2 t false).tick (100 + k) = (tm2 t false, []) := by
  have : inTime (100 + k) 100 (t + 1) = true := by rw [inTime_le (by omega) (by omega) (by omega) (by omega) (by omega)]; exact decide_eq_true (by omega)
  unfold Su.tick
  rw [if_pos]
  exact .inr (.inr this)
theorem tm_tick_yes {t now : Int} (h0 : 0 ≤ t) (h1 : t ≤ 100) (h2 : 101 + t ≤ now) (h3 : now ≤ 1000) : (tm2 t false).tick now = (tm2 t true, [⟨3, 1⟩]) := by
  have : inTime now 100 (t + 1) = false := by rw [inTime_le (by omega) (by omega) (by omega) (by omega) (by omega)]; exact decide_eq_false (by omega)
  unfold Su.tick
  rw [if_neg]
  · rfl
  · rintro (q | q | q)
    · exact q rfl
    · exact absurd q (by simp [tm2])
    · rw [show inTime now (tm2 t false).since (timeAt (tm2 t false).kids (tm2 t false).stop.toNat + 1) = inTime now 100 (t + 1) from rfl, this] at q
      cases q
theorem tm_down2 (t : Int) : (tm2 t true).down 1 false 300 = (tm3 t, [⟨1, 0⟩, ⟨1, 1⟩]) := by rfl
theorem tm_fit (t : Int) (k : Bool) : (tm2 t k).fit := {
  big := by show 2 ≤ 10000; omega
  th := by simp [tm2]
  rest := fun i hi => by cases hi
  rl := fun i hi => by cases hi
  len := by show 0 ≤ _; omega }
theorem tm_st (t : Int) (k : Bool) (h0 : -1 ≤ t) (h1 : t ≤ 100) : (tm2 t k).state = 2 → (tm2 t k).killed = false → ∃ (i : Nat) (kd : Kid), (tm2 t k).stop = i ∧ (tm2 t k).kids[i]? = some kd ∧ -1 ≤ kd.c.t ∧ kd.c.t ≤ 10000 := fun _ _ =>
  ⟨1, _, rfl, rfl, h0, by show t ≤ 10000; omega⟩

set_option maxRecDepth 100000 in
theorem times_walk (a0 a1 : Int) (W : World) : Calls Try.prog 6 #[.int .i64 a0, .int .i64 a1] W fun e w' => e = .returned (.bool true) ∧ Below W.heap.size W w' := by
  have S0 := hid (Sat.startArch W)
  have hp0 : 0 ≤ a0 % 50 := Int.emod_nonneg _ (by omega)
  have hp1 : a0 % 50 < 50 := Int.emod_lt_of_pos _ (by omega)
  have hp2 : 0 ≤ a1 % 80 := Int.emod_nonneg _ (by omega)
  have hp3 : a1 % 80 < 80 := Int.emod_lt_of_pos _ (by omega)
  obtain ⟨t1, ht1⟩ : ∃ t1, a0 % 50 = t1 := ⟨_, rfl⟩
  obtain ⟨k, hk⟩ : ∃ k, a1 % 80 = k := ⟨_, rfl⟩
  rw [ht1] at hp0 hp1
  rw [hk] at hp2 hp3
  have HT1 := hid ht1
  have HK := hid hk
  clear ht1 hk
  go_enter Try.func6, Try.ntmps6
  go_wp2_with fail
  refine (place_any a0 50 W (by omega) (by omega)).mono ?_
  rintro e w1 ⟨rfl, rfl⟩
  rw [HT1.out]
  obtain ⟨t, rfl⟩ : ∃ t, t1 = t + 1 := ⟨t1 - 1, by omega⟩
  go_wp2_with fail
  refine (child_any 0 W).mono ?_
  rintro e w1 ⟨rfl, o, rfl⟩
  obtain ⟨h1, le1, r1, s1⟩ := store_lit (((S0.out.alloc' o).allocAt (k := W.heap.size + 1) (.cells #[.string tF, .int .i64 0, .int .i64 5, .string tG, .int .i64 0, .int .i64 t] 39) (by simp)))
  have HL1 := hid le1
  have HR1 := hid r1
  have S1 := hid s1
  clear le1 r1 s1 S0
  go_wp2_with fail
  refine (new_ok S1.out (tmSp t) _ 2 HR1.out (by intro x hx; simp only [tmSp, List.mem_cons, List.not_mem_nil, or_false] at hx; rcases hx with rfl | rfl <;> simp [tF, tG, ByteArray.size]) (by show 2 ≤ 32; omega) (tm_ok (by omega) (by omega))).mono ?_
  rintro e w2 ⟨p, h2, rfl, le, s2⟩
  have HL2 := hid (HL1.out.trans le)
  have S2 := hid s2
  clear le s2 S1 HL1
  go_wp2_with fail
  refine (begin_eq S2.out rfl (tm_begin t) (by show 2 ≤ 10000; omega)).mono ?_
  rintro e w3 ⟨a3, c3, rfl, s3⟩
  have S3 := hid s3.drop
  clear s3 S2
  go_wp2_with fail
  refine (down_eq S3.out 0 false 100 (tm_down t) (by show 2 ≤ 10000; omega) (by show 0 ≤ _; omega) (by intro q; exact absurd (show (1 : Int) = 2 from q) (by decide))).mono ?_
  rintro e w4 ⟨a4, c4, h4, rfl, le, s4⟩
  have HL4 := hid (HL2.out.trans le)
  have S4 := hid s4
  clear s4 S3 le HL2
  go_wp2_with fail
  refine (place_any a1 80 w4 (by omega) (by omega)).mono ?_
  rintro e w1 ⟨rfl, rfl⟩
  rw [HK.out]
  by_cases hneg : t < 0
  · rw [decide_eq_true hneg, if_pos hneg] at S4
    go_wp2_with fail
    refine (tick_eq S4.out.swap (100 + k) (tm_tick t _) (tm_st t true (by omega) (by omega)) (by show 2 ≤ 10000; omega)).mono ?_
    rintro e w5 ⟨a5, c5, rfl, s5⟩
    have S5 := hid s5
    clear s5 S4
    go_wp2_with fail
    have SA := hid (S5.out.alloc' (.cells #[.int .i64 3, .int .i64 1] 46))
    clear S5
    refine (sameActs_yes _ _ _ 1 1 _ _ [⟨3, 1⟩] rfl rfl (SA.out.rot3.rowRd) (newsRd w5 [.int .i64 3, .int .i64 1] _) (by omega)).mono ?_
    rintro e w6 ⟨rfl, hw⟩
    have S6 := hid (SA.out.quiet hw)
    clear hw SA
    go_wp2_with fail
    refine (awake_any S6.out.rot4).mono ?_
    rintro e w7 ⟨h7, rfl, le, s7⟩
    have HL7 := hid (HL4.out.trans le)
    have S7 := hid s7
    clear s7 le S6 HL4
    go_wp2_with fail
    go_ret
    exact ⟨rfl, S7.out.archBelow HL7.out⟩
  · rw [decide_eq_false hneg, if_neg hneg] at S4
    have hnn : 0 ≤ t := by omega
    by_cases hkt : k ≤ t
    · go_wp2_with fail
      refine (tick_eq S4.out.swap (100 + k) (tm_tick_no hnn (by omega) (by omega) hkt) (tm_st t false (by omega) (by omega)) (by show 2 ≤ 10000; omega)).mono ?_
      rintro e w5 ⟨a5, c5, rfl, s5⟩
      have S5 := hid s5
      clear s5 S4
      go_wp2_with fail
      have SA := hid (S5.out.alloc' (.cells #[.int .i64 2, .int .i64 1] 46))
      clear S5
      refine (sameActs_yes _ _ _ 1 1 _ _ [⟨2, 1⟩] rfl rfl (SA.out.rot3.rowRd) (newsRd w5 [.int .i64 2, .int .i64 1] _) (by omega)).mono ?_
      rintro e w6 ⟨rfl, hw⟩
      have S6 := hid (SA.out.quiet hw)
      clear hw SA
      go_wp2_with fail
      refine (tick_eq S6.out.swap (101 + t) (tm_tick_yes hnn (by omega) (by omega) (by omega)) (tm_st t false (by omega) (by omega)) (by show 2 ≤ 10000; omega)).mono ?_
      rintro e w7 ⟨a7, c7, rfl, s7⟩
      have S7 := hid s7
      clear s7 S6
      go_wp2_with fail
      have SB := hid (S7.out.alloc' (.cells #[.int .i64 3, .int .i64 1] 46))
      clear S7
      refine (sameActs_yes _ _ _ 1 1 _ _ [⟨3, 1⟩] rfl rfl (SB.out.rowRd) (newsRd w7 [.int .i64 3, .int .i64 1] _) (by omega)).mono ?_
      rintro e w8 ⟨rfl, hw⟩
      have S8 := hid (SB.out.quiet hw)
      clear hw SB
      go_wp2_with fail
      refine (awake_any S8.out.rot5).mono ?_
      rintro e w9 ⟨h9, rfl, le, s9⟩
      have HL9 := hid (HL4.out.trans le)
      have S9 := hid s9
      clear s9 le S8 HL4
      go_wp2_with fail
      go_ret
      exact ⟨rfl, S9.out.archBelow HL9.out⟩
    · go_wp2_with fail
      refine (tick_eq S4.out.swap (100 + k) (tm_tick_yes hnn (by omega) (by omega) (by omega)) (tm_st t false (by omega) (by omega)) (by show 2 ≤ 10000; omega)).mono ?_
      rintro e w5 ⟨a5, c5, rfl, s5⟩
      have S5 := hid s5
      clear s5 S4
      go_wp2_with fail
      have SA := hid (S5.out.alloc' (.cells #[.int .i64 2, .int .i64 1] 46))
      clear S5
      refine (sameActs_yes _ _ _ 1 1 _ _ [⟨2, 1⟩] rfl rfl (SA.out.rot3.rowRd) (newsRd w5 [.int .i64 2, .int .i64 1] _) (by omega)).mono ?_
      rintro e w6 ⟨rfl, hw⟩
      have S6 := hid (SA.out.quiet hw)
      clear hw SA
      go_wp2_with fail
      have SB := hid (S6.out.alloc' (.cells #[.int .i64 3, .int .i64 1] 46))
      clear S6
      refine (sameActs_yes _ _ _ 1 1 _ _ [⟨3, 1⟩] rfl rfl (SB.out.rowRd) (newsRd w6 [.int .i64 3, .int .i64 1] _) (by omega)).mono ?_
      rintro e w8 ⟨rfl, hw⟩
      have S8 := hid (SB.out.quiet hw)
      clear hw SB
      go_wp2_with fail
      refine (tick_eq S8.out.swap (200 + k) (tm_tick t _) (tm_st t true (by omega) (by omega)) (by show 2 ≤ 10000; omega)).mono ?_
      rintro e w7 ⟨a7, c7, rfl, s7⟩
      have S7 := hid s7
      clear s7 S8
      go_wp2_with fail
      refine (down_eq (S7.out.drop.rot4.swap) 1 false 300 (tm_down2 t) (by show 2 ≤ 10000; omega) (by show 1 ≤ _; omega) (fun _ => tm_fit t true)).mono ?_
      rintro e w9 ⟨a9, c9, h9, rfl, le, s9⟩
      have HL9 := hid (HL4.out.trans le)
      have S9 := hid s9
      clear s9 S7 le HL4
      go_wp2_with fail
      refine (awake_any S9.out.rot3).mono ?_
      rintro e w10 ⟨h10, rfl, le, s10⟩
      have HL10 := hid (HL9.out.trans le)
      have S10 := hid s10
      clear s10 le S9 HL9
      go_wp2_with fail
      go_ret
      exact ⟨rfl, S10.out.archBelow HL10.out⟩
end Go.Proofs.Ytfhjoidciaidlaa
