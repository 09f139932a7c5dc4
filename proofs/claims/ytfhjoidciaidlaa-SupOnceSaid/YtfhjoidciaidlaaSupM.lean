/-
  The law SupOnce.
-/
import Derived.Test.YtfhjoidciaidlaaSupK
import Derived.Test.YtfhjoidciaidlaaMake
import Derived.Test.YtfhjoidciaidlaaSupP
import Derived.Deep.DeepCutAuto
import Derived.Deep.CutBlock
import Derived.Outline
namespace Go.Proofs.Ytfhjoidciaidlaa
open Go.RowKit
set_option maxHeartbeats 1000000

def onC (r : Int) : Chd := ⟨tF, r, 5⟩
def onKid (r : Int) (u : Bool) : Kid := ⟨onC r, u, decide (r = 2) && !u⟩
def onS (rs : List Int) (U : List Bool) (notes : List Int) : Su := ⟨1, 1000, 1, List.zipWith onKid rs U, 1, notes, [], -1, 0, false, .no⟩
def onSp (rs : List Int) : Sp := ⟨1, 1000, 1, rs.map onC⟩
theorem on_get {rs : List Int} {U : List Bool} {c : Nat} {r : Int} {u : Bool} (hr : rs[c]? = some r) (hu : U[c]? = some u) : (List.zipWith onKid rs U)[c]? = some (onKid r u) := by
  rw [List.getElem?_zipWith, hr, hu]
theorem on_modify {rs : List Int} {U : List Bool} {c : Nat} {r : Int} {u u' : Bool} (hr : rs[c]? = some r) (hu : U[c]? = some u) {f : Kid → Kid} (hf : f (onKid r u) = onKid r u') : (List.zipWith onKid rs U).modify c f = List.zipWith onKid rs (U.set c u') := by
  refine List.ext_getElem? fun i => ?_
  rw [List.getElem?_modify, List.getElem?_zipWith, List.getElem?_zipWith, List.getElem?_set]
  by_cases q : c = i
  · subst q
    have hl := (List.getElem?_eq_some_iff.1 hu).1
    rw [hr, hu]
    simp [hl, hf]
  · rw [if_neg q]
    cases rs[i]? <;> cases U[i]? <;> simp [q]
theorem on_kidset {ks : List Kid} {c : Nat} {k : Kid} (h : ks[c]? = some k) (f : Kid → Kid) (hf : f k = k) : ks.modify c f = ks := by
  refine List.ext_getElem? fun i => ?_
  rw [List.getElem?_modify]
  by_cases q : c = i
  · subst q; rw [h]; simp [hf]
  · simp [q]
theorem recent_one {now : Int} {l : List Int} (h0 : 0 ≤ now) (h1 : now ≤ 4611686018427387904) (hl : ∀ x ∈ l, 0 ≤ x ∧ x < now) : recent now 1 (l ++ [now]) = 1 := by
  rw [recent_snoc]
  have e1 : recent now 1 l = 0 := by
    unfold recent
    rw [List.length_eq_zero_iff, List.filter_eq_nil_iff]
    intro x hx
    have := hl x hx
    rw [inTime_le (by omega) (by omega) (by omega) (by omega) (by omega), decide_eq_true_eq]
    omega
  have e2 : inTime now now 1 = true := by rw [inTime_le (by omega) (by omega) (by omega) (by omega) (by omega)]; exact decide_eq_true (by omega)
  rw [e1, e2]; rfl
theorem on_down {rs : List Int} {U : List Bool} {notes : List Int} {c : Nat} {r : Int} {u nrm : Bool} {now : Int} (hr : rs[c]? = some r) (hu : U[c]? = some u) (h0 : 0 ≤ now) (h1 : now ≤ 4611686018427387904) (hl : ∀ x ∈ notes, 0 ≤ x ∧ x < now) :
    (onS rs U notes).down c nrm now = if u = false then (onS rs U notes, []) else if r = 2 ∨ (r = 1 ∧ nrm = true) then (onS rs (U.set c false) notes, []) else (onS rs U (notes ++ [now]), [⟨1, c⟩]) := by
  have hk := on_get hr hu
  have hx : (onS rs U notes).kids[c]? = some (onKid r u) := hk
  cases u with
  | false => rw [if_pos rfl]; exact down_dead (.inr (.inr (.inr (by rw [Int.toNat_natCast, up_of hx]; rfl))))
  | true =>
    rw [if_neg (by decide)]
    by_cases q2 : r = 2
    · rw [if_pos (.inl q2), down_temp (by simp [onS]) (by simp [onS]) hx rfl q2]
      subst q2
      unfold onS
      simp only
      rw [← on_modify (u' := false) hr hu (f := fun k => Kid.lose (Kid.fall k)) (by rfl)]
      congr 2
      refine List.ext_getElem? fun i => ?_
      rw [List.getElem?_modify, List.getElem?_modify, List.getElem?_modify]
      by_cases q : c = i <;> cases (List.zipWith onKid rs U)[i]? <;> simp [q]
    · by_cases q1 : r = 1 ∧ nrm = true
      · rw [if_pos (.inr q1), down_trans (by simp [onS]) (by simp [onS]) hx rfl q2 q1]
        unfold onS
        simp only
        rw [on_modify (u' := false) hr hu (by simp [Kid.fall, onKid, q2])]
      · rw [if_neg (fun q => q.elim q2 q1), down_note (by simp [onS]) (by simp [onS]) hx rfl q2 q1]
        have ht : recent now (onS rs U notes).t ((onS rs U notes).notes ++ [now]) = 1 := recent_one h0 h1 hl
        rw [ht, if_neg (by simp [onS]), if_neg (by simp [onS]), if_neg (by simp [onS])]
        have hf : (onS rs U notes).kids.modify c Kid.fall = List.zipWith onKid rs (U.set c false) := on_modify (u' := false) hr hu (f := Kid.fall) (by simp [Kid.fall, onKid, q2])
        have hu' : (U.set c false)[c]? = some false := by
          rw [List.getElem?_set]
          have hl := (List.getElem?_eq_some_iff.1 hu).1
          simp [hl]
        have hk' := on_get hr hu'
        have hg : (onKid r false).gone = false := by simp [onKid, q2]
        have hst : startActs (List.zipWith onKid rs (U.set c false)) c (c + 1) = [⟨1, c⟩] := by
          rw [startActs_succ _ (Nat.le_refl c), startActs_base]
          simp [goneAt, hk', hg]
        have hra : raise c (c + 1) (List.zipWith onKid rs (U.set c false)) = List.zipWith onKid rs U := by
          rw [raise_up _ (Nat.le_refl c) hk' hg, raise_base]
          have e : ({ onKid r false with up := true } : Kid) = onKid r true := by simp [onKid, q2]
          rw [e]
          refine List.ext_getElem? fun i => ?_
          rw [List.getElem?_set, List.getElem?_zipWith, List.getElem?_zipWith, List.getElem?_set]
          by_cases q : c = i
          · subst q
            rw [hr, hu]
            have hl := (List.getElem?_eq_some_iff.1 hk').1
            simp only [List.length_zipWith, List.length_set] at hl
            simp; omega
          · rw [if_neg q, if_neg q]
        unfold Su.start Su.noted
        rw [hf, hst]
        simp only [hra]
        rfl
theorem on_ok {rs : List Int} (h : ∀ r ∈ rs, 0 ≤ r ∧ r ≤ 2) (h1 : 1 ≤ rs.length) (h2 : rs.length ≤ 10) : (onSp rs).fault = none := by
  have hh : (onSp rs).head = true := by
    unfold Sp.head onSp
    simp only [List.length_map]
    exact decide_eq_true ⟨by omega, by omega, by omega, by omega, by omega, by omega, by omega, by omega⟩
  unfold Sp.fault
  rw [if_pos hh]
  have : (onSp rs).ch.findIdx? (fun c => !c.ok) = none := by
    rw [List.findIdx?_eq_none_iff]
    intro x hx
    simp only [onSp, List.mem_map] at hx
    obtain ⟨r, hr, rfl⟩ := hx
    have := h r hr
    have ha : Chd.ok (onC r) = true := decide_eq_true (show (1 : Int) ≤ (tF.size : Int) ∧ (tF.size : Int) ≤ 255 ∧ 0 ≤ r ∧ r ≤ 2 ∧ (-1 : Int) ≤ 5 ∧ (5 : Int) ≤ 10000 from ⟨by decide, by decide, this.1, this.2, by omega, by omega⟩)
    rw [ha]; rfl
  rw [this]
theorem on_start (rs : List Int) : (Su.new (onSp rs)).start 0 rs.length = onS rs (List.replicate rs.length true) [] := by
  unfold Su.start
  have : raise 0 rs.length (Su.new (onSp rs)).kids = List.zipWith onKid rs (List.replicate rs.length true) := by
    refine List.ext_getElem? fun i => ?_
    unfold raise
    rw [List.getElem?_mapIdx, List.getElem?_zipWith]
    simp only [Su.new, onSp, List.getElem?_map]
    by_cases h : i < rs.length
    · rw [List.getElem?_eq_getElem h]
      simp [h, kid0, onKid]
    · rw [List.getElem?_eq_none (by omega)]; rfl
  rw [this]
  rfl
theorem on_acts (rs : List Int) : (startActs (Su.new (onSp rs)).kids 0 rs.length).length = rs.length := by
  have : startActs (Su.new (onSp rs)).kids 0 rs.length = (List.range rs.length).map fun (j : Nat) => ⟨1, j⟩ := by
    unfold startActs
    congr 1
    rw [List.filter_eq_self]
    intro i hi
    rw [List.mem_range] at hi
    simp [goneAt, Su.new, onSp, List.getElem?_eq_getElem hi, kid0]
  rw [this]; simp
theorem on_len (rs : List Int) (U : List Bool) (notes : List Int) (h : U.length = rs.length) : (onS rs U notes).kids.length = rs.length := by simp [onS, h]

theorem boolZero : (Try.prog.info? 4).map (fun i => (i.zero, i.size, i.bytes)) = some (some (.bool false), 1, 1) := by kernel_rfl
theorem sameInts_yes (w : World) (a b : Option Addr) (n m c d : Nat) (xs : List Int) (hn : n = xs.length) (hm : m = xs.length) (ha : Rd w a (i64s xs)) (hb : Rd w b (i64s xs)) (hn9 : n ≤ 9223372036854775807) :
    Calls Try.prog 22 #[.slice a n c, .slice b m d] w fun e w' => e = .returned (.bool true) ∧ ∃ k, w' = w.drewN k := by
  have := sameInts_any w a b n m c d xs xs hn hm ha hb hn9 (by omega)
  rw [decide_eq_true rfl] at this
  exact this
theorem rep_set (m i : Nat) (h : i < m) : (List.replicate i true ++ List.replicate (m - i) false).set i true = List.replicate (i + 1) true ++ List.replicate (m - (i + 1)) false := by
  obtain ⟨d, rfl⟩ : ∃ d, m = i + 1 + d := ⟨m - i - 1, by omega⟩
  rw [List.set_append_right _ _ (by simp)]
  simp only [List.length_replicate, Nat.sub_self]
  rw [show i + 1 + d - i = d + 1 by omega, show i + 1 + d - (i + 1) = d by omega, List.replicate_succ, List.set_cons_zero, List.replicate_succ', List.append_assoc]
  rfl
theorem set_same {l : List Bool} {c : Nat} {b : Bool} (h : l[c]? = some b) : l.set c b = l := by
  refine List.ext_getElem? fun i => ?_
  rw [List.getElem?_set]
  by_cases q : c = i
  · subst q
    have hl := (List.getElem?_eq_some_iff.1 h).1
    rw [h]; simp [hl]
  · simp [q]
theorem on_upsTo {rs : List Int} {U : List Bool} {i : Nat} {u : Bool} (hl : U.length = rs.length) (hu : U[i]? = some u) : upsTo (List.zipWith onKid rs U) 0 (i + 1) = upsTo (List.zipWith onKid rs U) 0 i ++ if u = true then [i] else [] := by
  have hi := (List.getElem?_eq_some_iff.1 hu).1
  have hk := on_get (List.getElem?_eq_getElem (by omega : i < rs.length)) hu
  rw [upsTo_succ _ (Nat.zero_le i), up_of (s := ⟨0, 0, 0, List.zipWith onKid rs U, 0, [], [], 0, 0, false, .no⟩) hk]
  rfl

set_option maxRecDepth 100000 in
set_option maxHeartbeats 4000000 in
theorem once_walk (a0 a1 : Option Addr) (c0 c1 : Nat) (ks ds : List Int) (nrm : Bool) (W : World) (r0 : Rd W a0 (i64s ks)) (r1 : Rd W a1 (i64s ds)) (hc0 : ks.length ≤ c0) (hb0 : c0 * 8 ≤ 140737488351232) (hb1 : ds.length * 8 ≤ 140737488351232) :
    Calls Try.prog 5 #[.slice a0 ks.length c0, .slice a1 ds.length c1, .bool nrm] W fun e w' => e = .returned (.bool true) ∧ Below W.heap.size W w' := by
  have S0 := hid (Sat.startArch W)
  have HR1 := hid r1.heapOf
  obtain ⟨KS, hKS⟩ : ∃ KS, ks.take 10 = KS := ⟨_, rfl⟩
  have hKr : Rd W a0 (i64s KS) := fun j u hj => r0 j u (by
    rw [← hKS] at hj
    unfold i64s at hj ⊢
    rw [List.map_take] at hj
    have hl := (List.getElem?_eq_some_iff.1 hj).1
    rw [List.getElem?_take_of_lt (by simp at hl; omega)] at hj
    exact hj)
  have HR0 := hid hKr.heapOf
  have hm : KS.length = min 10 ks.length := by rw [← hKS, List.length_take]
  obtain ⟨m, HM⟩ : ∃ m, Hid (KS.length = m) := ⟨_, rfl⟩
  obtain ⟨nd, HND⟩ : ∃ nd, Hid (ds.length = nd) := ⟨_, rfl⟩
  rw [HM.out] at hm
  rw [HND.out] at hb1 ⊢
  clear r0 r1 hKr hKS
  go_enter Try.func5, Try.ntmps5
  go_upto_if 21 with fail
  go_cut [0] (fun v wc => v = .slice a0 m c0 ∧ W = wc)
  case first =>
    by_cases h10 : 10 < ks.length
    · have hc10 : 10 ≤ c0 := by omega
      have h10m : m = 10 := by omega
      clear hm
      subst h10m
      go_wp2_with fail
      go_meet
      first | exact ⟨rfl, rfl⟩ | trivial
    · have h10m : m = ks.length := by omega
      clear hm
      subst h10m
      go_wp2_with fail
      go_meet
      first | exact ⟨rfl, rfl⟩ | trivial
  case rest =>
    obtain ⟨rfl, rfl⟩ := hcut
    have hm10 : m ≤ 10 := by omega
    clear hm hc0
    cases m with
    | zero =>
      go_wp2_with fail
      refine (awake_any S0.out).mono ?_
      rintro e w1 ⟨h1, rfl, le, s1⟩
      have HL1 := hid le
      have S1 := hid s1
      clear le s1 S0
      go_wp2_with fail
      go_ret
      exact ⟨rfl, S1.out.archBelow HL1.out⟩
    | succ m' =>
      obtain ⟨m, hmm⟩ : ∃ m, m' + 1 = m := ⟨_, rfl⟩
      have hm1 : 1 ≤ m := by omega
      have hm0 : ((m : Int) == 0) = false := by simp; omega
      rw [hmm] at HM hm10 ⊢
      clear hmm
      obtain ⟨rs, HRS⟩ : ∃ rs : List Int, Hid (KS.map (· % 3) = rs) := ⟨_, hid rfl⟩
      have hrl : rs.length = m := by rw [← HRS.out, List.length_map, HM.out]
      have HRL := hid hrl
      have hrr : ∀ r ∈ rs, 0 ≤ r ∧ r ≤ 2 := by
        rw [← HRS.out]
        intro r hr
        obtain ⟨x, _, rfl⟩ := List.mem_map.1 hr
        have h1 : 0 ≤ x % 3 := Int.emod_nonneg _ (by omega)
        have h2 : x % 3 < 3 := Int.emod_lt_of_pos _ (by omega)
        omega
      have HRR := hid hrr
      have SB := hid ((S0.out.allocAt (k := W.heap.size) (.cells #[.int .i64 1, .int .i64 1000, .int .i64 1, .slice none 0 0] 24) rfl).swap.rowNil (e := 39) (size := 3)).rot3
      clear S0 hrl hrr
      go_wp2_with fail
      go_loopw [8] (fun iv wr => ∃ (i : Nat) (A : Option Addr) (ca : Nat), i ≤ m ∧ iv = .int .i64 i ∧ Hid (Sat W wr [blk W.heap.size (.cells #[.int .i64 1, .int .i64 1000, .int .i64 1, .slice A i ca] 24 (0, 0)), row 39 3 A i ca (chVals ((rs.take i).map onC)), arch (heapOf W)])) (fun iv _ => m - (intOf iv).toNat)
      case atStart => exact ⟨0, none, 0, Nat.zero_le _, rfl, SB⟩
      case round =>
        obtain ⟨i, A, ca, hi, rfl, S⟩ := hrel
        clear SB
        by_cases hlt : i < m
        · obtain ⟨x, hx⟩ : ∃ x, KS[i]? = some x := ⟨_, List.getElem?_eq_getElem (by rw [HM.out]; exact hlt)⟩
          obtain ⟨r, HR⟩ : ∃ r, Hid (x % 3 = r) := ⟨_, rfl⟩
          have hrx : rs[i]? = some r := by rw [← HRS.out, List.getElem?_map, hx, ← HR.out]; rfl
          obtain ⟨g, off, rfl, e0⟩ := HR0.out i _ (get_i64s hx)
          have d0 := S.out.drop.drop.cellIn e0
          have d1 : ∀ o, (wr.alloc o).cell? ⟨g, off + i, none⟩ = some (.int .i64 x) := fun o => (S.out.alloc' o).drop.drop.cellIn e0
          have c3 : wr.cell? ⟨W.heap.size, 3, none⟩ = some (.slice A i ca) := S.out.cell 3
          have c3' : ∀ o, (wr.alloc o).cell? ⟨W.heap.size, 3, none⟩ = some (.slice A i ca) := fun o => (S.out.alloc' o).cell 3
          have c3'' : ∀ o o', ((wr.alloc o).alloc o').cell? ⟨W.heap.size, 3, none⟩ = some (.slice A i ca) := fun o o' => ((S.out.alloc' o).alloc' o').cell 3
          have hrep : chVals ((rs.take (i + 1)).map onC) = chVals ((rs.take i).map onC) ++ Chd.vals (onC r) := by rw [List.take_add_one, hrx, List.map_append, chVals, List.flatMap_append]; simp [chVals]
          have HREP := hid hrep
          clear hx hrx hrep e0
          go_wp2_with fail
          go_region_law (first | (go_simp; go_at_call 16; refine (place_any x 3 _ (by omega) (by omega)).mono ?_; rintro e w1 ⟨rfl, rfl⟩; rw [HR.out]) | (go_simp; go_at_call 17; refine (child_any r _).mono ?_; rintro e w1 ⟨rfl, o, rfl⟩) | (refine step_pushN rfl _ _ rfl elemCh rfl (S.out.swap.drew.alloc' _) (Chd.vals (onC r)) rfl rfl (by simp) (oneChd _) (by unfold maxLen; omega) (by omega) ?_; intro a' c' w3 s4 ha' hz; have S4 := hid s4.swap; clear s4; have c5 : w3.cell? ⟨W.heap.size, 3, none⟩ = some (.slice A i ca) := S4.out.cell 3; have f5 := S4.out.free 3))
          all_goals have s6 := S4.out.set 3 (.slice a' (i + 1) c')
          all_goals have S6 := hid s6
          all_goals clear s6 S c3 c3' c3'' S4 d0 d1
          all_goals go_wp2_with fail
          all_goals go_roundw
          all_goals first
            | exact ⟨i + 1, a', c', by omega, by go_num, by rw [HREP.out]; exact S6⟩
            | (simp [intOf]; omega)
        · obtain rfl : i = m := by omega
          have htk : rs.take i = rs := List.take_of_length_le (by rw [HRL.out]; exact Nat.le_refl _)
          rw [htk] at S
          have d0 : wr.cell? ⟨W.heap.size, 0, none⟩ = some (.int .i64 1) := S.out.cell 0
          have d1 : wr.cell? ⟨W.heap.size, 1, none⟩ = some (.int .i64 1000) := S.out.cell 1
          have d2 : wr.cell? ⟨W.heap.size, 2, none⟩ = some (.int .i64 1) := S.out.cell 2
          have d3 : wr.cell? ⟨W.heap.size, 3, none⟩ = some (.slice A i ca) := S.out.cell 3
          obtain ⟨h1, le1, r1, s1⟩ := store_row S.out.rot3.rot3
          have HL1 := hid le1
          have HC1 := hid r1
          have S1 := hid s1
          have hlr : (onSp rs).ch.length = i := by simp [onSp, HRL.out]
          have hnw := new_ok S1.out (onSp rs) A ca HC1.out (by intro x hx; obtain ⟨r, _, rfl⟩ := List.mem_map.1 hx; show tF.size ≤ _; decide) (by rw [hlr]; omega) (on_ok HRR.out (by rw [HRL.out]; exact hm1) (by rw [HRL.out]; exact hm10))
          unfold specAgg at hnw
          rw [hlr] at hnw
          have HNW := hid hnw
          clear le1 r1 s1 S hlr hnw htk
          go_wp2_with fail
          refine HNW.out.mono ?_
          rintro e w2 ⟨p, h2, rfl, le, s2⟩
          have HL2 := hid (HL1.out.trans le)
          have HL12 := hid le
          have S2 := hid s2
          clear le s2 S1 HL1 d0 d1 d2 d3 HNW
          go_wp2_with fail
          have hnl : (Su.new (onSp rs)).kids.length = rs.length := by simp [Su.new, onSp]
          have hnb : ((Su.new (onSp rs)).start 0 (Su.new (onSp rs)).kids.length, startActs (Su.new (onSp rs)).kids 0 (Su.new (onSp rs)).kids.length) = (onS rs (List.replicate rs.length true) [], startActs (Su.new (onSp rs)).kids 0 rs.length) := by
            rw [hnl, on_start]
          refine (begin_eq S2.out rfl hnb (by rw [hnl, HRL.out]; omega)).mono ?_
          rintro e w3 ⟨a3', c3, rfl, s3⟩
          rw [on_acts, HRL.out] at s3
          rw [on_acts, HRL.out]
          have S3 := hid s3.drop
          clear s3 S2 hnb hnl
          have hbz := boolZero
          have HBZ := hid hbz
          clear hbz
          have hne : ((i : Int) != (i : Int)) = false := by simp
          go_wp2_with (at_make; refine wpList_make_sat rfl _ _ rfl Try.underlying49 HBZ.out rfl S3.out .i64 .i64 i rfl rfl (by omega) (by unfold maxLen; omega) ?_; intro w4 s4 hz4; have S4 := hid s4; clear s4 hz4 S3)
          obtain ⟨ub, HUB⟩ : ∃ ub, Hid (w3.heap.size = ub) := ⟨_, hid rfl⟩
          rw [HUB.out] at S4 ⊢
          go_loopw [12] (fun jv wr => ∃ j : Nat, j ≤ i ∧ jv = .int .i64 j ∧ Hid (Sat W wr [row 4 1 (some ⟨ub, 0, none⟩) i i (bools (List.replicate j true ++ List.replicate (i - j) false)), sup p h2 (onS rs (List.replicate i true) []), arch h2, blk W.heap.size (.cells #[.int .i64 1, .int .i64 1000, .int .i64 1, .slice A i ca] 24 (0, 0))])) (fun jv _ => i - (intOf jv).toNat)
          case atStart => exact ⟨0, Nat.zero_le _, rfl, hid (by have := S4.out; simpa [bools] using this)⟩
          case round =>
            obtain ⟨j, hj, rfl, S5⟩ := hrel
            clear S4
            by_cases hlt : j < i
            · obtain ⟨_, _, hg, hc, hf⟩ := S5.out.rowCells (by omega)
              cases hg
              have e0 := hc j (by omega)
              obtain ⟨bv, hbv⟩ : ∃ bv, (bools (List.replicate j true ++ List.replicate (i - j) false))[j]? = some bv := ⟨_, List.getElem?_eq_getElem (by simp [bools]; omega)⟩
              rw [hbv] at e0
              have f0 := hf (0 + j)
              have s6 := S5.out.rowSet j (by omega) (.bool true)
              rw [set_bools, rep_set _ _ hlt] at s6
              have S6 := hid s6
              clear hc hf hbv s6 S5
              rw [Nat.zero_add] at e0 f0
              go_wp2_with fail
              go_roundw
              case rel => exact ⟨j + 1, by omega, by go_num, by have := S6; rw [Nat.zero_add] at this; exact this⟩
              case measure => simp [intOf]; omega
            · obtain rfl : j = i := by omega
              have hbj : bools (List.replicate j true ++ List.replicate (j - j) false) = bools (List.replicate j true) := by simp
              rw [hbj] at S5
              clear hbj hlt hj hne
              go_wp2_with fail
              go_loopw [13] (fun qv wr => ∃ (q : Nat) (U : List Bool) (notes : List Int) (h' : Nat → Option Obj), q ≤ nd ∧ qv = .int .i64 q ∧ Hid (U.length = j) ∧ Hid (∀ x ∈ notes, 0 ≤ x ∧ x < (q : Int)) ∧ Hid (notes.length ≤ q) ∧ Hid (Le (heapOf W) h') ∧ Hid (Le h1 h') ∧ Hid (Sat W wr [row 4 1 (some ⟨ub, 0, none⟩) j j (bools U), sup p h' (onS rs U notes), arch h', blk W.heap.size (.cells #[.int .i64 1, .int .i64 1000, .int .i64 1, .slice A j ca] 24 (0, 0))])) (fun qv _ => nd - (intOf qv).toNat)
              case atStart => exact ⟨0, _, [], h2, Nat.zero_le _, rfl, hid (List.length_replicate ..), hid (by simp), hid (by simp), HL2, HL12, S5⟩
              case round =>
                obtain ⟨q, U, notes, h', hq, rfl, HUL, HNB, HNL, HLE, HLE1, S⟩ := hrel
                clear S5 HL2
                by_cases hlt : q < nd
                · obtain ⟨x, hx⟩ : ∃ x, ds[q]? = some x := ⟨_, List.getElem?_eq_getElem (by rw [HND.out]; exact hlt)⟩
                  obtain ⟨dg, doff, rfl, e0⟩ := (HR1.out.mono HLE.out) q _ (get_i64s hx)
                  have d0 := S.out.rot3.cellIn e0
                  obtain ⟨c, HC⟩ : ∃ c : Nat, Hid (x % (j : Int) = c) := ⟨(x % (j : Int)).toNat, hid (by have : 0 ≤ x % (j : Int) := Int.emod_nonneg _ (by omega); omega)⟩
                  have hcj : c < j := by have := HC.out; have h9 : x % (j : Int) < j := Int.emod_lt_of_pos _ (by omega); omega
                  obtain ⟨r, hr⟩ : ∃ r, rs[c]? = some r := ⟨_, List.getElem?_eq_getElem (by rw [HRL.out]; exact hcj)⟩
                  obtain ⟨u, hu⟩ : ∃ u, U[c]? = some u := ⟨_, List.getElem?_eq_getElem (by rw [HUL.out]; exact hcj)⟩
                  obtain ⟨su, ac, HD⟩ : ∃ su ac, Hid ((onS rs U notes).down c nrm (q : Int) = (su, ac)) := ⟨_, _, hid rfl⟩
                  have hd := on_down (nrm := nrm) (now := (q : Int)) hr hu (by omega) (by omega) HNB.out
                  rw [HD.out] at hd
                  have HHD := hid hd
                  have HR := hid hr
                  have HU := hid hu
                  have hkl : (onS rs U notes).kids.length = j := by rw [on_len _ _ _ (by rw [HUL.out, HRL.out]), HRL.out]
                  have HKL := hid hkl
                  clear hx e0 hd hr hu hkl
                  go_wp2_with fail
                  refine (place_any x j wr (by omega) (by omega)).mono ?_
                  rintro e w5 ⟨rfl, rfl⟩
                  rw [HC.out]
                  go_wp2_with fail
                  refine (down_eq S.out.unrot3 c nrm q HD.out (by rw [HKL.out]; omega) (by have := HNL.out; show notes.length ≤ _; omega) (by intro z; exact absurd (show (1 : Int) = 2 from z) (by decide))).mono ?_
                  rintro e w6 ⟨a6, c6, h6, rfl, le, s6⟩
                  have HLE6 := hid (HLE.out.trans le)
                  have HLE16 := hid (HLE1.out.trans le)
                  have S6 := hid s6
                  obtain ⟨_, _, hg, hc, hf⟩ := S6.out.rot4.rowCells (by omega)
                  cases hg
                  have e0 := hc c (by omega)
                  rw [get_bools HU.out, Nat.zero_add] at e0
                  have f0 := hf (0 + c)
                  rw [Nat.zero_add] at f0
                  have hd := HHD.out
                  have HNB' : Hid (∀ x ∈ notes, 0 ≤ x ∧ x < ((q + 1 : Nat) : Int)) := hid fun x hx => by have := HNB.out x hx; omega
                  have HNL' : Hid (notes.length ≤ q + 1) := hid (by have := HNL.out; omega)
                  clear hc hf le s6 S HHD HLE HLE1 HD
                  cases u with
                  | false =>
                    rw [if_pos rfl] at hd
                    obtain ⟨rfl, rfl⟩ := Prod.mk.inj hd
                    clear hd
                    go_wp2_with fail
                    go_roundw
                    case rel => exact ⟨q + 1, U, notes, h6, by omega, by go_num, HUL, HNB', HNL', HLE6, HLE16, hid (by have := S6.out.drop; exact this.rot3)⟩
                    case measure => simp [intOf]; omega
                  | true =>
                    rw [if_neg (by decide)] at hd
                    obtain ⟨cg, coff, rfl, k0⟩ := (HC1.out.mono HLE16.out) (c * 3 + 1) (.int .i64 r) (by rw [chVals, flat_get lenChd (k := c) (x := onC r) (by rw [List.getElem?_map, HR.out]; rfl) (by omega)]; rfl)
                    have k1 := S6.out.rot3.cellIn k0
                    have b3 : World.cell? _ ⟨W.heap.size, 3, none⟩ = some (.slice (some ⟨cg, coff, none⟩) j ca) := S6.out.rot5.cell 3
                    rw [← Nat.add_assoc] at k1
                    have hrb := HRR.out r (List.mem_of_getElem? HR.out)
                    by_cases hA : r = 2 ∨ (r = 1 ∧ nrm = true)
                    · rw [if_pos hA] at hd
                      obtain ⟨rfl, rfl⟩ := Prod.mk.inj hd
                      have s7 := S6.out.rot4.rowSet c (by omega) (.bool false)
                      rw [set_bools, Nat.zero_add] at s7
                      have S7 := hid s7
                      have g0 : (w6.setCell ⟨ub, c, none⟩ (.bool false)).cell? ⟨ub, c, none⟩ = some (.bool false) := by
                        have := S7.out.rowCells (by omega)
                        obtain ⟨_, _, hg, hc, _⟩ := this
                        cases hg
                        have := hc c (by omega)
                        rw [get_bools (x := false) (by rw [List.getElem?_set]; have := HUL.out; simp; omega), Nat.zero_add] at this
                        exact this
                      have HUL' : Hid ((U.set c false).length = j) := hid (by rw [List.length_set]; exact HUL.out)
                      clear k0 hd s7 S6
                      rcases hA with rfl | ⟨rfl, rfl⟩
                      all_goals go_wp2_with fail
                      all_goals go_roundw
                      all_goals first
                        | exact ⟨q + 1, U.set c false, notes, h6, by omega, by go_num, HUL', HNB', HNL', HLE6, HLE16, hid S7.out.swap.drop⟩
                        | (simp [intOf]; omega)
                    · rw [if_neg hA] at hd
                      obtain ⟨rfl, rfl⟩ := Prod.mk.inj hd
                      have s7 := S6.out.rot4.rowSet c (by omega) (.bool true)
                      rw [set_bools, Nat.zero_add, set_same HU.out] at s7
                      have S7 := hid s7
                      have g0 : (w6.setCell ⟨ub, c, none⟩ (.bool true)).cell? ⟨ub, c, none⟩ = some (.bool true) := by
                        have := S7.out.rowCells (by omega)
                        obtain ⟨_, _, hg, hc, _⟩ := this
                        cases hg
                        have := hc c (by omega)
                        rw [get_bools HU.out, Nat.zero_add] at this
                        exact this
                      obtain ⟨ag, aoff, rfl, l0⟩ := S7.out.swap.rowRd 0 _ rfl
                      obtain ⟨_, _, hg, l1⟩ := S7.out.swap.rowRd 1 _ rfl
                      cases hg
                      rw [Nat.add_zero] at l0
                      have HNB2 : Hid (∀ x ∈ notes ++ [(q : Int)], 0 ≤ x ∧ x < ((q + 1 : Nat) : Int)) := hid fun x hx => by
                        rcases List.mem_append.1 hx with hx | hx
                        · have := HNB.out x hx; omega
                        · rw [List.mem_singleton] at hx; subst hx; omega
                      have HNL2 : Hid ((notes ++ [(q : Int)]).length ≤ q + 1) := hid (by have := HNL.out; simp; omega)
                      have hB : r = 0 ∨ (r = 1 ∧ nrm = false) := by
                        by_cases q0 : r = 0
                        · exact .inl q0
                        · by_cases q1 : r = 1
                          · exact .inr ⟨q1, by cases nrm with | false => rfl | true => exact absurd (.inr ⟨q1, rfl⟩) hA⟩
                          · exact absurd (.inl (by omega)) hA
                      clear k0 hd s7 S6 hA
                      rcases hB with rfl | ⟨rfl, rfl⟩
                      all_goals go_wp2_with fail
                      all_goals go_roundw
                      all_goals first
                        | exact ⟨q + 1, U, notes ++ [(q : Int)], h6, by omega, by go_num, HUL, HNB2, HNL2, HLE6, HLE16, hid S7.out.swap.drop⟩
                        | (simp [intOf]; omega)
                · obtain rfl : q = nd := by omega
                  have SN := hid (S.out.rowNil (e := 3) (size := 1))
                  clear S
                  go_wp2_with fail
                  go_loopw [17, 18] (fun lv iv wr => ∃ (i : Nat) (A : Option Addr) (ca : Nat), i ≤ j ∧ iv = .int .i64 i ∧ lv = .slice A (upsTo (List.zipWith onKid rs U) 0 i).length ca ∧ Hid (Sat W wr (row 3 1 A (upsTo (List.zipWith onKid rs U) 0 i).length ca (i64s (ints (upsTo (List.zipWith onKid rs U) 0 i))) :: row 4 1 (some ⟨ub, 0, none⟩) j j (bools U) :: sup p h' (onS rs U notes) :: arch h' :: []))) (fun _ iv _ => j - (intOf iv).toNat)
                  case atStart => exact ⟨0, none, 0, Nat.zero_le _, rfl, by rw [upsTo_base]; rfl, by rw [upsTo_base]; exact hid (SN.out.rot5.drop)⟩
                  case round =>
                    obtain ⟨k, B, cb, hk, rfl, rfl, S⟩ := hrel
                    clear SN
                    by_cases hlt : k < j
                    · obtain ⟨u, hu⟩ : ∃ u, U[k]? = some u := ⟨_, List.getElem?_eq_getElem (by rw [HUL.out]; exact hlt)⟩
                      obtain ⟨_, _, hg, hc, _⟩ := S.out.swap.rowCells (by omega)
                      cases hg
                      have e0 := hc k (by omega)
                      rw [get_bools hu, Nat.zero_add] at e0
                      have hup := on_upsTo (rs := rs) (by rw [HUL.out, HRL.out]) hu
                      have hul := upsTo_length (List.zipWith onKid rs U) 0 k
                      cases u with
                      | true =>
                        simp only [if_true] at hup
                        have HUP := hid hup
                        clear hup hu hc
                        go_wp2_with (at_builtin; refine wpList_push_row rfl _ _ rfl elemInt rfl S.out (.int .i64 k) rfl (by simp) rfl (by unfold maxLen; omega) (by omega) ?_; intro a' c' w3 s4 ha' hz; have S4 := hid s4; clear s4 S e0)
                        go_roundw
                        case rel =>
                          refine ⟨k + 1, a', c', by omega, by go_num, by rw [HUP.out]; simp, hid ?_⟩
                          have := S4.out
                          rw [HUP.out]
                          simpa [ints, i64s] using this
                        case measure => simp [intOf]; omega
                      | false =>
                        simp only [if_false, Bool.false_eq_true, List.append_nil] at hup
                        have HUP := hid hup
                        clear hup hu hc
                        go_wp2_with fail
                        go_roundw
                        case rel => exact ⟨k + 1, B, cb, by omega, by go_num, by rw [HUP.out], by rw [HUP.out]; exact S⟩
                        case measure => simp [intOf]; omega
                    · obtain rfl : k = j := by omega
                      have hkl : (onS rs U notes).kids.length = k := by rw [on_len _ _ _ (by rw [HUL.out, HRL.out]), HRL.out]
                      have hzl : (List.zipWith onKid rs U).length = k := hkl
                      have hue : upsTo (List.zipWith onKid rs U) 0 k = ups (onS rs U notes).kids 0 := by
                        show _ = upsTo (List.zipWith onKid rs U) 0 (List.zipWith onKid rs U).length
                        rw [hzl]
                      rw [hue] at S ⊢
                      have hul := ups_length (onS rs U notes).kids 0
                      rw [hkl] at hul
                      obtain ⟨V, HV⟩ : ∃ V, Hid (ups (onS rs U notes).kids 0 = V) := ⟨_, hid rfl⟩
                      have HKL := hid hkl
                      rw [HV.out] at S hul ⊢
                      clear hue hzl hkl
                      go_wp2_with fail
                      have hcu := up_sup S.out.rot3 (by rw [HKL.out]; omega)
                      rw [HV.out] at hcu
                      refine hcu.mono ?_
                      rintro e w7 ⟨a7, n7, c7, rfl, hn7, s7⟩
                      subst hn7
                      have S7 := hid s7
                      clear s7 S hcu
                      go_wp2_with fail
                      refine (sameInts_yes w7 _ _ V.length V.length _ _ (ints V) (by simp [ints]) (by simp [ints]) S7.out.rowRd S7.out.rot3.rowRd (by omega)).mono ?_
                      rintro e w8 ⟨rfl, hw⟩
                      have S8 := hid (S7.out.quiet hw)
                      clear hw S7
                      go_wp2_with fail
                      refine (done_sup S8.out.swap).mono ?_
                      rintro e w9 ⟨rfl, rfl⟩
                      rw [show decide ((onS rs U notes).state = 3) = false from rfl]
                      go_wp2_with fail
                      refine (awake_any S8.out.rot5).mono ?_
                      rintro e w9 ⟨h9, rfl, le, s9⟩
                      have HL9 := hid (HLE.out.trans le)
                      have S9 := hid s9
                      clear s9 le S8 HLE
                      go_wp2_with fail
                      go_ret
                      exact ⟨rfl, S9.out.archBelow HL9.out⟩
end Go.Proofs.Ytfhjoidciaidlaa
