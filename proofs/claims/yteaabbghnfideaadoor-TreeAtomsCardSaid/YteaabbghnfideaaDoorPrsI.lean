/-
  tree.Parse: the walk (under way).
-/
import Derived.Test.YteaabbghnfideaaDoorPrsH
import Derived.Test.YteaabbghnfideaaDoorTokT
namespace Go.Proofs.YteaabbghnfideaaDoor
open Go.RowKit
set_option maxHeartbeats 4000000
set_option maxRecDepth 100000
section
variable {W w : World} {L : List HP} {h : Nat → Option Obj} {s : ByteArray}
/-- what Parse reads: the whole text, and what Right takes -/
def parsF (s : ByteArray) : Option T := match runP [] none (rem s 0) with
  | some (t, []) => (match rightOf t with | none => some t | some _ => none)
  | _ => none
def ParseP (W : World) (L : List HP) (h : Nat → Option Obj) (q : Option T) (e : Ending) (w' : World) : Prop := match q with
  | some t => ∃ ia ic ra rc ba bc h', e = .returned (.tuple #[.agg (tv6 t.k t.n t.nm ia t.is.length ic ra t.rs.length rc ba t.bs.length bc).toArray, .nilIface]) ∧ Le h h' ∧ TIn h' t (tv6 t.k t.n t.nm ia t.is.length ic ra t.rs.length rc ba t.bs.length bc) ∧ TFl t ∧ NOk t ∧ Sat W w' (arch h' :: L)
  | none => ∃ v fs k h', e = .returned (.tuple #[.agg (tv6 0 0 ⟨#[]⟩ none 0 0 none 0 0 none 0 0).toArray, v]) ∧ Le h h' ∧ ErrIn h' v fs k ∧ Sat W w' (arch h' :: L)
theorem parse_start (S : Sat W w (arch h :: L)) (hs : s.size ≤ 4294967296) :
    Calls Tryd.prog 31 #[.string s] w (ParseP W L h (parsF s)) := by
  obtain ⟨pq, HPQ⟩ : ∃ pq, Hid (parsF s = pq) := ⟨_, hid rfl⟩
  rw [HPQ.out]
  obtain ⟨q, HQ⟩ : ∃ q, Hid (runP [] none (rem s 0) = q) := ⟨_, hid rfl⟩
  obtain ⟨rb, HRB⟩ : ∃ rb, Hid (w.heap.size = rb) := ⟨_, hid rfl⟩
  have s1 := S.allocAt (k := w.heap.size) (.cells #[.int .i64 0, .int .i64 0, .string ⟨#[]⟩, .slice none 0 0, .slice none 0 0, .slice none 0 0] 25) rfl
  have s2 : Sat W _ (PB (w.heap.size + 1) s 0 false :: arch h :: TB w.heap.size 0 0 ⟨#[]⟩ none 0 0 :: L) := (s1.allocAt (k := w.heap.size + 1) (.cells #[.string s, .int .i64 0, .bool false] 88) (by simp)).imp (under (fun _ x => sw2 _ x))
  have HT := hid (term_any s2 (Nat.zero_le _) hs)
  rw [HQ.out, HRB.out] at HT
  clear s1 s2
  go_enter Tryd.func31, Tryd.ntmps31
  go_wp2_with fail
  rw [HRB.out]
  refine HT.out.mono ?_
  rintro e w2 hb
  clear HT
  cases q with
  | none =>
    obtain ⟨j, h', rfl, hj, l1, s3⟩ := hb
    have S3 := hid s3
    clear s3
    unfold tv6
    have S5 := hid (S3.out.alloc' (.cells #[.int .i64 0, .int .i64 0, .string ⟨#[]⟩, .slice none 0 0, .slice none 0 0, .slice none 0 0] 25))
    go_upto_region 3 with fail
    have c2 : World.cell? (w2.alloc (.cells #[.int .i64 0, .int .i64 0, .string ⟨#[]⟩, .slice none 0 0, .slice none 0 0, .slice none 0 0] 25)) ⟨rb + 1, 2, none⟩ = some (.bool true) := S5.out.cell 2
    have c1 : World.cell? (w2.alloc (.cells #[.int .i64 0, .int .i64 0, .string ⟨#[]⟩, .slice none 0 0, .slice none 0 0, .slice none 0 0] 25)) ⟨rb + 1, 1, none⟩ = some (.int .i64 j) := S5.out.cell 1
    have hE : ErrIn h' (.iface 44 (.int .i64 10)) [] 10 := by unfold ErrIn; rfl
    have HA := hid (at_some S5.out.swap ⟨#[112, 97, 114, 115, 101]⟩ j hE)
    go_wp2_with fail
    refine HA.out.mono ?_
    rintro e w3 ⟨v', h4, rfl, l4, hE4, s6⟩
    have e0 : w3.cell? ⟨rb, 0, none⟩ = some (.int .i64 0) := s6.rot3.cell 0
    have e1 : w3.cell? ⟨rb, 1, none⟩ = some (.int .i64 0) := s6.rot3.cell 1
    have e2 : w3.cell? ⟨rb, 2, none⟩ = some (.string ⟨#[]⟩) := s6.rot3.cell 2
    have e3 : w3.cell? ⟨rb, 3, none⟩ = some (.slice none 0 0) := s6.rot3.cell 3
    have e4 : w3.cell? ⟨rb, 4, none⟩ = some (.slice none 0 0) := s6.rot3.cell 4
    have e5 : w3.cell? ⟨rb, 5, none⟩ = some (.slice none 0 0) := s6.rot3.cell 5
    have f0 := s6.rot3.free 0
    have f1 := s6.rot3.free 1
    have f2 := s6.rot3.free 2
    have f3 := s6.rot3.free 3
    have f4 := s6.rot3.free 4
    have f5 := s6.rot3.free 5
    have S8 := hid (tb_same s6.rot3)
    have HE4 := hid hE4
    clear s6 hE4 HA
    have hp : parsF s = none := by unfold parsF; rw [HQ.out]
    obtain rfl : pq = none := by rw [← HPQ.out, hp]
    clear hp
    go_wp2_with fail
    exact bodyPost_ret (v := .tuple #[.agg (tv6 0 0 ⟨#[]⟩ none 0 0 none 0 0 none 0 0).toArray, v']) (by simp [results, Tryd.results31, go_sem, tv6, e0, e1, e2, e3, e4, e5]) rfl ⟨v', _, _, h4, rfl, l1.trans l4, HE4.out, S8.out.drop.swap.drop⟩
  | some y =>
    obtain ⟨t, r⟩ := y
    obtain ⟨j, ia, ic, ra, rc, ba, bc, h', rfl, hr, hj, l1, htin, s3⟩ := hb
    have S3 := hid s3
    clear s3
    have S5 := hid (S3.out.alloc' (.cells #[.int .i64 t.k, .int .i64 t.n, .string t.nm, .slice ia t.is.length ic, .slice ra t.rs.length rc, .slice ba t.bs.length bc] 25))
    have c2 : World.cell? (w2.alloc (.cells #[.int .i64 t.k, .int .i64 t.n, .string t.nm, .slice ia t.is.length ic, .slice ra t.rs.length rc, .slice ba t.bs.length bc] 25)) ⟨rb + 1, 2, none⟩ = some (.bool false) := S5.out.cell 2
    have c1 : World.cell? (w2.alloc (.cells #[.int .i64 t.k, .int .i64 t.n, .string t.nm, .slice ia t.is.length ic, .slice ra t.rs.length rc, .slice ba t.bs.length bc] 25)) ⟨rb + 1, 1, none⟩ = some (.int .i64 j) := S5.out.cell 1
    unfold tv6
    by_cases hjs : j < s.size
    · have HPN : Hid (parsF s = none) := hid (by
        have hl : (rem s j).length = s.size - j := rem_len s j
        unfold parsF
        rw [HQ.out, hr]
        cases hrr : rem s j with
        | nil => rw [hrr] at hl; simp at hl; omega
        | cons _ _ => rfl)
      have hjd : decide (j < s.size) = true := by simp [hjs]
      have hE : ErrIn h' (.iface 44 (.int .i64 10)) [] 10 := by unfold ErrIn; rfl
      have HA := hid (at_some S5.out.swap ⟨#[112, 97, 114, 115, 101]⟩ j hE)
      go_wp2_with fail
      refine HA.out.mono ?_
      rintro e w3 ⟨v', h4, rfl, l4, hE4, s6⟩
      have e0 : w3.cell? ⟨rb, 0, none⟩ = some (.int .i64 0) := s6.rot3.cell 0
      have e1 : w3.cell? ⟨rb, 1, none⟩ = some (.int .i64 0) := s6.rot3.cell 1
      have e2 : w3.cell? ⟨rb, 2, none⟩ = some (.string ⟨#[]⟩) := s6.rot3.cell 2
      have e3 : w3.cell? ⟨rb, 3, none⟩ = some (.slice none 0 0) := s6.rot3.cell 3
      have e4 : w3.cell? ⟨rb, 4, none⟩ = some (.slice none 0 0) := s6.rot3.cell 4
      have e5 : w3.cell? ⟨rb, 5, none⟩ = some (.slice none 0 0) := s6.rot3.cell 5
      have f0 := s6.rot3.free 0
      have f1 := s6.rot3.free 1
      have f2 := s6.rot3.free 2
      have f3 := s6.rot3.free 3
      have f4 := s6.rot3.free 4
      have f5 := s6.rot3.free 5
      have S8 := hid (tb_same s6.rot3)
      have HE4 := hid hE4
      clear s6 hE4 HA
      have hp : parsF s = none := HPN.out
      obtain rfl : pq = none := by rw [← HPQ.out, hp]
      clear hp
      go_wp2_with fail
      exact bodyPost_ret (v := .tuple #[.agg (tv6 0 0 ⟨#[]⟩ none 0 0 none 0 0 none 0 0).toArray, v']) (by simp [results, Tryd.results31, go_sem, tv6, e0, e1, e2, e3, e4, e5]) rfl ⟨v', _, _, h4, rfl, l1.trans l4, HE4.out, S8.out.drop.swap.drop⟩
    · have hin : InB (rem s 0) := by
        unfold rem
        intro x hx
        have hx := List.mem_of_mem_drop hx
        unfold byts at hx
        obtain ⟨b, _, rfl⟩ := List.mem_map.1 hx
        have := b.toNat_lt
        omega
      have hr0 : r = [] := by rw [hr]; exact rem_end (by omega)
      have hrun : runP [] none (rem s 0) = some (t, []) := by rw [HQ.out, hr0]
      obtain ⟨htxt, hfl, hno⟩ := run_text hin hrun
      have hl0 : (rem s 0).length = s.size - 0 := rem_len s 0
      have hok := tok_text t hfl hno (by rw [← htxt]; omega)
      have S6 := hid (S3.out.alloc (.cells #[.int .i64 t.k, .int .i64 t.n, .string t.nm, .slice ia t.is.length ic, .slice ra t.rs.length rc, .slice ba t.bs.length bc] 25))
      have HRT := hid (right_t (L := blk w2.heap.size (.cells #[.int .i64 t.k, .int .i64 t.n, .string t.nm, .slice ia t.is.length ic, .slice ra t.rs.length rc, .slice ba t.bs.length bc] 25 (0, 0)) :: TB rb 0 0 ⟨#[]⟩ none 0 0 :: PB (rb + 1) s j false :: L) (S6.out.imp (fun h x => under (under sw2) h (sw3 h x))) t _ htin hok)
      have hjd : decide (j < s.size) = false := by simp [hjs]
      have hjd2 : decide ((j : Int) < (s.size : Int)) = false := by simp; omega
      unfold tv6 at HRT
      go_wp2_with fail
      refine HRT.out.mono ?_
      rintro e w3 ⟨v7, h7, rfl, l7, he7, s7⟩
      have HE7 := hid he7
      have L7 := hid (l1.trans l7)
      have S7 := hid s7
      have HX := hid (And.intro hfl (And.intro hno (TIn.mono l7 t htin)))
      clear he7 s7 HRT S6 S5 S3 htin l1 l7 hfl hno hok htxt
      cases hro : rightOf t with
      | none =>
        have e7 := HE7.out
        rw [hro] at e7
        have e7 : v7 = .nilIface := e7
        subst e7
        have hp : parsF s = some t := by unfold parsF; rw [hrun]; simp only; rw [hro]
        obtain rfl : pq = some t := by rw [← HPQ.out, hp]
        clear hp hro HE7 hrun
        have S8 := hid S7.out.rot3
        have S9 := hid S7.out.swap
        have f0 := S8.out.free 0
        have f1 := S8.out.free 1
        have f2 := S8.out.free 2
        have f3 := S8.out.free 3
        have f4 := S8.out.free 4
        have f5 := S8.out.free 5
        have e0 : w3.cell? ⟨rb, 0, none⟩ = some (.int .i64 0) := S8.out.cell 0
        have e1 : w3.cell? ⟨rb, 1, none⟩ = some (.int .i64 0) := S8.out.cell 1
        have e2 : w3.cell? ⟨rb, 2, none⟩ = some (.string ⟨#[]⟩) := S8.out.cell 2
        have e3 : w3.cell? ⟨rb, 3, none⟩ = some (.slice none 0 0) := S8.out.cell 3
        have e4 : w3.cell? ⟨rb, 4, none⟩ = some (.slice none 0 0) := S8.out.cell 4
        have e5 : w3.cell? ⟨rb, 5, none⟩ = some (.slice none 0 0) := S8.out.cell 5
        have g0 : w3.cell? ⟨w2.heap.size, 0, none⟩ = some (.int .i64 t.k) := S9.out.cell 0
        have g1 : w3.cell? ⟨w2.heap.size, 1, none⟩ = some (.int .i64 t.n) := S9.out.cell 1
        have g2 : w3.cell? ⟨w2.heap.size, 2, none⟩ = some (.string t.nm) := S9.out.cell 2
        have g3 : w3.cell? ⟨w2.heap.size, 3, none⟩ = some (.slice ia t.is.length ic) := S9.out.cell 3
        have g4 : w3.cell? ⟨w2.heap.size, 4, none⟩ = some (.slice ra t.rs.length rc) := S9.out.cell 4
        have g5 : w3.cell? ⟨w2.heap.size, 5, none⟩ = some (.slice ba t.bs.length bc) := S9.out.cell 5
        have S10 := hid ((((((S8.out.set 0 (.int .i64 t.k)).set 1 (.int .i64 t.n)).set 2 (.string t.nm)).set 3 (.slice ia t.is.length ic)).set 4 (.slice ra t.rs.length rc)).set 5 (.slice ba t.bs.length bc))
        go_wp2_with fail
        exact bodyPost_ret (v := .tuple #[.agg (tv6 t.k t.n t.nm ia t.is.length ic ra t.rs.length rc ba t.bs.length bc).toArray, .nilIface]) (by simp [results, Tryd.results31, go_sem, tv6, e0, e1, e2, e3, e4, e5]) rfl ⟨ia, ic, ra, rc, ba, bc, h7, rfl, L7.out, HX.out.2.2, HX.out.1, HX.out.2.1, S10.out.drop.swap.drop.swap.drop⟩
      | some nk =>
        obtain ⟨n7, k7⟩ := nk
        have e7 := HE7.out
        rw [hro] at e7
        have e7 : ErrIn h7 v7 [(tTerm, n7)] k7 := e7
        obtain ⟨ty7, x7, rfl⟩ := e7.iface
        have HA := hid (at_some S7.out ⟨#[112, 97, 114, 115, 101]⟩ 0 e7)
        have hp : parsF s = none := by unfold parsF; rw [hrun]; simp only; rw [hro]
        obtain rfl : pq = none := by rw [← HPQ.out, hp]
        clear hp hro e7 HE7 hrun
        go_wp2_with fail
        refine HA.out.mono ?_
        rintro e w4 ⟨v', h4, rfl, l4, hE4, s6⟩
        have e0 : w4.cell? ⟨rb, 0, none⟩ = some (.int .i64 0) := s6.rot3.cell 0
        have e1 : w4.cell? ⟨rb, 1, none⟩ = some (.int .i64 0) := s6.rot3.cell 1
        have e2 : w4.cell? ⟨rb, 2, none⟩ = some (.string ⟨#[]⟩) := s6.rot3.cell 2
        have e3 : w4.cell? ⟨rb, 3, none⟩ = some (.slice none 0 0) := s6.rot3.cell 3
        have e4 : w4.cell? ⟨rb, 4, none⟩ = some (.slice none 0 0) := s6.rot3.cell 4
        have e5 : w4.cell? ⟨rb, 5, none⟩ = some (.slice none 0 0) := s6.rot3.cell 5
        have f0 := s6.rot3.free 0
        have f1 := s6.rot3.free 1
        have f2 := s6.rot3.free 2
        have f3 := s6.rot3.free 3
        have f4 := s6.rot3.free 4
        have f5 := s6.rot3.free 5
        have S8 := hid (tb_same s6.rot3)
        have HE4 := hid hE4
        have L8 := hid (L7.out.trans l4)
        clear s6 hE4 HA l4
        go_wp2_with fail
        exact bodyPost_ret (v := .tuple #[.agg (tv6 0 0 ⟨#[]⟩ none 0 0 none 0 0 none 0 0).toArray, v']) (by simp [results, Tryd.results31, go_sem, tv6, e0, e1, e2, e3, e4, e5]) rfl ⟨v', _, _, h4, rfl, L8.out, HE4.out, S8.out.drop.swap.drop.swap.drop⟩
end
end Go.Proofs.YteaabbghnfideaaDoor
