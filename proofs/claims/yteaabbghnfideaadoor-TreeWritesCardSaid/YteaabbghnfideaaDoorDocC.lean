/-
  The document's texts (trouperef02): put, Text. (Written by wip/gen/gen_docc.py.)
-/
import Derived.Test.YteaabbghnfideaaDoorDocB
namespace Go.Proofs.YteaabbghnfideaaDoor
open Go.RowKit
set_option maxHeartbeats 4000000
set_option maxRecDepth 100000

theorem u8Info : (Tryd.prog.info? 5).map (fun i => (i.zero, i.size, i.bytes)) = some (some (.int .u8 0), 1, 1) := by kernel_rfl
section
variable {W w : World} {L : List HP} {e n c : Nat} {a : Option Addr} {xs : List Value} {P : Program} {t u : Nat}
theorem step_str {ops : Array Oper} {o : Oper} {ac : Act} {K : Act → World → Prop} {Q : Exit → Act → World → Prop} {E' : Prop} (hgd : o.guard = none) (so xo : Operand)
    (ho : o.op = .call { callee := .builtin .append, args := #[so, xo], argTypes := #[t, u] }) (ht : P.underlying t = some (.slice e)) (hu : P.underlying u = some .string) (h2 : (P.info? e).map (fun i => (i.zero, i.size, i.bytes)) = some (some (.int .u8 0), 1, 1))
    (hs : ac.eval so = .slice a n c) (s : Sat W w (row e 1 a n c xs :: L)) (str : ByteArray) (hx : ac.eval xo = .string str) (h63 : n + str.size ≤ maxLen) (hb : n + str.size ≤ 140737488355328)
    (h : ∀ a' c' w', Sat W w' (row e 1 a' (n + str.size) c' (xs ++ Lib.strCells str) :: L) → w.heap.size ≤ w'.heap.size → K (ac.put o.dst (.slice a' (n + str.size) c')) w') :
    if Region.wanted o (yielded ops ac.tmps) = true then Oper.wp P o ac w K Q else E' := by
  have hw : Region.wanted o (yielded ops ac.tmps) = true := by simp [Region.wanted, hgd]
  rw [if_pos hw]
  obtain ⟨a', c', w', hr, h3, h4⟩ := run_append_strS o.type ht hu h2 s str h63 hb
  unfold Oper.wp execOp
  simp only [ho, resolve, invoke, builtin, Sem.run_bind, Sem.run_pure, Result.andThen_ok, List.map_toArray, List.map_cons, List.map_nil, hs, hx, hr]
  exact h a' c' w' h3 h4
end
theorem u8s_str (l m : List Int) (q : ByteArray) (h : byts q = m) : u8s l ++ Lib.strCells q = u8s (l ++ m) := by rw [strCells_byts, h, ← u8s_append]
theorem siz_str {q : ByteArray} {m : List Int} (h : byts q = m) : q.size = m.length := by rw [← h, byts_len]
theorem fl_kinds {t : T} (h : flds t = true) : 1 ≤ t.k ∧ t.k ≤ 8 := by
  unfold flds fldB at h
  repeat' split at h
  all_goals first | omega | (cases h)
theorem fl_five {t : T} (h : flds t = true) (hk : t.k = 5) : t.rs = [] := by
  have h0 : t.rs.length = 0 := by
    unfold flds at h
    rw [hk] at h
    revert h
    generalize t.rs.length = nr
    generalize restK t = rk
    intro h
    unfold fldB at h
    simp at h
    omega
  exact List.eq_nil_of_length_eq_zero h0
theorem fl_seven {t : T} (h : flds t = true) (hk : t.k = 7) : t.rs.length ≤ 1 := by
  unfold flds at h
  rw [hk] at h
  revert h
  generalize t.rs.length = nr
  generalize restK t = rk
  intro h
  unfold fldB at h
  simp at h
  omega
section
variable {W w : World} {L : List HP} {h : Nat → Option Obj} {a : Option Addr} {n c : Nat} {l : List Int}
theorem put_1 (S : Sat W w (row 5 1 a n c (u8s l) :: arch h :: L)) (x : Int) (v2 v3 v4 v5 : Value) (hf : fits x) (hb : l.length + (num x).length ≤ 140737488355328) :
    Calls Tryd.prog 65 #[.slice a n c, .agg #[.int .i64 1, .int .i64 x, v2, v3, v4, v5]] w fun e w' => ∃ a' n' c', e = .returned (.slice a' n' c') ∧ Sat W w' (row 5 1 a' n' c' (u8s (l ++ num x)) :: arch h :: L) := by
  have hl := S.rowLen.1
  rw [length_u8s, Nat.mul_one] at hl
  have S1 := hid ((S.allocAt (k := w.heap.size) (.cells #[.int .i64 1, .int .i64 x, v2, v3, v4, v5] 25) rfl).unrot3)
  have HLN := hid hl
  have HF := hid hf
  have HB := hid hb
  clear S hf hl hb
  go_enter Tryd.func65, Tryd.ntmps65
  go_wp2_with fail
  refine (dec_any x HF.out _).mono ?_
  rintro e w1 ⟨q, rfl, hq, rfl⟩
  have HQ := hid hq
  have hqs := siz_str hq
  have HQS := hid hqs
  clear hq hqs
  go_wp2_with (at_builtin; refine wpList_append_str rfl _ _ rfl Tryd.underlying23 Tryd.underlying9 u8Info rfl S1.out q rfl (by unfold maxLen; (have := HLN.out; have := HB.out; have := HQS.out; omega)) (by (have := HLN.out; have := HB.out; have := HQS.out; omega)) ?_; intro a2 c2 x2 s2 hz; have S2 := hid s2; clear s2 S1)
  go_ret
  exact ⟨a2, _, c2, rfl, by have := S2.out.rot3.drop; rw [u8s_str _ _ _ HQ.out] at this; exact this⟩
theorem put_2 (S : Sat W w (row 5 1 a n c (u8s l) :: arch h :: L)) (v1 : Value) (nm : ByteArray) (v3 v4 v5 : Value) (hf : nm.size ≤ 1000000) (hb : l.length + (nameT nm).length ≤ 140737488355328) :
    Calls Tryd.prog 65 #[.slice a n c, .agg #[.int .i64 2, v1, .string nm, v3, v4, v5]] w fun e w' => ∃ a' n' c', e = .returned (.slice a' n' c') ∧ Sat W w' (row 5 1 a' n' c' (u8s (l ++ nameT nm)) :: arch h :: L) := by
  have hl := S.rowLen.1
  rw [length_u8s, Nat.mul_one] at hl
  have S1 := hid ((S.allocAt (k := w.heap.size) (.cells #[.int .i64 2, v1, .string nm, v3, v4, v5] 25) rfl).unrot3)
  have HLN := hid hl
  have HF := hid hf
  have HB := hid hb
  clear S hf hl hb
  go_enter Tryd.func65, Tryd.ntmps65
  go_wp2_with fail
  refine (name_any nm HF.out S1.out).mono ?_
  rintro e w1 ⟨q, rfl, hq, s⟩
  clear S1
  have S1 := hid s
  have HQ := hid hq
  have hqs := siz_str hq
  have HQS := hid hqs
  clear hq hqs s
  go_wp2_with (at_builtin; refine wpList_append_str rfl _ _ rfl Tryd.underlying23 Tryd.underlying9 u8Info rfl S1.out q rfl (by unfold maxLen; (have := HLN.out; have := HB.out; have := HQS.out; omega)) (by (have := HLN.out; have := HB.out; have := HQS.out; omega)) ?_; intro a2 c2 x2 s2 hz; have S2 := hid s2; clear s2 S1)
  go_ret
  exact ⟨a2, _, c2, rfl, by have := S2.out.rot3.drop; rw [u8s_str _ _ _ HQ.out] at this; exact this⟩
theorem put_3 (S : Sat W w (row 5 1 a n c (u8s l) :: arch h :: L)) (x : Int) (v2 v3 v4 v5 : Value) (hf : fits x) (hb : l.length + ([35, 114] ++ num x).length ≤ 140737488355328) :
    Calls Tryd.prog 65 #[.slice a n c, .agg #[.int .i64 3, .int .i64 x, v2, v3, v4, v5]] w fun e w' => ∃ a' n' c', e = .returned (.slice a' n' c') ∧ Sat W w' (row 5 1 a' n' c' (u8s (l ++ ([35, 114] ++ num x))) :: arch h :: L) := by
  have hl := S.rowLen.1
  rw [length_u8s, Nat.mul_one] at hl
  have S1 := hid ((S.allocAt (k := w.heap.size) (.cells #[.int .i64 3, .int .i64 x, v2, v3, v4, v5] 25) rfl).unrot3)
  have HLN := hid hl
  have HF := hid hf
  have HB : Hid (l.length + 2 + (num x).length ≤ 140737488355328) := hid (by simp at hb; omega)
  clear S hf hl hb
  go_enter Tryd.func65, Tryd.ntmps65
  go_upto_region 7 with fail
  have S := hid S1.out.drew
  clear S1
  have j1 : World.cell? _ ⟨w.heap.size, 1, none⟩ = some (.int .i64 x) := S.out.rot3.cell 1
  go_region_law (first
    | (go_simp
       go_at_call 75
       refine (dec_any x HF.out _).mono ?_
       rintro e w1 ⟨q, rfl, hq, rfl⟩
       have HQ := hid hq
       have hqs := siz_str hq
       have HQS := hid hqs
       clear hq hqs)
    | (fail_if_success have tok := S2.out
       refine step_str rfl _ _ rfl Tryd.underlying23 Tryd.underlying9 u8Info rfl S.out ⟨#[35, 114]⟩ rfl (by have := HLN.out; have := HB.out; have e : (⟨#[35, 114]⟩ : ByteArray).size = 2 := rfl; unfold maxLen; omega) (by have := HLN.out; have := HB.out; have e : (⟨#[35, 114]⟩ : ByteArray).size = 2 := rfl; omega) ?_
       intro a2 c2 x2 s2 hz
       have S2 := hid s2
       have j2 : World.cell? x2 ⟨w.heap.size, 1, none⟩ = some (.int .i64 x) := s2.rot3.cell 1
       clear s2)
    | (refine step_str rfl _ _ rfl Tryd.underlying23 Tryd.underlying9 u8Info rfl S2.out q rfl (by have := HLN.out; have := HB.out; have := HQS.out; have e : (⟨#[35, 114]⟩ : ByteArray).size = 2 := rfl; unfold maxLen; omega) (by have := HLN.out; have := HB.out; have := HQS.out; have e : (⟨#[35, 114]⟩ : ByteArray).size = 2 := rfl; omega) ?_
       intro a3 c3 x3 s3 hz
       have S3 := hid s3
       clear s3))
  all_goals go_wp2_with fail
  all_goals go_ret
  all_goals exact ⟨a3, _, c3, rfl, by have := S3.out.rot3.drop; rw [u8s_str _ [35, 114] _ rfl, u8s_str _ _ _ HQ.out, List.append_assoc] at this; exact this⟩
theorem put_4 (S : Sat W w (row 5 1 a n c (u8s l) :: arch h :: L)) (x : Int) (v2 v3 v4 v5 : Value) (hf : fits x) (hb : l.length + ([35, 112] ++ num x).length ≤ 140737488355328) :
    Calls Tryd.prog 65 #[.slice a n c, .agg #[.int .i64 4, .int .i64 x, v2, v3, v4, v5]] w fun e w' => ∃ a' n' c', e = .returned (.slice a' n' c') ∧ Sat W w' (row 5 1 a' n' c' (u8s (l ++ ([35, 112] ++ num x))) :: arch h :: L) := by
  have hl := S.rowLen.1
  rw [length_u8s, Nat.mul_one] at hl
  have S1 := hid ((S.allocAt (k := w.heap.size) (.cells #[.int .i64 4, .int .i64 x, v2, v3, v4, v5] 25) rfl).unrot3)
  have HLN := hid hl
  have HF := hid hf
  have HB : Hid (l.length + 2 + (num x).length ≤ 140737488355328) := hid (by simp at hb; omega)
  clear S hf hl hb
  go_enter Tryd.func65, Tryd.ntmps65
  go_upto_region 9 with fail
  have S := hid S1.out.drew
  clear S1
  have j1 : World.cell? _ ⟨w.heap.size, 1, none⟩ = some (.int .i64 x) := S.out.rot3.cell 1
  go_region_law (first
    | (go_simp
       go_at_call 75
       refine (dec_any x HF.out _).mono ?_
       rintro e w1 ⟨q, rfl, hq, rfl⟩
       have HQ := hid hq
       have hqs := siz_str hq
       have HQS := hid hqs
       clear hq hqs)
    | (fail_if_success have tok := S2.out
       refine step_str rfl _ _ rfl Tryd.underlying23 Tryd.underlying9 u8Info rfl S.out ⟨#[35, 112]⟩ rfl (by have := HLN.out; have := HB.out; have e : (⟨#[35, 112]⟩ : ByteArray).size = 2 := rfl; unfold maxLen; omega) (by have := HLN.out; have := HB.out; have e : (⟨#[35, 112]⟩ : ByteArray).size = 2 := rfl; omega) ?_
       intro a2 c2 x2 s2 hz
       have S2 := hid s2
       have j2 : World.cell? x2 ⟨w.heap.size, 1, none⟩ = some (.int .i64 x) := s2.rot3.cell 1
       clear s2)
    | (refine step_str rfl _ _ rfl Tryd.underlying23 Tryd.underlying9 u8Info rfl S2.out q rfl (by have := HLN.out; have := HB.out; have := HQS.out; have e : (⟨#[35, 112]⟩ : ByteArray).size = 2 := rfl; unfold maxLen; omega) (by have := HLN.out; have := HB.out; have := HQS.out; have e : (⟨#[35, 112]⟩ : ByteArray).size = 2 := rfl; omega) ?_
       intro a3 c3 x3 s3 hz
       have S3 := hid s3
       clear s3))
  all_goals go_wp2_with fail
  all_goals go_ret
  all_goals exact ⟨a3, _, c3, rfl, by have := S3.out.rot3.drop; rw [u8s_str _ [35, 112] _ rfl, u8s_str _ _ _ HQ.out, List.append_assoc] at this; exact this⟩
theorem put_6 (S : Sat W w (row 5 1 a n c (u8s l) :: arch h :: L)) (v1 v2 v3 v4 v5 : Value) (hb : l.length + 2 ≤ 140737488355328) :
    Calls Tryd.prog 65 #[.slice a n c, .agg #[.int .i64 6, v1, v2, v3, v4, v5]] w fun e w' => ∃ a' n' c', e = .returned (.slice a' n' c') ∧ Sat W w' (row 5 1 a' n' c' (u8s (l ++ [91, 93])) :: arch h :: L) := by
  have hl := S.rowLen.1
  rw [length_u8s, Nat.mul_one] at hl
  have S1 := hid ((S.allocAt (k := w.heap.size) (.cells #[.int .i64 6, v1, v2, v3, v4, v5] 25) rfl).unrot3)
  have HLN := hid hl
  have HB := hid hb
  clear S hl hb
  go_enter Tryd.func65, Tryd.ntmps65
  go_wp2_with (at_builtin; refine wpList_append_str rfl _ _ rfl Tryd.underlying23 Tryd.underlying9 u8Info rfl S1.out ⟨#[91, 93]⟩ rfl (by unfold maxLen; (have := HLN.out; have := HB.out; have e : (⟨#[91, 93]⟩ : ByteArray).size = 2 := rfl; omega)) (by (have := HLN.out; have := HB.out; have e : (⟨#[91, 93]⟩ : ByteArray).size = 2 := rfl; omega)) ?_; intro a2 c2 x2 s2 hz; have S2 := hid s2; clear s2 S1)
  go_ret
  exact ⟨a2, _, c2, rfl, by have := S2.out.rot3.drop; rw [u8s_str _ [91, 93] _ rfl] at this; exact this⟩
end
#print axioms put_6
end Go.Proofs.YteaabbghnfideaaDoor
