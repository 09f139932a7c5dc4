/-
  vet: instruction. (Written by wip/gen/gen_vetc.py.)
-/
import Derived.Test.YtohdhckafebmhaaDoorVetB
namespace Go.Proofs.YtohdhckafebmhaaDoor
open Go.RowKit
set_option maxHeartbeats 4000000

theorem shp_len : shps.length = 42 := by rfl
theorem shp_size : ∀ o : Fin 42, o.1 ≠ 0 → (shps[o.1]'(by rw [shp_len]; exact o.2)).size = 3 := by decide
theorem shp_0 : shps[0]? = some ByteArray.empty := by rfl
theorem in_eq {n b : Int} {r : Bool} {w : World} (h : inB n b = r) : Calls Tryd.prog 39 #[.int .i64 n, .int .i64 b] w fun e w' => e = .returned (.bool r) ∧ w' = w := by
  rw [← h]
  refine (in_any n b w).mono ?_
  rintro e w' ⟨rfl, rfl⟩
  exact ⟨rfl, rfl⟩
def opnd (x : In) (i : Nat) : Int := if i = 0 then x.a else if i = 1 then x.b else x.c
def ordE (m : Md) (f : Fn) (x : In) (i : Nat) : Int := opdE m f (letAt x.op i) (opnd x i)
theorem ins_pass {m : Md} {f : Fn} {x : In} (h : 0 ≤ x.op ∧ x.op < 42) (h0 : x.op ≠ 0) (hz : ∀ j, j < 3 → ordE m f x j = 0) : insE m f x = if (rowE m x).2 > 16 - (rowE m x).1 then 12 else 0 := by
  have a0 : opdE m f (letAt x.op 0) x.a = 0 := hz 0 (by omega)
  have a1 : opdE m f (letAt x.op 1) x.b = 0 := hz 1 (by omega)
  have a2 : opdE m f (letAt x.op 2) x.c = 0 := hz 2 (by omega)
  unfold insE
  rw [if_neg (by rintro (q | q); exact q h; exact h0 q), if_neg (fun q => q a0), if_neg (fun q => q a1), if_neg (fun q => q a2)]
theorem ins_stop {m : Md} {f : Fn} {x : In} {i : Nat} (h : 0 ≤ x.op ∧ x.op < 42) (h0 : x.op ≠ 0) (hi : i < 3) (hz : ∀ j, j < i → ordE m f x j = 0) (hn : ordE m f x i ≠ 0) : insE m f x = ordE m f x i := by
  unfold insE
  rw [if_neg (by rintro (q | q); exact q h; exact h0 q)]
  match i, hi with
  | 0, _ =>
    have a0 : opdE m f (letAt x.op 0) x.a ≠ 0 := hn
    rw [if_pos a0]; rfl
  | 1, _ =>
    have a0 : opdE m f (letAt x.op 0) x.a = 0 := hz 0 (by omega)
    have a1 : opdE m f (letAt x.op 1) x.b ≠ 0 := hn
    rw [if_neg (fun q => q a0), if_pos a1]; rfl
  | 2, _ =>
    have a0 : opdE m f (letAt x.op 0) x.a = 0 := hz 0 (by omega)
    have a1 : opdE m f (letAt x.op 1) x.b = 0 := hz 1 (by omega)
    have a2 : opdE m f (letAt x.op 2) x.c ≠ 0 := hn
    rw [if_neg (fun q => q a0), if_neg (fun q => q a1), if_pos a2]; rfl
theorem let_eq {o i : Nat} {s : ByteArray} (hs : shps[o]? = some s) (hi : i < s.size) : letAt (o : Int) i = ((s[i]'hi).toNat : Int) := by
  have hd : s.data.toList[i]? = some (s[i]'hi) := by
    have hi' : i < s.data.size := hi
    rw [Array.getElem?_toList, Array.getElem?_eq_getElem hi']
    rfl
  unfold letAt
  rw [Int.toNat_natCast, hs]
  show (((s.data.toList[i]?).getD 0).toNat : Int) = _
  rw [hd]
  rfl
theorem opnd_fits {x : In} (h : InOk x) (i : Nat) : fits (opnd x i) := by
  unfold opnd
  split
  · exact h.a
  split
  · exact h.b
  exact h.c
theorem let_98 : ∀ (o : Fin 42) (i : Fin 3), letAt (o.1 : Int) i.1 = 98 → o.1 = 12 := by decide +kernel
theorem inB_lt {n b : Int} (h : inB n b = true) : 0 ≤ n ∧ n < b := of_decide_eq_true h
theorem opd_x {m : Md} {f : Fn} {n : Int} (h : opdE m f 120 n = 0) : 0 ≤ n ∧ n < 16 := by
  cases hb : inB n 16 with
  | true => exact inB_lt hb
  | false => rw [show opdE m f 120 n = 12 by simp [opdE, regB, hb]] at h; omega
theorem opd_b {m : Md} {f : Fn} {n : Int} (h : opdE m f 98 n = 0) : 0 ≤ n ∧ n < 40 := by
  cases hb : inB n 40 with
  | true => exact inB_lt hb
  | false => rw [show opdE m f 98 n = 12 by simp [opdE, hb]] at h; omega
theorem opd_f {m : Md} {f : Fn} {n : Int} (h : opdE m f 102 n = 0) : 0 ≤ n ∧ n < m.fs.length := by
  cases hb : inB n m.fs.length with
  | true => exact inB_lt hb
  | false => rw [show opdE m f 102 n = 12 by simp [opdE, hb]] at h; omega
theorem row_12 {m : Md} {f : Fn} {x : In} (hz : ∀ j, j < 3 → ordE m f x j = 0) (e : x.op = 12) : 0 ≤ x.a ∧ x.a < 40 := by
  have a0 : opdE m f (letAt x.op 0) x.a = 0 := hz 0 (by omega)
  rw [e] at a0
  exact opd_b a0
theorem row_16 {m : Md} {f : Fn} {x : In} (hz : ∀ j, j < 3 → ordE m f x j = 0) (e : x.op = 16) : 0 ≤ x.b ∧ x.b < m.fs.length := by
  have a0 : opdE m f (letAt x.op 1) x.b = 0 := hz 1 (by omega)
  rw [e] at a0
  exact opd_f a0
theorem row_small {m : Md} {f : Fn} {x : In} (hz : ∀ j, j < 3 → ordE m f x j = 0) : 0 ≤ (rowE m x).1 ∧ (rowE m x).1 < 16 := by
  have a1 : opdE m f (letAt x.op 1) x.b = 0 := hz 1 (by omega)
  have a2 : opdE m f (letAt x.op 2) x.c = 0 := hz 2 (by omega)
  unfold rowE
  split
  · next e => rw [e] at a1; exact opd_x a1
  split
  · next e => rw [e] at a2; exact opd_x a2
  split
  · next e => rw [e] at a2; exact opd_x a2
  split
  · next e => rw [e] at a1; exact opd_x a1
  exact ⟨Int.le_refl _, by decide⟩
theorem vetc_shp (mv fv : List Value) (h1 : mv.length = 3) (h2 : fv.length = 4) (o : Nat) : (vetc mv fv)[7 + o]? = (shps[o]?).map Value.string := by
  unfold vetc
  rw [List.getElem?_toArray, List.getElem?_append_right (by rw [List.length_append, h1, h2]; omega), List.length_append, h1, h2]
  unfold shpV
  rw [List.getElem?_map]
  congr 2
  omega
section
variable {W w : World} {L : List HP} {h : Nat → Option Obj} {v : Nat} {nm fn : ByteArray} {la fa ca : Option Addr} {nl lc nf fc nc cc : Nat} {ar sl : Int}
set_option maxRecDepth 100000 in
theorem ins_any (S : Sat W w (blk v (.cells (vetc [.string nm, .slice la nl lc, .slice fa nf fc] [.string fn, .int .i64 ar, .int .i64 sl, .slice ca nc cc]) 72 (0, 0)) :: arch h :: L)) (m : Md) (f : Fn) (h1 : m.lits.length = nl) (h2 : m.fs.length = nf) (h3 : f.code.length = nc) (h4 : f.slots = sl) (x : In) (hx : InOk x) (hin : FsIn h m.fs fa) (hok : ∀ f ∈ m.fs, fits f.args) (hb : x.op = 12 → BifC) :
    Calls Tryd.prog 55 #[.pointer (some ⟨v, 0, none⟩), .agg (InVals x).toArray] w fun e w' => e = .returned (errV (insE m f x)) ∧ Sat W w' (blk v (.cells (vetc [.string nm, .slice la nl lc, .slice fa nf fc] [.string fn, .int .i64 ar, .int .i64 sl, .slice ca nc cc]) 72 (0, 0)) :: arch h :: L) := by
  obtain ⟨r, HR⟩ : ∃ r, Hid (insE m f x = r) := ⟨_, hid rfl⟩
  rw [HR.out]
  have S1 := hid (S.allocAt (k := w.heap.size) (.cells (InVals x).toArray 36) rfl)
  have HIN := hid hin
  have HOK := hid hok
  have HB := hid hb
  have H1 := hid h1
  have H2 := hid h2
  have H3 := hid h3
  have H4 := hid h4
  have HX := hid hx
  have HO := hid hx.op
  clear S hx hin hok hb h1 h2 h3 h4
  by_cases hop : 0 ≤ x.op ∧ x.op < 42
  · obtain ⟨o, HOP⟩ : ∃ o : Nat, Hid (x.op = o) := ⟨x.op.toNat, hid (by omega)⟩
    have ho : o < 42 := by have := HOP.out; omega
    have hi : inB (o : Int) 42 = true := decide_eq_true (by omega)
    obtain ⟨s, hs⟩ : ∃ s, shps[o]? = some s := ⟨_, List.getElem?_eq_getElem (by rw [shp_len]; exact ho)⟩
    have hcs : (w.alloc (.cells (InVals x).toArray 36)).cell? ⟨v, 7 + o, none⟩ = some (.string s) := by rw [S1.out.swap.cell, vetc_shp _ _ rfl rfl, hs]; rfl
    have hlt := S1.out.swap.lt
    unfold InVals at S1 hcs hlt ⊢
    rw [HOP.out] at S1 hcs hlt ⊢
    clear hop
    by_cases h0 : o = 0
    · have hr : r = 1 := by rw [← HR.out]; unfold insE; rw [HOP.out, h0]; simp
      have hse : s = ByteArray.empty := by rw [h0, shp_0] at hs; exact (Option.some.inj hs).symm
      subst hse
      subst hr
      subst h0
      have hi0 : inB 0 42 = true := hi
      have hcs0 : (w.alloc (.cells #[.int .i64 0, .int .i64 x.a, .int .i64 x.b, .int .i64 x.c] 36)).cell? ⟨v, 7, none⟩ = some (.string ⟨#[]⟩) := hcs
      have SZ : Hid (Sat W (w.alloc (.cells #[.int .i64 0, .int .i64 x.a, .int .i64 x.b, .int .i64 x.c] 36)) _) := hid S1.out.drop
      show Calls Tryd.prog 55 #[.pointer (some ⟨v, 0, none⟩), .agg #[.int .i64 0, .int .i64 x.a, .int .i64 x.b, .int .i64 x.c]] w _
      have HBI := hid fun (wx : World) => in_eq (w := wx) hi0
      clear HR hs hi hcs S1
      go_enter Tryd.func55, Tryd.ntmps55
      go_wp2_with fail
      go_quiet ((go_at_call 39; exact Calls.quiet_of_same (HBI.out _)))
      go_wp2_with fail
      go_ret
      exact ⟨rfl, SZ.out.drewN _⟩
    · have hsz : s.size = 3 := by
        have h9 := shp_size ⟨o, ho⟩ h0
        rw [List.getElem?_eq_getElem (by rw [shp_len]; exact ho)] at hs
        rw [Option.some.inj hs] at h9
        exact h9
      obtain ⟨g1, g2, g3⟩ := size1 (by omega : ¬ s.size = 0)
      have HBI := hid fun (wx : World) => in_eq (w := wx) hi
      have hoi : (o : Int) < 42 := by omega
      clear hi
      go_enter Tryd.func55, Tryd.ntmps55
      go_wp2_with fail
      go_quiet ((go_at_call 39; exact Calls.quiet_of_same (HBI.out _)))
      go_wp2_with fail
      obtain ⟨ib, HIBB⟩ : ∃ ib, Hid (w.heap.size = ib) := ⟨_, hid rfl⟩
      obtain ⟨lb, HLB⟩ : ∃ lb, Hid (w.heap.size + 1 = lb) := ⟨_, hid rfl⟩
      have S2 := hid ((S1.out.drewN nq).allocAt (k := lb) (.cells #[.int .i64 x.a, .int .i64 x.b, .int .i64 x.c] 3) (by rw [← HLB.out]; simp))
      rw [HIBB.out] at S2 ⊢
      rw [HIBB.out] at HLB
      rw [HLB.out]
      clear hcs hlt S1 HBI
      go_loopw [33] (fun iv wr => ∃ i : Nat, i ≤ 3 ∧ iv = .int .i64 i ∧ Hid (∀ j, j < i → ordE m f x j = 0) ∧ Hid (Sat W wr (blk lb (.cells #[.int .i64 x.a, .int .i64 x.b, .int .i64 x.c] 3 (0, 0)) :: blk ib (.cells #[.int .i64 o, .int .i64 x.a, .int .i64 x.b, .int .i64 x.c] 36 (0, 0)) :: blk v (.cells (vetc [.string nm, .slice la nl lc, .slice fa nf fc] [.string fn, .int .i64 ar, .int .i64 sl, .slice ca nc cc]) 72 (0, 0)) :: arch h :: L))) (fun iv _ => 3 - (intOf iv).toNat)
      case atStart => exact ⟨0, by omega, rfl, hid (fun j hj => absurd hj (Nat.not_lt_zero j)), S2⟩
      case round =>
        obtain ⟨i, hi, rfl, HZ, S⟩ := hrel
        clear S2
        have z0 : wr.cell? ⟨v, 7 + o, none⟩ = some (.string s) := by rw [S.out.rot3.cell, vetc_shp _ _ rfl rfl, hs]; rfl
        have n0 : wr.cell? ⟨ib, 0, none⟩ = some (.int .i64 o) := S.out.swap.cell 0
        by_cases hlt : i < 3
        · have z1 : wr.cell? ⟨lb, i, none⟩ = some (.int .i64 (opnd x i)) := by
            rw [S.out.cell i]
            match i, hlt with
            | 0, _ => rfl
            | 1, _ => rfl
            | 2, _ => rfl
          have hvlt := World.block_lt_of_cell? _ _ z0
          have hilt := World.block_lt_of_cell? _ _ n0
          have hj3 : decide ((i : Int) < 3) = true := decide_eq_true (by omega)
          have hi3 : (i : Int) < 3 := by omega
          go_wp2_with fail
          have hlt2 : i < s.size := by omega
          obtain ⟨q, HQ⟩ : ∃ q, Hid (errV (ordE m f x i) = q) := ⟨_, hid rfl⟩
          have hle := let_eq hs hlt2
          have HC : Hid (∀ wx, Sat W wx (blk lb (.cells #[.int .i64 x.a, .int .i64 x.b, .int .i64 x.c] 3 (0, 0)) :: blk ib (.cells #[.int .i64 o, .int .i64 x.a, .int .i64 x.b, .int .i64 x.c] 36 (0, 0)) :: blk v (.cells (vetc [.string nm, .slice la nl lc, .slice fa nf fc] [.string fn, .int .i64 ar, .int .i64 sl, .slice ca nc cc]) 72 (0, 0)) :: arch h :: L) → Calls Tryd.prog 63 #[.pointer (some ⟨v, 0, none⟩), .int .u8 ((s[i]'hlt2).toNat : Int), .int .i64 (opnd x i)] wx fun e w' => e = .returned q ∧ Sat W w' (blk lb (.cells #[.int .i64 x.a, .int .i64 x.b, .int .i64 x.c] 3 (0, 0)) :: blk ib (.cells #[.int .i64 o, .int .i64 x.a, .int .i64 x.b, .int .i64 x.c] 36 (0, 0)) :: blk v (.cells (vetc [.string nm, .slice la nl lc, .slice fa nf fc] [.string fn, .int .i64 ar, .int .i64 sl, .slice ca nc cc]) 72 (0, 0)) :: arch h :: L)) := by
            refine hid fun wx SX => ?_
            have h9 := opd_any (SX.imp sw3) m f H1.out H2.out H3.out H4.out ((s[i]'hlt2).toNat : Int) (opnd x i) (fun h98 => HB.out (by rw [HOP.out]; have := let_98 ⟨o, ho⟩ ⟨i, hlt⟩ (by rw [← h98]; exact hle); simp only at this; omega)) (opnd_fits HX.out i)
            refine h9.mono ?_
            rintro e w' ⟨rfl, s1⟩
            refine ⟨?_, s1.unrot3⟩
            rw [← HQ.out]
            unfold ordE
            rw [HOP.out, hle]
          have SS := S
          clear hle
          by_cases hk : ordE m f x i = 0
          · obtain rfl : q = .nilIface := by rw [← HQ.out, hk]; rfl
            go_region_law (first
              | (go_simp
                 go_at_call 63
                 with_reducible refine (HC.out _ SS.out.drew).mono ?_
                 rintro e w2 ⟨rfl, s1⟩
                 clear S z0 n0 z1 SS
                 have S3 := hid s1
                 clear s1))
            all_goals go_wp2_with fail
            all_goals go_roundw
            case rel => exact ⟨i + 1, by omega, by go_num, hid (fun j hj => by rcases (show j < i ∨ j = i by omega) with q | rfl; exact HZ.out j q; exact hk), S3⟩
            case measure => simp [intOf]; omega
          · obtain ⟨e, HE⟩ : ∃ e, Hid (ordE m f x i = e) := ⟨_, hid rfl⟩
            have hr : r = e := by rw [← HR.out, ← HE.out]; exact ins_stop (by have := HOP.out; omega) (by have := HOP.out; omega) hlt HZ.out hk
            rw [HE.out] at hk HQ
            obtain rfl : q = .iface 49 (.int .i64 e) := by rw [← HQ.out]; unfold errV; rw [if_neg hk]
            subst hr
            go_region_law (first
              | (go_simp
                 go_at_call 63
                 with_reducible refine (HC.out _ SS.out.drew).mono ?_
                 rintro e w2 ⟨rfl, s1⟩
                 clear S z0 n0 z1 SS
                 have S3 := hid s1
                 clear s1))
            all_goals go_wp2_with fail
            all_goals go_ret
            all_goals exact ⟨by unfold errV; rw [if_neg hk]; rfl, S3.out.drop.drop⟩
        · obtain rfl : i = 3 := by omega
          have n1 : wr.cell? ⟨ib, 1, none⟩ = some (.int .i64 x.a) := S.out.swap.cell 1
          have n2 : wr.cell? ⟨ib, 2, none⟩ = some (.int .i64 x.b) := S.out.swap.cell 2
          have n3 : wr.cell? ⟨ib, 3, none⟩ = some (.int .i64 x.c) := S.out.swap.cell 3
          have hsm := row_small HZ.out
          have hps := ins_pass (by have := HOP.out; omega) (by have := HOP.out; omega) HZ.out
          have hrw := rowE_any S.out.drop.drop m H2.out x HIN.out (fun e => ⟨HB.out e, row_12 HZ.out e⟩) (fun e => by rw [← H2.out]; exact row_16 HZ.out e)
          obtain ⟨⟨rf, rn⟩, HROW⟩ : ∃ p, Hid (rowE m x = p) := ⟨_, hid rfl⟩
          rw [HROW.out] at hsm hps hrw
          unfold InVals at hrw
          rw [HOP.out] at hrw
          rw [HR.out] at hps
          simp only at hsm hps hrw
          have HRW := hid hrw
          obtain ⟨hsm1, hsm2⟩ := hsm
          clear hrw
          have hlt9 : ¬ ((3 : Nat) : Int) < 3 := by omega
          by_cases hbig : rn > 16 - rf
          · have hr : r = 12 := by rw [hps, if_pos hbig]
            have hwr : IntKind.i64.wrap (16 - rf) = 16 - rf := IntWalk.i64_in _ (by omega)
            subst hr
            clear hps HR
            go_wp2_with fail
            refine HRW.out.mono ?_
            rintro e w2 ⟨rfl, s1⟩
            have S3 := hid s1
            clear s1
            go_wp2_with fail
            go_ret
            exact ⟨rfl, S3.out⟩
          · have hr : r = 0 := by rw [hps, if_neg hbig]
            have hwr : IntKind.i64.wrap (16 - rf) = 16 - rf := IntWalk.i64_in _ (by omega)
            subst hr
            clear hps HR
            go_wp2_with fail
            refine HRW.out.mono ?_
            rintro e w2 ⟨rfl, s1⟩
            have S3 := hid s1
            clear s1
            go_wp2_with fail
            go_ret
            exact ⟨rfl, S3.out⟩
  · have hi : inB x.op 42 = false := decide_eq_false hop
    have hr : r = 1 := by rw [← HR.out]; unfold insE; rw [if_pos (.inl hop)]
    subst hr
    unfold InVals at S1 ⊢
    have HBI := hid fun (wx : World) => in_eq (w := wx) hi
    clear HR hop hi
    go_enter Tryd.func55, Tryd.ntmps55
    go_wp2_with fail
    go_quiet ((go_at_call 39; exact Calls.quiet_of_same (HBI.out _)))
    go_wp2_with fail
    go_ret
    exact ⟨rfl, S1.out.drop.drewN _⟩
end
#print axioms ins_any
end Go.Proofs.YtohdhckafebmhaaDoor
