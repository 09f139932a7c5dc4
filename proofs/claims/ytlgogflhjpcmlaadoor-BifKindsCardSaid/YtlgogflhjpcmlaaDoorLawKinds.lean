/-
  BifKinds: the law's own walk. (Written by wip/gen/gen_lawkinds.py.)
-/
import Derived.Test.YtlgogflhjpcmlaaDoorBifQ
import Derived.Test.YtlgogflhjpcmlaaDoorTArg
namespace Go.Proofs.YtlgogflhjpcmlaaDoor
open Go.RowKit
set_option maxHeartbeats 8000000
set_option maxRecDepth 100000

def nmsK : List ByteArray := [⟨#[105, 115, 95, 105, 110, 116]⟩, ⟨#[105, 115, 95, 97, 116, 111, 109]⟩, ⟨#[105, 115, 95, 112, 105, 100]⟩, ⟨#[105, 115, 95, 114, 101, 102]⟩, ⟨#[105, 115, 95, 116, 117, 112, 108, 101]⟩, ⟨#[105, 115, 95, 108, 105, 115, 116]⟩, ⟨#[105, 115, 95, 98, 105, 110]⟩]
def nmV7 : Array Value := #[.string ⟨#[105, 115, 95, 105, 110, 116]⟩, .string ⟨#[105, 115, 95, 97, 116, 111, 109]⟩, .string ⟨#[105, 115, 95, 112, 105, 100]⟩, .string ⟨#[105, 115, 95, 114, 101, 102]⟩, .string ⟨#[105, 115, 95, 116, 117, 112, 108, 101]⟩, .string ⟨#[105, 115, 95, 108, 105, 115, 116]⟩, .string ⟨#[105, 115, 95, 98, 105, 110]⟩]
theorem nmV_at {i : Nat} {nm : ByteArray} (h : nmsK[i]? = some nm) : nmV7[i]? = some (.string nm) := by
  match i with
  | 0 => cases h; rfl
  | 1 => cases h; rfl
  | 2 => cases h; rfl
  | 3 => cases h; rfl
  | 4 => cases h; rfl
  | 5 => cases h; rfl
  | 6 => cases h; rfl
  | n + 7 => simp [nmsK] at h
theorem fnk_k (i : Nat) (nm : ByteArray) (h : nmsK[i]? = some nm) : FnOk (24 + i) nm 1 (some 55) := by
  match i with
  | 0 => cases h; exact fnk_is_int
  | 1 => cases h; exact fnk_is_atom
  | 2 => cases h; exact fnk_is_pid
  | 3 => cases h; exact fnk_is_ref
  | 4 => cases h; exact fnk_is_tuple
  | 5 => cases h; exact fnk_is_list
  | 6 => cases h; exact fnk_is_bin
  | n + 7 => simp [nmsK] at h
theorem and_six2 {a b c d e f g : Prop} (h : a ∧ b ∧ c ∧ d ∧ e ∧ f) (k : g) : a ∧ b ∧ c ∧ d ∧ e ∧ f ∧ g := ⟨h.1, h.2.1, h.2.2.1, h.2.2.2.1, h.2.2.2.2.1, h.2.2.2.2.2, k⟩
def cntK : Nat → Int → Nat
  | 0, _ => 0
  | i + 1, k => cntK i k + (if isB (24 + i) k then 1 else 0)
theorem cntK_le (i : Nat) (k : Int) : cntK i k ≤ i := by
  induction i with
  | zero => exact Nat.le_refl _
  | succ i ih => unfold cntK; split <;> omega
theorem right_kind {t : T} (h : rightOf t = none) : 1 ≤ t.k ∧ t.k ≤ 8 := by
  have h1 := (TFl.eq.1 (right_fl h)).1
  unfold flds fldB at h1
  by_cases q : 1 ≤ t.k ∧ t.k ≤ 8
  · exact q
  · exfalso
    rw [if_neg (by omega), if_neg (by omega), if_neg (by omega), if_neg (by omega), if_neg (by omega), if_neg (by omega), if_neg (by omega)] at h1
    cases h1
theorem cnt_one {k : Int} (h : 1 ≤ k ∧ k ≤ 8) : cntK 7 k = 1 := by
  have : k = 1 ∨ k = 2 ∨ k = 3 ∨ k = 4 ∨ k = 5 ∨ k = 6 ∨ k = 7 ∨ k = 8 := by omega
  rcases this with rfl | rfl | rfl | rfl | rfl | rfl | rfl | rfl <;> decide
section
variable {W w : World} {L : List HP} {h : Nat → Option Obj}
theorem nm_at {b : Nat} {fr : Nat × Nat} {ty : Nat} (s : Sat W w (blk b (.cells nmV7 ty fr) :: L)) {i : Nat} {nm : ByteArray} (hn : nmsK[i]? = some nm) : World.cell? w ⟨b, i, none⟩ = some (.string nm) := by
  rw [s.cell]; exact nmV_at hn
/-- a block of arguments ahead, another block behind the archive -/
theorem Sat.unrot3x {A B C : HP} (s : Sat W w (A :: B :: C :: L)) : Sat W w (A :: B :: C :: L) := s
theorem do_isk {b : Nat} {a0 a1 a2 a3 a4 a5 : Value} (i : Nat) (nm : ByteArray) (hn : nmsK[i]? = some nm) (q : TabS h) (S : Sat W w (blk b (.cells #[a0, a1, a2, a3, a4, a5] 35 (0, 0)) :: arch h :: L)) (t : T) (q1 : TIn h t [a0, a1, a2, a3, a4, a5]) (o1 : TOk t) (r1 : rightOf t = none) {s : ByteArray} (hz : (if isB (24 + i) t.k then sTrue else sFalse) = s) :
    Calls Tryd.prog 23 #[.string nm, .slice (some ⟨b, 0, none⟩) 1 1] w (AtmL W L h s) := by
  match i with
  | 0 => cases hn; exact do_is_int q S t q1 o1 r1 hz
  | 1 => cases hn; exact do_is_atom q S t q1 o1 r1 hz
  | 2 => cases hn; exact do_is_pid q S t q1 o1 r1 hz
  | 3 => cases hn; exact do_is_ref q S t q1 o1 r1 hz
  | 4 => cases hn; exact do_is_tuple q S t q1 o1 r1 hz
  | 5 => cases hn; exact do_is_list q S t q1 o1 r1 hz
  | 6 => cases hn; exact do_is_bin q S t q1 o1 r1 hz
  | n + 7 => simp [nmsK] at hn
end
theorem kinds_walk {W : World} {t : T} (ct : Array Value) (ht : TGood W ct.toList t) (hT : TabS (heapOf W)) :
    Calls Tryd.prog 12 #[.agg ct] W fun e w' => e = .returned (.bool true) ∧ Below W.heap.size W w' := by
  obtain ⟨hi, ho⟩ := ht
  obtain ⟨it, ict, rt, rct, yt, yct, hcs, _⟩ := id hi.vals
  obtain rfl : ct = #[.int .i64 t.k, .int .i64 t.n, .string t.nm, .slice it t.is.length ict, .slice rt t.rs.length rct, .slice yt t.bs.length yct] := by rw [← Array.toArray_toList (xs := ct), hcs]; rfl
  have hi : TIn (heapOf W) t [.int .i64 t.k, .int .i64 t.n, .string t.nm, .slice it t.is.length ict, .slice rt t.rs.length rct, .slice yt t.bs.length yct] := hi
  have HO := hid ho
  have HI := hid hi
  have HQ := hid hT
  have SS0 := ((Sat.startArch W).allocAt (k := W.heap.size) (.cells #[.int .i64 t.k, .int .i64 t.n, .string t.nm, .slice it t.is.length ict, .slice rt t.rs.length rct, .slice yt t.bs.length yct] 35) rfl).allocAt (k := W.heap.size + 1) (.cells nmV7 9) (by simp)
  have S : Hid (Sat W _ (arch (heapOf W) :: blk W.heap.size (.cells #[.int .i64 t.k, .int .i64 t.n, .string t.nm, .slice it t.is.length ict, .slice rt t.rs.length rct, .slice yt t.bs.length yct] 35 (0, 0)) :: blk (W.heap.size + 1) (.cells nmV7 9 (0, 0)) :: [])) := hid (SS0.sel [2, 1, 0])
  unfold nmV7 at S
  clear hcs ho hi hT SS0
  cases hr : rightOf t with
  | some nk =>
    have HR := hid hr
    obtain ⟨nm, HNM⟩ : ∃ nm, Hid (nmsK[0]? = some nm) := ⟨_, hid rfl⟩
    clear hr
    go_enter Tryd.func12, Tryd.ntmps12
    go_wp2_with fail
    go_loopw [4, 5] (fun yv iv wr => yv = .int .i64 0 ∧ iv = .int .i64 0 ∧ Hid (Sat W wr (arch (heapOf W) :: blk W.heap.size (.cells #[.int .i64 t.k, .int .i64 t.n, .string t.nm, .slice it t.is.length ict, .slice rt t.rs.length rct, .slice yt t.bs.length yct] 35 (0, 0)) :: blk (W.heap.size + 1) (.cells nmV7 9 (0, 0)) :: []))) (fun _ iv _ => 1 - (intOf iv).toNat)
    case atStart => exact ⟨rfl, rfl, S⟩
    case round =>
      obtain ⟨rfl, rfl, S⟩ := hrel
      obtain ⟨h', HH⟩ : ∃ h', Hid (heapOf W = h') := ⟨_, hid rfl⟩
      have SL : Hid (Le (heapOf W) h') := hid (by rw [HH.out]; exact Le.refl _)
      rw [HH.out] at S
      go_upto_region 6 with fail
      go_cut [6, 7] from 15 to 24 (fun pv qv wd => ∃ (yb : Nat) (ia : Option Addr) (ic : Nat) (ra : Option Addr) (rc : Nat) (ba : Option Addr) (bc : Nat) (h2 : Nat → Option Obj), pv = .pointer (some ⟨yb, 0, none⟩) ∧ qv = .bool false ∧ Hid (Le h' h2) ∧ Hid (Sat W wd (arch h2 :: blk yb (.cells #[.int .i64 0, .int .i64 0, .string ⟨#[]⟩, .slice ia 0 ic, .slice ra 0 rc, .slice ba 0 bc] 35 (0, 0)) :: blk W.heap.size (.cells #[.int .i64 t.k, .int .i64 t.n, .string t.nm, .slice it t.is.length ict, .slice rt t.rs.length rct, .slice yt t.bs.length yct] 35 (0, 0)) :: blk (W.heap.size + 1) (.cells nmV7 9 (0, 0)) :: [])))
      case first =>
        refine wp_region_noPanic ?_
        have SS := hid S.out.drew
        have hSw : World.cell? _ ⟨W.heap.size, 0, none⟩ = some (.int .i64 t.k) ∧ World.cell? _ ⟨W.heap.size, 1, none⟩ = some (.int .i64 t.n) ∧ World.cell? _ ⟨W.heap.size, 2, none⟩ = some (.string t.nm) ∧ World.cell? _ ⟨W.heap.size, 3, none⟩ = some (.slice it t.is.length ict) ∧ World.cell? _ ⟨W.heap.size, 4, none⟩ = some (.slice rt t.rs.length rct) ∧ World.cell? _ ⟨W.heap.size, 5, none⟩ = some (.slice yt t.bs.length yct) ∧ World.cell? _ ⟨W.heap.size + 1, 0, none⟩ = some (.string nm) := and_six2 (cells6 SS.out.swap) (nm_at SS.out.rot3 HNM.out)
        refine wp_region_L (S := fun w' => World.cell? w' ⟨W.heap.size, 0, none⟩ = some (.int .i64 t.k) ∧ World.cell? w' ⟨W.heap.size, 1, none⟩ = some (.int .i64 t.n) ∧ World.cell? w' ⟨W.heap.size, 2, none⟩ = some (.string t.nm) ∧ World.cell? w' ⟨W.heap.size, 3, none⟩ = some (.slice it t.is.length ict) ∧ World.cell? w' ⟨W.heap.size, 4, none⟩ = some (.slice rt t.rs.length rct) ∧ World.cell? w' ⟨W.heap.size, 5, none⟩ = some (.slice yt t.bs.length yct) ∧ World.cell? w' ⟨W.heap.size + 1, 0, none⟩ = some (.string nm)) 11 (by kernel_rfl) ?_
        refine wpAnyL_pure (i := 0) (d := 16) (v := ?_) rfl (by kernel_rfl) (by kernel_rfl) (by kernel_rfl) (by kernel_rfl) (by decide) (fun _ _ _ h => h) (Or.inl ⟨by rfl, ?_⟩) (fun _ => hSw) ?_
        rotate_left
        · intro w _; go_simp; all_goals with_reducible rfl
        try simp only [Act.put, List.setIfInBounds_toArray, List.set_cons_zero, List.set_cons_succ]
        refine wpAnyL_pure (i := 1) (d := 17) (v := ?_) rfl (by kernel_rfl) (by kernel_rfl) (by kernel_rfl) (by kernel_rfl) (by decide) (fun _ _ _ h => h) (Or.inl ⟨by rfl, ?_⟩) (fun _ => hSw) ?_
        rotate_left
        · intro w _; go_simp; all_goals with_reducible rfl
        try simp only [Act.put, List.setIfInBounds_toArray, List.set_cons_zero, List.set_cons_succ]
        refine wpAnyL_pure (i := 2) (d := 18) (v := ?_) rfl (by kernel_rfl) (by kernel_rfl) (by kernel_rfl) (by kernel_rfl) (by decide) (fun _ _ _ h => h) (Or.inl ⟨by rfl, ?_⟩) (fun _ => hSw) ?_
        rotate_left
        · intro w _; go_simp; all_goals with_reducible rfl
        try simp only [Act.put, List.setIfInBounds_toArray, List.set_cons_zero, List.set_cons_succ]
        refine wpAnyL_load (i := 3) (d := 19) (v := ?_) rfl (by kernel_rfl) (by kernel_rfl) (by kernel_rfl) (by kernel_rfl) (by decide) (by kernel_rfl) (by kernel_rfl) (fun _ _ _ h => h) (Or.inl ⟨by rfl, ?_⟩) hSw ?_
        rotate_left
        · intro w hSw; (try dsimp only at hSw); go_simp; all_goals with_reducible rfl
        try simp only [Act.put, List.setIfInBounds_toArray, List.set_cons_zero, List.set_cons_succ]
        refine wpAnyL_load (i := 4) (d := 20) (v := ?_) rfl (by kernel_rfl) (by kernel_rfl) (by kernel_rfl) (by kernel_rfl) (by decide) (by kernel_rfl) (by kernel_rfl) (fun _ _ _ h => h) (Or.inl ⟨by rfl, ?_⟩) hSw ?_
        rotate_left
        · intro w hSw; (try dsimp only at hSw); go_simp; all_goals with_reducible rfl
        try simp only [Act.put, List.setIfInBounds_toArray, List.set_cons_zero, List.set_cons_succ]
        refine wpAnyL_ready (rs := [5, 10]) (by kernel_rfl) (by simp) ?_
        refine AllL.cons (o := _) rfl (fun K hK => ?_) (AllL.cons (o := _) rfl (fun K hK => ?_) AllL.nil)
        · skip
          go_simp
          replace SS := hid (S.out.allocAt (k := wr.heap.size) (.cells #[.int .i64 t.k, .int .i64 t.n, .string t.nm, .slice it t.is.length ict, .slice rt t.rs.length rct, .slice yt t.bs.length yct] 35) (by simp)).drew
          replace hSw : World.cell? _ ⟨W.heap.size, 0, none⟩ = some (.int .i64 t.k) ∧ World.cell? _ ⟨W.heap.size, 1, none⟩ = some (.int .i64 t.n) ∧ World.cell? _ ⟨W.heap.size, 2, none⟩ = some (.string t.nm) ∧ World.cell? _ ⟨W.heap.size, 3, none⟩ = some (.slice it t.is.length ict) ∧ World.cell? _ ⟨W.heap.size, 4, none⟩ = some (.slice rt t.rs.length rct) ∧ World.cell? _ ⟨W.heap.size, 5, none⟩ = some (.slice yt t.bs.length yct) ∧ World.cell? _ ⟨W.heap.size + 1, 0, none⟩ = some (.string nm) := and_six2 (cells6 SS.out.rot3) (nm_at SS.out.rot4 HNM.out)
          refine hK.out _ _ (fun _ => hSw) ?_
          clear hK K
          try simp only [Act.put, List.setIfInBounds_toArray, List.set_cons_zero, List.set_cons_succ]
          refine wpAnyL_ready (rs := [6, 10]) (by kernel_rfl) (by simp) ?_
          refine AllL.cons (o := _) rfl (fun K hK => ?_) (AllL.cons (o := _) rfl (fun K hK => ?_) AllL.nil)
          · skip
            go_simp
            go_at_call 23
            refine (do_bad1 (HQ.out.mono SL.out) SS.out (fnk_k 0 nm HNM.out) t (TIn.mono SL.out _ HI.out) HO.out HR.out).mono ?_
            rintro e wd ⟨ia, ic, ra, rc, ba, bc, h2, rfl, l, s, _⟩
            replace SS := hid s
            have LL := hid l
            clear s l
            replace hSw : World.cell? _ ⟨W.heap.size, 0, none⟩ = some (.int .i64 t.k) ∧ World.cell? _ ⟨W.heap.size, 1, none⟩ = some (.int .i64 t.n) ∧ World.cell? _ ⟨W.heap.size, 2, none⟩ = some (.string t.nm) ∧ World.cell? _ ⟨W.heap.size, 3, none⟩ = some (.slice it t.is.length ict) ∧ World.cell? _ ⟨W.heap.size, 4, none⟩ = some (.slice rt t.rs.length rct) ∧ World.cell? _ ⟨W.heap.size, 5, none⟩ = some (.slice yt t.bs.length yct) ∧ World.cell? _ ⟨W.heap.size + 1, 0, none⟩ = some (.string nm) := and_six2 (cells6 SS.out.swap) (nm_at SS.out.rot3 HNM.out)
            refine hK.out _ _ (fun _ => hSw) ?_
            clear hK K
            try simp only [Act.put, List.setIfInBounds_toArray, List.set_cons_zero, List.set_cons_succ]
            refine wpAnyL_pure (i := 7) (d := 15) (v := ?_) rfl (by kernel_rfl) (by kernel_rfl) (by kernel_rfl) (by kernel_rfl) (by decide) (fun _ _ _ h => h) (Or.inl ⟨by rfl, ?_⟩) (fun _ => hSw) ?_
            rotate_left
            · intro w _; go_simp; all_goals with_reducible rfl
            try simp only [Act.put, List.setIfInBounds_toArray, List.set_cons_zero, List.set_cons_succ]
            refine wpAnyL_pure (i := 8) (d := 23) (v := ?_) rfl (by kernel_rfl) (by kernel_rfl) (by kernel_rfl) (by kernel_rfl) (by decide) (fun _ _ _ h => h) (Or.inl ⟨by rfl, ?_⟩) (fun _ => hSw) ?_
            rotate_left
            · intro w _; go_simp; all_goals with_reducible rfl
            try simp only [Act.put, List.setIfInBounds_toArray, List.set_cons_zero, List.set_cons_succ]
            refine wpAnyL_pure (i := 9) (d := 24) (v := ?_) rfl (by kernel_rfl) (by kernel_rfl) (by kernel_rfl) (by kernel_rfl) (by decide) (fun _ _ _ h => h) (Or.inl ⟨by rfl, ?_⟩) (fun _ => hSw) ?_
            rotate_left
            · intro w _; go_simp; all_goals with_reducible rfl
            try simp only [Act.put, List.setIfInBounds_toArray, List.set_cons_zero, List.set_cons_succ]
            have S0 := SS
            refine wpAnyL_ready (rs := [10]) (by kernel_rfl) (by simp) ?_
            refine AllL.cons (o := _) rfl (fun K hK => ?_) AllL.nil
            go_simp
            replace SS := hid (SS.out.allocAt (k := wd.heap.size) (.cells #[.int .i64 0, .int .i64 0, .string ⟨#[]⟩, .slice none 0 0, .slice none 0 0, .slice none 0 0] 35) (by simp)).swap
            replace hSw : World.cell? _ ⟨W.heap.size, 0, none⟩ = some (.int .i64 t.k) ∧ World.cell? _ ⟨W.heap.size, 1, none⟩ = some (.int .i64 t.n) ∧ World.cell? _ ⟨W.heap.size, 2, none⟩ = some (.string t.nm) ∧ World.cell? _ ⟨W.heap.size, 3, none⟩ = some (.slice it t.is.length ict) ∧ World.cell? _ ⟨W.heap.size, 4, none⟩ = some (.slice rt t.rs.length rct) ∧ World.cell? _ ⟨W.heap.size, 5, none⟩ = some (.slice yt t.bs.length yct) ∧ World.cell? _ ⟨W.heap.size + 1, 0, none⟩ = some (.string nm) := and_six2 (cells6 SS.out.rot3) (nm_at SS.out.rot4 HNM.out)
            refine hK.out _ _ (fun _ => hSw) ?_
            clear hK K
            try simp only [Act.put, List.setIfInBounds_toArray, List.set_cons_zero, List.set_cons_succ]
            refine wpAnyL_ready (rs := [11]) (by kernel_rfl) (by simp) ?_
            refine AllL.cons (o := _) rfl (fun K hK => ?_) AllL.nil
            have z0 := SS.out.swap.cell 0
            have f0 := SS.out.swap.free 0
            have z1 := SS.out.swap.cell 1
            have f1 := SS.out.swap.free 1
            have z2 := SS.out.swap.cell 2
            have f2 := SS.out.swap.free 2
            have z3 := SS.out.swap.cell 3
            have f3 := SS.out.swap.free 3
            have z4 := SS.out.swap.cell 4
            have f4 := SS.out.swap.free 4
            have z5 := SS.out.swap.cell 5
            have f5 := SS.out.swap.free 5
            simp only [List.getElem?_toArray, List.getElem?_cons_succ, List.getElem?_cons_zero] at z0 z1 z2 z3 z4 z5
            go_simp
            refine hK.out _ _ (fun hv => absurd hv (by decide +kernel)) ?_
            clear hK K
            try simp only [Act.put, List.setIfInBounds_toArray, List.set_cons_zero, List.set_cons_succ]
            refine wpAnyL_ready (rs := [12]) (by kernel_rfl) (by simp) ?_
            refine AllL.cons (o := _) rfl (fun K hK => ?_) AllL.nil
            go_simp
            refine hK.out _ _ (fun hv => absurd hv (by decide +kernel)) ?_
            clear hK K
            try simp only [Act.put, List.setIfInBounds_toArray, List.set_cons_zero, List.set_cons_succ]
            replace SS := hid (S0.out.allocAt (k := wd.heap.size) (.cells #[.int .i64 0, .int .i64 0, .string ⟨#[]⟩, .slice ia 0 ic, .slice ra 0 rc, .slice ba 0 bc] 35) (by simp)).swap
            clear z0 z1 z2 z3 z4 z5 f0 f1 f2 f3 f4 f5
            refine wpAnyL_done (by kernel_rfl) ?_ _
            refine NoPanic.normal ?_
            go_wp2_with fail
            go_meet
            exact ⟨_, ia, ic, ra, rc, ba, bc, h2, rfl, rfl, LL, SS⟩
          · skip
            go_simp
            have S1 := hid (S.out.allocAt (k := wr.heap.size) (.cells #[.int .i64 t.k, .int .i64 t.n, .string t.nm, .slice it t.is.length ict, .slice rt t.rs.length rct, .slice yt t.bs.length yct] 35) (by simp))
            replace SS := hid ((S1.out.allocAt (k := wr.heap.size + 1) (.cells #[.int .i64 0, .int .i64 0, .string ⟨#[]⟩, .slice none 0 0, .slice none 0 0, .slice none 0 0] 35) (by simp)).unrot3).drew
            replace hSw : World.cell? _ ⟨W.heap.size, 0, none⟩ = some (.int .i64 t.k) ∧ World.cell? _ ⟨W.heap.size, 1, none⟩ = some (.int .i64 t.n) ∧ World.cell? _ ⟨W.heap.size, 2, none⟩ = some (.string t.nm) ∧ World.cell? _ ⟨W.heap.size, 3, none⟩ = some (.slice it t.is.length ict) ∧ World.cell? _ ⟨W.heap.size, 4, none⟩ = some (.slice rt t.rs.length rct) ∧ World.cell? _ ⟨W.heap.size, 5, none⟩ = some (.slice yt t.bs.length yct) ∧ World.cell? _ ⟨W.heap.size + 1, 0, none⟩ = some (.string nm) := and_six2 (cells6 SS.out.rot4) (nm_at SS.out.rot5 HNM.out)
            refine hK.out _ _ (fun _ => hSw) ?_
            clear hK K
            try simp only [Act.put, List.setIfInBounds_toArray, List.set_cons_zero, List.set_cons_succ]
            refine wpAnyL_ready (rs := [6]) (by kernel_rfl) (by simp) ?_
            refine AllL.cons (o := _) rfl (fun K hK => ?_) AllL.nil
            go_simp
            go_at_call 23
            refine (do_bad1 (HQ.out.mono SL.out) SS.out (fnk_k 0 nm HNM.out) t (TIn.mono SL.out _ HI.out) HO.out HR.out).mono ?_
            rintro e wd ⟨ia, ic, ra, rc, ba, bc, h2, rfl, l, s, _⟩
            replace SS := hid s
            have LL := hid l
            clear s l
            replace hSw : World.cell? _ ⟨W.heap.size, 0, none⟩ = some (.int .i64 t.k) ∧ World.cell? _ ⟨W.heap.size, 1, none⟩ = some (.int .i64 t.n) ∧ World.cell? _ ⟨W.heap.size, 2, none⟩ = some (.string t.nm) ∧ World.cell? _ ⟨W.heap.size, 3, none⟩ = some (.slice it t.is.length ict) ∧ World.cell? _ ⟨W.heap.size, 4, none⟩ = some (.slice rt t.rs.length rct) ∧ World.cell? _ ⟨W.heap.size, 5, none⟩ = some (.slice yt t.bs.length yct) ∧ World.cell? _ ⟨W.heap.size + 1, 0, none⟩ = some (.string nm) := and_six2 (cells6 SS.out.rot3) (nm_at SS.out.rot4 HNM.out)
            refine hK.out _ _ (fun _ => hSw) ?_
            clear hK K
            try simp only [Act.put, List.setIfInBounds_toArray, List.set_cons_zero, List.set_cons_succ]
            refine wpAnyL_pure (i := 7) (d := 15) (v := ?_) rfl (by kernel_rfl) (by kernel_rfl) (by kernel_rfl) (by kernel_rfl) (by decide) (fun _ _ _ h => h) (Or.inl ⟨by rfl, ?_⟩) (fun _ => hSw) ?_
            rotate_left
            · intro w _; go_simp; all_goals with_reducible rfl
            try simp only [Act.put, List.setIfInBounds_toArray, List.set_cons_zero, List.set_cons_succ]
            refine wpAnyL_pure (i := 8) (d := 23) (v := ?_) rfl (by kernel_rfl) (by kernel_rfl) (by kernel_rfl) (by kernel_rfl) (by decide) (fun _ _ _ h => h) (Or.inl ⟨by rfl, ?_⟩) (fun _ => hSw) ?_
            rotate_left
            · intro w _; go_simp; all_goals with_reducible rfl
            try simp only [Act.put, List.setIfInBounds_toArray, List.set_cons_zero, List.set_cons_succ]
            refine wpAnyL_pure (i := 9) (d := 24) (v := ?_) rfl (by kernel_rfl) (by kernel_rfl) (by kernel_rfl) (by kernel_rfl) (by decide) (fun _ _ _ h => h) (Or.inl ⟨by rfl, ?_⟩) (fun _ => hSw) ?_
            rotate_left
            · intro w _; go_simp; all_goals with_reducible rfl
            try simp only [Act.put, List.setIfInBounds_toArray, List.set_cons_zero, List.set_cons_succ]
            refine wpAnyL_ready (rs := [11]) (by kernel_rfl) (by simp) ?_
            refine AllL.cons (o := _) rfl (fun K hK => ?_) AllL.nil
            have z0 := SS.out.swap.cell 0
            have f0 := SS.out.swap.free 0
            have z1 := SS.out.swap.cell 1
            have f1 := SS.out.swap.free 1
            have z2 := SS.out.swap.cell 2
            have f2 := SS.out.swap.free 2
            have z3 := SS.out.swap.cell 3
            have f3 := SS.out.swap.free 3
            have z4 := SS.out.swap.cell 4
            have f4 := SS.out.swap.free 4
            have z5 := SS.out.swap.cell 5
            have f5 := SS.out.swap.free 5
            simp only [List.getElem?_toArray, List.getElem?_cons_succ, List.getElem?_cons_zero] at z0 z1 z2 z3 z4 z5
            go_simp
            refine hK.out _ _ (fun hv => absurd hv (by decide +kernel)) ?_
            clear hK K
            try simp only [Act.put, List.setIfInBounds_toArray, List.set_cons_zero, List.set_cons_succ]
            refine wpAnyL_ready (rs := [12]) (by kernel_rfl) (by simp) ?_
            refine AllL.cons (o := _) rfl (fun K hK => ?_) AllL.nil
            go_simp
            refine hK.out _ _ (fun hv => absurd hv (by decide +kernel)) ?_
            clear hK K
            try simp only [Act.put, List.setIfInBounds_toArray, List.set_cons_zero, List.set_cons_succ]
            replace SS := hid ((((((SS.out.swap.set 0 (.int .i64 0)).set 1 (.int .i64 0)).set 2 (.string ⟨#[]⟩)).set 3 (.slice ia 0 ic)).set 4 (.slice ra 0 rc)).set 5 (.slice ba 0 bc)).swap
            clear z0 z1 z2 z3 z4 z5 f0 f1 f2 f3 f4 f5
            refine wpAnyL_done (by kernel_rfl) ?_ _
            refine NoPanic.normal ?_
            go_wp2_with fail
            go_meet
            exact ⟨_, ia, ic, ra, rc, ba, bc, h2, rfl, rfl, LL, SS⟩
        · skip
          go_simp
          have S1 := hid (S.out.allocAt (k := wr.heap.size) (.cells #[.int .i64 0, .int .i64 0, .string ⟨#[]⟩, .slice none 0 0, .slice none 0 0, .slice none 0 0] 35) (by simp)).swap
          replace SS := hid S1.out.drew
          replace hSw : World.cell? _ ⟨W.heap.size, 0, none⟩ = some (.int .i64 t.k) ∧ World.cell? _ ⟨W.heap.size, 1, none⟩ = some (.int .i64 t.n) ∧ World.cell? _ ⟨W.heap.size, 2, none⟩ = some (.string t.nm) ∧ World.cell? _ ⟨W.heap.size, 3, none⟩ = some (.slice it t.is.length ict) ∧ World.cell? _ ⟨W.heap.size, 4, none⟩ = some (.slice rt t.rs.length rct) ∧ World.cell? _ ⟨W.heap.size, 5, none⟩ = some (.slice yt t.bs.length yct) ∧ World.cell? _ ⟨W.heap.size + 1, 0, none⟩ = some (.string nm) := and_six2 (cells6 SS.out.rot3) (nm_at SS.out.rot4 HNM.out)
          refine hK.out _ _ (fun _ => hSw) ?_
          clear hK K
          try simp only [Act.put, List.setIfInBounds_toArray, List.set_cons_zero, List.set_cons_succ]
          refine wpAnyL_ready (rs := [5]) (by kernel_rfl) (by simp) ?_
          refine AllL.cons (o := _) rfl (fun K hK => ?_) AllL.nil
          go_simp
          replace SS := hid ((S1.out.allocAt (k := wr.heap.size + 1) (.cells #[.int .i64 t.k, .int .i64 t.n, .string t.nm, .slice it t.is.length ict, .slice rt t.rs.length rct, .slice yt t.bs.length yct] 35) (by simp)).unrot3x).drew
          replace hSw : World.cell? _ ⟨W.heap.size, 0, none⟩ = some (.int .i64 t.k) ∧ World.cell? _ ⟨W.heap.size, 1, none⟩ = some (.int .i64 t.n) ∧ World.cell? _ ⟨W.heap.size, 2, none⟩ = some (.string t.nm) ∧ World.cell? _ ⟨W.heap.size, 3, none⟩ = some (.slice it t.is.length ict) ∧ World.cell? _ ⟨W.heap.size, 4, none⟩ = some (.slice rt t.rs.length rct) ∧ World.cell? _ ⟨W.heap.size, 5, none⟩ = some (.slice yt t.bs.length yct) ∧ World.cell? _ ⟨W.heap.size + 1, 0, none⟩ = some (.string nm) := and_six2 (cells6 SS.out.rot4) (nm_at SS.out.rot5 HNM.out)
          refine hK.out _ _ (fun _ => hSw) ?_
          clear hK K
          try simp only [Act.put, List.setIfInBounds_toArray, List.set_cons_zero, List.set_cons_succ]
          refine wpAnyL_ready (rs := [6]) (by kernel_rfl) (by simp) ?_
          refine AllL.cons (o := _) rfl (fun K hK => ?_) AllL.nil
          go_simp
          go_at_call 23
          refine (do_bad1 (HQ.out.mono SL.out) SS.out (fnk_k 0 nm HNM.out) t (TIn.mono SL.out _ HI.out) HO.out HR.out).mono ?_
          rintro e wd ⟨ia, ic, ra, rc, ba, bc, h2, rfl, l, s, _⟩
          replace SS := hid s
          have LL := hid l
          clear s l
          replace hSw : World.cell? _ ⟨W.heap.size, 0, none⟩ = some (.int .i64 t.k) ∧ World.cell? _ ⟨W.heap.size, 1, none⟩ = some (.int .i64 t.n) ∧ World.cell? _ ⟨W.heap.size, 2, none⟩ = some (.string t.nm) ∧ World.cell? _ ⟨W.heap.size, 3, none⟩ = some (.slice it t.is.length ict) ∧ World.cell? _ ⟨W.heap.size, 4, none⟩ = some (.slice rt t.rs.length rct) ∧ World.cell? _ ⟨W.heap.size, 5, none⟩ = some (.slice yt t.bs.length yct) ∧ World.cell? _ ⟨W.heap.size + 1, 0, none⟩ = some (.string nm) := and_six2 (cells6 SS.out.rot3) (nm_at SS.out.rot4 HNM.out)
          refine hK.out _ _ (fun _ => hSw) ?_
          clear hK K
          try simp only [Act.put, List.setIfInBounds_toArray, List.set_cons_zero, List.set_cons_succ]
          refine wpAnyL_pure (i := 7) (d := 15) (v := ?_) rfl (by kernel_rfl) (by kernel_rfl) (by kernel_rfl) (by kernel_rfl) (by decide) (fun _ _ _ h => h) (Or.inl ⟨by rfl, ?_⟩) (fun _ => hSw) ?_
          rotate_left
          · intro w _; go_simp; all_goals with_reducible rfl
          try simp only [Act.put, List.setIfInBounds_toArray, List.set_cons_zero, List.set_cons_succ]
          refine wpAnyL_pure (i := 8) (d := 23) (v := ?_) rfl (by kernel_rfl) (by kernel_rfl) (by kernel_rfl) (by kernel_rfl) (by decide) (fun _ _ _ h => h) (Or.inl ⟨by rfl, ?_⟩) (fun _ => hSw) ?_
          rotate_left
          · intro w _; go_simp; all_goals with_reducible rfl
          try simp only [Act.put, List.setIfInBounds_toArray, List.set_cons_zero, List.set_cons_succ]
          refine wpAnyL_pure (i := 9) (d := 24) (v := ?_) rfl (by kernel_rfl) (by kernel_rfl) (by kernel_rfl) (by kernel_rfl) (by decide) (fun _ _ _ h => h) (Or.inl ⟨by rfl, ?_⟩) (fun _ => hSw) ?_
          rotate_left
          · intro w _; go_simp; all_goals with_reducible rfl
          try simp only [Act.put, List.setIfInBounds_toArray, List.set_cons_zero, List.set_cons_succ]
          refine wpAnyL_ready (rs := [11]) (by kernel_rfl) (by simp) ?_
          refine AllL.cons (o := _) rfl (fun K hK => ?_) AllL.nil
          have z0 := SS.out.swap.cell 0
          have f0 := SS.out.swap.free 0
          have z1 := SS.out.swap.cell 1
          have f1 := SS.out.swap.free 1
          have z2 := SS.out.swap.cell 2
          have f2 := SS.out.swap.free 2
          have z3 := SS.out.swap.cell 3
          have f3 := SS.out.swap.free 3
          have z4 := SS.out.swap.cell 4
          have f4 := SS.out.swap.free 4
          have z5 := SS.out.swap.cell 5
          have f5 := SS.out.swap.free 5
          simp only [List.getElem?_toArray, List.getElem?_cons_succ, List.getElem?_cons_zero] at z0 z1 z2 z3 z4 z5
          go_simp
          refine hK.out _ _ (fun hv => absurd hv (by decide +kernel)) ?_
          clear hK K
          try simp only [Act.put, List.setIfInBounds_toArray, List.set_cons_zero, List.set_cons_succ]
          refine wpAnyL_ready (rs := [12]) (by kernel_rfl) (by simp) ?_
          refine AllL.cons (o := _) rfl (fun K hK => ?_) AllL.nil
          go_simp
          refine hK.out _ _ (fun hv => absurd hv (by decide +kernel)) ?_
          clear hK K
          try simp only [Act.put, List.setIfInBounds_toArray, List.set_cons_zero, List.set_cons_succ]
          replace SS := hid ((((((SS.out.swap.set 0 (.int .i64 0)).set 1 (.int .i64 0)).set 2 (.string ⟨#[]⟩)).set 3 (.slice ia 0 ic)).set 4 (.slice ra 0 rc)).set 5 (.slice ba 0 bc)).swap
          clear z0 z1 z2 z3 z4 z5 f0 f1 f2 f3 f4 f5
          refine wpAnyL_done (by kernel_rfl) ?_ _
          refine NoPanic.normal ?_
          go_wp2_with fail
          go_meet
          exact ⟨_, ia, ic, ra, rc, ba, bc, h2, rfl, rfl, LL, SS⟩
      case rest =>
        clear S
        obtain ⟨yb, ia, ic, ra, rc, ba, bc, h2, rfl, rfl, LL, S⟩ := hcut
        replace SL := hid (SL.out.trans LL.out)
        clear LL
        have HA := hid (awake8 (HQ.out.mono SL.out) S.out)
        go_wp2_with fail
        refine HA.out.mono ?_
        rintro e w9 ⟨h9, rfl, l9, s9⟩
        go_wp2_with fail
        go_ret
        exact ⟨rfl, s9.archBelow (SL.out.trans l9)⟩
  | none =>
    have HR := hid hr
    clear hr
    go_enter Tryd.func12, Tryd.ntmps12
    go_wp2_with fail
    go_loopw [4, 5] (fun yv iv wr => ∃ (i yn : Nat) (h' : Nat → Option Obj), i ≤ 7 ∧ yv = .int .i64 yn ∧ iv = .int .i64 i ∧ Hid (yn = cntK i t.k) ∧ Hid (Le (heapOf W) h') ∧ Hid (Sat W wr (arch h' :: blk W.heap.size (.cells #[.int .i64 t.k, .int .i64 t.n, .string t.nm, .slice it t.is.length ict, .slice rt t.rs.length rct, .slice yt t.bs.length yct] 35 (0, 0)) :: blk (W.heap.size + 1) (.cells nmV7 9 (0, 0)) :: []))) (fun _ iv _ => 7 - (intOf iv).toNat)
    case atStart => exact ⟨0, 0, heapOf W, Nat.zero_le _, rfl, rfl, hid rfl, hid (Le.refl _), S⟩
    case round =>
      obtain ⟨i, yn, h', hi7, rfl, rfl, HY, SL, S⟩ := hrel
      by_cases hlt : i < 7
      · obtain ⟨nm, HNM⟩ : ∃ nm, Hid (nmsK[i]? = some nm) := ⟨_, hid (List.getElem?_eq_getElem (by simpa [nmsK] using hlt))⟩
        obtain ⟨sv, HSV⟩ : ∃ s, Hid ((if isB (24 + i) t.k then sTrue else sFalse) = s) := ⟨_, hid rfl⟩
        have hi0 : (0 : Int) ≤ (i : Int) := by omega
        have hi1 : (i : Int) < 7 := by omega
        go_upto_region 6 with fail
        go_cut [6, 7] from 15 to 24 (fun pv qv wd => ∃ (yb : Nat) (ia : Option Addr) (ic : Nat) (ra : Option Addr) (rc : Nat) (ba : Option Addr) (bc : Nat) (h2 : Nat → Option Obj), pv = .pointer (some ⟨yb, 0, none⟩) ∧ qv = .bool true ∧ Hid (Le h' h2) ∧ Hid (Sat W wd (arch h2 :: blk yb (.cells #[.int .i64 2, .int .i64 0, .string sv, .slice ia 0 ic, .slice ra 0 rc, .slice ba 0 bc] 35 (0, 0)) :: blk W.heap.size (.cells #[.int .i64 t.k, .int .i64 t.n, .string t.nm, .slice it t.is.length ict, .slice rt t.rs.length rct, .slice yt t.bs.length yct] 35 (0, 0)) :: blk (W.heap.size + 1) (.cells nmV7 9 (0, 0)) :: [])))
        case first =>
          refine wp_region_noPanic ?_
          have SS := hid S.out.drew
          have hSw : World.cell? _ ⟨W.heap.size, 0, none⟩ = some (.int .i64 t.k) ∧ World.cell? _ ⟨W.heap.size, 1, none⟩ = some (.int .i64 t.n) ∧ World.cell? _ ⟨W.heap.size, 2, none⟩ = some (.string t.nm) ∧ World.cell? _ ⟨W.heap.size, 3, none⟩ = some (.slice it t.is.length ict) ∧ World.cell? _ ⟨W.heap.size, 4, none⟩ = some (.slice rt t.rs.length rct) ∧ World.cell? _ ⟨W.heap.size, 5, none⟩ = some (.slice yt t.bs.length yct) ∧ World.cell? _ ⟨W.heap.size + 1, i, none⟩ = some (.string nm) := and_six2 (cells6 SS.out.swap) (nm_at SS.out.rot3 HNM.out)
          refine wp_region_L (S := fun w' => World.cell? w' ⟨W.heap.size, 0, none⟩ = some (.int .i64 t.k) ∧ World.cell? w' ⟨W.heap.size, 1, none⟩ = some (.int .i64 t.n) ∧ World.cell? w' ⟨W.heap.size, 2, none⟩ = some (.string t.nm) ∧ World.cell? w' ⟨W.heap.size, 3, none⟩ = some (.slice it t.is.length ict) ∧ World.cell? w' ⟨W.heap.size, 4, none⟩ = some (.slice rt t.rs.length rct) ∧ World.cell? w' ⟨W.heap.size, 5, none⟩ = some (.slice yt t.bs.length yct) ∧ World.cell? w' ⟨W.heap.size + 1, i, none⟩ = some (.string nm)) 11 (by kernel_rfl) ?_
          refine wpAnyL_pure (i := 0) (d := 16) (v := ?_) rfl (by kernel_rfl) (by kernel_rfl) (by kernel_rfl) (by kernel_rfl) (by decide) (fun _ _ _ h => h) (Or.inl ⟨by rfl, ?_⟩) (fun _ => hSw) ?_
          rotate_left
          · intro w _; go_simp; all_goals with_reducible rfl
          try simp only [Act.put, List.setIfInBounds_toArray, List.set_cons_zero, List.set_cons_succ]
          refine wpAnyL_pure (i := 1) (d := 17) (v := ?_) rfl (by kernel_rfl) (by kernel_rfl) (by kernel_rfl) (by kernel_rfl) (by decide) (fun _ _ _ h => h) (Or.inl ⟨by rfl, ?_⟩) (fun _ => hSw) ?_
          rotate_left
          · intro w _; go_simp; all_goals with_reducible rfl
          try simp only [Act.put, List.setIfInBounds_toArray, List.set_cons_zero, List.set_cons_succ]
          refine wpAnyL_pure (i := 2) (d := 18) (v := ?_) rfl (by kernel_rfl) (by kernel_rfl) (by kernel_rfl) (by kernel_rfl) (by decide) (fun _ _ _ h => h) (Or.inl ⟨by rfl, ?_⟩) (fun _ => hSw) ?_
          rotate_left
          · intro w _; go_simp; all_goals with_reducible rfl
          try simp only [Act.put, List.setIfInBounds_toArray, List.set_cons_zero, List.set_cons_succ]
          refine wpAnyL_load (i := 3) (d := 19) (v := ?_) rfl (by kernel_rfl) (by kernel_rfl) (by kernel_rfl) (by kernel_rfl) (by decide) (by kernel_rfl) (by kernel_rfl) (fun _ _ _ h => h) (Or.inl ⟨by rfl, ?_⟩) hSw ?_
          rotate_left
          · intro w hSw; (try dsimp only at hSw); go_simp; all_goals with_reducible rfl
          try simp only [Act.put, List.setIfInBounds_toArray, List.set_cons_zero, List.set_cons_succ]
          refine wpAnyL_load (i := 4) (d := 20) (v := ?_) rfl (by kernel_rfl) (by kernel_rfl) (by kernel_rfl) (by kernel_rfl) (by decide) (by kernel_rfl) (by kernel_rfl) (fun _ _ _ h => h) (Or.inl ⟨by rfl, ?_⟩) hSw ?_
          rotate_left
          · intro w hSw; (try dsimp only at hSw); go_simp; all_goals with_reducible rfl
          try simp only [Act.put, List.setIfInBounds_toArray, List.set_cons_zero, List.set_cons_succ]
          refine wpAnyL_ready (rs := [5, 10]) (by kernel_rfl) (by simp) ?_
          refine AllL.cons (o := _) rfl (fun K hK => ?_) (AllL.cons (o := _) rfl (fun K hK => ?_) AllL.nil)
          · skip
            go_simp
            replace SS := hid (S.out.allocAt (k := wr.heap.size) (.cells #[.int .i64 t.k, .int .i64 t.n, .string t.nm, .slice it t.is.length ict, .slice rt t.rs.length rct, .slice yt t.bs.length yct] 35) (by simp)).drew
            replace hSw : World.cell? _ ⟨W.heap.size, 0, none⟩ = some (.int .i64 t.k) ∧ World.cell? _ ⟨W.heap.size, 1, none⟩ = some (.int .i64 t.n) ∧ World.cell? _ ⟨W.heap.size, 2, none⟩ = some (.string t.nm) ∧ World.cell? _ ⟨W.heap.size, 3, none⟩ = some (.slice it t.is.length ict) ∧ World.cell? _ ⟨W.heap.size, 4, none⟩ = some (.slice rt t.rs.length rct) ∧ World.cell? _ ⟨W.heap.size, 5, none⟩ = some (.slice yt t.bs.length yct) ∧ World.cell? _ ⟨W.heap.size + 1, i, none⟩ = some (.string nm) := and_six2 (cells6 SS.out.rot3) (nm_at SS.out.rot4 HNM.out)
            refine hK.out _ _ (fun _ => hSw) ?_
            clear hK K
            try simp only [Act.put, List.setIfInBounds_toArray, List.set_cons_zero, List.set_cons_succ]
            refine wpAnyL_ready (rs := [6, 10]) (by kernel_rfl) (by simp) ?_
            refine AllL.cons (o := _) rfl (fun K hK => ?_) (AllL.cons (o := _) rfl (fun K hK => ?_) AllL.nil)
            · skip
              go_simp
              go_at_call 23
              refine (do_isk i nm HNM.out (HQ.out.mono SL.out) SS.out t (TIn.mono SL.out _ HI.out) HO.out HR.out HSV.out).mono ?_
              rintro e wd ⟨ia, ic, ra, rc, ba, bc, h2, rfl, l, s⟩
              replace SS := hid s
              have LL := hid l
              clear s l
              replace hSw : World.cell? _ ⟨W.heap.size, 0, none⟩ = some (.int .i64 t.k) ∧ World.cell? _ ⟨W.heap.size, 1, none⟩ = some (.int .i64 t.n) ∧ World.cell? _ ⟨W.heap.size, 2, none⟩ = some (.string t.nm) ∧ World.cell? _ ⟨W.heap.size, 3, none⟩ = some (.slice it t.is.length ict) ∧ World.cell? _ ⟨W.heap.size, 4, none⟩ = some (.slice rt t.rs.length rct) ∧ World.cell? _ ⟨W.heap.size, 5, none⟩ = some (.slice yt t.bs.length yct) ∧ World.cell? _ ⟨W.heap.size + 1, i, none⟩ = some (.string nm) := and_six2 (cells6 SS.out.swap) (nm_at SS.out.rot3 HNM.out)
              refine hK.out _ _ (fun _ => hSw) ?_
              clear hK K
              try simp only [Act.put, List.setIfInBounds_toArray, List.set_cons_zero, List.set_cons_succ]
              refine wpAnyL_pure (i := 7) (d := 15) (v := ?_) rfl (by kernel_rfl) (by kernel_rfl) (by kernel_rfl) (by kernel_rfl) (by decide) (fun _ _ _ h => h) (Or.inl ⟨by rfl, ?_⟩) (fun _ => hSw) ?_
              rotate_left
              · intro w _; go_simp; all_goals with_reducible rfl
              try simp only [Act.put, List.setIfInBounds_toArray, List.set_cons_zero, List.set_cons_succ]
              refine wpAnyL_pure (i := 8) (d := 23) (v := ?_) rfl (by kernel_rfl) (by kernel_rfl) (by kernel_rfl) (by kernel_rfl) (by decide) (fun _ _ _ h => h) (Or.inl ⟨by rfl, ?_⟩) (fun _ => hSw) ?_
              rotate_left
              · intro w _; go_simp; all_goals with_reducible rfl
              try simp only [Act.put, List.setIfInBounds_toArray, List.set_cons_zero, List.set_cons_succ]
              refine wpAnyL_pure (i := 9) (d := 24) (v := ?_) rfl (by kernel_rfl) (by kernel_rfl) (by kernel_rfl) (by kernel_rfl) (by decide) (fun _ _ _ h => h) (Or.inl ⟨by rfl, ?_⟩) (fun _ => hSw) ?_
              rotate_left
              · intro w _; go_simp; all_goals with_reducible rfl
              try simp only [Act.put, List.setIfInBounds_toArray, List.set_cons_zero, List.set_cons_succ]
              have S0 := SS
              refine wpAnyL_ready (rs := [10]) (by kernel_rfl) (by simp) ?_
              refine AllL.cons (o := _) rfl (fun K hK => ?_) AllL.nil
              go_simp
              replace SS := hid (SS.out.allocAt (k := wd.heap.size) (.cells #[.int .i64 0, .int .i64 0, .string ⟨#[]⟩, .slice none 0 0, .slice none 0 0, .slice none 0 0] 35) (by simp)).swap
              replace hSw : World.cell? _ ⟨W.heap.size, 0, none⟩ = some (.int .i64 t.k) ∧ World.cell? _ ⟨W.heap.size, 1, none⟩ = some (.int .i64 t.n) ∧ World.cell? _ ⟨W.heap.size, 2, none⟩ = some (.string t.nm) ∧ World.cell? _ ⟨W.heap.size, 3, none⟩ = some (.slice it t.is.length ict) ∧ World.cell? _ ⟨W.heap.size, 4, none⟩ = some (.slice rt t.rs.length rct) ∧ World.cell? _ ⟨W.heap.size, 5, none⟩ = some (.slice yt t.bs.length yct) ∧ World.cell? _ ⟨W.heap.size + 1, i, none⟩ = some (.string nm) := and_six2 (cells6 SS.out.rot3) (nm_at SS.out.rot4 HNM.out)
              refine hK.out _ _ (fun _ => hSw) ?_
              clear hK K
              try simp only [Act.put, List.setIfInBounds_toArray, List.set_cons_zero, List.set_cons_succ]
              refine wpAnyL_ready (rs := [11]) (by kernel_rfl) (by simp) ?_
              refine AllL.cons (o := _) rfl (fun K hK => ?_) AllL.nil
              have z0 := SS.out.swap.cell 0
              have f0 := SS.out.swap.free 0
              have z1 := SS.out.swap.cell 1
              have f1 := SS.out.swap.free 1
              have z2 := SS.out.swap.cell 2
              have f2 := SS.out.swap.free 2
              have z3 := SS.out.swap.cell 3
              have f3 := SS.out.swap.free 3
              have z4 := SS.out.swap.cell 4
              have f4 := SS.out.swap.free 4
              have z5 := SS.out.swap.cell 5
              have f5 := SS.out.swap.free 5
              simp only [List.getElem?_toArray, List.getElem?_cons_succ, List.getElem?_cons_zero] at z0 z1 z2 z3 z4 z5
              go_simp
              refine hK.out _ _ (fun hv => absurd hv (by decide +kernel)) ?_
              clear hK K
              try simp only [Act.put, List.setIfInBounds_toArray, List.set_cons_zero, List.set_cons_succ]
              refine wpAnyL_ready (rs := [12]) (by kernel_rfl) (by simp) ?_
              refine AllL.cons (o := _) rfl (fun K hK => ?_) AllL.nil
              go_simp
              refine hK.out _ _ (fun hv => absurd hv (by decide +kernel)) ?_
              clear hK K
              try simp only [Act.put, List.setIfInBounds_toArray, List.set_cons_zero, List.set_cons_succ]
              replace SS := hid (S0.out.allocAt (k := wd.heap.size) (.cells #[.int .i64 2, .int .i64 0, .string sv, .slice ia 0 ic, .slice ra 0 rc, .slice ba 0 bc] 35) (by simp)).swap
              clear z0 z1 z2 z3 z4 z5 f0 f1 f2 f3 f4 f5
              refine wpAnyL_done (by kernel_rfl) ?_ _
              refine NoPanic.normal ?_
              go_wp2_with fail
              go_meet
              exact ⟨_, ia, ic, ra, rc, ba, bc, h2, rfl, rfl, LL, SS⟩
            · skip
              go_simp
              have S1 := hid (S.out.allocAt (k := wr.heap.size) (.cells #[.int .i64 t.k, .int .i64 t.n, .string t.nm, .slice it t.is.length ict, .slice rt t.rs.length rct, .slice yt t.bs.length yct] 35) (by simp))
              replace SS := hid ((S1.out.allocAt (k := wr.heap.size + 1) (.cells #[.int .i64 0, .int .i64 0, .string ⟨#[]⟩, .slice none 0 0, .slice none 0 0, .slice none 0 0] 35) (by simp)).unrot3).drew
              replace hSw : World.cell? _ ⟨W.heap.size, 0, none⟩ = some (.int .i64 t.k) ∧ World.cell? _ ⟨W.heap.size, 1, none⟩ = some (.int .i64 t.n) ∧ World.cell? _ ⟨W.heap.size, 2, none⟩ = some (.string t.nm) ∧ World.cell? _ ⟨W.heap.size, 3, none⟩ = some (.slice it t.is.length ict) ∧ World.cell? _ ⟨W.heap.size, 4, none⟩ = some (.slice rt t.rs.length rct) ∧ World.cell? _ ⟨W.heap.size, 5, none⟩ = some (.slice yt t.bs.length yct) ∧ World.cell? _ ⟨W.heap.size + 1, i, none⟩ = some (.string nm) := and_six2 (cells6 SS.out.rot4) (nm_at SS.out.rot5 HNM.out)
              refine hK.out _ _ (fun _ => hSw) ?_
              clear hK K
              try simp only [Act.put, List.setIfInBounds_toArray, List.set_cons_zero, List.set_cons_succ]
              refine wpAnyL_ready (rs := [6]) (by kernel_rfl) (by simp) ?_
              refine AllL.cons (o := _) rfl (fun K hK => ?_) AllL.nil
              go_simp
              go_at_call 23
              refine (do_isk i nm HNM.out (HQ.out.mono SL.out) SS.out t (TIn.mono SL.out _ HI.out) HO.out HR.out HSV.out).mono ?_
              rintro e wd ⟨ia, ic, ra, rc, ba, bc, h2, rfl, l, s⟩
              replace SS := hid s
              have LL := hid l
              clear s l
              replace hSw : World.cell? _ ⟨W.heap.size, 0, none⟩ = some (.int .i64 t.k) ∧ World.cell? _ ⟨W.heap.size, 1, none⟩ = some (.int .i64 t.n) ∧ World.cell? _ ⟨W.heap.size, 2, none⟩ = some (.string t.nm) ∧ World.cell? _ ⟨W.heap.size, 3, none⟩ = some (.slice it t.is.length ict) ∧ World.cell? _ ⟨W.heap.size, 4, none⟩ = some (.slice rt t.rs.length rct) ∧ World.cell? _ ⟨W.heap.size, 5, none⟩ = some (.slice yt t.bs.length yct) ∧ World.cell? _ ⟨W.heap.size + 1, i, none⟩ = some (.string nm) := and_six2 (cells6 SS.out.rot3) (nm_at SS.out.rot4 HNM.out)
              refine hK.out _ _ (fun _ => hSw) ?_
              clear hK K
              try simp only [Act.put, List.setIfInBounds_toArray, List.set_cons_zero, List.set_cons_succ]
              refine wpAnyL_pure (i := 7) (d := 15) (v := ?_) rfl (by kernel_rfl) (by kernel_rfl) (by kernel_rfl) (by kernel_rfl) (by decide) (fun _ _ _ h => h) (Or.inl ⟨by rfl, ?_⟩) (fun _ => hSw) ?_
              rotate_left
              · intro w _; go_simp; all_goals with_reducible rfl
              try simp only [Act.put, List.setIfInBounds_toArray, List.set_cons_zero, List.set_cons_succ]
              refine wpAnyL_pure (i := 8) (d := 23) (v := ?_) rfl (by kernel_rfl) (by kernel_rfl) (by kernel_rfl) (by kernel_rfl) (by decide) (fun _ _ _ h => h) (Or.inl ⟨by rfl, ?_⟩) (fun _ => hSw) ?_
              rotate_left
              · intro w _; go_simp; all_goals with_reducible rfl
              try simp only [Act.put, List.setIfInBounds_toArray, List.set_cons_zero, List.set_cons_succ]
              refine wpAnyL_pure (i := 9) (d := 24) (v := ?_) rfl (by kernel_rfl) (by kernel_rfl) (by kernel_rfl) (by kernel_rfl) (by decide) (fun _ _ _ h => h) (Or.inl ⟨by rfl, ?_⟩) (fun _ => hSw) ?_
              rotate_left
              · intro w _; go_simp; all_goals with_reducible rfl
              try simp only [Act.put, List.setIfInBounds_toArray, List.set_cons_zero, List.set_cons_succ]
              refine wpAnyL_ready (rs := [11]) (by kernel_rfl) (by simp) ?_
              refine AllL.cons (o := _) rfl (fun K hK => ?_) AllL.nil
              have z0 := SS.out.swap.cell 0
              have f0 := SS.out.swap.free 0
              have z1 := SS.out.swap.cell 1
              have f1 := SS.out.swap.free 1
              have z2 := SS.out.swap.cell 2
              have f2 := SS.out.swap.free 2
              have z3 := SS.out.swap.cell 3
              have f3 := SS.out.swap.free 3
              have z4 := SS.out.swap.cell 4
              have f4 := SS.out.swap.free 4
              have z5 := SS.out.swap.cell 5
              have f5 := SS.out.swap.free 5
              simp only [List.getElem?_toArray, List.getElem?_cons_succ, List.getElem?_cons_zero] at z0 z1 z2 z3 z4 z5
              go_simp
              refine hK.out _ _ (fun hv => absurd hv (by decide +kernel)) ?_
              clear hK K
              try simp only [Act.put, List.setIfInBounds_toArray, List.set_cons_zero, List.set_cons_succ]
              refine wpAnyL_ready (rs := [12]) (by kernel_rfl) (by simp) ?_
              refine AllL.cons (o := _) rfl (fun K hK => ?_) AllL.nil
              go_simp
              refine hK.out _ _ (fun hv => absurd hv (by decide +kernel)) ?_
              clear hK K
              try simp only [Act.put, List.setIfInBounds_toArray, List.set_cons_zero, List.set_cons_succ]
              replace SS := hid ((((((SS.out.swap.set 0 (.int .i64 2)).set 1 (.int .i64 0)).set 2 (.string sv)).set 3 (.slice ia 0 ic)).set 4 (.slice ra 0 rc)).set 5 (.slice ba 0 bc)).swap
              clear z0 z1 z2 z3 z4 z5 f0 f1 f2 f3 f4 f5
              refine wpAnyL_done (by kernel_rfl) ?_ _
              refine NoPanic.normal ?_
              go_wp2_with fail
              go_meet
              exact ⟨_, ia, ic, ra, rc, ba, bc, h2, rfl, rfl, LL, SS⟩
          · skip
            go_simp
            have S1 := hid (S.out.allocAt (k := wr.heap.size) (.cells #[.int .i64 0, .int .i64 0, .string ⟨#[]⟩, .slice none 0 0, .slice none 0 0, .slice none 0 0] 35) (by simp)).swap
            replace SS := hid S1.out.drew
            replace hSw : World.cell? _ ⟨W.heap.size, 0, none⟩ = some (.int .i64 t.k) ∧ World.cell? _ ⟨W.heap.size, 1, none⟩ = some (.int .i64 t.n) ∧ World.cell? _ ⟨W.heap.size, 2, none⟩ = some (.string t.nm) ∧ World.cell? _ ⟨W.heap.size, 3, none⟩ = some (.slice it t.is.length ict) ∧ World.cell? _ ⟨W.heap.size, 4, none⟩ = some (.slice rt t.rs.length rct) ∧ World.cell? _ ⟨W.heap.size, 5, none⟩ = some (.slice yt t.bs.length yct) ∧ World.cell? _ ⟨W.heap.size + 1, i, none⟩ = some (.string nm) := and_six2 (cells6 SS.out.rot3) (nm_at SS.out.rot4 HNM.out)
            refine hK.out _ _ (fun _ => hSw) ?_
            clear hK K
            try simp only [Act.put, List.setIfInBounds_toArray, List.set_cons_zero, List.set_cons_succ]
            refine wpAnyL_ready (rs := [5]) (by kernel_rfl) (by simp) ?_
            refine AllL.cons (o := _) rfl (fun K hK => ?_) AllL.nil
            go_simp
            replace SS := hid ((S1.out.allocAt (k := wr.heap.size + 1) (.cells #[.int .i64 t.k, .int .i64 t.n, .string t.nm, .slice it t.is.length ict, .slice rt t.rs.length rct, .slice yt t.bs.length yct] 35) (by simp)).unrot3x).drew
            replace hSw : World.cell? _ ⟨W.heap.size, 0, none⟩ = some (.int .i64 t.k) ∧ World.cell? _ ⟨W.heap.size, 1, none⟩ = some (.int .i64 t.n) ∧ World.cell? _ ⟨W.heap.size, 2, none⟩ = some (.string t.nm) ∧ World.cell? _ ⟨W.heap.size, 3, none⟩ = some (.slice it t.is.length ict) ∧ World.cell? _ ⟨W.heap.size, 4, none⟩ = some (.slice rt t.rs.length rct) ∧ World.cell? _ ⟨W.heap.size, 5, none⟩ = some (.slice yt t.bs.length yct) ∧ World.cell? _ ⟨W.heap.size + 1, i, none⟩ = some (.string nm) := and_six2 (cells6 SS.out.rot4) (nm_at SS.out.rot5 HNM.out)
            refine hK.out _ _ (fun _ => hSw) ?_
            clear hK K
            try simp only [Act.put, List.setIfInBounds_toArray, List.set_cons_zero, List.set_cons_succ]
            refine wpAnyL_ready (rs := [6]) (by kernel_rfl) (by simp) ?_
            refine AllL.cons (o := _) rfl (fun K hK => ?_) AllL.nil
            go_simp
            go_at_call 23
            refine (do_isk i nm HNM.out (HQ.out.mono SL.out) SS.out t (TIn.mono SL.out _ HI.out) HO.out HR.out HSV.out).mono ?_
            rintro e wd ⟨ia, ic, ra, rc, ba, bc, h2, rfl, l, s⟩
            replace SS := hid s
            have LL := hid l
            clear s l
            replace hSw : World.cell? _ ⟨W.heap.size, 0, none⟩ = some (.int .i64 t.k) ∧ World.cell? _ ⟨W.heap.size, 1, none⟩ = some (.int .i64 t.n) ∧ World.cell? _ ⟨W.heap.size, 2, none⟩ = some (.string t.nm) ∧ World.cell? _ ⟨W.heap.size, 3, none⟩ = some (.slice it t.is.length ict) ∧ World.cell? _ ⟨W.heap.size, 4, none⟩ = some (.slice rt t.rs.length rct) ∧ World.cell? _ ⟨W.heap.size, 5, none⟩ = some (.slice yt t.bs.length yct) ∧ World.cell? _ ⟨W.heap.size + 1, i, none⟩ = some (.string nm) := and_six2 (cells6 SS.out.rot3) (nm_at SS.out.rot4 HNM.out)
            refine hK.out _ _ (fun _ => hSw) ?_
            clear hK K
            try simp only [Act.put, List.setIfInBounds_toArray, List.set_cons_zero, List.set_cons_succ]
            refine wpAnyL_pure (i := 7) (d := 15) (v := ?_) rfl (by kernel_rfl) (by kernel_rfl) (by kernel_rfl) (by kernel_rfl) (by decide) (fun _ _ _ h => h) (Or.inl ⟨by rfl, ?_⟩) (fun _ => hSw) ?_
            rotate_left
            · intro w _; go_simp; all_goals with_reducible rfl
            try simp only [Act.put, List.setIfInBounds_toArray, List.set_cons_zero, List.set_cons_succ]
            refine wpAnyL_pure (i := 8) (d := 23) (v := ?_) rfl (by kernel_rfl) (by kernel_rfl) (by kernel_rfl) (by kernel_rfl) (by decide) (fun _ _ _ h => h) (Or.inl ⟨by rfl, ?_⟩) (fun _ => hSw) ?_
            rotate_left
            · intro w _; go_simp; all_goals with_reducible rfl
            try simp only [Act.put, List.setIfInBounds_toArray, List.set_cons_zero, List.set_cons_succ]
            refine wpAnyL_pure (i := 9) (d := 24) (v := ?_) rfl (by kernel_rfl) (by kernel_rfl) (by kernel_rfl) (by kernel_rfl) (by decide) (fun _ _ _ h => h) (Or.inl ⟨by rfl, ?_⟩) (fun _ => hSw) ?_
            rotate_left
            · intro w _; go_simp; all_goals with_reducible rfl
            try simp only [Act.put, List.setIfInBounds_toArray, List.set_cons_zero, List.set_cons_succ]
            refine wpAnyL_ready (rs := [11]) (by kernel_rfl) (by simp) ?_
            refine AllL.cons (o := _) rfl (fun K hK => ?_) AllL.nil
            have z0 := SS.out.swap.cell 0
            have f0 := SS.out.swap.free 0
            have z1 := SS.out.swap.cell 1
            have f1 := SS.out.swap.free 1
            have z2 := SS.out.swap.cell 2
            have f2 := SS.out.swap.free 2
            have z3 := SS.out.swap.cell 3
            have f3 := SS.out.swap.free 3
            have z4 := SS.out.swap.cell 4
            have f4 := SS.out.swap.free 4
            have z5 := SS.out.swap.cell 5
            have f5 := SS.out.swap.free 5
            simp only [List.getElem?_toArray, List.getElem?_cons_succ, List.getElem?_cons_zero] at z0 z1 z2 z3 z4 z5
            go_simp
            refine hK.out _ _ (fun hv => absurd hv (by decide +kernel)) ?_
            clear hK K
            try simp only [Act.put, List.setIfInBounds_toArray, List.set_cons_zero, List.set_cons_succ]
            refine wpAnyL_ready (rs := [12]) (by kernel_rfl) (by simp) ?_
            refine AllL.cons (o := _) rfl (fun K hK => ?_) AllL.nil
            go_simp
            refine hK.out _ _ (fun hv => absurd hv (by decide +kernel)) ?_
            clear hK K
            try simp only [Act.put, List.setIfInBounds_toArray, List.set_cons_zero, List.set_cons_succ]
            replace SS := hid ((((((SS.out.swap.set 0 (.int .i64 2)).set 1 (.int .i64 0)).set 2 (.string sv)).set 3 (.slice ia 0 ic)).set 4 (.slice ra 0 rc)).set 5 (.slice ba 0 bc)).swap
            clear z0 z1 z2 z3 z4 z5 f0 f1 f2 f3 f4 f5
            refine wpAnyL_done (by kernel_rfl) ?_ _
            refine NoPanic.normal ?_
            go_wp2_with fail
            go_meet
            exact ⟨_, ia, ic, ra, rc, ba, bc, h2, rfl, rfl, LL, SS⟩
        case rest =>
          clear S
          obtain ⟨yb, ia, ic, ra, rc, ba, bc, h2, rfl, rfl, LL, S⟩ := hcut
          replace SL := hid (SL.out.trans LL.out)
          clear LL
          have hyn : yn ≤ 7 := by have := cntK_le i t.k; have := HY.out; omega
          have c0 := S.out.swap.cell 0
          have c2 := S.out.swap.cell 2
          simp only [List.getElem?_toArray, List.getElem?_cons_succ, List.getElem?_cons_zero] at c0 c2
          cases hb : isB (24 + i) t.k with
          | true =>
            obtain rfl : sTrue = sv := by have := HSV.out; rw [hb] at this; exact this
            unfold sTrue at c2
            have HB := hid hb
            clear hb
            go_wp2_with fail
            go_roundw
            case rel => exact ⟨i + 1, yn + 1, h2, by omega, by go_num, by go_num, hid (by unfold cntK; rw [HB.out, HY.out]; rfl), SL, hid S.out.swap.drop⟩
            case measure => simp [intOf]; omega
          | false =>
            obtain rfl : sFalse = sv := by have := HSV.out; rw [hb] at this; exact this
            unfold sFalse at c2
            have HB := hid hb
            clear hb
            go_wp2_with fail
            go_roundw
            case rel => exact ⟨i + 1, yn, h2, by omega, rfl, by go_num, hid (by unfold cntK; rw [HB.out, HY.out]; rfl), SL, hid S.out.swap.drop⟩
            case measure => simp [intOf]; omega
      · obtain rfl : i = 7 := by omega
        obtain rfl : yn = 1 := by rw [HY.out]; exact cnt_one (right_kind HR.out)
        have HA := hid (awake8 (HQ.out.mono SL.out) S.out)
        go_wp2_with fail
        refine HA.out.mono ?_
        rintro e w9 ⟨h9, rfl, l9, s9⟩
        go_wp2_with fail
        go_ret
        exact ⟨rfl, s9.archBelow (SL.out.trans l9)⟩
#print axioms kinds_walk
end Go.Proofs.YtlgogflhjpcmlaaDoor
