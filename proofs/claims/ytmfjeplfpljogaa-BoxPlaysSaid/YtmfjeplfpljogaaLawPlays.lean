/-
  The law BoxPlays: the Go text answers true, at every input, and turns nothing that was there.
-/
import Derived.Test.YtmfjeplfpljogaaBoxH
import Derived.Test.YtmfjeplfpljogaaArg
import Derived.Deep.DeepCutAuto
import Derived.Deep.CutBlock
import Derived.Deep.LoopGhost
import Derived.Deep.RegionLaw
namespace Go.Proofs.Ytmfjeplfpljogaa
open Go.RowKit
set_option maxHeartbeats 4000000

structure OpV where
  kind : Int
  v : Int
  d : Int
  wa : Option Addr
  wc : Nat
  ws : List Int
  own : Bool
structure OpAt (w : World) (g off : Nat) (o : OpV) : Prop where
  c0 : w.cell? ⟨g, off, none⟩ = some (.int .i64 o.kind)
  c1 : w.cell? ⟨g, off + 1, none⟩ = some (.int .u64 o.v)
  c2 : w.cell? ⟨g, off + 2, none⟩ = some (.int .u64 o.d)
  c3 : w.cell? ⟨g, off + 3, none⟩ = some (.slice o.wa o.ws.length o.wc)
  c4 : w.cell? ⟨g, off + 4, none⟩ = some (.bool o.own)
  rd : Rd w o.wa (u64s o.ws)
  le : o.ws.length * 8 ≤ 140737488351232

instance : Inhabited OpV := ⟨⟨0, 0, 0, none, 0, [], false⟩⟩
/-- A script that came in. -/
theorem ops_of_arg {H : Type} {enc : TypeId × Value → H} {w : World} {fuel : Nat} {cs : List Value} {x : DataW H × List MemPlace} (h : TrodA enc Try.prog w fuel 41 cs x) (hs : Sz Try.prog 41 x.1) :
    ∃ (a : Option Addr) (cap : Nat) (ops : List OpV), cs = [.slice a ops.length cap] ∧ ops.length * 56 ≤ 140737488351232 ∧ ∀ i o, ops[i]? = some o → ∃ g off, a = some ⟨g, off, none⟩ ∧ OpAt w g (off + i * 5) o := by
  have e5 : Try.prog.cellsOf 43 = 5 := by kernel_rfl
  have b56 : Try.prog.bytesOf 43 = 56 := by kernel_rfl
  have c1 : Try.prog.cellsOf 3 = 1 := by kernel_rfl
  have c2 : Try.prog.cellsOf 26 = 1 := by kernel_rfl
  have c3 : Try.prog.cellsOf 22 = 1 := by kernel_rfl
  have c4 : Try.prog.cellsOf 4 = 1 := by kernel_rfl
  have b8 : Try.prog.bytesOf 26 = 8 := by kernel_rfl
  obtain ⟨a, len, cap, n, rfl, _, h1, _, h2, h3⟩ := arg_slice Try.underlying41 (by rw [e5]; decide) h hs
  obtain ⟨f, hf⟩ := Deep.choose_lt (n := len) (p := fun i (o : OpV) => ∃ g off, a = some ⟨g, off, none⟩ ∧ OpAt w g (off + i * 5) o) (fun i hi => by
    obtain ⟨g, off, cs', y, ha, hl, hcell, ht, hz⟩ := h3 i hi
    rw [e5] at hl hcell
    obtain ⟨_, m, _, hfl⟩ := arg_struct Try.underlying43 ht hz
    match cs', hl with
    | [k0, k1, k2, k3, k4], _ =>
      obtain ⟨y0, t0, _⟩ := hfl 0 _ rfl
      obtain ⟨y1, t1, _⟩ := hfl 1 _ rfl
      obtain ⟨y2, t2, _⟩ := hfl 2 _ rfl
      obtain ⟨y3, t3, s3⟩ := hfl 3 _ rfl
      obtain ⟨y4, t4, _⟩ := hfl 4 _ rfl
      simp only [List.getElem_toArray, List.getElem_cons_zero, List.getElem_cons_succ] at t0 t1 t2 t3 t4 s3
      simp only [c1, c2, c3, c4, List.drop_zero, List.drop_succ_cons, List.take_succ_cons, List.take_zero] at t0 t1 t2 t3 t4
      obtain ⟨kind, q0, _⟩ := arg_int Try.underlying3 t0
      obtain ⟨v, q1, _⟩ := arg_int Try.underlying26 t1
      obtain ⟨d, q2, _⟩ := arg_int Try.underlying26 t2
      obtain ⟨wa, wc, ws, q3, l3, r3, rd3, _⟩ := arg_ints Try.underlying22 Try.underlying26 c2 t3 s3
      obtain ⟨own, q4⟩ := arg_bool Try.underlying4 t4
      simp only [List.cons.injEq, and_true] at q0 q1 q2 q3 q4
      subst q0 q1 q2 q3 q4
      rw [b8] at r3
      exact ⟨⟨kind, v, d, wa, wc, ws, own⟩, g, off, ha, hcell 0 (by omega), hcell 1 (by omega), hcell 2 (by omega), hcell 3 (by omega), hcell 4 (by omega), rd3, by simp only; omega⟩)
  refine ⟨a, cap, (List.range len).map f, by simp, ?_, fun i o ho => ?_⟩
  · rw [b56] at h2
    simp; omega
  · rw [List.getElem?_map] at ho
    by_cases hi : i < len
    · rw [List.getElem?_range hi] at ho
      simp only [Option.map_some, Option.some.injEq] at ho
      subst ho
      exact hf i hi
    · rw [List.getElem?_eq_none (by simp; omega)] at ho; cases ho

/-- the block of a script's entry that was copied out -/
def opCells (o : OpV) : Array Value := #[.int .i64 o.kind, .int .u64 o.v, .int .u64 o.d, .slice o.wa o.ws.length o.wc, .bool o.own]

theorem box_mono {W w : World} {L : List HP} {b : Nat} {xs : List Int} {k m m' : Nat} (h : m ≤ m') (s : Sat W w (box b xs k m :: L)) : Sat W w (box b xs k m' :: L) := by
  obtain ⟨r, ⟨h1, h2, h3, h4⟩, s'⟩ := s.unbun
  exact s'.mkbun r ⟨h1, h2, Nat.le_trans h3 h, h4⟩

set_option maxRecDepth 100000 in
theorem plays_walk (a0 : Option Addr) (n c0 : Nat) (ops : List OpV) (w : World) (hn : n = ops.length) (hb : n * 56 ≤ 140737488351232)
    (r0 : ∀ i o, ops[i]? = some o → ∃ g off, a0 = some ⟨g, off, none⟩ ∧ OpAt w g (off + i * 5) o) :
    Calls Try.prog 7 #[.slice a0 n c0] w fun e w' => e = .returned (.bool true) ∧ Below w.heap.size w w' := by
  have HN := hid hn
  have R0 := hid r0
  have HS := hid (Sat.start w)
  clear hn r0
  go_enter Try.func7, Try.ntmps7
  go_wp2_with fail
  obtain ⟨b, hb0⟩ : ∃ b, b = w.heap.size := ⟨_, rfl⟩
  have s1 := box_new HS.out
  rw [← hb0] at s1 ⊢
  have S1 : Hid (Sat w (w.alloc (.cells #[.slice none 0 0, .int .i64 0, .int .i64 0] 25)) [box b [] 0 0, row 26 1 none 0 0 (u64s []), old w]) := hid s1.rowNil.swap
  clear s1 hb0
  revert S1
  generalize w.alloc (.cells #[.slice none 0 0, .int .i64 0, .int .i64 0] 25) = wa
  intro S1
  go_loopg [4, 5, 6] n (fun left l at_ q wr => ∃ (i k : Nat) (A : Option Addr) (ca : Nat) (xs : List Int), i + left = n ∧ q = .int .i64 i ∧ at_ = .int .i64 k ∧ l = .slice A xs.length ca ∧ xs.length ≤ i ∧ k ≤ xs.length ∧ Hid (Sat w wr [box b xs k i, row 26 1 A xs.length ca (u64s xs), old w]))
  case atStart => exact ⟨0, 0, none, 0, [], by omega, rfl, rfl, rfl, Nat.zero_le _, Nat.zero_le _, S1⟩
  case round =>
    obtain ⟨i, k, A, ca, xs, hleft, rfl, rfl, rfl, hxl, hk, S⟩ := hrel
    clear S1
    by_cases hlt : i < n
    · obtain ⟨o, ho⟩ : ∃ o, ops[i]? = some o := ⟨ops[i]'(by have := HN.out; omega), List.getElem?_eq_getElem _⟩
      obtain ⟨g, off, rfl, hop⟩ := R0.out i o ho
      clear ho
      obtain ⟨c0', c1', c2', c3', c4', rd', le'⟩ := hop
      have e0 := S.out.rot3.oldCell c0'
      have e1 := S.out.rot3.oldCell c1'
      have e2 := S.out.rot3.oldCell c2'
      have e3 := S.out.rot3.oldCell c3'
      have e4 := S.out.rot3.oldCell c4'
      have HRd := hid rd'
      clear c0' c1' c2' c3' c4' rd'
      have hd8 : decide ((k : Int) < xs.length) = decide (k < xs.length) := by rw [decide_eq_decide]; omega
      obtain ⟨t, ht⟩ : ∃ t : Nat, o.kind % 6 = t := ⟨(o.kind % 6).toNat, by omega⟩
      have ht6 : t < 6 := by omega
      have HT := hid ht
      clear ht
      have S2 := hid (S.out.alloc (.cells (opCells o) 43))
      go_wp2_with fail
      refine (place_any o.kind 6 _ (by omega) (by omega)).mono ?_
      rintro e w' ⟨rfl, hw⟩
      subst hw
      rw [HT.out]
      clear e0 e1 e2 e3 e4
      obtain ⟨p, hp⟩ : ∃ p, p = wr.heap.size := ⟨_, rfl⟩
      rw [← hp] at S2 ⊢
      obtain ⟨wx, hwx⟩ : ∃ wx, wx = wr.alloc (.cells (opCells o) 43) := ⟨_, rfl⟩
      rw [← hwx] at S2
      have hwx' : wr.alloc (.cells #[.int .i64 o.kind, .int .u64 o.v, .int .u64 o.d, .slice o.wa o.ws.length o.wc, .bool o.own] 43) = wx := hwx.symm
      rw [hwx']
      clear hwx hwx' hp S hd8
      have e1 : wx.cell? ⟨p, 1, none⟩ = some (.int .u64 o.v) := S2.out.cell 1
      have e2 : wx.cell? ⟨p, 2, none⟩ = some (.int .u64 o.d) := S2.out.cell 2
      have e3 : wx.cell? ⟨p, 3, none⟩ = some (.slice o.wa o.ws.length o.wc) := S2.out.cell 3
      have e4 : wx.cell? ⟨p, 4, none⟩ = some (.bool o.own) := S2.out.cell 4
      go_upto_block 2 with fail
      go_cut [4, 5, 8, 34] (fun l at_ _ _ wc => ∃ (k' : Nat) (A' : Option Addr) (ca' : Nat) (ys : List Int), at_ = .int .i64 k' ∧ l = .slice A' ys.length ca' ∧ ys.length ≤ i + 1 ∧ k' ≤ ys.length ∧ Hid (Sat w wc [box b ys k' (i + 1), row 26 1 A' ys.length ca' (u64s ys), old w]))
      case first =>
        obtain rfl | rfl | rfl | rfl | rfl | rfl : t = 0 ∨ t = 1 ∨ t = 2 ∨ t = 3 ∨ t = 4 ∨ t = 5 := by omega
        · -- Push
          go_wp2_with fail
          refine (push_box o.v S2.out.swap (by omega)).mono ?_
          rintro e w1 ⟨rfl, s3⟩
          have S3 : Hid (Sat w w1 [row 26 1 A xs.length ca (u64s xs), box b (xs ++ [o.v]) k (i + 1), blk p (.cells (opCells o) 43), old w]) := hid s3.rot3
          have e1 : w1.cell? ⟨p, 1, none⟩ = some (.int .u64 o.v) := s3.swap.cell 1
          clear s3 S2
          go_wp2_with (at_builtin; refine wpList_push_row rfl _ _ rfl elem64 rfl S3.out (.int .u64 o.v) rfl (by simp) rfl (by unfold maxLen; omega) (by omega) ?_; intro a' c' w3 s4 ha' hz; have S4 := hid s4; clear s4 S3 ha' hz)
          go_meet
          have S5 := S4.out.rot3.drop.swap
          exact ⟨k, a', c', xs ++ [o.v], rfl, by rw [List.length_append]; rfl, by rw [List.length_append]; simp; omega, by rw [List.length_append]; omega, by rw [List.length_append]; simpa [u64s, Hid] using S5⟩
        · -- Peek
          by_cases hat : k < xs.length
          · have hd : decide (k < xs.length) = true := by simpa using hat
            have hpk := peek_yes S2.out.swap hat
            obtain ⟨g2, off2, rfl, hc2, _⟩ := S2.out.rot3.rowCells (by omega)
            have hcell := hc2 k (by omega)
            rw [get_u64s xs k hat] at hcell
            obtain ⟨x, HX⟩ : ∃ x, Hid (xs.getD k 0 = x) := ⟨_, rfl⟩
            rw [HX.out] at hpk hcell
            have hd2 : (x != x) = false := by simp
            have HPk := hid hpk
            clear hpk hc2
            go_wp2_with fail
            refine HPk.out.mono ?_
            rintro e w1 ⟨rfl, z, rfl⟩
            have S3 := hid (S2.out.drewN z)
            clear S2 HPk
            go_wp2_with fail
            go_meet
            exact ⟨k, _, ca, xs, rfl, rfl, by omega, hk, box_mono (by omega) S3.out.drop⟩
          · have hd : decide (k < xs.length) = false := by simpa using hat
            have hpk := peek_no S2.out.swap (by omega)
            have HPk := hid hpk
            clear hpk
            go_wp2_with fail
            refine HPk.out.mono ?_
            rintro e w1 ⟨rfl, z, rfl⟩
            have S3 := hid (S2.out.drewN z)
            clear S2 HPk
            go_wp2_with fail
            go_meet
            exact ⟨k, A, ca, xs, rfl, rfl, by omega, hk, box_mono (by omega) S3.out.drop⟩
        · -- Next
          by_cases hat : k < xs.length
          · have hd : decide (k < xs.length) = true := by simpa using hat
            have hnx := next_yes S2.out.swap hat
            have hd9 : decide ((k : Int) + 1 < xs.length) = decide (k + 1 < xs.length) := by rw [decide_eq_decide]; omega
            by_cases hk1 : k + 1 < xs.length
            · rw [decide_eq_true hk1] at hnx hd9
              have HNx := hid hnx
              clear hnx
              go_wp2_with fail
              refine HNx.out.mono ?_
              rintro e w1 ⟨rfl, s3⟩
              have S3 := hid s3.swap
              clear s3 S2 HNx
              go_wp2_with fail
              go_meet
              exact ⟨k + 1, A, ca, xs, by go_num, rfl, by omega, by omega, box_mono (by omega) S3.out.drop⟩
            · rw [decide_eq_false hk1] at hnx hd9
              have HNx := hid hnx
              clear hnx
              go_wp2_with fail
              refine HNx.out.mono ?_
              rintro e w1 ⟨rfl, s3⟩
              have S3 := hid s3.swap
              clear s3 S2 HNx
              go_wp2_with fail
              go_meet
              exact ⟨k + 1, A, ca, xs, by go_num, rfl, by omega, by omega, box_mono (by omega) S3.out.drop⟩
          · have hd : decide (k < xs.length) = false := by simpa using hat
            have hnx := next_no S2.out.swap (by omega)
            have hd9 : decide ((k : Int) < xs.length) = false := by simp; omega
            have HNx := hid hnx
            clear hnx
            go_wp2_with fail
            refine HNx.out.mono ?_
            rintro e w1 ⟨rfl, z, rfl⟩
            have S3 := hid (S2.out.drewN z)
            clear S2 HNx
            go_wp2_with fail
            go_meet
            exact ⟨k, A, ca, xs, rfl, rfl, by omega, hk, box_mono (by omega) S3.out.drop⟩
        · -- Take
          by_cases hat : k < xs.length
          · have hd : decide (k < xs.length) = true := by simpa using hat
            have htk := take_yes S2.out.swap hat
            obtain ⟨x, HX⟩ : ∃ x, Hid (xs.getD k 0 = x) := ⟨_, rfl⟩
            rw [HX.out] at htk
            have hd2 : (x != x) = false := by simp
            have HTk := hid htk
            clear htk
            go_wp2_with fail
            refine HTk.out.mono ?_
            rintro e w1 ⟨rfl, s3⟩
            have S3 : Hid (Sat w w1 [row 26 1 A xs.length ca (u64s xs), box b (xs.eraseIdx k) 0 i, blk p (.cells (opCells o) 43), old w]) := hid s3.rot3
            clear s3 S2 HTk
            have hl := S3.out.rowLen
            obtain ⟨g2, off2, rfl, hc2, _⟩ := S3.out.rowCells (by omega)
            have hcell := hc2 k (by omega)
            rw [get_u64s xs k hat, HX.out] at hcell
            have hrd : Rd w1 (some ⟨g2, off2 + (k + 1), none⟩) ((u64s xs).drop (k + 1)) := Rd.of_cells fun j hj => by
              rw [List.length_drop, length_u64s] at hj
              rw [Nat.add_assoc, hc2 _ (by omega), List.getElem?_drop]
            have HRd2 := hid hrd
            have HL := hid hl
            have hlc := hl.2.1
            have hdl : xs.length - (k + 1) = ((u64s xs).drop (k + 1)).length := by rw [List.length_drop, length_u64s]
            have hone : ∀ u ∈ (u64s xs).drop (k + 1), u.oneCell' = true := fun u hu => one_u64s xs u (List.mem_of_mem_drop hu)
            have HDL := hid hdl
            have HOne := hid hone
            clear hc2 hl hrd hdl hone
            go_wp2_with fail
            refine wp_region_quiet_tail 8 (by kernel_rfl) (by kernel_rfl) ?_
            simp only [List.take_succ_cons, List.take_zero, List.drop_succ_cons, List.drop_zero]
            repeat (go_big_quiet_step (fail))
            refine wpQuiet_nil ?_
            intro _ hw'
            obtain ⟨nq, hw''⟩ := hw'
            subst hw''
            have s9 := ((S3.out.drewN nq).rowTake k (by omega)).rowCap (c' := k) (Nat.le_refl _) (by omega)
            rw [Nat.mul_one] at s9
            refine wpList_append_src rfl _ _ rfl elem64 rfl s9 ((u64s xs).drop (k + 1)) rfl HDL.out ?_ HOne.out (by unfold maxLen; omega) (by omega) ?_
            · by_cases hc : ca = k + 1
              · rw [List.drop_of_length_le (by rw [length_u64s]; omega)]; exact Rd.nil _ _
              · rw [if_neg hc]; exact HRd2.out.drewN nq
            · generalize (if ca = k + 1 then (some ⟨g2, off2, none⟩ : Option Addr) else some ⟨g2, off2 + (k + 1), none⟩) = da
              intro a' c' w3 s4 ha' hz
              have hle : k + (xs.length - (k + 1)) = (xs.eraseIdx k).length := by rw [List.length_eraseIdx, if_pos hat]; omega
              have hxe : (u64s xs).take k ++ (u64s xs).drop (k + 1) = u64s (xs.eraseIdx k) := by rw [List.eraseIdx_eq_take_drop_succ, u64s, u64s, List.map_append, List.map_take, List.map_drop]
              rw [hle, hxe] at s4
              rw [hle]
              have S4 := hid s4
              clear s4 s9 S3 ha' hz hle hxe
              go_wp2_with fail
              go_meet
              exact ⟨0, a', c', xs.eraseIdx k, rfl, rfl, by rw [List.length_eraseIdx, if_pos hat]; omega, Nat.zero_le _, box_mono (by omega) (S4.out.sel [1, 0, 3])⟩
          · have hd : decide (k < xs.length) = false := by simpa using hat
            have htk := take_no S2.out.swap (by omega)
            have HTk := hid htk
            clear htk
            go_wp2_with fail
            refine HTk.out.mono ?_
            rintro e w1 ⟨rfl, z, rfl⟩
            have S3 := hid (S2.out.drewN z)
            clear S2 HTk
            go_wp2_with fail
            go_meet
            exact ⟨k, A, ca, xs, rfl, rfl, by omega, hk, box_mono (by omega) S3.out.drop⟩
        · -- First
          go_wp2_with fail
          refine (first_box S2.out.swap).mono ?_
          rintro e w1 ⟨rfl, s3⟩
          have S3 := hid s3.swap
          clear s3 S2
          go_wp2_with fail
          go_meet
          exact ⟨0, A, ca, xs, rfl, rfl, by omega, Nat.zero_le _, box_mono (by omega) S3.out.drop⟩
        · -- Swap
          have hrd0 : Rd wx o.wa (u64s o.ws) := HRd.out.old S2.out.rot4
          have hcw := copyWords_any S2.out o.wa o.ws.length o.wc o.ws rfl hrd0 (by omega)
          have HCw := hid hcw
          have hown : o.own = true ∨ o.own = false := by cases o.own <;> simp
          clear hcw hrd0 e1 e2
          rcases hown with hown | hown
          · -- the messages and a number
            rw [hown] at e4
            go_wp2_with fail
            refine HCw.out.mono ?_
            rintro e w1 ⟨W1, cw, rfl, s3⟩
            have S3 : Hid (Sat w w1 [blk p (.cells (opCells o) 43), box b xs k i, row 26 1 A xs.length ca (u64s xs), old w]) := hid s3.drop
            have f4 : w1.cell? ⟨p, 4, none⟩ = some (.bool true) := by have := S3.out.cell 4; rw [this]; simp [opCells, hown]
            have f2 : w1.cell? ⟨p, 2, none⟩ = some (.int .u64 o.d) := S3.out.cell 2
            obtain ⟨zs, hzs⟩ : ∃ zs : List Int, zs = xs.map fun x => IntKind.u64.wrap (x + o.d) := ⟨_, rfl⟩
            have hzl : zs.length = xs.length := by rw [hzs, List.length_map]
            have HZs := hid hzs
            have HZl := hid hzl
            clear s3 S2 HCw e3 e4 hown hzs hzl
            go_wp2_with fail
            go_loopg [13, 14] xs.length (fun left z q wr => ∃ (j : Nat) (Wz : Option Addr) (cz : Nat), j + left = xs.length ∧ q = .int .i64 j ∧ z = .slice Wz j cz ∧ Hid (Sat w wr [row 26 1 Wz j cz (u64s (zs.take j)), box b xs k i, row 26 1 A xs.length ca (u64s xs), blk p (.cells (opCells o) 43), old w]))
            case atStart => exact ⟨0, none, 0, by omega, rfl, rfl, hid (S3.out.rowNil.sel [0, 2, 3, 1, 4])⟩
            case round =>
              obtain ⟨j, Wz, cz, hj, rfl, rfl, S4⟩ := hrel
              clear S3 f2 f4
              by_cases hlt2 : j < xs.length
              · obtain ⟨g2, off2, rfl, hc2, _⟩ := S4.out.rot3.rowCells (by omega)
                have hcell := hc2 j (by omega)
                rw [get_u64s xs j hlt2] at hcell
                have f2 : wr.cell? ⟨p, 2, none⟩ = some (.int .u64 o.d) := S4.out.rot4.cell 2
                have hzt : zs.take (j + 1) = zs.take j ++ [IntKind.u64.wrap (xs.getD j 0 + o.d)] := by
                  rw [List.take_succ_eq_append_getElem (by rw [HZl.out]; exact hlt2)]
                  simp [HZs.out, hlt2]
                obtain ⟨x, HX⟩ : ∃ x, Hid (xs.getD j 0 = x) := ⟨_, rfl⟩
                rw [HX.out] at hcell hzt
                have HZt := hid hzt
                clear hc2 hzt
                go_wp2_with fail
                go_region_law (refine step_push_row rfl _ _ rfl elem64 rfl S4.out.drew (.int .u64 (IntKind.u64.wrap (x + o.d))) rfl (by simp) rfl (by unfold maxLen; omega) (by omega) ?_; intro a' c' w3 s5 ha' hz; have S5 := hid s5; clear s5 ha' hz)
                all_goals
                  go_wp2_with fail
                  go_roundg (xs.length - (j + 1))
                  case measure => omega
                  case rel => exact ⟨j + 1, a', c', by omega, by go_num, rfl, by rw [HZt.out]; simpa [u64s, Hid] using S5⟩
              · obtain rfl : j = xs.length := by omega
                have hzz : zs.take xs.length = zs := List.take_of_length_le (by rw [HZl.out]; exact Nat.le_refl _)
                rw [hzz] at S4
                have S5 : Hid (Sat w wr [box b xs k i, row 26 1 Wz xs.length cz (u64s zs), row 26 1 A xs.length ca (u64s xs), blk p (.cells (opCells o) 43), old w]) := hid (S4.out.sel [1, 0, 2, 3, 4])
                clear S4 hzz
                have hsw := swap_yes S5.out Wz xs.length cz zs rfl HZl.out.symm S5.out.swap.rowRd
                have HSw := hid hsw
                clear hsw
                have hd5 : ((xs.length : Int) == xs.length) = true := by simp
                go_wp2_with fail
                refine HSw.out.mono ?_
                rintro e w2 ⟨rfl, s6⟩
                have S6 := hid s6
                clear s6 S5 HSw
                have hcw2 := copyWords_any S6.out Wz xs.length cz zs HZl.out.symm S6.out.swap.rowRd (by omega)
                have HCw2 := hid hcw2
                clear hcw2
                go_wp2_with fail
                refine HCw2.out.mono ?_
                rintro e w3 ⟨W2, c2, rfl, s7⟩
                have S7 := hid (s7.sel [1, 0, 5])
                clear s7 S6 HCw2
                go_wp2_with fail
                go_meet
                exact ⟨k, W2, c2, zs, rfl, by rw [HZl.out], by rw [HZl.out]; omega, by rw [HZl.out]; omega, by rw [HZl.out]; exact box_mono (by omega) S7.out⟩
          · rw [hown] at e4
            go_wp2_with fail
            refine HCw.out.mono ?_
            rintro e w1 ⟨W1, cw, rfl, s3⟩
            have S3 : Hid (Sat w w1 [box b xs k i, row 26 1 W1 o.ws.length cw (u64s o.ws), row 26 1 A xs.length ca (u64s xs), blk p (.cells (opCells o) 43), old w]) := hid (s3.sel [2, 0, 3, 1, 4])
            have f4 : w1.cell? ⟨p, 4, none⟩ = some (.bool false) := by have := s3.swap.cell 4; rw [this]; simp [opCells, hown]
            clear s3 S2 HCw e3 e4 hown
            by_cases hle : o.ws.length = xs.length
            · have hsw := swap_yes S3.out W1 o.ws.length cw o.ws hle rfl S3.out.swap.rowRd
              have hd5 : ((o.ws.length : Int) == xs.length) = true := by rw [beq_iff_eq]; omega
              have HSw := hid hsw
              have HLe := hid hle
              clear hsw hle
              go_wp2_with fail
              refine HSw.out.mono ?_
              rintro e w2 ⟨rfl, s4⟩
              have S4 := hid s4
              clear s4 S3 HSw
              have hcw2 := copyWords_any S4.out W1 o.ws.length cw o.ws rfl S4.out.swap.rowRd (by omega)
              have HCw2 := hid hcw2
              clear hcw2
              go_wp2_with fail
              refine HCw2.out.mono ?_
              rintro e w3 ⟨W2, c2, rfl, s5⟩
              have S5 := hid s5.swap
              clear s5 S4 HCw2
              go_wp2_with fail
              go_meet
              exact ⟨k, W2, c2, o.ws, rfl, rfl, by have := HLe.out; omega, by have := HLe.out; omega, box_mono (by omega) (S5.out.sel [0, 1, 5])⟩
            · have hsw := swap_no S3.out W1 o.ws.length cw hle
              have hd5 : ((o.ws.length : Int) == xs.length) = false := by rw [beq_eq_false_iff_ne]; omega
              have HSw := hid hsw
              clear hsw hle
              go_wp2_with fail
              refine HSw.out.mono ?_
              rintro e w2 ⟨rfl, hw⟩
              have S4 := hid (S3.out.quiet hw)
              clear S3 HSw hw
              go_wp2_with fail
              go_meet
              exact ⟨k, A, ca, xs, rfl, rfl, by omega, hk, box_mono (by omega) (S4.out.sel [0, 2, 4])⟩
      case rest =>
        obtain ⟨k', A', ca', ys, rfl, rfl, hyl, hk', S3⟩ := hcut
        have hln := len_box S3.out
        have HLn := hid hln
        have hd1 : ((ys.length : Int) != ys.length) = false := by simp
        have hd2 : ((k' : Int) != k') = false := by simp
        clear hln
        go_wp2_with fail
        refine HLn.out.mono ?_
        rintro e w1 ⟨rfl, hw⟩
        have S4 := hid (S3.out.quiet hw)
        clear hw S3 HLn
        go_wp2_with fail
        refine (at_box S4.out).mono ?_
        rintro e w2 ⟨rfl, hw⟩
        have S5 := hid (S4.out.quiet hw)
        clear hw S4
        go_wp2_with fail
        refine (words_box S5.out (by omega)).mono ?_
        rintro e w3 ⟨a', c', rfl, s6⟩
        have hsw := sameWords_any w3 a' A' ys.length ys.length c' ca' ys ys rfl rfl s6.rowRd s6.rot3.rowRd (by omega) (by omega)
        rw [decide_eq_true rfl] at hsw
        have HSw := hid hsw
        have S6 := hid s6.drop
        clear s6 S5 hsw
        go_wp2_with fail
        refine HSw.out.mono ?_
        rintro e w4 ⟨rfl, hw⟩
        have S7 := hid (S6.out.quiet hw)
        clear hw S6 HSw
        go_wp2_with fail
        go_roundg (gk - 1)
        case measure => omega
        case rel => exact ⟨i + 1, k', A', ca', ys, by omega, by go_num, rfl, rfl, hyl, hk', S7⟩
    · obtain rfl : i = n := by omega
      go_wp2_with fail
      refine (awake_any S.out).mono ?_
      rintro e w11 ⟨rfl, s14⟩
      have S14 := hid s14
      clear s14 S
      go_wp2_with fail
      go_ret
      exact ⟨rfl, S14.out.drop.drop.below⟩
end Go.Proofs.Ytmfjeplfpljogaa
