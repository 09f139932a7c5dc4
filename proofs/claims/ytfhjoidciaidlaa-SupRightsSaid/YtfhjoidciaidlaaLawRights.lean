/-
  The law SupRights: the Go text answers true, at every input, and turns nothing that was there.
-/
import Derived.Test.YtfhjoidciaidlaaSpecR
namespace Go.Proofs.Ytfhjoidciaidlaa
open Go.RowKit
set_option maxHeartbeats 2000000
theorem fault_len {s : Sp} {fs : List (ByteArray × Int)} (h : s.fault = some fs) : fs.length ≤ 9000 := by
  unfold Sp.fault at h
  split at h
  · cases hf : s.ch.findIdx? (fun c => !c.ok) with
    | none => rw [hf] at h; cases h
    | some i => rw [hf] at h; simp only [Option.some.injEq] at h; subst h; simp
  · simp only [Option.some.injEq] at h; subst h; simp
theorem fault_none {s : Sp} (h : s.fault = none) : s.ch.length ≤ 32 := by
  unfold Sp.fault at h
  split at h
  · rename_i hh
    unfold Sp.head at hh
    rw [decide_eq_true_eq] at hh
    omega
  · cases h
theorem xnone {h : Nat → Option Obj} {v : Option Addr} {k : Int} {f : Option (List (ByteArray × Int))} (hx : XOr h v k f) (hf : f = none) : v = none := by subst hf; exact hx
set_option maxRecDepth 100000 in
theorem rights_walk (s : Sp) (a : Option Addr) (c : Nat) (W : World) (hr : Rd W a (chVals s.ch)) (hsz : ∀ x ∈ s.ch, x.f.size ≤ 140737488351232) (hc : s.ch.length ≤ c) (hb : c * 32 ≤ 140737488351232) :
    Calls Try.prog 3 #[specAgg s a c] W fun e w' => e = .returned (.bool true) ∧ Below W.heap.size W w' := by
  have S0 := hid ((Sat.startArch W).allocAt (k := W.heap.size) (.cells #[.int .i64 s.strat, .int .i64 s.m, .int .i64 s.t, .slice a s.ch.length c] 24) rfl).swap
  have HR := hid hr.heapOf
  have HSZ := hid hsz
  have hc32 : s.ch.length * 32 ≤ 140737488355328 := by omega
  have hcm : s.ch.length ≤ maxLen := by unfold maxLen; omega
  have HC := hid hcm
  obtain ⟨f, hf⟩ : ∃ f, s.fault = f := ⟨_, rfl⟩
  have HF := hid hf
  have hl0 : Hid (Le (heapOf W) (heapOf W)) := hid (Le.refl _)
  clear hr hsz hc hb hcm hf
  obtain ⟨tb, HTB⟩ : ∃ tb, Hid (W.heap.size = tb) := ⟨_, hid rfl⟩
  have c0 := S0.out.swap.cell 0
  have c1 := S0.out.swap.cell 1
  have c2 := S0.out.swap.cell 2
  have c3 := S0.out.swap.cell 3
  clear c0 c1 c2 c3
  unfold specAgg
  go_enter Try.func3, Try.ntmps3
  go_wp2_with fail
  refine (spec_any S0.out s a c HR.out hc32).mono ?_
  rintro e w1 ⟨a1, c1, h1, rfl, le, r1, s1⟩
  have HL1 := hid le
  have HR1 := hid r1
  have S1 := hid s1
  have d0 : w1.cell? ⟨W.heap.size, 0, none⟩ = some (.int .i64 s.strat) := S1.out.swap.cell 0
  have d1 : w1.cell? ⟨W.heap.size, 1, none⟩ = some (.int .i64 s.m) := S1.out.swap.cell 1
  have d2 : w1.cell? ⟨W.heap.size, 2, none⟩ = some (.int .i64 s.t) := S1.out.swap.cell 2
  have d3 : w1.cell? ⟨W.heap.size, 3, none⟩ = some (.slice a s.ch.length c) := S1.out.swap.cell 3
  clear le r1 s1 S0
  unfold specAgg
  cases f with
  | none =>
    have HC32 := hid (fault_none HF.out)
    go_wp2_with fail
    refine (new_ok S1.out s a1 c1 HR1.out HSZ.out HC32.out HF.out).mono ?_
    rintro e w2 ⟨p, h2, rfl, le, s2⟩
    have HL2 := hid (HL1.out.trans le)
    have S2 := hid s2
    have d0 : w2.cell? ⟨W.heap.size, 0, none⟩ = some (.int .i64 s.strat) := S2.out.rot3.cell 0
    have d1 : w2.cell? ⟨W.heap.size, 1, none⟩ = some (.int .i64 s.m) := S2.out.rot3.cell 1
    have d2 : w2.cell? ⟨W.heap.size, 2, none⟩ = some (.int .i64 s.t) := S2.out.rot3.cell 2
    have d3 : w2.cell? ⟨W.heap.size, 3, none⟩ = some (.slice a s.ch.length c) := S2.out.rot3.cell 3
    clear le s2 S1
    go_wp2_with fail
    refine (xright S2.out.swap s a c (HR.out.mono HL2.out) HSZ.out HC.out).mono ?_
    rintro e w3 ⟨x, h3, rfl, le, hx, s3⟩
    obtain rfl := xnone hx HF.out
    have HL3 := hid (HL2.out.trans le)
    have S3 := hid s3
    have d0 : w3.cell? ⟨W.heap.size, 0, none⟩ = some (.int .i64 s.strat) := S3.out.rot3.cell 0
    have d1 : w3.cell? ⟨W.heap.size, 1, none⟩ = some (.int .i64 s.m) := S3.out.rot3.cell 1
    have d2 : w3.cell? ⟨W.heap.size, 2, none⟩ = some (.int .i64 s.t) := S3.out.rot3.cell 2
    have d3 : w3.cell? ⟨W.heap.size, 3, none⟩ = some (.slice a s.ch.length c) := S3.out.rot3.cell 3
    clear le s3 S2 hx
    go_wp2_with fail
    refine (spec_any S3.out s a c (HR.out.mono HL3.out) hc32).mono ?_
    rintro e w4 ⟨a4, c4, h4, rfl, le, r4, s4⟩
    have HL4 := hid (HL3.out.trans le)
    have HR4 := hid r4
    have S4 := hid s4
    clear le r4 s4 S3
    unfold specAgg
    go_wp2_with fail
    refine (sup_right S4.out s a4 c4 HR4.out HSZ.out HC.out).mono ?_
    rintro e w5 ⟨v, h5, rfl, le, he, s5⟩
    rw [HF.out] at he
    unfold ErrOr at he
    subst he
    have HL5 := hid (HL4.out.trans le)
    have S5 := hid s5
    clear le s5 S4
    go_wp2_with fail
    refine (ref_nil w5).mono ?_
    rintro e w6 ⟨rfl, hw⟩
    have S6 := hid (S5.out.quiet hw)
    clear hw S5
    go_wp2_with fail
    refine (ref_nil w6).mono ?_
    rintro e w7 ⟨rfl, hw⟩
    have S7 := hid (S6.out.quiet hw)
    clear hw S6
    go_wp2_with fail
    refine (awake_any S7.out).mono ?_
    rintro e w8 ⟨h8, rfl, le, s8⟩
    have HL8 := hid (HL5.out.trans le)
    have S8 := hid s8
    clear le s8 S7
    go_wp2_with fail
    go_ret
    exact ⟨rfl, S8.out.archBelow HL8.out⟩
  | some fs =>
    have HFL := hid (fault_len HF.out)
    go_wp2_with fail
    refine (new_bad S1.out s a1 c1 HR1.out HSZ.out HC.out HF.out).mono ?_
    rintro e w2 ⟨v1, h2, rfl, le, he1, s2⟩
    have HL2 := hid (HL1.out.trans le)
    have S2 := hid s2
    have HE1 := hid he1
    have d0 : w2.cell? ⟨W.heap.size, 0, none⟩ = some (.int .i64 s.strat) := S2.out.swap.cell 0
    have d1 : w2.cell? ⟨W.heap.size, 1, none⟩ = some (.int .i64 s.m) := S2.out.swap.cell 1
    have d2 : w2.cell? ⟨W.heap.size, 2, none⟩ = some (.int .i64 s.t) := S2.out.swap.cell 2
    have d3 : w2.cell? ⟨W.heap.size, 3, none⟩ = some (.slice a s.ch.length c) := S2.out.swap.cell 3
    clear le s2 S1 he1
    go_wp2_with fail
    refine (xright S2.out s a c (HR.out.mono HL2.out) HSZ.out HC.out).mono ?_
    rintro e w3 ⟨x, h3, rfl, le, hx, s3⟩
    rw [HF.out] at hx
    have hx : XIn h3 x fs 20 := hx
    obtain ⟨xb, rfl⟩ := hx.some
    have HX := hid hx
    have HE3 := hid (HE1.out.mono le)
    have HL3 := hid (HL2.out.trans le)
    have S3 := hid s3
    have d0 : w3.cell? ⟨W.heap.size, 0, none⟩ = some (.int .i64 s.strat) := S3.out.swap.cell 0
    have d1 : w3.cell? ⟨W.heap.size, 1, none⟩ = some (.int .i64 s.m) := S3.out.swap.cell 1
    have d2 : w3.cell? ⟨W.heap.size, 2, none⟩ = some (.int .i64 s.t) := S3.out.swap.cell 2
    have d3 : w3.cell? ⟨W.heap.size, 3, none⟩ = some (.slice a s.ch.length c) := S3.out.swap.cell 3
    clear le s3 S2 hx HE1
    go_wp2_with fail
    refine (spec_any S3.out s a c (HR.out.mono HL3.out) hc32).mono ?_
    rintro e w4 ⟨a4, c4, h4, rfl, le, r4, s4⟩
    have HX4 := hid (HX.out.mono le)
    have HE4 := hid (HE3.out.mono le)
    have HL4 := hid (HL3.out.trans le)
    have HR4 := hid r4
    have S4 := hid s4
    clear le r4 s4 S3 HX HE3
    unfold specAgg
    go_wp2_with fail
    refine (sup_right S4.out s a4 c4 HR4.out HSZ.out HC.out).mono ?_
    rintro e w5 ⟨v, h5, rfl, le, he, s5⟩
    rw [HF.out] at he
    have he : ErrIn h5 v fs 20 := he
    have HE := hid he
    have HX5 := hid (HX4.out.mono le)
    have HE5 := hid (HE4.out.mono le)
    have HL5 := hid (HL4.out.trans le)
    have S5 := hid s5
    clear le s5 S4 he HX4 HE4
    go_wp2_with fail
    refine (ref_err S5.out HE.out HX5.out (by decide) HFL.out).mono ?_
    rintro e w6 ⟨rfl, s6⟩
    have S6 := hid s6
    clear s6 S5
    go_wp2_with fail
    refine (ref_err S6.out HE5.out HX5.out (by decide) HFL.out).mono ?_
    rintro e w7 ⟨rfl, s7⟩
    have S7 := hid s7
    clear s7 S6
    go_wp2_with fail
    refine (awake_any S7.out).mono ?_
    rintro e w8 ⟨h8, rfl, le, s8⟩
    have HL8 := hid (HL5.out.trans le)
    have S8 := hid s8
    clear le s8 S7
    go_wp2_with fail
    go_ret
    exact ⟨rfl, S8.out.archBelow HL8.out⟩
end Go.Proofs.Ytfhjoidciaidlaa
