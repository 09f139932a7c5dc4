/-
  The statements' Err: two errors of one chain; a fault that the statement itself makes.
-/
import Derived.Test.YtohdhckafebmhaaDoorErr
namespace Go.Proofs.YtohdhckafebmhaaDoor
open Go.RowKit
set_option maxHeartbeats 400000
section
variable {W w : World} {L : List HP} {h : Nat → Option Obj}
theorem err_err (s : Sat W w (arch h :: L)) {v v' : Value} {fs : List (ByteArray × Int)} {k : Int} (hv : ErrIn h v fs k) (hx : ErrIn h v' fs k) (hk : k ≠ 0) (hlen : fs.length ≤ 9000) :
    Calls Tryd.prog 18 #[v, v'] w fun e w' => e = .returned (.bool true) ∧ Sat W w' (arch h :: L) := by
  obtain ⟨t, x, rfl⟩ := hv.iface
  obtain ⟨t', x', rfl⟩ := hx.iface
  have HV := hid hv
  have HX := hid hx
  have HK := hid hk
  have S := hid s
  have hl : (links fs k).length ≤ 9001 := by simp [links, linksOf]; omega
  clear hv hx hk s
  go_enter Tryd.func18, Tryd.ntmps18
  go_wp2_with fail
  refine (links_err S.out HV.out HK.out hlen).mono ?_
  rintro e w1 ⟨a, n, c, rfl, hn, s1⟩
  have HN := hid hn
  have S1 := hid s1
  clear s1 S hn
  go_wp2_with fail
  refine (links_err (S1.out.swap) HX.out HK.out hlen).mono ?_
  rintro e w2 ⟨a2, n2, c2, rfl, hn2, s2⟩
  have HN2 := hid hn2
  have S2 := hid s2
  clear s2 S1 hn2
  go_wp2_with fail
  refine (sameLinks_any w2 a a2 n n2 c c2 _ _ HN.out HN2.out ((S2.out.sel [2]).rowRd) (S2.out.rowRd) (by rw [HN.out]; omega) (by rw [HN2.out]; omega)).mono ?_
  rintro e w3 ⟨⟨r, rfl, hr⟩, hw⟩
  have S3 := hid (S2.out.drop.swap.drop.quiet hw)
  obtain rfl := hr.2 rfl
  clear hw hr S2
  go_wp2_with fail
  go_ret
  exact ⟨rfl, S3.out⟩
/-- a fault of one link, just made -/
theorem fault_in {b : Nat} {op : ByteArray} {n k : Int} (s : Sat W w (blk b (.cells #[.string op, .int .i64 n, .iface 49 (.int .i64 k)] 86 (0, 0)) :: arch h :: L)) :
    ∃ h', Le h h' ∧ ErrIn h' (.iface 84 (.pointer (some ⟨b, 0, none⟩))) [(op, n)] k ∧ Sat W w (arch h' :: L) := by
  obtain ⟨h', l, hb, s'⟩ := s.store
  exact ⟨h', l, ⟨b, _, rfl, hb, rfl⟩, s'⟩
end
end Go.Proofs.YtohdhckafebmhaaDoor
