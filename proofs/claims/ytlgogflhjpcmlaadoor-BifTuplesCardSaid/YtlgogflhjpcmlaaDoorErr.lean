/-
  ERRORS AS CHAINS: what fault.At makes.
-/
import Derived.Test.YtlgogflhjpcmlaaDoorProg
import Derived.Test.YtlgogflhjpcmlaaDoorArch
import Derived.Test.YtlgogflhjpcmlaaDoorQTail
import Derived.Deep.RegionLaw
import Derived.Deep.LoopGhost
import Derived.WalkSpells
import Derived.Laws.StructEq
namespace Go.Proofs.YtlgogflhjpcmlaaDoor
open Go.RowKit
set_option maxHeartbeats 400000

/-- An error value that is a chain of faults (what was done, at which number) around a kind. -/
def ErrIn (h : Nat → Option Obj) : Value → List (ByteArray × Int) → Int → Prop
  | v, [], k => v = .iface 85 (.int .i64 k)
  | v, (op, n) :: fs, k => ∃ b v', v = .iface 82 (.pointer (some ⟨b, 0, none⟩)) ∧ h b = some (.cells #[.string op, .int .i64 n, v'] 84 (0, 0)) ∧ ErrIn h v' fs k
theorem ErrIn.mono {h h' : Nat → Option Obj} (l : Le h h') : ∀ {fs : List (ByteArray × Int)} {v : Value} {k : Int}, ErrIn h v fs k → ErrIn h' v fs k
  | [], _, _, q => q
  | (_, _) :: _, _, _, ⟨b, v', e1, e2, e3⟩ => ⟨b, v', e1, l b _ e2, e3.mono l⟩
theorem ErrIn.iface {h : Nat → Option Obj} : ∀ {fs : List (ByteArray × Int)} {v : Value} {k : Int}, ErrIn h v fs k → ∃ t x, v = .iface t x
  | [], _, _, e => ⟨_, _, e⟩
  | (_, _) :: _, _, _, ⟨_, _, e1, _, _⟩ => ⟨_, _, e1⟩

section
variable {W w : World} {L : List HP} {h : Nat → Option Obj}

theorem at_nil (op : ByteArray) (n : Int) (w : World) : Calls Tryd.prog 29 #[.string op, .int .i64 n, .nilIface] w fun e w' => e = .returned .nilIface ∧ w = w' := by
  go_enter Tryd.func29, Tryd.ntmps29
  go_wp2
  go_ret
  exact ⟨rfl, rfl⟩
theorem at_some (s : Sat W w (arch h :: L)) (op : ByteArray) (n : Int) {v : Value} {fs : List (ByteArray × Int)} {k : Int} (hv : ErrIn h v fs k) :
    Calls Tryd.prog 29 #[.string op, .int .i64 n, v] w fun e w' => ∃ v' h', e = .returned v' ∧ Le h h' ∧ ErrIn h' v' ((op, n) :: fs) k ∧ Sat W w' (arch h' :: L) := by
  obtain ⟨t, x, rfl⟩ := hv.iface
  have HV := hid hv
  have S1 := hid (s.alloc (.cells #[.string op, .int .i64 n, .iface t x] 84))
  clear hv s
  go_enter Tryd.func29, Tryd.ntmps29
  go_wp2
  go_ret
  obtain ⟨h', l, hb, s'⟩ := S1.out.store
  exact ⟨_, h', rfl, l, ⟨_, _, rfl, hb, HV.out.mono l⟩, s'⟩
end
end Go.Proofs.YtlgogflhjpcmlaaDoor
