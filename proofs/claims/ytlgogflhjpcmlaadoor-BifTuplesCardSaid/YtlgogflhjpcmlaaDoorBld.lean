/-
  strings.Builder in the small separation logic: copyCheck, WriteByte, WriteString.
-/
import Derived.Test.YtlgogflhjpcmlaaDoorTCopy
import Derived.Test.YtlgogflhjpcmlaaDoorStrApp
import Derived.Shelf.Strings.Builder1
namespace Go.Proofs.YtlgogflhjpcmlaaDoor
open Go.RowKit
set_option maxHeartbeats 2000000

theorem infoBld : (Tryd.prog.info? 117).map (·.size) = some 2 := by kernel_rfl
theorem liesBld : liesAt Tryd.prog Tryd.prog.depth 117 (2 / Tryd.prog.cellsOf 117) 0 117 1 = true := by kernel_rfl
theorem info8 : (Tryd.prog.info? 5).map (fun i => (i.zero, i.size, i.bytes)) = some (some (.int .u8 0), 1, 1) := by kernel_rfl
section
variable {W w : World} {L : List HP} {b : Nat} {v : Value}
theorem Sat.shape {cs : Array Value} {t : TypeId} {fr : Nat × Nat} (s : Sat W w (blk b (.cells cs t fr) :: L)) : w.shape? b = some (t, cs.size) := by
  simp [World.shape?, s.get]
set_option maxRecDepth 100000 in
theorem cc_used (S : Sat W w (blk b (.cells #[.pointer (some ⟨b, 0, none⟩), v] 117 (0, 0)) :: L)) :
    Calls Tryd.prog 85 #[.pointer (some ⟨b, 0, none⟩)] w fun e w' => e = .returned (.tuple #[]) ∧ w = w' := by
  obtain ⟨j, hj, _⟩ := Option.map_eq_some_iff.1 infoBld
  have h0 : w.cell? ⟨b, 0, none⟩ = some (.pointer (some ⟨b, 0, none⟩)) := S.cell 0
  have HJ := hid hj
  clear S hj
  go_enter Tryd.func85, Tryd.ntmps85
  go_wp2
  rw [Lib.run_neq_ptr_same w _ Tryd.underlying115 HJ.out]
  go_wp2
  go_end0
  exact ⟨rfl, rfl⟩
set_option maxRecDepth 100000 in
theorem cc_fresh (S : Sat W w (blk b (.cells #[.pointer none, v] 117 (0, 0)) :: L)) :
    Calls Tryd.prog 85 #[.pointer (some ⟨b, 0, none⟩)] w fun e w' => e = .returned (.tuple #[]) ∧ Sat W w' (blk b (.cells #[.pointer (some ⟨b, 0, none⟩), v] 117 (0, 0)) :: L) := by
  obtain ⟨j, hj, hjs⟩ := Option.map_eq_some_iff.1 infoBld
  have h0 : w.cell? ⟨b, 0, none⟩ = some (.pointer none) := S.cell 0
  have hfz : w.frozen? ⟨b, 0, none⟩ = false := S.free 0
  have hsh : w.shape? b = some (117, 2) := S.shape
  have S1 := hid (S.set 0 (.pointer (some ⟨b, 0, none⟩)))
  have HJ := hid hj
  have HJS := hid hjs
  have HSH := hid hsh
  clear S hj hjs hsh
  go_enter Tryd.func85, Tryd.ntmps85
  go_wp2
  rw [Lib.run_to_unsafe w ⟨b, 0, none⟩ Tryd.underlying115 Tryd.underlying131 HJ.out (by rw [HJS.out]; decide) HSH.out (Nat.zero_lt_succ 1)]
  simp only [Result.andThen]
  rw [Oper.upon_value]
  go_wp2
  rw [run_callFunc_extern Tryd.func91 (by kernel_rfl) (by kernel_rfl) (by kernel_rfl) (e := Extern.AbiNoEscape.same) (by kernel_rfl)]
  rw [Lib.run_noEscape]
  simp only [Result.andThen]
  rw [Oper.upon_value]
  go_wp2
  rw [Lib.run_from_unsafe w ⟨b, 0, none⟩ Tryd.underlying131 Tryd.underlying115 HJ.out HSH.out liesBld]
  simp only [Result.andThen]
  rw [Oper.upon_value]
  go_wp2
  go_end0
  exact ⟨rfl, S1.out⟩

structure BR where
  p : Value
  a : Option Addr
  c : Nat
/-- a builder at a block, and the bytes that it holds -/
def bld (b : Nat) (xs : List Value) : HP := bun (fun R : BR => R.p = .pointer none ∨ R.p = .pointer (some ⟨b, 0, none⟩)) (fun R => [blk b (.cells #[R.p, .slice R.a xs.length R.c] 117 (0, 0)), row 5 1 R.a xs.length R.c xs])
theorem bld_open {xs : List Value} (S : Sat W w (bld b xs :: L)) : ∃ R : BR, (R.p = .pointer none ∨ R.p = .pointer (some ⟨b, 0, none⟩)) ∧ Sat W w (blk b (.cells #[R.p, .slice R.a xs.length R.c] 117 (0, 0)) :: row 5 1 R.a xs.length R.c xs :: L) := S.unbun
theorem bld_new (S : Sat W w (blk b (.cells #[.pointer none, .slice none 0 0] 117 (0, 0)) :: L)) : Sat W w (bld b [] :: L) :=
  Sat.mkbun (α := BR) ⟨.pointer none, none, 0⟩ (.inl rfl) (S.rowNil (e := 5) (size := 1)).swap
/-- copyCheck at a builder -/
theorem cc_any {xs : List Value} (S : Sat W w (bld b xs :: L)) : Calls Tryd.prog 85 #[.pointer (some ⟨b, 0, none⟩)] w fun e w' => ∃ a c, e = .returned (.tuple #[]) ∧ Sat W w' (blk b (.cells #[.pointer (some ⟨b, 0, none⟩), .slice a xs.length c] 117 (0, 0)) :: row 5 1 a xs.length c xs :: L) := by
  obtain ⟨⟨p, a, c⟩, hp, s⟩ := bld_open S
  rcases hp with hp | hp
  · simp only at hp s
    subst hp
    exact (cc_fresh s).mono fun e w' ⟨he, hs⟩ => ⟨a, c, he, hs⟩
  · simp only at hp s
    subst hp
    exact (cc_used s).mono fun e w' ⟨he, hw⟩ => ⟨a, c, he, hw ▸ s⟩
theorem wbyte_any {xs : List Value} (S : Sat W w (bld b xs :: L)) (x : Int) (hb : xs.length + 1 ≤ 140737488355328) :
    Calls Tryd.prog 82 #[.pointer (some ⟨b, 0, none⟩), .int .u8 x] w fun e w' => e = .returned .nilIface ∧ Sat W w' (bld b (xs ++ [.int .u8 x]) :: L) := by
  have S0 := hid S
  obtain ⟨n, HN⟩ : ∃ n, Hid (xs.length = n) := ⟨_, hid rfl⟩
  have hcc := cc_any S
  rw [HN.out] at hcc hb
  have HCC := hid hcc
  clear S hcc
  go_enter Tryd.func82, Tryd.ntmps82
  go_wp2_with fail
  refine HCC.out.mono ?_
  rintro e w1 ⟨a, c, rfl, s1⟩
  have S1 := hid s1.swap
  have c1 : w1.cell? ⟨b, 1, none⟩ = some (.slice a n c) := s1.cell 1
  clear s1 HCC S0
  go_wp2_with (at_builtin; refine wpList_push_row rfl _ _ rfl elem8 rfl S1.out (.int .u8 x) rfl (by simp) rfl (by unfold maxLen; omega) (by omega) ?_; intro a' c' w3 s4 ha' hz; have S4 := hid s4.swap; clear s4 S1; have d1 : w3.cell? ⟨b, 1, none⟩ = some (.slice a n c) := S4.out.cell 1; have f1 := S4.out.free 1)
  go_ret
  have s5 := S4.out.set 1 (.slice a' (n + 1) c')
  refine ⟨rfl, Sat.mkbun (α := BR) ⟨.pointer (some ⟨b, 0, none⟩), a', c'⟩ (.inr rfl) ?_⟩
  simp only [List.length_append, List.length_cons, List.length_nil, HN.out]
  exact s5
theorem wstring_any {xs : List Value} (S : Sat W w (bld b xs :: L)) (str : ByteArray) (hb : xs.length + str.size ≤ 140737488355328) :
    Calls Tryd.prog 78 #[.pointer (some ⟨b, 0, none⟩), .string str] w fun e w' => e = .returned (.tuple #[.int .i64 str.size, .nilIface]) ∧ Sat W w' (bld b (xs ++ Lib.strCells str) :: L) := by
  obtain ⟨n, HN⟩ : ∃ n, Hid (xs.length = n) := ⟨_, hid rfl⟩
  have hcc := cc_any S
  rw [HN.out] at hcc hb
  have HCC := hid hcc
  clear S hcc
  go_enter Tryd.func78, Tryd.ntmps78
  go_wp2_with fail
  refine HCC.out.mono ?_
  rintro e w1 ⟨a, c, rfl, s1⟩
  have S1 := hid s1.swap
  have c1 : w1.cell? ⟨b, 1, none⟩ = some (.slice a n c) := s1.cell 1
  clear s1 HCC
  go_wp2_with (at_builtin; refine wpList_append_str rfl _ _ rfl Tryd.underlying33 Tryd.underlying9 info8 rfl S1.out str rfl (by unfold maxLen; omega) (by omega) ?_; intro a' c' w3 s4 hz; have S4 := hid s4.swap; clear s4 S1; have d1 : w3.cell? ⟨b, 1, none⟩ = some (.slice a n c) := S4.out.cell 1; have f1 := S4.out.free 1)
  go_ret2
  have s5 := S4.out.set 1 (.slice a' (n + str.size) c')
  refine ⟨rfl, Sat.mkbun (α := BR) ⟨.pointer (some ⟨b, 0, none⟩), a', c'⟩ (.inr rfl) ?_⟩
  simp only [List.length_append, Lib.strCells_length, HN.out]
  exact s5
end
end Go.Proofs.YtlgogflhjpcmlaaDoor
