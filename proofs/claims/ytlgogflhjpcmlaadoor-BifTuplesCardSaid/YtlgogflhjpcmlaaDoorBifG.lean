/-
  bif: functions by name; the law's do of two terms; awake. (Written by wip/gen/gen_bifg.py.)
-/
import Derived.Test.YtlgogflhjpcmlaaDoorBifE
import Derived.Test.YtlgogflhjpcmlaaDoorPlace
namespace Go.Proofs.YtlgogflhjpcmlaaDoor
open Go.RowKit
set_option maxHeartbeats 4000000
set_option maxRecDepth 100000

theorem fnk_add : FnOk 0 ⟨#[97, 100, 100]⟩ 2 none := ⟨by decide +kernel, [97, 100, 100, 50], 3, rfl, rfl, by decide, by decide, by decide +kernel, by intro f hf; cases hf⟩
theorem fnk_sub : FnOk 1 ⟨#[115, 117, 98]⟩ 2 none := ⟨by decide +kernel, [115, 117, 98, 50], 3, rfl, rfl, by decide, by decide, by decide +kernel, by intro f hf; cases hf⟩
theorem fnk_mul : FnOk 2 ⟨#[109, 117, 108]⟩ 2 none := ⟨by decide +kernel, [109, 117, 108, 50], 3, rfl, rfl, by decide, by decide, by decide +kernel, by intro f hf; cases hf⟩
theorem fnk_div : FnOk 3 ⟨#[100, 105, 118]⟩ 2 none := ⟨by decide +kernel, [100, 105, 118, 50], 3, rfl, rfl, by decide, by decide, by decide +kernel, by intro f hf; cases hf⟩
theorem fnk_rem : FnOk 4 ⟨#[114, 101, 109]⟩ 2 none := ⟨by decide +kernel, [114, 101, 109, 50], 3, rfl, rfl, by decide, by decide, by decide +kernel, by intro f hf; cases hf⟩
theorem fnk_neg : FnOk 5 ⟨#[110, 101, 103]⟩ 1 none := ⟨by decide +kernel, [110, 101, 103, 49], 3, rfl, rfl, by decide, by decide, by decide +kernel, by intro f hf; cases hf⟩
theorem fnk_band : FnOk 6 ⟨#[98, 97, 110, 100]⟩ 2 none := ⟨by decide +kernel, [98, 97, 110, 100, 50], 4, rfl, rfl, by decide, by decide, by decide +kernel, by intro f hf; cases hf⟩
theorem fnk_bor : FnOk 7 ⟨#[98, 111, 114]⟩ 2 none := ⟨by decide +kernel, [98, 111, 114, 50], 3, rfl, rfl, by decide, by decide, by decide +kernel, by intro f hf; cases hf⟩
theorem fnk_bxor : FnOk 8 ⟨#[98, 120, 111, 114]⟩ 2 none := ⟨by decide +kernel, [98, 120, 111, 114, 50], 4, rfl, rfl, by decide, by decide, by decide +kernel, by intro f hf; cases hf⟩
theorem fnk_bsl : FnOk 9 ⟨#[98, 115, 108]⟩ 2 none := ⟨by decide +kernel, [98, 115, 108, 50], 3, rfl, rfl, by decide, by decide, by decide +kernel, by intro f hf; cases hf⟩
theorem fnk_bsr : FnOk 10 ⟨#[98, 115, 114]⟩ 2 none := ⟨by decide +kernel, [98, 115, 114, 50], 3, rfl, rfl, by decide, by decide, by decide +kernel, by intro f hf; cases hf⟩
/-- a number as an argument -/
def Num (t : T) : Prop := t.k = 1 ∧ TOk t ∧ rightOf t = none
theorem num_N {n : Int} (hn : fits n) : Num (tN n) := ⟨rfl, by
  unfold tN TOk
  exact ⟨by unfold fits; omega, hn, by decide, by decide, by decide, by decide, by simp, by simp [LOk], by simp [LOk]⟩, rfl⟩
theorem fits_wrap (n : Int) : fits (wrap64 n) := by unfold fits wrap64; omega
/-- a number told -/
def NumL (W : World) (L : List HP) (h : Nat → Option Obj) (z : Int) (e : Ending) (w' : World) : Prop :=
  ∃ ia ic ra rc ba bc h', e = .returned (.tuple #[.agg #[.int .i64 1, .int .i64 z, .string ⟨#[]⟩, .slice ia 0 ic, .slice ra 0 rc, .slice ba 0 bc], .bool true]) ∧ Le h h' ∧ Sat W w' (arch h' :: L) ∧ TIn h' (tN z) [.int .i64 1, .int .i64 z, .string ⟨#[]⟩, .slice ia 0 ic, .slice ra 0 rc, .slice ba 0 bc]
/-- it went wrong -/
def BadL (W : World) (L : List HP) (h : Nat → Option Obj) (e : Ending) (w' : World) : Prop :=
  ∃ ia ic ra rc ba bc h', e = .returned (.tuple #[.agg #[.int .i64 0, .int .i64 0, .string ⟨#[]⟩, .slice ia 0 ic, .slice ra 0 rc, .slice ba 0 bc], .bool false]) ∧ Le h h' ∧ Sat W w' (arch h' :: L) ∧ TIn h' tZ0 [.int .i64 0, .int .i64 0, .string ⟨#[]⟩, .slice ia 0 ic, .slice ra 0 rc, .slice ba 0 bc]
theorem DoL.num {W : World} {L : List HP} {h : Nat → Option Obj} {z : Int} {e : Ending} {w' : World} (q : DoL W L h (some (tN z)) e w') : NumL W L h z e w' := by
  obtain ⟨vs, h', rfl, l, s, q⟩ := q
  obtain ⟨ia, ic, ra, rc, ba, bc, rfl, _⟩ := id q.vals
  exact ⟨ia, ic, ra, rc, ba, bc, h', rfl, l, s, q⟩
theorem DoL.bad {W : World} {L : List HP} {h : Nat → Option Obj} {e : Ending} {w' : World} (q : DoL W L h none e w') : BadL W L h e w' := by
  obtain ⟨vs, h', rfl, l, s, q⟩ := q
  obtain ⟨ia, ic, ra, rc, ba, bc, rfl, _⟩ := id q.vals
  exact ⟨ia, ic, ra, rc, ba, bc, h', rfl, l, s, q⟩
theorem DoL.le {W : World} {L : List HP} {h h2 : Nat → Option Obj} {r : Option T} {e : Ending} {w' : World} (l : Le h h2) (q : DoL W L h2 r e w') : DoL W L h r e w' := by
  obtain ⟨vs, h', rfl, l2, s, q⟩ := q
  exact ⟨vs, h', rfl, l.trans l2, s, q⟩
section
variable {W w : World} {L : List HP} {h : Nat → Option Obj} {b : Nat} {a0 a1 a2 a3 a4 a5 b0 b1 b2 b3 b4 b5 : Value}
theorem lawdo2 (q : TabS h) (S : Sat W w (blk b (.cells #[a0, a1, a2, a3, a4, a5, b0, b1, b2, b3, b4, b5] 35 (0, 0)) :: arch h :: L)) {i : Nat} {nm : ByteArray} {fo : Option Nat} (F : FnOk i nm 2 fo) (t u : T) (q1 : TIn h t [a0, a1, a2, a3, a4, a5]) (q2 : TIn h u [b0, b1, b2, b3, b4, b5]) (o1 : TOk t) (o2 : TOk u) (r1 : rightOf t = none) (r2 : rightOf u = none)
    (r : Option T) (hr : ∀ t, r = some t → TOk t ∧ rightOf t = none)
    (hmeth : ∀ (w : World) (h' : Nat → Option Obj) (L : List HP) (cb : Nat), Le h h' → Sat W w (arch h' :: L) → CArg h' cb i [t, u] → Calls Tryd.prog (fo.getD 31) #[.pointer (some ⟨cb, 0, none⟩)] w (MethP W L h' r)) :
    Calls Tryd.prog 23 #[.string nm, .slice (some ⟨b, 0, none⟩) 2 2] w (DoL W L h r) := by
  obtain ⟨h1, l1, r1', s1⟩ := store_cells (cs := [a0, a1, a2, a3, a4, a5] ++ [b0, b1, b2, b3, b4, b5]) S
  have hla : LIn h1 [t, u] (some ⟨b, 0, none⟩) 0 := LIn.of_rd (vss := [[a0, a1, a2, a3, a4, a5], [b0, b1, b2, b3, b4, b5]]) (by simp only [TsIn]; exact ⟨_, _, rfl, q1.mono l1, _, _, rfl, q2.mono l1, rfl⟩) (by simpa using r1')
  refine (lawdo_any (q.mono l1) s1 F [t, u] _ 2 hla rfl ?_ ?_ r hr (fun w h' L cb l s c => hmeth w h' L cb (l1.trans l) s c)).mono ?_
  · intro x hx; simp only [List.mem_cons, List.not_mem_nil, or_false] at hx; rcases hx with rfl | rfl <;> assumption
  · intro x hx; simp only [List.mem_cons, List.not_mem_nil, or_false] at hx; rcases hx with rfl | rfl <;> assumption
  · intro e w' x
    exact x.le l1
theorem do_add (q : TabS h) (S : Sat W w (blk b (.cells #[a0, a1, a2, a3, a4, a5, b0, b1, b2, b3, b4, b5] 35 (0, 0)) :: arch h :: L)) (x y : Int) (q1 : TIn h (tN x) [a0, a1, a2, a3, a4, a5]) (q2 : TIn h (tN y) [b0, b1, b2, b3, b4, b5]) (f1 : fits x) (f2 : fits y) {z : Int} (hz : wrap64 (x + y) = z) (fz : fits z) :
    Calls Tryd.prog 23 #[.string ⟨#[97, 100, 100]⟩, .slice (some ⟨b, 0, none⟩) 2 2] w (NumL W L h z) := by
  subst hz
  exact (lawdo2 q S fnk_add _ _ q1 q2 (num_N f1).2.1 (num_N f2).2.1 (num_N f1).2.2 (num_N f2).2.2 (some (tN _)) (fun t e => by cases e; exact (num_N fz).2) (fun w h' L cb l s c => reckon_0 s (tN x) (tN y) c rfl rfl)).mono fun e w' x => x.num
theorem do_sub (q : TabS h) (S : Sat W w (blk b (.cells #[a0, a1, a2, a3, a4, a5, b0, b1, b2, b3, b4, b5] 35 (0, 0)) :: arch h :: L)) (x y : Int) (q1 : TIn h (tN x) [a0, a1, a2, a3, a4, a5]) (q2 : TIn h (tN y) [b0, b1, b2, b3, b4, b5]) (f1 : fits x) (f2 : fits y) {z : Int} (hz : wrap64 (x - y) = z) (fz : fits z) :
    Calls Tryd.prog 23 #[.string ⟨#[115, 117, 98]⟩, .slice (some ⟨b, 0, none⟩) 2 2] w (NumL W L h z) := by
  subst hz
  exact (lawdo2 q S fnk_sub _ _ q1 q2 (num_N f1).2.1 (num_N f2).2.1 (num_N f1).2.2 (num_N f2).2.2 (some (tN _)) (fun t e => by cases e; exact (num_N fz).2) (fun w h' L cb l s c => reckon_1 s (tN x) (tN y) c rfl rfl)).mono fun e w' x => x.num
theorem do_mul (q : TabS h) (S : Sat W w (blk b (.cells #[a0, a1, a2, a3, a4, a5, b0, b1, b2, b3, b4, b5] 35 (0, 0)) :: arch h :: L)) (x y : Int) (q1 : TIn h (tN x) [a0, a1, a2, a3, a4, a5]) (q2 : TIn h (tN y) [b0, b1, b2, b3, b4, b5]) (f1 : fits x) (f2 : fits y) {z : Int} (hz : wrap64 (x * y) = z) (fz : fits z) :
    Calls Tryd.prog 23 #[.string ⟨#[109, 117, 108]⟩, .slice (some ⟨b, 0, none⟩) 2 2] w (NumL W L h z) := by
  subst hz
  exact (lawdo2 q S fnk_mul _ _ q1 q2 (num_N f1).2.1 (num_N f2).2.1 (num_N f1).2.2 (num_N f2).2.2 (some (tN _)) (fun t e => by cases e; exact (num_N fz).2) (fun w h' L cb l s c => reckon_2 s (tN x) (tN y) c rfl rfl)).mono fun e w' x => x.num
theorem do_div (q : TabS h) (S : Sat W w (blk b (.cells #[a0, a1, a2, a3, a4, a5, b0, b1, b2, b3, b4, b5] 35 (0, 0)) :: arch h :: L)) (x y : Int) (q1 : TIn h (tN x) [a0, a1, a2, a3, a4, a5]) (q2 : TIn h (tN y) [b0, b1, b2, b3, b4, b5]) (f1 : fits x) (f2 : fits y) (h0 : y ≠ 0) {z : Int} (hz : wrap64 (x.tdiv y) = z) (fz : fits z) :
    Calls Tryd.prog 23 #[.string ⟨#[100, 105, 118]⟩, .slice (some ⟨b, 0, none⟩) 2 2] w (NumL W L h z) := by
  subst hz
  exact (lawdo2 q S fnk_div _ _ q1 q2 (num_N f1).2.1 (num_N f2).2.1 (num_N f1).2.2 (num_N f2).2.2 (some (tN _)) (fun t e => by cases e; exact (num_N fz).2) (fun w h' L cb l s c => reckon_3 s (tN x) (tN y) c rfl rfl h0)).mono fun e w' x => x.num
theorem do_rem (q : TabS h) (S : Sat W w (blk b (.cells #[a0, a1, a2, a3, a4, a5, b0, b1, b2, b3, b4, b5] 35 (0, 0)) :: arch h :: L)) (x y : Int) (q1 : TIn h (tN x) [a0, a1, a2, a3, a4, a5]) (q2 : TIn h (tN y) [b0, b1, b2, b3, b4, b5]) (f1 : fits x) (f2 : fits y) (h0 : y ≠ 0) {z : Int} (hz : x.tmod y = z) (fz : fits z) :
    Calls Tryd.prog 23 #[.string ⟨#[114, 101, 109]⟩, .slice (some ⟨b, 0, none⟩) 2 2] w (NumL W L h z) := by
  subst hz
  exact (lawdo2 q S fnk_rem _ _ q1 q2 (num_N f1).2.1 (num_N f2).2.1 (num_N f1).2.2 (num_N f2).2.2 (some (tN _)) (fun t e => by cases e; exact (num_N fz).2) (fun w h' L cb l s c => reckon_4 s (tN x) (tN y) c rfl rfl h0)).mono fun e w' x => x.num
theorem do_band (q : TabS h) (S : Sat W w (blk b (.cells #[a0, a1, a2, a3, a4, a5, b0, b1, b2, b3, b4, b5] 35 (0, 0)) :: arch h :: L)) (x y : Int) (q1 : TIn h (tN x) [a0, a1, a2, a3, a4, a5]) (q2 : TIn h (tN y) [b0, b1, b2, b3, b4, b5]) (f1 : fits x) (f2 : fits y) {z : Int} (hz : bits BinOp.and IntKind.i64 x y = z) (fz : fits z) :
    Calls Tryd.prog 23 #[.string ⟨#[98, 97, 110, 100]⟩, .slice (some ⟨b, 0, none⟩) 2 2] w (NumL W L h z) := by
  subst hz
  exact (lawdo2 q S fnk_band _ _ q1 q2 (num_N f1).2.1 (num_N f2).2.1 (num_N f1).2.2 (num_N f2).2.2 (some (tN _)) (fun t e => by cases e; exact (num_N fz).2) (fun w h' L cb l s c => reckon_6 s (tN x) (tN y) c rfl rfl)).mono fun e w' x => x.num
theorem do_bor (q : TabS h) (S : Sat W w (blk b (.cells #[a0, a1, a2, a3, a4, a5, b0, b1, b2, b3, b4, b5] 35 (0, 0)) :: arch h :: L)) (x y : Int) (q1 : TIn h (tN x) [a0, a1, a2, a3, a4, a5]) (q2 : TIn h (tN y) [b0, b1, b2, b3, b4, b5]) (f1 : fits x) (f2 : fits y) {z : Int} (hz : bits BinOp.or IntKind.i64 x y = z) (fz : fits z) :
    Calls Tryd.prog 23 #[.string ⟨#[98, 111, 114]⟩, .slice (some ⟨b, 0, none⟩) 2 2] w (NumL W L h z) := by
  subst hz
  exact (lawdo2 q S fnk_bor _ _ q1 q2 (num_N f1).2.1 (num_N f2).2.1 (num_N f1).2.2 (num_N f2).2.2 (some (tN _)) (fun t e => by cases e; exact (num_N fz).2) (fun w h' L cb l s c => reckon_7 s (tN x) (tN y) c rfl rfl)).mono fun e w' x => x.num
theorem do_bxor (q : TabS h) (S : Sat W w (blk b (.cells #[a0, a1, a2, a3, a4, a5, b0, b1, b2, b3, b4, b5] 35 (0, 0)) :: arch h :: L)) (x y : Int) (q1 : TIn h (tN x) [a0, a1, a2, a3, a4, a5]) (q2 : TIn h (tN y) [b0, b1, b2, b3, b4, b5]) (f1 : fits x) (f2 : fits y) {z : Int} (hz : bits BinOp.xor IntKind.i64 x y = z) (fz : fits z) :
    Calls Tryd.prog 23 #[.string ⟨#[98, 120, 111, 114]⟩, .slice (some ⟨b, 0, none⟩) 2 2] w (NumL W L h z) := by
  subst hz
  exact (lawdo2 q S fnk_bxor _ _ q1 q2 (num_N f1).2.1 (num_N f2).2.1 (num_N f1).2.2 (num_N f2).2.2 (some (tN _)) (fun t e => by cases e; exact (num_N fz).2) (fun w h' L cb l s c => reckon_8 s (tN x) (tN y) c rfl rfl)).mono fun e w' x => x.num
theorem do_bsl (q : TabS h) (S : Sat W w (blk b (.cells #[a0, a1, a2, a3, a4, a5, b0, b1, b2, b3, b4, b5] 35 (0, 0)) :: arch h :: L)) (x y : Int) (q1 : TIn h (tN x) [a0, a1, a2, a3, a4, a5]) (q2 : TIn h (tN y) [b0, b1, b2, b3, b4, b5]) (f1 : fits x) (f2 : fits y) (h0 : 0 ≤ y) (h63 : y ≤ 63) {z : Int} (hz : wrap64 (x * 2 ^ y.toNat) = z) (fz : fits z) :
    Calls Tryd.prog 23 #[.string ⟨#[98, 115, 108]⟩, .slice (some ⟨b, 0, none⟩) 2 2] w (NumL W L h z) := by
  subst hz
  exact (lawdo2 q S fnk_bsl _ _ q1 q2 (num_N f1).2.1 (num_N f2).2.1 (num_N f1).2.2 (num_N f2).2.2 (some (tN _)) (fun t e => by cases e; exact (num_N fz).2) (fun w h' L cb l s c => reckon_9 s (tN x) (tN y) c rfl rfl h0 h63)).mono fun e w' x => x.num
theorem do_bsr (q : TabS h) (S : Sat W w (blk b (.cells #[a0, a1, a2, a3, a4, a5, b0, b1, b2, b3, b4, b5] 35 (0, 0)) :: arch h :: L)) (x y : Int) (q1 : TIn h (tN x) [a0, a1, a2, a3, a4, a5]) (q2 : TIn h (tN y) [b0, b1, b2, b3, b4, b5]) (f1 : fits x) (f2 : fits y) (h0 : 0 ≤ y) (h63 : y ≤ 63) {z : Int} (hz : x / 2 ^ y.toNat = z) (fz : fits z) :
    Calls Tryd.prog 23 #[.string ⟨#[98, 115, 114]⟩, .slice (some ⟨b, 0, none⟩) 2 2] w (NumL W L h z) := by
  subst hz
  exact (lawdo2 q S fnk_bsr _ _ q1 q2 (num_N f1).2.1 (num_N f2).2.1 (num_N f1).2.2 (num_N f2).2.2 (some (tN _)) (fun t e => by cases e; exact (num_N fz).2) (fun w h' L cb l s c => reckon_10 s (tN x) (tN y) c rfl rfl h0 h63)).mono fun e w' x => x.num
theorem do_div_bad (q : TabS h) (S : Sat W w (blk b (.cells #[a0, a1, a2, a3, a4, a5, b0, b1, b2, b3, b4, b5] 35 (0, 0)) :: arch h :: L)) (x y : Int) (q1 : TIn h (tN x) [a0, a1, a2, a3, a4, a5]) (q2 : TIn h (tN y) [b0, b1, b2, b3, b4, b5]) (f1 : fits x) (f2 : fits y) (h0 : y = 0) :
    Calls Tryd.prog 23 #[.string ⟨#[100, 105, 118]⟩, .slice (some ⟨b, 0, none⟩) 2 2] w (BadL W L h) :=
  (lawdo2 q S fnk_div _ _ q1 q2 (num_N f1).2.1 (num_N f2).2.1 (num_N f1).2.2 (num_N f2).2.2 none (fun t e => by cases e) (fun w h' L cb l s c => reckon_3_bad s (tN x) (tN y) c rfl rfl h0)).mono fun e w' x => x.bad
theorem do_rem_bad (q : TabS h) (S : Sat W w (blk b (.cells #[a0, a1, a2, a3, a4, a5, b0, b1, b2, b3, b4, b5] 35 (0, 0)) :: arch h :: L)) (x y : Int) (q1 : TIn h (tN x) [a0, a1, a2, a3, a4, a5]) (q2 : TIn h (tN y) [b0, b1, b2, b3, b4, b5]) (f1 : fits x) (f2 : fits y) (h0 : y = 0) :
    Calls Tryd.prog 23 #[.string ⟨#[114, 101, 109]⟩, .slice (some ⟨b, 0, none⟩) 2 2] w (BadL W L h) :=
  (lawdo2 q S fnk_rem _ _ q1 q2 (num_N f1).2.1 (num_N f2).2.1 (num_N f1).2.2 (num_N f2).2.2 none (fun t e => by cases e) (fun w h' L cb l s c => reckon_4_bad s (tN x) (tN y) c rfl rfl h0)).mono fun e w' x => x.bad
theorem do_bsl_bad (q : TabS h) (S : Sat W w (blk b (.cells #[a0, a1, a2, a3, a4, a5, b0, b1, b2, b3, b4, b5] 35 (0, 0)) :: arch h :: L)) (x y : Int) (q1 : TIn h (tN x) [a0, a1, a2, a3, a4, a5]) (q2 : TIn h (tN y) [b0, b1, b2, b3, b4, b5]) (f1 : fits x) (f2 : fits y) (h63 : y > 63) :
    Calls Tryd.prog 23 #[.string ⟨#[98, 115, 108]⟩, .slice (some ⟨b, 0, none⟩) 2 2] w (BadL W L h) :=
  (lawdo2 q S fnk_bsl _ _ q1 q2 (num_N f1).2.1 (num_N f2).2.1 (num_N f1).2.2 (num_N f2).2.2 none (fun t e => by cases e) (fun w h' L cb l s c => reckon_9_bad s (tN x) (tN y) c rfl rfl h63)).mono fun e w' x => x.bad
theorem do_bsr_bad (q : TabS h) (S : Sat W w (blk b (.cells #[a0, a1, a2, a3, a4, a5, b0, b1, b2, b3, b4, b5] 35 (0, 0)) :: arch h :: L)) (x y : Int) (q1 : TIn h (tN x) [a0, a1, a2, a3, a4, a5]) (q2 : TIn h (tN y) [b0, b1, b2, b3, b4, b5]) (f1 : fits x) (f2 : fits y) (h63 : y > 63) :
    Calls Tryd.prog 23 #[.string ⟨#[98, 115, 114]⟩, .slice (some ⟨b, 0, none⟩) 2 2] w (BadL W L h) :=
  (lawdo2 q S fnk_bsr _ _ q1 q2 (num_N f1).2.1 (num_N f2).2.1 (num_N f1).2.2 (num_N f2).2.2 none (fun t e => by cases e) (fun w h' L cb l s c => reckon_10_bad s (tN x) (tN y) c rfl rfl h63)).mono fun e w' x => x.bad
theorem bdo3 (q : TabS h) (S : Sat W w (blk b (.cells #[.int .i64 1, .int .i64 1, .string ⟨#[]⟩, .slice none 0 0, .slice none 0 0, .slice none 0 0, .int .i64 1, .int .i64 0, .string ⟨#[]⟩, .slice none 0 0, .slice none 0 0, .slice none 0 0] 35 (0, 0)) :: arch h :: L)) :
    Calls Tryd.prog 18 #[.int .i64 3, .slice (some ⟨b, 0, none⟩) 2 2] w (DoP W L h (3 : Nat) none) := by
  obtain ⟨h1, l1, r1, s1⟩ := store_cells (cs := [.int .i64 1, .int .i64 1, .string ⟨#[]⟩, .slice none 0 0, .slice none 0 0, .slice none 0 0] ++ [.int .i64 1, .int .i64 0, .string ⟨#[]⟩, .slice none 0 0, .slice none 0 0, .slice none 0 0]) S
  have hla : LIn h1 [tN 1, tN 0] (some ⟨b, 0, none⟩) 0 := LIn.of_rd (vss := [[.int .i64 1, .int .i64 1, .string ⟨#[]⟩, .slice none 0 0, .slice none 0 0, .slice none 0 0], [.int .i64 1, .int .i64 0, .string ⟨#[]⟩, .slice none 0 0, .slice none 0 0, .slice none 0 0]]) (by simp only [TsIn]; exact ⟨_, _, rfl, in_N _ _, _, _, rfl, in_N _ _, rfl⟩) (by simpa using r1)
  have F := fnk_div
  obtain ⟨_, l, k, hk, hl, hm, hm9, hfo, hcf⟩ := F
  have f1 : fits 1 := by unfold fits; omega
  have f0 : fits 0 := by unfold fits; omega
  refine (do_any (q.mono l1) s1 3 l k hk hl 2 hm hm9 [tN 1, tN 0] _ 2 hla rfl ?_ ?_ none hfo none (fun t e => by cases e) hcf (fun w h' L cb l s c => reckon_3_bad s (tN 1) (tN 0) c rfl rfl rfl)).mono ?_
  · intro x hx; simp only [List.mem_cons, List.not_mem_nil, or_false] at hx; rcases hx with rfl | rfl; exact (num_N f1).2.1; exact (num_N f0).2.1
  · intro x hx; simp only [List.mem_cons, List.not_mem_nil, or_false] at hx; rcases hx with rfl | rfl; exact (num_N f1).2.2; exact (num_N f0).2.2
  · rintro e w' ⟨t, vs, h', why, e1, l2, x⟩
    exact ⟨t, vs, h', why, e1, l1.trans l2, x⟩
theorem awake8 (q : TabS h) (S : Sat W w (arch h :: L)) : Calls Tryd.prog 16 #[] w fun e w' => ∃ h', e = .returned (.bool true) ∧ Le h h' ∧ Sat W w' (arch h' :: L) := by
  have HQ := hid q
  have S1 := hid S
  clear q S
  go_enter Tryd.func16, Tryd.ntmps16
  go_wp2_with fail
  refine (num8_any S1.out _).mono ?_
  rintro e w1 ⟨rfl, s1⟩
  have S2 := hid s1
  clear s1 S1
  go_wp2_with fail
  refine (num8_any S2.out _).mono ?_
  rintro e w2 ⟨rfl, s2⟩
  have S3 := hid (s2.alloc (.cells #[.int .i64 1, .int .i64 9223372036854775807, .string ⟨#[]⟩, .slice none 0 0, .slice none 0 0, .slice none 0 0, .int .i64 1, .int .i64 1, .string ⟨#[]⟩, .slice none 0 0, .slice none 0 0, .slice none 0 0] 35))
  have fM : fits 9223372036854775807 := by unfold fits; omega
  have f1 : fits 1 := by unfold fits; omega
  have HA := hid (do_add HQ.out S3.out 9223372036854775807 1 (in_N _ _) (in_N _ _) fM f1 (z := -9223372036854775808) (by decide +kernel) (by unfold fits; omega))
  clear s2 S2 fM f1
  go_wp2_with fail
  refine HA.out.mono ?_
  rintro e w3 ⟨ia, ic, ra, rc, ba, bc, h3, rfl, l3, s3, q3⟩
  obtain ⟨tb, HTB⟩ : ∃ tb, Hid (w3.heap.size = tb) := ⟨_, hid rfl⟩
  have S4 := hid (s3.allocAt (k := w3.heap.size) (.cells #[.int .i64 1, .int .i64 (-9223372036854775808), .string ⟨#[]⟩, .slice ia 0 ic, .slice ra 0 rc, .slice ba 0 bc] 35) rfl).swap
  rw [HTB.out] at S4
  have HQ3 := hid (HQ.out.mono l3)
  have HL3 := hid l3
  clear s3 l3 q3 HA S3 HQ
  go_wp2_with fail
  rw [HTB.out]
  refine (num8_any S4.out _).mono ?_
  rintro e w4 ⟨rfl, s4⟩
  have S5 := hid s4
  clear s4 S4
  go_wp2_with fail
  refine (num8_any S5.out _).mono ?_
  rintro e w5 ⟨rfl, s5⟩
  have S6 := hid (s5.alloc (.cells #[.int .i64 1, .int .i64 1, .string ⟨#[]⟩, .slice none 0 0, .slice none 0 0, .slice none 0 0, .int .i64 1, .int .i64 0, .string ⟨#[]⟩, .slice none 0 0, .slice none 0 0, .slice none 0 0] 35))
  have HB := hid (bdo3 HQ3.out S6.out)
  clear s5 S5
  go_wp2_with fail
  refine HB.out.mono ?_
  rintro e w6 ⟨t, vs, h6, why, rfl, l6, s6, q6, _, hn⟩
  obtain ⟨rfl, hw⟩ := hn rfl
  replace hw : why = ⟨#[98, 97, 100, 97, 114, 105, 116, 104]⟩ := hw
  subst hw
  obtain ⟨ja, jc, sa, sc, da, dc, rfl, _⟩ := id q6.vals
  unfold tVals
  have S7 := hid (s6.alloc' (.cells #[.int .i64 tZ0.k, .int .i64 tZ0.n, .string tZ0.nm, .slice ja tZ0.is.length jc, .slice sa tZ0.rs.length sc, .slice da tZ0.bs.length dc] 35))
  have c1 := S7.out.swap.cell 1
  simp only [List.getElem?_toArray, List.getElem?_cons_succ, List.getElem?_cons_zero] at c1
  have LE := hid (HL3.out.trans l6)
  clear s6 l6 q6 HB S6 hn
  go_wp2_with fail
  go_ret
  exact ⟨h6, rfl, LE.out, S7.out.swap.drop⟩
end
#print axioms awake8
end Go.Proofs.YtlgogflhjpcmlaaDoor
