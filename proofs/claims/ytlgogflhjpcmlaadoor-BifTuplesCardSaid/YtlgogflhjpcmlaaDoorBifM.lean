/-
  bif: the map of functions. (Written by wip/gen/gen_bifm.py.)
-/
import Derived.Test.YtlgogflhjpcmlaaDoorMakeF
import Derived.Maps.OwnOps
namespace Go.Proofs.YtlgogflhjpcmlaaDoor
open Go.RowKit
set_option maxHeartbeats 4000000
set_option maxRecDepth 100000
section
variable {W w : World} {L : List HP} {P : Program}
/-- a look into a map of strings that is held -/
theorem wpList_lookup_sat {ops : Array Oper} {rest : List Oper} {o : Oper} {ac : Act} {Q : Exit → Act → World → Prop} (hgd : o.guard = none) (mo ko : Operand) (T : TypeId) (hop : o.op = Op.lookup T mo ko true)
    (K E : TypeId) (hT : P.underlying T = some (.map K E)) (hK : P.underlying K = some .string) {b : Nat} (hm : ac.eval mo = .map (some b)) {s : ByteArray} (hk : ac.eval ko = .string s)
    {es : Array MapEntry} {cl : Nat} (S : Sat W w (blk b (.map es cl) :: L)) {z : Value} (hz : (zeroValue E).run P w = .ok z w) {r : Option (Nat × Value)} (hf : Instr.findNow .string (.string s) es.toList 0 = some r)
    (h : wpList P ops Q rest (ac.put o.dst (.tuple #[(r.map (·.2)).getD z, .bool r.isSome])) w) : wpList P ops Q (o :: rest) ac w := by
  refine wpList_plain hgd fun K' hK' => ?_
  have hg := S.get
  have hrun : (Instr.lookup T (.map (some b)) (.string s) true).run P w = .ok (.tuple #[(r.map (·.2)).getD z, .bool r.isSome]) w := by
    cases r with
    | none => simp [Instr.lookup, run_underlying hT, MapKept.run_getObj_map hg, MapKept.run_checkKey hK (show MapKept.IsKey .string (.string s) from trivial), MapKept.run_findKey hK hf, hz, Result.andThen]
    | some y => simp [Instr.lookup, run_underlying hT, MapKept.run_getObj_map hg, MapKept.run_checkKey hK (show MapKept.IsKey .string (.string s) from trivial), MapKept.run_findKey hK hf, Result.andThen]
  unfold Oper.wp
  simp [execOp, hop, hm, hk, hrun, Result.andThen]
  exact hK' _ _ h
/-- entries of function values bound to c -/
def fnV (c : Value) (f : Nat) : Value := .func (.func f) #[c] #[]
def mkE (c : Value) : Nat → List (ByteArray × Nat) → List MapEntry
  | _, [] => []
  | n, p :: l => { key := .string p.1, val := fnV c p.2, born := n } :: mkE c (n + 1) l
theorem mkE_snoc (c : Value) (p : ByteArray × Nat) : ∀ (l : List (ByteArray × Nat)) (n : Nat), mkE c n (l ++ [p]) = mkE c n l ++ [{ key := .string p.1, val := fnV c p.2, born := n + l.length }]
  | [], n => rfl
  | q :: l, n => by
    rw [List.cons_append, mkE, mkE_snoc c p l (n + 1), mkE]
    simp only [List.cons_append, List.length_cons]
    rw [show n + 1 + l.length = n + (l.length + 1) by omega]
theorem find_mkE (c : Value) (s : ByteArray) : ∀ (l : List (ByteArray × Nat)) (n i : Nat), ∃ k, Instr.findNow .string (.string s) (mkE c n l) i = some ((l.find? fun p => s == p.1).map fun p => (k, fnV c p.2))
  | [], _, i => ⟨0, rfl⟩
  | p :: l, n, i => by
    rw [mkE, Instr.findNow]
    cases h : (s == p.1) with
    | true => exact ⟨i, by simp [Instr.sameNow, h]⟩
    | false =>
      obtain ⟨k, hk⟩ := find_mkE c s l (n + 1) (i + 1)
      exact ⟨k, by simp [Instr.sameNow, h, hk]⟩
theorem fresh_mkE (c : Value) (s : ByteArray) (l : List (ByteArray × Nat)) (n i : Nat) (h : (l.find? fun p => s == p.1) = none) : Instr.findNow .string (.string s) (mkE c n l) i = some none := by
  obtain ⟨k, hk⟩ := find_mkE c s l n i
  rw [hk, h]; rfl
theorem run_insert {T K E : TypeId} (hT : P.underlying T = some (.map K E)) (hK : P.underlying K = some .string) (c : Value) (l : List (ByteArray × Nat)) (p : ByteArray × Nat) (hf : (l.find? fun q => p.1 == q.1) = none) (n : Nat) (hn : l.length = n) :
    (Instr.mapUpdate T (.map (some w.heap.size)) (.string p.1) (fnV c p.2)).run P (w.alloc (.map (mkE c 0 l).toArray n)) = .ok () (w.alloc (.map (mkE c 0 (l ++ [p])).toArray (n + 1))) := by
  have hg : (w.alloc (.map (mkE c 0 l).toArray n)).heap[w.heap.size]? = some (.map (mkE c 0 l).toArray n) := by
    show (w.heap.push _)[w.heap.size]? = _
    simp
  have hfr := fresh_mkE c p.1 l 0 0 hf
  have he : (mkE c 0 l).toArray.push { key := .string p.1, val := fnV c p.2, born := n } = (mkE c 0 (l ++ [p])).toArray := by
    rw [mkE_snoc, Nat.zero_add, hn]; simp
  have hw : ({ (w.alloc (.map (mkE c 0 l).toArray n)) with heap := (w.alloc (.map (mkE c 0 l).toArray n)).heap.setIfInBounds w.heap.size (.map (mkE c 0 (l ++ [p])).toArray (n + 1)) } : World) = w.alloc (.map (mkE c 0 (l ++ [p])).toArray (n + 1)) := by
    simp only [World.alloc, World.mk.injEq, and_true]
    apply Array.ext'
    simp
  simp [Instr.mapUpdate, run_underlying hT, MapKept.run_getObj_map hg, MapKept.run_checkKey hK (show MapKept.IsKey .string (.string p.1) from trivial), MapKept.run_findKey hK (show Instr.findNow .string (.string p.1) ((mkE c 0 l).toArray).toList 0 = some none by simpa using hfr), MapKept.run_setObj_map _ hg, Result.andThen, he]
  exact hw

def fk0 : ByteArray := ⟨#[101, 113]⟩
def fk1 : ByteArray := ⟨#[108, 116]⟩
def fk2 : ByteArray := ⟨#[99, 111, 109, 112, 97, 114, 101]⟩
def fk3 : ByteArray := ⟨#[115, 105, 122, 101]⟩
def fk4 : ByteArray := ⟨#[101, 108, 101, 109, 101, 110, 116]⟩
def fk5 : ByteArray := ⟨#[115, 101, 116, 101, 108, 101, 109, 101, 110, 116]⟩
def fk6 : ByteArray := ⟨#[108, 105, 115, 116, 95, 116, 111, 95, 116, 117, 112, 108, 101]⟩
def fk7 : ByteArray := ⟨#[116, 117, 112, 108, 101, 95, 116, 111, 95, 108, 105, 115, 116]⟩
def fk8 : ByteArray := ⟨#[97, 112, 112, 101, 110, 100]⟩
def fk9 : ByteArray := ⟨#[114, 101, 118, 101, 114, 115, 101]⟩
def fk10 : ByteArray := ⟨#[108, 101, 110, 103, 116, 104]⟩
def fk11 : ByteArray := ⟨#[109, 101, 109, 98, 101, 114]⟩
def fk12 : ByteArray := ⟨#[110, 116, 104]⟩
def fk13 : ByteArray := ⟨#[105, 115, 95, 105, 110, 116]⟩
def fk14 : ByteArray := ⟨#[105, 115, 95, 97, 116, 111, 109]⟩
def fk15 : ByteArray := ⟨#[105, 115, 95, 112, 105, 100]⟩
def fk16 : ByteArray := ⟨#[105, 115, 95, 114, 101, 102]⟩
def fk17 : ByteArray := ⟨#[105, 115, 95, 116, 117, 112, 108, 101]⟩
def fk18 : ByteArray := ⟨#[105, 115, 95, 108, 105, 115, 116]⟩
def fk19 : ByteArray := ⟨#[105, 115, 95, 98, 105, 110]⟩
def fk20 : ByteArray := ⟨#[108, 105, 115, 116, 95, 116, 111, 95, 98, 105, 110]⟩
def fk21 : ByteArray := ⟨#[98, 105, 110, 95, 116, 111, 95, 108, 105, 115, 116]⟩
def fk22 : ByteArray := ⟨#[98, 105, 110, 95, 97, 116]⟩
def fk23 : ByteArray := ⟨#[98, 105, 110, 95, 112, 97, 114, 116]⟩
def fk24 : ByteArray := ⟨#[98, 105, 110, 95, 106, 111, 105, 110]⟩
def fk25 : ByteArray := ⟨#[115, 117, 109]⟩
def fk26 : ByteArray := ⟨#[115, 101, 113]⟩
def fk27 : ByteArray := ⟨#[97, 116, 111, 109, 95, 116, 111, 95, 108, 105, 115, 116]⟩
def fk28 : ByteArray := ⟨#[104, 97, 115, 104]⟩
/-- the functions by their names -/
def fnL : List (ByteArray × Nat) := [(fk0, 44), (fk1, 44), (fk2, 44), (fk3, 45), (fk4, 46), (fk5, 47), (fk6, 48), (fk7, 49), (fk8, 50), (fk9, 51), (fk10, 52), (fk11, 53), (fk12, 54), (fk13, 55), (fk14, 55), (fk15, 55), (fk16, 55), (fk17, 55), (fk18, 55), (fk19, 55), (fk20, 56), (fk21, 57), (fk22, 58), (fk23, 59), (fk24, 60), (fk25, 61), (fk26, 62), (fk27, 63), (fk28, 64)]
def fnP0 (c : Value) : Array MapEntry := (mkE c 0 (fnL.take 0)).toArray
def fnP1 (c : Value) : Array MapEntry := (mkE c 0 (fnL.take 1)).toArray
def fnP2 (c : Value) : Array MapEntry := (mkE c 0 (fnL.take 2)).toArray
def fnP3 (c : Value) : Array MapEntry := (mkE c 0 (fnL.take 3)).toArray
def fnP4 (c : Value) : Array MapEntry := (mkE c 0 (fnL.take 4)).toArray
def fnP5 (c : Value) : Array MapEntry := (mkE c 0 (fnL.take 5)).toArray
def fnP6 (c : Value) : Array MapEntry := (mkE c 0 (fnL.take 6)).toArray
def fnP7 (c : Value) : Array MapEntry := (mkE c 0 (fnL.take 7)).toArray
def fnP8 (c : Value) : Array MapEntry := (mkE c 0 (fnL.take 8)).toArray
def fnP9 (c : Value) : Array MapEntry := (mkE c 0 (fnL.take 9)).toArray
def fnP10 (c : Value) : Array MapEntry := (mkE c 0 (fnL.take 10)).toArray
def fnP11 (c : Value) : Array MapEntry := (mkE c 0 (fnL.take 11)).toArray
def fnP12 (c : Value) : Array MapEntry := (mkE c 0 (fnL.take 12)).toArray
def fnP13 (c : Value) : Array MapEntry := (mkE c 0 (fnL.take 13)).toArray
def fnP14 (c : Value) : Array MapEntry := (mkE c 0 (fnL.take 14)).toArray
def fnP15 (c : Value) : Array MapEntry := (mkE c 0 (fnL.take 15)).toArray
def fnP16 (c : Value) : Array MapEntry := (mkE c 0 (fnL.take 16)).toArray
def fnP17 (c : Value) : Array MapEntry := (mkE c 0 (fnL.take 17)).toArray
def fnP18 (c : Value) : Array MapEntry := (mkE c 0 (fnL.take 18)).toArray
def fnP19 (c : Value) : Array MapEntry := (mkE c 0 (fnL.take 19)).toArray
def fnP20 (c : Value) : Array MapEntry := (mkE c 0 (fnL.take 20)).toArray
def fnP21 (c : Value) : Array MapEntry := (mkE c 0 (fnL.take 21)).toArray
def fnP22 (c : Value) : Array MapEntry := (mkE c 0 (fnL.take 22)).toArray
def fnP23 (c : Value) : Array MapEntry := (mkE c 0 (fnL.take 23)).toArray
def fnP24 (c : Value) : Array MapEntry := (mkE c 0 (fnL.take 24)).toArray
def fnP25 (c : Value) : Array MapEntry := (mkE c 0 (fnL.take 25)).toArray
def fnP26 (c : Value) : Array MapEntry := (mkE c 0 (fnL.take 26)).toArray
def fnP27 (c : Value) : Array MapEntry := (mkE c 0 (fnL.take 27)).toArray
def fnP28 (c : Value) : Array MapEntry := (mkE c 0 (fnL.take 28)).toArray
def fnP29 (c : Value) : Array MapEntry := (mkE c 0 (fnL.take 29)).toArray
theorem run_ins (i : Nat) (p : ByteArray × Nat) (hp : fnL[i]? = some p) (hf : ((fnL.take i).find? fun q => p.1 == q.1) = none) (c : Value) (w : World) :
    (Instr.mapUpdate 67 (.map (some w.heap.size)) (.string p.1) (.func (Fn.func p.2) #[c] #[])).run Tryd.prog (w.alloc (.map (mkE c 0 (fnL.take i)).toArray i)) = .ok () (w.alloc (.map (mkE c 0 (fnL.take (i + 1))).toArray (i + 1))) := by
  have hl := (List.getElem?_eq_some_iff.1 hp).1
  have h := run_insert (P := Tryd.prog) (w := w) Tryd.underlying67 Tryd.underlying9 c (fnL.take i) p hf i (by rw [List.length_take]; omega)
  rw [List.take_add_one, hp]
  exact h
theorem ins0 (c : Value) (w : World) : (Instr.mapUpdate 67 (.map (some w.heap.size)) (.string ⟨#[101, 113]⟩) (.func (Fn.func 44) #[c] #[])).run Tryd.prog (w.alloc (.map #[] 0)) = .ok () (w.alloc (.map (fnP1 c) 1)) := run_ins 0 (fk0, 44) rfl (by decide +kernel) c w
theorem ins1 (c : Value) (w : World) : (Instr.mapUpdate 67 (.map (some w.heap.size)) (.string ⟨#[108, 116]⟩) (.func (Fn.func 44) #[c] #[])).run Tryd.prog (w.alloc (.map (fnP1 c) 1)) = .ok () (w.alloc (.map (fnP2 c) 2)) := run_ins 1 (fk1, 44) rfl (by decide +kernel) c w
theorem ins2 (c : Value) (w : World) : (Instr.mapUpdate 67 (.map (some w.heap.size)) (.string ⟨#[99, 111, 109, 112, 97, 114, 101]⟩) (.func (Fn.func 44) #[c] #[])).run Tryd.prog (w.alloc (.map (fnP2 c) 2)) = .ok () (w.alloc (.map (fnP3 c) 3)) := run_ins 2 (fk2, 44) rfl (by decide +kernel) c w
theorem ins3 (c : Value) (w : World) : (Instr.mapUpdate 67 (.map (some w.heap.size)) (.string ⟨#[115, 105, 122, 101]⟩) (.func (Fn.func 45) #[c] #[])).run Tryd.prog (w.alloc (.map (fnP3 c) 3)) = .ok () (w.alloc (.map (fnP4 c) 4)) := run_ins 3 (fk3, 45) rfl (by decide +kernel) c w
theorem ins4 (c : Value) (w : World) : (Instr.mapUpdate 67 (.map (some w.heap.size)) (.string ⟨#[101, 108, 101, 109, 101, 110, 116]⟩) (.func (Fn.func 46) #[c] #[])).run Tryd.prog (w.alloc (.map (fnP4 c) 4)) = .ok () (w.alloc (.map (fnP5 c) 5)) := run_ins 4 (fk4, 46) rfl (by decide +kernel) c w
theorem ins5 (c : Value) (w : World) : (Instr.mapUpdate 67 (.map (some w.heap.size)) (.string ⟨#[115, 101, 116, 101, 108, 101, 109, 101, 110, 116]⟩) (.func (Fn.func 47) #[c] #[])).run Tryd.prog (w.alloc (.map (fnP5 c) 5)) = .ok () (w.alloc (.map (fnP6 c) 6)) := run_ins 5 (fk5, 47) rfl (by decide +kernel) c w
theorem ins6 (c : Value) (w : World) : (Instr.mapUpdate 67 (.map (some w.heap.size)) (.string ⟨#[108, 105, 115, 116, 95, 116, 111, 95, 116, 117, 112, 108, 101]⟩) (.func (Fn.func 48) #[c] #[])).run Tryd.prog (w.alloc (.map (fnP6 c) 6)) = .ok () (w.alloc (.map (fnP7 c) 7)) := run_ins 6 (fk6, 48) rfl (by decide +kernel) c w
theorem ins7 (c : Value) (w : World) : (Instr.mapUpdate 67 (.map (some w.heap.size)) (.string ⟨#[116, 117, 112, 108, 101, 95, 116, 111, 95, 108, 105, 115, 116]⟩) (.func (Fn.func 49) #[c] #[])).run Tryd.prog (w.alloc (.map (fnP7 c) 7)) = .ok () (w.alloc (.map (fnP8 c) 8)) := run_ins 7 (fk7, 49) rfl (by decide +kernel) c w
theorem ins8 (c : Value) (w : World) : (Instr.mapUpdate 67 (.map (some w.heap.size)) (.string ⟨#[97, 112, 112, 101, 110, 100]⟩) (.func (Fn.func 50) #[c] #[])).run Tryd.prog (w.alloc (.map (fnP8 c) 8)) = .ok () (w.alloc (.map (fnP9 c) 9)) := run_ins 8 (fk8, 50) rfl (by decide +kernel) c w
theorem ins9 (c : Value) (w : World) : (Instr.mapUpdate 67 (.map (some w.heap.size)) (.string ⟨#[114, 101, 118, 101, 114, 115, 101]⟩) (.func (Fn.func 51) #[c] #[])).run Tryd.prog (w.alloc (.map (fnP9 c) 9)) = .ok () (w.alloc (.map (fnP10 c) 10)) := run_ins 9 (fk9, 51) rfl (by decide +kernel) c w
theorem ins10 (c : Value) (w : World) : (Instr.mapUpdate 67 (.map (some w.heap.size)) (.string ⟨#[108, 101, 110, 103, 116, 104]⟩) (.func (Fn.func 52) #[c] #[])).run Tryd.prog (w.alloc (.map (fnP10 c) 10)) = .ok () (w.alloc (.map (fnP11 c) 11)) := run_ins 10 (fk10, 52) rfl (by decide +kernel) c w
theorem ins11 (c : Value) (w : World) : (Instr.mapUpdate 67 (.map (some w.heap.size)) (.string ⟨#[109, 101, 109, 98, 101, 114]⟩) (.func (Fn.func 53) #[c] #[])).run Tryd.prog (w.alloc (.map (fnP11 c) 11)) = .ok () (w.alloc (.map (fnP12 c) 12)) := run_ins 11 (fk11, 53) rfl (by decide +kernel) c w
theorem ins12 (c : Value) (w : World) : (Instr.mapUpdate 67 (.map (some w.heap.size)) (.string ⟨#[110, 116, 104]⟩) (.func (Fn.func 54) #[c] #[])).run Tryd.prog (w.alloc (.map (fnP12 c) 12)) = .ok () (w.alloc (.map (fnP13 c) 13)) := run_ins 12 (fk12, 54) rfl (by decide +kernel) c w
theorem ins13 (c : Value) (w : World) : (Instr.mapUpdate 67 (.map (some w.heap.size)) (.string ⟨#[105, 115, 95, 105, 110, 116]⟩) (.func (Fn.func 55) #[c] #[])).run Tryd.prog (w.alloc (.map (fnP13 c) 13)) = .ok () (w.alloc (.map (fnP14 c) 14)) := run_ins 13 (fk13, 55) rfl (by decide +kernel) c w
theorem ins14 (c : Value) (w : World) : (Instr.mapUpdate 67 (.map (some w.heap.size)) (.string ⟨#[105, 115, 95, 97, 116, 111, 109]⟩) (.func (Fn.func 55) #[c] #[])).run Tryd.prog (w.alloc (.map (fnP14 c) 14)) = .ok () (w.alloc (.map (fnP15 c) 15)) := run_ins 14 (fk14, 55) rfl (by decide +kernel) c w
theorem ins15 (c : Value) (w : World) : (Instr.mapUpdate 67 (.map (some w.heap.size)) (.string ⟨#[105, 115, 95, 112, 105, 100]⟩) (.func (Fn.func 55) #[c] #[])).run Tryd.prog (w.alloc (.map (fnP15 c) 15)) = .ok () (w.alloc (.map (fnP16 c) 16)) := run_ins 15 (fk15, 55) rfl (by decide +kernel) c w
theorem ins16 (c : Value) (w : World) : (Instr.mapUpdate 67 (.map (some w.heap.size)) (.string ⟨#[105, 115, 95, 114, 101, 102]⟩) (.func (Fn.func 55) #[c] #[])).run Tryd.prog (w.alloc (.map (fnP16 c) 16)) = .ok () (w.alloc (.map (fnP17 c) 17)) := run_ins 16 (fk16, 55) rfl (by decide +kernel) c w
theorem ins17 (c : Value) (w : World) : (Instr.mapUpdate 67 (.map (some w.heap.size)) (.string ⟨#[105, 115, 95, 116, 117, 112, 108, 101]⟩) (.func (Fn.func 55) #[c] #[])).run Tryd.prog (w.alloc (.map (fnP17 c) 17)) = .ok () (w.alloc (.map (fnP18 c) 18)) := run_ins 17 (fk17, 55) rfl (by decide +kernel) c w
theorem ins18 (c : Value) (w : World) : (Instr.mapUpdate 67 (.map (some w.heap.size)) (.string ⟨#[105, 115, 95, 108, 105, 115, 116]⟩) (.func (Fn.func 55) #[c] #[])).run Tryd.prog (w.alloc (.map (fnP18 c) 18)) = .ok () (w.alloc (.map (fnP19 c) 19)) := run_ins 18 (fk18, 55) rfl (by decide +kernel) c w
theorem ins19 (c : Value) (w : World) : (Instr.mapUpdate 67 (.map (some w.heap.size)) (.string ⟨#[105, 115, 95, 98, 105, 110]⟩) (.func (Fn.func 55) #[c] #[])).run Tryd.prog (w.alloc (.map (fnP19 c) 19)) = .ok () (w.alloc (.map (fnP20 c) 20)) := run_ins 19 (fk19, 55) rfl (by decide +kernel) c w
theorem ins20 (c : Value) (w : World) : (Instr.mapUpdate 67 (.map (some w.heap.size)) (.string ⟨#[108, 105, 115, 116, 95, 116, 111, 95, 98, 105, 110]⟩) (.func (Fn.func 56) #[c] #[])).run Tryd.prog (w.alloc (.map (fnP20 c) 20)) = .ok () (w.alloc (.map (fnP21 c) 21)) := run_ins 20 (fk20, 56) rfl (by decide +kernel) c w
theorem ins21 (c : Value) (w : World) : (Instr.mapUpdate 67 (.map (some w.heap.size)) (.string ⟨#[98, 105, 110, 95, 116, 111, 95, 108, 105, 115, 116]⟩) (.func (Fn.func 57) #[c] #[])).run Tryd.prog (w.alloc (.map (fnP21 c) 21)) = .ok () (w.alloc (.map (fnP22 c) 22)) := run_ins 21 (fk21, 57) rfl (by decide +kernel) c w
theorem ins22 (c : Value) (w : World) : (Instr.mapUpdate 67 (.map (some w.heap.size)) (.string ⟨#[98, 105, 110, 95, 97, 116]⟩) (.func (Fn.func 58) #[c] #[])).run Tryd.prog (w.alloc (.map (fnP22 c) 22)) = .ok () (w.alloc (.map (fnP23 c) 23)) := run_ins 22 (fk22, 58) rfl (by decide +kernel) c w
theorem ins23 (c : Value) (w : World) : (Instr.mapUpdate 67 (.map (some w.heap.size)) (.string ⟨#[98, 105, 110, 95, 112, 97, 114, 116]⟩) (.func (Fn.func 59) #[c] #[])).run Tryd.prog (w.alloc (.map (fnP23 c) 23)) = .ok () (w.alloc (.map (fnP24 c) 24)) := run_ins 23 (fk23, 59) rfl (by decide +kernel) c w
theorem ins24 (c : Value) (w : World) : (Instr.mapUpdate 67 (.map (some w.heap.size)) (.string ⟨#[98, 105, 110, 95, 106, 111, 105, 110]⟩) (.func (Fn.func 60) #[c] #[])).run Tryd.prog (w.alloc (.map (fnP24 c) 24)) = .ok () (w.alloc (.map (fnP25 c) 25)) := run_ins 24 (fk24, 60) rfl (by decide +kernel) c w
theorem ins25 (c : Value) (w : World) : (Instr.mapUpdate 67 (.map (some w.heap.size)) (.string ⟨#[115, 117, 109]⟩) (.func (Fn.func 61) #[c] #[])).run Tryd.prog (w.alloc (.map (fnP25 c) 25)) = .ok () (w.alloc (.map (fnP26 c) 26)) := run_ins 25 (fk25, 61) rfl (by decide +kernel) c w
theorem ins26 (c : Value) (w : World) : (Instr.mapUpdate 67 (.map (some w.heap.size)) (.string ⟨#[115, 101, 113]⟩) (.func (Fn.func 62) #[c] #[])).run Tryd.prog (w.alloc (.map (fnP26 c) 26)) = .ok () (w.alloc (.map (fnP27 c) 27)) := run_ins 26 (fk26, 62) rfl (by decide +kernel) c w
theorem ins27 (c : Value) (w : World) : (Instr.mapUpdate 67 (.map (some w.heap.size)) (.string ⟨#[97, 116, 111, 109, 95, 116, 111, 95, 108, 105, 115, 116]⟩) (.func (Fn.func 63) #[c] #[])).run Tryd.prog (w.alloc (.map (fnP27 c) 27)) = .ok () (w.alloc (.map (fnP28 c) 28)) := run_ins 27 (fk27, 63) rfl (by decide +kernel) c w
theorem ins28 (c : Value) (w : World) : (Instr.mapUpdate 67 (.map (some w.heap.size)) (.string ⟨#[104, 97, 115, 104]⟩) (.func (Fn.func 64) #[c] #[])).run Tryd.prog (w.alloc (.map (fnP28 c) 28)) = .ok () (w.alloc (.map (fnP29 c) 29)) := run_ins 28 (fk28, 64) rfl (by decide +kernel) c w
theorem functions_any (S : Sat W w L) (c : Value) :
    Calls Tryd.prog 32 #[c] w fun e w' => ∃ b cl, e = .returned (.map (some b)) ∧ Sat W w' (blk b (.map (mkE c 0 fnL).toArray cl) :: L) := by
  have hmm := @run_makeMap Tryd.prog
  have SM := hid (S.allocAt (k := w.heap.size) (.map (fnP29 c) 29) rfl)
  have i0 := ins0 c w
  have i1 := ins1 c w
  have i2 := ins2 c w
  have i3 := ins3 c w
  have i4 := ins4 c w
  have i5 := ins5 c w
  have i6 := ins6 c w
  have i7 := ins7 c w
  have i8 := ins8 c w
  have i9 := ins9 c w
  have i10 := ins10 c w
  have i11 := ins11 c w
  have i12 := ins12 c w
  have i13 := ins13 c w
  have i14 := ins14 c w
  have i15 := ins15 c w
  have i16 := ins16 c w
  have i17 := ins17 c w
  have i18 := ins18 c w
  have i19 := ins19 c w
  have i20 := ins20 c w
  have i21 := ins21 c w
  have i22 := ins22 c w
  have i23 := ins23 c w
  have i24 := ins24 c w
  have i25 := ins25 c w
  have i26 := ins26 c w
  have i27 := ins27 c w
  have i28 := ins28 c w
  clear S
  go_enter Tryd.func32, Tryd.ntmps32
  go_wp2_with fail
  go_ret
  exact ⟨_, _, rfl, SM.out⟩
end
#print axioms functions_any
end Go.Proofs.YtlgogflhjpcmlaaDoor
