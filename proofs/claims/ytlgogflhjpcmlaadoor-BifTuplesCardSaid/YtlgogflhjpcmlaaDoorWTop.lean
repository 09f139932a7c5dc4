/-
  tree.Write: any term's text, or what is wrong with it.
-/
import Derived.Test.YtlgogflhjpcmlaaDoorWriteB
import Derived.Test.YtlgogflhjpcmlaaDoorBldS
import Derived.Test.YtlgogflhjpcmlaaDoorTRight
namespace Go.Proofs.YtlgogflhjpcmlaaDoor
open Go.RowKit
set_option maxHeartbeats 2000000

def tWrite : ByteArray := ⟨#[119, 114, 105, 116, 101]⟩
/-- what Write answers -/
def WOf (h : Nat → Option Obj) (t : T) (s e : Value) : Prop := match rightOf t with
  | none => e = .nilIface ∧ ∃ q, s = .string q ∧ byts q = txt t
  | some (n, k) => s = .string ByteArray.empty ∧ ErrIn h e [(tWrite, 0), (tTerm, n)] k
section
variable {W w : World} {L : List HP} {h : Nat → Option Obj}
set_option maxRecDepth 100000 in
theorem write_top (S : Sat W w (arch h :: L)) (t : T) (vs : List Value) (hin : TIn h t vs) (hok : TOk t) (hw : rightOf t = none → Told h t ∧ (txt t).length ≤ 140737488355328 ∧ ∃ q, byts q = txt t) :
    Calls Tryd.prog 73 #[.agg vs.toArray] w fun e w' => ∃ s v h', e = .returned (.tuple #[s, v]) ∧ Le h h' ∧ WOf h' t s v ∧ Sat W w' (arch h' :: L) := by
  obtain ⟨ia, ic, ra, rc, ba, bc, rfl, _⟩ := hin.vals
  have hrt := right_t (S.alloc' (.cells (tVals t ia ic ra rc ba bc).toArray 35)) t (tVals t ia ic ra rc ba bc) hin hok
  have S0 := hid (S.alloc (.cells (tVals t ia ic ra rc ba bc).toArray 35))
  have hrt2 := right_t S0.out.swap t (tVals t ia ic ra rc ba bc) hin hok
  have HRT := hid hrt2
  have HIN := hid hin
  obtain ⟨r, hr⟩ : ∃ r, rightOf t = r := ⟨_, rfl⟩
  have HR := hid hr
  have HW := hid hw
  have c0 : ((w.alloc (.cells (tVals t ia ic ra rc ba bc).toArray 35))).heap[w.heap.size]? = some (.cells (tVals t ia ic ra rc ba bc).toArray 35 (0, 0)) := S0.out.get
  rw [hr] at hrt2
  have HRT := hid hrt2
  unfold WOf
  rw [hr]
  unfold tVals at HRT S0 HIN c0 ⊢
  clear S hin hrt hrt2 hr hw
  go_enter Tryd.func73, Tryd.ntmps73
  go_wp2_with fail
  refine HRT.out.mono ?_
  rintro e w3 ⟨v, h3, rfl, le, he, s3⟩
  have HLE := hid le
  have S3 := hid s3
  cases r with
  | some nk =>
    obtain ⟨n, k⟩ := nk
    have he' : ErrIn h3 v [(tTerm, n)] k := he
    obtain ⟨ty, x, hv⟩ := he'.iface
    have hv0 := hid hv
    have hat := at_some S3.out tWrite 0 he'
    unfold tWrite at hat
    have HAT := hid hat
    subst hv
    clear le he s3 HRT he' hat
    go_wp2_with fail
    refine HAT.out.mono ?_
    rintro e w4 ⟨v4, h4, rfl, le4, he4, s4⟩
    have HE4 := hid he4
    have HLE4 := hid le4
    have S4 := hid s4
    clear he4 le4 s4 HAT
    go_wp2_with fail
    go_ret2
    exact ⟨_, _, rfl, h4, HLE.out.trans HLE4.out, ⟨rfl, HE4.out⟩, S4.out.swap.drop⟩
  | none =>
    have he' : v = .nilIface := he
    subst he'
    obtain ⟨HT, hlen, q, hq⟩ := HW.out HR.out
    have S4 := hid (bld_new (S3.out.alloc (.cells #[.pointer none, .slice none 0 0] 117)))
    have hwt := write_t (h0 := h) t hok HT W _ (blk w.heap.size (.cells (tVals t ia ic ra rc ba bc).toArray 35 (0, 0)) :: L) h3 (tVals t ia ic ra rc ba bc) w3.heap.size [] HLE.out (by unfold tVals; exact S4.out) (TIn.mono HLE.out t (by unfold tVals; exact HIN.out)) (by simpa using hlen)
    unfold tVals at hwt
    have S5 := S3.out.swap.alloc' (.cells #[.pointer none, .slice none 0 0] 117)
    have k0 := S5.cell 0
    have k1 := S5.cell 1
    have k2 := S5.cell 2
    have k3 := S5.cell 3
    have k4 := S5.cell 4
    have k5 := S5.cell 5
    simp only [List.getElem?_toArray, List.getElem?_cons_zero, List.getElem?_cons_succ] at k0 k1 k2 k3 k4 k5
    clear S5
    have HWT := hid hwt
    have HQ := hid hq
    clear le he s3 HRT hwt hq c0
    go_wp2_with fail
    refine HWT.out.mono ?_
    rintro e w5 ⟨rfl, s5⟩
    have hstr := str_any q (by rw [HQ.out]; simpa using s5)
    have HSTR := hid hstr
    clear s5 hstr HWT k0 k1 k2 k3 k4 k5
    go_wp2_with fail
    refine HSTR.out.mono ?_
    rintro e w6 ⟨rfl, s6⟩
    have S6 := hid s6
    clear s6 HSTR
    go_wp2_with fail
    go_ret2
    exact ⟨_, _, rfl, h3, HLE.out, ⟨rfl, q, rfl, HQ.out⟩, S6.out.swap.drop⟩
end
#print axioms write_top
end Go.Proofs.YtlgogflhjpcmlaaDoor
