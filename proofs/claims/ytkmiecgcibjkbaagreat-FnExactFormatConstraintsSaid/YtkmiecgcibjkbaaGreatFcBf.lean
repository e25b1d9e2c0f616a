/- FormatConstraints: both walks in the form that the law asks for. No condition but the value's size. -/
import Derived.Test.YtkmiecgcibjkbaaGreatFcf
import Derived.Test.YtkmiecgcibjkbaaGreatMkBound
namespace Go.Proofs.YtkmiecgcibjkbaaGreat
open Go.RowKit
theorem fmtC_cnt (x : TInferState) : cnts ((fmtC x).map encS) ≤ 32 * x.sz := by
  have h1 := cnts_map_le (enc := encS) (f := fun _ => 0) (fun s => by rw [cntS_flat]; omega) (fmtC x)
  have h2 := szL_zero (fmtC x)
  have h3 : (fmtC x).length = x.fEquations.length + x.fObligations.length := by unfold fmtC; simp
  have h4 := x.sz_eq
  unfold szs at h1 h4
  omega
theorem specFormatConstraints_c (x : TInferState) (hz : x.sz ≤ 1048576) : ∀ (w : World) (K : Nat → Prop) (_ : ∀ b, K b → b < w.heap.size) (cs : List Value) (_ : Rep w K x.enc cs),
    Calls Tryz.prog 16 #[.agg cs.toArray] w fun e w' => ∃ a p bs, e = .returned (.slice a (fmtC x).length p) ∧ Own w' (.sl ((fmtC x).map encS)) [.slice a (fmtC x).length p] bs ∧ bs.Nodup ∧ (∀ b ∈ bs, w.heap.size ≤ b ∧ b < w'.heap.size) ∧ Below w.heap.size w w' := fun w _ _ cs h =>
  CS.outS (c := cx) (args := [x.dd false]) (dd := dS) (s := .one) (fun _ => rfl) (by decide) (fun y => is_lf (.string y)) (sFmtC_d x hz []) w [.agg cs.toArray] (argOk_cons cs (rep_rp _ _ _ (x.is_dd false) h) (by rw [TInferState.dd_eq]; rfl) argOk_nil)
theorem implFormatConstraints_c (x : TInferState) (hz : x.sz ≤ 1048576) : ∀ (w : World) (K : Nat → Prop) (_ : ∀ b, K b → b < w.heap.size) (cs : List Value) (_ : Rep w K x.enc cs),
    Calls Tryz.prog 18 #[.agg cs.toArray] w fun e w' => ∃ a p bs, e = .returned (.slice a (fmtC x).length p) ∧ Own w' (.sl ((fmtC x).map encS)) [.slice a (fmtC x).length p] bs ∧ bs.Nodup ∧ (∀ b ∈ bs, w.heap.size ≤ b ∧ b < w'.heap.size) ∧ Below w.heap.size w w' := fun w _ _ cs h =>
  CS.outS (c := cx) (args := [x.dd false]) (dd := dS) (s := .one) (fun _ => rfl) (by decide) (fun y => is_lf (.string y)) (iFmtC_d x hz []) w [.agg cs.toArray] (argOk_cons cs (rep_rp _ _ _ (x.is_dd false) h) (by rw [TInferState.dd_eq]; rfl) argOk_nil)
end Go.Proofs.YtkmiecgcibjkbaaGreat
