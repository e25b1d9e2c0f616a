/- The law of BuildKey, walked: it answers true. No condition but the table of powers of ten. -/
import Derived.Test.YtkadbimpaplnmaaGreatDoorM49
import Derived.Test.YtkadbimpaplnmaaGreatDoorM33
import Derived.Test.YtkadbimpaplnmaaGreatDoorM15
namespace Go.Proofs.YtkadbimpaplnmaaGreatDoor.fnExactBuildKey
open Go.RowKit
theorem law_c (x : TProgram) (n : Int) (w : World) (ht : Lib.TabIs Tryz.prog w "internal/strconv.uint64pow10" .u64 Lib.pow10Tab) {K : Nat → Prop} (c0 : List Value) (R0 : Rep w K x.enc c0) (hn : InR n) : Calls Tryz.prog 3 #[.agg c0.toArray, .int .i64 n] w fun e w' => e = .returned (.bool true) ∧ Below w.heap.size w w' := by
  have h := lawKey_d x n []
  have h1 : CS cx.P 3 (([x.dd false, .lf (.int .i64 n)] : List DD).map .d) [] (.d (.lf (.bool true))) [] := h
  refine (h1.out w [.agg c0.toArray, .int .i64 n] (argOk_cons c0 (rep_rp _ _ _ (x.is_dd false) R0) (by rw [TProgram.dd_eq]; rfl) (argOk_cons [.int .i64 n] (by simp only [rp, okLeaf]; exact ⟨trivial, hn, trivial⟩) rfl argOk_nil)) (gl_of ht)).mono fun e w' ⟨cs, bs, F', h2, h3, _, _, h4⟩ => ?_
  simp only [rp] at h3
  obtain ⟨rfl, -⟩ := h3
  exact ⟨h2, h4⟩
end Go.Proofs.YtkadbimpaplnmaaGreatDoor.fnExactBuildKey
