/- Walks by the Den rules. No condition but sizes. -/
import Derived.Test.YtkadbimpaplnmaaGreatDoorM16
import Derived.Test.YtkadbimpaplnmaaGreatDoorM45
import Derived.Test.YtkadbimpaplnmaaGreatDoorM46
import Derived.Test.YtkadbimpaplnmaaGreatDoorM47
import Derived.Test.YtkadbimpaplnmaaGreatDoorM48
namespace Go.Proofs.YtkadbimpaplnmaaGreatDoor
open Go.RowKit
set_option maxRecDepth 10000
set_option linter.unusedSimpArgs false
set_option maxHeartbeats 4000000
theorem lawKey_d (x : TProgram) (i : Int) (h : HP) : CS cx.P 3 [.d ((x).dd false), .d (.lf (.int .i64 (i)))] h (.d (.lf (.bool (true)))) h := by
 have hl0 : 0 ≤ lftI x.sz 1048576 → x.sz ≤ 1048576 := fun h => by have := (lft_ge h).2; omega
 refine Ze Tryz.func3 rfl 31 ?_
 apply Zr; intros
 iterate 2 (refine Zo ?_; simp)
 exact Zx
 apply Zr; intros
 refine Zo ?_; simp
 exact Zx
 apply Zr; intros
 iterate 2 (refine Zo ?_; simp)
 refine Zl [] rfl Tryz.func4 (szProgram_d x 1048576 (by omega) (by omega) _) ?_; simp
 refine Zo ?_; simp
 exact Zx
 refine W.seq ?_
 apply Zr; intros
 iterate 2 (refine Zo ?_; simp)
 exact Zx
 refine Zc rfl ?_ ?_ <;> intro hb0 <;> try simp at hb0
 apply Zr; intros
 refine Zo ?_; simp
 exact Zx
 refine W.ret (Zq ?_)
 simp [Tryz.f3]
 have hz : x.sz ≤ 1048576 := hl0 hb0
 refine W.skip ?_
 apply Zr; intros
 refine Zo ?_; simp
 refine Zl [] rfl Tryz.func6 (toProgram_d x (by omega) _) ?_; simp
 refine Zo ?_; simp
 refine Zl [] rfl Tryz.func5 (sKey_d x i hz _) ?_; simp
 refine Zo ?_; simp
 exact Zx
 apply Zr; intros
 refine Zo ?_; simp
 refine Zl [] rfl Tryz.func6 (toProgram_d x (by omega) _) ?_; simp
 iterate 2 (refine Zo ?_; simp)
 exact Zx
 apply Zr; intros
 iterate 2 (refine Zo ?_; simp)
 refine Zl [] rfl Tryz.func7 (iKey_d x i hz _) ?_; simp
 refine Zo ?_; simp
 exact Zx
 refine W.seq ?_
 apply Zr; intros
 iterate 3 (refine Zo ?_; simp)
 exact Zx
 refine Zc rfl ?_ ?_ <;> intro hb1 <;> try simp at hb1
 refine W.skip ?_
 refine W.seq ?_
 apply Yr rfl; intro K hK
 iterate 2 (refine Yo ?_; simp)
 refine Yl [] rfl Tryz.func6 (toProgram_d x (by omega)) ?_; simp
 refine Yl [] rfl Tryz.func8 (eqProgram_d x (by omega)) ?_; simp
 refine Yo ?_; simp
 exact DL.nil rfl hK
 refine Zc rfl ?_ ?_ <;> intro hb2 <;> try simp at hb2
 refine W.skip ?_
 apply Zr; intros
 refine Zo ?_; simp
 exact Zx
 refine W.ret (Zq ?_)
 simp [Tryz.f3]
end Go.Proofs.YtkadbimpaplnmaaGreatDoor
