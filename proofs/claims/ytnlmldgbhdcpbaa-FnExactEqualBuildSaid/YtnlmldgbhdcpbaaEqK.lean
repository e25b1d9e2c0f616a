/- Two small facts for the functions that compare. No condition. -/
import Derived.Test.YtnlmldgbhdcpbaaTypes
import Derived.Test.YtnlmldgbhdcpbaaEq
namespace Go.Proofs.Ytnlmldgbhdcpbaa
open Go.RowKit
theorem of_deq {α : Type} {x y : α} (h : deq x y = true) : x = y := Classical.byContradiction fun q => by rw [deq_ne q] at h; cases h
theorem Cells.part {w : World} {b off : Nat} {cs ds : List Value} (h : Cells w b off cs) (k n : Nat) (e : (cs.drop k).take n = ds) : Cells w b (off + k) ds := by
  subst e
  intro j u hu
  rw [List.getElem?_take] at hu
  split at hu
  · rw [List.getElem?_drop] at hu
    rw [Nat.add_assoc]
    exact h _ _ hu
  · cases hu
end Go.Proofs.Ytnlmldgbhdcpbaa
