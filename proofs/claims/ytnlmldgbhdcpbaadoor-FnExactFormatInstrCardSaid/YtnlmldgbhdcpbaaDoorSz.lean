/- The functions sz.. of the laws: each takes a value's size from what is left of the bound. Conditions: what is left is from 0 to 1048576. -/
import Derived.Test.YtnlmldgbhdcpbaaDoorTypes
namespace Go.Proofs.YtnlmldgbhdcpbaaDoor
open Go.RowKit
set_option maxRecDepth 100000 in
set_option maxHeartbeats 1000000 in
theorem szInstr_c (x : TInstr) : ∀ (w : World) (K : Nat → Prop) (_ : ∀ b, K b → b < w.heap.size) (cs : List Value) (_ : Rep w K x.enc cs) (left : Int) (_ : 0 ≤ left) (_ : left ≤ 1048576),
    Calls Tryd.prog 4 #[.agg cs.toArray, .int .i64 left] w fun e w' => e = .returned (.int .i64 (szr x.sz left)) ∧ Below w.heap.size w w' := by
  intro w K hK cs h left h0 h1
  obtain ⟨rfl, hOp, hA, hB, hTrait, hName⟩ := TInstr.opn h
  clear h
  clear hOp
  clear hA
  clear hB
  unfold maxLen at hTrait
  unfold maxLen at hName
  have hW : Below w.heap.size w (w.alloc (.cells #[.int .i64 x.fOp, .int .i64 x.fA, .int .i64 x.fB, .string x.fTrait, .string x.fName] 23)) := (Below.refl _ _).alloc (Nat.le_refl _) _
  have hx : Below (w.heap.size + 1) (w.alloc (.cells #[.int .i64 x.fOp, .int .i64 x.fA, .int .i64 x.fB, .string x.fTrait, .string x.fName] 23)) (w.alloc (.cells #[.int .i64 x.fOp, .int .i64 x.fA, .int .i64 x.fB, .string x.fTrait, .string x.fName] 23)) := Below.refl _ _
  go_enter Tryd.func4, Tryd.ntmps4
  by_cases g0 : ((x.fTrait.size : Nat) : Int) ≤ left
  · skip
    by_cases g1 : ((x.fName.size : Nat) : Int) ≤ left - ((x.fTrait.size : Nat) : Int)
    · skip
      go_wp2
      go_ret
      exact ⟨ret_int (by rw [TInstr.sz_eq]; unfold szr; (repeat' split) <;> omega), hW⟩
    · go_wp2
      go_ret
      exact ⟨ret_int (by rw [TInstr.sz_eq]; unfold szr; (repeat' split) <;> omega), hW⟩
  · go_wp2
    go_ret
    exact ⟨ret_int (by rw [TInstr.sz_eq]; unfold szr; (repeat' split) <;> omega), hW⟩
end Go.Proofs.YtnlmldgbhdcpbaaDoor
