/- The functions to.. of the laws: each copies a value into memory of its own. Condition: the value's size is at most 1048576. -/
import Derived.Test.YtnlmldgbhdcpbaaDoorTypes
namespace Go.Proofs.YtnlmldgbhdcpbaaDoor
open Go.RowKit
set_option maxRecDepth 100000 in
set_option maxHeartbeats 1000000 in
theorem toInstr_c (x : TInstr) : ∀ (_ : x.sz ≤ 1048576) (w : World) (K : Nat → Prop) (_ : ∀ b, K b → b < w.heap.size) (cs : List Value) (_ : Rep w K x.enc cs),
    Calls Tryd.prog 6 #[.agg cs.toArray] w fun e w' => ∃ cs' bs, e = .returned (.agg cs'.toArray) ∧ Own w' x.enc cs' bs ∧ bs.Nodup ∧ (∀ b ∈ bs, w.heap.size ≤ b ∧ b < w'.heap.size) ∧ Below w.heap.size w w' := by
  intro hz w K hK cs h
  obtain ⟨rfl, hOp, hA, hB, hTrait, hName⟩ := TInstr.opn h
  clear h
  have HOp := Lib.hid hOp; clear hOp
  have HA := Lib.hid hA; clear hA
  have HB := Lib.hid hB; clear hB
  have HTrait := Lib.hid hTrait; clear hTrait
  have HName := Lib.hid hName; clear hName
  have Hz := Lib.hid hz; clear hz
  go_enter Tryd.func6, Tryd.ntmps6
  go_wp2
  refine bodyPost_ret (v := .agg #[.int .i64 x.fOp, .int .i64 x.fA, .int .i64 x.fB, .string x.fTrait, .string x.fName]) (by simp [results, Tryd.results6, go_sem]) rfl ⟨[.int .i64 x.fOp, .int .i64 x.fA, .int .i64 x.fB, .string x.fTrait, .string x.fName], [], rfl, ?_, List.nodup_nil, by simp, ?_⟩
  · exact TInstr.mk_own HOp.out HA.out HB.out HTrait.out HName.out
  · exact (((Below.refl _ _).alloc (Nat.le_refl _) _).alloc (by simp) _).alloc (by simp <;> omega) _
end Go.Proofs.YtnlmldgbhdcpbaaDoor
