/- CompileProgram's two walks, their results as the law asks for them. No condition but the value's size. -/
import Derived.Test.YtkmiecgcibjkbaaGreatWf
import Derived.Test.YtkmiecgcibjkbaaGreatWh
namespace Go.Proofs.YtkmiecgcibjkbaaGreat
open Go.RowKit
theorem specCompileProgram_c (x : TMonoProgram) (hz : x.sz ≤ 1048576) : ∀ (w : World) (K : Nat → Prop) (_ : ∀ b, K b → b < w.heap.size) (cs : List Value) (_ : Rep w K x.enc cs),
  Calls Tryz.prog 7 #[.agg cs.toArray] w fun e w' => ∃ cs' bs, e = .returned (.tuple #[.agg cs'.toArray, .bool (cprog x).2]) ∧ Own w' (cprog x).1.enc cs' bs ∧ bs.Nodup ∧ (∀ b ∈ bs, w.heap.size ≤ b ∧ b < w'.heap.size) ∧ Below w.heap.size w w' := fun w K hK cs h =>
 (specCompileProgram_o x hz w K hK cs h).mono fun _ _ ⟨cs', h1, h2, h3⟩ => by
  obtain ⟨bs, k1, k2, k3⟩ := h2.out
  exact ⟨cs', bs, h1, k1, k2, k3, h3⟩
theorem implCompileProgram_c (x : TMonoProgram) (hz : x.sz ≤ 1048576) : ∀ (w : World) (K : Nat → Prop) (_ : ∀ b, K b → b < w.heap.size) (cs : List Value) (_ : Rep w K x.enc cs),
  Calls Tryz.prog 9 #[.agg cs.toArray] w fun e w' => ∃ cs' bs, e = .returned (.tuple #[.agg cs'.toArray, .bool (cprog x).2]) ∧ Own w' (cprog x).1.enc cs' bs ∧ bs.Nodup ∧ (∀ b ∈ bs, w.heap.size ≤ b ∧ b < w'.heap.size) ∧ Below w.heap.size w w' := fun w K hK cs h =>
 (implCompileProgram_o x hz w K hK cs h).mono fun _ _ ⟨cs', h1, h2, h3⟩ => by
  obtain ⟨bs, k1, k2, k3⟩ := h2.out
  exact ⟨cs', bs, h1, k1, k2, k3, h3⟩
end Go.Proofs.YtkmiecgcibjkbaaGreat
