/-
  NARROWER THAN 'FOR EVERY INPUT', by the rows' own cells (each row's printed sentence says how): FnExactEqualVM: loops · FnExactEqualBuild: loops · FnExactNewVM: loops · FnExactCompileSpecialization: loops.
  DERIVED. THE GIVEN ROWS OF THIS SEAT. 4 by the template 'for every input the law returns true; each argument reads behind the call as it read before'; 0 by the template 'total and deterministic' (their statements: YtnlmldgbhdcpbaaTotals.lean).
  GIVEN WITH THE SEED: the statements are not yours to turn. If you find one false, say at which input.
  Laid BY PROGRAM, IN A SANDBOX (cutbox-rows.mjs): the forced cells as the released guide's own fill.sh prints them over the translation ddf91d44783fa349… (all of the seat's roots in one cut). By AI agents, Wed Nov 11 2026. No macro, syntax, notation, axiom, sorry.
-/
import Derived.Test.YtnlmldgbhdcpbaaChecked
import GoSem.Claim
import GoSem.ClaimJoined
import GoSem.ClaimMapViews
import Derived.JoinedTies
import Derived.KernelRfl
namespace Go.Proofs.Ytnlmldgbhdcpbaa
/- THE CELL 'sum', in the pinned program and in every row, IS THE sha256 OF THE DUMP (.gsa) THAT YtnlmldgbhdcpbaaProg.lean LOADS. Nothing in Lean hashes anything: it is a label: what it is worth is what the hold of that sum in a sandbox is worth. -/
noncomputable def Try.pinned : Pinned := { name := "ytnlmldgbhdcpbaa", sum := "ddf91d44783fa349dda6a0181e6b50ed4843077b808b99e05582a2a0c84c5c2d", checked := Try.checked }
namespace Rows
def none {H : Type} : Left H := { results := [], args := [] }

/-- 'laws.FnExactEqualVM': WHATEVER THE INPUT: true; the input reads as it did. -/
def fnExactEqualVMSpec : ChangeSpec := { name := "fnExactEqualVM", fn := fun _ => fun
  | [d1, d2] => { results := [.lit (.bool true)], args := [d1, d2] }
  | _ => none }
def fnExactEqualVMRow : OpenClaim := { program := "ytnlmldgbhdcpbaa", sum := "ddf91d44783fa349dda6a0181e6b50ed4843077b808b99e05582a2a0c84c5c2d", func := "loop.example/g00508/laws.FnExactEqualVM", spec := "fnExactEqualVM", unfollowed := true, recurses := true, loops := true, apart := false }
def FnExactEqualVMSaid : Prop := fnExactEqualVMRow.holds Try.pinned (OpenSpec.ofChange fnExactEqualVMSpec)

/-- ITS FALSE NEIGHBOUR: 'it returns false'. Refute it at one input. -/
def fnExactEqualVMWrong : ChangeSpec := { name := "fnExactEqualVM", fn := fun _ => fun
  | [d1, d2] => { results := [.lit (.bool false)], args := [d1, d2] }
  | _ => none }
def FnExactEqualVMWrongFalsely : Prop := fnExactEqualVMRow.holds Try.pinned (OpenSpec.ofChange fnExactEqualVMWrong)

/-- 'laws.FnExactEqualBuild': WHATEVER THE INPUT: true; the input reads as it did. -/
def fnExactEqualBuildSpec : ChangeSpec := { name := "fnExactEqualBuild", fn := fun _ => fun
  | [d1, d2] => { results := [.lit (.bool true)], args := [d1, d2] }
  | _ => none }
def fnExactEqualBuildRow : OpenClaim := { program := "ytnlmldgbhdcpbaa", sum := "ddf91d44783fa349dda6a0181e6b50ed4843077b808b99e05582a2a0c84c5c2d", func := "loop.example/g00508/laws.FnExactEqualBuild", spec := "fnExactEqualBuild", unfollowed := true, recurses := true, loops := true, apart := false }
def FnExactEqualBuildSaid : Prop := fnExactEqualBuildRow.holds Try.pinned (OpenSpec.ofChange fnExactEqualBuildSpec)

/-- ITS FALSE NEIGHBOUR: 'it returns false'. Refute it at one input. -/
def fnExactEqualBuildWrong : ChangeSpec := { name := "fnExactEqualBuild", fn := fun _ => fun
  | [d1, d2] => { results := [.lit (.bool false)], args := [d1, d2] }
  | _ => none }
def FnExactEqualBuildWrongFalsely : Prop := fnExactEqualBuildRow.holds Try.pinned (OpenSpec.ofChange fnExactEqualBuildWrong)

/-- 'laws.FnExactNewVM': WHATEVER THE INPUT: true; the input reads as it did. -/
def fnExactNewVMSpec : ChangeSpec := { name := "fnExactNewVM", fn := fun _ => fun
  | [d1, d2, d3] => { results := [.lit (.bool true)], args := [d1, d2, d3] }
  | _ => none }
def fnExactNewVMRow : OpenClaim := { program := "ytnlmldgbhdcpbaa", sum := "ddf91d44783fa349dda6a0181e6b50ed4843077b808b99e05582a2a0c84c5c2d", func := "loop.example/g00508/laws.FnExactNewVM", spec := "fnExactNewVM", recurses := true, loops := true, apart := false }
def FnExactNewVMSaid : Prop := fnExactNewVMRow.holds Try.pinned (OpenSpec.ofChange fnExactNewVMSpec)

/-- ITS FALSE NEIGHBOUR: 'it returns false'. Refute it at one input. -/
def fnExactNewVMWrong : ChangeSpec := { name := "fnExactNewVM", fn := fun _ => fun
  | [d1, d2, d3] => { results := [.lit (.bool false)], args := [d1, d2, d3] }
  | _ => none }
def FnExactNewVMWrongFalsely : Prop := fnExactNewVMRow.holds Try.pinned (OpenSpec.ofChange fnExactNewVMWrong)

/-- 'laws.FnExactCompileSpecialization': WHATEVER THE INPUT: true; the input reads as it did. -/
def fnExactCompileSpecializationSpec : ChangeSpec := { name := "fnExactCompileSpecialization", fn := fun _ => fun
  | [d1, d2] => { results := [.lit (.bool true)], args := [d1, d2] }
  | _ => none }
def fnExactCompileSpecializationRow : OpenClaim := { program := "ytnlmldgbhdcpbaa", sum := "ddf91d44783fa349dda6a0181e6b50ed4843077b808b99e05582a2a0c84c5c2d", func := "loop.example/g00508/laws.FnExactCompileSpecialization", spec := "fnExactCompileSpecialization", recurses := true, loops := true, apart := false }
def FnExactCompileSpecializationSaid : Prop := fnExactCompileSpecializationRow.holds Try.pinned (OpenSpec.ofChange fnExactCompileSpecializationSpec)

/-- ITS FALSE NEIGHBOUR: 'it returns false'. Refute it at one input. -/
def fnExactCompileSpecializationWrong : ChangeSpec := { name := "fnExactCompileSpecialization", fn := fun _ => fun
  | [d1, d2] => { results := [.lit (.bool false)], args := [d1, d2] }
  | _ => none }
def FnExactCompileSpecializationWrongFalsely : Prop := fnExactCompileSpecializationRow.holds Try.pinned (OpenSpec.ofChange fnExactCompileSpecializationWrong)

/- THE SECOND FORM. 'bulk': how many values and letters a reading holds, each counted each time it is reached (what is shared counts as often as it is met; a slice's spare places count too). A statement '..UptoSaid' is the law's where the arguments, and the package variables that the reading takes, are together of bulk at most 1048576: NARROWER than '..Said'. Prove '..Said' where nothing that the law and all that it calls make is longer than what came in: it says more and counts as full. Else prove '..UptoSaid'. A law counts once. -/
mutual
def uptoBulk {H : Type} : DataW H → Nat
  | .lit (.string bytes) => bytes.length + 1
  | .lit _ => 1
  | .nil => 1
  | .ptr d => uptoBulk d + 1
  | .slice elems spare => uptoBulkAll elems + uptoBulkAll spare + 1
  | .agg parts => uptoBulkAll parts + 1
  | .iface _ d => uptoBulk d + 1
  | .map entries => uptoBulkEntries entries + 1
  | .held _ => 1
def uptoBulkAll {H : Type} : List (DataW H) → Nat
  | [] => 0
  | d :: r => uptoBulk d + uptoBulkAll r
def uptoBulkEntries {H : Type} : List (Lit × DataW H) → Nat
  | [] => 0
  | x :: r => uptoBulkEntry x + uptoBulkEntries r
def uptoBulkEntry {H : Type} : Lit × DataW H → Nat
  | (.string bytes, d) => bytes.length + uptoBulk d + 1
  | (_, d) => uptoBulk d + 1
 end
def uptoSmall : (H : Type) → List (DataW H) → Bool := fun _ ds => decide (uptoBulkAll ds ≤ 1048576)
def OpenSpec.upto (s : _root_.Go.ChangeSpec) : _root_.Go.OpenSpec := { _root_.Go.OpenSpec.ofChange s with cond := some uptoSmall }

/-- 'laws.FnExactEqualVM', WHERE WHAT IT READS IS OF BULK AT MOST 1048576: true; the input reads as it did. -/
def fnExactEqualVMUptoRow : OpenClaim := { program := "ytnlmldgbhdcpbaa", sum := "ddf91d44783fa349dda6a0181e6b50ed4843077b808b99e05582a2a0c84c5c2d", func := "loop.example/g00508/laws.FnExactEqualVM", spec := "fnExactEqualVM", unfollowed := true, recurses := true, loops := true, apart := false, narrowed := true }
def FnExactEqualVMUptoSaid : Prop := fnExactEqualVMUptoRow.holds Try.pinned (OpenSpec.upto fnExactEqualVMSpec)

/-- 'laws.FnExactEqualBuild', WHERE WHAT IT READS IS OF BULK AT MOST 1048576: true; the input reads as it did. -/
def fnExactEqualBuildUptoRow : OpenClaim := { program := "ytnlmldgbhdcpbaa", sum := "ddf91d44783fa349dda6a0181e6b50ed4843077b808b99e05582a2a0c84c5c2d", func := "loop.example/g00508/laws.FnExactEqualBuild", spec := "fnExactEqualBuild", unfollowed := true, recurses := true, loops := true, apart := false, narrowed := true }
def FnExactEqualBuildUptoSaid : Prop := fnExactEqualBuildUptoRow.holds Try.pinned (OpenSpec.upto fnExactEqualBuildSpec)

/-- 'laws.FnExactNewVM', WHERE WHAT IT READS IS OF BULK AT MOST 1048576: true; the input reads as it did. -/
def fnExactNewVMUptoRow : OpenClaim := { program := "ytnlmldgbhdcpbaa", sum := "ddf91d44783fa349dda6a0181e6b50ed4843077b808b99e05582a2a0c84c5c2d", func := "loop.example/g00508/laws.FnExactNewVM", spec := "fnExactNewVM", recurses := true, loops := true, apart := false, narrowed := true }
def FnExactNewVMUptoSaid : Prop := fnExactNewVMUptoRow.holds Try.pinned (OpenSpec.upto fnExactNewVMSpec)

/-- 'laws.FnExactCompileSpecialization', WHERE WHAT IT READS IS OF BULK AT MOST 1048576: true; the input reads as it did. -/
def fnExactCompileSpecializationUptoRow : OpenClaim := { program := "ytnlmldgbhdcpbaa", sum := "ddf91d44783fa349dda6a0181e6b50ed4843077b808b99e05582a2a0c84c5c2d", func := "loop.example/g00508/laws.FnExactCompileSpecialization", spec := "fnExactCompileSpecialization", recurses := true, loops := true, apart := false, narrowed := true }
def FnExactCompileSpecializationUptoSaid : Prop := fnExactCompileSpecializationUptoRow.holds Try.pinned (OpenSpec.upto fnExactCompileSpecializationSpec)

end Rows
end Go.Proofs.Ytnlmldgbhdcpbaa
