/-
  NARROWER THAN 'FOR EVERY INPUT', by the rows' own cells (each row's printed sentence says how): FnExactEqualVM: loops · FnExactTableEntry: loops · FnExactEqualBuild: loops · FnExactNewVM: loops · FnExactCompileSpecialization: loops.
  DERIVED. THE GIVEN ROWS OF THIS SEAT. 6 by the template 'for every input the law returns true; each argument reads behind the call as it read before'; 0 by the template 'total and deterministic' (their statements: YtonohebdkeakdaaTotals.lean).
  GIVEN WITH THE SEED: the statements are not yours to turn. If you find one false, say at which input.
  Laid BY PROGRAM, IN A SANDBOX (cutbox-rows.mjs): the forced cells as the released guide's own fill.sh prints them over the translation 4fc0cb1c0be8598a… (all of the seat's roots in one cut). By AI agents, Wed Nov 11 2026. No macro, syntax, notation, axiom, sorry.
-/
import Derived.Test.YtonohebdkeakdaaChecked
import GoSem.Claim
import GoSem.ClaimJoined
import GoSem.ClaimMapViews
import Derived.JoinedTies
import Derived.KernelRfl
namespace Go.Proofs.Ytonohebdkeakdaa
/- THE CELL 'sum', in the pinned program and in every row, IS THE sha256 OF THE DUMP (.gsa) THAT YtonohebdkeakdaaProg.lean LOADS. Nothing in Lean hashes anything: it is a label: what it is worth is what the hold of that sum in a sandbox is worth. -/
noncomputable def Try.pinned : Pinned := { name := "ytonohebdkeakdaa", sum := "4fc0cb1c0be8598a5cfbc1908aa3fdf7c84eab4291015318b7143e0bde0065d4", checked := Try.checked }
namespace Rows
def none {H : Type} : Left H := { results := [], args := [] }

/-- 'laws.FnExactEqualCode': WHATEVER THE INPUT: true; the input reads as it did. -/
def fnExactEqualCodeSpec : ChangeSpec := { name := "fnExactEqualCode", fn := fun _ => fun
  | [d1, d2] => { results := [.lit (.bool true)], args := [d1, d2] }
  | _ => none }
def fnExactEqualCodeRow : OpenClaim := { program := "ytonohebdkeakdaa", sum := "4fc0cb1c0be8598a5cfbc1908aa3fdf7c84eab4291015318b7143e0bde0065d4", func := "loop.example/g00508/laws.FnExactEqualCode", spec := "fnExactEqualCode", apart := false }
def FnExactEqualCodeSaid : Prop := fnExactEqualCodeRow.holds Try.pinned (OpenSpec.ofChange fnExactEqualCodeSpec)

/-- ITS FALSE NEIGHBOUR: 'it returns false'. Refute it at one input. -/
def fnExactEqualCodeWrong : ChangeSpec := { name := "fnExactEqualCode", fn := fun _ => fun
  | [d1, d2] => { results := [.lit (.bool false)], args := [d1, d2] }
  | _ => none }
def FnExactEqualCodeWrongFalsely : Prop := fnExactEqualCodeRow.holds Try.pinned (OpenSpec.ofChange fnExactEqualCodeWrong)

/-- 'laws.FnExactEqualVM': WHATEVER THE INPUT: true; the input reads as it did. -/
def fnExactEqualVMSpec : ChangeSpec := { name := "fnExactEqualVM", fn := fun _ => fun
  | [d1, d2] => { results := [.lit (.bool true)], args := [d1, d2] }
  | _ => none }
def fnExactEqualVMRow : OpenClaim := { program := "ytonohebdkeakdaa", sum := "4fc0cb1c0be8598a5cfbc1908aa3fdf7c84eab4291015318b7143e0bde0065d4", func := "loop.example/g00508/laws.FnExactEqualVM", spec := "fnExactEqualVM", unfollowed := true, recurses := true, loops := true, apart := false }
def FnExactEqualVMSaid : Prop := fnExactEqualVMRow.holds Try.pinned (OpenSpec.ofChange fnExactEqualVMSpec)

/-- ITS FALSE NEIGHBOUR: 'it returns false'. Refute it at one input. -/
def fnExactEqualVMWrong : ChangeSpec := { name := "fnExactEqualVM", fn := fun _ => fun
  | [d1, d2] => { results := [.lit (.bool false)], args := [d1, d2] }
  | _ => none }
def FnExactEqualVMWrongFalsely : Prop := fnExactEqualVMRow.holds Try.pinned (OpenSpec.ofChange fnExactEqualVMWrong)

/-- 'laws.FnExactTableEntry': WHATEVER THE INPUT: true; the input reads as it did. -/
def fnExactTableEntrySpec : ChangeSpec := { name := "fnExactTableEntry", fn := fun _ => fun
  | [d1, d2, d3, d4] => { results := [.lit (.bool true)], args := [d1, d2, d3, d4] }
  | _ => none }
def fnExactTableEntryRow : OpenClaim := { program := "ytonohebdkeakdaa", sum := "4fc0cb1c0be8598a5cfbc1908aa3fdf7c84eab4291015318b7143e0bde0065d4", func := "loop.example/g00508/laws.FnExactTableEntry", spec := "fnExactTableEntry", recurses := true, loops := true, apart := false }
def FnExactTableEntrySaid : Prop := fnExactTableEntryRow.holds Try.pinned (OpenSpec.ofChange fnExactTableEntrySpec)

/-- ITS FALSE NEIGHBOUR: 'it returns false'. Refute it at one input. -/
def fnExactTableEntryWrong : ChangeSpec := { name := "fnExactTableEntry", fn := fun _ => fun
  | [d1, d2, d3, d4] => { results := [.lit (.bool false)], args := [d1, d2, d3, d4] }
  | _ => none }
def FnExactTableEntryWrongFalsely : Prop := fnExactTableEntryRow.holds Try.pinned (OpenSpec.ofChange fnExactTableEntryWrong)

/-- 'laws.FnExactEqualBuild': WHATEVER THE INPUT: true; the input reads as it did. -/
def fnExactEqualBuildSpec : ChangeSpec := { name := "fnExactEqualBuild", fn := fun _ => fun
  | [d1, d2] => { results := [.lit (.bool true)], args := [d1, d2] }
  | _ => none }
def fnExactEqualBuildRow : OpenClaim := { program := "ytonohebdkeakdaa", sum := "4fc0cb1c0be8598a5cfbc1908aa3fdf7c84eab4291015318b7143e0bde0065d4", func := "loop.example/g00508/laws.FnExactEqualBuild", spec := "fnExactEqualBuild", unfollowed := true, recurses := true, loops := true, apart := false }
def FnExactEqualBuildSaid : Prop := fnExactEqualBuildRow.holds Try.pinned (OpenSpec.ofChange fnExactEqualBuildSpec)

/-- ITS FALSE NEIGHBOUR: 'it returns false'. Refute it at one input. -/
def fnExactEqualBuildWrong : ChangeSpec := { name := "fnExactEqualBuild", fn := fun _ => fun
  | [d1, d2] => { results := [.lit (.bool false)], args := [d1, d2] }
  | _ => none }
def FnExactEqualBuildWrongFalsely : Prop := fnExactEqualBuildRow.holds Try.pinned (OpenSpec.ofChange fnExactEqualBuildWrong)

/-- 'laws.FnExactNewVM': WHATEVER THE INPUT: true; the input reads as it did. -/
def fnExactNewVMSpec : ChangeSpec := { name := "fnExactNewVM", fn := fun _ => fun
  | [d1, d2, d3] => { results := [.lit (.bool true)], args := [d1, d2, d3] }
  | _ => none }
def fnExactNewVMRow : OpenClaim := { program := "ytonohebdkeakdaa", sum := "4fc0cb1c0be8598a5cfbc1908aa3fdf7c84eab4291015318b7143e0bde0065d4", func := "loop.example/g00508/laws.FnExactNewVM", spec := "fnExactNewVM", recurses := true, loops := true, apart := false }
def FnExactNewVMSaid : Prop := fnExactNewVMRow.holds Try.pinned (OpenSpec.ofChange fnExactNewVMSpec)

/-- ITS FALSE NEIGHBOUR: 'it returns false'. Refute it at one input. -/
def fnExactNewVMWrong : ChangeSpec := { name := "fnExactNewVM", fn := fun _ => fun
  | [d1, d2, d3] => { results := [.lit (.bool false)], args := [d1, d2, d3] }
  | _ => none }
def FnExactNewVMWrongFalsely : Prop := fnExactNewVMRow.holds Try.pinned (OpenSpec.ofChange fnExactNewVMWrong)

/-- 'laws.FnExactCompileSpecialization': WHATEVER THE INPUT: true; the input reads as it did. -/
def fnExactCompileSpecializationSpec : ChangeSpec := { name := "fnExactCompileSpecialization", fn := fun _ => fun
  | [d1, d2] => { results := [.lit (.bool true)], args := [d1, d2] }
  | _ => none }
def fnExactCompileSpecializationRow : OpenClaim := { program := "ytonohebdkeakdaa", sum := "4fc0cb1c0be8598a5cfbc1908aa3fdf7c84eab4291015318b7143e0bde0065d4", func := "loop.example/g00508/laws.FnExactCompileSpecialization", spec := "fnExactCompileSpecialization", recurses := true, loops := true, apart := false }
def FnExactCompileSpecializationSaid : Prop := fnExactCompileSpecializationRow.holds Try.pinned (OpenSpec.ofChange fnExactCompileSpecializationSpec)

/-- ITS FALSE NEIGHBOUR: 'it returns false'. Refute it at one input. -/
def fnExactCompileSpecializationWrong : ChangeSpec := { name := "fnExactCompileSpecialization", fn := fun _ => fun
  | [d1, d2] => { results := [.lit (.bool false)], args := [d1, d2] }
  | _ => none }
def FnExactCompileSpecializationWrongFalsely : Prop := fnExactCompileSpecializationRow.holds Try.pinned (OpenSpec.ofChange fnExactCompileSpecializationWrong)

/- THE SECOND FORM. 'bulk': how many values and letters a reading holds, each counted each time it is reached (what is shared counts as often as it is met; a slice's spare places count too). A statement '..UptoSaid' is the law's where the arguments, and the package variables that the reading takes, are together of bulk at most 1048576: NARROWER than '..Said'. Prove '..Said' where nothing that the law and all that it calls make is longer than what came in: it says more and counts as full. Else prove '..UptoSaid'. A law counts once. -/
mutual
def uptoBulk {H : Type} : DataW H → Nat
  | .lit (.string bytes) => bytes.length + 1
  | .lit _ => 1
  | .nil => 1
  | .ptr d => uptoBulk d + 1
  | .slice elems spare => uptoBulkAll elems + uptoBulkAll spare + 1
  | .agg parts => uptoBulkAll parts + 1
  | .iface _ d => uptoBulk d + 1
  | .map entries => uptoBulkEntries entries + 1
  | .held _ => 1
def uptoBulkAll {H : Type} : List (DataW H) → Nat
  | [] => 0
  | d :: r => uptoBulk d + uptoBulkAll r
def uptoBulkEntries {H : Type} : List (Lit × DataW H) → Nat
  | [] => 0
  | x :: r => uptoBulkEntry x + uptoBulkEntries r
def uptoBulkEntry {H : Type} : Lit × DataW H → Nat
  | (.string bytes, d) => bytes.length + uptoBulk d + 1
  | (_, d) => uptoBulk d + 1
 end
def uptoSmall : (H : Type) → List (DataW H) → Bool := fun _ ds => decide (uptoBulkAll ds ≤ 1048576)
def OpenSpec.upto (s : _root_.Go.ChangeSpec) : _root_.Go.OpenSpec := { _root_.Go.OpenSpec.ofChange s with cond := some uptoSmall }

/-- 'laws.FnExactEqualCode', WHERE WHAT IT READS IS OF BULK AT MOST 1048576: true; the input reads as it did. -/
def fnExactEqualCodeUptoRow : OpenClaim := { program := "ytonohebdkeakdaa", sum := "4fc0cb1c0be8598a5cfbc1908aa3fdf7c84eab4291015318b7143e0bde0065d4", func := "loop.example/g00508/laws.FnExactEqualCode", spec := "fnExactEqualCode", apart := false, narrowed := true }
def FnExactEqualCodeUptoSaid : Prop := fnExactEqualCodeUptoRow.holds Try.pinned (OpenSpec.upto fnExactEqualCodeSpec)

/-- 'laws.FnExactEqualVM', WHERE WHAT IT READS IS OF BULK AT MOST 1048576: true; the input reads as it did. -/
def fnExactEqualVMUptoRow : OpenClaim := { program := "ytonohebdkeakdaa", sum := "4fc0cb1c0be8598a5cfbc1908aa3fdf7c84eab4291015318b7143e0bde0065d4", func := "loop.example/g00508/laws.FnExactEqualVM", spec := "fnExactEqualVM", unfollowed := true, recurses := true, loops := true, apart := false, narrowed := true }
def FnExactEqualVMUptoSaid : Prop := fnExactEqualVMUptoRow.holds Try.pinned (OpenSpec.upto fnExactEqualVMSpec)

/-- 'laws.FnExactTableEntry', WHERE WHAT IT READS IS OF BULK AT MOST 1048576: true; the input reads as it did. -/
def fnExactTableEntryUptoRow : OpenClaim := { program := "ytonohebdkeakdaa", sum := "4fc0cb1c0be8598a5cfbc1908aa3fdf7c84eab4291015318b7143e0bde0065d4", func := "loop.example/g00508/laws.FnExactTableEntry", spec := "fnExactTableEntry", recurses := true, loops := true, apart := false, narrowed := true }
def FnExactTableEntryUptoSaid : Prop := fnExactTableEntryUptoRow.holds Try.pinned (OpenSpec.upto fnExactTableEntrySpec)

/-- 'laws.FnExactEqualBuild', WHERE WHAT IT READS IS OF BULK AT MOST 1048576: true; the input reads as it did. -/
def fnExactEqualBuildUptoRow : OpenClaim := { program := "ytonohebdkeakdaa", sum := "4fc0cb1c0be8598a5cfbc1908aa3fdf7c84eab4291015318b7143e0bde0065d4", func := "loop.example/g00508/laws.FnExactEqualBuild", spec := "fnExactEqualBuild", unfollowed := true, recurses := true, loops := true, apart := false, narrowed := true }
def FnExactEqualBuildUptoSaid : Prop := fnExactEqualBuildUptoRow.holds Try.pinned (OpenSpec.upto fnExactEqualBuildSpec)

/-- 'laws.FnExactNewVM', WHERE WHAT IT READS IS OF BULK AT MOST 1048576: true; the input reads as it did. -/
def fnExactNewVMUptoRow : OpenClaim := { program := "ytonohebdkeakdaa", sum := "4fc0cb1c0be8598a5cfbc1908aa3fdf7c84eab4291015318b7143e0bde0065d4", func := "loop.example/g00508/laws.FnExactNewVM", spec := "fnExactNewVM", recurses := true, loops := true, apart := false, narrowed := true }
def FnExactNewVMUptoSaid : Prop := fnExactNewVMUptoRow.holds Try.pinned (OpenSpec.upto fnExactNewVMSpec)

/-- 'laws.FnExactCompileSpecialization', WHERE WHAT IT READS IS OF BULK AT MOST 1048576: true; the input reads as it did. -/
def fnExactCompileSpecializationUptoRow : OpenClaim := { program := "ytonohebdkeakdaa", sum := "4fc0cb1c0be8598a5cfbc1908aa3fdf7c84eab4291015318b7143e0bde0065d4", func := "loop.example/g00508/laws.FnExactCompileSpecialization", spec := "fnExactCompileSpecialization", recurses := true, loops := true, apart := false, narrowed := true }
def FnExactCompileSpecializationUptoSaid : Prop := fnExactCompileSpecializationUptoRow.holds Try.pinned (OpenSpec.upto fnExactCompileSpecializationSpec)

end Rows
end Go.Proofs.Ytonohebdkeakdaa
