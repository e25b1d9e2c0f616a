/-
  NARROWER THAN 'FOR EVERY INPUT', by the rows' own cells (each row's printed sentence says how): FnExactCompileProgram: loops · FnExactFormatConstraints: loops · FnExactAllUnits: loops.
  DERIVED. THE GIVEN ROWS OF THIS SEAT. 3 by the template 'for every input the law returns true; each argument reads behind the call as it read before'; 0 by the template 'total and deterministic' (their statements: YtkmiecgcibjkbaaGreatTotals.lean).
  GIVEN WITH THE SEED: the statements are not yours to turn. If you find one false, say at which input.
  Laid BY PROGRAM, IN A SANDBOX (cutbox-rows.mjs): the forced cells as the released guide's own fill.sh prints them over the translation 65475a2657f75b19… (all of the seat's roots in one cut). By AI agents, Wed Nov 11 2026. No macro, syntax, notation, axiom, sorry.
-/
import Derived.Test.YtkmiecgcibjkbaaGreatChecked
import GoSem.Claim
import GoSem.ClaimJoined
import GoSem.ClaimMapViews
import Derived.JoinedTies
import Derived.KernelRfl
namespace Go.Proofs.YtkmiecgcibjkbaaGreat
/- THE CELL 'sum', in the pinned program and in every row, IS THE sha256 OF THE DUMP (.gsa) THAT YtkmiecgcibjkbaaGreatProg.lean LOADS. Nothing in Lean hashes anything: it is a label: what it is worth is what the hold of that sum in a sandbox is worth. -/
noncomputable def Tryz.pinned : Pinned := { name := "ytkmiecgcibjkbaagreat", sum := "65475a2657f75b198ff71a77bb24d154aaec2bf6cab77f924134edc00b280de2", checked := Tryz.checked }
namespace Rows
def none {H : Type} : Left H := { results := [], args := [] }

/-- 'laws.FnExactCompileProgram': WHATEVER THE INPUT: true; the input reads as it did. -/
def fnExactCompileProgramSpec : ChangeSpec := { name := "fnExactCompileProgram", fn := fun _ => fun
  | [d] => { results := [.lit (.bool true)], args := [d] }
  | _ => none }
def fnExactCompileProgramRow : OpenClaim := { program := "ytkmiecgcibjkbaagreat", sum := "65475a2657f75b198ff71a77bb24d154aaec2bf6cab77f924134edc00b280de2", func := "loop.example/g00508/laws.FnExactCompileProgram", spec := "fnExactCompileProgram", recurses := true, loops := true, apart := false }
def FnExactCompileProgramSaid : Prop := fnExactCompileProgramRow.holds Tryz.pinned (OpenSpec.ofChange fnExactCompileProgramSpec)

/-- ITS FALSE NEIGHBOUR: 'it returns false'. Refute it at one input. -/
def fnExactCompileProgramWrong : ChangeSpec := { name := "fnExactCompileProgram", fn := fun _ => fun
  | [d] => { results := [.lit (.bool false)], args := [d] }
  | _ => none }
def FnExactCompileProgramWrongFalsely : Prop := fnExactCompileProgramRow.holds Tryz.pinned (OpenSpec.ofChange fnExactCompileProgramWrong)

/-- 'laws.FnExactFormatConstraints': WHATEVER THE INPUT: true; the input reads as it did. -/
def fnExactFormatConstraintsSpec : ChangeSpec := { name := "fnExactFormatConstraints", fn := fun _ => fun
  | [d] => { results := [.lit (.bool true)], args := [d] }
  | _ => none }
def fnExactFormatConstraintsRow : OpenClaim := { program := "ytkmiecgcibjkbaagreat", sum := "65475a2657f75b198ff71a77bb24d154aaec2bf6cab77f924134edc00b280de2", func := "loop.example/g00508/laws.FnExactFormatConstraints", spec := "fnExactFormatConstraints", inPlace := ["internal/bytealg.IndexByteString", "internal/abi.NoEscape"], unfollowed := true, recurses := true, loops := true, apart := false }
def FnExactFormatConstraintsSaid : Prop := fnExactFormatConstraintsRow.holds Tryz.pinned (OpenSpec.ofChange fnExactFormatConstraintsSpec)

/-- ITS FALSE NEIGHBOUR: 'it returns false'. Refute it at one input. -/
def fnExactFormatConstraintsWrong : ChangeSpec := { name := "fnExactFormatConstraints", fn := fun _ => fun
  | [d] => { results := [.lit (.bool false)], args := [d] }
  | _ => none }
def FnExactFormatConstraintsWrongFalsely : Prop := fnExactFormatConstraintsRow.holds Tryz.pinned (OpenSpec.ofChange fnExactFormatConstraintsWrong)

/-- 'laws.FnExactAllUnits': WHATEVER THE INPUT: true; the input reads as it did. -/
def fnExactAllUnitsSpec : ChangeSpec := { name := "fnExactAllUnits", fn := fun _ => fun
  | [d] => { results := [.lit (.bool true)], args := [d] }
  | _ => none }
def fnExactAllUnitsRow : OpenClaim := { program := "ytkmiecgcibjkbaagreat", sum := "65475a2657f75b198ff71a77bb24d154aaec2bf6cab77f924134edc00b280de2", func := "loop.example/g00508/laws.FnExactAllUnits", spec := "fnExactAllUnits", unfollowed := true, recurses := true, loops := true, apart := false }
def FnExactAllUnitsSaid : Prop := fnExactAllUnitsRow.holds Tryz.pinned (OpenSpec.ofChange fnExactAllUnitsSpec)

/-- ITS FALSE NEIGHBOUR: 'it returns false'. Refute it at one input. -/
def fnExactAllUnitsWrong : ChangeSpec := { name := "fnExactAllUnits", fn := fun _ => fun
  | [d] => { results := [.lit (.bool false)], args := [d] }
  | _ => none }
def FnExactAllUnitsWrongFalsely : Prop := fnExactAllUnitsRow.holds Tryz.pinned (OpenSpec.ofChange fnExactAllUnitsWrong)

/- THE SECOND FORM. 'bulk': how many values and letters a reading holds, each counted each time it is reached (what is shared counts as often as it is met; a slice's spare places count too). A statement '..UptoSaid' is the law's where the arguments, and the package variables that the reading takes, are together of bulk at most 1048576: NARROWER than '..Said'. Prove '..Said' where nothing that the law and all that it calls make is longer than what came in: it says more and counts as full. Else prove '..UptoSaid'. A law counts once. -/
mutual
def uptoBulk {H : Type} : DataW H → Nat
  | .lit (.string bytes) => bytes.length + 1
  | .lit _ => 1
  | .nil => 1
  | .ptr d => uptoBulk d + 1
  | .slice elems spare => uptoBulkAll elems + uptoBulkAll spare + 1
  | .agg parts => uptoBulkAll parts + 1
  | .iface _ d => uptoBulk d + 1
  | .map entries => uptoBulkEntries entries + 1
  | .held _ => 1
def uptoBulkAll {H : Type} : List (DataW H) → Nat
  | [] => 0
  | d :: r => uptoBulk d + uptoBulkAll r
def uptoBulkEntries {H : Type} : List (Lit × DataW H) → Nat
  | [] => 0
  | x :: r => uptoBulkEntry x + uptoBulkEntries r
def uptoBulkEntry {H : Type} : Lit × DataW H → Nat
  | (.string bytes, d) => bytes.length + uptoBulk d + 1
  | (_, d) => uptoBulk d + 1
 end
def uptoSmall : (H : Type) → List (DataW H) → Bool := fun _ ds => decide (uptoBulkAll ds ≤ 1048576)
def OpenSpec.upto (s : _root_.Go.ChangeSpec) : _root_.Go.OpenSpec := { _root_.Go.OpenSpec.ofChange s with cond := some uptoSmall }

/-- 'laws.FnExactCompileProgram', WHERE WHAT IT READS IS OF BULK AT MOST 1048576: true; the input reads as it did. -/
def fnExactCompileProgramUptoRow : OpenClaim := { program := "ytkmiecgcibjkbaagreat", sum := "65475a2657f75b198ff71a77bb24d154aaec2bf6cab77f924134edc00b280de2", func := "loop.example/g00508/laws.FnExactCompileProgram", spec := "fnExactCompileProgram", recurses := true, loops := true, apart := false, narrowed := true }
def FnExactCompileProgramUptoSaid : Prop := fnExactCompileProgramUptoRow.holds Tryz.pinned (OpenSpec.upto fnExactCompileProgramSpec)

/-- 'laws.FnExactFormatConstraints', WHERE WHAT IT READS IS OF BULK AT MOST 1048576: true; the input reads as it did. -/
def fnExactFormatConstraintsUptoRow : OpenClaim := { program := "ytkmiecgcibjkbaagreat", sum := "65475a2657f75b198ff71a77bb24d154aaec2bf6cab77f924134edc00b280de2", func := "loop.example/g00508/laws.FnExactFormatConstraints", spec := "fnExactFormatConstraints", inPlace := ["internal/bytealg.IndexByteString", "internal/abi.NoEscape"], unfollowed := true, recurses := true, loops := true, apart := false, narrowed := true }
def FnExactFormatConstraintsUptoSaid : Prop := fnExactFormatConstraintsUptoRow.holds Tryz.pinned (OpenSpec.upto fnExactFormatConstraintsSpec)

/-- 'laws.FnExactAllUnits', WHERE WHAT IT READS IS OF BULK AT MOST 1048576: true; the input reads as it did. -/
def fnExactAllUnitsUptoRow : OpenClaim := { program := "ytkmiecgcibjkbaagreat", sum := "65475a2657f75b198ff71a77bb24d154aaec2bf6cab77f924134edc00b280de2", func := "loop.example/g00508/laws.FnExactAllUnits", spec := "fnExactAllUnits", unfollowed := true, recurses := true, loops := true, apart := false, narrowed := true }
def FnExactAllUnitsUptoSaid : Prop := fnExactAllUnitsUptoRow.holds Tryz.pinned (OpenSpec.upto fnExactAllUnitsSpec)

end Rows
end Go.Proofs.YtkmiecgcibjkbaaGreat
