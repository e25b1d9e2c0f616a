/-
  NARROWER THAN 'FOR EVERY INPUT', by the rows' own cells (each row's printed sentence says how): FnExactFormErrors: loops · FnExactIsValidProgram: loops.
  DERIVED. THE GIVEN ROWS OF THIS SEAT. 2 by the template 'for every input the law returns true; each argument reads behind the call as it read before'; 0 by the template 'total and deterministic' (their statements: YtdooklofebdknaaGreatTotals.lean).
  GIVEN WITH THE SEED: the statements are not yours to turn. If you find one false, say at which input.
  Laid BY PROGRAM, IN A SANDBOX (cutbox-rows.mjs): the forced cells as the released guide's own fill.sh prints them over the translation f8d294d89056868f… (all of the seat's roots in one cut). By AI agents, Wed Nov 11 2026. No macro, syntax, notation, axiom, sorry.
-/
import Derived.Test.YtdooklofebdknaaGreatChecked
import GoSem.Claim
import GoSem.ClaimJoined
import GoSem.ClaimMapViews
import Derived.JoinedTies
import Derived.KernelRfl
namespace Go.Proofs.YtdooklofebdknaaGreat
/- THE CELL 'sum', in the pinned program and in every row, IS THE sha256 OF THE DUMP (.gsa) THAT YtdooklofebdknaaGreatProg.lean LOADS. Nothing in Lean hashes anything: it is a label: what it is worth is what the hold of that sum in a sandbox is worth. -/
noncomputable def Tryz.pinned : Pinned := { name := "ytdooklofebdknaagreat", sum := "f8d294d89056868fb23208d3307e37c35fc3f057bdc23aa2b2020903d92bb92d", checked := Tryz.checked }
namespace Rows
def none {H : Type} : Left H := { results := [], args := [] }

/-- 'laws.FnExactFormErrors': WHATEVER THE INPUT: true; the input reads as it did. -/
def fnExactFormErrorsSpec : ChangeSpec := { name := "fnExactFormErrors", fn := fun _ => fun
  | [d] => { results := [.lit (.bool true)], args := [d] }
  | _ => none }
def fnExactFormErrorsRow : OpenClaim := { program := "ytdooklofebdknaagreat", sum := "f8d294d89056868fb23208d3307e37c35fc3f057bdc23aa2b2020903d92bb92d", func := "loop.example/g00508/laws.FnExactFormErrors", spec := "fnExactFormErrors", inPlace := ["internal/bytealg.IndexByteString", "internal/bytealg.IndexString"], unfollowed := true, recurses := true, named := ["internal/bytealg.MaxLen"], loops := true, apart := false }
def FnExactFormErrorsSaid : Prop := fnExactFormErrorsRow.holds Tryz.pinned (OpenSpec.ofChange fnExactFormErrorsSpec)

/-- ITS FALSE NEIGHBOUR: 'it returns false'. Refute it at one input. -/
def fnExactFormErrorsWrong : ChangeSpec := { name := "fnExactFormErrors", fn := fun _ => fun
  | [d] => { results := [.lit (.bool false)], args := [d] }
  | _ => none }
def FnExactFormErrorsWrongFalsely : Prop := fnExactFormErrorsRow.holds Tryz.pinned (OpenSpec.ofChange fnExactFormErrorsWrong)

/-- 'laws.FnExactIsValidProgram': WHATEVER THE INPUT: true; the input reads as it did. -/
def fnExactIsValidProgramSpec : ChangeSpec := { name := "fnExactIsValidProgram", fn := fun _ => fun
  | [d] => { results := [.lit (.bool true)], args := [d] }
  | _ => none }
def fnExactIsValidProgramRow : OpenClaim := { program := "ytdooklofebdknaagreat", sum := "f8d294d89056868fb23208d3307e37c35fc3f057bdc23aa2b2020903d92bb92d", func := "loop.example/g00508/laws.FnExactIsValidProgram", spec := "fnExactIsValidProgram", inPlace := ["internal/bytealg.IndexByteString", "internal/bytealg.IndexString"], unfollowed := true, recurses := true, named := ["internal/bytealg.MaxLen"], loops := true, apart := false }
def FnExactIsValidProgramSaid : Prop := fnExactIsValidProgramRow.holds Tryz.pinned (OpenSpec.ofChange fnExactIsValidProgramSpec)

/-- ITS FALSE NEIGHBOUR: 'it returns false'. Refute it at one input. -/
def fnExactIsValidProgramWrong : ChangeSpec := { name := "fnExactIsValidProgram", fn := fun _ => fun
  | [d] => { results := [.lit (.bool false)], args := [d] }
  | _ => none }
def FnExactIsValidProgramWrongFalsely : Prop := fnExactIsValidProgramRow.holds Tryz.pinned (OpenSpec.ofChange fnExactIsValidProgramWrong)

/- THE SECOND FORM. 'bulk': how many values and letters a reading holds, each counted each time it is reached (what is shared counts as often as it is met; a slice's spare places count too). A statement '..UptoSaid' is the law's where the arguments, and the package variables that the reading takes, are together of bulk at most 1048576: NARROWER than '..Said'. Prove '..Said' where nothing that the law and all that it calls make is longer than what came in: it says more and counts as full. Else prove '..UptoSaid'. A law counts once. -/
mutual
def uptoBulk {H : Type} : DataW H → Nat
  | .lit (.string bytes) => bytes.length + 1
  | .lit _ => 1
  | .nil => 1
  | .ptr d => uptoBulk d + 1
  | .slice elems spare => uptoBulkAll elems + uptoBulkAll spare + 1
  | .agg parts => uptoBulkAll parts + 1
  | .iface _ d => uptoBulk d + 1
  | .map entries => uptoBulkEntries entries + 1
  | .held _ => 1
def uptoBulkAll {H : Type} : List (DataW H) → Nat
  | [] => 0
  | d :: r => uptoBulk d + uptoBulkAll r
def uptoBulkEntries {H : Type} : List (Lit × DataW H) → Nat
  | [] => 0
  | x :: r => uptoBulkEntry x + uptoBulkEntries r
def uptoBulkEntry {H : Type} : Lit × DataW H → Nat
  | (.string bytes, d) => bytes.length + uptoBulk d + 1
  | (_, d) => uptoBulk d + 1
 end
def uptoSmall : (H : Type) → List (DataW H) → Bool := fun _ ds => decide (uptoBulkAll ds ≤ 1048576)
def OpenSpec.upto (s : _root_.Go.ChangeSpec) : _root_.Go.OpenSpec := { _root_.Go.OpenSpec.ofChange s with cond := some uptoSmall }

/-- 'laws.FnExactFormErrors', WHERE WHAT IT READS IS OF BULK AT MOST 1048576: true; the input reads as it did. -/
def fnExactFormErrorsUptoRow : OpenClaim := { program := "ytdooklofebdknaagreat", sum := "f8d294d89056868fb23208d3307e37c35fc3f057bdc23aa2b2020903d92bb92d", func := "loop.example/g00508/laws.FnExactFormErrors", spec := "fnExactFormErrors", inPlace := ["internal/bytealg.IndexByteString", "internal/bytealg.IndexString"], unfollowed := true, recurses := true, named := ["internal/bytealg.MaxLen"], loops := true, apart := false, narrowed := true }
def FnExactFormErrorsUptoSaid : Prop := fnExactFormErrorsUptoRow.holds Tryz.pinned (OpenSpec.upto fnExactFormErrorsSpec)

/-- 'laws.FnExactIsValidProgram', WHERE WHAT IT READS IS OF BULK AT MOST 1048576: true; the input reads as it did. -/
def fnExactIsValidProgramUptoRow : OpenClaim := { program := "ytdooklofebdknaagreat", sum := "f8d294d89056868fb23208d3307e37c35fc3f057bdc23aa2b2020903d92bb92d", func := "loop.example/g00508/laws.FnExactIsValidProgram", spec := "fnExactIsValidProgram", inPlace := ["internal/bytealg.IndexByteString", "internal/bytealg.IndexString"], unfollowed := true, recurses := true, named := ["internal/bytealg.MaxLen"], loops := true, apart := false, narrowed := true }
def FnExactIsValidProgramUptoSaid : Prop := fnExactIsValidProgramUptoRow.holds Tryz.pinned (OpenSpec.upto fnExactIsValidProgramSpec)

end Rows
end Go.Proofs.YtdooklofebdknaaGreat
