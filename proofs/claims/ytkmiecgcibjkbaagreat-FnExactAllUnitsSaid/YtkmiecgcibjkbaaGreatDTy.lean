/- The table of this program's types, and the trees of its values. No condition. -/
import Derived.Test.YtkmiecgcibjkbaaGreatDen23
import Derived.Test.YtkmiecgcibjkbaaGreatTypes
import Derived.KernelRfl
namespace Go.Proofs.YtkmiecgcibjkbaaGreat
open Go.RowKit
abbrev sh88 : Sh := .st [.one, .one, .one]
abbrev sh207 : Sh := .st [.one, sh88]
abbrev sh110 : Sh := .st [.one, sh88]
abbrev sh223 : Sh := .st [.one, sh88]
abbrev sh238 : Sh := .st [.one, .one]
abbrev sh240 : Sh := .st [.one, .one, sh238, .one]
abbrev sh136 : Sh := .st [.one, .one, .one, .one, sh88, .one, .one, .one, .one]
abbrev sh242 : Sh := .st [.one, .one, sh136]
abbrev sh138 : Sh := .st [.one, .one, .one, .one, .one, .one, .one, sh88, sh136]
abbrev sh284 : Sh := .st [.one, .one, .one, .one, .one, .one]
abbrev sh127 : Sh := .st [.one, .one, .one, .one]
abbrev sh69 : Sh := .st [.one]
def ti3 : TI := ⟨.one, .lf (.int .i64 0), [.int .i64 0], 8, .int .i64⟩
theorem tk3 : TyOk Tryz.prog 3 ti3 := TyOk.of (by kernel_rfl) rfl (by kernel_rfl) rfl (by intro fl h; cases h <;> rfl)
def ti4 : TI := ⟨.one, .lf (.bool false), [.bool false], 1, .bool⟩
theorem tk4 : TyOk Tryz.prog 4 ti4 := TyOk.of (by kernel_rfl) rfl (by kernel_rfl) rfl (by intro fl h; cases h <;> rfl)
def ti9 : TI := ⟨.one, .lf (.string ⟨#[]⟩), [.string ⟨#[]⟩], 16, .str⟩
theorem tk9 : TyOk Tryz.prog 9 ti9 := TyOk.of (by kernel_rfl) rfl (by kernel_rfl) rfl (by intro fl h; cases h <;> rfl)
def ti48 : TI := ⟨.one, .sl true .one [], [.slice none 0 0], 24, .sl 9 .one⟩
theorem tk48 : TyOk Tryz.prog 48 ti48 := TyOk.of (by kernel_rfl) rfl (by kernel_rfl) rfl (by intro fl h; cases h <;> rfl)
def ti86 : TI := ⟨.one, .sl true sh88 [], [.slice none 0 0], 24, .sl 88 sh88⟩
theorem tk86 : TyOk Tryz.prog 86 ti86 := TyOk.of (by kernel_rfl) rfl (by kernel_rfl) rfl (by intro fl h; cases h <;> rfl)
def ti88 : TI := ⟨sh88, .st [.lf (.int .i64 0), .lf (.string ⟨#[]⟩), .sl true sh88 []], [.int .i64 0, .string ⟨#[]⟩, .slice none 0 0], 48, .st [(3, .one), (9, .one), (86, .one)]⟩
theorem tk88 : TyOk Tryz.prog 88 ti88 := TyOk.of (by kernel_rfl) rfl (by kernel_rfl) rfl (by intro fl h; cases h <;> rfl)
def ti207 : TI := ⟨sh207, .st [.lf (.string ⟨#[]⟩), .st [.lf (.int .i64 0), .lf (.string ⟨#[]⟩), .sl true sh88 []]], [.string ⟨#[]⟩, .int .i64 0, .string ⟨#[]⟩, .slice none 0 0], 64, .st [(9, .one), (88, sh88)]⟩
theorem tk207 : TyOk Tryz.prog 207 ti207 := TyOk.of (by kernel_rfl) rfl (by kernel_rfl) rfl (by intro fl h; cases h <;> rfl)
def ti50 : TI := ⟨.one, .sl true sh207 [], [.slice none 0 0], 24, .sl 207 sh207⟩
theorem tk50 : TyOk Tryz.prog 50 ti50 := TyOk.of (by kernel_rfl) rfl (by kernel_rfl) rfl (by intro fl h; cases h <;> rfl)
def ti110 : TI := ⟨sh110, .st [.lf (.string ⟨#[]⟩), .st [.lf (.int .i64 0), .lf (.string ⟨#[]⟩), .sl true sh88 []]], [.string ⟨#[]⟩, .int .i64 0, .string ⟨#[]⟩, .slice none 0 0], 64, .st [(9, .one), (88, sh88)]⟩
theorem tk110 : TyOk Tryz.prog 110 ti110 := TyOk.of (by kernel_rfl) rfl (by kernel_rfl) rfl (by intro fl h; cases h <;> rfl)
def ti130 : TI := ⟨.one, .sl true sh110 [], [.slice none 0 0], 24, .sl 110 sh110⟩
theorem tk130 : TyOk Tryz.prog 130 ti130 := TyOk.of (by kernel_rfl) rfl (by kernel_rfl) rfl (by intro fl h; cases h <;> rfl)
def ti223 : TI := ⟨sh223, .st [.lf (.string ⟨#[]⟩), .st [.lf (.int .i64 0), .lf (.string ⟨#[]⟩), .sl true sh88 []]], [.string ⟨#[]⟩, .int .i64 0, .string ⟨#[]⟩, .slice none 0 0], 64, .st [(9, .one), (88, sh88)]⟩
theorem tk223 : TyOk Tryz.prog 223 ti223 := TyOk.of (by kernel_rfl) rfl (by kernel_rfl) rfl (by intro fl h; cases h <;> rfl)
def ti131 : TI := ⟨.one, .sl true sh223 [], [.slice none 0 0], 24, .sl 223 sh223⟩
theorem tk131 : TyOk Tryz.prog 131 ti131 := TyOk.of (by kernel_rfl) rfl (by kernel_rfl) rfl (by intro fl h; cases h <;> rfl)
def ti238 : TI := ⟨sh238, .st [.lf (.int .i64 0), .lf (.int .i64 0)], [.int .i64 0, .int .i64 0], 16, .st [(3, .one), (3, .one)]⟩
theorem tk238 : TyOk Tryz.prog 238 ti238 := TyOk.of (by kernel_rfl) rfl (by kernel_rfl) rfl (by intro fl h; cases h <;> rfl)
def ti240 : TI := ⟨sh240, .st [.lf (.int .i64 0), .lf (.int .i64 0), .st [.lf (.int .i64 0), .lf (.int .i64 0)], .sl true sh240 []], [.int .i64 0, .int .i64 0, .int .i64 0, .int .i64 0, .slice none 0 0], 56, .st [(3, .one), (3, .one), (238, sh238), (132, .one)]⟩
theorem tk240 : TyOk Tryz.prog 240 ti240 := TyOk.of (by kernel_rfl) rfl (by kernel_rfl) rfl (by intro fl h; cases h <;> rfl)
def ti132 : TI := ⟨.one, .sl true sh240 [], [.slice none 0 0], 24, .sl 240 sh240⟩
theorem tk132 : TyOk Tryz.prog 132 ti132 := TyOk.of (by kernel_rfl) rfl (by kernel_rfl) rfl (by intro fl h; cases h <;> rfl)
def ti133 : TI := ⟨.one, .sl true sh136 [], [.slice none 0 0], 24, .sl 136 sh136⟩
theorem tk133 : TyOk Tryz.prog 133 ti133 := TyOk.of (by kernel_rfl) rfl (by kernel_rfl) rfl (by intro fl h; cases h <;> rfl)
def ti242 : TI := ⟨sh242, .st [.lf (.string ⟨#[]⟩), .sl true .one [], .st [.lf (.int .i64 0), .lf (.string ⟨#[]⟩), .lf (.string ⟨#[]⟩), .lf (.int .i64 0), .st [.lf (.int .i64 0), .lf (.string ⟨#[]⟩), .sl true sh88 []], .sl true sh88 [], .sl true sh240 [], .sl true sh136 [], .sl true sh242 []]], [.string ⟨#[]⟩, .slice none 0 0, .int .i64 0, .string ⟨#[]⟩, .string ⟨#[]⟩, .int .i64 0, .int .i64 0, .string ⟨#[]⟩, .slice none 0 0, .slice none 0 0, .slice none 0 0, .slice none 0 0, .slice none 0 0], 232, .st [(9, .one), (48, .one), (136, sh136)]⟩
theorem tk242 : TyOk Tryz.prog 242 ti242 := TyOk.of (by kernel_rfl) rfl (by kernel_rfl) rfl (by intro fl h; cases h <;> rfl)
def ti134 : TI := ⟨.one, .sl true sh242 [], [.slice none 0 0], 24, .sl 242 sh242⟩
theorem tk134 : TyOk Tryz.prog 134 ti134 := TyOk.of (by kernel_rfl) rfl (by kernel_rfl) rfl (by intro fl h; cases h <;> rfl)
def ti136 : TI := ⟨sh136, .st [.lf (.int .i64 0), .lf (.string ⟨#[]⟩), .lf (.string ⟨#[]⟩), .lf (.int .i64 0), .st [.lf (.int .i64 0), .lf (.string ⟨#[]⟩), .sl true sh88 []], .sl true sh88 [], .sl true sh240 [], .sl true sh136 [], .sl true sh242 []], [.int .i64 0, .string ⟨#[]⟩, .string ⟨#[]⟩, .int .i64 0, .int .i64 0, .string ⟨#[]⟩, .slice none 0 0, .slice none 0 0, .slice none 0 0, .slice none 0 0, .slice none 0 0], 192, .st [(3, .one), (9, .one), (9, .one), (3, .one), (88, sh88), (86, .one), (132, .one), (133, .one), (134, .one)]⟩
theorem tk136 : TyOk Tryz.prog 136 ti136 := TyOk.of (by kernel_rfl) rfl (by kernel_rfl) rfl (by intro fl h; cases h <;> rfl)
def ti138 : TI := ⟨sh138, .st [.lf (.int .i64 0), .lf (.int .i64 0), .lf (.int .i64 0), .lf (.int .i64 0), .sl true .one [], .sl true sh110 [], .sl true sh223 [], .st [.lf (.int .i64 0), .lf (.string ⟨#[]⟩), .sl true sh88 []], .st [.lf (.int .i64 0), .lf (.string ⟨#[]⟩), .lf (.string ⟨#[]⟩), .lf (.int .i64 0), .st [.lf (.int .i64 0), .lf (.string ⟨#[]⟩), .sl true sh88 []], .sl true sh88 [], .sl true sh240 [], .sl true sh136 [], .sl true sh242 []]], [.int .i64 0, .int .i64 0, .int .i64 0, .int .i64 0, .slice none 0 0, .slice none 0 0, .slice none 0 0, .int .i64 0, .string ⟨#[]⟩, .slice none 0 0, .int .i64 0, .string ⟨#[]⟩, .string ⟨#[]⟩, .int .i64 0, .int .i64 0, .string ⟨#[]⟩, .slice none 0 0, .slice none 0 0, .slice none 0 0, .slice none 0 0, .slice none 0 0], 344, .st [(3, .one), (3, .one), (3, .one), (3, .one), (48, .one), (130, .one), (131, .one), (88, sh88), (136, sh136)]⟩
theorem tk138 : TyOk Tryz.prog 138 ti138 := TyOk.of (by kernel_rfl) rfl (by kernel_rfl) rfl (by intro fl h; cases h <;> rfl)
def ti65 : TI := ⟨.one, .sl true sh138 [], [.slice none 0 0], 24, .sl 138 sh138⟩
theorem tk65 : TyOk Tryz.prog 65 ti65 := TyOk.of (by kernel_rfl) rfl (by kernel_rfl) rfl (by intro fl h; cases h <;> rfl)
def ti284 : TI := ⟨sh284, .st [.lf (.int .i64 0), .lf (.int .i64 0), .lf (.int .i64 0), .lf (.int .i64 0), .lf (.int .i64 0), .lf (.int .i64 0)], [.int .i64 0, .int .i64 0, .int .i64 0, .int .i64 0, .int .i64 0, .int .i64 0], 48, .st [(3, .one), (3, .one), (3, .one), (3, .one), (3, .one), (3, .one)]⟩
theorem tk284 : TyOk Tryz.prog 284 ti284 := TyOk.of (by kernel_rfl) rfl (by kernel_rfl) rfl (by intro fl h; cases h <;> rfl)
def ti125 : TI := ⟨.one, .sl true sh284 [], [.slice none 0 0], 24, .sl 284 sh284⟩
theorem tk125 : TyOk Tryz.prog 125 ti125 := TyOk.of (by kernel_rfl) rfl (by kernel_rfl) rfl (by intro fl h; cases h <;> rfl)
def ti127 : TI := ⟨sh127, .st [.lf (.string ⟨#[]⟩), .lf (.string ⟨#[]⟩), .sl true sh138 [], .sl true sh284 []], [.string ⟨#[]⟩, .string ⟨#[]⟩, .slice none 0 0, .slice none 0 0], 80, .st [(9, .one), (9, .one), (65, .one), (125, .one)]⟩
theorem tk127 : TyOk Tryz.prog 127 ti127 := TyOk.of (by kernel_rfl) rfl (by kernel_rfl) rfl (by intro fl h; cases h <;> rfl)
def ti67 : TI := ⟨.one, .sl true sh127 [], [.slice none 0 0], 24, .sl 127 sh127⟩
theorem tk67 : TyOk Tryz.prog 67 ti67 := TyOk.of (by kernel_rfl) rfl (by kernel_rfl) rfl (by intro fl h; cases h <;> rfl)
def ti69 : TI := ⟨sh69, .st [.sl true sh127 []], [.slice none 0 0], 24, .st [(67, .one)]⟩
theorem tk69 : TyOk Tryz.prog 69 ti69 := TyOk.of (by kernel_rfl) rfl (by kernel_rfl) rfl (by intro fl h; cases h <;> rfl)
def tyF : Nat → Option TI
  | 3 => some ti3
  | 4 => some ti4
  | 9 => some ti9
  | 48 => some ti48
  | 86 => some ti86
  | 88 => some ti88
  | 207 => some ti207
  | 50 => some ti50
  | 110 => some ti110
  | 130 => some ti130
  | 223 => some ti223
  | 131 => some ti131
  | 238 => some ti238
  | 240 => some ti240
  | 132 => some ti132
  | 133 => some ti133
  | 242 => some ti242
  | 134 => some ti134
  | 136 => some ti136
  | 138 => some ti138
  | 65 => some ti65
  | 284 => some ti284
  | 125 => some ti125
  | 127 => some ti127
  | 67 => some ti67
  | 69 => some ti69
  | _ => none
theorem tyF_ok : ∀ T ti, tyF T = some ti → TyOk Tryz.prog T ti := by
  intro T ti h
  unfold tyF at h
  split at h <;> first | (cases h; done) | (cases h; first | exact tk3 | exact tk4 | exact tk9 | exact tk48 | exact tk86 | exact tk88 | exact tk207 | exact tk50 | exact tk110 | exact tk130 | exact tk223 | exact tk131 | exact tk238 | exact tk240 | exact tk132 | exact tk133 | exact tk242 | exact tk134 | exact tk136 | exact tk138 | exact tk65 | exact tk284 | exact tk125 | exact tk127 | exact tk67 | exact tk69)
noncomputable def cx : Cx := ⟨Tryz.prog, tyF, tyF_ok⟩
theorem cxP : cx.P = Tryz.prog := rfl
theorem ty3 : cx.ty 3 = some ⟨.one, .lf (.int .i64 0), [.int .i64 0], 8, .int .i64⟩ := rfl
theorem ty4 : cx.ty 4 = some ⟨.one, .lf (.bool false), [.bool false], 1, .bool⟩ := rfl
theorem ty9 : cx.ty 9 = some ⟨.one, .lf (.string ⟨#[]⟩), [.string ⟨#[]⟩], 16, .str⟩ := rfl
theorem ty48 : cx.ty 48 = some ⟨.one, .sl true .one [], [.slice none 0 0], 24, .sl 9 .one⟩ := rfl
theorem ty86 : cx.ty 86 = some ⟨.one, .sl true sh88 [], [.slice none 0 0], 24, .sl 88 sh88⟩ := rfl
theorem ty88 : cx.ty 88 = some ⟨sh88, .st [.lf (.int .i64 0), .lf (.string ⟨#[]⟩), .sl true sh88 []], [.int .i64 0, .string ⟨#[]⟩, .slice none 0 0], 48, .st [(3, .one), (9, .one), (86, .one)]⟩ := rfl
theorem ty207 : cx.ty 207 = some ⟨sh207, .st [.lf (.string ⟨#[]⟩), .st [.lf (.int .i64 0), .lf (.string ⟨#[]⟩), .sl true sh88 []]], [.string ⟨#[]⟩, .int .i64 0, .string ⟨#[]⟩, .slice none 0 0], 64, .st [(9, .one), (88, sh88)]⟩ := rfl
theorem ty50 : cx.ty 50 = some ⟨.one, .sl true sh207 [], [.slice none 0 0], 24, .sl 207 sh207⟩ := rfl
theorem ty110 : cx.ty 110 = some ⟨sh110, .st [.lf (.string ⟨#[]⟩), .st [.lf (.int .i64 0), .lf (.string ⟨#[]⟩), .sl true sh88 []]], [.string ⟨#[]⟩, .int .i64 0, .string ⟨#[]⟩, .slice none 0 0], 64, .st [(9, .one), (88, sh88)]⟩ := rfl
theorem ty130 : cx.ty 130 = some ⟨.one, .sl true sh110 [], [.slice none 0 0], 24, .sl 110 sh110⟩ := rfl
theorem ty223 : cx.ty 223 = some ⟨sh223, .st [.lf (.string ⟨#[]⟩), .st [.lf (.int .i64 0), .lf (.string ⟨#[]⟩), .sl true sh88 []]], [.string ⟨#[]⟩, .int .i64 0, .string ⟨#[]⟩, .slice none 0 0], 64, .st [(9, .one), (88, sh88)]⟩ := rfl
theorem ty131 : cx.ty 131 = some ⟨.one, .sl true sh223 [], [.slice none 0 0], 24, .sl 223 sh223⟩ := rfl
theorem ty238 : cx.ty 238 = some ⟨sh238, .st [.lf (.int .i64 0), .lf (.int .i64 0)], [.int .i64 0, .int .i64 0], 16, .st [(3, .one), (3, .one)]⟩ := rfl
theorem ty240 : cx.ty 240 = some ⟨sh240, .st [.lf (.int .i64 0), .lf (.int .i64 0), .st [.lf (.int .i64 0), .lf (.int .i64 0)], .sl true sh240 []], [.int .i64 0, .int .i64 0, .int .i64 0, .int .i64 0, .slice none 0 0], 56, .st [(3, .one), (3, .one), (238, sh238), (132, .one)]⟩ := rfl
theorem ty132 : cx.ty 132 = some ⟨.one, .sl true sh240 [], [.slice none 0 0], 24, .sl 240 sh240⟩ := rfl
theorem ty133 : cx.ty 133 = some ⟨.one, .sl true sh136 [], [.slice none 0 0], 24, .sl 136 sh136⟩ := rfl
theorem ty242 : cx.ty 242 = some ⟨sh242, .st [.lf (.string ⟨#[]⟩), .sl true .one [], .st [.lf (.int .i64 0), .lf (.string ⟨#[]⟩), .lf (.string ⟨#[]⟩), .lf (.int .i64 0), .st [.lf (.int .i64 0), .lf (.string ⟨#[]⟩), .sl true sh88 []], .sl true sh88 [], .sl true sh240 [], .sl true sh136 [], .sl true sh242 []]], [.string ⟨#[]⟩, .slice none 0 0, .int .i64 0, .string ⟨#[]⟩, .string ⟨#[]⟩, .int .i64 0, .int .i64 0, .string ⟨#[]⟩, .slice none 0 0, .slice none 0 0, .slice none 0 0, .slice none 0 0, .slice none 0 0], 232, .st [(9, .one), (48, .one), (136, sh136)]⟩ := rfl
theorem ty134 : cx.ty 134 = some ⟨.one, .sl true sh242 [], [.slice none 0 0], 24, .sl 242 sh242⟩ := rfl
theorem ty136 : cx.ty 136 = some ⟨sh136, .st [.lf (.int .i64 0), .lf (.string ⟨#[]⟩), .lf (.string ⟨#[]⟩), .lf (.int .i64 0), .st [.lf (.int .i64 0), .lf (.string ⟨#[]⟩), .sl true sh88 []], .sl true sh88 [], .sl true sh240 [], .sl true sh136 [], .sl true sh242 []], [.int .i64 0, .string ⟨#[]⟩, .string ⟨#[]⟩, .int .i64 0, .int .i64 0, .string ⟨#[]⟩, .slice none 0 0, .slice none 0 0, .slice none 0 0, .slice none 0 0, .slice none 0 0], 192, .st [(3, .one), (9, .one), (9, .one), (3, .one), (88, sh88), (86, .one), (132, .one), (133, .one), (134, .one)]⟩ := rfl
theorem ty138 : cx.ty 138 = some ⟨sh138, .st [.lf (.int .i64 0), .lf (.int .i64 0), .lf (.int .i64 0), .lf (.int .i64 0), .sl true .one [], .sl true sh110 [], .sl true sh223 [], .st [.lf (.int .i64 0), .lf (.string ⟨#[]⟩), .sl true sh88 []], .st [.lf (.int .i64 0), .lf (.string ⟨#[]⟩), .lf (.string ⟨#[]⟩), .lf (.int .i64 0), .st [.lf (.int .i64 0), .lf (.string ⟨#[]⟩), .sl true sh88 []], .sl true sh88 [], .sl true sh240 [], .sl true sh136 [], .sl true sh242 []]], [.int .i64 0, .int .i64 0, .int .i64 0, .int .i64 0, .slice none 0 0, .slice none 0 0, .slice none 0 0, .int .i64 0, .string ⟨#[]⟩, .slice none 0 0, .int .i64 0, .string ⟨#[]⟩, .string ⟨#[]⟩, .int .i64 0, .int .i64 0, .string ⟨#[]⟩, .slice none 0 0, .slice none 0 0, .slice none 0 0, .slice none 0 0, .slice none 0 0], 344, .st [(3, .one), (3, .one), (3, .one), (3, .one), (48, .one), (130, .one), (131, .one), (88, sh88), (136, sh136)]⟩ := rfl
theorem ty65 : cx.ty 65 = some ⟨.one, .sl true sh138 [], [.slice none 0 0], 24, .sl 138 sh138⟩ := rfl
theorem ty284 : cx.ty 284 = some ⟨sh284, .st [.lf (.int .i64 0), .lf (.int .i64 0), .lf (.int .i64 0), .lf (.int .i64 0), .lf (.int .i64 0), .lf (.int .i64 0)], [.int .i64 0, .int .i64 0, .int .i64 0, .int .i64 0, .int .i64 0, .int .i64 0], 48, .st [(3, .one), (3, .one), (3, .one), (3, .one), (3, .one), (3, .one)]⟩ := rfl
theorem ty125 : cx.ty 125 = some ⟨.one, .sl true sh284 [], [.slice none 0 0], 24, .sl 284 sh284⟩ := rfl
theorem ty127 : cx.ty 127 = some ⟨sh127, .st [.lf (.string ⟨#[]⟩), .lf (.string ⟨#[]⟩), .sl true sh138 [], .sl true sh284 []], [.string ⟨#[]⟩, .string ⟨#[]⟩, .slice none 0 0, .slice none 0 0], 80, .st [(9, .one), (9, .one), (65, .one), (125, .one)]⟩ := rfl
theorem ty67 : cx.ty 67 = some ⟨.one, .sl true sh127 [], [.slice none 0 0], 24, .sl 127 sh127⟩ := rfl
theorem ty69 : cx.ty 69 = some ⟨sh69, .st [.sl true sh127 []], [.slice none 0 0], 24, .st [(67, .one)]⟩ := rfl
def TInstanceRef.dd (_o : Bool) (x : TInstanceRef) : DD := .st [.lf (.int .i64 x.fPackage), .lf (.int .i64 x.fAt)]
theorem TInstanceRef.dd_eq (o : Bool) (x : TInstanceRef) : x.dd o = .st [.lf (.int .i64 x.fPackage), .lf (.int .i64 x.fAt)] := rfl
theorem TInstanceRef.sh_dd (o : Bool) (x : TInstanceRef) : (x.dd o).sh = sh238 := by
  rw [TInstanceRef.dd_eq]; simp only [DD.sh, DD.shs]
theorem TInstanceRef.vw_dd (o : Bool) (x : TInstanceRef) : (x.dd o).vw = x.dd false := by
  simp only [TInstanceRef.dd_eq, DD.vw, DD.vws]
theorem TInstanceRef.is_dd (o : Bool) (x : TInstanceRef) : (x.dd o).is o x.enc := by
  rw [TInstanceRef.dd_eq, TInstanceRef.enc_eq]
  exact is_st (is_cons (is_lf _) (is_cons (is_lf _) (is_nil)))
theorem TInstanceRef.vws_dd (o : Bool) (l : List TInstanceRef) : DD.vws (l.map (TInstanceRef.dd o)) = l.map (TInstanceRef.dd false) := vws_map (TInstanceRef.vw_dd o) l
theorem TInstanceRef.shs_dd (o : Bool) (l : List TInstanceRef) : DD.shs (l.map (TInstanceRef.dd o)) = List.replicate l.length sh238 := shs_map (TInstanceRef.sh_dd o) l
mutual
def TEvidence.dd (o : Bool) : TEvidence → DD
  | ⟨fKind, fN, fAt, fArgs⟩ => .st [.lf (.int .i64 fKind), .lf (.int .i64 fN), TInstanceRef.dd o fAt, .sl o sh240 (TEvidence.dds o fArgs)]
def TEvidence.dds (o : Bool) : List TEvidence → List DD
  | [] => []
  | x :: l => x.dd o :: TEvidence.dds o l
end
theorem TEvidence.dds_eq (o : Bool) : ∀ l : List TEvidence, TEvidence.dds o l = l.map (TEvidence.dd o)
  | [] => rfl
  | x :: l => by simp only [TEvidence.dds, TEvidence.dds_eq o l, List.map_cons]
theorem TEvidence.dd_eq (o : Bool) (x : TEvidence) : x.dd o = .st [.lf (.int .i64 x.fKind), .lf (.int .i64 x.fN), TInstanceRef.dd o x.fAt, .sl o sh240 (x.fArgs.map (TEvidence.dd o))] := by
  cases x; simp only [TEvidence.dd, TEvidence.dds_eq]
theorem TEvidence.sh_dd (o : Bool) (x : TEvidence) : (x.dd o).sh = sh240 := by
  rw [TEvidence.dd_eq]; simp only [DD.sh, DD.shs, TInstanceRef.sh_dd]
mutual
theorem TEvidence.vw_dd (o : Bool) : ∀ x : TEvidence, (x.dd o).vw = x.dd false
  | ⟨fKind, fN, fAt, fArgs⟩ => by simp only [TEvidence.dd, DD.vw, DD.vws, TInstanceRef.vw_dd o fAt, TEvidence.vws_dds o fArgs]
theorem TEvidence.vws_dds (o : Bool) : ∀ l : List TEvidence, DD.vws (TEvidence.dds o l) = TEvidence.dds false l
  | [] => rfl
  | x :: l => by simp only [TEvidence.dds, DD.vws, TEvidence.vw_dd o x, TEvidence.vws_dds o l]
end
mutual
theorem TEvidence.is_dd (o : Bool) (x : TEvidence) : (x.dd o).is o x.enc := by
  rw [TEvidence.dd_eq, TEvidence.enc_eq]
  exact is_st (is_cons (is_lf _) (is_cons (is_lf _) (is_cons (TInstanceRef.is_dd o x.fAt) (is_cons (is_sl (TEvidence.sh_dd o) (by decide) (fun y hy => TEvidence.is_dd o y)) (is_nil)))))
termination_by SizeOf.sizeOf x
decreasing_by all_goals first | (have := List.sizeOf_lt_of_mem hy; have := x.lt_fArgs; omega)
end
theorem TEvidence.vws_dd (o : Bool) (l : List TEvidence) : DD.vws (l.map (TEvidence.dd o)) = l.map (TEvidence.dd false) := vws_map (TEvidence.vw_dd o) l
theorem TEvidence.shs_dd (o : Bool) (l : List TEvidence) : DD.shs (l.map (TEvidence.dd o)) = List.replicate l.length sh240 := shs_map (TEvidence.sh_dd o) l
mutual
def TType.dd (o : Bool) : TType → DD
  | ⟨fKind, fName, fArgs⟩ => .st [.lf (.int .i64 fKind), .lf (.string fName), .sl o sh88 (TType.dds o fArgs)]
def TType.dds (o : Bool) : List TType → List DD
  | [] => []
  | x :: l => x.dd o :: TType.dds o l
end
theorem TType.dds_eq (o : Bool) : ∀ l : List TType, TType.dds o l = l.map (TType.dd o)
  | [] => rfl
  | x :: l => by simp only [TType.dds, TType.dds_eq o l, List.map_cons]
theorem TType.dd_eq (o : Bool) (x : TType) : x.dd o = .st [.lf (.int .i64 x.fKind), .lf (.string x.fName), .sl o sh88 (x.fArgs.map (TType.dd o))] := by
  cases x; simp only [TType.dd, TType.dds_eq]
theorem TType.sh_dd (o : Bool) (x : TType) : (x.dd o).sh = sh88 := by
  rw [TType.dd_eq]; simp only [DD.sh, DD.shs]
mutual
theorem TType.vw_dd (o : Bool) : ∀ x : TType, (x.dd o).vw = x.dd false
  | ⟨fKind, fName, fArgs⟩ => by simp only [TType.dd, DD.vw, DD.vws, TType.vws_dds o fArgs]
theorem TType.vws_dds (o : Bool) : ∀ l : List TType, DD.vws (TType.dds o l) = TType.dds false l
  | [] => rfl
  | x :: l => by simp only [TType.dds, DD.vws, TType.vw_dd o x, TType.vws_dds o l]
end
mutual
theorem TType.is_dd (o : Bool) (x : TType) : (x.dd o).is o x.enc := by
  rw [TType.dd_eq, TType.enc_eq]
  exact is_st (is_cons (is_lf _) (is_cons (is_lf _) (is_cons (is_sl (TType.sh_dd o) (by decide) (fun y hy => TType.is_dd o y)) (is_nil))))
termination_by SizeOf.sizeOf x
decreasing_by all_goals first | (have := List.sizeOf_lt_of_mem hy; have := x.lt_fArgs; omega)
end
theorem TType.vws_dd (o : Bool) (l : List TType) : DD.vws (l.map (TType.dd o)) = l.map (TType.dd false) := vws_map (TType.vw_dd o) l
theorem TType.shs_dd (o : Bool) (l : List TType) : DD.shs (l.map (TType.dd o)) = List.replicate l.length sh88 := shs_map (TType.sh_dd o) l
def TBinding.dd (o : Bool) (x : TBinding) : DD := .st [.lf (.string x.fVar), TType.dd o x.fType]
theorem TBinding.dd_eq (o : Bool) (x : TBinding) : x.dd o = .st [.lf (.string x.fVar), TType.dd o x.fType] := rfl
theorem TBinding.sh_dd (o : Bool) (x : TBinding) : (x.dd o).sh = sh207 := by
  rw [TBinding.dd_eq]; simp only [DD.sh, DD.shs, TType.sh_dd]
theorem TBinding.vw_dd (o : Bool) (x : TBinding) : (x.dd o).vw = x.dd false := by
  simp only [TBinding.dd_eq, DD.vw, DD.vws, TType.vw_dd o]
theorem TBinding.is_dd (o : Bool) (x : TBinding) : (x.dd o).is o x.enc := by
  rw [TBinding.dd_eq, TBinding.enc_eq]
  exact is_st (is_cons (is_lf _) (is_cons (TType.is_dd o x.fType) (is_nil)))
theorem TBinding.vws_dd (o : Bool) (l : List TBinding) : DD.vws (l.map (TBinding.dd o)) = l.map (TBinding.dd false) := vws_map (TBinding.vw_dd o) l
theorem TBinding.shs_dd (o : Bool) (l : List TBinding) : DD.shs (l.map (TBinding.dd o)) = List.replicate l.length sh207 := shs_map (TBinding.sh_dd o) l
def TBound.dd (o : Bool) (x : TBound) : DD := .st [.lf (.string x.fTrait), TType.dd o x.fType]
theorem TBound.dd_eq (o : Bool) (x : TBound) : x.dd o = .st [.lf (.string x.fTrait), TType.dd o x.fType] := rfl
theorem TBound.sh_dd (o : Bool) (x : TBound) : (x.dd o).sh = sh110 := by
  rw [TBound.dd_eq]; simp only [DD.sh, DD.shs, TType.sh_dd]
theorem TBound.vw_dd (o : Bool) (x : TBound) : (x.dd o).vw = x.dd false := by
  simp only [TBound.dd_eq, DD.vw, DD.vws, TType.vw_dd o]
theorem TBound.is_dd (o : Bool) (x : TBound) : (x.dd o).is o x.enc := by
  rw [TBound.dd_eq, TBound.enc_eq]
  exact is_st (is_cons (is_lf _) (is_cons (TType.is_dd o x.fType) (is_nil)))
theorem TBound.vws_dd (o : Bool) (l : List TBound) : DD.vws (l.map (TBound.dd o)) = l.map (TBound.dd false) := vws_map (TBound.vw_dd o) l
theorem TBound.shs_dd (o : Bool) (l : List TBound) : DD.shs (l.map (TBound.dd o)) = List.replicate l.length sh110 := shs_map (TBound.sh_dd o) l
mutual
def TCoreArm.dd (o : Bool) : TCoreArm → DD
  | ⟨fConstructor, fVars, fBody⟩ => .st [.lf (.string fConstructor), .sl o .one (fVars.map dS), TCore.dd o fBody]
def TCoreArm.dds (o : Bool) : List TCoreArm → List DD
  | [] => []
  | x :: l => x.dd o :: TCoreArm.dds o l
def TCore.dd (o : Bool) : TCore → DD
  | ⟨fKind, fTrait, fName, fN, fType, fTypeArgs, fEvidence, fArgs, fArms⟩ => .st [.lf (.int .i64 fKind), .lf (.string fTrait), .lf (.string fName), .lf (.int .i64 fN), TType.dd o fType, .sl o sh88 (fTypeArgs.map (TType.dd o)), .sl o sh240 (fEvidence.map (TEvidence.dd o)), .sl o sh136 (TCore.dds o fArgs), .sl o sh242 (TCoreArm.dds o fArms)]
def TCore.dds (o : Bool) : List TCore → List DD
  | [] => []
  | x :: l => x.dd o :: TCore.dds o l
end
theorem TCoreArm.dds_eq (o : Bool) : ∀ l : List TCoreArm, TCoreArm.dds o l = l.map (TCoreArm.dd o)
  | [] => rfl
  | x :: l => by simp only [TCoreArm.dds, TCoreArm.dds_eq o l, List.map_cons]
theorem TCore.dds_eq (o : Bool) : ∀ l : List TCore, TCore.dds o l = l.map (TCore.dd o)
  | [] => rfl
  | x :: l => by simp only [TCore.dds, TCore.dds_eq o l, List.map_cons]
theorem TCoreArm.dd_eq (o : Bool) (x : TCoreArm) : x.dd o = .st [.lf (.string x.fConstructor), .sl o .one (x.fVars.map dS), TCore.dd o x.fBody] := by
  cases x; simp only [TCoreArm.dd]
theorem TCore.dd_eq (o : Bool) (x : TCore) : x.dd o = .st [.lf (.int .i64 x.fKind), .lf (.string x.fTrait), .lf (.string x.fName), .lf (.int .i64 x.fN), TType.dd o x.fType, .sl o sh88 (x.fTypeArgs.map (TType.dd o)), .sl o sh240 (x.fEvidence.map (TEvidence.dd o)), .sl o sh136 (x.fArgs.map (TCore.dd o)), .sl o sh242 (x.fArms.map (TCoreArm.dd o))] := by
  cases x; simp only [TCore.dd, TCoreArm.dds_eq, TCore.dds_eq]
theorem TCore.sh_dd (o : Bool) (x : TCore) : (x.dd o).sh = sh136 := by
  rw [TCore.dd_eq]; simp only [DD.sh, DD.shs, TType.sh_dd]
theorem TCoreArm.sh_dd (o : Bool) (x : TCoreArm) : (x.dd o).sh = sh242 := by
  rw [TCoreArm.dd_eq]; simp only [DD.sh, DD.shs, TCore.sh_dd]
mutual
theorem TCoreArm.vw_dd (o : Bool) : ∀ x : TCoreArm, (x.dd o).vw = x.dd false
  | ⟨fConstructor, fVars, fBody⟩ => by simp only [TCoreArm.dd, DD.vw, DD.vws, vws_dS, TCore.vw_dd o fBody]
theorem TCoreArm.vws_dds (o : Bool) : ∀ l : List TCoreArm, DD.vws (TCoreArm.dds o l) = TCoreArm.dds false l
  | [] => rfl
  | x :: l => by simp only [TCoreArm.dds, DD.vws, TCoreArm.vw_dd o x, TCoreArm.vws_dds o l]
theorem TCore.vw_dd (o : Bool) : ∀ x : TCore, (x.dd o).vw = x.dd false
  | ⟨fKind, fTrait, fName, fN, fType, fTypeArgs, fEvidence, fArgs, fArms⟩ => by simp only [TCore.dd, DD.vw, DD.vws, TType.vw_dd o fType, vws_map (TType.vw_dd o) fTypeArgs, vws_map (TEvidence.vw_dd o) fEvidence, TCore.vws_dds o fArgs, TCoreArm.vws_dds o fArms]
theorem TCore.vws_dds (o : Bool) : ∀ l : List TCore, DD.vws (TCore.dds o l) = TCore.dds false l
  | [] => rfl
  | x :: l => by simp only [TCore.dds, DD.vws, TCore.vw_dd o x, TCore.vws_dds o l]
end
mutual
theorem TCoreArm.is_dd (o : Bool) (x : TCoreArm) : (x.dd o).is o x.enc := by
  rw [TCoreArm.dd_eq, TCoreArm.enc_eq]
  exact is_st (is_cons (is_lf _) (is_cons (is_sl (s := .one) (fun _ => rfl) (by decide) (fun _ _ => is_lf _)) (is_cons (TCore.is_dd o x.fBody) (is_nil))))
termination_by SizeOf.sizeOf x
decreasing_by all_goals first | (have := x.lt_fBody; omega)
theorem TCore.is_dd (o : Bool) (x : TCore) : (x.dd o).is o x.enc := by
  rw [TCore.dd_eq, TCore.enc_eq]
  exact is_st (is_cons (is_lf _) (is_cons (is_lf _) (is_cons (is_lf _) (is_cons (is_lf _) (is_cons (TType.is_dd o x.fType) (is_cons (is_sl (TType.sh_dd o) (by decide) (fun y hy => TType.is_dd o y)) (is_cons (is_sl (TEvidence.sh_dd o) (by decide) (fun y hy => TEvidence.is_dd o y)) (is_cons (is_sl (TCore.sh_dd o) (by decide) (fun y hy => TCore.is_dd o y)) (is_cons (is_sl (TCoreArm.sh_dd o) (by decide) (fun y hy => TCoreArm.is_dd o y)) (is_nil))))))))))
termination_by SizeOf.sizeOf x
decreasing_by all_goals first | (have := List.sizeOf_lt_of_mem hy; have := x.lt_fArgs; omega) | (have := List.sizeOf_lt_of_mem hy; have := x.lt_fArms; omega)
end
theorem TCoreArm.vws_dd (o : Bool) (l : List TCoreArm) : DD.vws (l.map (TCoreArm.dd o)) = l.map (TCoreArm.dd false) := vws_map (TCoreArm.vw_dd o) l
theorem TCoreArm.shs_dd (o : Bool) (l : List TCoreArm) : DD.shs (l.map (TCoreArm.dd o)) = List.replicate l.length sh242 := shs_map (TCoreArm.sh_dd o) l
theorem TCore.vws_dd (o : Bool) (l : List TCore) : DD.vws (l.map (TCore.dd o)) = l.map (TCore.dd false) := vws_map (TCore.vw_dd o) l
theorem TCore.shs_dd (o : Bool) (l : List TCore) : DD.shs (l.map (TCore.dd o)) = List.replicate l.length sh136 := shs_map (TCore.sh_dd o) l
def TParam.dd (o : Bool) (x : TParam) : DD := .st [.lf (.string x.fName), TType.dd o x.fType]
theorem TParam.dd_eq (o : Bool) (x : TParam) : x.dd o = .st [.lf (.string x.fName), TType.dd o x.fType] := rfl
theorem TParam.sh_dd (o : Bool) (x : TParam) : (x.dd o).sh = sh223 := by
  rw [TParam.dd_eq]; simp only [DD.sh, DD.shs, TType.sh_dd]
theorem TParam.vw_dd (o : Bool) (x : TParam) : (x.dd o).vw = x.dd false := by
  simp only [TParam.dd_eq, DD.vw, DD.vws, TType.vw_dd o]
theorem TParam.is_dd (o : Bool) (x : TParam) : (x.dd o).is o x.enc := by
  rw [TParam.dd_eq, TParam.enc_eq]
  exact is_st (is_cons (is_lf _) (is_cons (TType.is_dd o x.fType) (is_nil)))
theorem TParam.vws_dd (o : Bool) (l : List TParam) : DD.vws (l.map (TParam.dd o)) = l.map (TParam.dd false) := vws_map (TParam.vw_dd o) l
theorem TParam.shs_dd (o : Bool) (l : List TParam) : DD.shs (l.map (TParam.dd o)) = List.replicate l.length sh223 := shs_map (TParam.sh_dd o) l
def TUnit.dd (o : Bool) (x : TUnit) : DD := .st [.lf (.int .i64 x.fKind), .lf (.int .i64 x.fPackage), .lf (.int .i64 x.fAt), .lf (.int .i64 x.fSub), .sl o .one (x.fVars.map dS), .sl o sh110 (x.fWhere.map (TBound.dd o)), .sl o sh223 (x.fParams.map (TParam.dd o)), TType.dd o x.fResult, TCore.dd o x.fBody]
theorem TUnit.dd_eq (o : Bool) (x : TUnit) : x.dd o = .st [.lf (.int .i64 x.fKind), .lf (.int .i64 x.fPackage), .lf (.int .i64 x.fAt), .lf (.int .i64 x.fSub), .sl o .one (x.fVars.map dS), .sl o sh110 (x.fWhere.map (TBound.dd o)), .sl o sh223 (x.fParams.map (TParam.dd o)), TType.dd o x.fResult, TCore.dd o x.fBody] := rfl
theorem TUnit.sh_dd (o : Bool) (x : TUnit) : (x.dd o).sh = sh138 := by
  rw [TUnit.dd_eq]; simp only [DD.sh, DD.shs, TCore.sh_dd, TType.sh_dd]
theorem TUnit.vw_dd (o : Bool) (x : TUnit) : (x.dd o).vw = x.dd false := by
  simp only [TUnit.dd_eq, DD.vw, DD.vws, vws_dS, vws_map (TBound.vw_dd o), vws_map (TParam.vw_dd o), TType.vw_dd o, TCore.vw_dd o]
theorem TUnit.is_dd (o : Bool) (x : TUnit) : (x.dd o).is o x.enc := by
  rw [TUnit.dd_eq, TUnit.enc_eq]
  exact is_st (is_cons (is_lf _) (is_cons (is_lf _) (is_cons (is_lf _) (is_cons (is_lf _) (is_cons (is_sl (s := .one) (fun _ => rfl) (by decide) (fun _ _ => is_lf _)) (is_cons (is_sl (TBound.sh_dd o) (by decide) (fun y hy => TBound.is_dd o y)) (is_cons (is_sl (TParam.sh_dd o) (by decide) (fun y hy => TParam.is_dd o y)) (is_cons (TType.is_dd o x.fResult) (is_cons (TCore.is_dd o x.fBody) (is_nil))))))))))
theorem TUnit.vws_dd (o : Bool) (l : List TUnit) : DD.vws (l.map (TUnit.dd o)) = l.map (TUnit.dd false) := vws_map (TUnit.vw_dd o) l
theorem TUnit.shs_dd (o : Bool) (l : List TUnit) : DD.shs (l.map (TUnit.dd o)) = List.replicate l.length sh138 := shs_map (TUnit.sh_dd o) l
def TUnitError.dd (_o : Bool) (x : TUnitError) : DD := .st [.lf (.int .i64 x.fKind), .lf (.int .i64 x.fPackage), .lf (.int .i64 x.fAt), .lf (.int .i64 x.fSub), .lf (.int .i64 x.fCode), .lf (.int .i64 x.fNode)]
theorem TUnitError.dd_eq (o : Bool) (x : TUnitError) : x.dd o = .st [.lf (.int .i64 x.fKind), .lf (.int .i64 x.fPackage), .lf (.int .i64 x.fAt), .lf (.int .i64 x.fSub), .lf (.int .i64 x.fCode), .lf (.int .i64 x.fNode)] := rfl
theorem TUnitError.sh_dd (o : Bool) (x : TUnitError) : (x.dd o).sh = sh284 := by
  rw [TUnitError.dd_eq]; simp only [DD.sh, DD.shs]
theorem TUnitError.vw_dd (o : Bool) (x : TUnitError) : (x.dd o).vw = x.dd false := by
  simp only [TUnitError.dd_eq, DD.vw, DD.vws]
theorem TUnitError.is_dd (o : Bool) (x : TUnitError) : (x.dd o).is o x.enc := by
  rw [TUnitError.dd_eq, TUnitError.enc_eq]
  exact is_st (is_cons (is_lf _) (is_cons (is_lf _) (is_cons (is_lf _) (is_cons (is_lf _) (is_cons (is_lf _) (is_cons (is_lf _) (is_nil)))))))
theorem TUnitError.vws_dd (o : Bool) (l : List TUnitError) : DD.vws (l.map (TUnitError.dd o)) = l.map (TUnitError.dd false) := vws_map (TUnitError.vw_dd o) l
theorem TUnitError.shs_dd (o : Bool) (l : List TUnitError) : DD.shs (l.map (TUnitError.dd o)) = List.replicate l.length sh284 := shs_map (TUnitError.sh_dd o) l
def TBuiltPackage.dd (o : Bool) (x : TBuiltPackage) : DD := .st [.lf (.string x.fName), .lf (.string x.fKey), .sl o sh138 (x.fUnits.map (TUnit.dd o)), .sl o sh284 (x.fErrors.map (TUnitError.dd o))]
theorem TBuiltPackage.dd_eq (o : Bool) (x : TBuiltPackage) : x.dd o = .st [.lf (.string x.fName), .lf (.string x.fKey), .sl o sh138 (x.fUnits.map (TUnit.dd o)), .sl o sh284 (x.fErrors.map (TUnitError.dd o))] := rfl
theorem TBuiltPackage.sh_dd (o : Bool) (x : TBuiltPackage) : (x.dd o).sh = sh127 := by
  rw [TBuiltPackage.dd_eq]; simp only [DD.sh, DD.shs]
theorem TBuiltPackage.vw_dd (o : Bool) (x : TBuiltPackage) : (x.dd o).vw = x.dd false := by
  simp only [TBuiltPackage.dd_eq, DD.vw, DD.vws, vws_map (TUnit.vw_dd o), vws_map (TUnitError.vw_dd o)]
theorem TBuiltPackage.is_dd (o : Bool) (x : TBuiltPackage) : (x.dd o).is o x.enc := by
  rw [TBuiltPackage.dd_eq, TBuiltPackage.enc_eq]
  exact is_st (is_cons (is_lf _) (is_cons (is_lf _) (is_cons (is_sl (TUnit.sh_dd o) (by decide) (fun y hy => TUnit.is_dd o y)) (is_cons (is_sl (TUnitError.sh_dd o) (by decide) (fun y hy => TUnitError.is_dd o y)) (is_nil)))))
theorem TBuiltPackage.vws_dd (o : Bool) (l : List TBuiltPackage) : DD.vws (l.map (TBuiltPackage.dd o)) = l.map (TBuiltPackage.dd false) := vws_map (TBuiltPackage.vw_dd o) l
theorem TBuiltPackage.shs_dd (o : Bool) (l : List TBuiltPackage) : DD.shs (l.map (TBuiltPackage.dd o)) = List.replicate l.length sh127 := shs_map (TBuiltPackage.sh_dd o) l
def TBuild.dd (o : Bool) (x : TBuild) : DD := .st [.sl o sh127 (x.fPackages.map (TBuiltPackage.dd o))]
theorem TBuild.dd_eq (o : Bool) (x : TBuild) : x.dd o = .st [.sl o sh127 (x.fPackages.map (TBuiltPackage.dd o))] := rfl
theorem TBuild.sh_dd (o : Bool) (x : TBuild) : (x.dd o).sh = sh69 := by
  rw [TBuild.dd_eq]; simp only [DD.sh, DD.shs]
theorem TBuild.vw_dd (o : Bool) (x : TBuild) : (x.dd o).vw = x.dd false := by
  simp only [TBuild.dd_eq, DD.vw, DD.vws, vws_map (TBuiltPackage.vw_dd o)]
theorem TBuild.is_dd (o : Bool) (x : TBuild) : (x.dd o).is o x.enc := by
  rw [TBuild.dd_eq, TBuild.enc_eq]
  exact is_st (is_cons (is_sl (TBuiltPackage.sh_dd o) (by decide) (fun y hy => TBuiltPackage.is_dd o y)) (is_nil))
theorem TBuild.vws_dd (o : Bool) (l : List TBuild) : DD.vws (l.map (TBuild.dd o)) = l.map (TBuild.dd false) := vws_map (TBuild.vw_dd o) l
theorem TBuild.shs_dd (o : Bool) (l : List TBuild) : DD.shs (l.map (TBuild.dd o)) = List.replicate l.length sh69 := shs_map (TBuild.sh_dd o) l
attribute [simp] ty3 ty4 ty9 ty48 ty86 ty88 ty207 ty50 ty110 ty130 ty223 ty131 ty238 ty240 ty132 ty133 ty242 ty134 ty136 ty138 ty65 ty284 ty125 ty127 ty67 ty69 TInstanceRef.dd_eq TInstanceRef.vws_dd TInstanceRef.shs_dd TEvidence.dd_eq TEvidence.vws_dd TEvidence.shs_dd TType.dd_eq TType.vws_dd TType.shs_dd TBinding.dd_eq TBinding.vws_dd TBinding.shs_dd TBound.dd_eq TBound.vws_dd TBound.shs_dd TCoreArm.dd_eq TCoreArm.vws_dd TCoreArm.shs_dd TCore.dd_eq TCore.vws_dd TCore.shs_dd TParam.dd_eq TParam.vws_dd TParam.shs_dd TUnit.dd_eq TUnit.vws_dd TUnit.shs_dd TUnitError.dd_eq TUnitError.vws_dd TUnitError.shs_dd TBuiltPackage.dd_eq TBuiltPackage.vws_dd TBuiltPackage.shs_dd TBuild.dd_eq TBuild.vws_dd TBuild.shs_dd
end Go.Proofs.YtkmiecgcibjkbaaGreat
