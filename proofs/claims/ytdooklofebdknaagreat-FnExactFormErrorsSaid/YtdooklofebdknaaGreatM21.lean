/- The table of this program's types, and the trees of its values. No condition but sizes. -/
import Derived.Test.YtdooklofebdknaaGreatM02
import Derived.Test.YtdooklofebdknaaGreatM20
import Derived.KernelRfl
namespace Go.Proofs.YtdooklofebdknaaGreat
open Go.RowKit
abbrev sh215 : Sh := .st [.one, .one, .one]
abbrev sh225 : Sh := .st [.one, .one, .one, .one, sh215, .one, .one]
abbrev sh388 : Sh := .st [.one, .one, sh225]
abbrev sh328 : Sh := .st [.one, .one, sh215, .one, .one, sh225]
abbrev sh207 : Sh := .st [.one, .one, .one, .one, .one]
abbrev sh331 : Sh := .st [.one, .one]
abbrev sh211 : Sh := .st [.one, .one, .one]
abbrev sh335 : Sh := .st [.one, sh215]
abbrev sh338 : Sh := .st [.one, .one, sh225]
abbrev sh219 : Sh := .st [.one, .one, sh215, .one, .one, .one, sh215, .one]
abbrev sh341 : Sh := .st [.one, sh215]
abbrev sh227 : Sh := .st [.one, .one, .one, .one, sh215, sh225]
abbrev sh91 : Sh := .st [.one, .one, .one, .one, .one, .one]
abbrev sh24 : Sh := .st [.one]
abbrev sh40 : Sh := .st [.one, .one, .one, .one]
abbrev sh65 : Sh := .st [.one, .one, .one]
abbrev sh75 : Sh := .st [.one, .one, .one, .one, sh65, .one, .one]
abbrev sh172 : Sh := .st [.one, .one, sh75]
abbrev sh109 : Sh := .st [.one, .one, sh65, .one, .one, sh75]
abbrev sh57 : Sh := .st [.one, .one, .one, .one, .one]
abbrev sh116 : Sh := .st [.one, .one]
abbrev sh61 : Sh := .st [.one, .one, .one]
abbrev sh174 : Sh := .st [.one, sh65]
abbrev sh120 : Sh := .st [.one, .one, sh75]
abbrev sh69 : Sh := .st [.one, .one, sh65, .one, .one, .one, sh65, .one]
abbrev sh153 : Sh := .st [.one, sh65]
abbrev sh77 : Sh := .st [.one, .one, .one, .one, sh65, sh75]
abbrev sh49 : Sh := .st [.one, .one, .one, .one, .one, .one]
abbrev sh30 : Sh := .st [.one]
abbrev sh52 : Sh := .st [sh30, .one]
abbrev sh180 : Sh := .st [.one, .one, .one, .one]
def ti3 : TI := ⟨.one, .lf (.int .i64 0), [.int .i64 0], 8, .int .i64⟩
theorem tk3 : TyOk Tryz.prog 3 ti3 := TyOk.of (by kernel_rfl) rfl (by kernel_rfl) rfl (by intro fl h; cases h <;> rfl)
def ti4 : TI := ⟨.one, .lf (.bool false), [.bool false], 1, .bool⟩
theorem tk4 : TyOk Tryz.prog 4 ti4 := TyOk.of (by kernel_rfl) rfl (by kernel_rfl) rfl (by intro fl h; cases h <;> rfl)
def ti5 : TI := ⟨.one, .lf (.int .u8 0), [.int .u8 0], 1, .int .u8⟩
theorem tk5 : TyOk Tryz.prog 5 ti5 := TyOk.of (by kernel_rfl) rfl (by kernel_rfl) rfl (by intro fl h; cases h <;> rfl)
def ti9 : TI := ⟨.one, .lf (.string ⟨#[]⟩), [.string ⟨#[]⟩], 16, .str⟩
theorem tk9 : TyOk Tryz.prog 9 ti9 := TyOk.of (by kernel_rfl) rfl (by kernel_rfl) rfl (by intro fl h; cases h <;> rfl)
def ti43 : TI := ⟨.one, .sl true .one [], [.slice none 0 0], 24, .sl 9 .one⟩
theorem tk43 : TyOk Tryz.prog 43 ti43 := TyOk.of (by kernel_rfl) rfl (by kernel_rfl) rfl (by intro fl h; cases h <;> rfl)
def ti215 : TI := ⟨sh215, .st [.lf (.int .i64 0), .lf (.string ⟨#[]⟩), .sl true sh215 []], [.int .i64 0, .string ⟨#[]⟩, .slice none 0 0], 48, .st [(3, .one), (9, .one), (213, .one)]⟩
theorem tk215 : TyOk Tryz.prog 215 ti215 := TyOk.of (by kernel_rfl) rfl (by kernel_rfl) rfl (by intro fl h; cases h <;> rfl)
def ti213 : TI := ⟨.one, .sl true sh215 [], [.slice none 0 0], 24, .sl 215 sh215⟩
theorem tk213 : TyOk Tryz.prog 213 ti213 := TyOk.of (by kernel_rfl) rfl (by kernel_rfl) rfl (by intro fl h; cases h <;> rfl)
def ti222 : TI := ⟨.one, .sl true sh225 [], [.slice none 0 0], 24, .sl 225 sh225⟩
theorem tk222 : TyOk Tryz.prog 222 ti222 := TyOk.of (by kernel_rfl) rfl (by kernel_rfl) rfl (by intro fl h; cases h <;> rfl)
def ti388 : TI := ⟨sh388, .st [.lf (.string ⟨#[]⟩), .sl true .one [], .st [.lf (.int .i64 0), .lf (.string ⟨#[]⟩), .lf (.string ⟨#[]⟩), .lf (.int .i64 0), .st [.lf (.int .i64 0), .lf (.string ⟨#[]⟩), .sl true sh215 []], .sl true sh225 [], .sl true sh388 []]], [.string ⟨#[]⟩, .slice none 0 0, .int .i64 0, .string ⟨#[]⟩, .string ⟨#[]⟩, .int .i64 0, .int .i64 0, .string ⟨#[]⟩, .slice none 0 0, .slice none 0 0, .slice none 0 0], 184, .st [(9, .one), (43, .one), (225, sh225)]⟩
theorem tk388 : TyOk Tryz.prog 388 ti388 := TyOk.of (by kernel_rfl) rfl (by kernel_rfl) rfl (by intro fl h; cases h <;> rfl)
def ti223 : TI := ⟨.one, .sl true sh388 [], [.slice none 0 0], 24, .sl 388 sh388⟩
theorem tk223 : TyOk Tryz.prog 223 ti223 := TyOk.of (by kernel_rfl) rfl (by kernel_rfl) rfl (by intro fl h; cases h <;> rfl)
def ti225 : TI := ⟨sh225, .st [.lf (.int .i64 0), .lf (.string ⟨#[]⟩), .lf (.string ⟨#[]⟩), .lf (.int .i64 0), .st [.lf (.int .i64 0), .lf (.string ⟨#[]⟩), .sl true sh215 []], .sl true sh225 [], .sl true sh388 []], [.int .i64 0, .string ⟨#[]⟩, .string ⟨#[]⟩, .int .i64 0, .int .i64 0, .string ⟨#[]⟩, .slice none 0 0, .slice none 0 0, .slice none 0 0], 144, .st [(3, .one), (9, .one), (9, .one), (3, .one), (215, sh215), (222, .one), (223, .one)]⟩
theorem tk225 : TyOk Tryz.prog 225 ti225 := TyOk.of (by kernel_rfl) rfl (by kernel_rfl) rfl (by intro fl h; cases h <;> rfl)
def ti328 : TI := ⟨sh328, .st [.lf (.string ⟨#[]⟩), .sl true sh215 [], .st [.lf (.int .i64 0), .lf (.string ⟨#[]⟩), .sl true sh215 []], .lf (.bool false), .sl true .one [], .st [.lf (.int .i64 0), .lf (.string ⟨#[]⟩), .lf (.string ⟨#[]⟩), .lf (.int .i64 0), .st [.lf (.int .i64 0), .lf (.string ⟨#[]⟩), .sl true sh215 []], .sl true sh225 [], .sl true sh388 []]], [.string ⟨#[]⟩, .slice none 0 0, .int .i64 0, .string ⟨#[]⟩, .slice none 0 0, .bool false, .slice none 0 0, .int .i64 0, .string ⟨#[]⟩, .string ⟨#[]⟩, .int .i64 0, .int .i64 0, .string ⟨#[]⟩, .slice none 0 0, .slice none 0 0, .slice none 0 0], 264, .st [(9, .one), (213, .one), (215, sh215), (4, .one), (43, .one), (225, sh225)]⟩
theorem tk328 : TyOk Tryz.prog 328 ti328 := TyOk.of (by kernel_rfl) rfl (by kernel_rfl) rfl (by intro fl h; cases h <;> rfl)
def ti205 : TI := ⟨.one, .sl true sh328 [], [.slice none 0 0], 24, .sl 328 sh328⟩
theorem tk205 : TyOk Tryz.prog 205 ti205 := TyOk.of (by kernel_rfl) rfl (by kernel_rfl) rfl (by intro fl h; cases h <;> rfl)
def ti207 : TI := ⟨sh207, .st [.lf (.string ⟨#[]⟩), .sl true .one [], .lf (.bool false), .lf (.bool false), .sl true sh328 []], [.string ⟨#[]⟩, .slice none 0 0, .bool false, .bool false, .slice none 0 0], 72, .st [(9, .one), (43, .one), (4, .one), (4, .one), (205, .one)]⟩
theorem tk207 : TyOk Tryz.prog 207 ti207 := TyOk.of (by kernel_rfl) rfl (by kernel_rfl) rfl (by intro fl h; cases h <;> rfl)
def ti86 : TI := ⟨.one, .sl true sh207 [], [.slice none 0 0], 24, .sl 207 sh207⟩
theorem tk86 : TyOk Tryz.prog 86 ti86 := TyOk.of (by kernel_rfl) rfl (by kernel_rfl) rfl (by intro fl h; cases h <;> rfl)
def ti331 : TI := ⟨sh331, .st [.lf (.string ⟨#[]⟩), .sl true sh215 []], [.string ⟨#[]⟩, .slice none 0 0], 40, .st [(9, .one), (213, .one)]⟩
theorem tk331 : TyOk Tryz.prog 331 ti331 := TyOk.of (by kernel_rfl) rfl (by kernel_rfl) rfl (by intro fl h; cases h <;> rfl)
def ti209 : TI := ⟨.one, .sl true sh331 [], [.slice none 0 0], 24, .sl 331 sh331⟩
theorem tk209 : TyOk Tryz.prog 209 ti209 := TyOk.of (by kernel_rfl) rfl (by kernel_rfl) rfl (by intro fl h; cases h <;> rfl)
def ti211 : TI := ⟨sh211, .st [.lf (.string ⟨#[]⟩), .sl true .one [], .sl true sh331 []], [.string ⟨#[]⟩, .slice none 0 0, .slice none 0 0], 64, .st [(9, .one), (43, .one), (209, .one)]⟩
theorem tk211 : TyOk Tryz.prog 211 ti211 := TyOk.of (by kernel_rfl) rfl (by kernel_rfl) rfl (by intro fl h; cases h <;> rfl)
def ti87 : TI := ⟨.one, .sl true sh211 [], [.slice none 0 0], 24, .sl 211 sh211⟩
theorem tk87 : TyOk Tryz.prog 87 ti87 := TyOk.of (by kernel_rfl) rfl (by kernel_rfl) rfl (by intro fl h; cases h <;> rfl)
def ti335 : TI := ⟨sh335, .st [.lf (.string ⟨#[]⟩), .st [.lf (.int .i64 0), .lf (.string ⟨#[]⟩), .sl true sh215 []]], [.string ⟨#[]⟩, .int .i64 0, .string ⟨#[]⟩, .slice none 0 0], 64, .st [(9, .one), (215, sh215)]⟩
theorem tk335 : TyOk Tryz.prog 335 ti335 := TyOk.of (by kernel_rfl) rfl (by kernel_rfl) rfl (by intro fl h; cases h <;> rfl)
def ti216 : TI := ⟨.one, .sl true sh335 [], [.slice none 0 0], 24, .sl 335 sh335⟩
theorem tk216 : TyOk Tryz.prog 216 ti216 := TyOk.of (by kernel_rfl) rfl (by kernel_rfl) rfl (by intro fl h; cases h <;> rfl)
def ti338 : TI := ⟨sh338, .st [.lf (.string ⟨#[]⟩), .sl true .one [], .st [.lf (.int .i64 0), .lf (.string ⟨#[]⟩), .lf (.string ⟨#[]⟩), .lf (.int .i64 0), .st [.lf (.int .i64 0), .lf (.string ⟨#[]⟩), .sl true sh215 []], .sl true sh225 [], .sl true sh388 []]], [.string ⟨#[]⟩, .slice none 0 0, .int .i64 0, .string ⟨#[]⟩, .string ⟨#[]⟩, .int .i64 0, .int .i64 0, .string ⟨#[]⟩, .slice none 0 0, .slice none 0 0, .slice none 0 0], 184, .st [(9, .one), (43, .one), (225, sh225)]⟩
theorem tk338 : TyOk Tryz.prog 338 ti338 := TyOk.of (by kernel_rfl) rfl (by kernel_rfl) rfl (by intro fl h; cases h <;> rfl)
def ti217 : TI := ⟨.one, .sl true sh338 [], [.slice none 0 0], 24, .sl 338 sh338⟩
theorem tk217 : TyOk Tryz.prog 217 ti217 := TyOk.of (by kernel_rfl) rfl (by kernel_rfl) rfl (by intro fl h; cases h <;> rfl)
def ti219 : TI := ⟨sh219, .st [.lf (.string ⟨#[]⟩), .sl true .one [], .st [.lf (.int .i64 0), .lf (.string ⟨#[]⟩), .sl true sh215 []], .sl true sh335 [], .lf (.bool false), .lf (.bool false), .st [.lf (.int .i64 0), .lf (.string ⟨#[]⟩), .sl true sh215 []], .sl true sh338 []], [.string ⟨#[]⟩, .slice none 0 0, .int .i64 0, .string ⟨#[]⟩, .slice none 0 0, .slice none 0 0, .bool false, .bool false, .int .i64 0, .string ⟨#[]⟩, .slice none 0 0, .slice none 0 0], 192, .st [(9, .one), (43, .one), (215, sh215), (216, .one), (4, .one), (4, .one), (215, sh215), (217, .one)]⟩
theorem tk219 : TyOk Tryz.prog 219 ti219 := TyOk.of (by kernel_rfl) rfl (by kernel_rfl) rfl (by intro fl h; cases h <;> rfl)
def ti88 : TI := ⟨.one, .sl true sh219 [], [.slice none 0 0], 24, .sl 219 sh219⟩
theorem tk88 : TyOk Tryz.prog 88 ti88 := TyOk.of (by kernel_rfl) rfl (by kernel_rfl) rfl (by intro fl h; cases h <;> rfl)
def ti341 : TI := ⟨sh341, .st [.lf (.string ⟨#[]⟩), .st [.lf (.int .i64 0), .lf (.string ⟨#[]⟩), .sl true sh215 []]], [.string ⟨#[]⟩, .int .i64 0, .string ⟨#[]⟩, .slice none 0 0], 64, .st [(9, .one), (215, sh215)]⟩
theorem tk341 : TyOk Tryz.prog 341 ti341 := TyOk.of (by kernel_rfl) rfl (by kernel_rfl) rfl (by intro fl h; cases h <;> rfl)
def ti221 : TI := ⟨.one, .sl true sh341 [], [.slice none 0 0], 24, .sl 341 sh341⟩
theorem tk221 : TyOk Tryz.prog 221 ti221 := TyOk.of (by kernel_rfl) rfl (by kernel_rfl) rfl (by intro fl h; cases h <;> rfl)
def ti227 : TI := ⟨sh227, .st [.lf (.string ⟨#[]⟩), .sl true .one [], .sl true sh335 [], .sl true sh341 [], .st [.lf (.int .i64 0), .lf (.string ⟨#[]⟩), .sl true sh215 []], .st [.lf (.int .i64 0), .lf (.string ⟨#[]⟩), .lf (.string ⟨#[]⟩), .lf (.int .i64 0), .st [.lf (.int .i64 0), .lf (.string ⟨#[]⟩), .sl true sh215 []], .sl true sh225 [], .sl true sh388 []]], [.string ⟨#[]⟩, .slice none 0 0, .slice none 0 0, .slice none 0 0, .int .i64 0, .string ⟨#[]⟩, .slice none 0 0, .int .i64 0, .string ⟨#[]⟩, .string ⟨#[]⟩, .int .i64 0, .int .i64 0, .string ⟨#[]⟩, .slice none 0 0, .slice none 0 0, .slice none 0 0], 280, .st [(9, .one), (43, .one), (216, .one), (221, .one), (215, sh215), (225, sh225)]⟩
theorem tk227 : TyOk Tryz.prog 227 ti227 := TyOk.of (by kernel_rfl) rfl (by kernel_rfl) rfl (by intro fl h; cases h <;> rfl)
def ti89 : TI := ⟨.one, .sl true sh227 [], [.slice none 0 0], 24, .sl 227 sh227⟩
theorem tk89 : TyOk Tryz.prog 89 ti89 := TyOk.of (by kernel_rfl) rfl (by kernel_rfl) rfl (by intro fl h; cases h <;> rfl)
def ti91 : TI := ⟨sh91, .st [.lf (.string ⟨#[]⟩), .sl true .one [], .sl true sh207 [], .sl true sh211 [], .sl true sh219 [], .sl true sh227 []], [.string ⟨#[]⟩, .slice none 0 0, .slice none 0 0, .slice none 0 0, .slice none 0 0, .slice none 0 0], 136, .st [(9, .one), (43, .one), (86, .one), (87, .one), (88, .one), (89, .one)]⟩
theorem tk91 : TyOk Tryz.prog 91 ti91 := TyOk.of (by kernel_rfl) rfl (by kernel_rfl) rfl (by intro fl h; cases h <;> rfl)
def ti22 : TI := ⟨.one, .sl true sh91 [], [.slice none 0 0], 24, .sl 91 sh91⟩
theorem tk22 : TyOk Tryz.prog 22 ti22 := TyOk.of (by kernel_rfl) rfl (by kernel_rfl) rfl (by intro fl h; cases h <;> rfl)
def ti24 : TI := ⟨sh24, .st [.sl true sh91 []], [.slice none 0 0], 24, .st [(22, .one)]⟩
theorem tk24 : TyOk Tryz.prog 24 ti24 := TyOk.of (by kernel_rfl) rfl (by kernel_rfl) rfl (by intro fl h; cases h <;> rfl)
def ti40 : TI := ⟨sh40, .st [.lf (.int .i64 0), .lf (.int .i64 0), .lf (.string ⟨#[]⟩), .lf (.string ⟨#[]⟩)], [.int .i64 0, .int .i64 0, .string ⟨#[]⟩, .string ⟨#[]⟩], 48, .st [(3, .one), (3, .one), (9, .one), (9, .one)]⟩
theorem tk40 : TyOk Tryz.prog 40 ti40 := TyOk.of (by kernel_rfl) rfl (by kernel_rfl) rfl (by intro fl h; cases h <;> rfl)
def ti26 : TI := ⟨.one, .sl true sh40 [], [.slice none 0 0], 24, .sl 40 sh40⟩
theorem tk26 : TyOk Tryz.prog 26 ti26 := TyOk.of (by kernel_rfl) rfl (by kernel_rfl) rfl (by intro fl h; cases h <;> rfl)
def ti65 : TI := ⟨sh65, .st [.lf (.int .i64 0), .lf (.string ⟨#[]⟩), .sl true sh65 []], [.int .i64 0, .string ⟨#[]⟩, .slice none 0 0], 48, .st [(3, .one), (9, .one), (63, .one)]⟩
theorem tk65 : TyOk Tryz.prog 65 ti65 := TyOk.of (by kernel_rfl) rfl (by kernel_rfl) rfl (by intro fl h; cases h <;> rfl)
def ti63 : TI := ⟨.one, .sl true sh65 [], [.slice none 0 0], 24, .sl 65 sh65⟩
theorem tk63 : TyOk Tryz.prog 63 ti63 := TyOk.of (by kernel_rfl) rfl (by kernel_rfl) rfl (by intro fl h; cases h <;> rfl)
def ti72 : TI := ⟨.one, .sl true sh75 [], [.slice none 0 0], 24, .sl 75 sh75⟩
theorem tk72 : TyOk Tryz.prog 72 ti72 := TyOk.of (by kernel_rfl) rfl (by kernel_rfl) rfl (by intro fl h; cases h <;> rfl)
def ti172 : TI := ⟨sh172, .st [.lf (.string ⟨#[]⟩), .sl true .one [], .st [.lf (.int .i64 0), .lf (.string ⟨#[]⟩), .lf (.string ⟨#[]⟩), .lf (.int .i64 0), .st [.lf (.int .i64 0), .lf (.string ⟨#[]⟩), .sl true sh65 []], .sl true sh75 [], .sl true sh172 []]], [.string ⟨#[]⟩, .slice none 0 0, .int .i64 0, .string ⟨#[]⟩, .string ⟨#[]⟩, .int .i64 0, .int .i64 0, .string ⟨#[]⟩, .slice none 0 0, .slice none 0 0, .slice none 0 0], 184, .st [(9, .one), (43, .one), (75, sh75)]⟩
theorem tk172 : TyOk Tryz.prog 172 ti172 := TyOk.of (by kernel_rfl) rfl (by kernel_rfl) rfl (by intro fl h; cases h <;> rfl)
def ti73 : TI := ⟨.one, .sl true sh172 [], [.slice none 0 0], 24, .sl 172 sh172⟩
theorem tk73 : TyOk Tryz.prog 73 ti73 := TyOk.of (by kernel_rfl) rfl (by kernel_rfl) rfl (by intro fl h; cases h <;> rfl)
def ti75 : TI := ⟨sh75, .st [.lf (.int .i64 0), .lf (.string ⟨#[]⟩), .lf (.string ⟨#[]⟩), .lf (.int .i64 0), .st [.lf (.int .i64 0), .lf (.string ⟨#[]⟩), .sl true sh65 []], .sl true sh75 [], .sl true sh172 []], [.int .i64 0, .string ⟨#[]⟩, .string ⟨#[]⟩, .int .i64 0, .int .i64 0, .string ⟨#[]⟩, .slice none 0 0, .slice none 0 0, .slice none 0 0], 144, .st [(3, .one), (9, .one), (9, .one), (3, .one), (65, sh65), (72, .one), (73, .one)]⟩
theorem tk75 : TyOk Tryz.prog 75 ti75 := TyOk.of (by kernel_rfl) rfl (by kernel_rfl) rfl (by intro fl h; cases h <;> rfl)
def ti109 : TI := ⟨sh109, .st [.lf (.string ⟨#[]⟩), .sl true sh65 [], .st [.lf (.int .i64 0), .lf (.string ⟨#[]⟩), .sl true sh65 []], .lf (.bool false), .sl true .one [], .st [.lf (.int .i64 0), .lf (.string ⟨#[]⟩), .lf (.string ⟨#[]⟩), .lf (.int .i64 0), .st [.lf (.int .i64 0), .lf (.string ⟨#[]⟩), .sl true sh65 []], .sl true sh75 [], .sl true sh172 []]], [.string ⟨#[]⟩, .slice none 0 0, .int .i64 0, .string ⟨#[]⟩, .slice none 0 0, .bool false, .slice none 0 0, .int .i64 0, .string ⟨#[]⟩, .string ⟨#[]⟩, .int .i64 0, .int .i64 0, .string ⟨#[]⟩, .slice none 0 0, .slice none 0 0, .slice none 0 0], 264, .st [(9, .one), (63, .one), (65, sh65), (4, .one), (43, .one), (75, sh75)]⟩
theorem tk109 : TyOk Tryz.prog 109 ti109 := TyOk.of (by kernel_rfl) rfl (by kernel_rfl) rfl (by intro fl h; cases h <;> rfl)
def ti55 : TI := ⟨.one, .sl true sh109 [], [.slice none 0 0], 24, .sl 109 sh109⟩
theorem tk55 : TyOk Tryz.prog 55 ti55 := TyOk.of (by kernel_rfl) rfl (by kernel_rfl) rfl (by intro fl h; cases h <;> rfl)
def ti57 : TI := ⟨sh57, .st [.lf (.string ⟨#[]⟩), .sl true .one [], .lf (.bool false), .lf (.bool false), .sl true sh109 []], [.string ⟨#[]⟩, .slice none 0 0, .bool false, .bool false, .slice none 0 0], 72, .st [(9, .one), (43, .one), (4, .one), (4, .one), (55, .one)]⟩
theorem tk57 : TyOk Tryz.prog 57 ti57 := TyOk.of (by kernel_rfl) rfl (by kernel_rfl) rfl (by intro fl h; cases h <;> rfl)
def ti44 : TI := ⟨.one, .sl true sh57 [], [.slice none 0 0], 24, .sl 57 sh57⟩
theorem tk44 : TyOk Tryz.prog 44 ti44 := TyOk.of (by kernel_rfl) rfl (by kernel_rfl) rfl (by intro fl h; cases h <;> rfl)
def ti116 : TI := ⟨sh116, .st [.lf (.string ⟨#[]⟩), .sl true sh65 []], [.string ⟨#[]⟩, .slice none 0 0], 40, .st [(9, .one), (63, .one)]⟩
theorem tk116 : TyOk Tryz.prog 116 ti116 := TyOk.of (by kernel_rfl) rfl (by kernel_rfl) rfl (by intro fl h; cases h <;> rfl)
def ti59 : TI := ⟨.one, .sl true sh116 [], [.slice none 0 0], 24, .sl 116 sh116⟩
theorem tk59 : TyOk Tryz.prog 59 ti59 := TyOk.of (by kernel_rfl) rfl (by kernel_rfl) rfl (by intro fl h; cases h <;> rfl)
def ti61 : TI := ⟨sh61, .st [.lf (.string ⟨#[]⟩), .sl true .one [], .sl true sh116 []], [.string ⟨#[]⟩, .slice none 0 0, .slice none 0 0], 64, .st [(9, .one), (43, .one), (59, .one)]⟩
theorem tk61 : TyOk Tryz.prog 61 ti61 := TyOk.of (by kernel_rfl) rfl (by kernel_rfl) rfl (by intro fl h; cases h <;> rfl)
def ti45 : TI := ⟨.one, .sl true sh61 [], [.slice none 0 0], 24, .sl 61 sh61⟩
theorem tk45 : TyOk Tryz.prog 45 ti45 := TyOk.of (by kernel_rfl) rfl (by kernel_rfl) rfl (by intro fl h; cases h <;> rfl)
def ti174 : TI := ⟨sh174, .st [.lf (.string ⟨#[]⟩), .st [.lf (.int .i64 0), .lf (.string ⟨#[]⟩), .sl true sh65 []]], [.string ⟨#[]⟩, .int .i64 0, .string ⟨#[]⟩, .slice none 0 0], 64, .st [(9, .one), (65, sh65)]⟩
theorem tk174 : TyOk Tryz.prog 174 ti174 := TyOk.of (by kernel_rfl) rfl (by kernel_rfl) rfl (by intro fl h; cases h <;> rfl)
def ti66 : TI := ⟨.one, .sl true sh174 [], [.slice none 0 0], 24, .sl 174 sh174⟩
theorem tk66 : TyOk Tryz.prog 66 ti66 := TyOk.of (by kernel_rfl) rfl (by kernel_rfl) rfl (by intro fl h; cases h <;> rfl)
def ti120 : TI := ⟨sh120, .st [.lf (.string ⟨#[]⟩), .sl true .one [], .st [.lf (.int .i64 0), .lf (.string ⟨#[]⟩), .lf (.string ⟨#[]⟩), .lf (.int .i64 0), .st [.lf (.int .i64 0), .lf (.string ⟨#[]⟩), .sl true sh65 []], .sl true sh75 [], .sl true sh172 []]], [.string ⟨#[]⟩, .slice none 0 0, .int .i64 0, .string ⟨#[]⟩, .string ⟨#[]⟩, .int .i64 0, .int .i64 0, .string ⟨#[]⟩, .slice none 0 0, .slice none 0 0, .slice none 0 0], 184, .st [(9, .one), (43, .one), (75, sh75)]⟩
theorem tk120 : TyOk Tryz.prog 120 ti120 := TyOk.of (by kernel_rfl) rfl (by kernel_rfl) rfl (by intro fl h; cases h <;> rfl)
def ti67 : TI := ⟨.one, .sl true sh120 [], [.slice none 0 0], 24, .sl 120 sh120⟩
theorem tk67 : TyOk Tryz.prog 67 ti67 := TyOk.of (by kernel_rfl) rfl (by kernel_rfl) rfl (by intro fl h; cases h <;> rfl)
def ti69 : TI := ⟨sh69, .st [.lf (.string ⟨#[]⟩), .sl true .one [], .st [.lf (.int .i64 0), .lf (.string ⟨#[]⟩), .sl true sh65 []], .sl true sh174 [], .lf (.bool false), .lf (.bool false), .st [.lf (.int .i64 0), .lf (.string ⟨#[]⟩), .sl true sh65 []], .sl true sh120 []], [.string ⟨#[]⟩, .slice none 0 0, .int .i64 0, .string ⟨#[]⟩, .slice none 0 0, .slice none 0 0, .bool false, .bool false, .int .i64 0, .string ⟨#[]⟩, .slice none 0 0, .slice none 0 0], 192, .st [(9, .one), (43, .one), (65, sh65), (66, .one), (4, .one), (4, .one), (65, sh65), (67, .one)]⟩
theorem tk69 : TyOk Tryz.prog 69 ti69 := TyOk.of (by kernel_rfl) rfl (by kernel_rfl) rfl (by intro fl h; cases h <;> rfl)
def ti46 : TI := ⟨.one, .sl true sh69 [], [.slice none 0 0], 24, .sl 69 sh69⟩
theorem tk46 : TyOk Tryz.prog 46 ti46 := TyOk.of (by kernel_rfl) rfl (by kernel_rfl) rfl (by intro fl h; cases h <;> rfl)
def ti153 : TI := ⟨sh153, .st [.lf (.string ⟨#[]⟩), .st [.lf (.int .i64 0), .lf (.string ⟨#[]⟩), .sl true sh65 []]], [.string ⟨#[]⟩, .int .i64 0, .string ⟨#[]⟩, .slice none 0 0], 64, .st [(9, .one), (65, sh65)]⟩
theorem tk153 : TyOk Tryz.prog 153 ti153 := TyOk.of (by kernel_rfl) rfl (by kernel_rfl) rfl (by intro fl h; cases h <;> rfl)
def ti71 : TI := ⟨.one, .sl true sh153 [], [.slice none 0 0], 24, .sl 153 sh153⟩
theorem tk71 : TyOk Tryz.prog 71 ti71 := TyOk.of (by kernel_rfl) rfl (by kernel_rfl) rfl (by intro fl h; cases h <;> rfl)
def ti77 : TI := ⟨sh77, .st [.lf (.string ⟨#[]⟩), .sl true .one [], .sl true sh174 [], .sl true sh153 [], .st [.lf (.int .i64 0), .lf (.string ⟨#[]⟩), .sl true sh65 []], .st [.lf (.int .i64 0), .lf (.string ⟨#[]⟩), .lf (.string ⟨#[]⟩), .lf (.int .i64 0), .st [.lf (.int .i64 0), .lf (.string ⟨#[]⟩), .sl true sh65 []], .sl true sh75 [], .sl true sh172 []]], [.string ⟨#[]⟩, .slice none 0 0, .slice none 0 0, .slice none 0 0, .int .i64 0, .string ⟨#[]⟩, .slice none 0 0, .int .i64 0, .string ⟨#[]⟩, .string ⟨#[]⟩, .int .i64 0, .int .i64 0, .string ⟨#[]⟩, .slice none 0 0, .slice none 0 0, .slice none 0 0], 280, .st [(9, .one), (43, .one), (66, .one), (71, .one), (65, sh65), (75, sh75)]⟩
theorem tk77 : TyOk Tryz.prog 77 ti77 := TyOk.of (by kernel_rfl) rfl (by kernel_rfl) rfl (by intro fl h; cases h <;> rfl)
def ti47 : TI := ⟨.one, .sl true sh77 [], [.slice none 0 0], 24, .sl 77 sh77⟩
theorem tk47 : TyOk Tryz.prog 47 ti47 := TyOk.of (by kernel_rfl) rfl (by kernel_rfl) rfl (by intro fl h; cases h <;> rfl)
def ti49 : TI := ⟨sh49, .st [.lf (.string ⟨#[]⟩), .sl true .one [], .sl true sh57 [], .sl true sh61 [], .sl true sh69 [], .sl true sh77 []], [.string ⟨#[]⟩, .slice none 0 0, .slice none 0 0, .slice none 0 0, .slice none 0 0, .slice none 0 0], 136, .st [(9, .one), (43, .one), (44, .one), (45, .one), (46, .one), (47, .one)]⟩
theorem tk49 : TyOk Tryz.prog 49 ti49 := TyOk.of (by kernel_rfl) rfl (by kernel_rfl) rfl (by intro fl h; cases h <;> rfl)
def ti28 : TI := ⟨.one, .sl true sh49 [], [.slice none 0 0], 24, .sl 49 sh49⟩
theorem tk28 : TyOk Tryz.prog 28 ti28 := TyOk.of (by kernel_rfl) rfl (by kernel_rfl) rfl (by intro fl h; cases h <;> rfl)
def ti30 : TI := ⟨sh30, .st [.sl true sh49 []], [.slice none 0 0], 24, .st [(28, .one)]⟩
theorem tk30 : TyOk Tryz.prog 30 ti30 := TyOk.of (by kernel_rfl) rfl (by kernel_rfl) rfl (by intro fl h; cases h <;> rfl)
def ti50 : TI := ⟨.one, .sl true .one [], [.slice none 0 0], 24, .sl 3 .one⟩
theorem tk50 : TyOk Tryz.prog 50 ti50 := TyOk.of (by kernel_rfl) rfl (by kernel_rfl) rfl (by intro fl h; cases h <;> rfl)
def ti52 : TI := ⟨sh52, .st [.st [.sl true sh49 []], .sl true .one []], [.slice none 0 0, .slice none 0 0], 48, .st [(30, sh30), (50, .one)]⟩
theorem tk52 : TyOk Tryz.prog 52 ti52 := TyOk.of (by kernel_rfl) rfl (by kernel_rfl) rfl (by intro fl h; cases h <;> rfl)
def ti129 : TI := ⟨.one, .sl true .one [], [.slice none 0 0], 24, .sl 5 .one⟩
theorem tk129 : TyOk Tryz.prog 129 ti129 := TyOk.of (by kernel_rfl) rfl (by kernel_rfl) rfl (by intro fl h; cases h <;> rfl)
def ti166 : TI := ⟨.one, .sl true .one [], [.slice none 0 0], 24, .sl 4 .one⟩
theorem tk166 : TyOk Tryz.prog 166 ti166 := TyOk.of (by kernel_rfl) rfl (by kernel_rfl) rfl (by intro fl h; cases h <;> rfl)
def ti180 : TI := ⟨sh180, .st [.sl true .one [], .sl true .one [], .sl true .one [], .sl true .one []], [.slice none 0 0, .slice none 0 0, .slice none 0 0, .slice none 0 0], 96, .ar 4 43 .one⟩
theorem tk180 : TyOk Tryz.prog 180 ti180 := TyOk.of (by kernel_rfl) rfl (by kernel_rfl) rfl (by intro fl h; cases h <;> rfl)
def ti344 : TI := ⟨.one, .sl true .one [], [.slice none 0 0], 24, .sl 50 .one⟩
theorem tk344 : TyOk Tryz.prog 344 ti344 := TyOk.of (by kernel_rfl) rfl (by kernel_rfl) rfl (by intro fl h; cases h <;> rfl)
def ti422 : TI := ⟨.one, .sl true .one [], [.slice none 0 0], 24, .sl 43 .one⟩
theorem tk422 : TyOk Tryz.prog 422 ti422 := TyOk.of (by kernel_rfl) rfl (by kernel_rfl) rfl (by intro fl h; cases h <;> rfl)
def ti435 : TI := ⟨.one, .lf (.int .u32 0), [.int .u32 0], 4, .int .u32⟩
theorem tk435 : TyOk Tryz.prog 435 ti435 := TyOk.of (by kernel_rfl) rfl (by kernel_rfl) rfl (by intro fl h; cases h <;> rfl)
def tyF : Nat → Option TI
 | 3 => some ti3
 | 4 => some ti4
 | 5 => some ti5
 | 9 => some ti9
 | 43 => some ti43
 | 215 => some ti215
 | 213 => some ti213
 | 222 => some ti222
 | 388 => some ti388
 | 223 => some ti223
 | 225 => some ti225
 | 328 => some ti328
 | 205 => some ti205
 | 207 => some ti207
 | 86 => some ti86
 | 331 => some ti331
 | 209 => some ti209
 | 211 => some ti211
 | 87 => some ti87
 | 335 => some ti335
 | 216 => some ti216
 | 338 => some ti338
 | 217 => some ti217
 | 219 => some ti219
 | 88 => some ti88
 | 341 => some ti341
 | 221 => some ti221
 | 227 => some ti227
 | 89 => some ti89
 | 91 => some ti91
 | 22 => some ti22
 | 24 => some ti24
 | 40 => some ti40
 | 26 => some ti26
 | 65 => some ti65
 | 63 => some ti63
 | 72 => some ti72
 | 172 => some ti172
 | 73 => some ti73
 | 75 => some ti75
 | 109 => some ti109
 | 55 => some ti55
 | 57 => some ti57
 | 44 => some ti44
 | 116 => some ti116
 | 59 => some ti59
 | 61 => some ti61
 | 45 => some ti45
 | 174 => some ti174
 | 66 => some ti66
 | 120 => some ti120
 | 67 => some ti67
 | 69 => some ti69
 | 46 => some ti46
 | 153 => some ti153
 | 71 => some ti71
 | 77 => some ti77
 | 47 => some ti47
 | 49 => some ti49
 | 28 => some ti28
 | 30 => some ti30
 | 50 => some ti50
 | 52 => some ti52
 | 129 => some ti129
 | 166 => some ti166
 | 180 => some ti180
 | 344 => some ti344
 | 422 => some ti422
 | 435 => some ti435
 | _ => none
theorem tyF_ok : ∀ T ti, tyF T = some ti → TyOk Tryz.prog T ti := by
 intro T ti h
 unfold tyF at h
 split at h <;> first | (cases h; done) | (cases h; first | exact tk3 | exact tk4 | exact tk5 | exact tk9 | exact tk43 | exact tk215 | exact tk213 | exact tk222 | exact tk388 | exact tk223 | exact tk225 | exact tk328 | exact tk205 | exact tk207 | exact tk86 | exact tk331 | exact tk209 | exact tk211 | exact tk87 | exact tk335 | exact tk216 | exact tk338 | exact tk217 | exact tk219 | exact tk88 | exact tk341 | exact tk221 | exact tk227 | exact tk89 | exact tk91 | exact tk22 | exact tk24 | exact tk40 | exact tk26 | exact tk65 | exact tk63 | exact tk72 | exact tk172 | exact tk73 | exact tk75 | exact tk109 | exact tk55 | exact tk57 | exact tk44 | exact tk116 | exact tk59 | exact tk61 | exact tk45 | exact tk174 | exact tk66 | exact tk120 | exact tk67 | exact tk69 | exact tk46 | exact tk153 | exact tk71 | exact tk77 | exact tk47 | exact tk49 | exact tk28 | exact tk30 | exact tk50 | exact tk52 | exact tk129 | exact tk166 | exact tk180 | exact tk344 | exact tk422 | exact tk435)
noncomputable def cx : Cx := ⟨Tryz.prog, tyF, tyF_ok⟩
theorem ty3 : cx.ty 3 = some ⟨.one, .lf (.int .i64 0), [.int .i64 0], 8, .int .i64⟩ := rfl
theorem ty4 : cx.ty 4 = some ⟨.one, .lf (.bool false), [.bool false], 1, .bool⟩ := rfl
theorem ty5 : cx.ty 5 = some ⟨.one, .lf (.int .u8 0), [.int .u8 0], 1, .int .u8⟩ := rfl
theorem ty9 : cx.ty 9 = some ⟨.one, .lf (.string ⟨#[]⟩), [.string ⟨#[]⟩], 16, .str⟩ := rfl
theorem ty43 : cx.ty 43 = some ⟨.one, .sl true .one [], [.slice none 0 0], 24, .sl 9 .one⟩ := rfl
theorem ty215 : cx.ty 215 = some ⟨sh215, .st [.lf (.int .i64 0), .lf (.string ⟨#[]⟩), .sl true sh215 []], [.int .i64 0, .string ⟨#[]⟩, .slice none 0 0], 48, .st [(3, .one), (9, .one), (213, .one)]⟩ := rfl
theorem ty213 : cx.ty 213 = some ⟨.one, .sl true sh215 [], [.slice none 0 0], 24, .sl 215 sh215⟩ := rfl
theorem ty222 : cx.ty 222 = some ⟨.one, .sl true sh225 [], [.slice none 0 0], 24, .sl 225 sh225⟩ := rfl
theorem ty388 : cx.ty 388 = some ⟨sh388, .st [.lf (.string ⟨#[]⟩), .sl true .one [], .st [.lf (.int .i64 0), .lf (.string ⟨#[]⟩), .lf (.string ⟨#[]⟩), .lf (.int .i64 0), .st [.lf (.int .i64 0), .lf (.string ⟨#[]⟩), .sl true sh215 []], .sl true sh225 [], .sl true sh388 []]], [.string ⟨#[]⟩, .slice none 0 0, .int .i64 0, .string ⟨#[]⟩, .string ⟨#[]⟩, .int .i64 0, .int .i64 0, .string ⟨#[]⟩, .slice none 0 0, .slice none 0 0, .slice none 0 0], 184, .st [(9, .one), (43, .one), (225, sh225)]⟩ := rfl
theorem ty223 : cx.ty 223 = some ⟨.one, .sl true sh388 [], [.slice none 0 0], 24, .sl 388 sh388⟩ := rfl
theorem ty225 : cx.ty 225 = some ⟨sh225, .st [.lf (.int .i64 0), .lf (.string ⟨#[]⟩), .lf (.string ⟨#[]⟩), .lf (.int .i64 0), .st [.lf (.int .i64 0), .lf (.string ⟨#[]⟩), .sl true sh215 []], .sl true sh225 [], .sl true sh388 []], [.int .i64 0, .string ⟨#[]⟩, .string ⟨#[]⟩, .int .i64 0, .int .i64 0, .string ⟨#[]⟩, .slice none 0 0, .slice none 0 0, .slice none 0 0], 144, .st [(3, .one), (9, .one), (9, .one), (3, .one), (215, sh215), (222, .one), (223, .one)]⟩ := rfl
theorem ty328 : cx.ty 328 = some ⟨sh328, .st [.lf (.string ⟨#[]⟩), .sl true sh215 [], .st [.lf (.int .i64 0), .lf (.string ⟨#[]⟩), .sl true sh215 []], .lf (.bool false), .sl true .one [], .st [.lf (.int .i64 0), .lf (.string ⟨#[]⟩), .lf (.string ⟨#[]⟩), .lf (.int .i64 0), .st [.lf (.int .i64 0), .lf (.string ⟨#[]⟩), .sl true sh215 []], .sl true sh225 [], .sl true sh388 []]], [.string ⟨#[]⟩, .slice none 0 0, .int .i64 0, .string ⟨#[]⟩, .slice none 0 0, .bool false, .slice none 0 0, .int .i64 0, .string ⟨#[]⟩, .string ⟨#[]⟩, .int .i64 0, .int .i64 0, .string ⟨#[]⟩, .slice none 0 0, .slice none 0 0, .slice none 0 0], 264, .st [(9, .one), (213, .one), (215, sh215), (4, .one), (43, .one), (225, sh225)]⟩ := rfl
theorem ty205 : cx.ty 205 = some ⟨.one, .sl true sh328 [], [.slice none 0 0], 24, .sl 328 sh328⟩ := rfl
theorem ty207 : cx.ty 207 = some ⟨sh207, .st [.lf (.string ⟨#[]⟩), .sl true .one [], .lf (.bool false), .lf (.bool false), .sl true sh328 []], [.string ⟨#[]⟩, .slice none 0 0, .bool false, .bool false, .slice none 0 0], 72, .st [(9, .one), (43, .one), (4, .one), (4, .one), (205, .one)]⟩ := rfl
theorem ty86 : cx.ty 86 = some ⟨.one, .sl true sh207 [], [.slice none 0 0], 24, .sl 207 sh207⟩ := rfl
theorem ty331 : cx.ty 331 = some ⟨sh331, .st [.lf (.string ⟨#[]⟩), .sl true sh215 []], [.string ⟨#[]⟩, .slice none 0 0], 40, .st [(9, .one), (213, .one)]⟩ := rfl
theorem ty209 : cx.ty 209 = some ⟨.one, .sl true sh331 [], [.slice none 0 0], 24, .sl 331 sh331⟩ := rfl
theorem ty211 : cx.ty 211 = some ⟨sh211, .st [.lf (.string ⟨#[]⟩), .sl true .one [], .sl true sh331 []], [.string ⟨#[]⟩, .slice none 0 0, .slice none 0 0], 64, .st [(9, .one), (43, .one), (209, .one)]⟩ := rfl
theorem ty87 : cx.ty 87 = some ⟨.one, .sl true sh211 [], [.slice none 0 0], 24, .sl 211 sh211⟩ := rfl
theorem ty335 : cx.ty 335 = some ⟨sh335, .st [.lf (.string ⟨#[]⟩), .st [.lf (.int .i64 0), .lf (.string ⟨#[]⟩), .sl true sh215 []]], [.string ⟨#[]⟩, .int .i64 0, .string ⟨#[]⟩, .slice none 0 0], 64, .st [(9, .one), (215, sh215)]⟩ := rfl
theorem ty216 : cx.ty 216 = some ⟨.one, .sl true sh335 [], [.slice none 0 0], 24, .sl 335 sh335⟩ := rfl
theorem ty338 : cx.ty 338 = some ⟨sh338, .st [.lf (.string ⟨#[]⟩), .sl true .one [], .st [.lf (.int .i64 0), .lf (.string ⟨#[]⟩), .lf (.string ⟨#[]⟩), .lf (.int .i64 0), .st [.lf (.int .i64 0), .lf (.string ⟨#[]⟩), .sl true sh215 []], .sl true sh225 [], .sl true sh388 []]], [.string ⟨#[]⟩, .slice none 0 0, .int .i64 0, .string ⟨#[]⟩, .string ⟨#[]⟩, .int .i64 0, .int .i64 0, .string ⟨#[]⟩, .slice none 0 0, .slice none 0 0, .slice none 0 0], 184, .st [(9, .one), (43, .one), (225, sh225)]⟩ := rfl
theorem ty217 : cx.ty 217 = some ⟨.one, .sl true sh338 [], [.slice none 0 0], 24, .sl 338 sh338⟩ := rfl
theorem ty219 : cx.ty 219 = some ⟨sh219, .st [.lf (.string ⟨#[]⟩), .sl true .one [], .st [.lf (.int .i64 0), .lf (.string ⟨#[]⟩), .sl true sh215 []], .sl true sh335 [], .lf (.bool false), .lf (.bool false), .st [.lf (.int .i64 0), .lf (.string ⟨#[]⟩), .sl true sh215 []], .sl true sh338 []], [.string ⟨#[]⟩, .slice none 0 0, .int .i64 0, .string ⟨#[]⟩, .slice none 0 0, .slice none 0 0, .bool false, .bool false, .int .i64 0, .string ⟨#[]⟩, .slice none 0 0, .slice none 0 0], 192, .st [(9, .one), (43, .one), (215, sh215), (216, .one), (4, .one), (4, .one), (215, sh215), (217, .one)]⟩ := rfl
theorem ty88 : cx.ty 88 = some ⟨.one, .sl true sh219 [], [.slice none 0 0], 24, .sl 219 sh219⟩ := rfl
theorem ty341 : cx.ty 341 = some ⟨sh341, .st [.lf (.string ⟨#[]⟩), .st [.lf (.int .i64 0), .lf (.string ⟨#[]⟩), .sl true sh215 []]], [.string ⟨#[]⟩, .int .i64 0, .string ⟨#[]⟩, .slice none 0 0], 64, .st [(9, .one), (215, sh215)]⟩ := rfl
theorem ty221 : cx.ty 221 = some ⟨.one, .sl true sh341 [], [.slice none 0 0], 24, .sl 341 sh341⟩ := rfl
theorem ty227 : cx.ty 227 = some ⟨sh227, .st [.lf (.string ⟨#[]⟩), .sl true .one [], .sl true sh335 [], .sl true sh341 [], .st [.lf (.int .i64 0), .lf (.string ⟨#[]⟩), .sl true sh215 []], .st [.lf (.int .i64 0), .lf (.string ⟨#[]⟩), .lf (.string ⟨#[]⟩), .lf (.int .i64 0), .st [.lf (.int .i64 0), .lf (.string ⟨#[]⟩), .sl true sh215 []], .sl true sh225 [], .sl true sh388 []]], [.string ⟨#[]⟩, .slice none 0 0, .slice none 0 0, .slice none 0 0, .int .i64 0, .string ⟨#[]⟩, .slice none 0 0, .int .i64 0, .string ⟨#[]⟩, .string ⟨#[]⟩, .int .i64 0, .int .i64 0, .string ⟨#[]⟩, .slice none 0 0, .slice none 0 0, .slice none 0 0], 280, .st [(9, .one), (43, .one), (216, .one), (221, .one), (215, sh215), (225, sh225)]⟩ := rfl
theorem ty89 : cx.ty 89 = some ⟨.one, .sl true sh227 [], [.slice none 0 0], 24, .sl 227 sh227⟩ := rfl
theorem ty91 : cx.ty 91 = some ⟨sh91, .st [.lf (.string ⟨#[]⟩), .sl true .one [], .sl true sh207 [], .sl true sh211 [], .sl true sh219 [], .sl true sh227 []], [.string ⟨#[]⟩, .slice none 0 0, .slice none 0 0, .slice none 0 0, .slice none 0 0, .slice none 0 0], 136, .st [(9, .one), (43, .one), (86, .one), (87, .one), (88, .one), (89, .one)]⟩ := rfl
theorem ty22 : cx.ty 22 = some ⟨.one, .sl true sh91 [], [.slice none 0 0], 24, .sl 91 sh91⟩ := rfl
theorem ty24 : cx.ty 24 = some ⟨sh24, .st [.sl true sh91 []], [.slice none 0 0], 24, .st [(22, .one)]⟩ := rfl
theorem ty40 : cx.ty 40 = some ⟨sh40, .st [.lf (.int .i64 0), .lf (.int .i64 0), .lf (.string ⟨#[]⟩), .lf (.string ⟨#[]⟩)], [.int .i64 0, .int .i64 0, .string ⟨#[]⟩, .string ⟨#[]⟩], 48, .st [(3, .one), (3, .one), (9, .one), (9, .one)]⟩ := rfl
theorem ty26 : cx.ty 26 = some ⟨.one, .sl true sh40 [], [.slice none 0 0], 24, .sl 40 sh40⟩ := rfl
theorem ty65 : cx.ty 65 = some ⟨sh65, .st [.lf (.int .i64 0), .lf (.string ⟨#[]⟩), .sl true sh65 []], [.int .i64 0, .string ⟨#[]⟩, .slice none 0 0], 48, .st [(3, .one), (9, .one), (63, .one)]⟩ := rfl
theorem ty63 : cx.ty 63 = some ⟨.one, .sl true sh65 [], [.slice none 0 0], 24, .sl 65 sh65⟩ := rfl
theorem ty72 : cx.ty 72 = some ⟨.one, .sl true sh75 [], [.slice none 0 0], 24, .sl 75 sh75⟩ := rfl
theorem ty172 : cx.ty 172 = some ⟨sh172, .st [.lf (.string ⟨#[]⟩), .sl true .one [], .st [.lf (.int .i64 0), .lf (.string ⟨#[]⟩), .lf (.string ⟨#[]⟩), .lf (.int .i64 0), .st [.lf (.int .i64 0), .lf (.string ⟨#[]⟩), .sl true sh65 []], .sl true sh75 [], .sl true sh172 []]], [.string ⟨#[]⟩, .slice none 0 0, .int .i64 0, .string ⟨#[]⟩, .string ⟨#[]⟩, .int .i64 0, .int .i64 0, .string ⟨#[]⟩, .slice none 0 0, .slice none 0 0, .slice none 0 0], 184, .st [(9, .one), (43, .one), (75, sh75)]⟩ := rfl
theorem ty73 : cx.ty 73 = some ⟨.one, .sl true sh172 [], [.slice none 0 0], 24, .sl 172 sh172⟩ := rfl
theorem ty75 : cx.ty 75 = some ⟨sh75, .st [.lf (.int .i64 0), .lf (.string ⟨#[]⟩), .lf (.string ⟨#[]⟩), .lf (.int .i64 0), .st [.lf (.int .i64 0), .lf (.string ⟨#[]⟩), .sl true sh65 []], .sl true sh75 [], .sl true sh172 []], [.int .i64 0, .string ⟨#[]⟩, .string ⟨#[]⟩, .int .i64 0, .int .i64 0, .string ⟨#[]⟩, .slice none 0 0, .slice none 0 0, .slice none 0 0], 144, .st [(3, .one), (9, .one), (9, .one), (3, .one), (65, sh65), (72, .one), (73, .one)]⟩ := rfl
theorem ty109 : cx.ty 109 = some ⟨sh109, .st [.lf (.string ⟨#[]⟩), .sl true sh65 [], .st [.lf (.int .i64 0), .lf (.string ⟨#[]⟩), .sl true sh65 []], .lf (.bool false), .sl true .one [], .st [.lf (.int .i64 0), .lf (.string ⟨#[]⟩), .lf (.string ⟨#[]⟩), .lf (.int .i64 0), .st [.lf (.int .i64 0), .lf (.string ⟨#[]⟩), .sl true sh65 []], .sl true sh75 [], .sl true sh172 []]], [.string ⟨#[]⟩, .slice none 0 0, .int .i64 0, .string ⟨#[]⟩, .slice none 0 0, .bool false, .slice none 0 0, .int .i64 0, .string ⟨#[]⟩, .string ⟨#[]⟩, .int .i64 0, .int .i64 0, .string ⟨#[]⟩, .slice none 0 0, .slice none 0 0, .slice none 0 0], 264, .st [(9, .one), (63, .one), (65, sh65), (4, .one), (43, .one), (75, sh75)]⟩ := rfl
theorem ty55 : cx.ty 55 = some ⟨.one, .sl true sh109 [], [.slice none 0 0], 24, .sl 109 sh109⟩ := rfl
theorem ty57 : cx.ty 57 = some ⟨sh57, .st [.lf (.string ⟨#[]⟩), .sl true .one [], .lf (.bool false), .lf (.bool false), .sl true sh109 []], [.string ⟨#[]⟩, .slice none 0 0, .bool false, .bool false, .slice none 0 0], 72, .st [(9, .one), (43, .one), (4, .one), (4, .one), (55, .one)]⟩ := rfl
theorem ty44 : cx.ty 44 = some ⟨.one, .sl true sh57 [], [.slice none 0 0], 24, .sl 57 sh57⟩ := rfl
theorem ty116 : cx.ty 116 = some ⟨sh116, .st [.lf (.string ⟨#[]⟩), .sl true sh65 []], [.string ⟨#[]⟩, .slice none 0 0], 40, .st [(9, .one), (63, .one)]⟩ := rfl
theorem ty59 : cx.ty 59 = some ⟨.one, .sl true sh116 [], [.slice none 0 0], 24, .sl 116 sh116⟩ := rfl
theorem ty61 : cx.ty 61 = some ⟨sh61, .st [.lf (.string ⟨#[]⟩), .sl true .one [], .sl true sh116 []], [.string ⟨#[]⟩, .slice none 0 0, .slice none 0 0], 64, .st [(9, .one), (43, .one), (59, .one)]⟩ := rfl
theorem ty45 : cx.ty 45 = some ⟨.one, .sl true sh61 [], [.slice none 0 0], 24, .sl 61 sh61⟩ := rfl
theorem ty174 : cx.ty 174 = some ⟨sh174, .st [.lf (.string ⟨#[]⟩), .st [.lf (.int .i64 0), .lf (.string ⟨#[]⟩), .sl true sh65 []]], [.string ⟨#[]⟩, .int .i64 0, .string ⟨#[]⟩, .slice none 0 0], 64, .st [(9, .one), (65, sh65)]⟩ := rfl
theorem ty66 : cx.ty 66 = some ⟨.one, .sl true sh174 [], [.slice none 0 0], 24, .sl 174 sh174⟩ := rfl
theorem ty120 : cx.ty 120 = some ⟨sh120, .st [.lf (.string ⟨#[]⟩), .sl true .one [], .st [.lf (.int .i64 0), .lf (.string ⟨#[]⟩), .lf (.string ⟨#[]⟩), .lf (.int .i64 0), .st [.lf (.int .i64 0), .lf (.string ⟨#[]⟩), .sl true sh65 []], .sl true sh75 [], .sl true sh172 []]], [.string ⟨#[]⟩, .slice none 0 0, .int .i64 0, .string ⟨#[]⟩, .string ⟨#[]⟩, .int .i64 0, .int .i64 0, .string ⟨#[]⟩, .slice none 0 0, .slice none 0 0, .slice none 0 0], 184, .st [(9, .one), (43, .one), (75, sh75)]⟩ := rfl
theorem ty67 : cx.ty 67 = some ⟨.one, .sl true sh120 [], [.slice none 0 0], 24, .sl 120 sh120⟩ := rfl
theorem ty69 : cx.ty 69 = some ⟨sh69, .st [.lf (.string ⟨#[]⟩), .sl true .one [], .st [.lf (.int .i64 0), .lf (.string ⟨#[]⟩), .sl true sh65 []], .sl true sh174 [], .lf (.bool false), .lf (.bool false), .st [.lf (.int .i64 0), .lf (.string ⟨#[]⟩), .sl true sh65 []], .sl true sh120 []], [.string ⟨#[]⟩, .slice none 0 0, .int .i64 0, .string ⟨#[]⟩, .slice none 0 0, .slice none 0 0, .bool false, .bool false, .int .i64 0, .string ⟨#[]⟩, .slice none 0 0, .slice none 0 0], 192, .st [(9, .one), (43, .one), (65, sh65), (66, .one), (4, .one), (4, .one), (65, sh65), (67, .one)]⟩ := rfl
theorem ty46 : cx.ty 46 = some ⟨.one, .sl true sh69 [], [.slice none 0 0], 24, .sl 69 sh69⟩ := rfl
theorem ty153 : cx.ty 153 = some ⟨sh153, .st [.lf (.string ⟨#[]⟩), .st [.lf (.int .i64 0), .lf (.string ⟨#[]⟩), .sl true sh65 []]], [.string ⟨#[]⟩, .int .i64 0, .string ⟨#[]⟩, .slice none 0 0], 64, .st [(9, .one), (65, sh65)]⟩ := rfl
theorem ty71 : cx.ty 71 = some ⟨.one, .sl true sh153 [], [.slice none 0 0], 24, .sl 153 sh153⟩ := rfl
theorem ty77 : cx.ty 77 = some ⟨sh77, .st [.lf (.string ⟨#[]⟩), .sl true .one [], .sl true sh174 [], .sl true sh153 [], .st [.lf (.int .i64 0), .lf (.string ⟨#[]⟩), .sl true sh65 []], .st [.lf (.int .i64 0), .lf (.string ⟨#[]⟩), .lf (.string ⟨#[]⟩), .lf (.int .i64 0), .st [.lf (.int .i64 0), .lf (.string ⟨#[]⟩), .sl true sh65 []], .sl true sh75 [], .sl true sh172 []]], [.string ⟨#[]⟩, .slice none 0 0, .slice none 0 0, .slice none 0 0, .int .i64 0, .string ⟨#[]⟩, .slice none 0 0, .int .i64 0, .string ⟨#[]⟩, .string ⟨#[]⟩, .int .i64 0, .int .i64 0, .string ⟨#[]⟩, .slice none 0 0, .slice none 0 0, .slice none 0 0], 280, .st [(9, .one), (43, .one), (66, .one), (71, .one), (65, sh65), (75, sh75)]⟩ := rfl
theorem ty47 : cx.ty 47 = some ⟨.one, .sl true sh77 [], [.slice none 0 0], 24, .sl 77 sh77⟩ := rfl
theorem ty49 : cx.ty 49 = some ⟨sh49, .st [.lf (.string ⟨#[]⟩), .sl true .one [], .sl true sh57 [], .sl true sh61 [], .sl true sh69 [], .sl true sh77 []], [.string ⟨#[]⟩, .slice none 0 0, .slice none 0 0, .slice none 0 0, .slice none 0 0, .slice none 0 0], 136, .st [(9, .one), (43, .one), (44, .one), (45, .one), (46, .one), (47, .one)]⟩ := rfl
theorem ty28 : cx.ty 28 = some ⟨.one, .sl true sh49 [], [.slice none 0 0], 24, .sl 49 sh49⟩ := rfl
theorem ty30 : cx.ty 30 = some ⟨sh30, .st [.sl true sh49 []], [.slice none 0 0], 24, .st [(28, .one)]⟩ := rfl
theorem ty50 : cx.ty 50 = some ⟨.one, .sl true .one [], [.slice none 0 0], 24, .sl 3 .one⟩ := rfl
theorem ty52 : cx.ty 52 = some ⟨sh52, .st [.st [.sl true sh49 []], .sl true .one []], [.slice none 0 0, .slice none 0 0], 48, .st [(30, sh30), (50, .one)]⟩ := rfl
theorem ty129 : cx.ty 129 = some ⟨.one, .sl true .one [], [.slice none 0 0], 24, .sl 5 .one⟩ := rfl
theorem ty166 : cx.ty 166 = some ⟨.one, .sl true .one [], [.slice none 0 0], 24, .sl 4 .one⟩ := rfl
theorem ty180 : cx.ty 180 = some ⟨sh180, .st [.sl true .one [], .sl true .one [], .sl true .one [], .sl true .one []], [.slice none 0 0, .slice none 0 0, .slice none 0 0, .slice none 0 0], 96, .ar 4 43 .one⟩ := rfl
theorem ty344 : cx.ty 344 = some ⟨.one, .sl true .one [], [.slice none 0 0], 24, .sl 50 .one⟩ := rfl
theorem ty422 : cx.ty 422 = some ⟨.one, .sl true .one [], [.slice none 0 0], 24, .sl 43 .one⟩ := rfl
theorem ty435 : cx.ty 435 = some ⟨.one, .lf (.int .u32 0), [.int .u32 0], 4, .int .u32⟩ := rfl
def TFormError.dd (_o : Bool) (x : TFormError) : DD := .st [.lf (.int .i64 x.fCode), .lf (.int .i64 x.fPackage), .lf (.string x.fKind), .lf (.string x.fName)]
theorem TFormError.dd_eq (o : Bool) (x : TFormError) : x.dd o = .st [.lf (.int .i64 x.fCode), .lf (.int .i64 x.fPackage), .lf (.string x.fKind), .lf (.string x.fName)] := rfl
theorem TFormError.sh_dd (o : Bool) (x : TFormError) : (x.dd o).sh = sh40 := by
 rw [TFormError.dd_eq]; simp only [DD.sh, DD.shs]
theorem TFormError.vw_dd (o : Bool) (x : TFormError) : (x.dd o).vw = x.dd false := by
 simp only [TFormError.dd_eq, DD.vw, DD.vws]
theorem TFormError.is_dd (o : Bool) (x : TFormError) : (x.dd o).is o x.enc := by
 rw [TFormError.dd_eq, TFormError.enc_eq]
 exact is_st (is_cons (is_lf _) (is_cons (is_lf _) (is_cons (is_lf _) (is_cons (is_lf _) (is_nil)))))
theorem TFormError.vws_dd (o : Bool) (l : List TFormError) : DD.vws (l.map (TFormError.dd o)) = l.map (TFormError.dd false) := vws_map (TFormError.vw_dd o) l
theorem TFormError.shs_dd (o : Bool) (l : List TFormError) : DD.shs (l.map (TFormError.dd o)) = List.replicate l.length sh40 := shs_map (TFormError.sh_dd o) l
mutual
def TType.dd (o : Bool) : TType → DD
 | ⟨fKind, fName, fArgs⟩ => .st [.lf (.int .i64 fKind), .lf (.string fName), .sl o sh65 (TType.dds o fArgs)]
def TType.dds (o : Bool) : List TType → List DD
 | [] => []
 | x :: l => x.dd o :: TType.dds o l
end
theorem TType.dds_eq (o : Bool) : ∀ l : List TType, TType.dds o l = l.map (TType.dd o)
 | [] => rfl
 | x :: l => by simp only [TType.dds, TType.dds_eq o l, List.map_cons]
theorem TType.dd_eq (o : Bool) (x : TType) : x.dd o = .st [.lf (.int .i64 x.fKind), .lf (.string x.fName), .sl o sh65 (x.fArgs.map (TType.dd o))] := by
 cases x; simp only [TType.dd, TType.dds_eq]
theorem TType.sh_dd (o : Bool) (x : TType) : (x.dd o).sh = sh65 := by
 rw [TType.dd_eq]; simp only [DD.sh, DD.shs]
mutual
theorem TType.vw_dd (o : Bool) : ∀ x : TType, (x.dd o).vw = x.dd false
 | ⟨fKind, fName, fArgs⟩ => by simp only [TType.dd, DD.vw, DD.vws, TType.vws_dds o fArgs]
theorem TType.vws_dds (o : Bool) : ∀ l : List TType, DD.vws (TType.dds o l) = TType.dds false l
 | [] => rfl
 | x :: l => by simp only [TType.dds, DD.vws, TType.vw_dd o x, TType.vws_dds o l]
end
mutual
theorem TType.is_dd (o : Bool) (x : TType) : (x.dd o).is o x.enc := by
 rw [TType.dd_eq, TType.enc_eq]
 exact is_st (is_cons (is_lf _) (is_cons (is_lf _) (is_cons (is_sl (TType.sh_dd o) (by decide) (fun y hy => TType.is_dd o y)) (is_nil))))
termination_by SizeOf.sizeOf x
decreasing_by all_goals first | (have := List.sizeOf_lt_of_mem hy; have := x.lt_fArgs; omega)
end
theorem TType.vws_dd (o : Bool) (l : List TType) : DD.vws (l.map (TType.dd o)) = l.map (TType.dd false) := vws_map (TType.vw_dd o) l
theorem TType.shs_dd (o : Bool) (l : List TType) : DD.shs (l.map (TType.dd o)) = List.replicate l.length sh65 := shs_map (TType.sh_dd o) l
mutual
def TArm.dd (o : Bool) : TArm → DD
 | ⟨fConstructor, fVars, fBody⟩ => .st [.lf (.string fConstructor), .sl o .one (fVars.map dS), TExpr.dd o fBody]
def TArm.dds (o : Bool) : List TArm → List DD
 | [] => []
 | x :: l => x.dd o :: TArm.dds o l
def TExpr.dd (o : Bool) : TExpr → DD
 | ⟨fKind, fTrait, fName, fN, fType, fArgs, fArms⟩ => .st [.lf (.int .i64 fKind), .lf (.string fTrait), .lf (.string fName), .lf (.int .i64 fN), TType.dd o fType, .sl o sh75 (TExpr.dds o fArgs), .sl o sh172 (TArm.dds o fArms)]
def TExpr.dds (o : Bool) : List TExpr → List DD
 | [] => []
 | x :: l => x.dd o :: TExpr.dds o l
end
theorem TArm.dds_eq (o : Bool) : ∀ l : List TArm, TArm.dds o l = l.map (TArm.dd o)
 | [] => rfl
 | x :: l => by simp only [TArm.dds, TArm.dds_eq o l, List.map_cons]
theorem TExpr.dds_eq (o : Bool) : ∀ l : List TExpr, TExpr.dds o l = l.map (TExpr.dd o)
 | [] => rfl
 | x :: l => by simp only [TExpr.dds, TExpr.dds_eq o l, List.map_cons]
theorem TArm.dd_eq (o : Bool) (x : TArm) : x.dd o = .st [.lf (.string x.fConstructor), .sl o .one (x.fVars.map dS), TExpr.dd o x.fBody] := by
 cases x; simp only [TArm.dd]
theorem TExpr.dd_eq (o : Bool) (x : TExpr) : x.dd o = .st [.lf (.int .i64 x.fKind), .lf (.string x.fTrait), .lf (.string x.fName), .lf (.int .i64 x.fN), TType.dd o x.fType, .sl o sh75 (x.fArgs.map (TExpr.dd o)), .sl o sh172 (x.fArms.map (TArm.dd o))] := by
 cases x; simp only [TExpr.dd, TArm.dds_eq, TExpr.dds_eq]
theorem TExpr.sh_dd (o : Bool) (x : TExpr) : (x.dd o).sh = sh75 := by
 rw [TExpr.dd_eq]; simp only [DD.sh, DD.shs, TType.sh_dd]
theorem TArm.sh_dd (o : Bool) (x : TArm) : (x.dd o).sh = sh172 := by
 rw [TArm.dd_eq]; simp only [DD.sh, DD.shs, TExpr.sh_dd]
mutual
theorem TArm.vw_dd (o : Bool) : ∀ x : TArm, (x.dd o).vw = x.dd false
 | ⟨fConstructor, fVars, fBody⟩ => by simp only [TArm.dd, DD.vw, DD.vws, vws_dS, TExpr.vw_dd o fBody]
theorem TArm.vws_dds (o : Bool) : ∀ l : List TArm, DD.vws (TArm.dds o l) = TArm.dds false l
 | [] => rfl
 | x :: l => by simp only [TArm.dds, DD.vws, TArm.vw_dd o x, TArm.vws_dds o l]
theorem TExpr.vw_dd (o : Bool) : ∀ x : TExpr, (x.dd o).vw = x.dd false
 | ⟨fKind, fTrait, fName, fN, fType, fArgs, fArms⟩ => by simp only [TExpr.dd, DD.vw, DD.vws, TType.vw_dd o fType, TExpr.vws_dds o fArgs, TArm.vws_dds o fArms]
theorem TExpr.vws_dds (o : Bool) : ∀ l : List TExpr, DD.vws (TExpr.dds o l) = TExpr.dds false l
 | [] => rfl
 | x :: l => by simp only [TExpr.dds, DD.vws, TExpr.vw_dd o x, TExpr.vws_dds o l]
end
mutual
theorem TArm.is_dd (o : Bool) (x : TArm) : (x.dd o).is o x.enc := by
 rw [TArm.dd_eq, TArm.enc_eq]
 exact is_st (is_cons (is_lf _) (is_cons (is_sl (s := .one) (fun _ => rfl) (by decide) (fun _ _ => is_lf _)) (is_cons (TExpr.is_dd o x.fBody) (is_nil))))
termination_by SizeOf.sizeOf x
decreasing_by all_goals first | (have := x.lt_fBody; omega)
theorem TExpr.is_dd (o : Bool) (x : TExpr) : (x.dd o).is o x.enc := by
 rw [TExpr.dd_eq, TExpr.enc_eq]
 exact is_st (is_cons (is_lf _) (is_cons (is_lf _) (is_cons (is_lf _) (is_cons (is_lf _) (is_cons (TType.is_dd o x.fType) (is_cons (is_sl (TExpr.sh_dd o) (by decide) (fun y hy => TExpr.is_dd o y)) (is_cons (is_sl (TArm.sh_dd o) (by decide) (fun y hy => TArm.is_dd o y)) (is_nil))))))))
termination_by SizeOf.sizeOf x
decreasing_by all_goals first | (have := List.sizeOf_lt_of_mem hy; have := x.lt_fArgs; omega) | (have := List.sizeOf_lt_of_mem hy; have := x.lt_fArms; omega)
end
theorem TArm.vws_dd (o : Bool) (l : List TArm) : DD.vws (l.map (TArm.dd o)) = l.map (TArm.dd false) := vws_map (TArm.vw_dd o) l
theorem TArm.shs_dd (o : Bool) (l : List TArm) : DD.shs (l.map (TArm.dd o)) = List.replicate l.length sh172 := shs_map (TArm.sh_dd o) l
theorem TExpr.vws_dd (o : Bool) (l : List TExpr) : DD.vws (l.map (TExpr.dd o)) = l.map (TExpr.dd false) := vws_map (TExpr.vw_dd o) l
theorem TExpr.shs_dd (o : Bool) (l : List TExpr) : DD.shs (l.map (TExpr.dd o)) = List.replicate l.length sh75 := shs_map (TExpr.sh_dd o) l
def TBound.dd (o : Bool) (x : TBound) : DD := .st [.lf (.string x.fTrait), TType.dd o x.fType]
theorem TBound.dd_eq (o : Bool) (x : TBound) : x.dd o = .st [.lf (.string x.fTrait), TType.dd o x.fType] := rfl
theorem TBound.sh_dd (o : Bool) (x : TBound) : (x.dd o).sh = sh174 := by
 rw [TBound.dd_eq]; simp only [DD.sh, DD.shs, TType.sh_dd]
theorem TBound.vw_dd (o : Bool) (x : TBound) : (x.dd o).vw = x.dd false := by
 simp only [TBound.dd_eq, DD.vw, DD.vws, TType.vw_dd o]
theorem TBound.is_dd (o : Bool) (x : TBound) : (x.dd o).is o x.enc := by
 rw [TBound.dd_eq, TBound.enc_eq]
 exact is_st (is_cons (is_lf _) (is_cons (TType.is_dd o x.fType) (is_nil)))
theorem TBound.vws_dd (o : Bool) (l : List TBound) : DD.vws (l.map (TBound.dd o)) = l.map (TBound.dd false) := vws_map (TBound.vw_dd o) l
theorem TBound.shs_dd (o : Bool) (l : List TBound) : DD.shs (l.map (TBound.dd o)) = List.replicate l.length sh174 := shs_map (TBound.sh_dd o) l
def TConstructor.dd (o : Bool) (x : TConstructor) : DD := .st [.lf (.string x.fName), .sl o sh65 (x.fFields.map (TType.dd o))]
theorem TConstructor.dd_eq (o : Bool) (x : TConstructor) : x.dd o = .st [.lf (.string x.fName), .sl o sh65 (x.fFields.map (TType.dd o))] := rfl
theorem TConstructor.sh_dd (o : Bool) (x : TConstructor) : (x.dd o).sh = sh116 := by
 rw [TConstructor.dd_eq]; simp only [DD.sh, DD.shs]
theorem TConstructor.vw_dd (o : Bool) (x : TConstructor) : (x.dd o).vw = x.dd false := by
 simp only [TConstructor.dd_eq, DD.vw, DD.vws, vws_map (TType.vw_dd o)]
theorem TConstructor.is_dd (o : Bool) (x : TConstructor) : (x.dd o).is o x.enc := by
 rw [TConstructor.dd_eq, TConstructor.enc_eq]
 exact is_st (is_cons (is_lf _) (is_cons (is_sl (TType.sh_dd o) (by decide) (fun y hy => TType.is_dd o y)) (is_nil)))
theorem TConstructor.vws_dd (o : Bool) (l : List TConstructor) : DD.vws (l.map (TConstructor.dd o)) = l.map (TConstructor.dd false) := vws_map (TConstructor.vw_dd o) l
theorem TConstructor.shs_dd (o : Bool) (l : List TConstructor) : DD.shs (l.map (TConstructor.dd o)) = List.replicate l.length sh116 := shs_map (TConstructor.sh_dd o) l
def TDataType.dd (o : Bool) (x : TDataType) : DD := .st [.lf (.string x.fName), .sl o .one (x.fVars.map dS), .sl o sh116 (x.fConstructors.map (TConstructor.dd o))]
theorem TDataType.dd_eq (o : Bool) (x : TDataType) : x.dd o = .st [.lf (.string x.fName), .sl o .one (x.fVars.map dS), .sl o sh116 (x.fConstructors.map (TConstructor.dd o))] := rfl
theorem TDataType.sh_dd (o : Bool) (x : TDataType) : (x.dd o).sh = sh61 := by
 rw [TDataType.dd_eq]; simp only [DD.sh, DD.shs]
theorem TDataType.vw_dd (o : Bool) (x : TDataType) : (x.dd o).vw = x.dd false := by
 simp only [TDataType.dd_eq, DD.vw, DD.vws, vws_dS, vws_map (TConstructor.vw_dd o)]
theorem TDataType.is_dd (o : Bool) (x : TDataType) : (x.dd o).is o x.enc := by
 rw [TDataType.dd_eq, TDataType.enc_eq]
 exact is_st (is_cons (is_lf _) (is_cons (is_sl (s := .one) (fun _ => rfl) (by decide) (fun _ _ => is_lf _)) (is_cons (is_sl (TConstructor.sh_dd o) (by decide) (fun y hy => TConstructor.is_dd o y)) (is_nil))))
theorem TDataType.vws_dd (o : Bool) (l : List TDataType) : DD.vws (l.map (TDataType.dd o)) = l.map (TDataType.dd false) := vws_map (TDataType.vw_dd o) l
theorem TDataType.shs_dd (o : Bool) (l : List TDataType) : DD.shs (l.map (TDataType.dd o)) = List.replicate l.length sh61 := shs_map (TDataType.sh_dd o) l
def TMethod.dd (o : Bool) (x : TMethod) : DD := .st [.lf (.string x.fName), .sl o .one (x.fVars.map dS), TExpr.dd o x.fBody]
theorem TMethod.dd_eq (o : Bool) (x : TMethod) : x.dd o = .st [.lf (.string x.fName), .sl o .one (x.fVars.map dS), TExpr.dd o x.fBody] := rfl
theorem TMethod.sh_dd (o : Bool) (x : TMethod) : (x.dd o).sh = sh120 := by
 rw [TMethod.dd_eq]; simp only [DD.sh, DD.shs, TExpr.sh_dd]
theorem TMethod.vw_dd (o : Bool) (x : TMethod) : (x.dd o).vw = x.dd false := by
 simp only [TMethod.dd_eq, DD.vw, DD.vws, vws_dS, TExpr.vw_dd o]
theorem TMethod.is_dd (o : Bool) (x : TMethod) : (x.dd o).is o x.enc := by
 rw [TMethod.dd_eq, TMethod.enc_eq]
 exact is_st (is_cons (is_lf _) (is_cons (is_sl (s := .one) (fun _ => rfl) (by decide) (fun _ _ => is_lf _)) (is_cons (TExpr.is_dd o x.fBody) (is_nil))))
theorem TMethod.vws_dd (o : Bool) (l : List TMethod) : DD.vws (l.map (TMethod.dd o)) = l.map (TMethod.dd false) := vws_map (TMethod.vw_dd o) l
theorem TMethod.shs_dd (o : Bool) (l : List TMethod) : DD.shs (l.map (TMethod.dd o)) = List.replicate l.length sh120 := shs_map (TMethod.sh_dd o) l
def TInstance.dd (o : Bool) (x : TInstance) : DD := .st [.lf (.string x.fTrait), .sl o .one (x.fVars.map dS), TType.dd o x.fHead, .sl o sh174 (x.fWhere.map (TBound.dd o)), .lf (.bool x.fDefault), .lf (.bool x.fHasAssoc), TType.dd o x.fAssoc, .sl o sh120 (x.fMethods.map (TMethod.dd o))]
theorem TInstance.dd_eq (o : Bool) (x : TInstance) : x.dd o = .st [.lf (.string x.fTrait), .sl o .one (x.fVars.map dS), TType.dd o x.fHead, .sl o sh174 (x.fWhere.map (TBound.dd o)), .lf (.bool x.fDefault), .lf (.bool x.fHasAssoc), TType.dd o x.fAssoc, .sl o sh120 (x.fMethods.map (TMethod.dd o))] := rfl
theorem TInstance.sh_dd (o : Bool) (x : TInstance) : (x.dd o).sh = sh69 := by
 rw [TInstance.dd_eq]; simp only [DD.sh, DD.shs, TType.sh_dd]
theorem TInstance.vw_dd (o : Bool) (x : TInstance) : (x.dd o).vw = x.dd false := by
 simp only [TInstance.dd_eq, DD.vw, DD.vws, vws_dS, TType.vw_dd o, vws_map (TBound.vw_dd o), vws_map (TMethod.vw_dd o)]
theorem TInstance.is_dd (o : Bool) (x : TInstance) : (x.dd o).is o x.enc := by
 rw [TInstance.dd_eq, TInstance.enc_eq]
 exact is_st (is_cons (is_lf _) (is_cons (is_sl (s := .one) (fun _ => rfl) (by decide) (fun _ _ => is_lf _)) (is_cons (TType.is_dd o x.fHead) (is_cons (is_sl (TBound.sh_dd o) (by decide) (fun y hy => TBound.is_dd o y)) (is_cons (is_lf _) (is_cons (is_lf _) (is_cons (TType.is_dd o x.fAssoc) (is_cons (is_sl (TMethod.sh_dd o) (by decide) (fun y hy => TMethod.is_dd o y)) (is_nil)))))))))
theorem TInstance.vws_dd (o : Bool) (l : List TInstance) : DD.vws (l.map (TInstance.dd o)) = l.map (TInstance.dd false) := vws_map (TInstance.vw_dd o) l
theorem TInstance.shs_dd (o : Bool) (l : List TInstance) : DD.shs (l.map (TInstance.dd o)) = List.replicate l.length sh69 := shs_map (TInstance.sh_dd o) l
def TParam.dd (o : Bool) (x : TParam) : DD := .st [.lf (.string x.fName), TType.dd o x.fType]
theorem TParam.dd_eq (o : Bool) (x : TParam) : x.dd o = .st [.lf (.string x.fName), TType.dd o x.fType] := rfl
theorem TParam.sh_dd (o : Bool) (x : TParam) : (x.dd o).sh = sh153 := by
 rw [TParam.dd_eq]; simp only [DD.sh, DD.shs, TType.sh_dd]
theorem TParam.vw_dd (o : Bool) (x : TParam) : (x.dd o).vw = x.dd false := by
 simp only [TParam.dd_eq, DD.vw, DD.vws, TType.vw_dd o]
theorem TParam.is_dd (o : Bool) (x : TParam) : (x.dd o).is o x.enc := by
 rw [TParam.dd_eq, TParam.enc_eq]
 exact is_st (is_cons (is_lf _) (is_cons (TType.is_dd o x.fType) (is_nil)))
theorem TParam.vws_dd (o : Bool) (l : List TParam) : DD.vws (l.map (TParam.dd o)) = l.map (TParam.dd false) := vws_map (TParam.vw_dd o) l
theorem TParam.shs_dd (o : Bool) (l : List TParam) : DD.shs (l.map (TParam.dd o)) = List.replicate l.length sh153 := shs_map (TParam.sh_dd o) l
def TFunction.dd (o : Bool) (x : TFunction) : DD := .st [.lf (.string x.fName), .sl o .one (x.fVars.map dS), .sl o sh174 (x.fWhere.map (TBound.dd o)), .sl o sh153 (x.fParams.map (TParam.dd o)), TType.dd o x.fResult, TExpr.dd o x.fBody]
theorem TFunction.dd_eq (o : Bool) (x : TFunction) : x.dd o = .st [.lf (.string x.fName), .sl o .one (x.fVars.map dS), .sl o sh174 (x.fWhere.map (TBound.dd o)), .sl o sh153 (x.fParams.map (TParam.dd o)), TType.dd o x.fResult, TExpr.dd o x.fBody] := rfl
theorem TFunction.sh_dd (o : Bool) (x : TFunction) : (x.dd o).sh = sh77 := by
 rw [TFunction.dd_eq]; simp only [DD.sh, DD.shs, TExpr.sh_dd, TType.sh_dd]
theorem TFunction.vw_dd (o : Bool) (x : TFunction) : (x.dd o).vw = x.dd false := by
 simp only [TFunction.dd_eq, DD.vw, DD.vws, vws_dS, vws_map (TBound.vw_dd o), vws_map (TParam.vw_dd o), TType.vw_dd o, TExpr.vw_dd o]
theorem TFunction.is_dd (o : Bool) (x : TFunction) : (x.dd o).is o x.enc := by
 rw [TFunction.dd_eq, TFunction.enc_eq]
 exact is_st (is_cons (is_lf _) (is_cons (is_sl (s := .one) (fun _ => rfl) (by decide) (fun _ _ => is_lf _)) (is_cons (is_sl (TBound.sh_dd o) (by decide) (fun y hy => TBound.is_dd o y)) (is_cons (is_sl (TParam.sh_dd o) (by decide) (fun y hy => TParam.is_dd o y)) (is_cons (TType.is_dd o x.fResult) (is_cons (TExpr.is_dd o x.fBody) (is_nil)))))))
theorem TFunction.vws_dd (o : Bool) (l : List TFunction) : DD.vws (l.map (TFunction.dd o)) = l.map (TFunction.dd false) := vws_map (TFunction.vw_dd o) l
theorem TFunction.shs_dd (o : Bool) (l : List TFunction) : DD.shs (l.map (TFunction.dd o)) = List.replicate l.length sh77 := shs_map (TFunction.sh_dd o) l
def TSignature.dd (o : Bool) (x : TSignature) : DD := .st [.lf (.string x.fName), .sl o sh65 (x.fParams.map (TType.dd o)), TType.dd o x.fResult, .lf (.bool x.fHasDefault), .sl o .one (x.fVars.map dS), TExpr.dd o x.fBody]
theorem TSignature.dd_eq (o : Bool) (x : TSignature) : x.dd o = .st [.lf (.string x.fName), .sl o sh65 (x.fParams.map (TType.dd o)), TType.dd o x.fResult, .lf (.bool x.fHasDefault), .sl o .one (x.fVars.map dS), TExpr.dd o x.fBody] := rfl
theorem TSignature.sh_dd (o : Bool) (x : TSignature) : (x.dd o).sh = sh109 := by
 rw [TSignature.dd_eq]; simp only [DD.sh, DD.shs, TExpr.sh_dd, TType.sh_dd]
theorem TSignature.vw_dd (o : Bool) (x : TSignature) : (x.dd o).vw = x.dd false := by
 simp only [TSignature.dd_eq, DD.vw, DD.vws, vws_map (TType.vw_dd o), TType.vw_dd o, vws_dS, TExpr.vw_dd o]
theorem TSignature.is_dd (o : Bool) (x : TSignature) : (x.dd o).is o x.enc := by
 rw [TSignature.dd_eq, TSignature.enc_eq]
 exact is_st (is_cons (is_lf _) (is_cons (is_sl (TType.sh_dd o) (by decide) (fun y hy => TType.is_dd o y)) (is_cons (TType.is_dd o x.fResult) (is_cons (is_lf _) (is_cons (is_sl (s := .one) (fun _ => rfl) (by decide) (fun _ _ => is_lf _)) (is_cons (TExpr.is_dd o x.fBody) (is_nil)))))))
theorem TSignature.vws_dd (o : Bool) (l : List TSignature) : DD.vws (l.map (TSignature.dd o)) = l.map (TSignature.dd false) := vws_map (TSignature.vw_dd o) l
theorem TSignature.shs_dd (o : Bool) (l : List TSignature) : DD.shs (l.map (TSignature.dd o)) = List.replicate l.length sh109 := shs_map (TSignature.sh_dd o) l
def TTrait.dd (o : Bool) (x : TTrait) : DD := .st [.lf (.string x.fName), .sl o .one (x.fSupertraits.map dS), .lf (.bool x.fAuto), .lf (.bool x.fAssoc), .sl o sh109 (x.fSignatures.map (TSignature.dd o))]
theorem TTrait.dd_eq (o : Bool) (x : TTrait) : x.dd o = .st [.lf (.string x.fName), .sl o .one (x.fSupertraits.map dS), .lf (.bool x.fAuto), .lf (.bool x.fAssoc), .sl o sh109 (x.fSignatures.map (TSignature.dd o))] := rfl
theorem TTrait.sh_dd (o : Bool) (x : TTrait) : (x.dd o).sh = sh57 := by
 rw [TTrait.dd_eq]; simp only [DD.sh, DD.shs]
theorem TTrait.vw_dd (o : Bool) (x : TTrait) : (x.dd o).vw = x.dd false := by
 simp only [TTrait.dd_eq, DD.vw, DD.vws, vws_dS, vws_map (TSignature.vw_dd o)]
theorem TTrait.is_dd (o : Bool) (x : TTrait) : (x.dd o).is o x.enc := by
 rw [TTrait.dd_eq, TTrait.enc_eq]
 exact is_st (is_cons (is_lf _) (is_cons (is_sl (s := .one) (fun _ => rfl) (by decide) (fun _ _ => is_lf _)) (is_cons (is_lf _) (is_cons (is_lf _) (is_cons (is_sl (TSignature.sh_dd o) (by decide) (fun y hy => TSignature.is_dd o y)) (is_nil))))))
theorem TTrait.vws_dd (o : Bool) (l : List TTrait) : DD.vws (l.map (TTrait.dd o)) = l.map (TTrait.dd false) := vws_map (TTrait.vw_dd o) l
theorem TTrait.shs_dd (o : Bool) (l : List TTrait) : DD.shs (l.map (TTrait.dd o)) = List.replicate l.length sh57 := shs_map (TTrait.sh_dd o) l
def TPackage.dd (o : Bool) (x : TPackage) : DD := .st [.lf (.string x.fName), .sl o .one (x.fDeps.map dS), .sl o sh57 (x.fTraits.map (TTrait.dd o)), .sl o sh61 (x.fDataTypes.map (TDataType.dd o)), .sl o sh69 (x.fInstances.map (TInstance.dd o)), .sl o sh77 (x.fFunctions.map (TFunction.dd o))]
theorem TPackage.dd_eq (o : Bool) (x : TPackage) : x.dd o = .st [.lf (.string x.fName), .sl o .one (x.fDeps.map dS), .sl o sh57 (x.fTraits.map (TTrait.dd o)), .sl o sh61 (x.fDataTypes.map (TDataType.dd o)), .sl o sh69 (x.fInstances.map (TInstance.dd o)), .sl o sh77 (x.fFunctions.map (TFunction.dd o))] := rfl
theorem TPackage.sh_dd (o : Bool) (x : TPackage) : (x.dd o).sh = sh49 := by
 rw [TPackage.dd_eq]; simp only [DD.sh, DD.shs]
theorem TPackage.vw_dd (o : Bool) (x : TPackage) : (x.dd o).vw = x.dd false := by
 simp only [TPackage.dd_eq, DD.vw, DD.vws, vws_dS, vws_map (TTrait.vw_dd o), vws_map (TDataType.vw_dd o), vws_map (TInstance.vw_dd o), vws_map (TFunction.vw_dd o)]
theorem TPackage.is_dd (o : Bool) (x : TPackage) : (x.dd o).is o x.enc := by
 rw [TPackage.dd_eq, TPackage.enc_eq]
 exact is_st (is_cons (is_lf _) (is_cons (is_sl (s := .one) (fun _ => rfl) (by decide) (fun _ _ => is_lf _)) (is_cons (is_sl (TTrait.sh_dd o) (by decide) (fun y hy => TTrait.is_dd o y)) (is_cons (is_sl (TDataType.sh_dd o) (by decide) (fun y hy => TDataType.is_dd o y)) (is_cons (is_sl (TInstance.sh_dd o) (by decide) (fun y hy => TInstance.is_dd o y)) (is_cons (is_sl (TFunction.sh_dd o) (by decide) (fun y hy => TFunction.is_dd o y)) (is_nil)))))))
theorem TPackage.vws_dd (o : Bool) (l : List TPackage) : DD.vws (l.map (TPackage.dd o)) = l.map (TPackage.dd false) := vws_map (TPackage.vw_dd o) l
theorem TPackage.shs_dd (o : Bool) (l : List TPackage) : DD.shs (l.map (TPackage.dd o)) = List.replicate l.length sh49 := shs_map (TPackage.sh_dd o) l
def TProgram.dd (o : Bool) (x : TProgram) : DD := .st [.sl o sh49 (x.fPackages.map (TPackage.dd o))]
theorem TProgram.dd_eq (o : Bool) (x : TProgram) : x.dd o = .st [.sl o sh49 (x.fPackages.map (TPackage.dd o))] := rfl
theorem TProgram.sh_dd (o : Bool) (x : TProgram) : (x.dd o).sh = sh30 := by
 rw [TProgram.dd_eq]; simp only [DD.sh, DD.shs]
theorem TProgram.vw_dd (o : Bool) (x : TProgram) : (x.dd o).vw = x.dd false := by
 simp only [TProgram.dd_eq, DD.vw, DD.vws, vws_map (TPackage.vw_dd o)]
theorem TProgram.is_dd (o : Bool) (x : TProgram) : (x.dd o).is o x.enc := by
 rw [TProgram.dd_eq, TProgram.enc_eq]
 exact is_st (is_cons (is_sl (TPackage.sh_dd o) (by decide) (fun y hy => TPackage.is_dd o y)) (is_nil))
theorem TProgram.vws_dd (o : Bool) (l : List TProgram) : DD.vws (l.map (TProgram.dd o)) = l.map (TProgram.dd false) := vws_map (TProgram.vw_dd o) l
theorem TProgram.shs_dd (o : Bool) (l : List TProgram) : DD.shs (l.map (TProgram.dd o)) = List.replicate l.length sh30 := shs_map (TProgram.sh_dd o) l
attribute [simp] ty3 ty4 ty5 ty9 ty43 ty215 ty213 ty222 ty388 ty223 ty225 ty328 ty205 ty207 ty86 ty331 ty209 ty211 ty87 ty335 ty216 ty338 ty217 ty219 ty88 ty341 ty221 ty227 ty89 ty91 ty22 ty24 ty40 ty26 ty65 ty63 ty72 ty172 ty73 ty75 ty109 ty55 ty57 ty44 ty116 ty59 ty61 ty45 ty174 ty66 ty120 ty67 ty69 ty46 ty153 ty71 ty77 ty47 ty49 ty28 ty30 ty50 ty52 ty129 ty166 ty180 ty344 ty422 ty435 TFormError.dd_eq TFormError.vws_dd TFormError.shs_dd TType.dd_eq TType.vws_dd TType.shs_dd TArm.dd_eq TArm.vws_dd TArm.shs_dd TExpr.dd_eq TExpr.vws_dd TExpr.shs_dd TBound.dd_eq TBound.vws_dd TBound.shs_dd TConstructor.dd_eq TConstructor.vws_dd TConstructor.shs_dd TDataType.dd_eq TDataType.vws_dd TDataType.shs_dd TMethod.dd_eq TMethod.vws_dd TMethod.shs_dd TInstance.dd_eq TInstance.vws_dd TInstance.shs_dd TParam.dd_eq TParam.vws_dd TParam.shs_dd TFunction.dd_eq TFunction.vws_dd TFunction.shs_dd TSignature.dd_eq TSignature.vws_dd TSignature.shs_dd TTrait.dd_eq TTrait.vws_dd TTrait.shs_dd TPackage.dd_eq TPackage.vws_dd TPackage.shs_dd TProgram.dd_eq TProgram.vws_dd TProgram.shs_dd
end Go.Proofs.YtdooklofebdknaaGreat
