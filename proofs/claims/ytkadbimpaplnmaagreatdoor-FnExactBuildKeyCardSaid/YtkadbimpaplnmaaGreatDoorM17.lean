/- The table of this program's types, and the trees of its values. No condition but sizes. -/
import Derived.Test.YtkadbimpaplnmaaGreatDoorM01
import Derived.Test.YtkadbimpaplnmaaGreatDoorM16
import Derived.KernelRfl
namespace Go.Proofs.YtkadbimpaplnmaaGreatDoor
open Go.RowKit
abbrev sh132 : Sh := .st [.one, .one, .one]
abbrev sh142 : Sh := .st [.one, .one, .one, .one, sh132, .one, .one]
abbrev sh298 : Sh := .st [.one, .one, sh142]
abbrev sh240 : Sh := .st [.one, .one, sh132, .one, .one, sh142]
abbrev sh124 : Sh := .st [.one, .one, .one, .one, .one]
abbrev sh243 : Sh := .st [.one, .one]
abbrev sh128 : Sh := .st [.one, .one, .one]
abbrev sh247 : Sh := .st [.one, sh132]
abbrev sh250 : Sh := .st [.one, .one, sh142]
abbrev sh136 : Sh := .st [.one, .one, sh132, .one, .one, .one, sh132, .one]
abbrev sh253 : Sh := .st [.one, sh132]
abbrev sh144 : Sh := .st [.one, .one, .one, .one, sh132, sh142]
abbrev sh53 : Sh := .st [.one, .one, .one, .one, .one, .one]
abbrev sh24 : Sh := .st [.one]
abbrev sh88 : Sh := .st [.one, .one, .one]
abbrev sh98 : Sh := .st [.one, .one, .one, .one, sh88, .one, .one]
abbrev sh198 : Sh := .st [.one, .one, sh98]
abbrev sh154 : Sh := .st [.one, .one, sh88, .one, .one, sh98]
abbrev sh80 : Sh := .st [.one, .one, .one, .one, .one]
abbrev sh159 : Sh := .st [.one, .one]
abbrev sh84 : Sh := .st [.one, .one, .one]
abbrev sh206 : Sh := .st [.one, sh88]
abbrev sh164 : Sh := .st [.one, .one, sh98]
abbrev sh92 : Sh := .st [.one, .one, sh88, .one, .one, .one, sh88, .one]
abbrev sh167 : Sh := .st [.one, sh88]
abbrev sh100 : Sh := .st [.one, .one, .one, .one, sh88, sh98]
abbrev sh44 : Sh := .st [.one, .one, .one, .one, .one, .one]
abbrev sh29 : Sh := .st [.one]
abbrev sh61 : Sh := .st [.one, .one]
abbrev sh223 : Sh := .st [.one, .one, .one, .one]
def ti2 : TI := ⟨.one, .lf (.int .i64 0), [.int .i64 0], 8, .int .i64⟩
theorem tk2 : TyOk Tryz.prog 2 ti2 := TyOk.of (by kernel_rfl) rfl (by kernel_rfl) rfl (by intro fl h; cases h <;> rfl)
def ti3 : TI := ⟨.one, .lf (.int .i64 0), [.int .i64 0], 8, .int .i64⟩
theorem tk3 : TyOk Tryz.prog 3 ti3 := TyOk.of (by kernel_rfl) rfl (by kernel_rfl) rfl (by intro fl h; cases h <;> rfl)
def ti4 : TI := ⟨.one, .lf (.bool false), [.bool false], 1, .bool⟩
theorem tk4 : TyOk Tryz.prog 4 ti4 := TyOk.of (by kernel_rfl) rfl (by kernel_rfl) rfl (by intro fl h; cases h <;> rfl)
def ti5 : TI := ⟨.one, .lf (.int .u8 0), [.int .u8 0], 1, .int .u8⟩
theorem tk5 : TyOk Tryz.prog 5 ti5 := TyOk.of (by kernel_rfl) rfl (by kernel_rfl) rfl (by intro fl h; cases h <;> rfl)
def ti9 : TI := ⟨.one, .lf (.string ⟨#[]⟩), [.string ⟨#[]⟩], 16, .str⟩
theorem tk9 : TyOk Tryz.prog 9 ti9 := TyOk.of (by kernel_rfl) rfl (by kernel_rfl) rfl (by intro fl h; cases h <;> rfl)
def ti38 : TI := ⟨.one, .sl true .one [], [.slice none 0 0], 24, .sl 9 .one⟩
theorem tk38 : TyOk Tryz.prog 38 ti38 := TyOk.of (by kernel_rfl) rfl (by kernel_rfl) rfl (by intro fl h; cases h <;> rfl)
def ti132 : TI := ⟨sh132, .st [.lf (.int .i64 0), .lf (.string ⟨#[]⟩), .sl true sh132 []], [.int .i64 0, .string ⟨#[]⟩, .slice none 0 0], 48, .st [(3, .one), (9, .one), (130, .one)]⟩
theorem tk132 : TyOk Tryz.prog 132 ti132 := TyOk.of (by kernel_rfl) rfl (by kernel_rfl) rfl (by intro fl h; cases h <;> rfl)
def ti130 : TI := ⟨.one, .sl true sh132 [], [.slice none 0 0], 24, .sl 132 sh132⟩
theorem tk130 : TyOk Tryz.prog 130 ti130 := TyOk.of (by kernel_rfl) rfl (by kernel_rfl) rfl (by intro fl h; cases h <;> rfl)
def ti139 : TI := ⟨.one, .sl true sh142 [], [.slice none 0 0], 24, .sl 142 sh142⟩
theorem tk139 : TyOk Tryz.prog 139 ti139 := TyOk.of (by kernel_rfl) rfl (by kernel_rfl) rfl (by intro fl h; cases h <;> rfl)
def ti298 : TI := ⟨sh298, .st [.lf (.string ⟨#[]⟩), .sl true .one [], .st [.lf (.int .i64 0), .lf (.string ⟨#[]⟩), .lf (.string ⟨#[]⟩), .lf (.int .i64 0), .st [.lf (.int .i64 0), .lf (.string ⟨#[]⟩), .sl true sh132 []], .sl true sh142 [], .sl true sh298 []]], [.string ⟨#[]⟩, .slice none 0 0, .int .i64 0, .string ⟨#[]⟩, .string ⟨#[]⟩, .int .i64 0, .int .i64 0, .string ⟨#[]⟩, .slice none 0 0, .slice none 0 0, .slice none 0 0], 184, .st [(9, .one), (38, .one), (142, sh142)]⟩
theorem tk298 : TyOk Tryz.prog 298 ti298 := TyOk.of (by kernel_rfl) rfl (by kernel_rfl) rfl (by intro fl h; cases h <;> rfl)
def ti140 : TI := ⟨.one, .sl true sh298 [], [.slice none 0 0], 24, .sl 298 sh298⟩
theorem tk140 : TyOk Tryz.prog 140 ti140 := TyOk.of (by kernel_rfl) rfl (by kernel_rfl) rfl (by intro fl h; cases h <;> rfl)
def ti142 : TI := ⟨sh142, .st [.lf (.int .i64 0), .lf (.string ⟨#[]⟩), .lf (.string ⟨#[]⟩), .lf (.int .i64 0), .st [.lf (.int .i64 0), .lf (.string ⟨#[]⟩), .sl true sh132 []], .sl true sh142 [], .sl true sh298 []], [.int .i64 0, .string ⟨#[]⟩, .string ⟨#[]⟩, .int .i64 0, .int .i64 0, .string ⟨#[]⟩, .slice none 0 0, .slice none 0 0, .slice none 0 0], 144, .st [(3, .one), (9, .one), (9, .one), (3, .one), (132, sh132), (139, .one), (140, .one)]⟩
theorem tk142 : TyOk Tryz.prog 142 ti142 := TyOk.of (by kernel_rfl) rfl (by kernel_rfl) rfl (by intro fl h; cases h <;> rfl)
def ti240 : TI := ⟨sh240, .st [.lf (.string ⟨#[]⟩), .sl true sh132 [], .st [.lf (.int .i64 0), .lf (.string ⟨#[]⟩), .sl true sh132 []], .lf (.bool false), .sl true .one [], .st [.lf (.int .i64 0), .lf (.string ⟨#[]⟩), .lf (.string ⟨#[]⟩), .lf (.int .i64 0), .st [.lf (.int .i64 0), .lf (.string ⟨#[]⟩), .sl true sh132 []], .sl true sh142 [], .sl true sh298 []]], [.string ⟨#[]⟩, .slice none 0 0, .int .i64 0, .string ⟨#[]⟩, .slice none 0 0, .bool false, .slice none 0 0, .int .i64 0, .string ⟨#[]⟩, .string ⟨#[]⟩, .int .i64 0, .int .i64 0, .string ⟨#[]⟩, .slice none 0 0, .slice none 0 0, .slice none 0 0], 264, .st [(9, .one), (130, .one), (132, sh132), (4, .one), (38, .one), (142, sh142)]⟩
theorem tk240 : TyOk Tryz.prog 240 ti240 := TyOk.of (by kernel_rfl) rfl (by kernel_rfl) rfl (by intro fl h; cases h <;> rfl)
def ti122 : TI := ⟨.one, .sl true sh240 [], [.slice none 0 0], 24, .sl 240 sh240⟩
theorem tk122 : TyOk Tryz.prog 122 ti122 := TyOk.of (by kernel_rfl) rfl (by kernel_rfl) rfl (by intro fl h; cases h <;> rfl)
def ti124 : TI := ⟨sh124, .st [.lf (.string ⟨#[]⟩), .sl true .one [], .lf (.bool false), .lf (.bool false), .sl true sh240 []], [.string ⟨#[]⟩, .slice none 0 0, .bool false, .bool false, .slice none 0 0], 72, .st [(9, .one), (38, .one), (4, .one), (4, .one), (122, .one)]⟩
theorem tk124 : TyOk Tryz.prog 124 ti124 := TyOk.of (by kernel_rfl) rfl (by kernel_rfl) rfl (by intro fl h; cases h <;> rfl)
def ti48 : TI := ⟨.one, .sl true sh124 [], [.slice none 0 0], 24, .sl 124 sh124⟩
theorem tk48 : TyOk Tryz.prog 48 ti48 := TyOk.of (by kernel_rfl) rfl (by kernel_rfl) rfl (by intro fl h; cases h <;> rfl)
def ti243 : TI := ⟨sh243, .st [.lf (.string ⟨#[]⟩), .sl true sh132 []], [.string ⟨#[]⟩, .slice none 0 0], 40, .st [(9, .one), (130, .one)]⟩
theorem tk243 : TyOk Tryz.prog 243 ti243 := TyOk.of (by kernel_rfl) rfl (by kernel_rfl) rfl (by intro fl h; cases h <;> rfl)
def ti126 : TI := ⟨.one, .sl true sh243 [], [.slice none 0 0], 24, .sl 243 sh243⟩
theorem tk126 : TyOk Tryz.prog 126 ti126 := TyOk.of (by kernel_rfl) rfl (by kernel_rfl) rfl (by intro fl h; cases h <;> rfl)
def ti128 : TI := ⟨sh128, .st [.lf (.string ⟨#[]⟩), .sl true .one [], .sl true sh243 []], [.string ⟨#[]⟩, .slice none 0 0, .slice none 0 0], 64, .st [(9, .one), (38, .one), (126, .one)]⟩
theorem tk128 : TyOk Tryz.prog 128 ti128 := TyOk.of (by kernel_rfl) rfl (by kernel_rfl) rfl (by intro fl h; cases h <;> rfl)
def ti49 : TI := ⟨.one, .sl true sh128 [], [.slice none 0 0], 24, .sl 128 sh128⟩
theorem tk49 : TyOk Tryz.prog 49 ti49 := TyOk.of (by kernel_rfl) rfl (by kernel_rfl) rfl (by intro fl h; cases h <;> rfl)
def ti247 : TI := ⟨sh247, .st [.lf (.string ⟨#[]⟩), .st [.lf (.int .i64 0), .lf (.string ⟨#[]⟩), .sl true sh132 []]], [.string ⟨#[]⟩, .int .i64 0, .string ⟨#[]⟩, .slice none 0 0], 64, .st [(9, .one), (132, sh132)]⟩
theorem tk247 : TyOk Tryz.prog 247 ti247 := TyOk.of (by kernel_rfl) rfl (by kernel_rfl) rfl (by intro fl h; cases h <;> rfl)
def ti133 : TI := ⟨.one, .sl true sh247 [], [.slice none 0 0], 24, .sl 247 sh247⟩
theorem tk133 : TyOk Tryz.prog 133 ti133 := TyOk.of (by kernel_rfl) rfl (by kernel_rfl) rfl (by intro fl h; cases h <;> rfl)
def ti250 : TI := ⟨sh250, .st [.lf (.string ⟨#[]⟩), .sl true .one [], .st [.lf (.int .i64 0), .lf (.string ⟨#[]⟩), .lf (.string ⟨#[]⟩), .lf (.int .i64 0), .st [.lf (.int .i64 0), .lf (.string ⟨#[]⟩), .sl true sh132 []], .sl true sh142 [], .sl true sh298 []]], [.string ⟨#[]⟩, .slice none 0 0, .int .i64 0, .string ⟨#[]⟩, .string ⟨#[]⟩, .int .i64 0, .int .i64 0, .string ⟨#[]⟩, .slice none 0 0, .slice none 0 0, .slice none 0 0], 184, .st [(9, .one), (38, .one), (142, sh142)]⟩
theorem tk250 : TyOk Tryz.prog 250 ti250 := TyOk.of (by kernel_rfl) rfl (by kernel_rfl) rfl (by intro fl h; cases h <;> rfl)
def ti134 : TI := ⟨.one, .sl true sh250 [], [.slice none 0 0], 24, .sl 250 sh250⟩
theorem tk134 : TyOk Tryz.prog 134 ti134 := TyOk.of (by kernel_rfl) rfl (by kernel_rfl) rfl (by intro fl h; cases h <;> rfl)
def ti136 : TI := ⟨sh136, .st [.lf (.string ⟨#[]⟩), .sl true .one [], .st [.lf (.int .i64 0), .lf (.string ⟨#[]⟩), .sl true sh132 []], .sl true sh247 [], .lf (.bool false), .lf (.bool false), .st [.lf (.int .i64 0), .lf (.string ⟨#[]⟩), .sl true sh132 []], .sl true sh250 []], [.string ⟨#[]⟩, .slice none 0 0, .int .i64 0, .string ⟨#[]⟩, .slice none 0 0, .slice none 0 0, .bool false, .bool false, .int .i64 0, .string ⟨#[]⟩, .slice none 0 0, .slice none 0 0], 192, .st [(9, .one), (38, .one), (132, sh132), (133, .one), (4, .one), (4, .one), (132, sh132), (134, .one)]⟩
theorem tk136 : TyOk Tryz.prog 136 ti136 := TyOk.of (by kernel_rfl) rfl (by kernel_rfl) rfl (by intro fl h; cases h <;> rfl)
def ti50 : TI := ⟨.one, .sl true sh136 [], [.slice none 0 0], 24, .sl 136 sh136⟩
theorem tk50 : TyOk Tryz.prog 50 ti50 := TyOk.of (by kernel_rfl) rfl (by kernel_rfl) rfl (by intro fl h; cases h <;> rfl)
def ti253 : TI := ⟨sh253, .st [.lf (.string ⟨#[]⟩), .st [.lf (.int .i64 0), .lf (.string ⟨#[]⟩), .sl true sh132 []]], [.string ⟨#[]⟩, .int .i64 0, .string ⟨#[]⟩, .slice none 0 0], 64, .st [(9, .one), (132, sh132)]⟩
theorem tk253 : TyOk Tryz.prog 253 ti253 := TyOk.of (by kernel_rfl) rfl (by kernel_rfl) rfl (by intro fl h; cases h <;> rfl)
def ti138 : TI := ⟨.one, .sl true sh253 [], [.slice none 0 0], 24, .sl 253 sh253⟩
theorem tk138 : TyOk Tryz.prog 138 ti138 := TyOk.of (by kernel_rfl) rfl (by kernel_rfl) rfl (by intro fl h; cases h <;> rfl)
def ti144 : TI := ⟨sh144, .st [.lf (.string ⟨#[]⟩), .sl true .one [], .sl true sh247 [], .sl true sh253 [], .st [.lf (.int .i64 0), .lf (.string ⟨#[]⟩), .sl true sh132 []], .st [.lf (.int .i64 0), .lf (.string ⟨#[]⟩), .lf (.string ⟨#[]⟩), .lf (.int .i64 0), .st [.lf (.int .i64 0), .lf (.string ⟨#[]⟩), .sl true sh132 []], .sl true sh142 [], .sl true sh298 []]], [.string ⟨#[]⟩, .slice none 0 0, .slice none 0 0, .slice none 0 0, .int .i64 0, .string ⟨#[]⟩, .slice none 0 0, .int .i64 0, .string ⟨#[]⟩, .string ⟨#[]⟩, .int .i64 0, .int .i64 0, .string ⟨#[]⟩, .slice none 0 0, .slice none 0 0, .slice none 0 0], 280, .st [(9, .one), (38, .one), (133, .one), (138, .one), (132, sh132), (142, sh142)]⟩
theorem tk144 : TyOk Tryz.prog 144 ti144 := TyOk.of (by kernel_rfl) rfl (by kernel_rfl) rfl (by intro fl h; cases h <;> rfl)
def ti51 : TI := ⟨.one, .sl true sh144 [], [.slice none 0 0], 24, .sl 144 sh144⟩
theorem tk51 : TyOk Tryz.prog 51 ti51 := TyOk.of (by kernel_rfl) rfl (by kernel_rfl) rfl (by intro fl h; cases h <;> rfl)
def ti53 : TI := ⟨sh53, .st [.lf (.string ⟨#[]⟩), .sl true .one [], .sl true sh124 [], .sl true sh128 [], .sl true sh136 [], .sl true sh144 []], [.string ⟨#[]⟩, .slice none 0 0, .slice none 0 0, .slice none 0 0, .slice none 0 0, .slice none 0 0], 136, .st [(9, .one), (38, .one), (48, .one), (49, .one), (50, .one), (51, .one)]⟩
theorem tk53 : TyOk Tryz.prog 53 ti53 := TyOk.of (by kernel_rfl) rfl (by kernel_rfl) rfl (by intro fl h; cases h <;> rfl)
def ti22 : TI := ⟨.one, .sl true sh53 [], [.slice none 0 0], 24, .sl 53 sh53⟩
theorem tk22 : TyOk Tryz.prog 22 ti22 := TyOk.of (by kernel_rfl) rfl (by kernel_rfl) rfl (by intro fl h; cases h <;> rfl)
def ti24 : TI := ⟨sh24, .st [.sl true sh53 []], [.slice none 0 0], 24, .st [(22, .one)]⟩
theorem tk24 : TyOk Tryz.prog 24 ti24 := TyOk.of (by kernel_rfl) rfl (by kernel_rfl) rfl (by intro fl h; cases h <;> rfl)
def ti88 : TI := ⟨sh88, .st [.lf (.int .i64 0), .lf (.string ⟨#[]⟩), .sl true sh88 []], [.int .i64 0, .string ⟨#[]⟩, .slice none 0 0], 48, .st [(3, .one), (9, .one), (86, .one)]⟩
theorem tk88 : TyOk Tryz.prog 88 ti88 := TyOk.of (by kernel_rfl) rfl (by kernel_rfl) rfl (by intro fl h; cases h <;> rfl)
def ti86 : TI := ⟨.one, .sl true sh88 [], [.slice none 0 0], 24, .sl 88 sh88⟩
theorem tk86 : TyOk Tryz.prog 86 ti86 := TyOk.of (by kernel_rfl) rfl (by kernel_rfl) rfl (by intro fl h; cases h <;> rfl)
def ti95 : TI := ⟨.one, .sl true sh98 [], [.slice none 0 0], 24, .sl 98 sh98⟩
theorem tk95 : TyOk Tryz.prog 95 ti95 := TyOk.of (by kernel_rfl) rfl (by kernel_rfl) rfl (by intro fl h; cases h <;> rfl)
def ti198 : TI := ⟨sh198, .st [.lf (.string ⟨#[]⟩), .sl true .one [], .st [.lf (.int .i64 0), .lf (.string ⟨#[]⟩), .lf (.string ⟨#[]⟩), .lf (.int .i64 0), .st [.lf (.int .i64 0), .lf (.string ⟨#[]⟩), .sl true sh88 []], .sl true sh98 [], .sl true sh198 []]], [.string ⟨#[]⟩, .slice none 0 0, .int .i64 0, .string ⟨#[]⟩, .string ⟨#[]⟩, .int .i64 0, .int .i64 0, .string ⟨#[]⟩, .slice none 0 0, .slice none 0 0, .slice none 0 0], 184, .st [(9, .one), (38, .one), (98, sh98)]⟩
theorem tk198 : TyOk Tryz.prog 198 ti198 := TyOk.of (by kernel_rfl) rfl (by kernel_rfl) rfl (by intro fl h; cases h <;> rfl)
def ti96 : TI := ⟨.one, .sl true sh198 [], [.slice none 0 0], 24, .sl 198 sh198⟩
theorem tk96 : TyOk Tryz.prog 96 ti96 := TyOk.of (by kernel_rfl) rfl (by kernel_rfl) rfl (by intro fl h; cases h <;> rfl)
def ti98 : TI := ⟨sh98, .st [.lf (.int .i64 0), .lf (.string ⟨#[]⟩), .lf (.string ⟨#[]⟩), .lf (.int .i64 0), .st [.lf (.int .i64 0), .lf (.string ⟨#[]⟩), .sl true sh88 []], .sl true sh98 [], .sl true sh198 []], [.int .i64 0, .string ⟨#[]⟩, .string ⟨#[]⟩, .int .i64 0, .int .i64 0, .string ⟨#[]⟩, .slice none 0 0, .slice none 0 0, .slice none 0 0], 144, .st [(3, .one), (9, .one), (9, .one), (3, .one), (88, sh88), (95, .one), (96, .one)]⟩
theorem tk98 : TyOk Tryz.prog 98 ti98 := TyOk.of (by kernel_rfl) rfl (by kernel_rfl) rfl (by intro fl h; cases h <;> rfl)
def ti154 : TI := ⟨sh154, .st [.lf (.string ⟨#[]⟩), .sl true sh88 [], .st [.lf (.int .i64 0), .lf (.string ⟨#[]⟩), .sl true sh88 []], .lf (.bool false), .sl true .one [], .st [.lf (.int .i64 0), .lf (.string ⟨#[]⟩), .lf (.string ⟨#[]⟩), .lf (.int .i64 0), .st [.lf (.int .i64 0), .lf (.string ⟨#[]⟩), .sl true sh88 []], .sl true sh98 [], .sl true sh198 []]], [.string ⟨#[]⟩, .slice none 0 0, .int .i64 0, .string ⟨#[]⟩, .slice none 0 0, .bool false, .slice none 0 0, .int .i64 0, .string ⟨#[]⟩, .string ⟨#[]⟩, .int .i64 0, .int .i64 0, .string ⟨#[]⟩, .slice none 0 0, .slice none 0 0, .slice none 0 0], 264, .st [(9, .one), (86, .one), (88, sh88), (4, .one), (38, .one), (98, sh98)]⟩
theorem tk154 : TyOk Tryz.prog 154 ti154 := TyOk.of (by kernel_rfl) rfl (by kernel_rfl) rfl (by intro fl h; cases h <;> rfl)
def ti78 : TI := ⟨.one, .sl true sh154 [], [.slice none 0 0], 24, .sl 154 sh154⟩
theorem tk78 : TyOk Tryz.prog 78 ti78 := TyOk.of (by kernel_rfl) rfl (by kernel_rfl) rfl (by intro fl h; cases h <;> rfl)
def ti80 : TI := ⟨sh80, .st [.lf (.string ⟨#[]⟩), .sl true .one [], .lf (.bool false), .lf (.bool false), .sl true sh154 []], [.string ⟨#[]⟩, .slice none 0 0, .bool false, .bool false, .slice none 0 0], 72, .st [(9, .one), (38, .one), (4, .one), (4, .one), (78, .one)]⟩
theorem tk80 : TyOk Tryz.prog 80 ti80 := TyOk.of (by kernel_rfl) rfl (by kernel_rfl) rfl (by intro fl h; cases h <;> rfl)
def ti39 : TI := ⟨.one, .sl true sh80 [], [.slice none 0 0], 24, .sl 80 sh80⟩
theorem tk39 : TyOk Tryz.prog 39 ti39 := TyOk.of (by kernel_rfl) rfl (by kernel_rfl) rfl (by intro fl h; cases h <;> rfl)
def ti159 : TI := ⟨sh159, .st [.lf (.string ⟨#[]⟩), .sl true sh88 []], [.string ⟨#[]⟩, .slice none 0 0], 40, .st [(9, .one), (86, .one)]⟩
theorem tk159 : TyOk Tryz.prog 159 ti159 := TyOk.of (by kernel_rfl) rfl (by kernel_rfl) rfl (by intro fl h; cases h <;> rfl)
def ti82 : TI := ⟨.one, .sl true sh159 [], [.slice none 0 0], 24, .sl 159 sh159⟩
theorem tk82 : TyOk Tryz.prog 82 ti82 := TyOk.of (by kernel_rfl) rfl (by kernel_rfl) rfl (by intro fl h; cases h <;> rfl)
def ti84 : TI := ⟨sh84, .st [.lf (.string ⟨#[]⟩), .sl true .one [], .sl true sh159 []], [.string ⟨#[]⟩, .slice none 0 0, .slice none 0 0], 64, .st [(9, .one), (38, .one), (82, .one)]⟩
theorem tk84 : TyOk Tryz.prog 84 ti84 := TyOk.of (by kernel_rfl) rfl (by kernel_rfl) rfl (by intro fl h; cases h <;> rfl)
def ti40 : TI := ⟨.one, .sl true sh84 [], [.slice none 0 0], 24, .sl 84 sh84⟩
theorem tk40 : TyOk Tryz.prog 40 ti40 := TyOk.of (by kernel_rfl) rfl (by kernel_rfl) rfl (by intro fl h; cases h <;> rfl)
def ti206 : TI := ⟨sh206, .st [.lf (.string ⟨#[]⟩), .st [.lf (.int .i64 0), .lf (.string ⟨#[]⟩), .sl true sh88 []]], [.string ⟨#[]⟩, .int .i64 0, .string ⟨#[]⟩, .slice none 0 0], 64, .st [(9, .one), (88, sh88)]⟩
theorem tk206 : TyOk Tryz.prog 206 ti206 := TyOk.of (by kernel_rfl) rfl (by kernel_rfl) rfl (by intro fl h; cases h <;> rfl)
def ti89 : TI := ⟨.one, .sl true sh206 [], [.slice none 0 0], 24, .sl 206 sh206⟩
theorem tk89 : TyOk Tryz.prog 89 ti89 := TyOk.of (by kernel_rfl) rfl (by kernel_rfl) rfl (by intro fl h; cases h <;> rfl)
def ti164 : TI := ⟨sh164, .st [.lf (.string ⟨#[]⟩), .sl true .one [], .st [.lf (.int .i64 0), .lf (.string ⟨#[]⟩), .lf (.string ⟨#[]⟩), .lf (.int .i64 0), .st [.lf (.int .i64 0), .lf (.string ⟨#[]⟩), .sl true sh88 []], .sl true sh98 [], .sl true sh198 []]], [.string ⟨#[]⟩, .slice none 0 0, .int .i64 0, .string ⟨#[]⟩, .string ⟨#[]⟩, .int .i64 0, .int .i64 0, .string ⟨#[]⟩, .slice none 0 0, .slice none 0 0, .slice none 0 0], 184, .st [(9, .one), (38, .one), (98, sh98)]⟩
theorem tk164 : TyOk Tryz.prog 164 ti164 := TyOk.of (by kernel_rfl) rfl (by kernel_rfl) rfl (by intro fl h; cases h <;> rfl)
def ti90 : TI := ⟨.one, .sl true sh164 [], [.slice none 0 0], 24, .sl 164 sh164⟩
theorem tk90 : TyOk Tryz.prog 90 ti90 := TyOk.of (by kernel_rfl) rfl (by kernel_rfl) rfl (by intro fl h; cases h <;> rfl)
def ti92 : TI := ⟨sh92, .st [.lf (.string ⟨#[]⟩), .sl true .one [], .st [.lf (.int .i64 0), .lf (.string ⟨#[]⟩), .sl true sh88 []], .sl true sh206 [], .lf (.bool false), .lf (.bool false), .st [.lf (.int .i64 0), .lf (.string ⟨#[]⟩), .sl true sh88 []], .sl true sh164 []], [.string ⟨#[]⟩, .slice none 0 0, .int .i64 0, .string ⟨#[]⟩, .slice none 0 0, .slice none 0 0, .bool false, .bool false, .int .i64 0, .string ⟨#[]⟩, .slice none 0 0, .slice none 0 0], 192, .st [(9, .one), (38, .one), (88, sh88), (89, .one), (4, .one), (4, .one), (88, sh88), (90, .one)]⟩
theorem tk92 : TyOk Tryz.prog 92 ti92 := TyOk.of (by kernel_rfl) rfl (by kernel_rfl) rfl (by intro fl h; cases h <;> rfl)
def ti41 : TI := ⟨.one, .sl true sh92 [], [.slice none 0 0], 24, .sl 92 sh92⟩
theorem tk41 : TyOk Tryz.prog 41 ti41 := TyOk.of (by kernel_rfl) rfl (by kernel_rfl) rfl (by intro fl h; cases h <;> rfl)
def ti167 : TI := ⟨sh167, .st [.lf (.string ⟨#[]⟩), .st [.lf (.int .i64 0), .lf (.string ⟨#[]⟩), .sl true sh88 []]], [.string ⟨#[]⟩, .int .i64 0, .string ⟨#[]⟩, .slice none 0 0], 64, .st [(9, .one), (88, sh88)]⟩
theorem tk167 : TyOk Tryz.prog 167 ti167 := TyOk.of (by kernel_rfl) rfl (by kernel_rfl) rfl (by intro fl h; cases h <;> rfl)
def ti94 : TI := ⟨.one, .sl true sh167 [], [.slice none 0 0], 24, .sl 167 sh167⟩
theorem tk94 : TyOk Tryz.prog 94 ti94 := TyOk.of (by kernel_rfl) rfl (by kernel_rfl) rfl (by intro fl h; cases h <;> rfl)
def ti100 : TI := ⟨sh100, .st [.lf (.string ⟨#[]⟩), .sl true .one [], .sl true sh206 [], .sl true sh167 [], .st [.lf (.int .i64 0), .lf (.string ⟨#[]⟩), .sl true sh88 []], .st [.lf (.int .i64 0), .lf (.string ⟨#[]⟩), .lf (.string ⟨#[]⟩), .lf (.int .i64 0), .st [.lf (.int .i64 0), .lf (.string ⟨#[]⟩), .sl true sh88 []], .sl true sh98 [], .sl true sh198 []]], [.string ⟨#[]⟩, .slice none 0 0, .slice none 0 0, .slice none 0 0, .int .i64 0, .string ⟨#[]⟩, .slice none 0 0, .int .i64 0, .string ⟨#[]⟩, .string ⟨#[]⟩, .int .i64 0, .int .i64 0, .string ⟨#[]⟩, .slice none 0 0, .slice none 0 0, .slice none 0 0], 280, .st [(9, .one), (38, .one), (89, .one), (94, .one), (88, sh88), (98, sh98)]⟩
theorem tk100 : TyOk Tryz.prog 100 ti100 := TyOk.of (by kernel_rfl) rfl (by kernel_rfl) rfl (by intro fl h; cases h <;> rfl)
def ti42 : TI := ⟨.one, .sl true sh100 [], [.slice none 0 0], 24, .sl 100 sh100⟩
theorem tk42 : TyOk Tryz.prog 42 ti42 := TyOk.of (by kernel_rfl) rfl (by kernel_rfl) rfl (by intro fl h; cases h <;> rfl)
def ti44 : TI := ⟨sh44, .st [.lf (.string ⟨#[]⟩), .sl true .one [], .sl true sh80 [], .sl true sh84 [], .sl true sh92 [], .sl true sh100 []], [.string ⟨#[]⟩, .slice none 0 0, .slice none 0 0, .slice none 0 0, .slice none 0 0, .slice none 0 0], 136, .st [(9, .one), (38, .one), (39, .one), (40, .one), (41, .one), (42, .one)]⟩
theorem tk44 : TyOk Tryz.prog 44 ti44 := TyOk.of (by kernel_rfl) rfl (by kernel_rfl) rfl (by intro fl h; cases h <;> rfl)
def ti27 : TI := ⟨.one, .sl true sh44 [], [.slice none 0 0], 24, .sl 44 sh44⟩
theorem tk27 : TyOk Tryz.prog 27 ti27 := TyOk.of (by kernel_rfl) rfl (by kernel_rfl) rfl (by intro fl h; cases h <;> rfl)
def ti29 : TI := ⟨sh29, .st [.sl true sh44 []], [.slice none 0 0], 24, .st [(27, .one)]⟩
theorem tk29 : TyOk Tryz.prog 29 ti29 := TyOk.of (by kernel_rfl) rfl (by kernel_rfl) rfl (by intro fl h; cases h <;> rfl)
def ti34 : TI := ⟨.one, .sl true .one [], [.slice none 0 0], 24, .sl 3 .one⟩
theorem tk34 : TyOk Tryz.prog 34 ti34 := TyOk.of (by kernel_rfl) rfl (by kernel_rfl) rfl (by intro fl h; cases h <;> rfl)
def ti55 : TI := ⟨.one, .sl true .one [], [.slice none 0 0], 24, .sl 34 .one⟩
theorem tk55 : TyOk Tryz.prog 55 ti55 := TyOk.of (by kernel_rfl) rfl (by kernel_rfl) rfl (by intro fl h; cases h <;> rfl)
def ti58 : TI := ⟨.one, .sl true .one [], [.slice none 0 0], 24, .sl 5 .one⟩
theorem tk58 : TyOk Tryz.prog 58 ti58 := TyOk.of (by kernel_rfl) rfl (by kernel_rfl) rfl (by intro fl h; cases h <;> rfl)
def ti61 : TI := ⟨sh61, .st [.lf (.string ⟨#[]⟩), .sl true sh61 []], [.string ⟨#[]⟩, .slice none 0 0], 40, .st [(9, .one), (59, .one)]⟩
theorem tk61 : TyOk Tryz.prog 61 ti61 := TyOk.of (by kernel_rfl) rfl (by kernel_rfl) rfl (by intro fl h; cases h <;> rfl)
def ti59 : TI := ⟨.one, .sl true sh61 [], [.slice none 0 0], 24, .sl 61 sh61⟩
theorem tk59 : TyOk Tryz.prog 59 ti59 := TyOk.of (by kernel_rfl) rfl (by kernel_rfl) rfl (by intro fl h; cases h <;> rfl)
def ti65 : TI := ⟨.one, .sl true .one [], [.slice none 0 0], 24, .sl 4 .one⟩
theorem tk65 : TyOk Tryz.prog 65 ti65 := TyOk.of (by kernel_rfl) rfl (by kernel_rfl) rfl (by intro fl h; cases h <;> rfl)
def ti216 : TI := ⟨.one, .lf (.int .u64 0), [.int .u64 0], 8, .int .u64⟩
theorem tk216 : TyOk Tryz.prog 216 ti216 := TyOk.of (by kernel_rfl) rfl (by kernel_rfl) rfl (by intro fl h; cases h <;> rfl)
def ti223 : TI := ⟨sh223, .st [.sl true .one [], .sl true .one [], .sl true .one [], .sl true .one []], [.slice none 0 0, .slice none 0 0, .slice none 0 0, .slice none 0 0], 96, .ar 4 38 .one⟩
theorem tk223 : TyOk Tryz.prog 223 ti223 := TyOk.of (by kernel_rfl) rfl (by kernel_rfl) rfl (by intro fl h; cases h <;> rfl)
def ti271 : TI := ⟨.one, .lf (.int .u32 0), [.int .u32 0], 4, .int .u32⟩
theorem tk271 : TyOk Tryz.prog 271 ti271 := TyOk.of (by kernel_rfl) rfl (by kernel_rfl) rfl (by intro fl h; cases h <;> rfl)
def ti274 : TI := ⟨.one, .lf (.int .u64 0), [.int .u64 0], 8, .int .u64⟩
theorem tk274 : TyOk Tryz.prog 274 ti274 := TyOk.of (by kernel_rfl) rfl (by kernel_rfl) rfl (by intro fl h; cases h <;> rfl)
def ti283 : TI := ⟨.one, .sl true .one [], [.slice none 0 0], 24, .sl 59 .one⟩
theorem tk283 : TyOk Tryz.prog 283 ti283 := TyOk.of (by kernel_rfl) rfl (by kernel_rfl) rfl (by intro fl h; cases h <;> rfl)
def ti327 : TI := ⟨.one, .sl true .one [], [.slice none 0 0], 24, .sl 38 .one⟩
theorem tk327 : TyOk Tryz.prog 327 ti327 := TyOk.of (by kernel_rfl) rfl (by kernel_rfl) rfl (by intro fl h; cases h <;> rfl)
def tyF : Nat → Option TI
 | 2 => some ti2
 | 3 => some ti3
 | 4 => some ti4
 | 5 => some ti5
 | 9 => some ti9
 | 38 => some ti38
 | 132 => some ti132
 | 130 => some ti130
 | 139 => some ti139
 | 298 => some ti298
 | 140 => some ti140
 | 142 => some ti142
 | 240 => some ti240
 | 122 => some ti122
 | 124 => some ti124
 | 48 => some ti48
 | 243 => some ti243
 | 126 => some ti126
 | 128 => some ti128
 | 49 => some ti49
 | 247 => some ti247
 | 133 => some ti133
 | 250 => some ti250
 | 134 => some ti134
 | 136 => some ti136
 | 50 => some ti50
 | 253 => some ti253
 | 138 => some ti138
 | 144 => some ti144
 | 51 => some ti51
 | 53 => some ti53
 | 22 => some ti22
 | 24 => some ti24
 | 88 => some ti88
 | 86 => some ti86
 | 95 => some ti95
 | 198 => some ti198
 | 96 => some ti96
 | 98 => some ti98
 | 154 => some ti154
 | 78 => some ti78
 | 80 => some ti80
 | 39 => some ti39
 | 159 => some ti159
 | 82 => some ti82
 | 84 => some ti84
 | 40 => some ti40
 | 206 => some ti206
 | 89 => some ti89
 | 164 => some ti164
 | 90 => some ti90
 | 92 => some ti92
 | 41 => some ti41
 | 167 => some ti167
 | 94 => some ti94
 | 100 => some ti100
 | 42 => some ti42
 | 44 => some ti44
 | 27 => some ti27
 | 29 => some ti29
 | 34 => some ti34
 | 55 => some ti55
 | 58 => some ti58
 | 61 => some ti61
 | 59 => some ti59
 | 65 => some ti65
 | 216 => some ti216
 | 223 => some ti223
 | 271 => some ti271
 | 274 => some ti274
 | 283 => some ti283
 | 327 => some ti327
 | _ => none
theorem tyF_ok : ∀ T ti, tyF T = some ti → TyOk Tryz.prog T ti := by
 intro T ti h
 unfold tyF at h
 split at h <;> first | (cases h; done) | (cases h; first | exact tk2 | exact tk3 | exact tk4 | exact tk5 | exact tk9 | exact tk38 | exact tk132 | exact tk130 | exact tk139 | exact tk298 | exact tk140 | exact tk142 | exact tk240 | exact tk122 | exact tk124 | exact tk48 | exact tk243 | exact tk126 | exact tk128 | exact tk49 | exact tk247 | exact tk133 | exact tk250 | exact tk134 | exact tk136 | exact tk50 | exact tk253 | exact tk138 | exact tk144 | exact tk51 | exact tk53 | exact tk22 | exact tk24 | exact tk88 | exact tk86 | exact tk95 | exact tk198 | exact tk96 | exact tk98 | exact tk154 | exact tk78 | exact tk80 | exact tk39 | exact tk159 | exact tk82 | exact tk84 | exact tk40 | exact tk206 | exact tk89 | exact tk164 | exact tk90 | exact tk92 | exact tk41 | exact tk167 | exact tk94 | exact tk100 | exact tk42 | exact tk44 | exact tk27 | exact tk29 | exact tk34 | exact tk55 | exact tk58 | exact tk61 | exact tk59 | exact tk65 | exact tk216 | exact tk223 | exact tk271 | exact tk274 | exact tk283 | exact tk327)
noncomputable def cx : Cx := ⟨Tryz.prog, tyF, tyF_ok⟩
theorem ty2 : cx.ty 2 = some ⟨.one, .lf (.int .i64 0), [.int .i64 0], 8, .int .i64⟩ := rfl
theorem ty3 : cx.ty 3 = some ⟨.one, .lf (.int .i64 0), [.int .i64 0], 8, .int .i64⟩ := rfl
theorem ty4 : cx.ty 4 = some ⟨.one, .lf (.bool false), [.bool false], 1, .bool⟩ := rfl
theorem ty5 : cx.ty 5 = some ⟨.one, .lf (.int .u8 0), [.int .u8 0], 1, .int .u8⟩ := rfl
theorem ty9 : cx.ty 9 = some ⟨.one, .lf (.string ⟨#[]⟩), [.string ⟨#[]⟩], 16, .str⟩ := rfl
theorem ty38 : cx.ty 38 = some ⟨.one, .sl true .one [], [.slice none 0 0], 24, .sl 9 .one⟩ := rfl
theorem ty132 : cx.ty 132 = some ⟨sh132, .st [.lf (.int .i64 0), .lf (.string ⟨#[]⟩), .sl true sh132 []], [.int .i64 0, .string ⟨#[]⟩, .slice none 0 0], 48, .st [(3, .one), (9, .one), (130, .one)]⟩ := rfl
theorem ty130 : cx.ty 130 = some ⟨.one, .sl true sh132 [], [.slice none 0 0], 24, .sl 132 sh132⟩ := rfl
theorem ty139 : cx.ty 139 = some ⟨.one, .sl true sh142 [], [.slice none 0 0], 24, .sl 142 sh142⟩ := rfl
theorem ty298 : cx.ty 298 = some ⟨sh298, .st [.lf (.string ⟨#[]⟩), .sl true .one [], .st [.lf (.int .i64 0), .lf (.string ⟨#[]⟩), .lf (.string ⟨#[]⟩), .lf (.int .i64 0), .st [.lf (.int .i64 0), .lf (.string ⟨#[]⟩), .sl true sh132 []], .sl true sh142 [], .sl true sh298 []]], [.string ⟨#[]⟩, .slice none 0 0, .int .i64 0, .string ⟨#[]⟩, .string ⟨#[]⟩, .int .i64 0, .int .i64 0, .string ⟨#[]⟩, .slice none 0 0, .slice none 0 0, .slice none 0 0], 184, .st [(9, .one), (38, .one), (142, sh142)]⟩ := rfl
theorem ty140 : cx.ty 140 = some ⟨.one, .sl true sh298 [], [.slice none 0 0], 24, .sl 298 sh298⟩ := rfl
theorem ty142 : cx.ty 142 = some ⟨sh142, .st [.lf (.int .i64 0), .lf (.string ⟨#[]⟩), .lf (.string ⟨#[]⟩), .lf (.int .i64 0), .st [.lf (.int .i64 0), .lf (.string ⟨#[]⟩), .sl true sh132 []], .sl true sh142 [], .sl true sh298 []], [.int .i64 0, .string ⟨#[]⟩, .string ⟨#[]⟩, .int .i64 0, .int .i64 0, .string ⟨#[]⟩, .slice none 0 0, .slice none 0 0, .slice none 0 0], 144, .st [(3, .one), (9, .one), (9, .one), (3, .one), (132, sh132), (139, .one), (140, .one)]⟩ := rfl
theorem ty240 : cx.ty 240 = some ⟨sh240, .st [.lf (.string ⟨#[]⟩), .sl true sh132 [], .st [.lf (.int .i64 0), .lf (.string ⟨#[]⟩), .sl true sh132 []], .lf (.bool false), .sl true .one [], .st [.lf (.int .i64 0), .lf (.string ⟨#[]⟩), .lf (.string ⟨#[]⟩), .lf (.int .i64 0), .st [.lf (.int .i64 0), .lf (.string ⟨#[]⟩), .sl true sh132 []], .sl true sh142 [], .sl true sh298 []]], [.string ⟨#[]⟩, .slice none 0 0, .int .i64 0, .string ⟨#[]⟩, .slice none 0 0, .bool false, .slice none 0 0, .int .i64 0, .string ⟨#[]⟩, .string ⟨#[]⟩, .int .i64 0, .int .i64 0, .string ⟨#[]⟩, .slice none 0 0, .slice none 0 0, .slice none 0 0], 264, .st [(9, .one), (130, .one), (132, sh132), (4, .one), (38, .one), (142, sh142)]⟩ := rfl
theorem ty122 : cx.ty 122 = some ⟨.one, .sl true sh240 [], [.slice none 0 0], 24, .sl 240 sh240⟩ := rfl
theorem ty124 : cx.ty 124 = some ⟨sh124, .st [.lf (.string ⟨#[]⟩), .sl true .one [], .lf (.bool false), .lf (.bool false), .sl true sh240 []], [.string ⟨#[]⟩, .slice none 0 0, .bool false, .bool false, .slice none 0 0], 72, .st [(9, .one), (38, .one), (4, .one), (4, .one), (122, .one)]⟩ := rfl
theorem ty48 : cx.ty 48 = some ⟨.one, .sl true sh124 [], [.slice none 0 0], 24, .sl 124 sh124⟩ := rfl
theorem ty243 : cx.ty 243 = some ⟨sh243, .st [.lf (.string ⟨#[]⟩), .sl true sh132 []], [.string ⟨#[]⟩, .slice none 0 0], 40, .st [(9, .one), (130, .one)]⟩ := rfl
theorem ty126 : cx.ty 126 = some ⟨.one, .sl true sh243 [], [.slice none 0 0], 24, .sl 243 sh243⟩ := rfl
theorem ty128 : cx.ty 128 = some ⟨sh128, .st [.lf (.string ⟨#[]⟩), .sl true .one [], .sl true sh243 []], [.string ⟨#[]⟩, .slice none 0 0, .slice none 0 0], 64, .st [(9, .one), (38, .one), (126, .one)]⟩ := rfl
theorem ty49 : cx.ty 49 = some ⟨.one, .sl true sh128 [], [.slice none 0 0], 24, .sl 128 sh128⟩ := rfl
theorem ty247 : cx.ty 247 = some ⟨sh247, .st [.lf (.string ⟨#[]⟩), .st [.lf (.int .i64 0), .lf (.string ⟨#[]⟩), .sl true sh132 []]], [.string ⟨#[]⟩, .int .i64 0, .string ⟨#[]⟩, .slice none 0 0], 64, .st [(9, .one), (132, sh132)]⟩ := rfl
theorem ty133 : cx.ty 133 = some ⟨.one, .sl true sh247 [], [.slice none 0 0], 24, .sl 247 sh247⟩ := rfl
theorem ty250 : cx.ty 250 = some ⟨sh250, .st [.lf (.string ⟨#[]⟩), .sl true .one [], .st [.lf (.int .i64 0), .lf (.string ⟨#[]⟩), .lf (.string ⟨#[]⟩), .lf (.int .i64 0), .st [.lf (.int .i64 0), .lf (.string ⟨#[]⟩), .sl true sh132 []], .sl true sh142 [], .sl true sh298 []]], [.string ⟨#[]⟩, .slice none 0 0, .int .i64 0, .string ⟨#[]⟩, .string ⟨#[]⟩, .int .i64 0, .int .i64 0, .string ⟨#[]⟩, .slice none 0 0, .slice none 0 0, .slice none 0 0], 184, .st [(9, .one), (38, .one), (142, sh142)]⟩ := rfl
theorem ty134 : cx.ty 134 = some ⟨.one, .sl true sh250 [], [.slice none 0 0], 24, .sl 250 sh250⟩ := rfl
theorem ty136 : cx.ty 136 = some ⟨sh136, .st [.lf (.string ⟨#[]⟩), .sl true .one [], .st [.lf (.int .i64 0), .lf (.string ⟨#[]⟩), .sl true sh132 []], .sl true sh247 [], .lf (.bool false), .lf (.bool false), .st [.lf (.int .i64 0), .lf (.string ⟨#[]⟩), .sl true sh132 []], .sl true sh250 []], [.string ⟨#[]⟩, .slice none 0 0, .int .i64 0, .string ⟨#[]⟩, .slice none 0 0, .slice none 0 0, .bool false, .bool false, .int .i64 0, .string ⟨#[]⟩, .slice none 0 0, .slice none 0 0], 192, .st [(9, .one), (38, .one), (132, sh132), (133, .one), (4, .one), (4, .one), (132, sh132), (134, .one)]⟩ := rfl
theorem ty50 : cx.ty 50 = some ⟨.one, .sl true sh136 [], [.slice none 0 0], 24, .sl 136 sh136⟩ := rfl
theorem ty253 : cx.ty 253 = some ⟨sh253, .st [.lf (.string ⟨#[]⟩), .st [.lf (.int .i64 0), .lf (.string ⟨#[]⟩), .sl true sh132 []]], [.string ⟨#[]⟩, .int .i64 0, .string ⟨#[]⟩, .slice none 0 0], 64, .st [(9, .one), (132, sh132)]⟩ := rfl
theorem ty138 : cx.ty 138 = some ⟨.one, .sl true sh253 [], [.slice none 0 0], 24, .sl 253 sh253⟩ := rfl
theorem ty144 : cx.ty 144 = some ⟨sh144, .st [.lf (.string ⟨#[]⟩), .sl true .one [], .sl true sh247 [], .sl true sh253 [], .st [.lf (.int .i64 0), .lf (.string ⟨#[]⟩), .sl true sh132 []], .st [.lf (.int .i64 0), .lf (.string ⟨#[]⟩), .lf (.string ⟨#[]⟩), .lf (.int .i64 0), .st [.lf (.int .i64 0), .lf (.string ⟨#[]⟩), .sl true sh132 []], .sl true sh142 [], .sl true sh298 []]], [.string ⟨#[]⟩, .slice none 0 0, .slice none 0 0, .slice none 0 0, .int .i64 0, .string ⟨#[]⟩, .slice none 0 0, .int .i64 0, .string ⟨#[]⟩, .string ⟨#[]⟩, .int .i64 0, .int .i64 0, .string ⟨#[]⟩, .slice none 0 0, .slice none 0 0, .slice none 0 0], 280, .st [(9, .one), (38, .one), (133, .one), (138, .one), (132, sh132), (142, sh142)]⟩ := rfl
theorem ty51 : cx.ty 51 = some ⟨.one, .sl true sh144 [], [.slice none 0 0], 24, .sl 144 sh144⟩ := rfl
theorem ty53 : cx.ty 53 = some ⟨sh53, .st [.lf (.string ⟨#[]⟩), .sl true .one [], .sl true sh124 [], .sl true sh128 [], .sl true sh136 [], .sl true sh144 []], [.string ⟨#[]⟩, .slice none 0 0, .slice none 0 0, .slice none 0 0, .slice none 0 0, .slice none 0 0], 136, .st [(9, .one), (38, .one), (48, .one), (49, .one), (50, .one), (51, .one)]⟩ := rfl
theorem ty22 : cx.ty 22 = some ⟨.one, .sl true sh53 [], [.slice none 0 0], 24, .sl 53 sh53⟩ := rfl
theorem ty24 : cx.ty 24 = some ⟨sh24, .st [.sl true sh53 []], [.slice none 0 0], 24, .st [(22, .one)]⟩ := rfl
theorem ty88 : cx.ty 88 = some ⟨sh88, .st [.lf (.int .i64 0), .lf (.string ⟨#[]⟩), .sl true sh88 []], [.int .i64 0, .string ⟨#[]⟩, .slice none 0 0], 48, .st [(3, .one), (9, .one), (86, .one)]⟩ := rfl
theorem ty86 : cx.ty 86 = some ⟨.one, .sl true sh88 [], [.slice none 0 0], 24, .sl 88 sh88⟩ := rfl
theorem ty95 : cx.ty 95 = some ⟨.one, .sl true sh98 [], [.slice none 0 0], 24, .sl 98 sh98⟩ := rfl
theorem ty198 : cx.ty 198 = some ⟨sh198, .st [.lf (.string ⟨#[]⟩), .sl true .one [], .st [.lf (.int .i64 0), .lf (.string ⟨#[]⟩), .lf (.string ⟨#[]⟩), .lf (.int .i64 0), .st [.lf (.int .i64 0), .lf (.string ⟨#[]⟩), .sl true sh88 []], .sl true sh98 [], .sl true sh198 []]], [.string ⟨#[]⟩, .slice none 0 0, .int .i64 0, .string ⟨#[]⟩, .string ⟨#[]⟩, .int .i64 0, .int .i64 0, .string ⟨#[]⟩, .slice none 0 0, .slice none 0 0, .slice none 0 0], 184, .st [(9, .one), (38, .one), (98, sh98)]⟩ := rfl
theorem ty96 : cx.ty 96 = some ⟨.one, .sl true sh198 [], [.slice none 0 0], 24, .sl 198 sh198⟩ := rfl
theorem ty98 : cx.ty 98 = some ⟨sh98, .st [.lf (.int .i64 0), .lf (.string ⟨#[]⟩), .lf (.string ⟨#[]⟩), .lf (.int .i64 0), .st [.lf (.int .i64 0), .lf (.string ⟨#[]⟩), .sl true sh88 []], .sl true sh98 [], .sl true sh198 []], [.int .i64 0, .string ⟨#[]⟩, .string ⟨#[]⟩, .int .i64 0, .int .i64 0, .string ⟨#[]⟩, .slice none 0 0, .slice none 0 0, .slice none 0 0], 144, .st [(3, .one), (9, .one), (9, .one), (3, .one), (88, sh88), (95, .one), (96, .one)]⟩ := rfl
theorem ty154 : cx.ty 154 = some ⟨sh154, .st [.lf (.string ⟨#[]⟩), .sl true sh88 [], .st [.lf (.int .i64 0), .lf (.string ⟨#[]⟩), .sl true sh88 []], .lf (.bool false), .sl true .one [], .st [.lf (.int .i64 0), .lf (.string ⟨#[]⟩), .lf (.string ⟨#[]⟩), .lf (.int .i64 0), .st [.lf (.int .i64 0), .lf (.string ⟨#[]⟩), .sl true sh88 []], .sl true sh98 [], .sl true sh198 []]], [.string ⟨#[]⟩, .slice none 0 0, .int .i64 0, .string ⟨#[]⟩, .slice none 0 0, .bool false, .slice none 0 0, .int .i64 0, .string ⟨#[]⟩, .string ⟨#[]⟩, .int .i64 0, .int .i64 0, .string ⟨#[]⟩, .slice none 0 0, .slice none 0 0, .slice none 0 0], 264, .st [(9, .one), (86, .one), (88, sh88), (4, .one), (38, .one), (98, sh98)]⟩ := rfl
theorem ty78 : cx.ty 78 = some ⟨.one, .sl true sh154 [], [.slice none 0 0], 24, .sl 154 sh154⟩ := rfl
theorem ty80 : cx.ty 80 = some ⟨sh80, .st [.lf (.string ⟨#[]⟩), .sl true .one [], .lf (.bool false), .lf (.bool false), .sl true sh154 []], [.string ⟨#[]⟩, .slice none 0 0, .bool false, .bool false, .slice none 0 0], 72, .st [(9, .one), (38, .one), (4, .one), (4, .one), (78, .one)]⟩ := rfl
theorem ty39 : cx.ty 39 = some ⟨.one, .sl true sh80 [], [.slice none 0 0], 24, .sl 80 sh80⟩ := rfl
theorem ty159 : cx.ty 159 = some ⟨sh159, .st [.lf (.string ⟨#[]⟩), .sl true sh88 []], [.string ⟨#[]⟩, .slice none 0 0], 40, .st [(9, .one), (86, .one)]⟩ := rfl
theorem ty82 : cx.ty 82 = some ⟨.one, .sl true sh159 [], [.slice none 0 0], 24, .sl 159 sh159⟩ := rfl
theorem ty84 : cx.ty 84 = some ⟨sh84, .st [.lf (.string ⟨#[]⟩), .sl true .one [], .sl true sh159 []], [.string ⟨#[]⟩, .slice none 0 0, .slice none 0 0], 64, .st [(9, .one), (38, .one), (82, .one)]⟩ := rfl
theorem ty40 : cx.ty 40 = some ⟨.one, .sl true sh84 [], [.slice none 0 0], 24, .sl 84 sh84⟩ := rfl
theorem ty206 : cx.ty 206 = some ⟨sh206, .st [.lf (.string ⟨#[]⟩), .st [.lf (.int .i64 0), .lf (.string ⟨#[]⟩), .sl true sh88 []]], [.string ⟨#[]⟩, .int .i64 0, .string ⟨#[]⟩, .slice none 0 0], 64, .st [(9, .one), (88, sh88)]⟩ := rfl
theorem ty89 : cx.ty 89 = some ⟨.one, .sl true sh206 [], [.slice none 0 0], 24, .sl 206 sh206⟩ := rfl
theorem ty164 : cx.ty 164 = some ⟨sh164, .st [.lf (.string ⟨#[]⟩), .sl true .one [], .st [.lf (.int .i64 0), .lf (.string ⟨#[]⟩), .lf (.string ⟨#[]⟩), .lf (.int .i64 0), .st [.lf (.int .i64 0), .lf (.string ⟨#[]⟩), .sl true sh88 []], .sl true sh98 [], .sl true sh198 []]], [.string ⟨#[]⟩, .slice none 0 0, .int .i64 0, .string ⟨#[]⟩, .string ⟨#[]⟩, .int .i64 0, .int .i64 0, .string ⟨#[]⟩, .slice none 0 0, .slice none 0 0, .slice none 0 0], 184, .st [(9, .one), (38, .one), (98, sh98)]⟩ := rfl
theorem ty90 : cx.ty 90 = some ⟨.one, .sl true sh164 [], [.slice none 0 0], 24, .sl 164 sh164⟩ := rfl
theorem ty92 : cx.ty 92 = some ⟨sh92, .st [.lf (.string ⟨#[]⟩), .sl true .one [], .st [.lf (.int .i64 0), .lf (.string ⟨#[]⟩), .sl true sh88 []], .sl true sh206 [], .lf (.bool false), .lf (.bool false), .st [.lf (.int .i64 0), .lf (.string ⟨#[]⟩), .sl true sh88 []], .sl true sh164 []], [.string ⟨#[]⟩, .slice none 0 0, .int .i64 0, .string ⟨#[]⟩, .slice none 0 0, .slice none 0 0, .bool false, .bool false, .int .i64 0, .string ⟨#[]⟩, .slice none 0 0, .slice none 0 0], 192, .st [(9, .one), (38, .one), (88, sh88), (89, .one), (4, .one), (4, .one), (88, sh88), (90, .one)]⟩ := rfl
theorem ty41 : cx.ty 41 = some ⟨.one, .sl true sh92 [], [.slice none 0 0], 24, .sl 92 sh92⟩ := rfl
theorem ty167 : cx.ty 167 = some ⟨sh167, .st [.lf (.string ⟨#[]⟩), .st [.lf (.int .i64 0), .lf (.string ⟨#[]⟩), .sl true sh88 []]], [.string ⟨#[]⟩, .int .i64 0, .string ⟨#[]⟩, .slice none 0 0], 64, .st [(9, .one), (88, sh88)]⟩ := rfl
theorem ty94 : cx.ty 94 = some ⟨.one, .sl true sh167 [], [.slice none 0 0], 24, .sl 167 sh167⟩ := rfl
theorem ty100 : cx.ty 100 = some ⟨sh100, .st [.lf (.string ⟨#[]⟩), .sl true .one [], .sl true sh206 [], .sl true sh167 [], .st [.lf (.int .i64 0), .lf (.string ⟨#[]⟩), .sl true sh88 []], .st [.lf (.int .i64 0), .lf (.string ⟨#[]⟩), .lf (.string ⟨#[]⟩), .lf (.int .i64 0), .st [.lf (.int .i64 0), .lf (.string ⟨#[]⟩), .sl true sh88 []], .sl true sh98 [], .sl true sh198 []]], [.string ⟨#[]⟩, .slice none 0 0, .slice none 0 0, .slice none 0 0, .int .i64 0, .string ⟨#[]⟩, .slice none 0 0, .int .i64 0, .string ⟨#[]⟩, .string ⟨#[]⟩, .int .i64 0, .int .i64 0, .string ⟨#[]⟩, .slice none 0 0, .slice none 0 0, .slice none 0 0], 280, .st [(9, .one), (38, .one), (89, .one), (94, .one), (88, sh88), (98, sh98)]⟩ := rfl
theorem ty42 : cx.ty 42 = some ⟨.one, .sl true sh100 [], [.slice none 0 0], 24, .sl 100 sh100⟩ := rfl
theorem ty44 : cx.ty 44 = some ⟨sh44, .st [.lf (.string ⟨#[]⟩), .sl true .one [], .sl true sh80 [], .sl true sh84 [], .sl true sh92 [], .sl true sh100 []], [.string ⟨#[]⟩, .slice none 0 0, .slice none 0 0, .slice none 0 0, .slice none 0 0, .slice none 0 0], 136, .st [(9, .one), (38, .one), (39, .one), (40, .one), (41, .one), (42, .one)]⟩ := rfl
theorem ty27 : cx.ty 27 = some ⟨.one, .sl true sh44 [], [.slice none 0 0], 24, .sl 44 sh44⟩ := rfl
theorem ty29 : cx.ty 29 = some ⟨sh29, .st [.sl true sh44 []], [.slice none 0 0], 24, .st [(27, .one)]⟩ := rfl
theorem ty34 : cx.ty 34 = some ⟨.one, .sl true .one [], [.slice none 0 0], 24, .sl 3 .one⟩ := rfl
theorem ty55 : cx.ty 55 = some ⟨.one, .sl true .one [], [.slice none 0 0], 24, .sl 34 .one⟩ := rfl
theorem ty58 : cx.ty 58 = some ⟨.one, .sl true .one [], [.slice none 0 0], 24, .sl 5 .one⟩ := rfl
theorem ty61 : cx.ty 61 = some ⟨sh61, .st [.lf (.string ⟨#[]⟩), .sl true sh61 []], [.string ⟨#[]⟩, .slice none 0 0], 40, .st [(9, .one), (59, .one)]⟩ := rfl
theorem ty59 : cx.ty 59 = some ⟨.one, .sl true sh61 [], [.slice none 0 0], 24, .sl 61 sh61⟩ := rfl
theorem ty65 : cx.ty 65 = some ⟨.one, .sl true .one [], [.slice none 0 0], 24, .sl 4 .one⟩ := rfl
theorem ty216 : cx.ty 216 = some ⟨.one, .lf (.int .u64 0), [.int .u64 0], 8, .int .u64⟩ := rfl
theorem ty223 : cx.ty 223 = some ⟨sh223, .st [.sl true .one [], .sl true .one [], .sl true .one [], .sl true .one []], [.slice none 0 0, .slice none 0 0, .slice none 0 0, .slice none 0 0], 96, .ar 4 38 .one⟩ := rfl
theorem ty271 : cx.ty 271 = some ⟨.one, .lf (.int .u32 0), [.int .u32 0], 4, .int .u32⟩ := rfl
theorem ty274 : cx.ty 274 = some ⟨.one, .lf (.int .u64 0), [.int .u64 0], 8, .int .u64⟩ := rfl
theorem ty283 : cx.ty 283 = some ⟨.one, .sl true .one [], [.slice none 0 0], 24, .sl 59 .one⟩ := rfl
theorem ty327 : cx.ty 327 = some ⟨.one, .sl true .one [], [.slice none 0 0], 24, .sl 38 .one⟩ := rfl
mutual
def TSExpr.dd (o : Bool) : TSExpr → DD
 | ⟨fAtom, fList⟩ => .st [.lf (.string fAtom), .sl o sh61 (TSExpr.dds o fList)]
def TSExpr.dds (o : Bool) : List TSExpr → List DD
 | [] => []
 | x :: l => x.dd o :: TSExpr.dds o l
end
theorem TSExpr.dds_eq (o : Bool) : ∀ l : List TSExpr, TSExpr.dds o l = l.map (TSExpr.dd o)
 | [] => rfl
 | x :: l => by simp only [TSExpr.dds, TSExpr.dds_eq o l, List.map_cons]
theorem TSExpr.dd_eq (o : Bool) (x : TSExpr) : x.dd o = .st [.lf (.string x.fAtom), .sl o sh61 (x.fList.map (TSExpr.dd o))] := by
 cases x; simp only [TSExpr.dd, TSExpr.dds_eq]
theorem TSExpr.sh_dd (o : Bool) (x : TSExpr) : (x.dd o).sh = sh61 := by
 rw [TSExpr.dd_eq]; simp only [DD.sh, DD.shs]
mutual
theorem TSExpr.vw_dd (o : Bool) : ∀ x : TSExpr, (x.dd o).vw = x.dd false
 | ⟨fAtom, fList⟩ => by simp only [TSExpr.dd, DD.vw, DD.vws, TSExpr.vws_dds o fList]
theorem TSExpr.vws_dds (o : Bool) : ∀ l : List TSExpr, DD.vws (TSExpr.dds o l) = TSExpr.dds false l
 | [] => rfl
 | x :: l => by simp only [TSExpr.dds, DD.vws, TSExpr.vw_dd o x, TSExpr.vws_dds o l]
end
mutual
theorem TSExpr.is_dd (o : Bool) (x : TSExpr) : (x.dd o).is o x.enc := by
 rw [TSExpr.dd_eq, TSExpr.enc_eq]
 exact is_st (is_cons (is_lf _) (is_cons (is_sl (TSExpr.sh_dd o) (by decide) (fun y hy => TSExpr.is_dd o y)) (is_nil)))
termination_by SizeOf.sizeOf x
decreasing_by all_goals first | (have := List.sizeOf_lt_of_mem hy; have := x.lt_fList; omega)
end
theorem TSExpr.vws_dd (o : Bool) (l : List TSExpr) : DD.vws (l.map (TSExpr.dd o)) = l.map (TSExpr.dd false) := vws_map (TSExpr.vw_dd o) l
theorem TSExpr.shs_dd (o : Bool) (l : List TSExpr) : DD.shs (l.map (TSExpr.dd o)) = List.replicate l.length sh61 := shs_map (TSExpr.sh_dd o) l
mutual
def TType.dd (o : Bool) : TType → DD
 | ⟨fKind, fName, fArgs⟩ => .st [.lf (.int .i64 fKind), .lf (.string fName), .sl o sh88 (TType.dds o fArgs)]
def TType.dds (o : Bool) : List TType → List DD
 | [] => []
 | x :: l => x.dd o :: TType.dds o l
end
theorem TType.dds_eq (o : Bool) : ∀ l : List TType, TType.dds o l = l.map (TType.dd o)
 | [] => rfl
 | x :: l => by simp only [TType.dds, TType.dds_eq o l, List.map_cons]
theorem TType.dd_eq (o : Bool) (x : TType) : x.dd o = .st [.lf (.int .i64 x.fKind), .lf (.string x.fName), .sl o sh88 (x.fArgs.map (TType.dd o))] := by
 cases x; simp only [TType.dd, TType.dds_eq]
theorem TType.sh_dd (o : Bool) (x : TType) : (x.dd o).sh = sh88 := by
 rw [TType.dd_eq]; simp only [DD.sh, DD.shs]
mutual
theorem TType.vw_dd (o : Bool) : ∀ x : TType, (x.dd o).vw = x.dd false
 | ⟨fKind, fName, fArgs⟩ => by simp only [TType.dd, DD.vw, DD.vws, TType.vws_dds o fArgs]
theorem TType.vws_dds (o : Bool) : ∀ l : List TType, DD.vws (TType.dds o l) = TType.dds false l
 | [] => rfl
 | x :: l => by simp only [TType.dds, DD.vws, TType.vw_dd o x, TType.vws_dds o l]
end
mutual
theorem TType.is_dd (o : Bool) (x : TType) : (x.dd o).is o x.enc := by
 rw [TType.dd_eq, TType.enc_eq]
 exact is_st (is_cons (is_lf _) (is_cons (is_lf _) (is_cons (is_sl (TType.sh_dd o) (by decide) (fun y hy => TType.is_dd o y)) (is_nil))))
termination_by SizeOf.sizeOf x
decreasing_by all_goals first | (have := List.sizeOf_lt_of_mem hy; have := x.lt_fArgs; omega)
end
theorem TType.vws_dd (o : Bool) (l : List TType) : DD.vws (l.map (TType.dd o)) = l.map (TType.dd false) := vws_map (TType.vw_dd o) l
theorem TType.shs_dd (o : Bool) (l : List TType) : DD.shs (l.map (TType.dd o)) = List.replicate l.length sh88 := shs_map (TType.sh_dd o) l
mutual
def TArm.dd (o : Bool) : TArm → DD
 | ⟨fConstructor, fVars, fBody⟩ => .st [.lf (.string fConstructor), .sl o .one (fVars.map dS), TExpr.dd o fBody]
def TArm.dds (o : Bool) : List TArm → List DD
 | [] => []
 | x :: l => x.dd o :: TArm.dds o l
def TExpr.dd (o : Bool) : TExpr → DD
 | ⟨fKind, fTrait, fName, fN, fType, fArgs, fArms⟩ => .st [.lf (.int .i64 fKind), .lf (.string fTrait), .lf (.string fName), .lf (.int .i64 fN), TType.dd o fType, .sl o sh98 (TExpr.dds o fArgs), .sl o sh198 (TArm.dds o fArms)]
def TExpr.dds (o : Bool) : List TExpr → List DD
 | [] => []
 | x :: l => x.dd o :: TExpr.dds o l
end
theorem TArm.dds_eq (o : Bool) : ∀ l : List TArm, TArm.dds o l = l.map (TArm.dd o)
 | [] => rfl
 | x :: l => by simp only [TArm.dds, TArm.dds_eq o l, List.map_cons]
theorem TExpr.dds_eq (o : Bool) : ∀ l : List TExpr, TExpr.dds o l = l.map (TExpr.dd o)
 | [] => rfl
 | x :: l => by simp only [TExpr.dds, TExpr.dds_eq o l, List.map_cons]
theorem TArm.dd_eq (o : Bool) (x : TArm) : x.dd o = .st [.lf (.string x.fConstructor), .sl o .one (x.fVars.map dS), TExpr.dd o x.fBody] := by
 cases x; simp only [TArm.dd]
theorem TExpr.dd_eq (o : Bool) (x : TExpr) : x.dd o = .st [.lf (.int .i64 x.fKind), .lf (.string x.fTrait), .lf (.string x.fName), .lf (.int .i64 x.fN), TType.dd o x.fType, .sl o sh98 (x.fArgs.map (TExpr.dd o)), .sl o sh198 (x.fArms.map (TArm.dd o))] := by
 cases x; simp only [TExpr.dd, TArm.dds_eq, TExpr.dds_eq]
theorem TExpr.sh_dd (o : Bool) (x : TExpr) : (x.dd o).sh = sh98 := by
 rw [TExpr.dd_eq]; simp only [DD.sh, DD.shs, TType.sh_dd]
theorem TArm.sh_dd (o : Bool) (x : TArm) : (x.dd o).sh = sh198 := by
 rw [TArm.dd_eq]; simp only [DD.sh, DD.shs, TExpr.sh_dd]
mutual
theorem TArm.vw_dd (o : Bool) : ∀ x : TArm, (x.dd o).vw = x.dd false
 | ⟨fConstructor, fVars, fBody⟩ => by simp only [TArm.dd, DD.vw, DD.vws, vws_dS, TExpr.vw_dd o fBody]
theorem TArm.vws_dds (o : Bool) : ∀ l : List TArm, DD.vws (TArm.dds o l) = TArm.dds false l
 | [] => rfl
 | x :: l => by simp only [TArm.dds, DD.vws, TArm.vw_dd o x, TArm.vws_dds o l]
theorem TExpr.vw_dd (o : Bool) : ∀ x : TExpr, (x.dd o).vw = x.dd false
 | ⟨fKind, fTrait, fName, fN, fType, fArgs, fArms⟩ => by simp only [TExpr.dd, DD.vw, DD.vws, TType.vw_dd o fType, TExpr.vws_dds o fArgs, TArm.vws_dds o fArms]
theorem TExpr.vws_dds (o : Bool) : ∀ l : List TExpr, DD.vws (TExpr.dds o l) = TExpr.dds false l
 | [] => rfl
 | x :: l => by simp only [TExpr.dds, DD.vws, TExpr.vw_dd o x, TExpr.vws_dds o l]
end
mutual
theorem TArm.is_dd (o : Bool) (x : TArm) : (x.dd o).is o x.enc := by
 rw [TArm.dd_eq, TArm.enc_eq]
 exact is_st (is_cons (is_lf _) (is_cons (is_sl (s := .one) (fun _ => rfl) (by decide) (fun _ _ => is_lf _)) (is_cons (TExpr.is_dd o x.fBody) (is_nil))))
termination_by SizeOf.sizeOf x
decreasing_by all_goals first | (have := x.lt_fBody; omega)
theorem TExpr.is_dd (o : Bool) (x : TExpr) : (x.dd o).is o x.enc := by
 rw [TExpr.dd_eq, TExpr.enc_eq]
 exact is_st (is_cons (is_lf _) (is_cons (is_lf _) (is_cons (is_lf _) (is_cons (is_lf _) (is_cons (TType.is_dd o x.fType) (is_cons (is_sl (TExpr.sh_dd o) (by decide) (fun y hy => TExpr.is_dd o y)) (is_cons (is_sl (TArm.sh_dd o) (by decide) (fun y hy => TArm.is_dd o y)) (is_nil))))))))
termination_by SizeOf.sizeOf x
decreasing_by all_goals first | (have := List.sizeOf_lt_of_mem hy; have := x.lt_fArgs; omega) | (have := List.sizeOf_lt_of_mem hy; have := x.lt_fArms; omega)
end
theorem TArm.vws_dd (o : Bool) (l : List TArm) : DD.vws (l.map (TArm.dd o)) = l.map (TArm.dd false) := vws_map (TArm.vw_dd o) l
theorem TArm.shs_dd (o : Bool) (l : List TArm) : DD.shs (l.map (TArm.dd o)) = List.replicate l.length sh198 := shs_map (TArm.sh_dd o) l
theorem TExpr.vws_dd (o : Bool) (l : List TExpr) : DD.vws (l.map (TExpr.dd o)) = l.map (TExpr.dd false) := vws_map (TExpr.vw_dd o) l
theorem TExpr.shs_dd (o : Bool) (l : List TExpr) : DD.shs (l.map (TExpr.dd o)) = List.replicate l.length sh98 := shs_map (TExpr.sh_dd o) l
def TBound.dd (o : Bool) (x : TBound) : DD := .st [.lf (.string x.fTrait), TType.dd o x.fType]
theorem TBound.dd_eq (o : Bool) (x : TBound) : x.dd o = .st [.lf (.string x.fTrait), TType.dd o x.fType] := rfl
theorem TBound.sh_dd (o : Bool) (x : TBound) : (x.dd o).sh = sh206 := by
 rw [TBound.dd_eq]; simp only [DD.sh, DD.shs, TType.sh_dd]
theorem TBound.vw_dd (o : Bool) (x : TBound) : (x.dd o).vw = x.dd false := by
 simp only [TBound.dd_eq, DD.vw, DD.vws, TType.vw_dd o]
theorem TBound.is_dd (o : Bool) (x : TBound) : (x.dd o).is o x.enc := by
 rw [TBound.dd_eq, TBound.enc_eq]
 exact is_st (is_cons (is_lf _) (is_cons (TType.is_dd o x.fType) (is_nil)))
theorem TBound.vws_dd (o : Bool) (l : List TBound) : DD.vws (l.map (TBound.dd o)) = l.map (TBound.dd false) := vws_map (TBound.vw_dd o) l
theorem TBound.shs_dd (o : Bool) (l : List TBound) : DD.shs (l.map (TBound.dd o)) = List.replicate l.length sh206 := shs_map (TBound.sh_dd o) l
def TConstructor.dd (o : Bool) (x : TConstructor) : DD := .st [.lf (.string x.fName), .sl o sh88 (x.fFields.map (TType.dd o))]
theorem TConstructor.dd_eq (o : Bool) (x : TConstructor) : x.dd o = .st [.lf (.string x.fName), .sl o sh88 (x.fFields.map (TType.dd o))] := rfl
theorem TConstructor.sh_dd (o : Bool) (x : TConstructor) : (x.dd o).sh = sh159 := by
 rw [TConstructor.dd_eq]; simp only [DD.sh, DD.shs]
theorem TConstructor.vw_dd (o : Bool) (x : TConstructor) : (x.dd o).vw = x.dd false := by
 simp only [TConstructor.dd_eq, DD.vw, DD.vws, vws_map (TType.vw_dd o)]
theorem TConstructor.is_dd (o : Bool) (x : TConstructor) : (x.dd o).is o x.enc := by
 rw [TConstructor.dd_eq, TConstructor.enc_eq]
 exact is_st (is_cons (is_lf _) (is_cons (is_sl (TType.sh_dd o) (by decide) (fun y hy => TType.is_dd o y)) (is_nil)))
theorem TConstructor.vws_dd (o : Bool) (l : List TConstructor) : DD.vws (l.map (TConstructor.dd o)) = l.map (TConstructor.dd false) := vws_map (TConstructor.vw_dd o) l
theorem TConstructor.shs_dd (o : Bool) (l : List TConstructor) : DD.shs (l.map (TConstructor.dd o)) = List.replicate l.length sh159 := shs_map (TConstructor.sh_dd o) l
def TDataType.dd (o : Bool) (x : TDataType) : DD := .st [.lf (.string x.fName), .sl o .one (x.fVars.map dS), .sl o sh159 (x.fConstructors.map (TConstructor.dd o))]
theorem TDataType.dd_eq (o : Bool) (x : TDataType) : x.dd o = .st [.lf (.string x.fName), .sl o .one (x.fVars.map dS), .sl o sh159 (x.fConstructors.map (TConstructor.dd o))] := rfl
theorem TDataType.sh_dd (o : Bool) (x : TDataType) : (x.dd o).sh = sh84 := by
 rw [TDataType.dd_eq]; simp only [DD.sh, DD.shs]
theorem TDataType.vw_dd (o : Bool) (x : TDataType) : (x.dd o).vw = x.dd false := by
 simp only [TDataType.dd_eq, DD.vw, DD.vws, vws_dS, vws_map (TConstructor.vw_dd o)]
theorem TDataType.is_dd (o : Bool) (x : TDataType) : (x.dd o).is o x.enc := by
 rw [TDataType.dd_eq, TDataType.enc_eq]
 exact is_st (is_cons (is_lf _) (is_cons (is_sl (s := .one) (fun _ => rfl) (by decide) (fun _ _ => is_lf _)) (is_cons (is_sl (TConstructor.sh_dd o) (by decide) (fun y hy => TConstructor.is_dd o y)) (is_nil))))
theorem TDataType.vws_dd (o : Bool) (l : List TDataType) : DD.vws (l.map (TDataType.dd o)) = l.map (TDataType.dd false) := vws_map (TDataType.vw_dd o) l
theorem TDataType.shs_dd (o : Bool) (l : List TDataType) : DD.shs (l.map (TDataType.dd o)) = List.replicate l.length sh84 := shs_map (TDataType.sh_dd o) l
def TMethod.dd (o : Bool) (x : TMethod) : DD := .st [.lf (.string x.fName), .sl o .one (x.fVars.map dS), TExpr.dd o x.fBody]
theorem TMethod.dd_eq (o : Bool) (x : TMethod) : x.dd o = .st [.lf (.string x.fName), .sl o .one (x.fVars.map dS), TExpr.dd o x.fBody] := rfl
theorem TMethod.sh_dd (o : Bool) (x : TMethod) : (x.dd o).sh = sh164 := by
 rw [TMethod.dd_eq]; simp only [DD.sh, DD.shs, TExpr.sh_dd]
theorem TMethod.vw_dd (o : Bool) (x : TMethod) : (x.dd o).vw = x.dd false := by
 simp only [TMethod.dd_eq, DD.vw, DD.vws, vws_dS, TExpr.vw_dd o]
theorem TMethod.is_dd (o : Bool) (x : TMethod) : (x.dd o).is o x.enc := by
 rw [TMethod.dd_eq, TMethod.enc_eq]
 exact is_st (is_cons (is_lf _) (is_cons (is_sl (s := .one) (fun _ => rfl) (by decide) (fun _ _ => is_lf _)) (is_cons (TExpr.is_dd o x.fBody) (is_nil))))
theorem TMethod.vws_dd (o : Bool) (l : List TMethod) : DD.vws (l.map (TMethod.dd o)) = l.map (TMethod.dd false) := vws_map (TMethod.vw_dd o) l
theorem TMethod.shs_dd (o : Bool) (l : List TMethod) : DD.shs (l.map (TMethod.dd o)) = List.replicate l.length sh164 := shs_map (TMethod.sh_dd o) l
def TInstance.dd (o : Bool) (x : TInstance) : DD := .st [.lf (.string x.fTrait), .sl o .one (x.fVars.map dS), TType.dd o x.fHead, .sl o sh206 (x.fWhere.map (TBound.dd o)), .lf (.bool x.fDefault), .lf (.bool x.fHasAssoc), TType.dd o x.fAssoc, .sl o sh164 (x.fMethods.map (TMethod.dd o))]
theorem TInstance.dd_eq (o : Bool) (x : TInstance) : x.dd o = .st [.lf (.string x.fTrait), .sl o .one (x.fVars.map dS), TType.dd o x.fHead, .sl o sh206 (x.fWhere.map (TBound.dd o)), .lf (.bool x.fDefault), .lf (.bool x.fHasAssoc), TType.dd o x.fAssoc, .sl o sh164 (x.fMethods.map (TMethod.dd o))] := rfl
theorem TInstance.sh_dd (o : Bool) (x : TInstance) : (x.dd o).sh = sh92 := by
 rw [TInstance.dd_eq]; simp only [DD.sh, DD.shs, TType.sh_dd]
theorem TInstance.vw_dd (o : Bool) (x : TInstance) : (x.dd o).vw = x.dd false := by
 simp only [TInstance.dd_eq, DD.vw, DD.vws, vws_dS, TType.vw_dd o, vws_map (TBound.vw_dd o), vws_map (TMethod.vw_dd o)]
theorem TInstance.is_dd (o : Bool) (x : TInstance) : (x.dd o).is o x.enc := by
 rw [TInstance.dd_eq, TInstance.enc_eq]
 exact is_st (is_cons (is_lf _) (is_cons (is_sl (s := .one) (fun _ => rfl) (by decide) (fun _ _ => is_lf _)) (is_cons (TType.is_dd o x.fHead) (is_cons (is_sl (TBound.sh_dd o) (by decide) (fun y hy => TBound.is_dd o y)) (is_cons (is_lf _) (is_cons (is_lf _) (is_cons (TType.is_dd o x.fAssoc) (is_cons (is_sl (TMethod.sh_dd o) (by decide) (fun y hy => TMethod.is_dd o y)) (is_nil)))))))))
theorem TInstance.vws_dd (o : Bool) (l : List TInstance) : DD.vws (l.map (TInstance.dd o)) = l.map (TInstance.dd false) := vws_map (TInstance.vw_dd o) l
theorem TInstance.shs_dd (o : Bool) (l : List TInstance) : DD.shs (l.map (TInstance.dd o)) = List.replicate l.length sh92 := shs_map (TInstance.sh_dd o) l
def TParam.dd (o : Bool) (x : TParam) : DD := .st [.lf (.string x.fName), TType.dd o x.fType]
theorem TParam.dd_eq (o : Bool) (x : TParam) : x.dd o = .st [.lf (.string x.fName), TType.dd o x.fType] := rfl
theorem TParam.sh_dd (o : Bool) (x : TParam) : (x.dd o).sh = sh167 := by
 rw [TParam.dd_eq]; simp only [DD.sh, DD.shs, TType.sh_dd]
theorem TParam.vw_dd (o : Bool) (x : TParam) : (x.dd o).vw = x.dd false := by
 simp only [TParam.dd_eq, DD.vw, DD.vws, TType.vw_dd o]
theorem TParam.is_dd (o : Bool) (x : TParam) : (x.dd o).is o x.enc := by
 rw [TParam.dd_eq, TParam.enc_eq]
 exact is_st (is_cons (is_lf _) (is_cons (TType.is_dd o x.fType) (is_nil)))
theorem TParam.vws_dd (o : Bool) (l : List TParam) : DD.vws (l.map (TParam.dd o)) = l.map (TParam.dd false) := vws_map (TParam.vw_dd o) l
theorem TParam.shs_dd (o : Bool) (l : List TParam) : DD.shs (l.map (TParam.dd o)) = List.replicate l.length sh167 := shs_map (TParam.sh_dd o) l
def TFunction.dd (o : Bool) (x : TFunction) : DD := .st [.lf (.string x.fName), .sl o .one (x.fVars.map dS), .sl o sh206 (x.fWhere.map (TBound.dd o)), .sl o sh167 (x.fParams.map (TParam.dd o)), TType.dd o x.fResult, TExpr.dd o x.fBody]
theorem TFunction.dd_eq (o : Bool) (x : TFunction) : x.dd o = .st [.lf (.string x.fName), .sl o .one (x.fVars.map dS), .sl o sh206 (x.fWhere.map (TBound.dd o)), .sl o sh167 (x.fParams.map (TParam.dd o)), TType.dd o x.fResult, TExpr.dd o x.fBody] := rfl
theorem TFunction.sh_dd (o : Bool) (x : TFunction) : (x.dd o).sh = sh100 := by
 rw [TFunction.dd_eq]; simp only [DD.sh, DD.shs, TExpr.sh_dd, TType.sh_dd]
theorem TFunction.vw_dd (o : Bool) (x : TFunction) : (x.dd o).vw = x.dd false := by
 simp only [TFunction.dd_eq, DD.vw, DD.vws, vws_dS, vws_map (TBound.vw_dd o), vws_map (TParam.vw_dd o), TType.vw_dd o, TExpr.vw_dd o]
theorem TFunction.is_dd (o : Bool) (x : TFunction) : (x.dd o).is o x.enc := by
 rw [TFunction.dd_eq, TFunction.enc_eq]
 exact is_st (is_cons (is_lf _) (is_cons (is_sl (s := .one) (fun _ => rfl) (by decide) (fun _ _ => is_lf _)) (is_cons (is_sl (TBound.sh_dd o) (by decide) (fun y hy => TBound.is_dd o y)) (is_cons (is_sl (TParam.sh_dd o) (by decide) (fun y hy => TParam.is_dd o y)) (is_cons (TType.is_dd o x.fResult) (is_cons (TExpr.is_dd o x.fBody) (is_nil)))))))
theorem TFunction.vws_dd (o : Bool) (l : List TFunction) : DD.vws (l.map (TFunction.dd o)) = l.map (TFunction.dd false) := vws_map (TFunction.vw_dd o) l
theorem TFunction.shs_dd (o : Bool) (l : List TFunction) : DD.shs (l.map (TFunction.dd o)) = List.replicate l.length sh100 := shs_map (TFunction.sh_dd o) l
def TSignature.dd (o : Bool) (x : TSignature) : DD := .st [.lf (.string x.fName), .sl o sh88 (x.fParams.map (TType.dd o)), TType.dd o x.fResult, .lf (.bool x.fHasDefault), .sl o .one (x.fVars.map dS), TExpr.dd o x.fBody]
theorem TSignature.dd_eq (o : Bool) (x : TSignature) : x.dd o = .st [.lf (.string x.fName), .sl o sh88 (x.fParams.map (TType.dd o)), TType.dd o x.fResult, .lf (.bool x.fHasDefault), .sl o .one (x.fVars.map dS), TExpr.dd o x.fBody] := rfl
theorem TSignature.sh_dd (o : Bool) (x : TSignature) : (x.dd o).sh = sh154 := by
 rw [TSignature.dd_eq]; simp only [DD.sh, DD.shs, TExpr.sh_dd, TType.sh_dd]
theorem TSignature.vw_dd (o : Bool) (x : TSignature) : (x.dd o).vw = x.dd false := by
 simp only [TSignature.dd_eq, DD.vw, DD.vws, vws_map (TType.vw_dd o), TType.vw_dd o, vws_dS, TExpr.vw_dd o]
theorem TSignature.is_dd (o : Bool) (x : TSignature) : (x.dd o).is o x.enc := by
 rw [TSignature.dd_eq, TSignature.enc_eq]
 exact is_st (is_cons (is_lf _) (is_cons (is_sl (TType.sh_dd o) (by decide) (fun y hy => TType.is_dd o y)) (is_cons (TType.is_dd o x.fResult) (is_cons (is_lf _) (is_cons (is_sl (s := .one) (fun _ => rfl) (by decide) (fun _ _ => is_lf _)) (is_cons (TExpr.is_dd o x.fBody) (is_nil)))))))
theorem TSignature.vws_dd (o : Bool) (l : List TSignature) : DD.vws (l.map (TSignature.dd o)) = l.map (TSignature.dd false) := vws_map (TSignature.vw_dd o) l
theorem TSignature.shs_dd (o : Bool) (l : List TSignature) : DD.shs (l.map (TSignature.dd o)) = List.replicate l.length sh154 := shs_map (TSignature.sh_dd o) l
def TTrait.dd (o : Bool) (x : TTrait) : DD := .st [.lf (.string x.fName), .sl o .one (x.fSupertraits.map dS), .lf (.bool x.fAuto), .lf (.bool x.fAssoc), .sl o sh154 (x.fSignatures.map (TSignature.dd o))]
theorem TTrait.dd_eq (o : Bool) (x : TTrait) : x.dd o = .st [.lf (.string x.fName), .sl o .one (x.fSupertraits.map dS), .lf (.bool x.fAuto), .lf (.bool x.fAssoc), .sl o sh154 (x.fSignatures.map (TSignature.dd o))] := rfl
theorem TTrait.sh_dd (o : Bool) (x : TTrait) : (x.dd o).sh = sh80 := by
 rw [TTrait.dd_eq]; simp only [DD.sh, DD.shs]
theorem TTrait.vw_dd (o : Bool) (x : TTrait) : (x.dd o).vw = x.dd false := by
 simp only [TTrait.dd_eq, DD.vw, DD.vws, vws_dS, vws_map (TSignature.vw_dd o)]
theorem TTrait.is_dd (o : Bool) (x : TTrait) : (x.dd o).is o x.enc := by
 rw [TTrait.dd_eq, TTrait.enc_eq]
 exact is_st (is_cons (is_lf _) (is_cons (is_sl (s := .one) (fun _ => rfl) (by decide) (fun _ _ => is_lf _)) (is_cons (is_lf _) (is_cons (is_lf _) (is_cons (is_sl (TSignature.sh_dd o) (by decide) (fun y hy => TSignature.is_dd o y)) (is_nil))))))
theorem TTrait.vws_dd (o : Bool) (l : List TTrait) : DD.vws (l.map (TTrait.dd o)) = l.map (TTrait.dd false) := vws_map (TTrait.vw_dd o) l
theorem TTrait.shs_dd (o : Bool) (l : List TTrait) : DD.shs (l.map (TTrait.dd o)) = List.replicate l.length sh80 := shs_map (TTrait.sh_dd o) l
def TPackage.dd (o : Bool) (x : TPackage) : DD := .st [.lf (.string x.fName), .sl o .one (x.fDeps.map dS), .sl o sh80 (x.fTraits.map (TTrait.dd o)), .sl o sh84 (x.fDataTypes.map (TDataType.dd o)), .sl o sh92 (x.fInstances.map (TInstance.dd o)), .sl o sh100 (x.fFunctions.map (TFunction.dd o))]
theorem TPackage.dd_eq (o : Bool) (x : TPackage) : x.dd o = .st [.lf (.string x.fName), .sl o .one (x.fDeps.map dS), .sl o sh80 (x.fTraits.map (TTrait.dd o)), .sl o sh84 (x.fDataTypes.map (TDataType.dd o)), .sl o sh92 (x.fInstances.map (TInstance.dd o)), .sl o sh100 (x.fFunctions.map (TFunction.dd o))] := rfl
theorem TPackage.sh_dd (o : Bool) (x : TPackage) : (x.dd o).sh = sh44 := by
 rw [TPackage.dd_eq]; simp only [DD.sh, DD.shs]
theorem TPackage.vw_dd (o : Bool) (x : TPackage) : (x.dd o).vw = x.dd false := by
 simp only [TPackage.dd_eq, DD.vw, DD.vws, vws_dS, vws_map (TTrait.vw_dd o), vws_map (TDataType.vw_dd o), vws_map (TInstance.vw_dd o), vws_map (TFunction.vw_dd o)]
theorem TPackage.is_dd (o : Bool) (x : TPackage) : (x.dd o).is o x.enc := by
 rw [TPackage.dd_eq, TPackage.enc_eq]
 exact is_st (is_cons (is_lf _) (is_cons (is_sl (s := .one) (fun _ => rfl) (by decide) (fun _ _ => is_lf _)) (is_cons (is_sl (TTrait.sh_dd o) (by decide) (fun y hy => TTrait.is_dd o y)) (is_cons (is_sl (TDataType.sh_dd o) (by decide) (fun y hy => TDataType.is_dd o y)) (is_cons (is_sl (TInstance.sh_dd o) (by decide) (fun y hy => TInstance.is_dd o y)) (is_cons (is_sl (TFunction.sh_dd o) (by decide) (fun y hy => TFunction.is_dd o y)) (is_nil)))))))
theorem TPackage.vws_dd (o : Bool) (l : List TPackage) : DD.vws (l.map (TPackage.dd o)) = l.map (TPackage.dd false) := vws_map (TPackage.vw_dd o) l
theorem TPackage.shs_dd (o : Bool) (l : List TPackage) : DD.shs (l.map (TPackage.dd o)) = List.replicate l.length sh44 := shs_map (TPackage.sh_dd o) l
def TProgram.dd (o : Bool) (x : TProgram) : DD := .st [.sl o sh44 (x.fPackages.map (TPackage.dd o))]
theorem TProgram.dd_eq (o : Bool) (x : TProgram) : x.dd o = .st [.sl o sh44 (x.fPackages.map (TPackage.dd o))] := rfl
theorem TProgram.sh_dd (o : Bool) (x : TProgram) : (x.dd o).sh = sh29 := by
 rw [TProgram.dd_eq]; simp only [DD.sh, DD.shs]
theorem TProgram.vw_dd (o : Bool) (x : TProgram) : (x.dd o).vw = x.dd false := by
 simp only [TProgram.dd_eq, DD.vw, DD.vws, vws_map (TPackage.vw_dd o)]
theorem TProgram.is_dd (o : Bool) (x : TProgram) : (x.dd o).is o x.enc := by
 rw [TProgram.dd_eq, TProgram.enc_eq]
 exact is_st (is_cons (is_sl (TPackage.sh_dd o) (by decide) (fun y hy => TPackage.is_dd o y)) (is_nil))
theorem TProgram.vws_dd (o : Bool) (l : List TProgram) : DD.vws (l.map (TProgram.dd o)) = l.map (TProgram.dd false) := vws_map (TProgram.vw_dd o) l
theorem TProgram.shs_dd (o : Bool) (l : List TProgram) : DD.shs (l.map (TProgram.dd o)) = List.replicate l.length sh29 := shs_map (TProgram.sh_dd o) l
attribute [simp] ty2 ty3 ty4 ty5 ty9 ty38 ty132 ty130 ty139 ty298 ty140 ty142 ty240 ty122 ty124 ty48 ty243 ty126 ty128 ty49 ty247 ty133 ty250 ty134 ty136 ty50 ty253 ty138 ty144 ty51 ty53 ty22 ty24 ty88 ty86 ty95 ty198 ty96 ty98 ty154 ty78 ty80 ty39 ty159 ty82 ty84 ty40 ty206 ty89 ty164 ty90 ty92 ty41 ty167 ty94 ty100 ty42 ty44 ty27 ty29 ty34 ty55 ty58 ty61 ty59 ty65 ty216 ty223 ty271 ty274 ty283 ty327 TSExpr.dd_eq TSExpr.vws_dd TSExpr.shs_dd TType.dd_eq TType.vws_dd TType.shs_dd TArm.dd_eq TArm.vws_dd TArm.shs_dd TExpr.dd_eq TExpr.vws_dd TExpr.shs_dd TBound.dd_eq TBound.vws_dd TBound.shs_dd TConstructor.dd_eq TConstructor.vws_dd TConstructor.shs_dd TDataType.dd_eq TDataType.vws_dd TDataType.shs_dd TMethod.dd_eq TMethod.vws_dd TMethod.shs_dd TInstance.dd_eq TInstance.vws_dd TInstance.shs_dd TParam.dd_eq TParam.vws_dd TParam.shs_dd TFunction.dd_eq TFunction.vws_dd TFunction.shs_dd TSignature.dd_eq TSignature.vws_dd TSignature.shs_dd TTrait.dd_eq TTrait.vws_dd TTrait.shs_dd TPackage.dd_eq TPackage.vws_dd TPackage.shs_dd TProgram.dd_eq TProgram.vws_dd TProgram.shs_dd
end Go.Proofs.YtkadbimpaplnmaaGreatDoor
