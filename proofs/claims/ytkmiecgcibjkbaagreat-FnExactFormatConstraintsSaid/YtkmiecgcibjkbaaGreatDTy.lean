/- The table of this program's types, and the trees of its values. No condition. -/
import Derived.Test.YtkmiecgcibjkbaaGreatDen24
import Derived.Test.YtkmiecgcibjkbaaGreatTypes
import Derived.KernelRfl
namespace Go.Proofs.YtkmiecgcibjkbaaGreat
open Go.RowKit
abbrev sh88 : Sh := .st [.one, .one, .one]
abbrev sh107 : Sh := .st [sh88, sh88, .one]
abbrev sh110 : Sh := .st [.one, sh88]
abbrev sh112 : Sh := .st [sh110, .one]
abbrev sh207 : Sh := .st [.one, sh88]
abbrev sh54 : Sh := .st [.one, .one, .one, .one, .one, .one, .one, .one]
abbrev sh202 : Sh := .st [.one, .one]
def ti3 : TI := ⟨.one, .lf (.int .i64 0), [.int .i64 0], 8, .int .i64⟩
theorem tk3 : TyOk Tryz.prog 3 ti3 := TyOk.of (by kernel_rfl) rfl (by kernel_rfl) rfl (by intro fl h; cases h <;> rfl)
def ti4 : TI := ⟨.one, .lf (.bool false), [.bool false], 1, .bool⟩
theorem tk4 : TyOk Tryz.prog 4 ti4 := TyOk.of (by kernel_rfl) rfl (by kernel_rfl) rfl (by intro fl h; cases h <;> rfl)
def ti5 : TI := ⟨.one, .lf (.int .u8 0), [.int .u8 0], 1, .int .u8⟩
theorem tk5 : TyOk Tryz.prog 5 ti5 := TyOk.of (by kernel_rfl) rfl (by kernel_rfl) rfl (by intro fl h; cases h <;> rfl)
def ti9 : TI := ⟨.one, .lf (.string ⟨#[]⟩), [.string ⟨#[]⟩], 16, .str⟩
theorem tk9 : TyOk Tryz.prog 9 ti9 := TyOk.of (by kernel_rfl) rfl (by kernel_rfl) rfl (by intro fl h; cases h <;> rfl)
def ti48 : TI := ⟨.one, .sl true .one [], [.slice none 0 0], 24, .sl 9 .one⟩
theorem tk48 : TyOk Tryz.prog 48 ti48 := TyOk.of (by kernel_rfl) rfl (by kernel_rfl) rfl (by intro fl h; cases h <;> rfl)
def ti86 : TI := ⟨.one, .sl true sh88 [], [.slice none 0 0], 24, .sl 88 sh88⟩
theorem tk86 : TyOk Tryz.prog 86 ti86 := TyOk.of (by kernel_rfl) rfl (by kernel_rfl) rfl (by intro fl h; cases h <;> rfl)
def ti88 : TI := ⟨sh88, .st [.lf (.int .i64 0), .lf (.string ⟨#[]⟩), .sl true sh88 []], [.int .i64 0, .string ⟨#[]⟩, .slice none 0 0], 48, .st [(3, .one), (9, .one), (86, .one)]⟩
theorem tk88 : TyOk Tryz.prog 88 ti88 := TyOk.of (by kernel_rfl) rfl (by kernel_rfl) rfl (by intro fl h; cases h <;> rfl)
def ti107 : TI := ⟨sh107, .st [.st [.lf (.int .i64 0), .lf (.string ⟨#[]⟩), .sl true sh88 []], .st [.lf (.int .i64 0), .lf (.string ⟨#[]⟩), .sl true sh88 []], .lf (.int .i64 0)], [.int .i64 0, .string ⟨#[]⟩, .slice none 0 0, .int .i64 0, .string ⟨#[]⟩, .slice none 0 0, .int .i64 0], 104, .st [(88, sh88), (88, sh88), (3, .one)]⟩
theorem tk107 : TyOk Tryz.prog 107 ti107 := TyOk.of (by kernel_rfl) rfl (by kernel_rfl) rfl (by intro fl h; cases h <;> rfl)
def ti51 : TI := ⟨.one, .sl true sh107 [], [.slice none 0 0], 24, .sl 107 sh107⟩
theorem tk51 : TyOk Tryz.prog 51 ti51 := TyOk.of (by kernel_rfl) rfl (by kernel_rfl) rfl (by intro fl h; cases h <;> rfl)
def ti110 : TI := ⟨sh110, .st [.lf (.string ⟨#[]⟩), .st [.lf (.int .i64 0), .lf (.string ⟨#[]⟩), .sl true sh88 []]], [.string ⟨#[]⟩, .int .i64 0, .string ⟨#[]⟩, .slice none 0 0], 64, .st [(9, .one), (88, sh88)]⟩
theorem tk110 : TyOk Tryz.prog 110 ti110 := TyOk.of (by kernel_rfl) rfl (by kernel_rfl) rfl (by intro fl h; cases h <;> rfl)
def ti112 : TI := ⟨sh112, .st [.st [.lf (.string ⟨#[]⟩), .st [.lf (.int .i64 0), .lf (.string ⟨#[]⟩), .sl true sh88 []]], .lf (.int .i64 0)], [.string ⟨#[]⟩, .int .i64 0, .string ⟨#[]⟩, .slice none 0 0, .int .i64 0], 72, .st [(110, sh110), (3, .one)]⟩
theorem tk112 : TyOk Tryz.prog 112 ti112 := TyOk.of (by kernel_rfl) rfl (by kernel_rfl) rfl (by intro fl h; cases h <;> rfl)
def ti52 : TI := ⟨.one, .sl true sh112 [], [.slice none 0 0], 24, .sl 112 sh112⟩
theorem tk52 : TyOk Tryz.prog 52 ti52 := TyOk.of (by kernel_rfl) rfl (by kernel_rfl) rfl (by intro fl h; cases h <;> rfl)
def ti207 : TI := ⟨sh207, .st [.lf (.string ⟨#[]⟩), .st [.lf (.int .i64 0), .lf (.string ⟨#[]⟩), .sl true sh88 []]], [.string ⟨#[]⟩, .int .i64 0, .string ⟨#[]⟩, .slice none 0 0], 64, .st [(9, .one), (88, sh88)]⟩
theorem tk207 : TyOk Tryz.prog 207 ti207 := TyOk.of (by kernel_rfl) rfl (by kernel_rfl) rfl (by intro fl h; cases h <;> rfl)
def ti50 : TI := ⟨.one, .sl true sh207 [], [.slice none 0 0], 24, .sl 207 sh207⟩
theorem tk50 : TyOk Tryz.prog 50 ti50 := TyOk.of (by kernel_rfl) rfl (by kernel_rfl) rfl (by intro fl h; cases h <;> rfl)
def ti54 : TI := ⟨sh54, .st [.lf (.int .i64 0), .lf (.int .i64 0), .lf (.int .i64 0), .sl true sh207 [], .sl true sh107 [], .sl true sh112 [], .lf (.int .i64 0), .lf (.int .i64 0)], [.int .i64 0, .int .i64 0, .int .i64 0, .slice none 0 0, .slice none 0 0, .slice none 0 0, .int .i64 0, .int .i64 0], 112, .st [(3, .one), (3, .one), (3, .one), (50, .one), (51, .one), (52, .one), (3, .one), (3, .one)]⟩
theorem tk54 : TyOk Tryz.prog 54 ti54 := TyOk.of (by kernel_rfl) rfl (by kernel_rfl) rfl (by intro fl h; cases h <;> rfl)
def ti202 : TI := ⟨sh202, .st [.lf (.string ⟨#[]⟩), .sl true sh202 []], [.string ⟨#[]⟩, .slice none 0 0], 40, .st [(9, .one), (200, .one)]⟩
theorem tk202 : TyOk Tryz.prog 202 ti202 := TyOk.of (by kernel_rfl) rfl (by kernel_rfl) rfl (by intro fl h; cases h <;> rfl)
def ti200 : TI := ⟨.one, .sl true sh202 [], [.slice none 0 0], 24, .sl 202 sh202⟩
theorem tk200 : TyOk Tryz.prog 200 ti200 := TyOk.of (by kernel_rfl) rfl (by kernel_rfl) rfl (by intro fl h; cases h <;> rfl)
def ti216 : TI := ⟨.one, .sl true .one [], [.slice none 0 0], 24, .sl 5 .one⟩
theorem tk216 : TyOk Tryz.prog 216 ti216 := TyOk.of (by kernel_rfl) rfl (by kernel_rfl) rfl (by intro fl h; cases h <;> rfl)
def tyF : Nat → Option TI
  | 3 => some ti3
  | 4 => some ti4
  | 5 => some ti5
  | 9 => some ti9
  | 48 => some ti48
  | 86 => some ti86
  | 88 => some ti88
  | 107 => some ti107
  | 51 => some ti51
  | 110 => some ti110
  | 112 => some ti112
  | 52 => some ti52
  | 207 => some ti207
  | 50 => some ti50
  | 54 => some ti54
  | 202 => some ti202
  | 200 => some ti200
  | 216 => some ti216
  | _ => none
theorem tyF_ok : ∀ T ti, tyF T = some ti → TyOk Tryz.prog T ti := by
  intro T ti h
  unfold tyF at h
  split at h <;> first | (cases h; done) | (cases h; first | exact tk3 | exact tk4 | exact tk5 | exact tk9 | exact tk48 | exact tk86 | exact tk88 | exact tk107 | exact tk51 | exact tk110 | exact tk112 | exact tk52 | exact tk207 | exact tk50 | exact tk54 | exact tk202 | exact tk200 | exact tk216)
noncomputable def cx : Cx := ⟨Tryz.prog, tyF, tyF_ok⟩
theorem cxP : cx.P = Tryz.prog := rfl
theorem ty3 : cx.ty 3 = some ⟨.one, .lf (.int .i64 0), [.int .i64 0], 8, .int .i64⟩ := rfl
theorem ty4 : cx.ty 4 = some ⟨.one, .lf (.bool false), [.bool false], 1, .bool⟩ := rfl
theorem ty5 : cx.ty 5 = some ⟨.one, .lf (.int .u8 0), [.int .u8 0], 1, .int .u8⟩ := rfl
theorem ty9 : cx.ty 9 = some ⟨.one, .lf (.string ⟨#[]⟩), [.string ⟨#[]⟩], 16, .str⟩ := rfl
theorem ty48 : cx.ty 48 = some ⟨.one, .sl true .one [], [.slice none 0 0], 24, .sl 9 .one⟩ := rfl
theorem ty86 : cx.ty 86 = some ⟨.one, .sl true sh88 [], [.slice none 0 0], 24, .sl 88 sh88⟩ := rfl
theorem ty88 : cx.ty 88 = some ⟨sh88, .st [.lf (.int .i64 0), .lf (.string ⟨#[]⟩), .sl true sh88 []], [.int .i64 0, .string ⟨#[]⟩, .slice none 0 0], 48, .st [(3, .one), (9, .one), (86, .one)]⟩ := rfl
theorem ty107 : cx.ty 107 = some ⟨sh107, .st [.st [.lf (.int .i64 0), .lf (.string ⟨#[]⟩), .sl true sh88 []], .st [.lf (.int .i64 0), .lf (.string ⟨#[]⟩), .sl true sh88 []], .lf (.int .i64 0)], [.int .i64 0, .string ⟨#[]⟩, .slice none 0 0, .int .i64 0, .string ⟨#[]⟩, .slice none 0 0, .int .i64 0], 104, .st [(88, sh88), (88, sh88), (3, .one)]⟩ := rfl
theorem ty51 : cx.ty 51 = some ⟨.one, .sl true sh107 [], [.slice none 0 0], 24, .sl 107 sh107⟩ := rfl
theorem ty110 : cx.ty 110 = some ⟨sh110, .st [.lf (.string ⟨#[]⟩), .st [.lf (.int .i64 0), .lf (.string ⟨#[]⟩), .sl true sh88 []]], [.string ⟨#[]⟩, .int .i64 0, .string ⟨#[]⟩, .slice none 0 0], 64, .st [(9, .one), (88, sh88)]⟩ := rfl
theorem ty112 : cx.ty 112 = some ⟨sh112, .st [.st [.lf (.string ⟨#[]⟩), .st [.lf (.int .i64 0), .lf (.string ⟨#[]⟩), .sl true sh88 []]], .lf (.int .i64 0)], [.string ⟨#[]⟩, .int .i64 0, .string ⟨#[]⟩, .slice none 0 0, .int .i64 0], 72, .st [(110, sh110), (3, .one)]⟩ := rfl
theorem ty52 : cx.ty 52 = some ⟨.one, .sl true sh112 [], [.slice none 0 0], 24, .sl 112 sh112⟩ := rfl
theorem ty207 : cx.ty 207 = some ⟨sh207, .st [.lf (.string ⟨#[]⟩), .st [.lf (.int .i64 0), .lf (.string ⟨#[]⟩), .sl true sh88 []]], [.string ⟨#[]⟩, .int .i64 0, .string ⟨#[]⟩, .slice none 0 0], 64, .st [(9, .one), (88, sh88)]⟩ := rfl
theorem ty50 : cx.ty 50 = some ⟨.one, .sl true sh207 [], [.slice none 0 0], 24, .sl 207 sh207⟩ := rfl
theorem ty54 : cx.ty 54 = some ⟨sh54, .st [.lf (.int .i64 0), .lf (.int .i64 0), .lf (.int .i64 0), .sl true sh207 [], .sl true sh107 [], .sl true sh112 [], .lf (.int .i64 0), .lf (.int .i64 0)], [.int .i64 0, .int .i64 0, .int .i64 0, .slice none 0 0, .slice none 0 0, .slice none 0 0, .int .i64 0, .int .i64 0], 112, .st [(3, .one), (3, .one), (3, .one), (50, .one), (51, .one), (52, .one), (3, .one), (3, .one)]⟩ := rfl
theorem ty202 : cx.ty 202 = some ⟨sh202, .st [.lf (.string ⟨#[]⟩), .sl true sh202 []], [.string ⟨#[]⟩, .slice none 0 0], 40, .st [(9, .one), (200, .one)]⟩ := rfl
theorem ty200 : cx.ty 200 = some ⟨.one, .sl true sh202 [], [.slice none 0 0], 24, .sl 202 sh202⟩ := rfl
theorem ty216 : cx.ty 216 = some ⟨.one, .sl true .one [], [.slice none 0 0], 24, .sl 5 .one⟩ := rfl
mutual
def TSExpr.dd (o : Bool) : TSExpr → DD
  | ⟨fAtom, fList⟩ => .st [.lf (.string fAtom), .sl o sh202 (TSExpr.dds o fList)]
def TSExpr.dds (o : Bool) : List TSExpr → List DD
  | [] => []
  | x :: l => x.dd o :: TSExpr.dds o l
end
theorem TSExpr.dds_eq (o : Bool) : ∀ l : List TSExpr, TSExpr.dds o l = l.map (TSExpr.dd o)
  | [] => rfl
  | x :: l => by simp only [TSExpr.dds, TSExpr.dds_eq o l, List.map_cons]
theorem TSExpr.dd_eq (o : Bool) (x : TSExpr) : x.dd o = .st [.lf (.string x.fAtom), .sl o sh202 (x.fList.map (TSExpr.dd o))] := by
  cases x; simp only [TSExpr.dd, TSExpr.dds_eq]
theorem TSExpr.sh_dd (o : Bool) (x : TSExpr) : (x.dd o).sh = sh202 := by
  rw [TSExpr.dd_eq]; simp only [DD.sh, DD.shs]
mutual
theorem TSExpr.vw_dd (o : Bool) : ∀ x : TSExpr, (x.dd o).vw = x.dd false
  | ⟨fAtom, fList⟩ => by simp only [TSExpr.dd, DD.vw, DD.vws, TSExpr.vws_dds o fList]
theorem TSExpr.vws_dds (o : Bool) : ∀ l : List TSExpr, DD.vws (TSExpr.dds o l) = TSExpr.dds false l
  | [] => rfl
  | x :: l => by simp only [TSExpr.dds, DD.vws, TSExpr.vw_dd o x, TSExpr.vws_dds o l]
end
mutual
theorem TSExpr.is_dd (o : Bool) (x : TSExpr) : (x.dd o).is o x.enc := by
  rw [TSExpr.dd_eq, TSExpr.enc_eq]
  exact is_st (is_cons (is_lf _) (is_cons (is_sl (TSExpr.sh_dd o) (by decide) (fun y hy => TSExpr.is_dd o y)) (is_nil)))
termination_by SizeOf.sizeOf x
decreasing_by all_goals first | (have := List.sizeOf_lt_of_mem hy; have := x.lt_fList; omega)
end
theorem TSExpr.vws_dd (o : Bool) (l : List TSExpr) : DD.vws (l.map (TSExpr.dd o)) = l.map (TSExpr.dd false) := vws_map (TSExpr.vw_dd o) l
theorem TSExpr.shs_dd (o : Bool) (l : List TSExpr) : DD.shs (l.map (TSExpr.dd o)) = List.replicate l.length sh202 := shs_map (TSExpr.sh_dd o) l
mutual
def TType.dd (o : Bool) : TType → DD
  | ⟨fKind, fName, fArgs⟩ => .st [.lf (.int .i64 fKind), .lf (.string fName), .sl o sh88 (TType.dds o fArgs)]
def TType.dds (o : Bool) : List TType → List DD
  | [] => []
  | x :: l => x.dd o :: TType.dds o l
end
theorem TType.dds_eq (o : Bool) : ∀ l : List TType, TType.dds o l = l.map (TType.dd o)
  | [] => rfl
  | x :: l => by simp only [TType.dds, TType.dds_eq o l, List.map_cons]
theorem TType.dd_eq (o : Bool) (x : TType) : x.dd o = .st [.lf (.int .i64 x.fKind), .lf (.string x.fName), .sl o sh88 (x.fArgs.map (TType.dd o))] := by
  cases x; simp only [TType.dd, TType.dds_eq]
theorem TType.sh_dd (o : Bool) (x : TType) : (x.dd o).sh = sh88 := by
  rw [TType.dd_eq]; simp only [DD.sh, DD.shs]
mutual
theorem TType.vw_dd (o : Bool) : ∀ x : TType, (x.dd o).vw = x.dd false
  | ⟨fKind, fName, fArgs⟩ => by simp only [TType.dd, DD.vw, DD.vws, TType.vws_dds o fArgs]
theorem TType.vws_dds (o : Bool) : ∀ l : List TType, DD.vws (TType.dds o l) = TType.dds false l
  | [] => rfl
  | x :: l => by simp only [TType.dds, DD.vws, TType.vw_dd o x, TType.vws_dds o l]
end
mutual
theorem TType.is_dd (o : Bool) (x : TType) : (x.dd o).is o x.enc := by
  rw [TType.dd_eq, TType.enc_eq]
  exact is_st (is_cons (is_lf _) (is_cons (is_lf _) (is_cons (is_sl (TType.sh_dd o) (by decide) (fun y hy => TType.is_dd o y)) (is_nil))))
termination_by SizeOf.sizeOf x
decreasing_by all_goals first | (have := List.sizeOf_lt_of_mem hy; have := x.lt_fArgs; omega)
end
theorem TType.vws_dd (o : Bool) (l : List TType) : DD.vws (l.map (TType.dd o)) = l.map (TType.dd false) := vws_map (TType.vw_dd o) l
theorem TType.shs_dd (o : Bool) (l : List TType) : DD.shs (l.map (TType.dd o)) = List.replicate l.length sh88 := shs_map (TType.sh_dd o) l
def TBinding.dd (o : Bool) (x : TBinding) : DD := .st [.lf (.string x.fVar), TType.dd o x.fType]
theorem TBinding.dd_eq (o : Bool) (x : TBinding) : x.dd o = .st [.lf (.string x.fVar), TType.dd o x.fType] := rfl
theorem TBinding.sh_dd (o : Bool) (x : TBinding) : (x.dd o).sh = sh207 := by
  rw [TBinding.dd_eq]; simp only [DD.sh, DD.shs, TType.sh_dd]
theorem TBinding.vw_dd (o : Bool) (x : TBinding) : (x.dd o).vw = x.dd false := by
  simp only [TBinding.dd_eq, DD.vw, DD.vws, TType.vw_dd o]
theorem TBinding.is_dd (o : Bool) (x : TBinding) : (x.dd o).is o x.enc := by
  rw [TBinding.dd_eq, TBinding.enc_eq]
  exact is_st (is_cons (is_lf _) (is_cons (TType.is_dd o x.fType) (is_nil)))
theorem TBinding.vws_dd (o : Bool) (l : List TBinding) : DD.vws (l.map (TBinding.dd o)) = l.map (TBinding.dd false) := vws_map (TBinding.vw_dd o) l
theorem TBinding.shs_dd (o : Bool) (l : List TBinding) : DD.shs (l.map (TBinding.dd o)) = List.replicate l.length sh207 := shs_map (TBinding.sh_dd o) l
def TBound.dd (o : Bool) (x : TBound) : DD := .st [.lf (.string x.fTrait), TType.dd o x.fType]
theorem TBound.dd_eq (o : Bool) (x : TBound) : x.dd o = .st [.lf (.string x.fTrait), TType.dd o x.fType] := rfl
theorem TBound.sh_dd (o : Bool) (x : TBound) : (x.dd o).sh = sh110 := by
  rw [TBound.dd_eq]; simp only [DD.sh, DD.shs, TType.sh_dd]
theorem TBound.vw_dd (o : Bool) (x : TBound) : (x.dd o).vw = x.dd false := by
  simp only [TBound.dd_eq, DD.vw, DD.vws, TType.vw_dd o]
theorem TBound.is_dd (o : Bool) (x : TBound) : (x.dd o).is o x.enc := by
  rw [TBound.dd_eq, TBound.enc_eq]
  exact is_st (is_cons (is_lf _) (is_cons (TType.is_dd o x.fType) (is_nil)))
theorem TBound.vws_dd (o : Bool) (l : List TBound) : DD.vws (l.map (TBound.dd o)) = l.map (TBound.dd false) := vws_map (TBound.vw_dd o) l
theorem TBound.shs_dd (o : Bool) (l : List TBound) : DD.shs (l.map (TBound.dd o)) = List.replicate l.length sh110 := shs_map (TBound.sh_dd o) l
def TEquation.dd (o : Bool) (x : TEquation) : DD := .st [TType.dd o x.fA, TType.dd o x.fB, .lf (.int .i64 x.fNode)]
theorem TEquation.dd_eq (o : Bool) (x : TEquation) : x.dd o = .st [TType.dd o x.fA, TType.dd o x.fB, .lf (.int .i64 x.fNode)] := rfl
theorem TEquation.sh_dd (o : Bool) (x : TEquation) : (x.dd o).sh = sh107 := by
  rw [TEquation.dd_eq]; simp only [DD.sh, DD.shs, TType.sh_dd]
theorem TEquation.vw_dd (o : Bool) (x : TEquation) : (x.dd o).vw = x.dd false := by
  simp only [TEquation.dd_eq, DD.vw, DD.vws, TType.vw_dd o]
theorem TEquation.is_dd (o : Bool) (x : TEquation) : (x.dd o).is o x.enc := by
  rw [TEquation.dd_eq, TEquation.enc_eq]
  exact is_st (is_cons (TType.is_dd o x.fA) (is_cons (TType.is_dd o x.fB) (is_cons (is_lf _) (is_nil))))
theorem TEquation.vws_dd (o : Bool) (l : List TEquation) : DD.vws (l.map (TEquation.dd o)) = l.map (TEquation.dd false) := vws_map (TEquation.vw_dd o) l
theorem TEquation.shs_dd (o : Bool) (l : List TEquation) : DD.shs (l.map (TEquation.dd o)) = List.replicate l.length sh107 := shs_map (TEquation.sh_dd o) l
def TObligation.dd (o : Bool) (x : TObligation) : DD := .st [TBound.dd o x.fGoal, .lf (.int .i64 x.fNode)]
theorem TObligation.dd_eq (o : Bool) (x : TObligation) : x.dd o = .st [TBound.dd o x.fGoal, .lf (.int .i64 x.fNode)] := rfl
theorem TObligation.sh_dd (o : Bool) (x : TObligation) : (x.dd o).sh = sh112 := by
  rw [TObligation.dd_eq]; simp only [DD.sh, DD.shs, TBound.sh_dd]
theorem TObligation.vw_dd (o : Bool) (x : TObligation) : (x.dd o).vw = x.dd false := by
  simp only [TObligation.dd_eq, DD.vw, DD.vws, TBound.vw_dd o]
theorem TObligation.is_dd (o : Bool) (x : TObligation) : (x.dd o).is o x.enc := by
  rw [TObligation.dd_eq, TObligation.enc_eq]
  exact is_st (is_cons (TBound.is_dd o x.fGoal) (is_cons (is_lf _) (is_nil)))
theorem TObligation.vws_dd (o : Bool) (l : List TObligation) : DD.vws (l.map (TObligation.dd o)) = l.map (TObligation.dd false) := vws_map (TObligation.vw_dd o) l
theorem TObligation.shs_dd (o : Bool) (l : List TObligation) : DD.shs (l.map (TObligation.dd o)) = List.replicate l.length sh112 := shs_map (TObligation.sh_dd o) l
def TInferState.dd (o : Bool) (x : TInferState) : DD := .st [.lf (.int .i64 x.fNext), .lf (.int .i64 x.fCount), .lf (.int .i64 x.fNode), .sl o sh207 (x.fBindings.map (TBinding.dd o)), .sl o sh107 (x.fEquations.map (TEquation.dd o)), .sl o sh112 (x.fObligations.map (TObligation.dd o)), .lf (.int .i64 x.fCode), .lf (.int .i64 x.fAt)]
theorem TInferState.dd_eq (o : Bool) (x : TInferState) : x.dd o = .st [.lf (.int .i64 x.fNext), .lf (.int .i64 x.fCount), .lf (.int .i64 x.fNode), .sl o sh207 (x.fBindings.map (TBinding.dd o)), .sl o sh107 (x.fEquations.map (TEquation.dd o)), .sl o sh112 (x.fObligations.map (TObligation.dd o)), .lf (.int .i64 x.fCode), .lf (.int .i64 x.fAt)] := rfl
theorem TInferState.sh_dd (o : Bool) (x : TInferState) : (x.dd o).sh = sh54 := by
  rw [TInferState.dd_eq]; simp only [DD.sh, DD.shs]
theorem TInferState.vw_dd (o : Bool) (x : TInferState) : (x.dd o).vw = x.dd false := by
  simp only [TInferState.dd_eq, DD.vw, DD.vws, vws_map (TBinding.vw_dd o), vws_map (TEquation.vw_dd o), vws_map (TObligation.vw_dd o)]
theorem TInferState.is_dd (o : Bool) (x : TInferState) : (x.dd o).is o x.enc := by
  rw [TInferState.dd_eq, TInferState.enc_eq]
  exact is_st (is_cons (is_lf _) (is_cons (is_lf _) (is_cons (is_lf _) (is_cons (is_sl (TBinding.sh_dd o) (by decide) (fun y hy => TBinding.is_dd o y)) (is_cons (is_sl (TEquation.sh_dd o) (by decide) (fun y hy => TEquation.is_dd o y)) (is_cons (is_sl (TObligation.sh_dd o) (by decide) (fun y hy => TObligation.is_dd o y)) (is_cons (is_lf _) (is_cons (is_lf _) (is_nil)))))))))
theorem TInferState.vws_dd (o : Bool) (l : List TInferState) : DD.vws (l.map (TInferState.dd o)) = l.map (TInferState.dd false) := vws_map (TInferState.vw_dd o) l
theorem TInferState.shs_dd (o : Bool) (l : List TInferState) : DD.shs (l.map (TInferState.dd o)) = List.replicate l.length sh54 := shs_map (TInferState.sh_dd o) l
attribute [simp] ty3 ty4 ty5 ty9 ty48 ty86 ty88 ty107 ty51 ty110 ty112 ty52 ty207 ty50 ty54 ty202 ty200 ty216 TSExpr.dd_eq TSExpr.vws_dd TSExpr.shs_dd TType.dd_eq TType.vws_dd TType.shs_dd TBinding.dd_eq TBinding.vws_dd TBinding.shs_dd TBound.dd_eq TBound.vws_dd TBound.shs_dd TEquation.dd_eq TEquation.vws_dd TEquation.shs_dd TObligation.dd_eq TObligation.vws_dd TObligation.shs_dd TInferState.dd_eq TInferState.vws_dd TInferState.shs_dd
end Go.Proofs.YtkmiecgcibjkbaaGreat
