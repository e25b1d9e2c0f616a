/- How many marks a value takes. No condition. -/
import Derived.Test.YtkmiecgcibjkbaaGreatMkFlat
namespace Go.Proofs.YtkmiecgcibjkbaaGreat
open Go.RowKit
theorem cnts_map_le {α : Type} {enc : α → D} {f : α → Nat} (h : ∀ x, cnt (enc x) ≤ 32 + 32 * f x) : ∀ l : List α, cnts (l.map enc) ≤ 32 * szs f l
 | [] => by simp [cnts, szs, szL]
 | x :: l => by
  have h1 := h x
  have h2 := cnts_map_le h l
  simp only [List.map_cons, cnts, szs, szL, List.length_cons] at h2 ⊢
  omega
theorem cntI_le (x : Int) : cnt (encI x) ≤ 32 + 32 * 0 := by rw [cntI_flat]; omega
theorem cntS_le (x : ByteArray) : cnt (encS x) ≤ 32 + 32 * ByteArray.size x := by rw [cntS_flat]; omega
theorem TInstanceRef.cnt_le (x : TInstanceRef) : cnt x.enc ≤ 2 + 32 * 0 := by
 rw [TInstanceRef.enc_eq]
 simp only [cnt, cnts, encI]
 omega
mutual
theorem TEvidence.cnt_le : ∀ x : TEvidence, cnt x.enc ≤ 4 + 32 * x.sz
 | ⟨fKind, fN, fAt, fArgs⟩ => by
  have := TInstanceRef.cnt_le fAt
  have := TEvidence.cntL_le fArgs
  simp only [TEvidence.enc, TEvidence.sz, cnt, cnts, encI]
  omega
theorem TEvidence.cntL_le : ∀ l : List TEvidence, cnts (TEvidence.encL l) ≤ 32 * (l.length + TEvidence.szLs l)
 | [] => by simp [TEvidence.encL, cnts]
 | x :: l => by
  have := TEvidence.cnt_le x
  have := TEvidence.cntL_le l
  simp only [TEvidence.encL, cnts, TEvidence.szLs, List.length_cons]
  omega
end
theorem TInstr.cnt_le (x : TInstr) : cnt x.enc ≤ 5 + 32 * TInstr.sz x := by
 rw [TInstr.enc_eq, TInstr.sz_eq]
 simp only [cnt, cnts, encI, encS]
 omega
theorem TCode.cnt_le (x : TCode) : cnt x.enc ≤ 1 + 32 * TCode.sz x := by
 have := cnts_map_le (f := TInstr.sz) (fun y => Nat.le_trans (TInstr.cnt_le y) (by omega)) x.fList
 rw [TCode.enc_eq, TCode.sz_eq]
 simp only [cnt, cnts, encI]
 omega
theorem TMethodEntry.cnt_le (x : TMethodEntry) : cnt x.enc ≤ 3 + 32 * TMethodEntry.sz x := by
 rw [TMethodEntry.enc_eq, TMethodEntry.sz_eq]
 simp only [cnt, cnts, encI, encS]
 omega
mutual
theorem TType.cnt_le : ∀ x : TType, cnt x.enc ≤ 2 + 32 * x.sz
 | ⟨fKind, fName, fArgs⟩ => by
  have := TType.cntL_le fArgs
  simp only [TType.enc, TType.sz, cnt, cnts, encI, encS]
  omega
theorem TType.cntL_le : ∀ l : List TType, cnts (TType.encL l) ≤ 32 * (l.length + TType.szLs l)
 | [] => by simp [TType.encL, cnts]
 | x :: l => by
  have := TType.cnt_le x
  have := TType.cntL_le l
  simp only [TType.encL, cnts, TType.szLs, List.length_cons]
  omega
end
mutual
theorem TCoreArm.cnt_le : ∀ x : TCoreArm, cnt x.enc ≤ 7 + 32 * x.sz
 | ⟨fConstructor, fVars, fBody⟩ => by
  have := cnts_map_le (f := ByteArray.size) cntS_le fVars
  have := TCore.cnt_le fBody
  simp only [TCoreArm.enc, TCoreArm.sz, cnt, cnts, encS]
  omega
theorem TCore.cnt_le : ∀ x : TCore, cnt x.enc ≤ 6 + 32 * x.sz
 | ⟨fKind, fTrait, fName, fN, fType, fTypeArgs, fEvidence, fArgs, fArms⟩ => by
  have := TType.cnt_le fType
  have := cnts_map_le (f := TType.sz) (fun y => Nat.le_trans (TType.cnt_le y) (by omega)) fTypeArgs
  have := cnts_map_le (f := TEvidence.sz) (fun y => Nat.le_trans (TEvidence.cnt_le y) (by omega)) fEvidence
  have := TCore.cntL_le fArgs
  have := TCoreArm.cntL_le fArms
  simp only [TCore.enc, TCore.sz, cnt, cnts, encI, encS]
  omega
theorem TCoreArm.cntL_le : ∀ l : List TCoreArm, cnts (TCoreArm.encL l) ≤ 32 * (l.length + TCoreArm.szLs l)
 | [] => by simp [TCoreArm.encL, cnts]
 | x :: l => by
  have := TCoreArm.cnt_le x
  have := TCoreArm.cntL_le l
  simp only [TCoreArm.encL, cnts, TCoreArm.szLs, List.length_cons]
  omega
theorem TCore.cntL_le : ∀ l : List TCore, cnts (TCore.encL l) ≤ 32 * (l.length + TCore.szLs l)
 | [] => by simp [TCore.encL, cnts]
 | x :: l => by
  have := TCore.cnt_le x
  have := TCore.cntL_le l
  simp only [TCore.encL, cnts, TCore.szLs, List.length_cons]
  omega
end
theorem TMethodTable.cnt_le (x : TMethodTable) : cnt x.enc ≤ 3 + 32 * TMethodTable.sz x := by
 have := TType.cnt_le x.fType
 have := cnts_map_le (f := TMethodEntry.sz) (fun y => Nat.le_trans (TMethodEntry.cnt_le y) (by omega)) x.fEntries
 rw [TMethodTable.enc_eq, TMethodTable.sz_eq]
 simp only [cnt, cnts, encS]
 omega
theorem TMachine.cnt_le (x : TMachine) : cnt x.enc ≤ 0 + 32 * TMachine.sz x := by
 have := cnts_map_le (f := TCode.sz) (fun y => Nat.le_trans (TCode.cnt_le y) (by omega)) x.fCodes
 have := cnts_map_le (f := TMethodTable.sz) (fun y => Nat.le_trans (TMethodTable.cnt_le y) (by omega)) x.fTables
 rw [TMachine.enc_eq, TMachine.sz_eq]
 simp only [cnt, cnts]
 omega
theorem TSpecialization.cnt_le (x : TSpecialization) : cnt x.enc ≤ 7 + 32 * TSpecialization.sz x := by
 have := cnts_map_le (f := TType.sz) (fun y => Nat.le_trans (TType.cnt_le y) (by omega)) x.fTypeArgs
 have := cnts_map_le (f := ByteArray.size) cntS_le x.fParams
 have := TCore.cnt_le x.fBody
 rw [TSpecialization.enc_eq, TSpecialization.sz_eq]
 simp only [cnt, cnts, encI]
 omega
theorem TMonoProgram.cnt_le (x : TMonoProgram) : cnt x.enc ≤ 0 + 32 * TMonoProgram.sz x := by
 have := cnts_map_le (f := TSpecialization.sz) (fun y => Nat.le_trans (TSpecialization.cnt_le y) (by omega)) x.fSpecializations
 have := cnts_map_le (f := TMethodTable.sz) (fun y => Nat.le_trans (TMethodTable.cnt_le y) (by omega)) x.fTables
 rw [TMonoProgram.enc_eq, TMonoProgram.sz_eq]
 simp only [cnt, cnts]
 omega
theorem TEvidence.tcnt_le (x : TEvidence) : tcnt x.enc ≤ 32 * x.sz := by
 have := cnts_map_le (f := TEvidence.sz) (fun y => Nat.le_trans (TEvidence.cnt_le y) (by omega)) x.fArgs
 rw [TEvidence.tcnt_eq, TEvidence.sz_eq]
 omega
theorem TCode.tcnt_le (x : TCode) : tcnt x.enc ≤ 32 * x.sz := by
 have := cnts_map_le (f := TInstr.sz) (fun y => Nat.le_trans (TInstr.cnt_le y) (by omega)) x.fList
 rw [TCode.tcnt_eq, TCode.sz_eq]
 omega
theorem TType.tcnt_le (x : TType) : tcnt x.enc ≤ 32 * x.sz := by
 have := cnts_map_le (f := TType.sz) (fun y => Nat.le_trans (TType.cnt_le y) (by omega)) x.fArgs
 rw [TType.tcnt_eq, TType.sz_eq]
 omega
theorem TCore.tcnt_le (x : TCore) : tcnt x.enc ≤ 32 * x.sz := by
 have := TType.tcnt_le x.fType
 have := cnts_map_le (f := TType.sz) (fun y => Nat.le_trans (TType.cnt_le y) (by omega)) x.fTypeArgs
 have := cnts_map_le (f := TEvidence.sz) (fun y => Nat.le_trans (TEvidence.cnt_le y) (by omega)) x.fEvidence
 have := cnts_map_le (f := TCore.sz) (fun y => Nat.le_trans (TCore.cnt_le y) (by omega)) x.fArgs
 have := cnts_map_le (f := TCoreArm.sz) (fun y => Nat.le_trans (TCoreArm.cnt_le y) (by omega)) x.fArms
 rw [TCore.tcnt_eq, TCore.sz_eq]
 omega
theorem TCoreArm.tcnt_le (x : TCoreArm) : tcnt x.enc ≤ 32 * x.sz := by
 have := cnts_map_le (f := ByteArray.size) cntS_le x.fVars
 have := TCore.tcnt_le x.fBody
 rw [TCoreArm.tcnt_eq, TCoreArm.sz_eq]
 omega
theorem TMethodTable.tcnt_le (x : TMethodTable) : tcnt x.enc ≤ 32 * x.sz := by
 have := TType.tcnt_le x.fType
 have := cnts_map_le (f := TMethodEntry.sz) (fun y => Nat.le_trans (TMethodEntry.cnt_le y) (by omega)) x.fEntries
 rw [TMethodTable.tcnt_eq, TMethodTable.sz_eq]
 omega
theorem TMachine.tcnt_le (x : TMachine) : tcnt x.enc ≤ 32 * x.sz := by
 have := cnts_map_le (f := TCode.sz) (fun y => Nat.le_trans (TCode.cnt_le y) (by omega)) x.fCodes
 have := cnts_map_le (f := TMethodTable.sz) (fun y => Nat.le_trans (TMethodTable.cnt_le y) (by omega)) x.fTables
 rw [TMachine.tcnt_eq, TMachine.sz_eq]
 omega
theorem TSpecialization.tcnt_le (x : TSpecialization) : tcnt x.enc ≤ 32 * x.sz := by
 have := cnts_map_le (f := TType.sz) (fun y => Nat.le_trans (TType.cnt_le y) (by omega)) x.fTypeArgs
 have := cnts_map_le (f := ByteArray.size) cntS_le x.fParams
 have := TCore.tcnt_le x.fBody
 rw [TSpecialization.tcnt_eq, TSpecialization.sz_eq]
 omega
theorem TMonoProgram.tcnt_le (x : TMonoProgram) : tcnt x.enc ≤ 32 * x.sz := by
 have := cnts_map_le (f := TSpecialization.sz) (fun y => Nat.le_trans (TSpecialization.cnt_le y) (by omega)) x.fSpecializations
 have := cnts_map_le (f := TMethodTable.sz) (fun y => Nat.le_trans (TMethodTable.cnt_le y) (by omega)) x.fTables
 rw [TMonoProgram.tcnt_eq, TMonoProgram.sz_eq]
 omega
end Go.Proofs.YtkmiecgcibjkbaaGreat
