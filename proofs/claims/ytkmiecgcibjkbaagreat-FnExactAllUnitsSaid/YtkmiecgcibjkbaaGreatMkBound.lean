/- How many marks a value takes. No condition. -/
import Derived.Test.YtkmiecgcibjkbaaGreatMkFlat
namespace Go.Proofs.YtkmiecgcibjkbaaGreat
open Go.RowKit
theorem cnts_map_le {α : Type} {enc : α → D} {f : α → Nat} (h : ∀ x, cnt (enc x) ≤ 32 + 32 * f x) : ∀ l : List α, cnts (l.map enc) ≤ 32 * szs f l
  | [] => by simp [cnts, szs, szL]
  | x :: l => by
    have h1 := h x
    have h2 := cnts_map_le h l
    simp only [List.map_cons, cnts, szs, szL, List.length_cons] at h2 ⊢
    omega
theorem cntI_le (x : Int) : cnt (encI x) ≤ 32 + 32 * 0 := by rw [cntI_flat]; omega
theorem cntS_le (x : ByteArray) : cnt (encS x) ≤ 32 + 32 * ByteArray.size x := by rw [cntS_flat]; omega
theorem TInstanceRef.cnt_le (x : TInstanceRef) : cnt x.enc ≤ 2 + 32 * 0 := by
  rw [TInstanceRef.enc_eq]
  simp only [cnt, cnts, encI]
  omega
mutual
theorem TEvidence.cnt_le : ∀ x : TEvidence, cnt x.enc ≤ 4 + 32 * x.sz
  | ⟨fKind, fN, fAt, fArgs⟩ => by
    have := TInstanceRef.cnt_le fAt
    have := TEvidence.cntL_le fArgs
    simp only [TEvidence.enc, TEvidence.sz, cnt, cnts, encI]
    omega
theorem TEvidence.cntL_le : ∀ l : List TEvidence, cnts (TEvidence.encL l) ≤ 32 * (l.length + TEvidence.szLs l)
  | [] => by simp [TEvidence.encL, cnts]
  | x :: l => by
    have := TEvidence.cnt_le x
    have := TEvidence.cntL_le l
    simp only [TEvidence.encL, cnts, TEvidence.szLs, List.length_cons]
    omega
end
mutual
theorem TType.cnt_le : ∀ x : TType, cnt x.enc ≤ 2 + 32 * x.sz
  | ⟨fKind, fName, fArgs⟩ => by
    have := TType.cntL_le fArgs
    simp only [TType.enc, TType.sz, cnt, cnts, encI, encS]
    omega
theorem TType.cntL_le : ∀ l : List TType, cnts (TType.encL l) ≤ 32 * (l.length + TType.szLs l)
  | [] => by simp [TType.encL, cnts]
  | x :: l => by
    have := TType.cnt_le x
    have := TType.cntL_le l
    simp only [TType.encL, cnts, TType.szLs, List.length_cons]
    omega
end
theorem TBound.cnt_le (x : TBound) : cnt x.enc ≤ 3 + 32 * TBound.sz x := by
  have := TType.cnt_le x.fType
  rw [TBound.enc_eq, TBound.sz_eq]
  simp only [cnt, cnts, encS]
  omega
mutual
theorem TCoreArm.cnt_le : ∀ x : TCoreArm, cnt x.enc ≤ 7 + 32 * x.sz
  | ⟨fConstructor, fVars, fBody⟩ => by
    have := cnts_map_le (f := ByteArray.size) cntS_le fVars
    have := TCore.cnt_le fBody
    simp only [TCoreArm.enc, TCoreArm.sz, cnt, cnts, encS]
    omega
theorem TCore.cnt_le : ∀ x : TCore, cnt x.enc ≤ 6 + 32 * x.sz
  | ⟨fKind, fTrait, fName, fN, fType, fTypeArgs, fEvidence, fArgs, fArms⟩ => by
    have := TType.cnt_le fType
    have := cnts_map_le (f := TType.sz) (fun y => Nat.le_trans (TType.cnt_le y) (by omega)) fTypeArgs
    have := cnts_map_le (f := TEvidence.sz) (fun y => Nat.le_trans (TEvidence.cnt_le y) (by omega)) fEvidence
    have := TCore.cntL_le fArgs
    have := TCoreArm.cntL_le fArms
    simp only [TCore.enc, TCore.sz, cnt, cnts, encI, encS]
    omega
theorem TCoreArm.cntL_le : ∀ l : List TCoreArm, cnts (TCoreArm.encL l) ≤ 32 * (l.length + TCoreArm.szLs l)
  | [] => by simp [TCoreArm.encL, cnts]
  | x :: l => by
    have := TCoreArm.cnt_le x
    have := TCoreArm.cntL_le l
    simp only [TCoreArm.encL, cnts, TCoreArm.szLs, List.length_cons]
    omega
theorem TCore.cntL_le : ∀ l : List TCore, cnts (TCore.encL l) ≤ 32 * (l.length + TCore.szLs l)
  | [] => by simp [TCore.encL, cnts]
  | x :: l => by
    have := TCore.cnt_le x
    have := TCore.cntL_le l
    simp only [TCore.encL, cnts, TCore.szLs, List.length_cons]
    omega
end
theorem TParam.cnt_le (x : TParam) : cnt x.enc ≤ 3 + 32 * TParam.sz x := by
  have := TType.cnt_le x.fType
  rw [TParam.enc_eq, TParam.sz_eq]
  simp only [cnt, cnts, encS]
  omega
theorem TUnit.cnt_le (x : TUnit) : cnt x.enc ≤ 12 + 32 * TUnit.sz x := by
  have := cnts_map_le (f := ByteArray.size) cntS_le x.fVars
  have := cnts_map_le (f := TBound.sz) (fun y => Nat.le_trans (TBound.cnt_le y) (by omega)) x.fWhere
  have := cnts_map_le (f := TParam.sz) (fun y => Nat.le_trans (TParam.cnt_le y) (by omega)) x.fParams
  have := TType.cnt_le x.fResult
  have := TCore.cnt_le x.fBody
  rw [TUnit.enc_eq, TUnit.sz_eq]
  simp only [cnt, cnts, encI]
  omega
theorem TUnitError.cnt_le (x : TUnitError) : cnt x.enc ≤ 6 + 32 * 0 := by
  rw [TUnitError.enc_eq]
  simp only [cnt, cnts, encI]
  omega
theorem TBuiltPackage.cnt_le (x : TBuiltPackage) : cnt x.enc ≤ 2 + 32 * TBuiltPackage.sz x := by
  have := cnts_map_le (f := TUnit.sz) (fun y => Nat.le_trans (TUnit.cnt_le y) (by omega)) x.fUnits
  have := cnts_map_le (f := fun _ => 0) (fun y => Nat.le_trans (TUnitError.cnt_le y) (by omega)) x.fErrors
  rw [TBuiltPackage.enc_eq, TBuiltPackage.sz_eq]
  simp only [cnt, cnts, encS]
  omega
theorem TBuild.cnt_le (x : TBuild) : cnt x.enc ≤ 0 + 32 * TBuild.sz x := by
  have := cnts_map_le (f := TBuiltPackage.sz) (fun y => Nat.le_trans (TBuiltPackage.cnt_le y) (by omega)) x.fPackages
  rw [TBuild.enc_eq, TBuild.sz_eq]
  simp only [cnt, cnts]
  omega
theorem TEvidence.tcnt_le (x : TEvidence) : tcnt x.enc ≤ 32 * x.sz := by
  have := cnts_map_le (f := TEvidence.sz) (fun y => Nat.le_trans (TEvidence.cnt_le y) (by omega)) x.fArgs
  rw [TEvidence.tcnt_eq, TEvidence.sz_eq]
  omega
theorem TType.tcnt_le (x : TType) : tcnt x.enc ≤ 32 * x.sz := by
  have := cnts_map_le (f := TType.sz) (fun y => Nat.le_trans (TType.cnt_le y) (by omega)) x.fArgs
  rw [TType.tcnt_eq, TType.sz_eq]
  omega
theorem TBound.tcnt_le (x : TBound) : tcnt x.enc ≤ 32 * x.sz := by
  have := TType.tcnt_le x.fType
  rw [TBound.tcnt_eq, TBound.sz_eq]
  omega
theorem TCore.tcnt_le (x : TCore) : tcnt x.enc ≤ 32 * x.sz := by
  have := TType.tcnt_le x.fType
  have := cnts_map_le (f := TType.sz) (fun y => Nat.le_trans (TType.cnt_le y) (by omega)) x.fTypeArgs
  have := cnts_map_le (f := TEvidence.sz) (fun y => Nat.le_trans (TEvidence.cnt_le y) (by omega)) x.fEvidence
  have := cnts_map_le (f := TCore.sz) (fun y => Nat.le_trans (TCore.cnt_le y) (by omega)) x.fArgs
  have := cnts_map_le (f := TCoreArm.sz) (fun y => Nat.le_trans (TCoreArm.cnt_le y) (by omega)) x.fArms
  rw [TCore.tcnt_eq, TCore.sz_eq]
  omega
theorem TCoreArm.tcnt_le (x : TCoreArm) : tcnt x.enc ≤ 32 * x.sz := by
  have := cnts_map_le (f := ByteArray.size) cntS_le x.fVars
  have := TCore.tcnt_le x.fBody
  rw [TCoreArm.tcnt_eq, TCoreArm.sz_eq]
  omega
theorem TParam.tcnt_le (x : TParam) : tcnt x.enc ≤ 32 * x.sz := by
  have := TType.tcnt_le x.fType
  rw [TParam.tcnt_eq, TParam.sz_eq]
  omega
theorem TUnit.tcnt_le (x : TUnit) : tcnt x.enc ≤ 32 * x.sz := by
  have := cnts_map_le (f := ByteArray.size) cntS_le x.fVars
  have := cnts_map_le (f := TBound.sz) (fun y => Nat.le_trans (TBound.cnt_le y) (by omega)) x.fWhere
  have := cnts_map_le (f := TParam.sz) (fun y => Nat.le_trans (TParam.cnt_le y) (by omega)) x.fParams
  have := TType.tcnt_le x.fResult
  have := TCore.tcnt_le x.fBody
  rw [TUnit.tcnt_eq, TUnit.sz_eq]
  omega
theorem TBuiltPackage.tcnt_le (x : TBuiltPackage) : tcnt x.enc ≤ 32 * x.sz := by
  have := cnts_map_le (f := TUnit.sz) (fun y => Nat.le_trans (TUnit.cnt_le y) (by omega)) x.fUnits
  have := cnts_map_le (f := fun _ => 0) (fun y => Nat.le_trans (TUnitError.cnt_le y) (by omega)) x.fErrors
  rw [TBuiltPackage.tcnt_eq, TBuiltPackage.sz_eq]
  omega
theorem TBuild.tcnt_le (x : TBuild) : tcnt x.enc ≤ 32 * x.sz := by
  have := cnts_map_le (f := TBuiltPackage.sz) (fun y => Nat.le_trans (TBuiltPackage.cnt_le y) (by omega)) x.fPackages
  rw [TBuild.tcnt_eq, TBuild.sz_eq]
  omega
end Go.Proofs.YtkmiecgcibjkbaaGreat
