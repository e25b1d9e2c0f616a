/- How many marks a value takes. No condition. -/
import Derived.Test.YtkmiecgcibjkbaaGreatMkFlat
namespace Go.Proofs.YtkmiecgcibjkbaaGreat
open Go.RowKit
theorem cnts_map_le {α : Type} {enc : α → D} {f : α → Nat} (h : ∀ x, cnt (enc x) ≤ 32 + 32 * f x) : ∀ l : List α, cnts (l.map enc) ≤ 32 * szs f l
  | [] => by simp [cnts, szs, szL]
  | x :: l => by
    have h1 := h x
    have h2 := cnts_map_le h l
    simp only [List.map_cons, cnts, szs, szL, List.length_cons] at h2 ⊢
    omega
theorem cntI_le (x : Int) : cnt (encI x) ≤ 32 + 32 * 0 := by rw [cntI_flat]; omega
theorem cntS_le (x : ByteArray) : cnt (encS x) ≤ 32 + 32 * ByteArray.size x := by rw [cntS_flat]; omega
mutual
theorem TType.cnt_le : ∀ x : TType, cnt x.enc ≤ 2 + 32 * x.sz
  | ⟨fKind, fName, fArgs⟩ => by
    have := TType.cntL_le fArgs
    simp only [TType.enc, TType.sz, cnt, cnts, encI, encS]
    omega
theorem TType.cntL_le : ∀ l : List TType, cnts (TType.encL l) ≤ 32 * (l.length + TType.szLs l)
  | [] => by simp [TType.encL, cnts]
  | x :: l => by
    have := TType.cnt_le x
    have := TType.cntL_le l
    simp only [TType.encL, cnts, TType.szLs, List.length_cons]
    omega
end
theorem TBinding.cnt_le (x : TBinding) : cnt x.enc ≤ 3 + 32 * TBinding.sz x := by
  have := TType.cnt_le x.fType
  rw [TBinding.enc_eq, TBinding.sz_eq]
  simp only [cnt, cnts, encS]
  omega
theorem TBound.cnt_le (x : TBound) : cnt x.enc ≤ 3 + 32 * TBound.sz x := by
  have := TType.cnt_le x.fType
  rw [TBound.enc_eq, TBound.sz_eq]
  simp only [cnt, cnts, encS]
  omega
theorem TEquation.cnt_le (x : TEquation) : cnt x.enc ≤ 5 + 32 * TEquation.sz x := by
  have := TType.cnt_le x.fA
  have := TType.cnt_le x.fB
  rw [TEquation.enc_eq, TEquation.sz_eq]
  simp only [cnt, cnts, encI]
  omega
theorem TObligation.cnt_le (x : TObligation) : cnt x.enc ≤ 4 + 32 * TObligation.sz x := by
  have := TBound.cnt_le x.fGoal
  rw [TObligation.enc_eq, TObligation.sz_eq]
  simp only [cnt, cnts, encI]
  omega
theorem TInferState.cnt_le (x : TInferState) : cnt x.enc ≤ 5 + 32 * TInferState.sz x := by
  have := cnts_map_le (f := TBinding.sz) (fun y => Nat.le_trans (TBinding.cnt_le y) (by omega)) x.fBindings
  have := cnts_map_le (f := TEquation.sz) (fun y => Nat.le_trans (TEquation.cnt_le y) (by omega)) x.fEquations
  have := cnts_map_le (f := TObligation.sz) (fun y => Nat.le_trans (TObligation.cnt_le y) (by omega)) x.fObligations
  rw [TInferState.enc_eq, TInferState.sz_eq]
  simp only [cnt, cnts, encI]
  omega
theorem TType.tcnt_le (x : TType) : tcnt x.enc ≤ 32 * x.sz := by
  have := cnts_map_le (f := TType.sz) (fun y => Nat.le_trans (TType.cnt_le y) (by omega)) x.fArgs
  rw [TType.tcnt_eq, TType.sz_eq]
  omega
theorem TBinding.tcnt_le (x : TBinding) : tcnt x.enc ≤ 32 * x.sz := by
  have := TType.tcnt_le x.fType
  rw [TBinding.tcnt_eq, TBinding.sz_eq]
  omega
theorem TBound.tcnt_le (x : TBound) : tcnt x.enc ≤ 32 * x.sz := by
  have := TType.tcnt_le x.fType
  rw [TBound.tcnt_eq, TBound.sz_eq]
  omega
theorem TEquation.tcnt_le (x : TEquation) : tcnt x.enc ≤ 32 * x.sz := by
  have := TType.tcnt_le x.fA
  have := TType.tcnt_le x.fB
  rw [TEquation.tcnt_eq, TEquation.sz_eq]
  omega
theorem TObligation.tcnt_le (x : TObligation) : tcnt x.enc ≤ 32 * x.sz := by
  have := TBound.tcnt_le x.fGoal
  rw [TObligation.tcnt_eq, TObligation.sz_eq]
  omega
theorem TInferState.tcnt_le (x : TInferState) : tcnt x.enc ≤ 32 * x.sz := by
  have := cnts_map_le (f := TBinding.sz) (fun y => Nat.le_trans (TBinding.cnt_le y) (by omega)) x.fBindings
  have := cnts_map_le (f := TEquation.sz) (fun y => Nat.le_trans (TEquation.cnt_le y) (by omega)) x.fEquations
  have := cnts_map_le (f := TObligation.sz) (fun y => Nat.le_trans (TObligation.cnt_le y) (by omega)) x.fObligations
  rw [TInferState.tcnt_eq, TInferState.sz_eq]
  omega
end Go.Proofs.YtkmiecgcibjkbaaGreat
