/- The mirror structures of this program's data, each with its tree, its number of cells, its size, and the two lemmas that take its cells apart and put them together. No condition. -/
import Derived.Test.YtlgkplkfmcjmaaaBase
namespace Go.Proofs.Ytlgkplkfmcjmaaa
open Go.RowKit
structure TInstr where
  fOp : Int
  fA : Int
  fB : Int
  fTrait : ByteArray
  fName : ByteArray
def TInstr.enc (x : TInstr) : D := .st [(encI x.fOp), (encI x.fA), (encI x.fB), (encS x.fTrait), (encS x.fName)]
theorem TInstr.enc_eq (x : TInstr) : x.enc = .st [(encI x.fOp), (encI x.fA), (encI x.fB), (encS x.fTrait), (encS x.fName)] := rfl
def TInstr.sz (x : TInstr) : Nat := ByteArray.size x.fTrait + ByteArray.size x.fName
theorem TInstr.sz_eq (x : TInstr) : x.sz = ByteArray.size x.fTrait + ByteArray.size x.fName := rfl
theorem TInstr.width (x : TInstr) : x.enc.width = 5 := by
  rw [TInstr.enc_eq]; simp only [D.width, D.widths, encI, encS, encB]
theorem TInstr.opn {w : World} {K : Nat → Prop} {x : TInstr} {cs : List Value} (h : Rep w K x.enc cs) :
    cs = [.int .i64 x.fOp, .int .i64 x.fA, .int .i64 x.fB, .string x.fTrait, .string x.fName] ∧ InR x.fOp ∧ InR x.fA ∧ InR x.fB ∧ x.fTrait.size ≤ maxLen ∧ x.fName.size ≤ maxLen := by
  rw [TInstr.enc_eq] at h
  simp only [Rep, RepS] at h
  obtain ⟨a0, r0, rfl, k0, h⟩ := h
  simp only [encI, Rep] at k0
  obtain ⟨rfl, k0⟩ := k0
  obtain ⟨a1, r1, rfl, k1, h⟩ := h
  simp only [encI, Rep] at k1
  obtain ⟨rfl, k1⟩ := k1
  obtain ⟨a2, r2, rfl, k2, h⟩ := h
  simp only [encI, Rep] at k2
  obtain ⟨rfl, k2⟩ := k2
  obtain ⟨a3, r3, rfl, k3, h⟩ := h
  simp only [encS, Rep] at k3
  obtain ⟨rfl, k3⟩ := k3
  obtain ⟨a4, r4, rfl, k4, h⟩ := h
  simp only [encS, Rep] at k4
  obtain ⟨rfl, k4⟩ := k4
  subst h
  exact ⟨rfl, k0, k1, k2, k3, k4⟩
theorem TInstr.mk_rep {w : World} {K : Nat → Prop} {x : TInstr} (hOp : InR x.fOp) (hA : InR x.fA) (hB : InR x.fB) (hTrait : x.fTrait.size ≤ maxLen) (hName : x.fName.size ≤ maxLen) : Rep w K x.enc [.int .i64 x.fOp, .int .i64 x.fA, .int .i64 x.fB, .string x.fTrait, .string x.fName] := by
  rw [TInstr.enc_eq]
  simp only [Rep, RepS]
  exact ⟨[.int .i64 x.fOp], _, rfl, (repI hOp), ⟨[.int .i64 x.fA], _, rfl, (repI hA), ⟨[.int .i64 x.fB], _, rfl, (repI hB), ⟨[.string x.fTrait], _, rfl, (repS hTrait), ⟨[.string x.fName], _, rfl, (repS hName), rfl⟩⟩⟩⟩⟩
theorem TInstr.mk_own {w : World} {x : TInstr} (hOp : InR x.fOp) (hA : InR x.fA) (hB : InR x.fB) (hTrait : x.fTrait.size ≤ maxLen) (hName : x.fName.size ≤ maxLen) : Own w x.enc [.int .i64 x.fOp, .int .i64 x.fA, .int .i64 x.fB, .string x.fTrait, .string x.fName] ([]) := by
  rw [TInstr.enc_eq]
  simp only [Own, OwnS]
  exact ⟨[.int .i64 x.fOp], _, [], _, rfl, rfl, (ownI hOp), ⟨[.int .i64 x.fA], _, [], _, rfl, rfl, (ownI hA), ⟨[.int .i64 x.fB], _, [], _, rfl, rfl, (ownI hB), ⟨[.string x.fTrait], _, [], _, rfl, rfl, (ownS hTrait), ⟨[.string x.fName], _, [], _, rfl, rfl, (ownS hName), ⟨rfl, rfl⟩⟩⟩⟩⟩⟩
structure TCode where
  fParams : Int
  fList : List TInstr
def TCode.enc (x : TCode) : D := .st [(encI x.fParams), (.sl (x.fList.map TInstr.enc))]
theorem TCode.enc_eq (x : TCode) : x.enc = .st [(encI x.fParams), (.sl (x.fList.map TInstr.enc))] := rfl
def TCode.sz (x : TCode) : Nat := szs TInstr.sz x.fList
theorem TCode.sz_eq (x : TCode) : x.sz = szs TInstr.sz x.fList := rfl
theorem TCode.width (x : TCode) : x.enc.width = 2 := by
  rw [TCode.enc_eq]; simp only [D.width, D.widths, encI, encS, encB]
theorem TCode.opn {w : World} {K : Nat → Prop} {x : TCode} {cs : List Value} (h : Rep w K x.enc cs) :
    ∃ c1 : Value, cs = [.int .i64 x.fParams, c1] ∧ InR x.fParams ∧ Rep w K (.sl (x.fList.map TInstr.enc)) [c1] := by
  rw [TCode.enc_eq] at h
  simp only [Rep, RepS] at h
  obtain ⟨a0, r0, rfl, k0, h⟩ := h
  simp only [encI, Rep] at k0
  obtain ⟨rfl, k0⟩ := k0
  obtain ⟨a1, r1, rfl, k1, h⟩ := h
  have l1 := Rep.length _ _ ((by simpa only [Rep] using k1 : Rep w K (.sl (x.fList.map TInstr.enc)) a1))
  obtain ⟨c1, rfl⟩ := len1 (by simpa [D.width] using l1)
  subst h
  exact ⟨c1, rfl, k0, (by simpa only [Rep] using k1)⟩
theorem TCode.mk_rep {w : World} {K : Nat → Prop} {x : TCode} {c1 : Value} (hParams : InR x.fParams) (hList : Rep w K (.sl (x.fList.map TInstr.enc)) [c1]) : Rep w K x.enc [.int .i64 x.fParams, c1] := by
  rw [TCode.enc_eq]
  simp only [Rep, RepS]
  exact ⟨[.int .i64 x.fParams], _, rfl, (repI hParams), ⟨[c1], _, rfl, (by simpa only [Rep] using hList), rfl⟩⟩
theorem TCode.mk_own {w : World} {x : TCode} {c1 : Value} (hParams : InR x.fParams) {b1 : List Nat} (hList : Own w (.sl (x.fList.map TInstr.enc)) [c1] b1) : Own w x.enc [.int .i64 x.fParams, c1] (b1 ++ ([])) := by
  rw [TCode.enc_eq]
  simp only [Own, OwnS]
  exact ⟨[.int .i64 x.fParams], _, [], _, rfl, rfl, (ownI hParams), ⟨[c1], _, b1, _, rfl, rfl, (by simpa only [Own] using hList), ⟨rfl, rfl⟩⟩⟩
end Go.Proofs.Ytlgkplkfmcjmaaa
