/- The mirror structures of this program's data, each with its tree, its number of cells, its size, and the two lemmas that take its cells apart and put them together. No condition. -/
import Derived.Test.YtnlmldgbhdcpbaaDoorBase
namespace Go.Proofs.YtnlmldgbhdcpbaaDoor
open Go.RowKit
structure TInstr where
  fOp : Int
  fA : Int
  fB : Int
  fTrait : ByteArray
  fName : ByteArray
def TInstr.enc (x : TInstr) : D := .st [(encI x.fOp), (encI x.fA), (encI x.fB), (encS x.fTrait), (encS x.fName)]
theorem TInstr.enc_eq (x : TInstr) : x.enc = .st [(encI x.fOp), (encI x.fA), (encI x.fB), (encS x.fTrait), (encS x.fName)] := rfl
def TInstr.sz (x : TInstr) : Nat := ByteArray.size x.fTrait + ByteArray.size x.fName
theorem TInstr.sz_eq (x : TInstr) : x.sz = ByteArray.size x.fTrait + ByteArray.size x.fName := rfl
theorem TInstr.width (x : TInstr) : x.enc.width = 5 := by
  rw [TInstr.enc_eq]; simp only [D.width, D.widths, encI, encS]
theorem TInstr.opn {w : World} {K : Nat → Prop} {x : TInstr} {cs : List Value} (h : Rep w K x.enc cs) :
    cs = [.int .i64 x.fOp, .int .i64 x.fA, .int .i64 x.fB, .string x.fTrait, .string x.fName] ∧ InR x.fOp ∧ InR x.fA ∧ InR x.fB ∧ x.fTrait.size ≤ maxLen ∧ x.fName.size ≤ maxLen := by
  rw [TInstr.enc_eq] at h
  simp only [Rep, RepS] at h
  obtain ⟨a0, r0, rfl, k0, h⟩ := h
  simp only [encI, Rep] at k0
  obtain ⟨rfl, k0⟩ := k0
  obtain ⟨a1, r1, rfl, k1, h⟩ := h
  simp only [encI, Rep] at k1
  obtain ⟨rfl, k1⟩ := k1
  obtain ⟨a2, r2, rfl, k2, h⟩ := h
  simp only [encI, Rep] at k2
  obtain ⟨rfl, k2⟩ := k2
  obtain ⟨a3, r3, rfl, k3, h⟩ := h
  simp only [encS, Rep] at k3
  obtain ⟨rfl, k3⟩ := k3
  obtain ⟨a4, r4, rfl, k4, h⟩ := h
  simp only [encS, Rep] at k4
  obtain ⟨rfl, k4⟩ := k4
  subst h
  exact ⟨rfl, k0, k1, k2, k3, k4⟩
theorem TInstr.mk_rep {w : World} {K : Nat → Prop} {x : TInstr} (hOp : InR x.fOp) (hA : InR x.fA) (hB : InR x.fB) (hTrait : x.fTrait.size ≤ maxLen) (hName : x.fName.size ≤ maxLen) : Rep w K x.enc [.int .i64 x.fOp, .int .i64 x.fA, .int .i64 x.fB, .string x.fTrait, .string x.fName] := by
  rw [TInstr.enc_eq]
  simp only [Rep, RepS]
  exact ⟨[.int .i64 x.fOp], _, rfl, (repI hOp), ⟨[.int .i64 x.fA], _, rfl, (repI hA), ⟨[.int .i64 x.fB], _, rfl, (repI hB), ⟨[.string x.fTrait], _, rfl, (repS hTrait), ⟨[.string x.fName], _, rfl, (repS hName), rfl⟩⟩⟩⟩⟩
theorem TInstr.mk_own {w : World} {x : TInstr} (hOp : InR x.fOp) (hA : InR x.fA) (hB : InR x.fB) (hTrait : x.fTrait.size ≤ maxLen) (hName : x.fName.size ≤ maxLen) : Own w x.enc [.int .i64 x.fOp, .int .i64 x.fA, .int .i64 x.fB, .string x.fTrait, .string x.fName] ([]) := by
  rw [TInstr.enc_eq]
  simp only [Own, OwnS]
  exact ⟨[.int .i64 x.fOp], _, [], _, rfl, rfl, (ownI hOp), ⟨[.int .i64 x.fA], _, [], _, rfl, rfl, (ownI hA), ⟨[.int .i64 x.fB], _, [], _, rfl, rfl, (ownI hB), ⟨[.string x.fTrait], _, [], _, rfl, rfl, (ownS hTrait), ⟨[.string x.fName], _, [], _, rfl, rfl, (ownS hName), ⟨rfl, rfl⟩⟩⟩⟩⟩⟩
end Go.Proofs.YtnlmldgbhdcpbaaDoor
