/- The mirror structures of this program's data, each with its tree, its number of cells, its size, and the two lemmas that take its cells apart and put them together. No condition. -/
import Derived.Test.YtnlmldgbhdcpbaaBase
namespace Go.Proofs.Ytnlmldgbhdcpbaa
open Go.RowKit
structure TInstanceRef where
  fPackage : Int
  fAt : Int
def TInstanceRef.enc (x : TInstanceRef) : D := .st [(encI x.fPackage), (encI x.fAt)]
theorem TInstanceRef.enc_eq (x : TInstanceRef) : x.enc = .st [(encI x.fPackage), (encI x.fAt)] := rfl
theorem TInstanceRef.width (x : TInstanceRef) : x.enc.width = 2 := by
  rw [TInstanceRef.enc_eq]; simp only [D.width, D.widths, encI]
theorem TInstanceRef.opn {w : World} {K : Nat → Prop} {x : TInstanceRef} {cs : List Value} (h : Rep w K x.enc cs) :
    cs = [.int .i64 x.fPackage, .int .i64 x.fAt] ∧ InR x.fPackage ∧ InR x.fAt := by
  rw [TInstanceRef.enc_eq] at h
  simp only [Rep, RepS] at h
  obtain ⟨a0, r0, rfl, k0, h⟩ := h
  simp only [encI, Rep] at k0
  obtain ⟨rfl, k0⟩ := k0
  obtain ⟨a1, r1, rfl, k1, h⟩ := h
  simp only [encI, Rep] at k1
  obtain ⟨rfl, k1⟩ := k1
  subst h
  exact ⟨rfl, k0, k1⟩
theorem TInstanceRef.mk_rep {w : World} {K : Nat → Prop} {x : TInstanceRef} (hPackage : InR x.fPackage) (hAt : InR x.fAt) : Rep w K x.enc [.int .i64 x.fPackage, .int .i64 x.fAt] := by
  rw [TInstanceRef.enc_eq]
  simp only [Rep, RepS]
  exact ⟨[.int .i64 x.fPackage], _, rfl, (repI hPackage), ⟨[.int .i64 x.fAt], _, rfl, (repI hAt), rfl⟩⟩
theorem TInstanceRef.mk_own {w : World} {x : TInstanceRef} (hPackage : InR x.fPackage) (hAt : InR x.fAt) : Own w x.enc [.int .i64 x.fPackage, .int .i64 x.fAt] ([]) := by
  rw [TInstanceRef.enc_eq]
  simp only [Own, OwnS]
  exact ⟨[.int .i64 x.fPackage], _, [], _, rfl, rfl, (ownI hPackage), ⟨[.int .i64 x.fAt], _, [], _, rfl, rfl, (ownI hAt), ⟨rfl, rfl⟩⟩⟩
structure TDictionary where
  fKind : Int
  fAt : TInstanceRef
  fSteps : List Int
  fArgs : List TDictionary
mutual
def TDictionary.enc : TDictionary → D
  | ⟨fKind, fAt, fSteps, fArgs⟩ => .st [(encI fKind), (TInstanceRef.enc fAt), (.sl (fSteps.map encI)), (.sl (TDictionary.encL fArgs))]
def TDictionary.encL : List TDictionary → List D
  | [] => []
  | x :: l => TDictionary.enc x :: TDictionary.encL l
end
mutual
def TDictionary.sz : TDictionary → Nat
  | ⟨_, _, fSteps, fArgs⟩ => szs (fun _ => 0) fSteps + (fArgs.length + TDictionary.szLs fArgs)
def TDictionary.szLs : List TDictionary → Nat
  | [] => 0
  | x :: l => TDictionary.sz x + TDictionary.szLs l
end
theorem TDictionary.encL_eq : ∀ l : List TDictionary, TDictionary.encL l = l.map TDictionary.enc
  | [] => rfl
  | x :: l => by simp only [TDictionary.encL, List.map_cons, TDictionary.encL_eq l]
theorem TDictionary.szLs_eq : ∀ l : List TDictionary, TDictionary.szLs l = szL TDictionary.sz l
  | [] => rfl
  | x :: l => by simp only [TDictionary.szLs, szL, TDictionary.szLs_eq l]
theorem TDictionary.lt_fArgs (x : TDictionary) : SizeOf.sizeOf x.fArgs < SizeOf.sizeOf x := by
  cases x; simp; omega
theorem TDictionary.enc_eq (x : TDictionary) : x.enc = .st [(encI x.fKind), (TInstanceRef.enc x.fAt), (.sl (x.fSteps.map encI)), (.sl (x.fArgs.map TDictionary.enc))] := by
  cases x; simp only [TDictionary.enc, TDictionary.encL_eq]
theorem TDictionary.sz_eq (x : TDictionary) : x.sz = szs (fun _ => 0) x.fSteps + szs TDictionary.sz x.fArgs := by
  cases x; simp only [TDictionary.sz, szs, TDictionary.szLs_eq]
theorem TDictionary.width (x : TDictionary) : x.enc.width = 5 := by
  rw [TDictionary.enc_eq]; simp only [D.width, D.widths, encI, TInstanceRef.width]
theorem TDictionary.opn {w : World} {K : Nat → Prop} {x : TDictionary} {cs : List Value} (h : Rep w K x.enc cs) :
    ∃ c1 c2 c3 c4 : Value, cs = [.int .i64 x.fKind, c1, c2, c3, c4] ∧ InR x.fKind ∧ Rep w K x.fAt.enc [c1, c2] ∧ Rep w K (.sl (x.fSteps.map encI)) [c3] ∧ Rep w K (.sl (x.fArgs.map TDictionary.enc)) [c4] := by
  rw [TDictionary.enc_eq] at h
  simp only [Rep, RepS] at h
  obtain ⟨a0, r0, rfl, k0, h⟩ := h
  simp only [encI, Rep] at k0
  obtain ⟨rfl, k0⟩ := k0
  obtain ⟨a1, r1, rfl, k1, h⟩ := h
  obtain ⟨c1, c2, rfl⟩ := len2 ((Rep.length _ _ k1).trans (TInstanceRef.width _))
  obtain ⟨a2, r2, rfl, k2, h⟩ := h
  have l2 := Rep.length _ _ ((by simpa only [Rep] using k2 : Rep w K (.sl (x.fSteps.map encI)) a2))
  obtain ⟨c3, rfl⟩ := len1 (by simpa [D.width] using l2)
  obtain ⟨a3, r3, rfl, k3, h⟩ := h
  have l3 := Rep.length _ _ ((by simpa only [Rep] using k3 : Rep w K (.sl (x.fArgs.map TDictionary.enc)) a3))
  obtain ⟨c4, rfl⟩ := len1 (by simpa [D.width] using l3)
  subst h
  exact ⟨c1, c2, c3, c4, rfl, k0, k1, (by simpa only [Rep] using k2), (by simpa only [Rep] using k3)⟩
theorem TDictionary.mk_rep {w : World} {K : Nat → Prop} {x : TDictionary} {c1 c2 c3 c4 : Value} (hKind : InR x.fKind) (hAt : Rep w K x.fAt.enc [c1, c2]) (hSteps : Rep w K (.sl (x.fSteps.map encI)) [c3]) (hArgs : Rep w K (.sl (x.fArgs.map TDictionary.enc)) [c4]) : Rep w K x.enc [.int .i64 x.fKind, c1, c2, c3, c4] := by
  rw [TDictionary.enc_eq]
  simp only [Rep, RepS]
  exact ⟨[.int .i64 x.fKind], _, rfl, (repI hKind), ⟨[c1, c2], _, rfl, hAt, ⟨[c3], _, rfl, (by simpa only [Rep] using hSteps), ⟨[c4], _, rfl, (by simpa only [Rep] using hArgs), rfl⟩⟩⟩⟩
theorem TDictionary.mk_own {w : World} {x : TDictionary} {c1 c2 c3 c4 : Value} (hKind : InR x.fKind) {b1 : List Nat} (hAt : Own w x.fAt.enc [c1, c2] b1) {b2 : List Nat} (hSteps : Own w (.sl (x.fSteps.map encI)) [c3] b2) {b3 : List Nat} (hArgs : Own w (.sl (x.fArgs.map TDictionary.enc)) [c4] b3) : Own w x.enc [.int .i64 x.fKind, c1, c2, c3, c4] (b1 ++ (b2 ++ (b3 ++ ([])))) := by
  rw [TDictionary.enc_eq]
  simp only [Own, OwnS]
  exact ⟨[.int .i64 x.fKind], _, [], _, rfl, rfl, (ownI hKind), ⟨[c1, c2], _, b1, _, rfl, rfl, hAt, ⟨[c3], _, b2, _, rfl, rfl, (by simpa only [Own] using hSteps), ⟨[c4], _, b3, _, rfl, rfl, (by simpa only [Own] using hArgs), ⟨rfl, rfl⟩⟩⟩⟩⟩
structure TEvidence where
  fKind : Int
  fN : Int
  fAt : TInstanceRef
  fArgs : List TEvidence
mutual
def TEvidence.enc : TEvidence → D
  | ⟨fKind, fN, fAt, fArgs⟩ => .st [(encI fKind), (encI fN), (TInstanceRef.enc fAt), (.sl (TEvidence.encL fArgs))]
def TEvidence.encL : List TEvidence → List D
  | [] => []
  | x :: l => TEvidence.enc x :: TEvidence.encL l
end
mutual
def TEvidence.sz : TEvidence → Nat
  | ⟨_, _, _, fArgs⟩ => (fArgs.length + TEvidence.szLs fArgs)
def TEvidence.szLs : List TEvidence → Nat
  | [] => 0
  | x :: l => TEvidence.sz x + TEvidence.szLs l
end
theorem TEvidence.encL_eq : ∀ l : List TEvidence, TEvidence.encL l = l.map TEvidence.enc
  | [] => rfl
  | x :: l => by simp only [TEvidence.encL, List.map_cons, TEvidence.encL_eq l]
theorem TEvidence.szLs_eq : ∀ l : List TEvidence, TEvidence.szLs l = szL TEvidence.sz l
  | [] => rfl
  | x :: l => by simp only [TEvidence.szLs, szL, TEvidence.szLs_eq l]
theorem TEvidence.lt_fArgs (x : TEvidence) : SizeOf.sizeOf x.fArgs < SizeOf.sizeOf x := by
  cases x; simp; omega
theorem TEvidence.enc_eq (x : TEvidence) : x.enc = .st [(encI x.fKind), (encI x.fN), (TInstanceRef.enc x.fAt), (.sl (x.fArgs.map TEvidence.enc))] := by
  cases x; simp only [TEvidence.enc, TEvidence.encL_eq]
theorem TEvidence.sz_eq (x : TEvidence) : x.sz = szs TEvidence.sz x.fArgs := by
  cases x; simp only [TEvidence.sz, szs, TEvidence.szLs_eq]
theorem TEvidence.width (x : TEvidence) : x.enc.width = 5 := by
  rw [TEvidence.enc_eq]; simp only [D.width, D.widths, encI, TInstanceRef.width]
theorem TEvidence.opn {w : World} {K : Nat → Prop} {x : TEvidence} {cs : List Value} (h : Rep w K x.enc cs) :
    ∃ c2 c3 c4 : Value, cs = [.int .i64 x.fKind, .int .i64 x.fN, c2, c3, c4] ∧ InR x.fKind ∧ InR x.fN ∧ Rep w K x.fAt.enc [c2, c3] ∧ Rep w K (.sl (x.fArgs.map TEvidence.enc)) [c4] := by
  rw [TEvidence.enc_eq] at h
  simp only [Rep, RepS] at h
  obtain ⟨a0, r0, rfl, k0, h⟩ := h
  simp only [encI, Rep] at k0
  obtain ⟨rfl, k0⟩ := k0
  obtain ⟨a1, r1, rfl, k1, h⟩ := h
  simp only [encI, Rep] at k1
  obtain ⟨rfl, k1⟩ := k1
  obtain ⟨a2, r2, rfl, k2, h⟩ := h
  obtain ⟨c2, c3, rfl⟩ := len2 ((Rep.length _ _ k2).trans (TInstanceRef.width _))
  obtain ⟨a3, r3, rfl, k3, h⟩ := h
  have l3 := Rep.length _ _ ((by simpa only [Rep] using k3 : Rep w K (.sl (x.fArgs.map TEvidence.enc)) a3))
  obtain ⟨c4, rfl⟩ := len1 (by simpa [D.width] using l3)
  subst h
  exact ⟨c2, c3, c4, rfl, k0, k1, k2, (by simpa only [Rep] using k3)⟩
theorem TEvidence.mk_rep {w : World} {K : Nat → Prop} {x : TEvidence} {c2 c3 c4 : Value} (hKind : InR x.fKind) (hN : InR x.fN) (hAt : Rep w K x.fAt.enc [c2, c3]) (hArgs : Rep w K (.sl (x.fArgs.map TEvidence.enc)) [c4]) : Rep w K x.enc [.int .i64 x.fKind, .int .i64 x.fN, c2, c3, c4] := by
  rw [TEvidence.enc_eq]
  simp only [Rep, RepS]
  exact ⟨[.int .i64 x.fKind], _, rfl, (repI hKind), ⟨[.int .i64 x.fN], _, rfl, (repI hN), ⟨[c2, c3], _, rfl, hAt, ⟨[c4], _, rfl, (by simpa only [Rep] using hArgs), rfl⟩⟩⟩⟩
theorem TEvidence.mk_own {w : World} {x : TEvidence} {c2 c3 c4 : Value} (hKind : InR x.fKind) (hN : InR x.fN) {b2 : List Nat} (hAt : Own w x.fAt.enc [c2, c3] b2) {b3 : List Nat} (hArgs : Own w (.sl (x.fArgs.map TEvidence.enc)) [c4] b3) : Own w x.enc [.int .i64 x.fKind, .int .i64 x.fN, c2, c3, c4] (b2 ++ (b3 ++ ([]))) := by
  rw [TEvidence.enc_eq]
  simp only [Own, OwnS]
  exact ⟨[.int .i64 x.fKind], _, [], _, rfl, rfl, (ownI hKind), ⟨[.int .i64 x.fN], _, [], _, rfl, rfl, (ownI hN), ⟨[c2, c3], _, b2, _, rfl, rfl, hAt, ⟨[c4], _, b3, _, rfl, rfl, (by simpa only [Own] using hArgs), ⟨rfl, rfl⟩⟩⟩⟩⟩
structure TInstr where
  fOp : Int
  fA : Int
  fB : Int
  fTrait : ByteArray
  fName : ByteArray
def TInstr.enc (x : TInstr) : D := .st [(encI x.fOp), (encI x.fA), (encI x.fB), (encS x.fTrait), (encS x.fName)]
theorem TInstr.enc_eq (x : TInstr) : x.enc = .st [(encI x.fOp), (encI x.fA), (encI x.fB), (encS x.fTrait), (encS x.fName)] := rfl
def TInstr.sz (x : TInstr) : Nat := ByteArray.size x.fTrait + ByteArray.size x.fName
theorem TInstr.sz_eq (x : TInstr) : x.sz = ByteArray.size x.fTrait + ByteArray.size x.fName := rfl
theorem TInstr.width (x : TInstr) : x.enc.width = 5 := by
  rw [TInstr.enc_eq]; simp only [D.width, D.widths, encI, encS]
theorem TInstr.opn {w : World} {K : Nat → Prop} {x : TInstr} {cs : List Value} (h : Rep w K x.enc cs) :
    cs = [.int .i64 x.fOp, .int .i64 x.fA, .int .i64 x.fB, .string x.fTrait, .string x.fName] ∧ InR x.fOp ∧ InR x.fA ∧ InR x.fB ∧ x.fTrait.size ≤ maxLen ∧ x.fName.size ≤ maxLen := by
  rw [TInstr.enc_eq] at h
  simp only [Rep, RepS] at h
  obtain ⟨a0, r0, rfl, k0, h⟩ := h
  simp only [encI, Rep] at k0
  obtain ⟨rfl, k0⟩ := k0
  obtain ⟨a1, r1, rfl, k1, h⟩ := h
  simp only [encI, Rep] at k1
  obtain ⟨rfl, k1⟩ := k1
  obtain ⟨a2, r2, rfl, k2, h⟩ := h
  simp only [encI, Rep] at k2
  obtain ⟨rfl, k2⟩ := k2
  obtain ⟨a3, r3, rfl, k3, h⟩ := h
  simp only [encS, Rep] at k3
  obtain ⟨rfl, k3⟩ := k3
  obtain ⟨a4, r4, rfl, k4, h⟩ := h
  simp only [encS, Rep] at k4
  obtain ⟨rfl, k4⟩ := k4
  subst h
  exact ⟨rfl, k0, k1, k2, k3, k4⟩
theorem TInstr.mk_rep {w : World} {K : Nat → Prop} {x : TInstr} (hOp : InR x.fOp) (hA : InR x.fA) (hB : InR x.fB) (hTrait : x.fTrait.size ≤ maxLen) (hName : x.fName.size ≤ maxLen) : Rep w K x.enc [.int .i64 x.fOp, .int .i64 x.fA, .int .i64 x.fB, .string x.fTrait, .string x.fName] := by
  rw [TInstr.enc_eq]
  simp only [Rep, RepS]
  exact ⟨[.int .i64 x.fOp], _, rfl, (repI hOp), ⟨[.int .i64 x.fA], _, rfl, (repI hA), ⟨[.int .i64 x.fB], _, rfl, (repI hB), ⟨[.string x.fTrait], _, rfl, (repS hTrait), ⟨[.string x.fName], _, rfl, (repS hName), rfl⟩⟩⟩⟩⟩
theorem TInstr.mk_own {w : World} {x : TInstr} (hOp : InR x.fOp) (hA : InR x.fA) (hB : InR x.fB) (hTrait : x.fTrait.size ≤ maxLen) (hName : x.fName.size ≤ maxLen) : Own w x.enc [.int .i64 x.fOp, .int .i64 x.fA, .int .i64 x.fB, .string x.fTrait, .string x.fName] ([]) := by
  rw [TInstr.enc_eq]
  simp only [Own, OwnS]
  exact ⟨[.int .i64 x.fOp], _, [], _, rfl, rfl, (ownI hOp), ⟨[.int .i64 x.fA], _, [], _, rfl, rfl, (ownI hA), ⟨[.int .i64 x.fB], _, [], _, rfl, rfl, (ownI hB), ⟨[.string x.fTrait], _, [], _, rfl, rfl, (ownS hTrait), ⟨[.string x.fName], _, [], _, rfl, rfl, (ownS hName), ⟨rfl, rfl⟩⟩⟩⟩⟩⟩
structure TCode where
  fParams : Int
  fList : List TInstr
def TCode.enc (x : TCode) : D := .st [(encI x.fParams), (.sl (x.fList.map TInstr.enc))]
theorem TCode.enc_eq (x : TCode) : x.enc = .st [(encI x.fParams), (.sl (x.fList.map TInstr.enc))] := rfl
def TCode.sz (x : TCode) : Nat := szs TInstr.sz x.fList
theorem TCode.sz_eq (x : TCode) : x.sz = szs TInstr.sz x.fList := rfl
theorem TCode.width (x : TCode) : x.enc.width = 2 := by
  rw [TCode.enc_eq]; simp only [D.width, D.widths, encI]
theorem TCode.opn {w : World} {K : Nat → Prop} {x : TCode} {cs : List Value} (h : Rep w K x.enc cs) :
    ∃ c1 : Value, cs = [.int .i64 x.fParams, c1] ∧ InR x.fParams ∧ Rep w K (.sl (x.fList.map TInstr.enc)) [c1] := by
  rw [TCode.enc_eq] at h
  simp only [Rep, RepS] at h
  obtain ⟨a0, r0, rfl, k0, h⟩ := h
  simp only [encI, Rep] at k0
  obtain ⟨rfl, k0⟩ := k0
  obtain ⟨a1, r1, rfl, k1, h⟩ := h
  have l1 := Rep.length _ _ ((by simpa only [Rep] using k1 : Rep w K (.sl (x.fList.map TInstr.enc)) a1))
  obtain ⟨c1, rfl⟩ := len1 (by simpa [D.width] using l1)
  subst h
  exact ⟨c1, rfl, k0, (by simpa only [Rep] using k1)⟩
theorem TCode.mk_rep {w : World} {K : Nat → Prop} {x : TCode} {c1 : Value} (hParams : InR x.fParams) (hList : Rep w K (.sl (x.fList.map TInstr.enc)) [c1]) : Rep w K x.enc [.int .i64 x.fParams, c1] := by
  rw [TCode.enc_eq]
  simp only [Rep, RepS]
  exact ⟨[.int .i64 x.fParams], _, rfl, (repI hParams), ⟨[c1], _, rfl, (by simpa only [Rep] using hList), rfl⟩⟩
theorem TCode.mk_own {w : World} {x : TCode} {c1 : Value} (hParams : InR x.fParams) {b1 : List Nat} (hList : Own w (.sl (x.fList.map TInstr.enc)) [c1] b1) : Own w x.enc [.int .i64 x.fParams, c1] (b1 ++ ([])) := by
  rw [TCode.enc_eq]
  simp only [Own, OwnS]
  exact ⟨[.int .i64 x.fParams], _, [], _, rfl, rfl, (ownI hParams), ⟨[c1], _, b1, _, rfl, rfl, (by simpa only [Own] using hList), ⟨rfl, rfl⟩⟩⟩
structure TMethodEntry where
  fTrait : ByteArray
  fName : ByteArray
  fSpecialization : Int
def TMethodEntry.enc (x : TMethodEntry) : D := .st [(encS x.fTrait), (encS x.fName), (encI x.fSpecialization)]
theorem TMethodEntry.enc_eq (x : TMethodEntry) : x.enc = .st [(encS x.fTrait), (encS x.fName), (encI x.fSpecialization)] := rfl
def TMethodEntry.sz (x : TMethodEntry) : Nat := ByteArray.size x.fTrait + ByteArray.size x.fName
theorem TMethodEntry.sz_eq (x : TMethodEntry) : x.sz = ByteArray.size x.fTrait + ByteArray.size x.fName := rfl
theorem TMethodEntry.width (x : TMethodEntry) : x.enc.width = 3 := by
  rw [TMethodEntry.enc_eq]; simp only [D.width, D.widths, encI, encS]
theorem TMethodEntry.opn {w : World} {K : Nat → Prop} {x : TMethodEntry} {cs : List Value} (h : Rep w K x.enc cs) :
    cs = [.string x.fTrait, .string x.fName, .int .i64 x.fSpecialization] ∧ x.fTrait.size ≤ maxLen ∧ x.fName.size ≤ maxLen ∧ InR x.fSpecialization := by
  rw [TMethodEntry.enc_eq] at h
  simp only [Rep, RepS] at h
  obtain ⟨a0, r0, rfl, k0, h⟩ := h
  simp only [encS, Rep] at k0
  obtain ⟨rfl, k0⟩ := k0
  obtain ⟨a1, r1, rfl, k1, h⟩ := h
  simp only [encS, Rep] at k1
  obtain ⟨rfl, k1⟩ := k1
  obtain ⟨a2, r2, rfl, k2, h⟩ := h
  simp only [encI, Rep] at k2
  obtain ⟨rfl, k2⟩ := k2
  subst h
  exact ⟨rfl, k0, k1, k2⟩
theorem TMethodEntry.mk_rep {w : World} {K : Nat → Prop} {x : TMethodEntry} (hTrait : x.fTrait.size ≤ maxLen) (hName : x.fName.size ≤ maxLen) (hSpecialization : InR x.fSpecialization) : Rep w K x.enc [.string x.fTrait, .string x.fName, .int .i64 x.fSpecialization] := by
  rw [TMethodEntry.enc_eq]
  simp only [Rep, RepS]
  exact ⟨[.string x.fTrait], _, rfl, (repS hTrait), ⟨[.string x.fName], _, rfl, (repS hName), ⟨[.int .i64 x.fSpecialization], _, rfl, (repI hSpecialization), rfl⟩⟩⟩
theorem TMethodEntry.mk_own {w : World} {x : TMethodEntry} (hTrait : x.fTrait.size ≤ maxLen) (hName : x.fName.size ≤ maxLen) (hSpecialization : InR x.fSpecialization) : Own w x.enc [.string x.fTrait, .string x.fName, .int .i64 x.fSpecialization] ([]) := by
  rw [TMethodEntry.enc_eq]
  simp only [Own, OwnS]
  exact ⟨[.string x.fTrait], _, [], _, rfl, rfl, (ownS hTrait), ⟨[.string x.fName], _, [], _, rfl, rfl, (ownS hName), ⟨[.int .i64 x.fSpecialization], _, [], _, rfl, rfl, (ownI hSpecialization), ⟨rfl, rfl⟩⟩⟩⟩
structure TType where
  fKind : Int
  fName : ByteArray
  fArgs : List TType
mutual
def TType.enc : TType → D
  | ⟨fKind, fName, fArgs⟩ => .st [(encI fKind), (encS fName), (.sl (TType.encL fArgs))]
def TType.encL : List TType → List D
  | [] => []
  | x :: l => TType.enc x :: TType.encL l
end
mutual
def TType.sz : TType → Nat
  | ⟨_, fName, fArgs⟩ => ByteArray.size fName + (fArgs.length + TType.szLs fArgs)
def TType.szLs : List TType → Nat
  | [] => 0
  | x :: l => TType.sz x + TType.szLs l
end
theorem TType.encL_eq : ∀ l : List TType, TType.encL l = l.map TType.enc
  | [] => rfl
  | x :: l => by simp only [TType.encL, List.map_cons, TType.encL_eq l]
theorem TType.szLs_eq : ∀ l : List TType, TType.szLs l = szL TType.sz l
  | [] => rfl
  | x :: l => by simp only [TType.szLs, szL, TType.szLs_eq l]
theorem TType.lt_fArgs (x : TType) : SizeOf.sizeOf x.fArgs < SizeOf.sizeOf x := by
  cases x; simp; omega
theorem TType.enc_eq (x : TType) : x.enc = .st [(encI x.fKind), (encS x.fName), (.sl (x.fArgs.map TType.enc))] := by
  cases x; simp only [TType.enc, TType.encL_eq]
theorem TType.sz_eq (x : TType) : x.sz = ByteArray.size x.fName + szs TType.sz x.fArgs := by
  cases x; simp only [TType.sz, szs, TType.szLs_eq]
theorem TType.width (x : TType) : x.enc.width = 3 := by
  rw [TType.enc_eq]; simp only [D.width, D.widths, encI, encS]
theorem TType.opn {w : World} {K : Nat → Prop} {x : TType} {cs : List Value} (h : Rep w K x.enc cs) :
    ∃ c2 : Value, cs = [.int .i64 x.fKind, .string x.fName, c2] ∧ InR x.fKind ∧ x.fName.size ≤ maxLen ∧ Rep w K (.sl (x.fArgs.map TType.enc)) [c2] := by
  rw [TType.enc_eq] at h
  simp only [Rep, RepS] at h
  obtain ⟨a0, r0, rfl, k0, h⟩ := h
  simp only [encI, Rep] at k0
  obtain ⟨rfl, k0⟩ := k0
  obtain ⟨a1, r1, rfl, k1, h⟩ := h
  simp only [encS, Rep] at k1
  obtain ⟨rfl, k1⟩ := k1
  obtain ⟨a2, r2, rfl, k2, h⟩ := h
  have l2 := Rep.length _ _ ((by simpa only [Rep] using k2 : Rep w K (.sl (x.fArgs.map TType.enc)) a2))
  obtain ⟨c2, rfl⟩ := len1 (by simpa [D.width] using l2)
  subst h
  exact ⟨c2, rfl, k0, k1, (by simpa only [Rep] using k2)⟩
theorem TType.mk_rep {w : World} {K : Nat → Prop} {x : TType} {c2 : Value} (hKind : InR x.fKind) (hName : x.fName.size ≤ maxLen) (hArgs : Rep w K (.sl (x.fArgs.map TType.enc)) [c2]) : Rep w K x.enc [.int .i64 x.fKind, .string x.fName, c2] := by
  rw [TType.enc_eq]
  simp only [Rep, RepS]
  exact ⟨[.int .i64 x.fKind], _, rfl, (repI hKind), ⟨[.string x.fName], _, rfl, (repS hName), ⟨[c2], _, rfl, (by simpa only [Rep] using hArgs), rfl⟩⟩⟩
theorem TType.mk_own {w : World} {x : TType} {c2 : Value} (hKind : InR x.fKind) (hName : x.fName.size ≤ maxLen) {b2 : List Nat} (hArgs : Own w (.sl (x.fArgs.map TType.enc)) [c2] b2) : Own w x.enc [.int .i64 x.fKind, .string x.fName, c2] (b2 ++ ([])) := by
  rw [TType.enc_eq]
  simp only [Own, OwnS]
  exact ⟨[.int .i64 x.fKind], _, [], _, rfl, rfl, (ownI hKind), ⟨[.string x.fName], _, [], _, rfl, rfl, (ownS hName), ⟨[c2], _, b2, _, rfl, rfl, (by simpa only [Own] using hArgs), ⟨rfl, rfl⟩⟩⟩⟩
structure TBound where
  fTrait : ByteArray
  fType : TType
def TBound.enc (x : TBound) : D := .st [(encS x.fTrait), (TType.enc x.fType)]
theorem TBound.enc_eq (x : TBound) : x.enc = .st [(encS x.fTrait), (TType.enc x.fType)] := rfl
def TBound.sz (x : TBound) : Nat := ByteArray.size x.fTrait + TType.sz x.fType
theorem TBound.sz_eq (x : TBound) : x.sz = ByteArray.size x.fTrait + TType.sz x.fType := rfl
theorem TBound.width (x : TBound) : x.enc.width = 4 := by
  rw [TBound.enc_eq]; simp only [D.width, D.widths, encS, TType.width]
theorem TBound.opn {w : World} {K : Nat → Prop} {x : TBound} {cs : List Value} (h : Rep w K x.enc cs) :
    ∃ c1 c2 c3 : Value, cs = [.string x.fTrait, c1, c2, c3] ∧ x.fTrait.size ≤ maxLen ∧ Rep w K x.fType.enc [c1, c2, c3] := by
  rw [TBound.enc_eq] at h
  simp only [Rep, RepS] at h
  obtain ⟨a0, r0, rfl, k0, h⟩ := h
  simp only [encS, Rep] at k0
  obtain ⟨rfl, k0⟩ := k0
  obtain ⟨a1, r1, rfl, k1, h⟩ := h
  obtain ⟨c1, c2, c3, rfl⟩ := len3 ((Rep.length _ _ k1).trans (TType.width _))
  subst h
  exact ⟨c1, c2, c3, rfl, k0, k1⟩
theorem TBound.mk_rep {w : World} {K : Nat → Prop} {x : TBound} {c1 c2 c3 : Value} (hTrait : x.fTrait.size ≤ maxLen) (hType : Rep w K x.fType.enc [c1, c2, c3]) : Rep w K x.enc [.string x.fTrait, c1, c2, c3] := by
  rw [TBound.enc_eq]
  simp only [Rep, RepS]
  exact ⟨[.string x.fTrait], _, rfl, (repS hTrait), ⟨[c1, c2, c3], _, rfl, hType, rfl⟩⟩
theorem TBound.mk_own {w : World} {x : TBound} {c1 c2 c3 : Value} (hTrait : x.fTrait.size ≤ maxLen) {b1 : List Nat} (hType : Own w x.fType.enc [c1, c2, c3] b1) : Own w x.enc [.string x.fTrait, c1, c2, c3] (b1 ++ ([])) := by
  rw [TBound.enc_eq]
  simp only [Own, OwnS]
  exact ⟨[.string x.fTrait], _, [], _, rfl, rfl, (ownS hTrait), ⟨[c1, c2, c3], _, b1, _, rfl, rfl, hType, ⟨rfl, rfl⟩⟩⟩
mutual
structure TCoreArm where
  fConstructor : ByteArray
  fVars : List ByteArray
  fBody : TCore
structure TCore where
  fKind : Int
  fTrait : ByteArray
  fName : ByteArray
  fN : Int
  fType : TType
  fTypeArgs : List TType
  fEvidence : List TEvidence
  fArgs : List TCore
  fArms : List TCoreArm
end
mutual
def TCoreArm.enc : TCoreArm → D
  | ⟨fConstructor, fVars, fBody⟩ => .st [(encS fConstructor), (.sl (fVars.map encS)), (TCore.enc fBody)]
def TCore.enc : TCore → D
  | ⟨fKind, fTrait, fName, fN, fType, fTypeArgs, fEvidence, fArgs, fArms⟩ => .st [(encI fKind), (encS fTrait), (encS fName), (encI fN), (TType.enc fType), (.sl (fTypeArgs.map TType.enc)), (.sl (fEvidence.map TEvidence.enc)), (.sl (TCore.encL fArgs)), (.sl (TCoreArm.encL fArms))]
def TCoreArm.encL : List TCoreArm → List D
  | [] => []
  | x :: l => TCoreArm.enc x :: TCoreArm.encL l
def TCore.encL : List TCore → List D
  | [] => []
  | x :: l => TCore.enc x :: TCore.encL l
end
mutual
def TCoreArm.sz : TCoreArm → Nat
  | ⟨fConstructor, fVars, fBody⟩ => ByteArray.size fConstructor + szs ByteArray.size fVars + TCore.sz fBody
def TCore.sz : TCore → Nat
  | ⟨_, fTrait, fName, _, fType, fTypeArgs, fEvidence, fArgs, fArms⟩ => ByteArray.size fTrait + ByteArray.size fName + TType.sz fType + szs TType.sz fTypeArgs + szs TEvidence.sz fEvidence + (fArgs.length + TCore.szLs fArgs) + (fArms.length + TCoreArm.szLs fArms)
def TCoreArm.szLs : List TCoreArm → Nat
  | [] => 0
  | x :: l => TCoreArm.sz x + TCoreArm.szLs l
def TCore.szLs : List TCore → Nat
  | [] => 0
  | x :: l => TCore.sz x + TCore.szLs l
end
theorem TCoreArm.encL_eq : ∀ l : List TCoreArm, TCoreArm.encL l = l.map TCoreArm.enc
  | [] => rfl
  | x :: l => by simp only [TCoreArm.encL, List.map_cons, TCoreArm.encL_eq l]
theorem TCoreArm.szLs_eq : ∀ l : List TCoreArm, TCoreArm.szLs l = szL TCoreArm.sz l
  | [] => rfl
  | x :: l => by simp only [TCoreArm.szLs, szL, TCoreArm.szLs_eq l]
theorem TCore.encL_eq : ∀ l : List TCore, TCore.encL l = l.map TCore.enc
  | [] => rfl
  | x :: l => by simp only [TCore.encL, List.map_cons, TCore.encL_eq l]
theorem TCore.szLs_eq : ∀ l : List TCore, TCore.szLs l = szL TCore.sz l
  | [] => rfl
  | x :: l => by simp only [TCore.szLs, szL, TCore.szLs_eq l]
theorem TCoreArm.lt_fBody (x : TCoreArm) : SizeOf.sizeOf x.fBody < SizeOf.sizeOf x := by
  cases x; simp; omega
theorem TCore.lt_fArgs (x : TCore) : SizeOf.sizeOf x.fArgs < SizeOf.sizeOf x := by
  cases x; simp; omega
theorem TCore.lt_fArms (x : TCore) : SizeOf.sizeOf x.fArms < SizeOf.sizeOf x := by
  cases x; simp; omega
theorem TCoreArm.enc_eq (x : TCoreArm) : x.enc = .st [(encS x.fConstructor), (.sl (x.fVars.map encS)), (TCore.enc x.fBody)] := by
  cases x; simp only [TCoreArm.enc]
theorem TCoreArm.sz_eq (x : TCoreArm) : x.sz = ByteArray.size x.fConstructor + szs ByteArray.size x.fVars + TCore.sz x.fBody := by
  cases x; simp only [TCoreArm.sz, szs]
theorem TCore.enc_eq (x : TCore) : x.enc = .st [(encI x.fKind), (encS x.fTrait), (encS x.fName), (encI x.fN), (TType.enc x.fType), (.sl (x.fTypeArgs.map TType.enc)), (.sl (x.fEvidence.map TEvidence.enc)), (.sl (x.fArgs.map TCore.enc)), (.sl (x.fArms.map TCoreArm.enc))] := by
  cases x; simp only [TCore.enc, TCore.encL_eq, TCoreArm.encL_eq]
theorem TCore.sz_eq (x : TCore) : x.sz = ByteArray.size x.fTrait + ByteArray.size x.fName + TType.sz x.fType + szs TType.sz x.fTypeArgs + szs TEvidence.sz x.fEvidence + szs TCore.sz x.fArgs + szs TCoreArm.sz x.fArms := by
  cases x; simp only [TCore.sz, szs, TCore.szLs_eq, TCoreArm.szLs_eq]
theorem TCore.width (x : TCore) : x.enc.width = 11 := by
  rw [TCore.enc_eq]; simp only [D.width, D.widths, encI, encS, TType.width]
theorem TCore.opn {w : World} {K : Nat → Prop} {x : TCore} {cs : List Value} (h : Rep w K x.enc cs) :
    ∃ c4 c5 c6 c7 c8 c9 c10 : Value, cs = [.int .i64 x.fKind, .string x.fTrait, .string x.fName, .int .i64 x.fN, c4, c5, c6, c7, c8, c9, c10] ∧ InR x.fKind ∧ x.fTrait.size ≤ maxLen ∧ x.fName.size ≤ maxLen ∧ InR x.fN ∧ Rep w K x.fType.enc [c4, c5, c6] ∧ Rep w K (.sl (x.fTypeArgs.map TType.enc)) [c7] ∧ Rep w K (.sl (x.fEvidence.map TEvidence.enc)) [c8] ∧ Rep w K (.sl (x.fArgs.map TCore.enc)) [c9] ∧ Rep w K (.sl (x.fArms.map TCoreArm.enc)) [c10] := by
  rw [TCore.enc_eq] at h
  simp only [Rep, RepS] at h
  obtain ⟨a0, r0, rfl, k0, h⟩ := h
  simp only [encI, Rep] at k0
  obtain ⟨rfl, k0⟩ := k0
  obtain ⟨a1, r1, rfl, k1, h⟩ := h
  simp only [encS, Rep] at k1
  obtain ⟨rfl, k1⟩ := k1
  obtain ⟨a2, r2, rfl, k2, h⟩ := h
  simp only [encS, Rep] at k2
  obtain ⟨rfl, k2⟩ := k2
  obtain ⟨a3, r3, rfl, k3, h⟩ := h
  simp only [encI, Rep] at k3
  obtain ⟨rfl, k3⟩ := k3
  obtain ⟨a4, r4, rfl, k4, h⟩ := h
  obtain ⟨c4, c5, c6, rfl⟩ := len3 ((Rep.length _ _ k4).trans (TType.width _))
  obtain ⟨a5, r5, rfl, k5, h⟩ := h
  have l5 := Rep.length _ _ ((by simpa only [Rep] using k5 : Rep w K (.sl (x.fTypeArgs.map TType.enc)) a5))
  obtain ⟨c7, rfl⟩ := len1 (by simpa [D.width] using l5)
  obtain ⟨a6, r6, rfl, k6, h⟩ := h
  have l6 := Rep.length _ _ ((by simpa only [Rep] using k6 : Rep w K (.sl (x.fEvidence.map TEvidence.enc)) a6))
  obtain ⟨c8, rfl⟩ := len1 (by simpa [D.width] using l6)
  obtain ⟨a7, r7, rfl, k7, h⟩ := h
  have l7 := Rep.length _ _ ((by simpa only [Rep] using k7 : Rep w K (.sl (x.fArgs.map TCore.enc)) a7))
  obtain ⟨c9, rfl⟩ := len1 (by simpa [D.width] using l7)
  obtain ⟨a8, r8, rfl, k8, h⟩ := h
  have l8 := Rep.length _ _ ((by simpa only [Rep] using k8 : Rep w K (.sl (x.fArms.map TCoreArm.enc)) a8))
  obtain ⟨c10, rfl⟩ := len1 (by simpa [D.width] using l8)
  subst h
  exact ⟨c4, c5, c6, c7, c8, c9, c10, rfl, k0, k1, k2, k3, k4, (by simpa only [Rep] using k5), (by simpa only [Rep] using k6), (by simpa only [Rep] using k7), (by simpa only [Rep] using k8)⟩
theorem TCore.mk_rep {w : World} {K : Nat → Prop} {x : TCore} {c4 c5 c6 c7 c8 c9 c10 : Value} (hKind : InR x.fKind) (hTrait : x.fTrait.size ≤ maxLen) (hName : x.fName.size ≤ maxLen) (hN : InR x.fN) (hType : Rep w K x.fType.enc [c4, c5, c6]) (hTypeArgs : Rep w K (.sl (x.fTypeArgs.map TType.enc)) [c7]) (hEvidence : Rep w K (.sl (x.fEvidence.map TEvidence.enc)) [c8]) (hArgs : Rep w K (.sl (x.fArgs.map TCore.enc)) [c9]) (hArms : Rep w K (.sl (x.fArms.map TCoreArm.enc)) [c10]) : Rep w K x.enc [.int .i64 x.fKind, .string x.fTrait, .string x.fName, .int .i64 x.fN, c4, c5, c6, c7, c8, c9, c10] := by
  rw [TCore.enc_eq]
  simp only [Rep, RepS]
  exact ⟨[.int .i64 x.fKind], _, rfl, (repI hKind), ⟨[.string x.fTrait], _, rfl, (repS hTrait), ⟨[.string x.fName], _, rfl, (repS hName), ⟨[.int .i64 x.fN], _, rfl, (repI hN), ⟨[c4, c5, c6], _, rfl, hType, ⟨[c7], _, rfl, (by simpa only [Rep] using hTypeArgs), ⟨[c8], _, rfl, (by simpa only [Rep] using hEvidence), ⟨[c9], _, rfl, (by simpa only [Rep] using hArgs), ⟨[c10], _, rfl, (by simpa only [Rep] using hArms), rfl⟩⟩⟩⟩⟩⟩⟩⟩⟩
theorem TCore.mk_own {w : World} {x : TCore} {c4 c5 c6 c7 c8 c9 c10 : Value} (hKind : InR x.fKind) (hTrait : x.fTrait.size ≤ maxLen) (hName : x.fName.size ≤ maxLen) (hN : InR x.fN) {b4 : List Nat} (hType : Own w x.fType.enc [c4, c5, c6] b4) {b5 : List Nat} (hTypeArgs : Own w (.sl (x.fTypeArgs.map TType.enc)) [c7] b5) {b6 : List Nat} (hEvidence : Own w (.sl (x.fEvidence.map TEvidence.enc)) [c8] b6) {b7 : List Nat} (hArgs : Own w (.sl (x.fArgs.map TCore.enc)) [c9] b7) {b8 : List Nat} (hArms : Own w (.sl (x.fArms.map TCoreArm.enc)) [c10] b8) : Own w x.enc [.int .i64 x.fKind, .string x.fTrait, .string x.fName, .int .i64 x.fN, c4, c5, c6, c7, c8, c9, c10] (b4 ++ (b5 ++ (b6 ++ (b7 ++ (b8 ++ ([])))))) := by
  rw [TCore.enc_eq]
  simp only [Own, OwnS]
  exact ⟨[.int .i64 x.fKind], _, [], _, rfl, rfl, (ownI hKind), ⟨[.string x.fTrait], _, [], _, rfl, rfl, (ownS hTrait), ⟨[.string x.fName], _, [], _, rfl, rfl, (ownS hName), ⟨[.int .i64 x.fN], _, [], _, rfl, rfl, (ownI hN), ⟨[c4, c5, c6], _, b4, _, rfl, rfl, hType, ⟨[c7], _, b5, _, rfl, rfl, (by simpa only [Own] using hTypeArgs), ⟨[c8], _, b6, _, rfl, rfl, (by simpa only [Own] using hEvidence), ⟨[c9], _, b7, _, rfl, rfl, (by simpa only [Own] using hArgs), ⟨[c10], _, b8, _, rfl, rfl, (by simpa only [Own] using hArms), ⟨rfl, rfl⟩⟩⟩⟩⟩⟩⟩⟩⟩⟩
theorem TCoreArm.width (x : TCoreArm) : x.enc.width = 13 := by
  rw [TCoreArm.enc_eq]; simp only [D.width, D.widths, encS, TCore.width]
theorem TCoreArm.opn {w : World} {K : Nat → Prop} {x : TCoreArm} {cs : List Value} (h : Rep w K x.enc cs) :
    ∃ c1 c2 c3 c4 c5 c6 c7 c8 c9 c10 c11 c12 : Value, cs = [.string x.fConstructor, c1, c2, c3, c4, c5, c6, c7, c8, c9, c10, c11, c12] ∧ x.fConstructor.size ≤ maxLen ∧ Rep w K (.sl (x.fVars.map encS)) [c1] ∧ Rep w K x.fBody.enc [c2, c3, c4, c5, c6, c7, c8, c9, c10, c11, c12] := by
  rw [TCoreArm.enc_eq] at h
  simp only [Rep, RepS] at h
  obtain ⟨a0, r0, rfl, k0, h⟩ := h
  simp only [encS, Rep] at k0
  obtain ⟨rfl, k0⟩ := k0
  obtain ⟨a1, r1, rfl, k1, h⟩ := h
  have l1 := Rep.length _ _ ((by simpa only [Rep] using k1 : Rep w K (.sl (x.fVars.map encS)) a1))
  obtain ⟨c1, rfl⟩ := len1 (by simpa [D.width] using l1)
  obtain ⟨a2, r2, rfl, k2, h⟩ := h
  obtain ⟨c2, c3, c4, c5, c6, c7, c8, c9, c10, c11, c12, rfl⟩ := len11 ((Rep.length _ _ k2).trans (TCore.width _))
  subst h
  exact ⟨c1, c2, c3, c4, c5, c6, c7, c8, c9, c10, c11, c12, rfl, k0, (by simpa only [Rep] using k1), k2⟩
theorem TCoreArm.mk_rep {w : World} {K : Nat → Prop} {x : TCoreArm} {c1 c2 c3 c4 c5 c6 c7 c8 c9 c10 c11 c12 : Value} (hConstructor : x.fConstructor.size ≤ maxLen) (hVars : Rep w K (.sl (x.fVars.map encS)) [c1]) (hBody : Rep w K x.fBody.enc [c2, c3, c4, c5, c6, c7, c8, c9, c10, c11, c12]) : Rep w K x.enc [.string x.fConstructor, c1, c2, c3, c4, c5, c6, c7, c8, c9, c10, c11, c12] := by
  rw [TCoreArm.enc_eq]
  simp only [Rep, RepS]
  exact ⟨[.string x.fConstructor], _, rfl, (repS hConstructor), ⟨[c1], _, rfl, (by simpa only [Rep] using hVars), ⟨[c2, c3, c4, c5, c6, c7, c8, c9, c10, c11, c12], _, rfl, hBody, rfl⟩⟩⟩
theorem TCoreArm.mk_own {w : World} {x : TCoreArm} {c1 c2 c3 c4 c5 c6 c7 c8 c9 c10 c11 c12 : Value} (hConstructor : x.fConstructor.size ≤ maxLen) {b1 : List Nat} (hVars : Own w (.sl (x.fVars.map encS)) [c1] b1) {b2 : List Nat} (hBody : Own w x.fBody.enc [c2, c3, c4, c5, c6, c7, c8, c9, c10, c11, c12] b2) : Own w x.enc [.string x.fConstructor, c1, c2, c3, c4, c5, c6, c7, c8, c9, c10, c11, c12] (b1 ++ (b2 ++ ([]))) := by
  rw [TCoreArm.enc_eq]
  simp only [Own, OwnS]
  exact ⟨[.string x.fConstructor], _, [], _, rfl, rfl, (ownS hConstructor), ⟨[c1], _, b1, _, rfl, rfl, (by simpa only [Own] using hVars), ⟨[c2, c3, c4, c5, c6, c7, c8, c9, c10, c11, c12], _, b2, _, rfl, rfl, hBody, ⟨rfl, rfl⟩⟩⟩⟩
structure TMethodTable where
  fTrait : ByteArray
  fType : TType
  fEntries : List TMethodEntry
def TMethodTable.enc (x : TMethodTable) : D := .st [(encS x.fTrait), (TType.enc x.fType), (.sl (x.fEntries.map TMethodEntry.enc))]
theorem TMethodTable.enc_eq (x : TMethodTable) : x.enc = .st [(encS x.fTrait), (TType.enc x.fType), (.sl (x.fEntries.map TMethodEntry.enc))] := rfl
def TMethodTable.sz (x : TMethodTable) : Nat := ByteArray.size x.fTrait + TType.sz x.fType + szs TMethodEntry.sz x.fEntries
theorem TMethodTable.sz_eq (x : TMethodTable) : x.sz = ByteArray.size x.fTrait + TType.sz x.fType + szs TMethodEntry.sz x.fEntries := rfl
theorem TMethodTable.width (x : TMethodTable) : x.enc.width = 5 := by
  rw [TMethodTable.enc_eq]; simp only [D.width, D.widths, encS, TType.width]
theorem TMethodTable.opn {w : World} {K : Nat → Prop} {x : TMethodTable} {cs : List Value} (h : Rep w K x.enc cs) :
    ∃ c1 c2 c3 c4 : Value, cs = [.string x.fTrait, c1, c2, c3, c4] ∧ x.fTrait.size ≤ maxLen ∧ Rep w K x.fType.enc [c1, c2, c3] ∧ Rep w K (.sl (x.fEntries.map TMethodEntry.enc)) [c4] := by
  rw [TMethodTable.enc_eq] at h
  simp only [Rep, RepS] at h
  obtain ⟨a0, r0, rfl, k0, h⟩ := h
  simp only [encS, Rep] at k0
  obtain ⟨rfl, k0⟩ := k0
  obtain ⟨a1, r1, rfl, k1, h⟩ := h
  obtain ⟨c1, c2, c3, rfl⟩ := len3 ((Rep.length _ _ k1).trans (TType.width _))
  obtain ⟨a2, r2, rfl, k2, h⟩ := h
  have l2 := Rep.length _ _ ((by simpa only [Rep] using k2 : Rep w K (.sl (x.fEntries.map TMethodEntry.enc)) a2))
  obtain ⟨c4, rfl⟩ := len1 (by simpa [D.width] using l2)
  subst h
  exact ⟨c1, c2, c3, c4, rfl, k0, k1, (by simpa only [Rep] using k2)⟩
theorem TMethodTable.mk_rep {w : World} {K : Nat → Prop} {x : TMethodTable} {c1 c2 c3 c4 : Value} (hTrait : x.fTrait.size ≤ maxLen) (hType : Rep w K x.fType.enc [c1, c2, c3]) (hEntries : Rep w K (.sl (x.fEntries.map TMethodEntry.enc)) [c4]) : Rep w K x.enc [.string x.fTrait, c1, c2, c3, c4] := by
  rw [TMethodTable.enc_eq]
  simp only [Rep, RepS]
  exact ⟨[.string x.fTrait], _, rfl, (repS hTrait), ⟨[c1, c2, c3], _, rfl, hType, ⟨[c4], _, rfl, (by simpa only [Rep] using hEntries), rfl⟩⟩⟩
theorem TMethodTable.mk_own {w : World} {x : TMethodTable} {c1 c2 c3 c4 : Value} (hTrait : x.fTrait.size ≤ maxLen) {b1 : List Nat} (hType : Own w x.fType.enc [c1, c2, c3] b1) {b2 : List Nat} (hEntries : Own w (.sl (x.fEntries.map TMethodEntry.enc)) [c4] b2) : Own w x.enc [.string x.fTrait, c1, c2, c3, c4] (b1 ++ (b2 ++ ([]))) := by
  rw [TMethodTable.enc_eq]
  simp only [Own, OwnS]
  exact ⟨[.string x.fTrait], _, [], _, rfl, rfl, (ownS hTrait), ⟨[c1, c2, c3], _, b1, _, rfl, rfl, hType, ⟨[c4], _, b2, _, rfl, rfl, (by simpa only [Own] using hEntries), ⟨rfl, rfl⟩⟩⟩⟩
structure TMachine where
  fCodes : List TCode
  fTables : List TMethodTable
def TMachine.enc (x : TMachine) : D := .st [(.sl (x.fCodes.map TCode.enc)), (.sl (x.fTables.map TMethodTable.enc))]
theorem TMachine.enc_eq (x : TMachine) : x.enc = .st [(.sl (x.fCodes.map TCode.enc)), (.sl (x.fTables.map TMethodTable.enc))] := rfl
def TMachine.sz (x : TMachine) : Nat := szs TCode.sz x.fCodes + szs TMethodTable.sz x.fTables
theorem TMachine.sz_eq (x : TMachine) : x.sz = szs TCode.sz x.fCodes + szs TMethodTable.sz x.fTables := rfl
theorem TMachine.width (x : TMachine) : x.enc.width = 2 := by
  rw [TMachine.enc_eq]; simp only [D.width, D.widths]
theorem TMachine.opn {w : World} {K : Nat → Prop} {x : TMachine} {cs : List Value} (h : Rep w K x.enc cs) :
    ∃ c0 c1 : Value, cs = [c0, c1] ∧ Rep w K (.sl (x.fCodes.map TCode.enc)) [c0] ∧ Rep w K (.sl (x.fTables.map TMethodTable.enc)) [c1] := by
  rw [TMachine.enc_eq] at h
  simp only [Rep, RepS] at h
  obtain ⟨a0, r0, rfl, k0, h⟩ := h
  have l0 := Rep.length _ _ ((by simpa only [Rep] using k0 : Rep w K (.sl (x.fCodes.map TCode.enc)) a0))
  obtain ⟨c0, rfl⟩ := len1 (by simpa [D.width] using l0)
  obtain ⟨a1, r1, rfl, k1, h⟩ := h
  have l1 := Rep.length _ _ ((by simpa only [Rep] using k1 : Rep w K (.sl (x.fTables.map TMethodTable.enc)) a1))
  obtain ⟨c1, rfl⟩ := len1 (by simpa [D.width] using l1)
  subst h
  exact ⟨c0, c1, rfl, (by simpa only [Rep] using k0), (by simpa only [Rep] using k1)⟩
theorem TMachine.mk_rep {w : World} {K : Nat → Prop} {x : TMachine} {c0 c1 : Value} (hCodes : Rep w K (.sl (x.fCodes.map TCode.enc)) [c0]) (hTables : Rep w K (.sl (x.fTables.map TMethodTable.enc)) [c1]) : Rep w K x.enc [c0, c1] := by
  rw [TMachine.enc_eq]
  simp only [Rep, RepS]
  exact ⟨[c0], _, rfl, (by simpa only [Rep] using hCodes), ⟨[c1], _, rfl, (by simpa only [Rep] using hTables), rfl⟩⟩
theorem TMachine.mk_own {w : World} {x : TMachine} {c0 c1 : Value} {b0 : List Nat} (hCodes : Own w (.sl (x.fCodes.map TCode.enc)) [c0] b0) {b1 : List Nat} (hTables : Own w (.sl (x.fTables.map TMethodTable.enc)) [c1] b1) : Own w x.enc [c0, c1] (b0 ++ (b1 ++ ([]))) := by
  rw [TMachine.enc_eq]
  simp only [Own, OwnS]
  exact ⟨[c0], _, b0, _, rfl, rfl, (by simpa only [Own] using hCodes), ⟨[c1], _, b1, _, rfl, rfl, (by simpa only [Own] using hTables), ⟨rfl, rfl⟩⟩⟩
structure TParam where
  fName : ByteArray
  fType : TType
def TParam.enc (x : TParam) : D := .st [(encS x.fName), (TType.enc x.fType)]
theorem TParam.enc_eq (x : TParam) : x.enc = .st [(encS x.fName), (TType.enc x.fType)] := rfl
def TParam.sz (x : TParam) : Nat := ByteArray.size x.fName + TType.sz x.fType
theorem TParam.sz_eq (x : TParam) : x.sz = ByteArray.size x.fName + TType.sz x.fType := rfl
theorem TParam.width (x : TParam) : x.enc.width = 4 := by
  rw [TParam.enc_eq]; simp only [D.width, D.widths, encS, TType.width]
theorem TParam.opn {w : World} {K : Nat → Prop} {x : TParam} {cs : List Value} (h : Rep w K x.enc cs) :
    ∃ c1 c2 c3 : Value, cs = [.string x.fName, c1, c2, c3] ∧ x.fName.size ≤ maxLen ∧ Rep w K x.fType.enc [c1, c2, c3] := by
  rw [TParam.enc_eq] at h
  simp only [Rep, RepS] at h
  obtain ⟨a0, r0, rfl, k0, h⟩ := h
  simp only [encS, Rep] at k0
  obtain ⟨rfl, k0⟩ := k0
  obtain ⟨a1, r1, rfl, k1, h⟩ := h
  obtain ⟨c1, c2, c3, rfl⟩ := len3 ((Rep.length _ _ k1).trans (TType.width _))
  subst h
  exact ⟨c1, c2, c3, rfl, k0, k1⟩
theorem TParam.mk_rep {w : World} {K : Nat → Prop} {x : TParam} {c1 c2 c3 : Value} (hName : x.fName.size ≤ maxLen) (hType : Rep w K x.fType.enc [c1, c2, c3]) : Rep w K x.enc [.string x.fName, c1, c2, c3] := by
  rw [TParam.enc_eq]
  simp only [Rep, RepS]
  exact ⟨[.string x.fName], _, rfl, (repS hName), ⟨[c1, c2, c3], _, rfl, hType, rfl⟩⟩
theorem TParam.mk_own {w : World} {x : TParam} {c1 c2 c3 : Value} (hName : x.fName.size ≤ maxLen) {b1 : List Nat} (hType : Own w x.fType.enc [c1, c2, c3] b1) : Own w x.enc [.string x.fName, c1, c2, c3] (b1 ++ ([])) := by
  rw [TParam.enc_eq]
  simp only [Own, OwnS]
  exact ⟨[.string x.fName], _, [], _, rfl, rfl, (ownS hName), ⟨[c1, c2, c3], _, b1, _, rfl, rfl, hType, ⟨rfl, rfl⟩⟩⟩
structure TSpecialization where
  fUnit : Int
  fTypeArgs : List TType
  fParams : List ByteArray
  fBody : TCore
def TSpecialization.enc (x : TSpecialization) : D := .st [(encI x.fUnit), (.sl (x.fTypeArgs.map TType.enc)), (.sl (x.fParams.map encS)), (TCore.enc x.fBody)]
theorem TSpecialization.enc_eq (x : TSpecialization) : x.enc = .st [(encI x.fUnit), (.sl (x.fTypeArgs.map TType.enc)), (.sl (x.fParams.map encS)), (TCore.enc x.fBody)] := rfl
def TSpecialization.sz (x : TSpecialization) : Nat := szs TType.sz x.fTypeArgs + szs ByteArray.size x.fParams + TCore.sz x.fBody
theorem TSpecialization.sz_eq (x : TSpecialization) : x.sz = szs TType.sz x.fTypeArgs + szs ByteArray.size x.fParams + TCore.sz x.fBody := rfl
theorem TSpecialization.width (x : TSpecialization) : x.enc.width = 14 := by
  rw [TSpecialization.enc_eq]; simp only [D.width, D.widths, encI, TCore.width]
theorem TSpecialization.opn {w : World} {K : Nat → Prop} {x : TSpecialization} {cs : List Value} (h : Rep w K x.enc cs) :
    ∃ c1 c2 c3 c4 c5 c6 c7 c8 c9 c10 c11 c12 c13 : Value, cs = [.int .i64 x.fUnit, c1, c2, c3, c4, c5, c6, c7, c8, c9, c10, c11, c12, c13] ∧ InR x.fUnit ∧ Rep w K (.sl (x.fTypeArgs.map TType.enc)) [c1] ∧ Rep w K (.sl (x.fParams.map encS)) [c2] ∧ Rep w K x.fBody.enc [c3, c4, c5, c6, c7, c8, c9, c10, c11, c12, c13] := by
  rw [TSpecialization.enc_eq] at h
  simp only [Rep, RepS] at h
  obtain ⟨a0, r0, rfl, k0, h⟩ := h
  simp only [encI, Rep] at k0
  obtain ⟨rfl, k0⟩ := k0
  obtain ⟨a1, r1, rfl, k1, h⟩ := h
  have l1 := Rep.length _ _ ((by simpa only [Rep] using k1 : Rep w K (.sl (x.fTypeArgs.map TType.enc)) a1))
  obtain ⟨c1, rfl⟩ := len1 (by simpa [D.width] using l1)
  obtain ⟨a2, r2, rfl, k2, h⟩ := h
  have l2 := Rep.length _ _ ((by simpa only [Rep] using k2 : Rep w K (.sl (x.fParams.map encS)) a2))
  obtain ⟨c2, rfl⟩ := len1 (by simpa [D.width] using l2)
  obtain ⟨a3, r3, rfl, k3, h⟩ := h
  obtain ⟨c3, c4, c5, c6, c7, c8, c9, c10, c11, c12, c13, rfl⟩ := len11 ((Rep.length _ _ k3).trans (TCore.width _))
  subst h
  exact ⟨c1, c2, c3, c4, c5, c6, c7, c8, c9, c10, c11, c12, c13, rfl, k0, (by simpa only [Rep] using k1), (by simpa only [Rep] using k2), k3⟩
theorem TSpecialization.mk_rep {w : World} {K : Nat → Prop} {x : TSpecialization} {c1 c2 c3 c4 c5 c6 c7 c8 c9 c10 c11 c12 c13 : Value} (hUnit : InR x.fUnit) (hTypeArgs : Rep w K (.sl (x.fTypeArgs.map TType.enc)) [c1]) (hParams : Rep w K (.sl (x.fParams.map encS)) [c2]) (hBody : Rep w K x.fBody.enc [c3, c4, c5, c6, c7, c8, c9, c10, c11, c12, c13]) : Rep w K x.enc [.int .i64 x.fUnit, c1, c2, c3, c4, c5, c6, c7, c8, c9, c10, c11, c12, c13] := by
  rw [TSpecialization.enc_eq]
  simp only [Rep, RepS]
  exact ⟨[.int .i64 x.fUnit], _, rfl, (repI hUnit), ⟨[c1], _, rfl, (by simpa only [Rep] using hTypeArgs), ⟨[c2], _, rfl, (by simpa only [Rep] using hParams), ⟨[c3, c4, c5, c6, c7, c8, c9, c10, c11, c12, c13], _, rfl, hBody, rfl⟩⟩⟩⟩
theorem TSpecialization.mk_own {w : World} {x : TSpecialization} {c1 c2 c3 c4 c5 c6 c7 c8 c9 c10 c11 c12 c13 : Value} (hUnit : InR x.fUnit) {b1 : List Nat} (hTypeArgs : Own w (.sl (x.fTypeArgs.map TType.enc)) [c1] b1) {b2 : List Nat} (hParams : Own w (.sl (x.fParams.map encS)) [c2] b2) {b3 : List Nat} (hBody : Own w x.fBody.enc [c3, c4, c5, c6, c7, c8, c9, c10, c11, c12, c13] b3) : Own w x.enc [.int .i64 x.fUnit, c1, c2, c3, c4, c5, c6, c7, c8, c9, c10, c11, c12, c13] (b1 ++ (b2 ++ (b3 ++ ([])))) := by
  rw [TSpecialization.enc_eq]
  simp only [Own, OwnS]
  exact ⟨[.int .i64 x.fUnit], _, [], _, rfl, rfl, (ownI hUnit), ⟨[c1], _, b1, _, rfl, rfl, (by simpa only [Own] using hTypeArgs), ⟨[c2], _, b2, _, rfl, rfl, (by simpa only [Own] using hParams), ⟨[c3, c4, c5, c6, c7, c8, c9, c10, c11, c12, c13], _, b3, _, rfl, rfl, hBody, ⟨rfl, rfl⟩⟩⟩⟩⟩
structure TMonoProgram where
  fSpecializations : List TSpecialization
  fTables : List TMethodTable
def TMonoProgram.enc (x : TMonoProgram) : D := .st [(.sl (x.fSpecializations.map TSpecialization.enc)), (.sl (x.fTables.map TMethodTable.enc))]
theorem TMonoProgram.enc_eq (x : TMonoProgram) : x.enc = .st [(.sl (x.fSpecializations.map TSpecialization.enc)), (.sl (x.fTables.map TMethodTable.enc))] := rfl
def TMonoProgram.sz (x : TMonoProgram) : Nat := szs TSpecialization.sz x.fSpecializations + szs TMethodTable.sz x.fTables
theorem TMonoProgram.sz_eq (x : TMonoProgram) : x.sz = szs TSpecialization.sz x.fSpecializations + szs TMethodTable.sz x.fTables := rfl
theorem TMonoProgram.width (x : TMonoProgram) : x.enc.width = 2 := by
  rw [TMonoProgram.enc_eq]; simp only [D.width, D.widths]
theorem TMonoProgram.opn {w : World} {K : Nat → Prop} {x : TMonoProgram} {cs : List Value} (h : Rep w K x.enc cs) :
    ∃ c0 c1 : Value, cs = [c0, c1] ∧ Rep w K (.sl (x.fSpecializations.map TSpecialization.enc)) [c0] ∧ Rep w K (.sl (x.fTables.map TMethodTable.enc)) [c1] := by
  rw [TMonoProgram.enc_eq] at h
  simp only [Rep, RepS] at h
  obtain ⟨a0, r0, rfl, k0, h⟩ := h
  have l0 := Rep.length _ _ ((by simpa only [Rep] using k0 : Rep w K (.sl (x.fSpecializations.map TSpecialization.enc)) a0))
  obtain ⟨c0, rfl⟩ := len1 (by simpa [D.width] using l0)
  obtain ⟨a1, r1, rfl, k1, h⟩ := h
  have l1 := Rep.length _ _ ((by simpa only [Rep] using k1 : Rep w K (.sl (x.fTables.map TMethodTable.enc)) a1))
  obtain ⟨c1, rfl⟩ := len1 (by simpa [D.width] using l1)
  subst h
  exact ⟨c0, c1, rfl, (by simpa only [Rep] using k0), (by simpa only [Rep] using k1)⟩
theorem TMonoProgram.mk_rep {w : World} {K : Nat → Prop} {x : TMonoProgram} {c0 c1 : Value} (hSpecializations : Rep w K (.sl (x.fSpecializations.map TSpecialization.enc)) [c0]) (hTables : Rep w K (.sl (x.fTables.map TMethodTable.enc)) [c1]) : Rep w K x.enc [c0, c1] := by
  rw [TMonoProgram.enc_eq]
  simp only [Rep, RepS]
  exact ⟨[c0], _, rfl, (by simpa only [Rep] using hSpecializations), ⟨[c1], _, rfl, (by simpa only [Rep] using hTables), rfl⟩⟩
theorem TMonoProgram.mk_own {w : World} {x : TMonoProgram} {c0 c1 : Value} {b0 : List Nat} (hSpecializations : Own w (.sl (x.fSpecializations.map TSpecialization.enc)) [c0] b0) {b1 : List Nat} (hTables : Own w (.sl (x.fTables.map TMethodTable.enc)) [c1] b1) : Own w x.enc [c0, c1] (b0 ++ (b1 ++ ([]))) := by
  rw [TMonoProgram.enc_eq]
  simp only [Own, OwnS]
  exact ⟨[c0], _, b0, _, rfl, rfl, (by simpa only [Own] using hSpecializations), ⟨[c1], _, b1, _, rfl, rfl, (by simpa only [Own] using hTables), ⟨rfl, rfl⟩⟩⟩
structure TUnit where
  fKind : Int
  fPackage : Int
  fAt : Int
  fSub : Int
  fVars : List ByteArray
  fWhere : List TBound
  fParams : List TParam
  fResult : TType
  fBody : TCore
def TUnit.enc (x : TUnit) : D := .st [(encI x.fKind), (encI x.fPackage), (encI x.fAt), (encI x.fSub), (.sl (x.fVars.map encS)), (.sl (x.fWhere.map TBound.enc)), (.sl (x.fParams.map TParam.enc)), (TType.enc x.fResult), (TCore.enc x.fBody)]
theorem TUnit.enc_eq (x : TUnit) : x.enc = .st [(encI x.fKind), (encI x.fPackage), (encI x.fAt), (encI x.fSub), (.sl (x.fVars.map encS)), (.sl (x.fWhere.map TBound.enc)), (.sl (x.fParams.map TParam.enc)), (TType.enc x.fResult), (TCore.enc x.fBody)] := rfl
def TUnit.sz (x : TUnit) : Nat := szs ByteArray.size x.fVars + szs TBound.sz x.fWhere + szs TParam.sz x.fParams + TType.sz x.fResult + TCore.sz x.fBody
theorem TUnit.sz_eq (x : TUnit) : x.sz = szs ByteArray.size x.fVars + szs TBound.sz x.fWhere + szs TParam.sz x.fParams + TType.sz x.fResult + TCore.sz x.fBody := rfl
theorem TUnit.width (x : TUnit) : x.enc.width = 21 := by
  rw [TUnit.enc_eq]; simp only [D.width, D.widths, encI, TCore.width, TType.width]
theorem TUnit.opn {w : World} {K : Nat → Prop} {x : TUnit} {cs : List Value} (h : Rep w K x.enc cs) :
    ∃ c4 c5 c6 c7 c8 c9 c10 c11 c12 c13 c14 c15 c16 c17 c18 c19 c20 : Value, cs = [.int .i64 x.fKind, .int .i64 x.fPackage, .int .i64 x.fAt, .int .i64 x.fSub, c4, c5, c6, c7, c8, c9, c10, c11, c12, c13, c14, c15, c16, c17, c18, c19, c20] ∧ InR x.fKind ∧ InR x.fPackage ∧ InR x.fAt ∧ InR x.fSub ∧ Rep w K (.sl (x.fVars.map encS)) [c4] ∧ Rep w K (.sl (x.fWhere.map TBound.enc)) [c5] ∧ Rep w K (.sl (x.fParams.map TParam.enc)) [c6] ∧ Rep w K x.fResult.enc [c7, c8, c9] ∧ Rep w K x.fBody.enc [c10, c11, c12, c13, c14, c15, c16, c17, c18, c19, c20] := by
  rw [TUnit.enc_eq] at h
  simp only [Rep, RepS] at h
  obtain ⟨a0, r0, rfl, k0, h⟩ := h
  simp only [encI, Rep] at k0
  obtain ⟨rfl, k0⟩ := k0
  obtain ⟨a1, r1, rfl, k1, h⟩ := h
  simp only [encI, Rep] at k1
  obtain ⟨rfl, k1⟩ := k1
  obtain ⟨a2, r2, rfl, k2, h⟩ := h
  simp only [encI, Rep] at k2
  obtain ⟨rfl, k2⟩ := k2
  obtain ⟨a3, r3, rfl, k3, h⟩ := h
  simp only [encI, Rep] at k3
  obtain ⟨rfl, k3⟩ := k3
  obtain ⟨a4, r4, rfl, k4, h⟩ := h
  have l4 := Rep.length _ _ ((by simpa only [Rep] using k4 : Rep w K (.sl (x.fVars.map encS)) a4))
  obtain ⟨c4, rfl⟩ := len1 (by simpa [D.width] using l4)
  obtain ⟨a5, r5, rfl, k5, h⟩ := h
  have l5 := Rep.length _ _ ((by simpa only [Rep] using k5 : Rep w K (.sl (x.fWhere.map TBound.enc)) a5))
  obtain ⟨c5, rfl⟩ := len1 (by simpa [D.width] using l5)
  obtain ⟨a6, r6, rfl, k6, h⟩ := h
  have l6 := Rep.length _ _ ((by simpa only [Rep] using k6 : Rep w K (.sl (x.fParams.map TParam.enc)) a6))
  obtain ⟨c6, rfl⟩ := len1 (by simpa [D.width] using l6)
  obtain ⟨a7, r7, rfl, k7, h⟩ := h
  obtain ⟨c7, c8, c9, rfl⟩ := len3 ((Rep.length _ _ k7).trans (TType.width _))
  obtain ⟨a8, r8, rfl, k8, h⟩ := h
  obtain ⟨c10, c11, c12, c13, c14, c15, c16, c17, c18, c19, c20, rfl⟩ := len11 ((Rep.length _ _ k8).trans (TCore.width _))
  subst h
  exact ⟨c4, c5, c6, c7, c8, c9, c10, c11, c12, c13, c14, c15, c16, c17, c18, c19, c20, rfl, k0, k1, k2, k3, (by simpa only [Rep] using k4), (by simpa only [Rep] using k5), (by simpa only [Rep] using k6), k7, k8⟩
theorem TUnit.mk_rep {w : World} {K : Nat → Prop} {x : TUnit} {c4 c5 c6 c7 c8 c9 c10 c11 c12 c13 c14 c15 c16 c17 c18 c19 c20 : Value} (hKind : InR x.fKind) (hPackage : InR x.fPackage) (hAt : InR x.fAt) (hSub : InR x.fSub) (hVars : Rep w K (.sl (x.fVars.map encS)) [c4]) (hWhere : Rep w K (.sl (x.fWhere.map TBound.enc)) [c5]) (hParams : Rep w K (.sl (x.fParams.map TParam.enc)) [c6]) (hResult : Rep w K x.fResult.enc [c7, c8, c9]) (hBody : Rep w K x.fBody.enc [c10, c11, c12, c13, c14, c15, c16, c17, c18, c19, c20]) : Rep w K x.enc [.int .i64 x.fKind, .int .i64 x.fPackage, .int .i64 x.fAt, .int .i64 x.fSub, c4, c5, c6, c7, c8, c9, c10, c11, c12, c13, c14, c15, c16, c17, c18, c19, c20] := by
  rw [TUnit.enc_eq]
  simp only [Rep, RepS]
  exact ⟨[.int .i64 x.fKind], _, rfl, (repI hKind), ⟨[.int .i64 x.fPackage], _, rfl, (repI hPackage), ⟨[.int .i64 x.fAt], _, rfl, (repI hAt), ⟨[.int .i64 x.fSub], _, rfl, (repI hSub), ⟨[c4], _, rfl, (by simpa only [Rep] using hVars), ⟨[c5], _, rfl, (by simpa only [Rep] using hWhere), ⟨[c6], _, rfl, (by simpa only [Rep] using hParams), ⟨[c7, c8, c9], _, rfl, hResult, ⟨[c10, c11, c12, c13, c14, c15, c16, c17, c18, c19, c20], _, rfl, hBody, rfl⟩⟩⟩⟩⟩⟩⟩⟩⟩
theorem TUnit.mk_own {w : World} {x : TUnit} {c4 c5 c6 c7 c8 c9 c10 c11 c12 c13 c14 c15 c16 c17 c18 c19 c20 : Value} (hKind : InR x.fKind) (hPackage : InR x.fPackage) (hAt : InR x.fAt) (hSub : InR x.fSub) {b4 : List Nat} (hVars : Own w (.sl (x.fVars.map encS)) [c4] b4) {b5 : List Nat} (hWhere : Own w (.sl (x.fWhere.map TBound.enc)) [c5] b5) {b6 : List Nat} (hParams : Own w (.sl (x.fParams.map TParam.enc)) [c6] b6) {b7 : List Nat} (hResult : Own w x.fResult.enc [c7, c8, c9] b7) {b8 : List Nat} (hBody : Own w x.fBody.enc [c10, c11, c12, c13, c14, c15, c16, c17, c18, c19, c20] b8) : Own w x.enc [.int .i64 x.fKind, .int .i64 x.fPackage, .int .i64 x.fAt, .int .i64 x.fSub, c4, c5, c6, c7, c8, c9, c10, c11, c12, c13, c14, c15, c16, c17, c18, c19, c20] (b4 ++ (b5 ++ (b6 ++ (b7 ++ (b8 ++ ([])))))) := by
  rw [TUnit.enc_eq]
  simp only [Own, OwnS]
  exact ⟨[.int .i64 x.fKind], _, [], _, rfl, rfl, (ownI hKind), ⟨[.int .i64 x.fPackage], _, [], _, rfl, rfl, (ownI hPackage), ⟨[.int .i64 x.fAt], _, [], _, rfl, rfl, (ownI hAt), ⟨[.int .i64 x.fSub], _, [], _, rfl, rfl, (ownI hSub), ⟨[c4], _, b4, _, rfl, rfl, (by simpa only [Own] using hVars), ⟨[c5], _, b5, _, rfl, rfl, (by simpa only [Own] using hWhere), ⟨[c6], _, b6, _, rfl, rfl, (by simpa only [Own] using hParams), ⟨[c7, c8, c9], _, b7, _, rfl, rfl, hResult, ⟨[c10, c11, c12, c13, c14, c15, c16, c17, c18, c19, c20], _, b8, _, rfl, rfl, hBody, ⟨rfl, rfl⟩⟩⟩⟩⟩⟩⟩⟩⟩⟩
structure TUnitError where
  fKind : Int
  fPackage : Int
  fAt : Int
  fSub : Int
  fCode : Int
  fNode : Int
def TUnitError.enc (x : TUnitError) : D := .st [(encI x.fKind), (encI x.fPackage), (encI x.fAt), (encI x.fSub), (encI x.fCode), (encI x.fNode)]
theorem TUnitError.enc_eq (x : TUnitError) : x.enc = .st [(encI x.fKind), (encI x.fPackage), (encI x.fAt), (encI x.fSub), (encI x.fCode), (encI x.fNode)] := rfl
theorem TUnitError.width (x : TUnitError) : x.enc.width = 6 := by
  rw [TUnitError.enc_eq]; simp only [D.width, D.widths, encI]
theorem TUnitError.opn {w : World} {K : Nat → Prop} {x : TUnitError} {cs : List Value} (h : Rep w K x.enc cs) :
    cs = [.int .i64 x.fKind, .int .i64 x.fPackage, .int .i64 x.fAt, .int .i64 x.fSub, .int .i64 x.fCode, .int .i64 x.fNode] ∧ InR x.fKind ∧ InR x.fPackage ∧ InR x.fAt ∧ InR x.fSub ∧ InR x.fCode ∧ InR x.fNode := by
  rw [TUnitError.enc_eq] at h
  simp only [Rep, RepS] at h
  obtain ⟨a0, r0, rfl, k0, h⟩ := h
  simp only [encI, Rep] at k0
  obtain ⟨rfl, k0⟩ := k0
  obtain ⟨a1, r1, rfl, k1, h⟩ := h
  simp only [encI, Rep] at k1
  obtain ⟨rfl, k1⟩ := k1
  obtain ⟨a2, r2, rfl, k2, h⟩ := h
  simp only [encI, Rep] at k2
  obtain ⟨rfl, k2⟩ := k2
  obtain ⟨a3, r3, rfl, k3, h⟩ := h
  simp only [encI, Rep] at k3
  obtain ⟨rfl, k3⟩ := k3
  obtain ⟨a4, r4, rfl, k4, h⟩ := h
  simp only [encI, Rep] at k4
  obtain ⟨rfl, k4⟩ := k4
  obtain ⟨a5, r5, rfl, k5, h⟩ := h
  simp only [encI, Rep] at k5
  obtain ⟨rfl, k5⟩ := k5
  subst h
  exact ⟨rfl, k0, k1, k2, k3, k4, k5⟩
theorem TUnitError.mk_rep {w : World} {K : Nat → Prop} {x : TUnitError} (hKind : InR x.fKind) (hPackage : InR x.fPackage) (hAt : InR x.fAt) (hSub : InR x.fSub) (hCode : InR x.fCode) (hNode : InR x.fNode) : Rep w K x.enc [.int .i64 x.fKind, .int .i64 x.fPackage, .int .i64 x.fAt, .int .i64 x.fSub, .int .i64 x.fCode, .int .i64 x.fNode] := by
  rw [TUnitError.enc_eq]
  simp only [Rep, RepS]
  exact ⟨[.int .i64 x.fKind], _, rfl, (repI hKind), ⟨[.int .i64 x.fPackage], _, rfl, (repI hPackage), ⟨[.int .i64 x.fAt], _, rfl, (repI hAt), ⟨[.int .i64 x.fSub], _, rfl, (repI hSub), ⟨[.int .i64 x.fCode], _, rfl, (repI hCode), ⟨[.int .i64 x.fNode], _, rfl, (repI hNode), rfl⟩⟩⟩⟩⟩⟩
theorem TUnitError.mk_own {w : World} {x : TUnitError} (hKind : InR x.fKind) (hPackage : InR x.fPackage) (hAt : InR x.fAt) (hSub : InR x.fSub) (hCode : InR x.fCode) (hNode : InR x.fNode) : Own w x.enc [.int .i64 x.fKind, .int .i64 x.fPackage, .int .i64 x.fAt, .int .i64 x.fSub, .int .i64 x.fCode, .int .i64 x.fNode] ([]) := by
  rw [TUnitError.enc_eq]
  simp only [Own, OwnS]
  exact ⟨[.int .i64 x.fKind], _, [], _, rfl, rfl, (ownI hKind), ⟨[.int .i64 x.fPackage], _, [], _, rfl, rfl, (ownI hPackage), ⟨[.int .i64 x.fAt], _, [], _, rfl, rfl, (ownI hAt), ⟨[.int .i64 x.fSub], _, [], _, rfl, rfl, (ownI hSub), ⟨[.int .i64 x.fCode], _, [], _, rfl, rfl, (ownI hCode), ⟨[.int .i64 x.fNode], _, [], _, rfl, rfl, (ownI hNode), ⟨rfl, rfl⟩⟩⟩⟩⟩⟩⟩
structure TBuiltPackage where
  fName : ByteArray
  fKey : ByteArray
  fUnits : List TUnit
  fErrors : List TUnitError
def TBuiltPackage.enc (x : TBuiltPackage) : D := .st [(encS x.fName), (encS x.fKey), (.sl (x.fUnits.map TUnit.enc)), (.sl (x.fErrors.map TUnitError.enc))]
theorem TBuiltPackage.enc_eq (x : TBuiltPackage) : x.enc = .st [(encS x.fName), (encS x.fKey), (.sl (x.fUnits.map TUnit.enc)), (.sl (x.fErrors.map TUnitError.enc))] := rfl
def TBuiltPackage.sz (x : TBuiltPackage) : Nat := ByteArray.size x.fName + ByteArray.size x.fKey + szs TUnit.sz x.fUnits + szs (fun _ => 0) x.fErrors
theorem TBuiltPackage.sz_eq (x : TBuiltPackage) : x.sz = ByteArray.size x.fName + ByteArray.size x.fKey + szs TUnit.sz x.fUnits + szs (fun _ => 0) x.fErrors := rfl
theorem TBuiltPackage.width (x : TBuiltPackage) : x.enc.width = 4 := by
  rw [TBuiltPackage.enc_eq]; simp only [D.width, D.widths, encS]
theorem TBuiltPackage.opn {w : World} {K : Nat → Prop} {x : TBuiltPackage} {cs : List Value} (h : Rep w K x.enc cs) :
    ∃ c2 c3 : Value, cs = [.string x.fName, .string x.fKey, c2, c3] ∧ x.fName.size ≤ maxLen ∧ x.fKey.size ≤ maxLen ∧ Rep w K (.sl (x.fUnits.map TUnit.enc)) [c2] ∧ Rep w K (.sl (x.fErrors.map TUnitError.enc)) [c3] := by
  rw [TBuiltPackage.enc_eq] at h
  simp only [Rep, RepS] at h
  obtain ⟨a0, r0, rfl, k0, h⟩ := h
  simp only [encS, Rep] at k0
  obtain ⟨rfl, k0⟩ := k0
  obtain ⟨a1, r1, rfl, k1, h⟩ := h
  simp only [encS, Rep] at k1
  obtain ⟨rfl, k1⟩ := k1
  obtain ⟨a2, r2, rfl, k2, h⟩ := h
  have l2 := Rep.length _ _ ((by simpa only [Rep] using k2 : Rep w K (.sl (x.fUnits.map TUnit.enc)) a2))
  obtain ⟨c2, rfl⟩ := len1 (by simpa [D.width] using l2)
  obtain ⟨a3, r3, rfl, k3, h⟩ := h
  have l3 := Rep.length _ _ ((by simpa only [Rep] using k3 : Rep w K (.sl (x.fErrors.map TUnitError.enc)) a3))
  obtain ⟨c3, rfl⟩ := len1 (by simpa [D.width] using l3)
  subst h
  exact ⟨c2, c3, rfl, k0, k1, (by simpa only [Rep] using k2), (by simpa only [Rep] using k3)⟩
theorem TBuiltPackage.mk_rep {w : World} {K : Nat → Prop} {x : TBuiltPackage} {c2 c3 : Value} (hName : x.fName.size ≤ maxLen) (hKey : x.fKey.size ≤ maxLen) (hUnits : Rep w K (.sl (x.fUnits.map TUnit.enc)) [c2]) (hErrors : Rep w K (.sl (x.fErrors.map TUnitError.enc)) [c3]) : Rep w K x.enc [.string x.fName, .string x.fKey, c2, c3] := by
  rw [TBuiltPackage.enc_eq]
  simp only [Rep, RepS]
  exact ⟨[.string x.fName], _, rfl, (repS hName), ⟨[.string x.fKey], _, rfl, (repS hKey), ⟨[c2], _, rfl, (by simpa only [Rep] using hUnits), ⟨[c3], _, rfl, (by simpa only [Rep] using hErrors), rfl⟩⟩⟩⟩
theorem TBuiltPackage.mk_own {w : World} {x : TBuiltPackage} {c2 c3 : Value} (hName : x.fName.size ≤ maxLen) (hKey : x.fKey.size ≤ maxLen) {b2 : List Nat} (hUnits : Own w (.sl (x.fUnits.map TUnit.enc)) [c2] b2) {b3 : List Nat} (hErrors : Own w (.sl (x.fErrors.map TUnitError.enc)) [c3] b3) : Own w x.enc [.string x.fName, .string x.fKey, c2, c3] (b2 ++ (b3 ++ ([]))) := by
  rw [TBuiltPackage.enc_eq]
  simp only [Own, OwnS]
  exact ⟨[.string x.fName], _, [], _, rfl, rfl, (ownS hName), ⟨[.string x.fKey], _, [], _, rfl, rfl, (ownS hKey), ⟨[c2], _, b2, _, rfl, rfl, (by simpa only [Own] using hUnits), ⟨[c3], _, b3, _, rfl, rfl, (by simpa only [Own] using hErrors), ⟨rfl, rfl⟩⟩⟩⟩⟩
structure TBuild where
  fPackages : List TBuiltPackage
def TBuild.enc (x : TBuild) : D := .st [(.sl (x.fPackages.map TBuiltPackage.enc))]
theorem TBuild.enc_eq (x : TBuild) : x.enc = .st [(.sl (x.fPackages.map TBuiltPackage.enc))] := rfl
def TBuild.sz (x : TBuild) : Nat := szs TBuiltPackage.sz x.fPackages
theorem TBuild.sz_eq (x : TBuild) : x.sz = szs TBuiltPackage.sz x.fPackages := rfl
theorem TBuild.width (x : TBuild) : x.enc.width = 1 := by
  rw [TBuild.enc_eq]; simp only [D.width, D.widths]
theorem TBuild.opn {w : World} {K : Nat → Prop} {x : TBuild} {cs : List Value} (h : Rep w K x.enc cs) :
    ∃ c0 : Value, cs = [c0] ∧ Rep w K (.sl (x.fPackages.map TBuiltPackage.enc)) [c0] := by
  rw [TBuild.enc_eq] at h
  simp only [Rep, RepS] at h
  obtain ⟨a0, r0, rfl, k0, h⟩ := h
  have l0 := Rep.length _ _ ((by simpa only [Rep] using k0 : Rep w K (.sl (x.fPackages.map TBuiltPackage.enc)) a0))
  obtain ⟨c0, rfl⟩ := len1 (by simpa [D.width] using l0)
  subst h
  exact ⟨c0, rfl, (by simpa only [Rep] using k0)⟩
theorem TBuild.mk_rep {w : World} {K : Nat → Prop} {x : TBuild} {c0 : Value} (hPackages : Rep w K (.sl (x.fPackages.map TBuiltPackage.enc)) [c0]) : Rep w K x.enc [c0] := by
  rw [TBuild.enc_eq]
  simp only [Rep, RepS]
  exact ⟨[c0], _, rfl, (by simpa only [Rep] using hPackages), rfl⟩
theorem TBuild.mk_own {w : World} {x : TBuild} {c0 : Value} {b0 : List Nat} (hPackages : Own w (.sl (x.fPackages.map TBuiltPackage.enc)) [c0] b0) : Own w x.enc [c0] (b0 ++ ([])) := by
  rw [TBuild.enc_eq]
  simp only [Own, OwnS]
  exact ⟨[c0], _, b0, _, rfl, rfl, (by simpa only [Own] using hPackages), ⟨rfl, rfl⟩⟩
structure TValue where
  fKind : Int
  fN : Int
  fName : ByteArray
  fDict : TDictionary
  fArgs : List TValue
mutual
def TValue.enc : TValue → D
  | ⟨fKind, fN, fName, fDict, fArgs⟩ => .st [(encI fKind), (encI fN), (encS fName), (TDictionary.enc fDict), (.sl (TValue.encL fArgs))]
def TValue.encL : List TValue → List D
  | [] => []
  | x :: l => TValue.enc x :: TValue.encL l
end
mutual
def TValue.sz : TValue → Nat
  | ⟨_, _, fName, fDict, fArgs⟩ => ByteArray.size fName + TDictionary.sz fDict + (fArgs.length + TValue.szLs fArgs)
def TValue.szLs : List TValue → Nat
  | [] => 0
  | x :: l => TValue.sz x + TValue.szLs l
end
theorem TValue.encL_eq : ∀ l : List TValue, TValue.encL l = l.map TValue.enc
  | [] => rfl
  | x :: l => by simp only [TValue.encL, List.map_cons, TValue.encL_eq l]
theorem TValue.szLs_eq : ∀ l : List TValue, TValue.szLs l = szL TValue.sz l
  | [] => rfl
  | x :: l => by simp only [TValue.szLs, szL, TValue.szLs_eq l]
theorem TValue.lt_fArgs (x : TValue) : SizeOf.sizeOf x.fArgs < SizeOf.sizeOf x := by
  cases x; simp; omega
theorem TValue.enc_eq (x : TValue) : x.enc = .st [(encI x.fKind), (encI x.fN), (encS x.fName), (TDictionary.enc x.fDict), (.sl (x.fArgs.map TValue.enc))] := by
  cases x; simp only [TValue.enc, TValue.encL_eq]
theorem TValue.sz_eq (x : TValue) : x.sz = ByteArray.size x.fName + TDictionary.sz x.fDict + szs TValue.sz x.fArgs := by
  cases x; simp only [TValue.sz, szs, TValue.szLs_eq]
theorem TValue.width (x : TValue) : x.enc.width = 9 := by
  rw [TValue.enc_eq]; simp only [D.width, D.widths, encI, encS, TDictionary.width]
theorem TValue.opn {w : World} {K : Nat → Prop} {x : TValue} {cs : List Value} (h : Rep w K x.enc cs) :
    ∃ c3 c4 c5 c6 c7 c8 : Value, cs = [.int .i64 x.fKind, .int .i64 x.fN, .string x.fName, c3, c4, c5, c6, c7, c8] ∧ InR x.fKind ∧ InR x.fN ∧ x.fName.size ≤ maxLen ∧ Rep w K x.fDict.enc [c3, c4, c5, c6, c7] ∧ Rep w K (.sl (x.fArgs.map TValue.enc)) [c8] := by
  rw [TValue.enc_eq] at h
  simp only [Rep, RepS] at h
  obtain ⟨a0, r0, rfl, k0, h⟩ := h
  simp only [encI, Rep] at k0
  obtain ⟨rfl, k0⟩ := k0
  obtain ⟨a1, r1, rfl, k1, h⟩ := h
  simp only [encI, Rep] at k1
  obtain ⟨rfl, k1⟩ := k1
  obtain ⟨a2, r2, rfl, k2, h⟩ := h
  simp only [encS, Rep] at k2
  obtain ⟨rfl, k2⟩ := k2
  obtain ⟨a3, r3, rfl, k3, h⟩ := h
  obtain ⟨c3, c4, c5, c6, c7, rfl⟩ := len5 ((Rep.length _ _ k3).trans (TDictionary.width _))
  obtain ⟨a4, r4, rfl, k4, h⟩ := h
  have l4 := Rep.length _ _ ((by simpa only [Rep] using k4 : Rep w K (.sl (x.fArgs.map TValue.enc)) a4))
  obtain ⟨c8, rfl⟩ := len1 (by simpa [D.width] using l4)
  subst h
  exact ⟨c3, c4, c5, c6, c7, c8, rfl, k0, k1, k2, k3, (by simpa only [Rep] using k4)⟩
theorem TValue.mk_rep {w : World} {K : Nat → Prop} {x : TValue} {c3 c4 c5 c6 c7 c8 : Value} (hKind : InR x.fKind) (hN : InR x.fN) (hName : x.fName.size ≤ maxLen) (hDict : Rep w K x.fDict.enc [c3, c4, c5, c6, c7]) (hArgs : Rep w K (.sl (x.fArgs.map TValue.enc)) [c8]) : Rep w K x.enc [.int .i64 x.fKind, .int .i64 x.fN, .string x.fName, c3, c4, c5, c6, c7, c8] := by
  rw [TValue.enc_eq]
  simp only [Rep, RepS]
  exact ⟨[.int .i64 x.fKind], _, rfl, (repI hKind), ⟨[.int .i64 x.fN], _, rfl, (repI hN), ⟨[.string x.fName], _, rfl, (repS hName), ⟨[c3, c4, c5, c6, c7], _, rfl, hDict, ⟨[c8], _, rfl, (by simpa only [Rep] using hArgs), rfl⟩⟩⟩⟩⟩
theorem TValue.mk_own {w : World} {x : TValue} {c3 c4 c5 c6 c7 c8 : Value} (hKind : InR x.fKind) (hN : InR x.fN) (hName : x.fName.size ≤ maxLen) {b3 : List Nat} (hDict : Own w x.fDict.enc [c3, c4, c5, c6, c7] b3) {b4 : List Nat} (hArgs : Own w (.sl (x.fArgs.map TValue.enc)) [c8] b4) : Own w x.enc [.int .i64 x.fKind, .int .i64 x.fN, .string x.fName, c3, c4, c5, c6, c7, c8] (b3 ++ (b4 ++ ([]))) := by
  rw [TValue.enc_eq]
  simp only [Own, OwnS]
  exact ⟨[.int .i64 x.fKind], _, [], _, rfl, rfl, (ownI hKind), ⟨[.int .i64 x.fN], _, [], _, rfl, rfl, (ownI hN), ⟨[.string x.fName], _, [], _, rfl, rfl, (ownS hName), ⟨[c3, c4, c5, c6, c7], _, b3, _, rfl, rfl, hDict, ⟨[c8], _, b4, _, rfl, rfl, (by simpa only [Own] using hArgs), ⟨rfl, rfl⟩⟩⟩⟩⟩⟩
structure TFrame where
  fCode : Int
  fAt : Int
  fBase : Int
  fSlots : List TValue
def TFrame.enc (x : TFrame) : D := .st [(encI x.fCode), (encI x.fAt), (encI x.fBase), (.sl (x.fSlots.map TValue.enc))]
theorem TFrame.enc_eq (x : TFrame) : x.enc = .st [(encI x.fCode), (encI x.fAt), (encI x.fBase), (.sl (x.fSlots.map TValue.enc))] := rfl
def TFrame.sz (x : TFrame) : Nat := szs TValue.sz x.fSlots
theorem TFrame.sz_eq (x : TFrame) : x.sz = szs TValue.sz x.fSlots := rfl
theorem TFrame.width (x : TFrame) : x.enc.width = 4 := by
  rw [TFrame.enc_eq]; simp only [D.width, D.widths, encI]
theorem TFrame.opn {w : World} {K : Nat → Prop} {x : TFrame} {cs : List Value} (h : Rep w K x.enc cs) :
    ∃ c3 : Value, cs = [.int .i64 x.fCode, .int .i64 x.fAt, .int .i64 x.fBase, c3] ∧ InR x.fCode ∧ InR x.fAt ∧ InR x.fBase ∧ Rep w K (.sl (x.fSlots.map TValue.enc)) [c3] := by
  rw [TFrame.enc_eq] at h
  simp only [Rep, RepS] at h
  obtain ⟨a0, r0, rfl, k0, h⟩ := h
  simp only [encI, Rep] at k0
  obtain ⟨rfl, k0⟩ := k0
  obtain ⟨a1, r1, rfl, k1, h⟩ := h
  simp only [encI, Rep] at k1
  obtain ⟨rfl, k1⟩ := k1
  obtain ⟨a2, r2, rfl, k2, h⟩ := h
  simp only [encI, Rep] at k2
  obtain ⟨rfl, k2⟩ := k2
  obtain ⟨a3, r3, rfl, k3, h⟩ := h
  have l3 := Rep.length _ _ ((by simpa only [Rep] using k3 : Rep w K (.sl (x.fSlots.map TValue.enc)) a3))
  obtain ⟨c3, rfl⟩ := len1 (by simpa [D.width] using l3)
  subst h
  exact ⟨c3, rfl, k0, k1, k2, (by simpa only [Rep] using k3)⟩
theorem TFrame.mk_rep {w : World} {K : Nat → Prop} {x : TFrame} {c3 : Value} (hCode : InR x.fCode) (hAt : InR x.fAt) (hBase : InR x.fBase) (hSlots : Rep w K (.sl (x.fSlots.map TValue.enc)) [c3]) : Rep w K x.enc [.int .i64 x.fCode, .int .i64 x.fAt, .int .i64 x.fBase, c3] := by
  rw [TFrame.enc_eq]
  simp only [Rep, RepS]
  exact ⟨[.int .i64 x.fCode], _, rfl, (repI hCode), ⟨[.int .i64 x.fAt], _, rfl, (repI hAt), ⟨[.int .i64 x.fBase], _, rfl, (repI hBase), ⟨[c3], _, rfl, (by simpa only [Rep] using hSlots), rfl⟩⟩⟩⟩
theorem TFrame.mk_own {w : World} {x : TFrame} {c3 : Value} (hCode : InR x.fCode) (hAt : InR x.fAt) (hBase : InR x.fBase) {b3 : List Nat} (hSlots : Own w (.sl (x.fSlots.map TValue.enc)) [c3] b3) : Own w x.enc [.int .i64 x.fCode, .int .i64 x.fAt, .int .i64 x.fBase, c3] (b3 ++ ([])) := by
  rw [TFrame.enc_eq]
  simp only [Own, OwnS]
  exact ⟨[.int .i64 x.fCode], _, [], _, rfl, rfl, (ownI hCode), ⟨[.int .i64 x.fAt], _, [], _, rfl, rfl, (ownI hAt), ⟨[.int .i64 x.fBase], _, [], _, rfl, rfl, (ownI hBase), ⟨[c3], _, b3, _, rfl, rfl, (by simpa only [Own] using hSlots), ⟨rfl, rfl⟩⟩⟩⟩⟩
structure TVM where
  fStack : List TValue
  fFrames : List TFrame
  fCalls : Int
  fCode : Int
  fDone : Bool
def TVM.enc (x : TVM) : D := .st [(.sl (x.fStack.map TValue.enc)), (.sl (x.fFrames.map TFrame.enc)), (encI x.fCalls), (encI x.fCode), (encB x.fDone)]
theorem TVM.enc_eq (x : TVM) : x.enc = .st [(.sl (x.fStack.map TValue.enc)), (.sl (x.fFrames.map TFrame.enc)), (encI x.fCalls), (encI x.fCode), (encB x.fDone)] := rfl
def TVM.sz (x : TVM) : Nat := szs TValue.sz x.fStack + szs TFrame.sz x.fFrames
theorem TVM.sz_eq (x : TVM) : x.sz = szs TValue.sz x.fStack + szs TFrame.sz x.fFrames := rfl
theorem TVM.width (x : TVM) : x.enc.width = 5 := by
  rw [TVM.enc_eq]; simp only [D.width, D.widths, encI, encB]
theorem TVM.opn {w : World} {K : Nat → Prop} {x : TVM} {cs : List Value} (h : Rep w K x.enc cs) :
    ∃ c0 c1 : Value, cs = [c0, c1, .int .i64 x.fCalls, .int .i64 x.fCode, .bool x.fDone] ∧ Rep w K (.sl (x.fStack.map TValue.enc)) [c0] ∧ Rep w K (.sl (x.fFrames.map TFrame.enc)) [c1] ∧ InR x.fCalls ∧ InR x.fCode := by
  rw [TVM.enc_eq] at h
  simp only [Rep, RepS] at h
  obtain ⟨a0, r0, rfl, k0, h⟩ := h
  have l0 := Rep.length _ _ ((by simpa only [Rep] using k0 : Rep w K (.sl (x.fStack.map TValue.enc)) a0))
  obtain ⟨c0, rfl⟩ := len1 (by simpa [D.width] using l0)
  obtain ⟨a1, r1, rfl, k1, h⟩ := h
  have l1 := Rep.length _ _ ((by simpa only [Rep] using k1 : Rep w K (.sl (x.fFrames.map TFrame.enc)) a1))
  obtain ⟨c1, rfl⟩ := len1 (by simpa [D.width] using l1)
  obtain ⟨a2, r2, rfl, k2, h⟩ := h
  simp only [encI, Rep] at k2
  obtain ⟨rfl, k2⟩ := k2
  obtain ⟨a3, r3, rfl, k3, h⟩ := h
  simp only [encI, Rep] at k3
  obtain ⟨rfl, k3⟩ := k3
  obtain ⟨a4, r4, rfl, k4, h⟩ := h
  simp only [encB, Rep] at k4
  obtain ⟨rfl, k4⟩ := k4
  subst h
  exact ⟨c0, c1, rfl, (by simpa only [Rep] using k0), (by simpa only [Rep] using k1), k2, k3⟩
theorem TVM.mk_rep {w : World} {K : Nat → Prop} {x : TVM} {c0 c1 : Value} (hStack : Rep w K (.sl (x.fStack.map TValue.enc)) [c0]) (hFrames : Rep w K (.sl (x.fFrames.map TFrame.enc)) [c1]) (hCalls : InR x.fCalls) (hCode : InR x.fCode) : Rep w K x.enc [c0, c1, .int .i64 x.fCalls, .int .i64 x.fCode, .bool x.fDone] := by
  rw [TVM.enc_eq]
  simp only [Rep, RepS]
  exact ⟨[c0], _, rfl, (by simpa only [Rep] using hStack), ⟨[c1], _, rfl, (by simpa only [Rep] using hFrames), ⟨[.int .i64 x.fCalls], _, rfl, (repI hCalls), ⟨[.int .i64 x.fCode], _, rfl, (repI hCode), ⟨[.bool x.fDone], _, rfl, (repB _), rfl⟩⟩⟩⟩⟩
theorem TVM.mk_own {w : World} {x : TVM} {c0 c1 : Value} {b0 : List Nat} (hStack : Own w (.sl (x.fStack.map TValue.enc)) [c0] b0) {b1 : List Nat} (hFrames : Own w (.sl (x.fFrames.map TFrame.enc)) [c1] b1) (hCalls : InR x.fCalls) (hCode : InR x.fCode) : Own w x.enc [c0, c1, .int .i64 x.fCalls, .int .i64 x.fCode, .bool x.fDone] (b0 ++ (b1 ++ ([]))) := by
  rw [TVM.enc_eq]
  simp only [Own, OwnS]
  exact ⟨[c0], _, b0, _, rfl, rfl, (by simpa only [Own] using hStack), ⟨[c1], _, b1, _, rfl, rfl, (by simpa only [Own] using hFrames), ⟨[.int .i64 x.fCalls], _, [], _, rfl, rfl, (ownI hCalls), ⟨[.int .i64 x.fCode], _, [], _, rfl, rfl, (ownI hCode), ⟨[.bool x.fDone], _, [], _, rfl, rfl, (ownB _), ⟨rfl, rfl⟩⟩⟩⟩⟩⟩
end Go.Proofs.Ytnlmldgbhdcpbaa
