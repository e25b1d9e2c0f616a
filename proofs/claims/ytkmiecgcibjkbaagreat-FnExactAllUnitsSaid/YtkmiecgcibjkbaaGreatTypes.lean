/- The mirror structures of this program's data, each with its tree, its number of cells, its size, and the two lemmas that take its cells apart and put them together. No condition. -/
import Derived.Test.YtkmiecgcibjkbaaGreatBase
namespace Go.Proofs.YtkmiecgcibjkbaaGreat
open Go.RowKit
structure TInstanceRef where
  fPackage : Int
  fAt : Int
def TInstanceRef.enc (x : TInstanceRef) : D := .st [(encI x.fPackage), (encI x.fAt)]
theorem TInstanceRef.enc_eq (x : TInstanceRef) : x.enc = .st [(encI x.fPackage), (encI x.fAt)] := rfl
theorem TInstanceRef.width (x : TInstanceRef) : x.enc.width = 2 := by
  rw [TInstanceRef.enc_eq]; simp only [D.width, D.widths, encI]
theorem TInstanceRef.opn {w : World} {K : Nat → Prop} {x : TInstanceRef} {cs : List Value} (h : Rep w K x.enc cs) :
    cs = [.int .i64 x.fPackage, .int .i64 x.fAt] ∧ InR x.fPackage ∧ InR x.fAt := by
  rw [TInstanceRef.enc_eq] at h
  simp only [Rep, RepS] at h
  obtain ⟨a0, r0, rfl, k0, h⟩ := h
  simp only [encI, Rep] at k0
  obtain ⟨rfl, k0⟩ := k0
  obtain ⟨a1, r1, rfl, k1, h⟩ := h
  simp only [encI, Rep] at k1
  obtain ⟨rfl, k1⟩ := k1
  subst h
  exact ⟨rfl, k0, k1⟩
theorem TInstanceRef.mk_rep {w : World} {K : Nat → Prop} {x : TInstanceRef} (hPackage : InR x.fPackage) (hAt : InR x.fAt) : Rep w K x.enc [.int .i64 x.fPackage, .int .i64 x.fAt] := by
  rw [TInstanceRef.enc_eq]
  simp only [Rep, RepS]
  exact ⟨[.int .i64 x.fPackage], _, rfl, (repI hPackage), ⟨[.int .i64 x.fAt], _, rfl, (repI hAt), rfl⟩⟩
theorem TInstanceRef.mk_own {w : World} {x : TInstanceRef} (hPackage : InR x.fPackage) (hAt : InR x.fAt) : Own w x.enc [.int .i64 x.fPackage, .int .i64 x.fAt] ([]) := by
  rw [TInstanceRef.enc_eq]
  simp only [Own, OwnS]
  exact ⟨[.int .i64 x.fPackage], _, [], _, rfl, rfl, (ownI hPackage), ⟨[.int .i64 x.fAt], _, [], _, rfl, rfl, (ownI hAt), ⟨rfl, rfl⟩⟩⟩
structure TEvidence where
  fKind : Int
  fN : Int
  fAt : TInstanceRef
  fArgs : List TEvidence
mutual
def TEvidence.enc : TEvidence → D
  | ⟨fKind, fN, fAt, fArgs⟩ => .st [(encI fKind), (encI fN), (TInstanceRef.enc fAt), (.sl (TEvidence.encL fArgs))]
def TEvidence.encL : List TEvidence → List D
  | [] => []
  | x :: l => TEvidence.enc x :: TEvidence.encL l
end
mutual
def TEvidence.sz : TEvidence → Nat
  | ⟨_, _, _, fArgs⟩ => (fArgs.length + TEvidence.szLs fArgs)
def TEvidence.szLs : List TEvidence → Nat
  | [] => 0
  | x :: l => TEvidence.sz x + TEvidence.szLs l
end
theorem TEvidence.encL_eq : ∀ l : List TEvidence, TEvidence.encL l = l.map TEvidence.enc
  | [] => rfl
  | x :: l => by simp only [TEvidence.encL, List.map_cons, TEvidence.encL_eq l]
theorem TEvidence.szLs_eq : ∀ l : List TEvidence, TEvidence.szLs l = szL TEvidence.sz l
  | [] => rfl
  | x :: l => by simp only [TEvidence.szLs, szL, TEvidence.szLs_eq l]
theorem TEvidence.lt_fArgs (x : TEvidence) : SizeOf.sizeOf x.fArgs < SizeOf.sizeOf x := by
  cases x; simp; omega
theorem TEvidence.enc_eq (x : TEvidence) : x.enc = .st [(encI x.fKind), (encI x.fN), (TInstanceRef.enc x.fAt), (.sl (x.fArgs.map TEvidence.enc))] := by
  cases x; simp only [TEvidence.enc, TEvidence.encL_eq]
theorem TEvidence.sz_eq (x : TEvidence) : x.sz = szs TEvidence.sz x.fArgs := by
  cases x; simp only [TEvidence.sz, szs, TEvidence.szLs_eq]
theorem TEvidence.width (x : TEvidence) : x.enc.width = 5 := by
  rw [TEvidence.enc_eq]; simp only [D.width, D.widths, encI, TInstanceRef.width]
theorem TEvidence.opn {w : World} {K : Nat → Prop} {x : TEvidence} {cs : List Value} (h : Rep w K x.enc cs) :
    ∃ c2 c3 c4 : Value, cs = [.int .i64 x.fKind, .int .i64 x.fN, c2, c3, c4] ∧ InR x.fKind ∧ InR x.fN ∧ Rep w K x.fAt.enc [c2, c3] ∧ Rep w K (.sl (x.fArgs.map TEvidence.enc)) [c4] := by
  rw [TEvidence.enc_eq] at h
  simp only [Rep, RepS] at h
  obtain ⟨a0, r0, rfl, k0, h⟩ := h
  simp only [encI, Rep] at k0
  obtain ⟨rfl, k0⟩ := k0
  obtain ⟨a1, r1, rfl, k1, h⟩ := h
  simp only [encI, Rep] at k1
  obtain ⟨rfl, k1⟩ := k1
  obtain ⟨a2, r2, rfl, k2, h⟩ := h
  obtain ⟨c2, c3, rfl⟩ := len2 ((Rep.length _ _ k2).trans (TInstanceRef.width _))
  obtain ⟨a3, r3, rfl, k3, h⟩ := h
  have l3 := Rep.length _ _ ((by simpa only [Rep] using k3 : Rep w K (.sl (x.fArgs.map TEvidence.enc)) a3))
  obtain ⟨c4, rfl⟩ := len1 (by simpa [D.width] using l3)
  subst h
  exact ⟨c2, c3, c4, rfl, k0, k1, k2, (by simpa only [Rep] using k3)⟩
theorem TEvidence.mk_rep {w : World} {K : Nat → Prop} {x : TEvidence} {c2 c3 c4 : Value} (hKind : InR x.fKind) (hN : InR x.fN) (hAt : Rep w K x.fAt.enc [c2, c3]) (hArgs : Rep w K (.sl (x.fArgs.map TEvidence.enc)) [c4]) : Rep w K x.enc [.int .i64 x.fKind, .int .i64 x.fN, c2, c3, c4] := by
  rw [TEvidence.enc_eq]
  simp only [Rep, RepS]
  exact ⟨[.int .i64 x.fKind], _, rfl, (repI hKind), ⟨[.int .i64 x.fN], _, rfl, (repI hN), ⟨[c2, c3], _, rfl, hAt, ⟨[c4], _, rfl, (by simpa only [Rep] using hArgs), rfl⟩⟩⟩⟩
theorem TEvidence.mk_own {w : World} {x : TEvidence} {c2 c3 c4 : Value} (hKind : InR x.fKind) (hN : InR x.fN) {b2 : List Nat} (hAt : Own w x.fAt.enc [c2, c3] b2) {b3 : List Nat} (hArgs : Own w (.sl (x.fArgs.map TEvidence.enc)) [c4] b3) : Own w x.enc [.int .i64 x.fKind, .int .i64 x.fN, c2, c3, c4] (b2 ++ (b3 ++ ([]))) := by
  rw [TEvidence.enc_eq]
  simp only [Own, OwnS]
  exact ⟨[.int .i64 x.fKind], _, [], _, rfl, rfl, (ownI hKind), ⟨[.int .i64 x.fN], _, [], _, rfl, rfl, (ownI hN), ⟨[c2, c3], _, b2, _, rfl, rfl, hAt, ⟨[c4], _, b3, _, rfl, rfl, (by simpa only [Own] using hArgs), ⟨rfl, rfl⟩⟩⟩⟩⟩
structure TType where
  fKind : Int
  fName : ByteArray
  fArgs : List TType
mutual
def TType.enc : TType → D
  | ⟨fKind, fName, fArgs⟩ => .st [(encI fKind), (encS fName), (.sl (TType.encL fArgs))]
def TType.encL : List TType → List D
  | [] => []
  | x :: l => TType.enc x :: TType.encL l
end
mutual
def TType.sz : TType → Nat
  | ⟨_, fName, fArgs⟩ => ByteArray.size fName + (fArgs.length + TType.szLs fArgs)
def TType.szLs : List TType → Nat
  | [] => 0
  | x :: l => TType.sz x + TType.szLs l
end
theorem TType.encL_eq : ∀ l : List TType, TType.encL l = l.map TType.enc
  | [] => rfl
  | x :: l => by simp only [TType.encL, List.map_cons, TType.encL_eq l]
theorem TType.szLs_eq : ∀ l : List TType, TType.szLs l = szL TType.sz l
  | [] => rfl
  | x :: l => by simp only [TType.szLs, szL, TType.szLs_eq l]
theorem TType.lt_fArgs (x : TType) : SizeOf.sizeOf x.fArgs < SizeOf.sizeOf x := by
  cases x; simp; omega
theorem TType.enc_eq (x : TType) : x.enc = .st [(encI x.fKind), (encS x.fName), (.sl (x.fArgs.map TType.enc))] := by
  cases x; simp only [TType.enc, TType.encL_eq]
theorem TType.sz_eq (x : TType) : x.sz = ByteArray.size x.fName + szs TType.sz x.fArgs := by
  cases x; simp only [TType.sz, szs, TType.szLs_eq]
theorem TType.width (x : TType) : x.enc.width = 3 := by
  rw [TType.enc_eq]; simp only [D.width, D.widths, encI, encS]
theorem TType.opn {w : World} {K : Nat → Prop} {x : TType} {cs : List Value} (h : Rep w K x.enc cs) :
    ∃ c2 : Value, cs = [.int .i64 x.fKind, .string x.fName, c2] ∧ InR x.fKind ∧ x.fName.size ≤ maxLen ∧ Rep w K (.sl (x.fArgs.map TType.enc)) [c2] := by
  rw [TType.enc_eq] at h
  simp only [Rep, RepS] at h
  obtain ⟨a0, r0, rfl, k0, h⟩ := h
  simp only [encI, Rep] at k0
  obtain ⟨rfl, k0⟩ := k0
  obtain ⟨a1, r1, rfl, k1, h⟩ := h
  simp only [encS, Rep] at k1
  obtain ⟨rfl, k1⟩ := k1
  obtain ⟨a2, r2, rfl, k2, h⟩ := h
  have l2 := Rep.length _ _ ((by simpa only [Rep] using k2 : Rep w K (.sl (x.fArgs.map TType.enc)) a2))
  obtain ⟨c2, rfl⟩ := len1 (by simpa [D.width] using l2)
  subst h
  exact ⟨c2, rfl, k0, k1, (by simpa only [Rep] using k2)⟩
theorem TType.mk_rep {w : World} {K : Nat → Prop} {x : TType} {c2 : Value} (hKind : InR x.fKind) (hName : x.fName.size ≤ maxLen) (hArgs : Rep w K (.sl (x.fArgs.map TType.enc)) [c2]) : Rep w K x.enc [.int .i64 x.fKind, .string x.fName, c2] := by
  rw [TType.enc_eq]
  simp only [Rep, RepS]
  exact ⟨[.int .i64 x.fKind], _, rfl, (repI hKind), ⟨[.string x.fName], _, rfl, (repS hName), ⟨[c2], _, rfl, (by simpa only [Rep] using hArgs), rfl⟩⟩⟩
theorem TType.mk_own {w : World} {x : TType} {c2 : Value} (hKind : InR x.fKind) (hName : x.fName.size ≤ maxLen) {b2 : List Nat} (hArgs : Own w (.sl (x.fArgs.map TType.enc)) [c2] b2) : Own w x.enc [.int .i64 x.fKind, .string x.fName, c2] (b2 ++ ([])) := by
  rw [TType.enc_eq]
  simp only [Own, OwnS]
  exact ⟨[.int .i64 x.fKind], _, [], _, rfl, rfl, (ownI hKind), ⟨[.string x.fName], _, [], _, rfl, rfl, (ownS hName), ⟨[c2], _, b2, _, rfl, rfl, (by simpa only [Own] using hArgs), ⟨rfl, rfl⟩⟩⟩⟩
structure TBinding where
  fVar : ByteArray
  fType : TType
def TBinding.enc (x : TBinding) : D := .st [(encS x.fVar), (TType.enc x.fType)]
theorem TBinding.enc_eq (x : TBinding) : x.enc = .st [(encS x.fVar), (TType.enc x.fType)] := rfl
def TBinding.sz (x : TBinding) : Nat := ByteArray.size x.fVar + TType.sz x.fType
theorem TBinding.sz_eq (x : TBinding) : x.sz = ByteArray.size x.fVar + TType.sz x.fType := rfl
theorem TBinding.width (x : TBinding) : x.enc.width = 4 := by
  rw [TBinding.enc_eq]; simp only [D.width, D.widths, encS, TType.width]
theorem TBinding.opn {w : World} {K : Nat → Prop} {x : TBinding} {cs : List Value} (h : Rep w K x.enc cs) :
    ∃ c1 c2 c3 : Value, cs = [.string x.fVar, c1, c2, c3] ∧ x.fVar.size ≤ maxLen ∧ Rep w K x.fType.enc [c1, c2, c3] := by
  rw [TBinding.enc_eq] at h
  simp only [Rep, RepS] at h
  obtain ⟨a0, r0, rfl, k0, h⟩ := h
  simp only [encS, Rep] at k0
  obtain ⟨rfl, k0⟩ := k0
  obtain ⟨a1, r1, rfl, k1, h⟩ := h
  obtain ⟨c1, c2, c3, rfl⟩ := len3 ((Rep.length _ _ k1).trans (TType.width _))
  subst h
  exact ⟨c1, c2, c3, rfl, k0, k1⟩
theorem TBinding.mk_rep {w : World} {K : Nat → Prop} {x : TBinding} {c1 c2 c3 : Value} (hVar : x.fVar.size ≤ maxLen) (hType : Rep w K x.fType.enc [c1, c2, c3]) : Rep w K x.enc [.string x.fVar, c1, c2, c3] := by
  rw [TBinding.enc_eq]
  simp only [Rep, RepS]
  exact ⟨[.string x.fVar], _, rfl, (repS hVar), ⟨[c1, c2, c3], _, rfl, hType, rfl⟩⟩
theorem TBinding.mk_own {w : World} {x : TBinding} {c1 c2 c3 : Value} (hVar : x.fVar.size ≤ maxLen) {b1 : List Nat} (hType : Own w x.fType.enc [c1, c2, c3] b1) : Own w x.enc [.string x.fVar, c1, c2, c3] (b1 ++ ([])) := by
  rw [TBinding.enc_eq]
  simp only [Own, OwnS]
  exact ⟨[.string x.fVar], _, [], _, rfl, rfl, (ownS hVar), ⟨[c1, c2, c3], _, b1, _, rfl, rfl, hType, ⟨rfl, rfl⟩⟩⟩
structure TBound where
  fTrait : ByteArray
  fType : TType
def TBound.enc (x : TBound) : D := .st [(encS x.fTrait), (TType.enc x.fType)]
theorem TBound.enc_eq (x : TBound) : x.enc = .st [(encS x.fTrait), (TType.enc x.fType)] := rfl
def TBound.sz (x : TBound) : Nat := ByteArray.size x.fTrait + TType.sz x.fType
theorem TBound.sz_eq (x : TBound) : x.sz = ByteArray.size x.fTrait + TType.sz x.fType := rfl
theorem TBound.width (x : TBound) : x.enc.width = 4 := by
  rw [TBound.enc_eq]; simp only [D.width, D.widths, encS, TType.width]
theorem TBound.opn {w : World} {K : Nat → Prop} {x : TBound} {cs : List Value} (h : Rep w K x.enc cs) :
    ∃ c1 c2 c3 : Value, cs = [.string x.fTrait, c1, c2, c3] ∧ x.fTrait.size ≤ maxLen ∧ Rep w K x.fType.enc [c1, c2, c3] := by
  rw [TBound.enc_eq] at h
  simp only [Rep, RepS] at h
  obtain ⟨a0, r0, rfl, k0, h⟩ := h
  simp only [encS, Rep] at k0
  obtain ⟨rfl, k0⟩ := k0
  obtain ⟨a1, r1, rfl, k1, h⟩ := h
  obtain ⟨c1, c2, c3, rfl⟩ := len3 ((Rep.length _ _ k1).trans (TType.width _))
  subst h
  exact ⟨c1, c2, c3, rfl, k0, k1⟩
theorem TBound.mk_rep {w : World} {K : Nat → Prop} {x : TBound} {c1 c2 c3 : Value} (hTrait : x.fTrait.size ≤ maxLen) (hType : Rep w K x.fType.enc [c1, c2, c3]) : Rep w K x.enc [.string x.fTrait, c1, c2, c3] := by
  rw [TBound.enc_eq]
  simp only [Rep, RepS]
  exact ⟨[.string x.fTrait], _, rfl, (repS hTrait), ⟨[c1, c2, c3], _, rfl, hType, rfl⟩⟩
theorem TBound.mk_own {w : World} {x : TBound} {c1 c2 c3 : Value} (hTrait : x.fTrait.size ≤ maxLen) {b1 : List Nat} (hType : Own w x.fType.enc [c1, c2, c3] b1) : Own w x.enc [.string x.fTrait, c1, c2, c3] (b1 ++ ([])) := by
  rw [TBound.enc_eq]
  simp only [Own, OwnS]
  exact ⟨[.string x.fTrait], _, [], _, rfl, rfl, (ownS hTrait), ⟨[c1, c2, c3], _, b1, _, rfl, rfl, hType, ⟨rfl, rfl⟩⟩⟩
mutual
structure TCoreArm where
  fConstructor : ByteArray
  fVars : List ByteArray
  fBody : TCore
structure TCore where
  fKind : Int
  fTrait : ByteArray
  fName : ByteArray
  fN : Int
  fType : TType
  fTypeArgs : List TType
  fEvidence : List TEvidence
  fArgs : List TCore
  fArms : List TCoreArm
end
mutual
def TCoreArm.enc : TCoreArm → D
  | ⟨fConstructor, fVars, fBody⟩ => .st [(encS fConstructor), (.sl (fVars.map encS)), (TCore.enc fBody)]
def TCore.enc : TCore → D
  | ⟨fKind, fTrait, fName, fN, fType, fTypeArgs, fEvidence, fArgs, fArms⟩ => .st [(encI fKind), (encS fTrait), (encS fName), (encI fN), (TType.enc fType), (.sl (fTypeArgs.map TType.enc)), (.sl (fEvidence.map TEvidence.enc)), (.sl (TCore.encL fArgs)), (.sl (TCoreArm.encL fArms))]
def TCoreArm.encL : List TCoreArm → List D
  | [] => []
  | x :: l => TCoreArm.enc x :: TCoreArm.encL l
def TCore.encL : List TCore → List D
  | [] => []
  | x :: l => TCore.enc x :: TCore.encL l
end
mutual
def TCoreArm.sz : TCoreArm → Nat
  | ⟨fConstructor, fVars, fBody⟩ => ByteArray.size fConstructor + szs ByteArray.size fVars + TCore.sz fBody
def TCore.sz : TCore → Nat
  | ⟨_, fTrait, fName, _, fType, fTypeArgs, fEvidence, fArgs, fArms⟩ => ByteArray.size fTrait + ByteArray.size fName + TType.sz fType + szs TType.sz fTypeArgs + szs TEvidence.sz fEvidence + (fArgs.length + TCore.szLs fArgs) + (fArms.length + TCoreArm.szLs fArms)
def TCoreArm.szLs : List TCoreArm → Nat
  | [] => 0
  | x :: l => TCoreArm.sz x + TCoreArm.szLs l
def TCore.szLs : List TCore → Nat
  | [] => 0
  | x :: l => TCore.sz x + TCore.szLs l
end
theorem TCoreArm.encL_eq : ∀ l : List TCoreArm, TCoreArm.encL l = l.map TCoreArm.enc
  | [] => rfl
  | x :: l => by simp only [TCoreArm.encL, List.map_cons, TCoreArm.encL_eq l]
theorem TCoreArm.szLs_eq : ∀ l : List TCoreArm, TCoreArm.szLs l = szL TCoreArm.sz l
  | [] => rfl
  | x :: l => by simp only [TCoreArm.szLs, szL, TCoreArm.szLs_eq l]
theorem TCore.encL_eq : ∀ l : List TCore, TCore.encL l = l.map TCore.enc
  | [] => rfl
  | x :: l => by simp only [TCore.encL, List.map_cons, TCore.encL_eq l]
theorem TCore.szLs_eq : ∀ l : List TCore, TCore.szLs l = szL TCore.sz l
  | [] => rfl
  | x :: l => by simp only [TCore.szLs, szL, TCore.szLs_eq l]
theorem TCoreArm.lt_fBody (x : TCoreArm) : SizeOf.sizeOf x.fBody < SizeOf.sizeOf x := by
  cases x; simp; omega
theorem TCore.lt_fArgs (x : TCore) : SizeOf.sizeOf x.fArgs < SizeOf.sizeOf x := by
  cases x; simp; omega
theorem TCore.lt_fArms (x : TCore) : SizeOf.sizeOf x.fArms < SizeOf.sizeOf x := by
  cases x; simp; omega
theorem TCoreArm.enc_eq (x : TCoreArm) : x.enc = .st [(encS x.fConstructor), (.sl (x.fVars.map encS)), (TCore.enc x.fBody)] := by
  cases x; simp only [TCoreArm.enc]
theorem TCoreArm.sz_eq (x : TCoreArm) : x.sz = ByteArray.size x.fConstructor + szs ByteArray.size x.fVars + TCore.sz x.fBody := by
  cases x; simp only [TCoreArm.sz, szs]
theorem TCore.enc_eq (x : TCore) : x.enc = .st [(encI x.fKind), (encS x.fTrait), (encS x.fName), (encI x.fN), (TType.enc x.fType), (.sl (x.fTypeArgs.map TType.enc)), (.sl (x.fEvidence.map TEvidence.enc)), (.sl (x.fArgs.map TCore.enc)), (.sl (x.fArms.map TCoreArm.enc))] := by
  cases x; simp only [TCore.enc, TCore.encL_eq, TCoreArm.encL_eq]
theorem TCore.sz_eq (x : TCore) : x.sz = ByteArray.size x.fTrait + ByteArray.size x.fName + TType.sz x.fType + szs TType.sz x.fTypeArgs + szs TEvidence.sz x.fEvidence + szs TCore.sz x.fArgs + szs TCoreArm.sz x.fArms := by
  cases x; simp only [TCore.sz, szs, TCore.szLs_eq, TCoreArm.szLs_eq]
theorem TCore.width (x : TCore) : x.enc.width = 11 := by
  rw [TCore.enc_eq]; simp only [D.width, D.widths, encI, encS, TType.width]
theorem TCore.opn {w : World} {K : Nat → Prop} {x : TCore} {cs : List Value} (h : Rep w K x.enc cs) :
    ∃ c4 c5 c6 c7 c8 c9 c10 : Value, cs = [.int .i64 x.fKind, .string x.fTrait, .string x.fName, .int .i64 x.fN, c4, c5, c6, c7, c8, c9, c10] ∧ InR x.fKind ∧ x.fTrait.size ≤ maxLen ∧ x.fName.size ≤ maxLen ∧ InR x.fN ∧ Rep w K x.fType.enc [c4, c5, c6] ∧ Rep w K (.sl (x.fTypeArgs.map TType.enc)) [c7] ∧ Rep w K (.sl (x.fEvidence.map TEvidence.enc)) [c8] ∧ Rep w K (.sl (x.fArgs.map TCore.enc)) [c9] ∧ Rep w K (.sl (x.fArms.map TCoreArm.enc)) [c10] := by
  rw [TCore.enc_eq] at h
  simp only [Rep, RepS] at h
  obtain ⟨a0, r0, rfl, k0, h⟩ := h
  simp only [encI, Rep] at k0
  obtain ⟨rfl, k0⟩ := k0
  obtain ⟨a1, r1, rfl, k1, h⟩ := h
  simp only [encS, Rep] at k1
  obtain ⟨rfl, k1⟩ := k1
  obtain ⟨a2, r2, rfl, k2, h⟩ := h
  simp only [encS, Rep] at k2
  obtain ⟨rfl, k2⟩ := k2
  obtain ⟨a3, r3, rfl, k3, h⟩ := h
  simp only [encI, Rep] at k3
  obtain ⟨rfl, k3⟩ := k3
  obtain ⟨a4, r4, rfl, k4, h⟩ := h
  obtain ⟨c4, c5, c6, rfl⟩ := len3 ((Rep.length _ _ k4).trans (TType.width _))
  obtain ⟨a5, r5, rfl, k5, h⟩ := h
  have l5 := Rep.length _ _ ((by simpa only [Rep] using k5 : Rep w K (.sl (x.fTypeArgs.map TType.enc)) a5))
  obtain ⟨c7, rfl⟩ := len1 (by simpa [D.width] using l5)
  obtain ⟨a6, r6, rfl, k6, h⟩ := h
  have l6 := Rep.length _ _ ((by simpa only [Rep] using k6 : Rep w K (.sl (x.fEvidence.map TEvidence.enc)) a6))
  obtain ⟨c8, rfl⟩ := len1 (by simpa [D.width] using l6)
  obtain ⟨a7, r7, rfl, k7, h⟩ := h
  have l7 := Rep.length _ _ ((by simpa only [Rep] using k7 : Rep w K (.sl (x.fArgs.map TCore.enc)) a7))
  obtain ⟨c9, rfl⟩ := len1 (by simpa [D.width] using l7)
  obtain ⟨a8, r8, rfl, k8, h⟩ := h
  have l8 := Rep.length _ _ ((by simpa only [Rep] using k8 : Rep w K (.sl (x.fArms.map TCoreArm.enc)) a8))
  obtain ⟨c10, rfl⟩ := len1 (by simpa [D.width] using l8)
  subst h
  exact ⟨c4, c5, c6, c7, c8, c9, c10, rfl, k0, k1, k2, k3, k4, (by simpa only [Rep] using k5), (by simpa only [Rep] using k6), (by simpa only [Rep] using k7), (by simpa only [Rep] using k8)⟩
theorem TCore.mk_rep {w : World} {K : Nat → Prop} {x : TCore} {c4 c5 c6 c7 c8 c9 c10 : Value} (hKind : InR x.fKind) (hTrait : x.fTrait.size ≤ maxLen) (hName : x.fName.size ≤ maxLen) (hN : InR x.fN) (hType : Rep w K x.fType.enc [c4, c5, c6]) (hTypeArgs : Rep w K (.sl (x.fTypeArgs.map TType.enc)) [c7]) (hEvidence : Rep w K (.sl (x.fEvidence.map TEvidence.enc)) [c8]) (hArgs : Rep w K (.sl (x.fArgs.map TCore.enc)) [c9]) (hArms : Rep w K (.sl (x.fArms.map TCoreArm.enc)) [c10]) : Rep w K x.enc [.int .i64 x.fKind, .string x.fTrait, .string x.fName, .int .i64 x.fN, c4, c5, c6, c7, c8, c9, c10] := by
  rw [TCore.enc_eq]
  simp only [Rep, RepS]
  exact ⟨[.int .i64 x.fKind], _, rfl, (repI hKind), ⟨[.string x.fTrait], _, rfl, (repS hTrait), ⟨[.string x.fName], _, rfl, (repS hName), ⟨[.int .i64 x.fN], _, rfl, (repI hN), ⟨[c4, c5, c6], _, rfl, hType, ⟨[c7], _, rfl, (by simpa only [Rep] using hTypeArgs), ⟨[c8], _, rfl, (by simpa only [Rep] using hEvidence), ⟨[c9], _, rfl, (by simpa only [Rep] using hArgs), ⟨[c10], _, rfl, (by simpa only [Rep] using hArms), rfl⟩⟩⟩⟩⟩⟩⟩⟩⟩
theorem TCore.mk_own {w : World} {x : TCore} {c4 c5 c6 c7 c8 c9 c10 : Value} (hKind : InR x.fKind) (hTrait : x.fTrait.size ≤ maxLen) (hName : x.fName.size ≤ maxLen) (hN : InR x.fN) {b4 : List Nat} (hType : Own w x.fType.enc [c4, c5, c6] b4) {b5 : List Nat} (hTypeArgs : Own w (.sl (x.fTypeArgs.map TType.enc)) [c7] b5) {b6 : List Nat} (hEvidence : Own w (.sl (x.fEvidence.map TEvidence.enc)) [c8] b6) {b7 : List Nat} (hArgs : Own w (.sl (x.fArgs.map TCore.enc)) [c9] b7) {b8 : List Nat} (hArms : Own w (.sl (x.fArms.map TCoreArm.enc)) [c10] b8) : Own w x.enc [.int .i64 x.fKind, .string x.fTrait, .string x.fName, .int .i64 x.fN, c4, c5, c6, c7, c8, c9, c10] (b4 ++ (b5 ++ (b6 ++ (b7 ++ (b8 ++ ([])))))) := by
  rw [TCore.enc_eq]
  simp only [Own, OwnS]
  exact ⟨[.int .i64 x.fKind], _, [], _, rfl, rfl, (ownI hKind), ⟨[.string x.fTrait], _, [], _, rfl, rfl, (ownS hTrait), ⟨[.string x.fName], _, [], _, rfl, rfl, (ownS hName), ⟨[.int .i64 x.fN], _, [], _, rfl, rfl, (ownI hN), ⟨[c4, c5, c6], _, b4, _, rfl, rfl, hType, ⟨[c7], _, b5, _, rfl, rfl, (by simpa only [Own] using hTypeArgs), ⟨[c8], _, b6, _, rfl, rfl, (by simpa only [Own] using hEvidence), ⟨[c9], _, b7, _, rfl, rfl, (by simpa only [Own] using hArgs), ⟨[c10], _, b8, _, rfl, rfl, (by simpa only [Own] using hArms), ⟨rfl, rfl⟩⟩⟩⟩⟩⟩⟩⟩⟩⟩
theorem TCoreArm.width (x : TCoreArm) : x.enc.width = 13 := by
  rw [TCoreArm.enc_eq]; simp only [D.width, D.widths, encS, TCore.width]
theorem TCoreArm.opn {w : World} {K : Nat → Prop} {x : TCoreArm} {cs : List Value} (h : Rep w K x.enc cs) :
    ∃ c1 c2 c3 c4 c5 c6 c7 c8 c9 c10 c11 c12 : Value, cs = [.string x.fConstructor, c1, c2, c3, c4, c5, c6, c7, c8, c9, c10, c11, c12] ∧ x.fConstructor.size ≤ maxLen ∧ Rep w K (.sl (x.fVars.map encS)) [c1] ∧ Rep w K x.fBody.enc [c2, c3, c4, c5, c6, c7, c8, c9, c10, c11, c12] := by
  rw [TCoreArm.enc_eq] at h
  simp only [Rep, RepS] at h
  obtain ⟨a0, r0, rfl, k0, h⟩ := h
  simp only [encS, Rep] at k0
  obtain ⟨rfl, k0⟩ := k0
  obtain ⟨a1, r1, rfl, k1, h⟩ := h
  have l1 := Rep.length _ _ ((by simpa only [Rep] using k1 : Rep w K (.sl (x.fVars.map encS)) a1))
  obtain ⟨c1, rfl⟩ := len1 (by simpa [D.width] using l1)
  obtain ⟨a2, r2, rfl, k2, h⟩ := h
  obtain ⟨c2, c3, c4, c5, c6, c7, c8, c9, c10, c11, c12, rfl⟩ := len11 ((Rep.length _ _ k2).trans (TCore.width _))
  subst h
  exact ⟨c1, c2, c3, c4, c5, c6, c7, c8, c9, c10, c11, c12, rfl, k0, (by simpa only [Rep] using k1), k2⟩
theorem TCoreArm.mk_rep {w : World} {K : Nat → Prop} {x : TCoreArm} {c1 c2 c3 c4 c5 c6 c7 c8 c9 c10 c11 c12 : Value} (hConstructor : x.fConstructor.size ≤ maxLen) (hVars : Rep w K (.sl (x.fVars.map encS)) [c1]) (hBody : Rep w K x.fBody.enc [c2, c3, c4, c5, c6, c7, c8, c9, c10, c11, c12]) : Rep w K x.enc [.string x.fConstructor, c1, c2, c3, c4, c5, c6, c7, c8, c9, c10, c11, c12] := by
  rw [TCoreArm.enc_eq]
  simp only [Rep, RepS]
  exact ⟨[.string x.fConstructor], _, rfl, (repS hConstructor), ⟨[c1], _, rfl, (by simpa only [Rep] using hVars), ⟨[c2, c3, c4, c5, c6, c7, c8, c9, c10, c11, c12], _, rfl, hBody, rfl⟩⟩⟩
theorem TCoreArm.mk_own {w : World} {x : TCoreArm} {c1 c2 c3 c4 c5 c6 c7 c8 c9 c10 c11 c12 : Value} (hConstructor : x.fConstructor.size ≤ maxLen) {b1 : List Nat} (hVars : Own w (.sl (x.fVars.map encS)) [c1] b1) {b2 : List Nat} (hBody : Own w x.fBody.enc [c2, c3, c4, c5, c6, c7, c8, c9, c10, c11, c12] b2) : Own w x.enc [.string x.fConstructor, c1, c2, c3, c4, c5, c6, c7, c8, c9, c10, c11, c12] (b1 ++ (b2 ++ ([]))) := by
  rw [TCoreArm.enc_eq]
  simp only [Own, OwnS]
  exact ⟨[.string x.fConstructor], _, [], _, rfl, rfl, (ownS hConstructor), ⟨[c1], _, b1, _, rfl, rfl, (by simpa only [Own] using hVars), ⟨[c2, c3, c4, c5, c6, c7, c8, c9, c10, c11, c12], _, b2, _, rfl, rfl, hBody, ⟨rfl, rfl⟩⟩⟩⟩
structure TParam where
  fName : ByteArray
  fType : TType
def TParam.enc (x : TParam) : D := .st [(encS x.fName), (TType.enc x.fType)]
theorem TParam.enc_eq (x : TParam) : x.enc = .st [(encS x.fName), (TType.enc x.fType)] := rfl
def TParam.sz (x : TParam) : Nat := ByteArray.size x.fName + TType.sz x.fType
theorem TParam.sz_eq (x : TParam) : x.sz = ByteArray.size x.fName + TType.sz x.fType := rfl
theorem TParam.width (x : TParam) : x.enc.width = 4 := by
  rw [TParam.enc_eq]; simp only [D.width, D.widths, encS, TType.width]
theorem TParam.opn {w : World} {K : Nat → Prop} {x : TParam} {cs : List Value} (h : Rep w K x.enc cs) :
    ∃ c1 c2 c3 : Value, cs = [.string x.fName, c1, c2, c3] ∧ x.fName.size ≤ maxLen ∧ Rep w K x.fType.enc [c1, c2, c3] := by
  rw [TParam.enc_eq] at h
  simp only [Rep, RepS] at h
  obtain ⟨a0, r0, rfl, k0, h⟩ := h
  simp only [encS, Rep] at k0
  obtain ⟨rfl, k0⟩ := k0
  obtain ⟨a1, r1, rfl, k1, h⟩ := h
  obtain ⟨c1, c2, c3, rfl⟩ := len3 ((Rep.length _ _ k1).trans (TType.width _))
  subst h
  exact ⟨c1, c2, c3, rfl, k0, k1⟩
theorem TParam.mk_rep {w : World} {K : Nat → Prop} {x : TParam} {c1 c2 c3 : Value} (hName : x.fName.size ≤ maxLen) (hType : Rep w K x.fType.enc [c1, c2, c3]) : Rep w K x.enc [.string x.fName, c1, c2, c3] := by
  rw [TParam.enc_eq]
  simp only [Rep, RepS]
  exact ⟨[.string x.fName], _, rfl, (repS hName), ⟨[c1, c2, c3], _, rfl, hType, rfl⟩⟩
theorem TParam.mk_own {w : World} {x : TParam} {c1 c2 c3 : Value} (hName : x.fName.size ≤ maxLen) {b1 : List Nat} (hType : Own w x.fType.enc [c1, c2, c3] b1) : Own w x.enc [.string x.fName, c1, c2, c3] (b1 ++ ([])) := by
  rw [TParam.enc_eq]
  simp only [Own, OwnS]
  exact ⟨[.string x.fName], _, [], _, rfl, rfl, (ownS hName), ⟨[c1, c2, c3], _, b1, _, rfl, rfl, hType, ⟨rfl, rfl⟩⟩⟩
structure TUnit where
  fKind : Int
  fPackage : Int
  fAt : Int
  fSub : Int
  fVars : List ByteArray
  fWhere : List TBound
  fParams : List TParam
  fResult : TType
  fBody : TCore
def TUnit.enc (x : TUnit) : D := .st [(encI x.fKind), (encI x.fPackage), (encI x.fAt), (encI x.fSub), (.sl (x.fVars.map encS)), (.sl (x.fWhere.map TBound.enc)), (.sl (x.fParams.map TParam.enc)), (TType.enc x.fResult), (TCore.enc x.fBody)]
theorem TUnit.enc_eq (x : TUnit) : x.enc = .st [(encI x.fKind), (encI x.fPackage), (encI x.fAt), (encI x.fSub), (.sl (x.fVars.map encS)), (.sl (x.fWhere.map TBound.enc)), (.sl (x.fParams.map TParam.enc)), (TType.enc x.fResult), (TCore.enc x.fBody)] := rfl
def TUnit.sz (x : TUnit) : Nat := szs ByteArray.size x.fVars + szs TBound.sz x.fWhere + szs TParam.sz x.fParams + TType.sz x.fResult + TCore.sz x.fBody
theorem TUnit.sz_eq (x : TUnit) : x.sz = szs ByteArray.size x.fVars + szs TBound.sz x.fWhere + szs TParam.sz x.fParams + TType.sz x.fResult + TCore.sz x.fBody := rfl
theorem TUnit.width (x : TUnit) : x.enc.width = 21 := by
  rw [TUnit.enc_eq]; simp only [D.width, D.widths, encI, TCore.width, TType.width]
theorem TUnit.opn {w : World} {K : Nat → Prop} {x : TUnit} {cs : List Value} (h : Rep w K x.enc cs) :
    ∃ c4 c5 c6 c7 c8 c9 c10 c11 c12 c13 c14 c15 c16 c17 c18 c19 c20 : Value, cs = [.int .i64 x.fKind, .int .i64 x.fPackage, .int .i64 x.fAt, .int .i64 x.fSub, c4, c5, c6, c7, c8, c9, c10, c11, c12, c13, c14, c15, c16, c17, c18, c19, c20] ∧ InR x.fKind ∧ InR x.fPackage ∧ InR x.fAt ∧ InR x.fSub ∧ Rep w K (.sl (x.fVars.map encS)) [c4] ∧ Rep w K (.sl (x.fWhere.map TBound.enc)) [c5] ∧ Rep w K (.sl (x.fParams.map TParam.enc)) [c6] ∧ Rep w K x.fResult.enc [c7, c8, c9] ∧ Rep w K x.fBody.enc [c10, c11, c12, c13, c14, c15, c16, c17, c18, c19, c20] := by
  rw [TUnit.enc_eq] at h
  simp only [Rep, RepS] at h
  obtain ⟨a0, r0, rfl, k0, h⟩ := h
  simp only [encI, Rep] at k0
  obtain ⟨rfl, k0⟩ := k0
  obtain ⟨a1, r1, rfl, k1, h⟩ := h
  simp only [encI, Rep] at k1
  obtain ⟨rfl, k1⟩ := k1
  obtain ⟨a2, r2, rfl, k2, h⟩ := h
  simp only [encI, Rep] at k2
  obtain ⟨rfl, k2⟩ := k2
  obtain ⟨a3, r3, rfl, k3, h⟩ := h
  simp only [encI, Rep] at k3
  obtain ⟨rfl, k3⟩ := k3
  obtain ⟨a4, r4, rfl, k4, h⟩ := h
  have l4 := Rep.length _ _ ((by simpa only [Rep] using k4 : Rep w K (.sl (x.fVars.map encS)) a4))
  obtain ⟨c4, rfl⟩ := len1 (by simpa [D.width] using l4)
  obtain ⟨a5, r5, rfl, k5, h⟩ := h
  have l5 := Rep.length _ _ ((by simpa only [Rep] using k5 : Rep w K (.sl (x.fWhere.map TBound.enc)) a5))
  obtain ⟨c5, rfl⟩ := len1 (by simpa [D.width] using l5)
  obtain ⟨a6, r6, rfl, k6, h⟩ := h
  have l6 := Rep.length _ _ ((by simpa only [Rep] using k6 : Rep w K (.sl (x.fParams.map TParam.enc)) a6))
  obtain ⟨c6, rfl⟩ := len1 (by simpa [D.width] using l6)
  obtain ⟨a7, r7, rfl, k7, h⟩ := h
  obtain ⟨c7, c8, c9, rfl⟩ := len3 ((Rep.length _ _ k7).trans (TType.width _))
  obtain ⟨a8, r8, rfl, k8, h⟩ := h
  obtain ⟨c10, c11, c12, c13, c14, c15, c16, c17, c18, c19, c20, rfl⟩ := len11 ((Rep.length _ _ k8).trans (TCore.width _))
  subst h
  exact ⟨c4, c5, c6, c7, c8, c9, c10, c11, c12, c13, c14, c15, c16, c17, c18, c19, c20, rfl, k0, k1, k2, k3, (by simpa only [Rep] using k4), (by simpa only [Rep] using k5), (by simpa only [Rep] using k6), k7, k8⟩
theorem TUnit.mk_rep {w : World} {K : Nat → Prop} {x : TUnit} {c4 c5 c6 c7 c8 c9 c10 c11 c12 c13 c14 c15 c16 c17 c18 c19 c20 : Value} (hKind : InR x.fKind) (hPackage : InR x.fPackage) (hAt : InR x.fAt) (hSub : InR x.fSub) (hVars : Rep w K (.sl (x.fVars.map encS)) [c4]) (hWhere : Rep w K (.sl (x.fWhere.map TBound.enc)) [c5]) (hParams : Rep w K (.sl (x.fParams.map TParam.enc)) [c6]) (hResult : Rep w K x.fResult.enc [c7, c8, c9]) (hBody : Rep w K x.fBody.enc [c10, c11, c12, c13, c14, c15, c16, c17, c18, c19, c20]) : Rep w K x.enc [.int .i64 x.fKind, .int .i64 x.fPackage, .int .i64 x.fAt, .int .i64 x.fSub, c4, c5, c6, c7, c8, c9, c10, c11, c12, c13, c14, c15, c16, c17, c18, c19, c20] := by
  rw [TUnit.enc_eq]
  simp only [Rep, RepS]
  exact ⟨[.int .i64 x.fKind], _, rfl, (repI hKind), ⟨[.int .i64 x.fPackage], _, rfl, (repI hPackage), ⟨[.int .i64 x.fAt], _, rfl, (repI hAt), ⟨[.int .i64 x.fSub], _, rfl, (repI hSub), ⟨[c4], _, rfl, (by simpa only [Rep] using hVars), ⟨[c5], _, rfl, (by simpa only [Rep] using hWhere), ⟨[c6], _, rfl, (by simpa only [Rep] using hParams), ⟨[c7, c8, c9], _, rfl, hResult, ⟨[c10, c11, c12, c13, c14, c15, c16, c17, c18, c19, c20], _, rfl, hBody, rfl⟩⟩⟩⟩⟩⟩⟩⟩⟩
theorem TUnit.mk_own {w : World} {x : TUnit} {c4 c5 c6 c7 c8 c9 c10 c11 c12 c13 c14 c15 c16 c17 c18 c19 c20 : Value} (hKind : InR x.fKind) (hPackage : InR x.fPackage) (hAt : InR x.fAt) (hSub : InR x.fSub) {b4 : List Nat} (hVars : Own w (.sl (x.fVars.map encS)) [c4] b4) {b5 : List Nat} (hWhere : Own w (.sl (x.fWhere.map TBound.enc)) [c5] b5) {b6 : List Nat} (hParams : Own w (.sl (x.fParams.map TParam.enc)) [c6] b6) {b7 : List Nat} (hResult : Own w x.fResult.enc [c7, c8, c9] b7) {b8 : List Nat} (hBody : Own w x.fBody.enc [c10, c11, c12, c13, c14, c15, c16, c17, c18, c19, c20] b8) : Own w x.enc [.int .i64 x.fKind, .int .i64 x.fPackage, .int .i64 x.fAt, .int .i64 x.fSub, c4, c5, c6, c7, c8, c9, c10, c11, c12, c13, c14, c15, c16, c17, c18, c19, c20] (b4 ++ (b5 ++ (b6 ++ (b7 ++ (b8 ++ ([])))))) := by
  rw [TUnit.enc_eq]
  simp only [Own, OwnS]
  exact ⟨[.int .i64 x.fKind], _, [], _, rfl, rfl, (ownI hKind), ⟨[.int .i64 x.fPackage], _, [], _, rfl, rfl, (ownI hPackage), ⟨[.int .i64 x.fAt], _, [], _, rfl, rfl, (ownI hAt), ⟨[.int .i64 x.fSub], _, [], _, rfl, rfl, (ownI hSub), ⟨[c4], _, b4, _, rfl, rfl, (by simpa only [Own] using hVars), ⟨[c5], _, b5, _, rfl, rfl, (by simpa only [Own] using hWhere), ⟨[c6], _, b6, _, rfl, rfl, (by simpa only [Own] using hParams), ⟨[c7, c8, c9], _, b7, _, rfl, rfl, hResult, ⟨[c10, c11, c12, c13, c14, c15, c16, c17, c18, c19, c20], _, b8, _, rfl, rfl, hBody, ⟨rfl, rfl⟩⟩⟩⟩⟩⟩⟩⟩⟩⟩
structure TUnitError where
  fKind : Int
  fPackage : Int
  fAt : Int
  fSub : Int
  fCode : Int
  fNode : Int
def TUnitError.enc (x : TUnitError) : D := .st [(encI x.fKind), (encI x.fPackage), (encI x.fAt), (encI x.fSub), (encI x.fCode), (encI x.fNode)]
theorem TUnitError.enc_eq (x : TUnitError) : x.enc = .st [(encI x.fKind), (encI x.fPackage), (encI x.fAt), (encI x.fSub), (encI x.fCode), (encI x.fNode)] := rfl
theorem TUnitError.width (x : TUnitError) : x.enc.width = 6 := by
  rw [TUnitError.enc_eq]; simp only [D.width, D.widths, encI]
theorem TUnitError.opn {w : World} {K : Nat → Prop} {x : TUnitError} {cs : List Value} (h : Rep w K x.enc cs) :
    cs = [.int .i64 x.fKind, .int .i64 x.fPackage, .int .i64 x.fAt, .int .i64 x.fSub, .int .i64 x.fCode, .int .i64 x.fNode] ∧ InR x.fKind ∧ InR x.fPackage ∧ InR x.fAt ∧ InR x.fSub ∧ InR x.fCode ∧ InR x.fNode := by
  rw [TUnitError.enc_eq] at h
  simp only [Rep, RepS] at h
  obtain ⟨a0, r0, rfl, k0, h⟩ := h
  simp only [encI, Rep] at k0
  obtain ⟨rfl, k0⟩ := k0
  obtain ⟨a1, r1, rfl, k1, h⟩ := h
  simp only [encI, Rep] at k1
  obtain ⟨rfl, k1⟩ := k1
  obtain ⟨a2, r2, rfl, k2, h⟩ := h
  simp only [encI, Rep] at k2
  obtain ⟨rfl, k2⟩ := k2
  obtain ⟨a3, r3, rfl, k3, h⟩ := h
  simp only [encI, Rep] at k3
  obtain ⟨rfl, k3⟩ := k3
  obtain ⟨a4, r4, rfl, k4, h⟩ := h
  simp only [encI, Rep] at k4
  obtain ⟨rfl, k4⟩ := k4
  obtain ⟨a5, r5, rfl, k5, h⟩ := h
  simp only [encI, Rep] at k5
  obtain ⟨rfl, k5⟩ := k5
  subst h
  exact ⟨rfl, k0, k1, k2, k3, k4, k5⟩
theorem TUnitError.mk_rep {w : World} {K : Nat → Prop} {x : TUnitError} (hKind : InR x.fKind) (hPackage : InR x.fPackage) (hAt : InR x.fAt) (hSub : InR x.fSub) (hCode : InR x.fCode) (hNode : InR x.fNode) : Rep w K x.enc [.int .i64 x.fKind, .int .i64 x.fPackage, .int .i64 x.fAt, .int .i64 x.fSub, .int .i64 x.fCode, .int .i64 x.fNode] := by
  rw [TUnitError.enc_eq]
  simp only [Rep, RepS]
  exact ⟨[.int .i64 x.fKind], _, rfl, (repI hKind), ⟨[.int .i64 x.fPackage], _, rfl, (repI hPackage), ⟨[.int .i64 x.fAt], _, rfl, (repI hAt), ⟨[.int .i64 x.fSub], _, rfl, (repI hSub), ⟨[.int .i64 x.fCode], _, rfl, (repI hCode), ⟨[.int .i64 x.fNode], _, rfl, (repI hNode), rfl⟩⟩⟩⟩⟩⟩
theorem TUnitError.mk_own {w : World} {x : TUnitError} (hKind : InR x.fKind) (hPackage : InR x.fPackage) (hAt : InR x.fAt) (hSub : InR x.fSub) (hCode : InR x.fCode) (hNode : InR x.fNode) : Own w x.enc [.int .i64 x.fKind, .int .i64 x.fPackage, .int .i64 x.fAt, .int .i64 x.fSub, .int .i64 x.fCode, .int .i64 x.fNode] ([]) := by
  rw [TUnitError.enc_eq]
  simp only [Own, OwnS]
  exact ⟨[.int .i64 x.fKind], _, [], _, rfl, rfl, (ownI hKind), ⟨[.int .i64 x.fPackage], _, [], _, rfl, rfl, (ownI hPackage), ⟨[.int .i64 x.fAt], _, [], _, rfl, rfl, (ownI hAt), ⟨[.int .i64 x.fSub], _, [], _, rfl, rfl, (ownI hSub), ⟨[.int .i64 x.fCode], _, [], _, rfl, rfl, (ownI hCode), ⟨[.int .i64 x.fNode], _, [], _, rfl, rfl, (ownI hNode), ⟨rfl, rfl⟩⟩⟩⟩⟩⟩⟩
structure TBuiltPackage where
  fName : ByteArray
  fKey : ByteArray
  fUnits : List TUnit
  fErrors : List TUnitError
def TBuiltPackage.enc (x : TBuiltPackage) : D := .st [(encS x.fName), (encS x.fKey), (.sl (x.fUnits.map TUnit.enc)), (.sl (x.fErrors.map TUnitError.enc))]
theorem TBuiltPackage.enc_eq (x : TBuiltPackage) : x.enc = .st [(encS x.fName), (encS x.fKey), (.sl (x.fUnits.map TUnit.enc)), (.sl (x.fErrors.map TUnitError.enc))] := rfl
def TBuiltPackage.sz (x : TBuiltPackage) : Nat := ByteArray.size x.fName + ByteArray.size x.fKey + szs TUnit.sz x.fUnits + szs (fun _ => 0) x.fErrors
theorem TBuiltPackage.sz_eq (x : TBuiltPackage) : x.sz = ByteArray.size x.fName + ByteArray.size x.fKey + szs TUnit.sz x.fUnits + szs (fun _ => 0) x.fErrors := rfl
theorem TBuiltPackage.width (x : TBuiltPackage) : x.enc.width = 4 := by
  rw [TBuiltPackage.enc_eq]; simp only [D.width, D.widths, encS]
theorem TBuiltPackage.opn {w : World} {K : Nat → Prop} {x : TBuiltPackage} {cs : List Value} (h : Rep w K x.enc cs) :
    ∃ c2 c3 : Value, cs = [.string x.fName, .string x.fKey, c2, c3] ∧ x.fName.size ≤ maxLen ∧ x.fKey.size ≤ maxLen ∧ Rep w K (.sl (x.fUnits.map TUnit.enc)) [c2] ∧ Rep w K (.sl (x.fErrors.map TUnitError.enc)) [c3] := by
  rw [TBuiltPackage.enc_eq] at h
  simp only [Rep, RepS] at h
  obtain ⟨a0, r0, rfl, k0, h⟩ := h
  simp only [encS, Rep] at k0
  obtain ⟨rfl, k0⟩ := k0
  obtain ⟨a1, r1, rfl, k1, h⟩ := h
  simp only [encS, Rep] at k1
  obtain ⟨rfl, k1⟩ := k1
  obtain ⟨a2, r2, rfl, k2, h⟩ := h
  have l2 := Rep.length _ _ ((by simpa only [Rep] using k2 : Rep w K (.sl (x.fUnits.map TUnit.enc)) a2))
  obtain ⟨c2, rfl⟩ := len1 (by simpa [D.width] using l2)
  obtain ⟨a3, r3, rfl, k3, h⟩ := h
  have l3 := Rep.length _ _ ((by simpa only [Rep] using k3 : Rep w K (.sl (x.fErrors.map TUnitError.enc)) a3))
  obtain ⟨c3, rfl⟩ := len1 (by simpa [D.width] using l3)
  subst h
  exact ⟨c2, c3, rfl, k0, k1, (by simpa only [Rep] using k2), (by simpa only [Rep] using k3)⟩
theorem TBuiltPackage.mk_rep {w : World} {K : Nat → Prop} {x : TBuiltPackage} {c2 c3 : Value} (hName : x.fName.size ≤ maxLen) (hKey : x.fKey.size ≤ maxLen) (hUnits : Rep w K (.sl (x.fUnits.map TUnit.enc)) [c2]) (hErrors : Rep w K (.sl (x.fErrors.map TUnitError.enc)) [c3]) : Rep w K x.enc [.string x.fName, .string x.fKey, c2, c3] := by
  rw [TBuiltPackage.enc_eq]
  simp only [Rep, RepS]
  exact ⟨[.string x.fName], _, rfl, (repS hName), ⟨[.string x.fKey], _, rfl, (repS hKey), ⟨[c2], _, rfl, (by simpa only [Rep] using hUnits), ⟨[c3], _, rfl, (by simpa only [Rep] using hErrors), rfl⟩⟩⟩⟩
theorem TBuiltPackage.mk_own {w : World} {x : TBuiltPackage} {c2 c3 : Value} (hName : x.fName.size ≤ maxLen) (hKey : x.fKey.size ≤ maxLen) {b2 : List Nat} (hUnits : Own w (.sl (x.fUnits.map TUnit.enc)) [c2] b2) {b3 : List Nat} (hErrors : Own w (.sl (x.fErrors.map TUnitError.enc)) [c3] b3) : Own w x.enc [.string x.fName, .string x.fKey, c2, c3] (b2 ++ (b3 ++ ([]))) := by
  rw [TBuiltPackage.enc_eq]
  simp only [Own, OwnS]
  exact ⟨[.string x.fName], _, [], _, rfl, rfl, (ownS hName), ⟨[.string x.fKey], _, [], _, rfl, rfl, (ownS hKey), ⟨[c2], _, b2, _, rfl, rfl, (by simpa only [Own] using hUnits), ⟨[c3], _, b3, _, rfl, rfl, (by simpa only [Own] using hErrors), ⟨rfl, rfl⟩⟩⟩⟩⟩
structure TBuild where
  fPackages : List TBuiltPackage
def TBuild.enc (x : TBuild) : D := .st [(.sl (x.fPackages.map TBuiltPackage.enc))]
theorem TBuild.enc_eq (x : TBuild) : x.enc = .st [(.sl (x.fPackages.map TBuiltPackage.enc))] := rfl
def TBuild.sz (x : TBuild) : Nat := szs TBuiltPackage.sz x.fPackages
theorem TBuild.sz_eq (x : TBuild) : x.sz = szs TBuiltPackage.sz x.fPackages := rfl
theorem TBuild.width (x : TBuild) : x.enc.width = 1 := by
  rw [TBuild.enc_eq]; simp only [D.width, D.widths]
theorem TBuild.opn {w : World} {K : Nat → Prop} {x : TBuild} {cs : List Value} (h : Rep w K x.enc cs) :
    ∃ c0 : Value, cs = [c0] ∧ Rep w K (.sl (x.fPackages.map TBuiltPackage.enc)) [c0] := by
  rw [TBuild.enc_eq] at h
  simp only [Rep, RepS] at h
  obtain ⟨a0, r0, rfl, k0, h⟩ := h
  have l0 := Rep.length _ _ ((by simpa only [Rep] using k0 : Rep w K (.sl (x.fPackages.map TBuiltPackage.enc)) a0))
  obtain ⟨c0, rfl⟩ := len1 (by simpa [D.width] using l0)
  subst h
  exact ⟨c0, rfl, (by simpa only [Rep] using k0)⟩
theorem TBuild.mk_rep {w : World} {K : Nat → Prop} {x : TBuild} {c0 : Value} (hPackages : Rep w K (.sl (x.fPackages.map TBuiltPackage.enc)) [c0]) : Rep w K x.enc [c0] := by
  rw [TBuild.enc_eq]
  simp only [Rep, RepS]
  exact ⟨[c0], _, rfl, (by simpa only [Rep] using hPackages), rfl⟩
theorem TBuild.mk_own {w : World} {x : TBuild} {c0 : Value} {b0 : List Nat} (hPackages : Own w (.sl (x.fPackages.map TBuiltPackage.enc)) [c0] b0) : Own w x.enc [c0] (b0 ++ ([])) := by
  rw [TBuild.enc_eq]
  simp only [Own, OwnS]
  exact ⟨[c0], _, b0, _, rfl, rfl, (by simpa only [Own] using hPackages), ⟨rfl, rfl⟩⟩
end Go.Proofs.YtkmiecgcibjkbaaGreat
