/- The mirror structures of this program's data, each with its tree, its number of cells, its size, and the two lemmas that take its cells apart and put them together. No condition. -/
import Derived.Test.YtkmiecgcibjkbaaGreatBase
namespace Go.Proofs.YtkmiecgcibjkbaaGreat
open Go.RowKit
structure TSExpr where
  fAtom : ByteArray
  fList : List TSExpr
mutual
def TSExpr.enc : TSExpr → D
  | ⟨fAtom, fList⟩ => .st [(encS fAtom), (.sl (TSExpr.encL fList))]
def TSExpr.encL : List TSExpr → List D
  | [] => []
  | x :: l => TSExpr.enc x :: TSExpr.encL l
end
mutual
def TSExpr.sz : TSExpr → Nat
  | ⟨fAtom, fList⟩ => ByteArray.size fAtom + (fList.length + TSExpr.szLs fList)
def TSExpr.szLs : List TSExpr → Nat
  | [] => 0
  | x :: l => TSExpr.sz x + TSExpr.szLs l
end
theorem TSExpr.encL_eq : ∀ l : List TSExpr, TSExpr.encL l = l.map TSExpr.enc
  | [] => rfl
  | x :: l => by simp only [TSExpr.encL, List.map_cons, TSExpr.encL_eq l]
theorem TSExpr.szLs_eq : ∀ l : List TSExpr, TSExpr.szLs l = szL TSExpr.sz l
  | [] => rfl
  | x :: l => by simp only [TSExpr.szLs, szL, TSExpr.szLs_eq l]
theorem TSExpr.lt_fList (x : TSExpr) : SizeOf.sizeOf x.fList < SizeOf.sizeOf x := by
  cases x; simp; omega
theorem TSExpr.enc_eq (x : TSExpr) : x.enc = .st [(encS x.fAtom), (.sl (x.fList.map TSExpr.enc))] := by
  cases x; simp only [TSExpr.enc, TSExpr.encL_eq]
theorem TSExpr.sz_eq (x : TSExpr) : x.sz = ByteArray.size x.fAtom + szs TSExpr.sz x.fList := by
  cases x; simp only [TSExpr.sz, szs, TSExpr.szLs_eq]
theorem TSExpr.width (x : TSExpr) : x.enc.width = 2 := by
  rw [TSExpr.enc_eq]; simp only [D.width, D.widths, encS]
theorem TSExpr.opn {w : World} {K : Nat → Prop} {x : TSExpr} {cs : List Value} (h : Rep w K x.enc cs) :
    ∃ c1 : Value, cs = [.string x.fAtom, c1] ∧ x.fAtom.size ≤ maxLen ∧ Rep w K (.sl (x.fList.map TSExpr.enc)) [c1] := by
  rw [TSExpr.enc_eq] at h
  simp only [Rep, RepS] at h
  obtain ⟨a0, r0, rfl, k0, h⟩ := h
  simp only [encS, Rep] at k0
  obtain ⟨rfl, k0⟩ := k0
  obtain ⟨a1, r1, rfl, k1, h⟩ := h
  have l1 := Rep.length _ _ ((by simpa only [Rep] using k1 : Rep w K (.sl (x.fList.map TSExpr.enc)) a1))
  obtain ⟨c1, rfl⟩ := len1 (by simpa [D.width] using l1)
  subst h
  exact ⟨c1, rfl, k0, (by simpa only [Rep] using k1)⟩
theorem TSExpr.mk_rep {w : World} {K : Nat → Prop} {x : TSExpr} {c1 : Value} (hAtom : x.fAtom.size ≤ maxLen) (hList : Rep w K (.sl (x.fList.map TSExpr.enc)) [c1]) : Rep w K x.enc [.string x.fAtom, c1] := by
  rw [TSExpr.enc_eq]
  simp only [Rep, RepS]
  exact ⟨[.string x.fAtom], _, rfl, (repS hAtom), ⟨[c1], _, rfl, (by simpa only [Rep] using hList), rfl⟩⟩
theorem TSExpr.mk_own {w : World} {x : TSExpr} {c1 : Value} (hAtom : x.fAtom.size ≤ maxLen) {b1 : List Nat} (hList : Own w (.sl (x.fList.map TSExpr.enc)) [c1] b1) : Own w x.enc [.string x.fAtom, c1] (b1 ++ ([])) := by
  rw [TSExpr.enc_eq]
  simp only [Own, OwnS]
  exact ⟨[.string x.fAtom], _, [], _, rfl, rfl, (ownS hAtom), ⟨[c1], _, b1, _, rfl, rfl, (by simpa only [Own] using hList), ⟨rfl, rfl⟩⟩⟩
structure TType where
  fKind : Int
  fName : ByteArray
  fArgs : List TType
mutual
def TType.enc : TType → D
  | ⟨fKind, fName, fArgs⟩ => .st [(encI fKind), (encS fName), (.sl (TType.encL fArgs))]
def TType.encL : List TType → List D
  | [] => []
  | x :: l => TType.enc x :: TType.encL l
end
mutual
def TType.sz : TType → Nat
  | ⟨_, fName, fArgs⟩ => ByteArray.size fName + (fArgs.length + TType.szLs fArgs)
def TType.szLs : List TType → Nat
  | [] => 0
  | x :: l => TType.sz x + TType.szLs l
end
theorem TType.encL_eq : ∀ l : List TType, TType.encL l = l.map TType.enc
  | [] => rfl
  | x :: l => by simp only [TType.encL, List.map_cons, TType.encL_eq l]
theorem TType.szLs_eq : ∀ l : List TType, TType.szLs l = szL TType.sz l
  | [] => rfl
  | x :: l => by simp only [TType.szLs, szL, TType.szLs_eq l]
theorem TType.lt_fArgs (x : TType) : SizeOf.sizeOf x.fArgs < SizeOf.sizeOf x := by
  cases x; simp; omega
theorem TType.enc_eq (x : TType) : x.enc = .st [(encI x.fKind), (encS x.fName), (.sl (x.fArgs.map TType.enc))] := by
  cases x; simp only [TType.enc, TType.encL_eq]
theorem TType.sz_eq (x : TType) : x.sz = ByteArray.size x.fName + szs TType.sz x.fArgs := by
  cases x; simp only [TType.sz, szs, TType.szLs_eq]
theorem TType.width (x : TType) : x.enc.width = 3 := by
  rw [TType.enc_eq]; simp only [D.width, D.widths, encI, encS]
theorem TType.opn {w : World} {K : Nat → Prop} {x : TType} {cs : List Value} (h : Rep w K x.enc cs) :
    ∃ c2 : Value, cs = [.int .i64 x.fKind, .string x.fName, c2] ∧ InR x.fKind ∧ x.fName.size ≤ maxLen ∧ Rep w K (.sl (x.fArgs.map TType.enc)) [c2] := by
  rw [TType.enc_eq] at h
  simp only [Rep, RepS] at h
  obtain ⟨a0, r0, rfl, k0, h⟩ := h
  simp only [encI, Rep] at k0
  obtain ⟨rfl, k0⟩ := k0
  obtain ⟨a1, r1, rfl, k1, h⟩ := h
  simp only [encS, Rep] at k1
  obtain ⟨rfl, k1⟩ := k1
  obtain ⟨a2, r2, rfl, k2, h⟩ := h
  have l2 := Rep.length _ _ ((by simpa only [Rep] using k2 : Rep w K (.sl (x.fArgs.map TType.enc)) a2))
  obtain ⟨c2, rfl⟩ := len1 (by simpa [D.width] using l2)
  subst h
  exact ⟨c2, rfl, k0, k1, (by simpa only [Rep] using k2)⟩
theorem TType.mk_rep {w : World} {K : Nat → Prop} {x : TType} {c2 : Value} (hKind : InR x.fKind) (hName : x.fName.size ≤ maxLen) (hArgs : Rep w K (.sl (x.fArgs.map TType.enc)) [c2]) : Rep w K x.enc [.int .i64 x.fKind, .string x.fName, c2] := by
  rw [TType.enc_eq]
  simp only [Rep, RepS]
  exact ⟨[.int .i64 x.fKind], _, rfl, (repI hKind), ⟨[.string x.fName], _, rfl, (repS hName), ⟨[c2], _, rfl, (by simpa only [Rep] using hArgs), rfl⟩⟩⟩
theorem TType.mk_own {w : World} {x : TType} {c2 : Value} (hKind : InR x.fKind) (hName : x.fName.size ≤ maxLen) {b2 : List Nat} (hArgs : Own w (.sl (x.fArgs.map TType.enc)) [c2] b2) : Own w x.enc [.int .i64 x.fKind, .string x.fName, c2] (b2 ++ ([])) := by
  rw [TType.enc_eq]
  simp only [Own, OwnS]
  exact ⟨[.int .i64 x.fKind], _, [], _, rfl, rfl, (ownI hKind), ⟨[.string x.fName], _, [], _, rfl, rfl, (ownS hName), ⟨[c2], _, b2, _, rfl, rfl, (by simpa only [Own] using hArgs), ⟨rfl, rfl⟩⟩⟩⟩
structure TBinding where
  fVar : ByteArray
  fType : TType
def TBinding.enc (x : TBinding) : D := .st [(encS x.fVar), (TType.enc x.fType)]
theorem TBinding.enc_eq (x : TBinding) : x.enc = .st [(encS x.fVar), (TType.enc x.fType)] := rfl
def TBinding.sz (x : TBinding) : Nat := ByteArray.size x.fVar + TType.sz x.fType
theorem TBinding.sz_eq (x : TBinding) : x.sz = ByteArray.size x.fVar + TType.sz x.fType := rfl
theorem TBinding.width (x : TBinding) : x.enc.width = 4 := by
  rw [TBinding.enc_eq]; simp only [D.width, D.widths, encS, TType.width]
theorem TBinding.opn {w : World} {K : Nat → Prop} {x : TBinding} {cs : List Value} (h : Rep w K x.enc cs) :
    ∃ c1 c2 c3 : Value, cs = [.string x.fVar, c1, c2, c3] ∧ x.fVar.size ≤ maxLen ∧ Rep w K x.fType.enc [c1, c2, c3] := by
  rw [TBinding.enc_eq] at h
  simp only [Rep, RepS] at h
  obtain ⟨a0, r0, rfl, k0, h⟩ := h
  simp only [encS, Rep] at k0
  obtain ⟨rfl, k0⟩ := k0
  obtain ⟨a1, r1, rfl, k1, h⟩ := h
  obtain ⟨c1, c2, c3, rfl⟩ := len3 ((Rep.length _ _ k1).trans (TType.width _))
  subst h
  exact ⟨c1, c2, c3, rfl, k0, k1⟩
theorem TBinding.mk_rep {w : World} {K : Nat → Prop} {x : TBinding} {c1 c2 c3 : Value} (hVar : x.fVar.size ≤ maxLen) (hType : Rep w K x.fType.enc [c1, c2, c3]) : Rep w K x.enc [.string x.fVar, c1, c2, c3] := by
  rw [TBinding.enc_eq]
  simp only [Rep, RepS]
  exact ⟨[.string x.fVar], _, rfl, (repS hVar), ⟨[c1, c2, c3], _, rfl, hType, rfl⟩⟩
theorem TBinding.mk_own {w : World} {x : TBinding} {c1 c2 c3 : Value} (hVar : x.fVar.size ≤ maxLen) {b1 : List Nat} (hType : Own w x.fType.enc [c1, c2, c3] b1) : Own w x.enc [.string x.fVar, c1, c2, c3] (b1 ++ ([])) := by
  rw [TBinding.enc_eq]
  simp only [Own, OwnS]
  exact ⟨[.string x.fVar], _, [], _, rfl, rfl, (ownS hVar), ⟨[c1, c2, c3], _, b1, _, rfl, rfl, hType, ⟨rfl, rfl⟩⟩⟩
structure TBound where
  fTrait : ByteArray
  fType : TType
def TBound.enc (x : TBound) : D := .st [(encS x.fTrait), (TType.enc x.fType)]
theorem TBound.enc_eq (x : TBound) : x.enc = .st [(encS x.fTrait), (TType.enc x.fType)] := rfl
def TBound.sz (x : TBound) : Nat := ByteArray.size x.fTrait + TType.sz x.fType
theorem TBound.sz_eq (x : TBound) : x.sz = ByteArray.size x.fTrait + TType.sz x.fType := rfl
theorem TBound.width (x : TBound) : x.enc.width = 4 := by
  rw [TBound.enc_eq]; simp only [D.width, D.widths, encS, TType.width]
theorem TBound.opn {w : World} {K : Nat → Prop} {x : TBound} {cs : List Value} (h : Rep w K x.enc cs) :
    ∃ c1 c2 c3 : Value, cs = [.string x.fTrait, c1, c2, c3] ∧ x.fTrait.size ≤ maxLen ∧ Rep w K x.fType.enc [c1, c2, c3] := by
  rw [TBound.enc_eq] at h
  simp only [Rep, RepS] at h
  obtain ⟨a0, r0, rfl, k0, h⟩ := h
  simp only [encS, Rep] at k0
  obtain ⟨rfl, k0⟩ := k0
  obtain ⟨a1, r1, rfl, k1, h⟩ := h
  obtain ⟨c1, c2, c3, rfl⟩ := len3 ((Rep.length _ _ k1).trans (TType.width _))
  subst h
  exact ⟨c1, c2, c3, rfl, k0, k1⟩
theorem TBound.mk_rep {w : World} {K : Nat → Prop} {x : TBound} {c1 c2 c3 : Value} (hTrait : x.fTrait.size ≤ maxLen) (hType : Rep w K x.fType.enc [c1, c2, c3]) : Rep w K x.enc [.string x.fTrait, c1, c2, c3] := by
  rw [TBound.enc_eq]
  simp only [Rep, RepS]
  exact ⟨[.string x.fTrait], _, rfl, (repS hTrait), ⟨[c1, c2, c3], _, rfl, hType, rfl⟩⟩
theorem TBound.mk_own {w : World} {x : TBound} {c1 c2 c3 : Value} (hTrait : x.fTrait.size ≤ maxLen) {b1 : List Nat} (hType : Own w x.fType.enc [c1, c2, c3] b1) : Own w x.enc [.string x.fTrait, c1, c2, c3] (b1 ++ ([])) := by
  rw [TBound.enc_eq]
  simp only [Own, OwnS]
  exact ⟨[.string x.fTrait], _, [], _, rfl, rfl, (ownS hTrait), ⟨[c1, c2, c3], _, b1, _, rfl, rfl, hType, ⟨rfl, rfl⟩⟩⟩
structure TEquation where
  fA : TType
  fB : TType
  fNode : Int
def TEquation.enc (x : TEquation) : D := .st [(TType.enc x.fA), (TType.enc x.fB), (encI x.fNode)]
theorem TEquation.enc_eq (x : TEquation) : x.enc = .st [(TType.enc x.fA), (TType.enc x.fB), (encI x.fNode)] := rfl
def TEquation.sz (x : TEquation) : Nat := TType.sz x.fA + TType.sz x.fB
theorem TEquation.sz_eq (x : TEquation) : x.sz = TType.sz x.fA + TType.sz x.fB := rfl
theorem TEquation.width (x : TEquation) : x.enc.width = 7 := by
  rw [TEquation.enc_eq]; simp only [D.width, D.widths, encI, TType.width]
theorem TEquation.opn {w : World} {K : Nat → Prop} {x : TEquation} {cs : List Value} (h : Rep w K x.enc cs) :
    ∃ c0 c1 c2 c3 c4 c5 : Value, cs = [c0, c1, c2, c3, c4, c5, .int .i64 x.fNode] ∧ Rep w K x.fA.enc [c0, c1, c2] ∧ Rep w K x.fB.enc [c3, c4, c5] ∧ InR x.fNode := by
  rw [TEquation.enc_eq] at h
  simp only [Rep, RepS] at h
  obtain ⟨a0, r0, rfl, k0, h⟩ := h
  obtain ⟨c0, c1, c2, rfl⟩ := len3 ((Rep.length _ _ k0).trans (TType.width _))
  obtain ⟨a1, r1, rfl, k1, h⟩ := h
  obtain ⟨c3, c4, c5, rfl⟩ := len3 ((Rep.length _ _ k1).trans (TType.width _))
  obtain ⟨a2, r2, rfl, k2, h⟩ := h
  simp only [encI, Rep] at k2
  obtain ⟨rfl, k2⟩ := k2
  subst h
  exact ⟨c0, c1, c2, c3, c4, c5, rfl, k0, k1, k2⟩
theorem TEquation.mk_rep {w : World} {K : Nat → Prop} {x : TEquation} {c0 c1 c2 c3 c4 c5 : Value} (hA : Rep w K x.fA.enc [c0, c1, c2]) (hB : Rep w K x.fB.enc [c3, c4, c5]) (hNode : InR x.fNode) : Rep w K x.enc [c0, c1, c2, c3, c4, c5, .int .i64 x.fNode] := by
  rw [TEquation.enc_eq]
  simp only [Rep, RepS]
  exact ⟨[c0, c1, c2], _, rfl, hA, ⟨[c3, c4, c5], _, rfl, hB, ⟨[.int .i64 x.fNode], _, rfl, (repI hNode), rfl⟩⟩⟩
theorem TEquation.mk_own {w : World} {x : TEquation} {c0 c1 c2 c3 c4 c5 : Value} {b0 : List Nat} (hA : Own w x.fA.enc [c0, c1, c2] b0) {b1 : List Nat} (hB : Own w x.fB.enc [c3, c4, c5] b1) (hNode : InR x.fNode) : Own w x.enc [c0, c1, c2, c3, c4, c5, .int .i64 x.fNode] (b0 ++ (b1 ++ ([]))) := by
  rw [TEquation.enc_eq]
  simp only [Own, OwnS]
  exact ⟨[c0, c1, c2], _, b0, _, rfl, rfl, hA, ⟨[c3, c4, c5], _, b1, _, rfl, rfl, hB, ⟨[.int .i64 x.fNode], _, [], _, rfl, rfl, (ownI hNode), ⟨rfl, rfl⟩⟩⟩⟩
structure TObligation where
  fGoal : TBound
  fNode : Int
def TObligation.enc (x : TObligation) : D := .st [(TBound.enc x.fGoal), (encI x.fNode)]
theorem TObligation.enc_eq (x : TObligation) : x.enc = .st [(TBound.enc x.fGoal), (encI x.fNode)] := rfl
def TObligation.sz (x : TObligation) : Nat := TBound.sz x.fGoal
theorem TObligation.sz_eq (x : TObligation) : x.sz = TBound.sz x.fGoal := rfl
theorem TObligation.width (x : TObligation) : x.enc.width = 5 := by
  rw [TObligation.enc_eq]; simp only [D.width, D.widths, encI, TBound.width]
theorem TObligation.opn {w : World} {K : Nat → Prop} {x : TObligation} {cs : List Value} (h : Rep w K x.enc cs) :
    ∃ c0 c1 c2 c3 : Value, cs = [c0, c1, c2, c3, .int .i64 x.fNode] ∧ Rep w K x.fGoal.enc [c0, c1, c2, c3] ∧ InR x.fNode := by
  rw [TObligation.enc_eq] at h
  simp only [Rep, RepS] at h
  obtain ⟨a0, r0, rfl, k0, h⟩ := h
  obtain ⟨c0, c1, c2, c3, rfl⟩ := len4 ((Rep.length _ _ k0).trans (TBound.width _))
  obtain ⟨a1, r1, rfl, k1, h⟩ := h
  simp only [encI, Rep] at k1
  obtain ⟨rfl, k1⟩ := k1
  subst h
  exact ⟨c0, c1, c2, c3, rfl, k0, k1⟩
theorem TObligation.mk_rep {w : World} {K : Nat → Prop} {x : TObligation} {c0 c1 c2 c3 : Value} (hGoal : Rep w K x.fGoal.enc [c0, c1, c2, c3]) (hNode : InR x.fNode) : Rep w K x.enc [c0, c1, c2, c3, .int .i64 x.fNode] := by
  rw [TObligation.enc_eq]
  simp only [Rep, RepS]
  exact ⟨[c0, c1, c2, c3], _, rfl, hGoal, ⟨[.int .i64 x.fNode], _, rfl, (repI hNode), rfl⟩⟩
theorem TObligation.mk_own {w : World} {x : TObligation} {c0 c1 c2 c3 : Value} {b0 : List Nat} (hGoal : Own w x.fGoal.enc [c0, c1, c2, c3] b0) (hNode : InR x.fNode) : Own w x.enc [c0, c1, c2, c3, .int .i64 x.fNode] (b0 ++ ([])) := by
  rw [TObligation.enc_eq]
  simp only [Own, OwnS]
  exact ⟨[c0, c1, c2, c3], _, b0, _, rfl, rfl, hGoal, ⟨[.int .i64 x.fNode], _, [], _, rfl, rfl, (ownI hNode), ⟨rfl, rfl⟩⟩⟩
structure TInferState where
  fNext : Int
  fCount : Int
  fNode : Int
  fBindings : List TBinding
  fEquations : List TEquation
  fObligations : List TObligation
  fCode : Int
  fAt : Int
def TInferState.enc (x : TInferState) : D := .st [(encI x.fNext), (encI x.fCount), (encI x.fNode), (.sl (x.fBindings.map TBinding.enc)), (.sl (x.fEquations.map TEquation.enc)), (.sl (x.fObligations.map TObligation.enc)), (encI x.fCode), (encI x.fAt)]
theorem TInferState.enc_eq (x : TInferState) : x.enc = .st [(encI x.fNext), (encI x.fCount), (encI x.fNode), (.sl (x.fBindings.map TBinding.enc)), (.sl (x.fEquations.map TEquation.enc)), (.sl (x.fObligations.map TObligation.enc)), (encI x.fCode), (encI x.fAt)] := rfl
def TInferState.sz (x : TInferState) : Nat := szs TBinding.sz x.fBindings + szs TEquation.sz x.fEquations + szs TObligation.sz x.fObligations
theorem TInferState.sz_eq (x : TInferState) : x.sz = szs TBinding.sz x.fBindings + szs TEquation.sz x.fEquations + szs TObligation.sz x.fObligations := rfl
theorem TInferState.width (x : TInferState) : x.enc.width = 8 := by
  rw [TInferState.enc_eq]; simp only [D.width, D.widths, encI]
theorem TInferState.opn {w : World} {K : Nat → Prop} {x : TInferState} {cs : List Value} (h : Rep w K x.enc cs) :
    ∃ c3 c4 c5 : Value, cs = [.int .i64 x.fNext, .int .i64 x.fCount, .int .i64 x.fNode, c3, c4, c5, .int .i64 x.fCode, .int .i64 x.fAt] ∧ InR x.fNext ∧ InR x.fCount ∧ InR x.fNode ∧ Rep w K (.sl (x.fBindings.map TBinding.enc)) [c3] ∧ Rep w K (.sl (x.fEquations.map TEquation.enc)) [c4] ∧ Rep w K (.sl (x.fObligations.map TObligation.enc)) [c5] ∧ InR x.fCode ∧ InR x.fAt := by
  rw [TInferState.enc_eq] at h
  simp only [Rep, RepS] at h
  obtain ⟨a0, r0, rfl, k0, h⟩ := h
  simp only [encI, Rep] at k0
  obtain ⟨rfl, k0⟩ := k0
  obtain ⟨a1, r1, rfl, k1, h⟩ := h
  simp only [encI, Rep] at k1
  obtain ⟨rfl, k1⟩ := k1
  obtain ⟨a2, r2, rfl, k2, h⟩ := h
  simp only [encI, Rep] at k2
  obtain ⟨rfl, k2⟩ := k2
  obtain ⟨a3, r3, rfl, k3, h⟩ := h
  have l3 := Rep.length _ _ ((by simpa only [Rep] using k3 : Rep w K (.sl (x.fBindings.map TBinding.enc)) a3))
  obtain ⟨c3, rfl⟩ := len1 (by simpa [D.width] using l3)
  obtain ⟨a4, r4, rfl, k4, h⟩ := h
  have l4 := Rep.length _ _ ((by simpa only [Rep] using k4 : Rep w K (.sl (x.fEquations.map TEquation.enc)) a4))
  obtain ⟨c4, rfl⟩ := len1 (by simpa [D.width] using l4)
  obtain ⟨a5, r5, rfl, k5, h⟩ := h
  have l5 := Rep.length _ _ ((by simpa only [Rep] using k5 : Rep w K (.sl (x.fObligations.map TObligation.enc)) a5))
  obtain ⟨c5, rfl⟩ := len1 (by simpa [D.width] using l5)
  obtain ⟨a6, r6, rfl, k6, h⟩ := h
  simp only [encI, Rep] at k6
  obtain ⟨rfl, k6⟩ := k6
  obtain ⟨a7, r7, rfl, k7, h⟩ := h
  simp only [encI, Rep] at k7
  obtain ⟨rfl, k7⟩ := k7
  subst h
  exact ⟨c3, c4, c5, rfl, k0, k1, k2, (by simpa only [Rep] using k3), (by simpa only [Rep] using k4), (by simpa only [Rep] using k5), k6, k7⟩
theorem TInferState.mk_rep {w : World} {K : Nat → Prop} {x : TInferState} {c3 c4 c5 : Value} (hNext : InR x.fNext) (hCount : InR x.fCount) (hNode : InR x.fNode) (hBindings : Rep w K (.sl (x.fBindings.map TBinding.enc)) [c3]) (hEquations : Rep w K (.sl (x.fEquations.map TEquation.enc)) [c4]) (hObligations : Rep w K (.sl (x.fObligations.map TObligation.enc)) [c5]) (hCode : InR x.fCode) (hAt : InR x.fAt) : Rep w K x.enc [.int .i64 x.fNext, .int .i64 x.fCount, .int .i64 x.fNode, c3, c4, c5, .int .i64 x.fCode, .int .i64 x.fAt] := by
  rw [TInferState.enc_eq]
  simp only [Rep, RepS]
  exact ⟨[.int .i64 x.fNext], _, rfl, (repI hNext), ⟨[.int .i64 x.fCount], _, rfl, (repI hCount), ⟨[.int .i64 x.fNode], _, rfl, (repI hNode), ⟨[c3], _, rfl, (by simpa only [Rep] using hBindings), ⟨[c4], _, rfl, (by simpa only [Rep] using hEquations), ⟨[c5], _, rfl, (by simpa only [Rep] using hObligations), ⟨[.int .i64 x.fCode], _, rfl, (repI hCode), ⟨[.int .i64 x.fAt], _, rfl, (repI hAt), rfl⟩⟩⟩⟩⟩⟩⟩⟩
theorem TInferState.mk_own {w : World} {x : TInferState} {c3 c4 c5 : Value} (hNext : InR x.fNext) (hCount : InR x.fCount) (hNode : InR x.fNode) {b3 : List Nat} (hBindings : Own w (.sl (x.fBindings.map TBinding.enc)) [c3] b3) {b4 : List Nat} (hEquations : Own w (.sl (x.fEquations.map TEquation.enc)) [c4] b4) {b5 : List Nat} (hObligations : Own w (.sl (x.fObligations.map TObligation.enc)) [c5] b5) (hCode : InR x.fCode) (hAt : InR x.fAt) : Own w x.enc [.int .i64 x.fNext, .int .i64 x.fCount, .int .i64 x.fNode, c3, c4, c5, .int .i64 x.fCode, .int .i64 x.fAt] (b3 ++ (b4 ++ (b5 ++ ([])))) := by
  rw [TInferState.enc_eq]
  simp only [Own, OwnS]
  exact ⟨[.int .i64 x.fNext], _, [], _, rfl, rfl, (ownI hNext), ⟨[.int .i64 x.fCount], _, [], _, rfl, rfl, (ownI hCount), ⟨[.int .i64 x.fNode], _, [], _, rfl, rfl, (ownI hNode), ⟨[c3], _, b3, _, rfl, rfl, (by simpa only [Own] using hBindings), ⟨[c4], _, b4, _, rfl, rfl, (by simpa only [Own] using hEquations), ⟨[c5], _, b5, _, rfl, rfl, (by simpa only [Own] using hObligations), ⟨[.int .i64 x.fCode], _, [], _, rfl, rfl, (ownI hCode), ⟨[.int .i64 x.fAt], _, [], _, rfl, rfl, (ownI hAt), ⟨rfl, rfl⟩⟩⟩⟩⟩⟩⟩⟩⟩
end Go.Proofs.YtkmiecgcibjkbaaGreat
