/- The mirror structures of this program's data, each with its tree, its number of cells, its size, and the two lemmas that take its cells apart and put them together; An argument that reads as data is the tree of a mirror value; what is handed back as it was. No condition but sizes. -/
import Derived.Test.YtdooklofebdknaaGreatM01
import Derived.OpenShut
import Derived.ProofKit
namespace Go.Proofs.YtdooklofebdknaaGreat
open Go.RowKit Go.ChangeShapes Go.WideShapes Go.ChangeAt
structure TFormError where
 fCode : Int
 fPackage : Int
 fKind : ByteArray
 fName : ByteArray
def TFormError.enc (x : TFormError) : D := .st [(encI x.fCode), (encI x.fPackage), (encS x.fKind), (encS x.fName)]
theorem TFormError.enc_eq (x : TFormError) : x.enc = .st [(encI x.fCode), (encI x.fPackage), (encS x.fKind), (encS x.fName)] := rfl
def TFormError.sz (x : TFormError) : Nat := ByteArray.size x.fKind + ByteArray.size x.fName
theorem TFormError.sz_eq (x : TFormError) : x.sz = ByteArray.size x.fKind + ByteArray.size x.fName := rfl
theorem TFormError.width (x : TFormError) : x.enc.width = 4 := by
 rw [TFormError.enc_eq]; simp only [D.width, D.widths, encI, encS]
structure TSExpr where
 fAtom : ByteArray
 fList : List TSExpr
mutual
def TSExpr.enc : TSExpr → D
 | ⟨fAtom, fList⟩ => .st [(encS fAtom), (.sl (TSExpr.encL fList))]
def TSExpr.encL : List TSExpr → List D
 | [] => []
 | x :: l => TSExpr.enc x :: TSExpr.encL l
end
mutual
def TSExpr.sz : TSExpr → Nat
 | ⟨fAtom, fList⟩ => ByteArray.size fAtom + (fList.length + TSExpr.szLs fList)
def TSExpr.szLs : List TSExpr → Nat
 | [] => 0
 | x :: l => TSExpr.sz x + TSExpr.szLs l
end
theorem TSExpr.encL_eq : ∀ l : List TSExpr, TSExpr.encL l = l.map TSExpr.enc
 | [] => rfl
 | x :: l => by simp only [TSExpr.encL, List.map_cons, TSExpr.encL_eq l]
theorem TSExpr.szLs_eq : ∀ l : List TSExpr, TSExpr.szLs l = szL TSExpr.sz l
 | [] => rfl
 | x :: l => by simp only [TSExpr.szLs, szL, TSExpr.szLs_eq l]
theorem TSExpr.enc_eq (x : TSExpr) : x.enc = .st [(encS x.fAtom), (.sl (x.fList.map TSExpr.enc))] := by
 cases x; simp only [TSExpr.enc, TSExpr.encL_eq]
theorem TSExpr.sz_eq (x : TSExpr) : x.sz = ByteArray.size x.fAtom + szs TSExpr.sz x.fList := by
 cases x; simp only [TSExpr.sz, szs, TSExpr.szLs_eq]
theorem TSExpr.width (x : TSExpr) : x.enc.width = 2 := by
 rw [TSExpr.enc_eq]; simp only [D.width, D.widths, encS]
structure TType where
 fKind : Int
 fName : ByteArray
 fArgs : List TType
mutual
def TType.enc : TType → D
 | ⟨fKind, fName, fArgs⟩ => .st [(encI fKind), (encS fName), (.sl (TType.encL fArgs))]
def TType.encL : List TType → List D
 | [] => []
 | x :: l => TType.enc x :: TType.encL l
end
mutual
def TType.sz : TType → Nat
 | ⟨_, fName, fArgs⟩ => ByteArray.size fName + (fArgs.length + TType.szLs fArgs)
def TType.szLs : List TType → Nat
 | [] => 0
 | x :: l => TType.sz x + TType.szLs l
end
theorem TType.encL_eq : ∀ l : List TType, TType.encL l = l.map TType.enc
 | [] => rfl
 | x :: l => by simp only [TType.encL, List.map_cons, TType.encL_eq l]
theorem TType.szLs_eq : ∀ l : List TType, TType.szLs l = szL TType.sz l
 | [] => rfl
 | x :: l => by simp only [TType.szLs, szL, TType.szLs_eq l]
theorem TType.lt_fArgs (x : TType) : SizeOf.sizeOf x.fArgs < SizeOf.sizeOf x := by
 cases x; simp; omega
theorem TType.enc_eq (x : TType) : x.enc = .st [(encI x.fKind), (encS x.fName), (.sl (x.fArgs.map TType.enc))] := by
 cases x; simp only [TType.enc, TType.encL_eq]
theorem TType.sz_eq (x : TType) : x.sz = ByteArray.size x.fName + szs TType.sz x.fArgs := by
 cases x; simp only [TType.sz, szs, TType.szLs_eq]
theorem TType.width (x : TType) : x.enc.width = 3 := by
 rw [TType.enc_eq]; simp only [D.width, D.widths, encI, encS]
mutual
structure TArm where
 fConstructor : ByteArray
 fVars : List ByteArray
 fBody : TExpr
structure TExpr where
 fKind : Int
 fTrait : ByteArray
 fName : ByteArray
 fN : Int
 fType : TType
 fArgs : List TExpr
 fArms : List TArm
end
mutual
def TArm.enc : TArm → D
 | ⟨fConstructor, fVars, fBody⟩ => .st [(encS fConstructor), (.sl (fVars.map encS)), (TExpr.enc fBody)]
def TExpr.enc : TExpr → D
 | ⟨fKind, fTrait, fName, fN, fType, fArgs, fArms⟩ => .st [(encI fKind), (encS fTrait), (encS fName), (encI fN), (TType.enc fType), (.sl (TExpr.encL fArgs)), (.sl (TArm.encL fArms))]
def TArm.encL : List TArm → List D
 | [] => []
 | x :: l => TArm.enc x :: TArm.encL l
def TExpr.encL : List TExpr → List D
 | [] => []
 | x :: l => TExpr.enc x :: TExpr.encL l
end
mutual
def TArm.sz : TArm → Nat
 | ⟨fConstructor, fVars, fBody⟩ => ByteArray.size fConstructor + szs ByteArray.size fVars + TExpr.sz fBody
def TExpr.sz : TExpr → Nat
 | ⟨_, fTrait, fName, _, fType, fArgs, fArms⟩ => ByteArray.size fTrait + ByteArray.size fName + TType.sz fType + (fArgs.length + TExpr.szLs fArgs) + (fArms.length + TArm.szLs fArms)
def TArm.szLs : List TArm → Nat
 | [] => 0
 | x :: l => TArm.sz x + TArm.szLs l
def TExpr.szLs : List TExpr → Nat
 | [] => 0
 | x :: l => TExpr.sz x + TExpr.szLs l
end
theorem TArm.encL_eq : ∀ l : List TArm, TArm.encL l = l.map TArm.enc
 | [] => rfl
 | x :: l => by simp only [TArm.encL, List.map_cons, TArm.encL_eq l]
theorem TArm.szLs_eq : ∀ l : List TArm, TArm.szLs l = szL TArm.sz l
 | [] => rfl
 | x :: l => by simp only [TArm.szLs, szL, TArm.szLs_eq l]
theorem TExpr.encL_eq : ∀ l : List TExpr, TExpr.encL l = l.map TExpr.enc
 | [] => rfl
 | x :: l => by simp only [TExpr.encL, List.map_cons, TExpr.encL_eq l]
theorem TExpr.szLs_eq : ∀ l : List TExpr, TExpr.szLs l = szL TExpr.sz l
 | [] => rfl
 | x :: l => by simp only [TExpr.szLs, szL, TExpr.szLs_eq l]
theorem TArm.lt_fBody (x : TArm) : SizeOf.sizeOf x.fBody < SizeOf.sizeOf x := by
 cases x; simp; omega
theorem TExpr.lt_fArgs (x : TExpr) : SizeOf.sizeOf x.fArgs < SizeOf.sizeOf x := by
 cases x; simp; omega
theorem TExpr.lt_fArms (x : TExpr) : SizeOf.sizeOf x.fArms < SizeOf.sizeOf x := by
 cases x; simp; omega
theorem TArm.enc_eq (x : TArm) : x.enc = .st [(encS x.fConstructor), (.sl (x.fVars.map encS)), (TExpr.enc x.fBody)] := by
 cases x; simp only [TArm.enc]
theorem TArm.sz_eq (x : TArm) : x.sz = ByteArray.size x.fConstructor + szs ByteArray.size x.fVars + TExpr.sz x.fBody := by
 cases x; simp only [TArm.sz, szs]
theorem TExpr.enc_eq (x : TExpr) : x.enc = .st [(encI x.fKind), (encS x.fTrait), (encS x.fName), (encI x.fN), (TType.enc x.fType), (.sl (x.fArgs.map TExpr.enc)), (.sl (x.fArms.map TArm.enc))] := by
 cases x; simp only [TExpr.enc, TArm.encL_eq, TExpr.encL_eq]
theorem TExpr.sz_eq (x : TExpr) : x.sz = ByteArray.size x.fTrait + ByteArray.size x.fName + TType.sz x.fType + szs TExpr.sz x.fArgs + szs TArm.sz x.fArms := by
 cases x; simp only [TExpr.sz, szs, TArm.szLs_eq, TExpr.szLs_eq]
theorem TExpr.width (x : TExpr) : x.enc.width = 9 := by
 rw [TExpr.enc_eq]; simp only [D.width, D.widths, encI, encS, TType.width]
theorem TArm.width (x : TArm) : x.enc.width = 11 := by
 rw [TArm.enc_eq]; simp only [D.width, D.widths, encS, TExpr.width]
structure TBinding where
 fVar : ByteArray
 fType : TType
def TBinding.enc (x : TBinding) : D := .st [(encS x.fVar), (TType.enc x.fType)]
theorem TBinding.enc_eq (x : TBinding) : x.enc = .st [(encS x.fVar), (TType.enc x.fType)] := rfl
def TBinding.sz (x : TBinding) : Nat := ByteArray.size x.fVar + TType.sz x.fType
theorem TBinding.sz_eq (x : TBinding) : x.sz = ByteArray.size x.fVar + TType.sz x.fType := rfl
theorem TBinding.width (x : TBinding) : x.enc.width = 4 := by
 rw [TBinding.enc_eq]; simp only [D.width, D.widths, encS, TType.width]
structure TBound where
 fTrait : ByteArray
 fType : TType
def TBound.enc (x : TBound) : D := .st [(encS x.fTrait), (TType.enc x.fType)]
theorem TBound.enc_eq (x : TBound) : x.enc = .st [(encS x.fTrait), (TType.enc x.fType)] := rfl
def TBound.sz (x : TBound) : Nat := ByteArray.size x.fTrait + TType.sz x.fType
theorem TBound.sz_eq (x : TBound) : x.sz = ByteArray.size x.fTrait + TType.sz x.fType := rfl
theorem TBound.width (x : TBound) : x.enc.width = 4 := by
 rw [TBound.enc_eq]; simp only [D.width, D.widths, encS, TType.width]
structure TConstructor where
 fName : ByteArray
 fFields : List TType
def TConstructor.enc (x : TConstructor) : D := .st [(encS x.fName), (.sl (x.fFields.map TType.enc))]
theorem TConstructor.enc_eq (x : TConstructor) : x.enc = .st [(encS x.fName), (.sl (x.fFields.map TType.enc))] := rfl
def TConstructor.sz (x : TConstructor) : Nat := ByteArray.size x.fName + szs TType.sz x.fFields
theorem TConstructor.sz_eq (x : TConstructor) : x.sz = ByteArray.size x.fName + szs TType.sz x.fFields := rfl
theorem TConstructor.width (x : TConstructor) : x.enc.width = 2 := by
 rw [TConstructor.enc_eq]; simp only [D.width, D.widths, encS]
structure TDataType where
 fName : ByteArray
 fVars : List ByteArray
 fConstructors : List TConstructor
def TDataType.enc (x : TDataType) : D := .st [(encS x.fName), (.sl (x.fVars.map encS)), (.sl (x.fConstructors.map TConstructor.enc))]
theorem TDataType.enc_eq (x : TDataType) : x.enc = .st [(encS x.fName), (.sl (x.fVars.map encS)), (.sl (x.fConstructors.map TConstructor.enc))] := rfl
def TDataType.sz (x : TDataType) : Nat := ByteArray.size x.fName + szs ByteArray.size x.fVars + szs TConstructor.sz x.fConstructors
theorem TDataType.sz_eq (x : TDataType) : x.sz = ByteArray.size x.fName + szs ByteArray.size x.fVars + szs TConstructor.sz x.fConstructors := rfl
theorem TDataType.width (x : TDataType) : x.enc.width = 3 := by
 rw [TDataType.enc_eq]; simp only [D.width, D.widths, encS]
structure TMethod where
 fName : ByteArray
 fVars : List ByteArray
 fBody : TExpr
def TMethod.enc (x : TMethod) : D := .st [(encS x.fName), (.sl (x.fVars.map encS)), (TExpr.enc x.fBody)]
theorem TMethod.enc_eq (x : TMethod) : x.enc = .st [(encS x.fName), (.sl (x.fVars.map encS)), (TExpr.enc x.fBody)] := rfl
def TMethod.sz (x : TMethod) : Nat := ByteArray.size x.fName + szs ByteArray.size x.fVars + TExpr.sz x.fBody
theorem TMethod.sz_eq (x : TMethod) : x.sz = ByteArray.size x.fName + szs ByteArray.size x.fVars + TExpr.sz x.fBody := rfl
theorem TMethod.width (x : TMethod) : x.enc.width = 11 := by
 rw [TMethod.enc_eq]; simp only [D.width, D.widths, encS, TExpr.width]
structure TInstance where
 fTrait : ByteArray
 fVars : List ByteArray
 fHead : TType
 fWhere : List TBound
 fDefault : Bool
 fHasAssoc : Bool
 fAssoc : TType
 fMethods : List TMethod
def TInstance.enc (x : TInstance) : D := .st [(encS x.fTrait), (.sl (x.fVars.map encS)), (TType.enc x.fHead), (.sl (x.fWhere.map TBound.enc)), (encB x.fDefault), (encB x.fHasAssoc), (TType.enc x.fAssoc), (.sl (x.fMethods.map TMethod.enc))]
theorem TInstance.enc_eq (x : TInstance) : x.enc = .st [(encS x.fTrait), (.sl (x.fVars.map encS)), (TType.enc x.fHead), (.sl (x.fWhere.map TBound.enc)), (encB x.fDefault), (encB x.fHasAssoc), (TType.enc x.fAssoc), (.sl (x.fMethods.map TMethod.enc))] := rfl
def TInstance.sz (x : TInstance) : Nat := ByteArray.size x.fTrait + szs ByteArray.size x.fVars + TType.sz x.fHead + szs TBound.sz x.fWhere + TType.sz x.fAssoc + szs TMethod.sz x.fMethods
theorem TInstance.sz_eq (x : TInstance) : x.sz = ByteArray.size x.fTrait + szs ByteArray.size x.fVars + TType.sz x.fHead + szs TBound.sz x.fWhere + TType.sz x.fAssoc + szs TMethod.sz x.fMethods := rfl
theorem TInstance.width (x : TInstance) : x.enc.width = 12 := by
 rw [TInstance.enc_eq]; simp only [D.width, D.widths, encS, encB, TType.width]
structure TParam where
 fName : ByteArray
 fType : TType
def TParam.enc (x : TParam) : D := .st [(encS x.fName), (TType.enc x.fType)]
theorem TParam.enc_eq (x : TParam) : x.enc = .st [(encS x.fName), (TType.enc x.fType)] := rfl
def TParam.sz (x : TParam) : Nat := ByteArray.size x.fName + TType.sz x.fType
theorem TParam.sz_eq (x : TParam) : x.sz = ByteArray.size x.fName + TType.sz x.fType := rfl
theorem TParam.width (x : TParam) : x.enc.width = 4 := by
 rw [TParam.enc_eq]; simp only [D.width, D.widths, encS, TType.width]
structure TFunction where
 fName : ByteArray
 fVars : List ByteArray
 fWhere : List TBound
 fParams : List TParam
 fResult : TType
 fBody : TExpr
def TFunction.enc (x : TFunction) : D := .st [(encS x.fName), (.sl (x.fVars.map encS)), (.sl (x.fWhere.map TBound.enc)), (.sl (x.fParams.map TParam.enc)), (TType.enc x.fResult), (TExpr.enc x.fBody)]
theorem TFunction.enc_eq (x : TFunction) : x.enc = .st [(encS x.fName), (.sl (x.fVars.map encS)), (.sl (x.fWhere.map TBound.enc)), (.sl (x.fParams.map TParam.enc)), (TType.enc x.fResult), (TExpr.enc x.fBody)] := rfl
def TFunction.sz (x : TFunction) : Nat := ByteArray.size x.fName + szs ByteArray.size x.fVars + szs TBound.sz x.fWhere + szs TParam.sz x.fParams + TType.sz x.fResult + TExpr.sz x.fBody
theorem TFunction.sz_eq (x : TFunction) : x.sz = ByteArray.size x.fName + szs ByteArray.size x.fVars + szs TBound.sz x.fWhere + szs TParam.sz x.fParams + TType.sz x.fResult + TExpr.sz x.fBody := rfl
theorem TFunction.width (x : TFunction) : x.enc.width = 16 := by
 rw [TFunction.enc_eq]; simp only [D.width, D.widths, encS, TExpr.width, TType.width]
structure TSignature where
 fName : ByteArray
 fParams : List TType
 fResult : TType
 fHasDefault : Bool
 fVars : List ByteArray
 fBody : TExpr
def TSignature.enc (x : TSignature) : D := .st [(encS x.fName), (.sl (x.fParams.map TType.enc)), (TType.enc x.fResult), (encB x.fHasDefault), (.sl (x.fVars.map encS)), (TExpr.enc x.fBody)]
theorem TSignature.enc_eq (x : TSignature) : x.enc = .st [(encS x.fName), (.sl (x.fParams.map TType.enc)), (TType.enc x.fResult), (encB x.fHasDefault), (.sl (x.fVars.map encS)), (TExpr.enc x.fBody)] := rfl
def TSignature.sz (x : TSignature) : Nat := ByteArray.size x.fName + szs TType.sz x.fParams + TType.sz x.fResult + szs ByteArray.size x.fVars + TExpr.sz x.fBody
theorem TSignature.sz_eq (x : TSignature) : x.sz = ByteArray.size x.fName + szs TType.sz x.fParams + TType.sz x.fResult + szs ByteArray.size x.fVars + TExpr.sz x.fBody := rfl
theorem TSignature.width (x : TSignature) : x.enc.width = 16 := by
 rw [TSignature.enc_eq]; simp only [D.width, D.widths, encS, encB, TExpr.width, TType.width]
structure TTrait where
 fName : ByteArray
 fSupertraits : List ByteArray
 fAuto : Bool
 fAssoc : Bool
 fSignatures : List TSignature
def TTrait.enc (x : TTrait) : D := .st [(encS x.fName), (.sl (x.fSupertraits.map encS)), (encB x.fAuto), (encB x.fAssoc), (.sl (x.fSignatures.map TSignature.enc))]
theorem TTrait.enc_eq (x : TTrait) : x.enc = .st [(encS x.fName), (.sl (x.fSupertraits.map encS)), (encB x.fAuto), (encB x.fAssoc), (.sl (x.fSignatures.map TSignature.enc))] := rfl
def TTrait.sz (x : TTrait) : Nat := ByteArray.size x.fName + szs ByteArray.size x.fSupertraits + szs TSignature.sz x.fSignatures
theorem TTrait.sz_eq (x : TTrait) : x.sz = ByteArray.size x.fName + szs ByteArray.size x.fSupertraits + szs TSignature.sz x.fSignatures := rfl
theorem TTrait.width (x : TTrait) : x.enc.width = 5 := by
 rw [TTrait.enc_eq]; simp only [D.width, D.widths, encS, encB]
structure TPackage where
 fName : ByteArray
 fDeps : List ByteArray
 fTraits : List TTrait
 fDataTypes : List TDataType
 fInstances : List TInstance
 fFunctions : List TFunction
def TPackage.enc (x : TPackage) : D := .st [(encS x.fName), (.sl (x.fDeps.map encS)), (.sl (x.fTraits.map TTrait.enc)), (.sl (x.fDataTypes.map TDataType.enc)), (.sl (x.fInstances.map TInstance.enc)), (.sl (x.fFunctions.map TFunction.enc))]
theorem TPackage.enc_eq (x : TPackage) : x.enc = .st [(encS x.fName), (.sl (x.fDeps.map encS)), (.sl (x.fTraits.map TTrait.enc)), (.sl (x.fDataTypes.map TDataType.enc)), (.sl (x.fInstances.map TInstance.enc)), (.sl (x.fFunctions.map TFunction.enc))] := rfl
def TPackage.sz (x : TPackage) : Nat := ByteArray.size x.fName + szs ByteArray.size x.fDeps + szs TTrait.sz x.fTraits + szs TDataType.sz x.fDataTypes + szs TInstance.sz x.fInstances + szs TFunction.sz x.fFunctions
theorem TPackage.sz_eq (x : TPackage) : x.sz = ByteArray.size x.fName + szs ByteArray.size x.fDeps + szs TTrait.sz x.fTraits + szs TDataType.sz x.fDataTypes + szs TInstance.sz x.fInstances + szs TFunction.sz x.fFunctions := rfl
theorem TPackage.width (x : TPackage) : x.enc.width = 6 := by
 rw [TPackage.enc_eq]; simp only [D.width, D.widths, encS]
structure TProgram where
 fPackages : List TPackage
def TProgram.enc (x : TProgram) : D := .st [(.sl (x.fPackages.map TPackage.enc))]
theorem TProgram.enc_eq (x : TProgram) : x.enc = .st [(.sl (x.fPackages.map TPackage.enc))] := rfl
def TProgram.sz (x : TProgram) : Nat := szs TPackage.sz x.fPackages
theorem TProgram.sz_eq (x : TProgram) : x.sz = szs TPackage.sz x.fPackages := rfl
theorem TProgram.width (x : TProgram) : x.enc.width = 1 := by
 rw [TProgram.enc_eq]; simp only [D.width, D.widths]
section
variable {H : Type} {enc : TypeId × Value → H} {P : Program} {w : World} {spare : Nat → Bool} {held : Bool} {t : TypeId} {fuel : Nat} {cs : List Value} {x : DataW H × List MemPlace}
/-- what lies in the heap -/
abbrev Live (w : World) : Nat → Prop := fun b => b < w.heap.size
theorem RepE.put {K : Nat → Prop} {s b : Nat} : ∀ (es : List D) (off : Nat), (∀ d ∈ es, d.width = s) → (∀ (k : Nat) (d : D), es[k]? = some d → ∃ cs, Cells w b (off + k * s) cs ∧ Rep w K d cs) → RepE w K es b off
 | [], _, _, _ => by simp only [RepE]
 | e :: es, off, hw, h => by
  simp only [RepE]
  refine ⟨?_, ?_⟩
  ·have := h 0 e (by simp)
   simpa using this
  ·have he := hw e (by simp)
   refine RepE.put es _ (fun d hd => hw d (by simp [hd])) (fun k d hd => ?_)
   have := h (k + 1) d (by simpa using hd)
   rw [he, show off + s + k * s = off + (k + 1) * s by rw [Nat.add_mul]; omega]
   exact this
theorem list_of {α : Type} {Q : Nat → α → Prop} : ∀ n : Nat, (∀ i, i < n → ∃ y, Q i y) → ∃ l : List α, l.length = n ∧ ∀ i (h : i < l.length), Q i l[i]
 | 0, _ => ⟨[], rfl, fun i h => absurd h (Nat.not_lt_zero _)⟩
 | n + 1, h => by
  obtain ⟨l, hl, hq⟩ := list_of n (fun i hi => h i (by omega))
  obtain ⟨y, hy⟩ := h n (by omega)
  refine ⟨l ++ [y], by simp [hl], fun i hi => ?_⟩
  by_cases hin : i < l.length
  ·rw [List.getElem_append_left hin]; exact hq i hin
  ·have hi' : i = l.length := by simp at hi; omega
   subst hi'
   simp only [List.getElem_concat_length]
   rw [hl]; exact hy
theorem open_I (ht : P.underlying t = some (.int .i64)) (h : DataW.trod enc P w 0 spare held fuel t cs = some x) : ∃ n, Rep w (Live w) (encI n) cs := by
 obtain ⟨n, rfl, -, hw⟩ := DataW.trod_int ht h
 refine ⟨n, repI ?_⟩
 simpa [Lit.wf, InR] using hw
theorem open_S (ht : P.underlying t = some .string) (h : DataW.trod enc P w 0 spare held fuel t cs = some x) : ∃ s, Rep w (Live w) (encS s) cs := by
 obtain ⟨s, rfl, -, hw⟩ := DataW.trod_string ht h
 exact ⟨s, repS hw⟩
theorem open_B (ht : P.underlying t = some .bool) (h : DataW.trod enc P w 0 spare held fuel t cs = some x) : ∃ b, Rep w (Live w) (encB b) cs := by
 cases fuel with
 | zero => simp [DataW.trod] at h
 | succ n =>
  unfold DataW.trod at h
  rw [ht] at h
  split at h
  all_goals first | exact ⟨_, repB _⟩ | simp_all
theorem open_L {α : Type} {ea : α → D} {e : TypeId} {s : Nat} (ht : P.underlying t = some (.slice e)) (hs : P.cellsOf e = s) (hs0 : 0 < s) (hw : ∀ y, (ea y).width = s)
  (he : ∀ n cs x, n < fuel → DataW.trod enc P w 0 spare held n e cs = some x → ∃ y : α, Rep w (Live w) (ea y) cs)
  (h : DataW.trod enc P w 0 spare held fuel t cs = some x) : ∃ l : List α, Rep w (Live w) (.sl (l.map ea)) cs := by
 rcases DataW.trod_slice ht h with ⟨rfl, -⟩ | ⟨a, len, cap, elems, rest, n, rfl, rfl, -, -, hc, hm, hlen, hel, -, -⟩
 ·exact ⟨[], by simp only [Rep, List.map_nil]; exact ⟨none, 0, rfl, Nat.le_refl _, Nat.zero_le _, fun _ => rfl, .inl trivial⟩⟩
 ·rw [hs] at hel
  have hq : ∀ i, i < len → ∃ y : α, ∃ c, w.cells? 0 (a.add (i * s)) s = some c ∧ Rep w (Live w) (ea y) c := by
   intro i hi
   have h1 := hel i hi
   have h2 : i < elems.length := by omega
   rw [List.getElem?_eq_getElem h2] at h1
   cases hc : w.cells? 0 (a.add (i * s)) s with
   | none => rw [hc] at h1; simp at h1
   | some c =>
    rw [hc] at h1
    obtain ⟨y, hy⟩ := he n c _ (Nat.lt_succ_self _) h1
    exact ⟨y, c, rfl, hy⟩
  obtain ⟨l, hl, hl2⟩ := list_of len hq
  refine ⟨l, ?_⟩
  simp only [Rep, List.length_map]
  refine ⟨some a, cap, by rw [hl], by omega, hm, (by simp), ?_⟩
  by_cases h0 : len = 0
  ·left
   rw [List.map_eq_nil_iff]
   exact List.length_eq_zero_iff.1 (by omega)
  ·right
   obtain ⟨c, hc0, -⟩ := hl2 0 (by omega)
   have hb := World.cells?_block hc0 hs0
   obtain ⟨-, hcl, hcc⟩ := World.cells?_some hc0
   have hspot : a.spot = none := by
    have h1 := hcc 0 hs0
    obtain ⟨u, hu⟩ : ∃ u, c[0]? = some u := ⟨_, List.getElem?_eq_getElem (by omega)⟩
    rw [hu] at h1
    have h2 := World.cell?_spot h1
    rw [Nat.zero_mul, Addr.add_zero', Addr.add_zero'] at h2
    exact h2
   obtain ⟨b, off, spot⟩ := a
   simp only at hspot
   subst hspot
   have hb' : b < w.heap.size := by rw [Nat.zero_mul, Addr.add_zero'] at hb; exact hb
   refine ⟨b, off, rfl, hb', RepE.put _ off (by intro d hd; obtain ⟨y, _, rfl⟩ := List.mem_map.1 hd; exact hw y) (fun k d hd => ?_)⟩
   simp only [List.getElem?_map, Option.map_eq_some_iff] at hd
   obtain ⟨y, hy, rfl⟩ := hd
   obtain ⟨hk, rfl⟩ := List.getElem?_eq_some_iff.1 hy
   obtain ⟨c', hc', hr⟩ := hl2 k hk
   obtain ⟨-, hcl', hcc'⟩ := World.cells?_some hc'
   refine ⟨c', ?_, hr⟩
   intro j u hu
   have hj : j < s := by have := (List.getElem?_eq_some_iff.1 hu).1; omega
   have := hcc' j hj
   rw [Addr.add_lit, Addr.add_lit] at this
   rw [this, hu]
theorem sl_w (es : List D) : (D.sl es).width = 1 := by simp only [D.width]
/-- a struct's parts, one behind another -/
theorem RepS.at_ {K : Nat → Prop} {d : D} {ds : List D} {off n : Nat} (_ : d.width = n) (h1 : Rep w K d ((cs.drop off).take n)) (h2 : RepS w K ds (cs.drop (off + n))) : RepS w K (d :: ds) (cs.drop off) := by
 simp only [RepS]
 refine ⟨_, _, (List.take_append_drop n (cs.drop off)).symm, h1, ?_⟩
 rw [List.drop_drop]
 exact h2
theorem RepS.end_ {K : Nat → Prop} {off : Nat} (h : cs.length = off) : RepS w K [] (cs.drop off) := by
 simp only [RepS]
 exact List.drop_eq_nil_of_le (by omega)
theorem open_F {fs : Array Field} (ht : P.underlying t = some (.struct fs)) (h : DataW.trod enc P w 0 spare held fuel t cs = some x) :
  cs.length = P.cellsOf t ∧ ∃ n, fuel = n + 1 ∧ ∀ (i : Nat) (f : Field), fs[i]? = some f → ∃ y, DataW.trod enc P w 0 spare held n f.type ((cs.drop f.offset).take (P.cellsOf f.type)) = some y := by
 obtain ⟨xs, n, rfl, -, h1, h2, h3⟩ := DataW.trod_struct ht h
 refine ⟨h1, n, rfl, fun i f hf => ?_⟩
 have hi : i < xs.length := by
  rw [h2]
  exact (Array.getElem?_eq_some_iff.1 hf).1
 exact ⟨xs[i], by rw [h3 i f hf, List.getElem?_eq_getElem hi]⟩
end
theorem Rep.step {w w' : World} {d : D} {cs : List Value} (h : Rep w (Live w) d cs) (hB : Below w.heap.size w w') : Rep w' (Live w') d cs :=
 Rep.mono (fun _ hb => Nat.lt_of_lt_of_le hb hB.size) (fun b hb => hB.block b hb) d cs h
theorem post_of_below {f : Func} {s : ChangeSpec} {H : Type} {enc : TypeId × Value → H} {P : Program} {apart fresh handsOn again : Bool} {W W' : World} {args : Array Value} {v : Value} {ds gs : List (DataW H)} {before pa pv : List MemPlace}
  (hW : DataW.Whole enc P f.params.toList s.vars apart W args.toList ds gs before)
  (hres : ∀ (b : Nat) (sp : Nat → Bool) (hd : Bool), DataW.TrodAll enc P W' b sp hd f.resultTypes.toList (v.resultList f.resultTypes.size) (s.fn H (ds ++ gs)).results [])
  (hargs : ∀ sp : Nat → Bool, (∀ p ∈ before, sp p.block = true) → DataW.TrodAll enc P W' 0 sp true f.params.toList args.toList (s.fn H (ds ++ gs)).args pa)
  (hvars : ∀ sp : Nat → Bool, (∀ p ∈ before, sp p.block = true) → DataW.TrodVars enc P W' sp s.vars (s.fn H (ds ++ gs)).vars pv)
  (hps : before = pa ++ pv) (hB : Below W.heap.size W W')
  (hok : ∀ (j : Nat) (t : TypeId) (r : Value), f.resultTypes[j]? = some t → (v.resultList f.resultTypes.size)[j]? = some r → Value.okWide P W' .any 0 t r) :
  s.post enc P f apart fresh handsOn again W args v W' := by
 have hlt := hW.lt
 have hold : ∀ p ∈ before, (fun b => decide (b < W.heap.size)) p.block = true := fun p hp => by simpa using hlt p hp
 refine ⟨ds, gs, before, [], pa, pv, hW, hres _ _ _, hargs _ hold, hvars _ hold, World.keptBut_mono (fun p hp => ⟨hp, ?_⟩) (hB.frame (· ∈ before)), fun _ => ?_⟩
 ·rw [hps, List.mem_append] at hp
  exact Or.inr hp
 ·obtain ⟨_, _, _, _, _, hz, hn⟩ := hW
  refine ⟨hok, _, _, ([] ++ pa) ++ pv, ⟨[] ++ pa, pv, trodAll_append (hargs _ (fun _ _ => rfl)) (hres _ _ _), hvars _ (fun _ _ => rfl), rfl, ?_, ?_⟩, ?_⟩
  ·intro b off hp
   have hb : (MemPlace.cell b off) ∈ before := by rw [hps]; simpa using hp
   have := hlt _ hb
   rw [hB.frozen (p := ⟨b, off, none⟩) this]
   exact hz b off hb
  ·intro ha
   have := hn ha
   rw [hps] at this
   simpa using this
  ·intro p hp _
   rw [hps]
   simpa using hp
theorem okAgg {P : Program} {w : World} {base : Nat} {t : TypeId} {v : Value} {fs : Array Field} (ht : P.underlying t = some (.struct fs)) (h : Value.okWide P w .any base t v) : ∃ cs : List Value, v = .agg cs.toArray := by
 unfold Value.okWide at h
 rw [ht] at h
 obtain ⟨cs, rfl, -, -⟩ := h
 exact ⟨cs.toList, by simp⟩
theorem stays {H : Type} {enc : TypeId × Value → H} {P : Program} {t : TypeId} {W W' : World} {v : Value} {d : DataW H} {ps : List MemPlace} {sp : Nat → Bool} (h : DataW.Trod enc P W 0 (fun _ => true) true t v d ps) (hrow : t < P.types.size) (hr : P.readableRec t = true) (hl : laidOutB P = true)
  (hB : Below W.heap.size W W') (hlt : ∀ x ∈ ps, x.block < W.heap.size) (hsp : ∀ x ∈ ps, sp x.block = true) : DataW.Trod enc P W' 0 sp true t v d ps :=
 WideElems.Trod_stays hl hr hrow h (fun x hx => hB.same (hlt x hx)) hsp
end Go.Proofs.YtdooklofebdknaaGreat
