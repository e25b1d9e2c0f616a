/- Walks by the Den rules; Den46: copies of rows, filled element by element. No condition but sizes. -/
import Derived.Test.YtdooklofebdknaaGreatM31
import Derived.Test.YtdooklofebdknaaGreatM33
namespace Go.Proofs.YtdooklofebdknaaGreat
open Go.RowKit
set_option maxRecDepth 10000
set_option linter.unusedSimpArgs false
set_option linter.unusedVariables false
set_option maxHeartbeats 4000000
abbrev uType (x : TType) : DD := .st [.lf (.int .i64 (x.fKind)), .lf (.string (x.fName)), .sl false sh65 ((x.fArgs).map (TType.dd false))]
abbrev uArm (x : TArm) : DD := .st [.lf (.string (x.fConstructor)), .sl false .one ((x.fVars).map (dS)), .st [.lf (.int .i64 (x.fBody.fKind)), .lf (.string (x.fBody.fTrait)), .lf (.string (x.fBody.fName)), .lf (.int .i64 (x.fBody.fN)), .st [.lf (.int .i64 (x.fBody.fType.fKind)), .lf (.string (x.fBody.fType.fName)), .sl false sh65 ((x.fBody.fType.fArgs).map (TType.dd false))], .sl false sh75 ((x.fBody.fArgs).map (TExpr.dd false)), .sl false sh172 ((x.fBody.fArms).map (TArm.dd false))]]
abbrev uExpr (x : TExpr) : DD := .st [.lf (.int .i64 (x.fKind)), .lf (.string (x.fTrait)), .lf (.string (x.fName)), .lf (.int .i64 (x.fN)), .st [.lf (.int .i64 (x.fType.fKind)), .lf (.string (x.fType.fName)), .sl false sh65 ((x.fType.fArgs).map (TType.dd false))], .sl false sh75 ((x.fArgs).map (TExpr.dd false)), .sl false sh172 ((x.fArms).map (TArm.dd false))]
abbrev uSignature (x : TSignature) : DD := .st [.lf (.string (x.fName)), .sl false sh65 ((x.fParams).map (TType.dd false)), .st [.lf (.int .i64 (x.fResult.fKind)), .lf (.string (x.fResult.fName)), .sl false sh65 ((x.fResult.fArgs).map (TType.dd false))], .lf (.bool (x.fHasDefault)), .sl false .one ((x.fVars).map (dS)), .st [.lf (.int .i64 (x.fBody.fKind)), .lf (.string (x.fBody.fTrait)), .lf (.string (x.fBody.fName)), .lf (.int .i64 (x.fBody.fN)), .st [.lf (.int .i64 (x.fBody.fType.fKind)), .lf (.string (x.fBody.fType.fName)), .sl false sh65 ((x.fBody.fType.fArgs).map (TType.dd false))], .sl false sh75 ((x.fBody.fArgs).map (TExpr.dd false)), .sl false sh172 ((x.fBody.fArms).map (TArm.dd false))]]
abbrev uTrait (x : TTrait) : DD := .st [.lf (.string (x.fName)), .sl false .one ((x.fSupertraits).map (dS)), .lf (.bool (x.fAuto)), .lf (.bool (x.fAssoc)), .sl false sh109 ((x.fSignatures).map (TSignature.dd false))]
abbrev uConstructor (x : TConstructor) : DD := .st [.lf (.string (x.fName)), .sl false sh65 ((x.fFields).map (TType.dd false))]
abbrev uDataType (x : TDataType) : DD := .st [.lf (.string (x.fName)), .sl false .one ((x.fVars).map (dS)), .sl false sh116 ((x.fConstructors).map (TConstructor.dd false))]
abbrev uBound (x : TBound) : DD := .st [.lf (.string (x.fTrait)), .st [.lf (.int .i64 (x.fType.fKind)), .lf (.string (x.fType.fName)), .sl false sh65 ((x.fType.fArgs).map (TType.dd false))]]
abbrev uMethod (x : TMethod) : DD := .st [.lf (.string (x.fName)), .sl false .one ((x.fVars).map (dS)), .st [.lf (.int .i64 (x.fBody.fKind)), .lf (.string (x.fBody.fTrait)), .lf (.string (x.fBody.fName)), .lf (.int .i64 (x.fBody.fN)), .st [.lf (.int .i64 (x.fBody.fType.fKind)), .lf (.string (x.fBody.fType.fName)), .sl false sh65 ((x.fBody.fType.fArgs).map (TType.dd false))], .sl false sh75 ((x.fBody.fArgs).map (TExpr.dd false)), .sl false sh172 ((x.fBody.fArms).map (TArm.dd false))]]
abbrev uInstance (x : TInstance) : DD := .st [.lf (.string (x.fTrait)), .sl false .one ((x.fVars).map (dS)), .st [.lf (.int .i64 (x.fHead.fKind)), .lf (.string (x.fHead.fName)), .sl false sh65 ((x.fHead.fArgs).map (TType.dd false))], .sl false sh174 ((x.fWhere).map (TBound.dd false)), .lf (.bool (x.fDefault)), .lf (.bool (x.fHasAssoc)), .st [.lf (.int .i64 (x.fAssoc.fKind)), .lf (.string (x.fAssoc.fName)), .sl false sh65 ((x.fAssoc.fArgs).map (TType.dd false))], .sl false sh120 ((x.fMethods).map (TMethod.dd false))]
abbrev uParam (x : TParam) : DD := .st [.lf (.string (x.fName)), .st [.lf (.int .i64 (x.fType.fKind)), .lf (.string (x.fType.fName)), .sl false sh65 ((x.fType.fArgs).map (TType.dd false))]]
abbrev uFunction (x : TFunction) : DD := .st [.lf (.string (x.fName)), .sl false .one ((x.fVars).map (dS)), .sl false sh174 ((x.fWhere).map (TBound.dd false)), .sl false sh153 ((x.fParams).map (TParam.dd false)), .st [.lf (.int .i64 (x.fResult.fKind)), .lf (.string (x.fResult.fName)), .sl false sh65 ((x.fResult.fArgs).map (TType.dd false))], .st [.lf (.int .i64 (x.fBody.fKind)), .lf (.string (x.fBody.fTrait)), .lf (.string (x.fBody.fName)), .lf (.int .i64 (x.fBody.fN)), .st [.lf (.int .i64 (x.fBody.fType.fKind)), .lf (.string (x.fBody.fType.fName)), .sl false sh65 ((x.fBody.fType.fArgs).map (TType.dd false))], .sl false sh75 ((x.fBody.fArgs).map (TExpr.dd false)), .sl false sh172 ((x.fBody.fArms).map (TArm.dd false))]]
abbrev uPackage (x : TPackage) : DD := .st [.lf (.string (x.fName)), .sl false .one ((x.fDeps).map (dS)), .sl false sh57 ((x.fTraits).map (TTrait.dd false)), .sl false sh61 ((x.fDataTypes).map (TDataType.dd false)), .sl false sh69 ((x.fInstances).map (TInstance.dd false)), .sl false sh77 ((x.fFunctions).map (TFunction.dd false))]
abbrev uProgram (x : TProgram) : DD := .st [.sl false sh49 ((x.fPackages).map (TPackage.dd false))]
instance szStringS (l : List ByteArray) (left : Int) : Ct cx 85 [.d (.sl false .one (l.map dS)), .d (.lf (.int .i64 (left)))] (0 ≤ left ∧ left ≤ 1048576) (.d (.lf (.int .i64 (lftI (szs ByteArray.size l) left)))) := by
 refine XiF 0 (.sl false .one (l.map dS)) Tryz.func85 28 [.tmp 4] [] [] etas trivial ?_; intro hfit hp h M G H E
 have hF := SZF.of ByteArray.size l
 have hfs : ∀ k (h : k < l.length), (l[k]).size ≤ maxLen := fun k h => by have := fits_mem hfit.2 _ (List.getElem_mem h); simpa [DD.fit, okLeaf] using this
 unfold maxLen at hfs
 replace H := And.intro (Int.sub_sub left) H
 exact DVr
theorem szTypeS_a (n : Nat) (i0 : ∀ (x : TType) (left : Int), Ct cx 223 [.d (uType x), .d (.lf (.int .i64 (left)))] (SizeOf.sizeOf x < n ∧ 0 ≤ left ∧ left ≤ 1048576) (.d (.lf (.int .i64 (lftI (x.sz) left))))) : ∀ (l : List TType) (left : Int), Ct cx 299 [.d (.sl false sh65 (l.map (TType.dd false))), .d (.lf (.int .i64 (left)))] ((∀ y ∈ l, SizeOf.sizeOf y < n) ∧ 0 ≤ left ∧ left ≤ 1048576) (.d (.lf (.int .i64 (lftI (szs TType.sz l) left)))) := fun l left => by
 refine XiF 0 (.sl false sh65 (l.map (TType.dd false))) Tryz.func299 27 [.tmp 4] [] [] etas trivial ?_; intro hfit hp h M G H E
 have hq : ∀ k (h : k < l.length), SizeOf.sizeOf l[k] < n := fun k h => hp.1 _ (List.getElem_mem h); replace H := And.intro hq H; have hp2 := hp.2
 have hF := SZF.of TType.sz l
 exact DVr
theorem szType_a (n : Nat) (jType : ∀ (l : List TType) (left : Int), Ct cx 299 [.d (.sl false sh65 (l.map (TType.dd false))), .d (.lf (.int .i64 (left)))] ((∀ y ∈ l, SizeOf.sizeOf y < n) ∧ 0 ≤ left ∧ left ≤ 1048576) (.d (.lf (.int .i64 (lftI (szs TType.sz l) left))))) : ∀ (x : TType) (left : Int), Ct cx 223 [.d (uType x), .d (.lf (.int .i64 (left)))] (SizeOf.sizeOf x < n + 1 ∧ 0 ≤ left ∧ left ≤ 1048576) (.d (.lf (.int .i64 (lftI (x.sz) left)))) := fun x left => by
 refine XiF 0 (uType x) Tryz.func223 19 [.tmp 4] [] [] etas trivial ?_; intro hfit hp h M G H E
 have hp2 := hp.2
 have uArgs : ∀ y ∈ x.fArgs, SizeOf.sizeOf y < n := fun y hy => by have := List.sizeOf_lt_of_mem hy; have := x.lt_fArgs; omega
 replace H := And.intro uArgs H
 have hsz := x.sz_eq
 simp [DD.fit, DD.fits, okLeaf, maxLen] at hfit
 exact DVz
theorem szType_g : ∀ n : Nat, (∀ (x : TType) (left : Int), Ct cx 223 [.d (uType x), .d (.lf (.int .i64 (left)))] (SizeOf.sizeOf x < n ∧ 0 ≤ left ∧ left ≤ 1048576) (.d (.lf (.int .i64 (lftI (x.sz) left)))))
 | 0 => fun x left => ⟨fk1 Tryz.func223, fun hp => absurd hp.1 (Nat.not_lt_zero _)⟩
 | n + 1 => have ih := szType_g n; szType_a n (szTypeS_a n ih)
instance szType (x : TType) (left : Int) : Ct cx 223 [.d (uType x), .d (.lf (.int .i64 (left)))] (0 ≤ left ∧ left ≤ 1048576) (.d (.lf (.int .i64 (lftI (x.sz) left)))) := ⟨fk1 Tryz.func223, fun hp h => ((szType_g _) x left).cs ⟨Nat.lt_succ_self _, hp⟩ h⟩
instance szTypeS (l : List TType) (left : Int) : Ct cx 299 [.d (.sl false sh65 (l.map (TType.dd false))), .d (.lf (.int .i64 (left)))] (0 ≤ left ∧ left ≤ 1048576) (.d (.lf (.int .i64 (lftI (szs TType.sz l) left)))) := ⟨fk1 Tryz.func299, fun hp h => (szTypeS_a (SizeOf.sizeOf l) (szType_g _) l left).cs ⟨fun y hy => List.sizeOf_lt_of_mem hy, hp⟩ h⟩
theorem szArmS_a (n : Nat) (i0 : ∀ (x : TArm) (left : Int), Ct cx 367 [.d (uArm x), .d (.lf (.int .i64 (left)))] (SizeOf.sizeOf x < n ∧ 0 ≤ left ∧ left ≤ 1048576) (.d (.lf (.int .i64 (lftI (x.sz) left))))) : ∀ (l : List TArm) (left : Int), Ct cx 304 [.d (.sl false sh172 (l.map (TArm.dd false))), .d (.lf (.int .i64 (left)))] ((∀ y ∈ l, SizeOf.sizeOf y < n) ∧ 0 ≤ left ∧ left ≤ 1048576) (.d (.lf (.int .i64 (lftI (szs TArm.sz l) left)))) := fun l left => by
 refine XiF 0 (.sl false sh172 (l.map (TArm.dd false))) Tryz.func304 27 [.tmp 4] [] [] etas trivial ?_; intro hfit hp h M G H E
 have hq : ∀ k (h : k < l.length), SizeOf.sizeOf l[k] < n := fun k h => hp.1 _ (List.getElem_mem h); replace H := And.intro hq H; have hp2 := hp.2
 have hF := SZF.of TArm.sz l
 exact DVr
theorem szExprS_a (n : Nat) (i0 : ∀ (x : TExpr) (left : Int), Ct cx 227 [.d (uExpr x), .d (.lf (.int .i64 (left)))] (SizeOf.sizeOf x < n ∧ 0 ≤ left ∧ left ≤ 1048576) (.d (.lf (.int .i64 (lftI (x.sz) left))))) : ∀ (l : List TExpr) (left : Int), Ct cx 303 [.d (.sl false sh75 (l.map (TExpr.dd false))), .d (.lf (.int .i64 (left)))] ((∀ y ∈ l, SizeOf.sizeOf y < n) ∧ 0 ≤ left ∧ left ≤ 1048576) (.d (.lf (.int .i64 (lftI (szs TExpr.sz l) left)))) := fun l left => by
 refine XiF 0 (.sl false sh75 (l.map (TExpr.dd false))) Tryz.func303 27 [.tmp 4] [] [] etas trivial ?_; intro hfit hp h M G H E
 have hq : ∀ k (h : k < l.length), SizeOf.sizeOf l[k] < n := fun k h => hp.1 _ (List.getElem_mem h); replace H := And.intro hq H; have hp2 := hp.2
 have hF := SZF.of TExpr.sz l
 exact DVr
theorem szArm_a (n : Nat) (iExpr : ∀ (x : TExpr) (left : Int), Ct cx 227 [.d (uExpr x), .d (.lf (.int .i64 (left)))] (SizeOf.sizeOf x < n ∧ 0 ≤ left ∧ left ≤ 1048576) (.d (.lf (.int .i64 (lftI (x.sz) left))))) : ∀ (x : TArm) (left : Int), Ct cx 367 [.d (uArm x), .d (.lf (.int .i64 (left)))] (SizeOf.sizeOf x < n + 1 ∧ 0 ≤ left ∧ left ≤ 1048576) (.d (.lf (.int .i64 (lftI (x.sz) left)))) := fun x left => by
 refine XiF 0 (uArm x) Tryz.func367 25 [.tmp 4] [] [] etas trivial ?_; intro hfit hp h M G H E
 have hp2 := hp.2
 have uBody : SizeOf.sizeOf x.fBody < n := by have := x.lt_fBody; omega
 replace H := And.intro uBody H
 have hsz := x.sz_eq
 simp [DD.fit, DD.fits, okLeaf, maxLen] at hfit
 exact DVz
theorem szExpr_a (n : Nat) (jExpr : ∀ (l : List TExpr) (left : Int), Ct cx 303 [.d (.sl false sh75 (l.map (TExpr.dd false))), .d (.lf (.int .i64 (left)))] ((∀ y ∈ l, SizeOf.sizeOf y < n) ∧ 0 ≤ left ∧ left ≤ 1048576) (.d (.lf (.int .i64 (lftI (szs TExpr.sz l) left))))) (jArm : ∀ (l : List TArm) (left : Int), Ct cx 304 [.d (.sl false sh172 (l.map (TArm.dd false))), .d (.lf (.int .i64 (left)))] ((∀ y ∈ l, SizeOf.sizeOf y < n) ∧ 0 ≤ left ∧ left ≤ 1048576) (.d (.lf (.int .i64 (lftI (szs TArm.sz l) left))))) : ∀ (x : TExpr) (left : Int), Ct cx 227 [.d (uExpr x), .d (.lf (.int .i64 (left)))] (SizeOf.sizeOf x < n + 1 ∧ 0 ≤ left ∧ left ≤ 1048576) (.d (.lf (.int .i64 (lftI (x.sz) left)))) := fun x left => by
 refine XiF 0 (uExpr x) Tryz.func227 38 [.tmp 4] [] [] etas trivial ?_; intro hfit hp h M G H E
 have hp2 := hp.2
 have uArgs : ∀ y ∈ x.fArgs, SizeOf.sizeOf y < n := fun y hy => by have := List.sizeOf_lt_of_mem hy; have := x.lt_fArgs; omega
 replace H := And.intro uArgs H
 have uArms : ∀ y ∈ x.fArms, SizeOf.sizeOf y < n := fun y hy => by have := List.sizeOf_lt_of_mem hy; have := x.lt_fArms; omega
 replace H := And.intro uArms H
 have hsz := x.sz_eq
 simp [DD.fit, DD.fits, okLeaf, maxLen] at hfit
 exact DVz
theorem szExpr_g : ∀ n : Nat, (∀ (x : TArm) (left : Int), Ct cx 367 [.d (uArm x), .d (.lf (.int .i64 (left)))] (SizeOf.sizeOf x < n ∧ 0 ≤ left ∧ left ≤ 1048576) (.d (.lf (.int .i64 (lftI (x.sz) left))))) ∧ (∀ (x : TExpr) (left : Int), Ct cx 227 [.d (uExpr x), .d (.lf (.int .i64 (left)))] (SizeOf.sizeOf x < n ∧ 0 ≤ left ∧ left ≤ 1048576) (.d (.lf (.int .i64 (lftI (x.sz) left)))))
 | 0 => ⟨fun x left => ⟨fk1 Tryz.func367, fun hp => absurd hp.1 (Nat.not_lt_zero _)⟩, fun x left => ⟨fk1 Tryz.func227, fun hp => absurd hp.1 (Nat.not_lt_zero _)⟩⟩
 | n + 1 => have ih := szExpr_g n; ⟨szArm_a n ih.2, szExpr_a n (szExprS_a n ih.2) (szArmS_a n ih.1)⟩
instance szExpr (x : TExpr) (left : Int) : Ct cx 227 [.d (uExpr x), .d (.lf (.int .i64 (left)))] (0 ≤ left ∧ left ≤ 1048576) (.d (.lf (.int .i64 (lftI (x.sz) left)))) := ⟨fk1 Tryz.func227, fun hp h => ((szExpr_g _).2 x left).cs ⟨Nat.lt_succ_self _, hp⟩ h⟩
instance szSignature (x : TSignature) (left : Int) : Ct cx 297 [.d (uSignature x), .d (.lf (.int .i64 (left)))] (0 ≤ left ∧ left ≤ 1048576) (.d (.lf (.int .i64 (lftI (x.sz) left)))) := by
 refine XiF 0 (uSignature x) Tryz.func297 37 [.tmp 4] [] [] etas trivial ?_; intro hfit hp h M G H E
 have hsz := x.sz_eq
 simp [DD.fit, DD.fits, okLeaf, maxLen] at hfit
 exact DVz
instance szSignatureS (l : List TSignature) (left : Int) : Ct cx 221 [.d (.sl false sh109 (l.map (TSignature.dd false))), .d (.lf (.int .i64 (left)))] (0 ≤ left ∧ left ≤ 1048576) (.d (.lf (.int .i64 (lftI (szs TSignature.sz l) left)))) := by
 refine XiF 0 (.sl false sh109 (l.map (TSignature.dd false))) Tryz.func221 27 [.tmp 4] [] [] etas trivial ?_; intro hfit hp h M G H E
 have hF := SZF.of TSignature.sz l
 exact DVr
instance szTrait (x : TTrait) (left : Int) : Ct cx 154 [.d (uTrait x), .d (.lf (.int .i64 (left)))] (0 ≤ left ∧ left ≤ 1048576) (.d (.lf (.int .i64 (lftI (x.sz) left)))) := by
 refine XiF 0 (uTrait x) Tryz.func154 25 [.tmp 4] [] [] etas trivial ?_; intro hfit hp h M G H E
 have hsz := x.sz_eq
 simp [DD.fit, DD.fits, okLeaf, maxLen] at hfit
 exact DVz
instance szTraitS (l : List TTrait) (left : Int) : Ct cx 86 [.d (.sl false sh57 (l.map (TTrait.dd false))), .d (.lf (.int .i64 (left)))] (0 ≤ left ∧ left ≤ 1048576) (.d (.lf (.int .i64 (lftI (szs TTrait.sz l) left)))) := by
 refine XiF 0 (.sl false sh57 (l.map (TTrait.dd false))) Tryz.func86 27 [.tmp 4] [] [] etas trivial ?_; intro hfit hp h M G H E
 have hF := SZF.of TTrait.sz l
 exact DVr
instance szConstructor (x : TConstructor) (left : Int) : Ct cx 298 [.d (uConstructor x), .d (.lf (.int .i64 (left)))] (0 ≤ left ∧ left ≤ 1048576) (.d (.lf (.int .i64 (lftI (x.sz) left)))) := by
 refine XiF 0 (uConstructor x) Tryz.func298 19 [.tmp 4] [] [] etas trivial ?_; intro hfit hp h M G H E
 have hsz := x.sz_eq
 simp [DD.fit, DD.fits, okLeaf, maxLen] at hfit
 exact DVz
instance szConstructorS (l : List TConstructor) (left : Int) : Ct cx 222 [.d (.sl false sh116 (l.map (TConstructor.dd false))), .d (.lf (.int .i64 (left)))] (0 ≤ left ∧ left ≤ 1048576) (.d (.lf (.int .i64 (lftI (szs TConstructor.sz l) left)))) := by
 refine XiF 0 (.sl false sh116 (l.map (TConstructor.dd false))) Tryz.func222 27 [.tmp 4] [] [] etas trivial ?_; intro hfit hp h M G H E
 have hF := SZF.of TConstructor.sz l
 exact DVr
instance szDataType (x : TDataType) (left : Int) : Ct cx 155 [.d (uDataType x), .d (.lf (.int .i64 (left)))] (0 ≤ left ∧ left ≤ 1048576) (.d (.lf (.int .i64 (lftI (x.sz) left)))) := by
 refine XiF 0 (uDataType x) Tryz.func155 25 [.tmp 4] [] [] etas trivial ?_; intro hfit hp h M G H E
 have hsz := x.sz_eq
 simp [DD.fit, DD.fits, okLeaf, maxLen] at hfit
 exact DVz
instance szDataTypeS (l : List TDataType) (left : Int) : Ct cx 87 [.d (.sl false sh61 (l.map (TDataType.dd false))), .d (.lf (.int .i64 (left)))] (0 ≤ left ∧ left ≤ 1048576) (.d (.lf (.int .i64 (lftI (szs TDataType.sz l) left)))) := by
 refine XiF 0 (.sl false sh61 (l.map (TDataType.dd false))) Tryz.func87 27 [.tmp 4] [] [] etas trivial ?_; intro hfit hp h M G H E
 have hF := SZF.of TDataType.sz l
 exact DVr
instance szBound (x : TBound) (left : Int) : Ct cx 300 [.d (uBound x), .d (.lf (.int .i64 (left)))] (0 ≤ left ∧ left ≤ 1048576) (.d (.lf (.int .i64 (lftI (x.sz) left)))) := by
 refine XiF 0 (uBound x) Tryz.func300 19 [.tmp 4] [] [] etas trivial ?_; intro hfit hp h M G H E
 have hsz := x.sz_eq
 simp [DD.fit, DD.fits, okLeaf, maxLen] at hfit
 exact DVz
instance szBoundS (l : List TBound) (left : Int) : Ct cx 224 [.d (.sl false sh174 (l.map (TBound.dd false))), .d (.lf (.int .i64 (left)))] (0 ≤ left ∧ left ≤ 1048576) (.d (.lf (.int .i64 (lftI (szs TBound.sz l) left)))) := by
 refine XiF 0 (.sl false sh174 (l.map (TBound.dd false))) Tryz.func224 27 [.tmp 4] [] [] etas trivial ?_; intro hfit hp h M G H E
 have hF := SZF.of TBound.sz l
 exact DVr
instance szMethod (x : TMethod) (left : Int) : Ct cx 301 [.d (uMethod x), .d (.lf (.int .i64 (left)))] (0 ≤ left ∧ left ≤ 1048576) (.d (.lf (.int .i64 (lftI (x.sz) left)))) := by
 refine XiF 0 (uMethod x) Tryz.func301 25 [.tmp 4] [] [] etas trivial ?_; intro hfit hp h M G H E
 have hsz := x.sz_eq
 simp [DD.fit, DD.fits, okLeaf, maxLen] at hfit
 exact DVz
instance szMethodS (l : List TMethod) (left : Int) : Ct cx 225 [.d (.sl false sh120 (l.map (TMethod.dd false))), .d (.lf (.int .i64 (left)))] (0 ≤ left ∧ left ≤ 1048576) (.d (.lf (.int .i64 (lftI (szs TMethod.sz l) left)))) := by
 refine XiF 0 (.sl false sh120 (l.map (TMethod.dd false))) Tryz.func225 27 [.tmp 4] [] [] etas trivial ?_; intro hfit hp h M G H E
 have hF := SZF.of TMethod.sz l
 exact DVr
instance szInstance (x : TInstance) (left : Int) : Ct cx 156 [.d (uInstance x), .d (.lf (.int .i64 (left)))] (0 ≤ left ∧ left ≤ 1048576) (.d (.lf (.int .i64 (lftI (x.sz) left)))) := by
 refine XiF 0 (uInstance x) Tryz.func156 43 [.tmp 4] [] [] etas trivial ?_; intro hfit hp h M G H E
 have hsz := x.sz_eq
 simp [DD.fit, DD.fits, okLeaf, maxLen] at hfit
 exact DVz
instance szInstanceS (l : List TInstance) (left : Int) : Ct cx 88 [.d (.sl false sh69 (l.map (TInstance.dd false))), .d (.lf (.int .i64 (left)))] (0 ≤ left ∧ left ≤ 1048576) (.d (.lf (.int .i64 (lftI (szs TInstance.sz l) left)))) := by
 refine XiF 0 (.sl false sh69 (l.map (TInstance.dd false))) Tryz.func88 27 [.tmp 4] [] [] etas trivial ?_; intro hfit hp h M G H E
 have hF := SZF.of TInstance.sz l
 exact DVr
instance szParam (x : TParam) (left : Int) : Ct cx 302 [.d (uParam x), .d (.lf (.int .i64 (left)))] (0 ≤ left ∧ left ≤ 1048576) (.d (.lf (.int .i64 (lftI (x.sz) left)))) := by
 refine XiF 0 (uParam x) Tryz.func302 19 [.tmp 4] [] [] etas trivial ?_; intro hfit hp h M G H E
 have hsz := x.sz_eq
 simp [DD.fit, DD.fits, okLeaf, maxLen] at hfit
 exact DVz
instance szParamS (l : List TParam) (left : Int) : Ct cx 226 [.d (.sl false sh153 (l.map (TParam.dd false))), .d (.lf (.int .i64 (left)))] (0 ≤ left ∧ left ≤ 1048576) (.d (.lf (.int .i64 (lftI (szs TParam.sz l) left)))) := by
 refine XiF 0 (.sl false sh153 (l.map (TParam.dd false))) Tryz.func226 27 [.tmp 4] [] [] etas trivial ?_; intro hfit hp h M G H E
 have hF := SZF.of TParam.sz l
 exact DVr
instance szFunction (x : TFunction) (left : Int) : Ct cx 157 [.d (uFunction x), .d (.lf (.int .i64 (left)))] (0 ≤ left ∧ left ≤ 1048576) (.d (.lf (.int .i64 (lftI (x.sz) left)))) := by
 refine XiF 0 (uFunction x) Tryz.func157 43 [.tmp 4] [] [] etas trivial ?_; intro hfit hp h M G H E
 have hsz := x.sz_eq
 simp [DD.fit, DD.fits, okLeaf, maxLen] at hfit
 exact DVz
instance szFunctionS (l : List TFunction) (left : Int) : Ct cx 89 [.d (.sl false sh77 (l.map (TFunction.dd false))), .d (.lf (.int .i64 (left)))] (0 ≤ left ∧ left ≤ 1048576) (.d (.lf (.int .i64 (lftI (szs TFunction.sz l) left)))) := by
 refine XiF 0 (.sl false sh77 (l.map (TFunction.dd false))) Tryz.func89 27 [.tmp 4] [] [] etas trivial ?_; intro hfit hp h M G H E
 have hF := SZF.of TFunction.sz l
 exact DVr
instance szPackage (x : TPackage) (left : Int) : Ct cx 35 [.d (uPackage x), .d (.lf (.int .i64 (left)))] (0 ≤ left ∧ left ≤ 1048576) (.d (.lf (.int .i64 (lftI (x.sz) left)))) := by
 refine XiF 0 (uPackage x) Tryz.func35 43 [.tmp 4] [] [] etas trivial ?_; intro hfit hp h M G H E
 have hsz := x.sz_eq
 simp [DD.fit, DD.fits, okLeaf, maxLen] at hfit
 exact DVz
instance szPackageS (l : List TPackage) (left : Int) : Ct cx 16 [.d (.sl false sh49 (l.map (TPackage.dd false))), .d (.lf (.int .i64 (left)))] (0 ≤ left ∧ left ≤ 1048576) (.d (.lf (.int .i64 (lftI (szs TPackage.sz l) left)))) := by
 refine XiF 0 (.sl false sh49 (l.map (TPackage.dd false))) Tryz.func16 27 [.tmp 4] [] [] etas trivial ?_; intro hfit hp h M G H E
 have hF := SZF.of TPackage.sz l
 exact DVr
instance szProgram (x : TProgram) (left : Int) : Ct cx 5 [.d (uProgram x), .d (.lf (.int .i64 (left)))] (0 ≤ left ∧ left ≤ 1048576) (.d (.lf (.int .i64 (lftI (x.sz) left)))) := by
 refine XiF 0 (uProgram x) Tryz.func5 12 [.tmp 4] [] [] etas trivial ?_; intro hfit hp h M G H E
 have hsz := x.sz_eq
 exact DVz
/-- elements of a row and of its copy -/
structure TOF {α : Type} (f : α → DD) (z : DD) (s : Sh) (l : List α) : Prop where
 sh : ∀ x, (f x).sh = s
 zs : z.sh = s
 pos : 0 < s.w
def tH {α : Type} (f : α → DD) (l : List α) (z : DD) : Nat → Unit → List (Nat × AV) := fun k _ => [(7, .d (.st (rowL f l k z)))]
section
variable {c : Cx} {S : St} {Q : Exit → St → Prop}
theorem XT {x : Code} {h : HP} {α : Type} {f : α → DD} {z : DD} {s : Sh} (l : List α) {T : Nat → St}
  (hb : ∀ k, k ≤ l.length → (DD.shs (rowL f l k z) = List.replicate l.length s ∧ (k < l.length → (rowL f l k z)[k]? = some z) ∧ (∀ h : k < l.length, (rowL f l k z).set k (f l[k]) = rowL f l (k + 1) z) ∧ z.sh = s) → W c x (T k) (thenQ (RE S [0, 3] [] (cV 4) (tH f l z) l.length (fun _ _ => True) rU k) Q))
  (hF : TOF f z s l := by assumption) (hh : S.hp.tail = upH h := by rfl) (h0 : toOk S (cV 4 0 () ++ tls S [0, 3]) (tH f l z 0 () ++ hls (hd S) []) := by first | (simp [tH, cV, rowL_zero]; done) | (simp [tH, cV, rowL_zero, *]; done) | fail)
  (e : ∀ k, stk S [0, 3] [] (cV 4 k ()) (tH f l z k ()) = T k := by intro k; first | (simp [tH, cV]; rfl) | rfl) : W c (.loop x) S Q :=
 W.loopR [0, 3] [] (cV 4) (tH f l z) l.length (fun _ _ => True) rU hh h0 trivial fun k hk s' hi T' hT => by
  rw [← hT, show stk S [0, 3] [] (cV 4 k s') (tH f l z k s') = T k from e k]
  exact hb k hk ⟨shs_rowL hF.sh hF.zs hk, fun h => rowL_at h, fun h => rowL_set h, hF.zs⟩
theorem XF {code : Code} {h : HP} {α : Type} {f : α → DD} {z : DD} {s : Sh} (l : List α) {T : St} (w : W c code T Q) (hF : TOF f z s l := by assumption) (hh : S.hp.tail = upH h := by rfl) (h0 : S.hp ≠ [] := by simp) (ht : S.tm 3 = .rw 0 7 l.length := by rfl) (hk : hd S 7 = some (.d (.st (rowL f l l.length z))) := by rfl)
  (e : (⟨S.n, tl [(3, .d (.sl true s (l.map f)))], al [] :: S.hp.tail⟩ : St) = T := by first | (simp; rfl) | rfl) : W c code S Q :=
 W.frz 3 7 l.length (l.map f) s [] [] hh h0 ht (by rw [hk, rowL_full]) hF.pos (by rw [DD.shs_eq, List.map_map, show DD.sh ∘ f = fun _ => s from funext hF.sh]; simp [List.map_const']) (by simp [tls]) (by simp [hls]) e w
/-- a row's copy -/
theorem DVo {p : Prop} (h : p := by repeat' (first | (refine IN.mk ?_; intros) | (refine iTw ?_; refine T2 ?_ ?_ <;> intro hb H <;> try exact hb.elim) | (refine iE ?_; (obtain rfl : k0 = l.length := (by omega)); refine XF l ?_; refine GN ?_) | (refine LF.mk ?_; exact LX) | refine GN ?_ | (refine XT l ?_; intro k0 hk0 hr; have hs := hr.2.2.1; (try simp at hs); replace H := And.intro hr (And.intro hs H)) | fail)) : p := h
end
attribute [simp] tH
end Go.Proofs.YtdooklofebdknaaGreat
