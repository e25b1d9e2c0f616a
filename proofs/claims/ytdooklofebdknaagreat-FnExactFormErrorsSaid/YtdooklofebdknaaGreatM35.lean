/- Walks by the Den rules; Counting by names: a row whose names differ, against another of the same length. No condition but sizes. -/
import Derived.Test.YtdooklofebdknaaGreatM29
import Derived.Test.YtdooklofebdknaaGreatM34
namespace Go.Proofs.YtdooklofebdknaaGreat
open Go.RowKit
set_option maxRecDepth 10000
set_option linter.unusedSimpArgs false
set_option linter.unusedVariables false
set_option maxHeartbeats 4000000
instance toStringS (l : List ByteArray) : Ct cx 101 [.d (.sl false .one (l.map dS))] (l.length ≤ 134217728) (.d (.sl true .one (l.map dS))) := by
 refine Xi Tryz.func101 22 [.tmp 2] [21] [] etas trivial ?_; intro hp h M G H E
 have hF : TOF dS (.lf (.string ⟨#[]⟩)) .one l := ⟨fun _ => rfl, rfl, by decide⟩
 exact DVo
theorem toTypeS_a (n : Nat) (i0 : ∀ (x : TType), Ct cx 246 [.d (uType x)] (SizeOf.sizeOf x < n ∧ x.sz ≤ 134217728) (.d (x.dd true))) : ∀ (l : List TType), Ct cx 314 [.d (.sl false sh65 (l.map (TType.dd false)))] ((∀ y ∈ l, SizeOf.sizeOf y < n) ∧ l.length ≤ 134217728 ∧ ∀ y ∈ l, y.sz ≤ 134217728) (.d (.sl true sh65 (l.map (TType.dd true)))) := fun l => by
 refine Xi Tryz.func314 23 [.tmp 2] [22] [] etas trivial ?_; intro hp h M G H E
 have hq : ∀ k (h : k < l.length), SizeOf.sizeOf l[k] < n := fun k h => hp.1 _ (List.getElem_mem h); replace H := And.intro hq H; have hp2 := hp.2
 have hF : TOF (TType.dd true) (.st [.lf (.int .i64 0), .lf (.string ⟨#[]⟩), .sl true sh65 []]) sh65 l := ⟨TType.sh_dd true, rfl, by decide⟩
 have hpz := fun k (h : k < l.length) => hp2.2 _ (List.getElem_mem h); replace H := And.intro hpz H
 exact DVo
theorem toType_a (n : Nat) (jType : ∀ (l : List TType), Ct cx 314 [.d (.sl false sh65 (l.map (TType.dd false)))] ((∀ y ∈ l, SizeOf.sizeOf y < n) ∧ l.length ≤ 134217728 ∧ ∀ y ∈ l, y.sz ≤ 134217728) (.d (.sl true sh65 (l.map (TType.dd true))))) : ∀ (x : TType), Ct cx 246 [.d (uType x)] (SizeOf.sizeOf x < n + 1 ∧ x.sz ≤ 134217728) (.d (x.dd true)) := fun x => by
 refine Xi Tryz.func246 15 [.cell 2 65] [14] [] etas trivial ?_; intro hp h M G H E
 have hp2 := hp.2
 have uArgs : ∀ y ∈ x.fArgs, SizeOf.sizeOf y < n := fun y hy => by have := List.sizeOf_lt_of_mem hy; have := x.lt_fArgs; omega
 replace H := And.intro uArgs H
 have hsz := x.sz_eq; unfold szs at hsz
 have hzArgs : ∀ y ∈ x.fArgs, y.sz ≤ 134217728 := fun y hy => by have := szL_le TType.sz hy; omega
 exact DVo
theorem toType_g : ∀ n : Nat, (∀ (x : TType), Ct cx 246 [.d (uType x)] (SizeOf.sizeOf x < n ∧ x.sz ≤ 134217728) (.d (x.dd true)))
 | 0 => fun x => ⟨fk1 Tryz.func246, fun hp => absurd hp.1 (Nat.not_lt_zero _)⟩
 | n + 1 => have ih := toType_g n; toType_a n (toTypeS_a n ih)
instance toType (x : TType) : Ct cx 246 [.d (uType x)] (x.sz ≤ 134217728) (.d (x.dd true)) := ⟨fk1 Tryz.func246, fun hp h => ((toType_g _) x).cs ⟨Nat.lt_succ_self _, hp⟩ h⟩
instance toTypeS (l : List TType) : Ct cx 314 [.d (.sl false sh65 (l.map (TType.dd false)))] (l.length ≤ 134217728 ∧ ∀ y ∈ l, y.sz ≤ 134217728) (.d (.sl true sh65 (l.map (TType.dd true)))) := ⟨fk1 Tryz.func314, fun hp h => (toTypeS_a (SizeOf.sizeOf l) (toType_g _) l).cs ⟨fun y hy => List.sizeOf_lt_of_mem hy, hp⟩ h⟩
theorem toArmS_a (n : Nat) (i0 : ∀ (x : TArm), Ct cx 375 [.d (uArm x)] (SizeOf.sizeOf x < n ∧ x.sz ≤ 134217728) (.d (x.dd true))) : ∀ (l : List TArm), Ct cx 319 [.d (.sl false sh172 (l.map (TArm.dd false)))] ((∀ y ∈ l, SizeOf.sizeOf y < n) ∧ l.length ≤ 134217728 ∧ ∀ y ∈ l, y.sz ≤ 134217728) (.d (.sl true sh172 (l.map (TArm.dd true)))) := fun l => by
 refine Xi Tryz.func319 23 [.tmp 2] [22] [] etas trivial ?_; intro hp h M G H E
 have hq : ∀ k (h : k < l.length), SizeOf.sizeOf l[k] < n := fun k h => hp.1 _ (List.getElem_mem h); replace H := And.intro hq H; have hp2 := hp.2
 have hF : TOF (TArm.dd true) (.st [.lf (.string ⟨#[]⟩), .sl true .one [], .st [.lf (.int .i64 0), .lf (.string ⟨#[]⟩), .lf (.string ⟨#[]⟩), .lf (.int .i64 0), .st [.lf (.int .i64 0), .lf (.string ⟨#[]⟩), .sl true sh65 []], .sl true sh75 [], .sl true sh172 []]]) sh172 l := ⟨TArm.sh_dd true, rfl, by decide⟩
 have hpz := fun k (h : k < l.length) => hp2.2 _ (List.getElem_mem h); replace H := And.intro hpz H
 exact DVo
theorem toExprS_a (n : Nat) (i0 : ∀ (x : TExpr), Ct cx 250 [.d (uExpr x)] (SizeOf.sizeOf x < n ∧ x.sz ≤ 134217728) (.d (x.dd true))) : ∀ (l : List TExpr), Ct cx 318 [.d (.sl false sh75 (l.map (TExpr.dd false)))] ((∀ y ∈ l, SizeOf.sizeOf y < n) ∧ l.length ≤ 134217728 ∧ ∀ y ∈ l, y.sz ≤ 134217728) (.d (.sl true sh75 (l.map (TExpr.dd true)))) := fun l => by
 refine Xi Tryz.func318 23 [.tmp 2] [22] [] etas trivial ?_; intro hp h M G H E
 have hq : ∀ k (h : k < l.length), SizeOf.sizeOf l[k] < n := fun k h => hp.1 _ (List.getElem_mem h); replace H := And.intro hq H; have hp2 := hp.2
 have hF : TOF (TExpr.dd true) (.st [.lf (.int .i64 0), .lf (.string ⟨#[]⟩), .lf (.string ⟨#[]⟩), .lf (.int .i64 0), .st [.lf (.int .i64 0), .lf (.string ⟨#[]⟩), .sl true sh65 []], .sl true sh75 [], .sl true sh172 []]) sh75 l := ⟨TExpr.sh_dd true, rfl, by decide⟩
 have hpz := fun k (h : k < l.length) => hp2.2 _ (List.getElem_mem h); replace H := And.intro hpz H
 exact DVo
theorem toArm_a (n : Nat) (iExpr : ∀ (x : TExpr), Ct cx 250 [.d (uExpr x)] (SizeOf.sizeOf x < n ∧ x.sz ≤ 134217728) (.d (x.dd true))) : ∀ (x : TArm), Ct cx 375 [.d (uArm x)] (SizeOf.sizeOf x < n + 1 ∧ x.sz ≤ 134217728) (.d (x.dd true)) := fun x => by
 refine Xi Tryz.func375 16 [.cell 2 172] [15] [] etas trivial ?_; intro hp h M G H E
 have hp2 := hp.2
 have uBody : SizeOf.sizeOf x.fBody < n := by have := x.lt_fBody; omega
 replace H := And.intro uBody H
 have hsz := x.sz_eq; unfold szs at hsz
 exact DVo
theorem toExpr_a (n : Nat) (jExpr : ∀ (l : List TExpr), Ct cx 318 [.d (.sl false sh75 (l.map (TExpr.dd false)))] ((∀ y ∈ l, SizeOf.sizeOf y < n) ∧ l.length ≤ 134217728 ∧ ∀ y ∈ l, y.sz ≤ 134217728) (.d (.sl true sh75 (l.map (TExpr.dd true))))) (jArm : ∀ (l : List TArm), Ct cx 319 [.d (.sl false sh172 (l.map (TArm.dd false)))] ((∀ y ∈ l, SizeOf.sizeOf y < n) ∧ l.length ≤ 134217728 ∧ ∀ y ∈ l, y.sz ≤ 134217728) (.d (.sl true sh172 (l.map (TArm.dd true))))) : ∀ (x : TExpr), Ct cx 250 [.d (uExpr x)] (SizeOf.sizeOf x < n + 1 ∧ x.sz ≤ 134217728) (.d (x.dd true)) := fun x => by
 refine Xi Tryz.func250 29 [.cell 2 75] [28] [] etas trivial ?_; intro hp h M G H E
 have hp2 := hp.2
 have uArgs : ∀ y ∈ x.fArgs, SizeOf.sizeOf y < n := fun y hy => by have := List.sizeOf_lt_of_mem hy; have := x.lt_fArgs; omega
 replace H := And.intro uArgs H
 have uArms : ∀ y ∈ x.fArms, SizeOf.sizeOf y < n := fun y hy => by have := List.sizeOf_lt_of_mem hy; have := x.lt_fArms; omega
 replace H := And.intro uArms H
 have hsz := x.sz_eq; unfold szs at hsz
 have hzArgs : ∀ y ∈ x.fArgs, y.sz ≤ 134217728 := fun y hy => by have := szL_le TExpr.sz hy; omega
 have hzArms : ∀ y ∈ x.fArms, y.sz ≤ 134217728 := fun y hy => by have := szL_le TArm.sz hy; omega
 exact DVo
theorem toExpr_g : ∀ n : Nat, (∀ (x : TArm), Ct cx 375 [.d (uArm x)] (SizeOf.sizeOf x < n ∧ x.sz ≤ 134217728) (.d (x.dd true))) ∧ (∀ (x : TExpr), Ct cx 250 [.d (uExpr x)] (SizeOf.sizeOf x < n ∧ x.sz ≤ 134217728) (.d (x.dd true)))
 | 0 => ⟨fun x => ⟨fk1 Tryz.func375, fun hp => absurd hp.1 (Nat.not_lt_zero _)⟩, fun x => ⟨fk1 Tryz.func250, fun hp => absurd hp.1 (Nat.not_lt_zero _)⟩⟩
 | n + 1 => have ih := toExpr_g n; ⟨toArm_a n ih.2, toExpr_a n (toExprS_a n ih.2) (toArmS_a n ih.1)⟩
instance toExpr (x : TExpr) : Ct cx 250 [.d (uExpr x)] (x.sz ≤ 134217728) (.d (x.dd true)) := ⟨fk1 Tryz.func250, fun hp h => ((toExpr_g _).2 x).cs ⟨Nat.lt_succ_self _, hp⟩ h⟩
instance toSignature (x : TSignature) : Ct cx 312 [.d (uSignature x)] (x.sz ≤ 134217728) (.d (x.dd true)) := by
 refine Xi Tryz.func312 27 [.cell 2 109] [26] [] etas trivial ?_; intro hp h M G H E
 have hsz := x.sz_eq; unfold szs at hsz
 have hzParams : ∀ y ∈ x.fParams, y.sz ≤ 134217728 := fun y hy => by have := szL_le TType.sz hy; omega
 exact DVo
instance toSignatureS (l : List TSignature) : Ct cx 244 [.d (.sl false sh109 (l.map (TSignature.dd false)))] (l.length ≤ 134217728 ∧ ∀ y ∈ l, y.sz ≤ 134217728) (.d (.sl true sh109 (l.map (TSignature.dd true)))) := by
 refine Xi Tryz.func244 23 [.tmp 2] [22] [] etas trivial ?_; intro hp h M G H E
 have hF : TOF (TSignature.dd true) (.st [.lf (.string ⟨#[]⟩), .sl true sh65 [], .st [.lf (.int .i64 0), .lf (.string ⟨#[]⟩), .sl true sh65 []], .lf (.bool false), .sl true .one [], .st [.lf (.int .i64 0), .lf (.string ⟨#[]⟩), .lf (.string ⟨#[]⟩), .lf (.int .i64 0), .st [.lf (.int .i64 0), .lf (.string ⟨#[]⟩), .sl true sh65 []], .sl true sh75 [], .sl true sh172 []]]) sh109 l := ⟨TSignature.sh_dd true, rfl, by decide⟩
 have hpz := fun k (h : k < l.length) => hp.2 _ (List.getElem_mem h); replace H := And.intro hpz H
 exact DVo
instance toTrait (x : TTrait) : Ct cx 170 [.d (uTrait x)] (x.sz ≤ 134217728) (.d (x.dd true)) := by
 refine Xi Tryz.func170 22 [.cell 2 57] [21] [] etas trivial ?_; intro hp h M G H E
 have hsz := x.sz_eq; unfold szs at hsz
 have hzSignatures : ∀ y ∈ x.fSignatures, y.sz ≤ 134217728 := fun y hy => by have := szL_le TSignature.sz hy; omega
 exact DVo
instance toTraitS (l : List TTrait) : Ct cx 102 [.d (.sl false sh57 (l.map (TTrait.dd false)))] (l.length ≤ 134217728 ∧ ∀ y ∈ l, y.sz ≤ 134217728) (.d (.sl true sh57 (l.map (TTrait.dd true)))) := by
 refine Xi Tryz.func102 23 [.tmp 2] [22] [] etas trivial ?_; intro hp h M G H E
 have hF : TOF (TTrait.dd true) (.st [.lf (.string ⟨#[]⟩), .sl true .one [], .lf (.bool false), .lf (.bool false), .sl true sh109 []]) sh57 l := ⟨TTrait.sh_dd true, rfl, by decide⟩
 have hpz := fun k (h : k < l.length) => hp.2 _ (List.getElem_mem h); replace H := And.intro hpz H
 exact DVo
instance toConstructor (x : TConstructor) : Ct cx 313 [.d (uConstructor x)] (x.sz ≤ 134217728) (.d (x.dd true)) := by
 refine Xi Tryz.func313 12 [.cell 2 116] [11] [] etas trivial ?_; intro hp h M G H E
 have hsz := x.sz_eq; unfold szs at hsz
 have hzFields : ∀ y ∈ x.fFields, y.sz ≤ 134217728 := fun y hy => by have := szL_le TType.sz hy; omega
 exact DVo
instance toConstructorS (l : List TConstructor) : Ct cx 245 [.d (.sl false sh116 (l.map (TConstructor.dd false)))] (l.length ≤ 134217728 ∧ ∀ y ∈ l, y.sz ≤ 134217728) (.d (.sl true sh116 (l.map (TConstructor.dd true)))) := by
 refine Xi Tryz.func245 23 [.tmp 2] [22] [] etas trivial ?_; intro hp h M G H E
 have hF : TOF (TConstructor.dd true) (.st [.lf (.string ⟨#[]⟩), .sl true sh65 []]) sh116 l := ⟨TConstructor.sh_dd true, rfl, by decide⟩
 have hpz := fun k (h : k < l.length) => hp.2 _ (List.getElem_mem h); replace H := And.intro hpz H
 exact DVo
instance toDataType (x : TDataType) : Ct cx 171 [.d (uDataType x)] (x.sz ≤ 134217728) (.d (x.dd true)) := by
 refine Xi Tryz.func171 16 [.cell 2 61] [15] [] etas trivial ?_; intro hp h M G H E
 have hsz := x.sz_eq; unfold szs at hsz
 have hzConstructors : ∀ y ∈ x.fConstructors, y.sz ≤ 134217728 := fun y hy => by have := szL_le TConstructor.sz hy; omega
 exact DVo
instance toDataTypeS (l : List TDataType) : Ct cx 103 [.d (.sl false sh61 (l.map (TDataType.dd false)))] (l.length ≤ 134217728 ∧ ∀ y ∈ l, y.sz ≤ 134217728) (.d (.sl true sh61 (l.map (TDataType.dd true)))) := by
 refine Xi Tryz.func103 23 [.tmp 2] [22] [] etas trivial ?_; intro hp h M G H E
 have hF : TOF (TDataType.dd true) (.st [.lf (.string ⟨#[]⟩), .sl true .one [], .sl true sh116 []]) sh61 l := ⟨TDataType.sh_dd true, rfl, by decide⟩
 have hpz := fun k (h : k < l.length) => hp.2 _ (List.getElem_mem h); replace H := And.intro hpz H
 exact DVo
instance toBound (x : TBound) : Ct cx 315 [.d (uBound x)] (x.sz ≤ 134217728) (.d (x.dd true)) := by
 refine Xi Tryz.func315 12 [.cell 2 174] [11] [] etas trivial ?_; intro hp h M G H E
 have hsz := x.sz_eq; unfold szs at hsz
 exact DVo
instance toBoundS (l : List TBound) : Ct cx 247 [.d (.sl false sh174 (l.map (TBound.dd false)))] (l.length ≤ 134217728 ∧ ∀ y ∈ l, y.sz ≤ 134217728) (.d (.sl true sh174 (l.map (TBound.dd true)))) := by
 refine Xi Tryz.func247 23 [.tmp 2] [22] [] etas trivial ?_; intro hp h M G H E
 have hF : TOF (TBound.dd true) (.st [.lf (.string ⟨#[]⟩), .st [.lf (.int .i64 0), .lf (.string ⟨#[]⟩), .sl true sh65 []]]) sh174 l := ⟨TBound.sh_dd true, rfl, by decide⟩
 have hpz := fun k (h : k < l.length) => hp.2 _ (List.getElem_mem h); replace H := And.intro hpz H
 exact DVo
instance toMethod (x : TMethod) : Ct cx 316 [.d (uMethod x)] (x.sz ≤ 134217728) (.d (x.dd true)) := by
 refine Xi Tryz.func316 16 [.cell 2 120] [15] [] etas trivial ?_; intro hp h M G H E
 have hsz := x.sz_eq; unfold szs at hsz
 exact DVo
instance toMethodS (l : List TMethod) : Ct cx 248 [.d (.sl false sh120 (l.map (TMethod.dd false)))] (l.length ≤ 134217728 ∧ ∀ y ∈ l, y.sz ≤ 134217728) (.d (.sl true sh120 (l.map (TMethod.dd true)))) := by
 refine Xi Tryz.func248 23 [.tmp 2] [22] [] etas trivial ?_; intro hp h M G H E
 have hF : TOF (TMethod.dd true) (.st [.lf (.string ⟨#[]⟩), .sl true .one [], .st [.lf (.int .i64 0), .lf (.string ⟨#[]⟩), .lf (.string ⟨#[]⟩), .lf (.int .i64 0), .st [.lf (.int .i64 0), .lf (.string ⟨#[]⟩), .sl true sh65 []], .sl true sh75 [], .sl true sh172 []]]) sh120 l := ⟨TMethod.sh_dd true, rfl, by decide⟩
 have hpz := fun k (h : k < l.length) => hp.2 _ (List.getElem_mem h); replace H := And.intro hpz H
 exact DVo
instance toInstance (x : TInstance) : Ct cx 172 [.d (uInstance x)] (x.sz ≤ 134217728) (.d (x.dd true)) := by
 refine Xi Tryz.func172 34 [.cell 2 69] [33] [] etas trivial ?_; intro hp h M G H E
 have hsz := x.sz_eq; unfold szs at hsz
 have hzWhere : ∀ y ∈ x.fWhere, y.sz ≤ 134217728 := fun y hy => by have := szL_le TBound.sz hy; omega
 have hzMethods : ∀ y ∈ x.fMethods, y.sz ≤ 134217728 := fun y hy => by have := szL_le TMethod.sz hy; omega
 exact DVo
instance toInstanceS (l : List TInstance) : Ct cx 104 [.d (.sl false sh69 (l.map (TInstance.dd false)))] (l.length ≤ 134217728 ∧ ∀ y ∈ l, y.sz ≤ 134217728) (.d (.sl true sh69 (l.map (TInstance.dd true)))) := by
 refine Xi Tryz.func104 23 [.tmp 2] [22] [] etas trivial ?_; intro hp h M G H E
 have hF : TOF (TInstance.dd true) (.st [.lf (.string ⟨#[]⟩), .sl true .one [], .st [.lf (.int .i64 0), .lf (.string ⟨#[]⟩), .sl true sh65 []], .sl true sh174 [], .lf (.bool false), .lf (.bool false), .st [.lf (.int .i64 0), .lf (.string ⟨#[]⟩), .sl true sh65 []], .sl true sh120 []]) sh69 l := ⟨TInstance.sh_dd true, rfl, by decide⟩
 have hpz := fun k (h : k < l.length) => hp.2 _ (List.getElem_mem h); replace H := And.intro hpz H
 exact DVo
instance toParam (x : TParam) : Ct cx 317 [.d (uParam x)] (x.sz ≤ 134217728) (.d (x.dd true)) := by
 refine Xi Tryz.func317 12 [.cell 2 153] [11] [] etas trivial ?_; intro hp h M G H E
 have hsz := x.sz_eq; unfold szs at hsz
 exact DVo
instance toParamS (l : List TParam) : Ct cx 249 [.d (.sl false sh153 (l.map (TParam.dd false)))] (l.length ≤ 134217728 ∧ ∀ y ∈ l, y.sz ≤ 134217728) (.d (.sl true sh153 (l.map (TParam.dd true)))) := by
 refine Xi Tryz.func249 23 [.tmp 2] [22] [] etas trivial ?_; intro hp h M G H E
 have hF : TOF (TParam.dd true) (.st [.lf (.string ⟨#[]⟩), .st [.lf (.int .i64 0), .lf (.string ⟨#[]⟩), .sl true sh65 []]]) sh153 l := ⟨TParam.sh_dd true, rfl, by decide⟩
 have hpz := fun k (h : k < l.length) => hp.2 _ (List.getElem_mem h); replace H := And.intro hpz H
 exact DVo
instance toFunction (x : TFunction) : Ct cx 173 [.d (uFunction x)] (x.sz ≤ 134217728) (.d (x.dd true)) := by
 refine Xi Tryz.func173 28 [.cell 2 77] [27] [] etas trivial ?_; intro hp h M G H E
 have hsz := x.sz_eq; unfold szs at hsz
 have hzWhere : ∀ y ∈ x.fWhere, y.sz ≤ 134217728 := fun y hy => by have := szL_le TBound.sz hy; omega
 have hzParams : ∀ y ∈ x.fParams, y.sz ≤ 134217728 := fun y hy => by have := szL_le TParam.sz hy; omega
 exact DVo
instance toFunctionS (l : List TFunction) : Ct cx 105 [.d (.sl false sh77 (l.map (TFunction.dd false)))] (l.length ≤ 134217728 ∧ ∀ y ∈ l, y.sz ≤ 134217728) (.d (.sl true sh77 (l.map (TFunction.dd true)))) := by
 refine Xi Tryz.func105 23 [.tmp 2] [22] [] etas trivial ?_; intro hp h M G H E
 have hF : TOF (TFunction.dd true) (.st [.lf (.string ⟨#[]⟩), .sl true .one [], .sl true sh174 [], .sl true sh153 [], .st [.lf (.int .i64 0), .lf (.string ⟨#[]⟩), .sl true sh65 []], .st [.lf (.int .i64 0), .lf (.string ⟨#[]⟩), .lf (.string ⟨#[]⟩), .lf (.int .i64 0), .st [.lf (.int .i64 0), .lf (.string ⟨#[]⟩), .sl true sh65 []], .sl true sh75 [], .sl true sh172 []]]) sh77 l := ⟨TFunction.sh_dd true, rfl, by decide⟩
 have hpz := fun k (h : k < l.length) => hp.2 _ (List.getElem_mem h); replace H := And.intro hpz H
 exact DVo
instance toPackage (x : TPackage) : Ct cx 46 [.d (uPackage x)] (x.sz ≤ 134217728) (.d (x.dd true)) := by
 refine Xi Tryz.func46 28 [.cell 2 49] [27] [] etas trivial ?_; intro hp h M G H E
 have hsz := x.sz_eq; unfold szs at hsz
 have hzTraits : ∀ y ∈ x.fTraits, y.sz ≤ 134217728 := fun y hy => by have := szL_le TTrait.sz hy; omega
 have hzDataTypes : ∀ y ∈ x.fDataTypes, y.sz ≤ 134217728 := fun y hy => by have := szL_le TDataType.sz hy; omega
 have hzInstances : ∀ y ∈ x.fInstances, y.sz ≤ 134217728 := fun y hy => by have := szL_le TInstance.sz hy; omega
 have hzFunctions : ∀ y ∈ x.fFunctions, y.sz ≤ 134217728 := fun y hy => by have := szL_le TFunction.sz hy; omega
 exact DVo
instance toPackageS (l : List TPackage) : Ct cx 20 [.d (.sl false sh49 (l.map (TPackage.dd false)))] (l.length ≤ 134217728 ∧ ∀ y ∈ l, y.sz ≤ 134217728) (.d (.sl true sh49 (l.map (TPackage.dd true)))) := by
 refine Xi Tryz.func20 23 [.tmp 2] [22] [] etas trivial ?_; intro hp h M G H E
 have hF : TOF (TPackage.dd true) (.st [.lf (.string ⟨#[]⟩), .sl true .one [], .sl true sh57 [], .sl true sh61 [], .sl true sh69 [], .sl true sh77 []]) sh49 l := ⟨TPackage.sh_dd true, rfl, by decide⟩
 have hpz := fun k (h : k < l.length) => hp.2 _ (List.getElem_mem h); replace H := And.intro hpz H
 exact DVo
instance toProgram (x : TProgram) : Ct cx 7 [.d (uProgram x)] (x.sz ≤ 134217728) (.d (x.dd true)) := by
 refine Xi Tryz.func7 9 [.cell 2 30] [8] [] etas trivial ?_; intro hp h M G H E
 have hsz := x.sz_eq; unfold szs at hsz
 have hzPackages : ∀ y ∈ x.fPackages, y.sz ≤ 134217728 := fun y hy => by have := szL_le TPackage.sz hy; omega
 exact DVo
instance eqStringS (l : List ByteArray) : Ct cx 125 [.d (.sl false .one (l.map dS)), .d (.sl false .one (l.map dS))] (True) (.d (.lf (.bool true))) := by
 refine Xi Tryz.func125 26 [.tmp 4] [] [] etas trivial ?_; intro hp h M G H E
 exact DVe
theorem eqTypeS_a (n : Nat) (i0 : ∀ (x : TType), Ct cx 270 [.d (uType x), .d (uType x)] (SizeOf.sizeOf x < n ∧ True) (.d (.lf (.bool true)))) : ∀ (l : List TType), Ct cx 334 [.d (.sl false sh65 (l.map (TType.dd false))), .d (.sl false sh65 (l.map (TType.dd false)))] ((∀ y ∈ l, SizeOf.sizeOf y < n) ∧ True) (.d (.lf (.bool true))) := fun l => by
 refine Xi Tryz.func334 27 [.tmp 4] [] [] etas trivial ?_; intro hp h M G H E
 have hq : ∀ k (h : k < l.length), SizeOf.sizeOf l[k] < n := fun k h => hp.1 _ (List.getElem_mem h); replace H := And.intro hq H
 exact DVe
theorem eqType_a (n : Nat) (jType : ∀ (l : List TType), Ct cx 334 [.d (.sl false sh65 (l.map (TType.dd false))), .d (.sl false sh65 (l.map (TType.dd false)))] ((∀ y ∈ l, SizeOf.sizeOf y < n) ∧ True) (.d (.lf (.bool true)))) : ∀ (x : TType), Ct cx 270 [.d (uType x), .d (uType x)] (SizeOf.sizeOf x < n + 1 ∧ True) (.d (.lf (.bool true))) := fun x => by
 refine Xi Tryz.func270 21 [.tmp 4] [] [] etas trivial ?_; intro hp h M G H E
 have uArgs : ∀ y ∈ x.fArgs, SizeOf.sizeOf y < n := fun y hy => by have := List.sizeOf_lt_of_mem hy; have := x.lt_fArgs; omega
 replace H := And.intro uArgs H
 exact DVe
theorem eqType_g : ∀ n : Nat, (∀ (x : TType), Ct cx 270 [.d (uType x), .d (uType x)] (SizeOf.sizeOf x < n ∧ True) (.d (.lf (.bool true))))
 | 0 => fun x => ⟨fk1 Tryz.func270, fun hp => absurd hp.1 (Nat.not_lt_zero _)⟩
 | n + 1 => have ih := eqType_g n; eqType_a n (eqTypeS_a n ih)
instance eqType (x : TType) : Ct cx 270 [.d (uType x), .d (uType x)] (True) (.d (.lf (.bool true))) := ⟨fk1 Tryz.func270, fun hp h => ((eqType_g _) x).cs ⟨Nat.lt_succ_self _, hp⟩ h⟩
instance eqTypeS (l : List TType) : Ct cx 334 [.d (.sl false sh65 (l.map (TType.dd false))), .d (.sl false sh65 (l.map (TType.dd false)))] (True) (.d (.lf (.bool true))) := ⟨fk1 Tryz.func334, fun hp h => (eqTypeS_a (SizeOf.sizeOf l) (eqType_g _) l).cs ⟨fun y hy => List.sizeOf_lt_of_mem hy, hp⟩ h⟩
theorem eqArmS_a (n : Nat) (i0 : ∀ (x : TArm), Ct cx 391 [.d (uArm x), .d (uArm x)] (SizeOf.sizeOf x < n ∧ True) (.d (.lf (.bool true)))) : ∀ (l : List TArm), Ct cx 339 [.d (.sl false sh172 (l.map (TArm.dd false))), .d (.sl false sh172 (l.map (TArm.dd false)))] ((∀ y ∈ l, SizeOf.sizeOf y < n) ∧ True) (.d (.lf (.bool true))) := fun l => by
 refine Xi Tryz.func339 27 [.tmp 4] [] [] etas trivial ?_; intro hp h M G H E
 have hq : ∀ k (h : k < l.length), SizeOf.sizeOf l[k] < n := fun k h => hp.1 _ (List.getElem_mem h); replace H := And.intro hq H
 exact DVe
theorem eqExprS_a (n : Nat) (i0 : ∀ (x : TExpr), Ct cx 274 [.d (uExpr x), .d (uExpr x)] (SizeOf.sizeOf x < n ∧ True) (.d (.lf (.bool true)))) : ∀ (l : List TExpr), Ct cx 338 [.d (.sl false sh75 (l.map (TExpr.dd false))), .d (.sl false sh75 (l.map (TExpr.dd false)))] ((∀ y ∈ l, SizeOf.sizeOf y < n) ∧ True) (.d (.lf (.bool true))) := fun l => by
 refine Xi Tryz.func338 27 [.tmp 4] [] [] etas trivial ?_; intro hp h M G H E
 have hq : ∀ k (h : k < l.length), SizeOf.sizeOf l[k] < n := fun k h => hp.1 _ (List.getElem_mem h); replace H := And.intro hq H
 exact DVe
theorem eqArm_a (n : Nat) (iExpr : ∀ (x : TExpr), Ct cx 274 [.d (uExpr x), .d (uExpr x)] (SizeOf.sizeOf x < n ∧ True) (.d (.lf (.bool true)))) : ∀ (x : TArm), Ct cx 391 [.d (uArm x), .d (uArm x)] (SizeOf.sizeOf x < n + 1 ∧ True) (.d (.lf (.bool true))) := fun x => by
 refine Xi Tryz.func391 22 [.tmp 4] [] [] etas trivial ?_; intro hp h M G H E
 have uBody : SizeOf.sizeOf x.fBody < n := by have := x.lt_fBody; omega
 replace H := And.intro uBody H
 exact DVe
theorem eqExpr_a (n : Nat) (jExpr : ∀ (l : List TExpr), Ct cx 338 [.d (.sl false sh75 (l.map (TExpr.dd false))), .d (.sl false sh75 (l.map (TExpr.dd false)))] ((∀ y ∈ l, SizeOf.sizeOf y < n) ∧ True) (.d (.lf (.bool true)))) (jArm : ∀ (l : List TArm), Ct cx 339 [.d (.sl false sh172 (l.map (TArm.dd false))), .d (.sl false sh172 (l.map (TArm.dd false)))] ((∀ y ∈ l, SizeOf.sizeOf y < n) ∧ True) (.d (.lf (.bool true)))) : ∀ (x : TExpr), Ct cx 274 [.d (uExpr x), .d (uExpr x)] (SizeOf.sizeOf x < n + 1 ∧ True) (.d (.lf (.bool true))) := fun x => by
 refine Xi Tryz.func274 43 [.tmp 4] [] [] etas trivial ?_; intro hp h M G H E
 have uArgs : ∀ y ∈ x.fArgs, SizeOf.sizeOf y < n := fun y hy => by have := List.sizeOf_lt_of_mem hy; have := x.lt_fArgs; omega
 replace H := And.intro uArgs H
 have uArms : ∀ y ∈ x.fArms, SizeOf.sizeOf y < n := fun y hy => by have := List.sizeOf_lt_of_mem hy; have := x.lt_fArms; omega
 replace H := And.intro uArms H
 exact DVe
theorem eqExpr_g : ∀ n : Nat, (∀ (x : TArm), Ct cx 391 [.d (uArm x), .d (uArm x)] (SizeOf.sizeOf x < n ∧ True) (.d (.lf (.bool true)))) ∧ (∀ (x : TExpr), Ct cx 274 [.d (uExpr x), .d (uExpr x)] (SizeOf.sizeOf x < n ∧ True) (.d (.lf (.bool true))))
 | 0 => ⟨fun x => ⟨fk1 Tryz.func391, fun hp => absurd hp.1 (Nat.not_lt_zero _)⟩, fun x => ⟨fk1 Tryz.func274, fun hp => absurd hp.1 (Nat.not_lt_zero _)⟩⟩
 | n + 1 => have ih := eqExpr_g n; ⟨eqArm_a n ih.2, eqExpr_a n (eqExprS_a n ih.2) (eqArmS_a n ih.1)⟩
instance eqExpr (x : TExpr) : Ct cx 274 [.d (uExpr x), .d (uExpr x)] (True) (.d (.lf (.bool true))) := ⟨fk1 Tryz.func274, fun hp h => ((eqExpr_g _).2 x).cs ⟨Nat.lt_succ_self _, hp⟩ h⟩
instance eqSignature (x : TSignature) : Ct cx 332 [.d (uSignature x), .d (uSignature x)] (True) (.d (.lf (.bool true))) := by
 refine Xi Tryz.func332 39 [.tmp 4] [] [] etas trivial ?_; intro hp h M G H E
 exact DVe
instance eqSignatureS (l : List TSignature) : Ct cx 268 [.d (.sl false sh109 (l.map (TSignature.dd false))), .d (.sl false sh109 (l.map (TSignature.dd false)))] (True) (.d (.lf (.bool true))) := by
 refine Xi Tryz.func268 27 [.tmp 4] [] [] etas trivial ?_; intro hp h M G H E
 exact DVe
instance eqTrait (x : TTrait) : Ct cx 198 [.d (uTrait x), .d (uTrait x)] (True) (.d (.lf (.bool true))) := by
 refine Xi Tryz.func198 32 [.tmp 4] [] [] etas trivial ?_; intro hp h M G H E
 exact DVe
instance eqTraitS (l : List TTrait) : Ct cx 126 [.d (.sl false sh57 (l.map (TTrait.dd false))), .d (.sl false sh57 (l.map (TTrait.dd false)))] (True) (.d (.lf (.bool true))) := by
 refine Xi Tryz.func126 27 [.tmp 4] [] [] etas trivial ?_; intro hp h M G H E
 exact DVe
instance eqConstructor (x : TConstructor) : Ct cx 333 [.d (uConstructor x), .d (uConstructor x)] (True) (.d (.lf (.bool true))) := by
 refine Xi Tryz.func333 16 [.tmp 4] [] [] etas trivial ?_; intro hp h M G H E
 exact DVe
instance eqConstructorS (l : List TConstructor) : Ct cx 269 [.d (.sl false sh116 (l.map (TConstructor.dd false))), .d (.sl false sh116 (l.map (TConstructor.dd false)))] (True) (.d (.lf (.bool true))) := by
 refine Xi Tryz.func269 27 [.tmp 4] [] [] etas trivial ?_; intro hp h M G H E
 exact DVe
instance eqDataType (x : TDataType) : Ct cx 199 [.d (uDataType x), .d (uDataType x)] (True) (.d (.lf (.bool true))) := by
 refine Xi Tryz.func199 22 [.tmp 4] [] [] etas trivial ?_; intro hp h M G H E
 exact DVe
instance eqDataTypeS (l : List TDataType) : Ct cx 127 [.d (.sl false sh61 (l.map (TDataType.dd false))), .d (.sl false sh61 (l.map (TDataType.dd false)))] (True) (.d (.lf (.bool true))) := by
 refine Xi Tryz.func127 27 [.tmp 4] [] [] etas trivial ?_; intro hp h M G H E
 exact DVe
instance eqBound (x : TBound) : Ct cx 335 [.d (uBound x), .d (uBound x)] (True) (.d (.lf (.bool true))) := by
 refine Xi Tryz.func335 16 [.tmp 4] [] [] etas trivial ?_; intro hp h M G H E
 exact DVe
instance eqBoundS (l : List TBound) : Ct cx 271 [.d (.sl false sh174 (l.map (TBound.dd false))), .d (.sl false sh174 (l.map (TBound.dd false)))] (True) (.d (.lf (.bool true))) := by
 refine Xi Tryz.func271 27 [.tmp 4] [] [] etas trivial ?_; intro hp h M G H E
 exact DVe
instance eqMethod (x : TMethod) : Ct cx 336 [.d (uMethod x), .d (uMethod x)] (True) (.d (.lf (.bool true))) := by
 refine Xi Tryz.func336 22 [.tmp 4] [] [] etas trivial ?_; intro hp h M G H E
 exact DVe
instance eqMethodS (l : List TMethod) : Ct cx 272 [.d (.sl false sh120 (l.map (TMethod.dd false))), .d (.sl false sh120 (l.map (TMethod.dd false)))] (True) (.d (.lf (.bool true))) := by
 refine Xi Tryz.func272 27 [.tmp 4] [] [] etas trivial ?_; intro hp h M G H E
 exact DVe
instance eqInstance (x : TInstance) : Ct cx 200 [.d (uInstance x), .d (uInstance x)] (True) (.d (.lf (.bool true))) := by
 refine Xi Tryz.func200 50 [.tmp 4] [] [] etas trivial ?_; intro hp h M G H E
 exact DVe
instance eqInstanceS (l : List TInstance) : Ct cx 128 [.d (.sl false sh69 (l.map (TInstance.dd false))), .d (.sl false sh69 (l.map (TInstance.dd false)))] (True) (.d (.lf (.bool true))) := by
 refine Xi Tryz.func128 27 [.tmp 4] [] [] etas trivial ?_; intro hp h M G H E
 exact DVe
instance eqParam (x : TParam) : Ct cx 337 [.d (uParam x), .d (uParam x)] (True) (.d (.lf (.bool true))) := by
 refine Xi Tryz.func337 16 [.tmp 4] [] [] etas trivial ?_; intro hp h M G H E
 exact DVe
instance eqParamS (l : List TParam) : Ct cx 273 [.d (.sl false sh153 (l.map (TParam.dd false))), .d (.sl false sh153 (l.map (TParam.dd false)))] (True) (.d (.lf (.bool true))) := by
 refine Xi Tryz.func273 27 [.tmp 4] [] [] etas trivial ?_; intro hp h M G H E
 exact DVe
instance eqFunction (x : TFunction) : Ct cx 201 [.d (uFunction x), .d (uFunction x)] (True) (.d (.lf (.bool true))) := by
 refine Xi Tryz.func201 40 [.tmp 4] [] [] etas trivial ?_; intro hp h M G H E
 exact DVe
instance eqFunctionS (l : List TFunction) : Ct cx 129 [.d (.sl false sh77 (l.map (TFunction.dd false))), .d (.sl false sh77 (l.map (TFunction.dd false)))] (True) (.d (.lf (.bool true))) := by
 refine Xi Tryz.func129 27 [.tmp 4] [] [] etas trivial ?_; intro hp h M G H E
 exact DVe
instance eqPackage (x : TPackage) : Ct cx 72 [.d (uPackage x), .d (uPackage x)] (True) (.d (.lf (.bool true))) := by
 refine Xi Tryz.func72 40 [.tmp 4] [] [] etas trivial ?_; intro hp h M G H E
 exact DVe
instance eqPackageS (l : List TPackage) : Ct cx 30 [.d (.sl false sh49 (l.map (TPackage.dd false))), .d (.sl false sh49 (l.map (TPackage.dd false)))] (True) (.d (.lf (.bool true))) := by
 refine Xi Tryz.func30 27 [.tmp 4] [] [] etas trivial ?_; intro hp h M G H E
 exact DVe
instance eqProgram (x : TProgram) : Ct cx 10 [.d (uProgram x), .d (uProgram x)] (True) (.d (.lf (.bool true))) := by
 refine Xi Tryz.func10 11 [.tmp 4] [] [] etas trivial ?_; intro hp h M G H E
 exact DVe
section
variable {α β γ : Type} [DecidableEq γ]
def sumL (f : β → Nat) : List β → Nat
 | [] => 0
 | c :: l => f c + sumL f l
theorem sumL_add (f g : β → Nat) : ∀ l : List β, sumL (fun c => f c + g c) l = sumL f l + sumL g l
 | [] => rfl
 | c :: l => by simp only [sumL, sumL_add f g l]; omega
theorem sumL_zero (l : List β) : sumL (fun _ : β => 0) l = 0 := by induction l <;> simp_all [sumL]
/-- an element is counted once at most -/
theorem sumL_one (g : β → γ) (y : γ) : ∀ l : List β, (l.map g).Nodup → sumL (fun c => if y = g c then 1 else 0) l ≤ 1
 | [], _ => by simp [sumL]
 | c :: l, h => by
  simp only [List.map_cons, List.nodup_cons] at h
  have ih := sumL_one g y l h.2
  simp only [sumL]
  by_cases e : y = g c
  ·have : sumL (fun c => if y = g c then 1 else 0) l = 0 := by
    have : ∀ m : List β, (∀ c ∈ m, y ≠ g c) → sumL (fun c => if y = g c then 1 else 0) m = 0 := by
     intro m; induction m with
     | nil => intro _; rfl
     | cons d m ih => intro hm; simp only [sumL]; rw [if_neg (hm d (by simp)), ih (fun c hc => hm c (by simp [hc]))]
    exact this l (fun d hd q => h.1 (by rw [← e, q]; exact List.mem_map_of_mem hd))
   rw [this, if_pos e]; omega
  ·rw [if_neg e]; omega
theorem sumL_count (g : β → γ) (f : α → γ) (cs : List β) (h : (cs.map g).Nodup) : ∀ a : List α, sumL (fun c => a.countP fun x => decide (f x = g c)) cs ≤ a.length
 | [] => by simp [sumL_zero]
 | x :: a => by
  have ih := sumL_count g f cs h a
  have h1 := sumL_one g (f x) cs h
  have e : (fun c => (x :: a).countP fun x => decide (f x = g c)) = fun c => (a.countP fun x => decide (f x = g c)) + if f x = g c then 1 else 0 := by
   funext c; rw [List.countP_cons]; simp
  rw [e, sumL_add, List.length_cons]; omega
theorem sumL_pig (f : β → Nat) : ∀ l : List β, (∀ c ∈ l, 1 ≤ f c) → sumL f l ≤ l.length → ∀ c ∈ l, f c = 1
 | [], _, _, c, hc => by simp at hc
 | d :: l, h1, h2, c, hc => by
  have hl : l.length ≤ sumL f l := by
   have : ∀ m : List β, (∀ c ∈ m, 1 ≤ f c) → m.length ≤ sumL f m := by
    intro m; induction m with
    | nil => intro _; simp
    | cons d m ih => intro hm; simp only [sumL, List.length_cons]; have := hm d (by simp); have := ih (fun c hc => hm c (by simp [hc])); omega
   exact this l (fun c hc => h1 c (by simp [hc]))
  simp only [sumL, List.length_cons] at h2
  have hd := h1 d (by simp)
  rcases List.mem_cons.1 hc with rfl | hc
  ·omega
  ·exact sumL_pig f l (fun c hc => h1 c (by simp [hc])) (by omega) c hc
/-- each once, by name and a further test: by the first of that name -/
theorem fit_eq (g : β → γ) (f : α → γ) (q : β → α → Bool) (cs : List β) (a : List α) (hn : (cs.map g).Nodup) (hl : a.length = cs.length) :
  (∀ c ∈ cs, (a.countP fun x => decide (f x = g c) && q c x) = 1) ↔ (∀ c ∈ cs, ∃ x, a.find? (fun x => decide (f x = g c)) = some x ∧ q c x = true) := by
 have hs := sumL_count g f cs hn a
 have one : (∀ c ∈ cs, 1 ≤ a.countP fun x => decide (f x = g c)) → ∀ c ∈ cs, (a.countP fun x => decide (f x = g c)) = 1 := fun h => sumL_pig _ cs h (by omega)
 constructor
 ·intro h c hc
  have h1 := one (fun d hd => by
   have := h d hd
   have h2 : (a.countP fun x => decide (f x = g d) && q d x) ≤ a.countP fun x => decide (f x = g d) := List.countP_mono_left (fun x _ hx => by simp at hx ⊢; exact hx.1)
   omega) c hc
  cases hf : a.find? (fun x => decide (f x = g c)) with
  | none =>
   rw [List.find?_eq_none] at hf
   have : (a.countP fun x => decide (f x = g c)) = 0 := List.countP_eq_zero.2 (fun x hx => hf x hx)
   omega
  | some x =>
   refine ⟨x, rfl, ?_⟩
   have h2 := h c hc
   -- the element that is counted
   obtain ⟨y, hy, hy2⟩ := List.countP_pos_iff.1 (show 0 < a.countP fun x => decide (f x = g c) && q c x by omega)
   simp only [Bool.and_eq_true, decide_eq_true_eq] at hy2
   have key : ∀ l : List α, (l.countP fun x => decide (f x = g c)) ≤ 1 → y ∈ l → l.find? (fun x => decide (f x = g c)) = some x → x = y := by
    intro l; induction l with
    | nil => intro _ hy; simp at hy
    | cons z l ih =>
     intro hc1 hy hf
     rw [List.countP_cons] at hc1
     by_cases e : f z = g c
     ·rw [List.find?_cons_of_pos (by simpa using e)] at hf
      cases hf
      rcases List.mem_cons.1 hy with rfl | hy
      ·rfl
      ·have : 0 < l.countP fun x => decide (f x = g c) := List.countP_pos_iff.2 ⟨y, hy, by simpa using hy2.1⟩
       simp [e] at hc1; have := hc1 y hy; exact absurd hy2.1 this
     ·rw [List.find?_cons_of_neg (by simpa using e)] at hf
      rcases List.mem_cons.1 hy with rfl | hy
      ·exact absurd hy2.1 e
      ·exact ih (by simp [e] at hc1 ⊢; exact hc1) hy hf
   rw [key a (by omega) hy hf]; exact hy2.2
 ·intro h c hc
  have h1 := one (fun d hd => by
   obtain ⟨x, hx, -⟩ := h d hd
   have h2 := List.find?_some hx
   have h3 := List.mem_of_find?_eq_some hx
   exact List.countP_pos_iff.2 ⟨x, h3, h2⟩) c hc
  obtain ⟨x, hx, hq⟩ := h c hc
  have h2 := List.find?_some hx
  have h3 := List.mem_of_find?_eq_some hx
  have h4 : 0 < a.countP fun x => decide (f x = g c) && q c x := List.countP_pos_iff.2 ⟨x, h3, by simp only [h2, hq, Bool.and_self]⟩
  have h5 : (a.countP fun x => decide (f x = g c) && q c x) ≤ a.countP fun x => decide (f x = g c) := List.countP_mono_left (fun x _ hx => by simp at hx ⊢; exact hx.1)
  omega
end
end Go.Proofs.YtdooklofebdknaaGreat
