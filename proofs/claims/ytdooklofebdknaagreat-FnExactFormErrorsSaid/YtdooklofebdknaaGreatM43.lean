/- Walks by the Den rules. No condition but sizes. -/
import Derived.Test.YtdooklofebdknaaGreatM20
import Derived.Test.YtdooklofebdknaaGreatM36
import Derived.Test.YtdooklofebdknaaGreatM40
import Derived.Test.YtdooklofebdknaaGreatM41
import Derived.Test.YtdooklofebdknaaGreatM42
namespace Go.Proofs.YtdooklofebdknaaGreat
open Go.RowKit
set_option maxRecDepth 10000
set_option linter.unusedSimpArgs false
set_option maxHeartbeats 4000000
theorem dst_at (l : List ByteArray) : dst l = (List.range l.length).all (dstAt l) := rfl
instance gDst (l : List ByteArray) : Ct cx 45 [.d (.sl false .one ((l).map (dS)))] (True) (.d (.lf (.bool (dst l)))) := by
 refine Xi Tryz.func45 18 [.tmp 2] [] [] etas (And.intro @dst_at <| And.intro @all_at <| And.intro @all_end <| @dstAt_eq) ?_; intro hp h M G H E
 repeat' (first | (refine IN.mk ?_; intros) | (refine iTw ?_; refine T2 ?_ ?_ <;> intro hb H <;> try exact hb.elim) | (refine LF.mk ?_; exact LX) | refine GN ?_ | (refine XC [0] [] 3 (l.length) (fun k0 => dst l = ((List.range l.length).drop k0).all (dstAt l)) ?_; intro k0 hk0 hi0) | fail)
instance g13Words (l : List ByteArray) (most : Int) : Ct cx 91 [.d (.sl false .one ((l).map (dS))), .d (.lf (.int .i64 (most)))] (True) (.d (.lf (.bool (words l most)))) := by
 refine Xi Tryz.func91 17 [.tmp 4] [] [] etas (@words.eq_1) ?_; intro hp h M G H E
 repeat' (first | (refine IN.mk ?_; intros) | (refine iTw ?_; refine T2 ?_ ?_ <;> intro hb H <;> try exact hb.elim) | (refine LF.mk ?_; exact LX) | refine BO.mk ?_ ?_ | (apply iPJ; exact NPJ) | apply PXs.of | refine GN ?_)
instance gTv_i (k : Int) (n : ByteArray) (l : List TType) : Ct cx 277 [.d (.st [.lf (.int .i64 (k)), .lf (.string (n)), .sl false sh65 ((l).map (TType.dd false))])] (TType.sz ⟨k, n, l⟩ ≤ 134217728) (.d (.sl true .one (((tv ⟨k, n, l⟩)).map (dS)))) := ⟨fk1 Tryz.func277, fun hp h => by have q := sTv_d ⟨k, n, l⟩ hp h; first | exact q | simpa using q⟩
instance gVT_i (k : Int) (n : ByteArray) (l : List TType) : Ct cx 306 [.d (.st [.lf (.int .i64 (k)), .lf (.string (n)), .sl false sh65 ((l).map (TType.dd false))])] (TType.sz ⟨k, n, l⟩ ≤ 134217728) (.d (.lf (.bool (tValid ⟨k, n, l⟩)))) := ⟨fk1 Tryz.func306, fun hp h => by have q := sValidT_d ⟨k, n, l⟩ hp h; first | exact q | simpa using q⟩
instance gPj_i (k : Int) (n : ByteArray) (l : List TType) : Ct cx 231 [.d (.st [.lf (.int .i64 (k)), .lf (.string (n)), .sl false sh65 ((l).map (TType.dd false))])] (TType.sz ⟨k, n, l⟩ ≤ 134217728) (.d (.lf (.bool (hasPj ⟨k, n, l⟩)))) := ⟨fk1 Tryz.func231, fun hp h => by have q := sPj_d ⟨k, n, l⟩ hp h; first | exact q | simpa using q⟩
instance gZero_i (k : Int) (n : ByteArray) (l : List TType) : Ct cx 234 [.d (.st [.lf (.int .i64 (k)), .lf (.string (n)), .sl false sh65 ((l).map (TType.dd false))])] (True) (.d (.lf (.bool (zeroT ⟨k, n, l⟩)))) := ⟨fk1 Tryz.func234, fun hp h => by have q := l11Zero_d ⟨k, n, l⟩ h; first | exact q | simpa using q⟩
instance gOcc_i (v : ByteArray) (k : Int) (n : ByteArray) (l : List TType) : Ct cx 233 [.d (.lf (.string (v))), .d (.st [.lf (.int .i64 (k)), .lf (.string (n)), .sl false sh65 ((l).map (TType.dd false))])] (TType.sz ⟨k, n, l⟩ ≤ 134217728) (.d (.lf (.bool (decide (0 < occ v ⟨k, n, l⟩))))) := ⟨fk1 Tryz.func233, fun hp h => by have q := sOccurs_d v ⟨k, n, l⟩ hp h; first | exact q | simpa using q⟩
instance gFv_i (e : TExpr) : Ct cx 308 [.d (.st [.lf (.int .i64 (e.fKind)), .lf (.string (e.fTrait)), .lf (.string (e.fName)), .lf (.int .i64 (e.fN)), .st [.lf (.int .i64 (e.fType.fKind)), .lf (.string (e.fType.fName)), .sl false sh65 ((e.fType.fArgs).map (TType.dd false))], .sl false sh75 ((e.fArgs).map (TExpr.dd false)), .sl false sh172 ((e.fArms).map (TArm.dd false))])] (e.sz ≤ 134217728) (.d (.sl true .one (((fv e)).map (dS)))) := ⟨fk1 Tryz.func308, fun hp h => by have q := sFv_d e hp h; first | exact q | simpa using q⟩
instance gVX_i (e : TExpr) : Ct cx 309 [.d (.st [.lf (.int .i64 (e.fKind)), .lf (.string (e.fTrait)), .lf (.string (e.fName)), .lf (.int .i64 (e.fN)), .st [.lf (.int .i64 (e.fType.fKind)), .lf (.string (e.fType.fName)), .sl false sh65 ((e.fType.fArgs).map (TType.dd false))], .sl false sh75 ((e.fArgs).map (TExpr.dd false)), .sl false sh172 ((e.fArms).map (TArm.dd false))])] (e.sz ≤ 134217728) (.d (.lf (.bool (exV e)))) := ⟨fk1 Tryz.func309, fun hp h => by have q := sValidX_d e hp h; first | exact q | simpa using q⟩
instance gNone_i (e : TExpr) : Ct cx 305 [.d (.st [.lf (.int .i64 (e.fKind)), .lf (.string (e.fTrait)), .lf (.string (e.fName)), .lf (.int .i64 (e.fN)), .st [.lf (.int .i64 (e.fType.fKind)), .lf (.string (e.fType.fName)), .sl false sh65 ((e.fType.fArgs).map (TType.dd false))], .sl false sh75 ((e.fArgs).map (TExpr.dd false)), .sl false sh172 ((e.fArms).map (TArm.dd false))])] (True) (.d (.lf (.bool (isZX e)))) := ⟨fk1 Tryz.func305, fun hp h => by have q := l13None_d e h; first | exact q | simpa using q⟩
instance g13Vars (k : Int) (n : ByteArray) (l : List TType) (vars : List ByteArray) : Ct cx 230 [.d (.st [.lf (.int .i64 (k)), .lf (.string (n)), .sl false sh65 ((l).map (TType.dd false))]), .d (.sl false .one ((vars).map (dS)))] (TType.sz ⟨k, n, l⟩ ≤ 134217728) (.d (.lf (.bool (tOver ⟨k, n, l⟩ vars)))) := by
 refine Xi Tryz.func230 24 [.tmp 4] [] [] etas (And.intro @tOver.eq_1 <| And.intro @sub.eq_1 <| And.intro @any_at <| @any_end) ?_; intro hp h M G H E
 repeat' (first | (refine IN.mk ?_; intros) | (refine iTw ?_; refine T2 ?_ ?_ <;> intro hb H <;> try exact hb.elim) | (refine LF.mk ?_; exact LX) | refine GN ?_ | (refine XC [1, 2, 5] [2] 6 ((tv ⟨k, n, l⟩).length) (fun k0 => sub (tv ⟨k, n, l⟩) vars = !(((tv ⟨k, n, l⟩).drop k0).any fun s => !hasS vars s)) ?_; intro k0 hk0 hi0) | fail)
instance g13All (l : List TType) (vars : List ByteArray) : Ct cx 229 [.d (.sl false sh65 ((l).map (TType.dd false))), .d (.sl false .one ((vars).map (dS)))] (∀ y ∈ l, y.sz ≤ 134217728) (.d (.lf (.bool (overs l vars)))) := by
 refine Xi Tryz.func229 19 [.tmp 4] [] [] etas (And.intro @overs.eq_1 <| And.intro @any_at <| @any_end) ?_; intro hp h M G H E
 have hpp := fun k (h : k < l.length) => hp _ (List.getElem_mem h); replace H := And.intro hpp H
 repeat' (first | (refine IN.mk ?_; intros) | (refine iTw ?_; refine T2 ?_ ?_ <;> intro hb H <;> try exact hb.elim) | (refine LF.mk ?_; exact LX) | refine GN ?_ | (refine XC [0, 1] [] 5 (l.length) (fun k0 => overs l vars = !((l.drop k0).any fun y => !tOver y vars)) ?_; intro k0 hk0 hi0) | fail)
instance g13Body (e : TExpr) (vars : List ByteArray) : Ct cx 235 [.d (.st [.lf (.int .i64 (e.fKind)), .lf (.string (e.fTrait)), .lf (.string (e.fName)), .lf (.int .i64 (e.fN)), .st [.lf (.int .i64 (e.fType.fKind)), .lf (.string (e.fType.fName)), .sl false sh65 ((e.fType.fArgs).map (TType.dd false))], .sl false sh75 ((e.fArgs).map (TExpr.dd false)), .sl false sh172 ((e.fArms).map (TArm.dd false))]), .d (.sl false .one ((vars).map (dS)))] (e.sz ≤ 134217728) (.d (.lf (.bool (body e vars)))) := by
 refine Xi Tryz.func235 24 [.tmp 4] [] [] etas (And.intro @body.eq_1 <| And.intro @sub.eq_1 <| And.intro @any_at <| @any_end) ?_; intro hp h M G H E
 repeat' (first | (refine IN.mk ?_; intros) | (refine iTw ?_; refine T2 ?_ ?_ <;> intro hb H <;> try exact hb.elim) | (refine LF.mk ?_; exact LX) | refine GN ?_ | (refine XC [1, 2, 5] [2] 6 ((fv e).length) (fun k0 => sub (fv e) vars = !(((fv e).drop k0).any fun s => !hasS vars s)) ?_; intro k0 hk0 hi0) | fail)
instance gVB (b : TBound) : Ct cx 307 [.d (.st [.lf (.string (b.fTrait)), .st [.lf (.int .i64 (b.fType.fKind)), .lf (.string (b.fType.fName)), .sl false sh65 ((b.fType.fArgs).map (TType.dd false))]])] (b.fType.sz ≤ 134217728) (.d (.lf (.bool (isNm b.fTrait && tValid b.fType)))) := by
 refine Xi Tryz.func307 11 [.tmp 2] [] [] etas trivial ?_; intro hp h M G H E
 repeat' (first | (refine IN.mk ?_; intros) | (refine iTw ?_; refine T2 ?_ ?_ <;> intro hb H <;> try exact hb.elim) | (refine LF.mk ?_; exact LX) | refine BO.mk ?_ ?_ | (apply iPJ; exact NPJ) | apply PXs.of | refine GN ?_)
instance g13Where (l : List TBound) (vars : List ByteArray) : Ct cx 232 [.d (.sl false sh174 ((l).map (TBound.dd false))), .d (.sl false .one ((vars).map (dS)))] (∀ y ∈ l, y.sz ≤ 134217728) (.d (.lf (.bool (wher l vars)))) := by
 refine Xi Tryz.func232 39 [.tmp 4] [] [] etas (And.intro @wher.eq_1 <| And.intro @bndBad.eq_1 <| And.intro @any_at <| @any_end) ?_; intro hp h M G H E
 have hpp : ∀ k (h : k < l.length), (l[k]).fType.sz ≤ 134217728 := fun k h => by have := hp _ (List.getElem_mem h); have := (l[k]).sz_eq; unfold szs at this; omega
 replace H := And.intro hpp H
 repeat' (first | (refine IN.mk ?_; intros) | (refine iTw ?_; refine T2 ?_ ?_ <;> intro hb H <;> try exact hb.elim) | (refine LF.mk ?_; exact LX) | refine BO.mk ?_ ?_ | (apply iPJ; exact NPJ) | apply PXs.of | refine GN ?_ | (refine XC [0, 1] [] 5 (l.length) (fun k0 => (l.any fun b => bndBad b vars) = (l.drop k0).any fun b => bndBad b vars) ?_; intro k0 hk0 hi0) | fail)
instance g13V1 (k : Int) (n : ByteArray) (l : List TType) (s : ByteArray) : Ct cx 230 [.d (.st [.lf (.int .i64 (k)), .lf (.string (n)), .sl false sh65 ((l).map (TType.dd false))]), .d (.sl false .one [.lf (.string s)])] (TType.sz ⟨k, n, l⟩ ≤ 134217728) (.d (.lf (.bool (tOver ⟨k, n, l⟩ [s])))) := ⟨(g13Vars k n l [s]).ok, fun hp h => by have q := (g13Vars k n l [s]).cs hp h; first | exact q | simpa using q⟩
instance g13A1 (l : List TType) (s : ByteArray) : Ct cx 229 [.d (.sl false sh65 ((l).map (TType.dd false))), .d (.sl false .one [.lf (.string s)])] (∀ y ∈ l, y.sz ≤ 134217728) (.d (.lf (.bool (overs l [s])))) := ⟨(g13All l [s]).ok, fun hp h => by have q := (g13All l [s]).cs hp h; first | exact q | simpa using q⟩
instance g13Sig (x : TSignature) : Ct cx 228 [.d (.st [.lf (.string (x.fName)), .sl false sh65 ((x.fParams).map (TType.dd false)), .st [.lf (.int .i64 (x.fResult.fKind)), .lf (.string (x.fResult.fName)), .sl false sh65 ((x.fResult.fArgs).map (TType.dd false))], .lf (.bool (x.fHasDefault)), .sl false .one ((x.fVars).map (dS)), .st [.lf (.int .i64 (x.fBody.fKind)), .lf (.string (x.fBody.fTrait)), .lf (.string (x.fBody.fName)), .lf (.int .i64 (x.fBody.fN)), .st [.lf (.int .i64 (x.fBody.fType.fKind)), .lf (.string (x.fBody.fType.fName)), .sl false sh65 ((x.fBody.fType.fArgs).map (TType.dd false))], .sl false sh75 ((x.fBody.fArgs).map (TExpr.dd false)), .sl false sh172 ((x.fBody.fArms).map (TArm.dd false))]])] (x.sz ≤ 134217728) (.d (.lf (.bool (sigOk x)))) := by
 refine Xi Tryz.func228 59 [.tmp 2] [] [] etas (And.intro @sigOk.eq_1 <| @selfL.eq_1) ?_; intro hp h M G H E
 have hx := x.sz_eq; unfold szs at hx
 have hsp : ∀ y ∈ x.fParams, y.sz ≤ 134217728 := fun y hy => by have := szL_le TType.sz hy; omega
 replace H := And.intro hsp H
 have hw := i64w (n := (x.fParams.length : Int) + 1) (by omega) (by omega); replace H := And.intro hw H
 repeat' (first | (refine IN.mk ?_; intros) | (refine iTw ?_; refine T2 ?_ ?_ <;> intro hb H <;> try exact hb.elim) | (refine LF.mk ?_; exact LX) | refine BO.mk ?_ ?_ | (apply iPJ; exact NPJ) | apply PXs.of | refine GN ?_)
instance gTrait (x : TTrait) : Ct cx 160 [.d (.st [.lf (.string (x.fName)), .sl false .one ((x.fSupertraits).map (dS)), .lf (.bool (x.fAuto)), .lf (.bool (x.fAssoc)), .sl false sh109 ((x.fSignatures).map (TSignature.dd false))])] (x.sz ≤ 134217728) (.d (.lf (.bool (traitOk x)))) := by
 refine Xi Tryz.func160 59 [.tmp 2] [20] [] etas (And.intro @traitOk.eq_1 <| And.intro @any_at <| And.intro @any_end <| @mp_end) ?_; intro hp h M G H E
 have qSignature := TSignature.sz_eq; have gSignature := @sz_get _ TSignature.sz; unfold szs at qSignature
 have hx := x.sz_eq; unfold szs at hx
 repeat' (first | (refine IN.mk ?_; intros) | (refine iTw ?_; refine T2 ?_ ?_ <;> intro hb H <;> try exact hb.elim) | (refine LF.mk ?_; exact LX) | refine BO.mk ?_ ?_ | (apply iPJ; exact NPJ) | apply PXs.of | refine GN ?_ | (refine XL [1] [1] (fun k0 _ => [(4, .d (.lf (.int .i64 (k0 : Int)))), (3, .d (.sl true .one (((mp TSignature.fName x.fSignatures k0)).map (dS))))]) (fun _ _ => []) (x.fSignatures.length) (fun k0 _ => (x.fSignatures.any fun g => !sigOk g) = (x.fSignatures.drop k0).any fun g => !sigOk g) rU ?_; intro k0 hk0 s0 hi0; have hml := mp_len TSignature.fName hk0) | fail)
instance gData (x : TDataType) : Ct cx 161 [.d (.st [.lf (.string (x.fName)), .sl false .one ((x.fVars).map (dS)), .sl false sh116 ((x.fConstructors).map (TConstructor.dd false))])] (x.sz ≤ 134217728) (.d (.lf (.bool (dataOk x)))) := by
 refine Xi Tryz.func161 59 [.tmp 2] [33] [] etas (And.intro @dataOk.eq_1 <| And.intro @ctBad.eq_1 <| And.intro @any_at <| And.intro @any_end <| @mp_end) ?_; intro hp h M G H E
 have hx := x.sz_eq; unfold szs at hx
 have hcs : ∀ k (h : k < x.fConstructors.length), ∀ y ∈ (x.fConstructors[k]).fFields, y.sz ≤ 134217728 := fun k h y hy => by have h1 := szL_le TConstructor.sz (List.getElem_mem h); have h2 := (x.fConstructors[k]).sz_eq; unfold szs at h2; have h3 := szL_le TType.sz hy; omega
 replace H := And.intro hcs H
 repeat' (first | (refine IN.mk ?_; intros) | (refine iTw ?_; refine T2 ?_ ?_ <;> intro hb H <;> try exact hb.elim) | (refine LF.mk ?_; exact LX) | refine BO.mk ?_ ?_ | (apply iPJ; exact NPJ) | apply PXs.of | refine GN ?_ | (refine XL [1] [1] (fun k0 _ => [(4, .d (.lf (.int .i64 (k0 : Int)))), (3, .d (.sl true .one (((mp TConstructor.fName x.fConstructors k0)).map (dS))))]) (fun _ _ => []) (x.fConstructors.length) (fun k0 _ => (x.fConstructors.any fun c => ctBad c x.fVars) = (x.fConstructors.drop k0).any fun c => ctBad c x.fVars) rU ?_; intro k0 hk0 s0 hi0; have hml := mp_len TConstructor.fName hk0) | fail)
instance gFn (x : TFunction) : Ct cx 163 [.d (.st [.lf (.string (x.fName)), .sl false .one ((x.fVars).map (dS)), .sl false sh174 ((x.fWhere).map (TBound.dd false)), .sl false sh153 ((x.fParams).map (TParam.dd false)), .st [.lf (.int .i64 (x.fResult.fKind)), .lf (.string (x.fResult.fName)), .sl false sh65 ((x.fResult.fArgs).map (TType.dd false))], .st [.lf (.int .i64 (x.fBody.fKind)), .lf (.string (x.fBody.fTrait)), .lf (.string (x.fBody.fName)), .lf (.int .i64 (x.fBody.fN)), .st [.lf (.int .i64 (x.fBody.fType.fKind)), .lf (.string (x.fBody.fType.fName)), .sl false sh65 ((x.fBody.fType.fArgs).map (TType.dd false))], .sl false sh75 ((x.fBody.fArgs).map (TExpr.dd false)), .sl false sh172 ((x.fBody.fArms).map (TArm.dd false))]])] (x.sz ≤ 134217728) (.d (.lf (.bool (fnOk x)))) := by
 refine Xi Tryz.func163 64 [.tmp 2] [23] [] etas (And.intro @fnOk.eq_1 <| And.intro @any_at <| And.intro @any_end <| @mp_end) ?_; intro hp h M G H E
 have qParam := TParam.sz_eq; have gParam := @sz_get _ TParam.sz; unfold szs at qParam
 have hx := x.sz_eq; unfold szs at hx
 have hsw : ∀ y ∈ x.fWhere, y.sz ≤ 134217728 := fun y hy => by have := szL_le TBound.sz hy; omega
 replace H := And.intro hsw H
 repeat' (first | (refine IN.mk ?_; intros) | (refine iTw ?_; refine T2 ?_ ?_ <;> intro hb H <;> try exact hb.elim) | (refine LF.mk ?_; exact LX) | refine BO.mk ?_ ?_ | (apply iPJ; exact NPJ) | apply PXs.of | refine GN ?_ | (refine XL [1] [1] (fun k0 _ => [(4, .d (.lf (.int .i64 (k0 : Int)))), (3, .d (.sl true .one (((mp TParam.fName x.fParams k0)).map (dS))))]) (fun _ _ => []) (x.fParams.length) (fun k0 _ => (x.fParams.any fun p => !tOver p.fType x.fVars) = (x.fParams.drop k0).any fun p => !tOver p.fType x.fVars) rU ?_; intro k0 hk0 s0 hi0; have hml := mp_len TParam.fName hk0) | fail)
instance gInst (x : TInstance) : Ct cx 162 [.d (.st [.lf (.string (x.fTrait)), .sl false .one ((x.fVars).map (dS)), .st [.lf (.int .i64 (x.fHead.fKind)), .lf (.string (x.fHead.fName)), .sl false sh65 ((x.fHead.fArgs).map (TType.dd false))], .sl false sh174 ((x.fWhere).map (TBound.dd false)), .lf (.bool (x.fDefault)), .lf (.bool (x.fHasAssoc)), .st [.lf (.int .i64 (x.fAssoc.fKind)), .lf (.string (x.fAssoc.fName)), .sl false sh65 ((x.fAssoc.fArgs).map (TType.dd false))], .sl false sh120 ((x.fMethods).map (TMethod.dd false))])] (x.sz ≤ 134217728) (.d (.lf (.bool (instOk x)))) := by
 refine Xi Tryz.func162 119 [.tmp 2] [93, 112] [] etas (And.intro @instOk.eq_1 <| And.intro @inst1.eq_1 <| And.intro @inst2.eq_1 <| And.intro @mthBad.eq_1 <| And.intro @any_at <| And.intro @any_end <| @mp_end) ?_; intro hp h M G H E
 have qMethod := TMethod.sz_eq; have gMethod := @sz_get _ TMethod.sz; unfold szs at qMethod
 have hx := x.sz_eq; unfold szs at hx
 have hsw : ∀ y ∈ x.fWhere, y.sz ≤ 134217728 := fun y hy => by have := szL_le TBound.sz hy; omega
 replace H := And.intro hsw H
 repeat' (first | (refine IN.mk ?_; intros) | (refine iTw ?_; refine T2 ?_ ?_ <;> intro hb H <;> try exact hb.elim) | (refine LF.mk ?_; exact LX) | refine BO.mk ?_ ?_ | (apply iPJ; exact NPJ) | apply PXs.of | refine GN ?_ | (refine XC [1] [1] 3 (x.fVars.length) (fun k0 => (x.fVars.any fun v => !decide (0 < occ v x.fHead)) = (x.fVars.drop k0).any fun v => !decide (0 < occ v x.fHead)) ?_; intro k0 hk0 hi0) | (refine XL [1] [1] (fun k1 _ => [(5, .d (.lf (.int .i64 (k1 : Int)))), (4, .d (.sl true .one (((mp TMethod.fName x.fMethods k1)).map (dS))))]) (fun _ _ => []) (x.fMethods.length) (fun k1 _ => x.fMethods.any mthBad = (x.fMethods.drop k1).any mthBad) rU ?_; intro k1 hk1 s1 hi1; have hml := mp_len TMethod.fName hk1) | fail)
def ctNm (d : TDataType) : List ByteArray := d.fConstructors.map TConstructor.fName
theorem ctNm_fl {x : TPackage} {k : Nat} (h : x.fDataTypes.length ≤ k) : fl ctNm x.fDataTypes k = ctAll x := by rw [fl_end h]; rfl
theorem ctNm_len {l : List TDataType} {k j : Nat} (h : k < l.length) : (fl ctNm l k ++ mp TConstructor.fName l[k].fConstructors j).length ≤ szL TDataType.sz l := by
  have h1 := ctL_len l
  have e : fl ctNm l (k + 1) = fl ctNm l k ++ ctNm l[k] := fl_nx h
  have h2 : (mp TConstructor.fName l[k].fConstructors j).length ≤ (ctNm l[k]).length := by unfold mp ctNm; simp; omega
  have h3 : (fl ctNm l (k + 1)).length ≤ (l.flatMap ctNm).length := by
    unfold fl
    conv => rhs; rw [← List.take_append_drop (k + 1) l, List.flatMap_append, List.length_append]
    omega
  have h4 : (l.flatMap ctNm).length ≤ szL TDataType.sz l := h1
  rw [e] at h3
  simp only [List.length_append] at h3 ⊢
  omega
def cN (x : TPackage) (k j : Nat) : List ByteArray := fl ctNm x.fDataTypes k ++ ((x.fDataTypes[k]?).map fun d => mp TConstructor.fName d.fConstructors j).getD []
theorem cN_at {x : TPackage} {k j : Nat} (h : k < x.fDataTypes.length) : cN x k j = fl ctNm x.fDataTypes k ++ mp TConstructor.fName x.fDataTypes[k].fConstructors j := by unfold cN; rw [List.getElem?_eq_getElem h]; rfl
theorem cN_zero (x : TPackage) (k : Nat) : cN x k 0 = fl ctNm x.fDataTypes k := by unfold cN; cases x.fDataTypes[k]? <;> simp
theorem cN_nx {x : TPackage} {k j : Nat} (h : k < x.fDataTypes.length) (hj : j < x.fDataTypes[k].fConstructors.length) : cN x k (j + 1) = cN x k j ++ [x.fDataTypes[k].fConstructors[j].fName] := by rw [cN_at h, cN_at h, mp_nx hj, List.append_assoc]
theorem cN_end {x : TPackage} {k j : Nat} (h : k < x.fDataTypes.length) (e : x.fDataTypes[k].fConstructors.length ≤ j) : cN x k j = fl ctNm x.fDataTypes (k + 1) := by rw [cN_at h, fl_nx h, mp_end e]; rfl
theorem cN_len (x : TPackage) (k j : Nat) : (cN x k j).length ≤ szL TDataType.sz x.fDataTypes := by
  rcases Nat.lt_or_ge k x.fDataTypes.length with h | h
  · rw [cN_at h]; exact ctNm_len h
  · have h1 : (x.fDataTypes.flatMap ctNm).length ≤ szL TDataType.sz x.fDataTypes := ctL_len x.fDataTypes
    unfold cN; rw [List.getElem?_eq_none h, fl_end h]; simpa [fa] using h1
attribute [simp] cN_zero fl_zero
theorem nT_mp {x : TPackage} {k : Nat} (h : x.fTraits.length ≤ k) : mp TTrait.fName x.fTraits k = nT x := mp_end h
theorem nD_mp {x : TPackage} {k : Nat} (h : x.fDataTypes.length ≤ k) : mp TDataType.fName x.fDataTypes k = nD x := mp_end h
theorem nF_mp {x : TPackage} {k : Nat} (h : x.fFunctions.length ≤ k) : mp TFunction.fName x.fFunctions k = nF x := mp_end h
instance gNames (x : TPackage) : Ct cx 44 [.d (.st [.lf (.string (x.fName)), .sl false .one ((x.fDeps).map (dS)), .sl false sh57 ((x.fTraits).map (TTrait.dd false)), .sl false sh61 ((x.fDataTypes).map (TDataType.dd false)), .sl false sh69 ((x.fInstances).map (TInstance.dd false)), .sl false sh77 ((x.fFunctions).map (TFunction.dd false))])] (x.sz ≤ 134217728) (.tp [.d (.sl true .one (((nT x)).map (dS))), .d (.sl true .one (((nD x)).map (dS))), .d (.sl true .one (((ctAll x)).map (dS))), .d (.sl true .one (((nF x)).map (dS)))]) := by
 refine Xi Tryz.func44 94 [.tmp 2, .tmp 3, .tmp 4, .tmp 5] [25, 41, 61, 81, 90, 91, 92, 93] [] etas (And.intro @nT_mp <| And.intro @nD_mp <| And.intro @nF_mp <| And.intro @ctNm_fl <| And.intro @cN_nx <| @cN_end) ?_; intro hp h M G H E
 have hx := x.sz_eq; unfold szs at hx
 repeat' (first | (refine IN.mk ?_; intros) | (refine iTw ?_; refine T2 ?_ ?_ <;> intro hb H <;> try exact hb.elim) | (refine LF.mk ?_; exact LX) | refine GN ?_ | (refine XL [1, 7, 8, 9] [1] (fun k0 _ => [(10, .d (.lf (.int .i64 (k0 : Int)))), (6, .d (.sl true .one (((mp TTrait.fName x.fTraits k0)).map (dS))))]) (fun _ _ => []) (x.fTraits.length) (fun _ _ => True) rU ?_; intro k0 hk0 s0 hi0; have hml := mp_len TTrait.fName hk0) | (refine XL [1, 6, 9] [1] (fun k1 _ => [(11, .d (.lf (.int .i64 (k1 : Int)))), (7, .d (.sl true .one (((mp TDataType.fName x.fDataTypes k1)).map (dS)))), (8, .d (.sl true .one (((fl ctNm x.fDataTypes k1)).map (dS))))]) (fun _ _ => []) (x.fDataTypes.length) (fun _ _ => True) rU ?_; intro k1 hk1 s1 hi1; have hml := mp_len TDataType.fName hk1) | (refine XL [1, 6, 7, 9, 11] [1] (fun k2 _ => [(12, .d (.lf (.int .i64 (k2 : Int)))), (8, .d (.sl true .one (((cN x k1 k2)).map (dS))))]) (fun _ _ => []) (x.fDataTypes[k1].fConstructors.length) (fun _ _ => True) rU ?_; intro k2 hk2 s2 hi2; have hcl := cN_len x k1 k2) | (refine XL [1, 6, 7, 8] [1] (fun k3 _ => [(13, .d (.lf (.int .i64 (k3 : Int)))), (9, .d (.sl true .one (((mp TFunction.fName x.fFunctions k3)).map (dS))))]) (fun _ _ => []) (x.fFunctions.length) (fun _ _ => True) rU ?_; intro k3 hk3 s3 hi3; have hml := mp_len TFunction.fName hk3) | fail)
instance gRight (x : TPackage) : Ct cx 93 [.d (.st [.lf (.string (x.fName)), .sl false .one ((x.fDeps).map (dS)), .sl false sh57 ((x.fTraits).map (TTrait.dd false)), .sl false sh61 ((x.fDataTypes).map (TDataType.dd false)), .sl false sh69 ((x.fInstances).map (TInstance.dd false)), .sl false sh77 ((x.fFunctions).map (TFunction.dd false))])] (x.sz ≤ 134217728) (.d (.lf (.bool (rightOk x)))) := by
 refine Xi Tryz.func93 63 [.tmp 2] [] [] etas (And.intro @rightOk.eq_1 <| And.intro @any_at <| @any_end) ?_; intro hp h M G H E
 have qTrait := TTrait.sz_eq; have gTrait := @sz_get _ TTrait.sz; unfold szs at qTrait
 have qDataType := TDataType.sz_eq; have gDataType := @sz_get _ TDataType.sz; unfold szs at qDataType
 have qInstance := TInstance.sz_eq; have gInstance := @sz_get _ TInstance.sz; unfold szs at qInstance
 have qFunction := TFunction.sz_eq; have gFunction := @sz_get _ TFunction.sz; unfold szs at qFunction
 have hx := x.sz_eq; unfold szs at hx
 repeat' (first | (refine IN.mk ?_; intros) | (refine iTw ?_; refine T2 ?_ ?_ <;> intro hb H <;> try exact hb.elim) | (refine LF.mk ?_; exact LX) | refine GN ?_ | (refine XC [1] [1] 3 (x.fTraits.length) (fun k0 => (x.fTraits.any fun t => !traitOk t) = (x.fTraits.drop k0).any fun t => !traitOk t) ?_; intro k0 hk0 hi0) | (refine XC [1] [1] 4 (x.fDataTypes.length) (fun k1 => (x.fDataTypes.any fun t => !dataOk t) = (x.fDataTypes.drop k1).any fun t => !dataOk t) ?_; intro k1 hk1 hi1) | (refine XC [1] [1] 5 (x.fInstances.length) (fun k2 => (x.fInstances.any fun t => !instOk t) = (x.fInstances.drop k2).any fun t => !instOk t) ?_; intro k2 hk2 hi2) | (refine XC [1] [1] 6 (x.fFunctions.length) (fun k3 => (x.fFunctions.any fun t => !fnOk t) = (x.fFunctions.drop k3).any fun t => !fnOk t) ?_; intro k3 hk3 hi3) | fail)
instance gPkg (x : TPackage) : Ct cx 36 [.d (.st [.lf (.string (x.fName)), .sl false .one ((x.fDeps).map (dS)), .sl false sh57 ((x.fTraits).map (TTrait.dd false)), .sl false sh61 ((x.fDataTypes).map (TDataType.dd false)), .sl false sh69 ((x.fInstances).map (TInstance.dd false)), .sl false sh77 ((x.fFunctions).map (TFunction.dd false))])] (x.sz ≤ 134217728) (.d (.lf (.bool (pkgOk x)))) := by
 refine Xi Tryz.func36 67 [.tmp 2] [] [] etas (And.intro @pkgOk.eq_1 <| And.intro @pk1.eq_1 <| And.intro @pk2.eq_1 <| And.intro @nT.eq_1 <| And.intro @nD.eq_1 <| @nF.eq_1) ?_; intro hp h M G H E
 have hx := x.sz_eq; unfold szs at hx
 have hw1 := i64w (n := (x.fTraits.length : Int) + x.fDataTypes.length) (by omega) (by omega); have hw2 := i64w (n := (x.fTraits.length : Int) + x.fDataTypes.length + x.fInstances.length) (by omega) (by omega); have hw3 := i64w (n := (x.fTraits.length : Int) + x.fDataTypes.length + x.fInstances.length + x.fFunctions.length) (by omega) (by omega); replace H := And.intro hw1 (And.intro hw2 (And.intro hw3 H))
 repeat' (first | (refine IN.mk ?_; intros) | (refine iTw ?_; refine T2 ?_ ?_ <;> intro hb H <;> try exact hb.elim) | (refine LF.mk ?_; exact LX) | refine BO.mk ?_ ?_ | (apply iPJ; exact NPJ) | apply PXs.of | refine GN ?_)
instance sPkIx_i (w : TProgram) (s : ByteArray) : Ct cx 37 [.d (.st [.sl false sh49 ((w.fPackages).map (TPackage.dd false))]), .d (.lf (.string (s)))] (w.sz ≤ 134217728) (.d (.lf (.int .i64 (pIx w s)))) := ⟨fk1 Tryz.func37, fun hp h => by have q := sPkIx_d w s hp h; first | exact q | simpa using q⟩
instance sDepV (w : TProgram) : Ct cx 17 [.d (.st [.sl false sh49 ((w.fPackages).map (TPackage.dd false))])] (w.sz ≤ 134217728) (.d (.lf (.bool (depsB pkgOk w)))) := by
 refine Xi Tryz.func17 51 [.tmp 2] [17] [] etas (And.intro @depsB_eq <| And.intro @dpF_eq <| And.intro @dpD.eq_1 <| And.intro @fs_at <| And.intro @fs_end <| And.intro @bad_eq <| And.intro @all_at <| And.intro @all_end <| And.intro @isNone_none <| @isNone_some) ?_; intro hp h M G H E
 have qProgram := TProgram.sz_eq; have gProgram := @sz_get _ TProgram.sz; unfold szs at qProgram
 have qPackage := TPackage.sz_eq; have gPackage := @sz_get _ TPackage.sz; unfold szs at qPackage
 repeat' (first | (refine IN.mk ?_; intros) | (refine iTw ?_; refine T2 ?_ ?_ <;> intro hb H <;> try exact hb.elim) | (refine LF.mk ?_; exact LX) | refine BO.mk ?_ ?_ | (apply iPJ; exact NPJ) | apply PXs.of | refine GN ?_ | (refine XC [1] [1] 3 (w.fPackages.length) (fun k0 => fs (bad (dpF w)) 0 w.fPackages = fs (bad (dpF w)) k0 (w.fPackages.drop k0)) ?_; intro k0 hk0 hi0) | (refine XC [1, 3, 4] [1, 4] 5 (w.fPackages[k0].fDeps.length) (fun k1 => w.fPackages[k0].fDeps.all (dpD w k0) = (w.fPackages[k0].fDeps.drop k1).all (dpD w k0)) ?_; intro k1 hk1 hi1) | fail)
theorem uq_fa (l : List TPackage) : uq l = (dst (fa nT l) && dst (fa nD l) && dst (fa ctAll l) && dst (fa nF l)) := rfl
instance sNmU (w : TProgram) : Ct cx 19 [.d (.st [.sl false sh49 ((w.fPackages).map (TPackage.dd false))])] (w.sz ≤ 134217728) (.d (.lf (.bool (uq w.fPackages)))) := by
 refine Xi Tryz.func19 56 [.tmp 2] [30, 31, 33, 34, 36, 37, 39, 40] [] etas (And.intro @uq_fa <| @fl_zero) ?_; intro hp h M G H E
 have qProgram := TProgram.sz_eq; have gProgram := @sz_get _ TProgram.sz; unfold szs at qProgram
 have qPackage := TPackage.sz_eq; have gPackage := @sz_get _ TPackage.sz; unfold szs at qPackage
 have hwz := w.sz_eq; unfold szs at hwz
 repeat' (first | (refine IN.mk ?_; intros) | (refine iTw ?_; refine T2 ?_ ?_ <;> intro hb H <;> try (first | exact hb.elim | (exfalso; omega))) | (refine LF.mk ?_; exact LX) | refine BO.mk ?_ ?_ | (apply iPJ; exact NPJ) | apply PXs.of | refine GN ?_ | (refine XL [1] [1] (fun k0 _ => [(7, .d (.lf (.int .i64 (k0 : Int)))), (3, .d (.sl true .one (((fl nT w.fPackages k0)).map (dS)))), (4, .d (.sl true .one (((fl nD w.fPackages k0)).map (dS)))), (5, .d (.sl true .one (((fl ctAll w.fPackages k0)).map (dS)))), (6, .d (.sl true .one (((fl nF w.fPackages k0)).map (dS))))]) (fun _ _ => []) (w.fPackages.length) (fun _ _ => True) rU ?_; intro k0 hk0 s0 hi0; have hl0 : (fl nT w.fPackages k0).length ≤ _ := gN_len nT_le w.fPackages k0; have hn0 : w.fPackages.length ≤ k0 → fl nT w.fPackages k0 = fa nT w.fPackages := fl_end; have hl1 : (fl nD w.fPackages k0).length ≤ _ := gN_len nD_le w.fPackages k0; have hn1 : w.fPackages.length ≤ k0 → fl nD w.fPackages k0 = fa nD w.fPackages := fl_end; have hl2 : (fl ctAll w.fPackages k0).length ≤ _ := gN_len ct_le w.fPackages k0; have hn2 : w.fPackages.length ≤ k0 → fl ctAll w.fPackages k0 = fa ctAll w.fPackages := fl_end; have hl3 : (fl nF w.fPackages k0).length ≤ _ := gN_len nF_le w.fPackages k0; have hn3 : w.fPackages.length ≤ k0 → fl nF w.fPackages k0 = fa nF w.fPackages := fl_end; by_cases hkk : k0 < w.fPackages.length; rotate_left; have he0 := hn0 (by omega); rw [he0] at hl0; replace H := And.intro he0 H; have he1 := hn1 (by omega); rw [he1] at hl1; replace H := And.intro he1 H; have he2 := hn2 (by omega); rw [he2] at hl2; replace H := And.intro he2 H; have he3 := hn3 (by omega); rw [he3] at hl3; replace H := And.intro he3 H; rotate_left; have hm0 : (fl nT w.fPackages (k0 + 1)).length ≤ _ := gN_len nT_le w.fPackages (k0 + 1); have hx0 := fl_nx (f := nT) hkk; rw [hx0, List.length_append] at hm0; replace H := And.intro hx0 H; have hm1 : (fl nD w.fPackages (k0 + 1)).length ≤ _ := gN_len nD_le w.fPackages (k0 + 1); have hx1 := fl_nx (f := nD) hkk; rw [hx1, List.length_append] at hm1; replace H := And.intro hx1 H; have hm2 : (fl ctAll w.fPackages (k0 + 1)).length ≤ _ := gN_len ct_le w.fPackages (k0 + 1); have hx2 := fl_nx (f := ctAll) hkk; rw [hx2, List.length_append] at hm2; replace H := And.intro hx2 H; have hm3 : (fl nF w.fPackages (k0 + 1)).length ≤ _ := gN_len nF_le w.fPackages (k0 + 1); have hx3 := fl_nx (f := nF) hkk; rw [hx3, List.length_append] at hm3; replace H := And.intro hx3 H) | fail)
instance sForE (w : TProgram) : Ct cx 6 [.d (.st [.sl false sh49 ((w.fPackages).map (TPackage.dd false))])] (w.sz ≤ 134217728) (.d (.sl true sh40 (((feE w)).map (TFormError.dd true)))) := by
 refine Xi Tryz.func6 33 [.tmp 2] [9, 20, 28, 32] [] etas (And.intro @feE.eq_1 <| @dupE.eq_1) ?_; intro hp h M G H E
 repeat' (first | (refine IN.mk ?_; intros) | (refine iTw ?_; refine T2 ?_ ?_ <;> intro hb H <;> try exact hb.elim) | (refine LF.mk ?_; exact LX) | refine GN ?_ | (refine XL [1] [1] (fun k0 _ => [(4, .d (.lf (.int .i64 (k0 : Int)))), (3, .d (.sl true sh40 (((feK w k0)).map (TFormError.dd true))))]) (fun _ _ => []) (w.fPackages.length) (fun _ _ => True) rU ?_; intro k0 hk0 s0 hi0; have hfk : k0 < w.fPackages.length → (feK w k0).length + (pkE w k0).length ≤ w.sz := feK_pk; have hfl := feK_sz w hk0; (have hfe : w.fPackages.length ≤ k0 → feK w k0 = feK w w.fPackages.length := fun h => by rw [show k0 = w.fPackages.length by omega])) | fail)
theorem iAdd_d (c : Int) (i : Nat) (k s : ByteArray) (o : List TFormError) (ho : o.length ≤ 1073741824) (lv kk : Nat) (h : HP) (hcap : hpg h lv kk = some (.d (.sl true sh40 ((o).map (TFormError.dd true))))) : CS cx.P 23 [.d (.lf (.int .i64 (c))), .d (.lf (.string (k))), .d (.lf (.string (s))), .pt lv kk [], .el (.lf (.int .i64 (i : Int)))] h (.tp []) (hps h lv kk (some (.d (.sl true sh40 (((o ++ feA c i k s)).map (TFormError.dd true)))))) := by
 have hc2 := hpgD hcap
 have hc3 : ∀ x : DD, hpg (upH (hps h lv kk (some (.d x)))) lv kk = some (.d x) := fun x => hpgD (hpg_self hcap)
 refine Ze Tryz.func23 rfl 18 ?_
 apply Zr; intros
 iterate 2 (refine Zo ?_ (by simp [hc2, hc3] <;> omega); simp [hc2, hc3])
 exact Zx
 refine Zc rfl ?_ ?_ <;> intro hb0 <;> try simp at hb0
 have ht : feA c i k s = [⟨c, i, k, s⟩] := by simp [feA, hb0]
 have hsm : True := trivial
 apply Zs; intros
 refine Zm [10] ?_ (by simp [hc2, hc3] <;> omega); simp [hc2, hc3]
 iterate 8 (refine Zo ?_ (by simp [hc2, hc3] <;> omega); simp [hc2, hc3])
 exact Zx
 refine ⟨.inl rfl, ⟨_, congrArg (List.cons _) (by simp [ht, hsm])⟩, ?_⟩
 simp [Tryz.f23, ht]
 have ht : feA c i k s = [] := by simp [feA, hb0]
 have hsm := hps_same _ _ _ _ hcap
 refine W.skip ?_
 refine ⟨.inl rfl, ⟨_, congrArg (List.cons _) (by simp [ht, hsm])⟩, ?_⟩
 simp [Tryz.f23, ht]
end Go.Proofs.YtdooklofebdknaaGreat
