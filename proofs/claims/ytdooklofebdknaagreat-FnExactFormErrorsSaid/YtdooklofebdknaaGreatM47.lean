/- Walks by the Den rules. No condition but sizes. -/
import Derived.Test.YtdooklofebdknaaGreatM31
import Derived.Test.YtdooklofebdknaaGreatM33
import Derived.Test.YtdooklofebdknaaGreatM41
import Derived.Test.YtdooklofebdknaaGreatM42
import Derived.Test.YtdooklofebdknaaGreatM45
import Derived.Test.YtdooklofebdknaaGreatM46
namespace Go.Proofs.YtdooklofebdknaaGreat
open Go.RowKit
set_option maxRecDepth 10000
set_option linter.unusedSimpArgs false
set_option linter.unusedVariables false
set_option maxHeartbeats 4000000
instance iSelf (y : TSignature) : Ct cx 329 [.d (.st [.lf (.string (y.fName)), .sl false sh65 ((y.fParams).map (TType.dd false)), .st [.lf (.int .i64 (y.fResult.fKind)), .lf (.string (y.fResult.fName)), .sl false sh65 ((y.fResult.fArgs).map (TType.dd false))], .lf (.bool (y.fHasDefault)), .sl false .one ((y.fVars).map (dS)), .st [.lf (.int .i64 (y.fBody.fKind)), .lf (.string (y.fBody.fTrait)), .lf (.string (y.fBody.fName)), .lf (.int .i64 (y.fBody.fN)), .st [.lf (.int .i64 (y.fBody.fType.fKind)), .lf (.string (y.fBody.fType.fName)), .sl false sh65 ((y.fBody.fType.fArgs).map (TType.dd false))], .sl false sh75 ((y.fBody.fArgs).map (TExpr.dd false)), .sl false sh172 ((y.fBody.fArms).map (TArm.dd false))]])] (y.sz ≤ 134217728) (.d (.lf (.bool (dynP y)))) := by
 refine Xi Tryz.func329 11 [.tmp 2] [] [] etas (And.intro @dynP.eq_1 <| @selfS.eq_1) ?_; intro hp h M G H E
 have qSignature := TSignature.sz_eq; have gSignature := @sz_get _ TSignature.sz; unfold szs at qSignature
 have qType := TType.sz_eq; have gType := @sz_get _ TType.sz; unfold szs at qType
 have hy : ∀ z ∈ y.fParams, z.sz ≤ 134217728 := fun z hz => by have := szL_le TType.sz hz; have := y.sz_eq; unfold szs at this; omega
 replace H := And.intro hy H
 repeat' (first | (refine IN.mk ?_; intros) | (refine iTw ?_; refine T2 ?_ ?_ <;> intro hb H <;> try exact hb.elim) | (refine LF.mk ?_; exact LX) | refine BO.mk ?_ ?_ | (apply iPJ; exact NPJ) | apply PXs.of | refine GN ?_)
instance iDynS (t : TTrait) : Ct cx 264 [.d (.st [.lf (.string (t.fName)), .sl false .one ((t.fSupertraits).map (dS)), .lf (.bool (t.fAuto)), .lf (.bool (t.fAssoc)), .sl false sh109 ((t.fSignatures).map (TSignature.dd false))])] (t.sz ≤ 134217728) (.d (.lf (.bool (dynS t)))) := by
 refine Xi Tryz.func264 12 [.tmp 2] [] [] etas (@dynS_eq) ?_; intro hp h M G H E
 have hy : ∀ z ∈ t.fSignatures, z.sz ≤ 134217728 := fun z hz => by have := szL_le TSignature.sz hz; have := t.sz_eq; unfold szs at this; omega
 replace H := And.intro hy H
 repeat' (first | (refine IN.mk ?_; intros) | (refine iTw ?_; refine T2 ?_ ?_ <;> intro hb H <;> try exact hb.elim) | (refine LF.mk ?_; exact LX) | refine BO.mk ?_ ?_ | (apply iPJ; exact NPJ) | apply PXs.of | refine GN ?_)
instance iTrAt (w : TProgram) (s : ByteArray) : Ct cx 117 [.d (.st [.sl false sh49 ((w.fPackages).map (TPackage.dd false))]), .d (.lf (.string (s)))] (True) (.tp [.d (((trR w s).1).dd false), .d (.lf (.int .i64 (((trR w s).2.1 : Nat) : Int))), .d (.lf (.bool ((trR w s).2.2)))]) := by
 refine Xiv Tryz.func117 35 [.cell 4 57, .tmp 5, .tmp 6] [18, 25, 30] [] etas (And.intro @trR.eq_1 <| And.intro @getR.eq_def <| And.intro @nmF.eq_1 <| And.intro @fs_at <| And.intro @fs_end <| @zTr.eq_1) ?_; intro hp h M G H E
 repeat' (first | (refine IN.mk ?_; intros) | (refine iTw ?_; refine T2 ?_ ?_ <;> intro hb H <;> try exact hb.elim) | (refine LF.mk ?_; exact LX) | refine GN ?_ | (refine XC [1, 4, 12, 13] [4] 14 (w.fPackages.length) (fun k0 => inP TPackage.fTraits TTrait.fName w s = fs (inF TPackage.fTraits TTrait.fName s) k0 (w.fPackages.drop k0)) ?_; intro k0 hk0 hi0) | (refine XC [1, 4, 7, 12, 13, 14, 20, 21] [4] 22 (w.fPackages[k0].fTraits.length) (fun k1 => inF TPackage.fTraits TTrait.fName s k0 w.fPackages[k0] = fs (nmF TTrait.fName s k0) k1 (w.fPackages[k0].fTraits.drop k1)) ?_; intro k1 hk1 hi1) | fail)
instance iDaAt (w : TProgram) (s : ByteArray) : Ct cx 263 [.d (.st [.sl false sh49 ((w.fPackages).map (TPackage.dd false))]), .d (.lf (.string (s)))] (True) (.tp [.d (((daR w s).1).dd false), .d (.lf (.int .i64 (((daR w s).2.1 : Nat) : Int))), .d (.lf (.bool ((daR w s).2.2)))]) := by
 refine Xiv Tryz.func263 35 [.cell 4 61, .tmp 5, .tmp 6] [18, 25, 30] [] etas (And.intro @daR.eq_1 <| And.intro @getR.eq_def <| And.intro @nmF.eq_1 <| And.intro @fs_at <| And.intro @fs_end <| @zDa.eq_1) ?_; intro hp h M G H E
 repeat' (first | (refine IN.mk ?_; intros) | (refine iTw ?_; refine T2 ?_ ?_ <;> intro hb H <;> try exact hb.elim) | (refine LF.mk ?_; exact LX) | refine GN ?_ | (refine XC [1, 4, 12, 13] [4] 14 (w.fPackages.length) (fun k0 => inP TPackage.fDataTypes TDataType.fName w s = fs (inF TPackage.fDataTypes TDataType.fName s) k0 (w.fPackages.drop k0)) ?_; intro k0 hk0 hi0) | (refine XC [1, 4, 7, 12, 13, 14, 20, 21] [4] 22 (w.fPackages[k0].fDataTypes.length) (fun k1 => inF TPackage.fDataTypes TDataType.fName s k0 w.fPackages[k0] = fs (nmF TDataType.fName s k0) k1 (w.fPackages[k0].fDataTypes.drop k1)) ?_; intro k1 hk1 hi1) | fail)
instance iFnAt (w : TProgram) (s : ByteArray) : Ct cx 265 [.d (.st [.sl false sh49 ((w.fPackages).map (TPackage.dd false))]), .d (.lf (.string (s)))] (True) (.tp [.d (((fnR w s).1).dd false), .d (.lf (.int .i64 (((fnR w s).2.1 : Nat) : Int))), .d (.lf (.bool ((fnR w s).2.2)))]) := by
 refine Xiv Tryz.func265 35 [.cell 4 77, .tmp 5, .tmp 6] [18, 25, 30] [] etas (And.intro @fnR.eq_1 <| And.intro @getR.eq_def <| And.intro @nmF.eq_1 <| And.intro @fs_at <| And.intro @fs_end <| And.intro @zFn.eq_1 <| And.intro @zT.eq_1 <| @zX.eq_1) ?_; intro hp h M G H E
 repeat' (first | (refine IN.mk ?_; intros) | (refine iTw ?_; refine T2 ?_ ?_ <;> intro hb H <;> try exact hb.elim) | (refine LF.mk ?_; exact LX) | refine GN ?_ | (refine XC [1, 4, 12, 13] [4] 14 (w.fPackages.length) (fun k0 => inP TPackage.fFunctions TFunction.fName w s = fs (inF TPackage.fFunctions TFunction.fName s) k0 (w.fPackages.drop k0)) ?_; intro k0 hk0 hi0) | (refine XC [1, 4, 7, 12, 13, 14, 20, 21] [4] 22 (w.fPackages[k0].fFunctions.length) (fun k1 => inF TPackage.fFunctions TFunction.fName s k0 w.fPackages[k0] = fs (nmF TFunction.fName s k0) k1 (w.fPackages[k0].fFunctions.drop k1)) ?_; intro k1 hk1 hi1) | fail)
instance iCtAt (w : TProgram) (s : ByteArray) : Ct cx 266 [.d (.st [.sl false sh49 ((w.fPackages).map (TPackage.dd false))]), .d (.lf (.string (s)))] (True) (.tp [.d (((ctR w s).1).dd false), .d (.lf (.int .i64 (((ctR w s).2.1 : Nat) : Int))), .d (.lf (.bool ((ctR w s).2.2)))]) := by
 refine Xiv Tryz.func266 45 [.cell 4 61, .tmp 5, .tmp 6] [19, 26, 34, 39] [] etas (And.intro @ctR.eq_1 <| And.intro @getR.eq_def <| And.intro @ctF.eq_1 <| And.intro @fs_at <| And.intro @fs_end <| @zDa.eq_1) ?_; intro hp h M G H E
 repeat' (first | (refine IN.mk ?_; intros) | (refine iTw ?_; refine T2 ?_ ?_ <;> intro hb H <;> try exact hb.elim) | (refine LF.mk ?_; exact LX) | refine GN ?_ | (refine XC [1, 4, 14, 15] [4] 16 (w.fPackages.length) (fun k0 => fs (ctH s) 0 w.fPackages = fs (ctH s) k0 (w.fPackages.drop k0)) ?_; intro k0 hk0 hi0) | (refine XC [1, 4, 14, 15, 16, 21, 22] [4] 23 (w.fPackages[k0].fDataTypes.length) (fun k1 => ctH s k0 w.fPackages[k0] = fs (ctG s) k1 (w.fPackages[k0].fDataTypes.drop k1)) ?_; intro k1 hk1 hi1) | (refine XC [1, 4, 10, 14, 15, 16, 21, 22, 23, 28, 29] [4, 10] 30 (w.fPackages[k0].fDataTypes[k1].fConstructors.length) (fun k2 => ctG s k1 w.fPackages[k0].fDataTypes[k1] = fs (ctF s w.fPackages[k0].fDataTypes[k1]) k2 (w.fPackages[k0].fDataTypes[k1].fConstructors.drop k2)) ?_; intro k2 hk2 hi2) | fail)
instance iIxK (l : List Nat) (s : Nat) : Ct cx 262 [.d (.sl false .one ((l).map (dN))), .d (.lf (.int .i64 ((s : Nat) : Int)))] (True) (.d (.lf (.int .i64 (ixK l s)))) := by
 refine Xi Tryz.func262 19 [.tmp 4] [] [] etas (And.intro @ixK.eq_1 <| And.intro @kF.eq_1 <| And.intro @fs_at <| @fs_end) ?_; intro hp h M G H E
 repeat' (first | (refine IN.mk ?_; intros) | (refine iTw ?_; refine T2 ?_ ?_ <;> intro hb H <;> try exact hb.elim) | (refine LF.mk ?_; exact LX) | refine GN ?_ | (refine XC [0, 1, 7] [] 8 (l.length) (fun k0 => fs (kF s) 0 l = fs (kF s) k0 (l.drop k0)) ?_; intro k0 hk0 hi0) | fail)
instance iCoK (l : List Nat) (s : Nat) : Ct cx 191 [.d (.sl false .one ((l).map (dN))), .d (.lf (.int .i64 ((s : Nat) : Int)))] (True) (.d (.lf (.bool (hasK l s)))) := by
 refine Xi Tryz.func191 9 [.tmp 4] [] [] etas (And.intro @ixK_has <| @ixK_has2) ?_; intro hp h M G H E
 repeat' (first | (refine IN.mk ?_; intros) | (refine iTw ?_; refine T2 ?_ ?_ <;> intro hb H <;> try exact hb.elim) | (refine LF.mk ?_; exact LX) | refine GN ?_)
instance iSees (w : TProgram) (v : List Nat) (k : Nat) : Ct cx 118 [.d (.st [.st [.sl false sh49 ((w.fPackages).map (TPackage.dd false))], .sl false .one (v.map dN)]), .d (.lf (.int .i64 ((k : Nat) : Int)))] (True) (.d (.lf (.bool (hasK v k)))) := by
 refine Xi Tryz.func118 9 [.tmp 4] [] [] etas trivial ?_; intro hp h M G H E
 repeat' (first | (refine IN.mk ?_; intros) | (refine iTw ?_; refine T2 ?_ ?_ <;> intro hb H <;> try exact hb.elim) | (refine LF.mk ?_; exact LX) | refine GN ?_)
instance iTrV (w : TProgram) (v : List Nat) (s : ByteArray) : Ct cx 51 [.d (.st [.st [.sl false sh49 ((w.fPackages).map (TPackage.dd false))], .sl false .one (v.map dN)]), .d (.lf (.string (s)))] (True) (.tp [.d (((trR w s).1).dd false), .d (.lf (.bool (trV w v s)))]) := by
 refine Xiv Tryz.func51 24 [.cell 4 57, .tmp 5] [17] [] etas (@trV.eq_1) ?_; intro hp h M G H E
 repeat' (first | (refine IN.mk ?_; intros) | (refine iTw ?_; refine T2 ?_ ?_ <;> intro hb H <;> try exact hb.elim) | (refine LF.mk ?_; exact LX) | refine BO.mk ?_ ?_ | (apply iPJ; exact NPJ) | apply PXs.of | refine GN ?_)
instance iDaV (w : TProgram) (v : List Nat) (s : ByteArray) : Ct cx 193 [.d (.st [.st [.sl false sh49 ((w.fPackages).map (TPackage.dd false))], .sl false .one (v.map dN)]), .d (.lf (.string (s)))] (True) (.tp [.d (((daR w s).1).dd false), .d (.lf (.bool (daV w v s)))]) := by
 refine Xiv Tryz.func193 24 [.cell 4 61, .tmp 5] [17] [] etas (@daV.eq_1) ?_; intro hp h M G H E
 repeat' (first | (refine IN.mk ?_; intros) | (refine iTw ?_; refine T2 ?_ ?_ <;> intro hb H <;> try exact hb.elim) | (refine LF.mk ?_; exact LX) | refine BO.mk ?_ ?_ | (apply iPJ; exact NPJ) | apply PXs.of | refine GN ?_)
instance iFnV (w : TProgram) (v : List Nat) (s : ByteArray) : Ct cx 195 [.d (.st [.st [.sl false sh49 ((w.fPackages).map (TPackage.dd false))], .sl false .one (v.map dN)]), .d (.lf (.string (s)))] (True) (.tp [.d (((fnR w s).1).dd false), .d (.lf (.bool (fnV w v s)))]) := by
 refine Xiv Tryz.func195 24 [.cell 4 77, .tmp 5] [17] [] etas (@fnV.eq_1) ?_; intro hp h M G H E
 repeat' (first | (refine IN.mk ?_; intros) | (refine iTw ?_; refine T2 ?_ ?_ <;> intro hb H <;> try exact hb.elim) | (refine LF.mk ?_; exact LX) | refine BO.mk ?_ ?_ | (apply iPJ; exact NPJ) | apply PXs.of | refine GN ?_)
instance iCtV (w : TProgram) (v : List Nat) (s : ByteArray) : Ct cx 196 [.d (.st [.st [.sl false sh49 ((w.fPackages).map (TPackage.dd false))], .sl false .one (v.map dN)]), .d (.lf (.string (s)))] (True) (.tp [.d (((ctR w s).1).dd false), .d (.lf (.int .i64 (((ctR w s).2.1 : Nat) : Int))), .d (.lf (.bool (ctV w v s)))]) := by
 refine Xiv Tryz.func196 41 [.cell 4 61, .tmp 5, .tmp 6] [30] [] etas (And.intro @ctV.eq_1 <| @ctR_da) ?_; intro hp h M G H E
 repeat' (first | (refine IN.mk ?_; intros) | (refine iTw ?_; refine T2 ?_ ?_ <;> intro hb H <;> try exact hb.elim) | (refine LF.mk ?_; exact LX) | refine BO.mk ?_ ?_ | (apply iPJ; exact NPJ) | apply PXs.of | refine GN ?_)
instance iBui_i (s : ByteArray) : Ct cx 192 [.d (.lf (.string (s)))] (True) (.d (.lf (.bool (base s)))) := ⟨fk1 Tryz.func192, fun hp h => by have q := isBuiltIn_d s h; first | exact q | simpa using q⟩
instance iDyn (w : TProgram) (v : List Nat) (s : ByteArray) : Ct cx 194 [.d (.st [.st [.sl false sh49 ((w.fPackages).map (TPackage.dd false))], .sl false .one (v.map dN)]), .d (.lf (.string (s)))] (w.sz ≤ 134217728) (.d (.lf (.int .i64 (ckD w v s)))) := by
 refine Xi Tryz.func194 18 [.tmp 4] [] [] etas (@ckD.eq_1) ?_; intro hp h M G H E
 have ht := trR_sz w
 repeat' (first | (refine IN.mk ?_; intros) | (refine iTw ?_; refine T2 ?_ ?_ <;> intro hb H <;> try exact hb.elim) | (refine LF.mk ?_; exact LX) | refine GN ?_)
instance iOwn (w : TProgram) (v : List Nat) (k : Int) (s : ByteArray) (l : List TType) : Ct cx 119 [.d (.st [.st [.sl false sh49 ((w.fPackages).map (TPackage.dd false))], .sl false .one (v.map dN)]), .d (.st [.lf (.int .i64 (k)), .lf (.string (s)), .sl false sh65 ((l).map (TType.dd false))])] (w.sz ≤ 134217728) (.d (.lf (.int .i64 (ckH w v k s l.length)))) := by
 refine Xi Tryz.func119 54 [.tmp 4] [] [] etas (@ckH.eq_1) ?_; intro hp h M G H E
 repeat' (first | (refine IN.mk ?_; intros) | (refine iTw ?_; refine T2 ?_ ?_ <;> intro hb H <;> try exact hb.elim) | (refine LF.mk ?_; exact LX) | refine GN ?_)
theorem iCkTs_a (w : TProgram) (v : List Nat) (hp : w.sz ≤ 134217728) (n : Nat) (ii : ∀ (k : Int) (s : ByteArray) (l : List TType), Ct cx 56 [.d (.st [.st [.sl false sh49 ((w.fPackages).map (TPackage.dd false))], .sl false .one (v.map dN)]), .d (.st [.lf (.int .i64 (k)), .lf (.string (s)), .sl false sh65 ((l).map (TType.dd false))])] (tSize ⟨k, s, l⟩ < n) (.d (.lf (.int .i64 (ckT w v ⟨k, s, l⟩))))) (l : List TType) (hl : tSizes l < n) (h : HP) : CS cx.P 54 [.d (.st [w.dd false, .sl false .one (v.map dN)]), .d (.sl false sh65 ((l).map (TType.dd false)))] h (.d (.lf (.int .i64 (fc (ckT w v) l)))) h := by
 have gx := @tSz_get
 refine Xe Tryz.func54 rfl 21 [.tmp 4] ?_
 let M : List Nat := [13]
 let G : List Nat := []
 have H := etas
 repeat' (first | refine GO ?_ | (refine Two.mk ?_ ?_ <;> intro hb <;> (try simp at hb) <;> (try norm_cast at hb) <;> try replace H := HN hb H) | (refine RG.mk ?_; (try clear hK hD); first | intro _ K hD hK | intro K hD hK) | (refine RF.mk ?_; intro hr) | (refine LF.mk ?_; (try clear hK hD); first | rfl | (simp [fc_at, fc_end, *]; done) | (simp_all [fc_at, fc_end]; done) | grind [fc_at, fc_end]))
 refine W.loopR [2, 8, 9] [2] (fun k0 _ => [(10, .d (.lf (.int .i64 (k0 : Int))))]) (fun _ _ => []) (l.length) (fun k0 _ => fc (ckT w v) l = fc (ckT w v) (l.drop k0)) (fun S => ()) rfl (by simp) (by first | trivial | rfl | (simp; done) | (simp [fc_at, fc_end]; done) | (simp_all [fc_at, fc_end]; done)) ?_
 intro k0 hk0 s0 hi0 T hT; simp at hT; subst hT
 repeat' (first | refine GO ?_ | (refine Two.mk ?_ ?_ <;> intro hb <;> (try simp at hb) <;> (try norm_cast at hb) <;> try replace H := HN hb H) | (refine RG.mk ?_; (try clear hK hD); first | intro _ K hD hK | intro K hD hK) | (refine RF.mk ?_; intro hr) | (refine LF.mk ?_; (try clear hK hD); first | rfl | (simp [fc_at, fc_end, *]; done) | (simp_all [fc_at, fc_end]; done) | grind [fc_at, fc_end]))
theorem iCkT_a (w : TProgram) (v : List Nat) (hp : w.sz ≤ 134217728) : ∀ (n : Nat) (x : TType), tSize x < n → ∀ h : HP, CS cx.P 56 [.d (.st [w.dd false, .sl false .one (v.map dN)]), .d ((x).dd false)] h (.d (.lf (.int .i64 (ckT w v x)))) h := by
 intro n
 induction n with
 | zero => intro x hx; omega
 | succ n ih =>
 intro x hx h
 have hsx : tSizes x.fArgs < n := by have := size_args x; omega
 have ii : ∀ (k : Int) (s : ByteArray) (l : List TType), Ct cx 56 [.d (.st [.st [.sl false sh49 ((w.fPackages).map (TPackage.dd false))], .sl false .one (v.map dN)]), .d (.st [.lf (.int .i64 (k)), .lf (.string (s)), .sl false sh65 ((l).map (TType.dd false))])] (tSize ⟨k, s, l⟩ < n) (.d (.lf (.int .i64 (ckT w v ⟨k, s, l⟩)))) := fun k s l => ⟨fk1 Tryz.func56, fun hp h => by have q := ih ⟨k, s, l⟩ hp h; first | exact q | simpa using q⟩
 have ij : ∀ l : List TType, Ct cx 54 [.d (.st [.st [.sl false sh49 ((w.fPackages).map (TPackage.dd false))], .sl false .one (v.map dN)]), .d (.sl false sh65 ((l).map (TType.dd false)))] (tSizes l < n) (.d (.lf (.int .i64 (fc (ckT w v) l)))) := fun l => ⟨fk1 Tryz.func54, fun hl h => by have q := iCkTs_a w v hp n ii l hl h; first | exact q | simpa using q⟩
 refine Xe Tryz.func56 rfl 16 [.tmp 4] ?_
 let M : List Nat := []
 let G : List Nat := []
 have H := etas
 repeat' (first | refine GO ?_ | (refine Two.mk ?_ ?_ <;> intro hb <;> (try simp at hb) <;> (try norm_cast at hb) <;> try replace H := HN hb H) | (refine RG.mk ?_; (try clear hK hD); first | intro _ K hD hK | intro K hD hK) | (refine RF.mk ?_; intro hr) | (refine LF.mk ?_; (try clear hK hD); first | rfl | (simp [ckT_eq, *]; done) | (simp_all [ckT_eq]; done) | grind [ckT_eq]))
theorem iCkT_d (w : TProgram) (v : List Nat) (x : TType) (hp : w.sz ≤ 134217728) (h : HP) : CS cx.P 56 [.d (.st [w.dd false, .sl false .one (v.map dN)]), .d ((x).dd false)] h (.d (.lf (.int .i64 (ckT w v x)))) h := iCkT_a w v hp _ x (Nat.lt_succ_self _) h
instance iCkT_i (w : TProgram) (v : List Nat) (k : Int) (s : ByteArray) (l : List TType) : Ct cx 56 [.d (.st [.st [.sl false sh49 ((w.fPackages).map (TPackage.dd false))], .sl false .one (v.map dN)]), .d (.st [.lf (.int .i64 (k)), .lf (.string (s)), .sl false sh65 ((l).map (TType.dd false))])] (w.sz ≤ 134217728) (.d (.lf (.int .i64 (ckT w v ⟨k, s, l⟩)))) := ⟨fk1 Tryz.func56, fun hp h => by have q := iCkT_d w v ⟨k, s, l⟩ hp h; first | exact q | simpa using q⟩
theorem iCkTs_d (w : TProgram) (v : List Nat) (l : List TType) (hp : w.sz ≤ 134217728) (h : HP) : CS cx.P 54 [.d (.st [w.dd false, .sl false .one (v.map dN)]), .d (.sl false sh65 ((l).map (TType.dd false)))] h (.d (.lf (.int .i64 (fc (ckT w v) l)))) h := iCkTs_a w v hp _ (fun k s l => ⟨fk1 Tryz.func56, fun _ h => by have q := iCkT_d w v ⟨k, s, l⟩ hp h; first | exact q | simpa using q⟩) l (Nat.lt_succ_self _) h
instance iCkTs_i (w : TProgram) (v : List Nat) (l : List TType) : Ct cx 54 [.d (.st [.st [.sl false sh49 ((w.fPackages).map (TPackage.dd false))], .sl false .one (v.map dN)]), .d (.sl false sh65 ((l).map (TType.dd false)))] (w.sz ≤ 134217728) (.d (.lf (.int .i64 (fc (ckT w v) l)))) := ⟨fk1 Tryz.func54, fun hp h => by have q := iCkTs_d w v l hp h; first | exact q | simpa using q⟩
instance iCkB (w : TProgram) (v : List Nat) (b : TBound) : Ct cx 121 [.d (.st [.st [.sl false sh49 ((w.fPackages).map (TPackage.dd false))], .sl false .one (v.map dN)]), .d (.st [.lf (.string (b.fTrait)), .st [.lf (.int .i64 (b.fType.fKind)), .lf (.string (b.fType.fName)), .sl false sh65 ((b.fType.fArgs).map (TType.dd false))]])] (w.sz ≤ 134217728) (.d (.lf (.int .i64 (ckB w v b)))) := by
 refine Xi Tryz.func121 20 [.tmp 4] [] [] etas (@ckB.eq_1) ?_; intro hp h M G H E
 repeat' (first | (refine IN.mk ?_; intros) | (refine iTw ?_; refine T2 ?_ ?_ <;> intro hb H <;> try exact hb.elim) | (refine LF.mk ?_; exact LX) | refine GN ?_)
instance iCkBs (w : TProgram) (v : List Nat) (l : List TBound) : Ct cx 61 [.d (.st [.st [.sl false sh49 ((w.fPackages).map (TPackage.dd false))], .sl false .one (v.map dN)]), .d (.sl false sh174 ((l).map (TBound.dd false)))] (w.sz ≤ 134217728) (.d (.lf (.int .i64 (fc (ckB w v) l)))) := by
 refine Xi Tryz.func61 21 [.tmp 4] [13] [] etas (And.intro @fc_at <| @fc_end) ?_; intro hp h M G H E
 repeat' (first | (refine IN.mk ?_; intros) | (refine iTw ?_; refine T2 ?_ ?_ <;> intro hb H <;> try exact hb.elim) | (refine LF.mk ?_; exact LX) | refine GN ?_ | (refine XC [2, 8, 9] [2] 10 (l.length) (fun k0 => fc (ckB w v) l = fc (ckB w v) (l.drop k0)) ?_; intro k0 hk0 hi0) | fail)
instance iXe (w : TProgram) (v : List Nat) (e : TExpr) : Ct cx 120 [.d (.st [.st [.sl false sh49 ((w.fPackages).map (TPackage.dd false))], .sl false .one (v.map dN)]), .d (.st [.lf (.int .i64 (e.fKind)), .lf (.string (e.fTrait)), .lf (.string (e.fName)), .lf (.int .i64 (e.fN)), .st [.lf (.int .i64 (e.fType.fKind)), .lf (.string (e.fType.fName)), .sl false sh65 ((e.fType.fArgs).map (TType.dd false))], .sl false sh75 ((e.fArgs).map (TExpr.dd false)), .sl false sh172 ((e.fArms).map (TArm.dd false))])] (w.sz ≤ 134217728) (.d (.lf (.int .i64 (xHere w v e)))) := by
 refine Xi Tryz.func120 130 [.tmp 4] [] [] etas (@xHere_eq2) ?_; intro hp h M G H E
 have hct := fun s => @ctV_lt w v s; have hcc := fun s => @ctC_at w v s; have ha0 := @arm0_at e; have ha1 := @arm0_ln e; replace H := And.intro hct (And.intro hcc (And.intro ha0 (And.intro ha1 H)))
 have hcl := fun s => ctR_cl w s
 have htz := trR_sz w
 have hsw : ∀ a b, IntKind.i64.wrap (((siR (trR w a).1 b).1.fParams.length : Int) + 1) = ((siR (trR w a).1 b).1.fParams.length : Int) + 1 := fun a b => siR_w (by have := trR_sz w a; omega) b; replace H := And.intro hsw H
 repeat' (first | (refine IN.mk ?_; intros) | (refine iTw ?_; refine T2 ?_ ?_ <;> intro hb H <;> try exact hb.elim) | (refine LF.mk ?_; exact LX) | refine BO.mk ?_ ?_ | (apply iPJ; exact NPJ) | apply PXs.of | refine GN ?_)
theorem iCkE_a (w : TProgram) (v : List Nat) (hp : w.sz ≤ 134217728) : ∀ (n : Nat) (x : TExpr), szX x < n → ∀ h : HP, CS cx.P 58 [.d (.st [w.dd false, .sl false .one (v.map dN)]), .d ((x).dd false)] h (.d (.lf (.int .i64 (ckE w v x)))) h := by
 intro n
 induction n with
 | zero => intro x hx; omega
 | succ n ih =>
 intro x hx h
 have g1 := @szX_get x; have g2 := @szX_arm x
 have ii : ∀ (e : TExpr), Ct cx 58 [.d (.st [.st [.sl false sh49 ((w.fPackages).map (TPackage.dd false))], .sl false .one (v.map dN)]), .d (.st [.lf (.int .i64 (e.fKind)), .lf (.string (e.fTrait)), .lf (.string (e.fName)), .lf (.int .i64 (e.fN)), .st [.lf (.int .i64 (e.fType.fKind)), .lf (.string (e.fType.fName)), .sl false sh65 ((e.fType.fArgs).map (TType.dd false))], .sl false sh75 ((e.fArgs).map (TExpr.dd false)), .sl false sh172 ((e.fArms).map (TArm.dd false))])] (szX e < n) (.d (.lf (.int .i64 (ckE w v e)))) := fun e => ⟨fk1 Tryz.func58, fun hp h => by have q := ih e hp h; first | exact q | simpa using q⟩
 refine Xe Tryz.func58 rfl 47 [.tmp 4] ?_
 let M : List Nat := [24, 38]
 let G : List Nat := []
 have H := etas
 repeat' (first | refine GO ?_ | (refine Two.mk ?_ ?_ <;> intro hb <;> (try simp at hb) <;> (try norm_cast at hb) <;> try replace H := HN hb H) | (refine RG.mk ?_; (try clear hK hD); first | intro _ K hD hK | intro K hD hK) | (refine RF.mk ?_; intro hr) | (refine LF.mk ?_; (try clear hK hD); first | rfl | (simp [ckE_eq2, amF, fc_at, fc_end, or0, *]; done) | (simp_all [ckE_eq2, amF, fc_at, fc_end, or0]; done) | grind [ckE_eq2, amF, fc_at, fc_end, or0]))
 refine W.loopR [2, 3, 19, 20] [2, 3] (fun k0 _ => [(21, .d (.lf (.int .i64 (k0 : Int))))]) (fun _ _ => []) (x.fArgs.length) (fun k0 _ => ckE w v x = or0 (fc (ckE w v) (x.fArgs.drop k0)) (fc (amF w v) x.fArms)) (fun S => ()) rfl (by simp) (by first | trivial | rfl | (simp; done) | (simp [ckE_eq2, amF, fc_at, fc_end, or0]; done) | (simp_all [ckE_eq2, amF, fc_at, fc_end, or0]; done)) ?_
 intro k0 hk0 s0 hi0 T hT; simp at hT; subst hT
 repeat' (first | refine GO ?_ | (refine Two.mk ?_ ?_ <;> intro hb <;> (try simp at hb) <;> (try norm_cast at hb) <;> try replace H := HN hb H) | (refine RG.mk ?_; (try clear hK hD); first | intro _ K hD hK | intro K hD hK) | (refine RF.mk ?_; intro hr) | (refine LF.mk ?_; (try clear hK hD); first | rfl | (simp [ckE_eq2, amF, fc_at, fc_end, or0, *]; done) | (simp_all [ckE_eq2, amF, fc_at, fc_end, or0]; done) | grind [ckE_eq2, amF, fc_at, fc_end, or0]))
 have hx1 : ckE w v x = fc (amF w v) x.fArms := by rw [hi0, fc_end (by omega), or0_0]
 clear hi0
 refine W.loopR [2, 33, 34] [2] (fun k1 _ => [(35, .d (.lf (.int .i64 (k1 : Int))))]) (fun _ _ => []) (x.fArms.length) (fun k1 _ => ckE w v x = fc (amF w v) (x.fArms.drop k1)) (fun S => ()) rfl (by simp) (by simpa using hx1) ?_
 intro k1 hk1 s1 hi1 T hT; simp at hT; subst hT
 repeat' (first | refine GO ?_ | (refine Two.mk ?_ ?_ <;> intro hb <;> (try simp at hb) <;> (try norm_cast at hb) <;> try replace H := HN hb H) | (refine RG.mk ?_; (try clear hK hD); first | intro _ K hD hK | intro K hD hK) | (refine RF.mk ?_; intro hr) | (refine LF.mk ?_; (try clear hK hD); first | rfl | (simp [ckE_eq2, amF, fc_at, fc_end, or0, *]; done) | (simp_all [ckE_eq2, amF, fc_at, fc_end, or0]; done) | grind [ckE_eq2, amF, fc_at, fc_end, or0]))
theorem iCkE_d (w : TProgram) (v : List Nat) (x : TExpr) (hp : w.sz ≤ 134217728) (h : HP) : CS cx.P 58 [.d (.st [w.dd false, .sl false .one (v.map dN)]), .d ((x).dd false)] h (.d (.lf (.int .i64 (ckE w v x)))) h := iCkE_a w v hp _ x (Nat.lt_succ_self _) h
instance iCkE_i (w : TProgram) (v : List Nat) (e : TExpr) : Ct cx 58 [.d (.st [.st [.sl false sh49 ((w.fPackages).map (TPackage.dd false))], .sl false .one (v.map dN)]), .d (.st [.lf (.int .i64 (e.fKind)), .lf (.string (e.fTrait)), .lf (.string (e.fName)), .lf (.int .i64 (e.fN)), .st [.lf (.int .i64 (e.fType.fKind)), .lf (.string (e.fType.fName)), .sl false sh65 ((e.fType.fArgs).map (TType.dd false))], .sl false sh75 ((e.fArgs).map (TExpr.dd false)), .sl false sh172 ((e.fArms).map (TArm.dd false))])] (w.sz ≤ 134217728) (.d (.lf (.int .i64 (ckE w v e)))) := ⟨fk1 Tryz.func58, fun hp h => by have q := iCkE_d w v e hp h; first | exact q | simpa using q⟩
theorem fcr_at {r : Nat → Int} {n k : Nat} (h : k < n) : fc r ((List.range n).drop k) = if r k = 0 then fc r ((List.range n).drop (k + 1)) else r k := by
  have := fc_at (f := r) (l := List.range n) (k := k) (by simpa using h); simpa using this
theorem ite_z (r : Int) : (if r = 0 then 0 else r) = r := by split <;> simp_all
theorem fcr_end {r : Nat → Int} {n k : Nat} (h : n ≤ k) : fc r ((List.range n).drop k) = 0 := fc_end (by simpa using h)
theorem iFirst_d (F : List AV) (n : Nat) (g : Nat → Nat) (cs : Nat → List AV) (r : Nat → Int) (hF : VwC F) (hl : F.length = n) (hg : ∀ i, i < n → F[i]? = some (.fn (g i) (cs i))) (hv : ∀ i, VwC (cs i)) (hi : ∀ i, Ct cx (g i) (cs i) (i < n) (.d (.lf (.int .i64 (r i))))) (h : HP) : CS cx.P 52 [.fr F] h (.d (.lf (.int .i64 (fc r (List.range n))))) h := by
 refine Xe Tryz.func52 rfl 18 [.tmp 2] ?_
 let M : List Nat := []
 let G : List Nat := []
 have H := etas
 have hw := fun i => (hv i).all
 have hg2 : ∀ i (h : i < F.length), F[i] = .fn (g i) (cs i) := fun i h => by have q := hg i (by omega); rw [List.getElem?_eq_getElem h] at q; exact Option.some.inj q
 replace H := And.intro hF.all (And.intro hl (And.intro hg2 (And.intro hw H)))
 repeat' (first | refine GF ?_ | refine GO ?_ | (refine Two.mk ?_ ?_ <;> intro hb <;> (try simp at hb) <;> (try norm_cast at hb) <;> try replace H := HN hb H) | (refine RG.mk ?_; (try clear hK hD); first | intro _ K hD hK | intro K hD hK) | (refine RF.mk ?_; intro hr) | (refine LF.mk ?_; (try clear hK hD); first | rfl | (simp [fcr_at, fcr_end, *]; done) | (simp_all [fcr_at, fcr_end]; done) | grind [fcr_at, fcr_end]))
 refine W.loopR [6, 7] [] (fun k0 _ => [(8, .d (.lf (.int .i64 (k0 : Int))))]) (fun _ _ => []) (n) (fun k0 _ => fc r (List.range n) = fc r ((List.range n).drop k0)) (fun S => ()) rfl (by simp [H]) (by first | trivial | rfl | (simp; done) | (simp [fcr_at, fcr_end]; done) | (simp_all [fcr_at, fcr_end]; done)) ?_
 intro k0 hk0 s0 hi0 T hT; simp at hT; subst hT
 repeat' (first | refine GF ?_ | refine GO ?_ | (refine Two.mk ?_ ?_ <;> intro hb <;> (try simp at hb) <;> (try norm_cast at hb) <;> try replace H := HN hb H) | (refine RG.mk ?_; (try clear hK hD); first | intro _ K hD hK | intro K hD hK) | (refine RF.mk ?_; intro hr) | (refine LF.mk ?_; (try clear hK hD); first | rfl | (simp [fcr_at, fcr_end, *]; done) | (simp_all [fcr_at, fcr_end]; done) | grind [fcr_at, fcr_end]))
instance iFirst3_i (g0 g1 g2 : Nat) (c0 c1 c2 : List AV) (r0 r1 r2 : Int) {p0 p1 p2 : Prop} [v0 : VwC c0] [h0 : Ct cx g0 c0 p0 (.d (.lf (.int .i64 (r0))))] [v1 : VwC c1] [h1 : Ct cx g1 c1 p1 (.d (.lf (.int .i64 (r1))))] [v2 : VwC c2] [h2 : Ct cx g2 c2 p2 (.d (.lf (.int .i64 (r2))))] : Ct cx 52 [.fr [.fn g0 c0, .fn g1 c1, .fn g2 c2]] (p0 ∧ p1 ∧ p2) (.d (.lf (.int .i64 (or0 r0 (or0 r1 r2))))) := ⟨fk1 Tryz.func52, fun hp h => by
  obtain ⟨q0, q1, q2⟩ := hp
  have q := iFirst_d [.fn g0 c0, .fn g1 c1, .fn g2 c2] 3 (fun i => match i with | 0 => g0 | 1 => g1 | _ => g2) (fun i => match i with | 0 => c0 | 1 => c1 | _ => c2) (fun i => match i with | 0 => r0 | 1 => r1 | _ => r2) inferInstance rfl (fun i hi => by rcases i with _ | _ | _ | i <;> first | rfl | omega) (fun i => by rcases i with _ | _ | i; exact v0; exact v1; exact v2) (fun i => by rcases i with _ | _ | i; exact ⟨h0.ok, fun _ => h0.cs q0⟩; exact ⟨h1.ok, fun _ => h1.cs q1⟩; exact ⟨h2.ok, fun _ => h2.cs q2⟩) h
  simpa [fc, or0, ite_z, List.range, List.range.loop] using q⟩
instance iFirst4_i (g0 g1 g2 g3 : Nat) (c0 c1 c2 c3 : List AV) (r0 r1 r2 r3 : Int) {p0 p1 p2 p3 : Prop} [v0 : VwC c0] [h0 : Ct cx g0 c0 p0 (.d (.lf (.int .i64 (r0))))] [v1 : VwC c1] [h1 : Ct cx g1 c1 p1 (.d (.lf (.int .i64 (r1))))] [v2 : VwC c2] [h2 : Ct cx g2 c2 p2 (.d (.lf (.int .i64 (r2))))] [v3 : VwC c3] [h3 : Ct cx g3 c3 p3 (.d (.lf (.int .i64 (r3))))] : Ct cx 52 [.fr [.fn g0 c0, .fn g1 c1, .fn g2 c2, .fn g3 c3]] (p0 ∧ p1 ∧ p2 ∧ p3) (.d (.lf (.int .i64 (or0 r0 (or0 r1 (or0 r2 r3)))))) := ⟨fk1 Tryz.func52, fun hp h => by
  obtain ⟨q0, q1, q2, q3⟩ := hp
  have q := iFirst_d [.fn g0 c0, .fn g1 c1, .fn g2 c2, .fn g3 c3] 4 (fun i => match i with | 0 => g0 | 1 => g1 | 2 => g2 | _ => g3) (fun i => match i with | 0 => c0 | 1 => c1 | 2 => c2 | _ => c3) (fun i => match i with | 0 => r0 | 1 => r1 | 2 => r2 | _ => r3) inferInstance rfl (fun i hi => by rcases i with _ | _ | _ | _ | i <;> first | rfl | omega) (fun i => by rcases i with _ | _ | _ | i; exact v0; exact v1; exact v2; exact v3) (fun i => by rcases i with _ | _ | _ | i; exact ⟨h0.ok, fun _ => h0.cs q0⟩; exact ⟨h1.ok, fun _ => h1.cs q1⟩; exact ⟨h2.ok, fun _ => h2.cs q2⟩; exact ⟨h3.ok, fun _ => h3.cs q3⟩) h
  simpa [fc, or0, ite_z, List.range, List.range.loop] using q⟩
instance iFirst5_i (g0 g1 g2 g3 g4 : Nat) (c0 c1 c2 c3 c4 : List AV) (r0 r1 r2 r3 r4 : Int) {p0 p1 p2 p3 p4 : Prop} [v0 : VwC c0] [h0 : Ct cx g0 c0 p0 (.d (.lf (.int .i64 (r0))))] [v1 : VwC c1] [h1 : Ct cx g1 c1 p1 (.d (.lf (.int .i64 (r1))))] [v2 : VwC c2] [h2 : Ct cx g2 c2 p2 (.d (.lf (.int .i64 (r2))))] [v3 : VwC c3] [h3 : Ct cx g3 c3 p3 (.d (.lf (.int .i64 (r3))))] [v4 : VwC c4] [h4 : Ct cx g4 c4 p4 (.d (.lf (.int .i64 (r4))))] : Ct cx 52 [.fr [.fn g0 c0, .fn g1 c1, .fn g2 c2, .fn g3 c3, .fn g4 c4]] (p0 ∧ p1 ∧ p2 ∧ p3 ∧ p4) (.d (.lf (.int .i64 (or0 r0 (or0 r1 (or0 r2 (or0 r3 r4))))))) := ⟨fk1 Tryz.func52, fun hp h => by
  obtain ⟨q0, q1, q2, q3, q4⟩ := hp
  have q := iFirst_d [.fn g0 c0, .fn g1 c1, .fn g2 c2, .fn g3 c3, .fn g4 c4] 5 (fun i => match i with | 0 => g0 | 1 => g1 | 2 => g2 | 3 => g3 | _ => g4) (fun i => match i with | 0 => c0 | 1 => c1 | 2 => c2 | 3 => c3 | _ => c4) (fun i => match i with | 0 => r0 | 1 => r1 | 2 => r2 | 3 => r3 | _ => r4) inferInstance rfl (fun i hi => by rcases i with _ | _ | _ | _ | _ | i <;> first | rfl | omega) (fun i => by rcases i with _ | _ | _ | _ | i; exact v0; exact v1; exact v2; exact v3; exact v4) (fun i => by rcases i with _ | _ | _ | _ | i; exact ⟨h0.ok, fun _ => h0.cs q0⟩; exact ⟨h1.ok, fun _ => h1.cs q1⟩; exact ⟨h2.ok, fun _ => h2.cs q2⟩; exact ⟨h3.ok, fun _ => h3.cs q3⟩; exact ⟨h4.ok, fun _ => h4.cs q4⟩) h
  simpa [fc, or0, ite_z, List.range, List.range.loop] using q⟩
end Go.Proofs.YtdooklofebdknaaGreat
