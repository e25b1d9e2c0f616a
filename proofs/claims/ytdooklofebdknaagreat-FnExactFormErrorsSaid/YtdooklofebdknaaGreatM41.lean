/- The errors of a package, declaration by declaration (plain); Walks by the Den rules; Substitutions and unification (plain definitions): what they do, and that unification ends; Sizes of what is found by name (plain). No condition but sizes. -/
import Derived.Test.YtdooklofebdknaaGreatM29
import Derived.Test.YtdooklofebdknaaGreatM31
import Derived.Test.YtdooklofebdknaaGreatM33
import Derived.Test.YtdooklofebdknaaGreatM40
namespace Go.Proofs.YtdooklofebdknaaGreat
open Go.RowKit
set_option maxRecDepth 10000
set_option linter.unusedSimpArgs false
set_option maxHeartbeats 4000000
def r0 (w : TProgram) (i : Nat) (p : TPackage) (k : Nat) : List TFormError := fl (feT w i) p.fTraits k
theorem r0_nx {w : TProgram} {i : Nat} {p : TPackage} {k : Nat} (h : k < p.fTraits.length) : r0 w i p (k + 1) = r0 w i p k ++ feT w i p.fTraits[k] := by
 unfold r0; rw [fl_nx h]
theorem r0_le (w : TProgram) (i : Nat) (p : TPackage) (k : Nat) : (r0 w i p k).length ≤ p.sz := by
 have hk := fl_le (f := feT w i) (fun x => feA_le _ _ _ _) p.fTraits k
 have hz := p.sz_eq; unfold szs at hz
 unfold r0; omega
def r1 (w : TProgram) (i : Nat) (p : TPackage) (k : Nat) : List TFormError := fa (feT w i) p.fTraits ++ fl (feD w i) p.fDataTypes k
theorem r1_nx {w : TProgram} {i : Nat} {p : TPackage} {k : Nat} (h : k < p.fDataTypes.length) : r1 w i p (k + 1) = r1 w i p k ++ feD w i p.fDataTypes[k] := by
 unfold r1; rw [fl_nx h]; simp only [List.append_assoc]
theorem r1_le (w : TProgram) (i : Nat) (p : TPackage) (k : Nat) : (r1 w i p k).length ≤ p.sz := by
 have h0 := fa_le (f := feT w i) (fun x => feA_le _ _ _ _) p.fTraits
 have hk := fl_le (f := feD w i) (fun x => feA_le _ _ _ _) p.fDataTypes k
 have hz := p.sz_eq; unfold szs at hz
 unfold r1; simp only [List.length_append]; omega
def r2 (w : TProgram) (i : Nat) (p : TPackage) (k : Nat) : List TFormError := fa (feT w i) p.fTraits ++ fa (feD w i) p.fDataTypes ++ fl (feI w i) p.fInstances k
theorem r2_nx {w : TProgram} {i : Nat} {p : TPackage} {k : Nat} (h : k < p.fInstances.length) : r2 w i p (k + 1) = r2 w i p k ++ feI w i p.fInstances[k] := by
 unfold r2; rw [fl_nx h]; simp only [List.append_assoc]
theorem r2_le (w : TProgram) (i : Nat) (p : TPackage) (k : Nat) : (r2 w i p k).length ≤ p.sz := by
 have h0 := fa_le (f := feT w i) (fun x => feA_le _ _ _ _) p.fTraits
 have h1 := fa_le (f := feD w i) (fun x => feA_le _ _ _ _) p.fDataTypes
 have hk := fl_le (f := feI w i) (fun x => feA_le _ _ _ _) p.fInstances k
 have hz := p.sz_eq; unfold szs at hz
 unfold r2; simp only [List.length_append]; omega
def r3 (w : TProgram) (i : Nat) (p : TPackage) (k : Nat) : List TFormError := fa (feT w i) p.fTraits ++ fa (feD w i) p.fDataTypes ++ fa (feI w i) p.fInstances ++ fl (feF w i) p.fFunctions k
theorem r3_nx {w : TProgram} {i : Nat} {p : TPackage} {k : Nat} (h : k < p.fFunctions.length) : r3 w i p (k + 1) = r3 w i p k ++ feF w i p.fFunctions[k] := by
 unfold r3; rw [fl_nx h]; simp only [List.append_assoc]
theorem r3_le (w : TProgram) (i : Nat) (p : TPackage) (k : Nat) : (r3 w i p k).length ≤ p.sz := by
 have h0 := fa_le (f := feT w i) (fun x => feA_le _ _ _ _) p.fTraits
 have h1 := fa_le (f := feD w i) (fun x => feA_le _ _ _ _) p.fDataTypes
 have h2 := fa_le (f := feI w i) (fun x => feA_le _ _ _ _) p.fInstances
 have hk := fl_le (f := feF w i) (fun x => feA_le _ _ _ _) p.fFunctions k
 have hz := p.sz_eq; unfold szs at hz
 unfold r3; simp only [List.length_append]; omega
theorem r0_zero (w : TProgram) (i : Nat) (p : TPackage) : r0 w i p 0 = [] := rfl
theorem r0_end {w : TProgram} {i : Nat} {p : TPackage} {k : Nat} (h : p.fTraits.length ≤ k) : r0 w i p k = r1 w i p 0 := by
 unfold r0 r1; rw [fl_end h, fl_zero, List.append_nil]
theorem r1_end {w : TProgram} {i : Nat} {p : TPackage} {k : Nat} (h : p.fDataTypes.length ≤ k) : r1 w i p k = r2 w i p 0 := by
 unfold r1 r2; rw [fl_end h, fl_zero, List.append_nil]
theorem r2_end {w : TProgram} {i : Nat} {p : TPackage} {k : Nat} (h : p.fInstances.length ≤ k) : r2 w i p k = r3 w i p 0 := by
 unfold r2 r3; rw [fl_end h, fl_zero, List.append_nil]
theorem r3_end {w : TProgram} {i : Nat} {p : TPackage} {k : Nat} (h : p.fFunctions.length ≤ k) : r3 w i p k = feP w i p := by
 unfold r3 feP; rw [fl_end h]
theorem eqFE (x : TFormError) (h : HP) : CS cx.P 29 [.d ((x).dd false), .d ((x).dd false)] h (.d (.lf (.bool (true)))) h := by
 refine Xe Tryz.func29 rfl 25 [.tmp 4] ?_
 let M : List Nat := []
 let G : List Nat := []
 have H := etas
 repeat' (first | refine GO ?_ | (refine Two.mk ?_ ?_ <;> intro hb <;> (try simp at hb) <;> (try norm_cast at hb) <;> try replace H := HN hb H) | (refine RG.mk ?_; (try clear hK hD); first | intro _ K hD hK | intro K hD hK) | (refine RF.mk ?_; intro hr) | (refine LF.mk ?_; (try clear hK hD); first | rfl | (simp [*]; done) | (simp_all; done) | grind))
instance eqFE_i (x : TFormError) : Ct cx 29 [.d (.st [.lf (.int .i64 (x.fCode)), .lf (.int .i64 (x.fPackage)), .lf (.string (x.fKind)), .lf (.string (x.fName))]), .d (.st [.lf (.int .i64 (x.fCode)), .lf (.int .i64 (x.fPackage)), .lf (.string (x.fKind)), .lf (.string (x.fName))])] (True) (.d (.lf (.bool (true)))) := ⟨fk1 Tryz.func29, fun hp h => by have q := eqFE x h; first | exact q | simpa using q⟩
theorem eqFES (l : List TFormError) (h : HP) : CS cx.P 9 [.d (.sl false sh40 ((l).map (TFormError.dd false))), .d (.sl false sh40 ((l).map (TFormError.dd false)))] h (.d (.lf (.bool (true)))) h := by
 refine Xe Tryz.func9 rfl 27 [.tmp 4] ?_
 let M : List Nat := []
 let G : List Nat := []
 have H := etas
 repeat' (first | refine GO ?_ | (refine Two.mk ?_ ?_ <;> intro hb <;> (try simp at hb) <;> (try norm_cast at hb) <;> try replace H := HN hb H) | (refine RG.mk ?_; (try clear hK hD); first | intro _ K hD hK | intro K hD hK) | (refine RF.mk ?_; intro hr) | (refine LF.mk ?_; (try clear hK hD); first | rfl | (simp [*]; done) | (simp_all; done) | grind))
 refine W.loopR [0, 1] [] (fun k0 _ => [(5, .d (.lf (.int .i64 (k0 : Int))))]) (fun _ _ => []) (l.length) (fun _ _ => True) (fun S => ()) rfl (by simp) (by first | trivial | rfl | (simp; done) | (simp []; done) | (simp_all []; done)) ?_
 intro k0 hk0 s0 hi0 T hT; simp at hT; subst hT
 repeat' (first | refine GO ?_ | (refine Two.mk ?_ ?_ <;> intro hb <;> (try simp at hb) <;> (try norm_cast at hb) <;> try replace H := HN hb H) | (refine RG.mk ?_; (try clear hK hD); first | intro _ K hD hK | intro K hD hK) | (refine RF.mk ?_; intro hr) | (refine LF.mk ?_; (try clear hK hD); first | rfl | (simp [*]; done) | (simp_all; done) | grind))
theorem sVis_v (x : TProgram) (i : Int) (hz : x.sz ≤ 134217728) (h : HP) : CS cx.P 237 [.d ((x).dd false), .d (.lf (.int .i64 (i)))] h (.d (.sl false .one ((vis x i).map (dN)))) h := by
 have q := CS.vw (sVis_d x i hz h)
 simpa using q
instance l4Base_i (s : ByteArray) : Ct cx 239 [.d (.lf (.string (s)))] (True) (.d (.lf (.bool (base s)))) := ⟨fk1 Tryz.func239, fun hp h => by have q := l4Base_d s h; first | exact q | simpa using q⟩
instance l1HasInt_i (l : List Nat) (s : Nat) : Ct cx 236 [.d (.sl false .one ((l).map (dN))), .d (.lf (.int .i64 ((s : Nat) : Int)))] (l.length ≤ 4294967296) (.d (.lf (.bool (hasK l s)))) := ⟨fk1 Tryz.func236, fun hp h => by have q := l1HasInt_d l s hp h; first | exact q | simpa using q⟩
instance sVis_i (w : TProgram) (i : Int) : Ct cx 237 [.d (.st [.sl false sh49 ((w.fPackages).map (TPackage.dd false))]), .d (.lf (.int .i64 (i)))] (w.sz ≤ 134217728) (.d (.sl false .one ((vis w i).map (dN)))) := ⟨fk1 Tryz.func237, fun hp h => by have q := (sVis_v w i hp) h; first | exact q | simpa using q⟩
instance sIsVis (w : TProgram) (i : Int) (k : Nat) : Ct cx 165 [.d (.st [.sl false sh49 ((w.fPackages).map (TPackage.dd false))]), .d (.lf (.int .i64 (i))), .d (.lf (.int .i64 ((k : Nat) : Int)))] (w.sz ≤ 134217728) (.d (.lf (.bool (hasK (vis w i) k)))) := by
 refine Xi Tryz.func165 12 [.tmp 6] [] [] etas trivial ?_; intro hp h M G H E
 have hvl := vis_len (x := w) (i := i)
 have hz2 := w.sz_eq; unfold szs at hz2
 repeat' (first | (refine IN.mk ?_; intros) | (refine iTw ?_; refine T2 ?_ ?_ <;> intro hb H <;> try exact hb.elim) | (refine LF.mk ?_; exact LX) | refine GN ?_)
instance sTrAt (w : TProgram) (s : ByteArray) : Ct cx 164 [.d (.st [.sl false sh49 ((w.fPackages).map (TPackage.dd false))]), .d (.lf (.string (s)))] (True) (.tp [.d (((trR w s).1).dd false), .d (.lf (.int .i64 (((trR w s).2.1 : Nat) : Int))), .d (.lf (.bool ((trR w s).2.2)))]) := by
 refine Xiv Tryz.func164 50 [.cell 4 57, .tmp 5, .tmp 6] [47] [] etas (And.intro @trR.eq_1 <| And.intro @getR.eq_def <| And.intro @nmF.eq_1 <| And.intro @fs_at <| And.intro @fs_end <| @zTr.eq_1) ?_; intro hp h M G H E
 repeat' (first | (refine IN.mk ?_; intros) | (refine iTw ?_; refine T2 ?_ ?_ <;> intro hb H <;> try exact hb.elim) | (refine LF.mk ?_; exact LX) | refine GN ?_ | (refine XC [1, 2, 4] [2, 4] 7 (w.fPackages.length) (fun k0 => inP TPackage.fTraits TTrait.fName w s = fs (inF TPackage.fTraits TTrait.fName s) k0 (w.fPackages.drop k0)) ?_; intro k0 hk0 hi0) | (refine XC [1, 2, 4, 7] [2, 4] 8 (w.fPackages[k0].fTraits.length) (fun k1 => inF TPackage.fTraits TTrait.fName s k0 w.fPackages[k0] = fs (nmF TTrait.fName s k0) k1 (w.fPackages[k0].fTraits.drop k1)) ?_; intro k1 hk1 hi1) | fail)
instance sTrV (w : TProgram) (i : Int) (s : ByteArray) : Ct cx 94 [.d (.st [.sl false sh49 ((w.fPackages).map (TPackage.dd false))]), .d (.lf (.int .i64 (i))), .d (.lf (.string (s)))] (w.sz ≤ 134217728) (.tp [.d (((trR w s).1).dd false), .d (.lf (.bool (trV w (vis w i) s)))]) := by
 refine Xiv Tryz.func94 26 [.cell 6 57, .tmp 7] [18] [] etas (@trV.eq_1) ?_; intro hp h M G H E
 repeat' (first | (refine IN.mk ?_; intros) | (refine iTw ?_; refine T2 ?_ ?_ <;> intro hb H <;> try exact hb.elim) | (refine LF.mk ?_; exact LX) | refine BO.mk ?_ ?_ | (apply iPJ; exact NPJ) | apply PXs.of | refine GN ?_)
instance sFnAt (w : TProgram) (s : ByteArray) : Ct cx 241 [.d (.st [.sl false sh49 ((w.fPackages).map (TPackage.dd false))]), .d (.lf (.string (s)))] (True) (.tp [.d (((fnR w s).1).dd false), .d (.lf (.int .i64 (((fnR w s).2.1 : Nat) : Int))), .d (.lf (.bool ((fnR w s).2.2)))]) := by
 refine Xiv Tryz.func241 50 [.cell 4 77, .tmp 5, .tmp 6] [47] [] etas (And.intro @fnR.eq_1 <| And.intro @getR.eq_def <| And.intro @nmF.eq_1 <| And.intro @fs_at <| And.intro @fs_end <| And.intro @zFn.eq_1 <| And.intro @zT.eq_1 <| @zX.eq_1) ?_; intro hp h M G H E
 repeat' (first | (refine IN.mk ?_; intros) | (refine iTw ?_; refine T2 ?_ ?_ <;> intro hb H <;> try exact hb.elim) | (refine LF.mk ?_; exact LX) | refine GN ?_ | (refine XC [1, 2, 4] [2, 4] 7 (w.fPackages.length) (fun k0 => inP TPackage.fFunctions TFunction.fName w s = fs (inF TPackage.fFunctions TFunction.fName s) k0 (w.fPackages.drop k0)) ?_; intro k0 hk0 hi0) | (refine XC [1, 2, 4, 7] [2, 4] 8 (w.fPackages[k0].fFunctions.length) (fun k1 => inF TPackage.fFunctions TFunction.fName s k0 w.fPackages[k0] = fs (nmF TFunction.fName s k0) k1 (w.fPackages[k0].fFunctions.drop k1)) ?_; intro k1 hk1 hi1) | fail)
instance sDaAt (w : TProgram) (s : ByteArray) : Ct cx 279 [.d (.st [.sl false sh49 ((w.fPackages).map (TPackage.dd false))]), .d (.lf (.string (s)))] (True) (.tp [.d (((daR w s).1).dd false), .d (.lf (.int .i64 (((daR w s).2.1 : Nat) : Int))), .d (.lf (.bool ((daR w s).2.2)))]) := by
 refine Xiv Tryz.func279 50 [.cell 4 61, .tmp 5, .tmp 6] [47] [] etas (And.intro @daR.eq_1 <| And.intro @getR.eq_def <| And.intro @nmF.eq_1 <| And.intro @fs_at <| And.intro @fs_end <| @zDa.eq_1) ?_; intro hp h M G H E
 repeat' (first | (refine IN.mk ?_; intros) | (refine iTw ?_; refine T2 ?_ ?_ <;> intro hb H <;> try exact hb.elim) | (refine LF.mk ?_; exact LX) | refine GN ?_ | (refine XC [1, 2, 4] [2, 4] 7 (w.fPackages.length) (fun k0 => inP TPackage.fDataTypes TDataType.fName w s = fs (inF TPackage.fDataTypes TDataType.fName s) k0 (w.fPackages.drop k0)) ?_; intro k0 hk0 hi0) | (refine XC [1, 2, 4, 7] [2, 4] 8 (w.fPackages[k0].fDataTypes.length) (fun k1 => inF TPackage.fDataTypes TDataType.fName s k0 w.fPackages[k0] = fs (nmF TDataType.fName s k0) k1 (w.fPackages[k0].fDataTypes.drop k1)) ?_; intro k1 hk1 hi1) | fail)
instance sDaV (w : TProgram) (i : Int) (s : ByteArray) : Ct cx 240 [.d (.st [.sl false sh49 ((w.fPackages).map (TPackage.dd false))]), .d (.lf (.int .i64 (i))), .d (.lf (.string (s)))] (w.sz ≤ 134217728) (.tp [.d (((daR w s).1).dd false), .d (.lf (.bool (daV w (vis w i) s)))]) := by
 refine Xiv Tryz.func240 26 [.cell 6 61, .tmp 7] [18] [] etas (@daV.eq_1) ?_; intro hp h M G H E
 repeat' (first | (refine IN.mk ?_; intros) | (refine iTw ?_; refine T2 ?_ ?_ <;> intro hb H <;> try exact hb.elim) | (refine LF.mk ?_; exact LX) | refine BO.mk ?_ ?_ | (apply iPJ; exact NPJ) | apply PXs.of | refine GN ?_)
instance sOcc_i (v : ByteArray) (k : Int) (n : ByteArray) (l : List TType) : Ct cx 233 [.d (.lf (.string (v))), .d (.st [.lf (.int .i64 (k)), .lf (.string (n)), .sl false sh65 ((l).map (TType.dd false))])] (TType.sz ⟨k, n, l⟩ ≤ 134217728) (.d (.lf (.bool (decide (0 < occ v ⟨k, n, l⟩))))) := ⟨fk1 Tryz.func233, fun hp h => by have q := sOccurs_d v ⟨k, n, l⟩ hp h; first | exact q | simpa using q⟩
instance sDynS (t : TTrait) : Ct cx 310 [.d (.st [.lf (.string (t.fName)), .sl false .one ((t.fSupertraits).map (dS)), .lf (.bool (t.fAuto)), .lf (.bool (t.fAssoc)), .sl false sh109 ((t.fSignatures).map (TSignature.dd false))])] (t.sz ≤ 134217728) (.d (.lf (.bool (dynS t)))) := by
 refine Xi Tryz.func310 43 [.tmp 2] [] [] etas (And.intro @dynS_eq <| And.intro @dynP.eq_1 <| And.intro @any_at <| And.intro @any_end <| @selfS.eq_1) ?_; intro hp h M G H E
 have qTrait := TTrait.sz_eq; have gTrait := @sz_get _ TTrait.sz; unfold szs at qTrait
 have qSignature := TSignature.sz_eq; have gSignature := @sz_get _ TSignature.sz; unfold szs at qSignature
 have qType := TType.sz_eq; have gType := @sz_get _ TType.sz; unfold szs at qType
 repeat' (first | (refine IN.mk ?_; intros) | (refine iTw ?_; refine T2 ?_ ?_ <;> intro hb H <;> try exact hb.elim) | (refine LF.mk ?_; exact LX) | refine GN ?_ | (refine XC [1] [1] 3 (t.fSignatures.length) (fun k0 => t.fSignatures.any dynP = (t.fSignatures.drop k0).any dynP) ?_; intro k0 hk0 hi0) | (refine XC [1, 3] [1] 4 (t.fSignatures[k0].fParams.length) (fun k1 => (t.fSignatures[k0].fParams.any fun p => decide (0 < occ selfS p)) = (t.fSignatures[k0].fParams.drop k1).any fun p => decide (0 < occ selfS p)) ?_; intro k1 hk1 hi1) | fail)
theorem size_args (t : TType) : tSizes t.fArgs < tSize t := by cases t; simp only [tSize]; omega
instance sDyn (w : TProgram) (i : Int) (s : ByteArray) : Ct cx 238 [.d (.st [.sl false sh49 ((w.fPackages).map (TPackage.dd false))]), .d (.lf (.int .i64 (i))), .d (.lf (.string (s)))] (w.sz ≤ 134217728) (.d (.lf (.int .i64 (ckD w (vis w i) s)))) := by
 refine Xi Tryz.func238 21 [.tmp 6] [] [] etas (@ckD.eq_1) ?_; intro hp h M G H E
 have ht := trR_sz w
 repeat' (first | (refine IN.mk ?_; intros) | (refine iTw ?_; refine T2 ?_ ?_ <;> intro hb H <;> try exact hb.elim) | (refine LF.mk ?_; exact LX) | refine GN ?_)
instance sHere (w : TProgram) (i : Int) (k : Int) (s : ByteArray) (l : List TType) : Ct cx 166 [.d (.st [.sl false sh49 ((w.fPackages).map (TPackage.dd false))]), .d (.lf (.int .i64 (i))), .d (.st [.lf (.int .i64 (k)), .lf (.string (s)), .sl false sh65 ((l).map (TType.dd false))])] (w.sz ≤ 134217728) (.d (.lf (.int .i64 (ckH w (vis w i) k s l.length)))) := by
 refine Xi Tryz.func166 59 [.tmp 6] [] [] etas (@ckH.eq_1) ?_; intro hp h M G H E
 repeat' (first | (refine IN.mk ?_; intros) | (refine iTw ?_; refine T2 ?_ ?_ <;> intro hb H <;> try exact hb.elim) | (refine LF.mk ?_; exact LX) | refine GN ?_)
theorem sCkT_a (w : TProgram) (i : Int) (hp : w.sz ≤ 134217728) : ∀ (n : Nat) (x : TType), tSize x < n → ∀ h : HP, CS cx.P 97 [.d ((w).dd false), .d (.lf (.int .i64 (i))), .d ((x).dd false)] h (.d (.lf (.int .i64 (ckT w (vis w i) x)))) h := by
 intro n
 induction n with
 | zero => intro x hx; omega
 | succ n ih =>
 intro x hx h
 have hsx : tSizes x.fArgs < n := by have := size_args x; omega
 have gx := @tSz_get
 have ii : ∀ (k : Int) (s : ByteArray) (l : List TType), Ct cx 97 [.d (.st [.sl false sh49 ((w.fPackages).map (TPackage.dd false))]), .d (.lf (.int .i64 (i))), .d (.st [.lf (.int .i64 (k)), .lf (.string (s)), .sl false sh65 ((l).map (TType.dd false))])] (tSize ⟨k, s, l⟩ < n) (.d (.lf (.int .i64 (ckT w (vis w i) ⟨k, s, l⟩)))) := fun k s l => ⟨fk1 Tryz.func97, fun hp h => by have q := ih ⟨k, s, l⟩ hp h; first | exact q | simpa using q⟩
 refine Xe Tryz.func97 rfl 33 [.tmp 6] ?_
 let M : List Nat := []
 let G : List Nat := []
 have H := etas
 repeat' (first | refine GO ?_ | (refine Two.mk ?_ ?_ <;> intro hb <;> (try simp at hb) <;> (try norm_cast at hb) <;> try replace H := HN hb H) | (refine RG.mk ?_; (try clear hK hD); first | intro _ K hD hK | intro K hD hK) | (refine RF.mk ?_; intro hr) | (refine LF.mk ?_; (try clear hK hD); first | rfl | (simp [ckT_eq, fc_at, fc_end, *]; done) | (simp_all [ckT_eq, fc_at, fc_end]; done) | grind [ckT_eq, fc_at, fc_end]))
 refine W.loopR [1, 3, 5] [3, 5] (fun k0 s0 => [(8, .d (.lf (.int .i64 (k0 : Int)))), (7, .d (.lf (.int .i64 (s0))))]) (fun _ _ => []) (x.fArgs.length) (fun k0 s0 => ckT w (vis w i) x = if s0 = 0 then fc (ckT w (vis w i)) (x.fArgs.drop k0) else s0) (fun S => avI (S.tm 7)) rfl (by simp) (by first | trivial | rfl | (simp; done) | (simp [ckT_eq, fc_at, fc_end]; done) | (simp_all [ckT_eq, fc_at, fc_end]; done)) ?_
 intro k0 hk0 s0 hi0 T hT; simp at hT; subst hT
 repeat' (first | refine GO ?_ | (refine Two.mk ?_ ?_ <;> intro hb <;> (try simp at hb) <;> (try norm_cast at hb) <;> try replace H := HN hb H) | (refine RG.mk ?_; (try clear hK hD); first | intro _ K hD hK | intro K hD hK) | (refine RF.mk ?_; intro hr) | (refine LF.mk ?_; (try clear hK hD); first | rfl | (simp [ckT_eq, fc_at, fc_end, *]; done) | (simp_all [ckT_eq, fc_at, fc_end]; done) | grind [ckT_eq, fc_at, fc_end]))
theorem sCkT_d (w : TProgram) (i : Int) (x : TType) (hp : w.sz ≤ 134217728) (h : HP) : CS cx.P 97 [.d ((w).dd false), .d (.lf (.int .i64 (i))), .d ((x).dd false)] h (.d (.lf (.int .i64 (ckT w (vis w i) x)))) h := sCkT_a w i hp _ x (Nat.lt_succ_self _) h
instance sCkT_i (w : TProgram) (i : Int) (k : Int) (s : ByteArray) (l : List TType) : Ct cx 97 [.d (.st [.sl false sh49 ((w.fPackages).map (TPackage.dd false))]), .d (.lf (.int .i64 (i))), .d (.st [.lf (.int .i64 (k)), .lf (.string (s)), .sl false sh65 ((l).map (TType.dd false))])] (w.sz ≤ 134217728) (.d (.lf (.int .i64 (ckT w (vis w i) ⟨k, s, l⟩)))) := ⟨fk1 Tryz.func97, fun hp h => by have q := sCkT_d w i ⟨k, s, l⟩ hp h; first | exact q | simpa using q⟩
instance sCkB (w : TProgram) (i : Int) (b : TBound) : Ct cx 168 [.d (.st [.sl false sh49 ((w.fPackages).map (TPackage.dd false))]), .d (.lf (.int .i64 (i))), .d (.st [.lf (.string (b.fTrait)), .st [.lf (.int .i64 (b.fType.fKind)), .lf (.string (b.fType.fName)), .sl false sh65 ((b.fType.fArgs).map (TType.dd false))]])] (w.sz ≤ 134217728) (.d (.lf (.int .i64 (ckB w (vis w i) b)))) := by
 refine Xi Tryz.func168 24 [.tmp 6] [] [] etas (@ckB.eq_1) ?_; intro hp h M G H E
 repeat' (first | (refine IN.mk ?_; intros) | (refine iTw ?_; refine T2 ?_ ?_ <;> intro hb H <;> try exact hb.elim) | (refine LF.mk ?_; exact LX) | refine GN ?_)
instance sTypes (w : TProgram) (i : Int) (l : List TType) : Ct cx 96 [.d (.st [.sl false sh49 ((w.fPackages).map (TPackage.dd false))]), .d (.lf (.int .i64 (i))), .d (.sl false sh65 ((l).map (TType.dd false)))] (w.sz ≤ 134217728) (.d (.lf (.int .i64 (fc (ckT w (vis w i)) l)))) := by
 refine Xi Tryz.func96 25 [.tmp 6] [] [] etas (And.intro @fc_at <| @fc_end) ?_; intro hp h M G H E
 repeat' (first | (refine IN.mk ?_; intros) | (refine iTw ?_; refine T2 ?_ ?_ <;> intro hb H <;> try exact hb.elim) | (refine LF.mk ?_; exact LX) | refine GN ?_ | (refine XC [1, 2, 3] [3] 7 (l.length) (fun k0 => fc (ckT w (vis w i)) l = fc (ckT w (vis w i)) (l.drop k0)) ?_; intro k0 hk0 hi0) | fail)
instance sWhere (w : TProgram) (i : Int) (l : List TBound) : Ct cx 99 [.d (.st [.sl false sh49 ((w.fPackages).map (TPackage.dd false))]), .d (.lf (.int .i64 (i))), .d (.sl false sh174 ((l).map (TBound.dd false)))] (w.sz ≤ 134217728) (.d (.lf (.int .i64 (fc (ckB w (vis w i)) l)))) := by
 refine Xi Tryz.func99 25 [.tmp 6] [] [] etas (And.intro @fc_at <| @fc_end) ?_; intro hp h M G H E
 repeat' (first | (refine IN.mk ?_; intros) | (refine iTw ?_; refine T2 ?_ ?_ <;> intro hb H <;> try exact hb.elim) | (refine LF.mk ?_; exact LX) | refine GN ?_ | (refine XC [1, 2, 3] [3] 7 (l.length) (fun k0 => fc (ckB w (vis w i)) l = fc (ckB w (vis w i)) (l.drop k0)) ?_; intro k0 hk0 hi0) | fail)
instance sFirst (l : List Int) : Ct cx 95 [.d (.sl false .one ((l).map (dI)))] (True) (.d (.lf (.int .i64 (fc (fun n => n) l)))) := by
 refine Xi Tryz.func95 19 [.tmp 2] [] [] etas (And.intro @fc_at <| @fc_end) ?_; intro hp h M G H E
 repeat' (first | (refine IN.mk ?_; intros) | (refine iTw ?_; refine T2 ?_ ?_ <;> intro hb H <;> try exact hb.elim) | (refine LF.mk ?_; exact LX) | refine GN ?_ | (refine XC [0] [] 3 (l.length) (fun k0 => fc (fun n : Int => n) l = fc (fun n => n) (l.drop k0)) ?_; intro k0 hk0 hi0) | fail)
instance sCtAt (w : TProgram) (s : ByteArray) : Ct cx 311 [.d (.st [.sl false sh49 ((w.fPackages).map (TPackage.dd false))]), .d (.lf (.string (s)))] (True) (.tp [.d (((ctR w s).1).dd false), .d (.lf (.int .i64 (((ctR w s).2.1 : Nat) : Int))), .d (.lf (.bool ((ctR w s).2.2)))]) := by
 refine Xiv Tryz.func311 56 [.cell 4 61, .tmp 5, .tmp 6] [37, 53] [] etas (And.intro @ctR.eq_1 <| And.intro @getR.eq_def <| And.intro @ctF.eq_1 <| And.intro @fs_at <| And.intro @fs_end <| @zDa.eq_1) ?_; intro hp h M G H E
 repeat' (first | (refine IN.mk ?_; intros) | (refine iTw ?_; refine T2 ?_ ?_ <;> intro hb H <;> try exact hb.elim) | (refine LF.mk ?_; exact LX) | refine GN ?_ | (refine XC [1, 2, 4] [2, 4] 7 (w.fPackages.length) (fun k0 => fs (ctH s) 0 w.fPackages = fs (ctH s) k0 (w.fPackages.drop k0)) ?_; intro k0 hk0 hi0) | (refine XC [1, 2, 4, 7] [2, 4] 8 (w.fPackages[k0].fDataTypes.length) (fun k1 => ctH s k0 w.fPackages[k0] = fs (ctG s) k1 (w.fPackages[k0].fDataTypes.drop k1)) ?_; intro k1 hk1 hi1) | (refine XC [1, 2, 4, 7, 8, 9] [2, 4, 9] 10 (w.fPackages[k0].fDataTypes[k1].fConstructors.length) (fun k2 => ctG s k1 w.fPackages[k0].fDataTypes[k1] = fs (ctF s w.fPackages[k0].fDataTypes[k1]) k2 (w.fPackages[k0].fDataTypes[k1].fConstructors.drop k2)) ?_; intro k2 hk2 hi2) | fail)
instance sSig (t : TTrait) (s : ByteArray) : Ct cx 169 [.d (.st [.lf (.string (t.fName)), .sl false .one ((t.fSupertraits).map (dS)), .lf (.bool (t.fAuto)), .lf (.bool (t.fAssoc)), .sl false sh109 ((t.fSignatures).map (TSignature.dd false))]), .d (.lf (.string (s)))] (True) (.tp [.d (((siR t s).1).dd false), .d (.lf (.bool ((siR t s).2.2)))]) := by
 refine Xiv Tryz.func169 28 [.cell 4 109, .tmp 5] [26] [] etas (And.intro @siR.eq_1 <| And.intro @byN.eq_1 <| And.intro @getR.eq_def <| And.intro @byF.eq_1 <| And.intro @fs_at <| And.intro @fs_end <| And.intro @zSi.eq_1 <| And.intro @zT.eq_1 <| @zX.eq_1) ?_; intro hp h M G H E
 repeat' (first | (refine IN.mk ?_; intros) | (refine iTw ?_; refine T2 ?_ ?_ <;> intro hb H <;> try exact hb.elim) | (refine LF.mk ?_; exact LX) | refine GN ?_ | (refine XC [1, 2, 4] [2, 4] 6 (t.fSignatures.length) (fun k0 => fs (byF TSignature.fName s) 0 t.fSignatures = fs (byF TSignature.fName s) k0 (t.fSignatures.drop k0)) ?_; intro k0 hk0 hi0) | fail)
instance sCtV (w : TProgram) (i : Int) (s : ByteArray) : Ct cx 242 [.d (.st [.sl false sh49 ((w.fPackages).map (TPackage.dd false))]), .d (.lf (.int .i64 (i))), .d (.lf (.string (s)))] (w.sz ≤ 134217728) (.tp [.d (((ctR w s).1).dd false), .d (.lf (.int .i64 (((ctR w s).2.1 : Nat) : Int))), .d (.lf (.bool (ctV w (vis w i) s)))]) := by
 refine Xiv Tryz.func242 40 [.cell 6 61, .tmp 7, .tmp 8] [24, 34] [] etas (@ctV.eq_1) ?_; intro hp h M G H E
 repeat' (first | (refine IN.mk ?_; intros) | (refine iTw ?_; refine T2 ?_ ?_ <;> intro hb H <;> try exact hb.elim) | (refine LF.mk ?_; exact LX) | refine GN ?_)
theorem fs_byF_some {α : Type} (g : α → ByteArray) (s : ByteArray) : ∀ (l : List α) (i : Nat), (fs (byF g s) i l).isSome = l.any fun x => decide (g x = s)
  | [], _ => rfl
  | x :: l, i => by
    rw [fs, List.any_cons]
    unfold byF
    by_cases h : g x = s
    · simp [h]
    · simp only [h, if_false, decide_false, Bool.false_or]; exact fs_byF_some g s l (i + 1)
theorem getR_ok {α : Type} (z : α) : ∀ o : Option (α × Nat), (getR z o).2.2 = o.isSome
  | some (_, _) => rfl
  | none => rfl
theorem meR_any (x : TInstance) (s : ByteArray) : (meR x s).2.2 = x.fMethods.any fun m => decide (m.fName = s) := by
  unfold meR byN; rw [getR_ok, fs_byF_some]
instance sDataC (w : TProgram) (i : Int) (d : TDataType) : Ct cx 41 [.d (.st [.sl false sh49 ((w.fPackages).map (TPackage.dd false))]), .d (.lf (.int .i64 (i))), .d (.st [.lf (.string (d.fName)), .sl false .one ((d.fVars).map (dS)), .sl false sh116 ((d.fConstructors).map (TConstructor.dd false))])] (w.sz ≤ 134217728) (.d (.lf (.int .i64 (ckData w (vis w i) d)))) := by
 refine Xi Tryz.func41 28 [.tmp 6] [] [] etas (And.intro @ckData.eq_1 <| And.intro @fc_at <| @fc_end) ?_; intro hp h M G H E
 repeat' (first | (refine IN.mk ?_; intros) | (refine iTw ?_; refine T2 ?_ ?_ <;> intro hb H <;> try exact hb.elim) | (refine LF.mk ?_; exact LX) | refine GN ?_ | (refine XC [1, 3, 5] [3, 5] 7 (d.fConstructors.length) (fun k0 => ckData w (vis w i) d = fc (fun c : TConstructor => fc (ckT w (vis w i)) c.fFields) (d.fConstructors.drop k0)) ?_; intro k0 hk0 hi0) | fail)
theorem byN_mem {α : Type} {g : α → ByteArray} {s : ByteArray} {l : List α} {x : α} {i : Nat} (h : byN g s l = some (x, i)) : x ∈ l := by
 obtain ⟨y, hy, k, h2⟩ := fs_mem h
 unfold byF at h2
 split at h2
 ·cases h2; exact hy
 ·cases h2
theorem siR_le (t : TTrait) (s : ByteArray) : (siR t s).1.fParams.length ≤ t.sz := by
 unfold siR
 cases h : byN TSignature.fName s t.fSignatures with
 | none => exact Nat.zero_le _
 | some x =>
  obtain ⟨x, i⟩ := x
  have h1 := szL_le TSignature.sz (byN_mem h)
  have h2 := x.sz_eq; have h3 := t.sz_eq
  unfold szs at h2 h3
  simp only [getR]; omega
theorem siR_w {t : TTrait} (hz : t.sz ≤ 134217728) (s : ByteArray) : IntKind.i64.wrap (((siR t s).1.fParams.length : Int) + 1) = ((siR t s).1.fParams.length : Int) + 1 := i64w (by omega) (by have := siR_le t s; omega)
def m3 (s : ByteArray) (m : TMethod) : Bool := decide (m.fName = s)
theorem m2_eq (x : TInstance) (g : TSignature) : m2 x g = (g.fHasDefault || x.fMethods.any (m3 g.fName)) := by unfold m2; rw [meR_any]; rfl
instance sMeths (t : TTrait) (x : TInstance) : Ct cx 100 [.d (.st [.lf (.string (t.fName)), .sl false .one ((t.fSupertraits).map (dS)), .lf (.bool (t.fAuto)), .lf (.bool (t.fAssoc)), .sl false sh109 ((t.fSignatures).map (TSignature.dd false))]), .d (.st [.lf (.string (x.fTrait)), .sl false .one ((x.fVars).map (dS)), .st [.lf (.int .i64 (x.fHead.fKind)), .lf (.string (x.fHead.fName)), .sl false sh65 ((x.fHead.fArgs).map (TType.dd false))], .sl false sh174 ((x.fWhere).map (TBound.dd false)), .lf (.bool (x.fDefault)), .lf (.bool (x.fHasAssoc)), .st [.lf (.int .i64 (x.fAssoc.fKind)), .lf (.string (x.fAssoc.fName)), .sl false sh65 ((x.fAssoc.fArgs).map (TType.dd false))], .sl false sh120 ((x.fMethods).map (TMethod.dd false))])] (t.sz ≤ 134217728) (.d (.lf (.bool (methsOk t x)))) := by
 refine Xi Tryz.func100 83 [.tmp 4] [] [] etas (And.intro @methsOk_eq <| And.intro @m1.eq_1 <| And.intro @m2_eq <| And.intro @m3.eq_1 <| And.intro @any_at <| And.intro @any_end <| And.intro @all_at <| @all_end) ?_; intro hp h M G H E
 have hsw := @siR_w t hp; replace H := And.intro hsw H
 repeat' (first | (refine IN.mk ?_; intros) | (refine iTw ?_; refine T2 ?_ ?_ <;> intro hb H <;> try exact hb.elim) | (refine LF.mk ?_; exact LX) | refine BO.mk ?_ ?_ | (apply iPJ; exact NPJ) | apply PXs.of | refine GN ?_ | (refine XC [2, 3] [2, 3] 5 (x.fMethods.length) (fun k0 => x.fMethods.all (m1 t) = (x.fMethods.drop k0).all (m1 t)) ?_; intro k0 hk0 hi0) | (refine XC [2, 3] [2, 3] 8 (t.fSignatures.length) (fun k1 => x.fMethods.all (m1 t) = true ∧ t.fSignatures.all (m2 x) = (t.fSignatures.drop k1).all (m2 x)) ?_; intro k1 hk1 hi1) | (refine XL [2, 3, 8] [2, 3] (fun k2 s2 => [(10, .d (.lf (.int .i64 (k2 : Int)))), (9, .d (.lf (.bool (s2))))]) (fun _ _ => []) (x.fMethods.length) (fun k2 s2 => m2 x t.fSignatures[k1] = (s2 || (x.fMethods.drop k2).any (m3 t.fSignatures[k1].fName))) (fun S => avB (S.tm 9)) ?_; intro k2 hk2 s2 hi2) | fail)
end Go.Proofs.YtdooklofebdknaaGreat
