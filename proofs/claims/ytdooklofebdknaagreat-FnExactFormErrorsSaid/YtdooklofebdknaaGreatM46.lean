/- Walks by the Den rules. No condition but sizes. -/
import Derived.Test.YtdooklofebdknaaGreatM20
import Derived.Test.YtdooklofebdknaaGreatM31
import Derived.Test.YtdooklofebdknaaGreatM33
import Derived.Test.YtdooklofebdknaaGreatM36
import Derived.Test.YtdooklofebdknaaGreatM37
import Derived.Test.YtdooklofebdknaaGreatM41
import Derived.Test.YtdooklofebdknaaGreatM45
namespace Go.Proofs.YtdooklofebdknaaGreat
open Go.RowKit
set_option maxRecDepth 10000
set_option linter.unusedSimpArgs false
set_option maxHeartbeats 4000000
theorem idFSignature (l : List TSignature) (g : Nat) (cs : List AV) (p : TSignature → Bool) (pp : TSignature → Prop) (hv : VwC cs) (hi : ∀ y : TSignature, Ct cx g (.d (.st [.lf (.string (y.fName)), .sl false sh65 ((y.fParams).map (TType.dd false)), .st [.lf (.int .i64 (y.fResult.fKind)), .lf (.string (y.fResult.fName)), .sl false sh65 ((y.fResult.fArgs).map (TType.dd false))], .lf (.bool (y.fHasDefault)), .sl false .one ((y.fVars).map (dS)), .st [.lf (.int .i64 (y.fBody.fKind)), .lf (.string (y.fBody.fTrait)), .lf (.string (y.fBody.fName)), .lf (.int .i64 (y.fBody.fN)), .st [.lf (.int .i64 (y.fBody.fType.fKind)), .lf (.string (y.fBody.fType.fName)), .sl false sh65 ((y.fBody.fType.fArgs).map (TType.dd false))], .sl false sh75 ((y.fBody.fArgs).map (TExpr.dd false)), .sl false sh172 ((y.fBody.fArms).map (TArm.dd false))]]) :: cs) (pp y) (.d (.lf (.bool (p y))))) (hq : ∀ y ∈ l, pp y) (h : HP) : CS cx.P 388 [.d (.sl false sh109 ((l).map (TSignature.dd false))), .fn g cs] h (.d (.lf (.int .i64 (idxP l p)))) h := by
 refine Xe Tryz.func388 rfl 19 [.tmp 4] ?_
 let M : List Nat := []
 let G : List Nat := []
 have H := etas
 have hq2 : ∀ k (hk : k < l.length), pp l[k] := fun k hk => hq _ (List.getElem_mem hk)
 replace H := And.intro hv.all H
 repeat' (first | refine GO ?_ | (refine Two.mk ?_ ?_ <;> intro hb <;> (try simp at hb) <;> (try norm_cast at hb) <;> try replace H := HN hb H) | (refine RG.mk ?_; (try clear hK hD); first | intro _ K hD hK | intro K hD hK) | (refine RF.mk ?_; intro hr) | (refine LF.mk ?_; (try clear hK hD); first | rfl | (simp [idxP_fs, ipF, fs_at, fs_end, *]; done) | (simp_all [idxP_fs, ipF, fs_at, fs_end]; done) | grind [idxP_fs, ipF, fs_at, fs_end]))
 refine W.loopR [0, 1, 7] [] (fun k0 _ => [(8, .d (.lf (.int .i64 (k0 : Int))))]) (fun _ _ => []) (l.length) (fun k0 _ => fs (ipF p) 0 l = fs (ipF p) k0 (l.drop k0)) (fun S => ()) rfl (by simp [H]) (by first | trivial | rfl | (simp; done) | (simp [idxP_fs, ipF, fs_at, fs_end]; done) | (simp_all [idxP_fs, ipF, fs_at, fs_end]; done)) ?_
 intro k0 hk0 s0 hi0 T hT; simp at hT; subst hT
 repeat' (first | refine GO ?_ | (refine Two.mk ?_ ?_ <;> intro hb <;> (try simp at hb) <;> (try norm_cast at hb) <;> try replace H := HN hb H) | (refine RG.mk ?_; (try clear hK hD); first | intro _ K hD hK | intro K hD hK) | (refine RF.mk ?_; intro hr) | (refine LF.mk ?_; (try clear hK hD); first | rfl | (simp [idxP_fs, ipF, fs_at, fs_end, *]; done) | (simp_all [idxP_fs, ipF, fs_at, fs_end]; done) | grind [idxP_fs, ipF, fs_at, fs_end]))
instance idFSignature_i (l : List TSignature) (g : Nat) (cs : List AV) (p : TSignature → Bool) (pp : TSignature → Prop) [hv : VwC cs] [hi : ∀ y : TSignature, Ct cx g (.d (.st [.lf (.string (y.fName)), .sl false sh65 ((y.fParams).map (TType.dd false)), .st [.lf (.int .i64 (y.fResult.fKind)), .lf (.string (y.fResult.fName)), .sl false sh65 ((y.fResult.fArgs).map (TType.dd false))], .lf (.bool (y.fHasDefault)), .sl false .one ((y.fVars).map (dS)), .st [.lf (.int .i64 (y.fBody.fKind)), .lf (.string (y.fBody.fTrait)), .lf (.string (y.fBody.fName)), .lf (.int .i64 (y.fBody.fN)), .st [.lf (.int .i64 (y.fBody.fType.fKind)), .lf (.string (y.fBody.fType.fName)), .sl false sh65 ((y.fBody.fType.fArgs).map (TType.dd false))], .sl false sh75 ((y.fBody.fArgs).map (TExpr.dd false)), .sl false sh172 ((y.fBody.fArms).map (TArm.dd false))]]) :: cs) (pp y) (.d (.lf (.bool (p y))))] : Ct cx 388 [.d (.sl false sh109 ((l).map (TSignature.dd false))), .fn g cs] (∀ y ∈ l, pp y) (.d (.lf (.int .i64 (idxP l p)))) := ⟨fk1 Tryz.func388, fun hq h => idFSignature l g cs p pp hv hi hq h⟩
theorem idFType (l : List TType) (g : Nat) (cs : List AV) (p : TType → Bool) (pp : TType → Prop) (hv : VwC cs) (hi : ∀ y : TType, Ct cx g (.d (.st [.lf (.int .i64 (y.fKind)), .lf (.string (y.fName)), .sl false sh65 ((y.fArgs).map (TType.dd false))]) :: cs) (pp y) (.d (.lf (.bool (p y))))) (hq : ∀ y ∈ l, pp y) (h : HP) : CS cx.P 321 [.d (.sl false sh65 ((l).map (TType.dd false))), .fn g cs] h (.d (.lf (.int .i64 (idxP l p)))) h := by
 refine Xe Tryz.func321 rfl 19 [.tmp 4] ?_
 let M : List Nat := []
 let G : List Nat := []
 have H := etas
 have hq2 : ∀ k (hk : k < l.length), pp l[k] := fun k hk => hq _ (List.getElem_mem hk)
 replace H := And.intro hv.all H
 repeat' (first | refine GO ?_ | (refine Two.mk ?_ ?_ <;> intro hb <;> (try simp at hb) <;> (try norm_cast at hb) <;> try replace H := HN hb H) | (refine RG.mk ?_; (try clear hK hD); first | intro _ K hD hK | intro K hD hK) | (refine RF.mk ?_; intro hr) | (refine LF.mk ?_; (try clear hK hD); first | rfl | (simp [idxP_fs, ipF, fs_at, fs_end, *]; done) | (simp_all [idxP_fs, ipF, fs_at, fs_end]; done) | grind [idxP_fs, ipF, fs_at, fs_end]))
 refine W.loopR [0, 1, 7] [] (fun k0 _ => [(8, .d (.lf (.int .i64 (k0 : Int))))]) (fun _ _ => []) (l.length) (fun k0 _ => fs (ipF p) 0 l = fs (ipF p) k0 (l.drop k0)) (fun S => ()) rfl (by simp [H]) (by first | trivial | rfl | (simp; done) | (simp [idxP_fs, ipF, fs_at, fs_end]; done) | (simp_all [idxP_fs, ipF, fs_at, fs_end]; done)) ?_
 intro k0 hk0 s0 hi0 T hT; simp at hT; subst hT
 repeat' (first | refine GO ?_ | (refine Two.mk ?_ ?_ <;> intro hb <;> (try simp at hb) <;> (try norm_cast at hb) <;> try replace H := HN hb H) | (refine RG.mk ?_; (try clear hK hD); first | intro _ K hD hK | intro K hD hK) | (refine RF.mk ?_; intro hr) | (refine LF.mk ?_; (try clear hK hD); first | rfl | (simp [idxP_fs, ipF, fs_at, fs_end, *]; done) | (simp_all [idxP_fs, ipF, fs_at, fs_end]; done) | grind [idxP_fs, ipF, fs_at, fs_end]))
instance idFType_i (l : List TType) (g : Nat) (cs : List AV) (p : TType → Bool) (pp : TType → Prop) [hv : VwC cs] [hi : ∀ y : TType, Ct cx g (.d (.st [.lf (.int .i64 (y.fKind)), .lf (.string (y.fName)), .sl false sh65 ((y.fArgs).map (TType.dd false))]) :: cs) (pp y) (.d (.lf (.bool (p y))))] : Ct cx 321 [.d (.sl false sh65 ((l).map (TType.dd false))), .fn g cs] (∀ y ∈ l, pp y) (.d (.lf (.int .i64 (idxP l p)))) := ⟨fk1 Tryz.func321, fun hq h => idFType l g cs p pp hv hi hq h⟩
theorem idFArm (l : List TArm) (g : Nat) (cs : List AV) (p : TArm → Bool) (pp : TArm → Prop) (hv : VwC cs) (hi : ∀ y : TArm, Ct cx g (.d (.st [.lf (.string (y.fConstructor)), .sl false .one ((y.fVars).map (dS)), .st [.lf (.int .i64 (y.fBody.fKind)), .lf (.string (y.fBody.fTrait)), .lf (.string (y.fBody.fName)), .lf (.int .i64 (y.fBody.fN)), .st [.lf (.int .i64 (y.fBody.fType.fKind)), .lf (.string (y.fBody.fType.fName)), .sl false sh65 ((y.fBody.fType.fArgs).map (TType.dd false))], .sl false sh75 ((y.fBody.fArgs).map (TExpr.dd false)), .sl false sh172 ((y.fBody.fArms).map (TArm.dd false))]]) :: cs) (pp y) (.d (.lf (.bool (p y))))) (hq : ∀ y ∈ l, pp y) (h : HP) : CS cx.P 330 [.d (.sl false sh172 ((l).map (TArm.dd false))), .fn g cs] h (.d (.lf (.int .i64 (idxP l p)))) h := by
 refine Xe Tryz.func330 rfl 19 [.tmp 4] ?_
 let M : List Nat := []
 let G : List Nat := []
 have H := etas
 have hq2 : ∀ k (hk : k < l.length), pp l[k] := fun k hk => hq _ (List.getElem_mem hk)
 replace H := And.intro hv.all H
 repeat' (first | refine GO ?_ | (refine Two.mk ?_ ?_ <;> intro hb <;> (try simp at hb) <;> (try norm_cast at hb) <;> try replace H := HN hb H) | (refine RG.mk ?_; (try clear hK hD); first | intro _ K hD hK | intro K hD hK) | (refine RF.mk ?_; intro hr) | (refine LF.mk ?_; (try clear hK hD); first | rfl | (simp [idxP_fs, ipF, fs_at, fs_end, *]; done) | (simp_all [idxP_fs, ipF, fs_at, fs_end]; done) | grind [idxP_fs, ipF, fs_at, fs_end]))
 refine W.loopR [0, 1, 7] [] (fun k0 _ => [(8, .d (.lf (.int .i64 (k0 : Int))))]) (fun _ _ => []) (l.length) (fun k0 _ => fs (ipF p) 0 l = fs (ipF p) k0 (l.drop k0)) (fun S => ()) rfl (by simp [H]) (by first | trivial | rfl | (simp; done) | (simp [idxP_fs, ipF, fs_at, fs_end]; done) | (simp_all [idxP_fs, ipF, fs_at, fs_end]; done)) ?_
 intro k0 hk0 s0 hi0 T hT; simp at hT; subst hT
 repeat' (first | refine GO ?_ | (refine Two.mk ?_ ?_ <;> intro hb <;> (try simp at hb) <;> (try norm_cast at hb) <;> try replace H := HN hb H) | (refine RG.mk ?_; (try clear hK hD); first | intro _ K hD hK | intro K hD hK) | (refine RF.mk ?_; intro hr) | (refine LF.mk ?_; (try clear hK hD); first | rfl | (simp [idxP_fs, ipF, fs_at, fs_end, *]; done) | (simp_all [idxP_fs, ipF, fs_at, fs_end]; done) | grind [idxP_fs, ipF, fs_at, fs_end]))
instance idFArm_i (l : List TArm) (g : Nat) (cs : List AV) (p : TArm → Bool) (pp : TArm → Prop) [hv : VwC cs] [hi : ∀ y : TArm, Ct cx g (.d (.st [.lf (.string (y.fConstructor)), .sl false .one ((y.fVars).map (dS)), .st [.lf (.int .i64 (y.fBody.fKind)), .lf (.string (y.fBody.fTrait)), .lf (.string (y.fBody.fName)), .lf (.int .i64 (y.fBody.fN)), .st [.lf (.int .i64 (y.fBody.fType.fKind)), .lf (.string (y.fBody.fType.fName)), .sl false sh65 ((y.fBody.fType.fArgs).map (TType.dd false))], .sl false sh75 ((y.fBody.fArgs).map (TExpr.dd false)), .sl false sh172 ((y.fBody.fArms).map (TArm.dd false))]]) :: cs) (pp y) (.d (.lf (.bool (p y))))] : Ct cx 330 [.d (.sl false sh172 ((l).map (TArm.dd false))), .fn g cs] (∀ y ∈ l, pp y) (.d (.lf (.int .i64 (idxP l p)))) := ⟨fk1 Tryz.func330, fun hq h => idFArm l g cs p pp hv hi hq h⟩
theorem coFSignature (l : List TSignature) (g : Nat) (cs : List AV) (p : TSignature → Bool) (pp : TSignature → Prop) [hv : VwC cs] [hi : ∀ y : TSignature, Ct cx g (.d (.st [.lf (.string (y.fName)), .sl false sh65 ((y.fParams).map (TType.dd false)), .st [.lf (.int .i64 (y.fResult.fKind)), .lf (.string (y.fResult.fName)), .sl false sh65 ((y.fResult.fArgs).map (TType.dd false))], .lf (.bool (y.fHasDefault)), .sl false .one ((y.fVars).map (dS)), .st [.lf (.int .i64 (y.fBody.fKind)), .lf (.string (y.fBody.fTrait)), .lf (.string (y.fBody.fName)), .lf (.int .i64 (y.fBody.fN)), .st [.lf (.int .i64 (y.fBody.fType.fKind)), .lf (.string (y.fBody.fType.fName)), .sl false sh65 ((y.fBody.fType.fArgs).map (TType.dd false))], .sl false sh75 ((y.fBody.fArgs).map (TExpr.dd false)), .sl false sh172 ((y.fBody.fArms).map (TArm.dd false))]]) :: cs) (pp y) (.d (.lf (.bool (p y))))] (hq : ∀ y ∈ l, pp y) (h : HP) : CS cx.P 328 [.d (.sl false sh109 ((l).map (TSignature.dd false))), .fn g cs] h (.d (.lf (.bool (l.any p)))) h := by
 refine Xe Tryz.func328 rfl 9 [.tmp 4] ?_
 let M : List Nat := []
 let G : List Nat := []
 have H := etas
 replace H := And.intro hv.all H
 repeat' (first | refine GO ?_ | (refine Two.mk ?_ ?_ <;> intro hb <;> (try simp at hb) <;> (try norm_cast at hb) <;> try replace H := HN hb H) | (refine RG.mk ?_; (try clear hK hD); first | intro _ K hD hK | intro K hD hK) | (refine RF.mk ?_; intro hr) | (refine LF.mk ?_; (try clear hK hD); first | rfl | (simp [idxP_any, idxP_any2, *]; done) | (simp_all [idxP_any, idxP_any2]; done) | grind [idxP_any, idxP_any2]))
instance coFSignature_i (l : List TSignature) (g : Nat) (cs : List AV) (p : TSignature → Bool) (pp : TSignature → Prop) [hv : VwC cs] [hi : ∀ y : TSignature, Ct cx g (.d (.st [.lf (.string (y.fName)), .sl false sh65 ((y.fParams).map (TType.dd false)), .st [.lf (.int .i64 (y.fResult.fKind)), .lf (.string (y.fResult.fName)), .sl false sh65 ((y.fResult.fArgs).map (TType.dd false))], .lf (.bool (y.fHasDefault)), .sl false .one ((y.fVars).map (dS)), .st [.lf (.int .i64 (y.fBody.fKind)), .lf (.string (y.fBody.fTrait)), .lf (.string (y.fBody.fName)), .lf (.int .i64 (y.fBody.fN)), .st [.lf (.int .i64 (y.fBody.fType.fKind)), .lf (.string (y.fBody.fType.fName)), .sl false sh65 ((y.fBody.fType.fArgs).map (TType.dd false))], .sl false sh75 ((y.fBody.fArgs).map (TExpr.dd false)), .sl false sh172 ((y.fBody.fArms).map (TArm.dd false))]]) :: cs) (pp y) (.d (.lf (.bool (p y))))] : Ct cx 328 [.d (.sl false sh109 ((l).map (TSignature.dd false))), .fn g cs] (∀ y ∈ l, pp y) (.d (.lf (.bool (l.any p)))) := ⟨fk1 Tryz.func328, fun hq h => coFSignature l g cs p pp hq h⟩
theorem coFType (l : List TType) (g : Nat) (cs : List AV) (p : TType → Bool) (pp : TType → Prop) [hv : VwC cs] [hi : ∀ y : TType, Ct cx g (.d (.st [.lf (.int .i64 (y.fKind)), .lf (.string (y.fName)), .sl false sh65 ((y.fArgs).map (TType.dd false))]) :: cs) (pp y) (.d (.lf (.bool (p y))))] (hq : ∀ y ∈ l, pp y) (h : HP) : CS cx.P 252 [.d (.sl false sh65 ((l).map (TType.dd false))), .fn g cs] h (.d (.lf (.bool (l.any p)))) h := by
 refine Xe Tryz.func252 rfl 9 [.tmp 4] ?_
 let M : List Nat := []
 let G : List Nat := []
 have H := etas
 replace H := And.intro hv.all H
 repeat' (first | refine GO ?_ | (refine Two.mk ?_ ?_ <;> intro hb <;> (try simp at hb) <;> (try norm_cast at hb) <;> try replace H := HN hb H) | (refine RG.mk ?_; (try clear hK hD); first | intro _ K hD hK | intro K hD hK) | (refine RF.mk ?_; intro hr) | (refine LF.mk ?_; (try clear hK hD); first | rfl | (simp [idxP_any, idxP_any2, *]; done) | (simp_all [idxP_any, idxP_any2]; done) | grind [idxP_any, idxP_any2]))
instance coFType_i (l : List TType) (g : Nat) (cs : List AV) (p : TType → Bool) (pp : TType → Prop) [hv : VwC cs] [hi : ∀ y : TType, Ct cx g (.d (.st [.lf (.int .i64 (y.fKind)), .lf (.string (y.fName)), .sl false sh65 ((y.fArgs).map (TType.dd false))]) :: cs) (pp y) (.d (.lf (.bool (p y))))] : Ct cx 252 [.d (.sl false sh65 ((l).map (TType.dd false))), .fn g cs] (∀ y ∈ l, pp y) (.d (.lf (.bool (l.any p)))) := ⟨fk1 Tryz.func252, fun hq h => coFType l g cs p pp hq h⟩
instance iArmC (y : TArm) (s : ByteArray) : Ct cx 331 [.d (.st [.lf (.string (y.fConstructor)), .sl false .one ((y.fVars).map (dS)), .st [.lf (.int .i64 (y.fBody.fKind)), .lf (.string (y.fBody.fTrait)), .lf (.string (y.fBody.fName)), .lf (.int .i64 (y.fBody.fN)), .st [.lf (.int .i64 (y.fBody.fType.fKind)), .lf (.string (y.fBody.fType.fName)), .sl false sh65 ((y.fBody.fType.fArgs).map (TType.dd false))], .sl false sh75 ((y.fBody.fArgs).map (TExpr.dd false)), .sl false sh172 ((y.fBody.fArms).map (TArm.dd false))]]), .el (.lf (.string s))] (True) (.d (.lf (.bool (decide (y.fConstructor = s))))) := by
 refine Xi Tryz.func331 8 [.tmp 3] [] [] etas trivial ?_; intro hp h M G H E
 repeat' (first | (refine IN.mk ?_; intros) | (refine iTw ?_; refine T2 ?_ ?_ <;> intro hb H <;> try exact hb.elim) | (refine LF.mk ?_; exact LX) | refine GN ?_)
instance iArmAt (a : List TArm) (s : ByteArray) : Ct cx 267 [.d (.sl false sh172 ((a).map (TArm.dd false))), .d (.lf (.string (s)))] (True) (.d (.lf (.int .i64 (arI a s)))) := by
 refine Xi Tryz.func267 8 [.tmp 4] [] [] etas (@arI.eq_1) ?_; intro hp h M G H E
 repeat' (first | (refine W.fzR (id := 1) 3 3 [0] [] ?_) | (refine IN.mk ?_; intros) | (refine iTw ?_; refine T2 ?_ ?_ <;> intro hb H <;> try exact hb.elim) | (refine LF.mk ?_; exact LX) | refine GN ?_)
instance iDst_i (l : List ByteArray) : Ct cx 49 [.d (.sl false .one ((l).map (dS)))] (l.length ≤ 134217728) (.d (.lf (.bool (dst l)))) := ⟨fk1 Tryz.func49, fun hp h => by have q := iDst_d l hp h; first | exact q | simpa using q⟩
instance iFit (d : TDataType) (a : List TArm) : Ct cx 197 [.d (.st [.lf (.string (d.fName)), .sl false .one ((d.fVars).map (dS)), .sl false sh116 ((d.fConstructors).map (TConstructor.dd false))]), .d (.sl false sh172 ((a).map (TArm.dd false)))] (d.fConstructors.length ≤ 134217728) (.d (.lf (.bool (fitA d a)))) := by
 refine Xi Tryz.func197 50 [.tmp 4] [16, 17] [] etas (And.intro @fitA_eq2 <| And.intro @all_at <| And.intro @all_end <| @Int.ofNat_inj) ?_; intro hp h M G H E
 repeat' (first | (refine IN.mk ?_; intros) | (refine iTw ?_; refine T2 ?_ ?_ <;> intro hb H <;> try (first | exact hb.elim | (exfalso; omega))) | (refine LF.mk ?_; exact LX) | refine BO.mk ?_ ?_ | (apply iPJ; exact NPJ) | apply PXs.of | refine GN ?_ | (refine XL [1, 11, 12] [] (fun k0 _ => [(13, .d (.lf (.int .i64 (k0 : Int)))), (5, .d (.sl true .one ((mp TConstructor.fName d.fConstructors k0).map dS)))]) (fun _ _ => []) (d.fConstructors.length) (fun k0 _ => d.fConstructors.all (c1 a) = (d.fConstructors.drop k0).all (c1 a)) rU ?_; intro k0 hk0 s0 hi0; have hml := mp_len TConstructor.fName hk0; have hmz := nmC_len d.fConstructors; have hme : d.fConstructors.length ≤ k0 → mp TConstructor.fName d.fConstructors k0 = nmC d.fConstructors := nmC_end; by_cases hkk : k0 < d.fConstructors.length; rotate_left; (have hme2 := hme (by omega); have hae : d.fConstructors.all (c1 a) = true := by rw [hi0, all_end (by omega)]); clear hi0; replace H := And.intro hme2 (And.intro hmz H); rotate_left; rcases arI_cases a d.fConstructors[k0] with ⟨hj1, hj2⟩ | ⟨j, hj, hj1, hj2⟩ <;> replace H := And.intro hj1 (And.intro hj2 H)) | fail)
instance iDepV (w : TProgram) : Ct cx 21 [.d (.st [.sl false sh49 ((w.fPackages).map (TPackage.dd false))])] (w.sz ≤ 134217728) (.d (.lf (.bool (depsJ pkgOk w)))) := by
 refine Xi Tryz.func21 37 [.tmp 2] [13, 24] [] etas (And.intro @dpI_eq2 <| And.intro @fs_at <| And.intro @fs_end <| And.intro @bad_eq <| And.intro @isNone_none <| @isNone_some) ?_; intro hp h M G H E
 have hwz := w.sz_eq; unfold szs at hwz
 repeat' (first | (refine IN.mk ?_; intros) | (refine iTw ?_; refine T2 ?_ ?_ <;> intro hb H <;> try (first | exact hb.elim | (exfalso; omega))) | (refine LF.mk ?_; exact LX) | refine BO.mk ?_ ?_ | (apply iPJ; exact NPJ) | apply PXs.of | refine GN ?_ | (refine XL [8, 9] [] (fun k0 _ => [(10, .d (.lf (.int .i64 (k0 : Int)))), (3, .d (.sl true .one ((mp TPackage.fName w.fPackages k0).map dS)))]) (fun _ _ => []) (w.fPackages.length) (fun k0 _ => fs (bad (dpI w)) 0 w.fPackages = fs (bad (dpI w)) k0 (w.fPackages.drop k0)) rU ?_; intro k0 hk0 s0 hi0; have hml := mp_len TPackage.fName hk0; have hmz := nmL_len TPackage.fName w.fPackages; by_cases hkk : k0 < w.fPackages.length; rotate_left; have hme : mp TPackage.fName w.fPackages k0 = nmL TPackage.fName w.fPackages := mp_end (by omega); (have hfe : depsJ pkgOk w = (decide (w.fPackages.length ≤ 5) && dst (nmL TPackage.fName w.fPackages)) := by rw [depsJ_eq, hi0, fs_end _ _ (by omega)]; rfl); (have h5 : 5 < w.fPackages.length → depsJ pkgOk w = false := fun h => by rw [hfe, decide_eq_false (by omega)]; rfl); (have h6 : w.fPackages.length ≤ 5 → depsJ pkgOk w = dst (nmL TPackage.fName w.fPackages) := fun h => by rw [hfe, decide_eq_true h]; rfl); clear hfe; clear hi0; replace H := And.intro hme (And.intro hmz H); rotate_left; have hpz := szL_le TPackage.sz (List.getElem_mem hkk); have hpq := (w.fPackages[k0]).sz_eq; unfold szs at hpq; have hdj := depsJ_eq w) | (exfalso; omega) | fail)
instance iSigR (t : TTrait) (s : ByteArray) : Ct cx 122 [.d (.st [.lf (.string (t.fName)), .sl false .one ((t.fSupertraits).map (dS)), .lf (.bool (t.fAuto)), .lf (.bool (t.fAssoc)), .sl false sh109 ((t.fSignatures).map (TSignature.dd false))]), .d (.lf (.string (s)))] (True) (.tp [.d (((siR t s).1).dd false), .d (.lf (.int .i64 (((siR t s).2.1 : Nat) : Int))), .d (.lf (.bool ((siR t s).2.2)))]) := by
 refine Xiv Tryz.func122 25 [.cell 4 109, .tmp 5, .tmp 6] [16, 21] [] etas (And.intro @siR.eq_1 <| And.intro @byN.eq_1 <| And.intro @getR.eq_def <| And.intro @byF.eq_1 <| And.intro @fs_at <| And.intro @fs_end <| And.intro @zSi.eq_1 <| And.intro @zT.eq_1 <| @zX.eq_1) ?_; intro hp h M G H E
 repeat' (first | (refine IN.mk ?_; intros) | (refine iTw ?_; refine T2 ?_ ?_ <;> intro hb H <;> try exact hb.elim) | (refine LF.mk ?_; exact LX) | refine GN ?_ | (refine XC [1, 4, 10, 11] [4] 12 (t.fSignatures.length) (fun k0 => fs (byF TSignature.fName s) 0 t.fSignatures = fs (byF TSignature.fName s) k0 (t.fSignatures.drop k0)) ?_; intro k0 hk0 hi0) | fail)
instance iMetR (x : TInstance) (s : ByteArray) : Ct cx 123 [.d (.st [.lf (.string (x.fTrait)), .sl false .one ((x.fVars).map (dS)), .st [.lf (.int .i64 (x.fHead.fKind)), .lf (.string (x.fHead.fName)), .sl false sh65 ((x.fHead.fArgs).map (TType.dd false))], .sl false sh174 ((x.fWhere).map (TBound.dd false)), .lf (.bool (x.fDefault)), .lf (.bool (x.fHasAssoc)), .st [.lf (.int .i64 (x.fAssoc.fKind)), .lf (.string (x.fAssoc.fName)), .sl false sh65 ((x.fAssoc.fArgs).map (TType.dd false))], .sl false sh120 ((x.fMethods).map (TMethod.dd false))]), .d (.lf (.string (s)))] (True) (.tp [.d (((meR x s).1).dd false), .d (.lf (.bool ((meR x s).2.2)))]) := by
 refine Xiv Tryz.func123 22 [.cell 4 120, .tmp 5] [14, 19] [] etas (And.intro @meR.eq_1 <| And.intro @byN.eq_1 <| And.intro @getR.eq_def <| And.intro @byF.eq_1 <| And.intro @fs_at <| And.intro @fs_end <| And.intro @zMe.eq_1 <| And.intro @zX.eq_1 <| @zT.eq_1) ?_; intro hp h M G H E
 repeat' (first | (refine IN.mk ?_; intros) | (refine iTw ?_; refine T2 ?_ ?_ <;> intro hb H <;> try exact hb.elim) | (refine LF.mk ?_; exact LX) | refine GN ?_ | (refine XC [1, 4, 9, 10] [4] 11 (x.fMethods.length) (fun k0 => fs (byF TMethod.fName s) 0 x.fMethods = fs (byF TMethod.fName s) k0 (x.fMethods.drop k0)) ?_; intro k0 hk0 hi0) | fail)
instance iMeths (t : TTrait) (x : TInstance) : Ct cx 64 [.d (.st [.lf (.string (t.fName)), .sl false .one ((t.fSupertraits).map (dS)), .lf (.bool (t.fAuto)), .lf (.bool (t.fAssoc)), .sl false sh109 ((t.fSignatures).map (TSignature.dd false))]), .d (.st [.lf (.string (x.fTrait)), .sl false .one ((x.fVars).map (dS)), .st [.lf (.int .i64 (x.fHead.fKind)), .lf (.string (x.fHead.fName)), .sl false sh65 ((x.fHead.fArgs).map (TType.dd false))], .sl false sh174 ((x.fWhere).map (TBound.dd false)), .lf (.bool (x.fDefault)), .lf (.bool (x.fHasAssoc)), .st [.lf (.int .i64 (x.fAssoc.fKind)), .lf (.string (x.fAssoc.fName)), .sl false sh65 ((x.fAssoc.fArgs).map (TType.dd false))], .sl false sh120 ((x.fMethods).map (TMethod.dd false))])] (t.sz ≤ 134217728) (.d (.lf (.int .i64 (if methsOk t x then 0 else 6)))) := by
 refine Xi Tryz.func64 64 [.tmp 4] [20, 48] [] etas (And.intro @methsOk_eq <| And.intro @m1.eq_1 <| And.intro @m2.eq_1 <| And.intro @all_at <| @all_end) ?_; intro hp h M G H E
 have hsw := @siR_w t hp; replace H := And.intro hsw H
 repeat' (first | (refine IN.mk ?_; intros) | (refine iTw ?_; refine T2 ?_ ?_ <;> intro hb H <;> try exact hb.elim) | (refine LF.mk ?_; exact LX) | refine BO.mk ?_ ?_ | (apply iPJ; exact NPJ) | apply PXs.of | refine GN ?_ | (refine XC [2, 3, 15, 16] [2, 3] 17 (x.fMethods.length) (fun k0 => (x.fMethods.all (m1 t)) = (x.fMethods.drop k0).all (m1 t)) ?_; intro k0 hk0 hi0) | (refine XC [3, 43, 44] [3] 45 (t.fSignatures.length) (fun k1 => x.fMethods.all (m1 t) = true ∧ t.fSignatures.all (m2 x) = (t.fSignatures.drop k1).all (m2 x)) ?_; intro k1 hk1 hi1) | fail)
def Visit2 {α : Type} (v : ByteArray) (g : Nat) (k : Nat) (val : α → DD) (step : TType → α → α) (sz : α → Nat) : Prop := ∀ y : TType, y.sz ≤ 134217728 → ∀ c : α, sz c < 1073741824 → ∀ (lv : Nat) (h : HP), hpg h lv k = some (.d (val c)) → CS cx.P g [.d (y.dd false), .el (.lf (.string v)), .pt lv k []] h (.tp []) (hps h lv k (some (.d (val (step y c)))))
def cnS (v : ByteArray) (y : TType) (c : Nat) : Nat := if (decide (y.fKind = 1) && decide (y.fName = v)) = true then c + 1 else c
theorem cnS_le (v : ByteArray) (y : TType) (c : Nat) : cnS v y c ≤ c + 1 := by unfold cnS; split <;> omega
mutual
theorem ev_cn (v : ByteArray) : ∀ (x : TType) (c : Nat), ev (cnS v) x c = c + occ v x
 | ⟨k, n, l⟩, c => by
  simp only [ev, evs_cn v l, occ, cnS]
  by_cases h1 : k = 1 <;> by_cases h2 : n = v <;> simp [h1, h2] <;> omega
theorem evs_cn (v : ByteArray) : ∀ (l : List TType) (c : Nat), evs (cnS v) l c = c + occs v l
 | [], c => by simp [evs, occs]
 | x :: l, c => by simp only [evs, occs, ev_cn v x, evs_cn v l]; omega
end
theorem eachType2_a {α : Type} (x : TType) (hz : x.sz ≤ 134217728) (v : ByteArray) (g : Nat) (fn : Func) (body : Code) (hg : FnOk cx.P g fn body) (k : Nat) (val : α → DD) (step : TType → α → α) (sz : α → Nat) (hsz : ∀ y c, sz (step y c) ≤ sz c + 1) (hv : Visit2 v g k val step sz) (c : α) (hc : sz c + tSize x ≤ 1073741824) (lv : Nat) (ih : ∀ y ∈ x.fArgs, ∀ c, sz c + tSize y ≤ 1073741824 → ∀ (lv : Nat) (h : HP), hpg h lv k = some (.d (val c)) → CS cx.P 255 [.d (y.dd false), .fn g [.el (.lf (.string v)), .pt lv k []]] h (.tp []) (hps h lv k (some (.d (val (ev step y c)))))) (h : HP) (hcap : hpg h lv k = some (.d (val c))) : CS cx.P 255 [.d (x.dd false), .fn g [.el (.lf (.string v)), .pt lv k []]] h (.tp []) (hps h lv k (some (.d (val (ev step x c))))) := by
 have hz2 := x.sz_eq; unfold szs at hz2
 have hc2 := hpgD hcap
 have hts : 0 < tSize x := by cases x; simp only [tSize]; omega
 refine Ze Tryz.func255 rfl 20 ?_
 apply Zr; intros
 refine Zo ?_; simp
 exact Zx
 apply Zr; intros
 iterate 2 (refine Zo ?_; simp)
 refine WL.call [] _ _ _ rfl rfl (by simp) (g := g) (caps := [.el (.lf (.string v)), .pt (lv + 1) k []]) (by simp) (by simp) hg rfl (by simp) (by simp) (by simp) (hv x hz c (by omega) (lv + 1) _ (by simpa using hc2)) rfl ?_; simp
 exact Zx
 apply Zr; intros
 iterate 4 (refine Zo ?_; simp)
 exact Zx
 refine W.block ?_
 refine W.loopT [1, 10, 11] [] (fun k0 => [(12, .d (.lf (.int .i64 (k0 : Int))))]) (fun _ => []) x.fArgs.length (fun k0 => hps h lv k (some (.d (val (evK step x c k0))))) (by simp [evK_zero]) (by simp) fun k0 hk0 T hT => ?_
 simp at hT; subst hT
 apply Zr; intros
 refine Zo ?_; simp
 exact Zx
 refine Zv rfl ?_ ?_ <;> intro hb0 <;> try simp at hb0
 have hx := ixNext hb0 (by omega)
 have hs := evK_step (step := step) (c := c) hb0
 refine W.skip ?_
 refine Zb ?_
 apply Zr; intros
 refine Zo ?_ (by simp [hb0, hx] <;> omega); simp [hb0, hx]
 refine Zm [15] ?_ (by simp [hb0, hx] <;> omega); simp [hb0, hx]
 iterate 2 (refine Zo ?_ (by simp [hb0, hx] <;> omega); simp [hb0, hx])
 exact Zx
 apply Zs; intros
 iterate 2 (refine Zo ?_ (by simp [hb0, hx] <;> omega); simp [hb0, hx])
 refine Zl [] rfl Tryz.func255 (ih x.fArgs[k0] (gm hb0) (evK step x c k0) (by have := evK_sz hsz (c := c) hb0; omega) (lv + 1) _ (by simpa using hpgD (hpg_self hcap))) ?_ (by simp [hb0, hx]); simp [hb0, hx]
 exact Zx
 apply Zs; intros
 iterate 2 (refine Zo ?_ (by simp [hb0, hx] <;> omega); simp [hb0, hx])
 exact Zx
 refine ⟨hb0, Wz.toT (by simp [hs]) rfl ?_⟩
 simp
 have hkl : k0 = x.fArgs.length := by omega
 subst hkl
 simp only [evK_full]
 refine W.exit ?_
 refine ⟨.inl rfl, ⟨_, rfl⟩, ?_⟩
 simp [Tryz.f255]
theorem eachType2_d {α : Type} (x : TType) (hz : x.sz ≤ 134217728) (v : ByteArray) (g : Nat) (fn : Func) (body : Code) (hg : FnOk cx.P g fn body) (k : Nat) (val : α → DD) (step : TType → α → α) (sz : α → Nat) (hsz : ∀ y c, sz (step y c) ≤ sz c + 1) (hv : Visit2 v g k val step sz) (c : α) (hc : sz c + tSize x ≤ 1073741824) (lv : Nat) (h : HP) (hcap : hpg h lv k = some (.d (val c))) : CS cx.P 255 [.d (x.dd false), .fn g [.el (.lf (.string v)), .pt lv k []]] h (.tp []) (hps h lv k (some (.d (val (ev step x c))))) := eachType2_a x hz v g fn body hg k val step sz hsz hv c hc lv (fun y hy c hc lv h hcap => eachType2_d y (by have h1 := szL_le TType.sz hy; have h2 := x.sz_eq; unfold szs at h2; omega) v g fn body hg k val step sz hsz hv c hc lv h hcap) h hcap
termination_by SizeOf.sizeOf x
decreasing_by have := List.sizeOf_lt_of_mem hy; have := x.lt_fArgs; omega
theorem cnClo_d (v : ByteArray) (y : TType) (c : Nat) (hcl : c < 1073741824) (lv k : Nat) (h : HP) (hcap : hpg h lv k = some (.d (.lf (.int .i64 ((c : Nat) : Int))))) : CS cx.P 357 [.d (y.dd false), .el (.lf (.string v)), .pt lv k []] h (.tp []) (hps h lv k (some (.d (.lf (.int .i64 ((cnS v y c : Nat) : Int)))))) := by
 have hc2 := hpgD hcap
 have hw : IntKind.i64.wrap ((c : Int) + 1) = ((c + 1 : Nat) : Int) := by rw [i64w (by omega) (by omega)]; omega
 refine Ze Tryz.func357 rfl 15 ?_
 apply Zr; intros
 refine Zo ?_ (by simp [hc2, hw] <;> omega); simp [hc2, hw]
 exact Zx
 refine W.seq ?_
 refine W.regJ (D := _) [2] [] [(12, .d (.lf (.bool (decide (y.fKind = 1) && decide (y.fName = v)))))] [] rfl (fun _ K hD hK => ?_) fun T hT => ?_
 iterate 4 (refine Zo ?_ (by simp [hc2, hw] <;> omega); simp [hc2, hw])
 refine WL.split 7 _ rfl (fun g7 => ?_) fun g7 => ?_ <;> try simp at g7
 simp [hc2, hw]
 iterate 4 (refine Zg hD rfl rfl ?_ (by simp [hc2, hw] <;> omega); simp [hc2, hw])
 refine Zo ?_ (by simp [hc2, hw] <;> omega); simp [hc2, hw]
 refine WL.nil (hK _ (Wz.to rfl rfl rfl ?_))
 simp [g7]
 simp [hc2, hw]
 iterate 4 (refine Zn hD rfl rfl ?_; simp [hc2, hw])
 refine Zo ?_ (by simp [hc2, hw] <;> omega); simp [hc2, hw]
 refine WL.nil (hK _ (Wz.to rfl rfl rfl ?_))
 simp [g7]
 simp at hT; subst hT
 refine Zc rfl ?_ ?_ <;> intro hb0 <;> try simp at hb0
 have ht : cnS v y c = c + 1 := by unfold cnS; rw [if_pos (by simpa using hb0)]
 have hsm : True := trivial
 apply Zs; intros
 iterate 3 (refine Zo ?_ (by simp [hc2, hw] <;> omega); simp [hc2, hw])
 exact Zx
 refine ⟨.inl rfl, ⟨_, congrArg (List.cons _) (by simp [ht, hsm])⟩, ?_⟩
 simp [Tryz.f357, ht]
 have ht : cnS v y c = c := by unfold cnS; rw [if_neg (by simpa using hb0)]
 have hsm := hps_same _ _ _ _ hcap
 refine W.skip ?_
 refine ⟨.inl rfl, ⟨_, congrArg (List.cons _) (by simp [ht, hsm])⟩, ?_⟩
 simp [Tryz.f357, ht]
theorem iCnt (x : TType) (v : ByteArray) (hp : x.sz ≤ 134217728) (h : HP) : CS cx.P 289 [.d ((x).dd false), .d (.lf (.string (v)))] h (.d (.lf (.int .i64 ((occ v x : Nat) : Int)))) h := by
 refine Xe Tryz.func289 rfl 10 [.tmp 4] ?_
 let M : List Nat := []
 let G : List Nat := []
 have H := etas
 have hts := tSize_le x
 repeat' (first | (refine W.fzR (id := 2) 3 3 [2, 5] [2, 5] ?_) | (refine XlH G Tryz.func255 (eachType2_d x (by omega) v 357 Tryz.f357 _ ⟨Tryz.func357, rfl, rfl⟩ 5 (fun c => .lf (.int .i64 ((c : Nat) : Int))) (cnS v) (fun c => c) (cnS_le v) (fun y _ c hc lv h hcap => cnClo_d v y c hc lv 5 h hcap) 0 (by show 0 + tSize x ≤ _; omega) 0 _ (by simp)) ?_) | refine GO ?_ | (refine Two.mk ?_ ?_ <;> intro hb <;> (try simp at hb) <;> (try norm_cast at hb) <;> try replace H := HN hb H) | (refine RG.mk ?_; (try clear hK hD); first | intro _ K hD hK | intro K hD hK) | (refine RF.mk ?_; intro hr) | (refine LF.mk ?_; (try clear hK hD); first | rfl | (simp [ev_cn, *]; done) | (simp_all [ev_cn]; done) | grind [ev_cn]))
instance iCnt_i (k : Int) (n : ByteArray) (l : List TType) (v : ByteArray) : Ct cx 289 [.d (.st [.lf (.int .i64 (k)), .lf (.string (n)), .sl false sh65 ((l).map (TType.dd false))]), .d (.lf (.string (v)))] (TType.sz ⟨k, n, l⟩ ≤ 134217728) (.d (.lf (.int .i64 ((occ v ⟨k, n, l⟩ : Nat) : Int)))) := ⟨fk1 Tryz.func289, fun hp h => by have q := iCnt ⟨k, n, l⟩ v hp h; first | exact q | simpa using q⟩
theorem iOcc (v : ByteArray) (x : TType) (hp : x.sz ≤ 134217728) (h : HP) : CS cx.P 389 [.d (.lf (.string (v))), .d ((x).dd false)] h (.d (.lf (.bool (decide (0 < occ v x))))) h := by
 refine Xe Tryz.func389 rfl 9 [.tmp 4] ?_
 let M : List Nat := []
 let G : List Nat := []
 have H := etas
 repeat' (first | refine GO ?_ | (refine Two.mk ?_ ?_ <;> intro hb <;> (try simp at hb) <;> (try norm_cast at hb) <;> try replace H := HN hb H) | (refine RG.mk ?_; (try clear hK hD); first | intro _ K hD hK | intro K hD hK) | (refine RF.mk ?_; intro hr) | (refine LF.mk ?_; (try clear hK hD); first | rfl | (simp [*]; done) | (simp_all; done) | grind))
instance iOcc_i (v : ByteArray) (k : Int) (n : ByteArray) (l : List TType) : Ct cx 389 [.d (.lf (.string (v))), .d (.st [.lf (.int .i64 (k)), .lf (.string (n)), .sl false sh65 ((l).map (TType.dd false))])] (TType.sz ⟨k, n, l⟩ ≤ 134217728) (.d (.lf (.bool (decide (0 < occ v ⟨k, n, l⟩))))) := ⟨fk1 Tryz.func389, fun hp h => by have q := iOcc v ⟨k, n, l⟩ hp h; first | exact q | simpa using q⟩
theorem iSelfC (y : TType) (hp : y.sz ≤ 134217728) (h : HP) : CS cx.P 390 [.d ((y).dd false)] h (.d (.lf (.bool (decide (0 < occ selfS y))))) h := by
 refine Xe Tryz.func390 rfl 5 [.tmp 2] ?_
 let M : List Nat := []
 let G : List Nat := []
 have H := etas
 repeat' (first | refine GO ?_ | (refine Two.mk ?_ ?_ <;> intro hb <;> (try simp at hb) <;> (try norm_cast at hb) <;> try replace H := HN hb H) | (refine RG.mk ?_; (try clear hK hD); first | intro _ K hD hK | intro K hD hK) | (refine RF.mk ?_; intro hr) | (refine LF.mk ?_; (try clear hK hD); first | rfl | (simp [selfS, *]; done) | (simp_all [selfS]; done) | grind [selfS]))
instance iSelfC_i (y : TType) : Ct cx 390 [.d (.st [.lf (.int .i64 (y.fKind)), .lf (.string (y.fName)), .sl false sh65 ((y.fArgs).map (TType.dd false))])] (y.sz ≤ 134217728) (.d (.lf (.bool (decide (0 < occ selfS y))))) := ⟨fk1 Tryz.func390, fun hp h => by have q := iSelfC y hp h; first | exact q | simpa using q⟩
end Go.Proofs.YtdooklofebdknaaGreat
