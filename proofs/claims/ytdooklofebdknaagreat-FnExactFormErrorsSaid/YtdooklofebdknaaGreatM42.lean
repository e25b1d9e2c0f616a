/- Walks by the Den rules; What is needed of an expression, with what is found laid open. No condition but sizes. -/
import Derived.Test.YtdooklofebdknaaGreatM31
import Derived.Test.YtdooklofebdknaaGreatM33
import Derived.Test.YtdooklofebdknaaGreatM36
import Derived.Test.YtdooklofebdknaaGreatM40
import Derived.Test.YtdooklofebdknaaGreatM41
namespace Go.Proofs.YtdooklofebdknaaGreat
open Go.RowKit
set_option maxRecDepth 10000
set_option linter.unusedSimpArgs false
set_option maxHeartbeats 4000000
attribute [simp] cnt_zero cnt_nx armP_eq
def dupK (l : List TConstructor) (s : ByteArray) (k0 k2 : Nat) : Bool := ((l.take k0).drop k2).any fun c => decide (c.fName = s)
theorem dupK_at {l : List TConstructor} {s : ByteArray} {k0 k2 : Nat} (h : k2 < k0) (h2 : k0 ≤ l.length) : dupK l s k0 k2 = (decide ((l[k2]'(by omega)).fName = s) || dupK l s k0 (k2 + 1)) := by
  unfold dupK
  rw [any_at (l := l.take k0) (by simp; omega)]
  simp
theorem dupK_end {l : List TConstructor} {s : ByteArray} {k0 k2 : Nat} (h : k0 ≤ k2) : dupK l s k0 k2 = false := by
  unfold dupK; exact any_end (by simp; omega)
theorem sArms (d : TDataType) (a : List TArm) (h : HP) : CS cx.P 243 [.d ((d).dd false), .d (.sl false sh172 ((a).map (TArm.dd false)))] h (.d (.lf (.bool (fitS d a)))) h := by
 refine Xe Tryz.func243 rfl 78 [.tmp 4] ?_
 let M : List Nat := []
 let G : List Nat := []
 have H := etas
 repeat' (first | refine GO ?_ | (refine Two.mk ?_ ?_ <;> intro hb <;> (try simp at hb) <;> (try norm_cast at hb) <;> try replace H := HN hb H) | (refine RG.mk ?_; (try clear hK hD); first | intro _ K hD hK | intro K hD hK) | (refine RF.mk ?_; intro hr) | (refine LF.mk ?_; (try clear hK hD); first | rfl | (simp [fitS, fs_at, fs_end, bad_eq, ctOk, isNone_none, isNone_some, *]; done)))
 have hlp : LF (a.length = d.fConstructors.length) := ⟨‹_›⟩; clear ‹a.length = d.fConstructors.length›
 refine W.loopR [1, 2] [2] (fun k0 _ => [(5, .d (.lf (.int .i64 (k0 : Int))))]) (fun _ _ => []) (d.fConstructors.length) (fun k0 _ => fs (bad (ctOk d.fConstructors a)) 0 d.fConstructors = fs (bad (ctOk d.fConstructors a)) k0 (d.fConstructors.drop k0)) (fun S => ()) rfl (by simp) (by first | trivial | rfl | (simp; done) | (simp [fitS, fs_at, fs_end, bad_eq, ctOk, dupK_at, dupK_end, isNone_none, isNone_some, hlp.r]; done) | (simp_all [fitS, fs_at, fs_end, bad_eq, ctOk, dupK_at, dupK_end, isNone_none, isNone_some, hlp.r]; done)) ?_
 intro k0 hk0 s0 hi0 T hT; simp at hT; subst hT
 repeat' (first | refine GO ?_ | (refine Two.mk ?_ ?_ <;> intro hb <;> (try simp at hb) <;> (try norm_cast at hb) <;> try replace H := HN hb H) | (refine RG.mk ?_; (try clear hK hD); first | intro _ K hD hK | intro K hD hK) | (refine RF.mk ?_; intro hr) | (refine LF.mk ?_; (try clear hK hD); first | rfl | (simp [fitS, fs_at, fs_end, bad_eq, ctOk, dupK_at, dupK_end, isNone_none, isNone_some, hlp.r, *]; done)))
 refine W.loopR [1, 2, 5] [2] (fun k1 _ => [(7, .d (.lf (.int .i64 (k1 : Int)))), (6, .d (.lf (.int .i64 (((cnt (armP d.fConstructors[k0]) a k1 : Nat) : Int)))))]) (fun _ _ => []) (a.length) (fun _ _ => True) (fun S => ()) rfl (by simp) (by first | trivial | rfl | (simp; done) | (simp [fitS, fs_at, fs_end, bad_eq, ctOk, dupK_at, dupK_end, isNone_none, isNone_some, hlp.r]; done) | (simp_all [fitS, fs_at, fs_end, bad_eq, ctOk, dupK_at, dupK_end, isNone_none, isNone_some, hlp.r]; done)) ?_
 intro k1 hk1 s1 hi1 T hT; simp at hT; subst hT
 have hcl := cnt_le (armP d.fConstructors[k0]) a k1
 repeat' (first | refine GO ?_ | (refine Two.mk ?_ ?_ <;> intro hb <;> (try simp at hb) <;> (try norm_cast at hb) <;> try replace H := HN hb H) | (refine RG.mk ?_; (try clear hK hD); first | intro _ K hD hK | intro K hD hK) | (refine RF.mk ?_; intro hr) | (refine LF.mk ?_; (try clear hK hD); first | rfl | (simp [fitS, fs_at, fs_end, bad_eq, ctOk, dupK_at, dupK_end, isNone_none, isNone_some, hlp.r, *]; done)))
 refine W.loopR [1, 2, 5, 6] [2] (fun k2 _ => [(8, .d (.lf (.int .i64 (k2 : Int))))]) (fun _ _ => []) (k0) (fun k2 _ => dupC d.fConstructors k0 d.fConstructors[k0].fName = dupK d.fConstructors d.fConstructors[k0].fName k0 k2) (fun S => ()) rfl (by simp) (by first | trivial | rfl | (simp; done) | (simp [fitS, fs_at, fs_end, bad_eq, ctOk, dupK_at, dupK_end, isNone_none, isNone_some, hlp.r]; done) | (simp_all [fitS, fs_at, fs_end, bad_eq, ctOk, dupK_at, dupK_end, isNone_none, isNone_some, hlp.r]; done)) ?_
 intro k2 hk2 s2 hi2 T hT; simp at hT; subst hT
 have hce : a.countP (armP d.fConstructors[k0]) = cnt (armP d.fConstructors[k0]) a k1 := (cnt_end (by omega)).symm
 repeat' (first | refine GO ?_ | (refine Two.mk ?_ ?_ <;> intro hb <;> (try simp at hb) <;> (try norm_cast at hb) <;> try replace H := HN hb H) | (refine RG.mk ?_; (try clear hK hD); first | intro _ K hD hK | intro K hD hK) | (refine RF.mk ?_; intro hr) | (refine LF.mk ?_; (try clear hK hD); first | rfl | (simp [fitS, fs_at, fs_end, bad_eq, ctOk, dupK_at, dupK_end, isNone_none, isNone_some, hlp.r, *]; done)))
instance sArms_i (d : TDataType) (a : List TArm) : Ct cx 243 [.d (.st [.lf (.string (d.fName)), .sl false .one ((d.fVars).map (dS)), .sl false sh116 ((d.fConstructors).map (TConstructor.dd false))]), .d (.sl false sh172 ((a).map (TArm.dd false)))] (True) (.d (.lf (.bool (fitS d a)))) := ⟨fk1 Tryz.func243, fun hp h => by have q := sArms d a h; first | exact q | simpa using q⟩
def zAr : TArm := ⟨⟨#[]⟩, [], zX⟩
def arm0 (e : TExpr) : TArm := (e.fArms[0]?).getD zAr
def ctC (w : TProgram) (s : ByteArray) : TConstructor := ((ctR w s).1.fConstructors[(ctR w s).2.1]?).getD ⟨⟨#[]⟩, []⟩
theorem arm0_at {e : TExpr} (h : ¬ e.fArms = []) : e.fArms[0]? = some (arm0 e) := by
 unfold arm0; cases hq : e.fArms with
 | nil => exact absurd hq h
 | cons a l => rfl
theorem arm0_ln {e : TExpr} (h : ¬ e.fArms = []) : 0 < e.fArms.length := List.length_pos_iff.2 h
theorem ctC_at {w : TProgram} {V : List Nat} {s : ByteArray} (h : ctV w V s = true) : (ctR w s).1.fConstructors[(ctR w s).2.1]? = some (ctC w s) := by
 unfold ctC; rw [List.getElem?_eq_getElem (ctV_lt h)]; rfl
theorem xHere_eq2 (w : TProgram) (V : List Nat) (e : TExpr) : xHere w V e =
 if e.fKind = 4 then (if fnV w V e.fName && decide ((fnR w e.fName).1.fParams.length = e.fArgs.length) then (0 : Int) else 9)
 else if e.fKind = 5 then (if trV w V e.fTrait then (if (siR (trR w e.fTrait).1 e.fName).2.2 && decide ((siR (trR w e.fTrait).1 e.fName).1.fParams.length + 1 = e.fArgs.length) then (0 : Int) else 6) else 3)
 else if e.fKind = 6 then (if ctV w V e.fName then (if (ctC w e.fName).fFields.length = e.fArgs.length then (0 : Int) else 2) else 1)
 else if e.fKind = 7 then (if e.fArms = [] then (1 : Int) else (if ctV w V (arm0 e).fConstructor then (if fitA (ctR w (arm0 e).fConstructor).1 e.fArms then (0 : Int) else 2) else 1))
 else if e.fKind = 11 then ckD w V e.fTrait
 else if e.fKind = 12 then ckT w V e.fType
 else 0 := by
 rw [xHere_eq]
 have h6 : (if ctV w V e.fName then (if (((ctR w e.fName).1.fConstructors[(ctR w e.fName).2.1]?).map fun c => c.fFields.length) = some e.fArgs.length then (0 : Int) else 2) else 1) = (if ctV w V e.fName then (if (ctC w e.fName).fFields.length = e.fArgs.length then (0 : Int) else 2) else 1) := by
  by_cases h : ctV w V e.fName = true
  ·rw [if_pos h, if_pos h, ctC_at h]; simp
  ·rw [if_neg h, if_neg h]
 have h7 : (if h : 0 < e.fArms.length then (if ctV w V e.fArms[0].fConstructor then (if fitA (ctR w e.fArms[0].fConstructor).1 e.fArms then (0 : Int) else 2) else 1) else 1 : Int) = (if e.fArms = [] then (1 : Int) else (if ctV w V (arm0 e).fConstructor then (if fitA (ctR w (arm0 e).fConstructor).1 e.fArms then (0 : Int) else 2) else 1)) := by
  by_cases h : e.fArms = []
  ·simp [h]
  ·have h1 := arm0_ln h
   have h2 := arm0_at h
   rw [List.getElem?_eq_getElem h1] at h2
   have h3 := Option.some.inj h2
   rw [dif_pos h1, if_neg h, h3]
 rw [h6, h7]
instance sXe (w : TProgram) (i : Int) (e : TExpr) : Ct cx 167 [.d (.st [.sl false sh49 ((w.fPackages).map (TPackage.dd false))]), .d (.lf (.int .i64 (i))), .d (.st [.lf (.int .i64 (e.fKind)), .lf (.string (e.fTrait)), .lf (.string (e.fName)), .lf (.int .i64 (e.fN)), .st [.lf (.int .i64 (e.fType.fKind)), .lf (.string (e.fType.fName)), .sl false sh65 ((e.fType.fArgs).map (TType.dd false))], .sl false sh75 ((e.fArgs).map (TExpr.dd false)), .sl false sh172 ((e.fArms).map (TArm.dd false))])] (w.sz ≤ 134217728) (.d (.lf (.int .i64 (xHere w (vis w i) e)))) := by
 refine Xi Tryz.func167 144 [.tmp 6] [] [] etas (And.intro @xHere_eq2 <| And.intro @fitS_eq <| @fnV.eq_1) ?_; intro hp h M G H E
 have hct := fun s => @ctV_lt w (vis w i) s; have hcc := fun s => @ctC_at w (vis w i) s; have ha0 := @arm0_at e; have ha1 := @arm0_ln e; replace H := And.intro hct (And.intro hcc (And.intro ha0 (And.intro ha1 H)))
 have htz := trR_sz w
 have hsw : ∀ a b, IntKind.i64.wrap (((siR (trR w a).1 b).1.fParams.length : Int) + 1) = ((siR (trR w a).1 b).1.fParams.length : Int) + 1 := fun a b => siR_w (by have := trR_sz w a; omega) b; replace H := And.intro hsw H
 repeat' (first | (refine IN.mk ?_; intros) | (refine iTw ?_; refine T2 ?_ ?_ <;> intro hb H <;> try exact hb.elim) | (refine LF.mk ?_; exact LX) | refine BO.mk ?_ ?_ | (apply iPJ; exact NPJ) | apply PXs.of | refine GN ?_)
theorem ite_z2 (r : Int) : (if r = 0 then 0 else r) = r := by split <;> simp_all
instance sFirst2_i (a b : Int) : Ct cx 95 [.d (.sl false .one [.lf (.int .i64 a), .lf (.int .i64 b)])] (True) (.d (.lf (.int .i64 (or0 a b)))) := ⟨fk1 Tryz.func95, fun hp h => by have q := (sFirst [a, b]).cs trivial h; first | exact q | simpa [fc, or0, dI, ite_z2] using q⟩
instance sFirst3_i (a b c : Int) : Ct cx 95 [.d (.sl false .one [.lf (.int .i64 a), .lf (.int .i64 b), .lf (.int .i64 c)])] (True) (.d (.lf (.int .i64 (or0 a (or0 b c))))) := ⟨fk1 Tryz.func95, fun hp h => by have q := (sFirst [a, b, c]).cs trivial h; first | exact q | simpa [fc, or0, dI, ite_z2] using q⟩
theorem fc_or {α : Type} {f : α → Int} {l : List α} {k : Nat} (h : k < l.length) : fc f (l.drop k) = or0 (f l[k]) (fc f (l.drop (k + 1))) := fc_at h
theorem or0_step {α : Type} {f : α → Int} {l : List α} {k : Nat} {F : Int} (h : k < l.length) : or0 (fc f (l.drop k)) F = or0 (f l[k]) (or0 (fc f (l.drop (k + 1))) F) := by rw [fc_or h, or0_as]
theorem or0_eq0 (a b : Int) : or0 a b = 0 ↔ a = 0 ∧ b = 0 := by
  unfold or0
  by_cases h : a = 0 <;> simp [h]
theorem sCkE_a (w : TProgram) (i : Int) (hp : w.sz ≤ 134217728) : ∀ (n : Nat) (x : TExpr), szX x < n → ∀ h : HP, CS cx.P 98 [.d ((w).dd false), .d (.lf (.int .i64 (i))), .d ((x).dd false)] h (.d (.lf (.int .i64 (ckE w (vis w i) x)))) h := by
 intro n
 induction n with
 | zero => intro x hx; omega
 | succ n ih =>
 intro x hx h
 have g1 := @szX_get x; have g2 := @szX_arm x
 have ii : ∀ (e : TExpr), Ct cx 98 [.d (.st [.sl false sh49 ((w.fPackages).map (TPackage.dd false))]), .d (.lf (.int .i64 (i))), .d (.st [.lf (.int .i64 (e.fKind)), .lf (.string (e.fTrait)), .lf (.string (e.fName)), .lf (.int .i64 (e.fN)), .st [.lf (.int .i64 (e.fType.fKind)), .lf (.string (e.fType.fName)), .sl false sh65 ((e.fType.fArgs).map (TType.dd false))], .sl false sh75 ((e.fArgs).map (TExpr.dd false)), .sl false sh172 ((e.fArms).map (TArm.dd false))])] (szX e < n) (.d (.lf (.int .i64 (ckE w (vis w i) e)))) := fun e => ⟨fk1 Tryz.func98, fun hp h => by have q := ih e hp h; first | exact q | simpa using q⟩
 refine Xe Tryz.func98 rfl 54 [.tmp 6] ?_
 let M : List Nat := []
 let G : List Nat := []
 have H := etas
 repeat' (first | refine GO ?_ | (refine Two.mk ?_ ?_ <;> intro hb <;> (try simp at hb) <;> (try norm_cast at hb) <;> try replace H := HN hb H) | (refine RG.mk ?_; (try clear hK hD); first | intro _ K hD hK | intro K hD hK) | (refine RF.mk ?_; intro hr) | (refine LF.mk ?_; (try clear hK hD); first | rfl | (simp [ckE_eq2, amF, fc_at, fc_end, or0, or0_as, *]; done) | (simp_all [ckE_eq2, amF, fc_at, fc_end, or0, or0_as]; done) | grind [ckE_eq2, amF, fc_at, fc_end, or0, or0_as]))
 refine W.loopR [1, 3, 5] [3, 5] (fun k0 s0 => [(8, .d (.lf (.int .i64 (k0 : Int)))), (7, .d (.lf (.int .i64 (s0))))]) (fun _ _ => []) (x.fArgs.length) (fun k0 s0 => ckE w (vis w i) x = or0 s0 (or0 (fc (ckE w (vis w i)) (x.fArgs.drop k0)) (fc (amF w (vis w i)) x.fArms))) (fun S => avI (S.tm 7)) rfl (by simp) (by simpa using ckE_eq2 w (vis w i) x) ?_
 intro k0 hk0 s0 hi0 T hT; simp at hT; subst hT
 repeat' (first | refine GO ?_ | (refine Two.mk ?_ ?_ <;> intro hb <;> (try simp at hb) <;> (try norm_cast at hb) <;> try replace H := HN hb H) | (refine RG.mk ?_; (try clear hK hD); first | intro _ K hD hK | intro K hD hK) | (refine RF.mk ?_; intro hr) | (refine LF.mk ?_; (try clear hK hD); first | rfl | (simp [or0_step, or0_0, or0_z, or0_ne, fc_end, *]; done) | (simp_all [or0_step, or0_0, or0_z, or0_ne, fc_end]; done) | grind [or0_step, or0_0, or0_z, or0_ne, fc_end]))
 have hx1 : ckE w (vis w i) x = or0 s0 (fc (amF w (vis w i)) x.fArms) := by first | (rw [hi0, fc_end (by omega), or0_0]; done) | (rw [hi0, or0_ne (by assumption), or0_ne (by assumption)])
 clear hi0
 refine W.loopR [1, 3, 5] [3, 5] (fun k1 s1 => [(9, .d (.lf (.int .i64 (k1 : Int)))), (7, .d (.lf (.int .i64 (s1))))]) (fun _ _ => []) (x.fArms.length) (fun k1 s1 => ckE w (vis w i) x = or0 s1 (fc (amF w (vis w i)) (x.fArms.drop k1))) (fun S => avI (S.tm 7)) rfl (by simp) (by simpa using hx1) ?_
 intro k1 hk1 s1 hi1 T hT; simp at hT; subst hT
 repeat' (first | refine GO ?_ | (refine Two.mk ?_ ?_ <;> intro hb <;> (try simp at hb) <;> (try norm_cast at hb) <;> try replace H := HN hb H) | (refine RG.mk ?_; (try clear hK hD); first | intro _ K hD hK | intro K hD hK) | (refine RF.mk ?_; intro hr) | (refine LF.mk ?_; (try clear hK hD); first | rfl | (simp [fc_or, or0_0, or0_z, or0_ne, fc_end, amF, *]; done) | (simp_all [fc_or, or0_0, or0_z, or0_ne, fc_end, amF]; done) | grind [fc_or, or0_0, or0_z, or0_ne, fc_end, amF]))
 have hx1 : ckE w (vis w i) x = or0 s0 (fc (amF w (vis w i)) x.fArms) := by first | (rw [hi0, fc_end (by omega), or0_0]; done) | (rw [hi0, or0_ne (by assumption), or0_ne (by assumption)])
 clear hi0
 refine W.loopR [1, 3, 5] [3, 5] (fun k1 s1 => [(9, .d (.lf (.int .i64 (k1 : Int)))), (7, .d (.lf (.int .i64 (s1))))]) (fun _ _ => []) (x.fArms.length) (fun k1 s1 => ckE w (vis w i) x = or0 s1 (fc (amF w (vis w i)) (x.fArms.drop k1))) (fun S => avI (S.tm 7)) rfl (by simp) (by simpa using hx1) ?_
 intro k1 hk1 s1 hi1 T hT; simp at hT; subst hT
 repeat' (first | refine GO ?_ | (refine Two.mk ?_ ?_ <;> intro hb <;> (try simp at hb) <;> (try norm_cast at hb) <;> try replace H := HN hb H) | (refine RG.mk ?_; (try clear hK hD); first | intro _ K hD hK | intro K hD hK) | (refine RF.mk ?_; intro hr) | (refine LF.mk ?_; (try clear hK hD); first | rfl | (simp [fc_or, or0_0, or0_z, or0_ne, fc_end, amF, *]; done) | (simp_all [fc_or, or0_0, or0_z, or0_ne, fc_end, amF]; done) | grind [fc_or, or0_0, or0_z, or0_ne, fc_end, amF]))
theorem sCkE_d (w : TProgram) (i : Int) (x : TExpr) (hp : w.sz ≤ 134217728) (h : HP) : CS cx.P 98 [.d ((w).dd false), .d (.lf (.int .i64 (i))), .d ((x).dd false)] h (.d (.lf (.int .i64 (ckE w (vis w i) x)))) h := sCkE_a w i hp _ x (Nat.lt_succ_self _) h
instance sCkE_i (w : TProgram) (i : Int) (e : TExpr) : Ct cx 98 [.d (.st [.sl false sh49 ((w.fPackages).map (TPackage.dd false))]), .d (.lf (.int .i64 (i))), .d (.st [.lf (.int .i64 (e.fKind)), .lf (.string (e.fTrait)), .lf (.string (e.fName)), .lf (.int .i64 (e.fN)), .st [.lf (.int .i64 (e.fType.fKind)), .lf (.string (e.fType.fName)), .sl false sh65 ((e.fType.fArgs).map (TType.dd false))], .sl false sh75 ((e.fArgs).map (TExpr.dd false)), .sl false sh172 ((e.fArms).map (TArm.dd false))])] (w.sz ≤ 134217728) (.d (.lf (.int .i64 (ckE w (vis w i) e)))) := ⟨fk1 Tryz.func98, fun hp h => by have q := sCkE_d w i e hp h; first | exact q | simpa using q⟩
instance sTrC (w : TProgram) (i : Int) (t : TTrait) : Ct cx 40 [.d (.st [.sl false sh49 ((w.fPackages).map (TPackage.dd false))]), .d (.lf (.int .i64 (i))), .d (.st [.lf (.string (t.fName)), .sl false .one ((t.fSupertraits).map (dS)), .lf (.bool (t.fAuto)), .lf (.bool (t.fAssoc)), .sl false sh109 ((t.fSignatures).map (TSignature.dd false))])] (w.sz ≤ 134217728) (.d (.lf (.int .i64 (ckTrait w (vis w i) t)))) := by
 refine Xi Tryz.func40 73 [.tmp 6] [46] [] etas (And.intro @ckTrait_eq <| And.intro @suF.eq_1 <| And.intro @sgF.eq_1 <| And.intro @fc_at <| And.intro @fc_end <| @or0.eq_1) ?_; intro hp h M G H E
 repeat' (first | (refine IN.mk ?_; intros) | (refine iTw ?_; refine T2 ?_ ?_ <;> intro hb H <;> try exact hb.elim) | (refine LF.mk ?_; exact LX) | refine BO.mk ?_ ?_ | (apply iPJ; exact NPJ) | apply PXs.of | refine GN ?_ | (refine XC [1, 3, 5] [3, 5] 7 (t.fSupertraits.length) (fun k0 => fc (suF w (vis w i)) t.fSupertraits = fc (suF w (vis w i)) (t.fSupertraits.drop k0)) ?_; intro k0 hk0 hi0) | (refine XC [1, 3, 5] [3, 5] 10 (t.fSignatures.length) (fun k1 => ckTrait w (vis w i) t = fc (sgF w (vis w i)) (t.fSignatures.drop k1)) ?_; intro k1 hk1 hi1) | fail)
instance sMeg_i (t : TTrait) (x : TInstance) (b1 b2 b3 : Bool) : Ct cx 100 [.d (.st [.lf (.string (t.fName)), .sl false .one ((t.fSupertraits).map (dS)), .lf (.bool b1), .lf (.bool b2), .sl false sh109 ((t.fSignatures).map (TSignature.dd false))]), .d (.st [.lf (.string (x.fTrait)), .sl false .one ((x.fVars).map (dS)), .st [.lf (.int .i64 (x.fHead.fKind)), .lf (.string (x.fHead.fName)), .sl false sh65 ((x.fHead.fArgs).map (TType.dd false))], .sl false sh174 ((x.fWhere).map (TBound.dd false)), .lf (.bool (x.fDefault)), .lf (.bool b3), .st [.lf (.int .i64 (x.fAssoc.fKind)), .lf (.string (x.fAssoc.fName)), .sl false sh65 ((x.fAssoc.fArgs).map (TType.dd false))], .sl false sh120 ((x.fMethods).map (TMethod.dd false))])] (t.sz ≤ 134217728) (.d (.lf (.bool (methsOk t x)))) := ⟨fk1 Tryz.func100, fun hp h => by have q := (sMeths { t with fAuto := b1, fAssoc := b2 } { x with fHasAssoc := b3 }).cs hp h; rw [show methsOk { t with fAuto := b1, fAssoc := b2 } { x with fHasAssoc := b3 } = methsOk t x from rfl] at q; simpa using q⟩
instance sInC (w : TProgram) (i : Int) (x : TInstance) : Ct cx 42 [.d (.st [.sl false sh49 ((w.fPackages).map (TPackage.dd false))]), .d (.lf (.int .i64 (i))), .d (.st [.lf (.string (x.fTrait)), .sl false .one ((x.fVars).map (dS)), .st [.lf (.int .i64 (x.fHead.fKind)), .lf (.string (x.fHead.fName)), .sl false sh65 ((x.fHead.fArgs).map (TType.dd false))], .sl false sh174 ((x.fWhere).map (TBound.dd false)), .lf (.bool (x.fDefault)), .lf (.bool (x.fHasAssoc)), .st [.lf (.int .i64 (x.fAssoc.fKind)), .lf (.string (x.fAssoc.fName)), .sl false sh65 ((x.fAssoc.fArgs).map (TType.dd false))], .sl false sh120 ((x.fMethods).map (TMethod.dd false))])] (w.sz ≤ 134217728) (.d (.lf (.int .i64 (ckInst w (vis w i) x)))) := by
 refine Xi Tryz.func42 80 [.tmp 6] [] [] etas (And.intro @ckInst_eq <| And.intro @meF.eq_1 <| And.intro @fc_at <| And.intro @fc_end <| And.intro @or0.eq_1 <| And.intro @fc_or <| And.intro @or0_0 <| And.intro @or0_z <| @or0_ne) ?_; intro hp h M G H E
 have htz := trR_sz w x.fTrait
 repeat' (first | (refine IN.mk ?_; intros) | (refine iTw ?_; refine T2 ?_ ?_ <;> intro hb H <;> try exact hb.elim) | (refine LF.mk ?_; exact LX) | refine BO.mk ?_ ?_ | (apply iPJ; exact NPJ) | apply PXs.of | refine GN ?_ | (refine XL [1, 3, 5] [3, 5] (fun k0 s0 => [(10, .d (.lf (.int .i64 (k0 : Int)))), (9, .d (.lf (.int .i64 (s0))))]) (fun _ _ => []) (x.fMethods.length) (fun k0 s0 => ckInst w (vis w i) x = or0 s0 (fc (meF w (vis w i)) (x.fMethods.drop k0))) (fun S => avI (S.tm 9)) ?_ (i0 := by clear E; first | (simp [ckInst_eq, or0_eq0, *] at *; done) | (simp_all [ckInst_eq, or0_eq0, or0_0, or0_z]; done) | grind [ckInst_eq, or0]); intro k0 hk0 s0 hi0) | fail)
theorem ckFn_or (w : TProgram) (V : List Nat) (f : TFunction) : ckFn w V f = or0 (or0 (fc (ckB w V) f.fWhere) (fc (paF w V) f.fParams)) (or0 (ckT w V f.fResult) (ckE w V f.fBody)) := by rw [ckFn_eq, or0_as]
instance sFnC (w : TProgram) (i : Int) (f : TFunction) : Ct cx 43 [.d (.st [.sl false sh49 ((w.fPackages).map (TPackage.dd false))]), .d (.lf (.int .i64 (i))), .d (.st [.lf (.string (f.fName)), .sl false .one ((f.fVars).map (dS)), .sl false sh174 ((f.fWhere).map (TBound.dd false)), .sl false sh153 ((f.fParams).map (TParam.dd false)), .st [.lf (.int .i64 (f.fResult.fKind)), .lf (.string (f.fResult.fName)), .sl false sh65 ((f.fResult.fArgs).map (TType.dd false))], .st [.lf (.int .i64 (f.fBody.fKind)), .lf (.string (f.fBody.fTrait)), .lf (.string (f.fBody.fName)), .lf (.int .i64 (f.fBody.fN)), .st [.lf (.int .i64 (f.fBody.fType.fKind)), .lf (.string (f.fBody.fType.fName)), .sl false sh65 ((f.fBody.fType.fArgs).map (TType.dd false))], .sl false sh75 ((f.fBody.fArgs).map (TExpr.dd false)), .sl false sh172 ((f.fBody.fArms).map (TArm.dd false))]])] (w.sz ≤ 134217728) (.d (.lf (.int .i64 (ckFn w (vis w i) f)))) := by
 refine Xi Tryz.func43 47 [.tmp 6] [] [] etas (And.intro @ckFn_eq <| And.intro @paF.eq_1 <| And.intro @fc_at <| And.intro @fc_end <| And.intro @or0.eq_1 <| And.intro @fc_or <| And.intro @or0_0 <| And.intro @or0_z <| And.intro @or0_ne <| @ckFn_or) ?_; intro hp h M G H E
 repeat' (first | (refine IN.mk ?_; intros) | (refine iTw ?_; refine T2 ?_ ?_ <;> intro hb H <;> try exact hb.elim) | (refine LF.mk ?_; exact LX) | refine BO.mk ?_ ?_ | (apply iPJ; exact NPJ) | apply PXs.of | refine GN ?_ | (refine XL [1, 3, 5] [3, 5] (fun k0 s0 => [(8, .d (.lf (.int .i64 (k0 : Int)))), (7, .d (.lf (.int .i64 (s0))))]) (fun _ _ => []) (f.fParams.length) (fun k0 s0 => or0 (fc (ckB w (vis w i)) f.fWhere) (fc (paF w (vis w i)) f.fParams) = or0 s0 (fc (paF w (vis w i)) (f.fParams.drop k0))) (fun S => avI (S.tm 7)) ?_; intro k0 hk0 s0 hi0) | fail)
attribute [simp] r0_nx r1_nx r2_nx r3_nx r0_zero feK_zero feK_nx feT feD feI feF kTr kDa kIn kFn
instance sAdd (o : List TFormError) (c : Int) (i : Nat) (k s : ByteArray) : Ct cx 39 [.d (.sl true sh40 ((o).map (TFormError.dd true))), .d (.lf (.int .i64 (c))), .d (.lf (.int .i64 ((i : Nat) : Int))), .d (.lf (.string (k))), .d (.lf (.string (s)))] (o.length ≤ 134217728) (.d (.sl true sh40 (((o ++ feA c i k s)).map (TFormError.dd true)))) := by
 refine Xi Tryz.func39 22 [.tmp 10] [13, 14] [] etas (@feA.eq_1) ?_; intro hp h M G H E
 repeat' (first | (refine IN.mk ?_; intros) | (refine iTw ?_; refine T2 ?_ ?_ <;> intro hb H <;> try exact hb.elim) | (refine LF.mk ?_; exact LX) | refine GN ?_)
instance sPkgE (w : TProgram) (i : Nat) : Ct cx 18 [.d (.st [.sl false sh49 ((w.fPackages).map (TPackage.dd false))]), .d (.lf (.int .i64 ((i : Nat) : Int)))] (w.sz ≤ 134217728 ∧ i < w.fPackages.length) (.d (.sl true sh40 (((pkE w i)).map (TFormError.dd true)))) := by
 refine Xi Tryz.func18 114 [.tmp 4] [16, 24, 48, 72, 96, 113] [24, 48, 72, 96] etas (And.intro @feP.eq_1 <| And.intro @r0_zero <| @r3_end) ?_; intro hp h M G H E
 have hi := hp.2
 have hpe := pkE_at hi
 obtain ⟨p, hpd⟩ : ∃ p, p = w.fPackages[i] := ⟨_, rfl⟩
 have hps := szL_le TPackage.sz (List.getElem_mem hi); rw [← hpd] at hps hpe; have hwz := w.sz_eq; unfold szs at hwz; have hpz := p.sz_eq; unfold szs at hpz
 replace H := And.intro hpd.symm H; clear hpd
 repeat' (first | (refine IN.mk ?_; intros) | (refine iTw ?_; refine T2 ?_ ?_ <;> intro hb H <;> try exact hb.elim) | (refine LF.mk ?_; exact LX) | refine GN ?_ | (refine XL [1, 2, 6] [2, 6] (fun k0 _ => [(7, .d (.lf (.int .i64 (k0 : Int)))), (5, .d (.sl true sh40 (((r0 w i p k0)).map (TFormError.dd true))))]) (fun _ _ => []) (p.fTraits.length) (fun _ _ => True) rU ?_; intro k0 hk0 s0 hi0; have hg0 := r0_le w i p k0) | (have he0 := r0_end (w := w) (i := i) (p := p) (k := k0) (by omega); refine XL [1, 2, 6] [2, 6] (fun k1 _ => [(8, .d (.lf (.int .i64 (k1 : Int)))), (5, .d (.sl true sh40 (((r1 w i p k1)).map (TFormError.dd true))))]) (fun _ _ => []) (p.fDataTypes.length) (fun _ _ => True) rU ?_; intro k1 hk1 s1 hi1; have hg1 := r1_le w i p k1) | (have he1 := r1_end (w := w) (i := i) (p := p) (k := k1) (by omega); refine XL [1, 2, 6] [2, 6] (fun k2 _ => [(9, .d (.lf (.int .i64 (k2 : Int)))), (5, .d (.sl true sh40 (((r2 w i p k2)).map (TFormError.dd true))))]) (fun _ _ => []) (p.fInstances.length) (fun _ _ => True) rU ?_; intro k2 hk2 s2 hi2; have hg2 := r2_le w i p k2) | (have he2 := r2_end (w := w) (i := i) (p := p) (k := k2) (by omega); refine XL [1, 2, 6] [2, 6] (fun k3 _ => [(10, .d (.lf (.int .i64 (k3 : Int)))), (5, .d (.sl true sh40 (((r3 w i p k3)).map (TFormError.dd true))))]) (fun _ _ => []) (p.fFunctions.length) (fun _ _ => True) rU ?_; intro k3 hk3 s3 hi3; have hg3 := r3_le w i p k3) | fail)
instance gIn_i (x lo hi : Int) : Ct cx 38 [.d (.lf (.int .i64 (x))), .d (.lf (.int .i64 (lo))), .d (.lf (.int .i64 (hi)))] (True) (.d (.lf (.bool (within x lo hi)))) := ⟨fk1 Tryz.func38, fun hp h => by have q := l1In_d x lo hi h; first | exact q | simpa using q⟩
instance gRes_i (s : ByteArray) : Ct cx 158 [.d (.lf (.string (s)))] (True) (.d (.lf (.bool (hasS rsv s)))) := ⟨fk1 Tryz.func158, fun hp h => by have q := sReserved_d s h; first | exact q | simpa using q⟩
instance gResi_i (s : ByteArray) : Ct cx 176 [.d (.lf (.string (s)))] (True) (.d (.lf (.bool (hasS rsv s)))) := ⟨fk1 Tryz.func176, fun hp h => by have q := iReserved_d s h; first | exact q | simpa using q⟩
instance gLow_i (n : Int) : Ct cx 174 [.d (.lf (.int .u8 (n)))] (True) (.d (.lf (.bool (low n)))) := ⟨fk1 Tryz.func174, fun hp h => by have q := isLower_d n h; first | exact q | simpa using q⟩
instance gDig_i (n : Int) : Ct cx 175 [.d (.lf (.int .u8 (n)))] (True) (.d (.lf (.bool (dig n)))) := ⟨fk1 Tryz.func175, fun hp h => by have q := isDigit_d n h; first | exact q | simpa using q⟩
instance gHas (l : List ByteArray) (s : ByteArray) : Ct cx 92 [.d (.sl false .one ((l).map (dS))), .d (.lf (.string (s)))] (True) (.d (.lf (.bool (hasS l s)))) := by
 refine Xi Tryz.func92 18 [.tmp 4] [] [] etas (And.intro @hasS.eq_1 <| And.intro @any_at <| @any_end) ?_; intro hp h M G H E
 repeat' (first | (refine IN.mk ?_; intros) | (refine iTw ?_; refine T2 ?_ ?_ <;> intro hb H <;> try exact hb.elim) | (refine LF.mk ?_; exact LX) | refine GN ?_ | (refine XC [0, 1] [] 5 (l.length) (fun k0 => hasS l s = (l.drop k0).any fun x => decide (x = s)) ?_; intro k0 hk0 hi0) | fail)
instance gName (s : ByteArray) : Ct cx 90 [.d (.lf (.string (s)))] (True) (.d (.lf (.bool (isNm s)))) := by
 refine Xi Tryz.func90 47 [.tmp 2] [] [] etas (And.intro @isNm.eq_1 <| And.intro @allB.eq_1 <| And.intro @nameAt.eq_1 <| And.intro @low.eq_1 <| And.intro @dig.eq_1 <| And.intro @all_at <| @all_end) ?_; intro hp h M G H E
 repeat' (first | (refine IN.mk ?_; intros) | (refine iTw ?_; refine T2 ?_ ?_ <;> intro hb H <;> try exact hb.elim) | (refine LF.mk ?_; exact LX) | refine BO.mk ?_ ?_ | (apply iPJ; exact NPJ) | apply PXs.of | refine GN ?_ | (refine XC [0] [] 3 (s.size) (fun k0 => isNm s = ((List.range s.size).drop k0).all (nameAt s)) ?_; intro k0 hk0 hi0) | fail)
instance g3Names (l : List ByteArray) : Ct cx 159 [.d (.sl false .one ((l).map (dS)))] (True) (.d (.lf (.bool (nms l)))) := by
 refine Xi Tryz.func159 16 [.tmp 2] [] [] etas (And.intro @nms.eq_1 <| And.intro @any_at <| @any_end) ?_; intro hp h M G H E
 repeat' (first | (refine IN.mk ?_; intros) | (refine iTw ?_; refine T2 ?_ ?_ <;> intro hb H <;> try exact hb.elim) | (refine LF.mk ?_; exact LX) | refine GN ?_ | (refine XC [0] [] 3 (l.length) (fun k0 => nms l = !((l.drop k0).any fun s => !isNm s)) ?_; intro k0 hk0 hi0) | fail)
end Go.Proofs.YtdooklofebdknaaGreat
